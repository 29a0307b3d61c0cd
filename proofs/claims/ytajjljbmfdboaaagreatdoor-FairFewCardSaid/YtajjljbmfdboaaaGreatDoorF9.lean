/- A part of the proof. -/
import Derived.Test.YtajjljbmfdboaaaGreatDoorF8
import Derived.Test.YtajjljbmfdboaaaGreatDoorF5
section
namespace Go.Ab
noncomputable section
variable {P:Program} {K:FuncId→List Value→Option hJ}
def hA:Unit:=Function.const _ () @Cl
def hB:Unit:=Function.const _ () hA
def hC:Unit:=Function.const _ () hB
def hD:Unit:=Function.const _ () hC
def hE:Unit:=Function.const _ () hD
def hG:Unit:=Function.const _ () hE
def hP (p:Prop):Prop:=(fun _:Unit=>p) hG
def hF:Prop:=hP False
inductive Kn where
 |un|ex|b (x:Bool)|sk|no
abbrev Ek:=List (Nat×Value×Kn)
def Ek.lk:Ek→Nat→Option (Value×Kn)
 |[],_=>none
 |(t',v,k)::a,t=>match Nat.beq t' t with
  |true=>(match k with
   |.no=>none
   |k=>some (v,k))
  |false=>Ek.lk a t
def eV (a:Ek) (env:List Value):Prop:=∀t v k,a.lk t=some (v,k)→env[t]?=some v∧(∀x,k= .b x→v= .bool x)∧(k= .sk→v=undef)
def aCz (v:Value) (k:Value→Prop):Prop:=match v with
 |.int .i64 n=>k (I n)
 |v=>hP (k v)
def tE (P:Program) (a:Ek) (x:Operand) (k:Value→Prop):Prop:=match x with
 |.tmp t=>(match a.lk t with
  |some (v,_)=>k v
  |none=>hF)
 |.const v=>(match dG v with
  |true=>aCz v k
  |false=>k top)
 |.global g=>(match Nat.blt g P.globals.size with
  |true=>k (.pointer (some ⟨g,0,none⟩))
  |false=>k top)
 |.func f=>k (.func (.func f) #[] #[])
theorem eR {a:Ek} {env:List Value} (ha:eV a env) {x:Operand} {k:Value→Prop} (h:tE P a x k):k (cT P env x):=by
 unfold tE at h
 split at h
 ·split at h
  ·rename_i hl
   have:=(ha _ _ _ hl).1
   simpa only[cT,List.getD_eq_getElem?_getD,this,Option.getD_some] using h
  ·cases h
 ·split at h
  ·rename_i hp
   simp only[cT,hp,if_true]
   unfold aCz at h
   split at h<;>exact h
  ·rename_i hp
   simpa only[cT,hp,Bool.false_eq_true,if_false] using h
 ·split at h
  ·rename_i g _ hg
   have:g<P.globals.size:=Nat.le_of_ble_eq_true hg
   simpa only[cT,this,if_true] using h
  ·rename_i g _ hg
   have:¬g<P.globals.size:=fun hl=>by rw[show Nat.blt g P.globals.size=true from Nat.ble_eq_true_of_le hl] at hg;cases hg
   simpa only[cT,this,if_false] using h
 ·exact h
def xq (P:Program) (a:Ek) (x:Option Operand) (k:Option Value→Prop):Prop:=match x with
 |none=>k none
 |some x=>tE P a x fun v=>k (some v)
theorem Vg {a:Ek} {env:List Value} (ha:eV a env) {x:Option Operand} {k:Option Value→Prop} (h:xq P a x k):k (x.map (cT P env)):=by
 cases x with
 |none=>exact h
 |some x=>exact eR ha h
def Tt (P:Program) (a:Ek):List Operand→(List Value→Prop)→Prop
 |[],k=>k []
 |x::l,k=>tE P a x fun v=>Tt P a l fun vs=>k (v::vs)
theorem A0 {a:Ek} {env:List Value} (ha:eV a env):∀{l:List Operand} {k:List Value→Prop},Tt P a l k→k (l.map (cT P env))
 |[],_,h=>h
 |_::l,k,h=>by
  have h1:=eR ha h
  have h2:=A0 ha (l:=l) h1
  exact h2
def yn {α:Type}:List α→(List α→Prop)→Prop
 |[],k=>hP (k [])
 |v::l,k=>yn l fun l=>k (v::l)
theorem H4 {α:Type}:∀{l:List α} {k:List α→Prop},yn l k→k l
 |[],_,h=>h
 |_::l,_k,h=>H4 (l:=l) h
def Py (P:Program) (t:TypeId) (k:Nat→Prop):Prop:=match P.info? t with
 |some ⟨_,_,n,_,_,_,_,_,_,_⟩=>k n
 |none=>hF
theorem qB {t:TypeId} {k:Nat→Prop} (h:Py P t k):(P.info? t).isSome=true∧k (P.cellsOf t):=by
 unfold Py at h
 split at h
 ·rename_i he
  exact⟨by rw[he];rfl,by unfold Program.cellsOf;rw[he];exact h⟩
 ·cases h
def Hz (P:Program) (a:Ek) (place:Nat→(Nat→Nat→Prop)→Prop):List (Nat×Operand)→(List (Nat×Nat×Value)→Prop)→Prop
 |[],k=>k []
 |(i,x)::rest,k=>place i fun off size=>tE P a x fun v=>Hz P a place rest fun l=>k ((off,size,v)::l)
theorem B5 {a:Ek} {env:List Value} (ha:eV a env) {place:Nat→(Nat→Nat→Prop)→Prop} {pl:Nat→Option (Nat×Nat)} (hp:∀i k,place i k→∃o s,pl i=some (o,s)∧k o s):
  ∀{l:List (Nat×Operand)} {k:List (Nat×Nat×Value)→Prop},Hz P a place l k→∃r,vR pl (cT P env) l=some r∧k r
 |[],_,h=>⟨_,rfl,h⟩
 |(i,x)::rest,_,h=>by
  obtain⟨o,s,h1,h2⟩:=hp _ _ h
  obtain⟨r,h3,h4⟩:=B5 ha hp (eR ha h2)
  exact⟨_,by simp only[vR,h1,h3],h4⟩
def plS (P:Program) (fs:Array Field) (i:Nat) (k:Nat→Nat→Prop):Prop:=match fs[i]? with
 |some ⟨_,t,off,_,_,_,_⟩=>Py P t fun n=>k off n
 |none=>hF
theorem aCk {fs:Array Field} (i:Nat) (k:Nat→Nat→Prop) (h:plS P fs i k):∃o s,((fs[i]?).map fun f=>(f.offset,P.cellsOf f.type))=some (o,s)∧k o s:=by
 unfold plS at h
 split at h
 ·rename_i he
  exact⟨_,_,by rw[he];rfl,(qB h).2⟩
 ·cases h
def plA (n:Nat) (i:Nat) (k:Nat→Nat→Prop):Prop:=hP (k (i*n) n)
def wZ (P:Program) (t:TypeId) (k:List Value→Prop):Prop:=match zeroOf P t with
 |some z=>yn z k
 |none=>hF
theorem dk {t:TypeId} {k:List Value→Prop} (h:wZ P t k):∃z,zeroOf P t=some z∧k z:=by
 unfold wZ at h
 split at h
 ·exact⟨_,by assumption,H4 h⟩
 ·cases h
def aEn (l:List Nat):Nat→List Nat→List Nat
 |0,acc=>acc
 |n+1,acc=>aEn l n (l++acc)
def kF (P:Program):Nat→TypeId→Option (List Nat)
 |0,_=>none
 |d+1,t=>match P.underlying t with
  |some .bool=>some [1]
  |some (.int _)=>some [0]
  |some .string=>some [2]
  |some (.array n e)=>(match kF P d e with
   |some l=>some (aEn l n [])
   |none=>none)
  |some (.struct fs)=>fs.toList.foldr (fun f r=>match kF P d f.type,r with
   |some a,some b=>some (a++b)
   |_,_=>none) (some [])
  |_=>none
def kEq:Option (List Nat)→List Nat→Bool
 |some l,m=>l==m
 |none,_=>false
theorem yp {o:Option (List Nat)} {l:List Nat} (h:kEq o l=true):o=some l:=by
 unfold kEq at h
 grind
def wB (P:Program) (op:BinOp) (t:TypeId) (x y:Operand) (a b:Value) (q:Value→Prop):Prop:=
 match P.underlying t with
 |some (.int _)=>bA (uK op a b) q
 |some .string=>bA (Y9 op a b) q
 |some .bool=>bA (dw op a b) q
 |some (.pointer _)=>bA (Tv op a b) q
 |some (.slice _)=>bA (Sl op a b) q
 |some (.func _ _ _)=>bA (dj op a b) q
 |some (.interface _)=>(match isConst x||isConst y with
  |true=>bA (Ty true op a b) q
  |false=>bA (Ty false op a b) q)
 |some (.struct _)|some (.array _ _)=>(match kF P 20 t with
  |some ks=>yn ks fun ks=>U9 (kEq (F9 P t) ks) ks op a b q
  |none=>hF)
 |_=>hF
theorem aFg {op:BinOp} {t:TypeId} {x y:Operand} {a b:Value} {q:Value→Prop} (h:wB P op t x y a b q):Qx P op t x y a b q bA:=by
 unfold wB at h
 unfold Qx
 split at h
 case h_7=>
  grind
 case h_8=>
  rename_i he;rw[he]
  split at h
  ·obtain⟨hk,h⟩:=H4 h
   simp only[yp hk];exact h
  ·cases h
 case h_9=>
  rename_i he;rw[he]
  split at h
  ·obtain⟨hk,h⟩:=H4 h
   simp only[yp hk];exact h
  ·cases h
 all_goals first|(rename_i he;rw[he];exact h)|cases h
def wL (P:Program) (a:Ek) (h:AH) (q:Value→Prop):Op→Prop
 |.move x=>tE P a x q
 |.assign x=>tE P a x q
 |.pick c x y=>tE P a c fun c=>tE P a x fun x=>tE P a y fun y=>bA (vW c x y) q
 |.build t parts=>wZ P t fun z=>(match P.underlying t with
  |some (.struct fs)=>(match fs.toList.all (fun f=>(P.info? f.type).isSome) with
   |true=>Hz P a (plS P fs) parts.toList fun l=>bA (nI z l) fun c=>q (.agg ⟨c⟩)
   |false=>hF)
  |some (.array _ e)=>Py P e fun n=>Hz P a (plA n) parts.toList fun l=>bA (nI z l) fun c=>q (.agg ⟨c⟩)
  |_=>hF)
 |.load t x=>tE P a x fun x=>(match iG P t with
  |some true=>Py P t fun n=>bA (uC h n x) q
  |some false=>bA (pN h x) q
  |none=>hF)
 |.nilCheck x=>tE P a x fun x=>bA (mQ x) q
 |.binOp op t x y _=>tE P a x fun u=>tE P a y fun v=>wB P op t x y u v q
 |.unOp op _ x=>tE P a x fun x=>bA (Yi op x) q
 |.convert s d x=>tE P a x fun x=>(match P.underlying s with
  |some .string=>(match P.underlying d with
   |some (.int k)=>bA (qE k x) q
   |some .string=>bA (uG x) q
   |_=>hF)
  |some (.slice e)=>(match P.underlying d with
   |some .string=>(match P.underlying e with
    |some (.int .u8)=>bA (strOf h x) q
    |_=>hF)
   |_=>hF)
  |some _=>(match P.underlying d with
   |some (.int k)=>bA (qE k x) q
   |_=>hF)
  |none=>hF)
 |.makeInterface t x=>tE P a x fun x=>(match P.underlying t with
  |some (.interface _)=>hF
  |some _=>q (.iface t x)
  |none=>hF)
 |.makeFunc fn first captured=>(match fn with
  |.func f=>Tt P a first.toList fun x=>Tt P a captured.toList fun y=>q (.func (.func f) ⟨x⟩ ⟨y⟩)
  |_=>hF)
 |.slice t x lo hi mx=>tE P a x fun x=>xq P a lo fun lo=>xq P a hi fun hi=>xq P a mx fun mx=>(match P.underlying t with
  |some (.slice e)=>Py P e fun n=>bA (wY n h x lo hi mx) q
  |some (.array n e)=>Py P e fun m=>bA (ft n m x lo hi mx) q
  |some .string=>(match mx with
   |none=>bA (Zd x lo hi) q
   |some _=>hF)
  |_=>hF)
 |.fieldAddr s x f=>tE P a x fun x=>(match P.underlying s with
  |some (.struct fs)=>(match fs[f]? with
   |some ⟨_,t,off,_,_,_,_⟩=>Py P t fun n=>(match Nat.beq n 0 with
    |true=>hF
    |false=>bA (gZ off x) q)
   |none=>hF)
  |_=>hF)
 |.field t x f=>tE P a x fun x=>(match P.underlying t with
  |some (.struct fs)=>(match fs[f]? with
   |some ⟨_,t,off,_,_,_,_⟩=>(match iG P t with
    |some true=>Py P t fun n=>bA (qX off n x) q
    |some false=>bA (sP off x) q
    |none=>hF)
   |none=>hF)
  |_=>hF)
 |.indexAddr t x i=>tE P a x fun x=>tE P a i fun i=>(match P.underlying t with
  |some (.array n e)=>Py P e fun m=>bA (pF n m x i) q
  |some (.slice e)=>Py P e fun m=>bA (lJ m x i) q
  |_=>hF)
 |.index t x i=>tE P a x fun x=>tE P a i fun i=>(match P.underlying t with
  |some (.array n e)=>Py P e fun m=>(match iG P e with
   |some true=>bA (Wx n m x i) q
   |some false=>bA (P0 n m x i) q
   |none=>hF)
  |some .string=>bA (en x i) q
  |_=>hF)
 |.extract t i=>tE P a t fun t=>bA (rE i t) q
 |.lookup t x ix ok=>tE P a x fun x=>tE P a ix fun ix=>(match Ee P t with
  |some e=>(match zeroV P e with
   |some z=>bA (lkV z h x ix ok) q
   |none=>hF)
  |none=>hF)
 |_=>hF
theorem aE6 {a:Ek} {env:List Value} (ha:eV a env) {h:AH} {q:Value→Prop} {op:Op} (hw:wL P a h q op):iO P (cT P env) h q op:=by
 unfold wL at hw
 split at hw
 case h_1=>exact eR ha hw
 case h_2=>exact eR ha hw
 case h_3=>exact eR ha (eR ha (eR ha hw))
 case h_4=>
  obtain⟨z,hz,hw⟩:=dk hw
  unfold iO
  simp only[hz]
  split at hw
  ·rename_i hu;simp only[hu]
   split at hw
   ·rename_i hall;rw[Array.all_toList] at hall;simp only[hall,if_true]
    obtain⟨r,h1,h2⟩:=B5 ha aCk hw
    grind
   ·cases hw
  ·rename_i e hu;simp only[hu]
   obtain⟨hi,hw⟩:=qB hw
   simp only[hi,if_true]
   obtain⟨r,h1,h2⟩:=B5 (pl:=fun i=>some (i*P.cellsOf e,P.cellsOf e)) ha (fun i k hk=>⟨_,_,rfl,hk⟩) hw
   grind
  ·cases hw
 case h_5=>
  have hw:=eR ha hw
  unfold iO
  split at hw
  ·rename_i hu;simp only[hu];exact(qB hw).2
  ·grind
  ·cases hw
 case h_6=>exact eR ha hw
 case h_7=>exact aFg (eR ha (eR ha hw))
 case h_8=>exact eR ha hw
 case h_9=>
  have hw:=eR ha hw
  unfold iO
  split at hw
  ·rename_i hs;simp only[hs]
   split at hw<;>first|(rename_i hd;simp only[hd];exact hw)|cases hw
  ·rename_i hs;simp only[hs]
   split at hw
   ·rename_i hd;simp only[hd]
    split at hw<;>first|(rename_i hd;simp only[hd];exact hw)|cases hw
   ·cases hw
  ·rename_i h1 h2 hs;simp only[hs]
   split at hw<;>first|(rename_i hd;simp only[hd];exact hw)|cases hw
  ·cases hw
 case h_10=>
  have hw:=eR ha hw
  unfold iO
  split at hw
  ·cases hw
  ·grind
  ·cases hw
 case h_11=>
  unfold iO
  split at hw
  ·have hw:=A0 ha (A0 ha hw)
   simpa only[List.map_toArray,←Array.toList_map] using hw
  ·cases hw
 case h_12=>
  have hw:=Vg ha (Vg ha (Vg ha (eR ha hw)))
  unfold iO
  split at hw
  ·rename_i hs;simp only[hs];obtain⟨h1,h2⟩:=qB hw;grind
  ·rename_i hs;simp only[hs];obtain⟨h1,h2⟩:=qB hw;grind
  ·rename_i hs;simp only[hs]
   split
   ·exact hw
   ·exact hw.elim
  ·cases hw
 case h_13=>
  have hw:=eR ha hw
  unfold iO
  split at hw
  ·rename_i hs;simp only[hs]
   split at hw
   ·rename_i hf;simp only[hf]
    obtain⟨_,hw⟩:=qB hw
    split at hw
    ·cases hw
    ·rename_i hn;rw[if_neg (fun e=>by rw[e] at hn;cases hn)];exact hw
   ·cases hw
  ·cases hw
 case h_14=>
  have hw:=eR ha hw
  unfold iO
  split at hw
  ·rename_i hs;simp only[hs]
   split at hw
   ·rename_i hf;simp only[hf]
    split at hw
    ·rename_i hg;simp only[hg];exact(qB hw).2
    ·grind
    ·cases hw
   ·cases hw
  ·cases hw
 case h_15=>
  have hw:=eR ha (eR ha hw)
  unfold iO
  split at hw
  ·rename_i hs;simp only[hs];obtain⟨h1,h2⟩:=qB hw;grind
  ·rename_i hs;simp only[hs];obtain⟨h1,h2⟩:=qB hw;grind
  ·cases hw
 case h_16=>
  have hw:=eR ha (eR ha hw)
  unfold iO
  split at hw
  ·rename_i hs;simp only[hs];obtain⟨h1,hw⟩:=qB hw;simp only[h1,if_true]
   split at hw
   ·grind
   ·grind
   ·cases hw
  ·grind
  ·cases hw
 case h_17=>exact eR ha hw
 case h_18=>
  have hw:=eR ha (eR ha hw)
  unfold iO
  split at hw
  ·rename_i hs;simp only[hs]
   split at hw
   ·grind
   ·cases hw
  ·cases hw
 case h_19=>cases hw
end
end Go.Ab
end
section
namespace Go.Ab
noncomputable section
variable {P:Program} {K:FuncId→List Value→Option hJ}
def isI (v:Value) (p:Prop):Prop:=∃k n,v= .int k n∧p
theorem aE8 {n:Int} {p:Prop} (hp:p):isI (I n) p:=⟨_,n,rfl,hp⟩
def lits:List Nat:=[0,1,2,3,4,5,6,7,8,9,10,11,12,13,14,15,16,17,18,19,20,21,22,23,24,25,26,27,28,29,30,31,32,33,34,35,36,37,38,39,40,41,42,43,44,45,46,47,48,49,50,51,52,53,54,55,56,57,58,59,60,61,62,63,64,65,66,67,68,69,70,71,72,73,74,75,76,77,78,79,80,81,82,83,84,85,86,87,88,89,90,91,92,93,94,95,96,97,98,99]
def nK (n:Nat) (k:Nat→Prop):Prop:=match lits[n]? with
 |some m=>(match Nat.beq m n with
  |true=>k m
  |false=>hF)
 |none=>k n
theorem q7 {n:Nat} {k:Nat→Prop} (h:nK n k):k n:=by
 unfold nK at h
 split at h
 ·split at h
  ·simp_all
  ·cases h
 ·exact h
def bzW (P:Program) (t:TypeId) (k:Nat→Prop):Prop:=match P.info? t with
 |some ⟨_,_,_,n,_,_,_,_,_,_⟩=>k n
 |none=>hF
theorem yr {t:TypeId} {k:Nat→Prop} (h:bzW P t k):k (P.bytesOf t):=by
 unfold bzW at h
 split at h
 ·rename_i he
  unfold Program.bytesOf;rw[he];exact h
 ·cases h
def wBI (P:Program) (h:AH) (q:Value→AH→Prop) (ts:Array TypeId):Builtin→List Value→Prop
 |.len,[x]=>match(ts[0]?).bind P.underlying with
  |some .string=>bA (B8 x) fun v=>q v h
  |some (.slice _)=>bA (lA x) fun v=>q v h
  |some (.array n _)=>q (I n) h
  |some (.pointer e)=>(match P.underlying e with
   |some (.array n _)=>q (I n) h
   |_=>hF)
  |some (.map _ _)=>bA (Zp h x) fun v=>q v h
  |_=>hF
 |.append,[s,x]=>match(ts[0]?).bind P.underlying with
  |some (.slice e)=>(match F6 P ts with
   |true=>wZ P e fun _=>Py P e fun n=>bzW P e fun m=>bA (jB n m e h s x) fun r=>(match r with|(v,h')=>q v h')
   |false=>hF)
  |_=>hF
 |.copy,[d,x]=>match(ts[0]?).bind P.underlying with
  |some (.slice e)=>Py P e fun n=>bA (copyV n h d x) fun r=>(match r with|(v,h')=>q v h')
  |_=>hF
 |.clear,[x]=>match(ts[0]?).bind P.underlying with
  |some (.slice e)=>wZ P e fun z=>bA (jC z h x) fun r=>(match r with|(v,h')=>q v h')
  |_=>hF
 |.min,[x,y]=>bA (Be x y) fun v=>q v h
 |.max,[x,y]=>bA (Dk x y) fun v=>q v h
 |.delete,[m,k]=>(match ts[0]? with
  |some t=>(match Ee P t with
   |some _=>bA (Kz h m k) fun h'=>q (.tuple #[]) h'
   |none=>hF)
  |none=>hF)
 |_,_=>hF
theorem yy {h:AH} {q:Value→AH→Prop} {ts:Array TypeId} {b:Builtin} {l:List Value} (hw:wBI P h q ts b l):tG P h q ts b l:=by
 unfold wBI at hw
 unfold tG
 split at hw
 ·split at hw<;>(rename_i hu;simp only[hu];exact hw)
 ·split at hw
  ·rename_i hu;simp only[hu]
   split at hw
   ·rename_i hs
    obtain⟨z,hz,hw⟩:=dk hw
    obtain⟨_,hw⟩:=qB hw
    rw[if_pos ⟨hs,by rw[hz];rfl⟩]
    exact yr hw
   ·cases hw
  ·cases hw
 ·split at hw
  ·rename_i hu;simp only[hu]
   obtain⟨h1,hw⟩:=qB hw
   grind
  ·cases hw
 ·split at hw
  ·rename_i hu;simp only[hu]
   obtain⟨z,hz,hw⟩:=dk hw
   grind
  ·cases hw
 ·exact hw
 ·exact hw
 ·split at hw
  ·rename_i hu;simp only[hu]
   split at hw
   ·grind
   ·cases hw
  ·cases hw
 ·cases hw
def wH (P:Program) (K:FuncId→List Value→Option hJ) (a:Ek) (h:AH) (q:Value→AH→Prop):Op→Prop
 |.store t p x=>Py P t fun n=>tE P a p fun p=>tE P a x fun x=>bA (uU h n p x) fun h'=>q undef h'
 |.call c=>(match c.callee with
  |.builtin b=>Tt P a c.args.toList fun l=>wBI P h q c.argTypes b l
  |.value (.func g)=>(match fN P g with
   |true=>Tt P a c.args.toList fun l=>Cl P K g l h q
   |false=>hF)
  |.value f=>tE P a f fun f=>Tt P a c.args.toList fun l=>zV P K f l h q
  |.invoke _ _=>hF)
 |.mapUpdate t m k x=>(match Ee P t with
  |some _=>tE P a m fun m=>tE P a k fun k=>tE P a x fun x=>bA (Lk h m k x) fun h'=>q undef h'
  |none=>hF)
 |_=>hF
theorem zg {a:Ek} {env:List Value} (ha:eV a env) {h:AH} {q:Value→AH→Prop} {op:Op} (hw:wH P K a h q op):yT P K (cT P env) h q op:=by
 unfold wH at hw
 unfold yT
 split at hw
 ·obtain⟨h1,hw⟩:=qB hw
  simp only[h1,if_true]
  exact eR ha (eR ha hw)
 ·split at hw
  ·rename_i hc;simp only[hc]
   exact yy (A0 ha hw)
  ·rename_i hc;simp only[hc]
   split at hw
   ·rename_i hg;simp only[hg,if_true];exact A0 ha hw
   ·cases hw
  ·rename_i hc;simp only[hc]
   exact A0 ha (eR ha hw)
  ·cases hw
 ·split at hw
  ·rename_i hk;simp only[hk]
   exact eR ha (eR ha (eR ha hw))
  ·cases hw
 ·cases hw
def wA (P:Program) (a:Ek) (mk:lG→(Nat→AH→Prop)→Prop) (Iw:Nat→TypeId→List Value→Nat→Nat→(Value→AH→Prop)→Prop) (q:Value→AH→Prop):Op→Prop
 |.alloc e=>wZ P e fun z=>mk (.cells z e (0,0) true) fun p h'=>q (pt p 0 0) h'
 |.box e x=>tE P a x fun x=>bA (lI e x) fun b=>mk b fun p h'=>q (pt p 0 0) h'
 |.buildSlice t len parts=>match P.underlying t with
  |some (.slice e)=>wZ P e fun z=>Py P e fun n=>(match Nat.ble (len*n) 16777216 with
   |true=>Hz P a (plA n) parts.toList fun ps=>yn (eB z len) fun zs=>bA (nI zs ps) fun l=>Iw n e l len len q
   |false=>hF)
  |_=>hF
 |.makeSlice t l c=>match P.underlying t with
  |some (.slice e)=>wZ P e fun z=>Py P e fun n=>bzW P e fun m=>tE P a l fun l=>tE P a c fun c=>bA (aF0 m l c) fun r=>Iw n e (eB z r.2) r.1 r.2 q
  |_=>hF
 |.makeMap _ none=>mk (.map [] 0) fun p h'=>q (fJ p) h'
 |.makeMap t (some x)=>match P.underlying t with
  |some (.map _ _)=>tE P a x fun x=>isI x (mk (.map [] 0) fun p h'=>q (fJ p) h')
  |_=>hF
 |_=>hF
where aF0:=Go.Ab.Iw
theorem aD6 {a:Ek} {env:List Value} (ha:eV a env) {mk:lG→(Nat→AH→Prop)→Prop} {Iw:Nat→TypeId→List Value→Nat→Nat→(Value→AH→Prop)→Prop}
  (hS:∀W e l n c k,Iw W e l n c k→mk (.cells l e (0,0) true) fun p h'=>k (jf n c p) h') {q:Value→AH→Prop} {op:Op} (hw:wA P a mk Iw q op):
  zN P (cT P env) (fun b f=>mk b fun i h'=>q (f i) h') op:=by
 unfold wA at hw
 unfold zN
 split at hw
 ·obtain⟨z,hz,hw⟩:=dk hw
  simp only[hz];exact hw
 ·exact eR ha hw
 ·split at hw
  ·rename_i hu;simp only[hu]
   obtain⟨z,hz,hw⟩:=dk hw
   obtain⟨_,hw⟩:=qB hw
   simp only[hz]
   split at hw
   ·rename_i hb
    rw[if_pos (Nat.le_of_ble_eq_true hb)]
    obtain⟨r,h1,hw⟩:=B5 (pl:=fun i=>some (i*P.cellsOf _,P.cellsOf _)) ha (fun i k hk=>⟨_,_,rfl,hk⟩) hw
    simp only[h1]
    exact(H4 hw).mono fun v hv=>hS _ _ _ _ _ _ hv
   ·cases hw
  ·cases hw
 ·split at hw
  ·rename_i hu;simp only[hu]
   obtain⟨z,hz,hw⟩:=dk hw
   obtain⟨_,hw⟩:=qB hw
   simp only[hz]
   exact(eR ha (eR ha (yr hw))).mono fun v hv=>hS _ _ _ _ _ _ hv
  ·cases hw
 ·exact hw
 ·split at hw
  ·rename_i hu;simp only[hu]
   obtain⟨k,n,h1,hw⟩:=eR ha hw
   grind
  ·cases hw
 ·cases hw
end
end Go.Ab
end
section
namespace Go.Ab
noncomputable section
variable {P:Program} {K:FuncId→List Value→Option hJ}
theorem eV.cons {a:Ek} {env:List Value} (ha:eV a env) {d:Nat} {v:Value} {k:Kn} (hd:d<env.length) (hb:∀x,k= .b x→v= .bool x) (hs:k= .sk→v=undef):eV ((d,v,k)::a) (env.set d v):=by
 intro t u j hl
 unfold Ek.lk at hl
 split at hl
 ·rename_i e
  have:=Nat.eq_of_beq_eq_true e
  grind
 ·rename_i e
  obtain⟨h1,h2⟩:=ha t u j hl
  refine⟨?_,h2⟩
  rw[List.getElem?_set_ne (fun e'=>by simp_all)]
  exact h1
theorem eV.aCx {a:Ek} {env:List Value} (ha:eV a env) {d:Nat} {v:Value} {k _k':Kn} (hl:a.lk d=some (v,k)) {b:Bool} (hv:v= .bool b):eV ((d,.bool b,.b b)::a) env:=by
 intro t u j h
 unfold Ek.lk at h
 split at h
 ·rename_i e
  have:=Nat.eq_of_beq_eq_true e
  subst this
  cases h
  exact⟨by rw[←hv];exact(ha _ _ _ hl).1,fun x hx=>(by cases hx;rfl),fun hx=>(by cases hx)⟩
 ·exact ha t u j h
def Oe (n:Nat) (a:Ek) (d:Option Tmp) (v:Value) (k:Kn) (q:Ek→Prop):Prop:=match d with
 |none=>q a
 |some d=>(match Nat.blt d n with
  |true=>q ((d,v,k)::a)
  |false=>hF)
theorem pT {n:Nat} {a:Ek} {env:List Value} (ha:eV a env) (hn:env.length=n) {d:Option Tmp} {v:Value} {k:Kn} {q:Ek→Prop} (hb:∀x,k= .b x→v= .bool x) (hs:k= .sk→v=undef) (hw:Oe n a d v k q):
  ∃a',eV a' (iD env d v)∧(iD env d v).length=n∧q a':=by
 unfold Oe at hw
 split at hw
 ·exact⟨a,ha,hn,hw⟩
 ·rename_i d
  split at hw
  ·rename_i hlt
   have:d<n:=Nat.le_of_ble_eq_true hlt
   exact⟨_,ha.cons (hn.symm▸this) hb hs,by simp[iD,hn],hw⟩
  ·cases hw
def wG (nS:Nat→Option Tmp) (a:Ek) (g:Option (Nat×Bool)) (p s:Ek→Prop):Prop:=match g with
 |none=>p a
 |some (j,want)=>match nS j with
  |none=>hF
  |some d=>match a.lk d with
   |some (_,.b x)=>(match x,want with
    |true,true=>p a
    |false,false=>p a
    |_,_=>s a)
   |some (_,.sk)=>s a
   |some (v,_)=>(match want with
    |true=>Br v (p ((d,.bool true,.b true)::a)) (s ((d,.bool false,.b false)::a))
    |false=>Br v (s ((d,.bool true,.b true)::a)) (p ((d,.bool false,.b false)::a)))
   |none=>hF
theorem aEh {all:Array Oper} {a:Ek} {env:List Value} (ha:eV a env) {o:Oper} {p s:Ek→Prop} (hw:wG (fun j=>(all[j]?).bind (·.dst)) a o.guard p s):
  ∃a',eV a' env∧((dU all env o=some true∧p a')∨(dU all env o=some false∧s a')):=by
 unfold wG at hw
 unfold dU
 split at hw
 ·grind
 ·rename_i j want hg
  rw[hg]
  simp only
  split at hw
  ·cases hw
  ·rename_i d hdst
   replace hdst:(all[j]?).bind (·.dst)=some d:=hdst
   rw[hdst]
   simp only[Option.bind_some]
   split at hw
   ·rename_i x hl
    obtain⟨h1,h2,_⟩:=ha _ _ _ hl
    have:=h2 x rfl;subst this
    rw[h1]
    split at hw
    ·grind
    ·grind
    ·rename_i n1 n2
     refine⟨a,ha,.inr ⟨?_,hw⟩⟩
     cases x<;>cases want<;>grind
   ·rename_i hl
    obtain⟨h1,_,h2⟩:=ha _ _ _ hl
    have:=h2 rfl;subst this
    rw[h1]
    exact⟨a,ha,.inr ⟨rfl,hw⟩⟩
   ·rename_i v k _ _ hl
    have h1:=(ha _ _ _ hl).1
    rw[h1]
    split at hw
    ·obtain⟨b,hv,ht,hf⟩:=hw
     refine⟨_,ha.aCx (_k':= .un) hl hv,?_⟩
     subst hv
     cases b with
     |true=>grind
     |false=>grind
    ·obtain⟨b,hv,ht,hf⟩:=hw
     refine⟨_,ha.aCx (_k':= .un) hl hv,?_⟩
     subst hv
     cases b with
     |true=>grind
     |false=>grind
   ·cases hw
def Ym (a:Ek) (op:Op):Option Operand:=match op with
 |.pick (.tmp c) x y=>(match a.lk c with
  |some (_,.b true)=>some x
  |some (_,.b false)=>some y
  |_=>none)
 |.move x=>some x
 |.assign x=>some x
 |_=>none
theorem Xv {a:Ek} {env:List Value} (ha:eV a env) {op:Op} {x:Operand} (h:Ym a op=some x):kindOf op= .vX∧∀hh,bM P (cT P env) hh op=some (cT P env x):=by
 unfold Ym at h
 split at h
 ·rename_i c x y
  split at h
  ·rename_i hl
   cases h
   obtain⟨h1,h2,_⟩:=ha _ _ _ hl
   exact⟨rfl,fun hh=>by simp[bM,cT,List.getD_eq_getElem?_getD,h1,h2 true rfl]⟩
  ·rename_i hl
   cases h
   obtain⟨h1,h2,_⟩:=ha _ _ _ hl
   exact⟨rfl,fun hh=>by simp[bM,cT,List.getD_eq_getElem?_getD,h1,h2 false rfl]⟩
  ·cases h
 ·cases h;exact⟨rfl,fun _=>rfl⟩
 ·cases h;exact⟨rfl,fun _=>rfl⟩
 ·cases h
def knW (a:Ek) (x:Operand):Kn:=match x with
 |.const (.bool y)=> .b y
 |.tmp t=>(match a.lk t with
  |some (_,.b y)=> .b y
  |_=> .un)
 |_=> .un
theorem kq {a:Ek} {env:List Value} (ha:eV a env) {x:Operand}:(∀y,knW a x= .b y→cT P env x= .bool y)∧knW a x≠.sk:=by
 unfold knW
 split
 ·exact⟨fun y h=>(by cases h;simp[cT,dG]),fun h=>(by cases h)⟩
 ·split
  ·rename_i hl
   obtain⟨h1,h2,_⟩:=ha _ _ _ hl
   exact⟨fun y h=>(by cases h;simp[cT,List.getD_eq_getElem?_getD,h1,h2 _ rfl]),fun h=>(by cases h)⟩
  grind
 grind
def ry (M:Nat) (op:Op) (d:Option Tmp) (q:Kn→Prop):Prop:=match op,d with
 |.assign _,_=>hP (q .un)
 |_,some d=>(match Nat.beq (Nat.land (Nat.shiftRight M d) 1) 1 with
  |true=>q .un
  |false=>q .ex)
 |_,none=>q .un
theorem Vc {M:Nat} {op:Op} {d:Option Tmp} {q:Kn→Prop} (h:ry M op d q):q .un∨q .ex:=by
 unfold ry at h
 split at h
 ·exact .inl h
 ·grind
 ·exact .inl h
def wKn (M:Nat) (op:Op) (d:Option Tmp) (a:Ek) (x:Operand) (q:Kn→Prop):Prop:=match knW a x with
 |.b y=>q (.b y)
 |_=>ry M op d q
theorem yv {M:Nat} {op:Op} {d:Option Tmp} {a:Ek} {x:Operand} {q:Kn→Prop} (h:wKn M op d a x q):(∃y,knW a x= .b y∧q (.b y))∨q .un∨q .ex:=by
 unfold wKn at h
 split at h
 ·grind
 ·exact .inr (Vc h)
def ups:Op→List Operand
 |.move x|.assign x|.load _ x|.nilCheck x|.unOp _ _ x|.convert _ _ x|.fieldAddr _ x _|.field _ x _|.box _ x=>[x]
 |.store _ x y|.binOp _ _ x y _|.indexAddr _ x y|.index _ x y=>[x,y]
 |.slice _ x lo hi mx=>x::(lo.toList++(hi.toList++mx.toList))
 |.call c=>c.args.toList
 |_=>[]
def rmK (t:Nat):Ek→(Ek→Prop)→Prop
 |[],q=>hP (q [])
 |(t',v,k)::a,q=>(match Nat.beq t' t with
  |true=>(match k with
   |.ex=>q ((t',undef,.no)::a)
   |k=>q ((t',v,k)::a))
  |false=>rmK t a fun a=>q ((t',v,k)::a))
theorem ym {t:Nat}:∀{a:Ek} {q:Ek→Prop},rmK t a q→∃a',(∀x r,Ek.lk a' x=some r→a.lk x=some r)∧q a'
 |[],_,h=>⟨_,fun _ _ h=>h,h⟩
 |(t',v,k)::a,q,h=>by
  unfold rmK at h
  split at h
  ·split at h
   ·refine⟨_,fun x r hx=>?_,h⟩
    unfold Ek.lk at hx ⊢
    grind
   grind
  ·obtain⟨a1,h1,h2⟩:=ym h
   refine⟨_,fun x r hx=>?_,h2⟩
   unfold Ek.lk at hx ⊢
   grind
def bh:List Operand→Ek→(Ek→Prop)→Prop
 |[],a,q=>hP (q a)
 |x::l,a,q=>(match x with
  |.tmp t=>rmK t a fun a=>bh l a q
  |_=>bh l a q)
theorem M9 {env:List Value}:∀{l:List Operand} {a:Ek} {q:Ek→Prop},eV a env→bh l a q→∃a',eV a' env∧q a'
 |[],a,_,ha,h=>⟨a,ha,h⟩
 |x::l,a,q,ha,h=>by
  unfold bh at h
  split at h
  ·obtain⟨a1,h1,h2⟩:=ym h
   exact M9 (l:=l) (fun t v k hl=>ha t v k (h1 _ _ hl)) h2
  ·exact M9 (l:=l) ha h
def wOp (P:Program) (K:FuncId→List Value→Option hJ) (a:Ek) (h:AH) (q:Value→AH→Prop) (op:Op):Prop:=match kindOf op with
 |.vX=>wL P a h (fun v=>q v h) op
 |.alloc=>wA P a (Dp h) (xW h) q op
 |.store=>wH P K a h q op
 |.call=>wH P K a h q op
 |.other=>hF
theorem y7 {a:Ek} {env:List Value} (ha:eV a env) {h:AH} {q:Value→AH→Prop} {op:Op} (hw:wOp P K a h q op):∃n v h',kG P (run P K n) env h op=some (v,h')∧q v h':=by
 refine Ua ?_
 unfold wOp at hw
 unfold wpOp
 split at hw<;>(rename_i hk;simp only[hk])
 ·exact aE6 ha hw
 ·exact aD6 ha (fun W e l n c k hh=>hh) hw
 ·exact zg ha hw
 ·exact zg ha hw
 ·exact hw
def zh (P:Program) (K:FuncId→List Value→Option hJ) (M n:Nat) (nS:Nat→Option Tmp) (o:Oper) (ih:Ek→AH→(Ek→AH→Prop)→Prop) (a:Ek) (h:AH) (q:Ek→AH→Prop):Prop:=match o with
 |⟨dst,op,_,_,_,guard⟩=>wG nS a guard
  (fun a=>bh (ups op) a fun a'=>(match Ym a op with
   |some x=>wKn M op dst a x fun k=>tE P a x fun v=>Oe n a' dst v k fun a=>ih a h q
   |none=>ry M op dst fun k=>wOp P K a h (fun v h'=>Oe n a' dst v k fun a=>ih a h' q) op))
  (fun a=>Oe n a dst undef .sk fun a=>ih a h q)
def s7 (P:Program) (K:FuncId→List Value→Option hJ) (M n:Nat) (nS:Nat→Option Tmp) (os:List Oper):Ek→AH→(Ek→AH→Prop)→Prop:=
 List.rec (fun a h q=>q a h) (fun o _ ih=>zh P K M n nS o ih) os
theorem aE2 {M n:Nat} {op:Op} {dst:Option Tmp} {a a':Ek} {env:List Value} {x:Operand} {q:Ek→Prop} (ha:eV a env) (ha':eV a' env) (hn:env.length=n) (hb:wKn M op dst a x fun k=>tE P a x fun v=>Oe n a' dst v k q):
  ∃a2,eV a2 (iD env dst (cT P env x))∧(iD env dst (cT P env x)).length=n∧q a2:=by
 obtain⟨k1,_⟩:=kq (P:=P) (x:=x) ha
 rcases yv hb with⟨y,hy,hb⟩|hb|hb
 ·exact pT ha' hn (fun z e=>by grind) (fun e=>by cases e) (eR ha hb)
 ·exact pT ha' hn (fun _ e=>by cases e) (fun e=>by cases e) (eR ha hb)
 ·exact pT ha' hn (fun _ e=>by cases e) (fun e=>by cases e) (eR ha hb)
theorem Uf {M n:Nat} {all:Array Oper}:∀{os:List Oper} {a:Ek} {env:List Value} {h:AH} {q:Ek→AH→Prop},eV a env→env.length=n→s7 P K M n (fun j=>(all[j]?).bind (·.dst)) os a h q→
  ∃m o h' a',run P K m (.ops all os env) h=some (o,h')∧eV a' o.env∧o.env.length=n∧q a' h'
 |[],a,env,h,q,ha,hn,hw=>⟨1,_,h,a,rfl,ha,hn,hw⟩
 |o::os,a,env,h,q,ha,hn,hw=>by
  change zh P K M n (fun j=>(all[j]?).bind (·.dst)) o (s7 P K M n (fun j=>(all[j]?).bind (·.dst)) os) a h q at hw
  unfold zh at hw
  obtain⟨a1,ha1,hb⟩:=aEh (o:=o) ha hw
  rcases hb with⟨hwant,hb⟩|⟨hwant,hb⟩
  ·obtain⟨a',ha',hb⟩:=M9 ha1 hb
   obtain⟨n1,v,h1,a2,hs,ha2,hn2,hrest⟩:∃n1 v h1 a2,kG P (run P K n1) env h o.op=some (v,h1)∧eV a2 (iD env o.dst v)∧(iD env o.dst v).length=n∧s7 P K M n (fun j=>(all[j]?).bind (·.dst)) os a2 h1 q:=by
    split at hb
    ·rename_i x hx
     obtain⟨hk,hl⟩:=Xv (P:=P) ha1 hx
     obtain⟨a2,h2,h3,h4⟩:=aE2 ha1 ha' hn hb
     exact⟨0,_,h,a2,by simp only[kG,hk,hl];rfl,h2,h3,h4⟩
    ·rcases Vc hb with hb|hb
     ·obtain⟨n1,v,h1,hs,hp⟩:=y7 ha1 hb
      obtain⟨a2,h2,h3,h4⟩:=pT ha' hn (fun _ e=>by cases e) (fun e=>by cases e) hp
      grind
     ·obtain⟨n1,v,h1,hs,hp⟩:=y7 ha1 hb
      obtain⟨a2,h2,h3,h4⟩:=pT ha' hn (fun _ e=>by cases e) (fun e=>by cases e) hp
      grind
   obtain⟨n2,out,h',a',hr,hq⟩:=Uf ha2 hn2 hrest
   refine⟨max n1 n2+1,out,h',a',?_,hq⟩
   show pY P (fun t h=>run P K (max n1 n2) t h) all (o::os) env h=_
   simp only[pY,hwant]
   rw[show(fun t h=>run P K (max n1 n2) t h)=run P K (max n1 n2) from rfl,Lw (jM (Nat.le_max_left n1 n2)) hs]
   exact jM (Nat.le_max_right n1 n2) _ _ _ hr
  ·obtain⟨a2,h2,h3,h4⟩:=pT ha1 hn (fun _ e=>by cases e) (fun _=>rfl) hb
   obtain⟨n2,out,h',a',hr,hq⟩:=Uf h2 h3 h4
   refine⟨n2+1,out,h',a',?_,hq⟩
   show pY P (fun t h=>run P K n2 t h) all (o::os) env h=_
   simp only[pY,hwant]
   exact hr
end
end Go.Ab
end
section
namespace Go.Ab
noncomputable section
variable {P:Program} {K:FuncId→List Value→Option hJ}
def wLV (P:Program) (a:Ek) (h:AH) (q:Value→Prop):Op→Prop
 |.call c=>(match c.callee with
  |.builtin b=>(match gR b with
   |true=>Tt P a c.args.toList fun l=>wBI P h (fun v _=>q v) c.argTypes b l
   |false=>hF)
  |_=>hF)
 |op=>wL P a h q op
theorem y6 {a:Ek} {env:List Value} (ha:eV a env) {h:AH} {q:Value→Prop} {op:Op} (hw:wLV P a h q op):fR op=true∧∃v,eD P (cT P env) h op=some v∧q v:=by
 unfold wLV at hw
 split at hw
 ·split at hw
  ·rename_i hc
   split at hw
   ·rename_i hl
    obtain⟨v,h',h1,h2⟩:=wI (yy (A0 ha hw))
    exact⟨by simp[fR,hc,hl],v,by simp only[eD,hc,hl,if_true,h1];rfl,h2⟩
   ·cases hw
  ·cases hw
 ·obtain⟨hk,v,h1,h2⟩:=Ad (aE6 ha hw)
  refine⟨?_,v,?_,h2⟩
  ·cases op<;>first|(simp[fR,hk];done)|(simp[kindOf] at hk)
  ·cases op<;>first|exact h1|(simp[kindOf] at hk)
structure WR where
 a:Ek
 h:AH
 v:Value
 ran:Bool
def wDO (P:Program) (K:FuncId→List Value→Option hJ) (i r:Nat) (a:Ek) (h:AH) (q:Value→AH→Prop) (op:Op):Prop:=
 match fR op with
 |true=>wLV P a h (fun v=>q v h) op
 |false=>(match kindOf op with
  |.alloc=>(match i with
   |0=>wA P a (nH h r) (nQ h r) q op
   |i=>wA P a (nH h (r+i)) (nQ h (r+i)) q op)
  |_=>wH P K a h q op)
theorem yu {all:List Oper} {r i:Nat} {a:Ek} {env:List Value} (ha:eV a env) {h:AH} {q:Value→AH→Prop} {o:Oper} (hwant:dU ⟨all⟩ env o=some true) (hw:wDO P K i r a h q o.op):
  ∃n v h',eT P (run P K n) all r i env h o=some (v,h')∧q v h':=by
 unfold wDO at hw
 unfold eT
 simp only[hwant]
 split at hw
 ·rename_i hl
  obtain⟨_,v,h1,h2⟩:=y6 ha hw
  exact⟨0,v,h,by simp[hl,h1],h2⟩
 ·rename_i hl
  split at hw
  ·rename_i hk
   have key:∀{j:Nat},wA P a (nH h j) (nQ h j) q o.op→j=r+i→∃n v h',eT P (run P K n) all r i env h o=some (v,h')∧q v h':=by
    intro j hj e
    subst e
    obtain⟨_,b,f,h1,h2⟩:=Ag (aD6 ha (fun W e l n c k hh=>hh) hj)
    exact⟨0,_,_,by simp[eT,hwant,hl,hk,h1],h2⟩
   have:=(show∃n v h',eT P (run P K n) all r i env h o=some (v,h')∧q v h' by
    split at hw
    ·exact key hw rfl
    ·exact key hw rfl)
   unfold eT at this
   simpa only[hwant] using this
  ·obtain⟨hk,n,v,h',h1,h2⟩:=sW (fun g=>rfl) (zg ha hw)
   refine⟨n,v,h',?_,h2⟩
   have:(kindOf o.op==Kind.alloc)=false:=by rcases hk with h|h<;>rw[h]<;>rfl
   simp[this,hl,h1]
def Sv:List (Nat×Nat)→Nat→Bool
 |[],_=>false
 |(a,_)::l,i=>(match Nat.beq a i with
  |true=>true
  |false=>Sv l i)
def wMd (fl:List (Nat×Nat)) (i:Nat) (a:Ek) (rs:List WR) (k:(AH→Value→Bool→(List WR→Prop)→Prop)→Prop):Prop:=match fl with
 |[]=>hP (k fun _ _ _ q=>q rs)
 |fl=>(match Sv fl i with
  |true=>k fun h v r q=>q (⟨a,h,v,r⟩::rs)
  |false=>k fun h _ _ q=>q (⟨[],h,undef,true⟩::rs))
def Rl (fl:List (Nat×Nat)):List WR→List WR→Prop
 |[],[]=>True
 |x::rs,y::gs=>(x=y∨Sv fl gs.length=false∧x.h=y.h)∧Rl fl rs gs
 |_,_=>False
theorem y8 {fl:List (Nat×Nat)} {a:Ek} {rs gs:List WR} {i:Nat} {k:(AH→Value→Bool→(List WR→Prop)→Prop)→Prop} (hi:gs.length=i) (hg:fl≠[]→Rl fl rs gs) (hw:wMd fl i a rs k):
  ∃R,k R∧∀h v r q,R h v r q→∃rs',(fl≠[]→Rl fl rs' (⟨a,h,v,r⟩::gs))∧q rs':=by
 unfold wMd at hw
 split at hw
 ·exact⟨_,hw,fun h v r q hq=>⟨rs,fun e=>absurd rfl e,hq⟩⟩
 ·split at hw
  ·exact⟨_,hw,fun h v r q hq=>⟨⟨a,h,v,r⟩::rs,fun e=>⟨.inl rfl,hg e⟩,hq⟩⟩
  ·rename_i hm
   exact⟨_,hw,fun h v r q hq=>⟨⟨[],h,undef,true⟩::rs,fun e=>⟨.inr ⟨by rw[hi];exact hm,rfl⟩,hg e⟩,hq⟩⟩
theorem sc {fl:List (Nat×Nat)}:∀{rs gs:List WR},Rl fl rs gs→rs.length=gs.length∧∀(j:Nat) (x y:WR),rs.reverse[j]?=some x→gs.reverse[j]?=some y→x=y∨Sv fl j=false∧x.h=y.h
 |[],[],_=>⟨rfl,fun j x y hx=>by simp at hx⟩
 |x::rs,y::gs,h=>by
  obtain⟨h1,h2⟩:=h
  obtain⟨h3,h4⟩:=sc h2
  refine⟨by simp[h3],fun j u w hu hw=>?_⟩
  rw[List.reverse_cons] at hu hw
  rcases Nat.lt_trichotomy j gs.length with hj|hj|hj
  ·rw[List.getElem?_append_left (by simpa [h3] using hj)] at hu
   rw[List.getElem?_append_left (by simpa using hj)] at hw
   exact h4 j u w hu hw
  ·subst hj
   rw[List.getElem?_append_right (by simp[h3])] at hu
   rw[List.getElem?_append_right (by simp)] at hw
   simp[h3] at hu hw
   subst hu;subst hw
   exact h1
  ·rw[List.getElem?_eq_none (by simp;omega)] at hw
   cases hw
def wDF (P:Program) (K:FuncId→List Value→Option hJ) (M n:Nat) (nS:Nat→Option Tmp) (r:Nat) (fl:List (Nat×Nat)) (o:Oper) (ih:Nat→Ek→AH→List WR→(List WR→Ek→AH→Prop)→Prop) (i:Nat) (a:Ek) (h:AH) (rs:List WR) (q:List WR→Ek→AH→Prop):Prop:=match o with
 |⟨dst,op,_,_,_,guard⟩=>nK (i+1) fun j=>wG nS a guard
  (fun a=>wMd fl i a rs fun R=>bh (ups op) a fun a'=>(match Ym a op with
   |some x=>wKn M op dst a x fun k=>tE P a x fun v=>Oe n a' dst v k fun a'=>R h v true fun rs=>ih j a' h rs q
   |none=>ry M op dst fun k=>wDO P K i r a h (fun v h'=>Oe n a' dst v k fun a'=>R h v true fun rs=>ih j a' h' rs q) op))
  (fun a=>wMd fl i a rs fun R=>Oe n a dst undef .sk fun a'=>R h undef false fun rs=>ih j a' h rs q)
def zu (P:Program) (K:FuncId→List Value→Option hJ) (M n:Nat) (nS:Nat→Option Tmp) (r:Nat) (fl:List (Nat×Nat)) (os:List Oper):Nat→Ek→AH→List WR→(List WR→Ek→AH→Prop)→Prop:=
 List.rec (fun _ a h rs q=>q rs a h) (fun o _ ih=>wDF P K M n nS r fl o ih) os
def y9 (all:List Oper) (rs:List WR) (es:List (List Value)):Prop:=rs.length=es.length∧∀(i:Nat) (o:Oper) (x:WR) (e:List Value),all[i]?=some o→rs[i]?=some x→es[i]?=some e→eV x.a e∧dU ⟨all⟩ e o=some x.ran
theorem y9.snoc {all:List Oper} {rs:List WR} {es:List (List Value)} (hk:y9 all rs es) {o:Oper} {x:WR} {e:List Value} (ho:all[rs.length]?=some o) (h1:eV x.a e) (h2:dU ⟨all⟩ e o=some x.ran):y9 all (rs++[x]) (es++[e]):=by
 refine⟨by simp[hk.1],fun i o' x' e' ho' hx he=>?_⟩
 rcases Nat.lt_trichotomy i rs.length with hi|hi|hi
 ·rw[List.getElem?_append_left hi] at hx
  rw[List.getElem?_append_left (hk.1▸hi)] at he
  exact hk.2 i o' x' e' ho' hx he
 ·subst hi
  rw[ho] at ho';cases ho'
  simp at hx;subst hx
  rw[hk.1] at he;simp at he;subst he
  exact⟨h1,h2⟩
 ·rw[List.getElem?_eq_none (by simp;omega)] at hx
  cases hx
theorem Xh {M n:Nat} {all:List Oper} {r:Nat} {fl:List (Nat×Nat)}:∀{os:List Oper} {i:Nat} {a:Ek} {env:List Value} {h:AH} {rs gs:List WR} {es:List (List Value)} {q:List WR→Ek→AH→Prop},eV a env→env.length=n→gs.length=i→(∀j,all[i+j]?=os[j]?)→y9 all gs.reverse es→(fl≠[]→Rl fl rs gs)→
  zu P K M n (fun j=>((⟨all⟩:Array Oper)[j]?).bind (·.dst)) r fl os i a h rs q→
  ∃m rs2 es2 e h' a',fT P (run P K m) all r i os env h=some (List.zipWith (fun x e=>⟨e,x.h,x.v⟩) rs2 es2,e,h')∧rs2.length=es2.length∧y9 all (gs.reverse++rs2) (es++es2)∧eV a' e∧e.length=n∧∃rs',(fl≠[]→Rl fl rs' (rs2.reverse++gs))∧q rs' a' h'
 |[],i,a,env,h,rs,gs,es,q,ha,hn,_,_,hok,hg,hw=>⟨0,[],[],env,h,a,rfl,rfl,by simpa using hok,ha,hn,rs,by simpa using hg,hw⟩
 |o::os,i,a,env,h,rs,gs,es,q,ha,hn,hlen,hall,hok,hg,hw=>by
  have hw:wDF P K M n (fun j=>((⟨all⟩:Array Oper)[j]?).bind (·.dst)) r fl o (zu P K M n (fun j=>((⟨all⟩:Array Oper)[j]?).bind (·.dst)) r fl os) i a h rs q:=hw
  unfold wDF at hw
  have hw:=q7 hw
  obtain⟨a1,ha1,hb⟩:=aEh (o:=o) ha hw
  have ho:all[gs.reverse.length]?=some o:=by have:=hall 0;rw[List.length_reverse,hlen];simpa using this
  have hall':∀j,all[i+1+j]?=os[j]?:=fun j=>by
   have:=hall (j+1)
   rw[show i+1+j=i+(j+1) by omega,this];simp
  rcases hb with⟨hwant,hb⟩|⟨hwant,hb⟩
  ·obtain⟨R,hb,hR⟩:=y8 hlen hg hb
   obtain⟨n1,v,h1,a2,hs,ha2,hn2,rs',hg',hrest⟩:∃n1 v h1 a2,eT P (run P K n1) all r i env h o=some (v,h1)∧eV a2 (iD env o.dst v)∧(iD env o.dst v).length=n∧
     ∃rs',(fl≠[]→Rl fl rs' (⟨a1,h,v,true⟩::gs))∧zu P K M n (fun j=>((⟨all⟩:Array Oper)[j]?).bind (·.dst)) r fl os (i+1) a2 h1 rs' q:=by
    obtain⟨a',ha',hb⟩:=M9 ha1 hb
    split at hb
    ·rename_i x hx
     obtain⟨hk,hl⟩:=Xv (P:=P) ha1 hx
     have hlt:fR o.op=true:=by
      cases hop:o.op<;>rw[hop] at hk<;>first|(simp[fR,kindOf];done)|(simp[kindOf] at hk)
     have hlv:eD P (cT P env) h o.op=some (cT P env x):=by
      have:=hl h
      cases hop:o.op<;>rw[hop] at hk this<;>first|exact this|(simp[kindOf] at hk)
     have fin:∀{a2:Ek} {v:Value},v=cT P env x→eV a2 (iD env o.dst (cT P env x))→(iD env o.dst (cT P env x)).length=n→R h v true (fun rs=>zu P K M n (fun j=>((⟨all⟩:Array Oper)[j]?).bind (·.dst)) r fl os (i+1) a2 h rs q)→
       ∃n1 v h1 a2,eT P (run P K n1) all r i env h o=some (v,h1)∧eV a2 (iD env o.dst v)∧(iD env o.dst v).length=n∧∃rs',(fl≠[]→Rl fl rs' (⟨a1,h,v,true⟩::gs))∧zu P K M n (fun j=>((⟨all⟩:Array Oper)[j]?).bind (·.dst)) r fl os (i+1) a2 h1 rs' q:=by
      intro a2 v e h2 h3 h4
      subst e
      exact⟨0,_,h,a2,by simp[eT,hwant,hlt,hlv],h2,h3,hR _ _ _ _ h4⟩
     obtain⟨k1,_⟩:=kq (P:=P) (x:=x) ha1
     rcases yv hb with⟨y,hy,hb⟩|hb|hb
     ·have hb:=eR ha1 hb
      obtain⟨a2,h2,h3,h4⟩:=pT ha' hn (fun z e=>by cases e;exact k1 _ hy) (fun e=>by cases e) hb
      exact fin rfl h2 h3 h4
     ·have hb:=eR ha1 hb
      obtain⟨a2,h2,h3,h4⟩:=pT ha' hn (fun _ e=>by cases e) (fun e=>by cases e) hb
      exact fin rfl h2 h3 h4
     ·have hb:=eR ha1 hb
      obtain⟨a2,h2,h3,h4⟩:=pT ha' hn (fun _ e=>by cases e) (fun e=>by cases e) hb
      exact fin rfl h2 h3 h4
    ·rcases Vc hb with hb|hb
     ·obtain⟨n1,v,h1,hs,hp⟩:=yu ha1 hwant hb
      obtain⟨a2,h2,h3,h4⟩:=pT ha' hn (fun _ e=>by cases e) (fun e=>by cases e) hp
      exact⟨n1,v,h1,a2,hs,h2,h3,hR _ _ _ _ h4⟩
     ·obtain⟨n1,v,h1,hs,hp⟩:=yu ha1 hwant hb
      obtain⟨a2,h2,h3,h4⟩:=pT ha' hn (fun _ e=>by cases e) (fun e=>by cases e) hp
      exact⟨n1,v,h1,a2,hs,h2,h3,hR _ _ _ _ h4⟩
   obtain⟨n2,rs2,es2,e,h',a',hr,hl2,hok2,ha3,hn3,hq⟩:=Xh (i:=i+1) ha2 hn2 (by simp[hlen]) hall' (by rw[List.reverse_cons];exact hok.snoc (x:=⟨a1,h,v,true⟩) ho ha1 hwant) hg' hrest
   refine⟨max n1 n2,⟨a1,h,v,true⟩::rs2,env::es2,e,h',a',?_,by simp[hl2],by simpa using hok2,ha3,hn3,by simpa using hq⟩
   simp only[fT,Fk (jM (Nat.le_max_left n1 n2)) hs,yP (jM (Nat.le_max_right n1 n2)) _ hr]
   rfl
  ·obtain⟨R,hb,hR⟩:=y8 hlen hg hb
   obtain⟨a2,h2,h3,h4⟩:=pT ha1 hn (fun _ e=>by cases e) (fun _=>rfl) hb
   obtain⟨rs',hg',h4⟩:=hR _ _ _ _ h4
   obtain⟨n2,rs2,es2,e,h',a',hr,hl2,hok2,ha3,hn3,hq⟩:=Xh (i:=i+1) h2 h3 (by simp[hlen]) hall' (by rw[List.reverse_cons];exact hok.snoc (x:=⟨a1,h,undef,false⟩) ho ha1 hwant) hg' h4
   refine⟨n2,⟨a1,h,undef,false⟩::rs2,env::es2,e,h',a',?_,by simp[hl2],by simpa using hok2,ha3,hn3,by simpa using hq⟩
   have hs:eT P (run P K n2) all r i env h o=some (undef,h):=by simp only[eT,hwant]
   simp only[fT,hs,hr]
   rfl
def bt (P:Program) (all:List Oper) (rs:List WR) (hEnd:AH) (x:Nat×Nat) (ih:Prop→Prop) (p:Prop):Prop:=match x with
 |(i,s)=>(match all[i]?,rs[i]? with
  |some o,some ⟨a,_,v,true⟩=>(match rs[s]? with
   |some ⟨_,h,_,_⟩=>wLV P a h (fun x=>mS x v=true) o.op∧ih p
   |none=>wLV P a hEnd (fun x=>mS x v=true) o.op∧ih p)
  |some _,some ⟨_,_,_,false⟩=>ih p
  |_,_=>hF)
def vn (P:Program) (all:List Oper) (rs:List WR) (hEnd:AH) (fs:List (Nat×Nat)):Prop→Prop:=List.rec (fun p=>p) (fun x _ ih=>bt P all rs hEnd x ih) fs
theorem mc {all:List Oper} {rs:List WR} {es:List (List Value)} {hEnd:AH} (hok:y9 all rs es) {p:Prop}:∀{fs:List (Nat×Nat)},vn P all rs hEnd fs p→(fs.all (qL P all (List.zipWith (fun x e=>⟨e,x.h,x.v⟩) rs es) hEnd)=true)∧p
 |[],hw=>⟨rfl,hw⟩
 |(i,s)::fs,hw=>by
  change bt P all rs hEnd (i,s) (vn P all rs hEnd fs) p at hw
  unfold bt at hw
  simp only at hw
  have hz:∀{j:Nat} {x:WR},rs[j]?=some x→∃e,es[j]?=some e∧(List.zipWith (fun x e=>(⟨e,x.h,x.v⟩:Rec)) rs es)[j]?=some ⟨e,x.h,x.v⟩:=by
   intro j x hx
   have hj:j<es.length:=by rw[←hok.1];exact(List.getElem?_eq_some_iff.1 hx).1
   exact⟨es[j],by simp[hj],by simp[List.getElem?_zipWith,hx,hj]⟩
  split at hw
  ·rename_i o a h v ho hx
   obtain⟨e,he,hze⟩:=hz hx
   obtain⟨ha,hwant⟩:=hok.2 i o _ e ho hx he
   have fin:∀{h2:AH},(match(List.zipWith (fun x e=>(⟨e,x.h,x.v⟩:Rec)) rs es)[s]? with|some q=>q.h|none=>hEnd)=h2→wLV P a h2 (fun x=>mS x v=true) o.op∧vn P all rs hEnd fs p→(((i,s)::fs).all (qL P all (List.zipWith (fun x e=>⟨e,x.h,x.v⟩) rs es) hEnd)=true)∧p:=by
    intro h2 hh ⟨h3,h4⟩
    obtain⟨h5,h6⟩:=mc hok h4
    refine⟨?_,h6⟩
    obtain⟨_,u,hu,hv⟩:=y6 ha h3
    rw[List.all_cons,h5,Bool.and_true]
    cases hc:(List.zipWith (fun x e=>(⟨e,x.h,x.v⟩:Rec)) rs es)[s]?<;>(rw[hc] at hh;simp only at hh;subst hh;simp only[qL,ho,hze,hwant,hc,hu,hv])
   split at hw
   ·rename_i hs
    obtain⟨e2,_,hz2⟩:=hz hs
    exact fin (by rw[hz2]) hw
   ·rename_i hs
    have:(List.zipWith (fun x e=>(⟨e,x.h,x.v⟩:Rec)) rs es)[s]?=none:=by simp[List.getElem?_zipWith,hs]
    exact fin (by rw[this]) hw
  ·rename_i o a h v ho hx
   obtain⟨e,he,hze⟩:=hz hx
   obtain⟨ha,hwant⟩:=hok.2 i o _ e ho hx he
   obtain⟨h5,h6⟩:=mc hok hw
   refine⟨?_,h6⟩
   rw[List.all_cons,h5,Bool.and_true]
   simp only[qL,ho,hze,hwant]
  ·cases hw
def feq:List (Nat×Nat)→List (Nat×Nat)→Bool
 |[],[]=>true
 |(a,b)::l,(c,d)::m=>Nat.beq a c&&(Nat.beq b d&&feq l m)
 |_,_=>false
theorem za:∀{l m:List (Nat×Nat)},feq l m=true→l=m
 |[],[],_=>rfl
 |(a,b)::l,(c,d)::m,h=>by
  simp only[feq,Bool.and_eq_true] at h
  rw[Nat.eq_of_beq_eq_true h.1,Nat.eq_of_beq_eq_true h.2.1,za h.2.2]
 |[],_::_,h=>by cases h
 |_::_,[],h=>by cases h
def yk (P:Program) (ops:Array Oper) (fl:List (Nat×Nat)):Bool:=D7 ops.toList&&(P.follows .mixedOrders|| !Region.departs ops)&&feq (Bk ops.toList) fl
def wz:List (Nat×List (Nat×Nat))→Nat→(List (Nat×Nat)→Prop)→Prop
 |[],_,q=>hP (q [])
 |(i,l)::F,id,q=>(match Nat.beq i id with
  |true=>q l
  |false=>wz F id q)
theorem iw:∀{F:List (Nat×List (Nat×Nat))} {id:Nat} {q:List (Nat×Nat)→Prop},wz F id q→∃l,q l
 |[],_,_,h=>⟨_,h⟩
 |_::F,_,_,h=>by
  unfold wz at h
  split at h
  ·exact⟨_,h⟩
  ·exact iw (F:=F) h
theorem Lg {all:List Oper} {rs gs:List WR} {hEnd:AH} {p:Prop} {fl:List (Nat×Nat)} (hl:rs.length=gs.length) (hg:∀(j:Nat) (x y:WR),rs[j]?=some x→gs[j]?=some y→x=y∨Sv fl j=false∧x.h=y.h):
  ∀{fs:List (Nat×Nat)},(∀x∈fs,Sv fl x.1=true)→vn P all rs hEnd fs p→vn P all gs hEnd fs p
 |[],_,hw=>hw
 |(i,s)::fs,hm,hw=>by
  change bt P all rs hEnd (i,s) (vn P all rs hEnd fs) p at hw
  show bt P all gs hEnd (i,s) (vn P all gs hEnd fs) p
  have ih:=Lg (hEnd:=hEnd) (all:=all) (p:=p) hl hg (fs:=fs) fun x hx=>hm x (List.mem_cons_of_mem _ hx)
  have hi:rs[i]?=gs[i]?:=by
   have h1:=hm (i,s) List.mem_cons_self
   rcases Nat.lt_or_ge i rs.length with hlt|hge
   ·have h2:rs[i]?=some rs[i]:=List.getElem?_eq_getElem hlt
    have h3:gs[i]?=some (gs[i]'(hl▸hlt)):=List.getElem?_eq_getElem _
    rcases hg i _ _ h2 h3 with h4|⟨h4,_⟩
    ·rw[h2,h3,h4]
    ·rw[h1] at h4;cases h4
   ·rw[List.getElem?_eq_none hge,List.getElem?_eq_none (hl▸hge)]
  unfold bt at hw ⊢
  simp only at hw ⊢
  rw[←hi]
  split at hw
  ·split at hw
   ·rename_i a1 h1 v1 r1 hs
    have hlt:s<rs.length:=(List.getElem?_eq_some_iff.1 hs).1
    have h3:gs[s]?=some (gs[s]'(hl▸hlt)):=List.getElem?_eq_getElem _
    have h4:h1=(gs[s]'(hl▸hlt)).h:=by
     rcases hg s _ _ hs h3 with h4|⟨_,h4⟩
     ·rw[←h4]
     ·exact h4
    rw[h3]
    generalize gs[s]'(hl▸hlt)=y at h4
    subst h4
    exact⟨hw.1,ih hw.2⟩
   ·rename_i hs
    have h3:gs[s]?=none:=by
     rw[List.getElem?_eq_none_iff] at hs ⊢;omega
    rw[h3]
    exact⟨hw.1,ih hw.2⟩
  ·exact ih hw
  ·cases hw
theorem sb:∀{fl:List (Nat×Nat)} {x:Nat×Nat},x∈fl→Sv fl x.1=true
 |(a,b)::l,x,h=>by
  unfold Sv
  split
  ·rfl
  ·rename_i e
   rcases List.mem_cons.1 h with rfl|h
   ·rw[Nat.beq_refl] at e;cases e
   ·exact sb h
def rvK (q:List WR→Prop):List WR→List WR→Prop
 |[],acc=>hP (q acc)
 |x::l,acc=>rvK q l (x::acc)
theorem y0 {q:List WR→Prop}:∀{l acc:List WR},rvK q l acc→q (l.reverse++acc)
 |[],_,h=>h
 |x::l,acc,h=>by have:=y0 (l:=l) h;simpa using this
def yw (P:Program) (K:FuncId→List Value→Option hJ) (M n:Nat) (F:List (Nat×List (Nat×Nat))) (id:Nat) (ops:Array Oper) (a:Ek) (h:AH) (q:Ek→AH→Prop):Prop:=
 wz F id fun fl=>nK ops.size fun m=>Tx (yk P ops fl) h m fun r h1=>(match fl with
  |[]=>zu P K M n (fun j=>(ops[j]?).bind (·.dst)) r [] ops.toList 0 a h1 [] fun _ a' h'=>q a' h'
  |fl=>zu P K M n (fun j=>(ops[j]?).bind (·.dst)) r fl ops.toList 0 a h1 [] fun rs a' h'=>rvK (fun rs=>vn P ops.toList rs h' fl (q a' h')) rs [])
theorem ug {M n:Nat} {F:List (Nat×List (Nat×Nat))} {id:Nat} {ops:Array Oper} {a:Ek} {env:List Value} (ha:eV a env) (hn:env.length=n) {h:AH} {q:Ek→AH→Prop} (hw:yw P K M n F id ops a h q):∃m e h' a',oV P (run P K m) ops env h=some (e,h')∧eV a' e∧e.length=n∧q a' h':=by
 obtain⟨fl,hw⟩:=iw hw
 obtain⟨hc,hw⟩:=q7 hw
 unfold yk at hc
 rw[Bool.and_eq_true] at hc
 have hfl:=za hc.2
 subst hfl
 obtain⟨m,rs2,es2,e,h',a',hr,hl,hok,ha2,hn2,hq⟩:∃m rs2 es2 e h' a',fT P (run P K m) ops.toList h.next 0 ops.toList env {h with next:=h.next+ops.size}=some (List.zipWith (fun x e=>⟨e,x.h,x.v⟩) rs2 es2,e,h')∧rs2.length=es2.length∧y9 ops.toList rs2 es2∧eV a' e∧e.length=n∧vn P ops.toList rs2 h' (Bk ops.toList) (q a' h'):=by
  have h0:y9 ops.toList ([]:List WR).reverse []:=⟨rfl,fun i o x e _ hx=>by simp at hx⟩
  split at hw
  ·rename_i e0
   obtain⟨m,rs2,es2,e,h',a',hr,hl,hok,ha2,hn2,rs',_,hq⟩:=Xh (all:=ops.toList) (r:=h.next) (i:=0) (gs:=[]) (es:=[]) ha hn rfl (fun j=>by simp) h0 (fun e=>absurd rfl e) hw
   exact⟨m,rs2,es2,e,h',a',hr,hl,by simpa using hok,ha2,hn2,by rw[e0];exact hq⟩
  ·rename_i e0
   obtain⟨m,rs2,es2,e,h',a',hr,hl,hok,ha2,hn2,rs',hrs,hq⟩:=Xh (all:=ops.toList) (r:=h.next) (i:=0) (rs:=[]) (gs:=[]) (es:=[]) ha hn rfl (fun j=>by simp) h0 (fun _=>trivial) hw
   have h1:=hrs (fun e=>e0 e)
   rw[List.append_nil] at h1
   obtain⟨h2,h3⟩:=sc h1
   have h4:=y0 hq
   rw[List.append_nil] at h4
   have h5:=Lg (by simpa using h2) h3 (fun x hx=>sb hx) h4
   rw[List.reverse_reverse] at h5
   exact⟨m,rs2,es2,e,h',a',hr,hl,by simpa using hok,ha2,hn2,h5⟩
 obtain⟨hf,hq⟩:=mc hok hq
 refine⟨m,e,h',a',?_,ha2,hn2,hq⟩
 unfold oV
 rw[if_pos hc.1,hr]
 simp only
 rw[if_pos hf]
end
end Go.Ab
end
section
namespace Go.Ab
noncomputable section
variable {P:Program} {K:FuncId→List Value→Option hJ}
inductive It where
 |code (p:List Nat) (c:Code)|inBlock (id:Nat)|inLoop (p:List Nat) (b:Code)|inScope (b:Code)|beginRound
def It.it:It→Item
 |.code _ c=> .code c
 |.inBlock id=> .inBlock id
 |.inLoop _ b=> .inLoop b
 |.inScope b=> .inScope b
 |.beginRound=> .beginRound
abbrev Cy (k:List It):List Item:=k.map It.it
def mK (b:Nat) (p:List Nat) (x:Code×List It):Code×List It:=match x.1,b with
 |.seq c d,0=>(c,.code (1::p) d::x.2)
 |.seq _ d,1=>(d,x.2)
 |.cond _ t _,0=>(t,x.2)
 |.cond _ _ e,1=>(e,x.2)
 |.block id c,0=>(c,.inBlock id::x.2)
 |.loop c,0=>(c,.inLoop (0::p) c::x.2)
 |.scope c,0=>(c,.inScope c::x.2)
 |.rangeFunc _ _ a c,0=>(a,[.beginRound,.code (1::p) c])
 |.rangeFunc _ _ _ c,1=>(c,[])
 |_,_=>(.skip,[])
def ctx (P:Program) (f:FuncId):List Nat→Code×List It
 |[]=>((G1 P f).getD .skip,[])
 |b::p=>mK b p (ctx P f p)
def Good (P:Program) (f:FuncId):List It→Prop
 |[]=>True
 |.code p c::k=>ctx P f p=(c,k)∧Good P f k
 |.inLoop p b::k=>ctx P f p=(b,.inLoop p b::k)∧Good P f k
 |_::k=>Good P f k
def sH (id:Nat):List It→Option (List It)
 |[]=>none
 |.inBlock i::k=>(match Nat.beq i id with
  |true=>some k
  |false=>sH id k)
 |_::k=>sH id k
theorem sK {f:FuncId} {id:Nat}:∀{k k':List It},sH id k=some k'→exitTo id (Cy k)=some (Cy k')∧(Good P f k→Good P f k')
 |[],_,h=>by cases h
 |x::k,k',h=>by
  cases x with
  |inBlock i=>
   unfold sH at h
   split at h
   ·rename_i e
    cases h
    have:=Nat.eq_of_beq_eq_true e;subst this
    exact⟨by simp[Cy,It.it,exitTo],fun g=>g⟩
   ·rename_i e
    obtain⟨h1,h2⟩:=sK (f:=f) h
    refine⟨?_,fun g=>h2 g⟩
    have:(i==id)=false:=by simpa using Nat.ne_of_beq_eq_false e
    simpa [Cy,It.it,exitTo,this] using h1
  |code p c=>obtain⟨h1,h2⟩:=sK (f:=f) (k:=k) h;exact⟨h1,fun g=>h2 g.2⟩
  |inLoop p c=>obtain⟨h1,h2⟩:=sK (f:=f) (k:=k) h;exact⟨h1,fun g=>h2 g.2⟩
  |inScope c=>obtain⟨h1,h2⟩:=sK (f:=f) (k:=k) h;exact⟨h1,fun g=>h2 g⟩
  |beginRound=>obtain⟨h1,h2⟩:=sK (f:=f) (k:=k) h;exact⟨h1,fun g=>h2 g⟩
theorem sG {id:Nat}:∀{k:List It},sH id k=none→exitTo id (Cy k)=none
 |[],_=>rfl
 |x::k,h=>by
  cases x with
  |inBlock i=>
   unfold sH at h
   split at h
   ·cases h
   ·rename_i e
    have:(i==id)=false:=by simpa using Nat.ne_of_beq_eq_false e
    simpa [Cy,It.it,exitTo,this] using sG h
  |code p c=>exact sG (k:=k) h
  |inLoop p c=>exact sG (k:=k) h
  |inScope c=>exact sG (k:=k) h
  |beginRound=>exact sG (k:=k) h
def kV:Nat→List It→List It
 |0,k=>k
 |n+1,k=>match k with
  |.code p c::k'=>(match c with
   |.skip=>kV n k'
   |.label _=>kV n k'
   |.seq a b=>kV n (.code (0::p) a:: .code (1::p) b::k')
   |.block id b=>kV n (.code (0::p) b:: .inBlock id::k')
   |.scope b=>kV n (.code (0::p) b:: .inScope b::k')
   |.loop b=>kV n (.code (0::p) b:: .inLoop (0::p) b::k')
   |.exit id=>(match sH id k' with
    |some k2=>kV n k2
    |none=>k)
   |_=>k)
  |.inBlock _::k'=>kV n k'
  |.inScope _::k'=>kV n k'
  |.inLoop p b::k'=>kV n (.code p b:: .inLoop p b::k')
  |_=>k
section
variable {f:FuncId} {p:List Nat} {k:List It} {a b c:Code} {id:Nat}
theorem Good.seq (g:Good P f (.code p (.seq a b)::k)):Good P f (.code (0::p) a:: .code (1::p) b::k):=by
 obtain⟨h1,h2⟩:=g
 exact⟨by simp only[ctx,h1,mK],by simp only[ctx,h1,mK],h2⟩
theorem Good.block (g:Good P f (.code p (.block id b)::k)):Good P f (.code (0::p) b:: .inBlock id::k):=by
 obtain⟨h1,h2⟩:=g
 exact⟨by simp only[ctx,h1,mK],h2⟩
theorem Good.scope (g:Good P f (.code p (.scope b)::k)):Good P f (.code (0::p) b:: .inScope b::k):=by
 obtain⟨h1,h2⟩:=g
 exact⟨by simp only[ctx,h1,mK],h2⟩
theorem Good.loop (g:Good P f (.code p (.loop b)::k)):Good P f (.code (0::p) b:: .inLoop (0::p) b::k):=by
 obtain⟨h1,h2⟩:=g
 exact⟨by simp only[ctx,h1,mK],by simp only[ctx,h1,mK],h2⟩
theorem Good.again (g:Good P f (.inLoop p b::k)):Good P f (.code p b:: .inLoop p b::k):=⟨g.1,g⟩
end
theorem mY {f:FuncId}:∀(n:Nat) {k:List It},Good P f k→Cy (kV n k)=lS n (Cy k)∧Good P f (kV n k)
 |0,_,g=>⟨rfl,g⟩
 |_+1,[],g=>⟨rfl,g⟩
 |n+1,.inBlock _::k,g=>mY n (k:=k) g
 |n+1,.inScope _::k,g=>mY n (k:=k) g
 |n+1,.inLoop _ _::_,g=>mY n g.again
 |_+1,.beginRound::_,g=>⟨rfl,g⟩
 |n+1,.code p c::k,g=>by
  cases c with
  |skip=>exact mY n g.2
  |label _=>exact mY n g.2
  |seq a b=>exact mY n g.seq
  |block id b=>exact mY n g.block
  |scope b=>exact mY n g.scope
  |loop b=>exact mY n g.loop
  |exit id=>
   show Cy (match sH id k with|some k2=>kV n k2|none=>_)=(match exitTo id (Cy k) with|some k2=>lS n k2|none=>_)∧Good P f (match sH id k with|some k2=>kV n k2|none=>_)
   cases hx:sH id k with
   |some k2=>
    obtain⟨h1,h2⟩:=sK (P:=P) (f:=f) hx
    rw[h1]
    exact mY n (h2 g.2)
   |none=>rw[sG hx];exact⟨rfl,g⟩
  |_=>exact⟨rfl,g⟩
end
end Go.Ab
end
section
namespace Go.Ab
noncomputable section
variable {P:Program} {K:FuncId→List Value→Option hJ}
structure FT where
 L:List (Nat×List Nat)
 R:List (Nat×List Nat)
 hr:Bool
 M:Nat:=0
 F:List (Nat×List (Nat×Nat)):=[]
def aFz (l:List (List FT)) (f:FuncId):FT:=((l[f/16]?).getD [])[f % 16]?.getD ⟨[],[],false,0,[]⟩
def peq:List Nat→List Nat→Bool
 |[],[]=>true
 |a::l,b::m=>(match Nat.beq a b with
  |true=>peq l m
  |false=>false)
 |_,_=>false
theorem y2:∀{l m:List Nat},peq l m=true→l=m
 |[],[],_=>rfl
 |a::l,b::m,h=>by
  unfold peq at h
  split at h
  ·rename_i e;rw[Nat.eq_of_beq_eq_true e,y2 h]
  ·cases h
 |[],_::_,h=>by cases h
 |_::_,[],h=>by cases h
def xZ:List Nat→Nat
 |[]=>1
 |b::p=>2*xZ p+b
def S9:List (Nat×List Nat)→List Nat→Nat→(Nat→Nat→List Nat→Prop)→Prop
 |[],_,_,_=>hF
 |(n,lv)::L,p,i,q=>(match Nat.beq (xZ p) n with
  |true=>(match peq p.reverse (kD n) with
   |true=>q i n lv
   |false=>hF)
  |false=>nK (i+1) fun i=>S9 L p i q)
theorem N4:∀{L:List (Nat×List Nat)} {p:List Nat} {i:Nat} {q:Nat→Nat→List Nat→Prop},S9 L p i q→∃j n lv,L[j]?=some (n,lv)∧p=(kD n).reverse∧q (i+j) n lv
 |[],_,_,_,h=>h.elim
 |(n,lv)::L,p,i,q,h=>by
  unfold S9 at h
  split at h
  ·split at h
   ·rename_i e
    exact⟨0,n,lv,rfl,by rw[←y2 e,List.reverse_reverse],h⟩
   ·cases h
  ·obtain⟨j,n',lv',h1,h2,h3⟩:=N4 (q7 h)
   exact⟨j+1,n',lv',h1,h2,by rw[show i+(j+1)=i+1+j by omega];exact h3⟩
def Qs (a:Ek):List Nat→(List Value→Prop)→Prop
 |[],q=>q []
 |t::lv,q=>(match a.lk t with
  |some (v,_)=>Qs a lv fun vs=>q (v::vs)
  |none=>hF)
theorem Od {a:Ek} {env:List Value} (ha:eV a env):∀{lv:List Nat} {q:List Value→Prop},Qs a lv q→q (lv.map fun t=>env.getD t undef)
 |[],_,h=>h
 |t::lv,q,h=>by
  unfold Qs at h
  split at h
  ·rename_i hl
   have h1:=(ha _ _ _ hl).1
   have:=Od ha (lv:=lv) h
   simpa only[List.map_cons,List.getD_eq_getElem?_getD,h1,Option.getD_some] using this
  ·cases h
def PtI (P:Program) (K:FuncId→List Value→Option hJ) (T:FT) (f:FuncId) (ro:Option Nat) (Q:Out→AH→Prop) (i:Nat) (ds:List Nat) (vs:List Value) (h:AH):Prop:=
 Pt P K f ro Q (ntm P f) ((T.L[i]?).getD (0,[])).2 (.code (ctx P f (kD ((T.L[i]?).getD (0,[])).1).reverse).1::Cy (ctx P f (kD ((T.L[i]?).getD (0,[])).1).reverse).2) ds vs h
def wE (T:FT) (a:Ek) (k:List It) (q:Nat→List Value→Prop):Prop:=match k with
 |.code p _::_=>S9 T.L p 0 fun i _ lv=>Qs a lv fun vs=>q i vs
 |_=>hF
theorem aAr {T:FT} {f:FuncId} {ro:Option Nat} {Q:Out→AH→Prop} {ds:List Nat} {h:AH} {a:Ek} {env:List Value} {k:List It} (ha:eV a env) (hn:env.length=ntm P f) (hg:Good P f k) (hw:wE T a k fun i vs=>PtI P K T f ro Q i ds vs h):Ok P K (.todo f ro ds env (Cy k)) h Q:=by
 unfold wE at hw
 split at hw
 ·obtain⟨j,n,lv,h1,h2,h3⟩:=N4 hw
  have h3:=Od ha h3
  simp only[PtI,Nat.zero_add,h1,Option.getD_some,←h2,hg.1] at h3
  have:=h3 (fun t=>env.getD t undef) rfl
  rwa [Kt hn] at this
 ·cases hw
def Rh (P:Program) (a:Ek) (h:AH) (r:ResultVar) (ih:(List Value→Prop)→Prop) (p:List Value→Prop):Prop:=match r with
 |.tmp t=>(match a.lk t with
  |some (v,_)=>ih fun l=>p (v::l)
  |none=>hF)
 |.cell x t=>(match a.lk x with
  |some (v,_)=>(match iG P t with
   |some true=>Py P t fun n=>bA (uC h n v) fun v=>ih fun l=>p (v::l)
   |some false=>bA (pN h v) fun v=>ih fun l=>p (v::l)
   |none=>hF)
  |none=>hF)
def Zb (P:Program) (a:Ek) (h:AH) (rs:List ResultVar):(List Value→Prop)→Prop:=List.rec (fun p=>p []) (fun r _ ih=>Rh P a h r ih) rs
theorem Jq {a:Ek} {env:List Value} (ha:eV a env) {h:AH}:∀{rs:List ResultVar} {p:List Value→Prop},Zb P a h rs p→Nv P h env rs p
 |[],_,hw=>hw
 |.tmp t::rs,p,hw=>by
  have hw:Rh P a h (.tmp t) (Zb P a h rs) p:=hw
  unfold Rh at hw
  simp only at hw
  split at hw
  ·rename_i hl
   have h1:=(ha _ _ _ hl).1
   have:=Jq ha (rs:=rs) hw
   simpa only[Nv,List.getD_eq_getElem?_getD,h1,Option.getD_some] using this
  ·cases hw
 |.cell x t::rs,p,hw=>by
  have hw:Rh P a h (.cell x t) (Zb P a h rs) p:=hw
  unfold Rh at hw
  simp only at hw
  split at hw
  ·rename_i hl
   have h1:=(ha _ _ _ hl).1
   simp only[Nv,List.getD_eq_getElem?_getD,h1,Option.getD_some]
   split at hw
   ·rename_i hg;simp only[hg]
    exact(qB hw).2.mono fun v hv=>Jq ha hv
   ·rename_i hg;simp only[hg]
    exact hw.mono fun v hv=>Jq ha hv
   ·cases hw
  ·cases hw
def wm (Q:Value→AH→Prop) (l:List Value) (h:AH):Prop:=match l with
 |[v]=>Q v h
 |l=>hP (Q (.tuple ⟨l⟩) h)
theorem aC4 {Q:Value→AH→Prop} {h:AH}:(fun l=>wm Q l h)=fun l=>Q (oneOf l) h:=funext fun l=>match l with
 |[]=>rfl
 |[_]=>rfl
 |_::_::_=>rfl
def ui (P:Program) (f:FuncId) (hr:Bool) (Q:Value→AH→Prop) (lv:tQ) (ds:List Nat) (a:Ek) (h:AH):Prop:=match lv with
 |.exit _=>hF
 |_=>(match hr with
  |true=>bA (cC ds h) fun h2=>Zb P a h2 ((P.funcs[f]?).elim [] fun fn=>fn.results.toList) fun l=>wm Q l h2
  |false=>(match ds with
   |[]=>Zb P a h ((P.funcs[f]?).elim [] fun fn=>fn.results.toList) fun l=>wm Q l h
   |_=>hF))
theorem ph {f:FuncId} {hr:Bool} {Q:Value→AH→Prop} {lv:tQ} {ds:List Nat} {a:Ek} {env:List Value} {h:AH} (ha:eV a env) (hw:ui P f hr Q lv ds a h):Uy P f Q ⟨lv,ds,env,undef⟩ h:=by
 have key:(∀id,lv≠.exit id)→(bA (cC ds h) fun h2=>Zb P a h2 ((P.funcs[f]?).elim [] fun fn=>fn.results.toList) fun l=>wm Q l h2)→Uy P f Q ⟨lv,ds,env,undef⟩ h:=by
  intro hne ⟨h2,hc,hk⟩
  simp only[aC4] at hk
  refine Vu ?_
  unfold z6
  cases lv with
  |exit id=>exact absurd rfl (hne id)
  |iI=>exact⟨h2,hc,Jq ha hk⟩
  |ret=>exact⟨h2,hc,Jq ha hk⟩
 unfold ui at hw
 split at hw
 ·cases hw
 ·rename_i hne
  split at hw
  ·exact key (fun id e=>hne id e) hw
  ·split at hw
   ·exact key (fun id e=>hne id e) ⟨h,rfl,hw⟩
   ·cases hw
end
end Go.Ab
end
section
namespace Go.Ab
noncomputable section
variable {P:Program} {K:FuncId→List Value→Option hJ}
def o9:List It→Bool
 |[]=>true
 |.code _ .ret::_=>true
 |.code _ (.exit _)::_=>true
 |_=>false
def Ut (k:List It):Bool:=match kV 60 k with
 |.code _ (.region _ _ _)::k'=>o9 (kV 60 k')
 |k'=>o9 k'
def wRg (P:Program) (K:FuncId→List Value→Option hJ) (f:FuncId) (m:Nat) (fv:Value) (num:Nat) (lv:List Nat) (vs:List Value) (d:Nat) (h:AH) (q:Option Code→AH→Prop):Prop:=
 ∀e:Nat→Value,lv.map e=vs→Dp h (lp P f (kD num) m e d .ready none) fun l h2=>Xm P K fv l h2 fun _ h3=>bA (sS h3 l) fun r=>(match r with|(pd,h4)=>q pd h4)
def wTF (P:Program) (K:FuncId→List Value→Option hJ) (E:List Nat→Ek→List It→AH→Prop) (F:tQ→List Nat→Ek→AH→Prop) (T:FT) (f:FuncId) (m:Nat) (ro:Option Nat) (ih:List Nat→Ek→List It→AH→Prop) (ds:List Nat) (a:Ek) (k:List It) (h:AH):Prop:=(match k with
  |[]=>F .iI ds a h
  |.code p c::k=>(match c with
   |.skip=>ih ds a k h
   |.label _=>ih ds a k h
   |.seq x y=>ih ds a (.code (0::p) x:: .code (1::p) y::k) h
   |.cond c t e=>(match knW a c with
    |.b true=>ih ds a (.code (0::p) t::k) h
    |.b false=>ih ds a (.code (1::p) e::k) h
    |_=>tE P a c fun v=>Br v
     (match Ut (.code (0::p) t::k) with
     |true=>ih ds a (.code (0::p) t::k) h
     |false=>E ds a (kV 60 (.code (0::p) t::k)) h)
     (match Ut (.code (1::p) e::k) with
     |true=>ih ds a (.code (1::p) e::k) h
     |false=>E ds a (kV 60 (.code (1::p) e::k)) h))
   |.block id b=>ih ds a (.code (0::p) b:: .inBlock id::k) h
   |.loop b=>E ds a (kV 60 (.code (0::p) b:: .inLoop (0::p) b::k)) h
   |.scope b=>ih ds a (.code (0::p) b:: .inScope b::k) h
   |.exit id=>(match sH id k with
    |some k'=>ih ds a k' h
    |none=>(match ro with
     |some _=>F (.exit id) ds a h
     |none=>hF))
   |.ret=>F .ret ds a h
   |.region _ ops false=>s7 P K T.M m (fun j=>(ops[j]?).bind (·.dst)) ops.toList a h fun a' h'=>ih ds a' k h'
   |.region id ops true=>yw P K T.M m T.F id ops a h fun a' h'=>ih ds a' k h'
   |.rangeFunc fv _ _ body=>tE P a fv fun fv=>S9 T.R p 0 fun _ num lv=>Qs a lv fun vs=>(match ro with
    |none=>Dp h (.marks true) fun d h1=>wRg P K f m fv num lv vs d h1 fun pd h'=>uE pd (ih (d::ds) a k h') (F .ret (d::ds) a h')
      ((iA body).map fun id=>(id,(match sH id k with
       |some k'=>ih (d::ds) a k' h'
       |none=>hF)))
    |some l=>bA (gK h l) fun d=>wRg P K f m fv num lv vs d h fun pd h'=>uE pd (ih ds a k h') (F .ret ds a h')
      ((iA body).map fun id=>(id,(match sH id k with
       |some k'=>ih ds a k' h'
       |none=>F (.exit id) ds a h'))))
   |_=>hF)
  |.inBlock _::k=>ih ds a k h
  |.inScope _::k=>ih ds a k h
  |.inLoop p b::k=>E ds a (kV 60 (.code p b:: .inLoop p b::k)) h
  |.beginRound::k=>(match ro with
   |some l=>bA (lC h l) fun h'=>ih ds a k h'
   |none=>hF))
def wT (P:Program) (K:FuncId→List Value→Option hJ) (E:List Nat→Ek→List It→AH→Prop) (F:tQ→List Nat→Ek→AH→Prop) (T:FT) (f:FuncId) (m:Nat) (ro:Option Nat) (n:Nat):List Nat→Ek→List It→AH→Prop:=
 Nat.rec (fun _ _ _ _=>hF) (fun _ ih=>wTF P K E F T f m ro ih) n
theorem ez {b:Nat} {p q:List Nat} {c:Code} {k k':List It}:(mK b p (c,k)).1=(mK b q (c,k')).1:=by
 unfold mK
 rcases b with _|_|b<;>cases c<;>rfl
theorem jz {b:Nat} {c:Code} {l:List Nat}:sub c (b::l)=sub (mK b [] (c,[])).1 l:=by
 have hs:∀l:List Nat,sub .skip l= .skip:=fun l=>by cases l<;>simp[sub]
 rcases b with _|_|b<;>cases c<;>simp[sub,mK,hs]
theorem sub_fold:∀(l:List Nat) (c:Code),sub c l=l.foldl (fun c b=>(mK b [] (c,[])).1) c
 |[],c=>by simp[sub]
 |b::l,c=>by rw[jz,sub_fold l];rfl
theorem Nk {f:FuncId}:∀p:List Nat,(ctx P f p).1=sub ((G1 P f).getD .skip) p.reverse
 |[]=>by simp[ctx,sub]
 |b::p=>by
  have h1:(ctx P f (b::p)).1=(mK b [] ((ctx P f p).1,[])).1:=ez
  rw[h1,Nk p,List.reverse_cons,sub_fold,sub_fold,List.foldl_append]
  rfl
theorem yh {f:FuncId} {m:Nat} {fv:Operand} {fvv:Value} {num:Nat} {lv:List Nat} {env:List Value} {ps:Array Tmp} {asg body:Code} {d:Nat} {h:AH} {q:Option Code→AH→Prop} (hn:env.length=m) (hc:cd P f (kD num)= .rangeFunc fv ps asg body)
  (hw:wRg P K f m fvv num lv (lv.map fun t=>env.getD t undef) d h q):
  ∃n g first captured o h3 p h4,fvv= .func (.func g) first captured∧fN P g=true∧run P K n (.call g (first.toList++[.func (.yield h.next) #[] #[]]++captured.toList)) (h.alloc (.loop .ready none f env ps asg body d))=some (o,h3)∧
   sS h3 h.next=some (p,h4)∧q p h4:=by
 subst hn
 refine Ia (lv:=lv) ?_
 intro e he
 have:=hw e he
 simp only[lp,hc,rgF] at this
 exact this
theorem nM {f:FuncId} {ro:Option Nat} {ds:List Nat} {env:List Value} {k k':List Item} {h:AH} {Q:Out→AH→Prop} (hw:Ok P K (.todo f ro ds env k') h Q) (hs:∀m,run P K (m+1) (.todo f ro ds env k) h=run P K m (.todo f ro ds env k') h):Ok P K (.todo f ro ds env k) h Q:=De hs hw
theorem wj {E:List Nat→Ek→List It→AH→Prop} {F:tQ→List Nat→Ek→AH→Prop} {T:FT} {f:FuncId} {m:Nat} {ro:Option Nat} {Q:Out→AH→Prop}
  (hE:∀ds a env k h,eV a env→env.length=m→Good P f k→E ds a k h→Ok P K (.todo f ro ds env (Cy k)) h Q) (hF:∀lv ds a env h,eV a env→F lv ds a h→Q ⟨lv,ds,env,undef⟩ h):
  ∀(n:Nat) {ds:List Nat} {a:Ek} {env:List Value} {k:List It} {h:AH},eV a env→env.length=m→Good P f k→wT P K E F T f m ro n ds a k h→Ok P K (.todo f ro ds env (Cy k)) h Q
 |0,_,_,_,_,_,_,_,_,hw=>hw.elim
 |n+1,ds,a,env,k,h,ha,hm,hg,hw=>by
  have IH:∀{ds:List Nat} {a:Ek} {env:List Value} {k:List It} {h:AH},eV a env→env.length=m→Good P f k→wT P K E F T f m ro n ds a k h→Ok P K (.todo f ro ds env (Cy k)) h Q:=fun x y z w=>wj hE hF n x y z w
  have nm:∀{k:List It},Good P f k→E ds a (kV 60 k) h→Ok P K (.todo f ro ds env (Cy k)) h Q:=fun g hk=>by
   obtain⟨h1,h2⟩:=mY (P:=P) (f:=f) 60 g
   exact G7 60 (h1▸hE _ _ _ _ _ ha hm h2 hk)
  have go:∀{k':List It},Good P f k'→(match Ut k' with
     |true=>wT P K E F T f m ro n ds a k' h
     |false=>E ds a (kV 60 k') h)→Ok P K (.todo f ro ds env (Cy k')) h Q:=by
   intro k' g hk
   split at hk
   ·exact IH ha hm g hk
   ·exact nm g hk
  change wTF P K E F T f m ro (wT P K E F T f m ro n) ds a k h at hw
  unfold wTF at hw
  split at hw
  ·exact⟨1,_,rfl,hF _ _ _ _ _ ha hw⟩
  ·rename_i p c k
   split at hw
   ·exact nM (IH ha hm hg.2 hw) fun _=>rfl
   ·exact nM (IH ha hm hg.2 hw) fun _=>rfl
   ·exact nM (IH ha hm hg.seq hw) fun _=>rfl
   ·rename_i c t e
    have g1:Good P f (.code (0::p) t::k):=⟨by simp only[ctx,hg.1,mK],hg.2⟩
    have g2:Good P f (.code (1::p) e::k):=⟨by simp only[ctx,hg.1,mK],hg.2⟩
    obtain⟨k1,k2⟩:=kq (P:=P) (x:=c) ha
    split at hw
    ·rename_i hk
     exact Mv (Ti (b:=true) (fun _=>IH ha hm g1 hw) (by simp)|>fun x=>by rw[k1 _ hk];exact x)
    ·rename_i hk
     exact Mv (Ti (b:=false) (by simp) (fun _=>IH ha hm g2 hw)|>fun x=>by rw[k1 _ hk];exact x)
    ·exact Mv (let⟨b,x,y,z⟩:=eR ha hw;⟨b,x,fun t=>go g1 (y t),fun t=>go g2 (z t)⟩)
   ·exact nM (IH ha hm hg.block hw) fun _=>rfl
   ·exact nM (nm hg.loop hw) fun _=>rfl
   ·exact nM (IH ha hm hg.scope hw) fun _=>rfl
   ·rename_i id
    split at hw
    ·rename_i k' hx
     obtain⟨h1,h2⟩:=sK (P:=P) (f:=f) hx
     refine nM (IH ha hm (h2 hg.2) hw) fun m=>?_
     show dO P (run P K m) _ _ _ _ (.code (.exit id)::Cy k) _=_
     simp only[dO,h1]
    ·rename_i hx
     split at hw
     ·refine⟨1,(⟨.exit id,ds,env,undef⟩,h),?_,hF _ _ _ _ _ ha hw⟩
      show dO P (run P K 0) _ _ _ _ (.code (.exit id)::Cy k) _=_
      simp only[dO,sG hx,Option.isSome_some,if_true]
     ·cases hw
   ·exact⟨1,_,rfl,hF _ _ _ _ _ ha hw⟩
   ·rename_i ops
    obtain⟨n1,o,h1,a',hr,ha',hm',hw⟩:=Uf ha hm hw
    obtain⟨n2,r,hr2,hq⟩:=IH ha' hm' hg.2 hw
    refine⟨max n1 n2+1,r,?_,hq⟩
    show dO P (run P K (max n1 n2)) _ _ _ _ (.code (.region _ ops false)::Cy k) _=_
    simp only[dO]
    rw[jM (Nat.le_max_left n1 n2) _ _ _ hr]
    exact jM (Nat.le_max_right n1 n2) _ _ _ hr2
   ·rename_i ops
    obtain⟨n1,e,h1,a',hr,ha',hm',hw⟩:=ug ha hm hw
    obtain⟨n2,r,hr2,hq⟩:=IH ha' hm' hg.2 hw
    refine⟨max n1 n2+1,r,?_,hq⟩
    show dO P (run P K (max n1 n2)) _ _ _ _ (.code (.region _ ops true)::Cy k) _=_
    simp only[dO]
    rw[H3 (jM (Nat.le_max_left n1 n2)) hr]
    exact jM (Nat.le_max_right n1 n2) _ _ _ hr2
   ·rename_i fv ps asg body
    have hw:=eR ha hw
    obtain⟨j,num,lv,_,hp,hw⟩:=N4 hw
    have hw:=Od ha hw
    have hc:cd P f (kD num)= .rangeFunc fv ps asg body:=by
     have:=Nk (P:=P) (f:=f) p
     rw[hg.1,hp,List.reverse_reverse] at this
     exact this.symm
    have ex:∀{ds':List Nat} {h4:AH} {pd:Option Code},uE pd (wT P K E F T f m ro n ds' a k h4) (F .ret ds' a h4)
      ((iA body).map fun id=>(id,(match sH id k with
       |some k'=>wT P K E F T f m ro n ds' a k' h4
       |none=>(match ro with
        |none=>False
        |some _=>F (.exit id) ds' a h4))))→Ok P K (.todo f ro ds' env ((pd.map Item.code).toList++Cy k)) h4 Q:=by
     intro ds' h4 pd hx
     unfold uE at hx
     split at hx
     ·exact IH ha hm hg.2 hx
     ·exact⟨1,_,rfl,hF _ _ _ _ _ ha hx⟩
     ·rename_i id
      split at hx
      ·rename_i hl
       have:=Uw hl
       subst this
       split at hx
       ·rename_i k' hy
        obtain⟨h1,h2⟩:=sK (P:=P) (f:=f) hy
        refine nM (IH ha hm (h2 hg.2) hx) fun m=>?_
        show dO P (run P K m) _ _ _ _ (.code (.exit id)::Cy k) _=_
        simp only[dO,h1]
       ·rename_i hy
        split at hx
        ·cases hx
        ·refine⟨1,(⟨.exit id,ds',env,undef⟩,h4),?_,hF _ _ _ _ _ ha hx⟩
         show dO P (run P K 0) _ _ _ _ (.code (.exit id)::Cy k) _=_
         simp only[dO,sG hy,Option.isSome_some,if_true]
      ·cases hx
     ·cases hx
    split at hw
    ·unfold Dp at hw
     obtain⟨n1,g,first,captured,o,h3,p,h4,hf,hcl,hr,he,hw⟩:=yh hm hc hw
     obtain⟨n2,r,hr2,hq⟩:=ex hw
     refine⟨max n1 n2+1,r,?_,hq⟩
     show dO P (run P K (max n1 n2)) _ _ _ _ (.code (.rangeFunc fv ps asg body)::Cy k) _=_
     unfold sS at he
     split at he
     ·rename_i hl
      split at he
      ·cases he
      ·rename_i hb
       simp only[Option.map_eq_some_iff] at he
       obtain⟨h5,he,h6⟩:=he
       cases h6
       simp only[dO,hf,hcl,if_true]
       rw[jM (Nat.le_max_left n1 n2) _ _ _ hr]
       simp only[hl,hb,if_false,he]
       exact jM (Nat.le_max_right n1 n2) _ _ _ hr2
     ·cases he
    ·rename_i l
     obtain⟨d,hdf,hw⟩:=hw
     obtain⟨n1,g,first,captured,o,h3,p,h4,hf,hcl,hr,he,hw⟩:=yh hm hc hw
     obtain⟨n2,r,hr2,hq⟩:=ex hw
     refine⟨max n1 n2+1,r,?_,hq⟩
     show dO P (run P K (max n1 n2)) _ _ _ _ (.code (.rangeFunc fv ps asg body)::Cy k) _=_
     unfold sS at he
     unfold gK at hdf
     split at hdf
     ·rename_i hd0
      cases hdf
      split at he
      ·rename_i hl
       split at he
       ·cases he
       ·rename_i hb
        simp only[Option.map_eq_some_iff] at he
        obtain⟨h5,he,h6⟩:=he
        cases h6
        simp only[dO,hd0,hf,hcl,if_true]
        rw[jM (Nat.le_max_left n1 n2) _ _ _ hr]
        simp only[hl,hb,if_false,he]
        exact jM (Nat.le_max_right n1 n2) _ _ _ hr2
      ·cases he
     ·cases hdf
   ·cases hw
  ·rename_i k;exact nM (IH (k:=k) ha hm hg hw) fun _=>rfl
  ·rename_i k;exact nM (IH (k:=k) ha hm hg hw) fun _=>rfl
  ·exact nM (nm hg.again hw) fun _=>rfl
  ·rename_i k
   split at hw
   ·rename_i l
    obtain⟨h',h1,h2⟩:=hw
    unfold lC at h1
    split at h1
    ·rename_i hg2
     refine De (t':= .todo f (some l) ds env (Cy k)) (h':=h') (fun m=>?_) (IH ha hm hg h2)
     show dO P (run P K m) _ _ _ _ (.beginRound::Cy k) _=_
     simp only[dO,hg2,h1]
    ·cases h1
   ·cases hw
end
end Go.Ab
end
section
namespace Go.Ab
noncomputable section
variable {P:Program} {K:FuncId→List Value→Option hJ}
theorem R3 {f:FuncId}:∀p:List Nat,Good P f (ctx P f p).2
 |[]=>trivial
 |b::p=>by
  have h0:=R3 (f:=f) p
  have h1:∀c,ctx P f (c::p)=mK c p (ctx P f p):=fun _=>rfl
  rw[h1]
  generalize hx:ctx P f p=x at h0 h1
  obtain⟨c,k⟩:=x
  rcases b with _|_|b<;>cases c<;>simp_all [mK,Good]
def D (P:Program) (K:FuncId→List Value→Option hJ) (T:FuncId→FT) (f:FuncId) (i:Nat) (ds:List Nat) (Q:Value→AH→Prop) (vs:List Value) (h:AH):Prop:=PtI P K (T f) f none (Uy P f Q) i ds vs h
def R (P:Program) (K:FuncId→List Value→Option hJ) (T:FuncId→FT) (f:FuncId) (i:Nat) (l:Nat) (Q:Value→AH→Prop) (vs:List Value) (h:AH):Prop:=PtI P K (T f) f (some l) (Dg l Q) i [] vs h
def fW (P:Program) (f:FuncId) (q:Nat→Code→Prop):Prop:=match P.funcs[f]? with
 |some ⟨_,_,_,_,_,_,n,_,some c,_,_,_,_,_,_,_⟩=>q n c
 |_=>hF
theorem aAu {f:FuncId} {q:Nat→Code→Prop} (h:fW P f q):∃fn c,P.funcs[f]?=some fn∧fn.body=some c∧ntm P f=fn.ntmps∧G1 P f=some c∧q fn.ntmps c:=by
 unfold fW at h
 split at h
 ·rename_i he
  exact⟨_,_,he,rfl,by simp only[ntm,he,Option.elim_some],by simp only[G1,he,Option.bind_some],h⟩
 ·cases h
def Va (m:Nat):List Nat→List Value→Ek→(Ek→Prop)→Prop
 |[],[],a,q=>q a
 |t::lv,v::vs,a,q=>(match Nat.blt t m with
  |true=>Va m lv vs ((t,v,.un)::a) q
  |false=>hF)
 |_,_,_,_=>hF
theorem M1 {m:Nat}:∀{lv:List Nat} {vs:List Value} {a:Ek} {env:List Value} {q:Ek→Prop},eV a env→env.length=m→Va m lv vs a q→∃a',eV a' ((lv.zip vs).foldl (fun t (p,v)=>t.set p v) env)∧((lv.zip vs).foldl (fun t (p,v)=>t.set p v) env).length=m∧lv.length=vs.length∧q a'
 |[],[],a,env,q,ha,hm,hw=>⟨a,ha,hm,rfl,hw⟩
 |t::lv,v::vs,a,env,q,ha,hm,hw=>by
  unfold Va at hw
  split at hw
  ·rename_i e
   have ht:t<m:=Nat.le_of_ble_eq_true e
   obtain⟨a',h1,h2,h3,h4⟩:=M1 (ha.cons (k:= .un) (v:=v) (hm.symm▸ht) (fun _ e=>by cases e) (fun e=>by cases e)) (by simpa using hm) hw
   exact⟨a',h1,h2,by simp[h3],h4⟩
  ·cases hw
 |[],_::_,_,_,_,_,_,hw=>hw.elim
 |_::_,[],_,_,_,_,_,hw=>hw.elim
theorem od {env:List Value} {t:Nat} {v:Value} (h:∀u,env[t]?=some u→u=v):env.set t v=env:=by
 refine List.ext_getElem? fun i=>?_
 rw[List.getElem?_set]
 by_cases e:t=i
 ·subst e
  rw[if_pos rfl]
  cases he:env[t]? with
  |none=>rw[if_neg (by simpa using he)]
  |some u=>rw[if_pos (List.getElem?_eq_some_iff.1 he).1,h u he]
 ·rw[if_neg e]
theorem Jo {e:Nat→Value} {m:Nat}:∀{lv:List Nat} {vs:List Value},lv.map e=vs→(lv.zip vs).foldl (fun t (p,v)=>t.set p v) ((List.range m).map e)=(List.range m).map e
 |[],_,_=>rfl
 |t::lv,vs,h=>by
  subst h
  rw[List.map_cons,List.zip_cons_cons,List.foldl_cons]
  show List.foldl _ (((List.range m).map e).set t (e t)) _=_
  rw[od,Jo rfl]
  intro u hu
  simp only[List.getElem?_map] at hu
  rcases Nat.lt_or_ge t m with hl|hl
  ·rw[List.getElem?_range hl] at hu;cases hu;rfl
  ·rw[List.getElem?_eq_none (by simpa using hl)] at hu;cases hu
theorem eV.nil {env:List Value}:eV [] env:=fun _ _ _ h=>by cases h
def wD (P:Program) (K:FuncId→List Value→Option hJ) (T:FuncId→FT) (f:FuncId) (i:Nat) (ds:List Nat) (Q:Value→AH→Prop) (vs:List Value) (h:AH):Prop:=match(T f).L[i]? with
 |some (num,lv)=>yn (kD num).reverse fun p=>(match ctx P f p with
  |(c,k)=>fW P f fun m _=>Va m lv vs [] fun a=>wT P K (fun ds a k h=>wE (T f) a k fun i vs=>D P K T f i ds Q vs h) (ui P f (T f).hr Q) (T f) f m none 200 ds a (.code p c::k) h)
 |none=>hF
theorem bW {f:FuncId} {T:FuncId→FT} {i:Nat} {ds:List Nat} {Q:Value→AH→Prop} {vs:List Value} {h:AH} (hw:wD P K T f i ds Q vs h):D P K T f i ds Q vs h:=by
 unfold wD at hw
 split at hw
 ·rename_i num lv hl
  have hw:=H4 hw
  generalize hx:ctx P f (kD num).reverse=x at hw
  obtain⟨c,k⟩:=x
  obtain⟨fn,_,_,_,hm,_,hw⟩:=aAu hw
  unfold D PtI
  simp only[hl,Option.getD_some,hx]
  intro e he
  rw[hm]
  obtain⟨a,h1,h2,_,hw⟩:=M1 (env:=(List.range fn.ntmps).map e) eV.nil (by simp) hw
  rw[Jo he] at h1 h2
  have hg:=R3 (P:=P) (f:=f) (kD num).reverse
  rw[hx] at hg
  exact wj (fun ds a env k h ha hn hg hE=>aAr ha (hn.trans hm.symm) hg hE) (fun lv ds a env h ha hF=>ph ha hF) 200 (k:= .code (kD num).reverse c::k) h1 h2 ⟨hx,hg⟩ hw
 ·cases hw
def wRd (P:Program) (K:FuncId→List Value→Option hJ) (T:FuncId→FT) (f:FuncId) (i:Nat) (l:Nat) (Q:Value→AH→Prop) (vs:List Value) (h:AH):Prop:=match(T f).L[i]? with
 |some (num,lv)=>yn (kD num).reverse fun p=>(match ctx P f p with
  |(c,k)=>fW P f fun m _=>Va m lv vs [] fun a=>wT P K (fun ds a k h=>(match ds with
   |[]=>wE (T f) a k fun i vs=>R P K T f i l Q vs h
   |_=>hF)) (fun lv ds _ h=>Nf l Q lv ds [] h) (T f) f m (some l) 200 [] a (.code p c::k) h)
 |none=>hF
theorem jq {f:FuncId} {T:FuncId→FT} {l:Nat} {Q:Value→AH→Prop} {m:Nat} (hm:ntm P f=m):∀ds a env k h,eV a env→env.length=m→Good P f k→(match ds with
   |[]=>wE (T f) a k fun i vs=>R P K T f i l Q vs h
   |_=>False)→Ok P K (.todo f (some l) ds env (Cy k)) h (Dg l Q):=by
 intro ds a env k h ha hn hg hE
 split at hE
 ·exact aAr ha (hn.trans hm.symm) hg hE
 ·cases hE
def aA9:Nat→List Value→Ek→(Ek→Prop)→Prop
 |_,[],a,q=>q a
 |i,v::l,a,q=>nK (i+1) fun j=>aA9 j l ((i,v,.un)::a) q
theorem eV.add {a:Ek} {env:List Value} (ha:eV a env) {d:Nat} {v:Value} (hd:env[d]?=some v):eV ((d,v,.un)::a) env:=by
 intro t u j hl
 unfold Ek.lk at hl
 split at hl
 ·rename_i e
  have:=Nat.eq_of_beq_eq_true e
  subst this
  cases hl
  exact⟨hd,fun x e=>(by cases e),fun e=>(by cases e)⟩
 ·exact ha t u j hl
theorem j9 {env:List Value}:∀{l:List Value} {i:Nat} {a:Ek} {q:Ek→Prop},eV a env→(∀j v,l[j]?=some v→env[i+j]?=some v)→aA9 i l a q→∃a',eV a' env∧q a'
 |[],_,a,_,ha,_,hw=>⟨a,ha,hw⟩
 |v::l,i,a,q,ha,he,hw=>j9 (l:=l) (ha.add (he 0 v rfl)) (fun j u hu=>by have:=he (j+1) u (by simpa using hu);rwa [show i+1+j=i+(j+1) by omega]) (q7 hw)
def mw (n m:Nat):List Nat→Ek→(Ek→Prop)→Prop
 |[],a,q=>hP (q a)
 |t::lv,a,q=>(match Nat.ble n t with
  |true=>(match Nat.blt t m with
   |true=>mw n m lv ((t,undef,.un)::a) q
   |false=>hF)
  |false=>mw n m lv a q)
theorem Ws {args:List Value} {m:Nat}:∀{lv:List Nat} {a:Ek} {q:Ek→Prop},eV a (args++List.replicate (m - args.length) undef)→mw args.length m lv a q→∃a',eV a' (args++List.replicate (m - args.length) undef)∧q a'
 |[],a,_,ha,hw=>⟨a,ha,hw⟩
 |t::lv,a,q,ha,hw=>by
  unfold mw at hw
  split at hw
  ·rename_i h1
   have h1:=Nat.le_of_ble_eq_true h1
   split at hw
   ·rename_i h2
    have h2:t<m:=Nat.le_of_ble_eq_true h2
    refine Ws (ha.add ?_) hw
    rw[List.getElem?_append_right h1,List.getElem?_replicate,if_pos (by omega)]
   ·cases hw
  ·exact Ws ha hw
def wC (P:Program) (K:FuncId→List Value→Option hJ) (T:FuncId→FT) (f:FuncId) (args:List Value) (Q:Value→AH→Prop) (h:AH):Prop:=match K f args with
 |none=>fW P f fun m c=>(match Nat.ble args.length m with
  |true=>aA9 0 args [] fun a=>nK args.length fun n=>mw n m (((T f).L[0]?).getD (0,[])).2 a fun a=>wT P K (fun ds a k h=>wE (T f) a k fun i vs=>D P K T f i ds Q vs h) (ui P f (T f).hr Q) (T f) f m none 200 [] a [.code [] c] h
  |false=>hF)
 |some _=>hF
theorem cW {f:FuncId} {T:FuncId→FT} {args:List Value} {Q:Value→AH→Prop} {h:AH} (hw:wC P K T f args Q h):Cl P K f args h Q:=by
 unfold wC at hw
 split at hw
 ·rename_i hK
  obtain⟨fn,c,hf,hb,hm,hbo,hw⟩:=aAu hw
  refine sy hf hb hK ?_
  split at hw
  ·rename_i hle
   have hle:args.length≤fn.ntmps:=Nat.le_of_ble_eq_true hle
   obtain⟨a,h1,hw⟩:=j9 (env:=args++List.replicate (fn.ntmps - args.length) undef) eV.nil (fun j v hv=>by
    rw[Nat.zero_add,List.getElem?_append_left (List.getElem?_eq_some_iff.1 hv).1];exact hv) hw
   obtain⟨a,h1,hw⟩:=Ws h1 (q7 hw)
   exact wj (fun ds a env k h ha hn hg hE=>aAr ha (hn.trans hm.symm) hg hE) (fun lv ds a env h ha hF=>ph ha hF) 200 (k:=[.code [] c]) h1 (by simp;omega) ⟨by simp only[ctx,hbo,Option.getD_some],trivial⟩ hw
  ·cases hw
 ·cases hw
def wR0 (P:Program) (K:FuncId→List Value→Option hJ) (T:FuncId→FT) (f:FuncId) (num m:Nat) (lv:List Nat) (vs:List Value) (l:Nat) (args:List Value) (Q:Value→AH→Prop) (h:AH):Prop:=yn (kD num).reverse fun p=>(match ctx P f p with
 |(.rangeFunc _ ps asg body,_)=>fW P f fun m' _=>(match Nat.beq m' m with
  |true=>Va m lv vs [] fun a=>Va m ps.toList args a fun a=>wT P K (fun ds a k h=>(match ds with
   |[]=>wE (T f) a k fun i vs=>R P K T f i l Q vs h
   |_=>hF)) (fun lv ds _ h=>Nf l Q lv ds [] h) (T f) f m (some l) 200 [] a [.code (0::p) asg,.beginRound,.code (1::p) body] h
  |false=>hF)
 |_=>hF)
theorem rW {f:FuncId} {T:FuncId→FT} {num m l d:Nat} {lv:List Nat} {vs args:List Value} {e:Nat→Value} {st:LoopState} {pd:Option Code} {Q:Value→AH→Prop} {h:AH} (hg:h.get l=some (lp P f (kD num) m e d st pd)) (he:List.map e lv=vs)
  (hw:wR0 P K T f num m lv vs l args Q h):zV P K (.func (.yield l) #[] #[]) args h Q:=by
 unfold wR0 at hw
 have hw:=H4 hw
 split at hw
 ·rename_i fv ps asg body k hx
  obtain⟨fn,_,_,_,hm,_,hw⟩:=aAu hw
  split at hw
  ·rename_i hb
   have hb:=Nat.eq_of_beq_eq_true hb
   obtain⟨a,h1,h2,_,hw⟩:=M1 (env:=(List.range m).map e) eV.nil (by simp) hw
   rw[Jo he] at h1 h2
   obtain⟨a,h1,h2,hl,hw⟩:=M1 h1 h2 hw
   have hc:cd P f (kD num)= .rangeFunc fv ps asg body:=by
    have:=Nk (P:=P) (f:=f) (kD num).reverse
    rw[hx,List.reverse_reverse] at this
    exact this.symm
   simp only[lp,hc,rgF] at hg
   refine Z3 (iv hg (by simpa using hl.symm) ?_)
   exact wj (jq (hm.trans hb)) (fun lv ds a env h ha hF=>by have:=Nr (env:=env) hF;exact this) 200 (k:=[.code (0::(kD num).reverse) asg,.beginRound,.code (1::(kD num).reverse) body]) h1 h2
    ⟨by simp only[ctx,hx,mK],by simp only[ctx,hx,mK],trivial⟩ hw
  ·cases hw
 ·cases hw
end
end Go.Ab
end
section
namespace Go.Ab
variable {P:Program} {K:FuncId→List Value→Option hJ} {G:Bg} {h:AH} {L L' M:List HP}
theorem Gx {W n m c:Nat} {e:TypeId} {a:Option Addr} {cs zs:List Value} (hm:m≤n) (h0:0<n) (hl:cs.length=m*W) (hs:Hs G h (dB W e a c (n,cs++zs)::L)):Hs G h (dB W e a c (m,cs)::L):=by
 obtain⟨r,r2,⟨hl2,hc,hr⟩,hr2,hd,hi,hi2⟩:=hs.fst
 simp only at hl2 hc
 have hcd:cs.all eF=true:=by grind
 rcases hr with⟨hz,_⟩|⟨hz,_⟩|⟨hcap,b,pre,post,ex,rfl,hle,hrr⟩
 ·grind
 ·grind
 ·simp only at hcap hle hrr
  subst hrr
  refine Ni (r:=kO b (pre++(cs++zs)++post) (some (.mt e ex (pre++(cs++zs)++post).length))) ⟨hs.base,hs.old,hs.wf,hs.fr,_,⟨_,r2,rfl,hr2,hd,rfl⟩,(cF.fA hd).2 ⟨hi,hi2⟩⟩ ?_
  have e1:pre++(cs++zs)++post=pre++cs++(zs++post):=by simp
  refine⟨hl,hcd,.inr (.inr ⟨by simp only;omega,b,pre,zs++post,ex,rfl,?_,by rw[e1]⟩)⟩
  grind
theorem lh {b o j m:Nat} {c:List Value} (hs:Hs G h (aE b o c::L)) (h0:0<c.length) (hm:j+m≤c.length):cI h ⟨b,o+j,none⟩ m=some ((c.drop j).take m):=by
 obtain⟨hb,c',e',x',hg,hle,hall⟩:=hs.cells h0
 simp only[cI,Option.isSome_none,Bool.false_eq_true,if_false,hg]
 rw[if_pos (by omega)]
 congr 1
 refine List.ext_getElem? fun k=>?_
 grind
theorem Rj {A B z:List Value} {j:Nat} (h1:A.length=j) (h2:B.length=z.length):bY (A++B) j z=A++z:=by
 subst h1
 unfold bY
 rw[List.take_left,List.drop_eq_nil_of_le (by rw[List.length_append];omega),List.append_nil]
theorem Iv {α:Type} (l:List α) (i:Nat):l.take i++l.drop i=l:=List.take_append_drop i l
theorem y5 {W bytes n i c:Nat} {e:TypeId} {a:Option Addr} {cs z:List Value} {k:Value→AH→Prop} (hW:0<W) (hz:z.length=W) (hzc:z.all eF=true) (hi:i<n) (hs:Hs G h L) [m:Has (dB W e a c) L (n,cs) L']
  (hk:∀h',Hs G h' (dB W e a c (n - 1,cs.take (i*W)++cs.drop ((i+1)*W))::L')→k (.slice a (n - 1) c) h'):
  bA (wY W h (.slice a n c) none (some (I i)) none) fun v3=>bA (wY W h (.slice a n c) (some (I ((i:Int)+1))) none none) fun v4=>
   bA (jB W bytes e h v3 v4) fun r5=>bA (lA r5.1) fun v8=>bA (wY W r5.2 r5.1 (some v8) (some (I n)) none) fun v9=>bA (jC z r5.2 v9) fun r10=>k r5.1 r10.2:=by
 have hs:=m.of hs
 have hl:=hs.A4
 have hc:=hs.Ca
 simp only at hl hc
 have hcap:n≤c:=by
  obtain⟨r,r2,⟨_,_,hr⟩,_⟩:=hs.fst
  rcases hr with⟨hz,_⟩|⟨hz,_⟩|⟨hcap,_⟩
  ·simp only at hz;omega
  ·simp only at hz;omega
  ·exact hcap
 obtain⟨b,o,rfl,H,hs2,close⟩:=hs.mU (by omega)
 have hpos:0<n*W:=Nat.mul_pos (by omega) hW
 have hcl:0<cs.length:=by omega
 have b1:jZ none c c=some c:=rfl
 have b2:jZ (some (I i)) n c=some i:=by simp only[jZ];rw[if_pos (by omega)];simp
 have b3:jZ none 0 i=some 0:=rfl
 have b4:jZ none n c=some n:=rfl
 have b5:jZ (some (I ((i:Int)+1))) 0 n=some (i+1):=by simp only[jZ];rw[if_pos (by omega)];congr 1
 have b6:jZ (some (I ((n - 1:Nat):Int))) 0 n=some (n - 1):=by simp only[jZ];grind
 have b7:jZ (some (I n)) n c=some n:=by simp only[jZ];grind
 have hne0:¬c=0:=by omega
 refine⟨.slice (some ⟨b,o,none⟩) i c,?_,?_⟩
 ·simp only[wY,b1,b2,b3,Option.isNone_some,Bool.false_and,Option.isSome_none,Bool.false_eq_true,if_false,hne0,cX]
  rw[if_pos (by omega)]
  simp
 have mulS:(i+1)*W=i*W+W:=by rw[Nat.add_mul,Nat.one_mul]
 have hiW:(i+1)*W≤n*W:=Nat.mul_le_mul_right W hi
 have hrest:(n - (i+1))*W=n*W - (i+1)*W:=Nat.sub_mul _ _ _
 have hnW:(n - 1)*W=n*W - W:=by rw[Nat.sub_mul,Nat.one_mul]
 have fin:∀h1,Hs G h1 (aE b o (cs.take (i*W)++cs.drop ((i+1)*W)++cs.drop ((n - 1)*W))::H::L')→
   bA (lA (.slice (some ⟨b,o,none⟩) (n - 1) c)) fun v8=>bA (wY W h1 (.slice (some ⟨b,o,none⟩) (n - 1) c) (some v8) (some (I n)) none) fun v9=>bA (jC z h1 v9) fun r10=>k (.slice (some ⟨b,o,none⟩) (n - 1) c) r10.2:=by
  intro h1 hs3
  refine bZ ?_
  have hlast:¬c=n - 1:=by omega
  refine⟨.slice (some ⟨b,o+(n - 1)*W,none⟩) (n - (n - 1)) (c - (n - 1)),?_,?_⟩
  ·have b7':jZ (some (I n)) (n - 1) c=some n:=b7
   simp only[wY,b1,b7',b6,Option.isNone_some,Bool.false_and,Option.isSome_none,Bool.false_eq_true,if_false,hlast,cX]
   grind
  have h1n:n - (n - 1)=1:=by omega
  rw[h1n]
  have hlen:(cs.take (i*W)++cs.drop ((i+1)*W)).length=(n - 1)*W:=by
   grind
  have hz1:eB z 1=z:=by simp[eB]
  have hall:(cs.take (i*W)++cs.drop ((i+1)*W)).all eF=true:=by
   grind
  obtain⟨h2,hst,hs4⟩:=hs3.write (j:=(n - 1)*W) (vs:=z) (by grind) hzc (by grind)
  refine⟨(.tuple #[],h2),?_,?_⟩
  ·simp only[jC,Nat.one_ne_zero,if_false,hz1,hst,Option.map_some]
  refine hk h2 ?_
  have hsp:bY (cs.take (i*W)++cs.drop ((i+1)*W)++cs.drop ((n - 1)*W)) ((n - 1)*W) z=cs.take (i*W)++cs.drop ((i+1)*W)++z:=Rj hlen (by grind)
  rw[hsp] at hs4
  refine Gx (n:=n) (zs:=z) (by omega) (by omega) hlen (close h2 _ _ ?_ ?_ hs4)
  ·grind
  ·grind
 by_cases hlst:i+1=n
 ·
  have hd0:cs.drop ((i+1)*W)=[]:=List.drop_eq_nil_of_le (by rw[hlst];omega)
  have key:∀v4:Value,tA v4=some 0→fU h W 0 v4=some []→bA (jB W bytes e h (.slice (some ⟨b,o,none⟩) i c) v4) fun r5=>bA (lA r5.1) fun v8=>bA (wY W r5.2 r5.1 (some v8) (some (I n)) none) fun v9=>bA (jC z r5.2 v9) fun r10=>k r5.1 r10.2:=by
   intro v4 h1 h2
   refine⟨(.slice (some ⟨b,o,none⟩) i c,h),?_,?_⟩
   ·simp only[jB,h1,h2,List.all_nil,Bool.not_true,List.length_nil,Nat.zero_mul,bne_self_eq_false,Bool.or_self,Bool.false_eq_true,if_false,Nat.add_zero]
    grind
   ·have hin:i=n - 1:=by omega
    have:=fin h (by
     rw[hd0,List.append_nil,hin,Iv];exact hs2)
    rw[hin];exact this
  by_cases hci:c=i+1
  ·obtain⟨hb,c',e',x',hg,hle,hall⟩:=hs2.cells hcl
   have hex:oT h b=some x':=by simp only[oT,hg]
   cases x' with
   |true=>
    refine⟨rD,?_,key _ rfl rfl⟩
    simp only[wY,b1,b4,b5,Option.isNone_none,Option.isSome_none,Bool.and_false,Bool.false_eq_true,if_false,cX,hex]
    grind
   |false=>
    refine⟨yC ⟨b,o+(i+1)*W,none⟩,?_,key _ rfl rfl⟩
    simp only[wY,b1,b4,b5,Option.isNone_none,Option.isSome_none,Bool.and_false,Bool.false_eq_true,if_false,cX,hex]
    grind
  ·refine⟨.slice (some ⟨b,o+(i+1)*W,none⟩) (n - (i+1)) (c - (i+1)),?_,?_⟩
   ·simp only[wY,b1,b4,b5,Option.isNone_none,Option.isSome_none,Bool.and_false,Bool.false_eq_true,if_false,cX,hci]
    rw[if_pos hcap]
   ·have:n - (i+1)=0:=by omega
    rw[this]
    exact key _ rfl (by simp[fU])
 ·have hci:¬c=i+1:=by omega
  refine⟨.slice (some ⟨b,o+(i+1)*W,none⟩) (n - (i+1)) (c - (i+1)),?_,?_⟩
  ·simp only[wY,b1,b4,b5,Option.isNone_none,Option.isSome_none,Bool.and_false,Bool.false_eq_true,if_false,cX,hci]
   rw[if_pos hcap]
  have hn1:¬n - (i+1)=0:=by omega
  have hld:cI h ⟨b,o+(i+1)*W,none⟩ ((n - (i+1))*W)=some (cs.drop ((i+1)*W)):=by
   rw[lh hs2 hcl (by omega),List.take_of_length_le (by grind)]
  have hdl:(cs.drop ((i+1)*W)).length=(n - (i+1))*W:=by grind
  have hdc:(cs.drop ((i+1)*W)).all eF=true:=List.all_eq_true.2 fun v hv=>List.all_eq_true.1 hc v (List.mem_of_mem_drop hv)
  obtain⟨h1,hst,hs3⟩:=hs2.write (j:=i*W) (vs:=cs.drop ((i+1)*W)) (by omega) hdc hcl
  have hsum:i+(n - (i+1))=n - 1:=by omega
  refine⟨(.slice (some ⟨b,o,none⟩) (n - 1) c,h1),?_,?_⟩
  ·simp only[jB,tA,fU,if_neg hn1,Nat.le_refl,if_true,hld,hdc,hdl,Bool.not_true,bne_self_eq_false,Bool.or_self,Bool.false_eq_true,if_false,cX,hst,Option.map_some,Option.isSome_none,hsum]
   grind
  refine fin h1 ?_
  have hsp:bY cs (i*W) (cs.drop ((i+1)*W))=cs.take (i*W)++cs.drop ((i+1)*W)++cs.drop ((n - 1)*W):=by
   unfold bY
   grind
  grind
end Go.Ab
end
section
namespace Go.Ab
variable {P:Program} {K:FuncId→List Value→Option hJ} {G:Bg} {h:AH} {L L' M:List HP}
def yK (G:Bg) (W:Nat) (e:TypeId) (v:Value) (l:List (List Value)):HP:=fun r=>
 (∀x∈l,x.length=W)∧((sA G W v l.length (fun i=>l.getD i [])∧r=cF.emp)∨∃a c,v= .slice a l.length c∧dB W e a c (l.length,l.flatten) r)
variable {W:Nat} {e:TypeId} {v:Value} {l:List (List Value)}
theorem Hs.Y2 {A:HP} {p:Prop} (hs:Hs G h (A::L)) (k:∀r,A r→p):p:=by
 obtain⟨r,r2,h1,_⟩:=hs.fst
 exact k r h1
theorem uF (hs:Hs G h (yK G W e v l::L)):∃a c,v= .slice a l.length c:=hs.Y2 fun r hr=>by
 obtain⟨_,⟨⟨a,c,h1,_⟩,_⟩|⟨a,c,h1,_⟩⟩:=hr
 ·exact⟨a,c,h1⟩
 grind
theorem F7 (hs:Hs G h (yK G W e v l::L)):∀x∈l,x.length=W:=hs.Y2 fun _ hr=>hr.1
theorem Bm (hl:∀x∈l,x.length=W) (ho:sA G W v l.length (fun i=>l.getD i [])) (hs:Hs G h L):Hs G h (yK G W e v l::L):=
 Hs.join (A:=[]) hs fun _ hr=>⟨hl,.inl ⟨ho,hr⟩⟩
theorem jy {a:Option Addr} {c n:Nat} {cs:List Value} (hl:∀x∈l,x.length=W) (hn:n=l.length) (hc:cs=l.flatten) (hs:Hs G h (dB W e a c (n,cs)::L)):Hs G h (yK G W e (.slice a n c) l::L):=by
 subst hn;subst hc
 exact Hs.join (A:=[_]) hs fun r hr=>⟨hl,.inr ⟨a,c,rfl,Qj.1 hr⟩⟩
theorem vT {W:Nat}:∀{l:List (List Value)} {i:Nat} {x:List Value},(∀x∈l,x.length=W)→l[i]?=some x→(l.flatten.drop (i*W)).take W=x∧i*W+W≤l.flatten.length
 |[],i,x,_,h=>by simp at h
 |y::l,0,x,hl,h=>by
  grind
 |y::l,i+1,x,hl,h=>by
  have hy:=hl y List.mem_cons_self
  obtain⟨h1,h2⟩:=vT (fun z hz=>hl z (List.mem_cons_of_mem _ hz)) (by simpa using h)
  rw[List.flatten_cons,show(i+1)*W=y.length+i*W by grind,List.drop_append,List.drop_of_length_le (by omega),Nat.add_sub_cancel_left,List.nil_append,List.length_append]
  grind
theorem aBw {i:Nat} {x:List Value} {k:Value→Prop} (hs:Hs G h (yK G W e v l::L)) (hW:0<W) (hx:l[i]?=some x) (hk:k (.agg ⟨x⟩)):bA (lJ W v (I i)) fun p=>bA (uC h W p) k:=by
 obtain⟨hi,hxi⟩:=List.getElem?_eq_some_iff.1 hx
 have hxl:x.length=W:=F7 hs x (hxi▸List.getElem_mem hi)
 obtain⟨r,hst,hin⟩:=hs.res
 obtain⟨r1,r2,hr,h2,hd,rfl⟩:=hst
 obtain⟨hl,hr⟩:=hr
 rcases hr with⟨ho,rfl⟩|⟨a,c,rfl,hr⟩
 ·obtain⟨a,c,rfl,hall⟩:=ho
  obtain⟨b,o,cells,rfl,hob,hc,hle⟩:=hall i hi
  refine dK hi ?_
  rw[show pt b (o+i*W) 0=pt b o (i*W) by simp[pt]]
  refine T2 hs hob (l:=x) ?_ hxl hle hk
  rw[hc]
  simp[hx]
 ·have hs':Hs G h (dB W e a c (l.length,l.flatten)::L):=⟨hs.base,hs.old,hs.wf,hs.fr,⟨_,⟨r1,r2,hr,h2,hd,rfl⟩,hin⟩⟩
  obtain⟨b,o,rfl,hs'⟩:=hs'.fM (by omega)
  refine dK hi ?_
  rw[show pt b (o+i*W) 0=pt b o (i*W) by simp[pt]]
  exact aQ hs' hW (vT hl hx).1 hxl hk
theorem sa {n i c:Nat} {a:Option Addr} {cs:List Value} {u:Value} {k:Value→Prop} (hs:Hs G h L) [m:Has (dB 1 e a c) L (n,cs) L'] (hu:cs[i]?=some u) (hk:k u):bA (lJ 1 (.slice a n c) (I i)) fun p=>bA (pN h p) k:=by
 have hs:=m.of hs
 have hl:=hs.A4
 simp only[Nat.mul_one] at hl
 have hi:=(List.getElem?_eq_some_iff.1 hu).1
 obtain⟨b,o,rfl,hs'⟩:=hs.fM (by omega)
 refine dK (by omega) ?_
 rw[show pt b (o+i*1) 0=pt b o i by simp[pt]]
 exact aC hs' hu hk
theorem Hs.xA {A B:HP} (hs:Hs G h (sp [A,B]::L)):Hs G h (A::B::L):=Hs.unpack hs
theorem Hs.zB {A B:HP} (hs:Hs G h (A::B::L)):Hs G h (sp [A,B]::L):=Hs.pack (A:=[A,B]) hs
theorem Hs.wP {A B C:HP} (hs:Hs G h (sp [A,B,C]::L)):Hs G h (A::B::C::L):=Hs.unpack hs
theorem Hs.Ko {A B C:HP} (hs:Hs G h (A::B::C::L)):Hs G h (sp [A,B,C]::L):=Hs.pack (A:=[A,B,C]) hs
theorem Hs.u0 {A B C D:HP} (hs:Hs G h (sp [A,B,C,D]::L)):Hs G h (A::B::C::D::L):=Hs.unpack hs
theorem Hs.Ge {A B C D:HP} (hs:Hs G h (A::B::C::D::L)):Hs G h (sp [A,B,C,D]::L):=Hs.pack (A:=[A,B,C,D]) hs
theorem Em {f:FuncId} {p:List Nat} {n:Nat} {e:Nat→Value} {d l:Nat} {pd:Option Code} {k:Option Code×AH→Prop} (hs:Hs G h L) [m:mI l L ⟨P,f,p,n,e,d,.done,pd⟩ L'] (hk:∀h',Hs G h' L'→k (pd,h')):bA (sS h l) k:=
 po (P:=P) (f:=f) (p:=p) (n:=n) (e:=e) (d:=d) (st:= .done) (pd:=pd) (k:=fun a b=>k (a,b)) (show Hs G h (jY P f p n e d l (.done,pd)::L') from m.of hs) (by decide) hk
theorem gu.fold {α:Type} {xs:List α} {f:α→List Value} {g:FuncId} {first captured:List Value} {A:HP} (hy:gu P K G g first captured A (xs.map f)) {X:List α→HP} {Z:List α→α→HP} {y:Value} {Q:Value→AH→Prop}
  (hs:Hs G h (A::X []::L))
  (step:∀done x h M,done++[x]<+:xs→Hs G h (X done::M)→zV P K y (f x) h fun v h'=>(v= .bool true∧Hs G h' (X (done++[x])::M))∨(v= .bool false∧Hs G h' (Z done x::M)))
  (fin:∀v h',Hs G h' (A::X xs::L)→Q v h') (brk:∀done x v h',done++[x]<+:xs→Hs G h' (A::Z done x::L)→Q v h'):Cl P K g (first++[y]++captured) h Q:=by
 refine hy (fun rest=>rY fun done:List α=>sp [uI (∃ys,xs=done++ys∧rest=ys.map f),X done]) (rY fun dx:List α×α=>sp [uI (dx.1++[dx.2]<+:xs),Z dx.1 dx.2]) y L h Q ?_ ?_ ?_ ?_
 ·refine Hs.kA (Hs.uH ([]:List α) ?_)
  exact wK ⟨xs,rfl,rfl⟩ (Hs.pack (A:=[_]) hs.kA)
 ·intro x rest h M hs
  obtain⟨done,hs1⟩:=hs.zE
  obtain⟨⟨ys,h1,h2⟩,hs2⟩:=fP hs1
  clear hs hs1
  cases ys with
  |nil=>cases h2
  |cons z ys=>
   simp only[List.map_cons,List.cons.injEq] at h2
   obtain⟨e1,e2⟩:=h2
   subst e1;subst e2
   have hp:done++[z]<+:xs:=⟨ys,by rw[h1];simp⟩
   refine(step done z h M hp hs2.unpack).mono fun v h' hv=>hv.imp (fun e=>⟨e.1,?_⟩) (fun e=>⟨e.1,?_⟩)
   ·exact Hs.uH (done++[z]) (wK ⟨ys,by rw[h1];simp,rfl⟩ (Hs.pack (A:=[_]) e.2))
   ·exact Hs.uH (done,z) (wK hp (Hs.pack (A:=[_]) e.2))
 ·intro v h' hs
  obtain⟨done,hs⟩:=hs.kA.zE
  obtain⟨⟨ys,h1,h2⟩,hs⟩:=fP hs
  cases ys with
  |cons z ys=>cases h2
  |nil=>
   rw[List.append_nil] at h1
   subst h1
   exact fin v h' (Hs.kA hs.unpack)
 ·intro v h' hs
  obtain⟨⟨done,x⟩,hs⟩:=hs.kA.zE
  obtain⟨hp,hs⟩:=fP hs
  exact brk done x v h' hp (Hs.kA hs.unpack)
end Go.Ab
end
section
namespace Go.Ab
variable {P:Program} {K:FuncId→List Value→Option hJ} {G:Bg} {h:AH} {L L' M:List HP} {W:Nat} {e:TypeId}
theorem j0 {n i j c:Nat} {a:Option Addr} {cs:List Value} {u:Value} {k:Value→Prop} (hs:Hs G h L) [m:Has (dB W e a c) L (n,cs) L'] (hi:i<n) (hu:cs[i*W+j]?=some u) (hk:k u):bA (lJ W (.slice a n c) (I i)) fun p=>bA (gZ j p) fun q=>bA (pN h q) k:=by
 have hs:=m.of hs
 obtain⟨b,o,rfl,hs'⟩:=hs.fM (by omega)
 refine dK hi (aA ?_)
 rw[show pt b (o+i*W) (0+j)=pt b o (i*W+j) by simp only[pt];grind]
 exact aC hs' hu hk
theorem aAh {n i c:Nat} {a:Option Addr} {cs x:List Value} {k:Value→Prop} (hs:Hs G h L) [m:Has (dB W e a c) L (n,cs) L'] (hW:0<W) (hi:i<n) (hx:(cs.drop (i*W)).take W=x) (hl:x.length=W) (hk:k (.agg ⟨x⟩)):bA (lJ W (.slice a n c) (I i)) fun p=>bA (uC h W p) k:=by
 have hs:=m.of hs
 obtain⟨b,o,rfl,hs'⟩:=hs.fM (by omega)
 refine dK hi ?_
 rw[show pt b (o+i*W) 0=pt b o (i*W) by simp[pt]]
 exact aQ hs' hW hx hl hk
theorem xL {v:Value} {l:List (List Value)} {i:Nat} {x:List Value} {u:Value} {k:Value→Prop} (hs:Hs G h (yK G 1 e v l::L)) (hx:l[i]?=some x) (hu:x[0]?=some u) (hk:k u):bA (lJ 1 v (I i)) fun p=>bA (pN h p) k:=by
 obtain⟨hi,hxi⟩:=List.getElem?_eq_some_iff.1 hx
 have hxl:x.length=1:=F7 hs x (hxi▸List.getElem_mem hi)
 obtain⟨r,hst,hin⟩:=hs.res
 obtain⟨r1,r2,hr,h2,hd,rfl⟩:=hst
 obtain⟨hl,hr⟩:=hr
 rcases hr with⟨ho,rfl⟩|⟨a,c,rfl,hr⟩
 ·obtain⟨a,c,rfl,hall⟩:=ho
  obtain⟨b,o,cells,rfl,hob,hc,hle⟩:=hall i hi
  refine dK hi ?_
  refine xK hs hob (o:=o+i*1) (j:=0) ?_ hk
  grind
 ·have hs':Hs G h (dB 1 e a c (l.length,l.flatten)::L):=⟨hs.base,hs.old,hs.wf,hs.fr,⟨_,⟨r1,r2,hr,h2,hd,rfl⟩,hin⟩⟩
  obtain⟨b,o,rfl,hs'⟩:=hs'.fM (by omega)
  refine dK hi ?_
  rw[show pt b (o+i*1) 0=pt b o i by simp[pt]]
  refine aC hs' ?_ hk
  have h1:=(vT hl hx).1
  grind
theorem aB5 {v:Value} {l:List (List Value)} (hs:Hs G h (yK G W e v l::L)) (_:0<W):fU h W l.length v=some l.flatten:=by
 have hls:=F7 hs
 obtain⟨r,hst,hin⟩:=hs.res
 obtain⟨r1,r2,hr,h2,hd,rfl⟩:=hst
 obtain⟨hl,hr⟩:=hr
 rcases hr with⟨ho,rfl⟩|⟨a,c,rfl,hr⟩
 ·obtain⟨a,c,rfl,hall⟩:=ho
  cases l with
  |nil=>cases a<;>simp[fU]
  |cons x l=>
   obtain⟨b,o,cells,rfl,hob,hc0,hle0⟩:=hall 0 (by simp)
   have hg:=hob.get
   obtain⟨e',fz,x',hg⟩:=hg
   have hgh:h.get b=some (.cells cells e' fz x'):=by rw[hs.Uu hob.lt];exact hg
   have hcells:∀i,i<(x::l).length→(cells.drop (o+i*W)).take W=(x::l).getD i []∧o+i*W≤cells.length:=by
    intro i hi
    obtain⟨b',o',cells',he,hob',hc,hle⟩:=hall i hi
    cases he
    obtain⟨_,_,_,hg'⟩:=hob'.get
    grind
   have key:∀(l:List (List Value)) (o:Nat),(∀x∈l,x.length=W)→(∀i,i<l.length→(cells.drop (o+i*W)).take W=l.getD i []∧o+i*W≤cells.length)→o≤cells.length→o+l.length*W≤cells.length∧(cells.drop o).take (l.length*W)=l.flatten:=by
    intro l
    induction l with
    |nil=>simp_all
    |cons y l ih=>
     intro o hy hi ho
     have h0:=hi 0 (by simp)
     have hyl:=hy y List.mem_cons_self
     simp only[Nat.zero_mul,Nat.add_zero,List.getD_cons_zero] at h0
     have hlen:o+W≤cells.length:=by
      have:=congrArg List.length h0.1
      rw[List.length_take,List.length_drop,hyl] at this
      omega
     obtain⟨g1,g2⟩:=ih (o+W) (fun z hz=>hy z (List.mem_cons_of_mem _ hz)) (fun i hil=>by
      have:=hi (i+1) (by simp;omega)
      grind) hlen
     refine⟨by rw[List.length_cons,Nat.succ_mul];omega,?_⟩
     rw[List.length_cons,Nat.succ_mul,Nat.add_comm,List.take_add,List.drop_drop,h0.1,g2,List.flatten_cons]
   obtain⟨g1,g2⟩:=key (x::l) o hls (fun i hi=>hcells i hi) (by grind)
   simp only[fU,List.length_cons,Nat.succ_ne_zero,if_false,Nat.le_refl,if_true]
   unfold cI
   grind
 ·have hs':Hs G h (dB W e a c (l.length,l.flatten)::L):=⟨hs.base,hs.old,hs.wf,hs.fr,⟨_,⟨r1,r2,hr,h2,hd,rfl⟩,hin⟩⟩
  exact Ya hs'
theorem gx {l:List (List Value)} (hl:∀x∈l,x.length=W):l.flatten.length=l.length*W:=by
 induction l with
 |nil=>simp
 |cons x l ih=>grind
theorem zz {bytes c n m:Nat} {e2:TypeId} {a:Option Addr} {cs:List Value} {v:Value} {l:List (List Value)} {k:Value×AH→Prop} (hs:Hs G h L) [mm:Has (dB W e a c) L (n,cs) L'] [mn:dP (yK G W e2 v l) L' M] (hW:0<W) (hm:l.length=m) (hc:l.flatten.all eF=true) (hsz:(n+m)*(bytes+1)≤2^46)
  (hk:∀a' c' h',Hs G h' (dB W e a' c' (n+m,cs++l.flatten)::L')→k (.slice a' (n+m) c',h')):bA (jB W bytes e h (.slice a n c) v) k:=by
 have hs2:=(mm.of hs).tail.front (yK G W e2 v l)
 subst hm
 refine yf (k:=fun x y=>k (x,y)) hs (m:=l.length) (src:=v) (ns:=l.flatten) ?_ (aB5 hs2 hW) hc (gx (F7 hs2)) hsz hk
 obtain⟨a2,c2,rfl⟩:=uF hs2
 rfl
theorem Hs.lD {L1 L2 L3 L4:List HP} (A B C D:HP) (hs:Hs G h L) [k:dP A L L1] [k2:dP B L1 L2] [k3:dP C L2 L3] [k4:dP D L3 L4]:Hs G h (A::B::C::D::L4):=
 (hs.cJ A B C).perm (((k4.perm.cons C).cons B).cons A)
theorem Hs.aAf {L1:List HP} {A B C D:HP} (E:HP) (hs:Hs G h (A::B::C::D::L)) [k:dP E L L1]:Hs G h (A::B::C::D::E::L1):=hs.perm ((((k.perm.cons D).cons C).cons B).cons A)
theorem Yw {a:Option Addr} {n c:Nat} {k:Value→Prop} (h1:a=none→k (.bool true)) (h2:a≠none→k (.bool false)):bA (Sl .eql (.slice a n c) (.slice none 0 0)) k:=by
 cases a with
 |none=>exact⟨_,rfl,h1 rfl⟩
 |some a=>exact⟨_,rfl,h2 (by simp)⟩
theorem zM {bytes n c:Nat} {a:Option Addr} {cs:List Value} {Q:Value→AH→Prop} (hs:Hs G h L) [m:Has (dB W e a c) L (n,cs) L'] (hsz:n*(bytes+1)≤2^46)
  (hk:∀a' c' h',Hs G h' (dB W e a' c' (n,cs)::dB W e a c (n,cs)::L')→Q (.slice a' n c') h'):
  bA (Sl .eql (.slice a n c) (.slice none 0 0)) fun v0=>Br v0 (Q (.slice none 0 0) h) (bA (nI [] []) fun l2=>xW h W e l2 0 0 fun s3 h1=>bA (jB W bytes e h1 s3 (.slice a n c)) fun r4=>(fun v5 h6=>Q v5 h6) r4.1 r4.2):=by
 have hs:=m.of hs
 refine Yw (fun ha=>eQ ?_) (fun _=>bV (aH (c:=[]) rfl ?_))
 ·subst ha
  have hn:n=0:=by
   rcases Nat.eq_zero_or_pos n with h0|h0
   ·exact h0
   ·obtain⟨b,o,ha,_⟩:=hs.mU h0;cases ha
  subst hn
  have hl:=hs.A4
  simp only[Nat.zero_mul] at hl
  obtain rfl:=List.eq_nil_of_length_eq_zero hl
  exact hk none 0 h (gD hs)
 ·refine dE (W:=W) (n:=0) (c:=0) hs (by simp) rfl rfl ?_
  intro a2 h hs
  refine pW (a:=some a2) (c:=0) (n:=0) (cs:=[]) (a2:=a) (c2:=c) (m:=n) (ns:=cs) hs (by grind) ?_
  grind
theorem Jm {bytes n:Nat} {e2:TypeId} {v:Value} {l:List (List Value)} {Q:Value→AH→Prop} (hs:Hs G h (yK G W e2 v l::L)) (hW:0<W) (hm:l.length=n) (hc:l.flatten.all eF=true) (hsz:n*(bytes+1)≤2^46)
  (hk:∀a' c' h',Hs G h' (dB W e a' c' (n,l.flatten)::yK G W e2 v l::L)→Q (.slice a' n c') h'):
  bA (Sl .eql v (.slice none 0 0)) fun v0=>Br v0 (Q (.slice none 0 0) h) (bA (nI [] []) fun l2=>xW h W e l2 0 0 fun s3 h1=>bA (jB W bytes e h1 s3 v) fun r4=>(fun v5 h6=>Q v5 h6) r4.1 r4.2):=by
 obtain⟨a,c,hv⟩:=uF hs
 have key:a=none→l=[]:=by
  intro ha
  subst ha
  refine hs.Y2 fun r hr=>?_
  obtain⟨hls,⟨⟨a,c',h1,hall⟩,_⟩|⟨a,c',h1,hr⟩⟩:=hr
  ·rw[hv] at h1
   cases h1
   rcases Nat.eq_zero_or_pos l.length with h0|h0
   ·grind
   ·obtain⟨b,o,_,ha,_⟩:=hall 0 h0;cases ha
  ·rw[hv] at h1
   cases h1
   rcases Nat.eq_zero_or_pos l.length with h0|h0
   ·grind
   ·obtain⟨_,_,⟨h1,_⟩|⟨h1,_⟩|⟨_,b,pre,post,ex,ha,_⟩⟩:=hr
    ·grind
    ·grind
    ·cases ha
 have go:bA (nI [] []) fun l2=>xW h W e l2 0 0 fun s3 h1=>bA (jB W bytes e h1 s3 v) fun r4=>(fun v5 h6=>Q v5 h6) r4.1 r4.2:=by
  refine aH (c:=[]) rfl (dE (W:=W) (n:=0) (c:=0) hs (by simp) rfl rfl ?_)
  intro a2 h hs
  refine zz (a:=some a2) (c:=0) (n:=0) (cs:=[]) (e2:=e2) (l:=l) hs hW hm hc (by grind) ?_
  grind
 subst hv
 refine Yw (fun ha=>eQ ?_) (fun _=>bV go)
 obtain rfl:=key ha
 simp only[List.length_nil] at hm
 subst hm
 exact hk none 0 h (gD hs)
theorem Hs.aE1 {α:Type} {A:Nat→α→HP} (d:α):∀(n:Nat) (L:List HP),Hs G h (dD n (fun i=>rY (A i))::L)→∃f:Nat→α,Hs G h (dD n (fun i=>A i (f i))::L):=by
 intro n
 induction n with
 |zero=>intro L hs;exact⟨fun _=>d,hs⟩
 |succ n ih=>
  intro L hs
  have hs:Hs G h (dD n (fun i=>rY (A i))::rY (A n)::L):=by
   have h1:=hs.unpack
   rw[List.range_succ,List.map_append,List.append_assoc] at h1
   exact Hs.pack (A:=(List.range n).map fun i=>rY (A i)) h1
  obtain⟨f,hs⟩:=ih _ hs
  obtain⟨x,hs⟩:=hs.kA.zE
  refine⟨fun i=>if i=n then x else f i,?_⟩
  refine Hs.Si ?_
  simp only[if_true]
  have e:(List.range n).map (fun i=>A i (if i=n then x else f i))=(List.range n).map fun i=>A i (f i):=List.map_congr_left fun i hi=>by
   grind
  unfold dD at hs ⊢
  rw[e]
  exact hs
theorem Hs.aCp {f g:Nat→HP}:∀(n:Nat) (L:List HP),Hs G h (dD n (fun i=>sp [f i,g i])::L)→Hs G h (dD n f::dD n g::L):=by
 intro n
 induction n with
 |zero=>intro L hs;exact Hs.Tl (Hs.Tl hs.tail)
 |succ n ih=>
  intro L hs
  have hs:Hs G h (dD n (fun i=>sp [f i,g i])::sp [f n,g n]::L):=by
   have h1:=hs.unpack
   rw[List.range_succ,List.map_append,List.append_assoc] at h1
   exact Hs.pack (A:=(List.range n).map fun i=>sp [f i,g i]) h1
  have hs:=ih _ hs
  have hs:=(hs.front (sp [f n,g n])).xA
  have hs:Hs G h (f n::dD n f::g n::dD n g::L):=hs.perm ((List.Perm.swap _ _ _).cons _)
  have hs:=Hs.Si hs
  have hs:=hs.cA (g n) (dD n g)
  exact(Hs.Si hs).kA
theorem Hs.Y1 {α:Type} {b o cap n:Nat} {c:Nat→α→List Value} {d:Nat→α→HP} (x0:α) (hl:∀i x,(c i x).length=W) (hc:∀i x,(c i x).all eF=true) (hW:0<W) (h0:0<n)
  (hs:Hs G h (dD n (fun i=>rY fun x=>sp [aE b (o+i*W) (c i x),d i x])::hole G W e (some ⟨b,o,none⟩) cap n b o::L)):
  ∃f:Nat→α,Hs G h (dB W e (some ⟨b,o,none⟩) cap (n,(List.range n).flatMap fun i=>c i (f i))::dD n (fun i=>d i (f i))::L):=by
 obtain⟨f,hs⟩:=Hs.aE1 (A:=fun i x=>sp [aE b (o+i*W) (c i x),d i x]) x0 n _ hs
 refine⟨f,?_⟩
 have hs:=Hs.aCp (f:=fun i=>aE b (o+i*W) (c i (f i))) (g:=fun i=>d i (f i)) n _ hs
 have hs:=xt (c:=fun i=>c i (f i)) (fun i=>hl i (f i)) hW n _ h0 hs
 have hs:=hs.cJ (aE b o ((List.range n).flatMap fun i=>c i (f i))) (hole G W e (some ⟨b,o,none⟩) cap n b o) (dD n (fun i=>d i (f i)))
 exact Hs.mL hs (pJ (fun i=>hl i (f i)) n) (oO (fun i=>hc i (f i)) n)
theorem Hs.Ur {cap n:Nat} {a:Option Addr} {c:Nat→List Value} (hl:∀i,(c i).length=W) (h0:0<n) (hs:Hs G h (dB W e a cap (n,(List.range n).flatMap c)::L)):
  ∃b o,a=some ⟨b,o,none⟩∧Hs G h (dD n (fun i=>aE b (o+i*W) (c i))::hole G W e a cap n b o::L):=by
 obtain⟨b,o,ha,hs⟩:=hs.fM h0
 exact⟨b,o,ha,Xy hl n _ hs⟩
theorem Hs.qg {α:Type} {b o cap n:Nat} {c:Nat→α→List Value} {d:Nat→α→HP} (f:Nat→α) (hl:∀i x,(c i x).length=W) (h0:0<n)
  (hs:Hs G h (dB W e (some ⟨b,o,none⟩) cap (n,(List.range n).flatMap fun i=>c i (f i))::dD n (fun i=>d i (f i))::L)):
  Hs G h (dD n (fun i=>rY fun x=>sp [aE b (o+i*W) (c i x),d i x])::hole G W e (some ⟨b,o,none⟩) cap n b o::L):=by
 obtain⟨b',o',ha,hs⟩:=Hs.Ur (fun i=>hl i (f i)) h0 hs
 cases ha
 have hs:=hs.cA (dD n fun i=>aE b (o+i*W) (c i (f i))) (dD n fun i=>d i (f i))
 exact Hs.aBl (k:=fun i=>rY fun x=>sp [aE b (o+i*W) (c i x),d i x]) (fun i h L hs=>Hs.uH (A:=fun x=>sp [aE b (o+i*W) (c i x),d i x]) (f i) (Hs.pack (A:=[_,_]) hs)) n _ hs
end Go.Ab
end
section
namespace Go.Ab
variable {P:Program} {K:FuncId→List Value→Option hJ} {G:Bg} {h:AH} {L L' M:List HP}
abbrev ME:=Nat×Value×Nat
def pU (es:List ME):List (Value×Value×Nat):=es.map fun x=>(I x.1,x.2.1,x.2.2)
def Pz (n:Int):List ME→Nat→Option (Nat×Value)
 |[],_=>none
 |x::es,i=>if n=(x.1:Int) then some (i,x.2.1) else Pz n es (i+1)
theorem zJ (n:Int):∀(es:List ME) (i:Nat),tH .i64 n (pU es) i=some (Pz n es i)
 |[],i=>rfl
 |x::es,i=>by
  show(if IntKind.i64=IntKind.i64 then(if n=(x.1:Int) then some (some (i,x.2.1)) else tH .i64 n (pU es) (i+1)) else none)=_
  rw[if_pos rfl,zJ n es (i+1)]
  by_cases e:n=(x.1:Int)
  ·rw[if_pos e,Pz,if_pos e]
  ·rw[if_neg e,Pz,if_neg e]
structure MOk (es:List ME) (clock:Nat):Prop where
 nd:(es.map (·.1)).Nodup
 st:∀x∈es,x.2.2<clock
 sd:(es.map (·.2.2)).Nodup
 kb:∀x∈es,x.1<16
def jR (es:List ME) (k:Nat):Option Value:=(Pz k es 0).map (·.2)
theorem Np {n:Int}:∀{es:List ME} {i j:Nat} {v:Value},Pz n es i=some (j,v)→i≤j∧∃x,es[j - i]?=some x∧(x.1:Int)=n∧x.2.1=v
 |[],i,j,v,h=>by cases h
 |x::es,i,j,v,h=>by
  unfold Pz at h
  split at h
  ·grind
  ·obtain⟨h1,y,h2,h3,h4⟩:=Np h
   grind
theorem Mo {n:Int}:∀{es:List ME} {i:Nat},(Pz n es (i+1)).map (·.2)=(Pz n es i).map (·.2)
 |[],_=>rfl
 |x::es,i=>by
  unfold Pz
  split
  ·rfl
  ·exact Mo
theorem gT {x:ME} {es:List ME} {k:Nat}:jR (x::es) k=if k=x.1 then some x.2.1 else jR es k:=by
 unfold jR
 rw[Pz]
 by_cases e:k=x.1
 ·grind
 ·rw[if_neg (by omega),if_neg e];exact Mo
theorem fx {x:ME} {es:List ME} {k:Nat}:jR (es++[x]) k=(jR es k).or (if k=x.1 then some x.2.1 else none):=by
 induction es with
 |nil=>rw[List.nil_append,gT];simp[jR,Pz]
 |cons y es ih=>rw[List.cons_append,gT,gT,ih];split<;>simp
theorem vH {es:List ME} {k:Nat}:jR es k=none↔k∉es.map (·.1):=by
 induction es with
 |nil=>simp[jR,Pz]
 |cons y es ih=>rw[gT];split<;>simp_all
theorem Z0 {es:List ME} {i:Nat} {x:ME} {v:Value} {k:Nat} (hi:es[i]?=some x) (hn:(es.map (·.1)).Nodup):jR (es.modify i fun e=>(x.1,v,e.2.2)) k=if k=x.1 then some v else jR es k:=by
 induction es generalizing i with
 |nil=>simp at hi
 |cons y es ih=>
  simp only[List.map_cons,List.nodup_cons] at hn
  cases i with
  |zero=>
   simp only[List.getElem?_cons_zero,Option.some.injEq] at hi
   subst hi
   rw[List.modify_zero_cons,gT,gT]
   split<;>rfl
  |succ i=>
   simp only[List.getElem?_cons_succ] at hi
   have hx:x.1≠y.1:=fun e=>hn.1 (e▸List.mem_map.2 ⟨x,List.mem_of_getElem? hi,rfl⟩)
   rw[List.modify_succ_cons,gT,gT,ih hi hn.2]
   grind
theorem Zz {es:List ME} {i:Nat} {x:ME} {k:Nat} (hi:es[i]?=some x) (hn:(es.map (·.1)).Nodup):jR (es.eraseIdx i) k=if k=x.1 then none else jR es k:=by
 induction es generalizing i with
 |nil=>simp at hi
 |cons y es ih=>
  simp only[List.map_cons,List.nodup_cons] at hn
  cases i with
  |zero=>
   simp only[List.getElem?_cons_zero,Option.some.injEq] at hi
   subst hi
   rw[List.eraseIdx_cons_zero,gT]
   split
   ·rename_i e;subst e;exact vH.2 hn.1
   ·rfl
  |succ i=>
   simp only[List.getElem?_cons_succ] at hi
   have hx:x.1≠y.1:=fun e=>hn.1 (e▸List.mem_map.2 ⟨x,List.mem_of_getElem? hi,rfl⟩)
   rw[List.eraseIdx_cons_succ,gT,gT,ih hi hn.2]
   grind
def H5 {α:Type} (f:Nat→α) (i:Nat) (v:α):Nat→α:=fun j=>if j=i then v else f j
def gX (b:Nat) (f:Nat→Option Value):HP:=rY fun x:List ME×Nat=>sp [uI (MOk x.1 x.2∧∀k,jR x.1 k=f k),ot b (.map (pU x.1) x.2)]
theorem xD {b:Nat} {f:Nat→Option Value} (hs:Hs G h (gX b f::L)):∃es cl,(MOk es cl∧∀k,jR es k=f k)∧Hs G h (ot b (.map (pU es) cl)::L):=by
 obtain⟨⟨es,cl⟩,hs⟩:=hs.zE
 obtain⟨hp,hs⟩:=(Hs.unpack hs).bq
 exact⟨es,cl,hp,hs⟩
theorem qO {b:Nat} {f:Nat→Option Value} {es:List ME} {cl:Nat} (h1:MOk es cl) (h2:∀k,jR es k=f k) (hs:Hs G h (ot b (.map (pU es) cl)::L)):Hs G h (gX b f::L):=
 Hs.uH (A:=fun x:List ME×Nat=>sp [uI (MOk x.1 x.2∧∀k,jR x.1 k=f k),ot b (.map (pU x.1) x.2)]) (es,cl) (Hs.pack (A:=[_,_]) (Hs.N9 ⟨h1,h2⟩ hs))
theorem su {k:Nat→AH→Prop} (hs:Hs G h L) (hk:∀p h',Hs G h' (gX p (fun _=>none)::L)→k p h'):Dp h (.map [] 0) k:=
 hk _ _ (qO (es:=[]) (cl:=0) ⟨by simp,by simp,by simp,by simp⟩ (fun _=>rfl) (hs.zk rfl))
theorem Ij {b:Nat} {o:lG} (ho:Hf o=true) (hs:Hs G h (ot b o::L)):h.get b=some o∧h.base≤b:=⟨(Hs.Ck (o':=o) ho hs).1,(Hs.Ck (o':=o) ho hs).2.1⟩
theorem aFw {b:Nat} {f:Nat→Option Value} {z:Value} {n:Int} {ok:Bool} {k:Value→Prop} (hs:Hs G h L) [m:Has (gX b) L f L']
  (hk:k (match(if 0≤n then f n.toNat else none) with
   |some v=>if ok then .tuple ⟨[v,.bool true]⟩ else v
   |none=>if ok then .tuple ⟨[z,.bool false]⟩ else z)):bA (lkV z h (fJ b) (I n) ok) k:=by
 obtain⟨es,cl,⟨h1,h2⟩,hs⟩:=xD (m.of hs)
 obtain⟨hg,_⟩:=Ij rfl hs
 have hm:Wi h (fJ b)=some (pU es):=by unfold Wi fJ;simp only[hg]
 have e:(Pz n es 0).map (·.2)=if 0≤n then f n.toNat else none:=by
  split
  ·rename_i h0
   have:=h2 n.toNat
   unfold jR at this
   grind
  ·cases hx:Pz n es 0 with
   |none=>rfl
   |some p=>
    obtain⟨_,x,_,h4,_⟩:=Np (j:=p.1) (v:=p.2) hx
    omega
 rw[←e] at hk
 unfold lkV
 rw[hm]
 simp only[zJ]
 cases hx:Pz n es 0 with
 |none=>simp_all
 |some p=>simp_all
theorem aAj {es:List ME} {i:Nat} {x:ME} {v:Value} (hi:es[i]?=some x):(es.modify i fun e=>(x.1,v,e.2.2)).map (·.1)=es.map (·.1)∧(es.modify i fun e=>(x.1,v,e.2.2)).map (·.2.2)=es.map (·.2.2):=by
 induction es generalizing i with
 |nil=>simp at hi
 |cons y es ih=>
  grind
theorem je {es:List ME} {i:Nat} {x:ME} {v:Value} (hi:es[i]?=some x):(pU es).modify i (fun e=>(I x.1,v,e.2.2))=pU (es.modify i fun e=>(x.1,v,e.2.2)):=by
 unfold pU
 induction es generalizing i with
 |nil=>simp at hi
 |cons y es ih=>
  grind
theorem Qd:∀{es:List ME} {i:Nat},(pU es).eraseIdx i=pU (es.eraseIdx i)
 |[],_=>rfl
 |x::es,0=>rfl
 |x::es,i+1=>by
  show(_::(pU es).eraseIdx i)=(_::pU (es.eraseIdx i))
  rw[Qd]
theorem Nc {b:Nat} {f:Nat→Option Value} {i:Nat} {v:Value} {k:AH→Prop} (hs:Hs G h L) [m:Has (gX b) L f L'] (hi:i<16) (hk:∀h',Hs G h' (gX b (H5 f i (some v))::L')→k h'):bA (Lk h (fJ b) (I i) v) k:=by
 obtain⟨es,cl,⟨h1,h2⟩,hs⟩:=xD (m.of hs)
 obtain⟨hg,hb⟩:=Ij rfl hs
 unfold Lk fJ
 simp only[hg,if_neg (show ¬b<h.base by omega)]
 unfold uy
 simp only[zJ]
 cases hx:Pz (i:Int) es 0 with
 |none=>
  have hn:jR es i=none:=by unfold jR;rw[hx];rfl
  refine⟨_,rfl,hk _ ?_⟩
  have e:pU es++[(Value.int .i64 (i:Int),v,cl)]=pU (es++[(i,v,cl)]):=by unfold pU;grind
  rw[e]
  refine qO ⟨?_,?_,?_,?_⟩ ?_ (Hs.Ck rfl hs).2.2
  ·rw[List.map_append,List.nodup_append]
   refine⟨h1.nd,by simp,?_⟩
   intro a ha c hc e
   have:c=i:=by simpa using hc
   subst e;subst this
   exact vH.1 hn ha
  ·intro x hx
   rcases List.mem_append.1 hx with hx|hx
   ·have:=h1.st x hx;omega
   grind
  ·rw[List.map_append,List.nodup_append]
   refine⟨h1.sd,by simp,?_⟩
   intro a ha c hc e
   have hc:c=cl:=by simpa using hc
   obtain⟨x,hx,rfl⟩:=List.mem_map.1 ha
   have:=h1.st x hx
   omega
  ·intro x hx
   rcases List.mem_append.1 hx with hx|hx
   ·exact h1.kb x hx
   grind
  ·intro j
   rw[fx]
   unfold H5
   grind
 |some p=>
  obtain⟨_,x,h3,h4,h5⟩:=Np (j:=p.1) (v:=p.2) hx
  rw[Nat.sub_zero] at h3
  have hxi:x.1=i:=by omega
  refine⟨_,rfl,hk _ ?_⟩
  have:=je (v:=v) h3
  rw[hxi] at this
  rw[this]
  obtain⟨n1,n2⟩:=aAj (v:=v) h3
  rw[hxi] at n1 n2
  refine qO ⟨by rw[n1];exact h1.nd,?_,by rw[n2];exact h1.sd,?_⟩ ?_ (Hs.Ck rfl hs).2.2
  ·intro y hy
   have:y.2.2∈(es.modify p.1 fun e=>(i,v,e.2.2)).map (·.2.2):=List.mem_map.2 ⟨y,hy,rfl⟩
   rw[n2] at this
   obtain⟨z,hz,hzy⟩:=List.mem_map.1 this
   rw[←hzy];exact h1.st z hz
  ·intro y hy
   have:y.1∈(es.modify p.1 fun e=>(i,v,e.2.2)).map (·.1):=List.mem_map.2 ⟨y,hy,rfl⟩
   rw[n1] at this
   obtain⟨z,hz,hzy⟩:=List.mem_map.1 this
   rw[←hzy];exact h1.kb z hz
  ·intro j
   have:=Z0 (v:=v) (k:=j) h3 h1.nd
   rw[hxi] at this
   rw[this]
   unfold H5
   rw[h2 j]
theorem aAo {b:Nat} {f:Nat→Option Value} {i:Nat} {k:AH→Prop} (hs:Hs G h L) [m:Has (gX b) L f L'] (hk:∀h',Hs G h' (gX b (H5 f i none)::L')→k h'):bA (Kz h (fJ b) (I i)) k:=by
 obtain⟨es,cl,⟨h1,h2⟩,hs⟩:=xD (m.of hs)
 obtain⟨hg,hb⟩:=Ij rfl hs
 unfold Kz fJ
 simp only[hg,if_neg (show ¬b<h.base by omega),zJ]
 cases hx:Pz (i:Int) es 0 with
 |none=>
  have hn:jR es i=none:=by unfold jR;rw[hx];rfl
  refine⟨_,rfl,hk _ (qO h1 (fun j=>?_) (Hs.Ck rfl hs).2.2)⟩
  unfold H5
  grind
 |some p=>
  obtain⟨_,x,h3,h4,h5⟩:=Np (j:=p.1) (v:=p.2) hx
  rw[Nat.sub_zero] at h3
  have hxi:x.1=i:=by omega
  have e:(pU es).eraseIdx p.1=pU (es.eraseIdx p.1):=Qd
  refine⟨_,rfl,hk _ ?_⟩
  rw[e]
  have hsub:=List.eraseIdx_sublist es p.1
  refine qO ⟨(hsub.map _).nodup h1.nd,fun y hy=>h1.st y (hsub.mem hy),(hsub.map _).nodup h1.sd,fun y hy=>h1.kb y (hsub.mem hy)⟩ (fun j=>?_) (Hs.Ck rfl hs).2.2
  rw[Zz h3 h1.nd,hxi,h2 j]
  rfl
theorem aAg {b:Nat} {f:Nat→Option Value} {k:Value→Prop} (hs:Hs G h L) [m:Has (gX b) L f L'] (hk:∀n:Nat,k (I n)):bA (Zp h (fJ b)) k:=by
 obtain⟨es,cl,_,hs⟩:=xD (m.of hs)
 obtain⟨hg,_⟩:=Ij rfl hs
 refine⟨I (pU es).length,?_,hk _⟩
 unfold Zp Wi fJ
 simp only[hg]
 rfl
theorem Qm {x y:Int} {l:List Int}:y∈Ax x l↔y=x∨y∈l:=by
 induction l with
 |nil=>simp[Ax]
 |cons a l ih=>unfold Ax;grind
theorem K5 {y:Int} {l:List Int}:y∈pK l↔y∈l:=by
 induction l with
 |nil=>simp[pK]
 |cons a l ih=>simp only[pK,Qm,ih,List.mem_cons]
theorem Qh {x:Int} {l:List Int} (h:l.Pairwise (·<·)) (hx:x∉l):(Ax x l).Pairwise (·<·):=by
 induction l with
 |nil=>simp[Ax]
 |cons a l ih=>
  simp only[List.mem_cons,not_or] at hx
  obtain⟨h1,h2⟩:=List.pairwise_cons.1 h
  unfold Ax
  split
  ·refine List.pairwise_cons.2 ⟨fun y hy=>?_,h⟩
   grind
  ·refine List.pairwise_cons.2 ⟨fun y hy=>?_,ih h2 hx.2⟩
   rcases Qm.1 hy with rfl|hy
   ·omega
   ·exact h1 y hy
theorem M5 {l:List Int} (h:l.Nodup):(pK l).Pairwise (·<·):=by
 induction l with
 |nil=>simp[pK]
 |cons a l ih=>
  obtain⟨h1,h2⟩:=List.nodup_cons.1 h
  exact Qh (ih h2) fun e=>h1 (K5.1 e)
theorem Vk {l m:List Int} (h1:l.Pairwise (·<·)) (h2:m.Pairwise (·<·)) (h:∀x,x∈l↔x∈m):l=m:=by
 induction l generalizing m with
 |nil=>
  cases m with
  |nil=>rfl
  |cons y m=>exact absurd ((h y).2 (by simp)) (by simp)
 |cons x l ih=>
  cases m with
  |nil=>exact absurd ((h x).1 (by simp)) (by simp)
  |cons y m=>
   obtain⟨a1,a2⟩:=List.pairwise_cons.1 h1
   obtain⟨b1,b2⟩:=List.pairwise_cons.1 h2
   have e:x=y:=by
    have hx:=(h x).1 (by simp)
    have hy:=(h y).2 (by simp)
    rcases List.mem_cons.1 hx with e|hx
    ·exact e
    ·rcases List.mem_cons.1 hy with e|hy
     ·exact e.symm
     ·have:=b1 x hx;have:=a1 y hy;omega
   grind
def Ak (f:Nat→Option Value):List Nat:=(List.range 16).filter fun k=>(f k).isSome
theorem Xa (es:List ME):keysOf (pU es)=some (es.map fun x=>(x.1:Int)):=by
 induction es with
 |nil=>rfl
 |cons x es ih=>
  show(keysOf (pU es)).map (fun l=>(x.1:Int)::l)=_
  rw[ih];rfl
theorem Pf (n:Nat):(List.range n).Pairwise (·<·):=List.pairwise_lt_range
theorem E5 {es:List ME} {cl:Nat} {f:Nat→Option Value} (h1:MOk es cl) (h2:∀k,jR es k=f k):pK (es.map fun x=>(x.1:Int))=(Ak f).map fun k:Nat=>(k:Int):=by
 refine Vk (M5 ?_) ?_ fun x=>?_
 ·have:=h1.nd
  rw[show(es.map fun x=>(x.1:Int))=(es.map (·.1)).map fun k:Nat=>(k:Int) by rw[List.map_map];rfl]
  exact List.Pairwise.map _ (fun a b hab=>by omega) this
 ·refine List.Pairwise.map (R:=(·<·)) _ (fun a b hab=>by omega) ?_
  exact List.Pairwise.filter _ (Pf 16)
 ·rw[K5]
  simp only[List.mem_map,Ak,List.mem_filter,List.mem_range]
  constructor
  ·rintro ⟨y,hy,rfl⟩
   refine⟨y.1,⟨h1.kb y hy,?_⟩,rfl⟩
   rw[←h2]
   cases hl:jR es y.1 with
   |none=>exact absurd (List.mem_map.2 ⟨y,hy,rfl⟩) (vH.1 hl)
   |some v=>rfl
  ·rintro ⟨k,⟨_,hk⟩,rfl⟩
   rw[←h2] at hk
   have:k∈es.map (·.1):=by
    refine Classical.byContradiction fun hc=>?_
    rw[vH.2 hc] at hk;cases hk
   grind
theorem I1 {cl:Nat}:∀{es:List ME},(∀x∈es,x.2.2<cl)→(es.map (·.2.2)).Nodup→zC cl (pU es)=true
 |[],_,_=>rfl
 |x::es,h,hn=>by
  simp only[List.map_cons,List.nodup_cons] at hn
  have ih:=I1 (fun y hy=>h y (List.mem_cons_of_mem _ hy)) hn.2
  show(Nat.blt x.2.2 cl&&((pU es).all fun y=> !Nat.beq y.2.2 x.2.2)&&zC cl (pU es))=true
  rw[ih,Bool.and_true,Bool.and_eq_true]
  refine⟨Nat.ble_eq_true_of_le (h x (by simp)),?_⟩
  rw[List.all_eq_true]
  intro y hy
  obtain⟨z,hz,rfl⟩:=List.mem_map.1 hy
  have:z.2.2≠x.2.2:=fun e=>hn.1 (e▸List.mem_map.2 ⟨z,hz,rfl⟩)
  cases hb:Nat.beq z.2.2 x.2.2 with
  |false=>rfl
  |true=>simp_all
theorem R4:∀{l:List Nat},(∀x∈l,x<16)→l.Nodup→Kv (l.map fun k:Nat=>(k:Int))=true
 |[],_,_=>rfl
 |x::l,h,hn=>by
  obtain⟨h1,h2⟩:=List.nodup_cons.1 hn
  have ih:=R4 (fun y hy=>h y (List.mem_cons_of_mem _ hy)) h2
  show((Lit.int .i64 (x:Int)).wf&&((l.map fun k:Nat=>(k:Int)).all fun y=> !(y==(x:Int)))&&Kv (l.map fun k:Nat=>(k:Int)))=true
  rw[ih,Bool.and_true,Bool.and_eq_true]
  refine⟨?_,?_⟩
  ·have:x=0∨x=1∨x=2∨x=3∨x=4∨x=5∨x=6∨x=7∨x=8∨x=9∨x=10∨x=11∨x=12∨x=13∨x=14∨x=15:=by have:=h x (by simp);omega
   rcases this with rfl|rfl|rfl|rfl|rfl|rfl|rfl|rfl|rfl|rfl|rfl|rfl|rfl|rfl|rfl|rfl<;>rfl
  grind
theorem pf {x:Int} {l:List Int}:(Ax x l).length=l.length+1:=by
 induction l with
 |nil=>rfl
 |cons a l ih=>unfold Ax;split<;>simp[ih]
theorem fy {l:List Int}:(pK l).length=l.length:=by
 induction l with
 |nil=>rfl
 |cons a l ih=>rw[pK,pf,ih];rfl
theorem we {es:List ME} {cl:Nat} (h1:MOk es cl):es.length≤16:=by
 have h:=congrArg List.length (E5 (f:=jR es) h1 fun _=>rfl)
 rw[fy,List.length_map,List.length_map] at h
 rw[h]
 have:=List.length_filter_le (fun k=>(jR es k).isSome) (List.range 16)
 rw[List.length_range] at this
 exact this
theorem X5 {f:FuncId} {args:List Value} {F:AH→Option (Value×AH)} {v:Value} {h':AH} {Q:Value→AH→Prop} (hK:K f args=some (.host F)) (hF:F h=some (v,h')) (hq:Q v h'):Cl P K f args h Q:=by
 refine⟨1,(⟨.iI,[],[],v⟩,h'),?_,hq⟩
 show iL P K (fun t h=>run P K 0 t h) f args h=_
 unfold iL
 rw[hK]
 simp only[hF,Option.map_some]
theorem kh {f:FuncId} {args:List Value} {b c:Nat} {e e2:TypeId} {fm:Nat→Option Value} {Q:Value→AH→Prop} (hK:K f args=some (.host (yY e c))) (hs:Hs G h (aE c 0 [fJ b]::mt c (e2,true,1)::gX b fm::L))
  (hk:∀a cp h',Hs G h' (dB 1 e a cp ((Ak fm).length,(Ak fm).map fun k:Nat=>I k)::gX b fm::L)→Q (.slice a (Ak fm).length cp) h'):Cl P K f args h Q:=by
 have hs0:=hs
 obtain⟨es,cl,⟨h1,h2⟩,hsm⟩:=xD ((hs.perm ((List.Perm.swap _ _ _).cons _)).perm (List.Perm.swap _ _ _))
 obtain⟨hg,hb⟩:=Ij rfl hsm
 have hgc:∃e',h.get c=some (.cells [fJ b] e' (0,0) true):=by
  obtain⟨r,r2,hr,hr2,hd,hi,hi2⟩:=hs0.fst
  obtain⟨r3,r4,hr3,hr4,hd2,rfl⟩:=hr2
  cases hr;cases hr3
  obtain⟨i1,i2⟩:=(cF.fA hd2).1 hi2
  obtain⟨_,c',h3,h4⟩:=i1.mt c e2 true 1 (by simp)
  obtain⟨_,c2,e3,x3,h5,h6⟩:=hi.cell c 0 (fJ b) (by simp[oI])
  rw[h3] at h5;cases h5
  refine⟨e2,?_⟩
  rw[h3]
  obtain⟨v,rfl⟩:=List.length_eq_one_iff.1 h4
  simp only[List.getElem?_cons_zero,Option.some.injEq] at h6
  rw[h6]
 obtain⟨e',hgc⟩:=hgc
 have hks:=E5 h1 h2
 have hF:yY e c h=some (Im h e (pK (es.map fun x=>(x.1:Int)))):=by
  unfold yY
  simp only[hgc,fJ,hg,Xa]
  rw[if_pos]
  rw[Bool.and_eq_true,Bool.and_eq_true]
  refine⟨⟨?_,I1 h1.st h1.sd⟩,?_⟩
  ·have:=we h1
   rw[List.length_map]
   exact Nat.ble_eq_true_of_le (by omega)
  ·rw[show(es.map fun x=>(x.1:Int))=(es.map (·.1)).map fun k:Nat=>(k:Int) by rw[List.map_map];rfl]
   exact R4 (fun x hx=>by obtain⟨y,hy,rfl⟩:=List.mem_map.1 hx;exact h1.kb y hy) h1.nd
 rw[hks] at hF
 have hsL:Hs G h (gX b fm::L):=hs0.tail.tail
 unfold Im at hF
 cases hkf:Ak fm with
 |nil=>
  rw[hkf] at hF
  refine X5 hK hF ?_
  have:=hk none 0 h
  rw[hkf] at this
  exact this (gD hsL)
 |cons x l=>
  rw[hkf] at hF
  simp only[List.map_cons,List.isEmpty_cons,Bool.false_eq_true,if_false] at hF
  refine X5 hK hF ?_
  have hk2:=hk (some ⟨h.next,0,none⟩) (Ak fm).length (h.alloc (.cells (((Ak fm).map fun k:Nat=>(k:Int)).map (Value.int .i64)) e (0,0) false))
  rw[hkf] at hk2
  simp only[List.length_cons,List.map_cons,List.length_map] at hk2 ⊢
  refine hk2 ?_
  have hn:=hsL.new (c:=Value.int .i64 (x:Int)::((l.map fun k:Nat=>(k:Int)).map (Value.int .i64))) (e:=e) (x:=false)
  refine Hs.join (A:=[_,_]) hn fun q hq=>?_
  have hq:=rQ hq
  refine⟨by simp,?_,.inr (.inr ⟨Nat.le_refl _,h.next,[],[],false,rfl,by simp,?_⟩)⟩
  ·simp[eF]
  ·rw[hq]
   simp[List.map_map,Function.comp_def]
end Go.Ab
end
section
namespace Go.Ab
variable {P:Program} {K:FuncId→List Value→Option hJ} {G:Bg} {h:AH} {L L' M:List HP}
class Fx {α:Type} (enc:α→List Value) (W:outParam Nat):Prop where
 len:∀x,(enc x).length=W
 cel:∀x,(enc x).all eF=true
def eL {α:Type} (enc:α→List Value) (l:List α):List Value:=l.flatMap enc
section
variable {α:Type} {enc:α→List Value} {W:Nat} [F:Fx enc W]
omit F in
@[simp] theorem aC6:eL enc []=[]:=rfl
omit F in
theorem nB {x:α} {l:List α}:eL enc (x::l)=enc x++eL enc l:=rfl
omit F in
theorem r6 {l m:List α}:eL enc (l++m)=eL enc l++eL enc m:=by simp[eL]
theorem Ba {l:List α}:(eL enc l).length=l.length*W:=by
 induction l with
 |nil=>simp
 |cons x l ih=>rw[nB,List.length_append,F.len,ih,List.length_cons,Nat.succ_mul];omega
include F in
theorem Hc {l:List α}:(eL enc l).all eF=true:=by
 induction l with
 |nil=>rfl
 |cons x l ih=>rw[nB,List.all_append,F.cel,ih];rfl
theorem Og {l:List α}:∀{i:Nat},(eL enc l).drop (i*W)=eL enc (l.drop i):=by
 induction l with
 |nil=>intro i;simp
 |cons x l ih=>
  intro i
  cases i with
  |zero=>simp
  |succ i=>
   rw[nB,List.drop_succ_cons,Nat.succ_mul,List.drop_append,List.drop_of_length_le (by rw[F.len];omega),F.len,show i*W+W - W=i*W by omega,ih,List.nil_append]
theorem Yq {l:List α}:∀{i:Nat},(eL enc l).take (i*W)=eL enc (l.take i):=by
 induction l with
 |nil=>intro i;simp
 |cons x l ih=>
  intro i
  cases i with
  |zero=>simp
  |succ i=>
   rw[nB,List.take_succ_cons,nB,Nat.succ_mul,List.take_append,List.take_of_length_le (by rw[F.len];omega),F.len,show i*W+W - W=i*W by omega,ih]
theorem jh {l:List α} {i:Nat} {x:α} (h:l[i]?=some x):((eL enc l).drop (i*W)).take W=enc x:=by
 obtain⟨hi,he⟩:=List.getElem?_eq_some_iff.1 h
 rw[Og,List.drop_eq_getElem_cons hi,nB,he]
 exact List.take_left' (F.len x)
theorem Ps {l:List α} {i j:Nat} {x:α} {v:Value} (h:l[i]?=some x) (hv:(enc x)[j]?=some v):(eL enc l)[i*W+j]?=some v:=by
 have h1:=jh (enc:=enc) h
 grind
theorem mo {l:List α} {i:Nat} {y:α} (hi:i<l.length):dL (eL enc l) (i*W) (enc y)=eL enc (l.set i y):=by
 rw[←pI _ _ _ (by rw[Ba,F.len,←Nat.succ_mul];exact Nat.mul_le_mul_right _ hi)]
 unfold bY
 rw[Yq,F.len,←Nat.succ_mul,Og,List.set_eq_take_append_cons_drop,if_pos hi,r6,nB,List.append_assoc]
def ls (enc:α→List Value) (W:Nat) (e:TypeId) (a:Option Addr) (c:Nat) (l:List α):HP:=dB W e a c (l.length,eL enc l)
omit F in
theorem pV [Fx enc W] {e:TypeId} (hs:Hs G h L):Hs G h (ls enc W e none 0 []::L):=gD hs
variable {e:TypeId} {a:Option Addr} {c:Nat} {l:List α}
omit F in
theorem nL {x:α} (hs:Hs G h (dB W e a c (1,enc x)::L)):Hs G h (ls enc W e a c [x]::L):=by
 unfold ls
 rw[nB,aC6,List.append_nil]
 exact hs
theorem tM {i:Int} {x:α} {k:Value→Prop} (hs:Hs G h L) [m:Has (ls enc W e a c) L l L'] (hW:0<W) (h0:0≤i) (hx:l[i.toNat]?=some x) (hk:k (.agg ⟨enc x⟩)):bA (lJ W (.slice a l.length c) (I i)) fun p=>bA (uC h W p) k:=by
 obtain⟨j,rfl⟩:=Int.eq_ofNat_of_zero_le h0
 rw[Int.toNat_natCast] at hx
 exact aAh (e:=e) (cs:=eL enc l) (show Hs G h (dB W e a c (l.length,eL enc l)::L') from m.of hs) hW (List.getElem?_eq_some_iff.1 hx).1 (jh hx) (F.len x) hk
theorem nw {i:Int} {j:Nat} {x:α} {u:Value} {k:Value→Prop} (hs:Hs G h L) [m:Has (ls enc W e a c) L l L'] (h0:0≤i) (hx:l[i.toNat]?=some x) (hu:(enc x)[j]?=some u) (hk:k u):bA (lJ W (.slice a l.length c) (I i)) fun p=>bA (gZ j p) fun q=>bA (pN h q) k:=by
 obtain⟨n,rfl⟩:=Int.eq_ofNat_of_zero_le h0
 rw[Int.toNat_natCast] at hx
 exact j0 (e:=e) (cs:=eL enc l) (show Hs G h (dB W e a c (l.length,eL enc l)::L') from m.of hs) (List.getElem?_eq_some_iff.1 hx).1 (Ps hx hu) hk
theorem Xo {i:Int} {y:α} {k:AH→Prop} (hs:Hs G h L) [m:Has (ls enc W e a c) L l L'] (hW:0<W) (h0:0≤i) (hi:i<l.length) (hk:∀h',Hs G h' (ls enc W e a c (l.set i.toNat y)::L')→k h'):bA (lJ W (.slice a l.length c) (I i)) fun p=>bA (uU h W p (.agg ⟨enc y⟩)) k:=by
 obtain⟨n,rfl⟩:=Int.eq_ofNat_of_zero_le h0
 have hn:n<l.length:=by omega
 have hs:Hs G h (dB W e a c (l.length,eL enc l)::L'):=m.of hs
 obtain⟨b,o,rfl,hs'⟩:=hs.fM (by omega)
 refine dK hn ?_
 rw[show pt b (o+n*W) 0=pt b o (n*W) by simp[pt]]
 have hle:n*W+W≤(eL enc l).length:=by rw[Ba,←Nat.succ_mul];exact Nat.mul_le_mul_right _ hn
 refine bI hs' (F.len y) (Nat.ble_eq_true_of_le hle) (F.cel y) (Nat.ble_eq_true_of_le (by omega)) fun h' hs''=>?_
 rw[mo hn] at hs''
 have:=hk h'
 rw[Int.toNat_natCast] at this
 refine this ?_
 unfold ls
 rw[List.length_set]
 exact Hs.mL hs'' (by rw[Ba,List.length_set]) Hc
omit F in
theorem kB [Fx enc W] {bytes c2:Nat} {a2:Option Addr} {l2:List α} {k:Value×AH→Prop} (hs:Hs G h L) [m:Has (ls enc W e a c) L l L'] [m2:Has (ls enc W e a2 c2) L' l2 M] (hsz:(l.length+l2.length)*(bytes+1)≤2^46)
  (hk:∀a' c' h',Hs G h' (ls enc W e a' c' (l++l2)::ls enc W e a2 c2 l2::M)→k (.slice a' (l++l2).length c',h')):bA (jB W bytes e h (.slice a l.length c) (.slice a2 l2.length c2)) k:=by
 have hs1:=m.of hs
 have hs2:Hs G h (ls enc W e a2 c2 l2::ls enc W e a c l::M):=(hs1.perm ((m2.perm.cons _).trans (List.Perm.swap _ _ _)))
 have hs3:Hs G h (dB W e a c (l.length,eL enc l)::dB W e a2 c2 (l2.length,eL enc l2)::M):=hs2.kA
 refine pW hs3 hsz fun a' c' h' hs'=>?_
 have:=hk a' c' h'
 unfold ls at this
 rw[List.length_append,r6] at this
 exact this hs'
end
theorem aC0 {a b:Int} {k:Value→Prop} (hk:k (I (if b<a then b else a))):bA (Be (I a) (I b)) k:=⟨_,rfl,hk⟩
theorem ue {α:Type} {enc:α→List Value} {W:Nat} {e:TypeId} {a:Option Addr} {c i j:Nat} {l:List α} {k:Value→Prop} (hs:Hs G h L) [m:Has (ls enc W e a c) L l L'] (hi:i<l.length) (hij:i≤j) (hj:j≤l.length)
  (hk:∀b o,a=some ⟨b,o,none⟩→k (.slice (some ⟨b,o+i*W,none⟩) (j - i) (c - i))):bA (wY W h (.slice a l.length c) (some (I i)) (some (I j)) none) k:=by
 have hs:Hs G h (dB W e a c (l.length,eL enc l)::L'):=m.of hs
 have hx:l.length≤c∧∃b o,a=some ⟨b,o,none⟩:=hs.Y2 fun r hr=>by
  obtain⟨_,_,⟨h1,_⟩|⟨h1,_⟩|⟨h1,b,pre,post,ex,ha,_⟩⟩:=hr
  ·grind
  ·grind
  grind
 obtain⟨hc,b,o,rfl⟩:=hx
 refine⟨_,?_,hk b o rfl⟩
 have e1:jZ none c c=some c:=by simp[jZ]
 have e2:jZ (some (I j)) l.length c=some j:=by simp[jZ];omega
 have e3:jZ (some (I i)) 0 j=some i:=by simp[jZ];omega
 unfold wY
 simp only[e1,e2,e3,Option.isNone_some,Bool.false_and,Bool.false_eq_true,if_false,Option.isSome_none]
 rw[if_pos (by omega),if_neg (by omega),cX]
theorem aA3 {α:Type} {enc:α→List Value} {W:Nat} [F:Fx enc W] {e:TypeId} {b o c n:Nat} {l:List α} {x:α} {k:Value→Prop} (hs:Hs G h L) [m:Has (ls enc W e (some ⟨b,o,none⟩) c) L l L'] (hW:0<W) (hx:l[n]?=some x) (hk:k (.agg ⟨enc x⟩)):bA (uC h W (pt b (o+n*W) 0)) k:=by
 have hs:Hs G h (dB W e (some ⟨b,o,none⟩) c (l.length,eL enc l)::L'):=m.of hs
 have hn:=(List.getElem?_eq_some_iff.1 hx).1
 obtain⟨b',o',ha,hs'⟩:=hs.fM (by omega)
 cases ha
 rw[show pt b (o+n*W) 0=pt b o (n*W) by simp[pt]]
 exact aQ hs' hW (jh hx) (F.len x) hk
end Go.Ab
end
