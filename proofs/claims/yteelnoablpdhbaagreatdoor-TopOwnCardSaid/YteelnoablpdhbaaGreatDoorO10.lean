/- A part of the proof. -/
import Derived.Test.YteelnoablpdhbaaGreatDoorO3
import Derived.Test.YteelnoablpdhbaaGreatDoorO9
set_option linter.all false
open Go Go.Ab
variable {P:Program} {n:Nat}
namespace Go.Ab
noncomputable section
structure En where
 n:Nat
 t:Tr Value
def En.get (e:En) (i:Nat):Value:=En.casesOn (motive:=fun _=>Value) e fun n t=>Bool.casesOn (motive:=fun _=>Value) (Nat.blt i n) undef<|t.get undef i
def En.opt (e:En) (i:Nat):EO:=En.casesOn (motive:=fun _=>EO) e fun n t=>Bool.casesOn (motive:=fun _=>EO) (Nat.blt i n) none<|some<|t.get undef i
def En.set (e:En) (i:Nat) (v:Value):En:=En.casesOn (motive:=fun _=>En) e fun n t=>Bool.casesOn (motive:=fun _=>En) (Nat.blt i n) ⟨n,t⟩ ⟨n,t.set undef i v⟩
def En.Bk (e:En):EK:=(List.range e.n).map fun i=>e.t.get undef i
def Wo:EK->Nat->Tr Value->Tr Value
 |[],_,t=>t
 |v::l,i,t=>Wo l (i+1)<|t.set undef i v
def En.of (l:EK) (k:Nat):En:=⟨l.length+k,Wo l 0 .lf⟩
def En.O5 (e:En) (i:Nat):e.opt i=e.Bk[i]?:=by
 obtain⟨n,t⟩:=e;simp only[En.opt,En.Bk];cases h:Nat.blt i n with
 |true=>
  have:i<n:=by simpa [BJ] using h
  simp[this]
 |false=>
  have:¬i<n:=by rw[<-BJ,h];simp
  simp[this]
def En.Ac (e:En) (i:Nat):e.get i=e.Bk.getD i undef:=by
 rw[ay,<-En.O5];obtain⟨n,t⟩:=e;simp only[En.get,En.opt];cases Nat.blt i n<;>rfl
def En.Qd (e:En) (i:Nat) (v:Value):(e.set i v).Bk=e.Bk.set i v:=by
 apply mn;intro j;rw[BU,<-En.O5,<-En.O5];obtain⟨n,t⟩:=e;have g:(En.Bk ⟨n,t⟩).length=n:=by simp[En.Bk]
 rw[g];simp only[En.set];cases h:Nat.blt i n with
 |true=>
  have f:i<n:=by simpa [BJ] using h
  simp only[En.opt,Tr.kP];by_cases b:i=j;subst b;simp[h,f];simp[b,Ne.symm b]
 |false=>
  have f:¬i<n:=by rw[<-BJ,h];simp
  by_cases b:i=j;subst b;simp[En.opt,h,f];simp[b]
def Rf:∀(l:EK) (i:Nat) (t:Tr Value) (m:Nat),(Wo l i t).get undef m=if i<=m/\m<i+l.length then l.getD (m - i) undef else t.get undef m
 |[],i,t,m=>by
  rw[aXf EV];rfl
 |v::l,i,t,m=>by
  simp only[Wo];rw[Rf l (i+1) _ m,Tr.kP];simp only[k5];by_cases b:m=i;subst b;rw[aab,aXg rfl,aae];simp;rw[aXf b];by_cases e:i+1<=m/\m<i+1+l.length;rw[aXg e,aae,show m - i=(m - (i+1))+1 by omega];simp;rw[aXf e,aab]
def En.aNb (l:EK) (k:Nat):(En.of l k).Bk=l++List.replicate k undef:=by
 apply mn;intro j;rw[<-En.O5];unfold En.of En.opt;simp only[Rf,Tr.Pv];cases h:Nat.blt j (l.length+k) with
 |true=>
  have e:j<l.length+k:=by simpa [BJ] using h
  by_cases b:j<l.length;rw[aae,p4 b];simp[b];rw[aab,l9 ER,List.getElem?_replicate,aae]
 |false=>
  have e:¬j<l.length+k:=by rw[<-BJ,h];simp
  rw[l5 EW]
inductive aCq where
 |todo (fn:FuncId) (ro:Option Nat) (ds:EM) (env:En) (k:List Item)
 |ops (all:Array Oper) (rest:List Oper) (env:En)
 |call (f:FuncId) (args:EK)
 |round (l:Nat) (args:EK)
structure qg where
 jI:Ck
 ds:EM
 env:En
 v:Value
def j3:En:=⟨0,.lf⟩
abbrev Na:=aCq->AH->Option (qg×AH)
def aKd:aCq->aBg
 |.todo h j g e k=> .todo h j g e.Bk k
 |.ops all rest e=> .ops all rest e.Bk
 |.call f b=> .call f b
 |.round l b=> .round l b
def aL1 (o:qg):vW:=⟨o.jI,o.ds,o.env.Bk,o.v⟩
def Ie (r:qg×AH):vW×AH:=(aL1 r.1,r.2)
def Jx (R':Na) (R:mE):Prop:=∀t h,R (aKd t) h=(R' t h).map Ie
def zO (P:Program) (env:En):Operand->Value
 |.tmp t=>env.get t
 |.const v=>if gR v then v else Yb
 |.global g=>if g<P.globals.size then .pointer (some ⟨g,0,none⟩) else Yb
 |.func f=> .func (.func f) #[] #[]
def Aw (P:Program) (env:En):zO P env=eC P env.Bk:=by
 funext x;cases x<;>first|rfl|exact En.Ac _ _
def Qi (env:En) (d:Option Tmp) (v:Value):En:=
 match d with
 |some d=>env.set d v
 |none=>env
def O0 (env:En) (d:Option Tmp) (v:Value):(Qi env d v).Bk=pD env.Bk d v:=by
 cases d;rfl;exact En.Qd _ _ _
def Db (all:Array Oper) (env:En) (o:Oper):Option Bool:=
 match o.guard with
 |none=>some true
 |some (j,gM)=>
  match((all[j]?).bind (·.dst)).bind (fun d=>env.opt d) with
  |some (.bool b)=>some (b==gM)
  |some (.chan _)=>none
  |_=>some false
def C6 (all:Array Oper) (env:En) (o:Oper):Db all env o=eY all env.Bk o:=by
 unfold Db eY;simp only[En.O5];rfl
def aLq (P:Program) (b:Operand->Value) (h:AH) (x:Operand):EO:=some<|b x
def xh (P:Program) (b:Operand->Value) (h:AH) (x:Operand):EO:=some<|b x
def aKf (P:Program) (e:Operand->Value) (h:AH) (c a b:Operand):EO:=match e c with
  |.bool t=>some (if t then e a else e b)
  |_=>none
def aC3 (P:Program) (e:Operand->Value) (h:AH) (t:TypeId) (b:Array (Nat×Operand)):EO:=J8 P t<|b.toList.map fun p=>(p.1,e p.2)
def aIr (P:Program) (b:Operand->Value) (h:AH) (t:TypeId) (a:Operand):EO:=match b a with
  |.pointer (some a)=>xW P h t a
  |_=>none
def gd (P:Program) (e:Operand->Value) (h:AH) (x:Operand):EO:=match e x with
  |.pointer (some a)=>some (.pointer<|some a)
  |.func (.func f) a b=>some (.func (.func f) a b)
  |.func (.yield f) a b=>some (.func (.yield f) a b)
  |_=>none
def aCt (P:Program) (b:Operand->Value) (h:AH) (op:BinOp) (t:TypeId) (x y:Operand):EO:=Yo P op t x y (b x)<|b y
def aJm (P:Program) (e:Operand->Value) (h:AH) (op:UnOp) (x:Operand):EO:=match op,e x with
  |.neg,.int k n=>some (.int k<|k.wrap<|0 - n)
  |.not,.bool b=>some (.bool !b)
  |_,_=>none
def jd (P:Program) (b:Operand->Value) (h:AH) (s d:TypeId) (x:Operand):EO:=match P.underlying s,P.underlying d,b x with
  |some _,some<|.int k,.int _ n=>some (.int k<|k.wrap n)
  |_,_,_=>none
def Kc (P:Program) (b:Operand->Value) (h:AH) (t:TypeId) (x:Operand):EO:=match P.underlying t with
  |some (.interface _)=>none
  |some _=>some (.iface t<|b x)
  |none=>none
def fi (P:Program) (b:Operand->Value) (h:AH) (e:Fn) (first captured:Array Operand):EO:=match e with
  |.func f=>some (.func (.func f) (first.map b)<|captured.map b)
  |_=>none
def aCx (P:Program) (b:Operand->Value) (h:AH) (t:TypeId) (x:Operand) (f e g:Option Operand):EO:=B5 P h t (b x) (f.map b) (e.map b)<|g.map b
def Xy (P:Program) (b:Operand->Value) (h:AH) (s:TypeId) (x:Operand) (f:Nat):EO:=match P.underlying s,b x with
  |some (.struct e),.pointer (some a)=>match e[f]? with
   |some fd=>if P.cellsOf fd.type=0 then none else some (.pointer<|some<|a.add fd.offset)
   |none=>none
  |_,_=>none
def aEh (P:Program) (e:Operand->Value) (h:AH) (t:TypeId) (x:Operand) (f:Nat):EO:=match P.underlying t,e x with
  |some (.struct g),.agg b=>match g[f]? with
   |some fd=>iS P fd.type b.toList fd.offset
   |none=>none
  |_,_=>none
def W5 (P:Program) (b:Operand->Value) (h:AH) (t:TypeId) (x i:Operand):EO:=match P.underlying t,b x,b i with
  |some (.array n e),.pointer<|some a,.int _ i=>if 0<=i/\i<n/\(P.info? e).isSome then some (.pointer<|some<|a.add<|i.toNat*P.cellsOf e) else none
  |some (.slice e),.slice (some a) n _,.int _ i=>if 0<=i/\i<n/\(P.info? e).isSome/\a.spot=none then some (.pointer<|some<|a.add<|i.toNat*P.cellsOf e) else none
  |_,_,_=>none
def aFn (P:Program) (f:Operand->Value) (h:AH) (t:TypeId) (x i:Operand):EO:=match P.underlying t,f x,f i with
  |some (.array n e),.agg g,.int _ i=>if 0<=i/\i<n/\(P.info? e).isSome then iS P e g.toList (i.toNat*P.cellsOf e) else none
  |some .string,.string s,.int _ i=>if 0<=i then(s[i.toNat]?).map fun b=> .int .u8 b.toNat else none
  |_,_,_=>none
def nz (P:Program) (b:Operand->Value) (h:AH) (t:Operand) (i:Nat):EO:=match b t with
  |.tuple e=>e.toList[i]?
  |_=>none
def z7 (P:Program) (b:Operand->Value) (h:AH) (t:TypeId) (x ix:Operand) (ok:Bool):EO:=zD P h t (b x) (b ix) ok
def V5 (P:Program) (e:Operand->Value) (h:AH):Op->EO
 |.move x=>aLq P e h x
 |.assign x=>xh P e h x
 |.pick c a b=>aKf P e h c a b
 |.build t j=>aC3 P e h t j
 |.load t a=>aIr P e h t a
 |.nilCheck x=>gd P e h x
 |.binOp op t x y _=>aCt P e h op t x y
 |.unOp op _ x=>aJm P e h op x
 |.convert s d x=>jd P e h s d x
 |.makeInterface t x=>Kc P e h t x
 |.makeFunc o first g=>fi P e h o first g
 |.slice t x q p r=>aCx P e h t x q p r
 |.fieldAddr s x f=>Xy P e h s x f
 |.field t x f=>aEh P e h t x f
 |.indexAddr t x i=>W5 P e h t x i
 |.index t x i=>aFn P e h t x i
 |.extract t i=>nz P e h t i
 |.lookup t x ix ok=>z7 P e h t x ix ok
 |_=>none
def Qf (P:Program) (b:Operand->Value) (h:AH) (op:Op):V5 P b h op=dA P b h op:=by cases op<;>rfl
def aPn (h:AH) (b:EM) (e:Option Nat):Option (Nat×AH×EM):=
 match e with
 |none=>some (h.next,h.alloc<|.vA true,h.next::b)
 |some l=>match h.get l with
  |some (.loop _ _ _ _ _ _ _ d)=>some (d,h,b)
  |_=>none
structure aIc where
 env:En
 h:AH
 v:Value
def aOe (r:aIc):Rec:=⟨r.env.Bk,r.h,r.v⟩
def J6 (P:Program) (e:Operand->Value) (h:AH) (op:Op):EO:=
 match op with
 |.call c=>(match c.callee with|.builtin b=>if qW b then(gW P h b c.argTypes<|c.args.toList.map e).map (·.1) else none|_=>none)
 |op=>V5 P e h op
def Jf (P:Program) (b:Operand->Value) (h:AH) (op:Op):J6 P b h op=fT P b h op:=by
 cases op<;>first|exact Qf P b h _|rfl
def B4 (P:Program) (R:Na) (j:Operand->Value) (h:AH) (op:Op):Option (Value×AH):=
 match op with
 |.store t a x=>match j a with
  |.pointer (some a)=>(Qw P h t a<|j x).map fun o=>(undef,o)
  |_=>none
 |.mapUpdate t m k x=>(Fh P h t (j m) (j k)<|j x).map fun o=>(undef,o)
 |.call c=>
  match c.callee with
  |.builtin b=>gW P h b c.argTypes (c.args.toList.map j)
  |.value f=>match j f with
   |.func (.func g) first e=>
    if iR P g then(R (.call g<|first.toList++c.args.toList.map j++e.toList) h).map fun r=>(r.1.v,r.2) else none
   |.func (.yield l) first _=>(R (.round l<|first.toList++c.args.toList.map j) h).map fun r=>(r.1.v,r.2)
   |_=>none
  |.invoke _ _=>none
 |_=>none
def Xw (P:Program) (R:Na) (env:En) (h:AH) (op:Op):Option (Value×AH):=
 match eM op with
 |.Cr=>(V5 P (zO P env) h op).map fun v=>(v,h)
 |.alloc=>(iT P (zO P env) op).map fun r=>(r.2 h.next,h.alloc r.1)
 |.store|.call=>B4 P R (zO P env) h op
 |.Et=>none
def J5 (P:Program) (R:Na) (all:List Oper) (b i:Nat) (env:En) (h:AH) (o:Oper):Option (Value×AH):=
 match Db ⟨all⟩ env o with
 |none=>none
 |some false=>some (undef,h)
 |some true=>
  if kO o.op then(J6 P (zO P env) h o.op).map fun v=>(v,h)
  else if eM o.op== .alloc then(iT P (zO P env) o.op).map fun r=>(r.2<|b+i,h.set (b+i)<|some r.1)
  else B4 P R (zO P env) h o.op
def wW (P:Program) (R:Na) (all:List Oper) (f:Nat):Nat->List Oper->En->AH->Option (List aIc×En×AH)
 |_,[],b,h=>some ([],b,h)
 |i,o::j,b,h=>
  match J5 P R all f i b h o with
  |some (v,g)=>match wW P R all f (i+1) j (Qi b o.dst v) g with
   |some (p,e)=>some (⟨b,h,v⟩::p,e)
   |none=>none
  |none=>none
def Ji (P:Program) (all:List Oper) (rs:List aIc) (hEnd:AH) (x:Nat×Nat):Bool:=
 match all[x.1]?,rs[x.1]? with
 |some o,some r=>
  match Db ⟨all⟩ r.env o with
  |some true=>(match J6 P (zO P r.env) (match rs[x.2]? with|some q=>q.h|none=>hEnd) o.op with|some v=>rZ v r.v|none=>false)
  |_=>true
 |_,_=>false
def Jn (P:Program) (R:Na) (ops:Array Oper) (env:En) (h:AH):Option (En×AH):=
 if Ol ops.toList&&(P.follows .mixedOrders|| !Region.departs ops) then
  match wW P R ops.toList h.next 0 ops.toList env {h with next:=h.next+ops.size} with
  |some (f,b,e)=>if(K2 ops.toList).all (Ji P ops.toList f e) then some (b,e) else none
  |none=>none
 else none
def xB (P:Program) (h:AH) (env:En):List ResultVar->HT
 |[]=>some []
 |.tmp t::b=>(xB P h env b).map fun l=>env.get t::l
 |.cell a t::b=>match env.get a with
  |.pointer (some a)=>match xW P h t a,xB P h env b with
   |some v,some l=>some (v::l)
   |_,_=>none
  |_=>none
def Px (P:Program) (R:Na) (r:FuncId) (q:Option Nat) (j:EM) (env:En) (k:List Item) (h:AH):Option (qg×AH):=
 match k with
 |[]=>some (⟨.nI,j,env,undef⟩,h)
 |.code c::k=>
  match c with
  |.skip=>R (.todo r q j env k) h
  |.label _=>R (.todo r q j env k) h
  |.seq a b=>R (.todo r q j env (.code a:: .code b::k)) h
  |.cond c t e=>match zO P env c with
   |.bool b=>R (.todo r q j env (.code (if b then t else e)::k)) h
   |_=>none
  |.block id b=>R (.todo r q j env (.code b:: .inBlock id::k)) h
  |.loop b=>R (.todo r q j env (.code b:: .inLoop b::k)) h
  |.scope b=>R (.todo r q j env (.code b:: .inScope b::k)) h
  |.exit id=>match exitTo id k with
   |some J=>R (.todo r q j env J) h
   |none=>if q.isSome then some (⟨.exit id,j,env,undef⟩,h) else none
  |.ret=>some (⟨.ret,j,env,undef⟩,h)
  |.region _ ops false=>match R (.ops ops ops.toList env) h with
   |some (o,z)=>R (.todo r q j o.env k) z
   |none=>none
  |.region _ ops true=>match Jn P R ops env h with
   |some (y,z)=>R (.todo r q j y k) z
   |none=>none
  |.rangeFunc f L assign v=>
   match aPn h j q with
   |some (d,B,D)=>
    match zO P env f with
    |.func (.func g) first u=>
     if iR P g then
      match R (.call g<|first.toList++[.func (.yield B.next) #[] #[]]++u.toList) (B.alloc<|.loop .ready none r env.Bk L assign v d) with
      |some (_,G)=>
       match G.get B.next with
       |some (.loop st p _ _ _ _ _ _)=>
        if st= .busy then none else
        match dD G B.next .exhausted none with
        |some I=>R (.todo r q D env<|(p.map Item.code).toList++k) I
        |none=>none
       |_=>none
      |none=>none
     else none
    |_=>none
   |none=>none
  |_=>none
 |.inBlock _::k=>R (.todo r q j env k) h
 |.inScope _::k=>R (.todo r q j env k) h
 |.inLoop b::k=>R (.todo r q j env (.code b:: .inLoop b::k)) h
 |.beginRound::k=>
  match q with
  |some l=>match h.get l with
   |some (.loop .ready _ _ _ _ _ _ _)=>match dD h l .busy none with
    |some z=>R (.todo r q j env k) z
    |none=>none
   |_=>none
  |none=>none
 |_=>none
def Va (P:Program) (R:Na) (all:Array Oper) (rest:List Oper) (env:En) (h:AH):Option (qg×AH):=
 match rest with
 |[]=>some (⟨.nI,[],env,undef⟩,h)
 |o::rest=>
  match Db all env o with
  |none=>none
  |some false=>R (.ops all rest<|Qi env o.dst undef) h
  |some true=>match Xw P R env h o.op with
   |some (v,b)=>R (.ops all rest<|Qi env o.dst v) b
   |none=>none
def Q6 (P:Program) (K:FuncId->EK->HQ) (R:Na) (f:FuncId) (args:EK) (h:AH):Option (qg×AH):=
 match K f args with
 |some (.val v)=>some (⟨.nI,[],j3,v⟩,h)
 |some (.fwd g q)=>match R (.call g q) h with
  |some (o,j)=>if Pe o.v then some (⟨.nI,[],j3,o.v⟩,j) else none
  |none=>none
 |some (.Aa F)=>(F h).map fun r=>(⟨.nI,[],j3,r.1⟩,r.2)
 |none=>
  match P.funcs[f]? with
  |some e=>
   match e.body with
   |some b=>
    match R (.todo f none [] (En.of args<|e.ntmps - args.length) [.code b]) h with
    |some (o,j)=>
     match o.jI with
     |.exit _=>none
     |_=>match cQ o.ds j with
      |some p=>(xB P p o.env e.results.toList).map fun t=>(⟨.nI,[],j3,A4 t⟩,p)
      |none=>none
    |none=>none
   |none=>none
  |none=>none
def Ka (R:Na) (l:Nat) (args:EK) (h:AH):Option (qg×AH):=
 match h.get l with
 |some (.loop _ _ q f j assign b _)=>
  if args.length=j.size then
   match R (.todo q (some l) [] (En.of ((j.toList.zip args).foldl (fun t (p,v)=>t.set p v) f) 0) [.code assign,.beginRound,.code b]) h with
   |some (o,g)=>
    if o.ds.isEmpty then
     match o.jI with
     |.nI=>(dD g l .ready<|some none).map fun e=>(⟨.nI,[],j3,.bool true⟩,e)
     |.ret=>(dD g l .done<|some<|some .ret).map fun e=>(⟨.nI,[],j3,.bool false⟩,e)
     |.exit id=>(dD g l .done<|some<|some<|.exit id).map fun e=>(⟨.nI,[],j3,.bool false⟩,e)
    else none
   |none=>none
  else none
 |_=>none
def P8 (P:Program) (K:FuncId->EK->HQ):Nat->Na
 |0,_,_=>none
 |n+1,.todo j o g e k,h=>Px P (fun t h=>P8 P K n t h) j o g e k h
 |n+1,.ops all rest e,h=>Va P (fun t h=>P8 P K n t h) all rest e h
 |n+1,.call f b,h=>Q6 P K (fun t h=>P8 P K n t h) f b h
 |n+1,.round l b,h=>Ka (fun t h=>P8 P K n t h) l b h
section wS
variable {K:FuncId->EK->HQ} {R':Na} {R:mE}
def Jx.val (b:Jx R' R) (t:aCq) (h:AH):(R' t h).map (fun r=>(r.1.v,r.2))=(R (aKd t) h).map fun r=>(r.1.v,r.2):=by
 rw[b t h,Option.map_map];rfl
def F9 (e:Jx R' R) (b:Operand->Value) (h:AH) (op:Op):B4 P R' b h op=eX P R b h op:=by
 have f:∀g l,(R' (.call g l) h).map (fun r=>(r.1.v,r.2))=(R (.call g l) h).map fun r=>(r.1.v,r.2):=fun g l=>e.val _ _;have j:∀g l,(R' (.round g l) h).map (fun r=>(r.1.v,r.2))=(R (.round g l) h).map fun r=>(r.1.v,r.2):=fun g l=>e.val _ _;unfold B4 eX;simp only[f,j];rfl
def mv (b:Jx R' R) (env:En) (h:AH) (op:Op):Xw P R' env h op=oV P R env.Bk h op:=by
 unfold Xw oV;simp only[Aw,Qf,F9 b];rfl
def Vm (e:Jx R' R) (all:List Oper) (b i:Nat) (env:En) (h:AH) (o:Oper):J5 P R' all b i env h o=gX P R all b i env.Bk h o:=by
 unfold J5 gX;simp only[C6,Aw,Jf,F9 e];rfl
def I1 (e:Jx R' R) (all:List Oper) (b:Nat):∀(os:List Oper) (i:Nat) (env:En) (h:AH),
    jV P R all b i os env.Bk h=(wW P R' all b i os env h).map fun r=>(r.1.map aOe,r.2.1.Bk,r.2.2)
 |[],_,_,_=>rfl
 |o::os,i,env,h=>by
  simp only[wW,jV,Vm e];cases gX P R all b i env.Bk h o with
  |none=>rfl
  |some r=>
   obtain⟨v,f⟩:=r;simp only[<-O0,I1 e all b os];cases wW P R' all b (i+1) os (Qi env o.dst v) f with
   |none=>rfl
   |some r=>rfl
def cx (all:List Oper) (rs:List aIc) (hEnd:AH) (x:Nat×Nat):Ji P all rs hEnd x=wJ P all (rs.map aOe) hEnd x:=by
 unfold Ji wJ;simp only[gi];cases all[x.1]? with
 |none=>rfl
 |some o=>
  cases rs[x.1]? with
  |none=>rfl
  |some r=>
   simp only[l4,C6,Aw,Jf];cases rs[x.2]?<;>rfl
def ct (g:Jx R' R) (ops:Array Oper) (env:En) (h:AH):uH P R ops env.Bk h=(Jn P R' ops env h).map fun r=>(r.1.Bk,r.2):=by
 unfold Jn uH;rw[I1 g];split;cases wW P R' ops.toList h.next 0 ops.toList env {h with next:=h.next+ops.size} with
 |none=>rfl
 |some r=>
  obtain⟨f,e,b⟩:=r;have:Ji P ops.toList f b=wJ P ops.toList (f.map aOe) b:=funext<|cx _ f b;simp only[l4,this];split<;>rfl
 rfl
def B3 (h:AH) (env:En):∀b,xB P h env b=gZ P h env.Bk b
 |[]=>rfl
 |.tmp t::b=>by simp only[xB,gZ,En.Ac,B3 h env b]
 |.cell a t::b=>by simp only[xB,gZ,En.Ac,B3 h env b];rfl
def ka (e:Jx R' R) (all:Array Oper) (rest:List Oper) (env:En) (h:AH):vN P R all rest env.Bk h=(Va P R' all rest env h).map Ie:=by
 unfold Va vN;cases rest with
 |nil=>rfl
 |cons o rest=>
  simp only[C6,mv e];cases eY all env.Bk o with
  |none=>rfl
  |some b=>
   cases b with
   |false=>simp only[<-O0];exact e (.ops all rest<|Qi env o.dst undef) h
   |true=>
    simp only;cases oV P R env.Bk h o.op with
    |none=>rfl
    |some r=>simp only[<-O0];exact e (.ops all rest<|Qi env o.dst r.1) r.2
def Z1 (J:Jx R' R) (u:FuncId) (v:Option Nat) (y:EM) (env:En) (k:List Item) (h:AH):fF P R u v y env.Bk k h=(Px P R' u v y env k h).map Ie:=by
 have o:∀u v y (env:En) k h,R (.todo u v y env.Bk k) h=(R' (.todo u v y env k) h).map Ie:=fun u v y env k h=>J (.todo u v y env k) h;unfold Px fF;cases k with
 |nil=>rfl
 |cons x k=>
  cases x with
  |code c=>
   cases c with
   |skip=>exact o ..
   |label _=>exact o ..
   |seq a b=>exact o ..
   |cond c t e=>
    simp only[Aw];cases eC P env.Bk c<;>first|rfl|exact o ..
   |block id b=>exact o ..
   |loop b=>exact o ..
   |scope b=>exact o ..
   |exit id=>
    simp only;cases exitTo id k with
    |none=>simp only;split<;>rfl
    |some Y=>exact o ..
   |ret=>rfl
   |region i ops d=>
    cases d with
    |false=>
     simp only;rw[show R (.ops ops ops.toList env.Bk) h=(R' (.ops ops ops.toList env) h).map Ie from J (.ops ops ops.toList env) h];cases R' (.ops ops ops.toList env) h with
     |none=>rfl
     |some r=>exact o ..
    |true=>
     simp only[ct J];cases Jn P R' ops env h with
     |none=>rfl
     |some r=>exact o ..
   |rangeFunc f U assign q=>
    simp only[Aw];split;rename_i d z L O;have B:aPn h y v=some (d,z,L):=O;simp only[B];split;rename_i g first j Q
    simp only[Q];split;rw[show R (.call g<|first.toList++[.func (.yield z.next) #[] #[]]++j.toList) (z.alloc<|.loop .ready none u env.Bk U assign q d)=
     (R' (.call g<|first.toList++[.func (.yield z.next) #[] #[]]++j.toList)<|z.alloc<|.loop .ready none u env.Bk U assign q d).map Ie from J (.call g _) _]
    cases R' (.call g<|first.toList++[.func (.yield z.next) #[] #[]]++j.toList) (z.alloc<|.loop .ready none u env.Bk U assign q d) with
    |none=>rfl
    |some r=>
     simp only[l4,Ie];split;rename_i st p _ _ _ _ _ _ D;simp only[D];split;rfl;split;rename_i X I;simp only[I];exact o ..;rename_i I;simp only[I];rfl;rename_i D;split;rename_i G;exact absurd G<|D _ _ _ _ _ _ _ _;rfl
    rfl;rename_i Q;split;rename_i T;exact absurd T<|Q _ _ _;rfl;rename_i O;have B:aPn h y v=none:=O;simp only[B];rfl
   |_=>rfl
  |inBlock _=>exact o ..
  |inScope _=>exact o ..
  |inLoop b=>exact o ..
  |beginRound=>
   cases v with
   |none=>rfl
   |some l=>
    simp only;split;rename_i D;simp only[D];split;rename_i V I;simp only[I];exact o ..;rename_i I;simp only[I];rfl;rename_i D;split;rename_i G;exact absurd G<|D _ _ _ _ _ _ _;rfl
  |_=>rfl
def Z9 (u:Jx R' R) (f:FuncId) (args:EK) (h:AH):oK P K R f args h=(Q6 P K R' f args h).map Ie:=by
 unfold Q6 oK;cases K f args with
 |some a=>
  cases a with
  |val v=>rfl
  |fwd g o=>
   simp only;rw[show R (.call g o) h=(R' (.call g o) h).map Ie from u (.call g o) h];cases R' (.call g o) h with
   |none=>rfl
   |some r=>simp only[l4,Ie,aL1];split<;>rfl
  |Aa F=>simp only;cases F h<;>rfl
 |none=>
  simp only;cases P.funcs[f]? with
  |none=>rfl
  |some e=>
   simp only;cases e.body with
   |none=>rfl
   |some b=>
    simp only;rw[<-En.aNb,show R (.todo f none [] (En.of args<|e.ntmps - args.length).Bk [.code b]) h=(R' (.todo f none [] (En.of args<|e.ntmps - args.length) [.code b]) h).map Ie from u (.todo f none [] (En.of args<|e.ntmps - args.length) [.code b]) h];cases R' (.todo f none [] (En.of args<|e.ntmps - args.length) [.code b]) h with
    |none=>rfl
    |some r=>
     obtain⟨⟨y,q,j,v⟩,t⟩:=r;simp only[l4,Ie,aL1,B3];cases y with
     |exit id=>rfl
     |nI=>simp only;cases cQ q t with|none=>rfl|some p=>simp only;cases gZ P p j.Bk e.results.toList<;>rfl
     |ret=>simp only;cases cQ q t with|none=>rfl|some p=>simp only;cases gZ P p j.Bk e.results.toList<;>rfl
def W7 (y:Jx R' R) (l:Nat) (args:EK) (h:AH):qM R l args h=(Ka R' l args h).map Ie:=by
 unfold Ka qM;split;rename_i o b q az bd d f;simp only[f];split;have j:∀t:EK,(En.of t 0).Bk=t:=fun t=>by rw[En.aNb];simp
 have:=y (.todo o (some l) [] (En.of ((q.toList.zip args).foldl (fun t (p,v)=>t.set p v) b) 0) [.code az,.beginRound,.code bd]) h;simp only[aKd,j] at this;rw[this];cases R' (.todo o (some l) [] (En.of ((q.toList.zip args).foldl (fun t (p,v)=>t.set p v) b) 0) [.code az,.beginRound,.code bd]) h with
 |none=>rfl
 |some r=>
  obtain⟨⟨z,B,u,v⟩,e⟩:=r;simp only[l4,Ie,aL1];split;cases z with
  |nI=>simp only;cases dD e l .ready (some none)<;>rfl
  |ret=>simp only;cases dD e l .done (some<|some .ret)<;>rfl
  |exit id=>simp only;cases dD e l .done (some<|some<|.exit id)<;>rfl
  rfl
 rfl;rename_i f;split;rename_i g;exact absurd g<|f _ _ _ _ _ _ _ _;rfl
def u6:∀n,Jx (P8 P K n) (run P K n)
 |0=>fun t h=>by cases t<;>rfl
 |n+1=>fun t h=>by
  have e:Jx (fun t h=>P8 P K n t h) fun t h=>run P K n t h:=u6 n;cases t with
  |todo o p j g k=>exact Z1 e ..
  |ops all rest g=>exact ka e ..
  |call f b=>exact Z9 e ..
  |round l b=>exact W7 e ..
end wS
def Ly {K:FuncId->EK->HQ} {f:FuncId} {args:EK} {h:AH} {v:Value} (b:((P8 P K n (.call f args) h).any fun r=>rZ r.1.v v)=true):
  ((run P K n (.call f args) h).any fun r=>rZ r.1.v v)=true:=by
 have:=u6 (P:=P) (K:=K) n (.call f args) h
 simp only[aKd] at this
 rw[this]
 revert b
 cases P8 P K n (.call f args) h<;>exact id
end
end Go.Ab
variable {N c:Nat} {p:Nat->Bool}
namespace Go.Mc
open Go.Hm Go.At Go.Is Go.Ct Go.Nt
variable {C:bT} {M M':cN} {d:Do} {S:Nat->aT}
def oZ (C:bT) (r:cN×Nat) (d:Do):cN×Nat:=
 let a:=r.1.sJ C d
 if a.2≠0 then(a.1,r.2)
 else if d.kR≠1\/d.b≠2 then(a.1,r.2+1)
 else
  let b:=a.1.sJ C ⟨0,d.a,0,0⟩
  if b.2=0 then(b.1,r.2+2) else(b.1,r.2+1)
def cN.round (C:bT) (M:cN):cN×Nat:=(M.ready C).foldl (oZ C) (M,0)
def wN (d:Do):Nat:=if d.kR=1/\d.b=2 then 2 else 1
def wE (d:Do):Nat:=if d.kR=0\/d.kR=3\/(d.kR=1/\d.b=2) then 1 else 0
def Y0 (o:vW C d M M'):M.jW.length<=M'.jW.length/\M'.jW.length<=M.jW.length+(if d.kR=0\/d.kR=3 then 1 else 0):=by
 cases o with
 |wS f b h=>rw[b];omega
 |ev i s v j e r f b p q h=>rw[b,aXg<|.inl e.1];simp
 |vQ i g j e r f b y h=>rw[b];omega
 |vC i g s v j e u f b p o t q h=>rw[b,aXg<|.inr e];simp
structure Z2 (C:bT) (S:Nat->aT) (N:Nat) (M:cN) (n:Nat) (k e:Nat) (r:cN×Nat):Prop where
 all:Sl C S N r.1
 n0:n<=r.2
 n1:r.2<=n+k
 l0:M.jW.length<=r.1.jW.length
 l1:r.1.jW.length<=M.jW.length+e
theorem u5 (hC:C.Ok) (h:Sl C S N M):Z2 C S (N+4) M n (wN d) (wE d) (oZ C (M,n) d):=by
 have b:=h.sJ (d:=d) hC;have e:=Y0<|U6 (d:=d) hC h.inv h.mX;have up:∀{M:cN},Sl C S (N+2) M->Sl C S (N+4) M:=fun h=>⟨⟨h.inv.dS,h.inv.gP,h.inv.Jt,h.inv.mZ,fun l j=>⟨(h.inv.aK l j).1,by have:=(h.inv.aK l j).2;omega⟩,h.inv.bN,by have:=h.inv.jW;omega⟩,h.mX,h.rps⟩;unfold oZ;dsimp only;by_cases f:(M.sJ C d).2≠0;rw[aXg f];exact⟨up b,ba _,ER,e.1,by unfold wE;grind⟩;rw[aXf f];by_cases c2:d.kR≠1\/d.b≠2;rw[aXg c2];exact⟨up b,ER,by unfold wN;rw[aab];exact ba _,e.1,by unfold wE;grind⟩;rw[aXf c2];have g:=b.sJ (d:=⟨0,d.a,0,0⟩) hC;have o:=Y0<|U6 (d:=⟨0,d.a,0,0⟩) hC b.inv b.mX;rw[aXg<|.inl rfl] at o;have p:wN d=2:=by unfold wN;rw[aae]
 have q:wE d=1:=by unfold wE;rw[aae]
 rw[aab] at e;split;exact⟨g,ER,ER,FB,FB⟩;exact⟨g,ER,ER,FB,FB⟩
def aK9 (hC:C.Ok):∀{l:HS} {N:Nat} {M:cN} {n:Nat},Sl C S N M->Z2 C S (N+4*l.length) M n (l.map wN).sum (l.map wE).sum (l.foldl (oZ C) (M,n)):=by
 intro l;induction l with
 |nil=>intro N M n h;exact⟨h,ba _,ba _,ba _,ba _⟩
 |cons d l f=>
  intro N M n h;have b:=u5 (d:=d) hC h (n:=n);have e:Z2 C S (N+4+4*l.length) (oZ C (M,n) d).1 (oZ C (M,n) d).2 (l.map wN).sum (l.map wE).sum (l.foldl (oZ C)<|oZ C (M,n) d):=f b.all (n:=(oZ C (M,n) d).2);rw[kx,kx,DV,DV,CH,k5];have a1:=b.n0;have g:=b.n1;have a3:=b.l0;have a4:=b.l1;have j:=e.n0;have o:=e.n1;have p:=e.l0;have q:=e.l1;refine⟨?_,ER,ER,ER,ER⟩;have:=e.all;rw[show N+4+4*l.length=N+4*(l.length+1) by omega] at this;exact this
def Wk {α:Type} {f:α->Nat} {k:Nat}:∀{l:List α},(∀x∈l,f x<=k)->(l.map f).sum<=k*l.length
 |[],_=>AK _
 |x::l,h=>by
  have e:=h x EV;have g:=Wk (f:=f) (k:=k) (l:=l) fun y b=>h y (by simp[b]);rw[kx,DV,k5,Nat.mul_add];omega
def Jd:((List.range n).filter p).length<=n:=by
 have:=rk p<|List.range n;simp at this ⊢;exact this
def aIv:((((List.range 4).filter p).map fun w:Nat=>(⟨1,c,w,0⟩:Do)).map wN).sum<=5/\((((List.range 4).filter p).map fun w:Nat=>(⟨1,c,w,0⟩:Do)).map wE).sum<=1:=by
 have e:List.range 4=[0,1,2,3]:=rfl;rw[e];cases h0:p 0<;>cases h1:p 1<;>cases h2:p 2<;>cases h3:p 3<;>simp[DY,h0,h1,h2,h3,wN,wE]
def Yi {p:Nat->Nat->Bool}:∀{n:Nat},((((List.range n).flatMap fun c=>((List.range 4).filter<|p c).map fun w:Nat=>(⟨1,c,w,0⟩:Do))).map wN).sum<=5*n/\((((List.range n).flatMap fun c=>((List.range 4).filter<|p c).map fun w:Nat=>(⟨1,c,w,0⟩:Do))).map wE).sum<=n/\(((List.range n).flatMap fun c=>((List.range 4).filter<|p c).map fun w:Nat=>(⟨1,c,w,0⟩:Do))).length<=4*n
 |0=>⟨ba _,ba _,ba _⟩
 |n+1=>by
  obtain⟨a,b,c⟩:=Yi (p:=p) (n:=n);obtain⟨d1,d2⟩:=aIv (c:=n) (p:=p n);have d3:=Jd (n:=4) (p:=p n);rw[er (n:=n),u3,k8,k8,BP,BP,bj];simp only[xc,CT,hX,js] at*;omega
def Ue:((M.ready C).map wN).sum<=6*C.aE.toNat+C.aF+C.bB.toNat/\((M.ready C).map wE).sum<=2*C.aE.toNat+C.bB.toNat/\(M.ready C).length<=5*C.aE.toNat+C.aF+C.bB.toNat:=by
 obtain⟨d1,d2,d3⟩:=Yi (p:=fun c w=>decide<|M.bN c w≠[]) (n:=C.aE.toNat);have rG:∀{l:EM} {f:Nat->Do},(∀i,(f i).kR≠1)->((l.map f).map wN).sum<=l.length:=fun {l f} h=>by
  have:=Wk (f:=wN) (k:=1) (l:=l.map f) fun x j=>by
   obtain⟨i,_,rfl⟩:=gL.1 j;unfold wN;rw[aXf fun e=>h i e.1];exact ba _
  rw[js] at this;omega
 have b:∀{l:EM} {f:Nat->Do},((l.map f).map wE).sum<=l.length:=fun {l f}=>by
  have:=Wk (f:=wE) (k:=1) (l:=l.map f) fun x j=>by unfold wE;split<;>omega
  rw[js] at this;omega
 have o:∀{l:EM} {f:Nat->Do},(∀i,(f i).kR=2)->((l.map f).map wE).sum<=0:=fun {l f} h=>by
  have:=Wk (f:=wE) (k:=0) (l:=l.map f) fun x j=>by
   obtain⟨i,_,rfl⟩:=gL.1 j;unfold wE;rw[aXf<|by have:=h i;omega];exact ba _
  omega
 unfold cN.ready;simp only[k8,BP,bj];have s1:=rG (l:=(List.range C.aE.toNat).filter fun i:Nat=> !(M.aC i).over&& !M.aY i) (f:=fun i:Nat=>(⟨0,i,0,0⟩:Do)) fun i=>FB;have s2:=b (l:=(List.range C.aE.toNat).filter fun i:Nat=> !(M.aC i).over&& !M.aY i) (f:=fun i:Nat=>(⟨0,i,0,0⟩:Do));have s3:=Jd (n:=C.aE.toNat) (p:=fun i:Nat=> !(M.aC i).over&& !M.aY i);have t1:=rG (l:=(List.range C.aF).filter fun l=> !(M.aK l).1.busy&&decide ((M.aK l).1.aY≠[])) (f:=fun l:Nat=>(⟨2,l,0,0⟩:Do)) fun i=>FB;have t2:=o (l:=(List.range C.aF).filter fun l=> !(M.aK l).1.busy&&decide ((M.aK l).1.aY≠[])) (f:=fun l:Nat=>(⟨2,l,0,0⟩:Do)) fun i=>rfl;have t3:=Jd (n:=C.aF) (p:=fun l=> !(M.aK l).1.busy&&decide ((M.aK l).1.aY≠[]));have q:=rG (l:=(List.range C.bB.toNat).filter fun g:Nat=>M.mY C g) (f:=fun g:Nat=>(⟨3,g,0,0⟩:Do)) fun i=>FB;have r:=b (l:=(List.range C.bB.toNat).filter fun g:Nat=>M.mY C g) (f:=fun g:Nat=>(⟨3,g,0,0⟩:Do));have t:=Jd (n:=C.bB.toNat) (p:=fun g:Nat=>M.mY C g);simp only[js] at*;omega
def O8 (hC:C.Ok) (h:Sl C S N M):Z2 C S (N+400) M 0 (6*C.aE.toNat+C.aF+C.bB.toNat) (2*C.aE.toNat+C.bB.toNat) (M.round C):=by
 have b:Z2 C S (N+4*(M.ready C).length) M 0 ((M.ready C).map wN).sum ((M.ready C).map wE).sum (M.round C):=aK9 hC (l:=M.ready C) (n:=0) h;obtain⟨o,p,r3⟩:=Ue (C:=C) (M:=M);have j:=hC.1;have f:=bT.eJ hC;exact⟨(fun g h=>⟨⟨h.inv.dS,h.inv.gP,h.inv.Jt,h.inv.mZ,fun l e=>⟨(h.inv.aK l e).1,by have:=(h.inv.aK l e).2;omega⟩,h.inv.bN,by have:=h.inv.jW;omega⟩,h.mX,h.rps⟩) ER b.all,b.n0,by have:=b.n1;omega,b.l0,by have:=b.l1;omega⟩
def cN.Fw (C:bT):Nat->Nat->cN->Nat×cN
 |0,k,M=>(k,M)
 |f+1,k,M=>if M.over C then(k,M) else if(M.round C).2=0/\(M.round C).1.over C=false then(k+f+1,(M.round C).1) else cN.Fw C f (k+1) (M.round C).1
end Go.Mc
variable {A a k l o v:Int} {c' g i w:Nat} {W:Nat->Int} {j:Int->Int×Bool} {b:Bool}
namespace Go.Qt
open Go.Hm Go.At Go.Is Go.Ct Go.Nt Go.Mc
variable {S:Nat->HN} {m:aI} {C:bT} {x:rU} {F0 F0' F1 F1' F2 F2':HM}
section
section
variable {ways:Nat} {no:Int} {x:tJ}
theorem vr {L:HN} (h:l≠no):Go.Ct.get l (xI no L)=Go.Ct.get l L:=by
 induction L with
 |nil=>rfl
 |cons t L b=>
  grind[xI,Go.Ct.get]
theorem aKm {L:HN} (h:l≠no):Go.Ct.get l (L++[(no,x)])=Go.Ct.get l L:=by
 grind[Go.Ct.get]
theorem ah {L:HN} {m:Nat} (h:cB n l=m->Go.Ct.get l L=Go.Ct.get l (S m)):cI n (bJ S m L) l=cI n S l:=by
 grind[cI,cB,bJ]
theorem Lg (h:l≠no):cI n (lT n S no) l=cI n S l:=by
 grind[lT,ah,vr]
theorem Ho (h:l≠no):cI n (nM n ways S no x).1 l=cI n S l:=by
 grind[nM,ah,vr,aKm]
theorem kr (h:l≠no):cI n (H7 n ways S no) l=cI n S l:=by
 grind[H7,Ho,Lg]
def aA1 (b:∀i,qA ways<|S i) (e:0<=no):(cI n (lT n S no) no).2≠0:=by
 unfold lT;rw[aab];unfold cI;rw[aab,bR,re<|Ng (b _).nd];decide
theorem aJd (b:(cI n S no).2=0):(lT n S no<|cB n no).length<(S<|cB n no).length:=by
 obtain⟨e,f⟩:=Ey b;simp_all[tr,iq]
end
def kl (k l:Int) (n:aI):Bool:=decide<|n.kind=k/\n.bA=l
def gt (l:Int) (n:aI):Bool:=decide<|(n.kind=1\/n.kind=2)/\n.bA=l
def nK (k:Int) (F:HM) (l:Int):Nat:=F.countP<|kl k l
def nG (F:HM) (l:Int):Nat:=F.countP<|gt l
def tk (b:Prop) [Decidable b]:Nat:=if b then 1 else 0
def rF {F G:HM}:nK k (F++G) l=nK k F l+nK k G l:=DM
def zM {F G:HM}:nG (F++G) l=nG F l+nG G l:=DM
def kM:nK k [] l=0:=rfl
def sN:nG [] l=0:=rfl
def iB {n:aI} {F:HM}:nK k (n::F) l=nK k F l+tk (n.kind=k/\n.bA=l):=by
 unfold nK tk;rw[CU];simp[kl]
def mD {n:aI} {F:HM}:nG (n::F) l=nG F l+tk ((n.kind=1\/n.kind=2)/\n.bA=l):=by
 unfold nG tk;rw[CU];simp[gt]
def A9 {F G:HM} (h:F.Perm G):nK k F l=nK k G l:=h.countP_eq _
def Nq {F G:HM} (h:F.Perm G):nG F l=nG G l:=h.countP_eq _
def kX {F:HM} {n:aI} (h:n∈F) (b:n.kind=k) (e:n.bA=l):0<nK k F l:=DD.2 ⟨n,h,c8 ⟨b,e⟩⟩
def J0 {F:HM} {n:aI} (h:n∈F) (b:n.kind=1\/n.kind=2) (e:n.bA=l):0<nG F l:=DD.2 ⟨n,h,c8 ⟨b,e⟩⟩
def pk (C:bT) (s:iJ) (l:Int):tJ×Int:=cI C.bL.toNat s.S l
def vQ (s:iJ) (l:Int):Prop:=s.pY=true/\s.al=l
def jY (s:iJ) (l:Int):Prop:=s.uF=true/\s.gl=l
def fY (C:bT) (s:iJ) (l:Int):Prop:=(pk C s l).2=0
instance {s:iJ} {l:Int}:Decidable (vQ s l):=by unfold vQ;infer_instance
instance {s:iJ} {l:Int}:Decidable (jY s l):=by unfold jY;infer_instance
instance {C:bT} {s:iJ} {l:Int}:Decidable (fY C s l):=by unfold fY;infer_instance
structure LQ (C:bT) (i W l:Int) (s:iJ) (x:rU) (F0 F1 F2:HM):Prop where
 a:tk (vQ s l)=nG F0 l+nG x.1.aY l+nK 8 F2 l
 g:tk (jY s l)=nK 3 F0 l+nK 3 x.1.aY l+nK 10 F2 l
 b:tk (x.1.busy=true)=nK 8 F2 l+nK 4 F1 l
 o:tk (x.1.owner=i)=nK 8 F2 l+tk (fY C s l)+nK 3 F0 l+nK 3 x.1.aY l
 d:nK 4 F1 l<=tk (fY C s l)+nK 3 F0 l+nK 3 x.1.aY l
 rG:tk (vQ s l)+tk (fY C s l)+tk (jY s l)<=1
 U0:x.1.eZ=x.1.busy/\(x.1.busy=true->x.1.cD.core=i)/\x.1.qu=false/\(∀k,x.1.sh k=false)/\(x.1.owner=i\/x.1.owner= -1)
 wt:∀n∈x.1.aY,(n.kind=1\/n.kind=2\/n.kind=3)/\n.core=i/\n.bA=l
 gt:∀n,n∈F0\/n∈x.1.aY->(n.kind=1\/n.kind=2)->n.bA=l->n.bG=W
 cp:fY C s l->((pk C s l).1.st=2\/(pk C s l).1.st=4)/\(pk C s l).1.w=W/\((pk C s l).1.st=2->(pk C s l).1.d=x.2)
 ge:jY s l->(s.gc.st=2\/s.gc.st=4)/\(s.gc.st=2->s.gc.d=x.2)
 pu:∀n,n∈F0\/n∈x.1.aY->n.kind=3->n.bA=l->(n.d0,n.d1)=s.gc.d/\n.Cw=decide (s.gc.st=4)
 ak:0<nK 10 F2 l->x.2=s.gc.d
 gr:∀n∈F2,n.kind=8->n.bA=l->(n.d0,n.d1)=x.2/\(n.state=2\/n.state=4)/\n.bG=W
structure LO (C:bT) (l:Int) (s:iJ) (F0 F1 F2:HM):Prop where
 a:¬vQ s l
 g:¬jY s l
 h:¬fY C s l
 n0:nG F0 l=0/\nK 3 F0 l=0
 n1:nK 4 F1 l=0
 n2:nK 8 F2 l=0/\nK 10 F2 l=0
def val (C:bT) (s:iJ) (x:rU) (l:Int):Ln:=if fY C s l then(pk C s l).1.d else if jY s l then s.gc.d else x.2
variable {i W:Int} {s s':iJ} {n:aI}
theorem LQ.oy (h:LQ C i W l s x F0 F1 F2) (b:F0.Perm (n::F0')) (p:n.kind=1\/n.kind=2\/n.kind=3) (q:n.bA=l) (hc:n.core=i):LQ C i W l s (x.1.mX n,x.2) F0' F1 F2:=by
 have j:=fun k=>A9 (k:=k) (l:=l) b;have o:=Nq (l:=l) b;simp only[iB,mD] at j o;have t:=j 3;have m0:∀y,y∈F0↔y=n\/y∈F0':=fun y=>by rw[b.mem_iff,j2]
 have g:∀y,y∈(x.1.mX n).aY↔y∈x.1.aY\/y=n:=fun y=>by simp[cU.mX]
 have u:nG (x.1.mX n).aY l=nG x.1.aY l+tk ((n.kind=1\/n.kind=2)/\n.bA=l):=by
  show nG (x.1.aY++[n]) l=_;rw[zM,mD,sN];omega
 have r:nK 3 (x.1.mX n).aY l=nK 3 x.1.aY l+tk (n.kind=3/\n.bA=l):=by
  show nK 3 (x.1.aY++[n]) l=_;rw[rF,iB,kM];omega
 refine⟨?_,?_,h.b,?_,?_,h.rG,h.U0,fun y f=>?_,fun y f=>h.gt y ?_,h.cp,h.ge,fun y f=>h.pu y ?_,h.ak,h.gr⟩;have:=h.a;dsimp only;omega;have:=h.g;dsimp only;omega;have:=h.o;dsimp only;rw[r];show tk (x.1.owner=i)=_;omega;have:=h.d;dsimp only;omega;rcases(g y).1 f with e|rfl;exact h.wt y e;exact⟨p,hc,q⟩;have:=(g y).1;grind;have:=(g y).1;grind
end
section
def rel (l:Int) (n:aI):Prop:=n.bA=l/\(n.kind=1\/n.kind=2\/n.kind=3\/n.kind=4\/n.kind=8\/n.kind=10)
structure Sm (l:Int) (F F':HM):Prop where
 m:∀n,rel l n->(n∈F'↔n∈F)
 g:nG F' l=nG F l
 k:∀k,k=3\/k=4\/k=8\/k=10->nK k F' l=nK k F l
structure La (C:bT) (l:Int) (s s':iJ):Prop where
 p:pk C s' l=pk C s l
 a:vQ s' l↔vQ s l
 g:jY s' l↔jY s l
 c:jY s l->s'.gc=s.gc
variable {i W:Int} {s s':iJ} {F F':HM} {n:aI}
theorem Sm.refl:Sm l F F:=⟨fun _ _=>CW,rfl,fun _ _=>rfl⟩
theorem Sm.del (b:F.Perm (n::F')) (h:¬rel l n):Sm l F F':=by
 unfold rel at h;have f:=Nq (l:=l) b;rw[mD,tk,aab] at f;refine⟨fun y g=>by rw[b.mem_iff,j2];unfold rel at g;grind,ER,fun k j=>?_⟩;have e:=A9 (k:=k) (l:=l) b;rw[iB,tk,aab] at e;omega
theorem Sm.add (h:¬rel l n):Sm l F (F++[n]):=by
 unfold rel at h;refine⟨fun y b=>by unfold rel at b;grind,?_,fun k e=>?_⟩;rw[zM,mD,tk,aab,sN];rfl;rw[rF,iB,tk,aab,kM];rfl
def Sm.trans (h:Sm l F0 F1) (k:Sm l F1 F2):Sm l F0 F2:=⟨fun n e=>(k.m n e).trans<|h.m n e,k.g.trans h.g,fun c b=>(k.k c b).trans<|h.k c b⟩
theorem La.refl:La C l s s:=⟨rfl,CW,CW,fun _=>rfl⟩
theorem La.fY (h:La C l s s'):fY C s' l↔fY C s l:=by unfold Qt.fY;rw[h.p]
def nD {a b:Prop} [Decidable a] [Decidable b] (h:a↔b):tk a=tk b:=by unfold tk;simp[h]
def uU {a:Prop} [Decidable a]:tk a<=1:=by unfold tk;split<;>omega
theorem oH {a:Prop} [Decidable a]:0<tk a↔a:=by unfold tk;split<;>simp_all
def fZ {a:Prop} [Decidable a] (h:a):tk a=1:=aXg h
def fP {a:Prop} [Decidable a] (h:¬a):tk a=0:=aXf h
def LQ.frame (h:LQ C i W l s x F0 F1 F2) (hc:La C l s s') (p:Sm l F0 F0') (G:Sm l F1 F1') (t:Sm l F2 F2'):LQ C i W l s' x F0' F1' F2':=by
 have r:jY s l->s'.gc=s.gc:=hc.c;have u:=p.k 3 ER;have D:=G.k 4 ER;have v:=t.k 8 ER;have o:=t.k 10 ER;have g0:=p.g;have z:=nD hc.a;have B:=nD hc.g;have q:=nD hc.fY;have I:=h.g;have j:0<nK 3 F0 l+nK 3 x.1.aY l+nK 10 F2 l->jY s l:=fun e=>oH.1 ER;refine⟨by rw[z,g0,v];exact h.a,by rw[B,u,o];exact h.g,by rw[v,D];exact h.b,by rw[v,q,u];exact h.o,by rw[D,q,u];exact h.d,by rw[z,q,B];exact h.rG,h.U0,h.wt,?_,?_,?_,?_,?_,?_⟩;intro y f g b;refine h.gt y (f.imp_left fun e=>(p.m y ⟨b,ER⟩).1 e) g b;rw[hc.fY,hc.p];exact h.cp;rw[hc.g];intro e;rw[r e];exact h.ge e;intro y f g b;have f:y∈F0\/y∈x.1.aY:=f.imp_left fun e=>(p.m y ⟨b,ER⟩).1 e;have:jY s l:=j (by
  rcases f with e|e;have:=kX e g b;omega;have:=kX e g b;omega)
 rw[r this];exact h.pu y f g b;rw[o];intro e;rw[r<|j ER];exact h.ak e;intro y f g b;exact h.gr y ((t.m y ⟨b,ER⟩).1 f) g b
def LO.frame (h:LO C l s F0 F1 F2) (hc:La C l s s') (b:Sm l F0 F0') (f:Sm l F1 F1') (e:Sm l F2 F2'):LO C l s' F0' F1' F2':=by
 refine⟨by rw[hc.a];exact h.a,by rw[hc.g];exact h.g,by rw[hc.fY];exact h.h,?_,?_,?_⟩;rw[b.g,b.k 3 ER];exact h.n0;rw[f.k 4 ER];exact h.n1;rw[e.k 8 ER,e.k 10 ER];exact h.n2
def sK (hc:La C l s s'):val C s' x l=val C s x l:=by
 unfold val;by_cases f:Qt.fY C s l;rw[aXg f,aXg<|hc.fY.2 f,hc.p];rw[aXf f,aXf fun e=>f<|hc.fY.1 e];by_cases b:jY s l;rw[aXg b,aXg<|hc.g.2 b,hc.c b];rw[aXf b,aXf fun e=>b<|hc.g.1 e]
def LQ.done (h:LQ C i W l s x F0 F1 F2) (o:F1.Perm (n::F1')) (g:n.kind=4) (j:n.bA=l):(x.1.eZ=true/\x.1.cD.core=i)/\LQ C i W l s (x.1.iW,x.2) F0 F1' F2:=by
 have e:=A9 (k:=4) (l:=l) o;rw[iB,fZ ⟨g,j⟩] at e;have p:=h.b;have:=uU (a:=x.1.busy=true);have b:x.1.busy=true:=oH.1 ER;have f:=h.U0;refine⟨⟨by rw[f.1];exact b,f.2.1 b⟩,h.a,h.g,?_,h.o,?_,h.rG,⟨rfl,(fun e=>GS),rfl,f.2.2.2.1,f.2.2.2.2⟩,h.wt,h.gt,h.cp,h.ge,h.pu,h.ak,h.gr⟩;show tk (false=true)=_;rw[fP ET];omega;have:=h.d;show _<=tk (Qt.fY C s l)+nK 3 F0 l+nK 3 x.1.aY l;omega
def LQ.sa (h:LQ C i W l s x F0 F1 F2) (v:F2.Perm (n::F2')) (G:n.kind=10) (g:n.bA=l) (h':s'={s with gl:=0,gc:=tJ.zero,uF:=false}):jY s l/\LQ C i W l s' x F0 F1 F2'/\val C s' x l=val C s x l:=by
 have e:=fun k=>A9 (k:=k) (l:=l) v;simp only[iB] at e;have B:=e 8;have r:=e 10;rw[fP ER] at B;rw[fZ ⟨G,g⟩] at r;have D:=h.g;have:=uU (a:=jY s l);have b:jY s l:=oH.1 ER;rw[fZ b] at D;have q:¬jY s' l:=by subst h';intro e;cases e.1
 have t:pk C s' l=pk C s l:=by subst h';rfl
 have j:Qt.fY C s' l↔Qt.fY C s l:=by unfold Qt.fY;rw[t]
 have u:vQ s' l↔vQ s l:=by subst h';rfl
 have f:=h.rG;rw[fZ b] at f;have z:¬Qt.fY C s l:=fun e=>by rw[fZ e] at f;omega
 have I:∀y,(y∈F0\/y∈x.1.aY)->y.kind=3->y.bA=l->False:=by
  intro y o p g;rcases o with e|e;have:=kX e p g;omega;have:=kX e p g;omega
 refine⟨b,⟨?_,?_,?_,?_,?_,?_,h.U0,h.wt,h.gt,?_,fun e=>absurd e q,fun y o p g=>(I y o p g).elim,fun e=>ER,fun y o=>h.gr y<|by rw[v.mem_iff,j2];exact .inr o⟩,?_⟩;rw[nD u];have:=h.a;omega;rw[fP q];omega;have:=h.b;omega;rw[nD j];have:=h.o;omega;rw[nD j];exact h.d;rw[nD j,nD u,fP q];omega;rw[j,t];exact h.cp;unfold val;rw[aXf<|by rw[j];exact z,aXf z,aXf q,aXg b];exact h.ak ER
end
section
variable {i W:Int} {s s':iJ} {F F':HM} {n:aI} {w:HM}
def aF5 {k ways:Nat} {y:tJ} (f:0<=l) (b:(cI k S l).2≠0) (g:(S<|cB k l).length<ways):(nM k ways S l y).2=0:=by
 have e:Go.Ct.get l (S<|cB k l)=none:=by
  unfold cI at b;rw[aab] at b;cases hg:Go.Ct.get l (S<|cB k l) with
  |none=>rfl
  |some y=>rw[hg] at b;exact absurd rfl b
 have:(xI l<|S<|cB k l).length=(S<|cB k l).length:=by rw[Ij,e];rfl
 unfold nM;rw[aab]
def LQ.eZ {core:Int} (h:LQ C i W l s x F0 F1 F2) (U:kK C s) (Z:0<=l) (G:F2.Perm (n::F2')) (u:n.kind=8) (g:n.bA=l) (X:(s.S<|cB C.bL.toNat l).length<C.ways.toNat):
  ∃s' d,yK C core s n=(s',[d],0)/\d=⟨4,core,l,0,0,0,0,false,0⟩/\vQ s l/\s'.pY=false/\s'.uF=s.uF/\s'.gl=s.gl/\s'.gc=s.gc/\(∀k,k≠l->pk C s' k=pk C s k)/\Qt.fY C s' l/\LQ C i W l s' x F0 (F1++[d]) F2'/\val C s' x l=val C s x l:=by
 have e:=fun k=>A9 (k:=k) (l:=l) G
 simp only[iB] at e
 have O:=e 8
 have z:=e 10
 rw[fZ ⟨u,g⟩] at O
 rw[fP ER] at z
 have Q:=h.a
 have:=uU (a:=vQ s l)
 have b:vQ s l:=oH.1 ER
 rw[fZ b] at Q
 have f:=h.rG
 rw[fZ b] at f
 have v:¬Qt.fY C s l:=fun e=>by rw[fZ e] at f;omega
 have L:¬jY s l:=fun e=>by rw[fZ e] at f;omega
 have p:=h.gr n (by rw[G.mem_iff];exact ei) u g
 have t:(nM C.bL.toNat C.ways.toNat s.S n.bA<|lQ C s n).2=0:=aF5 ER (by rw[g];exact v) (by rw[g];exact X)
 have D:lQ C s n=⟨n.state,W,x.2⟩:=by
  unfold lQ;rw[g,aXf<|show ¬(cI C.bL.toNat s.S l).2=0 from v,p.1,p.2.2]
 refine⟨{s with S:=(nM C.bL.toNat C.ways.toNat s.S n.bA<|lQ C s n).1,al:=0,aw:=false,pY:=false},_,?_,rfl,b,rfl,rfl,rfl,rfl,fun k u=>?_,?_,?_,?_⟩
 .unfold yK;rw[aXf<|by rw[b.1];decide,aXf<|by rw[g,b.2];omega,aXf<|by rw[t];decide,g]
 .exact Ho (by rw[g];exact u)
 all_goals
  generalize j:({s with S:=(nM C.bL.toNat C.ways.toNat s.S n.bA<|lQ C s n).1,al:=0,aw:=false,pY:=false}:iJ)=s'
  have q:pk C s' l=(⟨n.state,W,x.2⟩,0):=by
   subst j;have:=Oi (x:=lQ C s n) U.bL (show 0<=n.bA by omega) t;rw[D,g] at this;rw[<-D] at this;show cI _ (nM C.bL.toNat C.ways.toNat s.S n.bA<|lQ C s n).1 l=_;rw[g,this,D]
  have r:Qt.fY C s' l:=by unfold Qt.fY;rw[q]
  have J:¬vQ s' l:=by subst j;intro e;cases e.1
  have B:jY s' l↔jY s l:=by subst j;rfl
  have o:s'.gc=s.gc:=by subst j;rfl
 .exact r
 .have V:=h.o;have T:=h.d;have hb:=h.b;have:=uU (a:=x.1.owner=i);have:=uU (a:=x.1.busy=true);rw[fP v] at V T;have I:nK 4 (F1++[(⟨4,core,l,0,0,0,0,false,0⟩:aI)]) l=nK 4 F1 l+1:=by
   rw[rF,iB,kM,fZ ⟨rfl,rfl⟩]
  refine⟨?_,?_,?_,?_,?_,?_,h.U0,h.wt,h.gt,?_,?_,?_,?_,fun y Y=>h.gr y<|by rw[G.mem_iff,j2];exact .inr Y⟩
  .rw[fP J];omega
  .rw[nD B];have:=h.g;omega
  .rw[I];omega
  .rw[fZ r];omega
  .rw[fZ r,I];omega
  .rw[fP J,fZ r,nD B,fP L];omega
  .intro _;rw[q];exact⟨p.2.1,rfl,fun _=>rfl⟩
  .rw[B,o];exact h.ge
  .rw[o];exact h.pu
  .rw[o];intro e;exact h.ak ER
 .unfold val;rw[aXg r,aXf v,aXf L,q]
def LQ.aOk (h:LQ C i W l s x F0 F1 F2) (h0:0<=i) (hb:x.1.busy=false) (p:x.1.aY=n::w) (v:n.kind=3) (j:Int->Int×Bool) {c:Int} (hc:c=i):
  n.core=i/\w=[]/\(∃y,cU.kN (x.1.next w) l x.2 n j=(y,[Ed 10 c l])/\y.1.aY=w/\LQ C i W l s y F0 F1 (F2++[Ed 10 c l])/\val C s y l=val C s x l):=by
 have b:=h.wt n (by rw[p];exact ei)
 have O:=h.g
 have Q:=h.o
 have:=uU (a:=x.1.owner=i)
 have:=uU (a:=jY s l)
 rw[p,iB,fZ (a:=n.kind=3/\n.bA=l) ⟨v,b.2.2⟩] at O Q
 have f:jY s l:=oH.1 ER
 have o:x.1.owner=i:=oH.1 ER
 rw[fZ f] at O
 rw[fZ o] at Q
 have g:=h.rG
 rw[fZ f] at g
 have ha:=h.a
 have r:=h.ge f
 have t:=h.pu n (.inr<|by rw[p];exact ei) v b.2.2
 have u:w=[]:=by
  cases hw1:w with
  |nil=>rfl
  |cons m w'=>
   exfalso;have z:=h.wt m (by rw[p,hw1];simp);have n3:¬m.kind=3:=fun e=>by
    have:=kX (F:=w) (n:=m) (by rw[hw1];exact ei) e z.2.2;omega
   have:=J0 (F:=x.1.aY) (n:=m) (by rw[p,hw1];simp) ER z.2.2;omega
 have G:=h.b
 have X:=h.d
 rw[p,iB,fZ (a:=n.kind=3/\n.bA=l) ⟨v,b.2.2⟩] at X
 rw[fP<|by rw[hb];decide] at G
 have z:(if(x.1.next w).owner=n.core/\n.Cw=true then(n.d0,n.d1) else x.2)=s.gc.d:=by
  show(if x.1.owner=n.core/\n.Cw=true then _ else _)=_;rw[o,b.2.1,t.2];by_cases e:s.gc.st=4;rw[aXg ⟨rfl,c8 e⟩];exact t.1;rw[aXf<|by simp[e]];exact(r.2 ER).symm
 refine⟨b.2.1,u,(((x.1.next w).jI n.core),s.gc.d),?_,?_,?_,?_⟩
 .unfold cU.kN;rw[aXg v,z,hc,b.2.1]
 .rfl
 .subst u;have B:=h.U0;have J:((x.1.next []).jI n.core).owner= -1:=by
   show(if x.1.owner=n.core then -1 else x.1.owner)= -1;rw[aXg<|by rw[o,b.2.1]]
  have U:nK 10 (F2++[Ed 10 c l]) l=nK 10 F2 l+1:=by
   rw[rF,iB,kM,fZ ⟨rfl,rfl⟩]
  have D:nK 8 (F2++[Ed 10 c l]) l=nK 8 F2 l:=by
   rw[rF,iB,kM,fP fun e=>by cases e.1];omega
  have T:¬Qt.fY C s l:=fun e=>by rw[fZ e] at g;omega
  have Z:nG x.1.aY l=0:=by
   rw[p,mD,fP ER,sN]
  have Y:¬(-1=i):=ER
  refine⟨?_,?_,?_,?_,?_,?_,⟨B.1,B.2.1,B.2.2.1,fun k=>?_,.inr J⟩,(fun y q=>by cases q),(fun y q=>h.gt y<|.inl GA),?_,?_,fun y q V I=>?_,?_,?_⟩
  .dsimp only;rw[D];show _=_+nG [] l+_;rw[sN];omega
  .dsimp only;rw[U];show _=_+nK 3 [] l+_;rw[kM,fZ f];omega
  .dsimp only;rw[D];exact h.b
  .dsimp only;rw[D,J,fP Y];show _=_+nK 3 [] l;rw[kM,fP T];omega
  .show _<=_+nK 3 [] l;omega
  .exact h.rG
  .show yG x.1.sh n.core false k=false;unfold yG;split
   .rfl
   .exact B.2.2.2.1 k
  .intro e;exact absurd e T
  .intro _;exact⟨r.1,fun _=>rfl⟩
  .exfalso;rcases q with e|e
   .have:=kX e V I;omega
   .cases e
  .intro _;rfl
  .intro y q L I;have:y∈F2:=by
    rcases cL.1 q with e|e;exact e;rw[c7] at e;subst e;cases L
   exfalso
   have:=kX this L I
   omega
 .unfold val;rw[aXg f,aXg f]
def aFf {r:cU} {c:Int} (f:∀k,r.sh k=false) (e:r.owner= -1):r.first c= -1:=by
 have b:∀j:Nat,r.vB c j=false:=fun j=>Xd (f j) (by rw[e];omega);simp[cU.first,cU.Cd,b]
def LQ.aQi (h:LQ C i W l s x F0 F1 F2) (h0:0<=i) (hb:x.1.busy=false) (B:x.1.aY=n::w) (hk:n.kind=1\/n.kind=2) (hj:j W=(W,true)):
  n.core=i/\w=[]/\vQ s l/\(∃y d,cU.kN (x.1.next w) l x.2 n j=(y,[d])/\y.1.aY=w/\(∃st,(st=2\/st=4)/\d=⟨8,i,l,W,st,x.2.1,x.2.2,false,0⟩)/\LQ C i W l s y F0 F1 (F2++[d])/\val C s y l=val C s x l):=by
 have r:n∈x.1.aY:=by rw[B];exact ei
 have b:=h.wt n r
 have U:=h.a
 have Y:=h.o
 have hg:=h.g
 have hd:=h.d
 have G:=h.b
 have g:=h.rG
 have:=uU (a:=vQ s l)
 rw[B,mD,fZ (a:=(n.kind=1\/n.kind=2)/\n.bA=l) ⟨hk,b.2.2⟩] at U
 have p:vQ s l:=oH.1 ER
 rw[fZ p] at U g
 rw[fP<|by rw[hb];decide] at G
 have T:¬Qt.fY C s l:=fun e=>by rw[fZ e] at g;omega
 have Q:¬jY s l:=fun e=>by rw[fZ e] at g;omega
 rw[fP Q] at hg
 rw[fP T] at Y hd
 have J:¬x.1.owner=i:=fun e=>by rw[fZ e] at Y;omega
 have v:=h.U0
 have u:x.1.owner= -1:=v.2.2.2.2.resolve_left J
 have O:w=[]:=by
  cases hw1:w with
  |nil=>rfl
  |cons m w'=>
   exfalso;have X:=h.wt m (by rw[B,hw1];simp);have n3:¬m.kind=3:=fun e=>by
    have:=kX (F:=x.1.aY) (n:=m) (by rw[B,hw1];simp) e X.2.2;omega
   have:=J0 (F:=w) (n:=m) (by rw[hw1];exact ei) ER X.2.2;omega
 subst O
 have I:=h.gt n (.inr r) hk b.2.2
 have hs:∀k,((x.1.next []).pJ n W).sh k=false:=v.2.2.2.1
 have t:((x.1.next []).pJ n W).owner= -1:=u
 have V:∀c,((x.1.next []).pJ n W).first c= -1:=fun c=>aFf hs t
 have hu:((x.1.next []).pJ n W).xK=(x.1.next []).pJ n W:=by
  unfold cU.xK;rw[aXf];show ¬x.1.owner=n.core;omega
 have o:((x.1.next []).pJ n W).jl x.2=x.2:=by
  unfold cU.jl;show(if x.1.qu=true then _ else _)=_;rw[v.2.2.1];rfl
 have f:∃st,(st=2\/st=4)/\∃sh:Nat->Bool,(∀k,sh k=false)/\(x.1.next []).get l x.2 n W=({((x.1.next []).pJ n W) with owner:=n.core,sh:=sh,eZ:=true},[⟨8,n.core,l,W,st,x.2.1,x.2.2,false,0⟩]):=by
  unfold cU.get;dsimp only;rcases hk with hk|hk;refine⟨2,.inl rfl,yG (fun k=>x.1.sh k) n.core false,fun k=>by unfold yG;split;rfl;exact v.2.2.2.1 k,?_⟩;rw[aab,hu];unfold cU.il;rw[aXf fun e=>e t,o];unfold cU.jK;rw[aXf (show ¬((x.1.next []).pJ n W).cD.kind=2 from fun e=>by have:n.kind=2:=e;omega),aXg<|V _];rfl;refine⟨4,.inr rfl,fun _=>false,fun _=>rfl,?_⟩;rw[aXg hk];unfold cU.qy;rw[aXf fun e=>e<|V _,o];unfold cU.jK;rw[aXg<|show((x.1.next []).pJ n W).cD.kind=2 from hk];rfl
 obtain⟨st,z,sh,L,f⟩:=f
 refine⟨b.2.1,rfl,p,({((x.1.next []).pJ n W) with owner:=n.core,sh:=sh,eZ:=true},x.2),⟨8,n.core,l,W,st,x.2.1,x.2.2,false,0⟩,?_,?_,⟨st,z,by rw[b.2.1]⟩,?_,?_⟩
 .unfold cU.kN;rw[aab,aXg hk,I,hj,aXg rfl];dsimp only;rw[f]
 .rfl
 .rw[b.2.1];have D:nK 8 (F2++[(⟨8,i,l,W,st,x.2.1,x.2.2,false,0⟩:aI)]) l=nK 8 F2 l+1:=by
   rw[rF,iB,kM,fZ ⟨rfl,rfl⟩]
  have Z:nK 10 (F2++[(⟨8,i,l,W,st,x.2.1,x.2.2,false,0⟩:aI)]) l=nK 10 F2 l:=by
   rw[rF,iB,kM,fP fun e=>by cases e.1];omega
  refine⟨?_,?_,?_,?_,?_,?_,⟨rfl,fun _=>b.2.1,v.2.2.1,L,.inl rfl⟩,(fun y q=>by cases q),(fun y q=>h.gt y<|.inl GA),?_,?_,(fun y q=>h.pu y<|.inl GA),?_,?_⟩
  .show _=_+nG [] l+_;rw[D,sN,fZ p];omega
  .show _=_+nK 3 [] l+_;rw[Z,kM,fP Q];omega
  .show tk (true=true)=_;rw[D,fZ rfl];omega
  .show tk (i=i)=_+nK 3 [] l;rw[D,kM,fZ rfl,fP T];omega
  .show _<=_+nK 3 [] l;rw[kM];omega
  .exact h.rG
  .exact h.cp
  .exact h.ge
  .intro e;omega
  .intro y q h8 hl;rcases cL.1 q with e|e
   .have:=kX e h8 hl;omega
   .rw[c7] at e;subst e;exact⟨rfl,z,rfl⟩
 .unfold val;rw[aXf T,aXf Q]
theorem LQ.aTu (h:LQ C i W l s x F0 F1 F2) (v:s.pY=false) (G:¬jY s l) (I:¬Qt.fY C s l) {wr:Bool} (o:s'={s with al:=l,aw:=wr,pY:=true}) {c:Int} (t:k=1\/k=2):
  LQ C i W l s' x (F0++[⟨k,c,l,W,0,0,0,false,0⟩]) F1 F2/\val C s' x l=val C s x l:=by
 have J:¬vQ s l:=fun e=>by rw[e.1] at v;cases v
 have z:vQ s' l:=by subst o;exact⟨rfl,rfl⟩
 have q:pk C s' l=pk C s l:=by subst o;rfl
 have f:Qt.fY C s' l↔Qt.fY C s l:=by unfold Qt.fY;rw[q]
 have g:jY s' l↔jY s l:=by subst o;rfl
 have j:s'.gc=s.gc:=by subst o;rfl
 have B:nG (F0++[(⟨k,c,l,W,0,0,0,false,0⟩:aI)]) l=nG F0 l+1:=by
  rw[zM,mD,sN,fZ ⟨t,rfl⟩]
 have b:nK 3 (F0++[(⟨k,c,l,W,0,0,0,false,0⟩:aI)]) l=nK 3 F0 l:=by
  rw[rF,iB,kM,fP fun e=>by have:=e.1;dsimp only at this;omega];omega
 have D:=h.a
 rw[fP J] at D
 have mem:∀y:aI,(y∈F0++[(⟨k,c,l,W,0,0,0,false,0⟩:aI)]\/y∈x.1.aY)->(y∈F0\/y∈x.1.aY)\/y=⟨k,c,l,W,0,0,0,false,0⟩:=fun y p=>ES
 refine⟨⟨?_,?_,h.b,?_,?_,?_,h.U0,h.wt,fun y p t u=>?_,?_,?_,fun y p r u=>?_,?_,h.gr⟩,?_⟩
 .rw[fZ z,B];omega
 .rw[nD g,b];exact h.g
 .rw[nD f,b];exact h.o
 .rw[nD f,b];exact h.d
 .rw[fZ z,nD f,nD g,fP G,fP I];omega
 .rcases mem y p with e|e
  .exact h.gt y e t u
  .rw[e]
 .rw[f,q];exact h.cp
 .rw[g,j];exact h.ge
 .rcases mem y p with e|e
  .rw[j];exact h.pu y e r u
  .rw[e] at r;dsimp only at r;omega
 .rw[j];exact h.ak
 .unfold val;simp only[q,f,g,j]
end
variable {E:HR} {H H':kQ}
section
variable {i W:Int} {s s':iJ} {F F':HM} {n:aI} {w:HM}
def uA (C:bT) (s:iJ) (l:Int):iJ:={s with S:=lT C.bL.toNat s.S l,gl:=l,gc:=(pk C s l).1,uF:=true}
def Ah (C:bT) (s:iJ) (c l:Int):aI:=⟨3,c,l,(pk C s l).1.w,0,(pk C s l).1.d.1,(pk C s l).1.d.2,qE (pk C s l).1.st,0⟩
theorem LQ.aRl (h:LQ C i W l s x F0 F1 F2) (L:kK C s) (G:0<=l) (o:Qt.fY C s l) {c:Int}:LQ C i W l (uA C s l) x (F0++[Ah C s c l]) F1 F2/\val C (uA C s l) x l=val C s x l:=by
 have b:=h.rG;rw[fZ o] at b;have B:¬vQ s l:=fun e=>by rw[fZ e] at b;omega
 have Q:¬jY s l:=fun e=>by rw[fZ e] at b;omega
 have g:¬vQ (uA C s l) l:=B;have u:jY (uA C s l) l:=⟨rfl,rfl⟩;have j:¬Qt.fY C (uA C s l) l:=aA1 L.bL G;have f:=h.cp o;have r:nK 3 (F0++[Ah C s c l]) l=nK 3 F0 l+1:=by rw[rF,iB,kM,fZ ⟨rfl,rfl⟩]
 have D:nG (F0++[Ah C s c l]) l=nG F0 l:=by
  rw[zM,mD,sN,fP fun e=>by rcases e.1 with e|e<;>cases e];omega
 have I:=h.a;have t:=h.g;have O:=h.o;have J:=h.d;rw[fP B] at I;rw[fP Q] at t;rw[fZ o] at O J;have mem:∀y:aI,(y∈F0++[Ah C s c l]\/y∈x.1.aY)->(y∈F0\/y∈x.1.aY)\/y=Ah C s c l:=fun y q=>ES
 refine⟨⟨?_,?_,h.b,?_,?_,?_,h.U0,h.wt,fun y q z p=>?_,(fun e=>absurd e j),(fun _=>⟨f.1,f.2.2⟩),fun y q v p=>?_,(fun e=>ER),h.gr⟩,?_⟩;rw[fP g,D];omega;rw[fZ u,r];omega;rw[fP j,r];omega;rw[fP j,r];omega;rw[fP g,fP j,fZ u];omega;rcases mem y q with e|e;exact h.gt y e z p;subst e;rcases z with e|e<;>cases e;rcases mem y q with e|e;exfalso;rcases e with e|e;have:=kX e v p;omega;have:=kX e v p;omega;subst e;refine⟨rfl,?_⟩;show qE (pk C s l).1.st=decide ((pk C s l).1.st=4);unfold qE;rcases f.1 with e|e<;>rw[e]<;>rfl;unfold val;rw[aXf j,aXg u,aXg o];rfl
def uv (h:k≠l) (b:s.uF=false):La C k s (uA C s l):=by
 refine⟨Lg h,CW,⟨fun e=>absurd e.2.symm h,fun e=>?_⟩,fun e=>?_⟩;rw[e.1] at b;cases b;rw[e.1] at b;cases b
def iy (s:iJ) (l:Int) (wr:Bool):iJ:={s with al:=l,aw:=wr,pY:=true}
def ud {wr:Bool} (h:k≠l) (b:s.pY=false):La C k s (iy s l wr):=
 ⟨rfl,⟨fun e=>absurd e.2.symm h,fun e=>by rw[e.1] at b;cases b⟩,CW,fun _=>rfl⟩
def yu (b:kK C s):La C k s (rR C s l a o):=by
 unfold rR;split;rename_i f;refine⟨?_,CW,CW,fun _=>rfl⟩;show cI _ (H7 _ _ s.S l) k=_;by_cases e:k=l;subst e;exact eu b.bL (P7 f).2.2.1;exact kr e;exact La.refl
def x5 (b:kK C s):(rR C s l a o).pY=s.pY/\(rR C s l a o).al=s.al/\(rR C s l a o).uF=s.uF/\(rR C s l a o).gl=s.gl:=by
 unfold rR;split<;>exact⟨rfl,rfl,rfl,rfl⟩
def U7 (h:k≠l):La C k s (jH C s l a o v):=by
 unfold jH;split;exact⟨Ho h,CW,CW,fun _=>rfl⟩;exact La.refl
def LQ.dX (h:LQ C i W l s x F0 F1 F2) (u:kK C s) (z:sP C s.S l a o true=0):Qt.fY C s l/\Qt.fY C (jH C s l a o v) l/\LQ C i W l (jH C s l a o v) x F0 F1 F2/\val C (jH C s l a o v) x l=aM7 (val C s x l) a v:=by
 obtain⟨B,_,y,_⟩:=P7 z;have g:Qt.fY C s l:=y;have e:jH C s l a o v={s with S:=(nM C.bL.toNat C.ways.toNat s.S l<|zL C.bL.toNat s.S l a v).1}:=by unfold jH;rw[aXg z]
 rw[e];have b:pk C {s with S:=(nM C.bL.toNat C.ways.toNat s.S l<|zL C.bL.toNat s.S l a v).1} l=(zL C.bL.toNat s.S l a v,0):=Oi u.bL B.1<|du u.bL y;generalize r:({s with S:=(nM C.bL.toNat C.ways.toNat s.S l<|zL C.bL.toNat s.S l a v).1}:iJ)=s' at b ⊢;have f:Qt.fY C s' l:=by unfold Qt.fY;rw[b]
 have t:vQ s' l↔vQ s l:=by subst r;rfl
 have p:jY s' l↔jY s l:=by subst r;rfl
 have j:s'.gc=s.gc:=by subst r;rfl
 have q:tk (Qt.fY C s' l)=tk (Qt.fY C s l):=by rw[fZ g,fZ f]
 refine⟨g,f,⟨by rw[nD t];exact h.a,by rw[nD p];exact h.g,h.b,by rw[q];exact h.o,by rw[q];exact h.d,by rw[nD t,nD p,q];exact h.rG,h.U0,h.wt,h.gt,?_,by rw[p,j];exact h.ge,by rw[j];exact h.pu,by rw[j];exact h.ak,h.gr⟩,?_⟩;intro _;rw[b];exact⟨.inr rfl,(h.cp g).2.1,fun e=>GS⟩;unfold val;rw[aXg f,aXg g,b];rfl
def oA (E:HR) (W:Int) (l:Nat):Prop:=(E.getD (l/2) mG).owner=W
instance {E:HR} {W:Int} {l:Nat}:Decidable (oA E W l):=by unfold oA;infer_instance
def LA (C:bT) (E:HR) (i W:Int) (s:iJ) (H:kQ) (F0 F1 F2:HM):Prop:=∀l:Nat,l<C.aF->(oA E W l->LQ C i W l s (H l) F0 F1 F2)/\(¬oA E W l->LO C l s F0 F1 F2)
def LA.frame (h:LA C E i W s H F0 F1 F2) (hc:∀l:Nat,l<C.aF->La C l s s') (f:∀l:Nat,l<C.aF->Sm l F0 F0') (g:∀l:Nat,l<C.aF->Sm l F1 F1') (j:∀l:Nat,l<C.aF->Sm l F2 F2'):LA C E i W s' H F0' F1' F2':=
 fun l b=>⟨fun e=>((h l b).1 e).frame (hc l b) (f l b) (g l b)<|j l b,fun e=>((h l b).2 e).frame (hc l b) (f l b) (g l b)<|j l b⟩
def LA.rG {l:Nat} (h:LA C E i W s H F0 F1 F2) (b:oA E W l) (hH:∀k,k≠l->H' k=H k) (q:LQ C i W l s' (H' l) F0' F1' F2')
  (hc:∀k:Nat,k≠l->La C k s s') (f:∀k:Nat,k≠l->Sm k F0 F0') (g:∀k:Nat,k≠l->Sm k F1 F1') (j:∀k:Nat,k≠l->Sm k F2 F2'):LA C E i W s' H' F0' F1' F2':=by
 intro k o
 by_cases e:k=l
 .subst e;exact⟨fun _=>q,fun p=>absurd b p⟩
 .rw[hH k e];exact⟨fun b=>((h k o).1 b).frame (hc k e) (f k e) (g k e)<|j k e,fun b=>((h k o).2 b).frame (hc k e) (f k e) (g k e)<|j k e⟩
end
section
variable {n:aI} {F:fI}
theorem Bv {k:Nat} {fs:EL} (hC:C.Ok) (e:n.kind=(k:Int)) (g:1<=k/\k<14) (b:Hw k=fs) (f:mB C n fs (tI k)=(true,n)):Nt.mZ C n=0:=by
 rw[Nt.mZ,aXg<|show Sq n.kind by unfold Sq;omega,aXg hC,e,aP,b,f];grind
theorem aOo {core w:Int} (hC:C.Ok) (b:k=1\/k=2) (e:0<=core/\core<C.aE) (f:0<=l/\l<C.aF) (g:0<=w/\w<=3):Nt.mZ C ⟨k,core,l,w,0,0,0,false,0⟩=0:=by
 rcases b with rfl|rfl;apply Bv (fs:=[1,2,3]) hC rfl ET rfl;grind[mB,Iz,nX,Mw,tI,aI.zero];apply Bv (fs:=[1,2,3]) hC rfl ET rfl;grind[mB,Iz,nX,Mw,tI,aI.zero]
def aNn {core w d0 d1:Int} (hC:C.Ok) (e:0<=core/\core<C.aE) (f:0<=l/\l<C.aF) (g:0<=w/\w<=4):Nt.mZ C ⟨3,core,l,w,0,d0,d1,b,0⟩=0:=by
 apply Bv (fs:=[1,2,4,8,9,10]) hC rfl ET rfl;cases b<;>simp[mB,Iz,nX,Mw,tI,aI.zero,e,f,g]
theorem aM1 {core:Int} (hC:C.Ok) (b:0<=core/\core<C.aE) (e:0<=l/\l<C.aF):Nt.mZ C ⟨4,core,l,0,0,0,0,false,0⟩=0:=by
 apply Bv (fs:=[1,2]) hC rfl ET rfl;grind[mB,Iz,nX,Mw,tI,aI.zero]
def vu {core:Int} (hC:C.Ok) (b:0<=core/\core<C.aE) (e:0<=a/\a<20):Nt.mZ C (fH 6 core a)=0:=by
 apply Bv (fs:=[1,12]) hC rfl ET rfl;simp[mB,Iz,nX,Mw,tI,aI.zero,fH,b,e]
theorem aDz {core w s d0 d1:Int} (hC:C.Ok) (b:0<=core/\core<C.aE) (e:0<=l/\l<C.aF) (f:0<=w/\w<=4) (g:s=1\/s=2\/s=4):Nt.mZ C ⟨8,core,l,w,s,d0,d1,false,0⟩=0:=by
 apply Bv (fs:=[1,2,4,6,8,9]) hC rfl ET rfl;grind[mB,Iz,nX,Mw,tI,aI.zero]
def aNz {core:Int} (hC:C.Ok) (f:k=9\/k=10) (b:0<=core/\core<C.aE) (e:0<=l/\l<C.aF):Nt.mZ C (Ed k core l)=0:=by
 rcases f with rfl|rfl;apply Bv (fs:=[1,2,11]) hC rfl ET rfl;simp[mB,Iz,nX,Mw,tI,aI.zero,Ed,b,e];apply Bv (fs:=[1,2]) hC rfl ET rfl;simp[mB,Iz,nX,Mw,tI,aI.zero,Ed,b,e]
def xb {core w:Int} (hC:C.Ok) (b:0<=core/\core<C.aE) (e:0<=a/\a<20):Nt.mZ C (uJ core w a)=0:=by
 apply Bv (fs:=[1,8,9,12]) hC rfl ET rfl;simp[mB,Iz,nX,Mw,tI,aI.zero,uJ,fH,b,e]
abbrev ar (l:HM) (n:aI):Nat:=l.countP fun x=>decide<|x.core.toNat=n.core.toNat/\dO x=dO n
theorem Uo:∀{l:HM} {F:fI},(∀n∈l,((F n.core.toNat<|dO n).length:Int)+(ar l n:Nat)<=C.eT)->∃F',fI.xP C.eT F l=some F'
 |[],F,_=>⟨F,rfl⟩
 |y::l,F,h=>by
  have e:=h y ei;rw[ar,List.countP_cons_of_pos EV] at e;rw[fI.xP,aae];refine Uo fun n f=>?_;have b:=h n<|eK _ f;rw[ar] at b ⊢;rw[CU] at b;unfold fI.jZ fI.set;grind
theorem aH0:∀{l:HM},(∀n∈l,Nt.mZ C n=0)->aU C l=0
 |[],_=>rfl
 |n::l,h=>by
  rw[aU,aXf ES];exact aH0 ES
theorem zJ {l:HM} {F:fI} (e:∀n∈l,Nt.mZ C n=0) (b:∀n∈l,((F n.core.toNat<|dO n).length:Int)+(ar l n:Nat)<=C.eT):(F.mR C l).2=0:=by
 have⟨F',h⟩:=Uo b;simp_all[fI.mR,aXf,aH0]
theorem Aj {F:fI} (b:Nt.mZ C n=0) (e:((F n.core.toNat<|dO n).length:Int)<C.eT):(F.mR C [n]).2=0:=
 zJ ES ES
theorem uY (h:(F.mR C [n]).2=0):(F.mR C [n]).1=F.jZ n/\((F n.core.toNat<|dO n).length:Int)<C.eT/\Nt.mZ C n=0:=by
 rw[fI.mR] at h ⊢;by_cases b:aU C [n]≠0;grind;rw[aXf b] at h ⊢;unfold fI.xP at h ⊢;by_cases e:((F n.core.toNat<|dO n).length:Int)<C.eT;rw[aXg e] at h ⊢;exact⟨rfl,e,P6 HF n EV⟩;grind
theorem xo {l:HM} (hc:(c:Int)<C.aE) (b:w<4) (h:F c w=m::l):F.take C (c:Int) (w:Int) 0=(F.set c w l,m,0):=by
 rw[fI.take,aab];simp_all
def vF (f:Nat->Nat):Nat->Nat
 |0=>0
 |n+1=>vF f n+f n
theorem Xq {f g:Nat->Nat}:∀{n:Nat},(∀i,i<n->f i<=g i)->vF f n<=vF g n
 |0,_=>ba _
 |n+1,h=>Nat.add_le_add (Xq ES) ES
theorem Fa {f g:Nat->Nat} {n:Nat} (h:∀i,i<n->f i=g i):vF f n=vF g n:=
 Nat.le_antisymm (Xq ES) (Xq ES)
theorem Yt {f g:Nat->Nat} {k:Nat}:∀{n:Nat},k<n->(∀i,i<n->i≠k->f i=g i)->vF f n+g k=vF g n+f k
 |0,h,_=>ER
 |n+1,h,b=>by
  show vF f n+f n+g k=vF g n+g n+f k;by_cases e:k=n;grind[Fa];have:=Yt (n:=n) ER fun i j=>b i ER;grind
end
def WOk (n g a w:Int):Prop:=(uX n g a w).2.2.2=0/\((uX n g a w).2.2.1=false->(uX n g a w).1=eP n g/\a=g/4)
variable {es:HR}
theorem aFc {j:Nat} (h:j<(es.length+3)/4):iG es (j:Int)=(Si es j,0):=by
 unfold iG;unfold nL;grind
theorem yq (h:g<es.length):iG es (eP es.length g)=(Wd<|es.getD g mG,0):=by
 have e:eP es.length g=(((es.length+3)/4+g:Nat):Int):=by unfold eP;omega
 unfold iG;unfold nL;grind
theorem aHl {j:Nat} (h:K4 es j=true) (b:g<es.length) (e:g/4=j):es.getD g mG=⟨(es.getD (4*j) mG).owner,false⟩:=by
 unfold K4 at h;have f:es.getD g mG∈(es.drop<|4*j).take 4:=by
  rw[ay,aL b];refine fm (i:=g - 4*j) ?_;grind
 grind
theorem aPa (e:∀x∈es,0<=x.owner/\x.owner<=4) (b:g<es.length):0<=(es.getD g mG).owner/\(es.getD g mG).owner<=4:=by
 grind
theorem Uw (B:es.length<=16) (v:∀x∈es,0<=x.owner/\x.owner<=4) (q:g<es.length) (t:a=(g:Int)/4\/a=eP es.length g):
  (iG es a).2=0/\WOk es.length g a (iG es a).1/\((uX es.length g a (iG es a).1).2.2.1=true->(uX es.length g a (iG es a).1).2.1=es.getD g mG):=by
 have b:¬¬((1<=(es.length:Int)/\(es.length:Int)<=16)/\(0<=(g:Int)/\(g:Int)<es.length)):=ER
 have y:(g:Int)/4≠eP es.length g:=by unfold eP;omega
 rcases t with rfl|rfl
 .have e:(g:Int)/4=((g/4:Nat):Int):=ER
  have r:=aFc (es:=es) (j:=g/4) ER
  rw[<-e] at r
  rw[r]
  refine⟨rfl,?_⟩
  unfold WOk uX
  rw[aXf b,aXg rfl]
  unfold Si
  by_cases f:K4 es (g/4)=true
  .rw[aXg f];have z:=aHl f q rfl;rw[aab,aXg ⟨ER,HB⟩];grind
  grind
 .rw[yq q];refine⟨rfl,?_⟩;unfold WOk uX;rw[aXf b,aXf fun h=>y h.symm,aXg rfl];have u:=aPa v q;generalize D:es.getD g mG=x at u ⊢;obtain⟨o,k⟩:=x;cases k with
  |true=>
   have p:Wd ⟨o,true⟩=o+8:=rfl
   rw[p,aXf HB,aXg ⟨ES,HB⟩]
   grind
  |false=>
   have p:Wd ⟨o,false⟩=o:=rfl
   rw[p,aXg HB]
   grind
variable {M M':cN}
section
def nW (k:Int) (F:HM):Nat:=F.countP fun n=>decide<|n.kind=k
def Qu {F G:HM}:nW k (F++G)=nW k F+nW k G:=DM
def Xa:nW k []=0:=rfl
def vZ {n:aI} {F:HM}:nW k (n::F)=nW k F+tk (n.kind=k):=by
 unfold nW tk;rw[CU];simp
def Iv {F G:HM} (h:F.Perm G):nW k F=nW k G:=h.countP_eq _
def Hn {F:HM} {n:aI} (h:n∈F) (b:n.kind=k):0<nW k F:=DD.2 ⟨n,h,c8 b⟩
def xy (E:HR) (g:Int):Int:=(E.getD g.toNat mG).owner
structure SQ (C:bT) (E:HR) (s:aT) (c:iJ) (k:lX) (F0 F2:HM):Prop where
 kn:∀x∈k.cC,(0<=x.1/\x.1<C.bB)/\x.2=xy E x.1
 sB:tk (k.eN=true)=nW 6 F0+nW 12 F2
 nQ:k.nQ=false
 pl:k.eN=true->k.at'=k.cJ/4\/k.at'=eP C.bB k.cJ
 n6:∀n∈F0,n.kind=6->n.no=k.at'
 n12:∀n∈F2,n.kind=12->n.no=k.at'/\n.d0=(iG E k.at').1
 wk:k.eN=true->∃a,Mc.aT.iK s=some a/\(0<=a.cS/\a.cS<C.aF*2)/\k.cJ=a.cS/2/2/\fS k.cC k.cJ=none
 wq:c.pY=true->∃a,Mc.aT.iK s=some a/\(0<=a.cS/\a.cS<C.aF*2)/\c.al=a.cS/2/\∃o,fS k.cC (c.al/2)=some o/\vE s.bG o=true
 Rt:c.pY=true->(c.S<|cB C.bL.toNat c.al).length<C.ways.toNat
 go:c.uF=true->0<=c.gl/\c.gl<C.aF
 bd:∀l:Int,Qt.fY C c l->0<=l/\l<C.aF
structure QE (C:bT) (E:HR) (W:Nat->Int) (P:Nat->HO):Prop where
 ok:C.Ok
 dep:2<=C.eT
 len:(E.length:Int)=C.bB
 oA:∀x∈E,0<=x.owner/\x.owner<=3
 iW:∀x∈E,x.Ch=false
 w:∀i:Nat,(i:Int)<C.aE->1<=W i/\W i<=3
 d:∀i j:Nat,(i:Int)<C.aE->(j:Int)<C.aE->W i=W j->i=j
 nc:∀i:Nat,(i:Int)<C.aE->∀a,(hQ (P i) a).op≠8
 fw:∀i:Nat,(i:Int)<C.aE->∀a:Int,0<=a->a<(P i).length->((hQ (P i) a).op=9->a<(hQ (P i) a).a)/\((hQ (P i) a).op=10->a<(hQ (P i) a).b)
def qk (k:Int):Prop:=k=1\/k=2\/k=3\/k=4\/k=6\/k=8\/k=10\/k=12
structure QI (C:bT) (E:HR) (W:Nat->Int) (P:Nat->HO) (M:cN):Prop where
 mi:∃N,eO C N M
 eB:M.dS.eB=E
 lS:∀g,M.dS.lS g=none
 gP:∀i:Nat,(i:Int)<C.aE->(M.aC i).bG=W i/\(M.aC i).prog=P i
 la:∀i:Nat,(i:Int)<C.aE->LA C E i (W i) (M.aJ i) M.aK (M.bN i 0) (M.bN i 1) (M.bN i 2)
 iW:∀l:Nat,l<C.aF->(∀i:Nat,(i:Int)<C.aE->¬oA E (W i) l)->(M.aK l).1.aY=[]
 nk:∀i w n,n∈M.bN i w->qk n.kind
 sq:∀i:Nat,(i:Int)<C.aE->SQ C E (M.aC i) (M.aJ i) (M.aU i) (M.bN i 0) (M.bN i 2)
variable {P:Nat->HO}
structure X5 (C:bT) (E:HR) (Wi:Int) (i:Nat) (M M':cN):Prop where
 dS:M'.dS=M.dS
 aC:∀j,j≠i->M'.aC j=M.aC j
 aJ:∀j,j≠i->M'.aJ j=M.aJ j
 aU:∀j,j≠i->M'.aU j=M.aU j
 bN:∀j,j≠i->M'.bN j=M.bN j
 aK:∀l,¬oA E Wi l->M'.aK l=M.aK l
def QI.tC (hE:QE C E W P) (h:QI C E W P M) (r:(i:Int)<C.aE) (b:X5 C E (W i) i M M') (mi:∃N,eO C N M') (v:(M'.aC i).bG=W i/\(M'.aC i).prog=P i)
  (g:LA C E i (W i) (M'.aJ i) M'.aK (M'.bN i 0) (M'.bN i 1) (M'.bN i 2)) (t:∀w n,n∈M'.bN i w->qk n.kind) (u:SQ C E (M'.aC i) (M'.aJ i) (M'.aU i) (M'.bN i 0) (M'.bN i 2)):QI C E W P M':=by
 refine⟨mi,by rw[b.dS];exact h.eB,by rw[b.dS];exact h.lS,fun j f=>?_,fun j f=>?_,fun l g o=>?_,fun j w n o=>?_,fun j f=>?_⟩
 .by_cases e:j=i
  .subst e;exact v
  .rw[b.aC j e];exact h.gP j f
 .by_cases e:j=i
  .subst e;exact g
  .rw[b.aJ j e,b.bN j e];intro l g;refine⟨fun p=>?_,fun p=>(h.la j f l g).2 p⟩;rw[b.aK l fun q=>e<|hE.d j i f r<|p.symm.trans q];exact(h.la j f l g).1 p
 .rw[b.aK l<|o i r];exact h.iW l g o
 .by_cases e:j=i
  .subst e;exact t w n o
  .rw[b.bN j e] at o;exact h.nk j w n o
 .by_cases e:j=i
  .subst e;exact u
  .rw[b.aC j e,b.aJ j e,b.aU j e,b.bN j e];exact h.sq j f
def pZ (C:bT) (s:aT) (c:iJ) (k:lX):Nat:=match Mc.aT.iK s with
 |none=>0
 |some a=>if 0<=a.cS/\a.cS<C.aF*2 then(if(fS k.cC<|a.cS/2/2).isSome=true\/k.eN=true then 0 else 6)+(if Qt.fY C c (a.cS/2)\/c.pY=true then 0 else 9) else 0
def nR (c:iJ) (H:kQ) (F0:HM):Nat:=if c.pY=true then 2+nG (H c.al.toNat).1.aY c.al+2*nG F0 c.al else 0
def zG (c:iJ) (H:kQ) (F0:HM):Nat:=if c.uF=true then 1+nK 3 (H c.gl.toNat).1.aY c.gl+2*nK 3 F0 c.gl else 0
def Sj (k:lX) (F0:HM):Nat:=if k.eN=true then 1+(if k.at'=k.cJ/4 then 2 else 0)+nW 6 F0 else 0
def ms (C:bT) (P:HO) (s:aT) (c:iJ) (k:lX) (H:kQ) (F0 F1:HM):Nat:=16*((P.length:Int) - s.at').toNat+pZ C s c k+nR c H F0+zG c H F0+Sj k F0+F1.length
def mo (C:bT) (P:Nat->HO) (M:cN) (i:Nat):Nat:=ms C (P i) (M.aC i) (M.aJ i) (M.aU i) M.aK (M.bN i 0)<|M.bN i 1
def mu (C:bT) (P:Nat->HO) (M:cN):Nat:=vF (mo C P M) C.aE.toNat
end
variable {L:HM} {F':fI} {B:Int}
section
variable {P:Nat->HO} {F:fI} {n:aI}
def xM (f:Nt.mZ C n=0) (b:qk n.kind):(dO n=0↔(n.kind=1\/n.kind=2\/n.kind=3\/n.kind=6))/\(dO n=1↔n.kind=4)/\(dO n=2↔(n.kind=8\/n.kind=10\/n.kind=12)):=by
 unfold qk at b;unfold dO;rcases b with e|e|e|e|e|e|e|e<;>rw[e]<;>decide
def Oq {α:Type}:∀{l:List α} {k:Nat} (h:k<l.length),l.Perm (l[k]::l.eraseIdx k)
 |x::l,0,_=>AB _
 |x::l,k+1,h=>((Oq (l:=l) (k:=k) GK).cons x).trans<|List.Perm.swap ..
def aJ2 (hF:M9 C F) {D:Int} (h:(F.take C A B D).2.2=0):∃c w:Nat,∃n L,A=c/\B=w/\(c:Int)<C.aE/\w<4/\(F c w).Perm (n::L)/\F.take C A B D=(F.set c w L,n,0)/\n.core=c/\dO n=w/\et C n:=by
 unfold fI.take at h ⊢;by_cases o:(0<=A/\A<C.aE)/\(0<=B/\B<4);rw[aXf fun h=>h o] at h ⊢;by_cases f:F A.toNat B.toNat=[];dsimp only at h;rw[aXg f] at h;cases h;dsimp only;rw[aXf f];have t:0<(F A.toNat B.toNat).length:=List.length_pos_iff.2 f;have b:(D % ((F A.toNat B.toNat).length:Int)).toNat<(F A.toNat B.toNat).length:=by
  have p:=BO D (show((F A.toNat B.toNat).length:Int)≠0 by omega);have q:=BM D (show(0:Int)<((F A.toNat B.toNat).length:Int) by omega);omega
 generalize(D % ((F A.toNat B.toNat).length:Int)).toNat=k at b;have e:(F A.toNat B.toNat).getD k aI.zero=(F A.toNat B.toNat)[k]:=by rw[ay,aL b];rfl
 have j:(F A.toNat B.toNat).Perm ((F A.toNat B.toNat)[k]::(F A.toNat B.toNat).eraseIdx k):=Oq b;have g:=hF.Ss _ _ _<|sz b;have r:=(Jc g.1.mZ).2;refine⟨A.toNat,B.toNat,(F A.toNat B.toNat)[k],(F A.toNat B.toNat).eraseIdx k,ER,ER,ER,ER,j,by rw[e],ER,g.2.2,g.1⟩;rw[aXg o] at h;cases h
def U4 {D:Int} (h:(M.gH C A B D).2≠0):(M.gH C A B D).1=M:=by
 unfold cN.gH at h ⊢;dsimp only at h ⊢;split;rfl;rename_i b;rw[aXf b] at h;split;rfl;rename_i e;rw[aXf e] at h;split;rfl;rename_i f;rw[aXf f] at h;exact absurd rfl h
def qe (h:(M.fX C A).2≠0):(M.fX C A).1=M:=by
 unfold cN.fX at h ⊢;dsimp only at h ⊢;split;rfl;rename_i b;rw[aXf b] at h;split;rfl;rename_i e;rw[aXf e] at h;exact absurd rfl h
structure Dlv (C:bT) (M:cN) (c w:Nat) (n:aI) (L:HM) (M':cN):Prop where
 hc:(c:Int)<C.aE
 hw:w<4
 p:(M.bN c w).Perm (n::L)
 core:n.core=c
 aBf:dO n=w
 ok:et C n
 t:(M.dN C n).2.2=0
 s:((M.bN.set c w L).mR C (M.dN C n).2.1).2=0
 e:M'=(M.dN C n).1.dU ((M.bN.set c w L).mR C (M.dN C n).2.1).1
def ku (v:eO C N M) {D:Int} (h:(M.gH C A B D).2=0):∃(c w:Nat) (n:aI) (L:HM),A=c/\B=w/\Dlv C M c w n L (M.gH C A B D).1:=by
 unfold cN.gH at h ⊢;by_cases g:(M.bN.take C A B D).2.2=0;obtain⟨c,w,n,L,q,r,t,z,y,u,j,o,p⟩:=aJ2 v.bN g;rw[u] at h ⊢;dsimp only at h ⊢;rw[aXf ET] at h ⊢;by_cases b:(M.dN C n).2.2=0;rw[aXf fun e=>e b] at h ⊢;by_cases f:((M.bN.set c w L).mR C (M.dN C n).2.1).2=0;rw[aXf fun e=>e f];exact⟨c,w,n,L,q,r,t,z,y,j,o,p,b,f,rfl⟩;rw[aXg f] at h;exact absurd h f;rw[aXg b] at h;exact absurd h b;rw[aXg g] at h;exact absurd h g
def yI:F.set c w L c w=L:=by simp[fI.set]
def oQ {w':Nat} (h:w'≠w):F.set c w L c' w'=F c' w':=by simp[fI.set,h]
def Mr (h:c'≠c):F.set c w L c'=F c':=by funext w';simp[fI.set,h]
def Dy (h:n.core=c):F.jZ n c (dO n)=F c (dO n)++[n]:=by unfold fI.jZ;rw[h,aP,yI]
def tN (h:w≠dO n):F.jZ n c w=F c w:=by unfold fI.jZ;rw[oQ h]
def Mi (h:n.core=c) (hc:c'≠c):F.jZ n c'=F c':=by unfold fI.jZ;rw[h,aP,Mr hc]
def uO:F.mR C []=(F,0):=by simp[fI.mR,aU,fI.xP]
end
variable {s:aT}
section
variable {P:Nat->HO} {F:fI} {n:aI} {c c':iJ} {k:lX}
def SQ.rf (h:SQ C E s c k F0 F2) (f:nW 6 F0'=nW 6 F0) (e2:nW 12 F2'=nW 12 F2) (m0:∀n∈F0',n.kind=6->n∈F0) (m2:∀n∈F2',n.kind=12->n∈F2):SQ C E s c k F0' F2':=
 ⟨h.kn,by rw[f,e2];exact h.sB,h.nQ,h.pl,fun n e b=>h.n6 n (m0 n e b) b,fun n e b=>h.n12 n (m2 n e b) b,h.wk,h.wq,h.Rt,h.go,h.bd⟩
def SQ.Jt (h:SQ C E s c k F0 F2) (b:c'.pY=true->c.pY=true/\c'.al=c.al/\(c'.S<|cB C.bL.toNat c.al).length<=(c.S<|cB C.bL.toNat c.al).length) (f:c'.uF=true->0<=c'.gl/\c'.gl<C.aF) (hb:∀l:Int,Qt.fY C c' l->0<=l/\l<C.aF):SQ C E s c' k F0 F2:=
 ⟨h.kn,h.sB,h.nQ,h.pl,h.n6,h.n12,h.wk,fun e=>by have:=b e;rw[this.2.1];exact h.wq this.1,fun e=>by have:=b e;have:=h.Rt this.1;rw[(b e).2.1];omega,f,hb⟩
def o9 {l:Nat} (hc:∀l:Nat,l<C.aF->(Qt.fY C c' l↔Qt.fY C c l)) (b:c'.pY=c.pY):pZ C s c' k=pZ C s c k:=by
 unfold pZ;split;rfl;rename_i a _;by_cases h:0<=a.cS/\a.cS<C.aF*2;have e:=hc (a.cS/2).toNat ER;rw[show(((a.cS/2).toNat:Nat):Int)=a.cS/2 by omega] at e;rw[aXg h,aXg h,b];simp only[e];rw[aXf h,aXf h]
def qL (h:Nt.mZ C n=0) (b:qk n.kind) (e:n.kind≠6/\n.kind≠12):∃l:Nat,n.bA=(l:Int)/\l<C.aF:=by
 unfold qk at b;have:=aG9 h ER;exact⟨n.bA.toNat,ER,ER⟩
def xF (hc:0<=n.core/\n.core<C.aE) {l:Nat} (f:n.bA=l) (g:l<C.aF) (b:dN n.kind):gJ C H n=(bJ H l (rU.take (H l) l n).1,(rU.take (H l) l n).2):=by
 unfold gJ;rw[aXf fun e=>e b,aXg ⟨hc,by unfold bT.fY;omega⟩,f,aP]
def V6 (h:SQ C E s c k F0 F2):nR c H F0=0/\c.pY=false\/∃l:Nat,vQ c l/\nR c H F0=2+nG (H l).1.aY l+2*nG F0 l:=by
 unfold nR;cases e:c.pY with
 |false=>exact .inl ⟨rfl,rfl⟩
 |true=>
  obtain⟨a,_,b,f,_⟩:=h.wq e;have:((c.al.toNat:Nat):Int)=c.al:=ER
  exact .inr ⟨c.al.toNat,⟨e,this.symm⟩,by rw[aXg rfl,this]⟩
def jg (h:SQ C E s c k F0 F2):zG c H F0=0/\c.uF=false\/∃l:Nat,jY c l/\zG c H F0=1+nK 3 (H l).1.aY l+2*nK 3 F0 l:=by
 unfold zG;cases e:c.uF with
 |false=>exact .inl ⟨rfl,rfl⟩
 |true=>
  have b:=h.go e;have:((c.gl.toNat:Nat):Int)=c.gl:=ER
  exact .inr ⟨c.gl.toNat,⟨e,this.symm⟩,by rw[aXg rfl,this]⟩
def Bs {l:Nat} (h:vQ c l):nR c H F0=2+nG (H l).1.aY l+2*nG F0 l:=by
 unfold nR;rw[aXg h.1,h.2,aP]
def K7 {l:Nat} (h:jY c l):zG c H F0=1+nK 3 (H l).1.aY l+2*nK 3 F0 l:=by
 unfold zG;rw[aXg h.1,h.2,aP]
def Hu (h:c.pY=false):nR c H F0=0:=by unfold nR;rw[h];rfl
def nf (h:c.uF=false):zG c H F0=0:=by unfold zG;rw[h];rfl
def aCy {l:Nat} (r:F0.Perm (n::L)) (z:n.kind=1\/n.kind=2\/n.kind=3) (j:n.bA=l)
  (t:tk (vQ c l)=nG F0 l+nG (H l).1.aY l+nK 8 F1 l) (u:tk (jY c l)=nK 3 F0 l+nK 3 (H l).1.aY l+nK 10 F1 l) (o:n∈F0) (h:SQ C E s c k F0 F2):
  nR c (bJ H l ((H l).1.mX n,(H l).2)) L+zG c (bJ H l ((H l).1.mX n,(H l).2)) L<nR c H F0+zG c H F0:=by
 have p:=fun l:Int=>Nq (l:=l) r
 have q:=fun l:Int=>A9 (k:=3) (l:=l) r
 simp only[mD,iB] at p q
 have wG:∀m:Nat,nG (bJ H l ((H l).1.mX n,(H l).2) m).1.aY m=nG (H m).1.aY m+tk ((n.kind=1\/n.kind=2)/\n.bA=m):=fun m=>by
  by_cases e:m=l;subst e;rw[bR];show nG (_++[n]) _=_;rw[zM,mD,sN];omega;rw[eA e,fP ER];rfl
 have v:∀m:Nat,nK 3 (bJ H l ((H l).1.mX n,(H l).2) m).1.aY m=nK 3 (H m).1.aY m+tk (n.kind=3/\n.bA=m):=fun m=>by
  by_cases e:m=l;subst e;rw[bR];show nK 3 (_++[n]) _=_;rw[rF,iB,kM];omega;rw[eA e,fP ER];rfl
 have a1:nR c (bJ H l ((H l).1.mX n,(H l).2)) L+tk (n.kind=1\/n.kind=2)<=nR c H F0:=by
  rcases V6 (H:=H) h with⟨e,f⟩|⟨m,e,_⟩;have:¬(n.kind=1\/n.kind=2):=fun b=>by
   have:=J0 o b j;rw[fP fun g=>by rw[g.1] at f;cases f] at t;omega
  rw[fP this,Hu f];omega;rw[Bs e,Bs e,wG,p m];by_cases b:n.kind=1\/n.kind=2;have:vQ c l:=oH.1 (by have:=J0 o b j;omega);have:(m:Int)=l:=by rw[<-e.2,this.2]
  rw[fZ b,fZ ⟨b,ER⟩];omega;rw[fP b,fP fun g=>b g.1];omega
 have y:zG c (bJ H l ((H l).1.mX n,(H l).2)) L+tk (n.kind=3)<=zG c H F0:=by
  rcases jg (H:=H) h with⟨e,f⟩|⟨m,e,_⟩;have:¬n.kind=3:=fun b=>by
   have:=kX o b j;rw[fP fun g=>by rw[g.1] at f;cases f] at u;omega
  rw[fP this,nf f];omega;rw[K7 e,K7 e,v,q m];by_cases b:n.kind=3;have:jY c l:=oH.1 (by have:=kX o b j;omega);have:(m:Int)=l:=by rw[<-e.2,this.2]
  rw[fZ b,fZ ⟨b,ER⟩];omega;rw[fP b,fP fun g=>b g.1];omega
 have:1<=tk (n.kind=1\/n.kind=2)+tk (n.kind=3):=by
  by_cases e:n.kind=3;rw[fZ e];omega;rw[fZ (a:=n.kind=1\/n.kind=2) ER];omega
 omega
def QI.oy (hE:QE C E W P) (h:QI C E W P M) (b:Dlv C M i w n L M') (mi:∃N,eO C N M') (f:n.kind=1\/n.kind=2\/n.kind=3):
  QI C E W P M'/\X5 C E (W i) i M M'/\mo C P M' i<mo C P M i/\M'.aC=M.aC/\∀l:Nat,l<C.aF->oA E (W i) l->val C (M'.aJ i) (M'.aK l) l=val C (M.aJ i) (M.aK l) l:=by
 have V:qk n.kind:=GF
 have hw:w=0:=by rw[<-b.aBf];exact(xM b.ok.mZ V).1.2 ER
 subst hw
 obtain⟨l,r,q⟩:=qL b.ok.mZ V ER
 have z:=b.hc
 have ht:gJ C M.aK n=(bJ M.aK l ((M.aK l).1.mX n,(M.aK l).2),[],0):=by
  rw[xF (by rw[b.core];omega) r q<|by unfold dN;omega];unfold rU.take;rw[aab,aab]
 have I:M.dN C n=(M.rC<|bJ M.aK l ((M.aK l).1.mX n,(M.aK l).2),[],0):=by
  unfold cN.dN;rw[aae,ht]
 have e:=b.e
 rw[I,uO] at e
 subst e
 have B:n∈M.bN i 0:=GZ
 have la:=h.la i z
 have u:oA E (W i) l:=hS fun u=>by
  have lo:=(la l q).2 u;have α:=lo.n0;rcases f with e|e|e;have:=J0 B (.inl e) r;omega;have:=J0 B (.inr e) r;omega;have:=kX B e r;omega
 have p:=(la l q).1 u
 have G:=p.oy b.p f r b.core
 have D:∀k:Nat,k≠l->¬rel k n:=fun k f e=>GG
 have o:X5 C E (W i) i M ((M.rC<|bJ M.aK l ((M.aK l).1.mX n,(M.aK l).2)).dU<|M.bN.set i 0 L):=
  ⟨rfl,fun _ _=>rfl,fun _ _=>rfl,fun _ _=>rfl,fun j Y=>Mr Y,fun k f=>eA fun e=>f<|e▸u⟩
 have v:(M.bN.set i 0 L) i 0=L:=yI
 have O:(M.bN.set i 0 L) i 1=M.bN i 1:=oQ ET
 have Q:(M.bN.set i 0 L) i 2=M.bN i 2:=oQ ET
 have X:nW 6 L=nW 6 (M.bN i 0):=by rw[Iv b.p,vZ,fP ER];omega
 have t:=h.sq i z
 refine⟨h.tC hE z o mi (h.gP i z) ?_ ?_ ?_,o,?_,rfl,?_⟩
 .show LA C E i (W i) (M.aJ i) (bJ M.aK l _) ((M.bN.set i 0 L) i 0) ((M.bN.set i 0 L) i 1) ((M.bN.set i 0 L) i 2);rw[v,O,Q];refine la.rG u (fun k f=>eA f) ?_ (fun _ _=>La.refl) (fun k f=>Sm.del b.p<|D k f) (fun _ _=>Sm.refl) fun _ _=>Sm.refl;rw[bR];exact G
 .intro w y g;refine h.nk i w y ?_;by_cases U:w=0
  .subst U;have g:y∈(M.bN.set i 0 L) i 0:=g;rw[v] at g;rw[b.p.mem_iff];exact eK _ g
  .have g:y∈(M.bN.set i 0 L) i w:=g;rwa [oQ U] at g
 .show SQ C E (M.aC i) (M.aJ i) (M.aU i) ((M.bN.set i 0 L) i 0) ((M.bN.set i 0 L) i 2);rw[v,Q];exact t.rf X rfl (fun y g _=>by rw[b.p.mem_iff];exact eK _ g) fun y g _=>g
 .have J:Sj (M.aU i) L=Sj (M.aU i) (M.bN i 0):=by unfold Sj;rw[X]
  have hs:nR (M.aJ i) (bJ M.aK l ((M.aK l).1.mX n,(M.aK l).2)) L+zG (M.aJ i) (bJ M.aK l ((M.aK l).1.mX n,(M.aK l).2)) L<nR (M.aJ i) M.aK (M.bN i 0)+zG (M.aJ i) M.aK (M.bN i 0):=aCy b.p f r p.a p.g B t
  show ms C (P i) (M.aC i) (M.aJ i) (M.aU i) (bJ M.aK l ((M.aK l).1.mX n,(M.aK l).2)) ((M.bN.set i 0 L) i 0) ((M.bN.set i 0 L) i 1)<ms C (P i) (M.aC i) (M.aJ i) (M.aU i) M.aK (M.bN i 0) (M.bN i 1)
  rw[v,O,ms,ms,J]
  omega
 .intro k f Z;show val C (M.aJ i) (bJ M.aK l _ k) k=_;by_cases T:k=l
  .subst T;rw[bR];rfl
  .rw[eA T]
def aOt (h:∀m,(H' m).1.aY=(H m).1.aY):nR c H' F0=nR c H F0:=by unfold nR;rw[h]
def aRp (h:∀m,(H' m).1.aY=(H m).1.aY):zG c H' F0=zG c H F0:=by unfold zG;rw[h]
structure Mv (C:bT) (E:HR) (W:Nat->Int) (P:Nat->HO) (i:Nat) (M M':cN):Prop where
 qi:QI C E W P M'
 Eg:X5 C E (W i) i M M'
 aQj:mo C P M' i<mo C P M i
structure Mq (C:bT) (E:HR) (W:Nat->Int) (P:Nat->HO) (i:Nat) (M M':cN):Prop extends Mv C E W P i M M' where
 aC:M'.aC=M.aC
 val:∀l:Nat,l<C.aF->oA E (W i) l->Qt.val C (M'.aJ i) (M'.aK l) l=Qt.val C (M.aJ i) (M.aK l) l
def QI.V0 (hE:QE C E W P) (h:QI C E W P M) (f:Dlv C M i w n L M') (mi:∃N,eO C N M') (g:n.kind=1\/n.kind=2\/n.kind=3):Mq C E W P i M M':=by
 have⟨a,b,c,d,e⟩:=h.oy hE f mi g;exact⟨⟨a,b,c⟩,d,e⟩
theorem zY (la:LA C E i (W i) c H F0 F1 F2) {l:Nat} (f:l<C.aF) (b:n.bA=l) (h:n∈F1/\n.kind=4\/n∈F2/\(n.kind=8\/n.kind=10)):oA E (W i) l:=hS fun j=>by
 have g:=(la l f).2 j;have n1:=g.n1;have n2:=g.n2;rcases h with⟨h,e⟩|⟨h,e|e⟩;have:=kX h e b;omega;have:=kX h e b;omega;have:=kX h e b;omega
def QI.done (hE:QE C E W P) (h:QI C E W P M) (b:Dlv C M i w n L M') (mi:∃N,eO C N M') (f:n.kind=4):Mq C E W P i M M':=by
 have Q:qk n.kind:=GF
 have Z:w=1:=by rw[<-b.aBf];exact(xM b.ok.mZ Q).2.1.2 f
 subst Z;obtain⟨l,z,o⟩:=qL b.ok.mZ Q ER;have r:=b.hc;have V:n∈M.bN i 1:=GZ
 have la:=h.la i r;have B:oA E (W i) l:=zY la o z<|.inl ⟨V,f⟩;obtain⟨⟨T,D⟩,v⟩:=((la l o).1 B).done b.p f z;have Y:gJ C M.aK n=(bJ M.aK l ((M.aK l).1.iW,(M.aK l).2),[],0):=by
  rw[xF (by rw[b.core];omega) z o<|by unfold dN;omega];unfold rU.take;rw[aXg f,aXf<|by rw[T,D,b.core];simp]
 have G:M.dN C n=(M.rC<|bJ M.aK l ((M.aK l).1.iW,(M.aK l).2),[],0):=by
  unfold cN.dN;rw[aae,Y]
 have e:=b.e;rw[G,uO] at e;subst e;have g:X5 C E (W i) i M ((M.rC<|bJ M.aK l ((M.aK l).1.iW,(M.aK l).2)).dU<|M.bN.set i 1 L):=
  ⟨rfl,fun _ _=>rfl,fun _ _=>rfl,fun _ _=>rfl,fun j U=>Mr U,fun k f=>eA fun e=>f<|e▸B⟩
 have t:(M.bN.set i 1 L) i 0=M.bN i 0:=oQ ET;have u:(M.bN.set i 1 L) i 1=L:=yI;have I:(M.bN.set i 1 L) i 2=M.bN i 2:=oQ ET;have wH:∀m,(bJ M.aK l ((M.aK l).1.iW,(M.aK l).2) m).1.aY=(M.aK m).1.aY:=fun m=>by
  by_cases e:m=l;subst e;rw[bR];rfl;rw[eA e]
 refine⟨⟨h.tC hE r g mi (h.gP i r) ?_ ?_ ?_,g,?_⟩,rfl,?_⟩;show LA C E i (W i) (M.aJ i) (bJ M.aK l _) ((M.bN.set i 1 L) i 0) ((M.bN.set i 1 L) i 1) ((M.bN.set i 1 L) i 2);rw[t,u,I];refine la.rG B (fun k f=>eA f) ?_ (fun _ _=>La.refl) (fun _ _=>Sm.refl) (fun k f=>Sm.del b.p fun e=>GG) fun _ _=>Sm.refl;rw[bR];exact v;intro w y q;refine h.nk i w y ?_;have q:y∈(M.bN.set i 1 L) i w:=q;by_cases O:w=1;subst O;rw[u] at q;rw[b.p.mem_iff];exact eK _ q;rwa [oQ O] at q;show SQ C E (M.aC i) (M.aJ i) (M.aU i) ((M.bN.set i 1 L) i 0) ((M.bN.set i 1 L) i 2);rw[t,I];exact h.sq i r;show ms C (P i) (M.aC i) (M.aJ i) (M.aU i) (bJ M.aK l ((M.aK l).1.iW,(M.aK l).2)) ((M.bN.set i 1 L) i 0) ((M.bN.set i 1 L) i 1)<ms C (P i) (M.aC i) (M.aJ i) (M.aU i) M.aK (M.bN i 0) (M.bN i 1);have p:=b.p.length_eq;rw[k5] at p;rw[t,u,ms,ms,aOt wH,aRp wH];omega;intro k f X;show val C (M.aJ i) (bJ M.aK l _ k) k=_;by_cases J:k=l;subst J;rw[bR];rfl;rw[eA J]
def QI.sa (hE:QE C E W P) (h:QI C E W P M) (b:Dlv C M i w n L M') (mi:∃N,eO C N M') (f:n.kind=10):Mq C E W P i M M':=by
 have hq:qk n.kind:=GF
 have hw:w=2:=by rw[<-b.aBf];exact(xM b.ok.mZ hq).2.2.2 ER
 subst hw;obtain⟨l,O,v⟩:=qL b.ok.mZ hq ER;have D:=b.hc;have hn:n∈M.bN i 2:=GZ
 have la:=h.la i D;have Z:oA E (W i) l:=zY (F1:=M.bN i 1) la v O<|.inr ⟨hn,.inr f⟩;obtain⟨o,t,hv⟩:=((la l v).1 Z).sa b.p f O rfl;generalize g:({M.aJ i with gl:=0,gc:=tJ.zero,uF:=false}:iJ)=c' at t hv;have T:M.dN C n=(M.rT i c',[],0):=by
  unfold cN.dN;rw[aab,aae,b.core,aP];unfold jU;rw[aab,aab,aXg f,aXf FM];unfold uK;rw[aXf<|by rw[o.1];decide,aXf<|by rw[o.2,O];simp,g]
 have e:=b.e;rw[T,uO] at e;subst e;have r:X5 C E (W i) i M ((M.rT i c').dU<|M.bN.set i 2 L):=
  ⟨rfl,fun _ _=>rfl,fun j J=>eA J,fun _ _=>rfl,fun j J=>Mr J,fun k f=>rfl⟩
 have G:(M.bN.set i 2 L) i 0=M.bN i 0:=oQ ET;have U:(M.bN.set i 2 L) i 1=M.bN i 1:=oQ ET;have I:(M.bN.set i 2 L) i 2=L:=yI;have B:bJ M.aJ i c' i=c':=bR;have z:∀k:Nat,k≠l->La C k (M.aJ i) c':=fun k f=>by
  have ng:¬jY (M.aJ i) k:=fun e=>f (by have:=e.2;have:=o.2;omega);subst g;exact⟨rfl,CW,⟨(fun e=>by cases e.1),fun e=>absurd e ng⟩,fun e=>absurd e ng⟩
 have Q:∀k,pk C c' k=pk C (M.aJ i) k:=fun k=>by subst g;rfl
 have Y:∀k,Qt.fY C c' k↔Qt.fY C (M.aJ i) k:=fun k=>by unfold Qt.fY;rw[Q]
 have q:c'.pY=(M.aJ i).pY/\c'.al=(M.aJ i).al/\c'.S=(M.aJ i).S/\c'.uF=false:=by subst g;exact⟨rfl,rfl,rfl,rfl⟩
 have u:=h.sq i D;refine⟨⟨h.tC hE D r mi (h.gP i D) ?_ ?_ ?_,r,?_⟩,rfl,?_⟩;show LA C E i (W i) (bJ M.aJ i c' i) M.aK ((M.bN.set i 2 L) i 0) ((M.bN.set i 2 L) i 1) ((M.bN.set i 2 L) i 2);rw[G,U,I,B];exact la.rG Z (fun _ _=>rfl) t z (fun _ _=>Sm.refl) (fun _ _=>Sm.refl) fun k f=>Sm.del b.p fun e=>GG;intro w y p;refine h.nk i w y ?_;have p:y∈(M.bN.set i 2 L) i w:=p;by_cases X:w=2;subst X;rw[I] at p;rw[b.p.mem_iff];exact eK _ p;rwa [oQ X] at p;show SQ C E (M.aC i) (bJ M.aJ i c' i) (M.aU i) ((M.bN.set i 2 L) i 0) ((M.bN.set i 2 L) i 2);rw[G,I,B];refine(u.rf rfl ?_ (fun _ p _=>p) fun y p _=>by rw[b.p.mem_iff];exact eK _ p).Jt (fun e=>⟨q.1▸e,q.2.1,by rw[q.2.2.1];exact ba _⟩) (fun e=>by rw[q.2.2.2] at e;cases e) (fun k f=>u.bd k<|(Y k).1 f);rw[Iv b.p,vZ,fP ER];omega;show ms C (P i) (M.aC i) (bJ M.aJ i c' i) (M.aU i) M.aK ((M.bN.set i 2 L) i 0) ((M.bN.set i 2 L) i 1)<ms C (P i) (M.aC i) (M.aJ i) (M.aU i) M.aK (M.bN i 0) (M.bN i 1);have h1:nR c' M.aK (M.bN i 0)=nR (M.aJ i) M.aK (M.bN i 0):=by unfold nR;rw[q.1,q.2.1]
 have h2:pZ C (M.aC i) c' (M.aU i)=pZ C (M.aC i) (M.aJ i) (M.aU i):=o9 (l:=l) (fun k _=>Y k) q.1;rw[G,U,B,ms,ms,h1,h2,nf q.2.2.2,K7 o];omega;intro k f α;show val C (bJ M.aJ i c' i) (M.aK k) k=_;rw[B];by_cases V:k=l;subst V;exact hv;exact sK<|z k V
def QI.eZ (hE:QE C E W P) (h:QI C E W P M) (g:Dlv C M i w n L M') (mi:∃N,eO C N M') (f:n.kind=8):Mq C E W P i M M':=by
 have hq:qk n.kind:=GF
 have Z:w=2:=by rw[<-g.aBf];exact(xM g.ok.mZ hq).2.2.2 ER
 subst Z;obtain⟨l,hl,J⟩:=qL g.ok.mZ hq ER;have I:=g.hc;have hn:n∈M.bN i 2:=by rw[g.p.mem_iff];exact ei
 have la:=h.la i I;have ho:oA E (W i) l:=zY (F1:=M.bN i 1) la J hl<|.inr ⟨hn,.inl f⟩;have p:=h.sq i I;have Q:=(la l J).1 ho;have b:vQ (M.aJ i) l:=oH.1 (by have:=kX hn f hl;have:=Q.a;omega);obtain⟨N,ζ⟩:=h.mi;have t:=p.Rt b.1;rw[b.2] at t;obtain⟨c',d,δ,u,_,q,r,B,γ,O,ε,α,hv⟩:=Q.eZ (core:=n.core) (ζ.Jt i I) ER g.p f hl t;have θ:M.dN C n=(M.rT i c',[d],0):=by
  unfold cN.dN;rw[aab,aae];unfold jU;rw[aXg f,aXf FM,show n.core.toNat=i by rw[g.core];rfl,δ]
 have e:=g.e;have T:=g.s;rw[θ] at e T;obtain⟨η,_,_⟩:=uY T;rw[η] at e;subst e;have G:d.core=i:=by rw[u];exact g.core
 have v:dO d=1:=by rw[u];rfl
 have e0:((M.bN.set i 2 L).jZ d) i 0=M.bN i 0:=by rw[tN<|by rw[v];decide,oQ ET]
 have e1:((M.bN.set i 2 L).jZ d) i 1=M.bN i 1++[d]:=by
  have:=Dy (F:=M.bN.set i 2 L) G;rw[v] at this;rw[this,oQ ET]
 have e2:((M.bN.set i 2 L).jZ d) i 2=L:=by rw[tN<|by rw[v];decide,yI]
 have V:bJ M.aJ i c' i=c':=bR;have z:X5 C E (W i) i M ((M.rT i c').dU<|(M.bN.set i 2 L).jZ d):=
  ⟨rfl,fun _ _=>rfl,fun j Y=>eA Y,fun _ _=>rfl,fun j Y=>(Mi G Y).trans<|Mr Y,fun k f=>rfl⟩
 have U:∀k:Nat,k≠l->La C k (M.aJ i) c':=fun k f=>by
  have na:¬vQ (M.aJ i) k:=fun e=>f (by have:=e.2;have:=b.2;omega);exact⟨O k ER,⟨(fun e=>by have:=e.1;rw[q] at this;cases this),fun e=>absurd e na⟩,by unfold jY;rw[r,B],fun _=>γ⟩
 have hh:∀k:Int,k≠l->(Qt.fY C c' k↔Qt.fY C (M.aJ i) k):=fun k f=>by unfold Qt.fY;rw[O k f]
 refine⟨⟨h.tC hE I z mi (h.gP i I) ?_ ?_ ?_,z,?_⟩,rfl,?_⟩;show LA C E i (W i) (bJ M.aJ i c' i) M.aK (((M.bN.set i 2 L).jZ d) i 0) (((M.bN.set i 2 L).jZ d) i 1) (((M.bN.set i 2 L).jZ d) i 2);rw[e0,e1,e2,V];exact la.rG ho (fun _ _=>rfl) α U (fun _ _=>Sm.refl) (fun k f=>Sm.add fun e=>f<|by have:=e.1;rw[u] at this;exact(Int.ofNat.inj this).symm) fun k f=>Sm.del g.p fun e=>GG;intro w y o;have o:y∈((M.bN.set i 2 L).jZ d) i w:=o;by_cases ew:w=2;subst ew;rw[e2] at o;exact h.nk i 2 y (by rw[g.p.mem_iff];exact eK _ o);by_cases D:w=1;subst D;rw[e1] at o;rcases cL.1 o with e|e;exact h.nk i 1 y e;rw[c7.1 e,u];unfold qk;dsimp only;omega;rw[tN<|by rw[v];exact D,oQ ew] at o;exact h.nk i w y o;show SQ C E (M.aC i) (bJ M.aJ i c' i) (M.aU i) (((M.bN.set i 2 L).jZ d) i 0) (((M.bN.set i 2 L).jZ d) i 2);rw[e0,e2,V];refine(p.rf rfl ?_ (fun _ o _=>o) fun y o _=>by rw[g.p.mem_iff];exact eK _ o).Jt (fun e=>by rw[q] at e;cases e) (fun e=>by rw[B];exact p.go<|r▸e) (fun k f=>?_);rw[Iv g.p,vZ,fP ER];omega;by_cases X:k=l;omega;exact p.bd k<|(hh k X).1 f;show ms C (P i) (M.aC i) (bJ M.aJ i c' i) (M.aU i) M.aK (((M.bN.set i 2 L).jZ d) i 0) (((M.bN.set i 2 L).jZ d) i 1)<ms C (P i) (M.aC i) (M.aJ i) (M.aU i) M.aK (M.bN i 0) (M.bN i 1);have h1:zG c' M.aK (M.bN i 0)=zG (M.aJ i) M.aK (M.bN i 0):=by unfold zG;rw[r,B]
 have h2:pZ C (M.aC i) c' (M.aU i)=pZ C (M.aC i) (M.aJ i) (M.aU i):=by
  obtain⟨a,ha,Z,β,_⟩:=p.wq b.1;have:a.cS/2=l:=by rw[<-β,b.2]
  unfold pZ;rw[ha];dsimp only;rw[aXg Z,aXg Z,this,aXg (c:=Qt.fY C c' l\/_)<|.inl ε,aXg (c:=Qt.fY C (M.aJ i) l\/_)<|.inr b.1]
 rw[e0,e1,V,ms,ms,h1,h2,Hu q,Bs b,bj,kd];omega;intro k f ι;show val C (bJ M.aJ i c' i) (M.aK k) k=_;rw[V];by_cases X:k=l;subst X;exact hv;exact sK<|U k X
def QI.Er (hE:QE C E W P) (h:QI C E W P M) (f:Dlv C M i w n L M') (mi:∃N,eO C N M') (I:n.kind=6):Mq C E W P i M M':=by
 have hq:qk n.kind:=GF
 have hw:w=0:=by rw[<-f.aBf];exact(xM f.ok.mZ hq).1.2 ER
 subst hw;have G:=f.hc;have hn:n∈M.bN i 0:=by rw[f.p.mem_iff];exact ei
 have la:=h.la i G;have b:=h.sq i G;have U:M.dN C n=(M,[uJ i (iG E n.no).1 n.no],(iG E n.no).2):=by
  unfold cN.dN;rw[aab,aab,aXg I,f.core,h.eB]
 have e:=f.e;have z:=f.s;rw[U] at e z;obtain⟨T,_,_⟩:=uY z;rw[T] at e;generalize o:uJ i (iG E n.no).1 n.no=d at e;have t:d.core=i:=by rw[<-o];rfl
 have p:dO d=2:=by rw[<-o];rfl
 have u:d.kind=12:=by rw[<-o];rfl
 subst e;have D:((M.bN.set i 0 L).jZ d) i 0=L:=by rw[tN<|by rw[p];decide,yI]
 have X:((M.bN.set i 0 L).jZ d) i 1=M.bN i 1:=by rw[tN<|by rw[p];decide,oQ ET]
 have J:((M.bN.set i 0 L).jZ d) i 2=M.bN i 2++[d]:=by
  have:=Dy (F:=M.bN.set i 0 L) t;rw[p] at this;rw[this,oQ ET]
 have q:X5 C E (W i) i M (M.dU<|(M.bN.set i 0 L).jZ d):=
  ⟨rfl,fun _ _=>rfl,fun j Q=>rfl,fun _ _=>rfl,fun j Q=>(Mi t Q).trans<|Mr Q,fun k I=>rfl⟩
 have w6:=Iv (k:=6) f.p;rw[vZ,fZ I] at w6;have V:nW 12 (M.bN i 2++[d])=nW 12 (M.bN i 2)+1:=by rw[Qu,vZ,Xa,fZ u]
 have Z:=b.sB;have B:(M.aU i).eN=true:=oH.1 ER;have v:=b.n6 n hn I;refine⟨⟨h.tC hE G q mi (h.gP i G) ?_ ?_ ?_,q,?_⟩,rfl,fun _ _ _=>rfl⟩;show LA C E i (W i) (M.aJ i) M.aK (((M.bN.set i 0 L).jZ d) i 0) (((M.bN.set i 0 L).jZ d) i 1) (((M.bN.set i 0 L).jZ d) i 2);rw[D,X,J];exact la.frame (fun _ _=>La.refl) (fun k _=>Sm.del f.p fun e=>FZ) (fun _ _=>Sm.refl) fun k _=>Sm.add fun e=>FZ;intro w y g;have g:y∈((M.bN.set i 0 L).jZ d) i w:=g;by_cases Y:w=2;subst Y;rw[J] at g;rcases cL.1 g with e|e;exact h.nk i 2 y e;rw[c7.1 e,u];unfold qk;omega;by_cases r:w=0;subst r;rw[D] at g;exact h.nk i 0 y (by rw[f.p.mem_iff];exact eK _ g);rw[tN<|by rw[p];exact Y,oQ r] at g;exact h.nk i w y g;show SQ C E (M.aC i) (M.aJ i) (M.aU i) (((M.bN.set i 0 L).jZ d) i 0) (((M.bN.set i 0 L).jZ d) i 2);rw[D,J];refine⟨b.kn,by rw[V];omega,b.nQ,b.pl,fun y g=>b.n6 y<|by rw[f.p.mem_iff];exact eK _ g,fun y g O=>?_,b.wk,b.wq,b.Rt,b.go,b.bd⟩;rcases cL.1 g with e|e;exact b.n12 y e O;rw[c7.1 e,<-o];exact⟨v,HG⟩;show ms C (P i) (M.aC i) (M.aJ i) (M.aU i) M.aK (((M.bN.set i 0 L).jZ d) i 0) (((M.bN.set i 0 L).jZ d) i 1)<ms C (P i) (M.aC i) (M.aJ i) (M.aU i) M.aK (M.bN i 0) (M.bN i 1);have h1:nR (M.aJ i) M.aK L=nR (M.aJ i) M.aK (M.bN i 0):=by
  unfold nR;rw[Nq f.p,mD,fP ER];rfl
 have h2:zG (M.aJ i) M.aK L=zG (M.aJ i) M.aK (M.bN i 0):=by
  unfold zG;rw[A9 f.p,iB,fP ER];rfl
 rw[D,X,ms,ms,h1,h2,Sj,Sj,aXg B,aXg B];omega
def ph {l:List (Int×Int)} {g:Int}:fS l g=none↔∀x∈l,x.1≠g:=by
 unfold fS;rw[Option.map_eq_none_iff,yg];simp
def we {l:List (Int×Int)} {g:Int} (h:∀x∈l,x.1≠g):fS (l++[(g,o)]) g=some o:=by
 unfold fS;rw[List.find?_append,yg.2 GK];simp
def Tc (hE:QE C E W P) (y:k.eN=true) (o:k.nQ=false) (B:0<=k.cJ/\k.cJ<C.bB) (v:k.at'=k.cJ/4\/k.at'=eP C.bB k.cJ):
  (k.fN C k.at' (iG E k.at').1=(k.goto<|eP C.bB k.cJ,eP C.bB k.cJ,false,0)/\k.at'=k.cJ/4)\/k.fN C k.at' (iG E k.at').1=((k.I0 C (k.cJ,xy E k.cJ)).done,0,true,0):=by
 have f:=hE.len
 have hC:=hE.ok
 obtain⟨g,h⟩:∃g:Nat,k.cJ=g:=⟨k.cJ.toNat,ER⟩
 have p:=Uw (es:=E) (g:=g) (a:=k.at') (by have:=hC.2.1;omega) (fun x z=>by have:=hE.oA x z;omega) ER (by rw[f,<-h];exact v)
 obtain⟨_,⟨q,j⟩,r⟩:=p
 rw[f,<-h] at q j r
 unfold lX.fN
 rw[aXf<|by rw[y];decide,aXf fun e=>e rfl,aXf<|by rw[o];decide]
 dsimp only
 rw[aXf fun e=>e q]
 by_cases b:(uX C.bB k.cJ k.at' (iG E k.at').1).2.2.1=true
 .right;have t:=r b;have u:(uX C.bB k.cJ k.at' (iG E k.at').1).2.1.Ch=false:=by
   rw[t];rw[ay,aL ER];exact hE.iW _<|sz _
  rw[aXf<|by rw[u];simp,aXf<|by rw[b];decide,t]
  unfold xy
  rw[h,aP]
 .left;have b:(uX C.bB k.cJ k.at' (iG E k.at').1).2.2.1=false:=HF
  rw[aXf<|by rw[b];simp,aXg b,(j b).1]
  exact⟨rfl,(j b).2⟩
def QI.fN (hE:QE C E W P) (h:QI C E W P M) (t:Dlv C M i w n L M') (mi:∃N,eO C N M') (hk:n.kind=12):Mq C E W P i M M':=by
 have hq:qk n.kind:=GF
 have hw:w=2:=by rw[<-t.aBf];exact(xM t.ok.mZ hq).2.2.2 ER
 subst hw;have Q:=t.hc;have hn:n∈M.bN i 2:=by rw[t.p.mem_iff];exact ei
 have la:=h.la i Q;have f:=h.sq i Q;obtain⟨N,ρ⟩:=h.mi;have υ:=Iv (k:=12) t.p;rw[vZ,fZ hk] at υ;have κ:=f.sB;have:=uU (a:=(M.aU i).eN=true);have p:(M.aU i).eN=true:=oH.1 ER;rw[fZ p] at κ;have θ:=f.n12 n hn hk;have δ:=(ρ.mZ i Q).2;have ι:M.dN C n=(M.Ag i ((M.aU i).fN C (M.aU i).at' (iG E (M.aU i).at').1).1,if((M.aU i).fN C (M.aU i).at' (iG E (M.aU i).at').1).2.2.1 then [] else [fH 6 i ((M.aU i).fN C (M.aU i).at' (iG E (M.aU i).at').1).2.1],((M.aU i).fN C (M.aU i).at' (iG E (M.aU i).at').1).2.2.2):=by
  unfold cN.dN;rw[aab,aab,aab,aXg hk,t.core,aP,θ.1,θ.2]
 have e:=t.e;have r:=t.s;obtain⟨a,Z,G,α,ζ⟩:=f.wk p;have m2:∀y∈L,y∈M.bN i 2:=fun y g=>by rw[t.p.mem_iff];exact eK _ g
 have μ:∀y∈M.bN i 0,y.kind≠6:=fun y g e=>by have:=Hn g e;omega
 have cz:∀y∈L,y.kind≠12:=fun y g e=>by have:=Hn g e;omega
 rcases Tc hE p f.nQ δ (f.pl p) with⟨hr,ξ⟩|hr;rw[ι,hr] at e r;dsimp only at e r;rw[aXf ET] at e r;obtain⟨τ,_,_⟩:=uY r;rw[τ] at e;generalize v:fH 6 i (eP C.bB (M.aU i).cJ)=d at e;have β:d.core=i:=HG
 have z:dO d=0:=HG
 have γ:d.kind=6:=HG
 have ο:d.no=eP C.bB (M.aU i).cJ:=HG
 subst e;have D:((M.bN.set i 2 L).jZ d) i 0=M.bN i 0++[d]:=by
  have:=Dy (F:=M.bN.set i 2 L) β;rw[z] at this;rw[this,oQ ET]
 have U:((M.bN.set i 2 L).jZ d) i 1=M.bN i 1:=by rw[tN<|by rw[z];decide,oQ ET]
 have J:((M.bN.set i 2 L).jZ d) i 2=L:=by rw[tN<|by rw[z];decide,yI]
 have V:bJ M.aU i ((M.aU i).goto<|eP C.bB (M.aU i).cJ) i=(M.aU i).goto (eP C.bB (M.aU i).cJ):=bR;have q:X5 C E (W i) i M ((M.Ag i<|(M.aU i).goto<|eP C.bB (M.aU i).cJ).dU<|(M.bN.set i 2 L).jZ d):=
  ⟨rfl,fun _ _=>rfl,fun j u=>rfl,fun j u=>eA u,fun j u=>(Mi β u).trans<|Mr u,fun k hk=>rfl⟩
 have w6:nW 6 (M.bN i 0++[d])=nW 6 (M.bN i 0)+1:=by rw[Qu,vZ,Xa,fZ γ]
 refine⟨⟨h.tC hE Q q mi (h.gP i Q) ?_ ?_ ?_,q,?_⟩,rfl,fun _ _ _=>rfl⟩;show LA C E i (W i) (M.aJ i) M.aK (((M.bN.set i 2 L).jZ d) i 0) (((M.bN.set i 2 L).jZ d) i 1) (((M.bN.set i 2 L).jZ d) i 2);rw[D,U,J];exact la.frame (fun _ _=>La.refl) (fun k _=>Sm.add fun e=>FZ) (fun _ _=>Sm.refl) fun k _=>Sm.del t.p fun e=>FZ;intro w y g;have g:y∈((M.bN.set i 2 L).jZ d) i w:=g;by_cases X:w=0;subst X;rw[D] at g;rcases cL.1 g with e|e;exact h.nk i 0 y e;rw[c7.1 e,γ];unfold qk;omega;by_cases Y:w=2;subst Y;rw[J] at g;exact h.nk i 2 y<|m2 y g;rw[tN<|by rw[z];exact X,oQ Y] at g;exact h.nk i w y g;show SQ C E (M.aC i) (M.aJ i) (bJ M.aU i ((M.aU i).goto<|eP C.bB (M.aU i).cJ) i) (((M.bN.set i 2 L).jZ d) i 0) (((M.bN.set i 2 L).jZ d) i 2);rw[D,J,V];refine⟨f.kn,?_,f.nQ,fun _=> .inr rfl,fun y g h6=>?_,fun y g O=>absurd O<|cz y g,f.wk,f.wq,f.Rt,f.go,f.bd⟩;show tk ((M.aU i).eN=true)=_;rw[fZ p,w6];omega;rcases cL.1 g with e|e;exact absurd h6<|μ y e;rw[c7.1 e,ο];rfl;show ms C (P i) (M.aC i) (M.aJ i) (bJ M.aU i ((M.aU i).goto<|eP C.bB (M.aU i).cJ) i) M.aK (((M.bN.set i 2 L).jZ d) i 0) (((M.bN.set i 2 L).jZ d) i 1)<ms C (P i) (M.aC i) (M.aJ i) (M.aU i) M.aK (M.bN i 0) (M.bN i 1);have h1:nR (M.aJ i) M.aK (M.bN i 0++[d])=nR (M.aJ i) M.aK (M.bN i 0):=by
  unfold nR;rw[zM,mD,fP ER,sN];rfl
 have h2:zG (M.aJ i) M.aK (M.bN i 0++[d])=zG (M.aJ i) M.aK (M.bN i 0):=by
  unfold zG;rw[rF,iB,fP ER,kM];rfl
 have h3:pZ C (M.aC i) (M.aJ i) ((M.aU i).goto<|eP C.bB (M.aU i).cJ)=pZ C (M.aC i) (M.aJ i) (M.aU i):=rfl;have h4:Sj ((M.aU i).goto<|eP C.bB (M.aU i).cJ) (M.bN i 0++[d])=2:=by
  unfold Sj;rw[aXg<|show((M.aU i).goto<|eP C.bB (M.aU i).cJ).eN=true from p,aXf<|show ¬((M.aU i).goto<|eP C.bB (M.aU i).cJ).at'=((M.aU i).goto<|eP C.bB (M.aU i).cJ).cJ/4 by unfold lX.goto eP;dsimp only;omega,w6];omega
 have h5:3<=Sj (M.aU i) (M.bN i 0):=by
  unfold Sj;rw[aXg p,aXg ξ];omega
 rw[D,U,V,ms,ms,h1,h2,h3,h4];omega;rw[ι,hr] at e r;dsimp only at e r;rw[aXg rfl,uO] at e;dsimp only at e;generalize T:((M.aU i).I0 C ((M.aU i).cJ,xy E (M.aU i).cJ)).done=k' at e;subst e;have D:(M.bN.set i 2 L) i 0=M.bN i 0:=oQ ET;have U:(M.bN.set i 2 L) i 1=M.bN i 1:=oQ ET;have J:(M.bN.set i 2 L) i 2=L:=yI;have V:bJ M.aU i k' i=k':=bR;have q:X5 C E (W i) i M ((M.Ag i k').dU<|M.bN.set i 2 L):=
  ⟨rfl,fun _ _=>rfl,fun j u=>rfl,fun j u=>eA u,fun j u=>Mr u,fun k hk=>rfl⟩
 have B:k'.eN=false:=by subst T;rfl
 have σ:¬(M.aJ i).pY=true:=fun e=>by
  obtain⟨b,hb,_,ν,o,ho,_⟩:=f.wq e;rw[Z] at hb;cases hb;rw[ν,<-α,ζ] at ho;cases ho
 have η:∃l:List (Int×Int),(∀x∈l,x∈(M.aU i).cC)/\k'.cC=l++[((M.aU i).cJ,xy E (M.aU i).cJ)]:=by
  refine⟨if((M.aU i).cC.length:Int)>=C.lI then(M.aU i).cC.drop 1 else(M.aU i).cC,fun x I=>?_,by subst T;rfl⟩;split at I;exact DB I;exact I
 obtain⟨l,hl,ε⟩:=η;have π:fS k'.cC (M.aU i).cJ=some (xy E (M.aU i).cJ):=by
  rw[ε];exact we fun x I=>ph.1 ζ x<|hl x I
 refine⟨⟨h.tC hE Q q mi (h.gP i Q) ?_ ?_ ?_,q,?_⟩,rfl,fun _ _ _=>rfl⟩;show LA C E i (W i) (M.aJ i) M.aK ((M.bN.set i 2 L) i 0) ((M.bN.set i 2 L) i 1) ((M.bN.set i 2 L) i 2);rw[D,U,J];exact la.frame (fun _ _=>La.refl) (fun _ _=>Sm.refl) (fun _ _=>Sm.refl) fun k _=>Sm.del t.p fun e=>FZ;intro w y g;refine h.nk i w y ?_;have g:y∈(M.bN.set i 2 L) i w:=g;by_cases X:w=2;subst X;rw[J] at g;exact m2 y g;rwa [oQ X] at g;show SQ C E (M.aC i) (M.aJ i) (bJ M.aU i k' i) ((M.bN.set i 2 L) i 0) ((M.bN.set i 2 L) i 2);rw[D,J,V];refine⟨fun x I=>?_,?_,by subst T;rfl,(fun e=>by rw[B] at e;cases e),fun y g h6=>absurd h6<|μ y g,fun y g O=>absurd O<|cz y g,(fun e=>by rw[B] at e;cases e),fun e=>absurd e σ,f.Rt,f.go,f.bd⟩;rw[ε] at I;rcases cL.1 I with e|e;exact f.kn x<|hl x e;rw[c7.1 e];exact⟨δ,rfl⟩;rw[fP<|by rw[B];decide];omega;show ms C (P i) (M.aC i) (M.aJ i) (bJ M.aU i k' i) M.aK ((M.bN.set i 2 L) i 0) ((M.bN.set i 2 L) i 1)<ms C (P i) (M.aC i) (M.aJ i) (M.aU i) M.aK (M.bN i 0) (M.bN i 1);have h3:pZ C (M.aC i) (M.aJ i) k'=pZ C (M.aC i) (M.aJ i) (M.aU i):=by
  unfold pZ;rw[Z];dsimp only;rw[aXg G,aXg G,<-α,π,aXg (c:=(some<|xy E (M.aU i).cJ).isSome=true\/k'.eN=true)<|.inl rfl,aXg (c:=(fS (M.aU i).cC (M.aU i).cJ).isSome=true\/(M.aU i).eN=true)<|.inr p]
 have h4:Sj k' (M.bN i 0)=0:=by unfold Sj;rw[B];rfl
 have h5:1<=Sj (M.aU i) (M.bN i 0):=by
  unfold Sj;rw[aXg p];omega
 rw[D,U,V,ms,ms,h3,h4];omega
end
section
variable {P:Nat->HO} {F:fI} {n d:aI} {c c':iJ} {k:lX}
def aH1 (h:(M.fX C A).2=0):∃(l:Nat) (n:aI) (w:HM),A=l/\l<C.aF/\(M.aK l).1.busy=false/\(M.aK l).1.aY=n::w/\
  (M.bN.mR C (cU.kN ((M.aK l).1.next w) l (M.aK l).2 n<|M.yY C l).2).2=0/\
  (M.fX C A).1=(M.dU (M.bN.mR C (cU.kN ((M.aK l).1.next w) l (M.aK l).2 n<|M.yY C l).2).1).rC (bJ M.aK l (cU.kN ((M.aK l).1.next w) l (M.aK l).2 n<|M.yY C l).1):=by
 unfold cN.fX kJ at h ⊢
 by_cases b:C.fY A
 .obtain⟨l,rfl⟩:∃l:Nat,A=l:=⟨A.toNat,by unfold bT.fY at b;omega⟩;simp only[aXg b,aP] at h ⊢;unfold rU.fX at h ⊢;by_cases g:(M.aK l).1.busy=true
  .rw[aXg g] at h;cases h
  .rw[aXf g] at h ⊢;cases h3:(M.aK l).1.aY with
   |nil=>rw[h3] at h;cases h
   |cons n w=>
    rw[h3] at h
    dsimp only at h ⊢
    rw[aXf ET] at h ⊢
    by_cases f:(M.bN.mR C (cU.kN ((M.aK l).1.next w) l (M.aK l).2 n<|M.yY C l).2).2=0
    .refine⟨l,n,w,rfl,by unfold bT.fY at b;omega,by simpa using g,h3,f,?_⟩;rw[aXf fun e=>e f]
    .rw[aXg f] at h;exact absurd h f
 .simp only[aXf b] at h;cases h
def xu {w:Int} (h:1<=w/\w<=3):vE w w=true:=by
 unfold vE;rw[aae];simp
def xn (hE:QE C E W P) (h:QI C E W P M) (j:(i:Int)<C.aE) {l:Nat} (r:l<C.aF) (p:oA E (W i) l):M.yY C l (W i)=(W i,true):=by
 have q:=hE.w i j;have f:=hE.len;have o:=bT.eJ hE.ok;have e:M.dS.Ft ((l:Int)/2)=E.getD (l/2) mG:=by
  unfold gV.Ft;rw[h.eB,show((l:Int)/2).toNat=l/2 by omega]
 unfold cN.yY;rw[aXg<|by unfold bT.fY;omega,e,show(E.getD (l/2) mG).owner=W i from p,xu q];have g:(E.getD (l/2) mG).Ch=false:=by
  by_cases b:l/2<E.length;rw[ay,aL b];exact hE.iW _<|sz _;rw[ay,l5 ER];rfl
 rw[g];rfl
def QI.beg (hE:QE C E W P) (h:QI C E W P M) {l:Nat} {w:HM} (e:l<C.aF) (j:(M.aK l).1.busy=false) (t:(M.aK l).1.aY=n::w):∃i:Nat,(i:Int)<C.aE/\oA E (W i) l/\n.bA=l/\(n.kind=1\/n.kind=2\/n.kind=3)/\
  ∃y d,cU.kN ((M.aK l).1.next w) l (M.aK l).2 n (M.yY C l)=(y,[d])/\Nt.mZ C d=0/\(d.kind=8\/d.kind=10)/\d.core=i/\d.bA=l/\y.1.aY=[]/\w=[]/\(n.kind=3/\jY (M.aJ i) l\/¬n.kind=3/\vQ (M.aJ i) l)/\
   LQ C i (W i) l (M.aJ i) y (M.bN i 0) (M.bN i 1) (M.bN i 2++[d])/\val C (M.aJ i) y l=val C (M.aJ i) (M.aK l) l:=by
 obtain⟨i,g,p⟩:∃i:Nat,(i:Int)<C.aE/\oA E (W i) l:=AY fun L=>by
  have:=h.iW l e fun i g p=>L ⟨i,g,p⟩;rw[t] at this;cases this
 have la:=h.la i g
 have r:=(la l e).1 p
 have o:n∈(M.aK l).1.aY:=by rw[t];exact ei
 have f:=r.wt n o
 refine⟨i,g,p,f.2.2,f.1,?_⟩
 by_cases q:n.kind=3
 .have G:jY (M.aJ i) l:=oH.1 (by have:=r.g;have:=kX o q f.2.2;omega);obtain⟨I,b,y,u,v,z,B⟩:=r.aOk ER j t q (M.yY C l) (c:=i) rfl;exact⟨y,_,u,aNz hE.ok (.inr rfl) ER ER,.inr rfl,rfl,rfl,v.trans b,b,.inl ⟨q,G⟩,z,B⟩
 .obtain⟨I,b,D,y,d,u,v,⟨st,J,rfl⟩,z,B⟩:=r.aQi ER j t ER<|xn hE h g e p;exact⟨y,_,u,aDz hE.ok ER ER (by have:=hE.w i g;omega) ER,.inl rfl,rfl,rfl,v.trans b,b,.inr ⟨q,D⟩,z,B⟩
theorem QI.kN (hE:QE C E W P) (h:QI C E W P M) (hb:(M.fX C A).2=0) (mi:∃N,eO C N (M.fX C A).1):∃i:Nat,(i:Int)<C.aE/\Mq C E W P i M (M.fX C A).1:=by
 obtain⟨l,n,w,hA,U,T,X,hs,G⟩:=aH1 hb;obtain⟨i,z,ho,B,β,y,d,Q,_,u,v,α,D,Y,b,O,hv⟩:=h.beg hE U T X;have la:=h.la i z;subst Y;rw[Q] at hs G;obtain⟨V,_,_⟩:=uY hs;rw[V] at G;generalize(M.fX C A).1=M' at G mi ⊢;subst G;refine⟨i,z,?_⟩;have q:dO d=2:=by unfold dO;rcases u with e|e<;>rw[e]<;>rfl
 have I:(M.bN.jZ d) i 0=M.bN i 0:=tN (by rw[q];decide);have o:(M.bN.jZ d) i 1=M.bN i 1:=tN (by rw[q];decide);have J:(M.bN.jZ d) i 2=M.bN i 2++[d]:=by
  have:=Dy (F:=M.bN) v;rwa [q] at this
 have r:X5 C E (W i) i M ((M.dU<|M.bN.jZ d).rC<|bJ M.aK l y):=
  ⟨rfl,fun _ _=>rfl,fun _ _=>rfl,fun _ _=>rfl,fun j hj=>Mi v hj,fun k u=>eA fun e=>u<|e▸ho⟩
 have t:=h.sq i z;refine⟨⟨h.tC hE z r mi (h.gP i z) ?_ ?_ ?_,r,?_⟩,rfl,?_⟩;show LA C E i (W i) (M.aJ i) (bJ M.aK l y) ((M.bN.jZ d) i 0) ((M.bN.jZ d) i 1) ((M.bN.jZ d) i 2);rw[I,o,J];refine la.rG ho (fun k u=>eA u) ?_ (fun _ _=>La.refl) (fun _ _=>Sm.refl) (fun _ _=>Sm.refl) fun k u=>Sm.add fun e=>GG;rw[bR];exact O;intro w y p;have p:y∈(M.bN.jZ d) i w:=p;by_cases ew:w=2;subst ew;rw[J] at p;rcases cL.1 p with e|e;exact h.nk i 2 y e;rw[c7.1 e];unfold qk;omega;rw[tN<|by rw[q];exact ew] at p;exact h.nk i w y p;show SQ C E (M.aC i) (M.aJ i) (M.aU i) ((M.bN.jZ d) i 0) ((M.bN.jZ d) i 2);rw[I,J];refine t.rf rfl ?_ (fun _ p _=>p) fun y p L=>?_;rw[Qu,vZ,Xa,fP ER];omega;rcases cL.1 p with e|e;exact e;rw[c7.1 e] at L;omega;show ms C (P i) (M.aC i) (M.aJ i) (M.aU i) (bJ M.aK l y) ((M.bN.jZ d) i 0) ((M.bN.jZ d) i 1)<ms C (P i) (M.aC i) (M.aJ i) (M.aU i) M.aK (M.bN i 0) (M.bN i 1);rw[I,o];have a1:nR (M.aJ i) (bJ M.aK l y) (M.bN i 0)+tk (¬n.kind=3)<=nR (M.aJ i) M.aK (M.bN i 0):=by
  rcases V6 (H:=M.aK) t with⟨e,o⟩|⟨m,e,_⟩;have:n.kind=3:=hS fun f=>by
   rcases b with⟨g,_⟩|⟨_,g⟩;exact f g;rw[g.1] at o;cases o
  rw[fP fun f=>f this,Hu o];omega;rw[Bs e,Bs e];by_cases em:m=l;subst em;rw[bR,D,X,sN,mD,sN];by_cases f:n.kind=3;rw[fP fun g=>g f];omega;rw[fZ f,fZ ⟨ER,B⟩];omega;rw[eA em];have:n.kind=3:=hS fun f=>by
   rcases b with⟨g,_⟩|⟨_,g⟩;exact f g;exact em (by have:=e.2;have:=g.2;omega)
  rw[fP fun f=>f this];omega
 have a2:zG (M.aJ i) (bJ M.aK l y) (M.bN i 0)+tk (n.kind=3)<=zG (M.aJ i) M.aK (M.bN i 0):=by
  rcases jg (H:=M.aK) t with⟨e,o⟩|⟨m,e,_⟩;have:¬n.kind=3:=fun f=>by
   rcases b with⟨_,g⟩|⟨g,_⟩;rw[g.1] at o;cases o;exact g f
  rw[fP this,nf o];omega;rw[K7 e,K7 e];by_cases em:m=l;subst em;rw[bR,D,X,kM,iB,kM];by_cases f:n.kind=3;rw[fZ f,fZ ⟨f,B⟩];omega;rw[fP f];omega;rw[eA em];have:¬n.kind=3:=fun f=>by
   rcases b with⟨_,g⟩|⟨g,_⟩;exact em (by have:=e.2;have:=g.2;omega);exact g f
  rw[fP this];omega
 have:1<=tk (n.kind=3)+tk (¬n.kind=3):=by
  by_cases e:n.kind=3;rw[fZ e];omega;rw[fZ (a:=¬n.kind=3) e];omega
 rw[ms,ms];omega;intro k u γ;show val C (M.aJ i) (bJ M.aK l y k) k=_;by_cases Z:k=l;subst Z;rw[bR];exact hv;rw[eA Z]
end
variable {r:aT×Ev}
section
variable {A:AM}
def E6 {B:AM} (b:B.aC=bJ A.aC i s) (hc:B.fA=A.fA):B.iO i a={B with aC:=bJ A.aC i (s.iO a)}:=by
 unfold AM.iO AM.kI;rw[b,bR,Bo]
theorem E8 {x:fM} (h:aT.lJ s=some x):s.over=false/\x=hQ s.prog s.at':=by
 unfold aT.lJ at h;grind
theorem We (e:(i:Int)<A.fA.aE) (f:(A.aC i).over=false):
  A.step i b=((A.jJ i (hQ (A.aC i).prog (A.aC i).at') b).1.iO i (A.jJ i (hQ (A.aC i).prog (A.aC i).at') b).2.2.2.2,
      ⟨i,(A.aC i).at',(hQ (A.aC i).prog (A.aC i).at').op,(A.aC i).bG,(A.jJ i (hQ (A.aC i).prog (A.aC i).at') b).2.1,(A.jJ i (hQ (A.aC i).prog (A.aC i).at') b).2.2.1,(A.jJ i (hQ (A.aC i).prog (A.aC i).at') b).2.2.2.1⟩,0):=by
 unfold AM.step
 grind
def yx (h:A.aC i=s):A.aC=bJ A.aC i s:=by subst h;exact rM.symm
def aDi (p:(i:Int)<A.fA.aE) (h:aT.lM (A.aC i) i=some r):A.step i b=({A with aC:=bJ A.aC i r.1},r.2,0)/\aEu r.2=false:=by
 unfold aT.lM at h;cases hn:aT.lJ (A.aC i) with
 |none=>rw[hn] at h;cases h
 |some x=>
  rw[hn] at h;dsimp only at h;obtain⟨q,t⟩:=E8 hn;rw[We p q,<-t];unfold AM.jJ;split at h;rename_i e;cases h;rw[aXg e];exact⟨by rw[E6 (A:=A) (B:=A.kI i _) (s:=(A.aC i).dL x.a x.b) rfl rfl];rfl,rfl⟩;rename_i g;rw[aXf g];split at h;rename_i e;cases h;rw[aXg e];exact⟨by rw[E6 (A:=A) (B:=A.kI i _) (s:=(A.aC i).dL x.a _) rfl rfl];rfl,rfl⟩;rename_i j;rw[aXf j];split at h;cases h;rw[aab,aab,aab,aab,aab];exact⟨GW,rfl⟩;split at h;rename_i e;rw[aab,aXg e];split at h;rename_i f;cases h;rw[aXg f];exact⟨by rw[E6 (A:=A) (B:=A.kI i _) (s:=(A.aC i).Vh x.a) rfl rfl];rfl,rfl⟩;rename_i f;cases h;rw[aXf f];exact⟨GW,rfl⟩;rename_i f;split at h;rename_i e;cases h;rw[aab,aXf f,aab,aXg e];exact⟨GW,rfl⟩;rename_i o;split at h;rename_i e;cases h;rw[aab,aXf f,aab,aXf o,aXg e];exact⟨GW,rfl⟩;cases h
def Vb {a:U3} (h:aT.iK s=some a):∃x,aT.lJ s=some x/\(x.op=3\/x.op=4\/x.op=5)/\a=⟨s.cX x.b.toNat,decide<|x.op≠3,decide<|x.op≠4,if x.op=3 then 0 else s.cX x.a.toNat⟩:=by
 unfold aT.iK at h;cases hn:aT.lJ s with
 |none=>rw[hn] at h;cases h
 |some x=>
  rw[hn] at h;dsimp only at h;split at h;rename_i e;cases h;exact⟨x,rfl,eo e,rfl⟩;cases h
theorem aFk {a:U3} (o:(i:Int)<A.fA.aE) (j:aT.iK (A.aC i)=some a) (p:A.R2 (A.aC i).bG a.cS=false):
  A.step i b=({A with aC:=bJ A.aC i (aT.cM (A.aC i) i 0 19).1},(aT.cM (A.aC i) i 0 19).2.1,0)/\(aT.cM (A.aC i) i 0 19).2.2=0/\aEu (aT.cM (A.aC i) i 0 19).2.1=false:=by
 obtain⟨x,g,f,rfl⟩:=Vb j
 obtain⟨q,r⟩:=E8 g
 have h:aT.cM (A.aC i) i 0 19=((A.aC i).iO<|(A.aC i).at'+1,aT.ev (A.aC i) i x ((A.aC i).cX x.b.toNat) 0 19,0):=by
  unfold aT.cM;rw[g];dsimp only;rw[aab,aXg<|by unfold M6;grind,aab,aXg rfl]
 rw[h,We o q,<-r]
 unfold AM.jJ
 have e:A.fV i x=(A,0,19):=by unfold AM.fV;rw[aXf<|by rw[p];simp]
 rw[aab,aab,aXg f,e]
 exact⟨GW,rfl,rfl⟩
theorem ye {a:U3} (t:(i:Int)<A.fA.aE) (r:aT.iK (A.aC i)=some a) (u:A.R2 (A.aC i).bG a.cS=true) (f:v=if a.Su then iP A.mem a.cS.toNat else 0):
  A.step i b=({A with aC:=bJ A.aC i (aT.cM (A.aC i) i v 0).1,mem:=if a.dX then yV A.mem a.cS.toNat a.value else A.mem},(aT.cM (A.aC i) i v 0).2.1,0)/\(aT.cM (A.aC i) i v 0).2.2=0/\aEu (aT.cM (A.aC i) i v 0).2.1=false:=by
 obtain⟨x,p,h,rfl⟩:=Vb r
 obtain⟨y,z⟩:=E8 p
 have q:aT.cM (A.aC i) i v 0=if x.op=4 then((A.aC i).iO<|(A.aC i).at'+1,aT.ev (A.aC i) i x ((A.aC i).cX x.b.toNat) ((A.aC i).cX x.a.toNat) 0,0) else(((A.aC i).dL x.a v).iO<|(A.aC i).at'+1,aT.ev (A.aC i) i x ((A.aC i).cX x.b.toNat) v 0,0):=by
  unfold aT.cM;rw[p];dsimp only;rw[aab,aXg<|by unfold M6;grind,aab,aab]
 rw[q,We t y,<-z]
 unfold AM.jJ
 rw[aab,aab,aXg h]
 unfold AM.fV
 rw[aXg u]
 rcases h with e|e|e
 .rw[aXg e,aab];have f:v=iP A.mem ((A.aC i).cX x.b.toNat).toNat:=by rw[f,aXg GB]
  have j:decide (x.op≠3)=false:=GB
  subst f
  refine⟨?_,rfl,rfl⟩
  rw[j]
  rw[E6 (A:=A) (B:=A.kI i _) (s:=(A.aC i).dL x.a _) rfl rfl];rfl
 .have j:decide (x.op≠3)=true:=GB
  have g:¬x.op=3:=ER
  refine⟨?_,by rw[aXg e],by rw[aXg e];rfl⟩
  rw[aXf g,aXg e,aXg e,j]
  rw[E6 (A:=A) (B:=A.oS<|yV A.mem ((A.aC i).cX x.b.toNat).toNat<|(A.aC i).cX x.a.toNat) (yx rfl) rfl,aXf g];rfl
 .have j:decide (x.op≠3)=true:=GB
  have g:¬x.op=3:=ER
  have o:¬x.op=4:=ER
  have f:v=iP A.mem ((A.aC i).cX x.b.toNat).toNat:=by rw[f,aXg GB]
  subst f
  refine⟨?_,by rw[aXf o],by rw[aXf o];rfl⟩
  rw[aXf g,aXf o,aXf o,j]
  rw[E6 (A:=A) (B:=(A.oS<|yV A.mem ((A.aC i).cX x.b.toNat).toNat<|(A.aC i).cX x.a.toNat).kI i _) (s:=(A.aC i).dL x.a _) rfl rfl,aXf g];rfl
theorem aBe (h:aT.lM s i=some r):aT.iK s=none:=by
 rw[aT.lM] at h;rw[aT.iK];cases hn:aT.lJ s with
 |none=>rfl
 |some x=>
  grind[M6]
theorem aCz {b:Int} {w:Bool} (h:Ct.oD n S l b w=true):(cI n S l).2=0:=by
 unfold Ct.oD at h;grind
def aGm {b:Int} {w:Bool} (g:0<=l/\l<C.aF) (f:a=0\/a=1) (e:Ct.oD C.bL.toNat S l b w=true):sP C S l a b w=0:=by
 unfold sP;rw[aXf FM,aab,aab,aXf<|by rw[e];simp]
end
section
variable {P:Nat->HO} {F:fI} {n d:aI} {s':aT} {c c':iJ} {k:lX} {A:AM}
structure Lk (C:bT) (E:HR) (Wi:Int) (i:Nat) (A:AM) (M:cN):Prop where
 fA:A.fA=C
 oA:A.cK=E.map iF.owner
 gP:A.aC i=M.aC i
 mem:∀l:Nat,l<C.aF->Qt.oA E Wi l->A.mem l=val C (M.aJ i) (M.aK l) l
theorem Lk.qT (h:Lk C E (W i) i A M) (f:Mq C E W P i M M'):Lk C E (W i) i A M':=
 ⟨h.fA,h.oA,by rw[f.aC];exact h.gP,fun l b e=>by rw[f.val l b e];exact h.mem l b e⟩
structure Me (C:bT) (E:HR) (W:Nat->Int) (P:Nat->HO) (i:Nat) (M M':cN):Prop extends Mv C E W P i M M' where
 on:(M.aC i).at'<(M'.aC i).at'
 lk:∀{A:AM},Lk C E (W i) i A M->Lk C E (W i) i (A.step (i:Int) false).1 M'
theorem da:pZ C s c k<=15:=by
 unfold pZ;split;omega;split;have b:(if(fS k.cC<|U3.cS ‹_›/2/2).isSome=true\/k.eN=true then 0 else 6)<=6:=by split<;>omega
 have e:(if Qt.fY C c (U3.cS ‹_›/2)\/c.pY=true then 0 else 9)<=9:=by split<;>omega
 omega;omega
def Wc (b:s.Ok) (e:s.over=false):s.at'<s.prog.length:=Ez (by rw[<-b.2.2.1];exact e)
def QI.aI5 (hE:QE C E W P) (h:QI C E W P M) (o:(i:Int)<C.aE) (y:(M.aC i).over=false) (J:s'.bG=(M.aC i).bG) (I:s'.prog=(M.aC i).prog) (B:(M.aC i).at'<s'.at')
  (g:(M.aJ i).pY=false) (v:(M.aU i).eN=false) (t:LA C E i (W i) c' M.aK (M.bN i 0) (M.bN i 1) (M.bN i 2)) (hc:c'.pY=(M.aJ i).pY/\c'.al=(M.aJ i).al/\c'.uF=(M.aJ i).uF/\c'.gl=(M.aJ i).gl)
  (hb:∀l:Int,Qt.fY C c' l->0<=l/\l<C.aF) (z:M'=⟨bJ M.aC i s',bJ M.aJ i c',M.aU,M.aK,M.dS,M.bN,M'.jW⟩) (mi:∃N,eO C N M'):Mv C E W P i M M':=by
 generalize M'.jW=lg at z
 subst z
 have b:=h.sq i o
 have r:bJ M.aC i s' i=s':=bR
 have q:bJ M.aJ i c' i=c':=bR
 have f:X5 C E (W i) i M ⟨bJ M.aC i s',bJ M.aJ i c',M.aU,M.aK,M.dS,M.bN,lg⟩:=
  ⟨rfl,fun j p=>eA p,fun j p=>eA p,fun _ _=>rfl,fun j p=>rfl,fun k T=>rfl⟩
 refine⟨h.tC hE o f mi ?_ ?_ (fun w n G=>h.nk i w n G) ?_,f,?_⟩
 .show(bJ M.aC i s' i).bG=_/\(bJ M.aC i s' i).prog=_;rw[r,J,I];exact h.gP i o
 .show LA C E i (W i) (bJ M.aJ i c' i) M.aK (M.bN i 0) (M.bN i 1) (M.bN i 2);rw[q];exact t
 .show SQ C E (bJ M.aC i s' i) (bJ M.aJ i c' i) (M.aU i) (M.bN i 0) (M.bN i 2);rw[r,q];refine⟨b.kn,b.sB,b.nQ,b.pl,b.n6,b.n12,fun e=>?_,fun e=>?_,fun e=>?_,fun e=>by rw[hc.2.2.2];exact b.go<|hc.2.2.1▸e,hb⟩
  .rw[v] at e;cases e
  .rw[hc.1,g] at e;cases e
  .rw[hc.1,g] at e;cases e
 .obtain⟨N,D⟩:=h.mi;have u:=Wc (D.gP i o) y;rw[(h.gP i o).2] at u;show ms C (P i) (bJ M.aC i s' i) (bJ M.aJ i c' i) (M.aU i) M.aK (M.bN i 0) (M.bN i 1)<ms C (P i) (M.aC i) (M.aJ i) (M.aU i) M.aK (M.bN i 0) (M.bN i 1);rw[r,q,ms,ms];have L:=da (C:=C) (s:=s') (c:=c') (k:=M.aU i);have O:nR c' M.aK (M.bN i 0)=0:=Hu<|hc.1.trans g;have Q:zG c' M.aK (M.bN i 0)=zG (M.aJ i) M.aK (M.bN i 0):=by unfold zG;rw[hc.2.2.1,hc.2.2.2]
  omega
end
variable {P:Nat->HO} {F:fI} {n d:aI} {s':aT} {c c':iJ} {k:lX} {A:AM} {a:U3}
variable {q:Int}
theorem sn (h:Mc.aT.iK s=some a) (g:q=0\/q=19):∃s' e,Mc.aT.cM s i v q=(s',e,0)/\s'.bG=s.bG/\s'.prog=s.prog/\s'.at'=s.at'+1:=by
 obtain⟨x,b,f,rfl⟩:=Vb h;unfold Mc.aT.cM;rw[b];dsimp only;rw[aab,aXg<|by unfold M6;grind,aab];split;exact⟨_,_,rfl,rfl,rfl,rfl⟩;split;exact⟨_,_,rfl,rfl,rfl,rfl⟩;exact⟨_,_,rfl,rfl,rfl,rfl⟩
def Te {e:Go.At.Ev} (h:Mc.aT.cM (M.aC i) i v q=(s',e,0)):M.cM i v q=((M.kI i s').V2 e,0):=by
 unfold cN.cM;rw[h];rfl
def cn (h:Mc.aT.iK s=some a):s.over=false:=by
 obtain⟨x,b,_⟩:=Vb h;exact(E8 b).1
def Oy {l:List (Int×Int)} {g:Int} (h:fS l g=some o):(g,o)∈l:=by
 unfold fS at h;cases hf:l.find? fun x=>decide (x.1=g) with
 |none=>rw[hf] at h;cases h
 |some x=>
  rw[hf] at h;cases h;have:=List.find?_some hf;have e:x.1=g:=by simpa using this
  rw[<-e];exact List.mem_of_find?_eq_some hf
def aEr (h:Lk C E (W i) i A M) {w:Int} (b:0<=w/\w<C.aF*2) {x:Int}:A.R2 x w=vE x (xy E<|w/2/2):=by
 unfold AM.R2;rw[h.fA,aXg b,h.oA];unfold xy;rw[show(w/2/2).toNat=w.toNat/4 by omega,ay,gi,ay];cases E[w.toNat/4]?<;>rfl
def QI.aN9 (hE:QE C E W P) (h:QI C E W P M) (f:(i:Int)<C.aE) (j:Mc.aT.iK (M.aC i)=some a) (o:(M.aJ i).pY=false) (p:(M.aU i).eN=false)
  (z:∀A,Lk C E (W i) i A M->A.R2 (M.aC i).bG a.cS=false) (mi:∃N,eO C N (M.cM i 0 19).1):(M.cM i 0 19).2=0/\Me C E W P i M (M.cM i 0 19).1:=by
 obtain⟨s',e,r,t,u,B⟩:=sn (i:=i) (v:=0) (q:=19) j<|.inr rfl
 rw[Te r] at mi ⊢
 have g:=h.sq i f
 refine⟨rfl,⟨h.aI5 hE f (cn j) t u ER o p (h.la i f) ⟨rfl,rfl,rfl,rfl⟩ g.bd (by rw[rM]) mi,?_,fun {A} hA=>?_⟩⟩
 .show _<(bJ M.aC i s' i).at';rw[bR];omega
 .have y:=aFk (A:=A) (i:=i) (a:=a) (b:=false) (by rw[hA.fA];exact f) (by rw[hA.gP];exact j) (by rw[hA.gP];exact z A hA);rw[y.1,hA.gP,r];refine⟨hA.fA,hA.oA,?_,hA.mem⟩;show bJ A.aC i s' i=bJ M.aC i s' i;rw[bR,bR]
def aOq {w:Bool} (h:pk C c' l=pk C c l):Ct.oD C.bL.toNat c'.S l o w=Ct.oD C.bL.toNat c.S l o w:=by
 unfold pk at h;unfold Ct.oD;rw[h]
def nj {a:Int}:(jH C c l a o v).pY=c.pY/\(jH C c l a o v).al=c.al/\(jH C c l a o v).uF=c.uF/\(jH C c l a o v).gl=c.gl:=by
 unfold jH;split<;>exact⟨rfl,rfl,rfl,rfl⟩
def tu (h:Qt.fY C c l):val C c x l=(pk C c l).1.d:=by unfold val;rw[aXg h]
def QI.jJ (hE:QE C E W P) (h:QI C E W P M) (J:(i:Int)<C.aE) (L:Mc.aT.iK (M.aC i)=some a) (μ:0<=a.cS/\a.cS<C.aF*2) (t:fS (M.aU i).cC (a.cS/2/2)=some o) (δ:vE (W i) o=true)
  (hc:Ct.oD C.bL.toNat (M.aJ i).S (a.cS/2) o a.dX=true) (mi:∃N,eO C N (M.jJ C i (a.cS/2) (a.cS % 2) o a).1):
  (M.jJ C i (a.cS/2) (a.cS % 2) o a).2=0/\Me C E W P i M (M.jJ C i (a.cS/2) (a.cS % 2) o a).1:=by
 have j:=h.sq i J
 have la:=h.la i J
 obtain⟨N,β⟩:=h.mi
 have r:=β.Jt i J
 obtain⟨l,hl⟩:=cb<|show 0<=a.cS/2 by omega
 have U:a.cS % 2=0\/a.cS % 2=1:=ER
 have u:l<C.aF:=ER
 have p:Qt.fY C (M.aJ i) l:=by rw[<-hl];exact aCz hc
 have y:oA E (W i) l:=hS fun ho=>((la l u).2 ho).h p
 have B:=((la l u).1 y).rG
 rw[fZ p] at B
 have ε:(M.aJ i).pY=false:=by
  cases e:(M.aJ i).pY with
  |false=>rfl
  |true=>
   obtain⟨b,O,_,π,_⟩:=j.wq e;rw[L] at O;cases O;rw[fZ<|show vQ (M.aJ i) l from⟨e,ER⟩] at B;omega
 have ζ:(M.aU i).eN=false:=by
  cases e:(M.aU i).eN with
  |false=>rfl
  |true=>
   obtain⟨b,O,_,Z,Q⟩:=j.wk e;rw[L] at O;cases O;rw[Z,t] at Q;cases Q
 have η:o=xy E (a.cS/2/2):=(j.kn _<|Oy t).2
 rw[hl] at hc
 unfold cN.jJ at mi ⊢
 dsimp only at mi ⊢
 rw[hl] at mi ⊢
 generalize hv:(if a.Su=true then I3 C (M.aJ i) l (a.cS % 2) else 0)=v at mi ⊢
 have G:∃g,(if a.Su=true then rR C (M.aJ i) l (a.cS % 2) o else M.aJ i)=g/\kK C g/\(∀k,La C k (M.aJ i) g)/\(g.pY=(M.aJ i).pY/\g.al=(M.aJ i).al/\g.uF=(M.aJ i).uF/\g.gl=(M.aJ i).gl):=by
  refine⟨_,rfl,?_⟩;split;exact⟨Kr r,fun k=>yu r,x5 r⟩;exact⟨r,fun k=>La.refl,⟨rfl,rfl,rfl,rfl⟩⟩
 obtain⟨g,G,Y,f,hle⟩:=G
 rw[G] at mi ⊢
 have I:LA C E i (W i) g M.aK (M.bN i 0) (M.bN i 1) (M.bN i 2):=la.frame (fun k _=>f k) (fun _ _=>Sm.refl) (fun _ _=>Sm.refl) fun _ _=>Sm.refl
 have ξ:∃c2,(if a.dX=true then jH C g l (a.cS % 2) o a.value else g)=c2/\LA C E i (W i) c2 M.aK (M.bN i 0) (M.bN i 1) (M.bN i 2)/\(c2.pY=(M.aJ i).pY/\c2.al=(M.aJ i).al/\c2.uF=(M.aJ i).uF/\c2.gl=(M.aJ i).gl)/\
   (∀k:Int,Qt.fY C c2 k->0<=k/\k<C.aF)/\(∀k:Nat,val C c2 (M.aK k) k=if a.dX=true/\k=l then aM7 (val C (M.aJ i) (M.aK k) k) (a.cS % 2) a.value else val C (M.aJ i) (M.aK k) k):=by
  refine⟨_,rfl,?_⟩
  cases hwr:a.dX with
  |false=>
   rw[aXf zs]
   exact⟨I,hle,fun k t=>j.bd k<|(f k).fY.1 t,fun k=>by rw[aXf EV];exact sK<|f k⟩
  |true=>
   rw[aXg rfl]
   rw[hwr] at hc
   have T:sP C g.S l (a.cS % 2) o true=0:=aGm ER U (by rw[aOq (f l).p];exact hc)
   obtain⟨w1,w2,w3,w4⟩:=((I l u).1 y).dX (v:=a.value) Y T
   have z:=nj (C:=C) (c:=g) (l:=l) (a:=a.cS % 2) (o:=o) (v:=a.value)
   refine⟨I.rG y (fun _ _=>rfl) w3 (fun k t=>U7 ER) (fun _ _=>Sm.refl) (fun _ _=>Sm.refl) fun _ _=>Sm.refl,⟨z.1.trans hle.1,z.2.1.trans hle.2.1,z.2.2.1.trans hle.2.2.1,z.2.2.2.trans hle.2.2.2⟩,fun k t=>?_,fun k=>?_⟩
   .by_cases e:k=l
    .omega
    .exact j.bd k ((f k).fY.1<|(U7 e).fY.1 t)
   .by_cases e:k=l
    .subst e;rw[aXg ⟨rfl,rfl⟩,w4,sK<|f k]
    .rw[aXf fun D=>e D.2,sK<|U7 ER,sK<|f k]
 obtain⟨c2,X,ο,α,V,κ⟩:=ξ
 rw[X] at mi ⊢
 obtain⟨s',e,T,h1,h2,h3⟩:=sn (i:=i) (v:=v) (q:=0) L<|.inl rfl
 have ι:=Te (M:=M.rT i c2) T
 rw[ι] at mi ⊢
 refine⟨rfl,⟨h.aI5 hE J (cn L) h1 h2 ER ε ζ ο α V rfl mi,?_,fun {A} hA=>?_⟩⟩
 .show _<(bJ M.aC i s' i).at';rw[bR];omega
 .have γ:A.mem l=(pk C (M.aJ i) l).1.d:=by rw[hA.mem l u y,tu p]
  have ν:(M.aC i).bG=W i:=(h.gP i J).1
  have ek:a.cS.toNat/2=l:=ER
  have em:a.cS.toNat % 2=0↔a.cS % 2=0:=ER
  have hf:=ye (A:=A) (i:=i) (a:=a) (b:=false) (v:=v) (by rw[hA.fA];exact J) (by rw[hA.gP];exact L) (by rw[hA.gP,aEr hA μ,ν,<-η];exact δ) (by
   rw[<-hv];unfold iP;rw[ek,γ];unfold I3 cf pk;by_cases e:a.cS % 2=0;rw[aXg e,aXg<|em.2 e];rw[aXf e,aXf fun D=>e<|em.1 D])
  rw[hf.1,hA.gP,T]
  refine⟨hA.fA,hA.oA,?_,fun k t θ=>?_⟩
  .show bJ A.aC i s' i=bJ M.aC i s' i;rw[bR,bR]
  .show(if a.dX=true then yV A.mem a.cS.toNat a.value else A.mem) k=val C (bJ M.aJ i c2 i) (M.aK k) k;rw[bR,κ k,<-hA.mem k t θ];cases hwr:a.dX with
   |false=>rw[aXf zs,aXf EV]
   |true=>
    rw[aXg rfl]
    unfold yV
    rw[ek]
    by_cases e:k=l
    .subst e;rw[aXg (c:=true=true/\k=k) ⟨rfl,rfl⟩,bR];unfold aM7;by_cases e:a.cS % 2=0
     .rw[aXg e,aXg<|em.2 e]
     .rw[aXf e,aXf fun D=>e<|em.1 D]
    .rw[aXf (c:=true=true/\k=l) fun D=>e D.2,eA e]
end Go.Qt
