/- A part of the proof. -/
import Derived.Test.YteelnoablpdhbaaGreatDoorO2
set_option linter.all false
open Go Go.Ab
variable {P:Program} {l:EM} {i n:Nat} {all:List Oper} {o:Oper}
namespace Go.Ab
open Go.RowKit
variable {B:Nat} {K:FuncId->EK->HQ}
theorem Xv {α:Type} {l:List α} {f:α×Nat->Bool} (h:l.zipIdx.all f=true) {k:Nat} {o:α} (a:l[k]?=some o):f (o,k)=true:=by
 grind
theorem fu (b:l.Pairwise (·<·)) {p:Nat} (a:l.find? (fun x=>decide<|i<x)=some p):i<p/\p∈l/\∀j∈l,i<j->p<=j:=by
 grind[List.find?_eq_some_iff_append,List.pairwise_cons]
structure Fit (all:List Oper):Prop where
 dir:∀(k:Nat) o,all[k]?=some o->∀j∈gI o,j<k
 kind:∀(k:Nat) o,all[k]?=some o->eM o.op≠.Et
 Fq:∀i j:Nat,∀t,(all[i]?).bind (·.dst)=some t->(all[j]?).bind (·.dst)=some t->i=j
 tmps:∀i j:Nat,∀o p d,all[i]?=some o->all[j]?=some p->i≠j->p.dst=some d->d∈Hh all o->(j<i->mS (gN all []) j i=true)/\(i<j->mS (gN all []) i j=true)
 Ay:∀i j:Nat,∀o p,all[i]?=some o->all[j]?=some p->eD o.op=true->eD p.op=true->j<i->mS (gN all []) j i=true
theorem kz (h:Ol all=true):Fit all:=by
 simp only[Ol,dn] at h;obtain⟨⟨⟨b,g⟩,c⟩,_⟩:=h;have pair:∀i j:Nat,∀o p,all[i]?=some o->all[j]?=some p->i≠j->
   (o.dst.isNone||o.dst !=p.dst)=true/\
   (match p.dst with|some d=> !(Hh all o).contains d||(if j<i then mS (gN all []) j i else mS (gN all []) i j)|none=>true)=true/\
   (!(eD o.op&&eD p.op&&decide (j<i))||mS (gN all []) j i)=true:=by
  intro i j o p a f e
  have:=Xv (Xv c a) f
  grind
 refine {dir:=?_,kind:=?_,Fq:=?_,tmps:=?_,Ay:=?_};intro k o a j l;have:=Xv b a;grind;grind;grind;grind;grind
theorem zY {s:Nat} (c:n=all.length) (b:i<n):
  let Ay:=(List.range n).filter fun i=>(all[i]?).any fun o=>eD o.op
  ((Ay++[n]).find? fun x=>decide<|i<x).getD n=s->i<s/\∀j p,i<j->j<s->all[j]?=some p->eD p.op=false:=by
 intro Ay d
 have a:(Ay++[n]).Pairwise (·<·):=by
  rw[List.pairwise_append];refine⟨(List.pairwise_lt_range).filter _,EV,?_⟩;grind
 cases hf:(Ay++[n]).find? fun x=>decide (i<x) with
 |none=>
  grind
 |some p=>
  grind[fu]
theorem ny {s:Nat} (e:all[i]?=some o) (d:kO o.op=true) (c:s=all.length\/∃p,all[s]?=some p/\eD p.op=true)
  (b:∀j p,all[j]?=some p->eD p.op=true->(j<s->mS (gN all []) i j=false)/\(s<=j->mS (gN all []) j i=false))
  (a:¬(i<s/\∀j p,i<j->j<s->all[j]?=some p->eD p.op=false)):(i,s)∈K2 all:=by
 unfold K2
 rw[BG]
 refine⟨i,ES,?_⟩
 rw[aXg ES,gL]
 refine⟨s,?_,rfl⟩
 rw[BB]
 constructor
 .grind
 .rw[dn];constructor
  .grind[zY]
  grind
theorem cu {R:mE} {all:List Oper} {d:Nat}:∀(os:List Oper) (i:Nat) (env:EK) (h:AH) (rs:List Rec) (e:EK) (b:AH),jV P R all d i os env h=some (rs,e,b)->rs.length=os.length
 |[],i,env,h,rs,e,b,a=>by
  grind[jV,Option.some.injEq,Prod.mk.injEq]
 |o::os,i,env,h,rs,e,b,a=>by
  simp[jV] at a;split at a;split at a;rename_i c;simp[Option.some.injEq,Prod.mk.injEq] at a;rw[<-a.1,k5,k5,cu os _ _ _ _ _ _ c];cases a;cases a
theorem aL8 (C:Lc P B K) (R:mE) (X:Gc C R):aCf C R:=by
 intro ops env h U h' c ρ w b a T k t f Y he;rw[uH] at c;split at c;rename_i q;rw[dn] at q;obtain⟨q,z⟩:=q;split at c;rename_i rs e W r;split at c;rename_i x;simp[Option.some.injEq,Prod.mk.injEq] at c;obtain⟨rfl,rfl⟩:=c;have fit:=kz q;generalize g:ops.toList=all at fit r x q;have α:ops.size=all.length:=by rw[<-g];simp
 have⟨E,H,V,hE0,hH0,hstep,hEn,hHn,hrs⟩:=Ph all 0 env _ rs e W r;have d:Dr P R all h.next E H V:={
  step:=fun j o N=>ES
  env:=ES
  dir:=fit.dir,kind:=fit.kind,Fq:=fit.Fq,tmps:=fit.tmps,Ay:=fit.Ay
  flt:=fun i s o N hl hs O I G hw=>by
   rw[lP] at x;have:=x (i,s)<|ny N hl O I G;simp only[wJ,N,hrs i<|ES,hw] at this;have Z:fT P (eC P<|E i) (H s) o.op=some (V i):=by
    rcases ts s all.length with h1|h1;grind[Q9];grind[List.getElem?_eq_none,cu,Q9]
   exact Z}
 have hB:=f.size;have L:pK P B ρ (H 0) w:=by
  rw[hH0];exact {oP:=f.oP,inj:=f.inj,low:=f.low,old:=f.old,gO:=fun i h1=>f.gO i ES,jD:=fun i h1=>f.jD i ES,pO:=f.pO,size:=f.size,bn:=by have:=f.bn;grind}
 have y:∀i,(H 0).get i=h.get i:=fun i=>by rw[hH0];rfl
 have S:St P B all h.next E H V ρ h w [] 0 ρ w a.tmps.toList:={
  Hr:={ext:=A6.refl _,inv:=L,un:=fun _ _ h=>h,pF:=ES,stay:=fun i _ h1=>ES,frame:=ES,
                range:=ES,base:=by rw[hH0],yR:=ES,size:=ba _,os:=rfl,out:=rfl,tape:=rfl}
  dlt:=ES
  qH:=ES
  s1:=ER
  s3:=ES
  sle:=AK _
  env:=by rwa [hE0]
  nx:=ES
  Hg:=ES
  Be:=fun i n t h1 u=>HK
  lone:=fun i n t _ h1 u=>HK
  M8:=fun i i' n t t' _ _ u=>HK
  tz:=fun i _ _=>f.gO _ ER
  unA:=fun i o _ _=>f.gO _ ER
  rev:=ER
  vb:=fun j _ _=>by rw[y];exact f.jD _ ER
  gr:=fun m hm _=>(have:m=0:=ER;this▸tK.refl _)}
 obtain⟨s,st1,J⟩:=S.X3 d f.bn hB _ _ rfl;have v:Region.schedule (P.follows .mixedOrders) ops t=Region.linearise.go .any ops ops.size t (Array.replicate ops.size false) []:=by
  rw[Region.schedule];rw[aXg z];rfl
 have F:Fk all [] (Region.schedule (P.follows .mixedOrders) ops t):=by
  rw[v,<-g];apply F5 (by rw[g];exact fit.dir) ops.size t _ [] EV (fun i f=>by simp[f]);grind
 have⟨D',ρ',w',a',st2,hin,hdef,hst⟩:=Qs C X g d f.bn hB f Y (b:=b) (cs:=T) (k:=k) _ [] s ρ w a F J st1;have l:=st2.Hr;rw[hHn] at l;have M:=st2.nx;rw[hHn] at M;refine⟨ρ',w',a',l.Hr ER,?_,hdef,hst⟩;have A:e=Cz all V (E 0) D':=by
  rw[<-hEn,d.aP8 _<|ba _];refine mn fun t=>Sy (fun i j h1 u=>fit.Fq i j t h1 u) fun j hj=>?_;have D:j<all.length:=by
   cases hp:all[j]? with
   |none=>grind
   |some p=>grind
  simp[D,hin j D]
 rw[A];exact st2.env;cases c;cases c;cases c
def yv (C:Lc P B K) (n:Nat):Gc C (run P K n):=aO9 C (aL8 C) n
end Go.Ab
variable {e:Operand->Value} {op:Op} {r:Value×AH} {env:EK} {d:Nat} {f fn:FuncId} {ro:Option Nat} {ds:EM}
namespace Go.Ab
variable {K:FuncId->EK->HQ}
def mE.le (R a:mE):Prop:=∀t h r,R t h=some r->a t h=some r
theorem Ib {R d:mE} (f:R.le d) {h:AH} (a:eX P R e h op=some r):eX P d e h op=some r:=by
 unfold eX at a ⊢;split;exact a;exact a;split;grind;rename_i i;simp only[i] at a;split;rename_i b;simp only[b] at a;split;rename_i g;rw[aXg g] at a;simp only[aV] at a ⊢;obtain⟨x,c,rfl⟩:=a;exact⟨x,f _ _ _ c,rfl⟩;grind;rename_i b;simp only[b] at a;simp only[aV] at a ⊢;obtain⟨x,c,rfl⟩:=a;exact⟨x,f _ _ _ c,rfl⟩;grind;grind;grind
theorem T3 {R a:mE} (b:R.le a) {h:AH} (c:oV P R env h op=some r):oV P a env h op=some r:=by
 grind[oV,eM,Ib]
theorem L0 {R c:mE} (e:R.le c) {h:AH} (a:gX P R all d i env h o=some r):gX P c all d i env h o=some r:=by
 rw[gX] at a ⊢;cases hw:eY _ env o with
 |none=>grind
 |some b=>
  rw[hw] at a;cases b with
  |false=>exact a
  |true=>
   simp only at a ⊢;split;grind;split;grind;grind[Ib]
theorem D4 {R b:mE} (c:R.le b) {all:List Oper} {d:Nat}:∀(os:List Oper) {i:Nat} {env:EK} {h:AH} {r:List Rec×EK×AH},jV P R all d i os env h=some r->jV P b all d i os env h=some r
 |[],_,_,_,_,a=>a
 |o::os,i,env,h,r,a=>by
  simp[jV] at a ⊢;split at a;rename_i v j f;rw[L0 c f];simp only;split at a;rename_i l e g;rwa [D4 c os g];cases a;cases a
variable {ops:Array Oper}
theorem Ow {R a:mE} (c:R.le a) {h:AH} {r:EK×AH} (b:uH P R ops env h=some r):uH P a ops env h=some r:=by
 rw[uH] at b ⊢;split;grind[D4];grind
theorem xz {R d:mE} (c:R.le d) {all:Array Oper} {rest:List Oper} {h:AH} {r:vW×AH} (a:vN P R all rest env h=some r):vN P d all rest env h=some r:=by
 unfold vN at a ⊢;cases rest with
 |nil=>exact a
 |cons o rest=>
  simp only at a ⊢;cases hw:eY all env o with
  |none=>grind
  |some b=>
   rw[hw] at a;cases b with
   |false=>exact c _ _ _ a
   |true=>
    simp only at a ⊢;split at a;rename_i v f e;rw[T3 c e];exact c _ _ _ a;cases a
theorem qh {R d:mE} (e:R.le d) {args:EK} {h:AH} {r:vW×AH} (a:oK P K R f args h=some r):oK P K d f args h=some r:=by
 rw[oK] at a ⊢;split;grind;rename_i b;rw[b] at a;simp only at a;split at a;rename_i c;rwa [e _ _ _ c];cases a;grind;rename_i b;rw[b] at a;simp only at a;split at a;split at a;split at a;rename_i c;rwa [e _ _ _ c];cases a;cases a;cases a
def Yl {R b:mE} (d:R.le b) {l:Nat} {args:EK} {h:AH} {r:vW×AH} (a:qM R l args h=some r):qM b l args h=some r:=by
 rw[qM] at a ⊢;split at a;split at a;rename_i c;rw[aXg c];split at a;rename_i e;rwa [d _ _ _ e];cases a;cases a;cases a
variable {k:List Item}
def mj {R e:mE} (b:R.le e) {h:AH} {r:vW×AH} (a:fF P R fn ro ds env k h=some r):fF P e fn ro ds env k h=some r:=by
 unfold fF at a ⊢;split at a;exact a;split at a;exact b _ _ _ a;exact b _ _ _ a;exact b _ _ _ a;split at a;exact b _ _ _ a;cases a;exact b _ _ _ a;exact b _ _ _ a;exact b _ _ _ a;split at a;exact b _ _ _ a;exact a;exact a;split at a;rename_i d;rw[b _ _ _ d];exact b _ _ _ a;cases a;split at a;rename_i d;rw[Ow b d];exact b _ _ _ a;cases a;split at a;split at a;split at a;rename_i c;rw[aXg c];split at a;rename_i d;rw[b _ _ _ d];simp only;split at a;split at a;cases a;rename_i f;rw[aXf f];split at a;exact b _ _ _ a;cases a;cases a;cases a;cases a;cases a;cases a;cases a;exact b _ _ _ a;exact b _ _ _ a;exact b _ _ _ a;split at a;split at a;split at a;exact b _ _ _ a;cases a;cases a;cases a;cases a
def aG0:∀n,(run P K n).le (run P K<|n+1)
 |0,t,h,r,a=>by simp[run] at a
 |n+1,t,h,r,a=>by
  have c:=aG0 n;cases t with
  |todo fn ro ds env k=>exact mj c a
  |ops all rest env=>exact xz c a
  |call f b=>exact qh c a
  |round l b=>exact Yl c a
def nP {m:Nat} (h:n<=m):(run P K n).le (run P K m):=by
 induction h with
 |refl=>exact fun _ _ _ h=>h
 |step _ b=>exact fun t g r a=>aG0 _ _ _ _<|b t g r a
end Go.Ab
variable {t:TypeId} {a b v:Value} {x y:Operand} {Q q:Value->AH->Prop} {m p:Operand->Value} {h':AH} {old:Nat->HW} {w:World}
namespace Go.Ab
variable {at_:Array TypeId} {k:List Item} {lv:Ck} {ps:Array Tmp} {st:LoopState}
noncomputable section
variable {K:FuncId->EK->HQ}
def Zg (k:Nat) (a b:Value):Option Bool:=match k,a,b with
 |0,.int k m,.int c n=>if k=c then some (m==n) else none
 |1,.bool m,.bool n=>some (m==n)
 |2,.string m,.string n=>some (m==n)
 |_,_,_=>none
def tZ:EM->EK->EK->Option Bool
 |[],[],[]=>some true
 |k::c,x::d,y::e=>match Zg k x y,tZ c d e with
  |some a,some b=>some (a&&b)
  |_,_=>none
 |_,_,_=>none
def Q5 (P:Program) (c:TypeId->IC):Nat->List Field->IC
 |_,[]=>some []
 |o,f::d=>if f.name= "_"\/f.offset≠o then none else
  match c f.type,Q5 P c (o+P.cellsOf f.type) d with
  |some a,some b=>if a.length=P.cellsOf f.type then some (a++b) else none
  |_,_=>none
def Gk (P:Program):Nat->TypeId->IC
 |0,_=>none
 |d+1,t=>match P.underlying t with
  |some .bool=>some [1]
  |some (.int _)=>some [0]
  |some .string=>some [2]
  |some (.array n e)=>if(P.info? e).isSome then
    (match Gk P d e with
    |some l=>if l.length=P.cellsOf e then some (List.replicate n l).flatten else none
    |none=>none) else none
  |some (.struct a)=>if P.stoodInHeld t then none else Q5 P (Gk P d) 0 a.toList
  |_=>none
theorem Ak:∀{c:EM} {a b:EK} {r:Bool},tZ c a b=some r->a.length=c.length/\b.length=c.length
 |[],[],[],_,_=>⟨rfl,rfl⟩
 |[],[],_::_,_,h=>GQ
 |[],_::_,_,_,h=>GQ
 |_::_,[],_,_,h=>GQ
 |_::_,_::_,[],_,h=>GQ
 |k::c,x::e,y::f,r,h=>by
  simp[tZ] at h;split at h;rename_i d;simp[Ak d];cases h
theorem Gz:∀{c d:EM} {a b:EK} {r:Bool},tZ (c++d) a b=some r->∃e f,tZ c (a.take c.length) (b.take c.length)=some e/\tZ d (a.drop c.length) (b.drop c.length)=some f/\r=(e&&f)
 |[],d,a,b,r,h=>⟨true,r,by simp[tZ],ES,EV⟩
 |k::g,d,[],_,r,h=>GQ
 |k::g,d,_::_,[],r,h=>GQ
 |k::g,d,x::n,y::o,r,h=>by
  simp[hK,tZ] at h;split at h;rename_i e f j i;cases h;obtain⟨s1,s2,l,m,rfl⟩:=Gz i;grind[tZ,Bool.and_assoc];cases h
def tB (P:Program) (t:TypeId) (a:EK):EO:=match lY P t with
 |some true=>some (.agg ⟨a⟩)
 |some false=>a[0]?
 |none=>none
theorem Fc {xs a:EK} {b:Nat} (d:(xs.drop b).take (P.cellsOf t)=a) (e:a.length=P.cellsOf t) (c:0<P.cellsOf t\/b<=xs.length) (f:tB P t a=some v):iS P t xs b=some v:=by
 grind[tB,iS]
theorem Tn {eq:TypeId->Value->Value->Option Bool} {g:TypeId->IC}
  (j:∀t d a b r,g t=some d->d.length=P.cellsOf t->tZ d a b=some r->∃x y,tB P t a=some x/\tB P t b=some y/\eq t x y=some r)
  {xs ys:EK}:∀(fs:List Field) (o:Nat) (d:EM) (r:Bool),o<=xs.length->o<=ys.length->Q5 P g o fs=some d->tZ d (xs.drop o) (ys.drop o)=some r->pR P eq xs ys fs=some r
 |[],o,d,r,_,_,c,e=>by
  grind[Q5,Option.some.injEq,Ak,List.eq_nil_of_length_eq_zero,tZ,pR]
 |f::fs,o,d,r,s,u,c,e=>by
  simp only[Q5] at c;split at c;cases c;rename_i i;simp[not_or,og,ne_eq] at i;split at c;rename_i a b l m;split at c;rename_i q;cases c;obtain⟨w,v,n,p,rfl⟩:=Gz e;have⟨x,y,hx,hy,he⟩:=j _ _ _ _ _ l q n;have lc:=Ak e;simp[q5,bj] at lc;simp[pR];rw[aXf i.1,Fc ES ES ER hx,Fc ES ES ER hy];rw[u4,u4] at p;have:=Tn (xs:=xs) (ys:=ys) j fs _ b v ER ER m ES;grind;cases c;cases c
theorem Zd {eq:TypeId->Value->Value->Option Bool} {e:TypeId} {l:EM}
  (g:∀a b r,tZ l a b=some r->∃x y,tB P e a=some x/\tB P e b=some y/\eq e x y=some r) (d:l.length=P.cellsOf e)
  {xs ys:EK}:∀(n j:Nat) (r:Bool),j*P.cellsOf e<=xs.length->j*P.cellsOf e<=ys.length->tZ (List.replicate n l).flatten (xs.drop<|j*P.cellsOf e) (ys.drop<|j*P.cellsOf e)=some r->uM P eq e xs ys (List.range' j n)=some r
 |0,j,r,_,_,c=>by
  grind[List.flatten_nil,List.length_nil,List.eq_nil_of_length_eq_zero,tZ,uM]
 |n+1,j,r,p,q,c=>by
  rw[AO,CM] at c;obtain⟨v,s,f,o,rfl⟩:=Gz c;have⟨x,y,hx,hy,he⟩:=g _ _ _ f;have u:=Ak f;have lc:=Ak c;simp only[q5,bj] at lc;have i:iS P e xs (j*P.cellsOf e)=some x:=Fc (by rw[<-d]) ES ER hx;have m:iS P e ys (j*P.cellsOf e)=some y:=Fc (by rw[<-d]) ES ER hy;simp[List.range'_succ,uM,i,m,he];rw[u4,u4] at o;have t:(j+1)*P.cellsOf e=j*P.cellsOf e+P.cellsOf e:=ES;have:=Zd (xs:=xs) (ys:=ys) g d n (j+1) s ER ER ES;grind
theorem aJ0 (d:Nat):∀(t:TypeId) (g:EM) (a b:EK) (r:Bool),Gk P d t=some g->g.length=P.cellsOf t->tZ g a b=some r->
  ∃x y,tB P t a=some x/\tB P t b=some y/\Fo P d t x y=some r:=by
 induction d with
 |zero=>grind[Gk]
 |succ d p=>
  intro t g a b r h i l
  have rG:∀k,g=[k]->∃x y,a=[x]/\b=[y]/\Zg k x y=some r:=fun k i=>by
   subst i;match a,b,(Ak l) with
   |[x],[y],_=>
    grind[tZ]
  unfold Gk at h
  split at h
  .rename_i c;obtain⟨x,y,rfl,rfl,f⟩:=rG 1 ES;refine⟨x,y,FL,FL,?_⟩;unfold Zg at f;split at f
   .grind
   .simp_all[Fo]
   .grind
   .cases f
  .rename_i k c;obtain⟨x,y,rfl,rfl,f⟩:=rG 0 ES;refine⟨x,y,FL,FL,?_⟩;unfold Zg at f;split at f
   .simp_all[Fo]
   .grind
   .grind
   .cases f
  .rename_i c;obtain⟨x,y,rfl,rfl,f⟩:=rG 2 ES;refine⟨x,y,FL,FL,?_⟩;unfold Zg at f;split at f
   .grind
   .grind
   .simp_all[Fo]
   .cases f
  .rename_i n e c;split at h
   .rename_i m;split at h
    .split at h
     .cases h;refine⟨.agg ⟨a⟩,.agg ⟨b⟩,FL,FL,?_⟩;simp only[Fo,c,m,e9];grind[List.range_eq_range',Zd]
     .cases h
    .cases h
   .cases h
  .rename_i j c;split at h
   .cases h
   .rename_i o;refine⟨.agg ⟨a⟩,.agg ⟨b⟩,FL,FL,?_⟩;simp only[Fo,c,o,aO,c9];exact Tn ER j.toList 0 g r EV EV h ES
  .cases h
def vq (op:BinOp) (r:Bool):EO:=match op with
 |.eql=>some (.bool r)
 |.neq=>some (.bool !r)
 |_=>none
def vX (op:BinOp) (a b:Value):EO:=match a,b with
 |.int k m,.int c n=>if k=c then Se op k m n else none
 |_,_=>none
def Sn (op:BinOp) (a b:Value):EO:=match a,b with
 |.pointer none,.pointer b=>vq op b.isNone
 |.pointer (some _),.pointer none=>vq op false
 |_,_=>none
def Rx (op:BinOp) (a b:Value):EO:=match a,b with
 |.slice none _ _,.slice b _ _=>vq op b.isNone
 |.slice (some _) _ _,.slice none _ _=>vq op false
 |_,_=>none
def biF (op:BinOp) (a b:Value):EO:=match a,b with
 |.func _ _ _,.nilFunc=>vq op false
 |_,_=>none
def R8 (c:Bool) (op:BinOp) (a b:Value):EO:=match a,b with
 |.nilIface,.nilIface=>if c then vq op true else none
 |.nilIface,.iface _ _=>vq op false
 |.iface _ _,.nilIface=>vq op false
 |_,_=>none
def Rz (c:EM) (op:BinOp) (a b:Value):EO:=match a,b with
 |.agg d,.agg e=>(tZ c d.toList e.toList).bind (vq op)
 |_,_=>none
def Nc (P:Program) (t:TypeId):IC:=match Gk P 10000 t with
 |some a=>if a.length=P.cellsOf t/\lY P t=some true/\P.eqGuardType P.depth t=false then some a else none
 |none=>none
def Z4 (P:Program) (op:BinOp) (t:TypeId) (x y:Operand) (a b:Value) (q:Value->Prop) (bQ:EO->(Value->Prop)->Prop):Prop:=
 match P.underlying t with
 |some (.int _)=>bQ (vX op a b) q
 |some (.pointer _)=>bQ (Sn op a b) q
 |some (.slice _)=>bQ (Rx op a b) q
 |some (.func _ _ _)=>bQ (biF op a b) q
 |some (.interface _)=>bQ (R8 (Cg x||Cg y) op a b) q
 |some (.struct _)=>(match Nc P t with
  |some c=>bQ (Rz c op a b) q
  |none=>False)
 |some (.array _ _)=>(match Nc P t with
  |some c=>bQ (Rz c op a b) q
  |none=>False)
 |_=>False
theorem sM {op:BinOp} {r:Bool} (e:∀k m c n,¬(a= .int k m/\b= .int c n)) (i:∀m n,¬(a= .string m/\b= .string n)) (d:vq op r=some v) (f:Lz P t x y a b=true) (g:Fo P 10000 t a b=some r):
  Yo P op t x y a b=some v:=by
 unfold Yo
 grind[vq]
def uQ {r:Bool} (h:Fo P (9999+1) t a b=some r):Fo P 10000 t a b=some r:=h
theorem Z7 {op:BinOp} {q:Value->Prop} (f:Z4 P op t x y a b q fun o p=>∃v,o=some v/\p v):∃v,Yo P op t x y a b=some v/\q v:=by
 unfold Z4 at f;split at f;obtain⟨v,c,e⟩:=f;refine⟨v,?_,e⟩;unfold vX at c;grind[Yo];obtain⟨v,c,e⟩:=f;refine⟨v,?_,e⟩;unfold Sn at c;split at c;exact sM ES ES c rfl<|uQ FW;exact sM ES ES c rfl<|uQ FW;cases c;obtain⟨v,c,e⟩:=f;refine⟨v,?_,e⟩;unfold Rx at c;split at c;exact sM ES ES c rfl<|uQ FW;exact sM ES ES c rfl<|uQ FW;cases c;obtain⟨v,c,e⟩:=f;refine⟨v,?_,e⟩;unfold biF at c;split at c;exact sM ES ES c rfl<|uQ FW;cases c;obtain⟨v,c,e⟩:=f;refine⟨v,?_,e⟩;unfold R8 at c;split at c;split at c;exact sM ES ES c (by grind[Lz])<|uQ FW;cases c;exact sM ES ES c rfl<|uQ FW;exact sM ES ES c rfl<|uQ FW;cases c;all_goals
  first
   |cases f
   |split at f
    .rename_i u d;obtain⟨v,c,e⟩:=f;refine⟨v,?_,e⟩;unfold Rz at c;split at c
     .simp only[BH] at c;obtain⟨r,n,m⟩:=c;rw[Nc] at d;split at d
      .rename_i s g;split at d
       .rename_i i;cases d;have⟨x',y',hx',hy',hq⟩:=aJ0 10000 t _ _ _ _ g i.1 n;simp only[tB,i.2.1,Option.some.injEq] at hx' hy';have j:=hx'.symm;have l:=hy'.symm;subst j l;exact sM ES ES m (by grind[Lz]) hq
       .cases d
      .cases d
     .cases c
    .cases f
def Ok (P:Program) (K:FuncId->EK->HQ) (t:aBg) (h:AH) (Q:vW->AH->Prop):Prop:=∃n r,run P K n t h=some r/\Q r.1 r.2
def bQ {α:Type} (o:Option α) (p:α->Prop):Prop:=∃v,o=some v/\p v
def Br (v:Value) (p q:Prop):Prop:=∃b,v= .bool b/\(b=true->p)/\(b=false->q)
theorem Ok.mono {t:aBg} {h:AH} {Q a:vW->AH->Prop} (k:Ok P K t h Q) (e:∀o b,Q o b->a o b):Ok P K t h a:=
 let⟨n,r,c,d⟩:=k;⟨n,r,c,e _ _ d⟩
@[simp] theorem aSt {α:Type} {v:α} {p:α->Prop}:bQ (some v) p↔p v:=⟨fun⟨_,h,k⟩=>ES,fun k=>⟨v,rfl,k⟩⟩
@[simp] theorem aRa {α:Type} {p:α->Prop}:bQ none p↔False:=⟨fun⟨_,h,_⟩=>EY,False.elim⟩
theorem bQ.mono {α:Type} {o:Option α} {p c:α->Prop} (h:bQ o p) (k:∀v,p v->c v):bQ o c:=let⟨v,a,b⟩:=h;⟨v,a,k v b⟩
@[simp] theorem aLy {p q:Prop}:Br (.bool true) p q↔p:=⟨fun⟨b,h,k,_⟩=>ES,fun k=>⟨true,rfl,fun _=>k,EV⟩⟩
@[simp] theorem aHb {p q:Prop}:Br (.bool false) p q↔q:=⟨fun⟨b,h,_,k⟩=>ES,fun k=>⟨false,rfl,EV,fun _=>k⟩⟩
def di {b:Bool} {p q:Prop} (a:b=true->p) (c:b=false->q):Br (.bool b) p q:=⟨b,rfl,a,c⟩
def sA (h:AH) (p:Value):EO:=match p with
 |.pointer (some a)=>if a.spot.isSome then none else
  (match h.get a.block with
  |some (.cells c _ _ _)=>c[a.off]?
  |_=>none)
 |_=>none
def vD (h:AH) (n:Nat) (p:Value):EO:=match p with
 |.pointer (some a)=>(dE h a n).map fun l=> .agg ⟨l⟩
 |_=>none
def pV (p:Value):EO:=match p with
 |.pointer (some a)=>some (.pointer<|some a)
 |.func (.func f) a b=>some (.func (.func f) a b)
 |.func (.yield f) a b=>some (.func (.yield f) a b)
 |_=>none
def Xm (op:UnOp) (x:Value):EO:=match op,x with
 |.neg,.int k n=>some (.int k<|k.wrap<|0 - n)
 |.not,.bool b=>some (.bool !b)
 |_,_=>none
def iZ (n:Nat) (p:Value):EO:=match p with
 |.pointer (some a)=>some (.pointer<|some<|a.add n)
 |_=>none
def sH (a:Nat) (x:Value):EO:=match x with
 |.agg b=>b.toList[a]?
 |_=>none
def rQ (a n:Nat) (x:Value):EO:=match x with
 |.agg b=>if a+n<=b.toList.length then some (.agg ⟨(b.toList.drop a).take n⟩) else none
 |_=>none
def qJ (n b:Nat) (x i:Value):EO:=match x,i with
 |.pointer (some a),.int _ i=>if 0<=i/\i<n then some (.pointer<|some<|a.add<|i.toNat*b) else none
 |_,_=>none
def mQ (b:Nat) (x i:Value):EO:=match x,i with
 |.slice (some a) n _,.int _ i=>if 0<=i/\i<n/\a.spot=none then some (.pointer<|some<|a.add<|i.toNat*b) else none
 |_,_=>none
def Qv (n b:Nat) (x i:Value):EO:=match x,i with
 |.agg a,.int _ i=>if 0<=i/\i<n then a.toList[i.toNat*b]? else none
 |_,_=>none
def Ub (n a:Nat) (x i:Value):EO:=match x,i with
 |.agg b,.int _ i=>if 0<=i/\i<n/\i.toNat*a+a<=b.toList.length then some (.agg ⟨(b.toList.drop<|i.toNat*a).take a⟩) else none
 |_,_=>none
def tD (i:Nat) (t:Value):EO:=match t with
 |.tuple a=>a.toList[i]?
 |_=>none
def vT (h:AH) (n:Nat) (p v:Value):IB:=match p with
 |.pointer (some a)=>(match kD v with
  |some b=>if b.length=n then fL h a b else none
  |none=>none)
 |_=>none
def nA (e:TypeId) (v:Value):HW:=(kD v).map fun l=> .cells l e (0,0) true
def Jw (bytes:Nat) (l c:Value):Option (Nat×Nat):=match l,c with
 |.int _ l,.int _ c=>if 0<=l/\l<=c/\c<=2^40/\bytes*c<=2^47 then some (l.toNat,c.toNat) else none
 |_,_=>none
def rL (cells:EK):List (Nat×Nat×Value)->HT
 |[]=>some cells
 |(a,size,v)::rest=>match kD v with
  |some b=>if b.length=size/\a+b.length<=cells.length then rL (dK cells a b) rest else none
  |none=>none
def Bf (place:Nat->Option (Nat×Nat)) (b:Operand->Value):List (Nat×Operand)->Option (List<|Nat×Nat×Value)
 |[]=>some []
 |(i,x)::rest=>match place i,Bf place b rest with
  |some (a,size),some l=>some ((a,size,b x)::l)
  |_,_=>none
theorem H8 {place:Nat->Option (Nat×Nat)} {b:Operand->Value}:∀{a:List (Nat×Operand)} {l:List (Nat×Nat×Value)} {cells:EK},Bf place b a=some l->I9 place cells (a.map fun p=>(p.1,b p.2))=rL cells l
 |[],l,cells,h=>by simp only[Bf,Option.some.injEq] at h;subst h;rfl
 |(i,x)::rest,l,cells,h=>by
  simp[Bf] at h;split at h;rename_i e size f c d;cases h;simp[kx,I9,rL,c];cases hc:kD _ with
  |none=>rfl
  |some g=>
   simp only;split;exact H8 d;rfl
  cases h
def Ao (g:Nat) (h:AH) (x:Value) (f e d:EO):EO:=match x with
 |.slice none len b=>
  match qI d b b with
  |some m=>match(if e.isNone&&d.isSome then none else qI e len m) with
   |some c=>match qI f 0 c with
    |some l=>some (.slice none (c - l)<|m - l)
    |none=>none
   |none=>none
  |none=>none
 |.slice (some a) len b=>
  match qI d b b with
  |some m=>match(if e.isNone&&d.isSome then none else qI e len m) with
   |some c=>match qI f 0 c with
    |some l=>
     if a.spot.isSome then(if len=0/\b=0 then some (if d.isSome then xJ else aPo) else none) else
     if c<=m then
      (if m=l then
       if d.isSome then some xJ else
       match qU h a.block with
       |some true=>some xJ
       |some false=>some (Em<|a.add<|l*g)
       |none=>none
      else some (.slice (some<|a.add<|l*g) (c - l)<|m - l))
     else none
    |none=>none
   |none=>none
  |none=>none
 |_=>none
def Cx (P:Program) (K:FuncId->EK->HQ) (f:Value) (args:EK) (h:AH) (Q:Value->AH->Prop):Prop:=match f with
 |.func (.func g) first a=>iR P g=true/\Ok P K (.call g<|first.toList++args++a.toList) h fun o b=>Q o.v b
 |.func (.yield l) first _=>Ok P K (.round l<|first.toList++args) h fun o b=>Q o.v b
 |_=>False
def lkV (z:Value) (h:AH) (x ix:Value) (ok:Bool):EO:=match pj h x,ix with
 |some a,.int k n=>match Ax k n a 0 with
  |some (some (_,v))=>some (if ok then .tuple ⟨[v,.bool true]⟩ else v)
  |some none=>some (if ok then .tuple ⟨[z,.bool false]⟩ else z)
  |none=>none
 |_,_=>none
def oO (P:Program) (b:Operand->Value) (h:AH) (q:Value->Prop):Op->Prop
 |.move x=>q (b x)
 |.assign x=>q (b x)
 |.build t g=>match pH P t with
  |some z=>(match P.underlying t with
   |some (.struct j)=>if j.all (fun f=>(P.info? f.type).isSome) then(match Bf (fun i=>(j[i]?).map fun f=>(f.offset,P.cellsOf f.type)) b g.toList with
    |some l=>bQ (rL z l) fun c=>q (.agg ⟨c⟩)
    |none=>False) else False
   |some (.array _ e)=>if(P.info? e).isSome then(match Bf (fun i=>some (i*P.cellsOf e,P.cellsOf e)) b g.toList with
    |some l=>bQ (rL z l) fun c=>q (.agg ⟨c⟩)
    |none=>False) else False
   |_=>False)
  |none=>False
 |.load t a=>match lY P t with
  |some true=>bQ (vD h (P.cellsOf t)<|b a) q
  |some false=>bQ (sA h<|b a) q
  |none=>False
 |.nilCheck x=>bQ (pV<|b x) q
 |.binOp op t x y _=>Z4 P op t x y (b x) (b y) q bQ
 |.unOp op _ x=>bQ (Xm op<|b x) q
 |.makeInterface t x=>match P.underlying t with
  |some (.interface _)=>False
  |some _=>q (.iface t<|b x)
  |none=>False
 |.makeFunc fn first d=>match fn with
  |.func f=>q (.func (.func f) (first.map b)<|d.map b)
  |_=>False
 |.slice t x o m p=>match P.underlying t with
  |some (.slice e)=>if(P.info? e).isSome then bQ (Ao (P.cellsOf e) h (b x) (o.map b) (m.map b)<|p.map b) q else False
  |_=>False
 |.fieldAddr s x f=>match P.underlying s with
  |some (.struct j)=>(match j[f]? with
   |some fd=>if P.cellsOf fd.type=0 then False else bQ (iZ fd.offset<|b x) q
   |none=>False)
  |_=>False
 |.field t x f=>match P.underlying t with
  |some (.struct j)=>(match j[f]? with
   |some fd=>(match lY P fd.type with
    |some true=>bQ (rQ fd.offset (P.cellsOf fd.type)<|b x) q
    |some false=>bQ (sH fd.offset<|b x) q
    |none=>False)
   |none=>False)
  |_=>False
 |.indexAddr t x i=>match P.underlying t with
  |some (.array n e)=>if(P.info? e).isSome then bQ (qJ n (P.cellsOf e) (b x)<|b i) q else False
  |some (.slice e)=>if(P.info? e).isSome then bQ (mQ (P.cellsOf e) (b x)<|b i) q else False
  |_=>False
 |.index t x i=>match P.underlying t with
  |some (.array n e)=>if(P.info? e).isSome then(match lY P e with
   |some true=>bQ (Ub n (P.cellsOf e) (b x)<|b i) q
   |some false=>bQ (Qv n (P.cellsOf e) (b x)<|b i) q
   |none=>False) else False
  |_=>False
 |.extract t i=>bQ (tD i<|b t) q
 |.lookup t x ix ok=>match Ky P t with
  |some e=>(match gh P e with
   |some z=>bQ (lkV z h (b x) (b ix) ok) q
   |none=>False)
  |none=>False
 |_=>False
theorem Gd {h:AH} {q:Value->Prop} (a:oO P p h q op):eM op= .Cr/\∃v,dA P p h op=some v/\q v:=by
 unfold oO at a;split at a;exact⟨rfl,_,rfl,a⟩;exact⟨rfl,_,rfl,a⟩;refine⟨rfl,?_⟩;split at a;rename_i z t;split at a;rename_i u j;split at a;rename_i f;split at a;obtain⟨c,b,d⟩:=a;refine⟨_,?_,d⟩;simp only[dA,J8,t,j,f,e9];grind[H8];cases a;cases a;rename_i e j;split at a;rename_i f;split at a;obtain⟨c,b,d⟩:=a;refine⟨_,?_,d⟩;simp only[dA,J8,t,j,f,e9];grind[H8];cases a;cases a;cases a;cases a;refine⟨rfl,?_⟩;split at a;obtain⟨v,b,d⟩:=a;refine⟨v,?_,d⟩;unfold vD at b;simp[dA];grind[xW];obtain⟨v,b,d⟩:=a;refine⟨v,?_,d⟩;unfold sA at b;simp[dA];grind[xW];cases a;obtain⟨v,b,d⟩:=a;exact⟨rfl,v,b,d⟩;have⟨v,b,d⟩:=Z7 a;exact⟨rfl,v,b,d⟩;obtain⟨v,b,d⟩:=a;exact⟨rfl,v,b,d⟩;refine⟨rfl,?_⟩;split at a;cases a;simp_all[dA];cases a;split at a;exact⟨rfl,_,rfl,a⟩;cases a;refine⟨rfl,?_⟩;split at a;rename_i j;split at a;rename_i r;obtain⟨v,b,d⟩:=a;refine⟨v,?_,d⟩;unfold Ao at b;split at b;rename_i o;simp only[dA,o,B5,j,r,e9];exact b;rename_i o;simp only[dA,o,B5,j,r,true_and];exact b;cases b;cases a;cases a;refine⟨rfl,?_⟩;split at a;split at a;split at a;cases a;obtain⟨v,b,d⟩:=a;refine⟨v,?_,d⟩;unfold iZ at b;split at b;simp_all[dA,c9];cases b;cases a;cases a;refine⟨rfl,?_⟩;split at a;split at a;split at a;obtain⟨v,b,d⟩:=a;refine⟨v,?_,d⟩;unfold rQ at b;split at b;simp_all[dA,iS];cases b;obtain⟨v,b,d⟩:=a;refine⟨v,?_,d⟩;unfold sH at b;split at b;simp_all[dA,iS];cases b;cases a;cases a;cases a;refine⟨rfl,?_⟩;split at a;split at a;obtain⟨v,b,d⟩:=a;refine⟨v,?_,d⟩;unfold qJ at b;split at b;simp_all[dA,CZ,e9];cases b;cases a;split at a;obtain⟨v,b,d⟩:=a;refine⟨v,?_,d⟩;unfold mQ at b;split at b;simp_all[dA,CZ,e9];cases b;cases a;cases a;refine⟨rfl,?_⟩;split at a;rename_i s;split at a;rename_i g;split at a;rename_i n;obtain⟨v,b,d⟩:=a;refine⟨v,?_,d⟩;unfold Ub at b;split at b;rename_i m i;split at b;rename_i l;simp only[dA,s,m,i,l.1,l.2.1,g,CZ,e9,iS,n,l.2.2];exact b;cases b;cases b;rename_i n;obtain⟨v,b,d⟩:=a;refine⟨v,?_,d⟩;unfold Qv at b;split at b;rename_i m i;split at b;rename_i l;simp only[dA,s,m,i,l,g,CZ,e9,iS,n];exact b;cases b;cases b;cases a;cases a;cases a;obtain⟨v,b,d⟩:=a;exact⟨rfl,v,b,d⟩;refine⟨rfl,?_⟩;split at a;rename_i e m;split at a;obtain⟨v,b,d⟩:=a;refine⟨v,?_,d⟩;unfold lkV at b;simp[dA,zD,m];grind;cases a;cases a;cases a
def pG (x:Value):EO:=match x with
 |.slice _ n _=>some (.int .i64 n)
 |_=>none
def aHs (h:AH) (x:Value):EO:=(pj h x).map fun a=> .int .i64 a.length
def B0 (x y:Value):EO:=match x,y with
 |.int k x,.int _ y=>some (.int k<|if y<x then y else x)
 |_,_=>none
def jX (z:EK) (h:AH) (x:Value):Option (Value×AH):=
 match x with
 |.slice none _ _=>some (.tuple #[],h)
 |.slice (some a) n _=>
   if n=0 then some (.tuple #[],h) else(fL h a<|gB z n).map fun b=>(.tuple #[],b)
 |_=>none
def Up (h:AH) (m b v:Value):IB:=match m,b with
 |.map (some r),.int k n=>if r<h.base then none else match h.get r with
  |some (.map c a)=>(aKa k n v c a).map fun o=>h.set r (some o)
  |_=>none
 |_,_=>none
def T7 (h:AH) (m c:Value):IB:=match m,c with
 |.map (some r),.int k n=>if r<h.base then none else match h.get r with
  |some (.map b a)=>match Ax k n b 0 with
   |some (some (i,_))=>some (h.set r<|some<|.map (b.eraseIdx i) a)
   |some none=>some (h.set r<|some<|.map b a)
   |none=>none
  |_=>none
 |_,_=>none
theorem aF7 {h:AH} {e:TypeId} {m:Value} (c:Ky P t=some e) (b:Up h m a v=some h'):Fh P h t m a v=some h':=by
 unfold Up at b;split at b;simp only[Fh,c];exact b;cases b
theorem aGc {h:AH} {e:TypeId} {m:Value} (c:Ky P t=some e) (b:T7 h m a=some h'):Jo P h t m a=some h':=by
 unfold T7 at b;split at b;simp only[Jo,c];exact b;cases b
def Al (P:Program) (h:AH) (q:Value->AH->Prop) (a:Array TypeId):Builtin->EK->Prop
 |.len,[x]=>match(a[0]?).bind P.underlying with
  |some (.slice _)=>bQ (pG x) fun v=>q v h
  |some (.array n _)=>q (.int .i64 n) h
  |some (.map _ _)=>bQ (aHs h x) fun v=>q v h
  |_=>False
 |.append,[s,x]=>match(a[0]?).bind P.underlying with
  |some (.slice e)=>if Ns P a/\(pH P e).isSome then bQ (kH (P.cellsOf e) (P.bytesOf e) e h s x) fun r=>q r.1 r.2 else False
  |_=>False
 |.clear,[x]=>match(a[0]?).bind P.underlying with
  |some (.slice e)=>(match pH P e with
   |some z=>bQ (jX z h x) fun r=>q r.1 r.2
   |none=>False)
  |_=>False
 |.min,[x,y]=>bQ (B0 x y) fun v=>q v h
 |.delete,[m,k]=>(match a[0]? with
  |some t=>(match Ky P t with
   |some _=>bQ (T7 h m k) fun b=>q (.tuple #[]) b
   |none=>False)
  |none=>False)
 |_,_=>False
theorem Cm {h:AH} {b:Builtin} {args:EK} (a:Al P h q at_ b args):∃v f,gW P h b at_ args=some (v,f)/\q v f:=by
 unfold Al at a;split at a;split at a;obtain⟨v,c,d⟩:=a;refine⟨v,h,?_,d⟩;unfold pG at c;split at c;simp_all[gW];cases c;refine⟨_,h,?_,a⟩;simp_all[gW];obtain⟨v,c,d⟩:=a;refine⟨v,h,?_,d⟩;rw[aHs] at c;cases hm:pj h _ with
 |none=>rw[hm] at c;cases c
 |some j=>simp_all[gW]
 cases a;split at a;rename_i e i;split at a;rename_i g;obtain⟨⟨v,f⟩,c,d⟩:=a;refine⟨v,f,?_,d⟩;have⟨z,hz⟩:=cO.1 g.2;simp only[gW,Nr,i,g.1,hz,BE,aO,c9];exact c;cases a;cases a;split at a;split at a;obtain⟨⟨v,f⟩,c,d⟩:=a;refine⟨v,f,?_,d⟩;unfold jX at c;split at c;simp_all[gW];simp_all[gW];cases c;cases a;cases a;obtain⟨v,c,d⟩:=a;refine⟨v,h,?_,d⟩;unfold B0 at c;split at c;simp_all[gW];cases c;split at a;split at a;obtain⟨f,c,d⟩:=a;exact⟨_,f,by simp_all[gW,aGc],d⟩;cases a;cases a;cases a
def Ix (P:Program) (K:FuncId->EK->HQ) (d:Operand->Value) (h:AH) (q:Value->AH->Prop):Op->Prop
 |.store t a x=>if(P.info? t).isSome then bQ (vT h (P.cellsOf t) (d a)<|d x) fun e=>q undef e else False
 |.call c=>match c.callee with
  |.builtin b=>Al P h q c.argTypes b (c.args.toList.map d)
  |.value (.func g)=>if iR P g then Ok P K (.call g<|c.args.toList.map d) h fun o e=>q o.v e else False
  |.value f=>Cx P K (d f) (c.args.toList.map d) h q
  |.invoke _ _=>False
 |.mapUpdate t m k x=>match Ky P t with
  |some _=>bQ (Up h (d m) (d k)<|d x) fun e=>q undef e
  |none=>False
 |_=>False
theorem aAb {f:Value} {args:EK} {h:AH} (b:Cx P K f args h q):
  ∃n v c,(match f with
   |.func (.func g) first a=>if iR P g then(run P K n (.call g<|first.toList++args++a.toList) h).map fun r=>(r.1.v,r.2) else none
   |.func (.yield l) first _=>(run P K n (.round l<|first.toList++args) h).map fun r=>(r.1.v,r.2)
   |_=>none)=some (v,c)/\q v c:=by
 unfold Cx at b
 split at b
 .obtain⟨i,n,r,d,e⟩:=b;grind
 .obtain⟨n,r,d,e⟩:=b;grind
 .cases b
theorem zX {f:Operand->Value} (l:∀g,f (.func g)= .func (.func g) #[] #[]) {h:AH} (a:Ix P K f h q op):
  (eM op= .store\/eM op= .call)/\∃n v c,eX P (run P K n) f h op=some (v,c)/\q v c:=by
 unfold Ix at a
 split at a
 .refine⟨.inl rfl,?_⟩;split at a
  .rename_i e;obtain⟨c,b,d⟩:=a;refine⟨0,_,c,?_,d⟩;unfold vT at b;split at b
   .rename_i j;split at b
    .rename_i i;split at b
     .rename_i m;simp only[eX,j,Qw,i,m,e,CZ,e9,b];rfl
     .cases b
    .cases b
   .cases b
  .cases a
 .refine⟨.inr rfl,?_⟩;split at a
  .simp_all[Cm,eX]
  .split at a
   .obtain⟨n,r,b,d⟩:=a;refine⟨n,_,_,?_,d⟩;simp_all[eX,e9]
   .cases a
  .grind[aAb,eX]
  .cases a
 .refine⟨.inl rfl,?_⟩;split at a
  .obtain⟨c,b,d⟩:=a;exact⟨0,_,c,by grind[eX,aF7],d⟩
  .cases a
 .cases a
def aI0 (l c i:Nat):Value:= .slice (some ⟨i,0,none⟩) l c
def aQ5 (i:Nat):Value:= .pointer (some ⟨i,0,none⟩)
def jE (i:Nat):Value:= .map (some i)
def I8 (P:Program) (d:Operand->Value) (q:oU->(Nat->Value)->Prop):Op->Prop
 |.alloc e=>match pH P e with
  |some z=>q (.cells z e (0,0) true) aQ5
  |none=>False
 |.box e x=>bQ (nA e<|d x) fun b=>q b aQ5
 |.buildSlice t len a=>match P.underlying t with
  |some (.slice e)=>(match pH P e with
   |some z=>if len*P.cellsOf e<=2^24 then(match Bf (fun i=>some (i*P.cellsOf e,P.cellsOf e)) d a.toList with
    |some f=>bQ (rL (gB z len) f) fun l=>q (.cells l e (0,0) true) (aI0 len len)
    |none=>False) else False
   |none=>False)
  |_=>False
 |.makeSlice t l c=>match P.underlying t with
  |some (.slice e)=>(match pH P e with
   |some z=>bQ (Jw (P.bytesOf e) (d l)<|d c) fun n=>q (.cells (gB z n.2) e (0,0) true) (aI0 n.1 n.2)
   |none=>False)
  |_=>False
 |.makeMap t none=>q (.map [] 0) jE
 |.makeMap t (some x)=>match P.underlying t with
  |some (.map _ _)=>∃k n,d x= .int k n/\q (.map [] 0) jE
  |_=>False
 |_=>False
def F6 {q:oU->(Nat->Value)->Prop} (a:I8 P m q op):eM op= .alloc/\∃b f,iT P m op=some (b,f)/\q b f:=by
 unfold I8 at a;split at a;refine⟨rfl,?_⟩;split at a;rename_i g;exact⟨_,_,by simp only[iT,g];rfl,a⟩;cases a;refine⟨rfl,?_⟩;obtain⟨b,c,d⟩:=a;refine⟨b,aQ5,?_,d⟩;simp only[nA,aV] at c;obtain⟨l,c,rfl⟩:=c;simp only[iT,c];rfl;refine⟨rfl,?_⟩;split at a;rename_i e;split at a;rename_i g;split at a;rename_i i;split at a;rename_i r j;obtain⟨l,c,d⟩:=a;refine⟨_,_,?_,d⟩;simp only[iT,e,g,i,e9];rw[H8 j,c];rfl;cases a;cases a;cases a;cases a;refine⟨rfl,?_⟩;split at a;rename_i e;split at a;rename_i g;obtain⟨n,c,d⟩:=a;refine⟨_,_,?_,d⟩;unfold Jw at c;split at c;rename_i o p;split at c;rename_i i;cases c;simp only[iT,e,o,p,g,i,CZ,e9];rfl;cases c;cases c;cases a;cases a;exact⟨rfl,_,_,rfl,a⟩;refine⟨rfl,?_⟩;split at a;rename_i e;obtain⟨k,n,c,d⟩:=a;exact⟨_,_,by simp only[iT,e,c];rfl,d⟩;cases a;cases a
def F4 (h:AH) (b:oU) (p:Nat->AH->Prop):Prop:=p h.next<|h.alloc b
def pC (h:AH) (r:Nat) (b:oU) (p:Nat->AH->Prop):Prop:=p r<|h.set r<|some b
def Be (h:AH) (n:Nat) (p:Nat->AH->Prop):Prop:=p h.next {h with next:=h.next+n}
def aQn (P:Program) (K:FuncId->EK->HQ) (env:EK) (h:AH) (q:Value->AH->Prop) (op:Op):Prop:=
 match eM op with
 |.Cr=>oO P (eC P env) h (fun v=>q v h) op
 |.alloc=>I8 P (eC P env) (fun b f=>F4 h b fun i a=>q (f i) a) op
 |.store|.call=>Ix P K (eC P env) h q op
 |.Et=>False
theorem mf {h:AH} (a:aQn P K env h q op):∃n v d,oV P (run P K n) env h op=some (v,d)/\q v d:=by
 rw[aQn] at a;cases hk:eM op with
 |Cr=>
  simp[hk] at a;have⟨_,v,e,c⟩:=Gd a;exact⟨0,v,h,by grind[oV],c⟩
 |alloc=>
  simp[hk] at a;have⟨_,b,f,e,c⟩:=F6 a;exact⟨0,_,_,by grind[oV],c⟩
 |store=>
  simp[hk] at a;obtain⟨_,n,v,d,e,c⟩:=zX (fun g=>rfl) a;grind[oV]
 |call=>
  simp[hk] at a;obtain⟨_,n,v,d,e,c⟩:=zX (fun g=>rfl) a;grind[oV]
 |Et=>grind
section
variable {h:AH} {Q:vW->AH->Prop}
def H0 {t t':aBg} (b:∀n,run P K (n+1) t h=run P K n t' h') (c:Ok P K t' h' Q):Ok P K t h Q:=by
 obtain⟨n,r,d,a⟩:=c;exact⟨_,r,by rwa [b],a⟩
theorem Vv {c:Operand} {t e:Code} (g:Br (eC P env c) (Ok P K (.todo fn ro ds env (.code t::k)) h Q) (Ok P K (.todo fn ro ds env (.code e::k)) h Q)):
  Ok P K (.todo fn ro ds env (.code (.cond c t e)::k)) h Q:=by
 obtain⟨b,a,f,d⟩:=g
 cases b with
 |true=>exact H0 (t':= .todo fn ro ds env (.code t::k)) (fun n=>by show fF _ _ _ _ _ _ _ _=_;simp_all[fF,e9]) (f rfl)
 |false=>exact H0 (t':= .todo fn ro ds env (.code e::k)) (fun n=>by show fF _ _ _ _ _ _ _ _=_;simp[fF,a])<|d rfl
end
def mK (h:AH) (l:Nat):IB:=match h.get l with
 |some (.loop .ready _ _ _ _ _ _ _)=>dD h l .busy none
 |_=>none
def uP (h:AH) (l:Nat):Option (Option Code×AH):=match h.get l with
 |some (.loop st p _ _ _ _ _ _)=>if st= .busy then none else(dD h l .exhausted none).map fun a=>(p,a)
 |_=>none
def gY (h:AH) (l:Nat):Option Nat:=match h.get l with
 |some (.loop _ _ _ _ _ _ _ d)=>some d
 |_=>none
def Xf (P:Program) (K:FuncId->EK->HQ) (f:Value) (l:Nat) (h:AH) (q:Value->AH->Prop):Prop:=match f with
 |.func (.func g) first a=>iR P g=true/\Ok P K (.call g<|first.toList++[.func (.yield l) #[] #[]]++a.toList) h fun o b=>q o.v b
 |_=>False
def nN:Code->EM
 |.exit id=>[id]
 |.seq a b=>nN a++nN b
 |.cond _ t e=>nN t++nN e
 |.block id b=>(nN b).filter (·!=id)
 |.loop b=>nN b
 |.scope b=>nN b
 |.rangeFunc _ _ a b=>nN a++nN b
 |_=>[]
def xZ (p:Option Code) (a b:Prop) (c:List (Nat×Prop)):Prop:=match p with
 |none=>a
 |some .ret=>b
 |some (.exit id)=>(match c.lookup id with
  |some q=>q
  |none=>False)
 |_=>False
def aHf (P:Program) (K:FuncId->EK->HQ) (fn:FuncId) (f:Value) (n:Nat) (lv:EM) (vs:EK) (ps:Array Tmp) (assign a:Code) (d:Nat) (h:AH) (q:Option Code->AH->Prop):Prop:=
 ∀e:Nat->Value,lv.map e=vs->F4 h (.loop .ready none fn ((List.range n).map e) ps assign a d) fun l b=>Xf P K f l b fun _ c=>bQ (uP c l) fun r=>q r.1 r.2
def yX:Nat->List Item->List Item
 |0,k=>k
 |n+1,k=>match k with
  |.code c::d=>(match c with
   |.skip=>yX n d
   |.label _=>yX n d
   |.seq a b=>yX n (.code a:: .code b::d)
   |.block id b=>yX n (.code b:: .inBlock id::d)
   |.scope b=>yX n (.code b:: .inScope b::d)
   |.loop b=>yX n (.code b:: .inLoop b::d)
   |.exit id=>(match exitTo id d with
    |some e=>yX n e
    |none=>k)
   |_=>k)
  |.inBlock _::d=>yX n d
  |.inScope _::d=>yX n d
  |.inLoop b::d=>yX n (.code b:: .inLoop b::d)
  |_=>k
theorem Tp (h:env.length=n):(List.range n).map (fun t=>env.getD t undef)=env:=by
 refine mn fun i=>?_;grind
theorem jz {f:Nat->Prop} {id:Nat} {q:Prop} (h:(l.map fun i=>(i,f i)).lookup id=some q):q=f id:=by
 induction l with
 |nil=>simp at h
 |cons i l a=>
  grind
theorem Of {f:Value} {lv:EM} {assign b:Code} {h:AH} {q:Option Code->AH->Prop}
  (i:aHf P K fn f env.length lv (lv.map fun t=>env.getD t undef) ps assign b d h q):
  ∃n g first a o c p e,f= .func (.func g) first a/\iR P g=true/\run P K n (.call g<|first.toList++[.func (.yield h.next) #[] #[]]++a.toList) (h.alloc<|.loop .ready none fn env ps assign b d)=some (o,c)/\
   uP c h.next=some (p,e)/\q p e:=by
 have:=i _ rfl
 rw[Tp rfl] at this
 unfold F4 Xf at this
 split at this
 .obtain⟨m,n,r,j,⟨p,e⟩,l,c⟩:=this;grind
 .cases this
theorem Rp {fn:FuncId} {ro:Option Nat} {ds:EM} {env:EK} {h:AH} {Q:vW->AH->Prop}:∀(n:Nat) {k:List Item},Ok P K (.todo fn ro ds env<|yX n k) h Q->Ok P K (.todo fn ro ds env k) h Q
 |0,_,a=>a
 |n+1,k,a=>by
  have st:∀{k':List Item},Ok P K _ h Q->(∀m,run P K _ _ h=run P K m (.todo fn ro ds env k') h)->Ok P K (.todo fn ro ds env k) h Q:=
   fun a b=>H0 b<|Rp n a
  unfold yX at a;split at a;grind[fF,run];exact st a fun _=>rfl;exact st a fun _=>rfl;exact st a fun _=>rfl;exact a
def ml (P:Program) (f:FuncId) (Q:Value->AH->Prop):vW->AH->Prop:=fun o b=>
 match o.jI with
 |.exit _=>False
 |_=>bQ (cQ o.ds b) fun a=>bQ (gZ P a o.env<|(P.funcs[f]?).elim [] fun fn=>fn.results.toList) fun c=>Q (A4 c) a
theorem aKt {fn:Func} {a:Code} {args:EK} {h:AH} (e:P.funcs[f]?=some fn) (hb:fn.body=some a) (m:K f args=none)
  (r:Ok P K (.todo f none [] (args++List.replicate (fn.ntmps - args.length) undef) [.code a]) h (ml P f Q)):Ok P K (.call f args) h fun o b=>Q o.v b:=by
 obtain⟨n,⟨o,g⟩,j,c⟩:=r
 have s:(∀id,o.jI≠.exit id)->(bQ (cQ o.ds g) fun c=>bQ (gZ P c o.env<|(P.funcs[f]?).elim [] fun fn=>fn.results.toList) fun d=>Q (A4 d) c)->Ok P K (.call f args) h fun o b=>Q o.v b:=by
  intro p ⟨l,t,d,i,q⟩;rw[e] at i;simp[Option.elim_some] at i;refine⟨n+1,(⟨.nI,[],[],A4 d⟩,l),?_,q⟩;show oK P K (run P K n) f args h=_;simp[oK,m,e,hb];rw[j];cases hlv:o.jI with
  |exit id=>grind
  |nI=>grind
  |ret=>grind
 grind[ml]
def Pt (P:Program) (K:FuncId->EK->HQ) (fn:FuncId) (ro:Option Nat) (Q:vW->AH->Prop) (n:Nat) (lv:EM) (k:List Item) (ds:EM) (vs:EK) (h:AH):Prop:=
 ∀e:Nat->Value,lv.map e=vs->Ok P K (.todo fn ro ds ((List.range n).map e) k) h Q
def Wt (P:Program) (h:AH) (env:EK):List ResultVar->(EK->Prop)->Prop
 |[],p=>p []
 |.tmp t::b,p=>Wt P h env b fun l=>p (env.getD t undef::l)
 |.cell a t::b,p=>match lY P t with
  |some true=>bQ (vD h (P.cellsOf t)<|env.getD a undef) fun v=>Wt P h env b fun l=>p (v::l)
  |some false=>bQ (sA h<|env.getD a undef) fun v=>Wt P h env b fun l=>p (v::l)
  |none=>False
theorem yL {h:AH} {env:EK}:∀{rs:List ResultVar} {p:EK->Prop},Wt P h env rs p->∃l,gZ P h env rs=some l/\p l
 |[],p,b=>⟨[],rfl,b⟩
 |.tmp t::rs,p,b=>by
  have⟨l,c,h2⟩:=yL (rs:=rs) b;grind[gZ]
 |.cell a t::rs,p,b=>by
  simp only[Wt] at b;split at b;rename_i d;obtain⟨v,c,b⟩:=b;have⟨l,h2,h3⟩:=yL b;refine⟨_,?_,h3⟩;unfold vD at c;split at c;rename_i x e;have f:xW P h t x=some v:=by rw[xW];rw[d];exact c
  grind[gZ];cases c;rename_i d;obtain⟨v,c,b⟩:=b;have⟨l,h2,h3⟩:=yL b;refine⟨_,?_,h3⟩;unfold sA at c;split at c;rename_i x e;have f:xW P h t x=some v:=by rw[xW];rw[d];exact c
  grind[gZ];cases c;cases b
def aTk (P:Program) (f:FuncId) (Q:Value->AH->Prop) (lv:Ck) (ds:EM) (env:EK) (h:AH):Prop:=match lv with
 |.exit _=>False
 |_=>bQ (cQ ds h) fun a=>Wt P a env ((P.funcs[f]?).elim [] fun fn=>fn.results.toList) fun l=>Q (A4 l) a
theorem oq {h:AH} (a:aTk P f Q lv ds env h):ml P f Q ⟨lv,ds,env,undef⟩ h:=by
 rw[ml];cases lv with
 |exit id=>exact a
 |nI=>obtain⟨b,c,a⟩:=a;have⟨l,h3,h4⟩:=yL a;simp_all
 |ret=>obtain⟨b,c,a⟩:=a;have⟨l,h3,h4⟩:=yL a;simp_all
def H2 (l:Nat) (Q:Value->AH->Prop):vW->AH->Prop:=fun o b=>
 o.ds=[]/\match o.jI with
 |.nI=>bQ (dD b l .ready<|some none) fun a=>Q (.bool true) a
 |.ret=>bQ (dD b l .done<|some<|some .ret) fun a=>Q (.bool false) a
 |.exit id=>bQ (dD b l .done<|some<|some<|.exit id) fun a=>Q (.bool false) a
theorem aG7 {l:Nat} {args:EK} {h:AH} {p:Option Code} {b:EK} {assign a:Code}
  (r:h.get l=some (.loop st p fn b ps assign a d)) (s:args.length=ps.size)
  (w:Ok P K (.todo fn (some l) [] ((ps.toList.zip args).foldl (fun t (p,v)=>t.set p v) b) [.code assign,.beginRound,.code a]) h (H2 l Q)):Ok P K (.round l args) h fun o i=>Q o.v i:=by
 obtain⟨n,⟨o,j⟩,y,e,f⟩:=w
 have x:∀g c,(match o.jI with
     |.nI=>(dD j l .ready<|some none).map fun e=>((⟨.nI,[],[],.bool true⟩:vW),e)
     |.ret=>(dD j l .done<|some<|some .ret).map fun e=>(⟨.nI,[],[],.bool false⟩,e)
     |.exit id=>(dD j l .done<|some<|some<|.exit id).map fun e=>(⟨.nI,[],[],.bool false⟩,e))=some (g,c)->Q g.v c->Ok P K (.round l args) h fun o i=>Q o.v i:=by
  intro g c z u
  refine⟨n+1,(g,c),?_,u⟩
  show qM (run P K n) l args h=_
  simp only[qM,r,s,e9]
  grind
 split at f
 .obtain⟨c,m,q⟩:=f;grind
 .obtain⟨c,m,q⟩:=f;grind
 .obtain⟨c,m,q⟩:=f;grind
def oe (l:Nat) (Q:Value->AH->Prop) (lv:Ck) (ds:EM) (b:EK) (h:AH):Prop:=match ds with
 |[]=>(match lv with
  |.nI=>bQ (dD h l .ready<|some none) fun a=>Q (.bool true) a
  |.ret=>bQ (dD h l .done<|some<|some .ret) fun a=>Q (.bool false) a
  |.exit id=>bQ (dD h l .done<|some<|some<|.exit id) fun a=>Q (.bool false) a)
 |_=>False
theorem V1 {l:Nat} {h:AH} (a:oe l Q lv ds env h):H2 l Q ⟨lv,ds,env,undef⟩ h:=by
 unfold oe at a;cases ds with
 |nil=>refine⟨rfl,?_⟩;grind
 |cons d ds=>grind
end
noncomputable section
open Go.RowKit
variable {K:FuncId->EK->HQ}
def qR (base:Nat) (old:Nat->HW):AH:={base:=base,next:=base,old:=old,lK:= .lf}
def A1 {base:Nat} (i:Nat):(qR base old).get i=if i<base then old i else none:=by
 rw[AH.Ac];rw[qR];split;rfl;cases i - base<;>rfl
structure Uz (P:Program) (base:Nat) (old:Nat->HW) (ρ:jB) (w:World):Prop where
 oP:∀i o,i<base->old i=some o->∀b s,ρ i=some (b,s)->∃o',w.heap[b]?=some o'/\wP P ρ s o o'
 low:∀i b s,i<base->ρ i=some (b,s)->b<w.heap.size
 none:∀i,base<=i->ρ i=none
 pO:∀g,g<P.globals.size->ρ g=some (g,(0,0))
def Uz.inv {base:Nat} {ρ:jB} (r:Uz P base old ρ w):pK P w.heap.size ρ (qR base old) w where
 oP:=fun i o d b s e=>by
  rw[A1] at d;split at d;rename_i a;exact r.oP i o a d b s e;cases d
 inj:=fun i j b f g a _ c=>by
  rw[A1,aXf<|EJ.2<|show base<=_ from a] at c;cases c
 low:=fun i b s a c=>by
  rw[A1,aXf<|EJ.2<|show base<=_ from a] at c;cases c
 old:=fun i b s a e=>r.low i b s a e
 gO:=fun i a=>r.none i a
 jD:=fun i a=>by rw[A1,aXf<|EJ.2<|show base<=_ from a]
 pO:=r.pO
 size:=ba _
 bn:=ba _
def Q3 (C:Lc P w.heap.size K) (l:C.G w) {base:Nat} {ρ:jB} (r:Uz P base old ρ w) {args a:EK} (j:bH ρ args a) {Q:vW->AH->Prop}
  (g:Ok P K (.call f args) (qR base old) Q):
  Calls P f ⟨a⟩ w fun e d=>∃ρ' o b c,e= .returned c/\aZ ρ' o.v c/\Q o b/\pK P w.heap.size ρ' b d/\Below w.heap.size w d:=by
 obtain⟨n,⟨o,b⟩,p,m⟩:=g
 intro i
 have⟨e,d,fr,⟨ρ',c,he,hv,hevo⟩,h1,h2,h3⟩:=yv C n _ _ o b p ρ w a r.inv l j i
 exact⟨e,d,fr,⟨ρ',o,b,c,he,hv,m,hevo.inv,hevo.below r.inv⟩,h1,h2,h3⟩
end
noncomputable section
variable {K:FuncId->EK->HQ}
def Ms:Code->EM->Code
 |c,[]=>c
 |.seq a _,0::p=>Ms a p
 |.seq _ b,1::p=>Ms b p
 |.cond _ t _,0::p=>Ms t p
 |.cond _ _ e,1::p=>Ms e p
 |.block _ b,0::p=>Ms b p
 |.loop b,0::p=>Ms b p
 |.scope b,0::p=>Ms b p
 |.rangeFunc _ _ a _,0::p=>Ms a p
 |.rangeFunc _ _ _ b,1::p=>Ms b p
 |_,_=> .skip
def O1 (P:Program) (f:FuncId):Option Code:=(P.funcs[f]?).bind (·.body)
def ntm (P:Program) (f:FuncId):Nat:=(P.funcs[f]?).elim 0 (·.ntmps)
def cd (P:Program) (f:FuncId) (p:EM):Code:=Ms ((O1 P f).getD .skip) p
def Cl (P:Program) (K:FuncId->EK->HQ) (f:FuncId) (args:EK) (h:AH) (Q:Value->AH->Prop):Prop:=Ok P K (.call f args) h fun o a=>Q o.v a
abbrev I (n:Int):Value:= .int .i64 n
def pt (b o j:Nat):Value:= .pointer (some ⟨b,o+j,none⟩)
abbrev IE (b:Nat):=pt b 0 0
def aRq:Nat->Nat->EM->EM
 |0,_,acc=>acc
 |f+1,n,acc=>if n<=1 then acc else aRq f (n/2) (n % 2::acc)
def iM (n:Nat):EM:=aRq 120 n []
def rgF:Code->Operand×Array Tmp×Code×Code
 |.rangeFunc f c a b=>(f,c,a,b)
 |_=>(.tmp 0, #[],.skip,.skip)
end
end Go.Ab
