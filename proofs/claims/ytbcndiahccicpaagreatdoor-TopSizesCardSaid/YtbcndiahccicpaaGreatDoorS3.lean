/- A part of the proof. -/
import Derived.Test.YtbcndiahccicpaaGreatDoorS2
set_option linter.all false
open Go Go.Ab
variable {P:Program} {l:FL} {i n:Nat} {all:List Oper} {o:Oper}
namespace Go.Ab
open Go.RowKit
variable {B:Nat} {K:FuncId->FJ->IX}
theorem eu {α:Type} {l:List α} {f:α×Nat->Bool} (h:l.zipIdx.all f=true) {k:Nat} {o:α} (a:l[k]?=some o):f (o,k)=true:=by
 grind
theorem ra (b:l.Pairwise (·<·)) {p:Nat} (a:l.find? (fun x=>decide<|i<x)=some p):i<p/\p∈l/\∀j∈l,i<j->p<=j:=by
 grind[List.find?_eq_some_iff_append,List.pairwise_cons]
structure Fit (all:List Oper):Prop where
 dir:∀(k:Nat) o,all[k]?=some o->∀j∈iF o,j<k
 kind:∀(k:Nat) o,all[k]?=some o->fX o.op≠.Jy
 vW:∀i j:Nat,∀t,(all[i]?).bind (·.dst)=some t->(all[j]?).bind (·.dst)=some t->i=j
 tmps:∀i j:Nat,∀o p d,all[i]?=some o->all[j]?=some p->i≠j->p.dst=some d->d∈Kx all o->(j<i->qW (iY all []) j i=true)/\(i<j->qW (iY all []) i j=true)
 Dp:∀i j:Nat,∀o p,all[i]?=some o->all[j]?=some p->fI o.op=true->fI p.op=true->j<i->qW (iY all []) j i=true
theorem ve (h:Ss all=true):Fit all:=by
 simp only[Ss,dn] at h;obtain⟨⟨⟨b,g⟩,c⟩,_⟩:=h;have pair:∀i j:Nat,∀o p,all[i]?=some o->all[j]?=some p->i≠j->
   (o.dst.isNone||o.dst !=p.dst)=true/\
   (match p.dst with|some d=> !(Kx all o).contains d||(if j<i then qW (iY all []) j i else qW (iY all []) i j)|none=>true)=true/\
   (!(fI o.op&&fI p.op&&decide (j<i))||qW (iY all []) j i)=true:=by
  intro i j o p a f e
  have:=eu (eu c a) f
  grind
 refine {dir:=?_,kind:=?_,vW:=?_,tmps:=?_,Dp:=?_};intro k o a j l;have:=eu b a;grind;grind;grind;grind;grind
theorem aVq {s:Nat} (c:n=all.length) (b:i<n):
  let Dp:=(List.range n).filter fun i=>(all[i]?).any fun o=>fI o.op
  ((Dp++[n]).find? fun x=>decide<|i<x).getD n=s->i<s/\∀j p,i<j->j<s->all[j]?=some p->fI p.op=false:=by
 intro Dp d
 have a:(Dp++[n]).Pairwise (·<·):=by
  rw[List.pairwise_append];refine⟨(List.pairwise_lt_range).filter _,FW,?_⟩;grind
 cases hf:(Dp++[n]).find? fun x=>decide (i<x) with
 |none=>
  grind
 |some p=>
  grind[ra]
theorem w6 {s:Nat} (e:all[i]?=some o) (d:mT o.op=true) (c:s=all.length\/∃p,all[s]?=some p/\fI p.op=true)
  (b:∀j p,all[j]?=some p->fI p.op=true->(j<s->qW (iY all []) i j=false)/\(s<=j->qW (iY all []) j i=false))
  (a:¬(i<s/\∀j p,i<j->j<s->all[j]?=some p->fI p.op=false)):(i,s)∈O4 all:=by
 unfold O4
 rw[EP]
 refine⟨i,FR,?_⟩
 rw[bD2 FR,gk]
 refine⟨s,?_,rfl⟩
 rw[BN]
 constructor
 .grind
 .rw[dn];constructor
  .grind[aVq]
  grind
theorem oh {R:mP} {all:List Oper} {d:Nat}:∀(os:List Oper) (i:Nat) (env:FJ) (h:AH) (rs:List Rec) (e:FJ) (b:AH),nN P R all d i os env h=some (rs,e,b)->rs.length=os.length
 |[],i,env,h,rs,e,b,a=>by
  grind[nN,Option.some.injEq,Prod.mk.injEq]
 |o::os,i,env,h,rs,e,b,a=>by
  simp[nN] at a;split at a;split at a;rename_i c;simp[Option.some.injEq,Prod.mk.injEq] at a;rw[<-a.1,js,js,oh os _ _ _ _ _ _ c];cases a;cases a
theorem aQ0 (C:Pj P B K) (R:mP) (Z:Jq C R):aGs C R:=by
 intro ops env h X h' c ρ w b a W k t f hg he;rw[Bq] at c;split at c;rename_i q;rw[dn] at q;obtain⟨q,A⟩:=q;split at c;rename_i rs e Y r;split at c;rename_i y;simp[Option.some.injEq,Prod.mk.injEq] at c;obtain⟨rfl,rfl⟩:=c;have fit:=ve q;generalize g:ops.toList=all at fit r y q;have α:ops.size=all.length:=by rw[<-g];simp
 have⟨E,H,V,hE0,hH0,hstep,hEn,hHn,hrs⟩:=Tn all 0 env _ rs e Y r;have d:Dr P R all h.next E H V:={
  step:=fun j o O=>FR
  env:=FR
  dir:=fit.dir,kind:=fit.kind,vW:=fit.vW,tmps:=fit.tmps,Dp:=fit.Dp
  flt:=fun i s o O hl hs S J I hw=>by
   rw[ux] at y;have:=y (i,s)<|w6 O hl S J I;simp only[Iw,O,hrs i<|FR,hw] at this;have hh:iB P (eM P<|E i) (H s) o.op=some (V i):=by
    rcases u4 s all.length with x|x;grind[U8];grind[List.getElem?_eq_none,oh,U8]
   exact hh}
 have hB:=f.size;have M:fT P B ρ (H 0) w:=by
  rw[hH0];exact {uE:=f.uE,inj:=f.inj,low:=f.low,old:=f.old,iD:=fun i x=>f.iD i FR,kW:=fun i x=>f.kW i FR,rR:=f.rR,size:=f.size,bn:=by have:=f.bn;grind}
 have z:∀i,(H 0).get i=h.get i:=fun i=>by rw[hH0];rfl
 have T:St P B all h.next E H V ρ h w [] 0 ρ w a.tmps.toList:={
  Lc:={ext:=Du.refl _,inv:=M,un:=fun _ _ h=>h,rO:=FR,stay:=fun i _ x=>FR,frame:=FR,
                range:=FR,base:=by rw[hH0],Bc:=FR,size:=bb _,os:=rfl,out:=rfl,tape:=rfl}
  dlt:=FR
  sK:=FR
  s1:=FQ
  s3:=FR
  sle:=og _
  env:=by rwa [hE0]
  nx:=FR
  mY:=FR
  C0:=fun i n t x u=>IQ
  lone:=fun i n t _ x u=>IQ
  Qq:=fun i i' n t t' _ _ u=>IQ
  unm:=fun i _ _=>f.iD _ FQ
  unA:=fun i o _ _=>f.iD _ FQ
  rev:=FQ
  non:=fun j _ _=>by rw[z];exact f.kW _ FQ
  gr:=fun m hm _=>(have:m=0:=FQ;this▸wK.refl _)}
 obtain⟨s,U,L⟩:=T.fq d f.bn hB _ _ rfl;have v:Region.schedule (P.follows .mixedOrders) ops t=Region.linearise.go .any ops ops.size t (Array.replicate ops.size false) []:=by
  rw[Region.schedule];rw[bD2 A];rfl
 have G:I6 all [] (Region.schedule (P.follows .mixedOrders) ops t):=by
  rw[v,<-g];apply Jl (by rw[g];exact fit.dir) ops.size t _ [] FW (fun i f=>by simp[f]);grind
 have⟨D',ρ',w',a',st2,hin,hdef,hst⟩:=Uu C Z g d f.bn hB f hg (b:=b) (cs:=W) (k:=k) _ [] s ρ w a G L U;have l:=st2.Lc;rw[hHn] at l;have N:=st2.nx;rw[hHn] at N;refine⟨ρ',w',a',l.Lc FQ,?_,hdef,hst⟩;have D:e=F1 all V (E 0) D':=by
  rw[<-hEn,d.aUj _<|bb _];refine ri fun t=>Wt (fun i j x u=>fit.vW i j t x u) fun j hj=>?_;have F:j<all.length:=by
   cases hp:all[j]? with
   |none=>grind
   |some p=>grind
  simp[F,hin j F]
 rw[D];exact st2.env;cases c;cases c;cases c
def aDd (C:Pj P B K) (n:Nat):Jq C (run P K n):=aTj C (aQ0 C) n
end Go.Ab
variable {e:Operand->Value} {op:Op} {r:Value×AH} {env:FJ} {d:Nat} {f fn:FuncId} {ro:Option Nat} {ds:FL}
namespace Go.Ab
variable {K:FuncId->FJ->IX}
def mP.le (R a:mP):Prop:=∀t h r,R t h=some r->a t h=some r
theorem Lw {R d:mP} (f:R.le d) {h:AH} (a:gP P R e h op=some r):gP P d e h op=some r:=by
 unfold gP at a ⊢;split;exact a;exact a;split;grind;rename_i i;simp only[i] at a;split;rename_i b;simp only[b] at a;split;rename_i g;rw[bD2 g] at a;simp only[ba] at a ⊢;obtain⟨x,c,rfl⟩:=a;exact⟨x,f _ _ _ c,rfl⟩;grind;rename_i b;simp only[b] at a;simp only[ba] at a ⊢;obtain⟨x,c,rfl⟩:=a;exact⟨x,f _ _ _ c,rfl⟩;grind;grind;grind
theorem Xv {R a:mP} (b:R.le a) {h:AH} (c:uI P R env h op=some r):uI P a env h op=some r:=by
 grind[uI,fX,Lw]
theorem P1 {R c:mP} (e:R.le c) {h:AH} (a:kY P R all d i env h o=some r):kY P c all d i env h o=some r:=by
 rw[kY] at a ⊢;cases hw:gR _ env o with
 |none=>grind
 |some b=>
  rw[hw] at a;cases b with
  |false=>exact a
  |true=>
   simp only at a ⊢;split;grind;split;grind;grind[Lw]
theorem Hc {R b:mP} (c:R.le b) {all:List Oper} {d:Nat}:∀(os:List Oper) {i:Nat} {env:FJ} {h:AH} {r:List Rec×FJ×AH},nN P R all d i os env h=some r->nN P b all d i os env h=some r
 |[],_,_,_,_,a=>a
 |o::os,i,env,h,r,a=>by
  simp[nN] at a ⊢;split at a;rename_i v j f;rw[P1 c f];simp only;split at a;rename_i l e g;rwa [Hc c os g];cases a;cases a
variable {ops:Array Oper}
theorem Sz {R a:mP} (c:R.le a) {h:AH} {r:FJ×AH} (b:Bq P R ops env h=some r):Bq P a ops env h=some r:=by
 rw[Bq] at b ⊢;split;grind[Hc];grind
theorem aCs {R d:mP} (c:R.le d) {all:Array Oper} {rest:List Oper} {h:AH} {r:Dx×AH} (a:Ck P R all rest env h=some r):Ck P d all rest env h=some r:=by
 unfold Ck at a ⊢;cases rest with
 |nil=>exact a
 |cons o rest=>
  simp only at a ⊢;cases hw:gR all env o with
  |none=>grind
  |some b=>
   rw[hw] at a;cases b with
   |false=>exact c _ _ _ a
   |true=>
    simp only at a ⊢;split at a;rename_i v f e;rw[Xv c e];exact c _ _ _ a;cases a
theorem xy {R d:mP} (e:R.le d) {args:FJ} {h:AH} {r:Dx×AH} (a:sW P K R f args h=some r):sW P K d f args h=some r:=by
 rw[sW] at a ⊢;split;grind;rename_i b;rw[b] at a;simp only at a;split at a;rename_i c;rwa [e _ _ _ c];cases a;grind;rename_i b;rw[b] at a;simp only at a;split at a;split at a;split at a;rename_i c;rwa [e _ _ _ c];cases a;cases a;cases a
def gz {R b:mP} (d:R.le b) {l:Nat} {args:FJ} {h:AH} {r:Dx×AH} (a:yD R l args h=some r):yD b l args h=some r:=by
 rw[yD] at a ⊢;split at a;split at a;rename_i c;rw[bD2 c];split at a;rename_i e;rwa [d _ _ _ e];cases a;cases a;cases a
variable {k:List Item}
def wb {R e:mP} (b:R.le e) {h:AH} {r:Dx×AH} (a:gT P R fn ro ds env k h=some r):gT P e fn ro ds env k h=some r:=by
 unfold gT at a ⊢;split at a;exact a;split at a;exact b _ _ _ a;exact b _ _ _ a;exact b _ _ _ a;split at a;exact b _ _ _ a;cases a;exact b _ _ _ a;exact b _ _ _ a;exact b _ _ _ a;split at a;exact b _ _ _ a;exact a;exact a;split at a;rename_i d;rw[b _ _ _ d];exact b _ _ _ a;cases a;split at a;rename_i d;rw[Sz b d];exact b _ _ _ a;cases a;split at a;split at a;split at a;rename_i c;rw[bD2 c];split at a;rename_i d;rw[b _ _ _ d];simp only;split at a;split at a;cases a;rename_i f;rw[bD1 f];split at a;exact b _ _ _ a;cases a;cases a;cases a;cases a;cases a;cases a;cases a;exact b _ _ _ a;exact b _ _ _ a;exact b _ _ _ a;split at a;split at a;split at a;exact b _ _ _ a;cases a;cases a;cases a;cases a
def aKc:∀n,(run P K n).le (run P K<|n+1)
 |0,t,h,r,a=>by simp[run] at a
 |n+1,t,h,r,a=>by
  have c:=aKc n;cases t with
  |todo fn ro ds env k=>exact wb c a
  |ops all rest env=>exact aCs c a
  |call f b=>exact xy c a
  |round l b=>exact gz c a
def pU {m:Nat} (h:n<=m):(run P K n).le (run P K m):=by
 induction h with
 |refl=>exact fun _ _ _ h=>h
 |step _ b=>exact fun t g r a=>aKc _ _ _ _<|b t g r a
end Go.Ab
variable {t:TypeId} {a b v:Value} {x y:Operand} {Q q:Value->AH->Prop} {m p:Operand->Value} {old:Nat->JC} {w:World}
namespace Go.Ab
variable {at_:Array TypeId} {k:List Item} {lv:Fp} {ps:Array Tmp} {st:LoopState}
noncomputable section
variable {K:FuncId->FJ->IX}
def jy (k:Nat) (a b:Value):Option Bool:=match k,a,b with
 |0,.int k m,.int c n=>if k=c then some (m==n) else none
 |1,.bool m,.bool n=>some (m==n)
 |2,.string m,.string n=>some (m==n)
 |_,_,_=>none
def xE:FL->FJ->FJ->Option Bool
 |[],[],[]=>some true
 |k::c,x::d,y::e=>match jy k x y,xE c d e with
  |some a,some b=>some (a&&b)
  |_,_=>none
 |_,_,_=>none
def U6 (P:Program) (c:TypeId->JK):Nat->List Field->JK
 |_,[]=>some []
 |o,f::d=>if f.name="_"\/f.offset≠o then none else
  match c f.type,U6 P c (o+P.cellsOf f.type) d with
  |some a,some b=>if a.length=P.cellsOf f.type then some (a++b) else none
  |_,_=>none
def Yw (P:Program):Nat->TypeId->JK
 |0,_=>none
 |d+1,t=>match P.underlying t with
  |some .bool=>some [1]
  |some (.int _)=>some [0]
  |some .string=>some [2]
  |some (.array n e)=>if(P.info? e).isSome then
    (match Yw P d e with
    |some l=>if l.length=P.cellsOf e then some (List.replicate n l).flatten else none
    |none=>none) else none
  |some (.struct a)=>if P.stoodInHeld t then none else U6 P (Yw P d) 0 a.toList
  |_=>none
theorem C3:∀{c:FL} {a b:FJ} {r:Bool},xE c a b=some r->a.length=c.length/\b.length=c.length
 |[],[],[],_,_=>⟨rfl,rfl⟩
 |[],[],_::_,_,h=>HU
 |[],_::_,_,_,h=>HU
 |_::_,[],_,_,h=>HU
 |_::_,_::_,[],_,h=>HU
 |k::c,x::e,y::f,r,h=>by
  simp[xE] at h;split at h;rename_i d;simp[C3 d];cases h
theorem Kb:∀{c d:FL} {a b:FJ} {r:Bool},xE (c++d) a b=some r->∃e f,xE c (a.take c.length) (b.take c.length)=some e/\xE d (a.drop c.length) (b.drop c.length)=some f/\r=(e&&f)
 |[],d,a,b,r,h=>⟨true,r,by simp[xE],FR,FW⟩
 |k::g,d,[],_,r,h=>HU
 |k::g,d,_::_,[],r,h=>HU
 |k::g,d,x::n,y::o,r,h=>by
  simp[gg,xE] at h;split at h;rename_i e f j i;cases h;obtain⟨s1,s2,l,m,rfl⟩:=Kb i;grind[xE,Bool.and_assoc];cases h
def vR (P:Program) (t:TypeId) (a:FJ):FN:=match nV P t with
 |some true=>some (.agg ⟨a⟩)
 |some false=>a[0]?
 |none=>none
theorem Iz {xs a:FJ} {b:Nat} (ha:(xs.drop b).take (P.cellsOf t)=a) (d:a.length=P.cellsOf t) (c:0<P.cellsOf t\/b<=xs.length) (e:vR P t a=some v):jN P t xs b=some v:=by
 grind[vR,jN]
theorem Xh {eq:TypeId->Value->Value->Option Bool} {g:TypeId->JK}
  (j:∀t d a b r,g t=some d->d.length=P.cellsOf t->xE d a b=some r->∃x y,vR P t a=some x/\vR P t b=some y/\eq t x y=some r)
  {xs ys:FJ}:∀(fs:List Field) (o:Nat) (d:FL) (r:Bool),o<=xs.length->o<=ys.length->U6 P g o fs=some d->xE d (xs.drop o) (ys.drop o)=some r->rV P eq xs ys fs=some r
 |[],o,d,r,_,_,c,e=>by
  grind[U6,Option.some.injEq,C3,List.eq_nil_of_length_eq_zero,xE,rV]
 |f::fs,o,d,r,s,u,c,e=>by
  simp only[U6] at c;split at c;cases c;rename_i i;simp[not_or,cb,ne_eq] at i;split at c;rename_i a b l m;split at c;rename_i q;cases c;obtain⟨w,v,n,p,rfl⟩:=Kb e;have⟨x,y,hx,hy,he⟩:=j _ _ _ _ _ l q n;have lc:=C3 e;simp[q6,dd] at lc;simp[rV];rw[bD1 i.1,Iz FR FR FQ hx,Iz FR FR FQ hy];rw[x0,x0] at p;have:=Xh (xs:=xs) (ys:=ys) j fs _ b v FQ FQ m FR;grind;cases c;cases c
theorem jt {eq:TypeId->Value->Value->Option Bool} {e:TypeId} {l:FL}
  (g:∀a b r,xE l a b=some r->∃x y,vR P e a=some x/\vR P e b=some y/\eq e x y=some r) (d:l.length=P.cellsOf e)
  {xs ys:FJ}:∀(n j:Nat) (r:Bool),j*P.cellsOf e<=xs.length->j*P.cellsOf e<=ys.length->xE (List.replicate n l).flatten (xs.drop<|j*P.cellsOf e) (ys.drop<|j*P.cellsOf e)=some r->xP P eq e xs ys (List.range' j n)=some r
 |0,j,r,_,_,c=>by
  grind[List.flatten_nil,List.length_nil,List.eq_nil_of_length_eq_zero,xE,xP]
 |n+1,j,r,p,q,c=>by
  rw[BR,DE] at c;obtain⟨u,s,f,o,rfl⟩:=Kb c;have⟨x,y,hx,hy,he⟩:=g _ _ _ f;have l3:=C3 f;have lc:=C3 c;simp only[q6,dd] at lc;have i:jN P e xs (j*P.cellsOf e)=some x:=Iz (by rw[<-d]) FR FQ hx;have m:jN P e ys (j*P.cellsOf e)=some y:=Iz (by rw[<-d]) FR FQ hy;simp[List.range'_succ,xP,i,m,he];rw[x0,x0] at o;have t:(j+1)*P.cellsOf e=j*P.cellsOf e+P.cellsOf e:=FR;have:=jt (xs:=xs) (ys:=ys) g d n (j+1) s FQ FQ FR;grind
theorem aNo (d:Nat):∀(t:TypeId) (g:FL) (a b:FJ) (r:Bool),Yw P d t=some g->g.length=P.cellsOf t->xE g a b=some r->
  ∃x y,vR P t a=some x/\vR P t b=some y/\Je P d t x y=some r:=by
 induction d with
 |zero=>grind[Yw]
 |succ d p=>
  intro t g a b r h i l
  have Fh:∀k,g=[k]->∃x y,a=[x]/\b=[y]/\jy k x y=some r:=fun k i=>by
   subst i;match a,b,(C3 l) with
   |[x],[y],_=>
    grind[xE]
  unfold Yw at h
  split at h
  .rename_i c;obtain⟨x,y,rfl,rfl,f⟩:=Fh 1 FR;refine⟨x,y,GQ,GQ,?_⟩;unfold jy at f;split at f
   .grind
   .simp_all[Je]
   .grind
   .cases f
  .rename_i k c;obtain⟨x,y,rfl,rfl,f⟩:=Fh 0 FR;refine⟨x,y,GQ,GQ,?_⟩;unfold jy at f;split at f
   .simp_all[Je]
   .grind
   .grind
   .cases f
  .rename_i c;obtain⟨x,y,rfl,rfl,f⟩:=Fh 2 FR;refine⟨x,y,GQ,GQ,?_⟩;unfold jy at f;split at f
   .grind
   .grind
   .simp_all[Je]
   .cases f
  .rename_i n e c;split at h
   .rename_i m;split at h
    .split at h
     .cases h;refine⟨.agg ⟨a⟩,.agg ⟨b⟩,GQ,GQ,?_⟩;simp only[Je,c,m,eD];grind[List.range_eq_range',jt]
     .cases h
    .cases h
   .cases h
  .rename_i j c;split at h
   .cases h
   .rename_i o;refine⟨.agg ⟨a⟩,.agg ⟨b⟩,GQ,GQ,?_⟩;simp only[Je,c,o,aO,dx];exact Xh FQ j.toList 0 g r FW FW h FR
  .cases h
def eqn (op:BinOp) (r:Bool):FN:=match op with
 |.eql=>some (.bool r)
 |.neq=>some (.bool !r)
 |_=>none
def A6 (op:BinOp) (a b:Value):FN:=match a,b with
 |.int k m,.int c n=>if k=c then Wd op k m n else none
 |_,_=>none
def Yn (op:BinOp) (a b:Value):FN:=match a,b with
 |.pointer none,.pointer b=>eqn op b.isNone
 |.pointer (some _),.pointer none=>eqn op false
 |_,_=>none
def Wh (op:BinOp) (a b:Value):FN:=match a,b with
 |.slice none _ _,.slice b _ _=>eqn op b.isNone
 |.slice (some _) _ _,.slice none _ _=>eqn op false
 |_,_=>none
def biF (op:BinOp) (a b:Value):FN:=match a,b with
 |.func _ _ _,.nilFunc=>eqn op false
 |_,_=>none
def W3 (c:Bool) (op:BinOp) (a b:Value):FN:=match a,b with
 |.nilIface,.nilIface=>if c then eqn op true else none
 |.nilIface,.iface _ _=>eqn op false
 |.iface _ _,.nilIface=>eqn op false
 |_,_=>none
def Wi (c:FL) (op:BinOp) (a b:Value):FN:=match a,b with
 |.agg d,.agg e=>(xE c d.toList e.toList).bind (eqn op)
 |_,_=>none
def Qy (P:Program) (t:TypeId):JK:=match Yw P 10000 t with
 |some a=>if a.length=P.cellsOf t/\nV P t=some true/\P.eqGuardType P.depth t=false then some a else none
 |none=>none
def lr (P:Program) (op:BinOp) (t:TypeId) (x y:Operand) (a b:Value) (q:Value->Prop) (cC:FN->(Value->Prop)->Prop):Prop:=
 match P.underlying t with
 |some (.int _)=>cC (A6 op a b) q
 |some (.pointer _)=>cC (Yn op a b) q
 |some (.slice _)=>cC (Wh op a b) q
 |some (.func _ _ _)=>cC (biF op a b) q
 |some (.interface _)=>cC (W3 (Fj x||Fj y) op a b) q
 |some (.struct _)=>(match Qy P t with
  |some c=>cC (Wi c op a b) q
  |none=>False)
 |some (.array _ _)=>(match Qy P t with
  |some c=>cC (Wi c op a b) q
  |none=>False)
 |_=>False
theorem uV {op:BinOp} {r:Bool} (e:∀k m c n,¬(a= .int k m/\b= .int c n)) (i:∀m n,¬(a= .string m/\b= .string n)) (d:eqn op r=some v) (f:Pz P t x y a b=true) (g:Je P 10000 t a b=some r):
  te P op t x y a b=some v:=by
 unfold te
 grind[eqn]
def xR {r:Bool} (h:Je P (9999+1) t a b=some r):Je P 10000 t a b=some r:=h
theorem ly {op:BinOp} {q:Value->Prop} (f:lr P op t x y a b q fun o p=>∃v,o=some v/\p v):∃v,te P op t x y a b=some v/\q v:=by
 unfold lr at f;split at f;obtain⟨v,c,e⟩:=f;refine⟨v,?_,e⟩;unfold A6 at c;grind[te];obtain⟨v,c,e⟩:=f;refine⟨v,?_,e⟩;unfold Yn at c;split at c;exact uV FR FR c rfl<|xR GY;exact uV FR FR c rfl<|xR GY;cases c;obtain⟨v,c,e⟩:=f;refine⟨v,?_,e⟩;unfold Wh at c;split at c;exact uV FR FR c rfl<|xR GY;exact uV FR FR c rfl<|xR GY;cases c;obtain⟨v,c,e⟩:=f;refine⟨v,?_,e⟩;unfold biF at c;split at c;exact uV FR FR c rfl<|xR GY;cases c;obtain⟨v,c,e⟩:=f;refine⟨v,?_,e⟩;unfold W3 at c;split at c;split at c;exact uV FR FR c (by grind[Pz])<|xR GY;cases c;exact uV FR FR c rfl<|xR GY;exact uV FR FR c rfl<|xR GY;cases c;all_goals
  first
   |cases f
   |split at f
    .rename_i s d;obtain⟨v,c,e⟩:=f;refine⟨v,?_,e⟩;unfold Wi at c;split at c
     .simp only[BT] at c;obtain⟨r,m,l⟩:=c;rw[Qy] at d;split at d
      .rename_i n g;split at d
       .rename_i i;cases d;have⟨x',y',hx',hy',hq⟩:=aNo 10000 t _ _ _ _ g i.1 m;simp only[vR,i.2.1,Option.some.injEq] at hx' hy';have j:=hx'.symm;have e2:=hy'.symm;subst j e2;exact uV FR FR l (by grind[Pz]) hq
       .cases d
      .cases d
     .cases c
    .cases f
def Ok (P:Program) (K:FuncId->FJ->IX) (t:aMr) (h:AH) (Q:Dx->AH->Prop):Prop:=∃n r,run P K n t h=some r/\Q r.1 r.2
def cC {α:Type} (o:Option α) (p:α->Prop):Prop:=∃v,o=some v/\p v
def Br (v:Value) (p q:Prop):Prop:=∃b,v= .bool b/\(b=true->p)/\(b=false->q)
theorem Ok.mono {t:aMr} {h:AH} {Q a:Dx->AH->Prop} (k:Ok P K t h Q) (e:∀o b,Q o b->a o b):Ok P K t h a:=
 let⟨n,r,c,d⟩:=k;⟨n,r,c,e _ _ d⟩
@[simp] theorem aYc {α:Type} {v:α} {p:α->Prop}:cC (some v) p↔p v:=⟨fun⟨_,h,k⟩=>FR,fun k=>⟨v,rfl,k⟩⟩
@[simp] theorem aWo {α:Type} {p:α->Prop}:cC none p↔False:=⟨fun⟨_,h,_⟩=>FZ,False.elim⟩
@[congr] theorem aWf {α:Type} {o o':Option α} {p:α->Prop} (h:o=o'):cC o p↔cC o' p:=by rw[h]
theorem cC.mono {α:Type} {o:Option α} {p c:α->Prop} (h:cC o p) (k:∀v,p v->c v):cC o c:=let⟨v,a,b⟩:=h;⟨v,a,k v b⟩
@[simp] theorem aQs {p q:Prop}:Br (.bool true) p q↔p:=⟨fun⟨b,h,k,_⟩=>FR,fun k=>⟨true,rfl,fun _=>k,FW⟩⟩
@[simp] theorem aLr {p q:Prop}:Br (.bool false) p q↔q:=⟨fun⟨b,h,_,k⟩=>FR,fun k=>⟨false,rfl,FW,fun _=>k⟩⟩
def pj {b:Bool} {p q:Prop} (a:b=true->p) (c:b=false->q):Br (.bool b) p q:=⟨b,rfl,a,c⟩
@[congr] theorem aXf {v a:Value} {p q:Prop} (h:v=a):Br v p q↔Br a p q:=by rw[h]
def vZ (h:AH) (p:Value):FN:=match p with
 |.pointer (some a)=>if a.spot.isSome then none else
  (match h.get a.block with
  |some (.cells c _ _ _)=>c[a.off]?
  |_=>none)
 |_=>none
def yU (h:AH) (n:Nat) (p:Value):FN:=match p with
 |.pointer (some a)=>(eN h a n).map fun l=> .agg ⟨l⟩
 |_=>none
def sJ (p:Value):FN:=match p with
 |.pointer (some a)=>some (.pointer<|some a)
 |.func (.func f) a b=>some (.func (.func f) a b)
 |.func (.yield f) a b=>some (.func (.yield f) a b)
 |_=>none
def gf (op:UnOp) (x:Value):FN:=match op,x with
 |.neg,.int k n=>some (.int k<|k.wrap<|0 - n)
 |.not,.bool b=>some (.bool !b)
 |_,_=>none
def lQ (n:Nat) (p:Value):FN:=match p with
 |.pointer (some a)=>some (.pointer<|some<|a.add n)
 |_=>none
def wJ (a:Nat) (x:Value):FN:=match x with
 |.agg b=>b.toList[a]?
 |_=>none
def vF (a n:Nat) (x:Value):FN:=match x with
 |.agg b=>if a+n<=b.toList.length then some (.agg ⟨(b.toList.drop a).take n⟩) else none
 |_=>none
def tZ (n b:Nat) (x i:Value):FN:=match x,i with
 |.pointer (some a),.int _ i=>if 0<=i/\i<n then some (.pointer<|some<|a.add<|i.toNat*b) else none
 |_,_=>none
def qN (b:Nat) (x i:Value):FN:=match x,i with
 |.slice (some a) n _,.int _ i=>if 0<=i/\i<n/\a.spot=none then some (.pointer<|some<|a.add<|i.toNat*b) else none
 |_,_=>none
def Vx (n b:Nat) (x i:Value):FN:=match x,i with
 |.agg a,.int _ i=>if 0<=i/\i<n then a.toList[i.toNat*b]? else none
 |_,_=>none
def cn (n a:Nat) (x i:Value):FN:=match x,i with
 |.agg b,.int _ i=>if 0<=i/\i<n/\i.toNat*a+a<=b.toList.length then some (.agg ⟨(b.toList.drop<|i.toNat*a).take a⟩) else none
 |_,_=>none
def wV (i:Nat) (t:Value):FN:=match t with
 |.tuple a=>a.toList[i]?
 |_=>none
def Ar (h:AH) (n:Nat) (p v:Value):JI:=match p with
 |.pointer (some a)=>(match nF v with
  |some b=>if b.length=n then jP h a b else none
  |none=>none)
 |_=>none
def pX (e:TypeId) (v:Value):JC:=(nF v).map fun l=> .cells l e (0,0) true
def O9 (bytes:Nat) (l c:Value):Option (Nat×Nat):=match l,c with
 |.int _ l,.int _ c=>if 0<=l/\l<=c/\c<=2^40/\bytes*c<=2^47 then some (l.toNat,c.toNat) else none
 |_,_=>none
def tM (cells:FJ):List (Nat×Nat×Value)->JA
 |[]=>some cells
 |(a,size,v)::rest=>match nF v with
  |some b=>if b.length=size/\a+b.length<=cells.length then tM (eB cells a b) rest else none
  |none=>none
def D9 (place:Nat->Option (Nat×Nat)) (b:Operand->Value):List (Nat×Operand)->Option (List<|Nat×Nat×Value)
 |[]=>some []
 |(i,x)::rest=>match place i,D9 place b rest with
  |some (a,size),some l=>some ((a,size,b x)::l)
  |_,_=>none
theorem Lt {place:Nat->Option (Nat×Nat)} {b:Operand->Value}:∀{a:List (Nat×Operand)} {l:List (Nat×Nat×Value)} {cells:FJ},D9 place b a=some l->Mz place cells (a.map fun p=>(p.1,b p.2))=tM cells l
 |[],l,cells,h=>by simp only[D9,Option.some.injEq] at h;subst h;rfl
 |(i,x)::rest,l,cells,h=>by
  simp[D9] at h;split at h;rename_i e size f c d;cases h;simp[k7,Mz,tM,c];cases hc:nF _ with
  |none=>rfl
  |some g=>
   simp only;split;exact Lt d;rfl
  cases h
def Dv (g:Nat) (h:AH) (x:Value) (f e d:FN):FN:=match x with
 |.slice none len b=>
  match sM d b b with
  |some m=>match(if e.isNone&&d.isSome then none else sM e len m) with
   |some c=>match sM f 0 c with
    |some l=>some (.slice none (c - l)<|m - l)
    |none=>none
   |none=>none
  |none=>none
 |.slice (some a) len b=>
  match sM d b b with
  |some m=>match(if e.isNone&&d.isSome then none else sM e len m) with
   |some c=>match sM f 0 c with
    |some l=>
     if a.spot.isSome then(if len=0/\b=0 then some (if d.isSome then zY else aUz) else none) else
     if c<=m then
      (if m=l then
       if d.isSome then some zY else
       match xK h a.block with
       |some true=>some zY
       |some false=>some (Hz<|a.add<|l*g)
       |none=>none
      else some (.slice (some<|a.add<|l*g) (c - l)<|m - l))
     else none
    |none=>none
   |none=>none
  |none=>none
 |_=>none
def F3 (P:Program) (K:FuncId->FJ->IX) (f:Value) (args:FJ) (h:AH) (Q:Value->AH->Prop):Prop:=match f with
 |.func (.func g) first a=>lX P g=true/\Ok P K (.call g<|first.toList++args++a.toList) h fun o b=>Q o.v b
 |.func (.yield l) first _=>Ok P K (.round l<|first.toList++args) h fun o b=>Q o.v b
 |_=>False
def lkV (z:Value) (h:AH) (x ix:Value) (ok:Bool):FN:=match xm h x,ix with
 |some a,.int k n=>match Dm k n a 0 with
  |some (some (_,v))=>some (if ok then .tuple ⟨[v,.bool true]⟩ else v)
  |some none=>some (if ok then .tuple ⟨[z,.bool false]⟩ else z)
  |none=>none
 |_,_=>none
def pP (P:Program) (b:Operand->Value) (h:AH) (q:Value->Prop):Op->Prop
 |.move x=>q (b x)
 |.assign x=>q (b x)
 |.build t g=>match rP P t with
  |some z=>(match P.underlying t with
   |some (.struct j)=>if j.all (fun f=>(P.info? f.type).isSome) then(match D9 (fun i=>(j[i]?).map fun f=>(f.offset,P.cellsOf f.type)) b g.toList with
    |some l=>cC (tM z l) fun c=>q (.agg ⟨c⟩)
    |none=>False) else False
   |some (.array _ e)=>if(P.info? e).isSome then(match D9 (fun i=>some (i*P.cellsOf e,P.cellsOf e)) b g.toList with
    |some l=>cC (tM z l) fun c=>q (.agg ⟨c⟩)
    |none=>False) else False
   |_=>False)
  |none=>False
 |.load t a=>match nV P t with
  |some true=>cC (yU h (P.cellsOf t)<|b a) q
  |some false=>cC (vZ h<|b a) q
  |none=>False
 |.nilCheck x=>cC (sJ<|b x) q
 |.binOp op t x y _=>lr P op t x y (b x) (b y) q cC
 |.unOp op _ x=>cC (gf op<|b x) q
 |.makeInterface t x=>match P.underlying t with
  |some (.interface _)=>False
  |some _=>q (.iface t<|b x)
  |none=>False
 |.makeFunc fn first d=>match fn with
  |.func f=>q (.func (.func f) (first.map b)<|d.map b)
  |_=>False
 |.slice t x o m p=>match P.underlying t with
  |some (.slice e)=>if(P.info? e).isSome then cC (Dv (P.cellsOf e) h (b x) (o.map b) (m.map b)<|p.map b) q else False
  |_=>False
 |.fieldAddr s x f=>match P.underlying s with
  |some (.struct j)=>(match j[f]? with
   |some fd=>if P.cellsOf fd.type=0 then False else cC (lQ fd.offset<|b x) q
   |none=>False)
  |_=>False
 |.field t x f=>match P.underlying t with
  |some (.struct j)=>(match j[f]? with
   |some fd=>(match nV P fd.type with
    |some true=>cC (vF fd.offset (P.cellsOf fd.type)<|b x) q
    |some false=>cC (wJ fd.offset<|b x) q
    |none=>False)
   |none=>False)
  |_=>False
 |.indexAddr t x i=>match P.underlying t with
  |some (.array n e)=>if(P.info? e).isSome then cC (tZ n (P.cellsOf e) (b x)<|b i) q else False
  |some (.slice e)=>if(P.info? e).isSome then cC (qN (P.cellsOf e) (b x)<|b i) q else False
  |_=>False
 |.index t x i=>match P.underlying t with
  |some (.array n e)=>if(P.info? e).isSome then(match nV P e with
   |some true=>cC (cn n (P.cellsOf e) (b x)<|b i) q
   |some false=>cC (Vx n (P.cellsOf e) (b x)<|b i) q
   |none=>False) else False
  |_=>False
 |.extract t i=>cC (wV i<|b t) q
 |.lookup t x ix ok=>match O0 P t with
  |some e=>(match rm P e with
   |some z=>cC (lkV z h (b x) (b ix) ok) q
   |none=>False)
  |none=>False
 |_=>False
theorem Jr {h:AH} {q:Value->Prop} (a:pP P p h q op):fX op= .G5/\∃v,dP P p h op=some v/\q v:=by
 unfold pP at a;split at a;exact⟨rfl,_,rfl,a⟩;exact⟨rfl,_,rfl,a⟩;refine⟨rfl,?_⟩;split at a;rename_i z t;split at a;rename_i u j;split at a;rename_i f;split at a;obtain⟨c,b,d⟩:=a;refine⟨_,?_,d⟩;simp only[dP,Tf,t,j,f,eD];grind[Lt];cases a;cases a;rename_i e j;split at a;rename_i f;split at a;obtain⟨c,b,d⟩:=a;refine⟨_,?_,d⟩;simp only[dP,Tf,t,j,f,eD];grind[Lt];cases a;cases a;cases a;cases a;refine⟨rfl,?_⟩;split at a;obtain⟨v,b,d⟩:=a;refine⟨v,?_,d⟩;unfold yU at b;simp[dP];grind[C9];obtain⟨v,b,d⟩:=a;refine⟨v,?_,d⟩;unfold vZ at b;simp[dP];grind[C9];cases a;obtain⟨v,b,d⟩:=a;exact⟨rfl,v,b,d⟩;have⟨v,b,d⟩:=ly a;exact⟨rfl,v,b,d⟩;obtain⟨v,b,d⟩:=a;exact⟨rfl,v,b,d⟩;refine⟨rfl,?_⟩;split at a;cases a;simp_all[dP];cases a;split at a;exact⟨rfl,_,rfl,a⟩;cases a;refine⟨rfl,?_⟩;split at a;rename_i j;split at a;rename_i r;obtain⟨v,b,d⟩:=a;refine⟨v,?_,d⟩;unfold Dv at b;split at b;rename_i o;simp only[dP,o,Hq,j,r,eD];exact b;rename_i o;simp only[dP,o,Hq,j,r,true_and];exact b;cases b;cases a;cases a;refine⟨rfl,?_⟩;split at a;split at a;split at a;cases a;obtain⟨v,b,d⟩:=a;refine⟨v,?_,d⟩;unfold lQ at b;split at b;simp_all[dP,dx];cases b;cases a;cases a;refine⟨rfl,?_⟩;split at a;split at a;split at a;obtain⟨v,b,d⟩:=a;refine⟨v,?_,d⟩;unfold vF at b;split at b;simp_all[dP,jN];cases b;obtain⟨v,b,d⟩:=a;refine⟨v,?_,d⟩;unfold wJ at b;split at b;simp_all[dP,jN];cases b;cases a;cases a;cases a;refine⟨rfl,?_⟩;split at a;split at a;obtain⟨v,b,d⟩:=a;refine⟨v,?_,d⟩;unfold tZ at b;split at b;simp_all[dP,DU,eD];cases b;cases a;split at a;obtain⟨v,b,d⟩:=a;refine⟨v,?_,d⟩;unfold qN at b;split at b;simp_all[dP,DU,eD];cases b;cases a;cases a;refine⟨rfl,?_⟩;split at a;rename_i s;split at a;rename_i g;split at a;rename_i n;obtain⟨v,b,d⟩:=a;refine⟨v,?_,d⟩;unfold cn at b;split at b;rename_i m i;split at b;rename_i l;simp only[dP,s,m,i,l.1,l.2.1,g,DU,eD,jN,n,l.2.2];exact b;cases b;cases b;rename_i n;obtain⟨v,b,d⟩:=a;refine⟨v,?_,d⟩;unfold Vx at b;split at b;rename_i m i;split at b;rename_i l;simp only[dP,s,m,i,l,g,DU,eD,jN,n];exact b;cases b;cases b;cases a;cases a;cases a;obtain⟨v,b,d⟩:=a;exact⟨rfl,v,b,d⟩;refine⟨rfl,?_⟩;split at a;rename_i e m;split at a;obtain⟨v,b,d⟩:=a;refine⟨v,?_,d⟩;unfold lkV at b;simp[dP,Eo,m];grind;cases a;cases a;cases a
def rB (x:Value):FN:=match x with
 |.slice _ n _=>some (.int .i64 n)
 |_=>none
def aFs (h:AH) (x:Value):FN:=(xm h x).map fun a=> .int .i64 a.length
def E2 (x y:Value):FN:=match x,y with
 |.int k x,.int _ y=>some (.int k<|if y<x then y else x)
 |_,_=>none
def mM (z:FJ) (h:AH) (x:Value):Option (Value×AH):=
 match x with
 |.slice none _ _=>some (.tuple #[],h)
 |.slice (some a) n _=>
   if n=0 then some (.tuple #[],h) else(jP h a<|iP z n).map fun b=>(.tuple #[],b)
 |_=>none
def Ym (h:AH) (m b v:Value):JI:=match m,b with
 |.map (some r),.int k n=>if r<h.base then none else match h.get r with
  |some (.map c a)=>(aP4 k n v c a).map fun o=>h.set r (some o)
  |_=>none
 |_,_=>none
def X3 (h:AH) (m c:Value):JI:=match m,c with
 |.map (some r),.int k n=>if r<h.base then none else match h.get r with
  |some (.map b a)=>match Dm k n b 0 with
   |some (some (i,_))=>some (h.set r<|some<|.map (b.eraseIdx i) a)
   |some none=>some (h.set r<|some<|.map b a)
   |none=>none
  |_=>none
 |_,_=>none
theorem aJp {h:AH} {e:TypeId} {m:Value} {c:AH} (d:O0 P t=some e) (b:Ym h m a v=some c):M5 P h t m a v=some c:=by
 unfold Ym at b;split at b;simp only[M5,d];exact b;cases b
theorem aKo {h:AH} {e:TypeId} {m:Value} {c:AH} (d:O0 P t=some e) (b:X3 h m a=some c):Nj P h t m a=some c:=by
 unfold X3 at b;split at b;simp only[Nj,d];exact b;cases b
def C4 (P:Program) (h:AH) (q:Value->AH->Prop) (a:Array TypeId):Builtin->FJ->Prop
 |.len,[x]=>match(a[0]?).bind P.underlying with
  |some (.slice _)=>cC (rB x) fun v=>q v h
  |some (.array n _)=>q (.int .i64 n) h
  |some (.map _ _)=>cC (aFs h x) fun v=>q v h
  |_=>False
 |.append,[s,x]=>match(a[0]?).bind P.underlying with
  |some (.slice e)=>if Ro P a/\(rP P e).isSome then cC (nJ (P.cellsOf e) (P.bytesOf e) e h s x) fun r=>q r.1 r.2 else False
  |_=>False
 |.clear,[x]=>match(a[0]?).bind P.underlying with
  |some (.slice e)=>(match rP P e with
   |some z=>cC (mM z h x) fun r=>q r.1 r.2
   |none=>False)
  |_=>False
 |.min,[x,y]=>cC (E2 x y) fun v=>q v h
 |.delete,[m,k]=>(match a[0]? with
  |some t=>(match O0 P t with
   |some _=>cC (X3 h m k) fun b=>q (.tuple #[]) b
   |none=>False)
  |none=>False)
 |_,_=>False
theorem Fq {h:AH} {b:Builtin} {args:FJ} (a:C4 P h q at_ b args):∃v f,kE P h b at_ args=some (v,f)/\q v f:=by
 unfold C4 at a;split at a;split at a;obtain⟨v,c,d⟩:=a;refine⟨v,h,?_,d⟩;unfold rB at c;split at c;simp_all[kE];cases c;refine⟨_,h,?_,a⟩;simp_all[kE];obtain⟨v,c,d⟩:=a;refine⟨v,h,?_,d⟩;rw[aFs] at c;cases hm:xm h _ with
 |none=>rw[hm] at c;cases c
 |some j=>simp_all[kE]
 cases a;split at a;rename_i e i;split at a;rename_i g;obtain⟨⟨v,f⟩,c,d⟩:=a;refine⟨v,f,?_,d⟩;have⟨z,hz⟩:=c7.1 g.2;simp only[kE,Rk,i,g.1,hz,BQ,aO,dx];exact c;cases a;cases a;split at a;split at a;obtain⟨⟨v,f⟩,c,d⟩:=a;refine⟨v,f,?_,d⟩;unfold mM at c;split at c;simp_all[kE];simp_all[kE];cases c;cases a;cases a;obtain⟨v,c,d⟩:=a;refine⟨v,h,?_,d⟩;unfold E2 at c;split at c;simp_all[kE];cases c;split at a;split at a;obtain⟨f,c,d⟩:=a;exact⟨_,f,by simp_all[kE,aKo],d⟩;cases a;cases a;cases a
def Io (P:Program) (K:FuncId->FJ->IX) (d:Operand->Value) (h:AH) (q:Value->AH->Prop):Op->Prop
 |.store t a x=>if(P.info? t).isSome then cC (Ar h (P.cellsOf t) (d a)<|d x) fun e=>q undef e else False
 |.call c=>match c.callee with
  |.builtin b=>C4 P h q c.argTypes b (c.args.toList.map d)
  |.value (.func g)=>if lX P g then Ok P K (.call g<|c.args.toList.map d) h fun o e=>q o.v e else False
  |.value f=>F3 P K (d f) (c.args.toList.map d) h q
  |.invoke _ _=>False
 |.mapUpdate t m k x=>match O0 P t with
  |some _=>cC (Ym h (d m) (d k)<|d x) fun e=>q undef e
  |none=>False
 |_=>False
theorem aEq {f:Value} {args:FJ} {h:AH} (b:F3 P K f args h q):
  ∃n v c,(match f with
   |.func (.func g) first a=>if lX P g then(run P K n (.call g<|first.toList++args++a.toList) h).map fun r=>(r.1.v,r.2) else none
   |.func (.yield l) first _=>(run P K n (.round l<|first.toList++args) h).map fun r=>(r.1.v,r.2)
   |_=>none)=some (v,c)/\q v c:=by
 unfold F3 at b
 split at b
 .obtain⟨i,n,r,d,e⟩:=b;grind
 .obtain⟨n,r,d,e⟩:=b;grind
 .cases b
theorem Co {f:Operand->Value} (l:∀g,f (.func g)= .func (.func g) #[] #[]) {h:AH} (a:Io P K f h q op):
  (fX op= .store\/fX op= .call)/\∃n v c,gP P (run P K n) f h op=some (v,c)/\q v c:=by
 unfold Io at a
 split at a
 .refine⟨.inl rfl,?_⟩;split at a
  .rename_i e;obtain⟨c,b,d⟩:=a;refine⟨0,_,c,?_,d⟩;unfold Ar at b;split at b
   .rename_i j;split at b
    .rename_i i;split at b
     .rename_i m;simp only[gP,j,dh,i,m,e,DU,eD,b];rfl
     .cases b
    .cases b
   .cases b
  .cases a
 .refine⟨.inr rfl,?_⟩;split at a
  .simp_all[Fq,gP]
  .split at a
   .obtain⟨n,r,b,d⟩:=a;refine⟨n,_,_,?_,d⟩;simp_all[gP,eD]
   .cases a
  .grind[aEq,gP]
  .cases a
 .refine⟨.inl rfl,?_⟩;split at a
  .obtain⟨c,b,d⟩:=a;exact⟨0,_,c,by grind[gP,aJp],d⟩
  .cases a
 .cases a
def aMf (l c i:Nat):Value:= .slice (some ⟨i,0,none⟩) l c
def aVi (i:Nat):Value:= .pointer (some ⟨i,0,none⟩)
def lC (i:Nat):Value:= .map (some i)
def I1 (P:Program) (d:Operand->Value) (q:qU->(Nat->Value)->Prop):Op->Prop
 |.alloc e=>match rP P e with
  |some z=>q (.cells z e (0,0) true) aVi
  |none=>False
 |.box e x=>cC (pX e<|d x) fun b=>q b aVi
 |.buildSlice t len a=>match P.underlying t with
  |some (.slice e)=>(match rP P e with
   |some z=>if len*P.cellsOf e<=2^24 then(match D9 (fun i=>some (i*P.cellsOf e,P.cellsOf e)) d a.toList with
    |some f=>cC (tM (iP z len) f) fun l=>q (.cells l e (0,0) true) (aMf len len)
    |none=>False) else False
   |none=>False)
  |_=>False
 |.makeSlice t l c=>match P.underlying t with
  |some (.slice e)=>(match rP P e with
   |some z=>cC (O9 (P.bytesOf e) (d l)<|d c) fun n=>q (.cells (iP z n.2) e (0,0) true) (aMf n.1 n.2)
   |none=>False)
  |_=>False
 |.makeMap t none=>q (.map [] 0) lC
 |.makeMap t (some x)=>match P.underlying t with
  |some (.map _ _)=>∃k n,d x= .int k n/\q (.map [] 0) lC
  |_=>False
 |_=>False
def Jm {q:qU->(Nat->Value)->Prop} (a:I1 P m q op):fX op= .alloc/\∃b f,lJ P m op=some (b,f)/\q b f:=by
 unfold I1 at a;split at a;refine⟨rfl,?_⟩;split at a;rename_i g;exact⟨_,_,by simp only[lJ,g];rfl,a⟩;cases a;refine⟨rfl,?_⟩;obtain⟨b,c,d⟩:=a;refine⟨b,aVi,?_,d⟩;simp only[pX,ba] at c;obtain⟨l,c,rfl⟩:=c;simp only[lJ,c];rfl;refine⟨rfl,?_⟩;split at a;rename_i e;split at a;rename_i g;split at a;rename_i i;split at a;rename_i p j;obtain⟨l,c,d⟩:=a;refine⟨_,_,?_,d⟩;simp only[lJ,e,g,i,eD];rw[Lt j,c];rfl;cases a;cases a;cases a;cases a;refine⟨rfl,?_⟩;split at a;rename_i e;split at a;rename_i g;obtain⟨n,c,d⟩:=a;refine⟨_,_,?_,d⟩;unfold O9 at c;split at c;rename_i o e2;split at c;rename_i i;cases c;simp only[lJ,e,o,e2,g,i,DU,eD];rfl;cases c;cases c;cases a;cases a;exact⟨rfl,_,_,rfl,a⟩;refine⟨rfl,?_⟩;split at a;rename_i e;obtain⟨k,n,c,d⟩:=a;exact⟨_,_,by simp only[lJ,e,c];rfl,d⟩;cases a;cases a
abbrev Wn:=List<|Tmp×Option Bool
def bAy:Option Bool->Value
 |some b=> .bool b
 |none=>undef
def Wn.drop (d:Wn) (t:Option Tmp):Wn:=match t with
 |some t=>d.filter fun x=>x.1 !=t
 |none=>d
def Wn.ok (d:Wn) (env:FJ):Prop:=∀t b,(t,b)∈d->env[t]?=some (bAy b)
def aBm (vW:Nat->Option Tmp) (env:FJ) (dec:Wn) (g:Option (Nat×Bool)) (p:Bool->FJ->Wn->Prop):Prop:=
 match g with
 |none=>p true env dec
 |some (j,fY)=>match vW j with
  |none=>False
  |some d=>match dec.lookup d with
   |some (some b)=>p (b==fY) env dec
   |some none=>p false env dec
   |none=>Br (env.getD d undef) (p (true==fY) (env.set d<|.bool true) ((d,some true)::dec))<|p (false==fY) (env.set d<|.bool false) ((d,some false)::dec)
def Jj (h:AH) (b:qU) (p:Nat->AH->Prop):Prop:=p h.next<|h.alloc b
def rJ (h:AH) (r:Nat) (b:qU) (p:Nat->AH->Prop):Prop:=p r<|h.set r<|some b
def C0 (h:AH) (n:Nat) (p:Nat->AH->Prop):Prop:=p h.next {h with next:=h.next+n}
def aR9 (P:Program) (K:FuncId->FJ->IX) (env:FJ) (h:AH) (q:Value->AH->Prop) (op:Op):Prop:=
 match fX op with
 |.G5=>pP P (eM P env) h (fun v=>q v h) op
 |.alloc=>I1 P (eM P env) (fun b f=>Jj h b fun i a=>q (f i) a) op
 |.store|.call=>Io P K (eM P env) h q op
 |.Jy=>False
theorem vu {h:AH} (a:aR9 P K env h q op):∃n v d,uI P (run P K n) env h op=some (v,d)/\q v d:=by
 rw[aR9] at a;cases hk:fX op with
 |G5=>
  simp[hk] at a;have⟨_,v,e,c⟩:=Jr a;exact⟨0,v,h,by grind[uI],c⟩
 |alloc=>
  simp[hk] at a;have⟨_,b,f,e,c⟩:=Jm a;exact⟨0,_,_,by grind[uI],c⟩
 |store=>
  simp[hk] at a;obtain⟨_,n,v,d,e,c⟩:=Co (fun g=>rfl) a;grind[uI]
 |call=>
  simp[hk] at a;obtain⟨_,n,v,d,e,c⟩:=Co (fun g=>rfl) a;grind[uI]
 |Jy=>grind
def aRm (env:FJ) (d:Option Tmp):Bool:=match d with
 |some d=>decide (d<env.length)
 |none=>true
def aMd (dec:Wn) (op:Op):Option Operand:=match op with
 |.pick (.tmp c) a b=>(match dec.lookup c with
  |some (some true)=>some a
  |some (some false)=>some b
  |_=>none)
 |.move x=>some x
 |.assign x=>some x
 |_=>none
def aGz (dec:Wn) (x:Operand):Option Bool:=match x with
 |.const (.bool y)=>some y
 |.tmp t=>(match dec.lookup t with
  |some (some y)=>some y
  |_=>none)
 |_=>none
def Wn.A9 (dec:Wn) (dst:Option Tmp) (x:Operand):Wn:=match dst,aGz dec x with
 |some d,some y=>(d,some y)::dec.drop (some d)
 |d,_=>dec.drop d
def Wn.skip (dec:Wn) (env:FJ) (dst:Option Tmp):Wn:=match dst with
 |some d=>if d<env.length then(d,none)::dec.drop (some d) else dec.drop (some d)
 |none=>dec
def aBq (P:Program) (K:FuncId->FJ->IX) (vW:Nat->Option Tmp):List Oper->FJ->AH->Wn->(FJ->AH->Wn->Prop)->Prop
 |[],env,h,dec,q=>q env h dec
 |o::a,env,h,dec,q=>aBm vW env dec o.guard fun b env dec=>
  match b with
  |true=>(match aMd dec o.op with
   |some x=>aBq P K vW a (pC env o.dst<|eM P env x) h (if aRm env o.dst then dec.A9 o.dst x else dec.drop o.dst) q
   |none=>aR9 P K env h (fun v c=>aBq P K vW a (pC env o.dst v) c (dec.drop o.dst) q) o.op)
  |false=>aBq P K vW a (pC env o.dst undef) h (dec.skip env o.dst) q
def bAt (P:Program) (h:AH) (q:Value->Prop) (a:Array TypeId):Builtin->FJ->Prop
 |.len,[x]=>match(a[0]?).bind P.underlying with
  |some (.slice _)=>cC (rB x) q
  |some (.array n _)=>q (.int .i64 n)
  |some (.map _ _)=>cC (aFs h x) q
  |_=>False
 |.min,[x,y]=>cC (E2 x y) q
 |_,_=>False
def aYq (P:Program) (a:Operand->Value) (h:AH) (q:Value->Prop):Op->Prop
 |.call c=>match c.callee with
  |.builtin b=>bAt P h q c.argTypes b (c.args.toList.map a)
  |_=>False
 |op=>pP P a h q op
structure DR where
 env:FJ
 h:AH
 v:Value
 ran:Bool
def aWv (P:Program) (K:FuncId->FJ->IX) (r:Nat) (env:FJ) (h:AH) (q:Value->AH->Prop) (op:Op):Prop:=
 match mT op with
 |true=>aYq P (eM P env) h (fun v=>q v h) op
 |false=>match fX op with
  |.alloc=>I1 P (eM P env) (fun b f=>rJ h r b fun i a=>q (f i) a) op
  |_=>Io P K (eM P env) h q op
def Q3 (P:Program) (K:FuncId->FJ->IX) (vW:Nat->Option Tmp):Nat->List Oper->FJ->AH->Wn->List DR->(List DR->FJ->AH->Wn->Prop)->Prop
 |_,[],env,h,dec,a,q=>q a env h dec
 |r,o::c,env,h,dec,a,q=>aBm vW env dec o.guard fun b env dec=>
  match b with
  |true=>(match aMd dec o.op with
   |some x=>Q3 P K vW (r+1) c (pC env o.dst<|eM P env x) h (if aRm env o.dst then dec.A9 o.dst x else dec.drop o.dst) (a++[⟨env,h,eM P env x,true⟩]) q
   |none=>aWv P K r env h (fun v d=>Q3 P K vW (r+1) c (pC env o.dst v) d (dec.drop o.dst) (a++[⟨env,h,v,true⟩]) q) o.op)
  |false=>Q3 P K vW (r+1) c (pC env o.dst undef) h (dec.skip env o.dst) (a++[⟨env,h,undef,false⟩]) q
def aSu (P:Program) (all:List Oper) (rs:List DR) (hEnd:AH):List (Nat×Nat)->Prop->Prop
 |[],p=>p
 |(i,s)::a,p=>match all[i]? with
  |some o=>(match rs[i]? with
   |some r=>(match r.ran with
    |true=>aYq P (eM P r.env) (match rs[s]? with|some q=>q.h|none=>hEnd) (fun v=>wM v r.v=true) o.op/\aSu P all rs hEnd a p
    |false=>aSu P all rs hEnd a p)
   |none=>False)
  |none=>False
def aSv (P:Program) (K:FuncId->FJ->IX) (ops:Array Oper) (env:FJ) (h:AH) (q:FJ->AH->Wn->Prop):Prop:=
 if Ss ops.toList&&(P.follows .mixedOrders|| !Region.departs ops) then
  C0 h ops.size fun r c=>Q3 P K (fun j=>(ops[j]?).bind (·.dst)) r ops.toList env c [] [] fun d a b dec=>aSu P ops.toList d b (O4 ops.toList)<|q a b dec
 else False
section
variable {h:AH} {Q:Dx->AH->Prop}
def Ll {t t':aMr} {a:AH} (c:∀n,run P K (n+1) t h=run P K n t' a) (d:Ok P K t' a Q):Ok P K t h Q:=by
 obtain⟨n,r,e,b⟩:=d;exact⟨_,r,by rwa [c],b⟩
theorem Zp {c:Operand} {t e:Code} (g:Br (eM P env c) (Ok P K (.todo fn ro ds env (.code t::k)) h Q) (Ok P K (.todo fn ro ds env (.code e::k)) h Q)):
  Ok P K (.todo fn ro ds env (.code (.cond c t e)::k)) h Q:=by
 obtain⟨b,a,f,d⟩:=g
 cases b with
 |true=>exact Ll (t':= .todo fn ro ds env (.code t::k)) (fun n=>by show gT _ _ _ _ _ _ _ _=_;simp_all[gT,eD]) (f rfl)
 |false=>exact Ll (t':= .todo fn ro ds env (.code e::k)) (fun n=>by show gT _ _ _ _ _ _ _ _=_;simp[gT,a])<|d rfl
end
def oI (h:AH) (l:Nat):JI:=match h.get l with
 |some (.loop .ready _ _ _ _ _ _ _)=>eX h l .busy none
 |_=>none
def yL (h:AH) (l:Nat):Option (Option Code×AH):=match h.get l with
 |some (.loop st p _ _ _ _ _ _)=>if st= .busy then none else(eX h l .exhausted none).map fun a=>(p,a)
 |_=>none
def jF (h:AH) (l:Nat):Option Nat:=match h.get l with
 |some (.loop _ _ _ _ _ _ _ d)=>some d
 |_=>none
def ga (P:Program) (K:FuncId->FJ->IX) (f:Value) (l:Nat) (h:AH) (q:Value->AH->Prop):Prop:=match f with
 |.func (.func g) first a=>lX P g=true/\Ok P K (.call g<|first.toList++[.func (.yield l) #[] #[]]++a.toList) h fun o b=>q o.v b
 |_=>False
def wP:Code->Option Nat
 |.region id _ _=>some id
 |.seq a b=>(match wP a with
  |some r=>some r
  |none=>wP b)
 |.block _ b=>wP b
 |.loop b=>wP b
 |.scope b=>wP b
 |_=>none
def aBs:List Item->Option Nat
 |.code c::k=>(match wP c with
  |some r=>some r
  |none=>aBs k)
 |.inLoop c::k=>(match wP c with
  |some r=>some r
  |none=>aBs k)
 |_::k=>aBs k
 |[]=>none
def nG:Code->FL
 |.exit id=>[id]
 |.seq a b=>nG a++nG b
 |.cond _ t e=>nG t++nG e
 |.block id b=>(nG b).filter (·!=id)
 |.loop b=>nG b
 |.scope b=>nG b
 |.rangeFunc _ _ a b=>nG a++nG b
 |_=>[]
def zF (p:Option Code) (a b:Prop) (c:List (Nat×Prop)):Prop:=match p with
 |none=>a
 |some .ret=>b
 |some (.exit id)=>(match c.lookup id with
  |some q=>q
  |none=>False)
 |_=>False
def Ve (P:Program) (K:FuncId->FJ->IX) (fn:FuncId) (f:Value) (n:Nat) (lv:FL) (vs:FJ) (ps:Array Tmp) (assign a:Code) (d:Nat) (h:AH) (q:Option Code->AH->Prop):Prop:=
 ∀e:Nat->Value,lv.map e=vs->Jj h (.loop .ready none fn ((List.range n).map e) ps assign a d) fun l b=>ga P K f l b fun _ c=>cC (yL c l) fun r=>q r.1 r.2
def Zl (L:List (Option Nat×FL)) (k:List Item):FL:=(L.lookup<|aBs k).getD []
def tN:Nat->List Item->List Item
 |0,k=>k
 |n+1,k=>match k with
  |.code c::d=>(match c with
   |.skip=>tN n d
   |.label _=>tN n d
   |.seq a b=>tN n (.code a:: .code b::d)
   |.block id b=>tN n (.code b:: .inBlock id::d)
   |.scope b=>tN n (.code b:: .inScope b::d)
   |.loop b=>tN n (.code b:: .inLoop b::d)
   |.exit id=>(match exitTo id d with
    |some e=>tN n e
    |none=>k)
   |_=>k)
  |.inBlock _::d=>tN n d
  |.inScope _::d=>tN n d
  |.inLoop b::d=>tN n (.code b:: .inLoop b::d)
  |_=>k
def aRu:List Item->Bool
 |[]=>true
 |.code .ret::_=>true
 |.code (.exit _)::_=>true
 |_=>false
def aSf (k:List Item):Bool:=match tN 60 k with
 |.code (.region _ _ _)::a=>aRu (tN 60 a)
 |a=>aRu a
def V6 (P:Program) (K:FuncId->FJ->IX) (E:FL->FJ->List Item->AH->Prop) (F:Fp->FL->FJ->AH->Prop) (L:List (Option Nat×FL)) (fn:FuncId) (ro:Option Nat):
  Nat->Wn->FL->FJ->List Item->AH->Prop
 |0,_,ds,env,k,h=>E ds env k h
 |n+1,dec,ds,env,k,h=>
  match k with
  |[]=>F .vY ds env h
  |.code c::k=>
   (match c with
   |.skip=>V6 P K E F L fn ro n dec ds env k h
   |.label _=>V6 P K E F L fn ro n dec ds env k h
   |.seq a b=>V6 P K E F L fn ro n dec ds env (.code a:: .code b::k) h
   |.cond c t e=>(match aGz dec c with
    |some true=>V6 P K E F L fn ro n dec ds env (.code t::k) h
    |some false=>V6 P K E F L fn ro n dec ds env (.code e::k) h
    |none=>Br (eM P env c)
     (match aSf (.code t::k) with
     |true=>V6 P K E F L fn ro n dec ds env (.code t::k) h
     |false=>E ds env (tN 60 (.code t::k)) h)
     (match aSf (.code e::k) with
     |true=>V6 P K E F L fn ro n dec ds env (.code e::k) h
     |false=>E ds env (tN 60 (.code e::k)) h))
   |.block id b=>V6 P K E F L fn ro n dec ds env (.code b:: .inBlock id::k) h
   |.loop b=>E ds env (tN 60 (.code b:: .inLoop b::k)) h
   |.scope b=>V6 P K E F L fn ro n dec ds env (.code b:: .inScope b::k) h
   |.exit id=>(match exitTo id k with
    |some s=>V6 P K E F L fn ro n dec ds env s h
    |none=>if ro.isSome then F (.exit id) ds env h else False)
   |.ret=>F .ret ds env h
   |.region _ ops false=>aBq P K (fun j=>(ops[j]?).bind (·.dst)) ops.toList env h dec fun o i m=>V6 P K E F L fn ro n m ds o k i
   |.region _ ops true=>aSv P K ops env h fun o i m=>V6 P K E F L fn ro n m ds o k i
   |.rangeFunc f q assign g=>
    (match ro with
    |none=>Jj h (.wO true) fun d r=>Ve P K fn (eM P env f) env.length (Zl L [.code assign,.beginRound,.code g]) ((Zl L [.code assign,.beginRound,.code g]).map fun t=>env.getD t undef) q assign g d r fun p i=>
      zF p (V6 P K E F L fn ro n dec (d::ds) env k i) (V6 P K E F L fn ro n dec (d::ds) env (.code .ret::k) i) ((nG g).map fun id=>(id,V6 P K E F L fn ro n dec (d::ds) env (.code (.exit id)::k) i))
    |some l=>cC (jF h l) fun d=>Ve P K fn (eM P env f) env.length (Zl L [.code assign,.beginRound,.code g]) ((Zl L [.code assign,.beginRound,.code g]).map fun t=>env.getD t undef) q assign g d h fun p i=>
      zF p (V6 P K E F L fn ro n dec ds env k i) (V6 P K E F L fn ro n dec ds env (.code .ret::k) i) ((nG g).map fun id=>(id,V6 P K E F L fn ro n dec ds env (.code (.exit id)::k) i)))
   |_=>False)
  |.inBlock _::k=>V6 P K E F L fn ro n dec ds env k h
  |.inScope _::k=>V6 P K E F L fn ro n dec ds env k h
  |.inLoop b::k=>E ds env (tN 60 (.code b:: .inLoop b::k)) h
  |.beginRound::k=>
   (match ro with
   |some l=>cC (oI h l) fun i=>V6 P K E F L fn ro n dec ds env k i
   |none=>False)
  |_=>False
theorem Xi (h:env.length=n):(List.range n).map (fun t=>env.getD t undef)=env:=by
 refine ri fun i=>?_;grind
theorem uo {f:Nat->Prop} {id:Nat} {q:Prop} (h:(l.map fun i=>(i,f i)).lookup id=some q):q=f id:=by
 induction l with
 |nil=>simp at h
 |cons i l a=>
  grind
theorem Se {f:Value} {lv:FL} {assign b:Code} {h:AH} {q:Option Code->AH->Prop}
  (i:Ve P K fn f env.length lv (lv.map fun t=>env.getD t undef) ps assign b d h q):
  ∃n g first a o c p e,f= .func (.func g) first a/\lX P g=true/\run P K n (.call g<|first.toList++[.func (.yield h.next) #[] #[]]++a.toList) (h.alloc<|.loop .ready none fn env ps assign b d)=some (o,c)/\
   yL c h.next=some (p,e)/\q p e:=by
 have:=i _ rfl
 rw[Xi rfl] at this
 unfold Jj ga at this
 split at this
 .obtain⟨m,n,r,j,⟨p,e⟩,l,c⟩:=this;grind
 .cases this
theorem Vm {fn:FuncId} {ro:Option Nat} {ds:FL} {env:FJ} {h:AH} {Q:Dx->AH->Prop}:∀(n:Nat) {k:List Item},Ok P K (.todo fn ro ds env<|tN n k) h Q->Ok P K (.todo fn ro ds env k) h Q
 |0,_,a=>a
 |n+1,k,a=>by
  have st:∀{k':List Item},Ok P K _ h Q->(∀m,run P K _ _ h=run P K m (.todo fn ro ds env k') h)->Ok P K (.todo fn ro ds env k) h Q:=
   fun a b=>Ll b<|Vm n a
  unfold tN at a;split at a;grind[gT,run];exact st a fun _=>rfl;exact st a fun _=>rfl;exact st a fun _=>rfl;exact a
def we (P:Program) (f:FuncId) (Q:Value->AH->Prop):Dx->AH->Prop:=fun o b=>
 match o.iC with
 |.exit _=>False
 |_=>cC (dO o.ds b) fun a=>cC (mN P a o.env<|(P.funcs[f]?).elim [] fun fn=>fn.results.toList) fun c=>Q (Fz c) a
theorem aPl {fn:Func} {a:Code} {args:FJ} {h:AH} (e:P.funcs[f]?=some fn) (hb:fn.body=some a) (m:K f args=none)
  (r:Ok P K (.todo f none [] (args++List.replicate (fn.ntmps - args.length) undef) [.code a]) h (we P f Q)):Ok P K (.call f args) h fun o b=>Q o.v b:=by
 obtain⟨n,⟨o,g⟩,j,c⟩:=r
 have s:(∀id,o.iC≠.exit id)->(cC (dO o.ds g) fun c=>cC (mN P c o.env<|(P.funcs[f]?).elim [] fun fn=>fn.results.toList) fun d=>Q (Fz d) c)->Ok P K (.call f args) h fun o b=>Q o.v b:=by
  intro p ⟨l,t,d,i,q⟩;rw[e] at i;simp[Option.elim_some] at i;refine⟨n+1,(⟨.vY,[],[],Fz d⟩,l),?_,q⟩;show sW P K (run P K n) f args h=_;simp[sW,m,e,hb];rw[j];cases hlv:o.iC with
  |exit id=>grind
  |vY=>grind
  |ret=>grind
 grind[we]
def Pt (P:Program) (K:FuncId->FJ->IX) (fn:FuncId) (ro:Option Nat) (Q:Dx->AH->Prop) (n:Nat) (lv:FL) (k:List Item) (ds:FL) (vs:FJ) (h:AH):Prop:=
 ∀e:Nat->Value,lv.map e=vs->Ok P K (.todo fn ro ds ((List.range n).map e) k) h Q
def bg (P:Program) (h:AH) (env:FJ):List ResultVar->(FJ->Prop)->Prop
 |[],p=>p []
 |.tmp t::b,p=>bg P h env b fun l=>p (env.getD t undef::l)
 |.cell a t::b,p=>match nV P t with
  |some true=>cC (yU h (P.cellsOf t)<|env.getD a undef) fun v=>bg P h env b fun l=>p (v::l)
  |some false=>cC (vZ h<|env.getD a undef) fun v=>bg P h env b fun l=>p (v::l)
  |none=>False
theorem A1 {h:AH} {env:FJ}:∀{rs:List ResultVar} {p:FJ->Prop},bg P h env rs p->∃l,mN P h env rs=some l/\p l
 |[],p,b=>⟨[],rfl,b⟩
 |.tmp t::rs,p,b=>by
  have⟨l,c,h2⟩:=A1 (rs:=rs) b;grind[mN]
 |.cell a t::rs,p,b=>by
  simp only[bg] at b;split at b;rename_i d;obtain⟨v,c,b⟩:=b;have⟨l,h2,h3⟩:=A1 b;refine⟨_,?_,h3⟩;unfold yU at c;split at c;rename_i x e;have f:C9 P h t x=some v:=by rw[C9];rw[d];exact c
  grind[mN];cases c;rename_i d;obtain⟨v,c,b⟩:=b;have⟨l,h2,h3⟩:=A1 b;refine⟨_,?_,h3⟩;unfold vZ at c;split at c;rename_i x e;have f:C9 P h t x=some v:=by rw[C9];rw[d];exact c
  grind[mN];cases c;cases b
def aZ5 (P:Program) (f:FuncId) (Q:Value->AH->Prop) (lv:Fp) (ds:FL) (env:FJ) (h:AH):Prop:=match lv with
 |.exit _=>False
 |_=>cC (dO ds h) fun a=>bg P a env ((P.funcs[f]?).elim [] fun fn=>fn.results.toList) fun l=>Q (Fz l) a
theorem xd {h:AH} (a:aZ5 P f Q lv ds env h):we P f Q ⟨lv,ds,env,undef⟩ h:=by
 rw[we];cases lv with
 |exit id=>exact a
 |vY=>obtain⟨b,c,a⟩:=a;have⟨l,h3,h4⟩:=A1 a;simp_all
 |ret=>obtain⟨b,c,a⟩:=a;have⟨l,h3,h4⟩:=A1 a;simp_all
def Lm (l:Nat) (Q:Value->AH->Prop):Dx->AH->Prop:=fun o b=>
 o.ds=[]/\match o.iC with
 |.vY=>cC (eX b l .ready<|some none) fun a=>Q (.bool true) a
 |.ret=>cC (eX b l .done<|some<|some .ret) fun a=>Q (.bool false) a
 |.exit id=>cC (eX b l .done<|some<|some<|.exit id) fun a=>Q (.bool false) a
theorem aKi {l:Nat} {args:FJ} {h:AH} {p:Option Code} {b:FJ} {assign a:Code}
  (r:h.get l=some (.loop st p fn b ps assign a d)) (s:args.length=ps.size)
  (w:Ok P K (.todo fn (some l) [] ((ps.toList.zip args).foldl (fun t (p,v)=>t.set p v) b) [.code assign,.beginRound,.code a]) h (Lm l Q)):Ok P K (.round l args) h fun o i=>Q o.v i:=by
 obtain⟨n,⟨o,j⟩,y,e,f⟩:=w
 have x:∀g c,(match o.iC with
     |.vY=>(eX j l .ready<|some none).map fun e=>((⟨.vY,[],[],.bool true⟩:Dx),e)
     |.ret=>(eX j l .done<|some<|some .ret).map fun e=>(⟨.vY,[],[],.bool false⟩,e)
     |.exit id=>(eX j l .done<|some<|some<|.exit id).map fun e=>(⟨.vY,[],[],.bool false⟩,e))=some (g,c)->Q g.v c->Ok P K (.round l args) h fun o i=>Q o.v i:=by
  intro g c z u
  refine⟨n+1,(g,c),?_,u⟩
  show yD (run P K n) l args h=_
  simp only[yD,r,s,eD]
  grind
 split at f
 .obtain⟨c,m,q⟩:=f;grind
 .obtain⟨c,m,q⟩:=f;grind
 .obtain⟨c,m,q⟩:=f;grind
def cy (l:Nat) (Q:Value->AH->Prop) (lv:Fp) (ds:FL) (b:FJ) (h:AH):Prop:=match ds with
 |[]=>(match lv with
  |.vY=>cC (eX h l .ready<|some none) fun a=>Q (.bool true) a
  |.ret=>cC (eX h l .done<|some<|some .ret) fun a=>Q (.bool false) a
  |.exit id=>cC (eX h l .done<|some<|some<|.exit id) fun a=>Q (.bool false) a)
 |_=>False
theorem Zt {l:Nat} {h:AH} (a:cy l Q lv ds env h):Lm l Q ⟨lv,ds,env,undef⟩ h:=by
 unfold cy at a;cases ds with
 |nil=>refine⟨rfl,?_⟩;grind
 |cons d ds=>grind
end
noncomputable section
open Go.RowKit
variable {K:FuncId->FJ->IX}
def A3 (base:Nat) (old:Nat->JC):AH:={base:=base,next:=base,old:=old,kT:= .lf}
def Dq {base:Nat} (i:Nat):(A3 base old).get i=if i<base then old i else none:=by
 rw[AH.Pk];rw[A3];split;rfl;cases i - base<;>rfl
structure Y1 (P:Program) (base:Nat) (old:Nat->JC) (ρ:kX) (w:World):Prop where
 uE:∀i o,i<base->old i=some o->∀b s,ρ i=some (b,s)->∃o',w.heap[b]?=some o'/\zG P ρ s o o'
 low:∀i b s,i<base->ρ i=some (b,s)->b<w.heap.size
 none:∀i,base<=i->ρ i=none
 rR:∀g,g<P.globals.size->ρ g=some (g,(0,0))
def Y1.inv {base:Nat} {ρ:kX} (r:Y1 P base old ρ w):fT P w.heap.size ρ (A3 base old) w where
 uE:=fun i o c b s d=>by
  rw[Dq] at c;split at c;rename_i a;exact r.uE i o a c b s d;cases c
 inj:=fun i j b e f a _ gi=>by
  rw[Dq,bD1<|FI.2<|show base<=_ from a] at gi;cases gi
 low:=fun i b s a gi=>by
  rw[Dq,bD1<|FI.2<|show base<=_ from a] at gi;cases gi
 old:=fun i b s a d=>r.low i b s a d
 iD:=fun i a=>r.none i a
 kW:=fun i a=>by rw[Dq,bD1<|FI.2<|show base<=_ from a]
 rR:=r.rR
 size:=bb _
 bn:=bb _
def U1 (C:Pj P w.heap.size K) (j:C.G w) {base:Nat} {ρ:kX} (r:Y1 P base old ρ w) {args a:FJ} (ha:bP ρ args a) {Q:Dx->AH->Prop}
  (g:Ok P K (.call f args) (A3 base old) Q):
  Calls P f ⟨a⟩ w fun e d=>∃ρ' o b c,e= .returned c/\bB ρ' o.v c/\Q o b/\fT P w.heap.size ρ' b d/\Below w.heap.size w d:=by
 obtain⟨n,⟨o,b⟩,m,l⟩:=g
 intro i
 have⟨e,d,fr,⟨ρ',c,he,hv,hevo⟩,h1,h2,h3⟩:=aDd C n _ _ o b m ρ w a r.inv j ha i
 exact⟨e,d,fr,⟨ρ',o,b,c,he,hv,l,hevo.inv,hevo.below r.inv⟩,h1,h2,h3⟩
end
noncomputable section
variable {K:FuncId->FJ->IX}
def Nr:Code->FL->Code
 |c,[]=>c
 |.seq a _,0::p=>Nr a p
 |.seq _ b,1::p=>Nr b p
 |.cond _ t _,0::p=>Nr t p
 |.cond _ _ e,1::p=>Nr e p
 |.block _ b,0::p=>Nr b p
 |.loop b,0::p=>Nr b p
 |.scope b,0::p=>Nr b p
 |.rangeFunc _ _ a _,0::p=>Nr a p
 |.rangeFunc _ _ _ b,1::p=>Nr b p
 |_,_=> .skip
def S5 (P:Program) (f:FuncId):Option Code:=(P.funcs[f]?).bind (·.body)
def ntm (P:Program) (f:FuncId):Nat:=(P.funcs[f]?).elim 0 (·.ntmps)
def cd (P:Program) (f:FuncId) (p:FL):Code:=Nr ((S5 P f).getD .skip) p
def Cl (P:Program) (K:FuncId->FJ->IX) (f:FuncId) (args:FJ) (h:AH) (Q:Value->AH->Prop):Prop:=Ok P K (.call f args) h fun o a=>Q o.v a
def lpB (P:Program) (f:FuncId) (p:FL) (n:Nat) (e:Nat->Value) (d:Nat) (st:LoopState) (pd:Option Code):qU:=match cd P f p with
 |.rangeFunc _ c a b=> .loop st pd f ((List.range n).map e) c a b d
 |_=> .wO false
abbrev I (n:Int):Value:= .int .i64 n
def pt (b o j:Nat):Value:= .pointer (some ⟨b,o+j,none⟩)
abbrev JM (b:Nat):=pt b 0 0
def aX5:Nat->Nat->FL->FL
 |0,_,acc=>acc
 |f+1,n,acc=>if n<=1 then acc else aX5 f (n/2) (n % 2::acc)
def qK (n:Nat):FL:=aX5 120 n []
def rgF:Code->Operand×Array Tmp×Code×Code
 |.rangeFunc f c a b=>(f,c,a,b)
 |_=>(.tmp 0, #[],.skip,.skip)
end
end Go.Ab
