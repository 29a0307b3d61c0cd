/- A part of the proof. -/
import Derived.Test.YtgfankkobgfhnaaGreatDoorG2
set_option linter.all false
open Go Go.Ab
variable {P:Program} {l:EW} {i n:Nat} {all:List Oper} {o:Oper}
namespace Go.Ab
open Go.RowKit
variable {B:Nat} {K:FuncId->EU->IE}
theorem cz {α:Type} {l:List α} {f:α×Nat->Bool} (h:l.zipIdx.all f=true) {k:Nat} {o:α} (a:l[k]?=some o):f (o,k)=true:=by
 grind
theorem o8 (b:l.Pairwise (·<·)) {p:Nat} (a:l.find? (fun x=>decide<|i<x)=some p):i<p/\p∈l/\∀j∈l,i<j->p<=j:=by
 grind[List.find?_eq_some_iff_append,List.pairwise_cons]
structure Fit (all:List Oper):Prop where
 dir:∀(k:Nat) o,all[k]?=some o->∀j∈iH o,j<k
 kind:∀(k:Nat) o,all[k]?=some o->fR o.op≠.Jr
 vT:∀i j:Nat,∀t,(all[i]?).bind (·.dst)=some t->(all[j]?).bind (·.dst)=some t->i=j
 tmps:∀i j:Nat,∀o p d,all[i]?=some o->all[j]?=some p->i≠j->p.dst=some d->d∈Kr all o->(j<i->qU (iW all []) j i=true)/\(i<j->qU (iW all []) i j=true)
 Di:∀i j:Nat,∀o p,all[i]?=some o->all[j]?=some p->fL o.op=true->fL p.op=true->j<i->qU (iW all []) j i=true
theorem ti (h:R8 all=true):Fit all:=by
 simp only[R8,ep] at h;obtain⟨⟨⟨b,g⟩,c⟩,_⟩:=h;have pair:∀i j:Nat,∀o p,all[i]?=some o->all[j]?=some p->i≠j->
   (o.dst.isNone||o.dst !=p.dst)=true/\
   (match p.dst with|some d=> !(Kr all o).contains d||(if j<i then qU (iW all []) j i else qU (iW all []) i j)|none=>true)=true/\
   (!(fL o.op&&fL p.op&&decide (j<i))||qU (iW all []) j i)=true:=by
  intro i j o p a f e
  have:=cz (cz c a) f
  grind
 refine {dir:=?_,kind:=?_,vT:=?_,tmps:=?_,Di:=?_};intro k o a j l;have:=cz b a;grind;grind;grind;grind;grind
theorem aTu {s:Nat} (d:n=all.length) (c:i<n):
  let Di:=(List.range n).filter fun i=>(all[i]?).any fun o=>fL o.op
  ((Di++[n]).find? fun x=>decide<|i<x).getD n=s->i<s/\∀j p,i<j->j<s->all[j]?=some p->fL p.op=false:=by
 intro Di b
 have a:(Di++[n]).Pairwise (·<·):=by
  rw[List.pairwise_append];refine⟨(List.pairwise_lt_range).filter _,FF,?_⟩;grind
 cases hf:(Di++[n]).find? fun x=>decide (i<x) with
 |none=>
  grind
 |some p=>
  rw[hf] at b
  simp[p4] at b
  grind[o8]
theorem vb {s:Nat} (f:all[i]?=some o) (e:mW o.op=true) (d:s=all.length\/∃p,all[s]?=some p/\fL p.op=true)
  (b:∀j p,all[j]?=some p->fL p.op=true->(j<s->qU (iW all []) i j=false)/\(s<=j->qU (iW all []) j i=false))
  (a:¬(i<s/\∀j p,i<j->j<s->all[j]?=some p->fL p.op=false)):(i,s)∈Ou all:=by
 have c:i<all.length:=FB
 unfold Ou
 simp only
 rw[EG]
 refine⟨i,FB,?_⟩
 rw[bA1 FB,eV]
 refine⟨s,?_,rfl⟩
 rw[BB]
 constructor
 .grind
 .rw[ep];constructor
  .simp only[bne_iff_ne,ne_eq];grind[aTu]
  grind
theorem l8 {R:mS} {all:List Oper} {d:Nat}:∀(os:List Oper) (i:Nat) (env:EU) (h:AH) (rs:List Rec) (e:EU) (b:AH),mT P R all d i os env h=some (rs,e,b)->rs.length=os.length
 |[],i,env,h,rs,e,b,a=>by
  grind[mT,Option.some.injEq,Prod.mk.injEq]
 |o::os,i,env,h,rs,e,b,a=>by
  simp[mT] at a;split at a;split at a;rename_i c;simp[Option.some.injEq,Prod.mk.injEq] at a;rw[<-a.1,hK,hK,l8 os _ _ _ _ _ _ c];cases a;cases a
theorem aO1 (C:Vz P B K) (R:mS) (hR:Jj C R):aFe C R:=by
 intro ops env h Y h' c ρ w b a X k t f hg he;rw[Bl] at c;split at c;rename_i q;rw[ep] at q;obtain⟨q,A⟩:=q;split at c;rename_i rs e Z r;split at c;rename_i y;simp[Option.some.injEq,Prod.mk.injEq] at c;obtain⟨rfl,rfl⟩:=c;have fit:=ti q;generalize g:ops.toList=all at fit r y q;have α:ops.size=all.length:=by rw[<-g];simp
 have⟨E,H,V,hE0,hH0,hstep,hEn,hHn,hrs⟩:=S1 all 0 env _ rs e Z r;have d:Dr P R all h.next E H V:={
  step:=fun j o S=>FB
  env:=FB
  dir:=fit.dir,kind:=fit.kind,vT:=fit.vT,tmps:=fit.tmps,Di:=fit.Di
  flt:=fun i s o S hl hs T J I hw=>by
   rw[ss] at y;have:=y (i,s)<|vb S hl T J I;have N:i<all.length:=FB;simp only[Ir,S,hrs i N,hw] at this;have hh:hZ P (eK P<|E i) (H s) o.op=some (V i):=by
    rcases ql s all.length with x|x;grind[ct];grind[List.getElem?_eq_none,l8,ct]
   exact hh}
 have hB:=f.size;have M:gB P B ρ (H 0) w:=by
  rw[hH0];exact {yS:=f.yS,inj:=f.inj,low:=f.low,old:=f.old,iT:=fun i x=>f.iT i FB,lZ:=fun i x=>f.lZ i FB,xS:=f.xS,size:=f.size,bn:=by have:=f.bn;grind}
 have z:∀i,(H 0).get i=h.get i:=fun i=>by rw[hH0];rfl
 have U:St P B all h.next E H V ρ h w [] 0 ρ w a.tmps.toList:={
  K2:={ext:=F1.refl _,inv:=M,un:=fun _ _ h=>h,sQ:=FB,stay:=fun i _ x=>FB,frame:=FB,
                range:=FB,base:=by rw[hH0],C8:=FB,size:=b0 _,os:=rfl,out:=rfl,tape:=rfl}
  dlt:=FB
  sI:=FB
  s1:=FA
  s3:=FB
  sle:=m6 _
  env:=by rwa [hE0]
  nx:=FB
  nA:=FB
  Cy:=fun i n t x u=>HY
  lone:=fun i n t _ x u=>HY
  Qd:=fun i i' n t t' _ _ u=>HY
  y8:=fun i _ _=>f.iT _ FA
  unA:=fun i o _ _=>f.iT _ FA
  rev:=FA
  zy:=fun j _ _=>by rw[z];exact f.lZ _ FA
  gr:=fun m hm _=>(have:m=0:=FA;this▸vZ.refl _)}
 obtain⟨s,W,L⟩:=U.dk d f.bn hB _ _ rfl;have v:Region.schedule (P.follows .mixedOrders) ops t=Region.linearise.go .any ops ops.size t (Array.replicate ops.size false) []:=by
  rw[Region.schedule];rw[bA1 A];rfl
 have G:E0 all [] (Region.schedule (P.follows .mixedOrders) ops t):=by
  rw[v,<-g];apply Je (by rw[g];exact fit.dir) ops.size t _ [] FF (fun i f=>by simp[f]);grind
 have⟨D',ρ',w',a',st2,hin,hdef,hst⟩:=T9 C hR g d f.bn hB f hg (b:=b) (cs:=X) (k:=k) _ [] s ρ w a G L W;have l:=st2.K2;rw[hHn] at l;have O:=st2.nx;rw[hHn] at O;refine⟨ρ',w',a',l.K2 FA,?_,hdef,hst⟩;have D:e=Fw all V (E 0) D':=by
  rw[<-hEn,d.aSm _<|b0 _];refine q6 fun t=>V6 (fun i j x u=>fit.vT i j t x u) fun j hj=>?_;have F:j<all.length:=by
   cases hp:all[j]? with
   |none=>grind
   |some p=>grind
  simp[F,hin j F]
 rw[D];exact st2.env;cases c;cases c;cases c
def aC2 (C:Vz P B K) (n:Nat):Jj C (run P K n):=sq C (aO1 C) n
end Go.Ab
variable {e:Operand->Value} {op:Op} {r:Value×AH} {env:EU} {f fn:FuncId} {ro:Option Nat} {ds:EW}
namespace Go.Ab
variable {K:FuncId->EU->IE}
def mS.le (R a:mS):Prop:=∀t h r,R t h=some r->a t h=some r
variable {d:mS}
theorem Lq {R:mS} (f:R.le d) {h:AH} (a:gP P R e h op=some r):gP P d e h op=some r:=by
 unfold gP at a ⊢;split;exact a;exact a;simp only at a ⊢;split;grind;rename_i i;simp only[i] at a;split;rename_i b;simp only[b] at a;split;rename_i g;rw[bA1 g] at a;simp only[cg] at a ⊢;obtain⟨x,c,rfl⟩:=a;exact⟨x,f _ _ _ c,rfl⟩;grind;rename_i b;simp only[b] at a;simp only[cg] at a ⊢;obtain⟨x,c,rfl⟩:=a;exact⟨x,f _ _ _ c,rfl⟩;grind;grind;grind
theorem W8 {R a:mS} (b:R.le a) {h:AH} (c:uL P R env h op=some r):uL P a env h op=some r:=by
 grind[uL,fR,Lq]
theorem Pn {R:mS} (g:R.le d) {e:Nat} {h:AH} (a:lA P R all e i env h o=some r):lA P d all e i env h o=some r:=by
 rw[lA] at a ⊢;cases hw:gR _ env o with
 |none=>grind
 |some b=>
  rw[hw] at a;cases b with
  |false=>exact a
  |true=>
   simp only at a ⊢;split;grind;rename_i f;rw[bA0 f] at a;split;grind;rename_i c;rw[bA0 c] at a;grind[Lq]
theorem G8 {R b:mS} (c:R.le b) {all:List Oper} {d:Nat}:∀(os:List Oper) {i:Nat} {env:EU} {h:AH} {r:List Rec×EU×AH},mT P R all d i os env h=some r->mT P b all d i os env h=some r
 |[],_,_,_,_,a=>a
 |o::os,i,env,h,r,a=>by
  simp[mT] at a ⊢;split at a;rename_i v j f;rw[Pn c f];simp only;split at a;rename_i l e g;rwa [G8 c os g];cases a;cases a
variable {ops:Array Oper}
theorem Sd {R a:mS} (d:R.le a) {h:AH} {r:EU×AH} (b:Bl P R ops env h=some r):Bl P a ops env h=some r:=by
 rw[Bl] at b ⊢;split;rename_i c;rw[bA1 c] at b;grind[G8];grind
theorem aBm {R:mS} (c:R.le d) {all:Array Oper} {rest:List Oper} {h:AH} {r:Dn×AH} (a:Cg P R all rest env h=some r):Cg P d all rest env h=some r:=by
 unfold Cg at a ⊢;cases rest with
 |nil=>exact a
 |cons o rest=>
  simp only at a ⊢;cases hw:gR all env o with
  |none=>grind
  |some b=>
   rw[hw] at a;cases b with
   |false=>exact c _ _ _ a
   |true=>
    simp only at a ⊢;split at a;rename_i v f e;rw[W8 c e];exact c _ _ _ a;cases a
theorem wo {R:mS} (e:R.le d) {args:EU} {h:AH} {r:Dn×AH} (a:sU P K R f args h=some r):sU P K d f args h=some r:=by
 rw[sU] at a ⊢;split;grind;rename_i b;rw[b] at a;simp only at a;split at a;rename_i c;rwa [e _ _ _ c];cases a;grind;rename_i b;rw[b] at a;simp only at a;split at a;split at a;split at a;rename_i c;rwa [e _ _ _ c];cases a;cases a;cases a
def fc {R b:mS} (d:R.le b) {l:Nat} {args:EU} {h:AH} {r:Dn×AH} (a:yB R l args h=some r):yB b l args h=some r:=by
 rw[yB] at a ⊢;split at a;split at a;rename_i c;rw[bA1 c];split at a;rename_i e;rwa [d _ _ _ e];cases a;cases a;cases a
variable {k:List Item}
def uo {R j:mS} (b:R.le j) {h:AH} {r:Dn×AH} (a:gT P R fn ro ds env k h=some r):gT P j fn ro ds env k h=some r:=by
 unfold gT at a ⊢;split at a;exact a;rename_i c k;split at a;exact b _ _ _ a;exact b _ _ _ a;exact b _ _ _ a;split at a;exact b _ _ _ a;cases a;exact b _ _ _ a;exact b _ _ _ a;exact b _ _ _ a;split at a;exact b _ _ _ a;exact a;exact a;split at a;rename_i i;rw[b _ _ _ i];exact b _ _ _ a;cases a;split at a;rename_i i;rw[Sd b i];exact b _ _ _ a;cases a;split at a;rename_i d o l n;split at a;rename_i g first e p
 split at a;rename_i f;rw[bA1 f];split at a;rename_i i;rw[b _ _ _ i];simp only;split at a;split at a;cases a;rename_i m;rw[bA0 m];split at a;exact b _ _ _ a;cases a;cases a;cases a;cases a;cases a;cases a;cases a;exact b _ _ _ a;exact b _ _ _ a;exact b _ _ _ a;split at a;split at a;split at a;exact b _ _ _ a;cases a;cases a;cases a;cases a
def aIq:∀n,(run P K n).le (run P K<|n+1)
 |0,t,h,r,a=>by simp[run] at a
 |n+1,t,h,r,a=>by
  have c:=aIq n;cases t with
  |todo fn ro ds env k=>exact uo c a
  |ops all rest env=>exact aBm c a
  |call f b=>exact wo c a
  |round l b=>exact fc c a
def pY {m:Nat} (h:n<=m):(run P K n).le (run P K m):=by
 induction h with
 |refl=>exact fun _ _ _ h=>h
 |step _ b=>exact fun t g r a=>aIq _ _ _ _<|b t g r a
end Go.Ab
variable {t:TypeId} {a b v:Value} {x y:Operand} {Q q:Value->AH->Prop} {j m w:Operand->Value} {old:Nat->II}
namespace Go.Ab
variable {at_:Array TypeId} {k:List Item} {lv:Ff} {ps:Array Tmp} {st:LoopState} {p:Option Code}
noncomputable section
variable {K:FuncId->EU->IE}
def Zb (k:Nat) (a b:Value):Option Bool:=match k,a,b with
 |0,.int k m,.int c n=>if k=c then some (m==n) else none
 |1,.bool m,.bool n=>some (m==n)
 |2,.string m,.string n=>some (m==n)
 |_,_,_=>none
def vW:EW->EU->EU->Option Bool
 |[],[],[]=>some true
 |k::c,x::d,y::e=>match Zb k x y,vW c d e with
  |some a,some b=>some (a&&b)
  |_,_=>none
 |_,_,_=>none
def Uk (P:Program) (c:TypeId->IT):Nat->List Field->IT
 |_,[]=>some []
 |o,f::d=>if f.name="_"\/f.offset≠o then none else
  match c f.type,Uk P c (o+P.cellsOf f.type) d with
  |some a,some b=>if a.length=P.cellsOf f.type then some (a++b) else none
  |_,_=>none
def X9 (P:Program):Nat->TypeId->IT
 |0,_=>none
 |d+1,t=>match P.underlying t with
  |some .bool=>some [1]
  |some (.int _)=>some [0]
  |some .string=>some [2]
  |some (.array n e)=>if(P.info? e).isSome then
    (match X9 P d e with
    |some l=>if l.length=P.cellsOf e then some (List.replicate n l).flatten else none
    |none=>none) else none
  |some (.struct a)=>if P.stoodInHeld t then none else Uk P (X9 P d) 0 a.toList
  |_=>none
theorem xV:∀{c:EW} {a b:EU} {r:Bool},vW c a b=some r->a.length=c.length/\b.length=c.length
 |[],[],[],_,_=>⟨rfl,rfl⟩
 |[],[],_::_,_,h=>GX
 |[],_::_,_,_,h=>GX
 |_::_,[],_,_,h=>GX
 |_::_,_::_,[],_,h=>GX
 |k::c,x::e,y::f,r,h=>by
  simp[vW] at h;split at h;rename_i d;have:=xV d;simp[this];cases h
theorem J4:∀{c d:EW} {a b:EU} {r:Bool},vW (c++d) a b=some r->∃e f,vW c (a.take c.length) (b.take c.length)=some e/\vW d (a.drop c.length) (b.drop c.length)=some f/\r=(e&&f)
 |[],d,a,b,r,h=>⟨true,r,by simp[vW],FB,FF⟩
 |k::g,d,[],_,r,h=>GX
 |k::g,d,_::_,[],r,h=>GX
 |k::g,d,x::n,y::o,r,h=>by
  simp[e7,vW] at h;split at h;rename_i e f j i;cases h;obtain⟨s1,s2,l,m,rfl⟩:=J4 i;grind[vW,Bool.and_assoc];cases h
def vO (P:Program) (t:TypeId) (a:EU):EY:=match oB P t with
 |some true=>some (.agg ⟨a⟩)
 |some false=>a[0]?
 |none=>none
theorem Iw {xs a:EU} {b:Nat} (d:(xs.drop b).take (P.cellsOf t)=a) (e:a.length=P.cellsOf t) (c:0<P.cellsOf t\/b<=xs.length) (f:vO P t a=some v):iZ P t xs b=some v:=by
 grind[vO,iZ]
theorem Wu {eq:TypeId->Value->Value->Option Bool} {g:TypeId->IT}
  (l:∀t d a b r,g t=some d->d.length=P.cellsOf t->vW d a b=some r->∃x y,vO P t a=some x/\vO P t b=some y/\eq t x y=some r)
  {xs ys:EU}:∀(fs:List Field) (o:Nat) (d:EW) (r:Bool),o<=xs.length->o<=ys.length->Uk P g o fs=some d->vW d (xs.drop o) (ys.drop o)=some r->rT P eq xs ys fs=some r
 |[],o,d,r,_,_,c,e=>by
  grind[Uk,Option.some.injEq,xV,List.eq_nil_of_length_eq_zero,vW,rT]
 |f::fs,o,d,r,v,w,c,e=>by
  simp only[Uk] at c;split at c;cases c;rename_i j;simp[not_or,aW,ne_eq] at j;split at c;rename_i a b p q;split at c;rename_i u;cases c;obtain⟨A,z,i,s,rfl⟩:=J4 e;have⟨x,y,hx,hy,he⟩:=l _ _ _ _ _ p u i;have l3:=xV i;have lc:=xV e;simp[oH,cV] at lc;have m:iZ P f.type xs f.offset=some x:=Iw FB FB FA hx;have n:iZ P f.type ys f.offset=some y:=Iw FB FB FA hy;simp[rT];rw[bA0 j.1,m,n];simp[he];rw[sl,sl] at s;have:=Wu (xs:=xs) (ys:=ys) l fs _ b z FA FA q FB;grind;cases c;cases c
theorem ib {eq:TypeId->Value->Value->Option Bool} {e:TypeId} {l:EW}
  (g:∀a b r,vW l a b=some r->∃x y,vO P e a=some x/\vO P e b=some y/\eq e x y=some r) (d:l.length=P.cellsOf e)
  {xs ys:EU}:∀(n j:Nat) (r:Bool),j*P.cellsOf e<=xs.length->j*P.cellsOf e<=ys.length->vW (List.replicate n l).flatten (xs.drop<|j*P.cellsOf e) (ys.drop<|j*P.cellsOf e)=some r->xM P eq e xs ys (List.range' j n)=some r
 |0,j,r,_,_,c=>by
  have:=xV c;grind[List.flatten_nil,List.length_nil,List.eq_nil_of_length_eq_zero,vW,xM]
 |n+1,j,r,p,q,c=>by
  rw[AR,BG] at c;obtain⟨u,s,f,o,rfl⟩:=J4 c;have⟨x,y,hx,hy,he⟩:=g _ _ _ f;have l3:=xV f;have lc:=xV c;simp only[oH,cV] at lc;have i:iZ P e xs (j*P.cellsOf e)=some x:=Iw (by rw[<-d]) FB FA hx;have m:iZ P e ys (j*P.cellsOf e)=some y:=Iw (by rw[<-d]) FB FA hy;simp[List.range'_succ,xM,i,m,he];rw[sl,sl] at o;have t:(j+1)*P.cellsOf e=j*P.cellsOf e+P.cellsOf e:=FB;have:=ib (xs:=xs) (ys:=ys) g d n (j+1) s FA FA FB;grind
theorem aLw (d:Nat):∀(t:TypeId) (g:EW) (a b:EU) (r:Bool),X9 P d t=some g->g.length=P.cellsOf t->vW g a b=some r->
  ∃x y,vO P t a=some x/\vO P t b=some y/\Jd P d t x y=some r:=by
 induction d with
 |zero=>grind[X9]
 |succ d s=>
  intro t g a b r h i m
  have E8:∀k,g=[k]->∃x y,a=[x]/\b=[y]/\Zb k x y=some r:=fun k i=>by
   subst i;have:=xV m;match a,b,this with
   |[x],[y],_=>
    grind[vW]
  unfold X9 at h
  split at h
  .rename_i c;obtain⟨x,y,rfl,rfl,f⟩:=E8 1 FB;refine⟨x,y,FX,FX,?_⟩;unfold Zb at f;split at f
   .grind
   .simp_all[Jd]
   .grind
   .cases f
  .rename_i k c;obtain⟨x,y,rfl,rfl,f⟩:=E8 0 FB;refine⟨x,y,FX,FX,?_⟩;unfold Zb at f;split at f
   .simp_all[Jd]
   .grind
   .grind
   .cases f
  .rename_i c;obtain⟨x,y,rfl,rfl,f⟩:=E8 2 FB;refine⟨x,y,FX,FX,?_⟩;unfold Zb at f;split at f
   .grind
   .grind
   .simp_all[Jd]
   .cases f
  .rename_i n e c;split at h
   .rename_i o;split at h
    .rename_i l q;split at h
     .rename_i hle;cases h;refine⟨.agg ⟨a⟩,.agg ⟨b⟩,FX,FX,?_⟩;simp only[Jd,c,o,ew];grind[List.range_eq_range',ib]
     .cases h
    .cases h
   .cases h
  .rename_i j c;split at h
   .cases h
   .rename_i p;refine⟨.agg ⟨a⟩,.agg ⟨b⟩,FX,FX,?_⟩;simp only[Jd,c,p,aO,dd];exact Wu FA j.toList 0 g r FF FF h FB
  .cases h
def eqn (op:BinOp) (r:Bool):EY:=match op with
 |.eql=>some (.bool r)
 |.neq=>some (.bool !r)
 |_=>none
def Be (op:BinOp) (a b:Value):EY:=match a,b with
 |.int k m,.int c n=>if k=c then Vp op k m n else none
 |_,_=>none
def dr (op:BinOp) (a b:Value):EY:=match a,b with
 |.pointer none,.pointer b=>eqn op b.isNone
 |.pointer (some _),.pointer none=>eqn op false
 |_,_=>none
def bf (op:BinOp) (a b:Value):EY:=match a,b with
 |.slice none _ _,.slice b _ _=>eqn op b.isNone
 |.slice (some _) _ _,.slice none _ _=>eqn op false
 |_,_=>none
def dm (c:Bool) (op:BinOp) (a b:Value):EY:=match a,b with
 |.nilIface,.nilIface=>if c then eqn op true else none
 |.nilIface,.iface _ _=>eqn op false
 |.iface _ _,.nilIface=>eqn op false
 |_,_=>none
def Xy (c:EW) (op:BinOp) (a b:Value):EY:=match a,b with
 |.agg d,.agg e=>(vW c d.toList e.toList).bind (eqn op)
 |_,_=>none
def Qn (P:Program) (t:TypeId):IT:=match X9 P 10000 t with
 |some a=>if a.length=P.cellsOf t/\oB P t=some true/\P.eqGuardType P.depth t=false then some a else none
 |none=>none
def jq (P:Program) (op:BinOp) (t:TypeId) (x y:Operand) (a b:Value) (q:Value->Prop) (cE:EY->(Value->Prop)->Prop):Prop:=
 match P.underlying t with
 |some (.int _)=>cE (Be op a b) q
 |some (.pointer _)=>cE (dr op a b) q
 |some (.slice _)=>cE (bf op a b) q
 |some (.interface _)=>cE (dm (E9 x||E9 y) op a b) q
 |some (.struct _)=>(match Qn P t with
  |some c=>cE (Xy c op a b) q
  |none=>False)
 |some (.array _ _)=>(match Qn P t with
  |some c=>cE (Xy c op a b) q
  |none=>False)
 |_=>False
theorem xW {op:BinOp} {r:Bool} (e:∀k m c n,¬(a= .int k m/\b= .int c n)) (i:∀m n,¬(a= .string m/\b= .string n)) (d:eqn op r=some v) (f:Pk P t x y a b=true) (g:Jd P 10000 t a b=some r):
  qp P op t x y a b=some v:=by
 unfold qp
 grind[eqn]
def zX {r:Bool} (h:Jd P (9999+1) t a b=some r):Jd P 10000 t a b=some r:=h
theorem ju {op:BinOp} {q:Value->Prop} (e:jq P op t x y a b q fun o p=>∃v,o=some v/\p v):∃v,qp P op t x y a b=some v/\q v:=by
 unfold jq at e;split at e;obtain⟨v,c,f⟩:=e;refine⟨v,?_,f⟩;unfold Be at c;grind[qp];rename_i j;obtain⟨v,c,f⟩:=e;refine⟨v,?_,f⟩;unfold dr at c;split at c;exact xW FB FB c rfl<|zX GL;exact xW FB FB c rfl<|zX GL;cases c;rename_i j;obtain⟨v,c,f⟩:=e;refine⟨v,?_,f⟩;unfold bf at c;split at c;exact xW FB FB c rfl<|zX GL;exact xW FB FB c rfl<|zX GL;cases c;rename_i j;obtain⟨v,c,f⟩:=e;refine⟨v,?_,f⟩;unfold dm at c;split at c;split at c;rename_i g;exact xW FB FB c (by grind[Pk])<|zX GL;cases c;exact xW FB FB c rfl<|zX GL;exact xW FB FB c rfl<|zX GL;cases c;all_goals
  first
   |cases e
   |split at e
    .rename_i z d;obtain⟨v,c,f⟩:=e;refine⟨v,?_,f⟩;unfold Xy at c;split at c
     .rename_i u w;simp only[BP] at c;obtain⟨r,n,m⟩:=c;rw[Qn] at d;split at d
      .rename_i s i;split at d
       .rename_i g;cases d;have⟨x',y',hx',hy',hq⟩:=aLw 10000 t _ _ _ _ i g.1 n;simp only[vO,g.2.1,Option.some.injEq] at hx' hy';have l:x'= .agg u:=hx'.symm;have e2:y'= .agg w:=hy'.symm;subst l e2;exact xW FB FB m (by grind[Pk]) hq
       .cases d
      .cases d
     .cases c
    .cases e
def Ok (P:Program) (K:FuncId->EU->IE) (t:aL2) (h:AH) (Q:Dn->AH->Prop):Prop:=∃n r,run P K n t h=some r/\Q r.1 r.2
def cE {α:Type} (o:Option α) (p:α->Prop):Prop:=∃v,o=some v/\p v
def Br (v:Value) (p q:Prop):Prop:=∃b,v= .bool b/\(b=true->p)/\(b=false->q)
theorem Ok.mono {t:aL2} {h:AH} {Q a:Dn->AH->Prop} (k:Ok P K t h Q) (e:∀o b,Q o b->a o b):Ok P K t h a:=
 let⟨n,r,c,d⟩:=k;⟨n,r,c,e _ _ d⟩
@[simp] theorem aWb {α:Type} {v:α} {p:α->Prop}:cE (some v) p↔p v:=⟨fun⟨_,h,k⟩=>FB,fun k=>⟨v,rfl,k⟩⟩
@[simp] theorem aUn {α:Type} {p:α->Prop}:cE none p↔False:=⟨fun⟨_,h,_⟩=>(nomatch h),False.elim⟩
@[congr] theorem aUg {α:Type} {o o':Option α} {p:α->Prop} (h:o=o'):cE o p↔cE o' p:=by rw[h]
theorem cE.mono {α:Type} {o:Option α} {p c:α->Prop} (h:cE o p) (k:∀v,p v->c v):cE o c:=let⟨v,a,b⟩:=h;⟨v,a,k v b⟩
@[simp] theorem aOs {p q:Prop}:Br (.bool true) p q↔p:=⟨fun⟨b,h,k,_⟩=>FB,fun k=>⟨true,rfl,fun _=>k,FF⟩⟩
@[simp] theorem aK3 {p q:Prop}:Br (.bool false) p q↔q:=⟨fun⟨b,h,_,k⟩=>FB,fun k=>⟨false,rfl,FF,fun _=>k⟩⟩
def mr {b:Bool} {p q:Prop} (a:b=true->p) (c:b=false->q):Br (.bool b) p q:=⟨b,rfl,a,c⟩
@[congr] theorem aVb {v a:Value} {p q:Prop} (h:v=a):Br v p q↔Br a p q:=by rw[h]
def xE (h:AH) (p:Value):EY:=match p with
 |.pointer (some a)=>if a.spot.isSome then none else
  (match h.get a.block with
  |some (.cells c _ _ _)=>c[a.off]?
  |_=>none)
 |_=>none
def zJ (h:AH) (n:Nat) (p:Value):EY:=match p with
 |.pointer (some a)=>(eE h a n).map fun l=> .agg ⟨l⟩
 |_=>none
def tH (p:Value):EY:=match p with
 |.pointer (some a)=>some (.pointer<|some a)
 |.func (.func f) a b=>some (.func (.func f) a b)
 |.func (.yield f) a b=>some (.func (.yield f) a b)
 |_=>none
def py (op:UnOp) (x:Value):EY:=match op,x with
 |.neg,.int k n=>some (.int k<|k.wrap<|0 - n)
 |.not,.bool b=>some (.bool !b)
 |_,_=>none
def mC (n:Nat) (p:Value):EY:=match p with
 |.pointer (some a)=>some (.pointer<|some<|a.add n)
 |_=>none
def yV (a:Nat) (x:Value):EY:=match x with
 |.agg b=>b.toList[a]?
 |_=>none
def yE (a n:Nat) (x:Value):EY:=match x with
 |.agg b=>if a+n<=b.toList.length then some (.agg ⟨(b.toList.drop a).take n⟩) else none
 |_=>none
def vS (n b:Nat) (x i:Value):EY:=match x,i with
 |.pointer (some a),.int _ i=>if 0<=i/\i<n then some (.pointer<|some<|a.add<|i.toNat*b) else none
 |_,_=>none
def qY (b:Nat) (x i:Value):EY:=match x,i with
 |.slice (some a) n _,.int _ i=>if 0<=i/\i<n/\a.spot=none then some (.pointer<|some<|a.add<|i.toNat*b) else none
 |_,_=>none
def Xn (n b:Nat) (x i:Value):EY:=match x,i with
 |.agg a,.int _ i=>if 0<=i/\i<n then a.toList[i.toNat*b]? else none
 |_,_=>none
def lz (n a:Nat) (x i:Value):EY:=match x,i with
 |.agg b,.int _ i=>if 0<=i/\i<n/\i.toNat*a+a<=b.toList.length then some (.agg ⟨(b.toList.drop<|i.toNat*a).take a⟩) else none
 |_,_=>none
def yM (i:Nat) (t:Value):EY:=match t with
 |.tuple a=>a.toList[i]?
 |_=>none
def Ba (h:AH) (n:Nat) (p v:Value):IQ:=match p with
 |.pointer (some a)=>(match nG v with
  |some b=>if b.length=n then iU h a b else none
  |none=>none)
 |_=>none
def rE (e:TypeId) (v:Value):II:=(nG v).map fun l=> .cells l e (0,0) true
def Qe (bytes:Nat) (l c:Value):Option (Nat×Nat):=match l,c with
 |.int _ l,.int _ c=>if 0<=l/\l<=c/\c<=2^40/\bytes*c<=2^47 then some (l.toNat,c.toNat) else none
 |_,_=>none
def tQ (cells:EU):List (Nat×Nat×Value)->IN
 |[]=>some cells
 |(a,size,v)::rest=>match nG v with
  |some b=>if b.length=size/\a+b.length<=cells.length then tQ (dU cells a b) rest else none
  |none=>none
def Dz (place:Nat->Option (Nat×Nat)) (b:Operand->Value):List (Nat×Operand)->Option (List<|Nat×Nat×Value)
 |[]=>some []
 |(i,x)::rest=>match place i,Dz place b rest with
  |some (a,size),some l=>some ((a,size,b x)::l)
  |_,_=>none
theorem Ll {place:Nat->Option (Nat×Nat)} {b:Operand->Value}:∀{a:List (Nat×Operand)} {l:List (Nat×Nat×Value)} {cells:EU},Dz place b a=some l->Mq place cells (a.map fun p=>(p.1,b p.2))=tQ cells l
 |[],l,cells,h=>by simp only[Dz,Option.some.injEq] at h;subst h;rfl
 |(i,x)::rest,l,cells,h=>by
  simp[Dz] at h;split at h;rename_i e size f c d;cases h;simp[kd,Mq,tQ,c];cases hc:nG _ with
  |none=>rfl
  |some g=>
   simp only;split;exact Ll d;rfl
  cases h
def Fs (g:Nat) (h:AH) (x:Value) (f e d:EY):EY:=match x with
 |.slice none len b=>
  match sW d b b with
  |some m=>match(if e.isNone&&d.isSome then none else sW e len m) with
   |some c=>match sW f 0 c with
    |some l=>some (.slice none (c - l)<|m - l)
    |none=>none
   |none=>none
  |none=>none
 |.slice (some a) len b=>
  match sW d b b with
  |some m=>match(if e.isNone&&d.isSome then none else sW e len m) with
   |some c=>match sW f 0 c with
    |some l=>
     if a.spot.isSome then(if len=0/\b=0 then some (if d.isSome then zR else aT1) else none) else
     if c<=m then
      (if m=l then
       if d.isSome then some zR else
       match xI h a.block with
       |some true=>some zR
       |some false=>some (Hw<|a.add<|l*g)
       |none=>none
      else some (.slice (some<|a.add<|l*g) (c - l)<|m - l))
     else none
    |none=>none
   |none=>none
  |none=>none
 |_=>none
def E5 (P:Program) (K:FuncId->EU->IE) (f:Value) (args:EU) (h:AH) (Q:Value->AH->Prop):Prop:=match f with
 |.func (.func g) first a=>lU P g=true/\Ok P K (.call g<|first.toList++args++a.toList) h fun o b=>Q o.v b
 |.func (.yield l) first _=>Ok P K (.round l<|first.toList++args) h fun o b=>Q o.v b
 |_=>False
def lkV (z:Value) (h:AH) (x ix:Value) (ok:Bool):EY:=match vx h x,ix with
 |some a,.int k n=>match Dg k n a 0 with
  |some (some (_,v))=>some (if ok then .tuple ⟨[v,.bool true]⟩ else v)
  |some none=>some (if ok then .tuple ⟨[z,.bool false]⟩ else z)
  |none=>none
 |_,_=>none
def pP (P:Program) (b:Operand->Value) (h:AH) (q:Value->Prop):Op->Prop
 |.move x=>q (b x)
 |.assign x=>q (b x)
 |.build t g=>match sH P t with
  |some z=>(match P.underlying t with
   |some (.struct j)=>if j.all (fun f=>(P.info? f.type).isSome) then(match Dz (fun i=>(j[i]?).map fun f=>(f.offset,P.cellsOf f.type)) b g.toList with
    |some l=>cE (tQ z l) fun c=>q (.agg ⟨c⟩)
    |none=>False) else False
   |some (.array _ e)=>if(P.info? e).isSome then(match Dz (fun i=>some (i*P.cellsOf e,P.cellsOf e)) b g.toList with
    |some l=>cE (tQ z l) fun c=>q (.agg ⟨c⟩)
    |none=>False) else False
   |_=>False)
  |none=>False
 |.load t a=>match oB P t with
  |some true=>cE (zJ h (P.cellsOf t)<|b a) q
  |some false=>cE (xE h<|b a) q
  |none=>False
 |.nilCheck x=>cE (tH<|b x) q
 |.binOp op t x y _=>jq P op t x y (b x) (b y) q cE
 |.unOp op _ x=>cE (py op<|b x) q
 |.makeInterface t x=>match P.underlying t with
  |some (.interface _)=>False
  |some _=>q (.iface t<|b x)
  |none=>False
 |.makeFunc fn first d=>match fn with
  |.func f=>q (.func (.func f) (first.map b)<|d.map b)
  |_=>False
 |.slice t x o m p=>match P.underlying t with
  |some (.slice e)=>if(P.info? e).isSome then cE (Fs (P.cellsOf e) h (b x) (o.map b) (m.map b)<|p.map b) q else False
  |_=>False
 |.fieldAddr s x f=>match P.underlying s with
  |some (.struct j)=>(match j[f]? with
   |some fd=>if P.cellsOf fd.type=0 then False else cE (mC fd.offset<|b x) q
   |none=>False)
  |_=>False
 |.field t x f=>match P.underlying t with
  |some (.struct j)=>(match j[f]? with
   |some fd=>(match oB P fd.type with
    |some true=>cE (yE fd.offset (P.cellsOf fd.type)<|b x) q
    |some false=>cE (yV fd.offset<|b x) q
    |none=>False)
   |none=>False)
  |_=>False
 |.indexAddr t x i=>match P.underlying t with
  |some (.array n e)=>if(P.info? e).isSome then cE (vS n (P.cellsOf e) (b x)<|b i) q else False
  |some (.slice e)=>if(P.info? e).isSome then cE (qY (P.cellsOf e) (b x)<|b i) q else False
  |_=>False
 |.index t x i=>match P.underlying t with
  |some (.array n e)=>if(P.info? e).isSome then(match oB P e with
   |some true=>cE (lz n (P.cellsOf e) (b x)<|b i) q
   |some false=>cE (Xn n (P.cellsOf e) (b x)<|b i) q
   |none=>False) else False
  |_=>False
 |.extract t i=>cE (yM i<|b t) q
 |.lookup t x ix ok=>match Oq P t with
  |some e=>(match pj P e with
   |some z=>cE (lkV z h (b x) (b ix) ok) q
   |none=>False)
  |none=>False
 |_=>False
theorem Jk {h:AH} {q:Value->Prop} (a:pP P w h q op):fR op= .G1/\∃v,dQ P w h op=some v/\q v:=by
 unfold pP at a;split at a;exact⟨rfl,_,rfl,a⟩;exact⟨rfl,_,rfl,a⟩;refine⟨rfl,?_⟩;split at a;rename_i z u;split at a;rename_i C o;split at a;rename_i g;split at a;rename_i l A;obtain⟨c,b,d⟩:=a;refine⟨_,?_,d⟩;simp only[dQ,Sv,u,o,g,ew];grind[Ll];cases a;cases a;rename_i e o;split at a;rename_i g;split at a;rename_i l A;obtain⟨c,b,d⟩:=a;refine⟨_,?_,d⟩;simp only[dQ,Sv,u,o,g,ew];grind[Ll];cases a;cases a;cases a;cases a;refine⟨rfl,?_⟩;split at a;rename_i i;obtain⟨v,b,d⟩:=a;refine⟨v,?_,d⟩;unfold zJ at b;simp[dQ];grind[C5];rename_i i;obtain⟨v,b,d⟩:=a;refine⟨v,?_,d⟩;unfold xE at b;simp[dQ];grind[C5];cases a;obtain⟨v,b,d⟩:=a;exact⟨rfl,v,b,d⟩;have⟨v,b,d⟩:=ju a;exact⟨rfl,v,b,d⟩;obtain⟨v,b,d⟩:=a;exact⟨rfl,v,b,d⟩;refine⟨rfl,?_⟩;split at a;cases a;simp_all[dQ];cases a;split at a;exact⟨rfl,_,rfl,a⟩;cases a;refine⟨rfl,?_⟩;split at a;rename_i o;split at a;rename_i x;obtain⟨v,b,d⟩:=a;refine⟨v,?_,d⟩;unfold Fs at b;split at b;rename_i t;simp only[dQ,t,Hn,o,x,ew];exact b;rename_i t;simp only[dQ,t,Hn,o,x,true_and];exact b;cases b;cases a;cases a;refine⟨rfl,?_⟩;split at a;rename_i n;split at a;rename_i y;split at a;cases a;rename_i m;obtain⟨v,b,d⟩:=a;refine⟨v,?_,d⟩;unfold mC at b;split at b;simp_all[dQ,dd];cases b;cases a;cases a;refine⟨rfl,?_⟩;split at a;rename_i n;split at a;rename_i y;split at a;rename_i i;obtain⟨v,b,d⟩:=a;refine⟨v,?_,d⟩;unfold yE at b;split at b;simp_all[dQ,iZ];cases b;rename_i i;obtain⟨v,b,d⟩:=a;refine⟨v,?_,d⟩;unfold yV at b;split at b;simp_all[dQ,iZ];cases b;cases a;cases a;cases a;refine⟨rfl,?_⟩;split at a;rename_i n;split at a;rename_i f;obtain⟨v,b,d⟩:=a;refine⟨v,?_,d⟩;unfold vS at b;split at b;simp_all[dQ,DI,ew];cases b;cases a;rename_i n;split at a;rename_i f;obtain⟨v,b,d⟩:=a;refine⟨v,?_,d⟩;unfold qY at b;split at b;simp_all[dQ,DI,ew];cases b;cases a;cases a;refine⟨rfl,?_⟩;split at a;rename_i n;split at a;rename_i f;split at a;rename_i i;obtain⟨v,b,d⟩:=a;refine⟨v,?_,d⟩;unfold lz at b;split at b;rename_i p j;split at b;rename_i m;have r:=m.1;have s:=m.2.1;simp only[dQ,n,p,j,r,s,f,DI,ew,iZ,i,m.2.2];exact b;cases b;cases b;rename_i i;obtain⟨v,b,d⟩:=a;refine⟨v,?_,d⟩;unfold Xn at b;split at b;rename_i p j;split at b;rename_i m;simp only[dQ,n,p,j,m,f,DI,ew,iZ,i];exact b;cases b;cases b;cases a;cases a;cases a;obtain⟨v,b,d⟩:=a;exact⟨rfl,v,b,d⟩;refine⟨rfl,?_⟩;split at a;rename_i e p;split at a;rename_i z u;obtain⟨v,b,d⟩:=a;refine⟨v,?_,d⟩;unfold lkV at b;simp[dQ,Ed,p];grind;cases a;cases a;cases a
def pR (x:Value):EY:=match x with
 |.slice _ n _=>some (.int .i64 n)
 |_=>none
def aEf (h:AH) (x:Value):EY:=(vx h x).map fun a=> .int .i64 a.length
def Hj (x y:Value):EY:=match x,y with
 |.int k x,.int _ y=>some (.int k<|if y<x then y else x)
 |_,_=>none
def oL (i bytes:Nat) (e:TypeId) (h:AH) (s x:Value):Option (Value×AH):=
 match s,Gf x with
 |.slice f b d,some n=>
  match nE h i n x with
  |some new=>
   if !new.all gM||new.length !=n*i then none else
   if b+n<=d then
    match f with
    |none=>if n=0 then some (s,h) else none
    |some a=>if n=0 then some (s,h) else if a.spot.isSome then none else
     (iU h (a.add<|b*i) new).map fun m=>(.slice f (b+n) d,m)
   else if(b+n)*(bytes+1)<=2^46 then
    match f with
    |none=>if b=0 then some (.slice (some ⟨h.next,0,none⟩) n n,h.alloc<|.cells new e (0,0) false) else none
    |some a=>
     if a.spot=some 1 then(if b=0 then some (.slice (some ⟨h.next,0,none⟩) n n,h.alloc<|.cells new e (0,0) false) else none) else
     if a.spot=some 2 then
      (match h.get a.block with
      |some (.cells c j l _)=>
       if j=e/\h.base<=a.block/\l=(0,0)/\a.off<=c.length/\b=0/\d=0 then
        some (.slice (some ⟨h.next,0,none⟩) n n,(h.set a.block none).alloc<|.cells new e (0,0) false)
       else none
      |_=>none) else
     match eE h a (b*i),h.get a.block with
     |some g,some (.cells c j l x)=>
      if !g.all gM then none else
      if x then some (.slice (some ⟨h.next,0,none⟩) (b+n)<|b+n,h.alloc<|.cells (g++new) e (0,0) false)
      else if j=e/\h.base<=a.block/\l=(0,0)/\a.off+d*i<=c.length then
       some (.slice (some ⟨h.next,0,none⟩) (b+n)<|b+n,(h.set a.block none).alloc<|.cells (g++new) e (0,0) false)
      else none
     |_,_=>none
   else none
  |_=>none
 |_,_=>none
def nR (z:EU) (h:AH) (x:Value):Option (Value×AH):=
 match x with
 |.slice none _ _=>some (.tuple #[],h)
 |.slice (some a) n _=>
   if n=0 then some (.tuple #[],h) else(iU h a<|iE z n).map fun b=>(.tuple #[],b)
 |_=>none
def Xz (h:AH) (m b v:Value):IQ:=match m,b with
 |.map (some r),.int k n=>if r<h.base then none else match h.get r with
  |some (.map c a)=>(aNa k n v c a).map fun o=>h.set r (some o)
  |_=>none
 |_,_=>none
def Xd (h:AH) (m c:Value):IQ:=match m,c with
 |.map (some r),.int k n=>if r<h.base then none else match h.get r with
  |some (.map b a)=>match Dg k n b 0 with
   |some (some (i,_))=>some (h.set r<|some<|.map (b.eraseIdx i) a)
   |some none=>some (h.set r<|some<|.map b a)
   |none=>none
  |_=>none
 |_,_=>none
theorem aI6 {h:AH} {e:TypeId} {m:Value} {c:AH} (d:Oq P t=some e) (b:Xz h m a v=some c):Mu P h t m a v=some c:=by
 unfold Xz at b;split at b;simp only[Mu,d];exact b;cases b
theorem aJ1 {h:AH} {e:TypeId} {m:Value} {c:AH} (d:Oq P t=some e) (b:Xd h m a=some c):Na P h t m a=some c:=by
 unfold Xd at b;split at b;simp only[Na,d];exact b;cases b
def C1 (P:Program) (h:AH) (q:Value->AH->Prop) (a:Array TypeId):Builtin->EU->Prop
 |.len,[x]=>match(a[0]?).bind P.underlying with
  |some (.slice _)=>cE (pR x) fun v=>q v h
  |some (.array n _)=>q (.int .i64 n) h
  |some (.map _ _)=>cE (aEf h x) fun v=>q v h
  |_=>False
 |.append,[s,x]=>match(a[0]?).bind P.underlying with
  |some (.slice e)=>if Q9 P a/\(sH P e).isSome then cE (oL (P.cellsOf e) (P.bytesOf e) e h s x) fun r=>q r.1 r.2 else False
  |_=>False
 |.clear,[x]=>match(a[0]?).bind P.underlying with
  |some (.slice e)=>(match sH P e with
   |some z=>cE (nR z h x) fun r=>q r.1 r.2
   |none=>False)
  |_=>False
 |.min,[x,y]=>cE (Hj x y) fun v=>q v h
 |.delete,[m,k]=>(match a[0]? with
  |some t=>(match Oq P t with
   |some _=>cE (Xd h m k) fun b=>q (.tuple #[]) b
   |none=>False)
  |none=>False)
 |_,_=>False
theorem Fh {h:AH} {b:Builtin} {args:EU} (a:C1 P h q at_ b args):∃v f,kH P h b at_ args=some (v,f)/\q v f:=by
 unfold C1 at a;split at a;split at a;rename_i g;obtain⟨v,c,d⟩:=a;refine⟨v,h,?_,d⟩;unfold pR at c;split at c;simp_all[kH];cases c;rename_i g;refine⟨_,h,?_,a⟩;simp_all[kH];rename_i g;obtain⟨v,c,d⟩:=a;refine⟨v,h,?_,d⟩;rw[aEf] at c;cases hm:vx h _ with
 |none=>rw[hm] at c;cases c
 |some m=>simp_all[kH]
 cases a;split at a;rename_i e g;split at a;rename_i i;obtain⟨⟨v,f⟩,c,d⟩:=a;refine⟨v,f,?_,d⟩;have⟨z,j⟩:=c7.1 i.2;unfold oL at c;split at c;rename_i l;simp only[kH,Q6,g,l,i.1,j,CD,aO,dd];grind;cases c;cases a;cases a;split at a;rename_i e g;split at a;rename_i z j;obtain⟨⟨v,f⟩,c,d⟩:=a;refine⟨v,f,?_,d⟩;unfold nR at c;split at c;simp_all[kH];simp_all[kH];cases c;cases a;cases a;obtain⟨v,c,d⟩:=a;refine⟨v,h,?_,d⟩;unfold Hj at c;split at c;simp_all[kH];cases c;split at a;rename_i t g;split at a;rename_i e n;obtain⟨f,c,d⟩:=a;exact⟨_,f,by simp_all[kH,aJ1],d⟩;cases a;cases a;cases a
def Ij (P:Program) (K:FuncId->EU->IE) (d:Operand->Value) (h:AH) (q:Value->AH->Prop):Op->Prop
 |.store t a x=>if(P.info? t).isSome then cE (Ba h (P.cellsOf t) (d a)<|d x) fun e=>q undef e else False
 |.call c=>match c.callee with
  |.builtin b=>C1 P h q c.argTypes b (c.args.toList.map d)
  |.value (.func g)=>if lU P g then Ok P K (.call g<|c.args.toList.map d) h fun o e=>q o.v e else False
  |.value f=>E5 P K (d f) (c.args.toList.map d) h q
  |.invoke _ _=>False
 |.mapUpdate t m k x=>match Oq P t with
  |some _=>cE (Xz h (d m) (d k)<|d x) fun e=>q undef e
  |none=>False
 |_=>False
theorem aDj {f:Value} {args:EU} {h:AH} (b:E5 P K f args h q):
  ∃n v c,(match f with
   |.func (.func g) first a=>if lU P g then(run P K n (.call g<|first.toList++args++a.toList) h).map fun r=>(r.1.v,r.2) else none
   |.func (.yield l) first _=>(run P K n (.round l<|first.toList++args) h).map fun r=>(r.1.v,r.2)
   |_=>none)=some (v,c)/\q v c:=by
 unfold E5 at b
 split at b
 .obtain⟨i,n,r,d,e⟩:=b;grind
 .obtain⟨n,r,d,e⟩:=b;grind
 .cases b
theorem Cj (p:∀g,j (.func g)= .func (.func g) #[] #[]) {h:AH} (a:Ij P K j h q op):
  (fR op= .store\/fR op= .call)/\∃n v d,gP P (run P K n) j h op=some (v,d)/\q v d:=by
 unfold Ij at a
 split at a
 .refine⟨.inl rfl,?_⟩;split at a
  .rename_i i;obtain⟨d,b,f⟩:=a;refine⟨0,_,d,?_,f⟩;unfold Ba at b;split at b
   .rename_i o;split at b
    .rename_i l;split at b
     .rename_i s;simp only[gP,o,ba,l,s,i,DI,ew,b];rfl
     .cases b
    .cases b
   .cases b
  .cases a
 .rename_i c;refine⟨.inr rfl,?_⟩;split at a
  .simp_all[Fh,gP]
  .rename_i m;split at a
   .rename_i l;obtain⟨n,r,b,f⟩:=a;refine⟨n,_,_,?_,f⟩;simp_all[gP,ew]
   .cases a
  .grind[aDj,gP]
  .cases a
 .refine⟨.inl rfl,?_⟩;split at a
  .rename_i e o;obtain⟨d,b,f⟩:=a;exact⟨0,_,d,by grind[gP,aI6],f⟩
  .cases a
 .cases a
def aKs (l c i:Nat):Value:= .slice (some ⟨i,0,none⟩) l c
def aTl (i:Nat):Value:= .pointer (some ⟨i,0,none⟩)
def lE (i:Nat):Value:= .map (some i)
def Iy (P:Program) (d:Operand->Value) (q:vQ->(Nat->Value)->Prop):Op->Prop
 |.alloc e=>match sH P e with
  |some z=>q (.cells z e (0,0) true) aTl
  |none=>False
 |.box e x=>cE (rE e<|d x) fun b=>q b aTl
 |.buildSlice t len a=>match P.underlying t with
  |some (.slice e)=>(match sH P e with
   |some z=>if len*P.cellsOf e<=2^24 then(match Dz (fun i=>some (i*P.cellsOf e,P.cellsOf e)) d a.toList with
    |some f=>cE (tQ (iE z len) f) fun l=>q (.cells l e (0,0) true) (aKs len len)
    |none=>False) else False
   |none=>False)
  |_=>False
 |.makeSlice t l c=>match P.underlying t with
  |some (.slice e)=>(match sH P e with
   |some z=>cE (Qe (P.bytesOf e) (d l)<|d c) fun n=>q (.cells (iE z n.2) e (0,0) true) (aKs n.1 n.2)
   |none=>False)
  |_=>False
 |.makeMap t none=>q (.map [] 0) lE
 |.makeMap t (some x)=>match P.underlying t with
  |some (.map _ _)=>∃k n,d x= .int k n/\q (.map [] 0) lE
  |_=>False
 |_=>False
def Jf {q:vQ->(Nat->Value)->Prop} (a:Iy P m q op):fR op= .alloc/\∃b f,kZ P m op=some (b,f)/\q b f:=by
 unfold Iy at a;split at a;refine⟨rfl,?_⟩;split at a;rename_i g;exact⟨_,_,by simp only[kZ,g];rfl,a⟩;cases a;refine⟨rfl,?_⟩;obtain⟨b,c,d⟩:=a;refine⟨b,aTl,?_,d⟩;simp only[rE,cg] at c;obtain⟨l,c,rfl⟩:=c;simp only[kZ,c];rfl;refine⟨rfl,?_⟩;split at a;rename_i e;split at a;rename_i g;split at a;rename_i i;split at a;rename_i p j;obtain⟨l,c,d⟩:=a;refine⟨_,_,?_,d⟩;simp only[kZ,e,g,i,ew];rw[Ll j,c];rfl;cases a;cases a;cases a;cases a;refine⟨rfl,?_⟩;split at a;rename_i e;split at a;rename_i g;obtain⟨n,c,d⟩:=a;refine⟨_,_,?_,d⟩;unfold Qe at c;split at c;rename_i o e2;split at c;rename_i i;cases c;simp only[kZ,e,o,e2,g,i,DI,ew];rfl;cases c;cases c;cases a;cases a;exact⟨rfl,_,_,rfl,a⟩;refine⟨rfl,?_⟩;split at a;rename_i e;obtain⟨k,n,c,d⟩:=a;exact⟨_,_,by simp only[kZ,e,c];rfl,d⟩;cases a;cases a
abbrev Vw:=List<|Tmp×Option Bool
def aYc:Option Bool->Value
 |some b=> .bool b
 |none=>undef
def Vw.drop (d:Vw) (t:Option Tmp):Vw:=match t with
 |some t=>d.filter fun x=>x.1 !=t
 |none=>d
def Vw.ok (d:Vw) (env:EU):Prop:=∀t b,(t,b)∈d->env[t]?=some (aYc b)
def aAg (vT:Nat->Option Tmp) (env:EU) (dec:Vw) (g:Option (Nat×Bool)) (p:Bool->EU->Vw->Prop):Prop:=
 match g with
 |none=>p true env dec
 |some (j,fV)=>match vT j with
  |none=>False
  |some d=>match dec.lookup d with
   |some (some b)=>p (b==fV) env dec
   |some none=>p false env dec
   |none=>Br (env.getD d undef) (p (true==fV) (env.set d<|.bool true) ((d,some true)::dec))<|p (false==fV) (env.set d<|.bool false) ((d,some false)::dec)
def K1 (h:AH) (b:vQ) (p:Nat->AH->Prop):Prop:=p h.next<|h.alloc b
def sO (h:AH) (r:Nat) (b:vQ) (p:Nat->AH->Prop):Prop:=p r<|h.set r<|some b
def Cy (h:AH) (n:Nat) (p:Nat->AH->Prop):Prop:=p h.next {h with next:=h.next+n}
def aPa (P:Program) (K:FuncId->EU->IE) (env:EU) (h:AH) (q:Value->AH->Prop) (op:Op):Prop:=
 match fR op with
 |.G1=>pP P (eK P env) h (fun v=>q v h) op
 |.alloc=>Iy P (eK P env) (fun b f=>K1 h b fun i a=>q (f i) a) op
 |.store|.call=>Ij P K (eK P env) h q op
 |.Jr=>False
theorem ui {h:AH} (a:aPa P K env h q op):∃n v d,uL P (run P K n) env h op=some (v,d)/\q v d:=by
 rw[aPa] at a;cases hk:fR op with
 |G1=>
  simp[hk] at a;have⟨_,v,e,c⟩:=Jk a;exact⟨0,v,h,by grind[uL],c⟩
 |alloc=>
  simp[hk] at a;have⟨_,b,f,e,c⟩:=Jf a;exact⟨0,_,_,by grind[uL],c⟩
 |store=>
  simp[hk] at a;obtain⟨_,n,v,d,e,c⟩:=Cj (fun g=>rfl) a;grind[uL]
 |call=>
  simp[hk] at a;obtain⟨_,n,v,d,e,c⟩:=Cj (fun g=>rfl) a;grind[uL]
 |Jr=>grind
def aPp (env:EU) (d:Option Tmp):Bool:=match d with
 |some d=>decide (d<env.length)
 |none=>true
def aKq (dec:Vw) (op:Op):Option Operand:=match op with
 |.pick (.tmp c) a b=>(match dec.lookup c with
  |some (some true)=>some a
  |some (some false)=>some b
  |_=>none)
 |.move x=>some x
 |.assign x=>some x
 |_=>none
def aFl (dec:Vw) (x:Operand):Option Bool:=match x with
 |.const (.bool y)=>some y
 |.tmp t=>(match dec.lookup t with
  |some (some y)=>some y
  |_=>none)
 |_=>none
def Vw.A4 (dec:Vw) (dst:Option Tmp) (x:Operand):Vw:=match dst,aFl dec x with
 |some d,some y=>(d,some y)::dec.drop (some d)
 |d,_=>dec.drop d
def Vw.skip (dec:Vw) (env:EU) (dst:Option Tmp):Vw:=match dst with
 |some d=>if d<env.length then(d,none)::dec.drop (some d) else dec.drop (some d)
 |none=>dec
def aAm (P:Program) (K:FuncId->EU->IE) (vT:Nat->Option Tmp):List Oper->EU->AH->Vw->(EU->AH->Vw->Prop)->Prop
 |[],env,h,dec,q=>q env h dec
 |o::a,env,h,dec,q=>aAg vT env dec o.guard fun b env dec=>
  match b with
  |true=>(match aKq dec o.op with
   |some x=>aAm P K vT a (pF env o.dst<|eK P env x) h (if aPp env o.dst then dec.A4 o.dst x else dec.drop o.dst) q
   |none=>aPa P K env h (fun v c=>aAm P K vT a (pF env o.dst v) c (dec.drop o.dst) q) o.op)
  |false=>aAm P K vT a (pF env o.dst undef) h (dec.skip env o.dst) q
def aY8 (P:Program) (h:AH) (q:Value->Prop) (a:Array TypeId):Builtin->EU->Prop
 |.len,[x]=>match(a[0]?).bind P.underlying with
  |some (.slice _)=>cE (pR x) q
  |some (.array n _)=>q (.int .i64 n)
  |some (.map _ _)=>cE (aEf h x) q
  |_=>False
 |.min,[x,y]=>cE (Hj x y) q
 |_,_=>False
def aWn (P:Program) (a:Operand->Value) (h:AH) (q:Value->Prop):Op->Prop
 |.call c=>match c.callee with
  |.builtin b=>aY8 P h q c.argTypes b (c.args.toList.map a)
  |_=>False
 |op=>pP P a h q op
structure DR where
 env:EU
 h:AH
 v:Value
 ran:Bool
def aUu (P:Program) (K:FuncId->EU->IE) (r:Nat) (env:EU) (h:AH) (q:Value->AH->Prop) (op:Op):Prop:=
 match mW op with
 |true=>aWn P (eK P env) h (fun v=>q v h) op
 |false=>match fR op with
  |.alloc=>Iy P (eK P env) (fun b f=>sO h r b fun i a=>q (f i) a) op
  |_=>Ij P K (eK P env) h q op
def Qq (P:Program) (K:FuncId->EU->IE) (vT:Nat->Option Tmp):Nat->List Oper->EU->AH->Vw->List DR->(List DR->EU->AH->Vw->Prop)->Prop
 |_,[],env,h,dec,a,q=>q a env h dec
 |r,o::c,env,h,dec,a,q=>aAg vT env dec o.guard fun b env dec=>
  match b with
  |true=>(match aKq dec o.op with
   |some x=>Qq P K vT (r+1) c (pF env o.dst<|eK P env x) h (if aPp env o.dst then dec.A4 o.dst x else dec.drop o.dst) (a++[⟨env,h,eK P env x,true⟩]) q
   |none=>aUu P K r env h (fun v d=>Qq P K vT (r+1) c (pF env o.dst v) d (dec.drop o.dst) (a++[⟨env,h,v,true⟩]) q) o.op)
  |false=>Qq P K vT (r+1) c (pF env o.dst undef) h (dec.skip env o.dst) (a++[⟨env,h,undef,false⟩]) q
def aQz (P:Program) (all:List Oper) (rs:List DR) (hEnd:AH):List (Nat×Nat)->Prop->Prop
 |[],p=>p
 |(i,s)::a,p=>match all[i]? with
  |some o=>(match rs[i]? with
   |some r=>(match r.ran with
    |true=>aWn P (eK P r.env) (match rs[s]? with|some q=>q.h|none=>hEnd) (fun v=>uG v r.v=true) o.op/\aQz P all rs hEnd a p
    |false=>aQz P all rs hEnd a p)
   |none=>False)
  |none=>False
def aR0 (P:Program) (K:FuncId->EU->IE) (ops:Array Oper) (env:EU) (h:AH) (q:EU->AH->Vw->Prop):Prop:=
 if R8 ops.toList&&(P.follows .mixedOrders|| !Region.departs ops) then
  Cy h ops.size fun r c=>Qq P K (fun j=>(ops[j]?).bind (·.dst)) r ops.toList env c [] [] fun d a b dec=>aQz P ops.toList d b (Ou ops.toList)<|q a b dec
 else False
section
variable {h:AH} {Q:Dn->AH->Prop}
def Lb {t t':aL2} {a:AH} (c:∀n,run P K (n+1) t h=run P K n t' a) (d:Ok P K t' a Q):Ok P K t h Q:=by
 obtain⟨n,r,e,b⟩:=d;exact⟨_,r,by rwa [c],b⟩
theorem Y5 {c:Operand} {t e:Code} (g:Br (eK P env c) (Ok P K (.todo fn ro ds env (.code t::k)) h Q) (Ok P K (.todo fn ro ds env (.code e::k)) h Q)):
  Ok P K (.todo fn ro ds env (.code (.cond c t e)::k)) h Q:=by
 obtain⟨b,a,f,d⟩:=g
 cases b with
 |true=>exact Lb (t':= .todo fn ro ds env (.code t::k)) (fun n=>by show gT _ _ _ _ _ _ _ _=_;simp_all[gT,ew]) (f rfl)
 |false=>exact Lb (t':= .todo fn ro ds env (.code e::k)) (fun n=>by show gT _ _ _ _ _ _ _ _=_;simp[gT,a])<|d rfl
end
def qJ (h:AH) (l:Nat):IQ:=match h.get l with
 |some (.loop .ready _ _ _ _ _ _ _)=>fJ h l .busy none
 |_=>none
def zV (h:AH) (l:Nat):Option (Option Code×AH):=match h.get l with
 |some (.loop st p _ _ _ _ _ _)=>if st= .busy then none else(fJ h l .exhausted none).map fun a=>(p,a)
 |_=>none
def kI (h:AH) (l:Nat):Option Nat:=match h.get l with
 |some (.loop _ _ _ _ _ _ _ d)=>some d
 |_=>none
def pw (P:Program) (K:FuncId->EU->IE) (f:Value) (l:Nat) (h:AH) (q:Value->AH->Prop):Prop:=match f with
 |.func (.func g) first a=>lU P g=true/\Ok P K (.call g<|first.toList++[.func (.yield l) #[] #[]]++a.toList) h fun o b=>q o.v b
 |_=>False
def wJ:Code->Option Nat
 |.region id _ _=>some id
 |.seq a b=>(match wJ a with
  |some r=>some r
  |none=>wJ b)
 |.block _ b=>wJ b
 |.loop b=>wJ b
 |.scope b=>wJ b
 |_=>none
def aAo:List Item->Option Nat
 |.code c::k=>(match wJ c with
  |some r=>some r
  |none=>aAo k)
 |.inLoop c::k=>(match wJ c with
  |some r=>some r
  |none=>aAo k)
 |_::k=>aAo k
 |[]=>none
def nH:Code->EW
 |.exit id=>[id]
 |.seq a b=>nH a++nH b
 |.cond _ t e=>nH t++nH e
 |.block id b=>(nH b).filter (·!=id)
 |.loop b=>nH b
 |.scope b=>nH b
 |.rangeFunc _ _ a b=>nH a++nH b
 |_=>[]
def A9 (p:Option Code) (a b:Prop) (c:List (Nat×Prop)):Prop:=match p with
 |none=>a
 |some .ret=>b
 |some (.exit id)=>(match c.lookup id with
  |some q=>q
  |none=>False)
 |_=>False
def Ur (P:Program) (K:FuncId->EU->IE) (fn:FuncId) (f:Value) (n:Nat) (lv:EW) (vs:EU) (ps:Array Tmp) (assign a:Code) (d:Nat) (h:AH) (q:Option Code->AH->Prop):Prop:=
 ∀e:Nat->Value,lv.map e=vs->K1 h (.loop .ready none fn ((List.range n).map e) ps assign a d) fun l b=>pw P K f l b fun _ c=>cE (zV c l) fun r=>q r.1 r.2
def Y1 (L:List (Option Nat×EW)) (k:List Item):EW:=(L.lookup<|aAo k).getD []
def tR:Nat->List Item->List Item
 |0,k=>k
 |n+1,k=>match k with
  |.code c::d=>(match c with
   |.skip=>tR n d
   |.label _=>tR n d
   |.seq a b=>tR n (.code a:: .code b::d)
   |.block id b=>tR n (.code b:: .inBlock id::d)
   |.scope b=>tR n (.code b:: .inScope b::d)
   |.loop b=>tR n (.code b:: .inLoop b::d)
   |.exit id=>(match exitTo id d with
    |some e=>tR n e
    |none=>k)
   |_=>k)
  |.inBlock _::d=>tR n d
  |.inScope _::d=>tR n d
  |.inLoop b::d=>tR n (.code b:: .inLoop b::d)
  |_=>k
def aPx:List Item->Bool
 |[]=>true
 |.code .ret::_=>true
 |.code (.exit _)::_=>true
 |_=>false
def aQi (k:List Item):Bool:=match tR 60 k with
 |.code (.region _ _ _)::a=>aPx (tR 60 a)
 |a=>aPx a
def Vj (P:Program) (K:FuncId->EU->IE) (E:EW->EU->List Item->AH->Prop) (F:Ff->EW->EU->AH->Prop) (L:List (Option Nat×EW)) (fn:FuncId) (ro:Option Nat):
  Nat->Vw->EW->EU->List Item->AH->Prop
 |0,_,ds,env,k,h=>E ds env k h
 |n+1,dec,ds,env,k,h=>
  match k with
  |[]=>F .vV ds env h
  |.code c::k=>
   (match c with
   |.skip=>Vj P K E F L fn ro n dec ds env k h
   |.label _=>Vj P K E F L fn ro n dec ds env k h
   |.seq a b=>Vj P K E F L fn ro n dec ds env (.code a:: .code b::k) h
   |.cond c t e=>(match aFl dec c with
    |some true=>Vj P K E F L fn ro n dec ds env (.code t::k) h
    |some false=>Vj P K E F L fn ro n dec ds env (.code e::k) h
    |none=>Br (eK P env c)
     (match aQi (.code t::k) with
     |true=>Vj P K E F L fn ro n dec ds env (.code t::k) h
     |false=>E ds env (tR 60 (.code t::k)) h)
     (match aQi (.code e::k) with
     |true=>Vj P K E F L fn ro n dec ds env (.code e::k) h
     |false=>E ds env (tR 60 (.code e::k)) h))
   |.block id b=>Vj P K E F L fn ro n dec ds env (.code b:: .inBlock id::k) h
   |.loop b=>E ds env (tR 60 (.code b:: .inLoop b::k)) h
   |.scope b=>Vj P K E F L fn ro n dec ds env (.code b:: .inScope b::k) h
   |.exit id=>(match exitTo id k with
    |some s=>Vj P K E F L fn ro n dec ds env s h
    |none=>if ro.isSome then F (.exit id) ds env h else False)
   |.ret=>F .ret ds env h
   |.region _ ops false=>aAm P K (fun j=>(ops[j]?).bind (·.dst)) ops.toList env h dec fun o i m=>Vj P K E F L fn ro n m ds o k i
   |.region _ ops true=>aR0 P K ops env h fun o i m=>Vj P K E F L fn ro n m ds o k i
   |.rangeFunc f q assign g=>
    (match ro with
    |none=>K1 h (.A1 true) fun d r=>Ur P K fn (eK P env f) env.length (Y1 L [.code assign,.beginRound,.code g]) ((Y1 L [.code assign,.beginRound,.code g]).map fun t=>env.getD t undef) q assign g d r fun p i=>
      A9 p (Vj P K E F L fn ro n dec (d::ds) env k i) (Vj P K E F L fn ro n dec (d::ds) env (.code .ret::k) i) ((nH g).map fun id=>(id,Vj P K E F L fn ro n dec (d::ds) env (.code (.exit id)::k) i))
    |some l=>cE (kI h l) fun d=>Ur P K fn (eK P env f) env.length (Y1 L [.code assign,.beginRound,.code g]) ((Y1 L [.code assign,.beginRound,.code g]).map fun t=>env.getD t undef) q assign g d h fun p i=>
      A9 p (Vj P K E F L fn ro n dec ds env k i) (Vj P K E F L fn ro n dec ds env (.code .ret::k) i) ((nH g).map fun id=>(id,Vj P K E F L fn ro n dec ds env (.code (.exit id)::k) i)))
   |_=>False)
  |.inBlock _::k=>Vj P K E F L fn ro n dec ds env k h
  |.inScope _::k=>Vj P K E F L fn ro n dec ds env k h
  |.inLoop b::k=>E ds env (tR 60 (.code b:: .inLoop b::k)) h
  |.beginRound::k=>
   (match ro with
   |some l=>cE (qJ h l) fun i=>Vj P K E F L fn ro n dec ds env k i
   |none=>False)
  |_=>False
theorem Wv (h:env.length=n):(List.range n).map (fun t=>env.getD t undef)=env:=by
 refine q6 fun i=>?_;grind
theorem sc {f:Nat->Prop} {id:Nat} {q:Prop} (h:(l.map fun i=>(i,f i)).lookup id=some q):q=f id:=by
 induction l with
 |nil=>simp at h
 |cons i l a=>
  grind
theorem Rx {f:Value} {lv:EW} {assign b:Code} {d:Nat} {h:AH} {q:Option Code->AH->Prop}
  (i:Ur P K fn f env.length lv (lv.map fun t=>env.getD t undef) ps assign b d h q):
  ∃n g first a o c p e,f= .func (.func g) first a/\lU P g=true/\run P K n (.call g<|first.toList++[.func (.yield h.next) #[] #[]]++a.toList) (h.alloc<|.loop .ready none fn env ps assign b d)=some (o,c)/\
   zV c h.next=some (p,e)/\q p e:=by
 have:=i _ rfl
 rw[Wv rfl] at this
 unfold K1 pw at this
 split at this
 .rename_i g first a
  obtain⟨m,n,r,j,⟨p,e⟩,l,c⟩:=this
  grind
 .cases this
theorem Uz {fn:FuncId} {ro:Option Nat} {ds:EW} {env:EU} {h:AH} {Q:Dn->AH->Prop}:∀(n:Nat) {k:List Item},Ok P K (.todo fn ro ds env<|tR n k) h Q->Ok P K (.todo fn ro ds env k) h Q
 |0,_,a=>a
 |n+1,k,a=>by
  have st:∀{k':List Item},Ok P K _ h Q->(∀m,run P K _ _ h=run P K m (.todo fn ro ds env k') h)->Ok P K (.todo fn ro ds env k) h Q:=
   fun a b=>Lb b<|Uz n a
  unfold tR at a;split at a;grind[gT,run];exact st a fun _=>rfl;exact st a fun _=>rfl;exact st a fun _=>rfl;exact a
def uq (P:Program) (f:FuncId) (Q:Value->AH->Prop):Dn->AH->Prop:=fun o b=>
 match o.iB with
 |.exit _=>False
 |_=>cE (dX o.ds b) fun a=>cE (mO P a o.env<|(P.funcs[f]?).elim [] fun fn=>fn.results.toList) fun c=>Q (Fu c) a
theorem aNo {fn:Func} {a:Code} {args:EU} {h:AH} (e:P.funcs[f]?=some fn) (hb:fn.body=some a) (m:K f args=none)
  (r:Ok P K (.todo f none [] (args++List.replicate (fn.ntmps - args.length) undef) [.code a]) h (uq P f Q)):Ok P K (.call f args) h fun o c=>Q o.v c:=by
 obtain⟨n,⟨o,g⟩,j,b⟩:=r
 simp only at b
 have s:(∀id,o.iB≠.exit id)->(cE (dX o.ds g) fun b=>cE (mO P b o.env<|(P.funcs[f]?).elim [] fun fn=>fn.results.toList) fun d=>Q (Fu d) b)->Ok P K (.call f args) h fun o c=>Q o.v c:=by
  intro p ⟨l,t,d,i,q⟩;rw[e] at i;simp[Option.elim_some] at i;refine⟨n+1,(⟨.vV,[],[],Fu d⟩,l),?_,q⟩;show sU P K (run P K n) f args h=_;simp[sU,m,e,hb];rw[j];cases hlv:o.iB with
  |exit id=>grind
  |vV=>grind
  |ret=>grind
 grind[uq]
def Pt (P:Program) (K:FuncId->EU->IE) (fn:FuncId) (ro:Option Nat) (Q:Dn->AH->Prop) (n:Nat) (lv:EW) (k:List Item) (ds:EW) (vs:EU) (h:AH):Prop:=
 ∀e:Nat->Value,lv.map e=vs->Ok P K (.todo fn ro ds ((List.range n).map e) k) h Q
def Z1 (P:Program) (h:AH) (env:EU):List ResultVar->(EU->Prop)->Prop
 |[],p=>p []
 |.tmp t::b,p=>Z1 P h env b fun l=>p (env.getD t undef::l)
 |.cell a t::b,p=>match oB P t with
  |some true=>cE (zJ h (P.cellsOf t)<|env.getD a undef) fun v=>Z1 P h env b fun l=>p (v::l)
  |some false=>cE (xE h<|env.getD a undef) fun v=>Z1 P h env b fun l=>p (v::l)
  |none=>False
theorem Ay {h:AH} {env:EU}:∀{rs:List ResultVar} {p:EU->Prop},Z1 P h env rs p->∃l,mO P h env rs=some l/\p l
 |[],p,b=>⟨[],rfl,b⟩
 |.tmp t::rs,p,b=>by
  have⟨l,c,h2⟩:=Ay (rs:=rs) b;grind[mO]
 |.cell a t::rs,p,b=>by
  simp only[Z1] at b;split at b;rename_i d;obtain⟨v,c,b⟩:=b;have⟨l,h2,h3⟩:=Ay b;refine⟨_,?_,h3⟩;unfold zJ at c;split at c;rename_i x e;have f:C5 P h t x=some v:=by rw[C5];rw[d];exact c
  grind[mO];cases c;rename_i d;obtain⟨v,c,b⟩:=b;have⟨l,h2,h3⟩:=Ay b;refine⟨_,?_,h3⟩;unfold xE at c;split at c;rename_i x e;have f:C5 P h t x=some v:=by rw[C5];rw[d];exact c
  grind[mO];cases c;cases b
def aTr (P:Program) (f:FuncId) (Q:Value->AH->Prop) (lv:Ff) (ds:EW) (env:EU) (h:AH):Prop:=match lv with
 |.exit _=>False
 |_=>cE (dX ds h) fun a=>Z1 P a env ((P.funcs[f]?).elim [] fun fn=>fn.results.toList) fun l=>Q (Fu l) a
theorem vj {h:AH} (a:aTr P f Q lv ds env h):uq P f Q ⟨lv,ds,env,undef⟩ h:=by
 unfold aTr at a;rw[uq];cases lv with
 |exit id=>exact a
 |vV=>obtain⟨b,c,a⟩:=a;have⟨l,h3,h4⟩:=Ay a;simp_all
 |ret=>obtain⟨b,c,a⟩:=a;have⟨l,h3,h4⟩:=Ay a;simp_all
def Lc (l:Nat) (Q:Value->AH->Prop):Dn->AH->Prop:=fun o b=>
 o.ds=[]/\match o.iB with
 |.vV=>cE (fJ b l .ready<|some none) fun a=>Q (.bool true) a
 |.ret=>cE (fJ b l .done<|some<|some .ret) fun a=>Q (.bool false) a
 |.exit id=>cE (fJ b l .done<|some<|some<|.exit id) fun a=>Q (.bool false) a
theorem aIw {l:Nat} {args:EU} {h:AH} {b:EU} {assign a:Code} {d:Nat}
  (s:h.get l=some (.loop st p fn b ps assign a d)) (u:args.length=ps.size)
  (x:Ok P K (.todo fn (some l) [] ((ps.toList.zip args).foldl (fun t (p,v)=>t.set p v) b) [.code assign,.beginRound,.code a]) h (Lc l Q)):Ok P K (.round l args) h fun o j=>Q o.v j:=by
 obtain⟨n,⟨o,m⟩,z,c,f⟩:=x
 simp only at c f
 have y:∀i e,(match o.iB with
     |.vV=>(fJ m l .ready<|some none).map fun c=>((⟨.vV,[],[],.bool true⟩:Dn),c)
     |.ret=>(fJ m l .done<|some<|some .ret).map fun c=>(⟨.vV,[],[],.bool false⟩,c)
     |.exit id=>(fJ m l .done<|some<|some<|.exit id).map fun c=>(⟨.vV,[],[],.bool false⟩,c))=some (i,e)->Q i.v e->Ok P K (.round l args) h fun o j=>Q o.v j:=by
  intro i e A w
  refine⟨n+1,(i,e),?_,w⟩
  show yB (run P K n) l args h=_
  simp only[yB,s,u,ew]
  grind
 split at f
 .rename_i g;obtain⟨e,q,r⟩:=f;grind
 .rename_i g;obtain⟨e,q,r⟩:=f;grind
 .rename_i g;obtain⟨e,q,r⟩:=f;grind
def aj (l:Nat) (Q:Value->AH->Prop) (lv:Ff) (ds:EW) (b:EU) (h:AH):Prop:=match ds with
 |[]=>(match lv with
  |.vV=>cE (fJ h l .ready<|some none) fun a=>Q (.bool true) a
  |.ret=>cE (fJ h l .done<|some<|some .ret) fun a=>Q (.bool false) a
  |.exit id=>cE (fJ h l .done<|some<|some<|.exit id) fun a=>Q (.bool false) a)
 |_=>False
theorem Y8 {l:Nat} {h:AH} (a:aj l Q lv ds env h):Lc l Q ⟨lv,ds,env,undef⟩ h:=by
 unfold aj at a;cases ds with
 |nil=>refine⟨rfl,?_⟩;grind
 |cons d ds=>grind
end
noncomputable section
open Go.RowKit
variable {K:FuncId->EU->IE}
def Bz (base:Nat) (old:Nat->II):AH:={base:=base,next:=base,old:=old,kD:= .lf}
def Dj {base:Nat} (i:Nat):(Bz base old).get i=if i<base then old i else none:=by
 rw[AH.O6];rw[Bz];split;rfl;cases i - base<;>rfl
structure pf (P:Program) (base:Nat) (old:Nat->II) (ρ:nL) (w:World):Prop where
 yS:∀i o,i<base->old i=some o->∀b s,ρ i=some (b,s)->∃o',w.heap[b]?=some o'/\Ca P ρ s o o'
 low:∀i b s,i<base->ρ i=some (b,s)->b<w.heap.size
 none:∀i,base<=i->ρ i=none
 xS:∀g,g<P.globals.size->ρ g=some (g,(0,0))
def pf.inv {base:Nat} {ρ:nL} {w:World} (r:pf P base old ρ w):gB P w.heap.size ρ (Bz base old) w where
 yS:=fun i o c b s d=>by
  rw[Dj] at c;split at c;rename_i a;exact r.yS i o a c b s d;cases c
 inj:=fun i j b e f a _ gi=>by
  rw[Dj,bA0<|ET.2<|show base<=_ from a] at gi;cases gi
 low:=fun i b s a gi=>by
  rw[Dj,bA0<|ET.2<|show base<=_ from a] at gi;cases gi
 old:=fun i b s a d=>r.low i b s a d
 iT:=fun i a=>r.none i a
 lZ:=fun i a=>by rw[Dj,bA0<|ET.2<|show base<=_ from a]
 xS:=r.xS
 size:=b0 _
 bn:=b0 _
def aJi {w:World} (C:Vz P w.heap.size K) (l:C.G w) {base:Nat} {ρ:nL} (r:pf P base old ρ w) {args a:EU} (j:bV ρ args a) {Q:Dn->AH->Prop}
  (g:Ok P K (.call f args) (Bz base old) Q):
  Calls P f ⟨a⟩ w fun e d=>∃ρ' o b c,e= .returned c/\aR ρ' o.v c/\Q o b/\gB P w.heap.size ρ' b d/\Below w.heap.size w d:=by
 obtain⟨n,⟨o,b⟩,p,m⟩:=g
 intro i
 have⟨e,d,fr,⟨ρ',c,he,hv,hevo⟩,h1,h2,h3⟩:=aC2 C n _ _ o b p ρ w a r.inv l j i
 exact⟨e,d,fr,⟨ρ',o,b,c,he,hv,m,hevo.inv,hevo.below r.inv⟩,h1,h2,h3⟩
end
noncomputable section
variable {K:FuncId->EU->IE}
def Nh:Code->EW->Code
 |c,[]=>c
 |.seq a _,0::p=>Nh a p
 |.seq _ b,1::p=>Nh b p
 |.cond _ t _,0::p=>Nh t p
 |.cond _ _ e,1::p=>Nh e p
 |.block _ b,0::p=>Nh b p
 |.loop b,0::p=>Nh b p
 |.scope b,0::p=>Nh b p
 |.rangeFunc _ _ a _,0::p=>Nh a p
 |.rangeFunc _ _ _ b,1::p=>Nh b p
 |_,_=> .skip
def Sj (P:Program) (f:FuncId):Option Code:=(P.funcs[f]?).bind (·.body)
def ntm (P:Program) (f:FuncId):Nat:=(P.funcs[f]?).elim 0 (·.ntmps)
def cd (P:Program) (f:FuncId) (p:EW):Code:=Nh ((Sj P f).getD .skip) p
def Cl (P:Program) (K:FuncId->EU->IE) (f:FuncId) (args:EU) (h:AH) (Q:Value->AH->Prop):Prop:=Ok P K (.call f args) h fun o a=>Q o.v a
def lpB (P:Program) (f:FuncId) (p:EW) (n:Nat) (e:Nat->Value) (d:Nat) (st:LoopState) (pd:Option Code):vQ:=match cd P f p with
 |.rangeFunc _ c a b=> .loop st pd f ((List.range n).map e) c a b d
 |_=> .A1 false
abbrev I (n:Int):Value:= .int .i64 n
def pt (b o j:Nat):Value:= .pointer (some ⟨b,o+j,none⟩)
abbrev IV (b:Nat):=pt b 0 0
def aV2:Nat->Nat->EW->EW
 |0,_,acc=>acc
 |f+1,n,acc=>if n<=1 then acc else aV2 f (n/2) (n % 2::acc)
def qM (n:Nat):EW:=aV2 120 n []
def rgF:Code->Operand×Array Tmp×Code×Code
 |.rangeFunc f c a b=>(f,c,a,b)
 |_=>(.tmp 0, #[],.skip,.skip)
end
end Go.Ab
