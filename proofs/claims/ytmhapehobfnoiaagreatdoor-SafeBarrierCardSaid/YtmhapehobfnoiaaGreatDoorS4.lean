/- A part of the proof. -/
import Derived.Test.YtmhapehobfnoiaaGreatDoorS3
namespace Go.Ab
open Go.RowKit
section
variable {P:Program} {B:Nat} {K:FuncId->List Value->Option kA}
theorem Qo {α:Type} {l:List α} {f:α×Nat->Bool} (h:l.zipIdx.all f=true) {k:Nat} {o:α} (a:l[k]?=some o):f (o,k)=true:=by
 grind
theorem Tt {l:List Nat} (a:l.Pairwise (·<·)) {i p:Nat} (c:l.find? (fun x=>decide (i<x))=some p):i<p/\p∈l/\∀j∈l,i<j->p<=j:=by
 obtain⟨b,as,f,rfl,g⟩:=List.find?_eq_some_iff_append.1 c;refine⟨by simpa using b,by simp,?_⟩;intro j e d;rcases List.mem_append.1 e with h|h;grind;rw[List.pairwise_append] at a;rcases List.mem_cons.1 h with h|h;omega;have:=(List.pairwise_cons.1 a.2.1).1 j h;omega
structure Fit (all:List Oper):Prop where
 dir:∀(k:Nat) o,all[k]?=some o->∀j∈eY o,j<k
 kind:∀(k:Nat) o,all[k]?=some o->kindOf o.op≠.other
 pX:∀i j:Nat,∀t,(all[i]?).bind (·.dst)=some t->(all[j]?).bind (·.dst)=some t->i=j
 tmps:∀i j:Nat,∀o p d,all[i]?=some o->all[j]?=some p->i≠j->p.dst=some d->d∈Cn all o->(j<i->ahead (eR all []) j i=true)/\(i<j->ahead (eR all []) i j=true)
 wQ:∀i j:Nat,∀o p,all[i]?=some o->all[j]?=some p->dL o.op=true->dL p.op=true->j<i->ahead (eR all []) j i=true
theorem Ww {all:List Oper} (h:Lg all=true):Fit all:=by
 unfold Lg at h;simp only[Bool.and_eq_true] at h;obtain⟨⟨⟨b,g⟩,c⟩,_⟩:=h;have pair:∀i j:Nat,∀o p,all[i]?=some o->all[j]?=some p->i≠j->
   (o.dst.isNone||o.dst !=p.dst)=true/\
   (match p.dst with|some d=> !(Cn all o).contains d||(if j<i then ahead (eR all []) j i else ahead (eR all []) i j)|none=>true)=true/\
   (!(dL o.op&&dL p.op&&decide (j<i))||ahead (eR all []) j i)=true:=by
  intro i j o p a f e
  have:=Qo (Qo c a) f
  grind
 refine {dir:=?_,kind:=?_,pX:=?_,tmps:=?_,wQ:=?_};intro k o a j l;have:=Qo b a;grind;grind;grind;grind;grind
theorem aDb {all:List Oper} {i s n:Nat} (f:n=all.length) (e:i<n):
  let wQ:=(List.range n).filter fun i=>(all[i]?).any fun o=>dL o.op
  ((wQ++[n]).find? fun x=>decide (i<x)).getD n=s->i<s/\∀j p,i<j->j<s->all[j]?=some p->dL p.op=false:=by
 intro wQ b
 have a:(wQ++[n]).Pairwise (·<·):=by
  rw[List.pairwise_append];refine⟨(List.pairwise_lt_range).filter _,by simp,?_⟩;grind
 cases hf:(wQ++[n]).find? fun x=>decide (i<x) with
 |none=>
  grind
 |some p=>
  rw[hf] at b
  simp only[Option.getD_some] at b
  subst b
  obtain⟨c,_,d⟩:=Tt a hf
  grind
theorem Xp {all:List Oper} {i s:Nat} {o:Oper} (f:all[i]?=some o) (q:iQ o.op=true) (r:s=all.length\/∃p,all[s]?=some p/\dL p.op=true)
  (d:∀j p,all[j]?=some p->dL p.op=true->(j<s->ahead (eR all []) i j=false)/\(s<=j->ahead (eR all []) j i=false))
  (c:¬(i<s/\∀j p,i<j->j<s->all[j]?=some p->dL p.op=false)):(i,s)∈F6 all:=by
 have b:i<all.length:=(List.getElem?_eq_some_iff.1 f).1
 unfold F6
 simp only
 rw[List.mem_flatMap]
 refine⟨i,List.mem_range.2 b,?_⟩
 rw[aKj (by simp[f,q])]
 rw[List.mem_map]
 refine⟨s,?_,rfl⟩
 rw[List.mem_filter]
 constructor
 .grind
 .rw[Bool.and_eq_true];constructor
  .simp only[bne_iff_ne,ne_eq];intro m;exact c (aDb rfl b m.symm)
  .rw[List.all_eq_true];intro j e;rw[List.mem_filter] at e;obtain⟨n,a⟩:=e;cases hp:all[j]? with
   |none=>simp[hp] at a
   |some p=>
    simp[hp] at a
    obtain⟨g,l⟩:=d j p hp a
    split
    .rename_i h;simp[g h]
    .rename_i h;simp[l (by omega)]
theorem Su {R:jG} {all:List Oper} {d:Nat}:∀(os:List Oper) (i:Nat) (env:List Value) (h:AH) (rs:List Rec) (e:List Value) (b:AH),drawText P R all d i os env h=some (rs,e,b)->rs.length=os.length
 |[],i,env,h,rs,e,b,a=>by
  simp only[drawText,Option.some.injEq,Prod.mk.injEq] at a;rw[<-a.1];rfl
 |o::os,i,env,h,rs,e,b,a=>by
  simp only[drawText] at a;split at a;split at a;rename_i c;simp only[Option.some.injEq,Prod.mk.injEq] at a;rw[<-a.1,List.length_cons,List.length_cons,Su os _ _ _ _ _ _ c];cases a;cases a
theorem x7 (C:Ctx P B K) (R:jG) (hR:B9 C R):th C R:=by
 intro ops env h θ h' c ρ w b a cs k t g hg he;unfold uU at c;split at c;rename_i y;rw[Bool.and_eq_true] at y;obtain⟨y,I⟩:=y;split at c;rename_i rs e hN q;split at c;rename_i G;simp only[Option.some.injEq,Prod.mk.injEq] at c;obtain⟨rfl,rfl⟩:=c;have fit:=Ww y;generalize r:ops.toList=all at fit q G y;have ι:ops.size=all.length:=by rw[<-r];simp
 obtain⟨E,H,V,U,D,z,W,F,T⟩:=Ix all 0 env _ rs e hN q;have d:Dr P R all h.next E H V:={
  step:=fun j o J=>by have:=(z j o J).1;rwa [Nat.zero_add] at this
  env:=fun j o J=>(z j o J).2
  dir:=fit.dir,kind:=fit.kind,pX:=fit.pX,tmps:=fit.tmps,wQ:=fit.wQ
  flt:=fun i s o J hl hs δ X S hw=>by
   rw[List.all_eq_true] at G;have:=G (i,s) (Xp J hl δ X S);have α:i<all.length:=(List.getElem?_eq_some_iff.1 J).1;unfold floatOk at this;simp only[J,T i α,hw] at this;have hh:eK P (dC P (E i)) (H s) o.op=some (V i):=by
    rcases Nat.lt_or_ge s all.length with h1|h1;rw[T s h1] at this;simp only at this;split at this;rename_i v hv;rw[hv,Jc _ _ this];cases this;have ε:s=all.length:=by omega
    rw[List.getElem?_eq_none (by rw[Su _ _ _ _ _ _ _ q];omega)] at this;simp only at this;rw[ε,F];split at this;rename_i v hv;rw[hv,Jc _ _ this];cases this
   exact hh}
 have hB:B<=w.heap.size:=g.size;have Z:Inv P B ρ (H 0) w:=by
  rw[D];exact {nD:=g.nD,inj:=g.inj,low:=g.low,old:=g.old,fresh:=fun i h1=>g.fresh i (by simp at h1;omega),iE:=fun i h1=>g.iE i (by simp at h1;omega),qR:=g.qR,size:=g.size,bn:=by have:=g.bn;grind}
 have l:∀i,(H 0).get i=h.get i:=fun i=>by rw[D];rfl
 have η:St P B all h.next E H V ρ h w [] 0 ρ w a.tmps.toList:={
  Dq:={ext:=Ext.refl _,inv:=Z,un:=fun _ _ h=>h,nQ:=fun i _ _=>l i,stay:=fun i _ h1=>by rw[l];exact h1,frame:=fun _ _ _=>rfl,
                range:=fun i b s h1 u h3 _=>⟨i,s,h1,by grind,h3⟩,base:=by rw[D],wJ:=fun i _=>l i,size:=Nat.le_refl _,os:=rfl,out:=rfl,tape:=rfl}
  lg:=fun i h1=>by cases h1
  closed:=fun i h1=>by cases h1
  s1:=fun j o h1=>by omega
  s3:=fun j o _ _ h1=>by cases h1
  sle:=Nat.zero_le _
  env:=by rw[U];exact he
  nx:=by grind
  iX:=fun i o b f _ h1=>by cases h1
  vT:=fun i n t h1 u=>by rw[g.fresh _ (by omega)] at u;cases u
  lone:=fun i n t _ h1 u=>by rw[g.fresh _ (by omega)] at u;cases u
  Hj:=fun i i' n t t' _ _ u=>by rw[g.fresh _ (by omega)] at u;cases u
  Z7:=fun i _ _=>g.fresh _ (by omega)
  l8:=fun i o _ _=>g.fresh _ (by omega)
  rev:=fun i o b f h1=>by omega
  Zf:=fun j _ _=>by rw[l];exact g.iE _ (by omega)
  gr:=fun m hm _=>(have:m=0:=(by omega);this▸pH.refl _)}
 obtain⟨s,st1,Y⟩:=η.advance d g.bn hB _ _ rfl;have A:Region.schedule (P.follows .mixedOrders) ops t=Region.linearise.go .any ops ops.size t (Array.replicate ops.size false) []:=by
  unfold Region.schedule;rw[aKj I];rfl
 have O:xZ all [] (Region.schedule (P.follows .mixedOrders) ops t):=by
  rw[A,<-r];refine By (by rw[r];exact fit.dir) ops.size t _ [] (by simp) (fun i g=>by simp[g]) ?_;grind
 obtain⟨D',ρ',w',a',st2,β,L,ζ⟩:=Lv C hR r d g.bn hB g hg (b:=b) (cs:=cs) (k:=k) _ [] s ρ w a O Y st1;have x:=st2.Dq;rw[F] at x;have γ:=st2.nx;rw[F] at γ;refine⟨ρ',w',a',x.Dq (by omega),?_,L,ζ⟩;have M:e=yY all V (E 0) D':=by
  rw[<-W,d.aC8 _ (Nat.le_refl _)];refine List.ext_getElem? fun t=>Nw (fun i j h1 u=>fit.pX i j t h1 u) fun j hj=>?_;have N:j<all.length:=by
   cases hp:all[j]? with
   |none=>rw[hp] at hj;cases hj
   |some p=>grind
  simp[N,β j N]
 rw[M];exact st2.env;cases c;cases c;cases c
theorem ch (C:Ctx P B K) (n:Nat):B9 C (run P K n):=aEk C (x7 C) n
end
end Go.Ab
section
namespace Go.Ab
variable {P:Program} {K:FuncId->List Value->Option kA}
def jG.le (R a:jG):Prop:=∀t h r,R t h=some r->a t h=some r
theorem xR {R d:jG} (f:R.le d) {e:Operand->Value} {h:AH} {op:Op} {r:Value×AH} (a:heavyStep P R e h op=some r):heavyStep P d e h op=some r:=by
 unfold heavyStep at a ⊢;split;exact a;exact a;simp only at a ⊢;split;grind;rename_i i;simp only[i] at a;split;rename_i b;simp only[b] at a;split;rename_i g;rw[aKj g] at a;simp only[Option.map_eq_some_iff] at a ⊢;obtain⟨x,c,rfl⟩:=a;exact⟨x,f _ _ _ c,rfl⟩;grind;rename_i b;simp only[b] at a;simp only[Option.map_eq_some_iff] at a ⊢;obtain⟨x,c,rfl⟩:=a;exact⟨x,f _ _ _ c,rfl⟩;grind;grind;grind
theorem M6 {R b:jG} (c:R.le b) {env:List Value} {h:AH} {op:Op} {r:Value×AH} (a:opStep P R env h op=some r):opStep P b env h op=some r:=by
 unfold opStep at a ⊢;cases hk:kindOf op<;>simp only[hk] at a ⊢;exact a;exact a;exact xR c a;exact xR c a;exact a
theorem Hc {R d:jG} (g:R.le d) {all:List Oper} {e i:Nat} {env:List Value} {h:AH} {o:Oper} {r:Value×AH} (a:drawStep P R all e i env h o=some r):drawStep P d all e i env h o=some r:=by
 unfold drawStep at a ⊢;cases hw:aWanted ⟨all⟩ env o with
 |none=>grind
 |some b=>
  rw[hw] at a;cases b with
  |false=>exact a
  |true=>
   simp only at a ⊢;split;grind;rename_i f;rw[aKi f] at a;split;grind;rename_i c;rw[aKi c] at a;exact xR g a
theorem zO {R b:jG} (c:R.le b) {all:List Oper} {d:Nat}:∀(os:List Oper) {i:Nat} {env:List Value} {h:AH} {r:List Rec×List Value×AH},drawText P R all d i os env h=some r->drawText P b all d i os env h=some r
 |[],_,_,_,_,a=>a
 |o::os,i,env,h,r,a=>by
  simp only[drawText] at a ⊢;split at a;rename_i v j f;rw[Hc c f];simp only;split at a;rename_i l e g;rw[zO c os g];exact a;cases a;cases a
theorem J6 {R b:jG} (d:R.le b) {ops:Array Oper} {env:List Value} {h:AH} {r:List Value×AH} (a:uU P R ops env h=some r):uU P b ops env h=some r:=by
 unfold uU at a ⊢;split;rename_i c;rw[aKj c] at a;split at a;rename_i e;rw[zO d _ e];exact a;cases a;grind
theorem ft {R d:jG} (c:R.le d) {all:Array Oper} {rest:List Oper} {env:List Value} {h:AH} {r:Out×AH} (a:vJ P R all rest env h=some r):vJ P d all rest env h=some r:=by
 unfold vJ at a ⊢;cases rest with
 |nil=>exact a
 |cons o rest=>
  simp only at a ⊢;cases hw:aWanted all env o with
  |none=>grind
  |some b=>
   rw[hw] at a;cases b with
   |false=>exact c _ _ _ a
   |true=>
    simp only at a ⊢;split at a;rename_i v f e;rw[M6 c e];exact c _ _ _ a;cases a
theorem X1 {R d:jG} (e:R.le d) {f:FuncId} {args:List Value} {h:AH} {r:Out×AH} (a:runCall P K R f args h=some r):runCall P K d f args h=some r:=by
 unfold runCall at a ⊢;split;grind;rename_i b;rw[b] at a;simp only at a;split at a;rename_i c;rw[e _ _ _ c];exact a;cases a;grind;rename_i b;rw[b] at a;simp only at a;split at a;split at a;split at a;rename_i c;rw[e _ _ _ c];exact a;cases a;cases a;cases a
theorem Ux {R b:jG} (d:R.le b) {l:Nat} {args:List Value} {h:AH} {r:Out×AH} (a:runRound R l args h=some r):runRound b l args h=some r:=by
 unfold runRound at a ⊢;split at a;split at a;rename_i c;rw[aKj c];split at a;rename_i e;rw[d _ _ _ e];exact a;cases a;cases a;cases a
theorem X5 {R j:jG} (b:R.le j) {fn:FuncId} {ro:Option Nat} {ds:List Nat} {env:List Value} {k:List Item} {h:AH} {r:Out×AH} (a:runTodo P R fn ro ds env k h=some r):runTodo P j fn ro ds env k h=some r:=by
 unfold runTodo at a ⊢;split at a;exact a;rename_i c k;split at a;exact b _ _ _ a;exact b _ _ _ a;exact b _ _ _ a;split at a;exact b _ _ _ a;cases a;exact b _ _ _ a;exact b _ _ _ a;exact b _ _ _ a;split at a;exact b _ _ _ a;exact a;exact a;split at a;rename_i i;rw[b _ _ _ i];exact b _ _ _ a;cases a;split at a;rename_i i;rw[J6 b i];exact b _ _ _ a;cases a;split at a;rename_i d o l n;split at a;rename_i g first e p
 split at a;rename_i f;rw[aKj f];split at a;rename_i i;rw[b _ _ _ i];simp only;split at a;split at a;cases a;rename_i m;rw[aKi m];split at a;exact b _ _ _ a;cases a;cases a;cases a;cases a;cases a;cases a;cases a;exact b _ _ _ a;exact b _ _ _ a;exact b _ _ _ a;split at a;split at a;split at a;exact b _ _ _ a;cases a;cases a;cases a;cases a
theorem w5:∀n,(run P K n).le (run P K (n+1))
 |0,t,h,r,a=>by simp[run] at a
 |n+1,t,h,r,a=>by
  have c:=w5 n;cases t with
  |todo fn ro ds env k=>exact X5 c a
  |ops all rest env=>exact ft c a
  |call f b=>exact X1 c a
  |round l b=>exact Ux c a
theorem lD {n m:Nat} (h:n<=m):(run P K n).le (run P K m):=by
 induction h with
 |refl=>exact fun _ _ _ h=>h
 |step _ b=>exact fun t g r a=>w5 _ _ _ _ (b t g r a)
end Go.Ab
end
section
namespace Go.Ab
noncomputable section
variable {P:Program} {K:FuncId->List Value->Option kA}
def T7 (k:Nat) (a b:Value):Option Bool:=match k,a,b with
 |0,.int k m,.int c n=>if k=c then some (m==n) else none
 |1,.bool m,.bool n=>some (m==n)
 |2,.string m,.string n=>some (m==n)
 |_,_,_=>none
def qF:List Nat->List Value->List Value->Option Bool
 |[],[],[]=>some true
 |k::c,x::d,y::e=>match T7 k x y,qF c d e with
  |some a,some b=>some (a&&b)
  |_,_=>none
 |_,_,_=>none
def Lh (P:Program) (c:TypeId->Option (List Nat)):Nat->List Field->Option (List Nat)
 |_,[]=>some []
 |o,f::d=>if f.name="_"\/f.offset≠o then none else
  match c f.type,Lh P c (o+P.cellsOf f.type) d with
  |some a,some b=>if a.length=P.cellsOf f.type then some (a++b) else none
  |_,_=>none
def flatK (P:Program):Nat->TypeId->Option (List Nat)
 |0,_=>none
 |d+1,t=>match P.underlying t with
  |some .bool=>some [1]
  |some (.int _)=>some [0]
  |some .string=>some [2]
  |some (.array n e)=>if(P.info? e).isSome then
    (match flatK P d e with
    |some l=>if l.length=P.cellsOf e then some (List.replicate n l).flatten else none
    |none=>none) else none
  |some (.struct a)=>if P.stoodInHeld t then none else Lh P (flatK P d) 0 a.toList
  |_=>none
theorem rI:∀{c:List Nat} {a b:List Value} {r:Bool},qF c a b=some r->a.length=c.length/\b.length=c.length
 |[],[],[],_,_=>⟨rfl,rfl⟩
 |[],[],_::_,_,h=>by simp[qF] at h
 |[],_::_,_,_,h=>by simp[qF] at h
 |_::_,[],_,_,h=>by simp[qF] at h
 |_::_,_::_,[],_,h=>by simp[qF] at h
 |k::c,x::e,y::f,r,h=>by
  simp only[qF] at h;split at h;rename_i d;have:=rI d;simp[this];cases h
theorem C3:∀{c d:List Nat} {a b:List Value} {r:Bool},qF (c++d) a b=some r->∃e f,qF c (a.take c.length) (b.take c.length)=some e/\qF d (a.drop c.length) (b.drop c.length)=some f/\r=(e&&f)
 |[],d,a,b,r,h=>⟨true,r,by simp[qF],by simpa using h,by simp⟩
 |k::g,d,[],_,r,h=>by simp[qF] at h
 |k::g,d,_::_,[],r,h=>by simp[qF] at h
 |k::g,d,x::n,y::o,r,h=>by
  simp only[List.cons_append,qF] at h;split at h;rename_i e f i j;cases h;obtain⟨s1,s2,l,m,rfl⟩:=C3 j;exact⟨e&&s1,s2,by simp[qF,i,l],by simpa using m,by rw[Bool.and_assoc]⟩;cases h
def valOf (P:Program) (t:TypeId) (a:List Value):Option Value:=match jM P t with
 |some true=>some (.agg ⟨a⟩)
 |some false=>a[0]?
 |none=>none
theorem A8 {t:TypeId} {xs a:List Value} {b:Nat} {v:Value} (e:(xs.drop b).take (P.cellsOf t)=a) (f:a.length=P.cellsOf t) (d:0<P.cellsOf t\/b<=xs.length) (c:valOf P t a=some v):apart P t xs b=some v:=by
 unfold valOf at c;unfold apart;grind
theorem Ni {eq:TypeId->Value->Value->Option Bool} {j:TypeId->Option (List Nat)}
  (n:∀t d a b r,j t=some d->d.length=P.cellsOf t->qF d a b=some r->∃x y,valOf P t a=some x/\valOf P t b=some y/\eq t x y=some r)
  {xs ys:List Value}:∀(fs:List Field) (o:Nat) (d:List Nat) (r:Bool),o<=xs.length->o<=ys.length->Lh P j o fs=some d->qF d (xs.drop o) (ys.drop o)=some r->mP P eq xs ys fs=some r
 |[],o,d,r,_,_,c,e=>by
  simp only[Lh,Option.some.injEq] at c;subst c;have:=rI e;have s:xs.drop o=[]:=List.eq_nil_of_length_eq_zero this.1;have u:ys.drop o=[]:=List.eq_nil_of_length_eq_zero this.2;rw[s,u] at e;simpa [qF,mP] using e
 |f::fs,o,d,r,A,C,c,e=>by
  simp only[Lh] at c;split at c;cases c;rename_i i;simp only[not_or,Decidable.not_not,ne_eq] at i;split at c;rename_i a b v w;split at c;rename_i g;cases c;obtain⟨G,F,l,m,rfl⟩:=C3 e;obtain⟨x,y,D,E,z⟩:=n _ _ _ _ _ v g l;have l3:=rI l;have lc:=rI e;simp only[List.length_drop,List.length_append] at lc;have p:apart P f.type xs f.offset=some x:=A8 (by rw[i.2,<-g]) (by rw[l3.1,g]) (.inr (by omega)) D;have q:apart P f.type ys f.offset=some y:=A8 (by rw[i.2,<-g]) (by rw[l3.2,g]) (.inr (by omega)) E;simp only[mP];rw[aKi i.1,p,q];simp only[z];rw[List.drop_drop,List.drop_drop] at m;have:=Ni (xs:=xs) (ys:=ys) n fs (o+P.cellsOf f.type) b F (by omega) (by omega) w (by rw[<-g];exact m);grind;cases c;cases c
theorem U9 {eq:TypeId->Value->Value->Option Bool} {e:TypeId} {l:List Nat}
  (i:∀a b r,qF l a b=some r->∃x y,valOf P e a=some x/\valOf P e b=some y/\eq e x y=some r) (d:l.length=P.cellsOf e)
  {xs ys:List Value}:∀(n j:Nat) (r:Bool),j*P.cellsOf e<=xs.length->j*P.cellsOf e<=ys.length->qF (List.replicate n l).flatten (xs.drop (j*P.cellsOf e)) (ys.drop (j*P.cellsOf e))=some r->rT P eq e xs ys (List.range' j n)=some r
 |0,j,r,_,_,c=>by
  have:=rI c;simp only[List.replicate_zero,List.flatten_nil,List.length_nil] at this;have f:xs.drop (j*P.cellsOf e)=[]:=List.eq_nil_of_length_eq_zero this.1;have p:ys.drop (j*P.cellsOf e)=[]:=List.eq_nil_of_length_eq_zero this.2;rw[f,p] at c;simpa [qF,rT] using c
 |n+1,j,r,u,w,c=>by
  rw[List.replicate_succ,List.flatten_cons] at c;obtain⟨A,z,g,q,rfl⟩:=C3 c;obtain⟨x,y,t,v,s⟩:=i _ _ _ g;have l3:=rI g;have lc:=rI c;simp only[List.length_drop,List.length_append] at lc;have m:apart P e xs (j*P.cellsOf e)=some x:=A8 (by rw[<-d]) (by rw[l3.1,d]) (.inr (by omega)) t;have o:apart P e ys (j*P.cellsOf e)=some y:=A8 (by rw[<-d]) (by rw[l3.2,d]) (.inr (by omega)) v;simp only[List.range'_succ,rT,m,o,s];rw[List.drop_drop,List.drop_drop] at q;have f:(j+1)*P.cellsOf e=j*P.cellsOf e+P.cellsOf e:=Nat.succ_mul _ _;have:=U9 (xs:=xs) (ys:=ys) i d n (j+1) z (by omega) (by omega) (by grind);grind
theorem x8 (d:Nat):∀(t:TypeId) (i:List Nat) (a b:List Value) (r:Bool),flatK P d t=some i->i.length=P.cellsOf t->qF i a b=some r->
  ∃x y,valOf P t a=some x/\valOf P t b=some y/\zF P d t x y=some r:=by
 induction d with
 |zero=>intro t i a b r h;simp[flatK] at h
 |succ d p=>
  intro t i a b r h o j
  have one:∀k,i=[k]->∃x y,a=[x]/\b=[y]/\T7 k x y=some r:=fun k o=>by
   subst o;have:=rI j;match a,b,this with
   |[x],[y],_=>
    refine⟨x,y,rfl,rfl,?_⟩;simp only[qF] at j;grind
  unfold flatK at h
  split at h
  .rename_i c;obtain⟨x,y,rfl,rfl,f⟩:=one 1 (by simpa using h.symm);refine⟨x,y,by simp[valOf,jM,c],by simp[valOf,jM,c],?_⟩;unfold T7 at f;split at f
   .rename_i g;cases g
   .cases f;unfold zF;simp[c]
   .rename_i g;cases g
   .cases f
  .rename_i k c;obtain⟨x,y,rfl,rfl,f⟩:=one 0 (by simpa using h.symm);refine⟨x,y,by simp[valOf,jM,c],by simp[valOf,jM,c],?_⟩;unfold T7 at f;split at f
   .split at f
    .rename_i m;subst m;cases f;unfold zF;simp[c]
    .cases f
   .rename_i g;cases g
   .rename_i g;cases g
   .cases f
  .rename_i c;obtain⟨x,y,rfl,rfl,f⟩:=one 2 (by simpa using h.symm);refine⟨x,y,by simp[valOf,jM,c],by simp[valOf,jM,c],?_⟩;unfold T7 at f;split at f
   .rename_i g;cases g
   .rename_i g;cases g
   .cases f;unfold zF;simp[c]
   .cases f
  .rename_i n e c;split at h
   .rename_i w;split at h
    .rename_i l z;split at h
     .rename_i hle;cases h;refine⟨.agg ⟨a⟩,.agg ⟨b⟩,by simp[valOf,jM,c],by simp[valOf,jM,c],?_⟩;unfold zF;simp only[c,w,if_true];rw[List.range_eq_range'];exact U9 (fun a b r j=>p e l a b r z hle j) hle n 0 r (by simp) (by simp) (by simpa using j)
     .cases h
    .cases h
   .cases h
  .rename_i q c;split at h
   .cases h
   .rename_i A;refine⟨.agg ⟨a⟩,.agg ⟨b⟩,by simp[valOf,jM,c],by simp[valOf,jM,c],?_⟩;unfold zF;simp only[c,A,Bool.false_eq_true,if_false];exact Ni (fun t i a b r s u v=>p t i a b r s u v) q.toList 0 i r (by simp) (by simp) h (by simpa using j)
  .cases h
def Sp (op:BinOp) (r:Bool):Option Value:=match op with
 |.eql=>some (.bool r)
 |.neq=>some (.bool !r)
 |_=>none
def uE (op:BinOp) (a b:Value):Option Value:=match a,b with
 |.int k m,.int c n=>if k=c then Mp op k m n else Je op k m n
 |_,_=>none
def Uh (op:BinOp) (a b:Value):Option Value:=match a,b with
 |.string m,.string n=>xz op m n
 |_,_=>none
def Ty (op:BinOp) (a b:Value):Option Value:=match a,b with
 |.bool m,.bool n=>Sp op (m==n)
 |_,_=>none
def Oa (op:BinOp) (a b:Value):Option Value:=match a,b with
 |.pointer none,.pointer b=>Sp op b.isNone
 |.pointer (some _),.pointer none=>Sp op false
 |_,_=>none
def Mr (op:BinOp) (a b:Value):Option Value:=match a,b with
 |.slice none _ _,.slice b _ _=>Sp op b.isNone
 |.slice (some _) _ _,.slice none _ _=>Sp op false
 |_,_=>none
def Rk (op:BinOp) (a b:Value):Option Value:=match a,b with
 |.nilFunc,.nilFunc=>Sp op true
 |.nilFunc,.func _ _ _=>Sp op false
 |.func _ _ _,.nilFunc=>Sp op false
 |_,_=>none
def Ol (c:Bool) (op:BinOp) (a b:Value):Option Value:=match a,b with
 |.nilIface,.nilIface=>if c then Sp op true else none
 |.nilIface,.iface _ _=>Sp op false
 |.iface _ _,.nilIface=>Sp op false
 |_,_=>none
def Md (c:List Nat) (op:BinOp) (a b:Value):Option Value:=match a,b with
 |.agg d,.agg e=>(qF c d.toList e.toList).bind (Sp op)
 |_,_=>none
def Ic (P:Program) (t:TypeId):Option (List Nat):=match flatK P 10000 t with
 |some a=>if a.length=P.cellsOf t/\jM P t=some true/\P.eqGuardType P.depth t=false then some a else none
 |none=>none
def Ud (P:Program) (op:BinOp) (t:TypeId) (x y:Operand) (a b:Value) (q:Value->Prop) (bG:Option Value->(Value->Prop)->Prop):Prop:=
 match P.underlying t with
 |some (.int _)=>bG (uE op a b) q
 |some .string=>bG (Uh op a b) q
 |some .bool=>bG (Ty op a b) q
 |some (.pointer _)=>bG (Oa op a b) q
 |some (.slice _)=>bG (Mr op a b) q
 |some (.func _ _ _)=>bG (Rk op a b) q
 |some (.interface _)=>bG (Ol (isConst x||isConst y) op a b) q
 |some (.struct _)=>(match Ic P t with
  |some c=>bG (Md c op a b) q
  |none=>False)
 |some (.array _ _)=>(match Ic P t with
  |some c=>bG (Md c op a b) q
  |none=>False)
 |_=>False
theorem kZ {op:BinOp} {t:TypeId} {x y:Operand} {a b v:Value} {r:Bool} (e:∀k m d n,¬(a= .int k m/\b= .int d n)) (i:∀m n,¬(a= .string m/\b= .string n)) (c:Sp op r=some v) (f:G4 P t x y a b=true) (g:zF P 10000 t a b=some r):
  Uj P op t x y a b=some v:=by
 unfold Uj
 split
 .grind
 .grind
 .unfold Sp at c;grind
theorem mD {t:TypeId} {a b:Value} {r:Bool} (h:zF P (9999+1) t a b=some r):zF P 10000 t a b=some r:=h
theorem R6 {op:BinOp} {t:TypeId} {x y:Operand} {a b:Value} {q:Value->Prop} (g:Ud P op t x y a b q fun o p=>∃v,o=some v/\p v):∃v,Uj P op t x y a b=some v/\q v:=by
 unfold Ud at g;split at g;obtain⟨v,c,d⟩:=g;refine⟨v,?_,d⟩;unfold uE at c;split at c;simp only[Uj];exact c;cases c;obtain⟨v,c,d⟩:=g;refine⟨v,?_,d⟩;unfold Uh at c;split at c;simp only[Uj];exact c;cases c;rename_i e;obtain⟨v,c,d⟩:=g;refine⟨v,?_,d⟩;unfold Ty at c;split at c;exact kZ (fun _ _ _ _ h=>by cases h.1) (fun _ _ h=>by cases h.1) c rfl (mD (by unfold zF;simp[e]));cases c;rename_i e;obtain⟨v,c,d⟩:=g;refine⟨v,?_,d⟩;unfold Oa at c;split at c;exact kZ (fun _ _ _ _ h=>by cases h.1) (fun _ _ h=>by cases h.1) c rfl (mD (by unfold zF;simp[e]));exact kZ (fun _ _ _ _ h=>by cases h.1) (fun _ _ h=>by cases h.1) c rfl (mD (by unfold zF;simp[e]));cases c;rename_i e;obtain⟨v,c,d⟩:=g;refine⟨v,?_,d⟩;unfold Mr at c;split at c;exact kZ (fun _ _ _ _ h=>by cases h.1) (fun _ _ h=>by cases h.1) c rfl (mD (by unfold zF;simp[e]));exact kZ (fun _ _ _ _ h=>by cases h.1) (fun _ _ h=>by cases h.1) c rfl (mD (by unfold zF;simp[e]));cases c;rename_i e;obtain⟨v,c,d⟩:=g;refine⟨v,?_,d⟩;unfold Rk at c;split at c;exact kZ (fun _ _ _ _ h=>by cases h.1) (fun _ _ h=>by cases h.1) c rfl (mD (by unfold zF;simp[e]));exact kZ (fun _ _ _ _ h=>by cases h.1) (fun _ _ h=>by cases h.1) c rfl (mD (by unfold zF;simp[e]));exact kZ (fun _ _ _ _ h=>by cases h.1) (fun _ _ h=>by cases h.1) c rfl (mD (by unfold zF;simp[e]));cases c;rename_i e;obtain⟨v,c,d⟩:=g;refine⟨v,?_,d⟩;unfold Ol at c;split at c;split at c;rename_i i;exact kZ (fun _ _ _ _ h=>by cases h.1) (fun _ _ h=>by cases h.1) c (by simpa [G4] using i) (mD (by unfold zF;simp[e]));cases c;exact kZ (fun _ _ _ _ h=>by cases h.1) (fun _ _ h=>by cases h.1) c rfl (mD (by unfold zF;simp[e]));exact kZ (fun _ _ _ _ h=>by cases h.1) (fun _ _ h=>by cases h.1) c rfl (mD (by unfold zF;simp[e]));cases c;all_goals
  first
   |cases g
   |split at g
    .rename_i G f;obtain⟨v,c,d⟩:=g;refine⟨v,?_,d⟩;unfold Md at c;split at c
     .rename_i D F;simp only[Option.bind_eq_some_iff] at c;obtain⟨r,z,u⟩:=c;unfold Ic at f;split at f
      .rename_i A m;split at f
       .rename_i i;cases f;obtain⟨C,E,j,l,w⟩:=x8 10000 t _ _ _ _ m i.1 z;simp only[valOf,i.2.1,Option.some.injEq] at j l;have n:C= .agg D:=j.symm;have s:E= .agg F:=l.symm;subst n;subst s;exact kZ (fun _ _ _ _ h=>by cases h.1) (fun _ _ h=>by cases h.1) u (by simp[G4,i.2.2]) w
       .cases f
      .cases f
     .cases c
    .cases g
end
end Go.Ab
end
section
namespace Go.Ab
noncomputable section
variable {P:Program} {K:FuncId->List Value->Option kA}
def Ok (P:Program) (K:FuncId->List Value->Option kA) (t:Task) (h:AH) (Q:Out->AH->Prop):Prop:=∃n r,run P K n t h=some r/\Q r.1 r.2
def bG {α:Type} (o:Option α) (p:α->Prop):Prop:=∃v,o=some v/\p v
def Br (v:Value) (p q:Prop):Prop:=∃b,v= .bool b/\(b=true->p)/\(b=false->q)
theorem Ok.mono {t:Task} {h:AH} {Q a:Out->AH->Prop} (k:Ok P K t h Q) (e:∀o b,Q o b->a o b):Ok P K t h a:=
 let⟨n,r,c,d⟩:=k;⟨n,r,c,e _ _ d⟩
@[simp] theorem aHg {α:Type} {v:α} {p:α->Prop}:bG (some v) p↔p v:=⟨fun⟨_,h,k⟩=>by cases h;exact k,fun k=>⟨v,rfl,k⟩⟩
@[simp] theorem aG9 {α:Type} {p:α->Prop}:bG none p↔False:=⟨fun⟨_,h,_⟩=>(nomatch h),False.elim⟩
@[congr] theorem aF9 {α:Type} {o o':Option α} {p:α->Prop} (h:o=o'):bG o p↔bG o' p:=by rw[h]
theorem bG.mono {α:Type} {o:Option α} {p c:α->Prop} (h:bG o p) (k:∀v,p v->c v):bG o c:=let⟨v,a,b⟩:=h;⟨v,a,k v b⟩
@[simp] theorem zq {p q:Prop}:Br (.bool true) p q↔p:=⟨fun⟨b,h,k,_⟩=>by cases h;exact k rfl,fun k=>⟨true,rfl,fun _=>k,by simp⟩⟩
@[simp] theorem u0 {p q:Prop}:Br (.bool false) p q↔q:=⟨fun⟨b,h,_,k⟩=>by cases h;exact k rfl,fun k=>⟨false,rfl,by simp,fun _=>k⟩⟩
theorem Rx {b:Bool} {p q:Prop} (a:b=true->p) (c:b=false->q):Br (.bool b) p q:=⟨b,rfl,a,c⟩
@[congr] theorem aG7 {v v':Value} {p q:Prop} (h:v=v'):Br v p q↔Br v' p q:=by rw[h]
def sF (c a b:Value):Option Value:=match c with
 |.bool t=>some (if t then a else b)
 |_=>none
def ld1 (h:AH) (p:Value):Option Value:=match p with
 |.pointer (some a)=>if a.spot.isSome then none else
  (match h.get a.block with
  |some (.cells c _ _ _)=>c[a.off]?
  |_=>none)
 |_=>none
def uF (h:AH) (n:Nat) (p:Value):Option Value:=match p with
 |.pointer (some a)=>(cJ h a n).map fun l=> .agg ⟨l⟩
 |_=>none
def mY (p:Value):Option Value:=match p with
 |.pointer (some a)=>some (.pointer (some a))
 |.func (.func f) a b=>some (.func (.func f) a b)
 |.func (.yield f) a b=>some (.func (.yield f) a b)
 |_=>none
def Rn (op:UnOp) (x:Value):Option Value:=match op,x with
 |.neg,.int k n=>some (.int k (k.wrap (0 - n)))
 |.not,.bool b=>some (.bool !b)
 |_,_=>none
def nL (k:IntKind) (x:Value):Option Value:=match x with
 |.int _ n=>some (.int k (k.wrap n))
 |_=>none
def rR (x:Value):Option Value:=match x with
 |.string z=>some (.string z)
 |_=>none
def hQ (n:Nat) (p:Value):Option Value:=match p with
 |.pointer (some a)=>some (.pointer (some (a.add n)))
 |_=>none
def pZ (a:Nat) (x:Value):Option Value:=match x with
 |.agg b=>b.toList[a]?
 |_=>none
def pS (a n:Nat) (x:Value):Option Value:=match x with
 |.agg b=>if a+n<=b.toList.length then some (.agg ⟨(b.toList.drop a).take n⟩) else none
 |_=>none
def oT (n b:Nat) (x i:Value):Option Value:=match x,i with
 |.pointer (some a),.int _ i=>if 0<=i/\i<n then some (.pointer (some (a.add (i.toNat*b)))) else none
 |_,_=>none
def lN (b:Nat) (x i:Value):Option Value:=match x,i with
 |.slice (some a) n _,.int _ i=>if 0<=i/\i<n/\a.spot=none then some (.pointer (some (a.add (i.toNat*b)))) else none
 |_,_=>none
def Mb (n b:Nat) (x i:Value):Option Value:=match x,i with
 |.agg a,.int _ i=>if 0<=i/\i<n then a.toList[i.toNat*b]? else none
 |_,_=>none
def Qq (n a:Nat) (x i:Value):Option Value:=match x,i with
 |.agg b,.int _ i=>if 0<=i/\i<n/\i.toNat*a+a<=b.toList.length then some (.agg ⟨(b.toList.drop (i.toNat*a)).take a⟩) else none
 |_,_=>none
def Sb (x i:Value):Option Value:=match x,i with
 |.string s,.int _ i=>if 0<=i then(s[i.toNat]?).map fun b=> .int .u8 b.toNat else none
 |_,_=>none
def qG (i:Nat) (t:Value):Option Value:=match t with
 |.tuple a=>a.toList[i]?
 |_=>none
def uG (h:AH) (n:Nat) (p v:Value):Option AH:=match p with
 |.pointer (some a)=>(match iK v with
  |some b=>if b.length=n then dI h a b else none
  |none=>none)
 |_=>none
def kX (e:TypeId) (v:Value):Option oS:=(iK v).map fun l=> .cells l e (0,0) true
def Gk (bytes:Nat) (l c:Value):Option (Nat×Nat):=match l,c with
 |.int _ l,.int _ c=>if 0<=l/\l<=c/\c<=2^40/\bytes*c<=2^47 then some (l.toNat,c.toNat) else none
 |_,_=>none
def pJ (cells:List Value):List (Nat×Nat×Value)->Option (List Value)
 |[]=>some cells
 |(a,size,v)::rest=>match iK v with
  |some b=>if b.length=size/\a+b.length<=cells.length then pJ (cF cells a b) rest else none
  |none=>none
def xT (place:Nat->Option (Nat×Nat)) (b:Operand->Value):List (Nat×Operand)->Option (List (Nat×Nat×Value))
 |[]=>some []
 |(i,x)::rest=>match place i,xT place b rest with
  |some (a,size),some l=>some ((a,size,b x)::l)
  |_,_=>none
theorem E7 {place:Nat->Option (Nat×Nat)} {b:Operand->Value}:∀{a:List (Nat×Operand)} {l:List (Nat×Nat×Value)} {cells:List Value},xT place b a=some l->D9 place cells (a.map fun p=>(p.1,b p.2))=pJ cells l
 |[],l,cells,h=>by simp only[xT,Option.some.injEq] at h;subst h;rfl
 |(i,x)::rest,l,cells,h=>by
  simp only[xT] at h;split at h;rename_i e size f c d;cases h;simp only[List.map_cons,D9,pJ,c];cases hc:iK (b x) with
  |none=>rfl
  |some g=>
   simp only;split;exact E7 d;rfl
  cases h
def wV (g:Nat) (h:AH) (x:Value) (f e d:Option Value):Option Value:=match x with
 |.slice none len b=>
  match lS d b b with
  |some m=>match(if e.isNone&&d.isSome then none else lS e len m) with
   |some c=>match lS f 0 c with
    |some l=>some (.slice none (c - l) (m - l))
    |none=>none
   |none=>none
  |none=>none
 |.slice (some a) len b=>
  match lS d b b with
  |some m=>match(if e.isNone&&d.isSome then none else lS e len m) with
   |some c=>match lS f 0 c with
    |some l=>
     if a.spot.isSome then(if len=0/\b=0 then some (if d.isSome then tB else aE6) else none) else
     if c<=m then
      (if m=l then
       if d.isSome then some tB else
       match nR h a.block with
       |some true=>some tB
       |some false=>some (zU (a.add (l*g)))
       |none=>none
      else some (.slice (some (a.add (l*g))) (c - l) (m - l)))
     else none
    |none=>none
   |none=>none
  |none=>none
 |_=>none
def Tu (n f:Nat) (x:Value) (e c d:Option Value):Option Value:=match x with
 |.pointer (some a)=>
  match lS d n n with
  |some m=>match(if c.isNone&&d.isSome then none else lS c n m) with
   |some b=>match lS e 0 b with
    |some l=>if a.spot=none then some (.slice (some (if m=l then a else a.add (l*f))) (b - l) (m - l)) else none
    |none=>none
   |none=>none
  |none=>none
 |_=>none
def U3 (x:Value) (c b:Option Value):Option Value:=match x with
 |.string s=>
  match lS b s.size s.size with
  |some a=>match lS c 0 a with
   |some l=>some (.string (s.extract l a))
   |none=>none
  |none=>none
 |_=>none
def zB (P:Program) (K:FuncId->List Value->Option kA) (f:Value) (args:List Value) (h:AH) (Q:Value->AH->Prop):Prop:=match f with
 |.func (.func g) first a=>callable P g=true/\Ok P K (.call g (first.toList++args++a.toList)) h fun o b=>Q o.v b
 |.func (.yield l) first _=>Ok P K (.round l (first.toList++args)) h fun o b=>Q o.v b
 |_=>False
def lkV (z:Value) (h:AH) (x ix:Value) (ok:Bool):Option Value:=match X9 h x,ix with
 |some a,.int k n=>match wP k n a 0 with
  |some (some (_,v))=>some (if ok then .tuple ⟨[v,.bool true]⟩ else v)
  |some none=>some (if ok then .tuple ⟨[z,.bool false]⟩ else z)
  |none=>none
 |_,_=>none
def jO (P:Program) (g:Operand->Value) (h:AH) (q:Value->Prop):Op->Prop
 |.move x=>q (g x)
 |.assign x=>q (g x)
 |.pick c a b=>bG (sF (g c) (g a) (g b)) q
 |.build t m=>match zeroOf P t with
  |some z=>(match P.underlying t with
   |some (.struct o)=>if o.all (fun f=>(P.info? f.type).isSome) then(match xT (fun i=>(o[i]?).map fun f=>(f.offset,P.cellsOf f.type)) g m.toList with
    |some l=>bG (pJ z l) fun c=>q (.agg ⟨c⟩)
    |none=>False) else False
   |some (.array _ e)=>if(P.info? e).isSome then(match xT (fun i=>some (i*P.cellsOf e,P.cellsOf e)) g m.toList with
    |some l=>bG (pJ z l) fun c=>q (.agg ⟨c⟩)
    |none=>False) else False
   |_=>False)
  |none=>False
 |.load t a=>match jM P t with
  |some true=>bG (uF h (P.cellsOf t) (g a)) q
  |some false=>bG (ld1 h (g a)) q
  |none=>False
 |.nilCheck x=>bG (mY (g x)) q
 |.binOp op t x y _=>Ud P op t x y (g x) (g y) q bG
 |.unOp op _ x=>bG (Rn op (g x)) q
 |.convert s d x=>match P.underlying s with
  |some .string=>(match P.underlying d with
   |some (.int k)=>bG (nL k (g x)) q
   |some .string=>bG (rR (g x)) q
   |_=>False)
  |some (.slice e)=>(match P.underlying d with
   |some .string=>(match P.underlying e with
    |some (.int .u8)=>bG (strOf h (g x)) q
    |_=>False)
   |_=>False)
  |some _=>(match P.underlying d with
   |some (.int k)=>bG (nL k (g x)) q
   |_=>False)
  |none=>False
 |.makeInterface t x=>match P.underlying t with
  |some (.interface _)=>False
  |some _=>q (.iface t (g x))
  |none=>False
 |.makeFunc fn first j=>match fn with
  |.func f=>q (.func (.func f) (first.map g) (j.map g))
  |_=>False
 |.slice t x r p u=>match P.underlying t with
  |some (.slice e)=>if(P.info? e).isSome then bG (wV (P.cellsOf e) h (g x) (r.map g) (p.map g) (u.map g)) q else False
  |some (.array n e)=>if(P.info? e).isSome then bG (Tu n (P.cellsOf e) (g x) (r.map g) (p.map g) (u.map g)) q else False
  |some .string=>(match u with
   |none=>bG (U3 (g x) (r.map g) (p.map g)) q
   |some _=>False)
  |_=>False
 |.fieldAddr s x f=>match P.underlying s with
  |some (.struct o)=>(match o[f]? with
   |some fd=>if P.cellsOf fd.type=0 then False else bG (hQ fd.offset (g x)) q
   |none=>False)
  |_=>False
 |.field t x f=>match P.underlying t with
  |some (.struct o)=>(match o[f]? with
   |some fd=>(match jM P fd.type with
    |some true=>bG (pS fd.offset (P.cellsOf fd.type) (g x)) q
    |some false=>bG (pZ fd.offset (g x)) q
    |none=>False)
   |none=>False)
  |_=>False
 |.indexAddr t x i=>match P.underlying t with
  |some (.array n e)=>if(P.info? e).isSome then bG (oT n (P.cellsOf e) (g x) (g i)) q else False
  |some (.slice e)=>if(P.info? e).isSome then bG (lN (P.cellsOf e) (g x) (g i)) q else False
  |_=>False
 |.index t x i=>match P.underlying t with
  |some (.array n e)=>if(P.info? e).isSome then(match jM P e with
   |some true=>bG (Qq n (P.cellsOf e) (g x) (g i)) q
   |some false=>bG (Mb n (P.cellsOf e) (g x) (g i)) q
   |none=>False) else False
  |some .string=>bG (Sb (g x) (g i)) q
  |_=>False
 |.extract t i=>bG (qG i (g t)) q
 |.lookup t x ix ok=>match Ge P t with
  |some e=>(match zeroV P e with
   |some z=>bG (lkV z h (g x) (g ix) ok) q
   |none=>False)
  |none=>False
 |_=>False
theorem Ce {G:Operand->Value} {h:AH} {q:Value->Prop} {op:Op} (b:jO P G h q op):kindOf op= .Aa/\∃v,bY P G h op=some v/\q v:=by
 unfold jO at b;split at b;exact⟨rfl,_,rfl,b⟩;exact⟨rfl,_,rfl,b⟩;obtain⟨v,a,f⟩:=b;exact⟨rfl,v,a,f⟩;refine⟨rfl,?_⟩;split at b;rename_i z F;split at b;rename_i H r;split at b;rename_i o;split at b;rename_i l E;obtain⟨c,a,f⟩:=b;refine⟨_,?_,f⟩;simp only[bY,K7,F,r,o,if_true];rw[E7 E,a];rfl;cases b;cases b;rename_i e r;split at b;rename_i o;split at b;rename_i l E;obtain⟨c,a,f⟩:=b;refine⟨_,?_,f⟩;simp only[bY,K7,F,r,o,if_true];rw[E7 E,a];rfl;cases b;cases b;cases b;cases b;refine⟨rfl,?_⟩;split at b;rename_i n;obtain⟨v,a,f⟩:=b;refine⟨v,?_,f⟩;unfold uF at a;simp only[bY];split at a;rename_i g;rw[g];simp only[wI,n];exact a;cases a;rename_i n;obtain⟨v,a,f⟩:=b;refine⟨v,?_,f⟩;unfold ld1 at a;simp only[bY];split at a;rename_i g;rw[g];simp only[wI,n];exact a;cases a;cases b;obtain⟨v,a,f⟩:=b;exact⟨rfl,v,a,f⟩;obtain⟨v,a,f⟩:=R6 b;exact⟨rfl,v,a,f⟩;obtain⟨v,a,f⟩:=b;exact⟨rfl,v,a,f⟩;refine⟨rfl,?_⟩;split at b;rename_i i;split at b;rename_i s;obtain⟨v,a,f⟩:=b;refine⟨v,?_,f⟩;unfold nL at a;split at a;rename_i g;simp only[bY,i,s,g];exact a;cases a;rename_i s;obtain⟨v,a,f⟩:=b;refine⟨v,?_,f⟩;unfold rR at a;split at a;rename_i g;simp only[bY,i,s,g];exact a;cases a;cases b;rename_i i;split at b;rename_i s;split at b;rename_i g;obtain⟨v,a,f⟩:=b;refine⟨v,?_,f⟩;simp only[bY,i,s,g];exact a;cases b;cases b;rename_i i;split at b;rename_i s;obtain⟨v,a,f⟩:=b;refine⟨v,?_,f⟩;unfold nL at a;split at a;rename_i g;simp only[bY,i,s,g];exact a;cases a;cases b;cases b;refine⟨rfl,?_⟩;split at b;cases b;rename_i t x d I i;refine⟨_,?_,b⟩;simp only[bY];grind;cases b;split at b;exact⟨rfl,_,rfl,b⟩;cases b;refine⟨rfl,?_⟩;split at b;rename_i r;split at b;rename_i y;obtain⟨v,a,f⟩:=b;refine⟨v,?_,f⟩;unfold wV at a;split at a;rename_i u;simp only[bY,u,uW,r,y,if_true];exact a;rename_i u;simp only[bY,u,uW,r,y,true_and];exact a;cases a;cases b;rename_i r;split at b;rename_i y;obtain⟨v,a,f⟩:=b;refine⟨v,?_,f⟩;unfold Tu at a;split at a;rename_i u;simp only[bY,u,uW,r,y,true_and];exact a;cases a;cases b;rename_i r;split at b;obtain⟨v,a,f⟩:=b;refine⟨v,?_,f⟩;unfold U3 at a;split at a;rename_i u;simp only[bY,u,uW,r,Option.map_none,Option.isSome_none,Bool.false_eq_true,if_false];exact a;cases a;cases b;cases b;refine⟨rfl,?_⟩;split at b;rename_i i;split at b;rename_i w;split at b;cases b;rename_i p;obtain⟨v,a,f⟩:=b;refine⟨v,?_,f⟩;unfold hQ at a;split at a;rename_i g;simp only[bY,i,g,w,p,if_false];exact a;cases a;cases b;cases b;refine⟨rfl,?_⟩;split at b;rename_i i;split at b;rename_i w;split at b;rename_i n;obtain⟨v,a,f⟩:=b;refine⟨v,?_,f⟩;unfold pS at a;split at a;rename_i g;simp only[bY,i,g,w,apart,n];exact a;cases a;rename_i n;obtain⟨v,a,f⟩:=b;refine⟨v,?_,f⟩;unfold pZ at a;split at a;rename_i g;simp only[bY,i,g,w,apart,n];exact a;cases a;cases b;cases b;cases b;refine⟨rfl,?_⟩;split at b;rename_i i;split at b;rename_i j;obtain⟨v,a,f⟩:=b;refine⟨v,?_,f⟩;unfold oT at a;split at a;rename_i g m;split at a;rename_i p;simp only[bY,i,g,m,p,j,and_self,if_true];exact a;cases a;cases a;cases b;rename_i i;split at b;rename_i j;obtain⟨v,a,f⟩:=b;refine⟨v,?_,f⟩;unfold lN at a;split at a;rename_i g m;split at a;rename_i p;simp only[bY,i,g,m,p,j,and_self,if_true];exact a;cases a;cases a;cases b;cases b;refine⟨rfl,?_⟩;split at b;rename_i i;split at b;rename_i j;split at b;rename_i n;obtain⟨v,a,f⟩:=b;refine⟨v,?_,f⟩;unfold Qq at a;split at a;rename_i g m;split at a;rename_i p;have A:=p.1;have C:=p.2.1;have D:=p.2.2;simp only[bY,i,g,m,A,C,j,and_self,if_true,apart,n,D];exact a;cases a;cases a;rename_i n;obtain⟨v,a,f⟩:=b;refine⟨v,?_,f⟩;unfold Mb at a;split at a;rename_i g m;split at a;rename_i p;simp only[bY,i,g,m,p,j,and_self,if_true,apart,n];exact a;cases a;cases a;cases b;cases b;rename_i i;obtain⟨v,a,f⟩:=b;refine⟨v,?_,f⟩;unfold Sb at a;split at a;rename_i g m;simp only[bY,i,g,m];exact a;cases a;cases b;obtain⟨v,a,f⟩:=b;exact⟨rfl,v,a,f⟩;refine⟨rfl,?_⟩;split at b;rename_i e g;split at b;rename_i z F;obtain⟨v,a,f⟩:=b;refine⟨v,?_,f⟩;unfold lkV at a;simp only[bY,yB,g];grind;cases b;cases b;cases b
end
end Go.Ab
end
section
namespace Go.Ab
noncomputable section
variable {P:Program} {K:FuncId->List Value->Option kA}
def zE (x:Value):Option Value:=match x with
 |.string s=>some (.int .i64 s.size)
 |_=>none
def lH (x:Value):Option Value:=match x with
 |.slice _ n _=>some (.int .i64 n)
 |_=>none
def j3 (h:AH) (x:Value):Option Value:=(X9 h x).map fun a=> .int .i64 a.length
def xM (x y:Value):Option Value:=match x,y with
 |.int k x,.int _ y=>some (.int k (if y<x then y else x))
 |_,_=>none
def zA (x y:Value):Option Value:=match x,y with
 |.int k x,.int _ y=>some (.int k (if y>x then y else x))
 |_,_=>none
def iV (i bytes:Nat) (e:TypeId) (h:AH) (s x:Value):Option (Value×AH):=
 match s,tG x with
 |.slice f b d,some n=>
  match gE h i n x with
  |some new=>
   if !new.all eJ||new.length !=n*i then none else
   if b+n<=d then
    match f with
    |none=>if n=0 then some (s,h) else none
    |some a=>if n=0 then some (s,h) else if a.spot.isSome then none else
     (dI h (a.add (b*i)) new).map fun m=>(.slice f (b+n) d,m)
   else if(b+n)*(bytes+1)<=2^46 then
    match f with
    |none=>if b=0 then some (.slice (some ⟨h.next,0,none⟩) n n,h.alloc (.cells new e (0,0) false)) else none
    |some a=>
     if a.spot=some 1 then(if b=0 then some (.slice (some ⟨h.next,0,none⟩) n n,h.alloc (.cells new e (0,0) false)) else none) else
     if a.spot=some 2 then
      (match h.get a.block with
      |some (.cells c j l _)=>
       if j=e/\h.base<=a.block/\l=(0,0)/\a.off<=c.length/\b=0/\d=0 then
        some (.slice (some ⟨h.next,0,none⟩) n n,(h.set a.block none).alloc (.cells new e (0,0) false))
       else none
      |_=>none) else
     match cJ h a (b*i),h.get a.block with
     |some g,some (.cells c j l x)=>
      if !g.all eJ then none else
      if x then some (.slice (some ⟨h.next,0,none⟩) (b+n) (b+n),h.alloc (.cells (g++new) e (0,0) false))
      else if j=e/\h.base<=a.block/\l=(0,0)/\a.off+d*i<=c.length then
       some (.slice (some ⟨h.next,0,none⟩) (b+n) (b+n),(h.set a.block none).alloc (.cells (g++new) e (0,0) false))
      else none
     |_,_=>none
   else none
  |_=>none
 |_,_=>none
def copyV (f:Nat) (h:AH) (d x:Value):Option (Value×AH):=
 match d,tG x with
 |.slice c b _,some m=>
   match gE h f (Nat.min m b) x with
   |some new=>match c with
    |none=>some (.int .i64 (Nat.min m b:Nat),h)
    |some a=>if Nat.min m b=0 then some (.int .i64 0,h) else(dI h a new).map fun e=>(.int .i64 (Nat.min m b:Nat),e)
   |none=>none
 |_,_=>none
def iJ (z:List Value) (h:AH) (x:Value):Option (Value×AH):=
 match x with
 |.slice none _ _=>some (.tuple #[],h)
 |.slice (some a) n _=>
   if n=0 then some (.tuple #[],h) else(dI h a (dY z n)).map fun b=>(.tuple #[],b)
 |_=>none
def Nj (h:AH) (m b v:Value):Option AH:=match m,b with
 |.map (some r),.int k n=>if r<h.base then none else match h.get r with
  |some (.map c a)=>(aAx k n v c a).map fun o=>h.set r (some o)
  |_=>none
 |_,_=>none
def Nc (h:AH) (m c:Value):Option AH:=match m,c with
 |.map (some r),.int k n=>if r<h.base then none else match h.get r with
  |some (.map b a)=>match wP k n b 0 with
   |some (some (i,_))=>some (h.set r (some (.map (b.eraseIdx i) a)))
   |some none=>some (h.set r (some (.map b a)))
   |none=>none
  |_=>none
 |_,_=>none
theorem xb {h:AH} {t e:TypeId} {m a v:Value} {h':AH} (c:Ge P t=some e) (b:Nj h m a v=some h'):E2 P h t m a v=some h':=by
 unfold Nj at b;split at b;simp only[E2,c];exact b;cases b
theorem sf {h:AH} {t e:TypeId} {m a:Value} {h':AH} (c:Ge P t=some e) (b:Nc h m a=some h'):D5 P h t m a=some h':=by
 unfold Nc at b;split at b;simp only[D5,c];exact b;cases b
def aEh (x:Value):Option Value:=match x with
 |.slice none _ c=>some (.int .i64 c)
 |_=>none
def vW (P:Program) (h:AH) (q:Value->AH->Prop) (a:Array TypeId):Builtin->List Value->Prop
 |.len,[x]=>match(a[0]?).bind P.underlying with
  |some .string=>bG (zE x) fun v=>q v h
  |some (.slice _)=>bG (lH x) fun v=>q v h
  |some (.array n _)=>q (.int .i64 n) h
  |some (.pointer e)=>(match P.underlying e with
   |some (.array n _)=>q (.int .i64 n) h
   |_=>False)
  |some (.map _ _)=>bG (j3 h x) fun v=>q v h
  |_=>False
 |.append,[s,x]=>match(a[0]?).bind P.underlying with
  |some (.slice e)=>if Ij P a/\(zeroOf P e).isSome then bG (iV (P.cellsOf e) (P.bytesOf e) e h s x) fun r=>q r.1 r.2 else False
  |_=>False
 |.copy,[d,x]=>match(a[0]?).bind P.underlying with
  |some (.slice e)=>if(P.info? e).isSome then bG (copyV (P.cellsOf e) h d x) fun r=>q r.1 r.2 else False
  |_=>False
 |.clear,[x]=>match(a[0]?).bind P.underlying with
  |some (.slice e)=>(match zeroOf P e with
   |some z=>bG (iJ z h x) fun r=>q r.1 r.2
   |none=>False)
  |_=>False
 |.min,[x,y]=>bG (xM x y) fun v=>q v h
 |.max,[x,y]=>bG (zA x y) fun v=>q v h
 |.delete,[m,k]=>(match a[0]? with
  |some t=>(match Ge P t with
   |some _=>bG (Nc h m k) fun b=>q (.tuple #[]) b
   |none=>False)
  |none=>False)
 |.cap,[x]=>match(a[0]?).bind P.underlying with
  |some (.slice _)=>bG (aEh x) fun v=>q v h
  |_=>False
 |_,_=>False
theorem yP {h:AH} {q:Value->AH->Prop} {at_:Array TypeId} {b:Builtin} {args:List Value} (c:vW P h q at_ b args):∃v g,eP P h b at_ args=some (v,g)/\q v g:=by
 unfold vW at c;split at c;split at c;rename_i d;obtain⟨v,a,f⟩:=c;refine⟨v,h,?_,f⟩;unfold zE at a;split at a;simp only[eP,d];cases a;rfl;cases a;rename_i d;obtain⟨v,a,f⟩:=c;refine⟨v,h,?_,f⟩;unfold lH at a;split at a;simp only[eP,d];cases a;rfl;cases a;rename_i d;refine⟨_,h,?_,c⟩;simp only[eP,d];rename_i d;split at c;rename_i l;refine⟨_,h,?_,c⟩;simp only[eP,d,l];cases c;rename_i d;obtain⟨v,a,f⟩:=c;refine⟨v,h,?_,f⟩;unfold j3 at a;cases hm:X9 h _ with
 |none=>rw[hm] at a;cases a
 |some r=>rw[hm] at a;cases a;simp only[eP,d,hm];rfl
 cases c;split at c;rename_i e d;split at c;rename_i i;obtain⟨⟨v,g⟩,a,f⟩:=c;refine⟨v,g,?_,f⟩;obtain⟨z,m⟩:=Option.isSome_iff_exists.1 i.2;unfold iV at a;split at a;rename_i j;simp only[eP,H8,d,j,i.1,m,Bool.not_true,Bool.false_eq_true,if_false];split at a;rename_i p;rw[p];exact a;cases a;cases a;cases c;cases c;split at c;rename_i e d;split at c;rename_i i;obtain⟨⟨v,g⟩,a,f⟩:=c;refine⟨v,g,?_,f⟩;unfold copyV at a;split at a;rename_i j;have o:(P.info? e).isNone=false:=by simp_all
 simp only[eP,d,j,o,Bool.false_eq_true,if_false];exact a;cases a;cases c;cases c;split at c;rename_i e d;split at c;rename_i z m;obtain⟨⟨v,g⟩,a,f⟩:=c;refine⟨v,g,?_,f⟩;unfold iJ at a;split at a;simp only[eP,d];exact a;simp only[eP,d,m];exact a;cases a;cases c;cases c;obtain⟨v,a,f⟩:=c;refine⟨v,h,?_,f⟩;unfold xM at a;split at a;simp only[eP];cases a;rfl;cases a;obtain⟨v,a,f⟩:=c;refine⟨v,h,?_,f⟩;unfold zA at a;split at a;simp only[eP];cases a;rfl;cases a;split at c;rename_i t d;split at c;rename_i e n;obtain⟨g,a,f⟩:=c;exact⟨_,g,by simp only[eP,d,sf n a];rfl,f⟩;cases c;cases c;split at c;rename_i d;obtain⟨v,a,f⟩:=c;refine⟨v,h,?_,f⟩;unfold aEh at a;split at a;simp only[eP,d];exact congrArg (Option.map fun v=>(v,h)) a;cases a;cases c;cases c
def A5 (P:Program) (K:FuncId->List Value->Option kA) (d:Operand->Value) (h:AH) (q:Value->AH->Prop):Op->Prop
 |.store t a x=>if(P.info? t).isSome then bG (uG h (P.cellsOf t) (d a) (d x)) fun e=>q undef e else False
 |.call c=>match c.callee with
  |.builtin b=>vW P h q c.argTypes b (c.args.toList.map d)
  |.value (.func g)=>if callable P g then Ok P K (.call g (c.args.toList.map d)) h fun o e=>q o.v e else False
  |.value f=>zB P K (d f) (c.args.toList.map d) h q
  |.invoke _ _=>False
 |.mapUpdate t m k x=>match Ge P t with
  |some _=>bG (Nj h (d m) (d k) (d x)) fun e=>q undef e
  |none=>False
 |_=>False
theorem av {f:Value} {args:List Value} {h:AH} {q:Value->AH->Prop} (b:zB P K f args h q):
  ∃n v c,(match f with
   |.func (.func g) first a=>if callable P g then(run P K n (.call g (first.toList++args++a.toList)) h).map fun r=>(r.1.v,r.2) else none
   |.func (.yield l) first _=>(run P K n (.round l (first.toList++args)) h).map fun r=>(r.1.v,r.2)
   |_=>none)=some (v,c)/\q v c:=by
 unfold zB at b
 split at b
 .obtain⟨i,n,r,d,e⟩:=b;grind
 .obtain⟨n,r,d,e⟩:=b;grind
 .cases b
theorem vG {m:Operand->Value} (s:∀g,m (.func g)= .func (.func g) #[] #[]) {h:AH} {q:Value->AH->Prop} {op:Op} (b:A5 P K m h q op):
  (kindOf op= .store\/kindOf op= .call)/\∃n v i,heavyStep P (run P K n) m h op=some (v,i)/\q v i:=by
 unfold A5 at b
 split at b
 .refine⟨.inl rfl,?_⟩;split at b
  .rename_i l;obtain⟨i,d,j⟩:=b;refine⟨0,undef,i,?_,j⟩;unfold uG at d;split at d
   .rename_i p;split at d
    .rename_i o;split at d
     .rename_i t;simp only[heavyStep,p,Q0,o,t,l,and_self,if_true,d];rfl
     .cases d
    .cases d
   .cases d
  .cases b
 .rename_i c;refine⟨.inr rfl,?_⟩;split at b
  .rename_i a;obtain⟨v,i,d,j⟩:=yP b;refine⟨0,v,i,?_,j⟩;simp only[heavyStep,a,d]
  .rename_i a;split at b
   .rename_i o;obtain⟨n,r,d,j⟩:=b;refine⟨n,_,_,?_,j⟩;simp only[heavyStep,a,s,o,if_true];grind
   .cases b
  .rename_i f u a;obtain⟨n,v,i,d,j⟩:=av b;refine⟨n,v,i,?_,j⟩;simp only[heavyStep,a];exact d
  .cases b
 .refine⟨.inl rfl,?_⟩;split at b
  .rename_i e p;obtain⟨i,d,j⟩:=b;exact⟨0,undef,i,by simp only[heavyStep,xb p d];rfl,j⟩
  .cases b
 .cases b
def sv (l c i:Nat):Value:= .slice (some ⟨i,0,none⟩) l c
def aF0 (i:Nat):Value:= .pointer (some ⟨i,0,none⟩)
def gA (i:Nat):Value:= .map (some i)
def Bt (P:Program) (d:Operand->Value) (q:oS->(Nat->Value)->Prop):Op->Prop
 |.alloc e=>match zeroOf P e with
  |some z=>q (.cells z e (0,0) true) aF0
  |none=>False
 |.box e x=>bG (kX e (d x)) fun b=>q b aF0
 |.buildSlice t len a=>match P.underlying t with
  |some (.slice e)=>(match zeroOf P e with
   |some z=>if len*P.cellsOf e<=2^24 then(match xT (fun i=>some (i*P.cellsOf e,P.cellsOf e)) d a.toList with
    |some f=>bG (pJ (dY z len) f) fun l=>q (.cells l e (0,0) true) (sv len len)
    |none=>False) else False
   |none=>False)
  |_=>False
 |.makeSlice t l c=>match P.underlying t with
  |some (.slice e)=>(match zeroOf P e with
   |some z=>bG (Gk (P.bytesOf e) (d l) (d c)) fun n=>q (.cells (dY z n.2) e (0,0) true) (sv n.1 n.2)
   |none=>False)
  |_=>False
 |.makeMap _t none=>q (.map [] 0) gA
 |.makeMap t (some x)=>match P.underlying t with
  |some (.map _ _)=>∃k n,d x= .int k n/\q (.map [] 0) gA
  |_=>False
 |_=>False
theorem B7 {m:Operand->Value} {q:oS->(Nat->Value)->Prop} {op:Op} (a:Bt P m q op):kindOf op= .alloc/\∃b f,gO P m op=some (b,f)/\q b f:=by
 unfold Bt at a;split at a;refine⟨rfl,?_⟩;split at a;rename_i g;exact⟨_,_,by simp only[gO,g];rfl,a⟩;cases a;refine⟨rfl,?_⟩;obtain⟨b,c,d⟩:=a;refine⟨b,aF0,?_,d⟩;unfold kX at c;simp only[Option.map_eq_some_iff] at c;obtain⟨l,c,rfl⟩:=c;simp only[gO,c];rfl;refine⟨rfl,?_⟩;split at a;rename_i e;split at a;rename_i g;split at a;rename_i i;split at a;rename_i r j;obtain⟨l,c,d⟩:=a;refine⟨_,_,?_,d⟩;simp only[gO,e,g,i,if_true];rw[E7 j,c];rfl;cases a;cases a;cases a;cases a;refine⟨rfl,?_⟩;split at a;rename_i e;split at a;rename_i g;obtain⟨n,c,d⟩:=a;refine⟨_,_,?_,d⟩;unfold Gk at c;split at c;rename_i o p;split at c;rename_i i;cases c;simp only[gO,e,o,p,g,i,and_self,if_true];rfl;cases c;cases c;cases a;cases a;exact⟨rfl,_,_,rfl,a⟩;refine⟨rfl,?_⟩;split at a;rename_i e;obtain⟨k,n,c,d⟩:=a;exact⟨_,_,by simp only[gO,e,c];rfl,d⟩;cases a;cases a
end
end Go.Ab
end
section
namespace Go.Ab
noncomputable section
variable {P:Program} {K:FuncId->List Value->Option kA}
abbrev Mq:=List (Tmp×Option Bool)
def aJe:Option Bool->Value
 |some b=> .bool b
 |none=>undef
def Mq.drop (d:Mq) (t:Option Tmp):Mq:=match t with
 |some t=>d.filter fun x=>x.1 !=t
 |none=>d
def Mq.ok (d:Mq) (env:List Value):Prop:=∀t b,(t,b)∈d->env[t]?=some (aJe b)
def Ym (pX:Nat->Option Tmp) (env:List Value) (dec:Mq) (g:Option (Nat×Bool)) (p:Bool->List Value->Mq->Prop):Prop:=
 match g with
 |none=>p true env dec
 |some (j,want)=>match pX j with
  |none=>False
  |some d=>match dec.lookup d with
   |some (some b)=>p (b==want) env dec
   |some none=>p false env dec
   |none=>Br (env.getD d undef) (p (true==want) (env.set d (.bool true)) ((d,some true)::dec)) (p (false==want) (env.set d (.bool false)) ((d,some false)::dec))
def B4 (h:AH) (b:oS) (p:Nat->AH->Prop):Prop:=p h.next (h.alloc b)
def mA (h:AH) (r:Nat) (b:oS) (p:Nat->AH->Prop):Prop:=p r (h.set r (some b))
def vT (h:AH) (n:Nat) (p:Nat->AH->Prop):Prop:=p h.next {h with next:=h.next+n}
def wpOp (P:Program) (K:FuncId->List Value->Option kA) (env:List Value) (h:AH) (q:Value->AH->Prop) (op:Op):Prop:=
 match kindOf op with
 |.Aa=>jO P (dC P env) h (fun v=>q v h) op
 |.alloc=>Bt P (dC P env) (fun b f=>B4 h b fun i a=>q (f i) a) op
 |.store|.call=>A5 P K (dC P env) h q op
 |.other=>False
theorem Wd {env:List Value} {h:AH} {q:Value->AH->Prop} {op:Op} (a:wpOp P K env h q op):∃n v e,opStep P (run P K n) env h op=some (v,e)/\q v e:=by
 unfold wpOp at a;cases hk:kindOf op with
 |Aa=>
  simp only[hk] at a;obtain⟨_,v,c,d⟩:=Ce a;exact⟨0,v,h,by simp only[opStep,hk,c];rfl,d⟩
 |alloc=>
  simp only[hk] at a;obtain⟨_,b,f,c,d⟩:=B7 a;exact⟨0,_,_,by simp only[opStep,hk,c];rfl,d⟩
 |store=>
  simp only[hk] at a;obtain⟨_,n,v,e,c,d⟩:=vG (fun g=>rfl) a;exact⟨n,v,e,by simp only[opStep,hk,c],d⟩
 |call=>
  simp only[hk] at a;obtain⟨_,n,v,e,c,d⟩:=vG (fun g=>rfl) a;exact⟨n,v,e,by simp only[opStep,hk,c],d⟩
 |other=>simp only[hk] at a
def aBo (env:List Value) (d:Option Tmp):Bool:=match d with
 |some d=>decide (d<env.length)
 |none=>true
def wo (dec:Mq) (op:Op):Option Operand:=match op with
 |.pick (.tmp c) a b=>(match dec.lookup c with
  |some (some true)=>some a
  |some (some false)=>some b
  |_=>none)
 |.move x=>some x
 |.assign x=>some x
 |_=>none
def um (dec:Mq) (x:Operand):Option Bool:=match x with
 |.const (.bool y)=>some y
 |.tmp t=>(match dec.lookup t with
  |some (some y)=>some y
  |_=>none)
 |_=>none
def Mq.put (dec:Mq) (dst:Option Tmp) (x:Operand):Mq:=match dst,um dec x with
 |some d,some y=>(d,some y)::dec.drop (some d)
 |d,_=>dec.drop d
def Mq.skip (dec:Mq) (env:List Value) (dst:Option Tmp):Mq:=match dst with
 |some d=>if d<env.length then(d,none)::dec.drop (some d) else dec.drop (some d)
 |none=>dec
def wpOps (P:Program) (K:FuncId->List Value->Option kA) (pX:Nat->Option Tmp):List Oper->List Value->AH->Mq->(List Value->AH->Mq->Prop)->Prop
 |[],env,h,dec,q=>q env h dec
 |o::a,env,h,dec,q=>Ym pX env dec o.guard fun b env dec=>
  match b with
  |true=>(match wo dec o.op with
   |some x=>wpOps P K pX a (jN env o.dst (dC P env x)) h (if aBo env o.dst then dec.put o.dst x else dec.drop o.dst) q
   |none=>wpOp P K env h (fun v c=>wpOps P K pX a (jN env o.dst v) c (dec.drop o.dst) q) o.op)
  |false=>wpOps P K pX a (jN env o.dst undef) h (dec.skip env o.dst) q
def aJ5 (P:Program) (h:AH) (q:Value->Prop) (a:Array TypeId):Builtin->List Value->Prop
 |.len,[x]=>match(a[0]?).bind P.underlying with
  |some .string=>bG (zE x) q
  |some (.slice _)=>bG (lH x) q
  |some (.array n _)=>q (.int .i64 n)
  |some (.pointer e)=>(match P.underlying e with
   |some (.array n _)=>q (.int .i64 n)
   |_=>False)
  |some (.map _ _)=>bG (j3 h x) q
  |_=>False
 |.min,[x,y]=>bG (xM x y) q
 |.max,[x,y]=>bG (zA x y) q
 |_,_=>False
def aG5 (P:Program) (a:Operand->Value) (h:AH) (q:Value->Prop):Op->Prop
 |.call c=>match c.callee with
  |.builtin b=>aJ5 P h q c.argTypes b (c.args.toList.map a)
  |_=>False
 |op=>jO P a h q op
structure DR where
 env:List Value
 h:AH
 v:Value
 ran:Bool
def aGf (P:Program) (K:FuncId->List Value->Option kA) (r:Nat) (env:List Value) (h:AH) (q:Value->AH->Prop) (op:Op):Prop:=
 match iQ op with
 |true=>aG5 P (dC P env) h (fun v=>q v h) op
 |false=>match kindOf op with
  |.alloc=>Bt P (dC P env) (fun b f=>mA h r b fun i a=>q (f i) a) op
  |_=>A5 P K (dC P env) h q op
def H5 (P:Program) (K:FuncId->List Value->Option kA) (pX:Nat->Option Tmp):Nat->List Oper->List Value->AH->Mq->List DR->(List DR->List Value->AH->Mq->Prop)->Prop
 |_,[],env,h,dec,a,q=>q a env h dec
 |r,o::c,env,h,dec,a,q=>Ym pX env dec o.guard fun b env dec=>
  match b with
  |true=>(match wo dec o.op with
   |some x=>H5 P K pX (r+1) c (jN env o.dst (dC P env x)) h (if aBo env o.dst then dec.put o.dst x else dec.drop o.dst) (a++[⟨env,h,dC P env x,true⟩]) q
   |none=>aGf P K r env h (fun v d=>H5 P K pX (r+1) c (jN env o.dst v) d (dec.drop o.dst) (a++[⟨env,h,v,true⟩]) q) o.op)
  |false=>H5 P K pX (r+1) c (jN env o.dst undef) h (dec.skip env o.dst) (a++[⟨env,h,undef,false⟩]) q
def aDr (P:Program) (all:List Oper) (rs:List DR) (hEnd:AH):List (Nat×Nat)->Prop->Prop
 |[],p=>p
 |(i,s)::a,p=>match all[i]? with
  |some o=>(match rs[i]? with
   |some r=>(match r.ran with
    |true=>aG5 P (dC P r.env) (match rs[s]? with|some q=>q.h|none=>hEnd) (fun v=>pY v r.v=true) o.op/\aDr P all rs hEnd a p
    |false=>aDr P all rs hEnd a p)
   |none=>False)
  |none=>False
def aCu (P:Program) (K:FuncId->List Value->Option kA) (ops:Array Oper) (env:List Value) (h:AH) (q:List Value->AH->Mq->Prop):Prop:=
 if Lg ops.toList&&(P.follows .mixedOrders|| !Region.departs ops) then
  vT h ops.size fun r c=>H5 P K (fun j=>(ops[j]?).bind (·.dst)) r ops.toList env c [] [] fun d a b dec=>aDr P ops.toList d b (F6 ops.toList) (q a b dec)
 else False
end
end Go.Ab
end
section
namespace Go.Ab
noncomputable section
variable {P:Program} {K:FuncId->List Value->Option kA}
section
variable {fn:FuncId} {ro:Option Nat} {ds:List Nat} {env:List Value} {k:List Item} {h:AH} {Q:Out->AH->Prop}
theorem Dx {t t':Task} {h':AH} (c:∀n,run P K (n+1) t h=run P K n t' h') (d:Ok P K t' h' Q):Ok P K t h Q:=by
 obtain⟨n,r,a,b⟩:=d;exact⟨n+1,r,by rw[c];exact a,b⟩
theorem P5 {c:Operand} {t e:Code} (g:Br (dC P env c) (Ok P K (.todo fn ro ds env (.code t::k)) h Q) (Ok P K (.todo fn ro ds env (.code e::k)) h Q)):
  Ok P K (.todo fn ro ds env (.code (.cond c t e)::k)) h Q:=by
 obtain⟨b,a,f,d⟩:=g
 cases b with
 |true=>exact Dx (t':= .todo fn ro ds env (.code t::k)) (fun n=>by show runTodo _ _ _ _ _ _ _ _=_;simp only[runTodo,a,if_true]) (f rfl)
 |false=>exact Dx (t':= .todo fn ro ds env (.code e::k)) (fun n=>by show runTodo _ _ _ _ _ _ _ _=_;simp[runTodo,a]) (d rfl)
end
def jS (h:AH) (l:Nat):Option AH:=match h.get l with
 |some (.loop .ready _ _ _ _ _ _ _)=>setLoop h l .busy none
 |_=>none
def sC (h:AH) (l:Nat):Option (Option Code×AH):=match h.get l with
 |some (.loop st p _ _ _ _ _ _)=>if st= .busy then none else(setLoop h l .exhausted none).map fun a=>(p,a)
 |_=>none
def fL (h:AH) (l:Nat):Option Nat:=match h.get l with
 |some (.loop _ _ _ _ _ _ _ d)=>some d
 |_=>none
def Ro (P:Program) (K:FuncId->List Value->Option kA) (f:Value) (l:Nat) (h:AH) (q:Value->AH->Prop):Prop:=match f with
 |.func (.func g) first a=>callable P g=true/\Ok P K (.call g (first.toList++[.func (.yield l) #[] #[]]++a.toList)) h fun o b=>q o.v b
 |_=>False
def qD:Code->Option Nat
 |.region id _ _=>some id
 |.seq a b=>(match qD a with
  |some r=>some r
  |none=>qD b)
 |.block _ b=>qD b
 |.loop b=>qD b
 |.scope b=>qD b
 |_=>none
def keyOf:List Item->Option Nat
 |.code c::k=>(match qD c with
  |some r=>some r
  |none=>keyOf k)
 |.inLoop c::k=>(match qD c with
  |some r=>some r
  |none=>keyOf k)
 |_::k=>keyOf k
 |[]=>none
def jE:Code->List Nat
 |.exit id=>[id]
 |.seq a b=>jE a++jE b
 |.cond _ t e=>jE t++jE e
 |.block id b=>(jE b).filter (·!=id)
 |.loop b=>jE b
 |.scope b=>jE b
 |.rangeFunc _ _ a b=>jE a++jE b
 |_=>[]
def sM (p:Option Code) (a b:Prop) (c:List (Nat×Prop)):Prop:=match p with
 |none=>a
 |some .ret=>b
 |some (.exit id)=>(match c.lookup id with
  |some q=>q
  |none=>False)
 |_=>False
def Jh (P:Program) (K:FuncId->List Value->Option kA) (fn:FuncId) (f:Value) (n:Nat) (lv:List Nat) (vs:List Value) (ps:Array Tmp) (assign a:Code) (d:Nat) (h:AH) (q:Option Code->AH->Prop):Prop:=
 ∀e:Nat->Value,lv.map e=vs->B4 h (.loop .ready none fn ((List.range n).map e) ps assign a d) fun l b=>Ro P K f l b fun _ c=>bG (sC c l) fun r=>q r.1 r.2
def O9 (L:List (Option Nat×List Nat)) (k:List Item):List Nat:=(L.lookup (keyOf k)).getD []
def nP:Nat->List Item->List Item
 |0,k=>k
 |n+1,k=>match k with
  |.code c::d=>(match c with
   |.skip=>nP n d
   |.label _=>nP n d
   |.seq a b=>nP n (.code a:: .code b::d)
   |.block id b=>nP n (.code b:: .inBlock id::d)
   |.scope b=>nP n (.code b:: .inScope b::d)
   |.loop b=>nP n (.code b:: .inLoop b::d)
   |.exit id=>(match exitTo id d with
    |some e=>nP n e
    |none=>k)
   |_=>k)
  |.inBlock _::d=>nP n d
  |.inScope _::d=>nP n d
  |.inLoop b::d=>nP n (.code b:: .inLoop b::d)
  |_=>k
def aBq:List Item->Bool
 |[]=>true
 |.code .ret::_=>true
 |.code (.exit _)::_=>true
 |_=>false
def short (k:List Item):Bool:=match nP 60 k with
 |.code (.region _ _ _)::a=>aBq (nP 60 a)
 |a=>aBq a
def Mn (P:Program) (K:FuncId->List Value->Option kA) (E:List Nat->List Value->List Item->AH->Prop) (F:yQ->List Nat->List Value->AH->Prop) (L:List (Option Nat×List Nat)) (fn:FuncId) (ro:Option Nat):
  Nat->Mq->List Nat->List Value->List Item->AH->Prop
 |0,_,ds,env,k,h=>E ds env k h
 |n+1,dec,ds,env,k,h=>
  match k with
  |[]=>F .pR ds env h
  |.code c::k=>
   (match c with
   |.skip=>Mn P K E F L fn ro n dec ds env k h
   |.label _=>Mn P K E F L fn ro n dec ds env k h
   |.seq a b=>Mn P K E F L fn ro n dec ds env (.code a:: .code b::k) h
   |.cond c t e=>(match um dec c with
    |some true=>Mn P K E F L fn ro n dec ds env (.code t::k) h
    |some false=>Mn P K E F L fn ro n dec ds env (.code e::k) h
    |none=>Br (dC P env c)
     (match short (.code t::k) with
     |true=>Mn P K E F L fn ro n dec ds env (.code t::k) h
     |false=>E ds env (nP 60 (.code t::k)) h)
     (match short (.code e::k) with
     |true=>Mn P K E F L fn ro n dec ds env (.code e::k) h
     |false=>E ds env (nP 60 (.code e::k)) h))
   |.block id b=>Mn P K E F L fn ro n dec ds env (.code b:: .inBlock id::k) h
   |.loop b=>E ds env (nP 60 (.code b:: .inLoop b::k)) h
   |.scope b=>Mn P K E F L fn ro n dec ds env (.code b:: .inScope b::k) h
   |.exit id=>(match exitTo id k with
    |some s=>Mn P K E F L fn ro n dec ds env s h
    |none=>if ro.isSome then F (.exit id) ds env h else False)
   |.ret=>F .ret ds env h
   |.region _ ops false=>wpOps P K (fun j=>(ops[j]?).bind (·.dst)) ops.toList env h dec fun o i m=>Mn P K E F L fn ro n m ds o k i
   |.region _ ops true=>aCu P K ops env h fun o i m=>Mn P K E F L fn ro n m ds o k i
   |.rangeFunc f q assign g=>
    (match ro with
    |none=>B4 h (.marks true) fun d r=>Jh P K fn (dC P env f) env.length (O9 L [.code assign,.beginRound,.code g]) ((O9 L [.code assign,.beginRound,.code g]).map fun t=>env.getD t undef) q assign g d r fun p i=>
      sM p (Mn P K E F L fn ro n dec (d::ds) env k i) (Mn P K E F L fn ro n dec (d::ds) env (.code .ret::k) i) ((jE g).map fun id=>(id,Mn P K E F L fn ro n dec (d::ds) env (.code (.exit id)::k) i))
    |some l=>bG (fL h l) fun d=>Jh P K fn (dC P env f) env.length (O9 L [.code assign,.beginRound,.code g]) ((O9 L [.code assign,.beginRound,.code g]).map fun t=>env.getD t undef) q assign g d h fun p i=>
      sM p (Mn P K E F L fn ro n dec ds env k i) (Mn P K E F L fn ro n dec ds env (.code .ret::k) i) ((jE g).map fun id=>(id,Mn P K E F L fn ro n dec ds env (.code (.exit id)::k) i)))
   |_=>False)
  |.inBlock _::k=>Mn P K E F L fn ro n dec ds env k h
  |.inScope _::k=>Mn P K E F L fn ro n dec ds env k h
  |.inLoop b::k=>E ds env (nP 60 (.code b:: .inLoop b::k)) h
  |.beginRound::k=>
   (match ro with
   |some l=>bG (jS h l) fun i=>Mn P K E F L fn ro n dec ds env k i
   |none=>False)
  |_=>False
theorem Nu {env:List Value} {n:Nat} (h:env.length=n):(List.range n).map (fun t=>env.getD t undef)=env:=by
 refine List.ext_getElem? fun i=>?_;grind
theorem Xo {l:List Nat} {f:Nat->Prop} {id:Nat} {q:Prop} (h:(l.map fun i=>(i,f i)).lookup id=some q):q=f id:=by
 induction l with
 |nil=>simp at h
 |cons i l a=>
  grind
theorem K3 {fn:FuncId} {f:Value} {env:List Value} {lv:List Nat} {ps:Array Tmp} {assign b:Code} {d:Nat} {h:AH} {q:Option Code->AH->Prop}
  (i:Jh P K fn f env.length lv (lv.map fun t=>env.getD t undef) ps assign b d h q):
  ∃n g first a o c p e,f= .func (.func g) first a/\callable P g=true/\run P K n (.call g (first.toList++[.func (.yield h.next) #[] #[]]++a.toList)) (h.alloc (.loop .ready none fn env ps assign b d))=some (o,c)/\
   sC c h.next=some (p,e)/\q p e:=by
 have:=i (fun t=>env.getD t undef) rfl
 rw[Nu rfl] at this
 unfold B4 Ro at this
 split at this
 .rename_i g first a
  obtain⟨m,n,r,j,⟨p,e⟩,l,c⟩:=this
  grind
 .cases this
theorem J5 {fn:FuncId} {ro:Option Nat} {ds:List Nat} {env:List Value} {h:AH} {Q:Out->AH->Prop}:∀(n:Nat) {k:List Item},Ok P K (.todo fn ro ds env (nP n k)) h Q->Ok P K (.todo fn ro ds env k) h Q
 |0,_,a=>a
 |n+1,k,a=>by
  have st:∀{k':List Item},Ok P K (.todo fn ro ds env (nP n k')) h Q->(∀m,run P K (m+1) (.todo fn ro ds env k) h=run P K m (.todo fn ro ds env k') h)->Ok P K (.todo fn ro ds env k) h Q:=
   fun a b=>Dx b (J5 n a)
  unfold nP at a;split at a;split at a;exact st a fun _=>rfl;exact st a fun _=>rfl;exact st a fun _=>rfl;exact st a fun _=>rfl;exact st a fun _=>rfl;exact st a fun _=>rfl;split at a;rename_i c;refine st a fun m=>?_;show runTodo P (run P K m) _ _ _ _ _ _=_;simp only[runTodo,c];exact a;exact a;exact st a fun _=>rfl;exact st a fun _=>rfl;exact st a fun _=>rfl;exact a
def Vu (P:Program) (f:FuncId) (Q:Value->AH->Prop):Out->AH->Prop:=fun o b=>
 match o.leave with
 |.exit _=>False
 |_=>bG (cH o.ds b) fun a=>bG (aresults P a o.env ((P.funcs[f]?).elim [] fun fn=>fn.results.toList)) fun c=>Q (oneOf c) a
theorem x6 {f:FuncId} {fn:Func} {a:Code} {args:List Value} {h:AH} {Q:Value->AH->Prop} (i:P.funcs[f]?=some fn) (hb:fn.body=some a) (p:K f args=none)
  (r:Ok P K (.todo f none [] (args++List.replicate (fn.ntmps - args.length) undef) [.code a]) h (Vu P f Q)):Ok P K (.call f args) h fun o c=>Q o.v c:=by
 obtain⟨n,⟨o,g⟩,l,b⟩:=r
 simp only at b
 have s:(∀id,o.leave≠.exit id)->(bG (cH o.ds g) fun b=>bG (aresults P b o.env ((P.funcs[f]?).elim [] fun fn=>fn.results.toList)) fun e=>Q (oneOf e) b)->Ok P K (.call f args) h fun o c=>Q o.v c:=by
  intro d ⟨m,t,e,j,q⟩;rw[i] at j;simp only[Option.elim_some] at j;refine⟨n+1,(⟨.pR,[],[],oneOf e⟩,m),?_,q⟩;show runCall P K (run P K n) f args h=_;simp only[runCall,p,i,hb];rw[l];cases hlv:o.leave with
  |exit id=>exact absurd hlv (d id)
  |pR=>grind
  |ret=>grind
 unfold Vu at b
 grind
def Pt (P:Program) (K:FuncId->List Value->Option kA) (fn:FuncId) (ro:Option Nat) (Q:Out->AH->Prop) (n:Nat) (lv:List Nat) (k:List Item) (ds:List Nat) (vs:List Value) (h:AH):Prop:=
 ∀e:Nat->Value,lv.map e=vs->Ok P K (.todo fn ro ds ((List.range n).map e) k) h Q
def Qy (P:Program) (h:AH) (env:List Value):List ResultVar->(List Value->Prop)->Prop
 |[],p=>p []
 |.tmp t::b,p=>Qy P h env b fun l=>p (env.getD t undef::l)
 |.cell a t::b,p=>match jM P t with
  |some true=>bG (uF h (P.cellsOf t) (env.getD a undef)) fun v=>Qy P h env b fun l=>p (v::l)
  |some false=>bG (ld1 h (env.getD a undef)) fun v=>Qy P h env b fun l=>p (v::l)
  |none=>False
theorem tP {h:AH} {env:List Value}:∀{rs:List ResultVar} {p:List Value->Prop},Qy P h env rs p->∃l,aresults P h env rs=some l/\p l
 |[],p,b=>⟨[],rfl,b⟩
 |.tmp t::rs,p,b=>by
  obtain⟨l,c,d⟩:=tP (rs:=rs) b;exact⟨_,by simp only[aresults,c];rfl,d⟩
 |.cell a t::rs,p,b=>by
  simp only[Qy] at b;split at b;rename_i f;obtain⟨v,c,b⟩:=b;obtain⟨l,d,e⟩:=tP (rs:=rs) b;refine⟨v::l,?_,e⟩;unfold uF at c;split at c;rename_i x g;have i:wI P h t x=some v:=by unfold wI;rw[f];exact c
  simp only[aresults,g,i,d];cases c;rename_i f;obtain⟨v,c,b⟩:=b;obtain⟨l,d,e⟩:=tP (rs:=rs) b;refine⟨v::l,?_,e⟩;unfold ld1 at c;split at c;rename_i x g;have i:wI P h t x=some v:=by unfold wI;rw[f];exact c
  simp only[aresults,g,i,d];cases c;cases b
def aDy (P:Program) (f:FuncId) (Q:Value->AH->Prop) (lv:yQ) (ds:List Nat) (env:List Value) (h:AH):Prop:=match lv with
 |.exit _=>False
 |_=>bG (cH ds h) fun a=>Qy P a env ((P.funcs[f]?).elim [] fun fn=>fn.results.toList) fun l=>Q (oneOf l) a
theorem Vy {f:FuncId} {Q:Value->AH->Prop} {lv:yQ} {ds:List Nat} {env:List Value} {h:AH} (a:aDy P f Q lv ds env h):Vu P f Q ⟨lv,ds,env,undef⟩ h:=by
 unfold aDy at a;unfold Vu;cases lv with
 |exit id=>exact a
 |pR=>obtain⟨b,e,a⟩:=a;obtain⟨l,c,d⟩:=tP a;simp_all
 |ret=>obtain⟨b,e,a⟩:=a;obtain⟨l,c,d⟩:=tP a;simp_all
theorem qt {f:FuncId} {args:List Value} {v:Value} {h:AH} {Q:Value->AH->Prop} (b:K f args=some (.val v)) (c:Q v h):Ok P K (.call f args) h fun o a=>Q o.v a:=
 ⟨1,(⟨.pR,[],[],v⟩,h),by show runCall _ _ _ _ _ _=_;simp only[runCall,b],c⟩
def Ej (l:Nat) (Q:Value->AH->Prop):Out->AH->Prop:=fun o b=>
 o.ds=[]/\match o.leave with
 |.pR=>bG (setLoop b l .ready (some none)) fun a=>Q (.bool true) a
 |.ret=>bG (setLoop b l .done (some (some .ret))) fun a=>Q (.bool false) a
 |.exit id=>bG (setLoop b l .done (some (some (.exit id)))) fun a=>Q (.bool false) a
theorem qu {l:Nat} {args:List Value} {h:AH} {st:LoopState} {p:Option Code} {fn:FuncId} {b:List Value} {ps:Array Tmp} {assign a:Code} {d:Nat} {Q:Value->AH->Prop}
  (u:h.get l=some (.loop st p fn b ps assign a d)) (w:args.length=ps.size)
  (y:Ok P K (.todo fn (some l) [] ((ps.toList.zip args).foldl (fun t (p,v)=>t.set p v) b) [.code assign,.beginRound,.code a]) h (Ej l Q)):Ok P K (.round l args) h fun o j=>Q o.v j:=by
 obtain⟨n,r,A,c,f⟩:=y
 obtain⟨o,m⟩:=r
 simp only at c f
 have z:∀i e,(match o.leave with
     |.pR=>(setLoop m l .ready (some none)).map fun c=>((⟨.pR,[],[],.bool true⟩:Out),c)
     |.ret=>(setLoop m l .done (some (some .ret))).map fun c=>(⟨.pR,[],[],.bool false⟩,c)
     |.exit id=>(setLoop m l .done (some (some (.exit id)))).map fun c=>(⟨.pR,[],[],.bool false⟩,c))=some (i,e)->Q i.v e->Ok P K (.round l args) h fun o j=>Q o.v j:=by
  intro i e C x
  refine⟨n+1,(i,e),?_,x⟩
  show runRound (run P K n) l args h=_
  simp only[runRound,u,w,if_true]
  grind
 split at f
 .rename_i g;obtain⟨e,q,s⟩:=f;grind
 .rename_i g;obtain⟨e,q,s⟩:=f;grind
 .rename_i g;obtain⟨e,q,s⟩:=f;grind
def Pz (l:Nat) (Q:Value->AH->Prop) (lv:yQ) (ds:List Nat) (_b:List Value) (h:AH):Prop:=match ds with
 |[]=>(match lv with
  |.pR=>bG (setLoop h l .ready (some none)) fun a=>Q (.bool true) a
  |.ret=>bG (setLoop h l .done (some (some .ret))) fun a=>Q (.bool false) a
  |.exit id=>bG (setLoop h l .done (some (some (.exit id)))) fun a=>Q (.bool false) a)
 |_=>False
theorem Qd {l:Nat} {Q:Value->AH->Prop} {lv:yQ} {ds:List Nat} {env:List Value} {h:AH} (a:Pz l Q lv ds env h):Ej l Q ⟨lv,ds,env,undef⟩ h:=by
 unfold Pz at a;cases ds with
 |nil=>refine⟨rfl,?_⟩;cases lv<;>exact a
 |cons d ds=>exact a.elim
end
end Go.Ab
end
section
namespace Go.Ab
noncomputable section
open Go.RowKit
variable {P:Program} {K:FuncId->List Value->Option kA}
def start (base:Nat) (old:Nat->Option oS):AH:={base:=base,next:=base,old:=old,new:= .lf}
theorem vV {a:Nat} {old:Nat->Option oS} (i:Nat):(start a old).get i=if i<a then old i else none:=by
 rw[AH.get_eq];unfold start;split;rfl;cases i - a<;>rfl
structure Reads (P:Program) (base:Nat) (old:Nat->Option oS) (ρ:iP) (w:World):Prop where
 nD:∀i o,i<base->old i=some o->∀b s,ρ i=some (b,s)->∃o',w.heap[b]?=some o'/\tZ P ρ s o o'
 low:∀i b s,i<base->ρ i=some (b,s)->b<w.heap.size
 none:∀i,base<=i->ρ i=none
 qR:∀g,g<P.globals.size->ρ g=some (g,(0,0))
theorem Reads.inv {a:Nat} {old:Nat->Option oS} {ρ:iP} {w:World} (r:Reads P a old ρ w):Inv P w.heap.size ρ (start a old) w where
 nD:=fun i o d b s e=>by
  rw[vV] at d;split at d;rename_i c;exact r.nD i o c d b s e;cases d
 inj:=fun i j b f g c _ gi=>by
  rw[vV,aKi (Nat.not_lt.2 (show a<=_ from c))] at gi;cases gi
 low:=fun i b s c gi=>by
  rw[vV,aKi (Nat.not_lt.2 (show a<=_ from c))] at gi;cases gi
 old:=fun i b s c e=>r.low i b s c e
 fresh:=fun i c=>r.none i c
 iE:=fun i c=>by rw[vV,aKi (Nat.not_lt.2 (show a<=_ from c))]
 qR:=r.qR
 size:=Nat.le_refl _
 bn:=Nat.le_refl _
theorem S6 {w:World} (C:Ctx P w.heap.size K) (t:C.G w) {a:Nat} {old:Nat->Option oS} {ρ:iP} (r:Reads P a old ρ w) {f:FuncId} {args args':List Value} (q:aU ρ args args') {Q:Out->AH->Prop}
  (i:Ok P K (.call f args) (start a old) Q):
  Calls P f ⟨args'⟩ w fun e g=>∃ρ' o c d,e= .returned d/\aF ρ' o.v d/\Q o c/\Inv P w.heap.size ρ' c g/\Below w.heap.size w g:=by
 obtain⟨n,⟨o,c⟩,v,u⟩:=i
 intro j
 obtain⟨e,g,fr,⟨ρ',d,s,x,b⟩,l,m,p⟩:=ch C n (.call f args) _ o c v ρ w args' r.inv t q j
 exact⟨e,g,fr,⟨ρ',o,c,d,s,x,u,b.inv,b.below r.inv⟩,l,m,p⟩
def kl (K:FuncId->List Value->Option kA) (f0:FuncId) (v0:Value):FuncId->List Value->Option kA:=fun f a=>if f=f0/\a.isEmpty=true then some (.val v0) else K f a
def Ctx.add {B:Nat} (C:Ctx P B K) (f0:FuncId) (v0:Value) (n:dZ v0=true) (h:∀w,C.G w->Calls P f0 #[] w fun e d=>e= .returned v0/\Below w.heap.size w d):Ctx P B (kl K f0 v0) where
 G:=C.G
 Lu:=C.Lu
 call:=fun f a v w b c=>by
  unfold kl at b;split at b;rename_i l;cases b;obtain⟨rfl,o⟩:=l;have:a=[]:=by grind
  subst this;exact⟨rfl,(h w c).mono fun e d ⟨m,j⟩=>⟨⟨v0,m,fun ρ=>gY v0 n⟩,j⟩⟩;exact C.call f a v w b c
 fwd:=fun f a g i b=>by
  unfold kl at b;split at b;cases b;exact C.fwd f a g i b
 host:=fun f a F b=>by
  unfold kl at b;split at b;cases b;exact C.host f a F b
theorem aDf {P:Program} {f:FuncId} {args:Array Value} {v:Value} {w:World} (g:dZ v=true) (h:Calls P f args w fun e a=>e= .returned v/\Below w.heap.size w a):
  Calls P f args w fun e a=>(∃b,e= .returned b/\∀ρ,aF ρ v b)/\Below w.heap.size w a:=
 h.mono fun _ _ ⟨d,c⟩=>⟨⟨v,d,fun _=>gY v g⟩,c⟩
theorem U8 {f:FuncId} {n:Nat} {v:Value} {a:Nat} {old:Nat->Option oS} (m:dZ v=true)
  (b:((run P K n (.call f []) (start a old)).any fun r=>pY r.1.v v)=true) {w:World} (C:Ctx P w.heap.size K) (l:C.G w) {ρ:iP} (r:Reads P a old ρ w):
  Calls P f #[] w fun e g=>e= .returned v/\Below w.heap.size w g:=by
 rw[Option.any_eq_true] at b
 obtain⟨⟨o,q⟩,b,c⟩:=b
 have c:=Jc _ _ c
 have:=S6 (Q:=fun o _=>o.v=v) C l r (args:=[]) (args':=[]) rfl ⟨n,_,b,c⟩
 intro i
 obtain⟨e,g,fr,⟨ρ',y,s,p,t,d,j,_,u⟩,x⟩:=this i
 rw[j] at d
 have:=Bl v p m d
 grind
end
end Go.Ab
end
section
namespace Go.Ab
noncomputable section
variable {P:Program} {K:FuncId->List Value->Option kA}
def sub:Code->List Nat->Code
 |c,[]=>c
 |.seq a _,0::p=>sub a p
 |.seq _ b,1::p=>sub b p
 |.cond _ t _,0::p=>sub t p
 |.cond _ _ e,1::p=>sub e p
 |.block _ b,0::p=>sub b p
 |.loop b,0::p=>sub b p
 |.scope b,0::p=>sub b p
 |.rangeFunc _ _ a _,0::p=>sub a p
 |.rangeFunc _ _ _ b,1::p=>sub b p
 |_,_=> .skip
def Jv (P:Program) (f:FuncId):Option Code:=(P.funcs[f]?).bind (·.body)
def ntm (P:Program) (f:FuncId):Nat:=(P.funcs[f]?).elim 0 (·.ntmps)
def cd (P:Program) (f:FuncId) (p:List Nat):Code:=sub ((Jv P f).getD .skip) p
def Cl (P:Program) (K:FuncId->List Value->Option kA) (f:FuncId) (args:List Value) (h:AH) (Q:Value->AH->Prop):Prop:=Ok P K (.call f args) h fun o a=>Q o.v a
def lpB (P:Program) (f:FuncId) (p:List Nat) (n:Nat) (e:Nat->Value) (d:Nat) (st:LoopState) (pd:Option Code):oS:=match cd P f p with
 |.rangeFunc _ c a b=> .loop st pd f ((List.range n).map e) c a b d
 |_=> .marks false
abbrev I (n:Int):Value:= .int .i64 n
def pt (b o j:Nat):Value:= .pointer (some ⟨b,o+j,none⟩)
def aFv:Nat->Nat->List Nat->List Nat
 |0,_,acc=>acc
 |f+1,n,acc=>if n<=1 then acc else aFv f (n/2) (n % 2::acc)
def gI (n:Nat):List Nat:=aFv 120 n []
def rgF:Code->Operand×Array Tmp×Code×Code
 |.rangeFunc f c a b=>(f,c,a,b)
 |_=>(.tmp 0, #[],.skip,.skip)
end
end Go.Ab
end
