/- A part of the proof. -/
import Derived.Test.YtajjljbmfdboaaaGreatDoorM3
namespace Go.Ab
open Go.RowKit
section
variable {P:Program} {B:Nat} {K:FuncId->List Value->Option jE}
theorem Qw {α:Type} {l:List α} {f:α×Nat->Bool} (h:l.zipIdx.all f=true) {k:Nat} {o:α} (a:l[k]?=some o):f (o,k)=true:=by
 grind
theorem Wi {l:List Nat} (a:l.Pairwise (·<·)) {i p:Nat} (c:l.find? (fun x=>decide (i<x))=some p):i<p/\p∈l/\∀j∈l,i<j->p<=j:=by
 obtain⟨b,as,f,rfl,g⟩:=List.find?_eq_some_iff_append.1 c;refine⟨by simpa using b,by simp,?_⟩;intro j e d;rcases List.mem_append.1 e with h|h;grind;rw[List.pairwise_append] at a;rcases List.mem_cons.1 h with h|h;omega;have:=(List.pairwise_cons.1 a.2.1).1 j h;omega
structure Fit (all:List Oper):Prop where
 dir:∀(k:Nat) o,all[k]?=some o->∀j∈fE o,j<k
 kind:∀(k:Nat) o,all[k]?=some o->kindOf o.op≠.other
 pK:∀i j:Nat,∀t,(all[i]?).bind (·.dst)=some t->(all[j]?).bind (·.dst)=some t->i=j
 tmps:∀i j:Nat,∀o p d,all[i]?=some o->all[j]?=some p->i≠j->p.dst=some d->d∈Dl all o->(j<i->ahead (fB all []) j i=true)/\(i<j->ahead (fB all []) i j=true)
 wY:∀i j:Nat,∀o p,all[i]?=some o->all[j]?=some p->dM o.op=true->dM p.op=true->j<i->ahead (fB all []) j i=true
theorem Z8 {all:List Oper} (h:Hb all=true):Fit all:=by
 unfold Hb at h;simp only[Bool.and_eq_true] at h;obtain⟨⟨⟨b,g⟩,c⟩,_⟩:=h;have pair:∀i j:Nat,∀o p,all[i]?=some o->all[j]?=some p->i≠j->
   (o.dst.isNone||o.dst !=p.dst)=true/\
   (match p.dst with|some d=> !(Dl all o).contains d||(if j<i then ahead (fB all []) j i else ahead (fB all []) i j)|none=>true)=true/\
   (!(dM o.op&&dM p.op&&decide (j<i))||ahead (fB all []) j i)=true:=by
  intro i j o p a f e
  have:=Qw (Qw c a) f
  grind
 refine {dir:=?_,kind:=?_,pK:=?_,tmps:=?_,wY:=?_};intro k o a j l;have:=Qw b a;grind;grind;grind;grind;grind
theorem aEo {all:List Oper} {i s n:Nat} (f:n=all.length) (e:i<n):
  let wY:=(List.range n).filter fun i=>(all[i]?).any fun o=>dM o.op
  ((wY++[n]).find? fun x=>decide (i<x)).getD n=s->i<s/\∀j p,i<j->j<s->all[j]?=some p->dM p.op=false:=by
 intro wY b
 have a:(wY++[n]).Pairwise (·<·):=by
  rw[List.pairwise_append];refine⟨(List.pairwise_lt_range).filter _,by simp,?_⟩;grind
 cases hf:(wY++[n]).find? fun x=>decide (i<x) with
 |none=>
  grind
 |some p=>
  rw[hf] at b
  simp only[Option.getD_some] at b
  subst b
  obtain⟨c,_,d⟩:=Wi a hf
  grind
theorem Yv {all:List Oper} {i s:Nat} {o:Oper} (f:all[i]?=some o) (q:gQ o.op=true) (r:s=all.length\/∃p,all[s]?=some p/\dM p.op=true)
  (d:∀j p,all[j]?=some p->dM p.op=true->(j<s->ahead (fB all []) i j=false)/\(s<=j->ahead (fB all []) j i=false))
  (c:¬(i<s/\∀j p,i<j->j<s->all[j]?=some p->dM p.op=false)):(i,s)∈Dm all:=by
 have b:i<all.length:=(List.getElem?_eq_some_iff.1 f).1
 unfold Dm
 simp only
 rw[List.mem_flatMap]
 refine⟨i,List.mem_range.2 b,?_⟩
 rw[aLb (by simp[f,q])]
 rw[List.mem_map]
 refine⟨s,?_,rfl⟩
 rw[List.mem_filter]
 constructor
 .grind
 .rw[Bool.and_eq_true];constructor
  .simp only[bne_iff_ne,ne_eq];intro m;exact c (aEo rfl b m.symm)
  .rw[List.all_eq_true];intro j e;rw[List.mem_filter] at e;obtain⟨n,a⟩:=e;cases hp:all[j]? with
   |none=>simp[hp] at a
   |some p=>
    simp[hp] at a
    obtain⟨g,l⟩:=d j p hp a
    split
    .rename_i h;simp[g h]
    .rename_i h;simp[l (by omega)]
theorem V9 {R:jG} {all:List Oper} {d:Nat}:∀(os:List Oper) (i:Nat) (env:List Value) (h:AH) (rs:List Rec) (e:List Value) (b:AH),gV P R all d i os env h=some (rs,e,b)->rs.length=os.length
 |[],i,env,h,rs,e,b,a=>by
  simp only[gV,Option.some.injEq,Prod.mk.injEq] at a;rw[<-a.1];rfl
 |o::os,i,env,h,rs,e,b,a=>by
  simp only[gV] at a;split at a;split at a;rename_i c;simp only[Option.some.injEq,Prod.mk.injEq] at a;rw[<-a.1,List.length_cons,List.length_cons,V9 os _ _ _ _ _ _ c];cases a;cases a
theorem aAw (C:Ctx P B K) (R:jG) (hR:Dc C R):uj C R:=by
 intro ops env h μ h' c ρ w b a cs k t l hg he;unfold qW at c;split at c;rename_i z;rw[Bool.and_eq_true] at z;obtain⟨z,J⟩:=z;split at c;rename_i rs e hN r;split at c;rename_i I;simp only[Option.some.injEq,Prod.mk.injEq] at c;obtain⟨rfl,rfl⟩:=c;have fit:=Z8 z;generalize u:ops.toList=all at fit r I z;have ν:ops.size=all.length:=by rw[<-u];simp
 obtain⟨E,H,V,X,F,A,Y,G,W⟩:=Nm all 0 env _ rs e hN r;have d:Dr P R all h.next E H V:={
  step:=fun j o L=>by have:=(A j o L).1;rwa [Nat.zero_add] at this
  env:=fun j o L=>(A j o L).2
  dir:=fit.dir,kind:=fit.kind,pK:=fit.pK,tmps:=fit.tmps,wY:=fit.wY
  flt:=fun i s o L hl hs ζ Z U hw=>by
   rw[List.all_eq_true] at I;have:=I (i,s) (Yv L hl ζ Z U);have γ:i<all.length:=(List.getElem?_eq_some_iff.1 L).1;unfold tA at this;simp only[L,W i γ,hw] at this;have hh:eM P (cZ P (E i)) (H s) o.op=some (V i):=by
    rcases Nat.lt_or_ge s all.length with g|g;rw[W s g] at this;simp only at this;split at this;rename_i v hv;rw[hv,Gx _ _ this];cases this;have η:s=all.length:=by omega
    rw[List.getElem?_eq_none (by rw[V9 _ _ _ _ _ _ _ r];omega)] at this;simp only at this;rw[η,G];split at this;rename_i v hv;rw[hv,Gx _ _ this];cases this
   exact hh}
 have hB:B<=w.heap.size:=l.size;have β:Inv P B ρ (H 0) w:=by
  rw[F];exact {sA:=l.sA,inj:=l.inj,low:=l.low,old:=l.old,fresh:=fun i g=>l.fresh i (by simp at g;omega),iK:=fun i g=>l.iK i (by simp at g;omega),qL:=l.qL,size:=l.size,bn:=by have:=l.bn;grind}
 have q:∀i,(H 0).get i=h.get i:=fun i=>by rw[F];rfl
 have ι:St P B all h.next E H V ρ h w [] 0 ρ w a.tmps.toList:={
  Ez:={ext:=Ext.refl _,inv:=β,un:=fun _ _ h=>h,nH:=fun i _ _=>q i,stay:=fun i _ g=>by rw[q];exact g,frame:=fun _ _ _=>rfl,
                range:=fun i b s g x h3 _=>⟨i,s,g,by grind,h3⟩,base:=by rw[F],xI:=fun i _=>q i,size:=Nat.le_refl _,os:=rfl,out:=rfl,tape:=rfl}
  py:=fun i g=>by cases g
  closed:=fun i g=>by cases g
  s1:=fun j o g=>by omega
  s3:=fun j o _ _ g=>by cases g
  sle:=Nat.zero_le _
  env:=by rw[X];exact he
  nx:=by grind
  jF:=fun i o b f _ g=>by cases g
  xF:=fun i n t g x=>by rw[l.fresh _ (by omega)] at x;cases x
  lone:=fun i n t _ g x=>by rw[l.fresh _ (by omega)] at x;cases x
  I3:=fun i i' n t t' _ _ x=>by rw[l.fresh _ (by omega)] at x;cases x
  dh:=fun i _ _=>l.fresh _ (by omega)
  vd:=fun i o _ _=>l.fresh _ (by omega)
  rev:=fun i o b f g=>by omega
  de:=fun j _ _=>by rw[q];exact l.iK _ (by omega)
  gr:=fun m hm _=>(have:m=0:=(by omega);this▸pI.refl _)}
 obtain⟨s,κ,α⟩:=ι.advance d l.bn hB _ _ rfl;have D:Region.schedule (P.follows .mixedOrders) ops t=Region.linearise.go .any ops ops.size t (Array.replicate ops.size false) []:=by
  unfold Region.schedule;rw[aLb J];rfl
 have T:yS all [] (Region.schedule (P.follows .mixedOrders) ops t):=by
  rw[D,<-u];refine C7 (by rw[u];exact fit.dir) ops.size t _ [] (by simp) (fun i l=>by simp[l]) ?_;grind
 obtain⟨D',ρ',w',a',M,δ,N,θ⟩:=Lb C hR u d l.bn hB l hg (b:=b) (cs:=cs) (k:=k) _ [] s ρ w a T α κ;have y:=M.Ez;rw[G] at y;have ε:=M.nx;rw[G] at ε;refine⟨ρ',w',a',y.Ez (by omega),?_,N,θ⟩;have O:e=zV all V (E 0) D':=by
  rw[<-Y,d.aD9 _ (Nat.le_refl _)];refine List.ext_getElem? fun t=>Qd (fun i j g x=>fit.pK i j t g x) fun j hj=>?_;have S:j<all.length:=by
   cases hp:all[j]? with
   |none=>rw[hp] at hj;cases hj
   |some p=>grind
  simp[S,δ j S]
 rw[O];exact M.env;cases c;cases c;cases c
theorem ki (C:Ctx P B K) (n:Nat):Dc C (run P K n):=aG5 C (aAw C) n
end
end Go.Ab
section
namespace Go.Ab
variable {P:Program} {K:FuncId->List Value->Option jE}
def jG.le (R R':jG):Prop:=∀t h r,R t h=some r->R' t h=some r
theorem yF {R R':jG} (e:R.le R') {d:Operand->Value} {h:AH} {op:Op} {r:Value×AH} (a:dY P R d h op=some r):dY P R' d h op=some r:=by
 unfold dY at a ⊢;split;exact a;exact a;simp only at a ⊢;split;grind;rename_i g;simp only[g] at a;split;rename_i b;simp only[b] at a;split;rename_i f;rw[aLb f] at a;simp only[Option.map_eq_some_iff] at a ⊢;obtain⟨x,c,rfl⟩:=a;exact⟨x,e _ _ _ c,rfl⟩;grind;rename_i b;simp only[b] at a;simp only[Option.map_eq_some_iff] at a ⊢;obtain⟨x,c,rfl⟩:=a;exact⟨x,e _ _ _ c,rfl⟩;grind;grind;grind
theorem Pb {R R':jG} (b:R.le R') {env:List Value} {h:AH} {op:Op} {r:Value×AH} (a:mJ P R env h op=some r):mJ P R' env h op=some r:=by
 unfold mJ at a ⊢;cases hk:kindOf op<;>simp only[hk] at a ⊢;exact a;exact a;exact yF b a;exact yF b a;exact a
theorem Ip {R R':jG} (f:R.le R') {all:List Oper} {d i:Nat} {env:List Value} {h:AH} {o:Oper} {r:Value×AH} (a:fJ P R all d i env h o=some r):fJ P R' all d i env h o=some r:=by
 unfold fJ at a ⊢;cases hw:eC ⟨all⟩ env o with
 |none=>grind
 |some b=>
  rw[hw] at a;cases b with
  |false=>exact a
  |true=>
   simp only at a ⊢;split;grind;rename_i e;rw[aLa e] at a;split;grind;rename_i c;rw[aLa c] at a;exact yF f a
theorem Ax {R R':jG} (b:R.le R') {all:List Oper} {c:Nat}:∀(os:List Oper) {i:Nat} {env:List Value} {h:AH} {r:List Rec×List Value×AH},gV P R all c i os env h=some r->gV P R' all c i os env h=some r
 |[],_,_,_,_,a=>a
 |o::os,i,env,h,r,a=>by
  simp only[gV] at a ⊢;split at a;rename_i v g d;rw[Ip b d];simp only;split at a;rename_i j e f;rw[Ax b os f];exact a;cases a;cases a
theorem Lx {R R':jG} (c:R.le R') {ops:Array Oper} {env:List Value} {h:AH} {r:List Value×AH} (a:qW P R ops env h=some r):qW P R' ops env h=some r:=by
 unfold qW at a ⊢;split;rename_i b;rw[aLb b] at a;split at a;rename_i d;rw[Ax c _ d];exact a;cases a;grind
theorem ik {R R':jG} (c:R.le R') {all:Array Oper} {rest:List Oper} {env:List Value} {h:AH} {r:Out×AH} (a:sL P R all rest env h=some r):sL P R' all rest env h=some r:=by
 unfold sL at a ⊢;cases rest with
 |nil=>exact a
 |cons o rest=>
  simp only at a ⊢;cases hw:eC all env o with
  |none=>grind
  |some b=>
   rw[hw] at a;cases b with
   |false=>exact c _ _ _ a
   |true=>
    simp only at a ⊢;split at a;rename_i v e d;rw[Pb c d];exact c _ _ _ a;cases a
theorem Zc {R R':jG} (d:R.le R') {f:FuncId} {args:List Value} {h:AH} {r:Out×AH} (a:jX P K R f args h=some r):jX P K R' f args h=some r:=by
 unfold jX at a ⊢;split;grind;rename_i b;rw[b] at a;simp only at a;split at a;rename_i c;rw[d _ _ _ c];exact a;cases a;grind;rename_i b;rw[b] at a;simp only at a;split at a;split at a;split at a;rename_i c;rw[d _ _ _ c];exact a;cases a;cases a;cases a
theorem Wy {R R':jG} (c:R.le R') {l:Nat} {args:List Value} {h:AH} {r:Out×AH} (a:nM R l args h=some r):nM R' l args h=some r:=by
 unfold nM at a ⊢;split at a;split at a;rename_i b;rw[aLb b];split at a;rename_i d;rw[c _ _ _ d];exact a;cases a;cases a;cases a
theorem bc {R R':jG} (b:R.le R') {fn:FuncId} {ro:Option Nat} {ds:List Nat} {env:List Value} {k:List Item} {h:AH} {r:Out×AH} (a:dU P R fn ro ds env k h=some r):dU P R' fn ro ds env k h=some r:=by
 unfold dU at a ⊢;split at a;exact a;rename_i c k;split at a;exact b _ _ _ a;exact b _ _ _ a;exact b _ _ _ a;split at a;exact b _ _ _ a;cases a;exact b _ _ _ a;exact b _ _ _ a;exact b _ _ _ a;split at a;exact b _ _ _ a;exact a;exact a;split at a;rename_i i;rw[b _ _ _ i];exact b _ _ _ a;cases a;split at a;rename_i i;rw[Lx b i];exact b _ _ _ a;cases a;split at a;rename_i d n j m;split at a;rename_i g first e p
 split at a;rename_i f;rw[aLb f];split at a;rename_i i;rw[b _ _ _ i];simp only;split at a;split at a;cases a;rename_i l;rw[aLa l];split at a;exact b _ _ _ a;cases a;cases a;cases a;cases a;cases a;cases a;cases a;exact b _ _ _ a;exact b _ _ _ a;exact b _ _ _ a;split at a;split at a;split at a;exact b _ _ _ a;cases a;cases a;cases a;cases a
theorem vp:∀n,(run P K n).le (run P K (n+1))
 |0,t,h,r,a=>by simp[run] at a
 |n+1,t,h,r,a=>by
  have c:=vp n;cases t with
  |todo fn ro ds env k=>exact bc c a
  |ops all rest env=>exact ik c a
  |call f b=>exact Zc c a
  |round l b=>exact Wy c a
theorem lD {n m:Nat} (h:n<=m):(run P K n).le (run P K m):=by
 induction h with
 |refl=>exact fun _ _ _ h=>h
 |step _ b=>exact fun t g r a=>vp _ _ _ _ (b t g r a)
end Go.Ab
end
section
namespace Go.Ab
noncomputable section
variable {P:Program} {K:FuncId->List Value->Option jE}
def Zx (k:Nat) (a b:Value):Option Bool:=match k,a,b with
 |0,.int k m,.int c n=>if k=c then some (m==n) else none
 |1,.bool m,.bool n=>some (m==n)
 |2,.string m,.string n=>some (m==n)
 |_,_,_=>none
def rR:List Nat->List Value->List Value->Option Bool
 |[],[],[]=>some true
 |k::c,x::d,y::e=>match Zx k x y,rR c d e with
  |some a,some b=>some (a&&b)
  |_,_=>none
 |_,_,_=>none
def J9 (P:Program) (c:TypeId->Option (List Nat)):Nat->List Field->Option (List Nat)
 |_,[]=>some []
 |o,f::d=>if f.name="_"\/f.offset≠o then none else
  match c f.type,J9 P c (o+P.cellsOf f.type) d with
  |some a,some b=>if a.length=P.cellsOf f.type then some (a++b) else none
  |_,_=>none
def Ow (P:Program):Nat->TypeId->Option (List Nat)
 |0,_=>none
 |d+1,t=>match P.underlying t with
  |some .bool=>some [1]
  |some (.int _)=>some [0]
  |some .string=>some [2]
  |some (.array n e)=>if(P.info? e).isSome then
    (match Ow P d e with
    |some l=>if l.length=P.cellsOf e then some (List.replicate n l).flatten else none
    |none=>none) else none
  |some (.struct a)=>if P.stoodInHeld t then none else J9 P (Ow P d) 0 a.toList
  |_=>none
theorem rO:∀{c:List Nat} {a b:List Value} {r:Bool},rR c a b=some r->a.length=c.length/\b.length=c.length
 |[],[],[],_,_=>⟨rfl,rfl⟩
 |[],[],_::_,_,h=>by simp[rR] at h
 |[],_::_,_,_,h=>by simp[rR] at h
 |_::_,[],_,_,h=>by simp[rR] at h
 |_::_,_::_,[],_,h=>by simp[rR] at h
 |k::c,x::e,y::f,r,h=>by
  simp only[rR] at h;split at h;rename_i d;have:=rO d;simp[this];cases h
theorem D5:∀{c d:List Nat} {a b:List Value} {r:Bool},rR (c++d) a b=some r->∃e f,rR c (a.take c.length) (b.take c.length)=some e/\rR d (a.drop c.length) (b.drop c.length)=some f/\r=(e&&f)
 |[],d,a,b,r,h=>⟨true,r,by simp[rR],by simpa using h,by simp⟩
 |k::g,d,[],_,r,h=>by simp[rR] at h
 |k::g,d,_::_,[],r,h=>by simp[rR] at h
 |k::g,d,x::n,y::p,r,h=>by
  simp only[List.cons_append,rR] at h;split at h;rename_i e f i j;cases h;obtain⟨s1,s2,l,m,rfl⟩:=D5 j;exact⟨e&&s1,s2,by simp[rR,i,l],by simpa using m,by rw[Bool.and_assoc]⟩;cases h
def valOf (P:Program) (t:TypeId) (a:List Value):Option Value:=match jS P t with
 |some true=>some (.agg ⟨a⟩)
 |some false=>a[0]?
 |none=>none
theorem B6 {t:TypeId} {xs a:List Value} {b:Nat} {v:Value} (e:(xs.drop b).take (P.cellsOf t)=a) (f:a.length=P.cellsOf t) (d:0<P.cellsOf t\/b<=xs.length) (c:valOf P t a=some v):apart P t xs b=some v:=by
 unfold valOf at c;unfold apart;grind
theorem P9 {eq:TypeId->Value->Value->Option Bool} {j:TypeId->Option (List Nat)}
  (n:∀t d a b r,j t=some d->d.length=P.cellsOf t->rR d a b=some r->∃x y,valOf P t a=some x/\valOf P t b=some y/\eq t x y=some r)
  {xs ys:List Value}:∀(fs:List Field) (o:Nat) (d:List Nat) (r:Bool),o<=xs.length->o<=ys.length->J9 P j o fs=some d->rR d (xs.drop o) (ys.drop o)=some r->mP P eq xs ys fs=some r
 |[],o,d,r,_,_,c,e=>by
  simp only[J9,Option.some.injEq] at c;subst c;have:=rO e;have u:xs.drop o=[]:=List.eq_nil_of_length_eq_zero this.1;have v:ys.drop o=[]:=List.eq_nil_of_length_eq_zero this.2;rw[u,v] at e;simpa [rR,mP] using e
 |f::fs,o,d,r,C,D,c,e=>by
  simp only[J9] at c;split at c;cases c;rename_i i;simp only[not_or,Decidable.not_not,ne_eq] at i;split at c;rename_i a b w z;split at c;rename_i g;cases c;obtain⟨H,G,l,m,rfl⟩:=D5 e;obtain⟨x,y,E,F,A⟩:=n _ _ _ _ _ w g l;have p:=rO l;have lc:=rO e;simp only[List.length_drop,List.length_append] at lc;have q:apart P f.type xs f.offset=some x:=B6 (by rw[i.2,<-g]) (by rw[p.1,g]) (.inr (by omega)) E;have s:apart P f.type ys f.offset=some y:=B6 (by rw[i.2,<-g]) (by rw[p.2,g]) (.inr (by omega)) F;simp only[mP];rw[aLa i.1,q,s];simp only[A];rw[List.drop_drop,List.drop_drop] at m;have:=P9 (xs:=xs) (ys:=ys) n fs (o+P.cellsOf f.type) b G (by omega) (by omega) z (by rw[<-g];exact m);grind;cases c;cases c
theorem T1 {eq:TypeId->Value->Value->Option Bool} {e:TypeId} {l:List Nat}
  (i:∀a b r,rR l a b=some r->∃x y,valOf P e a=some x/\valOf P e b=some y/\eq e x y=some r) (d:l.length=P.cellsOf e)
  {xs ys:List Value}:∀(n j:Nat) (r:Bool),j*P.cellsOf e<=xs.length->j*P.cellsOf e<=ys.length->rR (List.replicate n l).flatten (xs.drop (j*P.cellsOf e)) (ys.drop (j*P.cellsOf e))=some r->rI P eq e xs ys (List.range' j n)=some r
 |0,j,r,_,_,c=>by
  have:=rO c;simp only[List.replicate_zero,List.flatten_nil,List.length_nil] at this;have f:xs.drop (j*P.cellsOf e)=[]:=List.eq_nil_of_length_eq_zero this.1;have s:ys.drop (j*P.cellsOf e)=[]:=List.eq_nil_of_length_eq_zero this.2;rw[f,s] at c;simpa [rR,rI] using c
 |n+1,j,r,w,A,c=>by
  rw[List.replicate_succ,List.flatten_cons] at c;obtain⟨D,C,g,t,rfl⟩:=D5 c;obtain⟨x,y,v,z,u⟩:=i _ _ _ g;have m:=rO g;have lc:=rO c;simp only[List.length_drop,List.length_append] at lc;have p:apart P e xs (j*P.cellsOf e)=some x:=B6 (by rw[<-d]) (by rw[m.1,d]) (.inr (by omega)) v;have q:apart P e ys (j*P.cellsOf e)=some y:=B6 (by rw[<-d]) (by rw[m.2,d]) (.inr (by omega)) z;simp only[List.range'_succ,rI,p,q,u];rw[List.drop_drop,List.drop_drop] at t;have f:(j+1)*P.cellsOf e=j*P.cellsOf e+P.cellsOf e:=Nat.succ_mul _ _;have:=T1 (xs:=xs) (ys:=ys) i d n (j+1) C (by omega) (by omega) (by grind);grind
theorem aBs (d:Nat):∀(t:TypeId) (i:List Nat) (a b:List Value) (r:Bool),Ow P d t=some i->i.length=P.cellsOf t->rR i a b=some r->
  ∃x y,valOf P t a=some x/\valOf P t b=some y/\zY P d t x y=some r:=by
 induction d with
 |zero=>intro t i a b r h;simp[Ow] at h
 |succ d q=>
  intro t i a b r h p j
  have one:∀k,i=[k]->∃x y,a=[x]/\b=[y]/\Zx k x y=some r:=fun k p=>by
   subst p;have:=rO j;match a,b,this with
   |[x],[y],_=>
    refine⟨x,y,rfl,rfl,?_⟩;simp only[rR] at j;grind
  unfold Ow at h
  split at h
  .rename_i c;obtain⟨x,y,rfl,rfl,f⟩:=one 1 (by simpa using h.symm);refine⟨x,y,by simp[valOf,jS,c],by simp[valOf,jS,c],?_⟩;unfold Zx at f;split at f
   .rename_i g;cases g
   .cases f;unfold zY;simp[c]
   .rename_i g;cases g
   .cases f
  .rename_i k c;obtain⟨x,y,rfl,rfl,f⟩:=one 0 (by simpa using h.symm);refine⟨x,y,by simp[valOf,jS,c],by simp[valOf,jS,c],?_⟩;unfold Zx at f;split at f
   .split at f
    .rename_i m;subst m;cases f;unfold zY;simp[c]
    .cases f
   .rename_i g;cases g
   .rename_i g;cases g
   .cases f
  .rename_i c;obtain⟨x,y,rfl,rfl,f⟩:=one 2 (by simpa using h.symm);refine⟨x,y,by simp[valOf,jS,c],by simp[valOf,jS,c],?_⟩;unfold Zx at f;split at f
   .rename_i g;cases g
   .rename_i g;cases g
   .cases f;unfold zY;simp[c]
   .cases f
  .rename_i n e c;split at h
   .rename_i z;split at h
    .rename_i l A;split at h
     .rename_i hle;cases h;refine⟨.agg ⟨a⟩,.agg ⟨b⟩,by simp[valOf,jS,c],by simp[valOf,jS,c],?_⟩;unfold zY;simp only[c,z,if_true];rw[List.range_eq_range'];exact T1 (fun a b r j=>q e l a b r A hle j) hle n 0 r (by simp) (by simp) (by simpa using j)
     .cases h
    .cases h
   .cases h
  .rename_i s c;split at h
   .cases h
   .rename_i C;refine⟨.agg ⟨a⟩,.agg ⟨b⟩,by simp[valOf,jS,c],by simp[valOf,jS,c],?_⟩;unfold zY;simp only[c,C,Bool.false_eq_true,if_false];exact P9 (fun t i a b r u v w=>q t i a b r u v w) s.toList 0 i r (by simp) (by simp) h (by simpa using j)
  .cases h
def Xa (op:BinOp) (r:Bool):Option Value:=match op with
 |.eql=>some (.bool r)
 |.neq=>some (.bool !r)
 |_=>none
def xP (op:BinOp) (a b:Value):Option Value:=match a,b with
 |.int k m,.int c n=>if k=c then Ol op k m n else Nb op k m n
 |_,_=>none
def Ya (op:BinOp) (a b:Value):Option Value:=match a,b with
 |.string m,.string n=>aA8 op m n
 |_,_=>none
def Xx (op:BinOp) (a b:Value):Option Value:=match a,b with
 |.bool m,.bool n=>Xa op (m==n)
 |_,_=>none
def Tj (op:BinOp) (a b:Value):Option Value:=match a,b with
 |.pointer none,.pointer b=>Xa op b.isNone
 |.pointer (some _),.pointer none=>Xa op false
 |_,_=>none
def R3 (op:BinOp) (a b:Value):Option Value:=match a,b with
 |.slice none _ _,.slice b _ _=>Xa op b.isNone
 |.slice (some _) _ _,.slice none _ _=>Xa op false
 |_,_=>none
def Xc (op:BinOp) (a b:Value):Option Value:=match a,b with
 |.nilFunc,.nilFunc=>Xa op true
 |.nilFunc,.func _ _ _=>Xa op false
 |.func _ _ _,.nilFunc=>Xa op false
 |_,_=>none
def Td (c:Bool) (op:BinOp) (a b:Value):Option Value:=match a,b with
 |.nilIface,.nilIface=>if c then Xa op true else none
 |.nilIface,.iface _ _=>Xa op false
 |.iface _ _,.nilIface=>Xa op false
 |_,_=>none
def Rx (c:List Nat) (op:BinOp) (a b:Value):Option Value:=match a,b with
 |.agg d,.agg e=>(rR c d.toList e.toList).bind (Xa op)
 |_,_=>none
def Jg (P:Program) (t:TypeId):Option (List Nat):=match Ow P 10000 t with
 |some a=>if a.length=P.cellsOf t/\jS P t=some true/\P.eqGuardType P.depth t=false then some a else none
 |none=>none
def Ts (P:Program) (op:BinOp) (t:TypeId) (x y:Operand) (a b:Value) (q:Value->Prop) (bE:Option Value->(Value->Prop)->Prop):Prop:=
 match P.underlying t with
 |some (.int _)=>bE (xP op a b) q
 |some .string=>bE (Ya op a b) q
 |some .bool=>bE (Xx op a b) q
 |some (.pointer _)=>bE (Tj op a b) q
 |some (.slice _)=>bE (R3 op a b) q
 |some (.func _ _ _)=>bE (Xc op a b) q
 |some (.interface _)=>bE (Td (isConst x||isConst y) op a b) q
 |some (.struct _)=>(match Jg P t with
  |some c=>bE (Rx c op a b) q
  |none=>False)
 |some (.array _ _)=>(match Jg P t with
  |some c=>bE (Rx c op a b) q
  |none=>False)
 |_=>False
theorem kZ {op:BinOp} {t:TypeId} {x y:Operand} {a b v:Value} {r:Bool} (e:∀k m d n,¬(a= .int k m/\b= .int d n)) (i:∀m n,¬(a= .string m/\b= .string n)) (c:Xa op r=some v) (f:Ia P t x y a b=true) (g:zY P 10000 t a b=some r):
  Tb P op t x y a b=some v:=by
 unfold Tb
 split
 .grind
 .grind
 .unfold Xa at c;grind
theorem lT {t:TypeId} {a b:Value} {r:Bool} (h:zY P (9999+1) t a b=some r):zY P 10000 t a b=some r:=h
theorem T8 {op:BinOp} {t:TypeId} {x y:Operand} {a b:Value} {q:Value->Prop} (g:Ts P op t x y a b q fun o p=>∃v,o=some v/\p v):∃v,Tb P op t x y a b=some v/\q v:=by
 unfold Ts at g;split at g;obtain⟨v,c,d⟩:=g;refine⟨v,?_,d⟩;unfold xP at c;split at c;simp only[Tb];exact c;cases c;obtain⟨v,c,d⟩:=g;refine⟨v,?_,d⟩;unfold Ya at c;split at c;simp only[Tb];exact c;cases c;rename_i e;obtain⟨v,c,d⟩:=g;refine⟨v,?_,d⟩;unfold Xx at c;split at c;exact kZ (fun _ _ _ _ h=>by cases h.1) (fun _ _ h=>by cases h.1) c rfl (lT (by unfold zY;simp[e]));cases c;rename_i e;obtain⟨v,c,d⟩:=g;refine⟨v,?_,d⟩;unfold Tj at c;split at c;exact kZ (fun _ _ _ _ h=>by cases h.1) (fun _ _ h=>by cases h.1) c rfl (lT (by unfold zY;simp[e]));exact kZ (fun _ _ _ _ h=>by cases h.1) (fun _ _ h=>by cases h.1) c rfl (lT (by unfold zY;simp[e]));cases c;rename_i e;obtain⟨v,c,d⟩:=g;refine⟨v,?_,d⟩;unfold R3 at c;split at c;exact kZ (fun _ _ _ _ h=>by cases h.1) (fun _ _ h=>by cases h.1) c rfl (lT (by unfold zY;simp[e]));exact kZ (fun _ _ _ _ h=>by cases h.1) (fun _ _ h=>by cases h.1) c rfl (lT (by unfold zY;simp[e]));cases c;rename_i e;obtain⟨v,c,d⟩:=g;refine⟨v,?_,d⟩;unfold Xc at c;split at c;exact kZ (fun _ _ _ _ h=>by cases h.1) (fun _ _ h=>by cases h.1) c rfl (lT (by unfold zY;simp[e]));exact kZ (fun _ _ _ _ h=>by cases h.1) (fun _ _ h=>by cases h.1) c rfl (lT (by unfold zY;simp[e]));exact kZ (fun _ _ _ _ h=>by cases h.1) (fun _ _ h=>by cases h.1) c rfl (lT (by unfold zY;simp[e]));cases c;rename_i e;obtain⟨v,c,d⟩:=g;refine⟨v,?_,d⟩;unfold Td at c;split at c;split at c;rename_i i;exact kZ (fun _ _ _ _ h=>by cases h.1) (fun _ _ h=>by cases h.1) c (by simpa [Ia] using i) (lT (by unfold zY;simp[e]));cases c;exact kZ (fun _ _ _ _ h=>by cases h.1) (fun _ _ h=>by cases h.1) c rfl (lT (by unfold zY;simp[e]));exact kZ (fun _ _ _ _ h=>by cases h.1) (fun _ _ h=>by cases h.1) c rfl (lT (by unfold zY;simp[e]));cases c;all_goals
  first
   |cases g
   |split at g
    .rename_i G f;obtain⟨v,c,d⟩:=g;refine⟨v,?_,d⟩;unfold Rx at c;split at c
     .rename_i D F;simp only[Option.bind_eq_some_iff] at c;obtain⟨r,z,u⟩:=c;unfold Jg at f;split at f
      .rename_i A m;split at f
       .rename_i i;cases f;obtain⟨C,E,j,l,w⟩:=aBs 10000 t _ _ _ _ m i.1 z;simp only[valOf,i.2.1,Option.some.injEq] at j l;have n:C= .agg D:=j.symm;have s:E= .agg F:=l.symm;subst n;subst s;exact kZ (fun _ _ _ _ h=>by cases h.1) (fun _ _ h=>by cases h.1) u (by simp[Ia,i.2.2]) w
       .cases f
      .cases f
     .cases c
    .cases g
end
end Go.Ab
end
section
namespace Go.Ab
noncomputable section
variable {P:Program} {K:FuncId->List Value->Option jE}
def Ok (P:Program) (K:FuncId->List Value->Option jE) (t:Task) (h:AH) (Q:Out->AH->Prop):Prop:=∃n r,run P K n t h=some r/\Q r.1 r.2
def bE {α:Type} (o:Option α) (p:α->Prop):Prop:=∃v,o=some v/\p v
def Br (v:Value) (p q:Prop):Prop:=∃b,v= .bool b/\(b=true->p)/\(b=false->q)
theorem Ok.mono {t:Task} {h:AH} {Q a:Out->AH->Prop} (k:Ok P K t h Q) (e:∀o b,Q o b->a o b):Ok P K t h a:=
 let⟨n,r,c,d⟩:=k;⟨n,r,c,e _ _ d⟩
theorem Ok.of {t:Task} {h:AH} {Q:Out->AH->Prop} {n:Nat} {o:Out} {h':AH} (b:run P K n t h=some (o,h')) (a:Q o h'):Ok P K t h Q:=⟨n,(o,h'),b,a⟩
@[simp] theorem aI1 {α:Type} {v:α} {p:α->Prop}:bE (some v) p↔p v:=⟨fun⟨_,h,k⟩=>by cases h;exact k,fun k=>⟨v,rfl,k⟩⟩
@[simp] theorem aHb {α:Type} {p:α->Prop}:bE none p↔False:=⟨fun⟨_,h,_⟩=>(nomatch h),False.elim⟩
@[congr] theorem aGg {α:Type} {o o':Option α} {p:α->Prop} (h:o=o'):bE o p↔bE o' p:=by rw[h]
theorem bE.mono {α:Type} {o:Option α} {p c:α->Prop} (h:bE o p) (k:∀v,p v->c v):bE o c:=let⟨v,a,b⟩:=h;⟨v,a,k v b⟩
@[simp] theorem aC6 {p q:Prop}:Br (.bool true) p q↔p:=⟨fun⟨b,h,k,_⟩=>by cases h;exact k rfl,fun k=>⟨true,rfl,fun _=>k,by simp⟩⟩
@[simp] theorem y4 {p q:Prop}:Br (.bool false) p q↔q:=⟨fun⟨b,h,_,k⟩=>by cases h;exact k rfl,fun k=>⟨false,rfl,by simp,fun _=>k⟩⟩
theorem Vn {b:Bool} {p q:Prop} (a:b=true->p) (c:b=false->q):Br (.bool b) p q:=⟨b,rfl,a,c⟩
@[congr] theorem aGz {v v':Value} {p q:Prop} (h:v=v'):Br v p q↔Br v' p q:=by rw[h]
def vA (c a b:Value):Option Value:=match c with
 |.bool t=>some (if t then a else b)
 |_=>none
def rT (h:AH) (p:Value):Option Value:=match p with
 |.pointer (some a)=>if a.spot.isSome then none else
  (match h.get a.block with
  |some (.cells c _ _ _)=>c[a.off]?
  |_=>none)
 |_=>none
def vO (h:AH) (n:Nat) (p:Value):Option Value:=match p with
 |.pointer (some a)=>(cN h a n).map fun l=> .agg ⟨l⟩
 |_=>none
def nG (p:Value):Option Value:=match p with
 |.pointer (some a)=>some (.pointer (some a))
 |.func (.func f) a b=>some (.func (.func f) a b)
 |.func (.yield f) a b=>some (.func (.yield f) a b)
 |_=>none
def U1 (op:UnOp) (x:Value):Option Value:=match op,x with
 |.neg,.int k n=>some (.int k (k.wrap (0 - n)))
 |.not,.bool b=>some (.bool !b)
 |_,_=>none
def pT (k:IntKind) (x:Value):Option Value:=match x with
 |.int _ n=>some (.int k (k.wrap n))
 |_=>none
def tO (x:Value):Option Value:=match x with
 |.string z=>some (.string z)
 |_=>none
def iN (n:Nat) (p:Value):Option Value:=match p with
 |.pointer (some a)=>some (.pointer (some (a.add n)))
 |_=>none
def sP (a:Nat) (x:Value):Option Value:=match x with
 |.agg b=>b.toList[a]?
 |_=>none
def rF (a n:Nat) (x:Value):Option Value:=match x with
 |.agg b=>if a+n<=b.toList.length then some (.agg ⟨(b.toList.drop a).take n⟩) else none
 |_=>none
def pL (n b:Nat) (x i:Value):Option Value:=match x,i with
 |.pointer (some a),.int _ i=>if 0<=i/\i<n then some (.pointer (some (a.add (i.toNat*b)))) else none
 |_,_=>none
def mF (b:Nat) (x i:Value):Option Value:=match x,i with
 |.slice (some a) n _,.int _ i=>if 0<=i/\i<n/\a.spot=none then some (.pointer (some (a.add (i.toNat*b)))) else none
 |_,_=>none
def Pp (n b:Nat) (x i:Value):Option Value:=match x,i with
 |.agg a,.int _ i=>if 0<=i/\i<n then a.toList[i.toNat*b]? else none
 |_,_=>none
def Wr (n a:Nat) (x i:Value):Option Value:=match x,i with
 |.agg b,.int _ i=>if 0<=i/\i<n/\i.toNat*a+a<=b.toList.length then some (.agg ⟨(b.toList.drop (i.toNat*a)).take a⟩) else none
 |_,_=>none
def X7 (x i:Value):Option Value:=match x,i with
 |.string s,.int _ i=>if 0<=i then(s[i.toNat]?).map fun b=> .int .u8 b.toNat else none
 |_,_=>none
def pU (i:Nat) (t:Value):Option Value:=match t with
 |.tuple a=>a.toList[i]?
 |_=>none
def vB (h:AH) (n:Nat) (p v:Value):Option AH:=match p with
 |.pointer (some a)=>(match jJ v with
  |some b=>if b.length=n then eB h a b else none
  |none=>none)
 |_=>none
def mA (e:TypeId) (v:Value):Option nD:=(jJ v).map fun l=> .cells l e (0,0) true
def Iz (bytes:Nat) (l c:Value):Option (Nat×Nat):=match l,c with
 |.int _ l,.int _ c=>if 0<=l/\l<=c/\c<=2^40/\bytes*c<=2^47 then some (l.toNat,c.toNat) else none
 |_,_=>none
def oR (cells:List Value):List (Nat×Nat×Value)->Option (List Value)
 |[]=>some cells
 |(a,size,v)::rest=>match jJ v with
  |some b=>if b.length=size/\a+b.length<=cells.length then oR (bX cells a b) rest else none
  |none=>none
def yW (place:Nat->Option (Nat×Nat)) (b:Operand->Value):List (Nat×Operand)->Option (List (Nat×Nat×Value))
 |[]=>some []
 |(i,x)::rest=>match place i,yW place b rest with
  |some (a,size),some l=>some ((a,size,b x)::l)
  |_,_=>none
theorem Fy {place:Nat->Option (Nat×Nat)} {b:Operand->Value}:∀{a:List (Nat×Operand)} {l:List (Nat×Nat×Value)} {cells:List Value},yW place b a=some l->Gs place cells (a.map fun p=>(p.1,b p.2))=oR cells l
 |[],l,cells,h=>by simp only[yW,Option.some.injEq] at h;subst h;rfl
 |(i,x)::rest,l,cells,h=>by
  simp only[yW] at h;split at h;rename_i e size f c d;cases h;simp only[List.map_cons,Gs,oR,c];cases hc:jJ (b x) with
  |none=>rfl
  |some g=>
   simp only;split;exact Fy d;rfl
  cases h
def zM (g:Nat) (h:AH) (x:Value) (f e d:Option Value):Option Value:=match x with
 |.slice none len b=>
  match lR d b b with
  |some m=>match(if e.isNone&&d.isSome then none else lR e len m) with
   |some c=>match lR f 0 c with
    |some l=>some (.slice none (c - l) (m - l))
    |none=>none
   |none=>none
  |none=>none
 |.slice (some a) len b=>
  match lR d b b with
  |some m=>match(if e.isNone&&d.isSome then none else lR e len m) with
   |some c=>match lR f 0 c with
    |some l=>
     if a.spot.isSome then(if len=0/\b=0 then some (if d.isSome then uD else aDi) else none) else
     if c<=m then
      (if m=l then
       if d.isSome then some uD else
       match qZ h a.block with
       |some true=>some uD
       |some false=>some (Bu (a.add (l*g)))
       |none=>none
      else some (.slice (some (a.add (l*g))) (c - l) (m - l)))
     else none
    |none=>none
   |none=>none
  |none=>none
 |_=>none
def Xp (n f:Nat) (x:Value) (e c d:Option Value):Option Value:=match x with
 |.pointer (some a)=>
  match lR d n n with
  |some m=>match(if c.isNone&&d.isSome then none else lR c n m) with
   |some b=>match lR e 0 b with
    |some l=>if a.spot=none then some (.slice (some (if m=l then a else a.add (l*f))) (b - l) (m - l)) else none
    |none=>none
   |none=>none
  |none=>none
 |_=>none
def Yw (x:Value) (c b:Option Value):Option Value:=match x with
 |.string s=>
  match lR b s.size s.size with
  |some a=>match lR c 0 a with
   |some l=>some (.string (s.extract l a))
   |none=>none
  |none=>none
 |_=>none
def Bc (P:Program) (K:FuncId->List Value->Option jE) (f:Value) (args:List Value) (h:AH) (Q:Value->AH->Prop):Prop:=match f with
 |.func (.func g) first a=>gL P g=true/\Ok P K (.call g (first.toList++args++a.toList)) h fun o b=>Q o.v b
 |.func (.yield l) first _=>Ok P K (.round l (first.toList++args)) h fun o b=>Q o.v b
 |_=>False
def lkV (z:Value) (h:AH) (x ix:Value) (ok:Bool):Option Value:=match az h x,ix with
 |some a,.int k n=>match xH k n a 0 with
  |some (some (_,v))=>some (if ok then .tuple ⟨[v,.bool true]⟩ else v)
  |some none=>some (if ok then .tuple ⟨[z,.bool false]⟩ else z)
  |none=>none
 |_,_=>none
def jV (P:Program) (g:Operand->Value) (h:AH) (q:Value->Prop):Op->Prop
 |.move x=>q (g x)
 |.assign x=>q (g x)
 |.pick c a b=>bE (vA (g c) (g a) (g b)) q
 |.build t m=>match zeroOf P t with
  |some z=>(match P.underlying t with
   |some (.struct p)=>if p.all (fun f=>(P.info? f.type).isSome) then(match yW (fun i=>(p[i]?).map fun f=>(f.offset,P.cellsOf f.type)) g m.toList with
    |some l=>bE (oR z l) fun c=>q (.agg ⟨c⟩)
    |none=>False) else False
   |some (.array _ e)=>if(P.info? e).isSome then(match yW (fun i=>some (i*P.cellsOf e,P.cellsOf e)) g m.toList with
    |some l=>bE (oR z l) fun c=>q (.agg ⟨c⟩)
    |none=>False) else False
   |_=>False)
  |none=>False
 |.load t a=>match jS P t with
  |some true=>bE (vO h (P.cellsOf t) (g a)) q
  |some false=>bE (rT h (g a)) q
  |none=>False
 |.nilCheck x=>bE (nG (g x)) q
 |.binOp op t x y _=>Ts P op t x y (g x) (g y) q bE
 |.unOp op _ x=>bE (U1 op (g x)) q
 |.convert s d x=>match P.underlying s with
  |some .string=>(match P.underlying d with
   |some (.int k)=>bE (pT k (g x)) q
   |some .string=>bE (tO (g x)) q
   |_=>False)
  |some (.slice e)=>(match P.underlying d with
   |some .string=>(match P.underlying e with
    |some (.int .u8)=>bE (strOf h (g x)) q
    |_=>False)
   |_=>False)
  |some _=>(match P.underlying d with
   |some (.int k)=>bE (pT k (g x)) q
   |_=>False)
  |none=>False
 |.makeInterface t x=>match P.underlying t with
  |some (.interface _)=>False
  |some _=>q (.iface t (g x))
  |none=>False
 |.makeFunc fn first j=>match fn with
  |.func f=>q (.func (.func f) (first.map g) (j.map g))
  |_=>False
 |.slice t x u r v=>match P.underlying t with
  |some (.slice e)=>if(P.info? e).isSome then bE (zM (P.cellsOf e) h (g x) (u.map g) (r.map g) (v.map g)) q else False
  |some (.array n e)=>if(P.info? e).isSome then bE (Xp n (P.cellsOf e) (g x) (u.map g) (r.map g) (v.map g)) q else False
  |some .string=>(match v with
   |none=>bE (Yw (g x) (u.map g) (r.map g)) q
   |some _=>False)
  |_=>False
 |.fieldAddr s x f=>match P.underlying s with
  |some (.struct p)=>(match p[f]? with
   |some fd=>if P.cellsOf fd.type=0 then False else bE (iN fd.offset (g x)) q
   |none=>False)
  |_=>False
 |.field t x f=>match P.underlying t with
  |some (.struct p)=>(match p[f]? with
   |some fd=>(match jS P fd.type with
    |some true=>bE (rF fd.offset (P.cellsOf fd.type) (g x)) q
    |some false=>bE (sP fd.offset (g x)) q
    |none=>False)
   |none=>False)
  |_=>False
 |.indexAddr t x i=>match P.underlying t with
  |some (.array n e)=>if(P.info? e).isSome then bE (pL n (P.cellsOf e) (g x) (g i)) q else False
  |some (.slice e)=>if(P.info? e).isSome then bE (mF (P.cellsOf e) (g x) (g i)) q else False
  |_=>False
 |.index t x i=>match P.underlying t with
  |some (.array n e)=>if(P.info? e).isSome then(match jS P e with
   |some true=>bE (Wr n (P.cellsOf e) (g x) (g i)) q
   |some false=>bE (Pp n (P.cellsOf e) (g x) (g i)) q
   |none=>False) else False
  |some .string=>bE (X7 (g x) (g i)) q
  |_=>False
 |.extract t i=>bE (pU i (g t)) q
 |.lookup t x ix ok=>match G6 P t with
  |some e=>(match zeroV P e with
   |some z=>bE (lkV z h (g x) (g ix) ok) q
   |none=>False)
  |none=>False
 |_=>False
theorem Da {H:Operand->Value} {h:AH} {q:Value->Prop} {op:Op} (b:jV P H h q op):kindOf op= .zQ/\∃v,bS P H h op=some v/\q v:=by
 unfold jV at b;split at b;exact⟨rfl,_,rfl,b⟩;exact⟨rfl,_,rfl,b⟩;obtain⟨v,a,f⟩:=b;exact⟨rfl,v,a,f⟩;refine⟨rfl,?_⟩;split at b;rename_i z G;split at b;rename_i I s;split at b;rename_i p;split at b;rename_i l F;obtain⟨c,a,f⟩:=b;refine⟨_,?_,f⟩;simp only[bS,Hw,G,s,p,if_true];rw[Fy F,a];rfl;cases b;cases b;rename_i e s;split at b;rename_i p;split at b;rename_i l F;obtain⟨c,a,f⟩:=b;refine⟨_,?_,f⟩;simp only[bS,Hw,G,s,p,if_true];rw[Fy F,a];rfl;cases b;cases b;cases b;cases b;refine⟨rfl,?_⟩;split at b;rename_i n;obtain⟨v,a,f⟩:=b;refine⟨v,?_,f⟩;unfold vO at a;simp only[bS];split at a;rename_i g;rw[g];simp only[tS,n];exact a;cases a;rename_i n;obtain⟨v,a,f⟩:=b;refine⟨v,?_,f⟩;unfold rT at a;simp only[bS];split at a;rename_i g;rw[g];simp only[tS,n];exact a;cases a;cases b;obtain⟨v,a,f⟩:=b;exact⟨rfl,v,a,f⟩;obtain⟨v,a,f⟩:=T8 b;exact⟨rfl,v,a,f⟩;obtain⟨v,a,f⟩:=b;exact⟨rfl,v,a,f⟩;refine⟨rfl,?_⟩;split at b;rename_i i;split at b;rename_i u;obtain⟨v,a,f⟩:=b;refine⟨v,?_,f⟩;unfold pT at a;split at a;rename_i g;simp only[bS,i,u,g];exact a;cases a;rename_i u;obtain⟨v,a,f⟩:=b;refine⟨v,?_,f⟩;unfold tO at a;split at a;rename_i g;simp only[bS,i,u,g];exact a;cases a;cases b;rename_i i;split at b;rename_i u;split at b;rename_i g;obtain⟨v,a,f⟩:=b;refine⟨v,?_,f⟩;simp only[bS,i,u,g];exact a;cases b;cases b;rename_i i;split at b;rename_i u;obtain⟨v,a,f⟩:=b;refine⟨v,?_,f⟩;unfold pT at a;split at a;rename_i g;simp only[bS,i,u,g];exact a;cases a;cases b;cases b;refine⟨rfl,?_⟩;split at b;cases b;rename_i t x d J i;refine⟨_,?_,b⟩;simp only[bS];grind;cases b;split at b;exact⟨rfl,_,rfl,b⟩;cases b;refine⟨rfl,?_⟩;split at b;rename_i s;split at b;rename_i A;obtain⟨v,a,f⟩:=b;refine⟨v,?_,f⟩;unfold zM at a;split at a;rename_i w;simp only[bS,w,uH,s,A,if_true];exact a;rename_i w;simp only[bS,w,uH,s,A,true_and];exact a;cases a;cases b;rename_i s;split at b;rename_i A;obtain⟨v,a,f⟩:=b;refine⟨v,?_,f⟩;unfold Xp at a;split at a;rename_i w;simp only[bS,w,uH,s,A,true_and];exact a;cases a;cases b;rename_i s;split at b;obtain⟨v,a,f⟩:=b;refine⟨v,?_,f⟩;unfold Yw at a;split at a;rename_i w;simp only[bS,w,uH,s,Option.map_none,Option.isSome_none,Bool.false_eq_true,if_false];exact a;cases a;cases b;cases b;refine⟨rfl,?_⟩;split at b;rename_i i;split at b;rename_i y;split at b;cases b;rename_i r;obtain⟨v,a,f⟩:=b;refine⟨v,?_,f⟩;unfold iN at a;split at a;rename_i g;simp only[bS,i,g,y,r,if_false];exact a;cases a;cases b;cases b;refine⟨rfl,?_⟩;split at b;rename_i i;split at b;rename_i y;split at b;rename_i n;obtain⟨v,a,f⟩:=b;refine⟨v,?_,f⟩;unfold rF at a;split at a;rename_i g;simp only[bS,i,g,y,apart,n];exact a;cases a;rename_i n;obtain⟨v,a,f⟩:=b;refine⟨v,?_,f⟩;unfold sP at a;split at a;rename_i g;simp only[bS,i,g,y,apart,n];exact a;cases a;cases b;cases b;cases b;refine⟨rfl,?_⟩;split at b;rename_i i;split at b;rename_i j;obtain⟨v,a,f⟩:=b;refine⟨v,?_,f⟩;unfold pL at a;split at a;rename_i g m;split at a;rename_i r;simp only[bS,i,g,m,r,j,and_self,if_true];exact a;cases a;cases a;cases b;rename_i i;split at b;rename_i j;obtain⟨v,a,f⟩:=b;refine⟨v,?_,f⟩;unfold mF at a;split at a;rename_i g m;split at a;rename_i r;simp only[bS,i,g,m,r,j,and_self,if_true];exact a;cases a;cases a;cases b;cases b;refine⟨rfl,?_⟩;split at b;rename_i i;split at b;rename_i j;split at b;rename_i n;obtain⟨v,a,f⟩:=b;refine⟨v,?_,f⟩;unfold Wr at a;split at a;rename_i g m;split at a;rename_i r;have C:=r.1;have D:=r.2.1;have E:=r.2.2;simp only[bS,i,g,m,C,D,j,and_self,if_true,apart,n,E];exact a;cases a;cases a;rename_i n;obtain⟨v,a,f⟩:=b;refine⟨v,?_,f⟩;unfold Pp at a;split at a;rename_i g m;split at a;rename_i r;simp only[bS,i,g,m,r,j,and_self,if_true,apart,n];exact a;cases a;cases a;cases b;cases b;rename_i i;obtain⟨v,a,f⟩:=b;refine⟨v,?_,f⟩;unfold X7 at a;split at a;rename_i g m;simp only[bS,i,g,m];exact a;cases a;cases b;obtain⟨v,a,f⟩:=b;exact⟨rfl,v,a,f⟩;refine⟨rfl,?_⟩;split at b;rename_i e g;split at b;rename_i z G;obtain⟨v,a,f⟩:=b;refine⟨v,?_,f⟩;unfold lkV at a;simp only[bS,uY,g];grind;cases b;cases b;cases b
end
end Go.Ab
end
section
namespace Go.Ab
noncomputable section
variable {P:Program} {K:FuncId->List Value->Option jE}
def Cy (x:Value):Option Value:=match x with
 |.string s=>some (.int .i64 s.size)
 |_=>none
def lJ (x:Value):Option Value:=match x with
 |.slice _ n _=>some (.int .i64 n)
 |_=>none
def jl (h:AH) (x:Value):Option Value:=(az h x).map fun a=> .int .i64 a.length
def Ao (x y:Value):Option Value:=match x,y with
 |.int k x,.int _ y=>some (.int k (if y<x then y else x))
 |_,_=>none
def Cx (x y:Value):Option Value:=match x,y with
 |.int k x,.int _ y=>some (.int k (if y>x then y else x))
 |_,_=>none
def kI (i bytes:Nat) (e:TypeId) (h:AH) (s x:Value):Option (Value×AH):=
 match s,vN x with
 |.slice f b d,some n=>
  match gU h i n x with
  |some new=>
   if !new.all eJ||new.length !=n*i then none else
   if b+n<=d then
    match f with
    |none=>if n=0 then some (s,h) else none
    |some a=>if n=0 then some (s,h) else if a.spot.isSome then none else
     (eB h (a.add (b*i)) new).map fun m=>(.slice f (b+n) d,m)
   else if(b+n)*(bytes+1)<=2^46 then
    match f with
    |none=>if b=0 then some (.slice (some ⟨h.next,0,none⟩) n n,h.alloc (.cells new e (0,0) false)) else none
    |some a=>
     if a.spot=some 1 then(if b=0 then some (.slice (some ⟨h.next,0,none⟩) n n,h.alloc (.cells new e (0,0) false)) else none) else
     if a.spot=some 2 then
      (match h.get a.block with
      |some (.cells c j l _)=>
       if j=e/\h.base<=a.block/\l=(0,0)/\a.off<=c.length/\b=0/\d=0 then
        some (.slice (some ⟨h.next,0,none⟩) n n,(h.set a.block none).alloc (.cells new e (0,0) false))
       else none
      |_=>none) else
     match cN h a (b*i),h.get a.block with
     |some g,some (.cells c j l x)=>
      if !g.all eJ then none else
      if x then some (.slice (some ⟨h.next,0,none⟩) (b+n) (b+n),h.alloc (.cells (g++new) e (0,0) false))
      else if j=e/\h.base<=a.block/\l=(0,0)/\a.off+d*i<=c.length then
       some (.slice (some ⟨h.next,0,none⟩) (b+n) (b+n),(h.set a.block none).alloc (.cells (g++new) e (0,0) false))
      else none
     |_,_=>none
   else none
  |_=>none
 |_,_=>none
def copyV (f:Nat) (h:AH) (d x:Value):Option (Value×AH):=
 match d,vN x with
 |.slice c b _,some m=>
   match gU h f (Nat.min m b) x with
   |some new=>match c with
    |none=>some (.int .i64 (Nat.min m b:Nat),h)
    |some a=>if Nat.min m b=0 then some (.int .i64 0,h) else(eB h a new).map fun e=>(.int .i64 (Nat.min m b:Nat),e)
   |none=>none
 |_,_=>none
def jQ (z:List Value) (h:AH) (x:Value):Option (Value×AH):=
 match x with
 |.slice none _ _=>some (.tuple #[],h)
 |.slice (some a) n _=>
   if n=0 then some (.tuple #[],h) else(eB h a (eK z n)).map fun b=>(.tuple #[],b)
 |_=>none
def Qf (h:AH) (m b v:Value):Option AH:=match m,b with
 |.map (some r),.int k n=>if r<h.base then none else match h.get r with
  |some (.map c a)=>(aAm k n v c a).map fun o=>h.set r (some o)
  |_=>none
 |_,_=>none
def P6 (h:AH) (m c:Value):Option AH:=match m,c with
 |.map (some r),.int k n=>if r<h.base then none else match h.get r with
  |some (.map b a)=>match xH k n b 0 with
   |some (some (i,_))=>some (h.set r (some (.map (b.eraseIdx i) a)))
   |some none=>some (h.set r (some (.map b a)))
   |none=>none
  |_=>none
 |_,_=>none
theorem vn {h:AH} {t e:TypeId} {m a v:Value} {h':AH} (c:G6 P t=some e) (b:Qf h m a v=some h'):Cd P h t m a v=some h':=by
 unfold Qf at b;split at b;simp only[Cd,c];exact b;cases b
theorem sx {h:AH} {t e:TypeId} {m a:Value} {h':AH} (c:G6 P t=some e) (b:P6 h m a=some h'):Gn P h t m a=some h':=by
 unfold P6 at b;split at b;simp only[Gn,c];exact b;cases b
def xD (P:Program) (h:AH) (q:Value->AH->Prop) (a:Array TypeId):Builtin->List Value->Prop
 |.len,[x]=>match(a[0]?).bind P.underlying with
  |some .string=>bE (Cy x) fun v=>q v h
  |some (.slice _)=>bE (lJ x) fun v=>q v h
  |some (.array n _)=>q (.int .i64 n) h
  |some (.pointer e)=>(match P.underlying e with
   |some (.array n _)=>q (.int .i64 n) h
   |_=>False)
  |some (.map _ _)=>bE (jl h x) fun v=>q v h
  |_=>False
 |.append,[s,x]=>match(a[0]?).bind P.underlying with
  |some (.slice e)=>if I8 P a/\(zeroOf P e).isSome then bE (kI (P.cellsOf e) (P.bytesOf e) e h s x) fun r=>q r.1 r.2 else False
  |_=>False
 |.copy,[d,x]=>match(a[0]?).bind P.underlying with
  |some (.slice e)=>if(P.info? e).isSome then bE (copyV (P.cellsOf e) h d x) fun r=>q r.1 r.2 else False
  |_=>False
 |.clear,[x]=>match(a[0]?).bind P.underlying with
  |some (.slice e)=>(match zeroOf P e with
   |some z=>bE (jQ z h x) fun r=>q r.1 r.2
   |none=>False)
  |_=>False
 |.min,[x,y]=>bE (Ao x y) fun v=>q v h
 |.max,[x,y]=>bE (Cx x y) fun v=>q v h
 |.delete,[m,k]=>(match a[0]? with
  |some t=>(match G6 P t with
   |some _=>bE (P6 h m k) fun b=>q (.tuple #[]) b
   |none=>False)
  |none=>False)
 |_,_=>False
theorem zH {h:AH} {q:Value->AH->Prop} {at_:Array TypeId} {b:Builtin} {args:List Value} (c:xD P h q at_ b args):∃v g,eN P h b at_ args=some (v,g)/\q v g:=by
 unfold xD at c;split at c;split at c;rename_i d;obtain⟨v,a,f⟩:=c;refine⟨v,h,?_,f⟩;unfold Cy at a;split at a;simp only[eN,d];cases a;rfl;cases a;rename_i d;obtain⟨v,a,f⟩:=c;refine⟨v,h,?_,f⟩;unfold lJ at a;split at a;simp only[eN,d];cases a;rfl;cases a;rename_i d;refine⟨_,h,?_,c⟩;simp only[eN,d];rename_i d;split at c;rename_i l;refine⟨_,h,?_,c⟩;simp only[eN,d,l];cases c;rename_i d;obtain⟨v,a,f⟩:=c;refine⟨v,h,?_,f⟩;unfold jl at a;cases hm:az h _ with
 |none=>rw[hm] at a;cases a
 |some s=>rw[hm] at a;cases a;simp only[eN,d,hm];rfl
 cases c;split at c;rename_i e d;split at c;rename_i i;obtain⟨⟨v,g⟩,a,f⟩:=c;refine⟨v,g,?_,f⟩;obtain⟨z,m⟩:=Option.isSome_iff_exists.1 i.2;unfold kI at a;split at a;rename_i j;simp only[eN,I6,d,j,i.1,m,Bool.not_true,Bool.false_eq_true,if_false];split at a;rename_i r;rw[r];exact a;cases a;cases a;cases c;cases c;split at c;rename_i e d;split at c;rename_i i;obtain⟨⟨v,g⟩,a,f⟩:=c;refine⟨v,g,?_,f⟩;unfold copyV at a;split at a;rename_i j;have p:(P.info? e).isNone=false:=by simp_all
 simp only[eN,d,j,p,Bool.false_eq_true,if_false];exact a;cases a;cases c;cases c;split at c;rename_i e d;split at c;rename_i z m;obtain⟨⟨v,g⟩,a,f⟩:=c;refine⟨v,g,?_,f⟩;unfold jQ at a;split at a;simp only[eN,d];exact a;simp only[eN,d,m];exact a;cases a;cases c;cases c;obtain⟨v,a,f⟩:=c;refine⟨v,h,?_,f⟩;unfold Ao at a;split at a;simp only[eN];cases a;rfl;cases a;obtain⟨v,a,f⟩:=c;refine⟨v,h,?_,f⟩;unfold Cx at a;split at a;simp only[eN];cases a;rfl;cases a;split at c;rename_i t d;split at c;rename_i e n;obtain⟨g,a,f⟩:=c;exact⟨_,g,by simp only[eN,d,sx n a];rfl,f⟩;cases c;cases c;cases c
def B7 (P:Program) (K:FuncId->List Value->Option jE) (d:Operand->Value) (h:AH) (q:Value->AH->Prop):Op->Prop
 |.store t a x=>if(P.info? t).isSome then bE (vB h (P.cellsOf t) (d a) (d x)) fun e=>q undef e else False
 |.call c=>match c.callee with
  |.builtin b=>xD P h q c.argTypes b (c.args.toList.map d)
  |.value (.func g)=>if gL P g then Ok P K (.call g (c.args.toList.map d)) h fun o e=>q o.v e else False
  |.value f=>Bc P K (d f) (c.args.toList.map d) h q
  |.invoke _ _=>False
 |.mapUpdate t m k x=>match G6 P t with
  |some _=>bE (Qf h (d m) (d k) (d x)) fun e=>q undef e
  |none=>False
 |_=>False
theorem iz {f:Value} {args:List Value} {h:AH} {q:Value->AH->Prop} (b:Bc P K f args h q):
  ∃n v c,(match f with
   |.func (.func g) first a=>if gL P g then(run P K n (.call g (first.toList++args++a.toList)) h).map fun r=>(r.1.v,r.2) else none
   |.func (.yield l) first _=>(run P K n (.round l (first.toList++args)) h).map fun r=>(r.1.v,r.2)
   |_=>none)=some (v,c)/\q v c:=by
 unfold Bc at b
 split at b
 .obtain⟨i,n,r,d,e⟩:=b;grind
 .obtain⟨n,r,d,e⟩:=b;grind
 .cases b
theorem vM {m:Operand->Value} (t:∀g,m (.func g)= .func (.func g) #[] #[]) {h:AH} {q:Value->AH->Prop} {op:Op} (b:B7 P K m h q op):
  (kindOf op= .store\/kindOf op= .call)/\∃n v i,dY P (run P K n) m h op=some (v,i)/\q v i:=by
 unfold B7 at b
 split at b
 .refine⟨.inl rfl,?_⟩;split at b
  .rename_i l;obtain⟨i,d,j⟩:=b;refine⟨0,undef,i,?_,j⟩;unfold vB at d;split at d
   .rename_i s;split at d
    .rename_i p;split at d
     .rename_i u;simp only[dY,s,K4,p,u,l,and_self,if_true,d];rfl
     .cases d
    .cases d
   .cases d
  .cases b
 .rename_i c;refine⟨.inr rfl,?_⟩;split at b
  .rename_i a;obtain⟨v,i,d,j⟩:=zH b;refine⟨0,v,i,?_,j⟩;simp only[dY,a,d]
  .rename_i a;split at b
   .rename_i p;obtain⟨n,r,d,j⟩:=b;refine⟨n,_,_,?_,j⟩;simp only[dY,a,t,p,if_true];grind
   .cases b
  .rename_i f w a;obtain⟨n,v,i,d,j⟩:=iz b;refine⟨n,v,i,?_,j⟩;simp only[dY,a];exact d
  .cases b
 .refine⟨.inl rfl,?_⟩;split at b
  .rename_i e s;obtain⟨i,d,j⟩:=b;exact⟨0,undef,i,by simp only[dY,vn s d];rfl,j⟩
  .cases b
 .cases b
def ru (l c i:Nat):Value:= .slice (some ⟨i,0,none⟩) l c
def aDq (i:Nat):Value:= .pointer (some ⟨i,0,none⟩)
def gI (i:Nat):Value:= .map (some i)
def Cn (P:Program) (d:Operand->Value) (q:nD->(Nat->Value)->Prop):Op->Prop
 |.alloc e=>match zeroOf P e with
  |some z=>q (.cells z e (0,0) true) aDq
  |none=>False
 |.box e x=>bE (mA e (d x)) fun b=>q b aDq
 |.buildSlice t len a=>match P.underlying t with
  |some (.slice e)=>(match zeroOf P e with
   |some z=>if len*P.cellsOf e<=2^24 then(match yW (fun i=>some (i*P.cellsOf e,P.cellsOf e)) d a.toList with
    |some f=>bE (oR (eK z len) f) fun l=>q (.cells l e (0,0) true) (ru len len)
    |none=>False) else False
   |none=>False)
  |_=>False
 |.makeSlice t l c=>match P.underlying t with
  |some (.slice e)=>(match zeroOf P e with
   |some z=>bE (Iz (P.bytesOf e) (d l) (d c)) fun n=>q (.cells (eK z n.2) e (0,0) true) (ru n.1 n.2)
   |none=>False)
  |_=>False
 |.makeMap _t none=>q (.map [] 0) gI
 |.makeMap t (some x)=>match P.underlying t with
  |some (.map _ _)=>∃k n,d x= .int k n/\q (.map [] 0) gI
  |_=>False
 |_=>False
theorem C2 {m:Operand->Value} {q:nD->(Nat->Value)->Prop} {op:Op} (a:Cn P m q op):kindOf op= .alloc/\∃b f,eA P m op=some (b,f)/\q b f:=by
 unfold Cn at a;split at a;refine⟨rfl,?_⟩;split at a;rename_i g;exact⟨_,_,by simp only[eA,g];rfl,a⟩;cases a;refine⟨rfl,?_⟩;obtain⟨b,c,d⟩:=a;refine⟨b,aDq,?_,d⟩;unfold mA at c;simp only[Option.map_eq_some_iff] at c;obtain⟨l,c,rfl⟩:=c;simp only[eA,c];rfl;refine⟨rfl,?_⟩;split at a;rename_i e;split at a;rename_i g;split at a;rename_i i;split at a;rename_i s j;obtain⟨l,c,d⟩:=a;refine⟨_,_,?_,d⟩;simp only[eA,e,g,i,if_true];rw[Fy j,c];rfl;cases a;cases a;cases a;cases a;refine⟨rfl,?_⟩;split at a;rename_i e;split at a;rename_i g;obtain⟨n,c,d⟩:=a;refine⟨_,_,?_,d⟩;unfold Iz at c;split at c;rename_i p r;split at c;rename_i i;cases c;simp only[eA,e,p,r,g,i,and_self,if_true];rfl;cases c;cases c;cases a;cases a;exact⟨rfl,_,_,rfl,a⟩;refine⟨rfl,?_⟩;split at a;rename_i e;obtain⟨k,n,c,d⟩:=a;exact⟨_,_,by simp only[eA,e,c];rfl,d⟩;cases a;cases a
end
end Go.Ab
end
section
namespace Go.Ab
noncomputable section
variable {P:Program} {K:FuncId->List Value->Option jE}
abbrev Og:=List (Tmp×Option Bool)
def aKb:Option Bool->Value
 |some b=> .bool b
 |none=>undef
def Og.drop (d:Og) (t:Option Tmp):Og:=match t with
 |some t=>d.filter fun x=>x.1 !=t
 |none=>d
def Og.ok (d:Og) (env:List Value):Prop:=∀t b,(t,b)∈d->env[t]?=some (aKb b)
def cm (pK:Nat->Option Tmp) (env:List Value) (dec:Og) (g:Option (Nat×Bool)) (p:Bool->List Value->Og->Prop):Prop:=
 match g with
 |none=>p true env dec
 |some (j,want)=>match pK j with
  |none=>False
  |some d=>match dec.lookup d with
   |some (some b)=>p (b==want) env dec
   |some none=>p false env dec
   |none=>Br (env.getD d undef) (p (true==want) (env.set d (.bool true)) ((d,some true)::dec)) (p (false==want) (env.set d (.bool false)) ((d,some false)::dec))
def Dv (h:AH) (b:nD) (p:Nat->AH->Prop):Prop:=p h.next (h.alloc b)
def nP (h:AH) (r:Nat) (b:nD) (p:Nat->AH->Prop):Prop:=p r (h.set r (some b))
def xF (h:AH) (n:Nat) (p:Nat->AH->Prop):Prop:=p h.next {h with next:=h.next+n}
def wpOp (P:Program) (K:FuncId->List Value->Option jE) (env:List Value) (h:AH) (q:Value->AH->Prop) (op:Op):Prop:=
 match kindOf op with
 |.zQ=>jV P (cZ P env) h (fun v=>q v h) op
 |.alloc=>Cn P (cZ P env) (fun b f=>Dv h b fun i a=>q (f i) a) op
 |.store|.call=>B7 P K (cZ P env) h q op
 |.other=>False
theorem Z1 {env:List Value} {h:AH} {q:Value->AH->Prop} {op:Op} (a:wpOp P K env h q op):∃n v e,mJ P (run P K n) env h op=some (v,e)/\q v e:=by
 unfold wpOp at a;cases hk:kindOf op with
 |zQ=>
  simp only[hk] at a;obtain⟨_,v,c,d⟩:=Da a;exact⟨0,v,h,by simp only[mJ,hk,c];rfl,d⟩
 |alloc=>
  simp only[hk] at a;obtain⟨_,b,f,c,d⟩:=C2 a;exact⟨0,_,_,by simp only[mJ,hk,c];rfl,d⟩
 |store=>
  simp only[hk] at a;obtain⟨_,n,v,e,c,d⟩:=vM (fun g=>rfl) a;exact⟨n,v,e,by simp only[mJ,hk,c],d⟩
 |call=>
  simp only[hk] at a;obtain⟨_,n,v,e,c,d⟩:=vM (fun g=>rfl) a;exact⟨n,v,e,by simp only[mJ,hk,c],d⟩
 |other=>simp only[hk] at a
def aCk (env:List Value) (d:Option Tmp):Bool:=match d with
 |some d=>decide (d<env.length)
 |none=>true
def vk (dec:Og) (op:Op):Option Operand:=match op with
 |.pick (.tmp c) a b=>(match dec.lookup c with
  |some (some true)=>some a
  |some (some false)=>some b
  |_=>none)
 |.move x=>some x
 |.assign x=>some x
 |_=>none
def rz (dec:Og) (x:Operand):Option Bool:=match x with
 |.const (.bool y)=>some y
 |.tmp t=>(match dec.lookup t with
  |some (some y)=>some y
  |_=>none)
 |_=>none
def Og.put (dec:Og) (dst:Option Tmp) (x:Operand):Og:=match dst,rz dec x with
 |some d,some y=>(d,some y)::dec.drop (some d)
 |d,_=>dec.drop d
def Og.skip (dec:Og) (env:List Value) (dst:Option Tmp):Og:=match dst with
 |some d=>if d<env.length then(d,none)::dec.drop (some d) else dec.drop (some d)
 |none=>dec
def wpOps (P:Program) (K:FuncId->List Value->Option jE) (pK:Nat->Option Tmp):List Oper->List Value->AH->Og->(List Value->AH->Og->Prop)->Prop
 |[],env,h,dec,q=>q env h dec
 |o::a,env,h,dec,q=>cm pK env dec o.guard fun b env dec=>
  match b with
  |true=>(match vk dec o.op with
   |some x=>wpOps P K pK a (jP env o.dst (cZ P env x)) h (if aCk env o.dst then dec.put o.dst x else dec.drop o.dst) q
   |none=>wpOp P K env h (fun v c=>wpOps P K pK a (jP env o.dst v) c (dec.drop o.dst) q) o.op)
  |false=>wpOps P K pK a (jP env o.dst undef) h (dec.skip env o.dst) q
def aJn (P:Program) (h:AH) (q:Value->Prop) (a:Array TypeId):Builtin->List Value->Prop
 |.len,[x]=>match(a[0]?).bind P.underlying with
  |some .string=>bE (Cy x) q
  |some (.slice _)=>bE (lJ x) q
  |some (.array n _)=>q (.int .i64 n)
  |some (.pointer e)=>(match P.underlying e with
   |some (.array n _)=>q (.int .i64 n)
   |_=>False)
  |some (.map _ _)=>bE (jl h x) q
  |_=>False
 |.min,[x,y]=>bE (Ao x y) q
 |.max,[x,y]=>bE (Cx x y) q
 |_,_=>False
def aIa (P:Program) (a:Operand->Value) (h:AH) (q:Value->Prop):Op->Prop
 |.call c=>match c.callee with
  |.builtin b=>aJn P h q c.argTypes b (c.args.toList.map a)
  |_=>False
 |op=>jV P a h q op
structure DR where
 env:List Value
 h:AH
 v:Value
 ran:Bool
def aIm (P:Program) (K:FuncId->List Value->Option jE) (r:Nat) (env:List Value) (h:AH) (q:Value->AH->Prop) (op:Op):Prop:=
 match gQ op with
 |true=>aIa P (cZ P env) h (fun v=>q v h) op
 |false=>match kindOf op with
  |.alloc=>Cn P (cZ P env) (fun b f=>nP h r b fun i a=>q (f i) a) op
  |_=>B7 P K (cZ P env) h q op
def Ji (P:Program) (K:FuncId->List Value->Option jE) (pK:Nat->Option Tmp):Nat->List Oper->List Value->AH->Og->List DR->(List DR->List Value->AH->Og->Prop)->Prop
 |_,[],env,h,dec,a,q=>q a env h dec
 |r,o::c,env,h,dec,a,q=>cm pK env dec o.guard fun b env dec=>
  match b with
  |true=>(match vk dec o.op with
   |some x=>Ji P K pK (r+1) c (jP env o.dst (cZ P env x)) h (if aCk env o.dst then dec.put o.dst x else dec.drop o.dst) (a++[⟨env,h,cZ P env x,true⟩]) q
   |none=>aIm P K r env h (fun v d=>Ji P K pK (r+1) c (jP env o.dst v) d (dec.drop o.dst) (a++[⟨env,h,v,true⟩]) q) o.op)
  |false=>Ji P K pK (r+1) c (jP env o.dst undef) h (dec.skip env o.dst) (a++[⟨env,h,undef,false⟩]) q
def aGd (P:Program) (all:List Oper) (rs:List DR) (hEnd:AH):List (Nat×Nat)->Prop->Prop
 |[],p=>p
 |(i,s)::a,p=>match all[i]? with
  |some o=>(match rs[i]? with
   |some r=>(match r.ran with
    |true=>aIa P (cZ P r.env) (match rs[s]? with|some q=>q.h|none=>hEnd) (fun v=>oI v r.v=true) o.op/\aGd P all rs hEnd a p
    |false=>aGd P all rs hEnd a p)
   |none=>False)
  |none=>False
def aDo (P:Program) (K:FuncId->List Value->Option jE) (ops:Array Oper) (env:List Value) (h:AH) (q:List Value->AH->Og->Prop):Prop:=
 if Hb ops.toList&&(P.follows .mixedOrders|| !Region.departs ops) then
  xF h ops.size fun r c=>Ji P K (fun j=>(ops[j]?).bind (·.dst)) r ops.toList env c [] [] fun d a b dec=>aGd P ops.toList d b (Dm ops.toList) (q a b dec)
 else False
end
end Go.Ab
end
section
namespace Go.Ab
noncomputable section
variable {P:Program} {K:FuncId->List Value->Option jE}
section
variable {fn:FuncId} {ro:Option Nat} {ds:List Nat} {env:List Value} {k:List Item} {h:AH} {Q:Out->AH->Prop}
theorem Fu {t t':Task} {h':AH} (c:∀n,run P K (n+1) t h=run P K n t' h') (d:Ok P K t' h' Q):Ok P K t h Q:=by
 obtain⟨n,r,a,b⟩:=d;exact⟨n+1,r,by rw[c];exact a,b⟩
theorem R1 {c:Operand} {t e:Code} (g:Br (cZ P env c) (Ok P K (.todo fn ro ds env (.code t::k)) h Q) (Ok P K (.todo fn ro ds env (.code e::k)) h Q)):
  Ok P K (.todo fn ro ds env (.code (.cond c t e)::k)) h Q:=by
 obtain⟨b,a,f,d⟩:=g
 cases b with
 |true=>exact Fu (t':= .todo fn ro ds env (.code t::k)) (fun n=>by show dU _ _ _ _ _ _ _ _=_;simp only[dU,a,if_true]) (f rfl)
 |false=>exact Fu (t':= .todo fn ro ds env (.code e::k)) (fun n=>by show dU _ _ _ _ _ _ _ _=_;simp[dU,a]) (d rfl)
end
def lI (h:AH) (l:Nat):Option AH:=match h.get l with
 |some (.loop .ready _ _ _ _ _ _ _)=>cS h l .busy none
 |_=>none
def uF (h:AH) (l:Nat):Option (Option Code×AH):=match h.get l with
 |some (.loop st p _ _ _ _ _ _)=>if st= .busy then none else(cS h l .exhausted none).map fun a=>(p,a)
 |_=>none
def iQ (h:AH) (l:Nat):Option Nat:=match h.get l with
 |some (.loop _ _ _ _ _ _ _ d)=>some d
 |_=>none
def Xb (P:Program) (K:FuncId->List Value->Option jE) (f:Value) (l:Nat) (h:AH) (q:Value->AH->Prop):Prop:=match f with
 |.func (.func g) first a=>gL P g=true/\Ok P K (.call g (first.toList++[.func (.yield l) #[] #[]]++a.toList)) h fun o b=>q o.v b
 |_=>False
def qM:Code->Option Nat
 |.region id _ _=>some id
 |.seq a b=>(match qM a with
  |some r=>some r
  |none=>qM b)
 |.block _ b=>qM b
 |.loop b=>qM b
 |.scope b=>qM b
 |_=>none
def keyOf:List Item->Option Nat
 |.code c::k=>(match qM c with
  |some r=>some r
  |none=>keyOf k)
 |.inLoop c::k=>(match qM c with
  |some r=>some r
  |none=>keyOf k)
 |_::k=>keyOf k
 |[]=>none
def jM:Code->List Nat
 |.exit id=>[id]
 |.seq a b=>jM a++jM b
 |.cond _ t e=>jM t++jM e
 |.block id b=>(jM b).filter (·!=id)
 |.loop b=>jM b
 |.scope b=>jM b
 |.rangeFunc _ _ a b=>jM a++jM b
 |_=>[]
def uL (p:Option Code) (a b:Prop) (c:List (Nat×Prop)):Prop:=match p with
 |none=>a
 |some .ret=>b
 |some (.exit id)=>(match c.lookup id with
  |some q=>q
  |none=>False)
 |_=>False
def J0 (P:Program) (K:FuncId->List Value->Option jE) (fn:FuncId) (f:Value) (n:Nat) (lv:List Nat) (vs:List Value) (ps:Array Tmp) (assign a:Code) (d:Nat) (h:AH) (q:Option Code->AH->Prop):Prop:=
 ∀e:Nat->Value,lv.map e=vs->Dv h (.loop .ready none fn ((List.range n).map e) ps assign a d) fun l b=>Xb P K f l b fun _ c=>bE (uF c l) fun r=>q r.1 r.2
def Q9 (L:List (Option Nat×List Nat)) (k:List Item):List Nat:=(L.lookup (keyOf k)).getD []
def nN:Nat->List Item->List Item
 |0,k=>k
 |n+1,k=>match k with
  |.code c::d=>(match c with
   |.skip=>nN n d
   |.label _=>nN n d
   |.seq a b=>nN n (.code a:: .code b::d)
   |.block id b=>nN n (.code b:: .inBlock id::d)
   |.scope b=>nN n (.code b:: .inScope b::d)
   |.loop b=>nN n (.code b:: .inLoop b::d)
   |.exit id=>(match exitTo id d with
    |some e=>nN n e
    |none=>k)
   |_=>k)
  |.inBlock _::d=>nN n d
  |.inScope _::d=>nN n d
  |.inLoop b::d=>nN n (.code b:: .inLoop b::d)
  |_=>k
def aD0:List Item->Bool
 |[]=>true
 |.code .ret::_=>true
 |.code (.exit _)::_=>true
 |_=>false
def short (k:List Item):Bool:=match nN 60 k with
 |.code (.region _ _ _)::a=>aD0 (nN 60 a)
 |a=>aD0 a
def N3 (P:Program) (K:FuncId->List Value->Option jE) (E:List Nat->List Value->List Item->AH->Prop) (F:xG->List Nat->List Value->AH->Prop) (L:List (Option Nat×List Nat)) (fn:FuncId) (ro:Option Nat):
  Nat->Og->List Nat->List Value->List Item->AH->Prop
 |0,_,ds,env,k,h=>E ds env k h
 |n+1,dec,ds,env,k,h=>
  match k with
  |[]=>F .jT ds env h
  |.code c::k=>
   (match c with
   |.skip=>N3 P K E F L fn ro n dec ds env k h
   |.label _=>N3 P K E F L fn ro n dec ds env k h
   |.seq a b=>N3 P K E F L fn ro n dec ds env (.code a:: .code b::k) h
   |.cond c t e=>(match rz dec c with
    |some true=>N3 P K E F L fn ro n dec ds env (.code t::k) h
    |some false=>N3 P K E F L fn ro n dec ds env (.code e::k) h
    |none=>Br (cZ P env c)
     (match short (.code t::k) with
     |true=>N3 P K E F L fn ro n dec ds env (.code t::k) h
     |false=>E ds env (nN 60 (.code t::k)) h)
     (match short (.code e::k) with
     |true=>N3 P K E F L fn ro n dec ds env (.code e::k) h
     |false=>E ds env (nN 60 (.code e::k)) h))
   |.block id b=>N3 P K E F L fn ro n dec ds env (.code b:: .inBlock id::k) h
   |.loop b=>E ds env (nN 60 (.code b:: .inLoop b::k)) h
   |.scope b=>N3 P K E F L fn ro n dec ds env (.code b:: .inScope b::k) h
   |.exit id=>(match exitTo id k with
    |some u=>N3 P K E F L fn ro n dec ds env u h
    |none=>if ro.isSome then F (.exit id) ds env h else False)
   |.ret=>F .ret ds env h
   |.region _ ops false=>wpOps P K (fun j=>(ops[j]?).bind (·.dst)) ops.toList env h dec fun q i m=>N3 P K E F L fn ro n m ds q k i
   |.region _ ops true=>aDo P K ops env h fun q i m=>N3 P K E F L fn ro n m ds q k i
   |.rangeFunc f r assign g=>
    (match ro with
    |none=>Dv h (.marks true) fun d s=>J0 P K fn (cZ P env f) env.length (Q9 L [.code assign,.beginRound,.code g]) ((Q9 L [.code assign,.beginRound,.code g]).map fun t=>env.getD t undef) r assign g d s fun p i=>
      uL p (N3 P K E F L fn ro n dec (d::ds) env k i) (N3 P K E F L fn ro n dec (d::ds) env (.code .ret::k) i) ((jM g).map fun id=>(id,N3 P K E F L fn ro n dec (d::ds) env (.code (.exit id)::k) i))
    |some l=>bE (iQ h l) fun d=>J0 P K fn (cZ P env f) env.length (Q9 L [.code assign,.beginRound,.code g]) ((Q9 L [.code assign,.beginRound,.code g]).map fun t=>env.getD t undef) r assign g d h fun p i=>
      uL p (N3 P K E F L fn ro n dec ds env k i) (N3 P K E F L fn ro n dec ds env (.code .ret::k) i) ((jM g).map fun id=>(id,N3 P K E F L fn ro n dec ds env (.code (.exit id)::k) i)))
   |_=>False)
  |.inBlock _::k=>N3 P K E F L fn ro n dec ds env k h
  |.inScope _::k=>N3 P K E F L fn ro n dec ds env k h
  |.inLoop b::k=>E ds env (nN 60 (.code b:: .inLoop b::k)) h
  |.beginRound::k=>
   (match ro with
   |some l=>bE (lI h l) fun i=>N3 P K E F L fn ro n dec ds env k i
   |none=>False)
  |_=>False
theorem Oo {env:List Value} {n:Nat} (h:env.length=n):(List.range n).map (fun t=>env.getD t undef)=env:=by
 refine List.ext_getElem? fun i=>?_;grind
theorem a7 {l:List Nat} {f:Nat->Prop} {id:Nat} {q:Prop} (h:(l.map fun i=>(i,f i)).lookup id=some q):q=f id:=by
 induction l with
 |nil=>simp at h
 |cons i l a=>
  grind
theorem Kt {fn:FuncId} {f:Value} {env:List Value} {lv:List Nat} {ps:Array Tmp} {assign b:Code} {d:Nat} {h:AH} {q:Option Code->AH->Prop}
  (i:J0 P K fn f env.length lv (lv.map fun t=>env.getD t undef) ps assign b d h q):
  ∃n g first a o c p e,f= .func (.func g) first a/\gL P g=true/\run P K n (.call g (first.toList++[.func (.yield h.next) #[] #[]]++a.toList)) (h.alloc (.loop .ready none fn env ps assign b d))=some (o,c)/\
   uF c h.next=some (p,e)/\q p e:=by
 have:=i (fun t=>env.getD t undef) rfl
 rw[Oo rfl] at this
 unfold Dv Xb at this
 split at this
 .rename_i g first a
  obtain⟨m,n,r,j,⟨p,e⟩,l,c⟩:=this
  grind
 .cases this
theorem Lr {fn:FuncId} {ro:Option Nat} {ds:List Nat} {env:List Value} {h:AH} {Q:Out->AH->Prop}:∀(n:Nat) {k:List Item},Ok P K (.todo fn ro ds env (nN n k)) h Q->Ok P K (.todo fn ro ds env k) h Q
 |0,_,a=>a
 |n+1,k,a=>by
  have st:∀{k':List Item},Ok P K (.todo fn ro ds env (nN n k')) h Q->(∀m,run P K (m+1) (.todo fn ro ds env k) h=run P K m (.todo fn ro ds env k') h)->Ok P K (.todo fn ro ds env k) h Q:=
   fun a b=>Fu b (Lr n a)
  unfold nN at a;split at a;split at a;exact st a fun _=>rfl;exact st a fun _=>rfl;exact st a fun _=>rfl;exact st a fun _=>rfl;exact st a fun _=>rfl;exact st a fun _=>rfl;split at a;rename_i c;refine st a fun m=>?_;show dU P (run P K m) _ _ _ _ _ _=_;simp only[dU,c];exact a;exact a;exact st a fun _=>rfl;exact st a fun _=>rfl;exact st a fun _=>rfl;exact a
def Y7 (P:Program) (f:FuncId) (Q:Value->AH->Prop):Out->AH->Prop:=fun o b=>
 match o.leave with
 |.exit _=>False
 |_=>bE (cB o.ds b) fun a=>bE (fQ P a o.env ((P.funcs[f]?).elim [] fun fn=>fn.results.toList)) fun c=>Q (oneOf c) a
theorem zf {f:FuncId} {fn:Func} {a:Code} {args:List Value} {h:AH} {Q:Value->AH->Prop} (i:P.funcs[f]?=some fn) (hb:fn.body=some a) (p:K f args=none)
  (r:Ok P K (.todo f none [] (args++List.replicate (fn.ntmps - args.length) undef) [.code a]) h (Y7 P f Q)):Ok P K (.call f args) h fun o c=>Q o.v c:=by
 obtain⟨n,⟨o,g⟩,l,b⟩:=r
 simp only at b
 have s:(∀id,o.leave≠.exit id)->(bE (cB o.ds g) fun b=>bE (fQ P b o.env ((P.funcs[f]?).elim [] fun fn=>fn.results.toList)) fun e=>Q (oneOf e) b)->Ok P K (.call f args) h fun o c=>Q o.v c:=by
  intro d ⟨m,t,e,j,q⟩;rw[i] at j;simp only[Option.elim_some] at j;refine⟨n+1,(⟨.jT,[],[],oneOf e⟩,m),?_,q⟩;show jX P K (run P K n) f args h=_;simp only[jX,p,i,hb];rw[l];cases hlv:o.leave with
  |exit id=>exact absurd hlv (d id)
  |jT=>grind
  |ret=>grind
 unfold Y7 at b
 grind
def Pt (P:Program) (K:FuncId->List Value->Option jE) (fn:FuncId) (ro:Option Nat) (Q:Out->AH->Prop) (n:Nat) (lv:List Nat) (k:List Item) (ds:List Nat) (vs:List Value) (h:AH):Prop:=
 ∀e:Nat->Value,lv.map e=vs->Ok P K (.todo fn ro ds ((List.range n).map e) k) h Q
def Q0 (P:Program) (h:AH) (env:List Value):List ResultVar->(List Value->Prop)->Prop
 |[],p=>p []
 |.tmp t::b,p=>Q0 P h env b fun l=>p (env.getD t undef::l)
 |.cell a t::b,p=>match jS P t with
  |some true=>bE (vO h (P.cellsOf t) (env.getD a undef)) fun v=>Q0 P h env b fun l=>p (v::l)
  |some false=>bE (rT h (env.getD a undef)) fun v=>Q0 P h env b fun l=>p (v::l)
  |none=>False
theorem tX {h:AH} {env:List Value}:∀{rs:List ResultVar} {p:List Value->Prop},Q0 P h env rs p->∃l,fQ P h env rs=some l/\p l
 |[],p,b=>⟨[],rfl,b⟩
 |.tmp t::rs,p,b=>by
  obtain⟨l,c,d⟩:=tX (rs:=rs) b;exact⟨_,by simp only[fQ,c];rfl,d⟩
 |.cell a t::rs,p,b=>by
  simp only[Q0] at b;split at b;rename_i f;obtain⟨v,c,b⟩:=b;obtain⟨l,d,e⟩:=tX (rs:=rs) b;refine⟨v::l,?_,e⟩;unfold vO at c;split at c;rename_i x g;have i:tS P h t x=some v:=by unfold tS;rw[f];exact c
  simp only[fQ,g,i,d];cases c;rename_i f;obtain⟨v,c,b⟩:=b;obtain⟨l,d,e⟩:=tX (rs:=rs) b;refine⟨v::l,?_,e⟩;unfold rT at c;split at c;rename_i x g;have i:tS P h t x=some v:=by unfold tS;rw[f];exact c
  simp only[fQ,g,i,d];cases c;cases b
def aDp (P:Program) (f:FuncId) (Q:Value->AH->Prop) (lv:xG) (ds:List Nat) (env:List Value) (h:AH):Prop:=match lv with
 |.exit _=>False
 |_=>bE (cB ds h) fun a=>Q0 P a env ((P.funcs[f]?).elim [] fun fn=>fn.results.toList) fun l=>Q (oneOf l) a
theorem Z4 {f:FuncId} {Q:Value->AH->Prop} {lv:xG} {ds:List Nat} {env:List Value} {h:AH} (a:aDp P f Q lv ds env h):Y7 P f Q ⟨lv,ds,env,undef⟩ h:=by
 unfold aDp at a;unfold Y7;cases lv with
 |exit id=>exact a
 |jT=>obtain⟨b,e,a⟩:=a;obtain⟨l,c,d⟩:=tX a;simp_all
 |ret=>obtain⟨b,e,a⟩:=a;obtain⟨l,c,d⟩:=tX a;simp_all
theorem su {f:FuncId} {args:List Value} {v:Value} {h:AH} {Q:Value->AH->Prop} (b:K f args=some (.val v)) (c:Q v h):Ok P K (.call f args) h fun o a=>Q o.v a:=
 ⟨1,(⟨.jT,[],[],v⟩,h),by show jX _ _ _ _ _ _=_;simp only[jX,b],c⟩
def F2 (l:Nat) (Q:Value->AH->Prop):Out->AH->Prop:=fun o b=>
 o.ds=[]/\match o.leave with
 |.jT=>bE (cS b l .ready (some none)) fun a=>Q (.bool true) a
 |.ret=>bE (cS b l .done (some (some .ret))) fun a=>Q (.bool false) a
 |.exit id=>bE (cS b l .done (some (some (.exit id)))) fun a=>Q (.bool false) a
theorem xb {l:Nat} {args:List Value} {h:AH} {st:LoopState} {p:Option Code} {fn:FuncId} {b:List Value} {ps:Array Tmp} {assign a:Code} {d:Nat} {Q:Value->AH->Prop}
  (u:h.get l=some (.loop st p fn b ps assign a d)) (w:args.length=ps.size)
  (y:Ok P K (.todo fn (some l) [] ((ps.toList.zip args).foldl (fun t (p,v)=>t.set p v) b) [.code assign,.beginRound,.code a]) h (F2 l Q)):Ok P K (.round l args) h fun o j=>Q o.v j:=by
 obtain⟨n,r,A,c,f⟩:=y
 obtain⟨o,m⟩:=r
 simp only at c f
 have z:∀i e,(match o.leave with
     |.jT=>(cS m l .ready (some none)).map fun c=>((⟨.jT,[],[],.bool true⟩:Out),c)
     |.ret=>(cS m l .done (some (some .ret))).map fun c=>(⟨.jT,[],[],.bool false⟩,c)
     |.exit id=>(cS m l .done (some (some (.exit id)))).map fun c=>(⟨.jT,[],[],.bool false⟩,c))=some (i,e)->Q i.v e->Ok P K (.round l args) h fun o j=>Q o.v j:=by
  intro i e C x
  refine⟨n+1,(i,e),?_,x⟩
  show nM (run P K n) l args h=_
  simp only[nM,u,w,if_true]
  grind
 split at f
 .rename_i g;obtain⟨e,q,s⟩:=f;grind
 .rename_i g;obtain⟨e,q,s⟩:=f;grind
 .rename_i g;obtain⟨e,q,s⟩:=f;grind
def Ra (l:Nat) (Q:Value->AH->Prop) (lv:xG) (ds:List Nat) (_b:List Value) (h:AH):Prop:=match ds with
 |[]=>(match lv with
  |.jT=>bE (cS h l .ready (some none)) fun a=>Q (.bool true) a
  |.ret=>bE (cS h l .done (some (some .ret))) fun a=>Q (.bool false) a
  |.exit id=>bE (cS h l .done (some (some (.exit id)))) fun a=>Q (.bool false) a)
 |_=>False
theorem S1 {l:Nat} {Q:Value->AH->Prop} {lv:xG} {ds:List Nat} {env:List Value} {h:AH} (a:Ra l Q lv ds env h):F2 l Q ⟨lv,ds,env,undef⟩ h:=by
 unfold Ra at a;cases ds with
 |nil=>refine⟨rfl,?_⟩;cases lv<;>exact a
 |cons d ds=>exact a.elim
end
end Go.Ab
end
section
namespace Go.Ab
noncomputable section
open Go.RowKit
variable {P:Program} {K:FuncId->List Value->Option jE}
def start (base:Nat) (old:Nat->Option nD):AH:={base:=base,next:=base,old:=old,new:= .lf}
theorem wU {a:Nat} {old:Nat->Option nD} (i:Nat):(start a old).get i=if i<a then old i else none:=by
 rw[AH.get_eq];unfold start;split;rfl;cases i - a<;>rfl
structure Reads (P:Program) (base:Nat) (old:Nat->Option nD) (ρ:iT) (w:World):Prop where
 sA:∀i o,i<base->old i=some o->∀b s,ρ i=some (b,s)->∃o',w.heap[b]?=some o'/\uO P ρ s o o'
 low:∀i b s,i<base->ρ i=some (b,s)->b<w.heap.size
 none:∀i,base<=i->ρ i=none
 qL:∀g,g<P.globals.size->ρ g=some (g,(0,0))
theorem Reads.inv {a:Nat} {old:Nat->Option nD} {ρ:iT} {w:World} (r:Reads P a old ρ w):Inv P w.heap.size ρ (start a old) w where
 sA:=fun i o d b s e=>by
  rw[wU] at d;split at d;rename_i c;exact r.sA i o c d b s e;cases d
 inj:=fun i j b f g c _ gi=>by
  rw[wU,aLa (Nat.not_lt.2 (show a<=_ from c))] at gi;cases gi
 low:=fun i b s c gi=>by
  rw[wU,aLa (Nat.not_lt.2 (show a<=_ from c))] at gi;cases gi
 old:=fun i b s c e=>r.low i b s c e
 fresh:=fun i c=>r.none i c
 iK:=fun i c=>by rw[wU,aLa (Nat.not_lt.2 (show a<=_ from c))]
 qL:=r.qL
 size:=Nat.le_refl _
 bn:=Nat.le_refl _
theorem Jz {w:World} (C:Ctx P w.heap.size K) (t:C.G w) {a:Nat} {old:Nat->Option nD} {ρ:iT} (r:Reads P a old ρ w) {f:FuncId} {args args':List Value} (q:aY ρ args args') {Q:Out->AH->Prop}
  (i:Ok P K (.call f args) (start a old) Q):
  Calls P f ⟨args'⟩ w fun e g=>∃ρ' o c d,e= .returned d/\aF ρ' o.v d/\Q o c/\Inv P w.heap.size ρ' c g/\Below w.heap.size w g:=by
 obtain⟨n,⟨o,c⟩,v,u⟩:=i
 intro j
 obtain⟨e,g,fr,⟨ρ',d,s,x,b⟩,l,m,p⟩:=ki C n (.call f args) _ o c v ρ w args' r.inv t q j
 exact⟨e,g,fr,⟨ρ',o,c,d,s,x,u,b.inv,b.below r.inv⟩,l,m,p⟩
def Ctx.empty (P:Program) (B:Nat):Ctx P B (fun _ _=>none) where
 G:=fun _=>True
 E6:=fun _ _ _ _=>trivial
 call:=fun _ _ _ _ h=>by cases h
 fwd:=fun _ _ _ _ h=>by cases h
 host:=fun _ _ _ h=>by cases h
def kn (K:FuncId->List Value->Option jE) (f0:FuncId) (v0:Value):FuncId->List Value->Option jE:=fun f a=>if f=f0/\a.isEmpty=true then some (.val v0) else K f a
def Ctx.add {B:Nat} (C:Ctx P B K) (f0:FuncId) (v0:Value) (n:dP v0=true) (h:∀w,C.G w->Calls P f0 #[] w fun e d=>e= .returned v0/\Below w.heap.size w d):Ctx P B (kn K f0 v0) where
 G:=C.G
 E6:=C.E6
 call:=fun f a v w b c=>by
  unfold kn at b;split at b;rename_i l;cases b;obtain⟨rfl,p⟩:=l;have:a=[]:=by grind
  subst this;exact⟨rfl,(h w c).mono fun e d ⟨m,j⟩=>⟨⟨v0,m,fun ρ=>iB v0 n⟩,j⟩⟩;exact C.call f a v w b c
 fwd:=fun f a g i b=>by
  unfold kn at b;split at b;cases b;exact C.fwd f a g i b
 host:=fun f a F b=>by
  unfold kn at b;split at b;cases b;exact C.host f a F b
theorem Y8 {P:Program} {f:FuncId} {args:Array Value} {v:Value} {w:World} (g:dP v=true) (h:Calls P f args w fun e a=>e= .returned v/\Below w.heap.size w a):
  Calls P f args w fun e a=>(∃b,e= .returned b/\∀ρ,aF ρ v b)/\Below w.heap.size w a:=
 h.mono fun _ _ ⟨d,c⟩=>⟨⟨v,d,fun _=>iB v g⟩,c⟩
theorem W2 {f:FuncId} {n:Nat} {v:Value} {a:Nat} {old:Nat->Option nD} (m:dP v=true)
  (b:((run P K n (.call f []) (start a old)).any fun r=>oI r.1.v v)=true) {w:World} (C:Ctx P w.heap.size K) (l:C.G w) {ρ:iT} (r:Reads P a old ρ w):
  Calls P f #[] w fun e g=>e= .returned v/\Below w.heap.size w g:=by
 rw[Option.any_eq_true] at b
 obtain⟨⟨o,q⟩,b,c⟩:=b
 have c:=Gx _ _ c
 have:=Jz (Q:=fun o _=>o.v=v) C l r (args:=[]) (args':=[]) rfl ⟨n,_,b,c⟩
 intro i
 obtain⟨e,g,fr,⟨ρ',y,s,p,t,d,j,_,u⟩,x⟩:=this i
 rw[j] at d
 have:=wW v p m d
 grind
end
end Go.Ab
end
section
namespace Go.Ab
noncomputable section
structure En where
 n:Nat
 t:Tr Value
def En.get (e:En) (i:Nat):Value:=En.rec (motive:=fun _=>Value) (fun n t=>Bool.rec (motive:=fun _=>Value) undef (t.get undef i) (Nat.blt i n)) e
def En.opt (e:En) (i:Nat):Option Value:=En.rec (motive:=fun _=>Option Value) (fun n t=>Bool.rec (motive:=fun _=>Option Value) none (some (t.get undef i)) (Nat.blt i n)) e
def En.set (e:En) (i:Nat) (v:Value):En:=En.rec (motive:=fun _=>En) (fun n t=>Bool.rec (motive:=fun _=>En) (En.mk n t) (En.mk n (t.set undef i v)) (Nat.blt i n)) e
def En.yP (e:En):List Value:=(List.range e.n).map fun i=>e.t.get undef i
def Q5:List Value->Nat->Tr Value->Tr Value
 |[],_,t=>t
 |v::l,i,t=>Q5 l (i+1) (t.set undef i v)
def En.of (l:List Value) (k:Nat):En:=⟨l.length+k,Q5 l 0 .lf⟩
theorem En.K7 (e:En) (i:Nat):e.opt i=e.yP[i]?:=by
 obtain⟨n,t⟩:=e;simp only[En.opt,En.yP];cases h:Nat.blt i n with
 |true=>
  have:i<n:=by simpa [Nat.blt_eq] using h
  simp[this]
 |false=>
  have:¬i<n:=by rw[<-Nat.blt_eq,h];simp
  simp[this]
theorem En.get_eq (e:En) (i:Nat):e.get i=e.yP.getD i undef:=by
 rw[List.getD_eq_getElem?_getD,<-En.K7];obtain⟨n,t⟩:=e;simp only[En.get,En.opt];cases Nat.blt i n<;>rfl
theorem En.Hl (e:En) (i:Nat) (v:Value):(e.set i v).yP=e.yP.set i v:=by
 apply List.ext_getElem?;intro j;rw[List.getElem?_set,<-En.K7,<-En.K7];obtain⟨n,t⟩:=e;have c:(En.yP ⟨n,t⟩).length=n:=by simp[En.yP]
 rw[c];simp only[En.set];cases h:Nat.blt i n with
 |true=>
  have b:i<n:=by simpa [Nat.blt_eq] using h
  simp only[En.opt,Tr.iX];by_cases a:i=j;subst a;simp[h,b];simp[a,Ne.symm a]
 |false=>
  have b:¬i<n:=by rw[<-Nat.blt_eq,h];simp
  by_cases a:i=j;subst a;simp[En.opt,h,b];simp[a]
theorem Nf:∀(l:List Value) (i:Nat) (t:Tr Value) (m:Nat),(Q5 l i t).get undef m=if i<=m/\m<i+l.length then l.getD (m - i) undef else t.get undef m
 |[],i,t,m=>by
  rw[aLa (by simp)];rfl
 |v::l,i,t,m=>by
  simp only[Q5];rw[Nf l (i+1) _ m,Tr.iX];simp only[List.length_cons];by_cases a:m=i;subst a;rw[aLa (by omega),aLb rfl,aLb (by omega)];simp;rw[aLa a];by_cases b:i+1<=m/\m<i+1+l.length;rw[aLb b,aLb (by omega),show m - i=(m - (i+1))+1 by omega];simp;rw[aLa b,aLa (by omega)]
theorem En.of_eq (l:List Value) (k:Nat):(En.of l k).yP=l++List.replicate k undef:=by
 apply List.ext_getElem?;intro j;rw[<-En.K7];unfold En.of En.opt;simp only[Nf,Tr.Ms];cases h:Nat.blt j (l.length+k) with
 |true=>
  have b:j<l.length+k:=by simpa [Nat.blt_eq] using h
  by_cases a:j<l.length;rw[aLb (by omega),List.getElem?_append_left a];simp[a];rw[aLa (by omega),List.getElem?_append_right (by omega),List.getElem?_replicate,aLb (by omega)]
 |false=>
  have b:¬j<l.length+k:=by rw[<-Nat.blt_eq,h];simp
  rw[List.getElem?_eq_none (by simp;omega)]
inductive Uo where
 |todo (fn:FuncId) (ro:Option Nat) (ds:List Nat) (env:En) (k:List Item)
 |ops (all:Array Oper) (rest:List Oper) (env:En)
 |call (f:FuncId) (args:List Value)
 |round (l:Nat) (args:List Value)
structure N8 where
 leave:xG
 ds:List Nat
 env:En
 v:Value
def Xd:En:=⟨0,.lf⟩
abbrev rX:=Uo->AH->Option (N8×AH)
def aBn:Uo->Task
 |.todo fn ro ds env k=> .todo fn ro ds env.yP k
 |.ops all rest env=> .ops all rest env.yP
 |.call f a=> .call f a
 |.round l a=> .round l a
def aC0 (o:N8):Out:=⟨o.leave,o.ds,o.env.yP,o.v⟩
def xE (r:N8×AH):Out×AH:=(aC0 r.1,r.2)
def Hf (R':rX) (R:jG):Prop:=∀t h,R (aBn t) h=(R' t h).map xE
def aJh (v:Value):Value:=if dP v then v else top
def aJa (P:Program) (g:Nat):Value:=if g<P.globals.size then .pointer (some ⟨g,0,none⟩) else top
def aK6 (f:Nat):Value:= .func (.func f) #[] #[]
def cA (P:Program) (env:En) (x:Operand):Value:=Operand.rec (motive:=fun _=>Value) (En.get env) aJh (aJa P) aK6 x
theorem wX (P:Program) (env:En):cA P env=cZ P env.yP:=by
 funext x;cases x<;>first|rfl|exact En.get_eq _ _
def zO (env:En) (d:Option Tmp) (v:Value):En:=Option.rec (motive:=fun _=>En) env (fun d=>env.set d v) d
theorem Mx (env:En) (d:Option Tmp) (v:Value):(zO env d v).yP=jP env.yP d v:=by
 cases d;rfl;exact En.Hl _ _ _
def aId (want:Bool) (x:Option Value):Option Bool:=
  match x with
  |some (.bool b)=>some (b==want)
  |some (.chan _)=>none
  |_=>some false
def aBj {α:Type} (l:List α):Nat->Option α:=List.rec (motive:=fun _=>Nat->Option α) (fun _=>none) (fun a _ b n=>Nat.rec (motive:=fun _=>Option α) (some a) (fun n _=>b n) n) l
theorem Rs {α:Type}:∀(l:List α) (n:Nat),aBj l n=l[n]?
 |[],_=>rfl
 |_::_,0=>rfl
 |a::l,n+1=>by
  show aBj l n=_;rw[Rs l n];rfl
def aEv (all:Array Oper) (env:En) (g:Nat×Bool):Option Bool:=aId g.2 (((aBj all.toList g.1).bind (·.dst)).bind (fun d=>env.opt d))
def nO (all:Array Oper) (env:En) (o:Oper):Option Bool:=Option.rec (motive:=fun _=>Option Bool) (some true) (aEv all env) o.guard
theorem Bh (all:Array Oper) (env:En) (o:Oper):nO all env o=eC all env.yP o:=by
 unfold nO eC;cases o.guard with
 |none=>rfl
 |some g=>
  obtain⟨j,want⟩:=g;show aEv all env (j,want)=_;unfold aEv aId;simp only[En.K7,Rs,Array.getElem?_toList];rfl
def R5 (_:Program) (a:Operand->Value) (_:AH) (x:Operand):Option Value:=some (a x)
def Ht (_:Program) (a:Operand->Value) (_:AH) (x:Operand):Option Value:=some (a x)
def R7 (_:Program) (d:Operand->Value) (_:AH) (c a b:Operand):Option Value:=match d c with
  |.bool t=>some (if t then d a else d b)
  |_=>none
def Lm (P:Program) (b:Operand->Value) (_:AH) (t:TypeId) (a:Array (Nat×Operand)):Option Value:=Hw P t (a.toList.map fun p=>(p.1,b p.2))
def R6 (P:Program) (b:Operand->Value) (h:AH) (t:TypeId) (a:Operand):Option Value:=match b a with
  |.pointer (some a)=>tS P h t a
  |_=>none
def Bi (_:Program) (c:Operand->Value) (_:AH) (x:Operand):Option Value:=match c x with
  |.pointer (some a)=>some (.pointer (some a))
  |.func (.func f) a b=>some (.func (.func f) a b)
  |.func (.yield f) a b=>some (.func (.yield f) a b)
  |_=>none
def My (P:Program) (a:Operand->Value) (_:AH) (op:BinOp) (t:TypeId) (x y:Operand):Option Value:=Tb P op t x y (a x) (a y)
def Rq (_:Program) (a:Operand->Value) (_:AH) (op:UnOp) (x:Operand):Option Value:=match op,a x with
  |.neg,.int k n=>some (.int k (k.wrap (0 - n)))
  |.not,.bool b=>some (.bool !b)
  |_,_=>none
def Eh (P:Program) (a:Operand->Value) (h:AH) (s d:TypeId) (x:Operand):Option Value:=match P.underlying s,P.underlying d,a x with
  |some _,some (.int k),.int _ n=>some (.int k (k.wrap n))
  |some .string,some .string,.string z=>some (.string z)
  |some (.slice e),some .string,v=>(match P.underlying e with
   |some (.int .u8)=>strOf h v
   |_=>none)
  |_,_,_=>none
def qH (P:Program) (a:Operand->Value) (_:AH) (t:TypeId) (x:Operand):Option Value:=match P.underlying t with
  |some (.interface _)=>none
  |some _=>some (.iface t (a x))
  |none=>none
def Bs (_:Program) (a:Operand->Value) (_:AH) (fn:Fn) (first captured:Array Operand):Option Value:=match fn with
  |.func f=>some (.func (.func f) (first.map a) (captured.map a))
  |_=>none
def Jw (P:Program) (a:Operand->Value) (h:AH) (t:TypeId) (x:Operand) (c b d:Option Operand):Option Value:=uH P h t (a x) (c.map a) (b.map a) (d.map a)
def xX (P:Program) (b:Operand->Value) (_:AH) (s:TypeId) (x:Operand) (f:Nat):Option Value:=match P.underlying s,b x with
  |some (.struct c),.pointer (some a)=>match c[f]? with
   |some fd=>if P.cellsOf fd.type=0 then none else some (.pointer (some (a.add fd.offset)))
   |none=>none
  |_,_=>none
def Kc (P:Program) (b:Operand->Value) (_:AH) (t:TypeId) (x:Operand) (f:Nat):Option Value:=match P.underlying t,b x with
  |some (.struct c),.agg a=>match c[f]? with
   |some fd=>apart P fd.type a.toList fd.offset
   |none=>none
  |_,_=>none
def xR (P:Program) (b:Operand->Value) (_:AH) (t:TypeId) (x i:Operand):Option Value:=match P.underlying t,b x,b i with
  |some (.array n e),.pointer (some a),.int _ i=>if 0<=i/\i<n/\(P.info? e).isSome then some (.pointer (some (a.add (i.toNat*P.cellsOf e)))) else none
  |some (.slice e),.slice (some a) n _,.int _ i=>if 0<=i/\i<n/\(P.info? e).isSome/\a.spot=none then some (.pointer (some (a.add (i.toNat*P.cellsOf e)))) else none
  |_,_,_=>none
def Ju (P:Program) (a:Operand->Value) (_:AH) (t:TypeId) (x i:Operand):Option Value:=match P.underlying t,a x,a i with
  |some (.array n e),.agg c,.int _ i=>if 0<=i/\i<n/\(P.info? e).isSome then apart P e c.toList (i.toNat*P.cellsOf e) else none
  |some .string,.string s,.int _ i=>if 0<=i then(s[i.toNat]?).map fun b=> .int .u8 b.toNat else none
  |_,_,_=>none
def Eg (_:Program) (a:Operand->Value) (_:AH) (t:Operand) (i:Nat):Option Value:=match a t with
  |.tuple b=>b.toList[i]?
  |_=>none
def G9 (P:Program) (a:Operand->Value) (h:AH) (t:TypeId) (x ix:Operand) (ok:Bool):Option Value:=uY P h t (a x) (a ix) ok
def Qz (P:Program) (e:Operand->Value) (h:AH):Op->Option Value
 |.move x=>R5 P e h x
 |.assign x=>Ht P e h x
 |.pick c a b=>R7 P e h c a b
 |.build t j=>Lm P e h t j
 |.load t a=>R6 P e h t a
 |.nilCheck x=>Bi P e h x
 |.binOp op t x y _=>My P e h op t x y
 |.unOp op _ x=>Rq P e h op x
 |.convert s d x=>Eh P e h s d x
 |.makeInterface t x=>qH P e h t x
 |.makeFunc fn first g=>Bs P e h fn first g
 |.slice t x m l n=>Jw P e h t x m l n
 |.fieldAddr s x f=>xX P e h s x f
 |.field t x f=>Kc P e h t x f
 |.indexAddr t x i=>xR P e h t x i
 |.index t x i=>Ju P e h t x i
 |.extract t i=>Eg P e h t i
 |.lookup t x ix ok=>G9 P e h t x ix ok
 |_=>none
theorem No (P:Program) (a:Operand->Value) (h:AH) (op:Op):Qz P a h op=bS P a h op:=by cases op<;>rfl
def aF5 (h:AH) (ds:List Nat) (ro:Option Nat):Option (Nat×AH×List Nat):=
 match ro with
 |none=>some (h.next,h.alloc (.marks true),h.next::ds)
 |some l=>match h.get l with
  |some (.loop _ _ _ _ _ _ _ d)=>some (d,h,ds)
  |_=>none
structure aB9 where
 env:En
 h:AH
 v:Value
def aEp (r:aB9):Rec:=⟨r.env.yP,r.h,r.v⟩
def wV (P:Program) (a:Operand->Value) (h:AH) (op:Op):Option Value:=
 match op with
 |.call c=>(match c.callee with|.builtin b=>if iS b then(eN P h b c.argTypes (c.args.toList.map a)).map (·.1) else none|_=>none)
 |op=>Qz P a h op
theorem Fj (P:Program) (a:Operand->Value) (h:AH) (op:Op):wV P a h op=eM P a h op:=by
 cases op<;>first|exact No P a h _|rfl
def iU (P:Program) (R:rX) (e:Operand->Value) (h:AH) (op:Op):Option (Value×AH):=
 match op with
 |.store t a x=>match e a with
  |.pointer (some a)=>(K4 P h t a (e x)).map fun i=>(undef,i)
  |_=>none
 |.mapUpdate t m k x=>(Cd P h t (e m) (e k) (e x)).map fun i=>(undef,i)
 |.call c=>
  match c.callee with
  |.builtin b=>eN P h b c.argTypes (c.args.toList.map e)
  |.value f=>match e f with
   |.func (.func g) first d=>
    if gL P g then(R (.call g (first.toList++c.args.toList.map e++d.toList)) h).map fun r=>(r.1.v,r.2) else none
   |.func (.yield l) first _=>(R (.round l (first.toList++c.args.toList.map e)) h).map fun r=>(r.1.v,r.2)
   |_=>none
  |.invoke _ _=>none
 |_=>none
def kW (v:Option Value) (h:AH):Option (Value×AH):=Option.rec (motive:=fun _=>Option (Value×AH)) none (fun v=>some (v,h)) v
def tq (b:Option (nD×(Nat->Value))) (h:AH):Option (Value×AH):=b.map fun r=>(r.2 h.next,h.alloc r.1)
def vg (b:Option (nD×(Nat->Value))) (r:Nat) (h:AH):Option (Value×AH):=b.map fun x=>(x.2 r,h.set r (some x.1))
def aFg (P:Program) (R:rX) (c:Call) (env:En) (h:AH):Option (Value×AH):=if gQ (.call c) then kW (wV P (cA P env) h (.call c)) h else iU P R (cA P env) h (.call c)
abbrev OsF:=Program->rX->En->AH->Option (Value×AH)
abbrev DsF:=Program->rX->Nat->En->AH->Option (Value×AH)
def Fw (P:Program) (R:rX) (env:En) (h:AH) (op:Op):Option (Value×AH):=Op.rec (motive:=fun _=>OsF)
 (fun b P _ env h=>kW (R5 P (cA P env) h b) h)
 (fun b P _ env h=>kW (Ht P (cA P env) h b) h)
 (fun g d f P _ env h=>kW (R7 P (cA P env) h g d f) h)
 (fun m P _ env h=>tq (eA P (cA P env) (Op.alloc m)) h)
 (fun m l P _ env h=>tq (eA P (cA P env) (Op.box m l)) h)
 (fun a c P _ env h=>kW (Lm P (cA P env) h a c) h)
 (fun a n_ c P _ env h=>tq (eA P (cA P env) (Op.buildSlice a n_ c)) h)
 (fun _ _ _ _ _ _ _ _=>none)
 (fun a d P _ env h=>kW (R6 P (cA P env) h a d) h)
 (fun a d l P R env h=>iU P R (cA P env) h (Op.store a d l))
 (fun _ _ _ _ _=>none)
 (fun _ _ _ _ _=>none)
 (fun b P _ env h=>kW (Bi P (cA P env) h b) h)
 (fun j a b t _ P _ env h=>kW (My P (cA P env) h j a b t) h)
 (fun j _ b P _ env h=>kW (Rq P (cA P env) h j b) h)
 (fun d f b P _ env h=>kW (Eh P (cA P env) h d f b) h)
 (fun _ _ _ _ _ _=>none)
 (fun a b P _ env h=>kW (qH P (cA P env) h a b) h)
 (fun i d f P _ env h=>kW (Bs P (cA P env) h i d f) h)
 (fun a s P _ env h=>tq (eA P (cA P env) (Op.makeMap a s)) h)
 (fun _ _ _ _ _ _=>none)
 (fun a n g P _ env h=>tq (eA P (cA P env) (Op.makeSlice a n g)) h)
 (fun a b n q p P _ env h=>kW (Jw P (cA P env) h a b n q p) h)
 (fun a b i P _ env h=>kW (xX P (cA P env) h a b i) h)
 (fun a b i P _ env h=>kW (Kc P (cA P env) h a b i) h)
 (fun a b e P _ env h=>kW (xR P (cA P env) h a b e) h)
 (fun a b e P _ env h=>kW (Ju P (cA P env) h a b e) h)
 (fun a b e j P _ env h=>kW (G9 P (cA P env) h a b e j) h)
 (fun a p r l P R env h=>iU P R (cA P env) h (Op.mapUpdate a p r l))
 (fun _ _ _ _ _ _ _=>none)
 (fun _ _ _ _ _ _ _ _=>none)
 (fun _ _ _ _ _ _=>none)
 (fun _ _ _ _ _ _=>none)
 (fun _ _ _ _ _=>none)
 (fun _ _ _ _ _ _ _ _=>none)
 (fun a e P _ env h=>kW (Eg P (cA P env) h a e) h)
 (fun g P R env h=>iU P R (cA P env) h (Op.call g))
 (fun _ _ _ _ _=>none)
 (fun _ _ _ _ _=>none)
 (fun _ _ _ _ _=>none)
 (fun _ _ _ _ _ _=>none)
 (fun _ _ _ _ _ _ _=>none)
 (fun _ _ _ _ _ _=>none) op P R env h
def fy (P:Program) (R:rX) (r:Nat) (env:En) (h:AH) (op:Op):Option (Value×AH):=Op.rec (motive:=fun _=>DsF)
 (fun b P _ _ env h=>kW (R5 P (cA P env) h b) h)
 (fun b P _ _ env h=>kW (Ht P (cA P env) h b) h)
 (fun g d f P _ _ env h=>kW (R7 P (cA P env) h g d f) h)
 (fun m P _ r env h=>vg (eA P (cA P env) (Op.alloc m)) r h)
 (fun m l P _ r env h=>vg (eA P (cA P env) (Op.box m l)) r h)
 (fun a c P _ _ env h=>kW (Lm P (cA P env) h a c) h)
 (fun a n_ c P _ r env h=>vg (eA P (cA P env) (Op.buildSlice a n_ c)) r h)
 (fun _ _ _ _ _ _ _ _ _=>none)
 (fun a d P _ _ env h=>kW (R6 P (cA P env) h a d) h)
 (fun a d l P R _ env h=>iU P R (cA P env) h (Op.store a d l))
 (fun _ _ _ _ _ _=>none)
 (fun _ _ _ _ _ _=>none)
 (fun b P _ _ env h=>kW (Bi P (cA P env) h b) h)
 (fun j a b u _ P _ _ env h=>kW (My P (cA P env) h j a b u) h)
 (fun j _ b P _ _ env h=>kW (Rq P (cA P env) h j b) h)
 (fun d f b P _ _ env h=>kW (Eh P (cA P env) h d f b) h)
 (fun _ _ _ _ _ _ _=>none)
 (fun a b P _ _ env h=>kW (qH P (cA P env) h a b) h)
 (fun i d f P _ _ env h=>kW (Bs P (cA P env) h i d f) h)
 (fun a t P _ r env h=>vg (eA P (cA P env) (Op.makeMap a t)) r h)
 (fun _ _ _ _ _ _ _=>none)
 (fun a n g P _ r env h=>vg (eA P (cA P env) (Op.makeSlice a n g)) r h)
 (fun a b n q p P _ _ env h=>kW (Jw P (cA P env) h a b n q p) h)
 (fun a b i P _ _ env h=>kW (xX P (cA P env) h a b i) h)
 (fun a b i P _ _ env h=>kW (Kc P (cA P env) h a b i) h)
 (fun a b e P _ _ env h=>kW (xR P (cA P env) h a b e) h)
 (fun a b e P _ _ env h=>kW (Ju P (cA P env) h a b e) h)
 (fun a b e j P _ _ env h=>kW (G9 P (cA P env) h a b e j) h)
 (fun a p s l P R _ env h=>iU P R (cA P env) h (Op.mapUpdate a p s l))
 (fun _ _ _ _ _ _ _ _=>none)
 (fun _ _ _ _ _ _ _ _ _=>none)
 (fun _ _ _ _ _ _ _=>none)
 (fun _ _ _ _ _ _ _=>none)
 (fun _ _ _ _ _ _=>none)
 (fun _ _ _ _ _ _ _ _ _=>none)
 (fun a e P _ _ env h=>kW (Eg P (cA P env) h a e) h)
 (fun g P R _ env h=>aFg P R g env h)
 (fun _ _ _ _ _ _=>none)
 (fun _ _ _ _ _ _=>none)
 (fun _ _ _ _ _ _=>none)
 (fun _ _ _ _ _ _ _=>none)
 (fun _ _ _ _ _ _ _ _=>none)
 (fun _ _ _ _ _ _ _=>none) op P R r env h
theorem Qq (v:Option Value) (h:AH):kW v h=v.map fun v=>(v,h):=by cases v<;>rfl
theorem T4 (P:Program) (R:rX) (env:En) (h:AH) (op:Op):Fw P R env h op=
  match kindOf op with
  |.zQ=>(Qz P (cA P env) h op).map fun v=>(v,h)
  |.alloc=>(eA P (cA P env) op).map fun r=>(r.2 h.next,h.alloc r.1)
  |.store|.call=>iU P R (cA P env) h op
  |.other=>none:=by
 cases op<;>first|rfl|exact Qq _ _
theorem U9 (P:Program) (R:rX) (r:Nat) (env:En) (h:AH) (op:Op):fy P R r env h op=
  if gQ op then(wV P (cA P env) h op).map fun v=>(v,h)
  else if kindOf op== .alloc then(eA P (cA P env) op).map fun x=>(x.2 r,h.set r (some x.1))
  else iU P R (cA P env) h op:=by
 cases op<;>first|rfl|exact Qq _ _|skip
 rename_i c
 show aFg P R c env h=_
 unfold aFg
 rw[Qq]
 rfl
def aJo (P:Program) (R:rX) (r:Nat) (env:En) (h:AH) (op:Op) (w:Option Bool):Option (Value×AH):=
 Option.rec (motive:=fun _=>Option (Value×AH)) none (fun b=>Bool.rec (motive:=fun _=>Option (Value×AH)) (some (undef,h)) (fy P R r env h op) b) w
def qE (P:Program) (R:rX) (all:List Oper) (a i:Nat) (env:En) (h:AH) (o:Oper):Option (Value×AH):=aJo P R (a+i) env h o.op (nO ⟨all⟩ env o)
theorem N1 (P:Program) (R:rX) (all:List Oper) (a i:Nat) (env:En) (h:AH) (o:Oper):qE P R all a i env h o=
 match nO ⟨all⟩ env o with
 |none=>none
 |some false=>some (undef,h)
 |some true=>
  if gQ o.op then(wV P (cA P env) h o.op).map fun v=>(v,h)
  else if kindOf o.op== .alloc then(eA P (cA P env) o.op).map fun r=>(r.2 (a+i),h.set (a+i) (some r.1))
  else iU P R (cA P env) h o.op:=by
 unfold qE
 cases nO ⟨all⟩ env o with
 |none=>rfl
 |some b=>
  cases b with
  |false=>rfl
  |true=>exact U9 ..
abbrev DtR:=Option (List aB9×En×AH)
def aHo (env:En) (h:AH) (v:Value) (x:DtR):DtR:=Option.rec (motive:=fun _=>DtR) none (fun r=>some (⟨env,h,v⟩::r.1,r.2)) x
def aGx (a:Nat->En->AH->DtR) (i:Nat) (o:Oper) (env:En) (h:AH) (x:Option (Value×AH)):DtR:=Option.rec (motive:=fun _=>DtR) none (fun r=>aHo env h r.1 (a (i+1) (zO env o.dst r.1) r.2)) x
def mR (P:Program) (R:rX) (all:List Oper) (b i:Nat) (os:List Oper) (env:En) (h:AH):DtR:=
 List.rec (motive:=fun _=>Nat->En->AH->DtR) (fun _ env h=>some ([],env,h)) (fun o _ a i env h=>aGx a i o env h (qE P R all b i env h o)) os i env h
theorem Kh (P:Program) (R:rX) (all:List Oper) (a i:Nat) (o:Oper) (os:List Oper) (env:En) (h:AH):mR P R all a i (o::os) env h=
  match qE P R all a i env h o with
  |some (v,b)=>match mR P R all a (i+1) os (zO env o.dst v) b with
   |some (c,e)=>some (⟨env,h,v⟩::c,e)
   |none=>none
  |none=>none:=by
 show aGx (fun i env h=>mR P R all a i os env h) i o env h (qE P R all a i env h o)=_
 cases qE P R all a i env h o with
 |none=>rfl
 |some r=>
  show aHo env h r.1 (mR P R all a (i+1) os (zO env o.dst r.1) r.2)=_
  cases hd:mR P R all a (i+1) os (zO env o.dst r.1) r.2 with
  |none=>simp only[hd];rfl
  |some q=>simp only[hd];rfl
def E1 (P:Program) (all:List Oper) (rs:List aB9) (hEnd:AH) (x:Nat×Nat):Bool:=
 match all[x.1]?,rs[x.1]? with
 |some o,some r=>
  match nO ⟨all⟩ r.env o with
  |some true=>(match wV P (cA P r.env) (match rs[x.2]? with|some q=>q.h|none=>hEnd) o.op with|some v=>oI v r.v|none=>false)
  |_=>true
 |_,_=>false
def E7 (P:Program) (R:rX) (ops:Array Oper) (env:En) (h:AH):Option (En×AH):=
 if Hb ops.toList&&(P.follows .mixedOrders|| !Region.departs ops) then
  match mR P R ops.toList h.next 0 ops.toList env {h with next:=h.next+ops.size} with
  |some (c,a,b)=>if(Dm ops.toList).all (E1 P ops.toList c b) then some (a,b) else none
  |none=>none
 else none
def tI (P:Program) (h:AH) (env:En):List ResultVar->Option (List Value)
 |[]=>some []
 |.tmp t::b=>(tI P h env b).map fun l=>env.get t::l
 |.cell a t::b=>match env.get a with
  |.pointer (some a)=>match tS P h t a,tI P h env b with
   |some v,some l=>some (v::l)
   |_,_=>none
  |_=>none
section td
variable (P:Program) (R:rX) (fn:FuncId) (ro:Option Nat) (ds:List Nat) (env:En) (k:List Item) (h:AH)
abbrev Iy:=Option (N8×AH)
def gf:Iy:=R (.todo fn ro ds env k) h
def aGb (a b:Code):Iy:=R (.todo fn ro ds env (.code a:: .code b::k)) h
def Qm (c:Operand) (t e:Code):Iy:=match cA P env c with
   |.bool b=>R (.todo fn ro ds env (.code (if b then t else e)::k)) h
   |_=>none
def ga (b:Code) (x:Item):Iy:=R (.todo fn ro ds env (.code b::x::k)) h
def Rj (id:Nat):Iy:=match exitTo id k with
   |some a=>R (.todo fn ro ds env a) h
   |none=>if ro.isSome then some (⟨.exit id,ds,env,undef⟩,h) else none
def aFm:Iy:=some (⟨.ret,ds,env,undef⟩,h)
def aA4:Iy:=some (⟨.jT,ds,env,undef⟩,h)
def gh (x:Option (N8×AH)):Iy:=match x with
   |some (o,a)=>R (.todo fn ro ds o.env k) a
   |none=>none
def Yb (ops:Array Oper):Iy:=gh R fn ro ds k (R (.ops ops ops.toList env) h)
def Wh (x:Option (En×AH)):Iy:=match x with
   |some (a,b)=>R (.todo fn ro ds a k) b
   |none=>none
def Qy (ops:Array Oper):Iy:=Wh R fn ro ds k (E7 P R ops env h)
def Ks (f:Operand) (ps:Array Tmp) (assign b:Code):Iy:=
   match aF5 h ds ro with
   |some (d,c,e)=>
    match cA P env f with
    |.func (.func g) first a=>
     if gL P g then
      match R (.call g (first.toList++[.func (.yield c.next) #[] #[]]++a.toList)) (c.alloc (.loop .ready none fn env.yP ps assign b d)) with
      |some (_,i)=>
       match i.get c.next with
       |some (.loop st p _ _ _ _ _ _)=>
        if st= .busy then none else
        match cS i c.next .exhausted none with
        |some j=>R (.todo fn ro e env ((p.map Item.code).toList++k)) j
        |none=>none
       |_=>none
      |none=>none
     else none
    |_=>none
   |none=>none
def M8:Iy:=
  match ro with
  |some l=>match h.get l with
   |some (.loop .ready _ _ _ _ _ _ _)=>match cS h l .busy none with
    |some a=>R (.todo fn ro ds env k) a
    |none=>none
   |_=>none
  |none=>none
def aAe:Code->Iy
  |.skip=>gf R fn ro ds env k h
  |.label _=>gf R fn ro ds env k h
  |.seq a b=>aGb R fn ro ds env k h a b
  |.cond c t e=>Qm P R fn ro ds env k h c t e
  |.block id b=>ga R fn ro ds env k h b (.inBlock id)
  |.loop b=>ga R fn ro ds env k h b (.inLoop b)
  |.scope b=>ga R fn ro ds env k h b (.inScope b)
  |.exit id=>Rj R fn ro ds env k h id
  |.ret=>aFm ds env h
  |.region _ ops d=>Bool.rec (motive:=fun _=>Iy) (Yb R fn ro ds env k h ops) (Qy P R fn ro ds env k h ops) d
  |.rangeFunc f i assign g=>Ks P R fn ro ds env k h f i assign g
  |_=>none
def aAy:Item->Iy
  |.code c=>aAe P R fn ro ds env k h c
  |.inBlock _=>gf R fn ro ds env k h
  |.inScope _=>gf R fn ro ds env k h
  |.inLoop b=>ga R fn ro ds env k h b (.inLoop b)
  |.beginRound=>M8 R fn ro ds env k h
  |_=>none
end td
def T3 (P:Program) (R:rX) (fn:FuncId) (ro:Option Nat) (ds:List Nat) (env:En) (k:List Item) (h:AH):Option (N8×AH):=
 List.rec (motive:=fun _=>Iy) (aA4 ds env h) (fun x k _=>aAy P R fn ro ds env k h x) k
section op
variable (P:Program) (R:rX) (all:Array Oper) (rest:List Oper) (env:En) (h:AH) (o:Oper)
def aGy (x:Value×AH):Iy:=R (.ops all rest (zO env o.dst x.1)) x.2
def xy:Iy:=Option.rec (motive:=fun _=>Iy) none (aGy R all rest env o) (Fw P R env h o.op)
def aGu:Iy:=R (.ops all rest (zO env o.dst undef)) h
def aHf (w:Option Bool):Iy:=Option.rec (motive:=fun _=>Iy) none (fun b=>Bool.rec (motive:=fun _=>Iy) (aGu R all rest env h o) (xy P R all rest env h o) b) w
end op
def S5 (P:Program) (R:rX) (all:Array Oper) (rest:List Oper) (env:En) (h:AH):Option (N8×AH):=
 match rest with
 |[]=>some (⟨.jT,[],env,undef⟩,h)
 |o::rest=>
  aHf P R all rest env h o (nO all env o)
def Mm (P:Program) (K:FuncId->List Value->Option jE) (R:rX) (f:FuncId) (args:List Value) (h:AH):Option (N8×AH):=
 match K f args with
 |some (.val v)=>some (⟨.jT,[],Xd,v⟩,h)
 |some (.fwd g d)=>match R (.call g d) h with
  |some (o,b)=>if Kk o.v then some (⟨.jT,[],Xd,o.v⟩,b) else none
  |none=>none
 |some (.host F)=>(F h).map fun r=>(⟨.jT,[],Xd,r.1⟩,r.2)
 |none=>
  match aBj P.funcs.toList f with
  |some fn=>
   match fn.body with
   |some a=>
    match R (.todo f none [] (En.of args (fn.ntmps - args.length)) [.code a]) h with
    |some (o,b)=>
     match o.leave with
     |.exit _=>none
     |_=>match cB o.ds b with
      |some c=>(tI P c o.env fn.results.toList).map fun e=>(⟨.jT,[],Xd,oneOf e⟩,c)
      |none=>none
    |none=>none
   |none=>none
  |none=>none
def H0 (R:rX) (l:Nat) (args:List Value) (h:AH):Option (N8×AH):=
 match h.get l with
 |some (.loop _ _ fn c e assign a _)=>
  if args.length=e.size then
   match R (.todo fn (some l) [] (En.of ((e.toList.zip args).foldl (fun t (p,v)=>t.set p v) c) 0) [.code assign,.beginRound,.code a]) h with
   |some (o,d)=>
    if o.ds.isEmpty then
     match o.leave with
     |.jT=>(cS d l .ready (some none)).map fun b=>(⟨.jT,[],Xd,.bool true⟩,b)
     |.ret=>(cS d l .done (some (some .ret))).map fun b=>(⟨.jT,[],Xd,.bool false⟩,b)
     |.exit id=>(cS d l .done (some (some (.exit id)))).map fun b=>(⟨.jT,[],Xd,.bool false⟩,b)
    else none
   |none=>none
  else none
 |_=>none
def aIh (P:Program) (K:FuncId->List Value->Option jE) (R:rX) (t:Uo) (h:AH):Option (N8×AH):=
 Uo.rec (motive:=fun _=>Iy) (fun fn ro ds env k=>T3 P R fn ro ds env k h) (fun all rest env=>S5 P R all rest env h) (fun f a=>Mm P K R f a h) (fun l a=>H0 R l a h) t
def Yj (P:Program) (K:FuncId->List Value->Option jE) (n:Nat):rX:=
 Nat.rec (motive:=fun _=>rX) (fun _ _=>none) (fun _ R=>aIh P K R) n
section same
variable {P:Program} {K:FuncId->List Value->Option jE} {R':rX} {R:jG}
theorem Hf.val (a:Hf R' R) (t:Uo) (h:AH):(R' t h).map (fun r=>(r.1.v,r.2))=(R (aBn t) h).map fun r=>(r.1.v,r.2):=by
 rw[a t h,Option.map_map];rfl
theorem C1 (b:Hf R' R) (a:Operand->Value) (h:AH) (op:Op):iU P R' a h op=dY P R a h op:=by
 have c:∀g l,(R' (.call g l) h).map (fun r=>(r.1.v,r.2))=(R (.call g l) h).map fun r=>(r.1.v,r.2):=fun g l=>b.val _ _;have d:∀g l,(R' (.round g l) h).map (fun r=>(r.1.v,r.2))=(R (.round g l) h).map fun r=>(r.1.v,r.2):=fun g l=>b.val _ _;unfold iU dY;simp only[c,d];rfl
theorem Yn (a:Hf R' R) (env:En) (h:AH) (op:Op):Fw P R' env h op=mJ P R env.yP h op:=by
 rw[T4];unfold mJ;simp only[wX,No,C1 a];rfl
theorem Sc (b:Hf R' R) (all:List Oper) (a i:Nat) (env:En) (h:AH) (o:Oper):qE P R' all a i env h o=fJ P R all a i env.yP h o:=by
 rw[N1];unfold fJ;simp only[Bh,wX,Fj,C1 b];rfl
theorem Fa (b:Hf R' R) (all:List Oper) (a:Nat):∀(os:List Oper) (i:Nat) (env:En) (h:AH),
    gV P R all a i os env.yP h=(mR P R' all a i os env h).map fun r=>(r.1.map aEp,r.2.1.yP,r.2.2)
 |[],_,_,_=>rfl
 |o::os,i,env,h=>by
  rw[Kh];simp only[gV,Sc b];cases fJ P R all a i env.yP h o with
  |none=>rfl
  |some r=>
   obtain⟨v,c⟩:=r;simp only[<-Mx,Fa b all a os];cases mR P R' all a (i+1) os (zO env o.dst v) c with
   |none=>rfl
   |some r=>rfl
theorem Wc (all:List Oper) (rs:List aB9) (hEnd:AH) (x:Nat×Nat):E1 P all rs hEnd x=tA P all (rs.map aEp) hEnd x:=by
 unfold E1 tA;simp only[List.getElem?_map];cases all[x.1]? with
 |none=>rfl
 |some o=>
  cases rs[x.1]? with
  |none=>rfl
  |some r=>
   simp only[Option.map_some,Bh,wX,Fj];cases rs[x.2]?<;>rfl
theorem W0 (c:Hf R' R) (ops:Array Oper) (env:En) (h:AH):qW P R ops env.yP h=(E7 P R' ops env h).map fun r=>(r.1.yP,r.2):=by
 unfold E7 qW;rw[Fa c];split;cases mR P R' ops.toList h.next 0 ops.toList env {h with next:=h.next+ops.size} with
 |none=>rfl
 |some r=>
  obtain⟨b,e,a⟩:=r;have:E1 P ops.toList b a=tA P ops.toList (b.map aEp) a:=funext (Wc _ b a);simp only[Option.map_some,this];split<;>rfl
 rfl
theorem yO (h:AH) (env:En):∀b,tI P h env b=fQ P h env.yP b
 |[]=>rfl
 |.tmp t::b=>by simp only[tI,fQ,En.get_eq,yO h env b]
 |.cell a t::b=>by simp only[tI,fQ,En.get_eq,yO h env b];rfl
theorem V5 (P:Program) (R:rX) (all:Array Oper) (rest:List Oper) (env:En) (h:AH):S5 P R all rest env h=
  match rest with
  |[]=>some (⟨.jT,[],env,undef⟩,h)
  |o::rest=>
   match nO all env o with
   |none=>none
   |some false=>R (.ops all rest (zO env o.dst undef)) h
   |some true=>match Fw P R env h o.op with
    |some (v,a)=>R (.ops all rest (zO env o.dst v)) a
    |none=>none:=by
 cases rest with
 |nil=>rfl
 |cons o rest=>
  show aHf P R all rest env h o (nO all env o)=_
  simp only
  cases nO all env o with
  |none=>rfl
  |some b=>
   cases b with
   |false=>rfl
   |true=>
    show xy P R all rest env h o=_
    unfold xy
    simp only
    cases Fw P R env h o.op<;>rfl
theorem Yt (a:Hf R' R) (all:Array Oper) (rest:List Oper) (env:En) (h:AH):sL P R all rest env.yP h=(S5 P R' all rest env h).map xE:=by
 rw[V5];unfold sL;cases rest with
 |nil=>rfl
 |cons o rest=>
  simp only[Bh,Yn a];cases eC all env.yP o with
  |none=>rfl
  |some b=>
   cases b with
   |false=>simp only[<-Mx];exact a (.ops all rest (zO env o.dst undef)) h
   |true=>
    simp only;cases mJ P R env.yP h o.op with
    |none=>rfl
    |some r=>simp only[<-Mx];exact a (.ops all rest (zO env o.dst r.1)) r.2
theorem U3 (y:Hf R' R) (fn:FuncId) (ro:Option Nat) (ds:List Nat) (env:En) (k:List Item) (h:AH):dU P R fn ro ds env.yP k h=(T3 P R' fn ro ds env k h).map xE:=by
 have m:∀fn ro ds (env:En) k h,R (.todo fn ro ds env.yP k) h=(R' (.todo fn ro ds env k) h).map xE:=fun fn ro ds env k h=>y (.todo fn ro ds env k) h;unfold dU;cases k with
 |nil=>rfl
 |cons x k=>
  cases x with
  |code c=>
   cases c with
   |skip=>exact m ..
   |label _=>exact m ..
   |seq a b=>exact m ..
   |cond c t e=>
    show _=(Qm P R' fn ro ds env k h c t e).map xE;unfold Qm;simp only[wX];cases cZ P env.yP c<;>first|rfl|exact m ..
   |block id b=>exact m ..
   |loop b=>exact m ..
   |scope b=>exact m ..
   |exit id=>
    show _=(Rj R' fn ro ds env k h id).map xE;unfold Rj;simp only;cases exitTo id k with
    |none=>simp only;split<;>rfl
    |some H=>exact m ..
   |ret=>rfl
   |region i ops d=>
    cases d with
    |false=>
     show _=(Yb R' fn ro ds env k h ops).map xE;unfold Yb gh;simp only;rw[show R (.ops ops ops.toList env.yP) h=(R' (.ops ops ops.toList env) h).map xE from y (.ops ops ops.toList env) h];cases R' (.ops ops ops.toList env) h with
     |none=>rfl
     |some r=>exact m ..
    |true=>
     show _=(Qy P R' fn ro ds env k h ops).map xE;unfold Qy Wh;simp only[W0 y];cases E7 P R' ops env h with
     |none=>rfl
     |some r=>exact m ..
   |rangeFunc f z assign n=>
    show _=(Ks P R' fn ro ds env k h f z assign n).map xE;unfold Ks;simp only[wX];split;rename_i d q A C;have s:aF5 h ds ro=some (d,q,A):=C;simp only[s];split;rename_i g first j D
    simp only[D];split;rw[show R (.call g (first.toList++[.func (.yield q.next) #[] #[]]++j.toList)) (q.alloc (.loop .ready none fn env.yP z assign n d))=
     (R' (.call g (first.toList++[.func (.yield q.next) #[] #[]]++j.toList)) (q.alloc (.loop .ready none fn env.yP z assign n d))).map xE from y (.call g _) _]
    cases R' (.call g (first.toList++[.func (.yield q.next) #[] #[]]++j.toList)) (q.alloc (.loop .ready none fn env.yP z assign n d)) with
    |none=>rfl
    |some r=>
     simp only[Option.map_some,xE];split;rename_i st p _ _ _ _ _ _ u;simp only[u];split;rfl;split;rename_i G w;simp only[w];exact m ..;rename_i w;simp only[w];rfl;rename_i u;split;rename_i v;exact absurd v (u _ _ _ _ _ _ _ _);rfl
    rfl;rename_i D;split;rename_i E;exact absurd E (D _ _ _);rfl;rename_i C;have s:aF5 h ds ro=none:=C;simp only[s];rfl
   |_=>rfl
  |inBlock _=>exact m ..
  |inScope _=>exact m ..
  |inLoop b=>exact m ..
  |beginRound=>
   show _=(M8 R' fn ro ds env k h).map xE;unfold M8;cases ro with
   |none=>rfl
   |some l=>
    simp only;split;rename_i u;simp only[u];split;rename_i F w;simp only[w];exact m ..;rename_i w;simp only[w];rfl;rename_i u;split;rename_i v;exact absurd v (u _ _ _ _ _ _ _);rfl
  |_=>rfl
theorem Us (i:Hf R' R) (f:FuncId) (args:List Value) (h:AH):jX P K R f args h=(Mm P K R' f args h).map xE:=by
 unfold Mm jX;cases K f args with
 |some a=>
  cases a with
  |val v=>rfl
  |fwd g c=>
   simp only;rw[show R (.call g c) h=(R' (.call g c) h).map xE from i (.call g c) h];cases R' (.call g c) h with
   |none=>rfl
   |some r=>simp only[Option.map_some,xE,aC0];split<;>rfl
  |host F=>simp only;cases F h<;>rfl
 |none=>
  simp only;rw[Rs,Array.getElem?_toList];cases P.funcs[f]? with
  |none=>rfl
  |some fn=>
   simp only;cases fn.body with
   |none=>rfl
   |some b=>
    simp only;rw[<-En.of_eq,show R (.todo f none [] (En.of args (fn.ntmps - args.length)).yP [.code b]) h=(R' (.todo f none [] (En.of args (fn.ntmps - args.length)) [.code b]) h).map xE from i (.todo f none [] (En.of args (fn.ntmps - args.length)) [.code b]) h];cases R' (.todo f none [] (En.of args (fn.ntmps - args.length)) [.code b]) h with
    |none=>rfl
    |some r=>
     obtain⟨⟨j,ds,env,v⟩,e⟩:=r;simp only[Option.map_some,xE,aC0,yO];cases j with
     |exit id=>rfl
     |jT=>simp only;cases cB ds e with|none=>rfl|some d=>simp only;cases fQ P d env.yP fn.results.toList<;>rfl
     |ret=>simp only;cases cB ds e with|none=>rfl|some d=>simp only;cases fQ P d env.yP fn.results.toList<;>rfl
theorem Sb (i:Hf R' R) (l:Nat) (args:List Value) (h:AH):nM R l args h=(H0 R' l args h).map xE:=by
 unfold H0 nM;split;rename_i fn a g as bd d c;simp only[c];split;have f:∀t:List Value,(En.of t 0).yP=t:=fun t=>by rw[En.of_eq];simp
 have:=i (.todo fn (some l) [] (En.of ((g.toList.zip args).foldl (fun t (p,v)=>t.set p v) a) 0) [.code as,.beginRound,.code bd]) h;simp only[aBn,f] at this;rw[this];cases R' (.todo fn (some l) [] (En.of ((g.toList.zip args).foldl (fun t (p,v)=>t.set p v) a) 0) [.code as,.beginRound,.code bd]) h with
 |none=>rfl
 |some r=>
  obtain⟨⟨j,ds,env,v⟩,b⟩:=r;simp only[Option.map_some,xE,aC0];split;cases j with
  |jT=>simp only;cases cS b l .ready (some none)<;>rfl
  |ret=>simp only;cases cS b l .done (some (some .ret))<;>rfl
  |exit id=>simp only;cases cS b l .done (some (some (.exit id)))<;>rfl
  rfl
 rfl;rename_i c;split;rename_i e;exact absurd e (c _ _ _ _ _ _ _ _);rfl
theorem fx:∀n,Hf (Yj P K n) (run P K n)
 |0=>fun t h=>by cases t<;>rfl
 |n+1=>fun t h=>by
  have b:Hf (Yj P K n) fun t h=>run P K n t h:=fx n;cases t with
  |todo fn ro ds env k=>exact U3 b ..
  |ops all rest env=>exact Yt b ..
  |call f a=>exact Us b ..
  |round l a=>exact Sb b ..
end same
theorem Im {P:Program} {K:FuncId->List Value->Option jE} {n:Nat} {f:FuncId} {args:List Value} {h:AH} {v:Value} (a:((Yj P K n (.call f args) h).any fun r=>oI r.1.v v)=true):
  ((run P K n (.call f args) h).any fun r=>oI r.1.v v)=true:=by
 have:=fx (P:=P) (K:=K) n (.call f args) h
 simp only[aBn] at this
 rw[this]
 revert a
 cases Yj P K n (.call f args) h<;>exact id
end
end Go.Ab
end
section
namespace Go.Ab
noncomputable section
variable {P:Program} {K:FuncId->List Value->Option jE}
def sub:Code->List Nat->Code
 |c,[]=>c
 |.seq a _,0::p=>sub a p
 |.seq _ b,1::p=>sub b p
 |.cond _ t _,0::p=>sub t p
 |.cond _ _ e,1::p=>sub e p
 |.block _ b,0::p=>sub b p
 |.loop b,0::p=>sub b p
 |.scope b,0::p=>sub b p
 |.rangeFunc _ _ a _,0::p=>sub a p
 |.rangeFunc _ _ _ b,1::p=>sub b p
 |_,_=> .skip
def J7 (P:Program) (f:FuncId):Option Code:=(P.funcs[f]?).bind (·.body)
def ntm (P:Program) (f:FuncId):Nat:=(P.funcs[f]?).elim 0 (·.ntmps)
def cd (P:Program) (f:FuncId) (p:List Nat):Code:=sub ((J7 P f).getD .skip) p
def Cl (P:Program) (K:FuncId->List Value->Option jE) (f:FuncId) (args:List Value) (h:AH) (Q:Value->AH->Prop):Prop:=Ok P K (.call f args) h fun o a=>Q o.v a
theorem Cl.mono {f:FuncId} {args:List Value} {h:AH} {Q a:Value->AH->Prop} (k:Cl P K f args h Q) (c:∀v b,Q v b->a v b):Cl P K f args h a:=Ok.mono k fun _ _=>c _ _
def lpB (P:Program) (f:FuncId) (p:List Nat) (n:Nat) (e:Nat->Value) (d:Nat) (st:LoopState) (pd:Option Code):nD:=match cd P f p with
 |.rangeFunc _ c a b=> .loop st pd f ((List.range n).map e) c a b d
 |_=> .marks false
abbrev I (n:Int):Value:= .int .i64 n
def pt (b o j:Nat):Value:= .pointer (some ⟨b,o+j,none⟩)
def aH9:Nat->Nat->List Nat->List Nat
 |0,_,acc=>acc
 |f+1,n,acc=>if n<=1 then acc else aH9 f (n/2) (n % 2::acc)
def pM (n:Nat):List Nat:=aH9 120 n []
def rgF:Code->Operand×Array Tmp×Code×Code
 |.rangeFunc f c a b=>(f,c,a,b)
 |_=>(.tmp 0, #[],.skip,.skip)
end
end Go.Ab
end
