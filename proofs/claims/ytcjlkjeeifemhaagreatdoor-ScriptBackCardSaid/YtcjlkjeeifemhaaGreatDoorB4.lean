/- A part of the proof. -/
import Derived.Test.YtcjlkjeeifemhaaGreatDoorB3
namespace Go.Ab
open Go.RowKit
section
variable {P:Program} {B:Nat} {K:FuncId->List Value->Option dU}
theorem Ey {α:Type} {l:List α} {f:α×Nat->Bool} (h:l.zipIdx.all f=true) {k:Nat} {o:α} (a:l[k]?=some o):f (o,k)=true:=by
 grind
theorem Ke {l:List Nat} (a:l.Pairwise (·<·)) {i p:Nat} (c:l.find? (fun x=>decide (i<x))=some p):i<p/\p∈l/\∀j∈l,i<j->p<=j:=by
 obtain⟨b,as,f,rfl,g⟩:=List.find?_eq_some_iff_append.1 c;refine⟨by simpa using b,by simp,?_⟩;intro j e d;rcases List.mem_append.1 e with h|h;grind;rw[List.pairwise_append] at a;rcases List.mem_cons.1 h with h|h;omega;have:=(List.pairwise_cons.1 a.2.1).1 j h;omega
structure Fit (all:List Oper):Prop where
 dir:∀(k:Nat) o,all[k]?=some o->∀j∈cG o,j<k
 kind:∀(k:Nat) o,all[k]?=some o->kindOf o.op≠.other
 iR:∀i j:Nat,∀t,(all[i]?).bind (·.dst)=some t->(all[j]?).bind (·.dst)=some t->i=j
 tmps:∀i j:Nat,∀o p d,all[i]?=some o->all[j]?=some p->i≠j->p.dst=some d->d∈sY all o->(j<i->ahead (cE all []) j i=true)/\(i<j->ahead (cE all []) i j=true)
 nT:∀i j:Nat,∀o p,all[i]?=some o->all[j]?=some p->bH o.op=true->bH p.op=true->j<i->ahead (cE all []) j i=true
theorem Lm {all:List Oper} (h:vS all=true):Fit all:=by
 unfold vS at h;simp only[Bool.and_eq_true] at h;obtain⟨⟨⟨b,g⟩,c⟩,_⟩:=h;have pair:∀i j:Nat,∀o p,all[i]?=some o->all[j]?=some p->i≠j->
   (o.dst.isNone||o.dst !=p.dst)=true/\
   (match p.dst with|some d=> !(sY all o).contains d||(if j<i then ahead (cE all []) j i else ahead (cE all []) i j)|none=>true)=true/\
   (!(bH o.op&&bH p.op&&decide (j<i))||ahead (cE all []) j i)=true:=by
  intro i j o p a f e
  have:=Ey (Ey c a) f
  grind
 refine {dir:=?_,kind:=?_,iR:=?_,tmps:=?_,nT:=?_};intro k o a j l;have:=Ey b a;grind;grind;grind;grind;grind
theorem ga {all:List Oper} {i s n:Nat} (f:n=all.length) (e:i<n):
  let nT:=(List.range n).filter fun i=>(all[i]?).any fun o=>bH o.op
  ((nT++[n]).find? fun x=>decide (i<x)).getD n=s->i<s/\∀j p,i<j->j<s->all[j]?=some p->bH p.op=false:=by
 intro nT b
 have a:(nT++[n]).Pairwise (·<·):=by
  rw[List.pairwise_append];refine⟨(List.pairwise_lt_range).filter _,by simp,?_⟩;grind
 cases hf:(nT++[n]).find? fun x=>decide (i<x) with
 |none=>
  grind
 |some p=>
  rw[hf] at b
  simp only[Option.getD_some] at b
  subst b
  obtain⟨c,_,d⟩:=Ke a hf
  grind
theorem M6 {all:List Oper} {i s:Nat} {o:Oper} (f:all[i]?=some o) (q:dD o.op=true) (r:s=all.length\/∃p,all[s]?=some p/\bH p.op=true)
  (d:∀j p,all[j]?=some p->bH p.op=true->(j<s->ahead (cE all []) i j=false)/\(s<=j->ahead (cE all []) j i=false))
  (c:¬(i<s/\∀j p,i<j->j<s->all[j]?=some p->bH p.op=false)):(i,s)∈tJ all:=by
 have b:i<all.length:=(List.getElem?_eq_some_iff.1 f).1
 unfold tJ
 simp only
 rw[List.mem_flatMap]
 refine⟨i,List.mem_range.2 b,?_⟩
 rw[tu (by simp[f,q])]
 rw[List.mem_map]
 refine⟨s,?_,rfl⟩
 rw[List.mem_filter]
 constructor
 .grind
 .rw[Bool.and_eq_true];constructor
  .simp only[bne_iff_ne,ne_eq];intro m;exact c (ga rfl b m.symm)
  .rw[List.all_eq_true];intro j e;rw[List.mem_filter] at e;obtain⟨n,a⟩:=e;cases hp:all[j]? with
   |none=>simp[hp] at a
   |some p=>
    simp[hp] at a
    obtain⟨g,l⟩:=d j p hp a
    split
    .rename_i h;simp[g h]
    .rename_i h;simp[l (by omega)]
theorem nQ {R:mT} {all:List Oper} {d:Nat}:∀(os:List Oper) (i:Nat) (env:List Value) (h:AH) (rs:List Rec) (e:List Value) (b:AH),dG P R all d i os env h=some (rs,e,b)->rs.length=os.length
 |[],i,env,h,rs,e,b,a=>by
  simp only[dG,Option.some.injEq,Prod.mk.injEq] at a;rw[<-a.1];rfl
 |o::os,i,env,h,rs,e,b,a=>by
  simp only[dG] at a;split at a;split at a;rename_i c;simp only[Option.some.injEq,Prod.mk.injEq] at a;rw[<-a.1,List.length_cons,List.length_cons,nQ os _ _ _ _ _ _ c];cases a;cases a
theorem Wx (C:Ctx P B K) (R:mT) (hR:sK C R):Tx C R:=by
 intro ops env h μ h' c ρ w b a cs k t l hg he;unfold jG at c;split at c;rename_i z;rw[Bool.and_eq_true] at z;obtain⟨z,J⟩:=z;split at c;rename_i rs e hN r;split at c;rename_i I;simp only[Option.some.injEq,Prod.mk.injEq] at c;obtain⟨rfl,rfl⟩:=c;have fit:=Lm z;generalize u:ops.toList=all at fit r I z;have ν:ops.size=all.length:=by rw[<-u];simp
 obtain⟨E,H,V,X,F,A,Y,G,W⟩:=B5 all 0 env _ rs e hN r;have d:Dr P R all h.next E H V:={
  step:=fun j o L=>by have:=(A j o L).1;rwa [Nat.zero_add] at this
  env:=fun j o L=>(A j o L).2
  dir:=fit.dir,kind:=fit.kind,iR:=fit.iR,tmps:=fit.tmps,nT:=fit.nT
  rn:=fun i s o L hl hs ζ Z U hw=>by
   rw[List.all_eq_true] at I;have:=I (i,s) (M6 L hl ζ Z U);have γ:i<all.length:=(List.getElem?_eq_some_iff.1 L).1;unfold kP at this;simp only[L,W i γ,hw] at this;have hh:bZ P (bA P (E i)) (H s) o.op=some (V i):=by
    rcases Nat.lt_or_ge s all.length with g|g;rw[W s g] at this;simp only at this;split at this;rename_i v hv;rw[hv,B3 _ _ this];cases this;have η:s=all.length:=by omega
    rw[List.getElem?_eq_none (by rw[nQ _ _ _ _ _ _ _ r];omega)] at this;simp only at this;rw[η,G];split at this;rename_i v hv;rw[hv,B3 _ _ this];cases this
   exact hh}
 have hB:B<=w.heap.size:=l.size;have β:Inv P B ρ (H 0) w:=by
  rw[F];exact {gH:=l.gH,inj:=l.inj,low:=l.low,old:=l.old,fresh:=fun i g=>l.fresh i (by simp at g;omega),dF:=fun i g=>l.dF i (by simp at g;omega),iN:=l.iN,size:=l.size,bn:=by have:=l.bn;grind}
 have q:∀i,(H 0).get i=h.get i:=fun i=>by rw[F];rfl
 have ι:St P B all h.next E H V ρ h w [] 0 ρ w a.tmps.toList:={
  tN:={ext:=Ext.refl _,inv:=β,un:=fun _ _ h=>h,gA:=fun i _ _=>q i,stay:=fun i _ g=>by rw[q];exact g,frame:=fun _ _ _=>rfl,
                range:=fun i b s g x h3 _=>⟨i,s,g,by grind,h3⟩,base:=by rw[F],nB:=fun i _=>q i,size:=Nat.le_refl _,os:=rfl,out:=rfl,tape:=rfl}
  Sh:=fun i g=>by cases g
  closed:=fun i g=>by cases g
  s1:=fun j o g=>by omega
  s3:=fun j o _ _ g=>by cases g
  sle:=Nat.zero_le _
  env:=by rw[X];exact he
  nx:=by grind
  tD:=fun i o b f _ g=>by cases g
  oB:=fun i n t g x=>by rw[l.fresh _ (by omega)] at x;cases x
  lone:=fun i n t _ g x=>by rw[l.fresh _ (by omega)] at x;cases x
  yA:=fun i i' n t t' _ _ x=>by rw[l.fresh _ (by omega)] at x;cases x
  Pc:=fun i _ _=>l.fresh _ (by omega)
  Su:=fun i o _ _=>l.fresh _ (by omega)
  rev:=fun i o b f g=>by omega
  Pf:=fun j _ _=>by rw[q];exact l.dF _ (by omega)
  gr:=fun m hm _=>(have:m=0:=(by omega);this▸iE.refl _)}
 obtain⟨s,κ,α⟩:=ι.advance d l.bn hB _ _ rfl;have D:Region.schedule (P.follows .mixedOrders) ops t=Region.linearise.go .any ops ops.size t (Array.replicate ops.size false) []:=by
  unfold Region.schedule;rw[tu J];rfl
 have T:oZ all [] (Region.schedule (P.follows .mixedOrders) ops t):=by
  rw[D,<-u];refine sG (by rw[u];exact fit.dir) ops.size t _ [] (by simp) (fun i l=>by simp[l]) ?_;grind
 obtain⟨D',ρ',w',a',M,δ,N,θ⟩:=Bm C hR u d l.bn hB l hg (b:=b) (cs:=cs) (k:=k) _ [] s ρ w a T α κ;have y:=M.tN;rw[G] at y;have ε:=M.nx;rw[G] at ε;refine⟨ρ',w',a',y.tN (by omega),?_,N,θ⟩;have O:e=qD all V (E 0) D':=by
  rw[<-Y,d.ca _ (Nat.le_refl _)];refine List.ext_getElem? fun t=>D5 (fun i j g x=>fit.iR i j t g x) fun j hj=>?_;have S:j<all.length:=by
   cases hp:all[j]? with
   |none=>rw[hp] at hj;cases hj
   |some p=>grind
  simp[S,δ j S]
 rw[O];exact M.env;cases c;cases c;cases c
theorem P6 (C:Ctx P B K) (n:Nat):sK C (run P K n):=fq C (Wx C) n
end
end Go.Ab
section
namespace Go.Ab
variable {P:Program} {K:FuncId->List Value->Option dU}
def mT.le (R R':mT):Prop:=∀t h r,R t h=some r->R' t h=some r
theorem pF {R R':mT} (e:R.le R') {d:Operand->Value} {h:AH} {op:Op} {r:Value×AH} (a:bQ P R d h op=some r):bQ P R' d h op=some r:=by
 unfold bQ at a ⊢;split;exact a;exact a;simp only at a ⊢;split;grind;rename_i g;simp only[g] at a;split;rename_i b;simp only[b] at a;split;rename_i f;rw[tu f] at a;simp only[Option.map_eq_some_iff] at a ⊢;obtain⟨x,c,rfl⟩:=a;exact⟨x,e _ _ _ c,rfl⟩;grind;rename_i b;simp only[b] at a;simp only[Option.map_eq_some_iff] at a ⊢;obtain⟨x,c,rfl⟩:=a;exact⟨x,e _ _ _ c,rfl⟩;grind;grind;grind
theorem Dq {R R':mT} (b:R.le R') {env:List Value} {h:AH} {op:Op} {r:Value×AH} (a:fL P R env h op=some r):fL P R' env h op=some r:=by
 unfold fL at a ⊢;cases hk:kindOf op<;>simp only[hk] at a ⊢;exact a;exact a;exact pF b a;exact pF b a;exact a
theorem xF {R R':mT} (f:R.le R') {all:List Oper} {d i:Nat} {env:List Value} {h:AH} {o:Oper} {r:Value×AH} (a:cI P R all d i env h o=some r):cI P R' all d i env h o=some r:=by
 unfold cI at a ⊢;cases hw:bS ⟨all⟩ env o with
 |none=>grind
 |some b=>
  rw[hw] at a;cases b with
  |false=>exact a
  |true=>
   simp only at a ⊢;split;grind;rename_i e;rw[tt e] at a;split;grind;rename_i c;rw[tt c] at a;exact pF f a
theorem qU {R R':mT} (b:R.le R') {all:List Oper} {c:Nat}:∀(os:List Oper) {i:Nat} {env:List Value} {h:AH} {r:List Rec×List Value×AH},dG P R all c i os env h=some r->dG P R' all c i os env h=some r
 |[],_,_,_,_,a=>a
 |o::os,i,env,h,r,a=>by
  simp only[dG] at a ⊢;split at a;rename_i v g d;rw[xF b d];simp only;split at a;rename_i j e f;rw[qU b os f];exact a;cases a;cases a
theorem Bh {R R':mT} (c:R.le R') {ops:Array Oper} {env:List Value} {h:AH} {r:List Value×AH} (a:jG P R ops env h=some r):jG P R' ops env h=some r:=by
 unfold jG at a ⊢;split;rename_i b;rw[tu b] at a;split at a;rename_i d;rw[qU c _ d];exact a;cases a;grind
theorem Qc {R R':mT} (c:R.le R') {all:Array Oper} {rest:List Oper} {env:List Value} {h:AH} {r:Out×AH} (a:kB P R all rest env h=some r):kB P R' all rest env h=some r:=by
 unfold kB at a ⊢;cases rest with
 |nil=>exact a
 |cons o rest=>
  simp only at a ⊢;cases hw:bS all env o with
  |none=>grind
  |some b=>
   rw[hw] at a;cases b with
   |false=>exact c _ _ _ a
   |true=>
    simp only at a ⊢;split at a;rename_i v e d;rw[Dq c d];exact c _ _ _ a;cases a
theorem Nj {R R':mT} (d:R.le R') {f:FuncId} {args:List Value} {h:AH} {r:Out×AH} (a:fJ P K R f args h=some r):fJ P K R' f args h=some r:=by
 unfold fJ at a ⊢;split;grind;rename_i b;rw[b] at a;simp only at a;split at a;rename_i c;rw[d _ _ _ c];exact a;cases a;grind;rename_i b;rw[b] at a;simp only at a;split at a;split at a;split at a;rename_i c;rw[d _ _ _ c];exact a;cases a;cases a;cases a
theorem Jf {R R':mT} (c:R.le R') {l:Nat} {args:List Value} {h:AH} {r:Out×AH} (a:gN R l args h=some r):gN R' l args h=some r:=by
 unfold gN at a ⊢;split at a;split at a;rename_i b;rw[tu b];split at a;rename_i d;rw[c _ _ _ d];exact a;cases a;cases a;cases a
theorem Mt {R R':mT} (b:R.le R') {fn:FuncId} {ro:Option Nat} {ds:List Nat} {env:List Value} {k:List Item} {h:AH} {r:Out×AH} (a:bP P R fn ro ds env k h=some r):bP P R' fn ro ds env k h=some r:=by
 unfold bP at a ⊢;split at a;exact a;rename_i c k;split at a;exact b _ _ _ a;exact b _ _ _ a;exact b _ _ _ a;split at a;exact b _ _ _ a;cases a;exact b _ _ _ a;exact b _ _ _ a;exact b _ _ _ a;split at a;exact b _ _ _ a;exact a;exact a;split at a;rename_i i;rw[b _ _ _ i];exact b _ _ _ a;cases a;split at a;rename_i i;rw[Bh b i];exact b _ _ _ a;cases a;split at a;rename_i d n j m;split at a;rename_i g first e p
 split at a;rename_i f;rw[tu f];split at a;rename_i i;rw[b _ _ _ i];simp only;split at a;split at a;cases a;rename_i l;rw[tt l];split at a;exact b _ _ _ a;cases a;cases a;cases a;cases a;cases a;cases a;cases a;exact b _ _ _ a;exact b _ _ _ a;exact b _ _ _ a;split at a;split at a;split at a;exact b _ _ _ a;cases a;cases a;cases a;cases a
theorem Sv:∀n,(run P K n).le (run P K (n+1))
 |0,t,h,r,a=>by simp[run] at a
 |n+1,t,h,r,a=>by
  have c:=Sv n;cases t with
  |todo fn ro ds env k=>exact Mt c a
  |ops all rest env=>exact Qc c a
  |call f b=>exact Nj c a
  |round l b=>exact Jf c a
theorem fD {n m:Nat} (h:n<=m):(run P K n).le (run P K m):=by
 induction h with
 |refl=>exact fun _ _ _ h=>h
 |step _ b=>exact fun t g r a=>Sv _ _ _ _ (b t g r a)
end Go.Ab
end
section
namespace Go.Ab
noncomputable section
variable {P:Program} {K:FuncId->List Value->Option dU}
def K1 (k:Nat) (a b:Value):Option Bool:=match k,a,b with
 |0,.int k m,.int c n=>if k=c then some (m==n) else none
 |1,.bool m,.bool n=>some (m==n)
 |2,.string m,.string n=>some (m==n)
 |_,_,_=>none
def jP:List Nat->List Value->List Value->Option Bool
 |[],[],[]=>some true
 |k::c,x::d,y::e=>match K1 k x y,jP c d e with
  |some a,some b=>some (a&&b)
  |_,_=>none
 |_,_,_=>none
def By (P:Program) (c:TypeId->Option (List Nat)):Nat->List Field->Option (List Nat)
 |_,[]=>some []
 |o,f::d=>if f.name="_"\/f.offset≠o then none else
  match c f.type,By P c (o+P.cellsOf f.type) d with
  |some a,some b=>if a.length=P.cellsOf f.type then some (a++b) else none
  |_,_=>none
def Et (P:Program):Nat->TypeId->Option (List Nat)
 |0,_=>none
 |d+1,t=>match P.underlying t with
  |some .bool=>some [1]
  |some (.int _)=>some [0]
  |some .string=>some [2]
  |some (.array n e)=>if(P.info? e).isSome then
    (match Et P d e with
    |some l=>if l.length=P.cellsOf e then some (List.replicate n l).flatten else none
    |none=>none) else none
  |some (.struct a)=>if P.stoodInHeld t then none else By P (Et P d) 0 a.toList
  |_=>none
theorem jT:∀{c:List Nat} {a b:List Value} {r:Bool},jP c a b=some r->a.length=c.length/\b.length=c.length
 |[],[],[],_,_=>⟨rfl,rfl⟩
 |[],[],_::_,_,h=>by simp[jP] at h
 |[],_::_,_,_,h=>by simp[jP] at h
 |_::_,[],_,_,h=>by simp[jP] at h
 |_::_,_::_,[],_,h=>by simp[jP] at h
 |k::c,x::e,y::f,r,h=>by
  simp only[jP] at h;split at h;rename_i d;have:=jT d;simp[this];cases h
theorem sP:∀{c d:List Nat} {a b:List Value} {r:Bool},jP (c++d) a b=some r->∃e f,jP c (a.take c.length) (b.take c.length)=some e/\jP d (a.drop c.length) (b.drop c.length)=some f/\r=(e&&f)
 |[],d,a,b,r,h=>⟨true,r,by simp[jP],by simpa using h,by simp⟩
 |k::g,d,[],_,r,h=>by simp[jP] at h
 |k::g,d,_::_,[],r,h=>by simp[jP] at h
 |k::g,d,x::n,y::p,r,h=>by
  simp only[List.cons_append,jP] at h;split at h;rename_i e f i j;cases h;obtain⟨s1,s2,l,m,rfl⟩:=sP j;exact⟨e&&s1,s2,by simp[jP,i,l],by simpa using m,by rw[Bool.and_assoc]⟩;cases h
def valOf (P:Program) (t:TypeId) (a:List Value):Option Value:=match eF P t with
 |some true=>some (.agg ⟨a⟩)
 |some false=>a[0]?
 |none=>none
theorem rS {t:TypeId} {xs a:List Value} {b:Nat} {v:Value} (e:(xs.drop b).take (P.cellsOf t)=a) (f:a.length=P.cellsOf t) (d:0<P.cellsOf t\/b<=xs.length) (c:valOf P t a=some v):apart P t xs b=some v:=by
 unfold valOf at c;unfold apart;grind
theorem D9 {eq:TypeId->Value->Value->Option Bool} {j:TypeId->Option (List Nat)}
  (n:∀t d a b r,j t=some d->d.length=P.cellsOf t->jP d a b=some r->∃x y,valOf P t a=some x/\valOf P t b=some y/\eq t x y=some r)
  {xs ys:List Value}:∀(fs:List Field) (o:Nat) (d:List Nat) (r:Bool),o<=xs.length->o<=ys.length->By P j o fs=some d->jP d (xs.drop o) (ys.drop o)=some r->fU P eq xs ys fs=some r
 |[],o,d,r,_,_,c,e=>by
  simp only[By,Option.some.injEq] at c;subst c;have:=jT e;have u:xs.drop o=[]:=List.eq_nil_of_length_eq_zero this.1;have v:ys.drop o=[]:=List.eq_nil_of_length_eq_zero this.2;rw[u,v] at e;simpa [jP,fU] using e
 |f::fs,o,d,r,C,D,c,e=>by
  simp only[By] at c;split at c;cases c;rename_i i;simp only[not_or,Decidable.not_not,ne_eq] at i;split at c;rename_i a b w z;split at c;rename_i g;cases c;obtain⟨H,G,l,m,rfl⟩:=sP e;obtain⟨x,y,E,F,A⟩:=n _ _ _ _ _ w g l;have p:=jT l;have lc:=jT e;simp only[List.length_drop,List.length_append] at lc;have q:apart P f.type xs f.offset=some x:=rS (by rw[i.2,<-g]) (by rw[p.1,g]) (.inr (by omega)) E;have s:apart P f.type ys f.offset=some y:=rS (by rw[i.2,<-g]) (by rw[p.2,g]) (.inr (by omega)) F;simp only[fU];rw[tt i.1,q,s];simp only[A];rw[List.drop_drop,List.drop_drop] at m;have:=D9 (xs:=xs) (ys:=ys) n fs (o+P.cellsOf f.type) b G (by omega) (by omega) z (by rw[<-g];exact m);grind;cases c;cases c
theorem I4 {eq:TypeId->Value->Value->Option Bool} {e:TypeId} {l:List Nat}
  (i:∀a b r,jP l a b=some r->∃x y,valOf P e a=some x/\valOf P e b=some y/\eq e x y=some r) (d:l.length=P.cellsOf e)
  {xs ys:List Value}:∀(n j:Nat) (r:Bool),j*P.cellsOf e<=xs.length->j*P.cellsOf e<=ys.length->jP (List.replicate n l).flatten (xs.drop (j*P.cellsOf e)) (ys.drop (j*P.cellsOf e))=some r->jR P eq e xs ys (List.range' j n)=some r
 |0,j,r,_,_,c=>by
  have:=jT c;simp only[List.replicate_zero,List.flatten_nil,List.length_nil] at this;have f:xs.drop (j*P.cellsOf e)=[]:=List.eq_nil_of_length_eq_zero this.1;have s:ys.drop (j*P.cellsOf e)=[]:=List.eq_nil_of_length_eq_zero this.2;rw[f,s] at c;simpa [jP,jR] using c
 |n+1,j,r,w,A,c=>by
  rw[List.replicate_succ,List.flatten_cons] at c;obtain⟨D,C,g,t,rfl⟩:=sP c;obtain⟨x,y,v,z,u⟩:=i _ _ _ g;have m:=jT g;have lc:=jT c;simp only[List.length_drop,List.length_append] at lc;have p:apart P e xs (j*P.cellsOf e)=some x:=rS (by rw[<-d]) (by rw[m.1,d]) (.inr (by omega)) v;have q:apart P e ys (j*P.cellsOf e)=some y:=rS (by rw[<-d]) (by rw[m.2,d]) (.inr (by omega)) z;simp only[List.range'_succ,jR,p,q,u];rw[List.drop_drop,List.drop_drop] at t;have f:(j+1)*P.cellsOf e=j*P.cellsOf e+P.cellsOf e:=Nat.succ_mul _ _;have:=I4 (xs:=xs) (ys:=ys) i d n (j+1) C (by omega) (by omega) (by grind);grind
theorem X4 (d:Nat):∀(t:TypeId) (i:List Nat) (a b:List Value) (r:Bool),Et P d t=some i->i.length=P.cellsOf t->jP i a b=some r->
  ∃x y,valOf P t a=some x/\valOf P t b=some y/\qI P d t x y=some r:=by
 induction d with
 |zero=>intro t i a b r h;simp[Et] at h
 |succ d q=>
  intro t i a b r h p j
  have one:∀k,i=[k]->∃x y,a=[x]/\b=[y]/\K1 k x y=some r:=fun k p=>by
   subst p;have:=jT j;match a,b,this with
   |[x],[y],_=>
    refine⟨x,y,rfl,rfl,?_⟩;simp only[jP] at j;grind
  unfold Et at h
  split at h
  .rename_i c;obtain⟨x,y,rfl,rfl,f⟩:=one 1 (by simpa using h.symm);refine⟨x,y,by simp[valOf,eF,c],by simp[valOf,eF,c],?_⟩;unfold K1 at f;split at f
   .rename_i g;cases g
   .cases f;unfold qI;simp[c]
   .rename_i g;cases g
   .cases f
  .rename_i k c;obtain⟨x,y,rfl,rfl,f⟩:=one 0 (by simpa using h.symm);refine⟨x,y,by simp[valOf,eF,c],by simp[valOf,eF,c],?_⟩;unfold K1 at f;split at f
   .split at f
    .rename_i m;subst m;cases f;unfold qI;simp[c]
    .cases f
   .rename_i g;cases g
   .rename_i g;cases g
   .cases f
  .rename_i c;obtain⟨x,y,rfl,rfl,f⟩:=one 2 (by simpa using h.symm);refine⟨x,y,by simp[valOf,eF,c],by simp[valOf,eF,c],?_⟩;unfold K1 at f;split at f
   .rename_i g;cases g
   .rename_i g;cases g
   .cases f;unfold qI;simp[c]
   .cases f
  .rename_i n e c;split at h
   .rename_i z;split at h
    .rename_i l A;split at h
     .rename_i hle;cases h;refine⟨.agg ⟨a⟩,.agg ⟨b⟩,by simp[valOf,eF,c],by simp[valOf,eF,c],?_⟩;unfold qI;simp only[c,z,if_true];rw[List.range_eq_range'];exact I4 (fun a b r j=>q e l a b r A hle j) hle n 0 r (by simp) (by simp) (by simpa using j)
     .cases h
    .cases h
   .cases h
  .rename_i s c;split at h
   .cases h
   .rename_i C;refine⟨.agg ⟨a⟩,.agg ⟨b⟩,by simp[valOf,eF,c],by simp[valOf,eF,c],?_⟩;unfold qI;simp only[c,C,Bool.false_eq_true,if_false];exact D9 (fun t i a b r u v w=>q t i a b r u v w) s.toList 0 i r (by simp) (by simp) h (by simpa using j)
  .cases h
def Kv (op:BinOp) (r:Bool):Option Value:=match op with
 |.eql=>some (.bool r)
 |.neq=>some (.bool !r)
 |_=>none
def vM (op:BinOp) (a b:Value):Option Value:=match a,b with
 |.int k m,.int c n=>if k=c then Jo op k m n else zF op k m n
 |_,_=>none
def Hb (op:BinOp) (a b:Value):Option Value:=match a,b with
 |.string m,.string n=>Ck op m n
 |_,_=>none
def Oy (op:BinOp) (a b:Value):Option Value:=match a,b with
 |.bool m,.bool n=>Kv op (m==n)
 |_,_=>none
def K8 (op:BinOp) (a b:Value):Option Value:=match a,b with
 |.pointer none,.pointer b=>Kv op b.isNone
 |.pointer (some _),.pointer none=>Kv op false
 |_,_=>none
def Kr (op:BinOp) (a b:Value):Option Value:=match a,b with
 |.slice none _ _,.slice b _ _=>Kv op b.isNone
 |.slice (some _) _ _,.slice none _ _=>Kv op false
 |_,_=>none
def N1 (op:BinOp) (a b:Value):Option Value:=match a,b with
 |.nilFunc,.nilFunc=>Kv op true
 |.nilFunc,.func _ _ _=>Kv op false
 |.func _ _ _,.nilFunc=>Kv op false
 |_,_=>none
def Hq (c:Bool) (op:BinOp) (a b:Value):Option Value:=match a,b with
 |.nilIface,.nilIface=>if c then Kv op true else none
 |.nilIface,.iface _ _=>Kv op false
 |.iface _ _,.nilIface=>Kv op false
 |_,_=>none
def Jd (c:List Nat) (op:BinOp) (a b:Value):Option Value:=match a,b with
 |.agg d,.agg e=>(jP c d.toList e.toList).bind (Kv op)
 |_,_=>none
def yS (P:Program) (t:TypeId):Option (List Nat):=match Et P 10000 t with
 |some a=>if a.length=P.cellsOf t/\eF P t=some true/\P.eqGuardType P.depth t=false then some a else none
 |none=>none
def J4 (P:Program) (op:BinOp) (t:TypeId) (x y:Operand) (a b:Value) (q:Value->Prop) (aK:Option Value->(Value->Prop)->Prop):Prop:=
 match P.underlying t with
 |some (.int _)=>aK (vM op a b) q
 |some .string=>aK (Hb op a b) q
 |some .bool=>aK (Oy op a b) q
 |some (.pointer _)=>aK (K8 op a b) q
 |some (.slice _)=>aK (Kr op a b) q
 |some (.func _ _ _)=>aK (N1 op a b) q
 |some (.interface _)=>aK (Hq (isConst x||isConst y) op a b) q
 |some (.struct _)=>(match yS P t with
  |some c=>aK (Jd c op a b) q
  |none=>False)
 |some (.array _ _)=>(match yS P t with
  |some c=>aK (Jd c op a b) q
  |none=>False)
 |_=>False
theorem eY {op:BinOp} {t:TypeId} {x y:Operand} {a b v:Value} {r:Bool} (e:∀k m d n,¬(a= .int k m/\b= .int d n)) (i:∀m n,¬(a= .string m/\b= .string n)) (c:Kv op r=some v) (f:wW P t x y a b=true) (g:qI P 10000 t a b=some r):
  E3 P op t x y a b=some v:=by
 unfold E3
 split
 .grind
 .grind
 .unfold Kv at c;grind
theorem fN {t:TypeId} {a b:Value} {r:Bool} (h:qI P (9999+1) t a b=some r):qI P 10000 t a b=some r:=h
theorem J6 {op:BinOp} {t:TypeId} {x y:Operand} {a b:Value} {q:Value->Prop} (g:J4 P op t x y a b q fun o p=>∃v,o=some v/\p v):∃v,E3 P op t x y a b=some v/\q v:=by
 unfold J4 at g;split at g;obtain⟨v,c,d⟩:=g;refine⟨v,?_,d⟩;unfold vM at c;split at c;simp only[E3];exact c;cases c;obtain⟨v,c,d⟩:=g;refine⟨v,?_,d⟩;unfold Hb at c;split at c;simp only[E3];exact c;cases c;rename_i e;obtain⟨v,c,d⟩:=g;refine⟨v,?_,d⟩;unfold Oy at c;split at c;exact eY (fun _ _ _ _ h=>by cases h.1) (fun _ _ h=>by cases h.1) c rfl (fN (by unfold qI;simp[e]));cases c;rename_i e;obtain⟨v,c,d⟩:=g;refine⟨v,?_,d⟩;unfold K8 at c;split at c;exact eY (fun _ _ _ _ h=>by cases h.1) (fun _ _ h=>by cases h.1) c rfl (fN (by unfold qI;simp[e]));exact eY (fun _ _ _ _ h=>by cases h.1) (fun _ _ h=>by cases h.1) c rfl (fN (by unfold qI;simp[e]));cases c;rename_i e;obtain⟨v,c,d⟩:=g;refine⟨v,?_,d⟩;unfold Kr at c;split at c;exact eY (fun _ _ _ _ h=>by cases h.1) (fun _ _ h=>by cases h.1) c rfl (fN (by unfold qI;simp[e]));exact eY (fun _ _ _ _ h=>by cases h.1) (fun _ _ h=>by cases h.1) c rfl (fN (by unfold qI;simp[e]));cases c;rename_i e;obtain⟨v,c,d⟩:=g;refine⟨v,?_,d⟩;unfold N1 at c;split at c;exact eY (fun _ _ _ _ h=>by cases h.1) (fun _ _ h=>by cases h.1) c rfl (fN (by unfold qI;simp[e]));exact eY (fun _ _ _ _ h=>by cases h.1) (fun _ _ h=>by cases h.1) c rfl (fN (by unfold qI;simp[e]));exact eY (fun _ _ _ _ h=>by cases h.1) (fun _ _ h=>by cases h.1) c rfl (fN (by unfold qI;simp[e]));cases c;rename_i e;obtain⟨v,c,d⟩:=g;refine⟨v,?_,d⟩;unfold Hq at c;split at c;split at c;rename_i i;exact eY (fun _ _ _ _ h=>by cases h.1) (fun _ _ h=>by cases h.1) c (by simpa [wW] using i) (fN (by unfold qI;simp[e]));cases c;exact eY (fun _ _ _ _ h=>by cases h.1) (fun _ _ h=>by cases h.1) c rfl (fN (by unfold qI;simp[e]));exact eY (fun _ _ _ _ h=>by cases h.1) (fun _ _ h=>by cases h.1) c rfl (fN (by unfold qI;simp[e]));cases c;all_goals
  first
   |cases g
   |split at g
    .rename_i G f;obtain⟨v,c,d⟩:=g;refine⟨v,?_,d⟩;unfold Jd at c;split at c
     .rename_i D F;simp only[Option.bind_eq_some_iff] at c;obtain⟨r,z,u⟩:=c;unfold yS at f;split at f
      .rename_i A m;split at f
       .rename_i i;cases f;obtain⟨C,E,j,l,w⟩:=X4 10000 t _ _ _ _ m i.1 z;simp only[valOf,i.2.1,Option.some.injEq] at j l;have n:C= .agg D:=j.symm;have s:E= .agg F:=l.symm;subst n;subst s;exact eY (fun _ _ _ _ h=>by cases h.1) (fun _ _ h=>by cases h.1) u (by simp[wW,i.2.2]) w
       .cases f
      .cases f
     .cases c
    .cases g
end
end Go.Ab
end
section
namespace Go.Ab
noncomputable section
variable {P:Program} {K:FuncId->List Value->Option dU}
def Ok (P:Program) (K:FuncId->List Value->Option dU) (t:Task) (h:AH) (Q:Out->AH->Prop):Prop:=∃n r,run P K n t h=some r/\Q r.1 r.2
def aK {α:Type} (o:Option α) (p:α->Prop):Prop:=∃v,o=some v/\p v
def Br (v:Value) (p q:Prop):Prop:=∃b,v= .bool b/\(b=true->p)/\(b=false->q)
theorem Ok.mono {t:Task} {h:AH} {Q a:Out->AH->Prop} (k:Ok P K t h Q) (e:∀o b,Q o b->a o b):Ok P K t h a:=
 let⟨n,r,c,d⟩:=k;⟨n,r,c,e _ _ d⟩
@[simp] theorem jz {α:Type} {v:α} {p:α->Prop}:aK (some v) p↔p v:=⟨fun⟨_,h,k⟩=>by cases h;exact k,fun k=>⟨v,rfl,k⟩⟩
@[simp] theorem ma {α:Type} {p:α->Prop}:aK none p↔False:=⟨fun⟨_,h,_⟩=>(nomatch h),False.elim⟩
@[congr] theorem gy {α:Type} {o o':Option α} {p:α->Prop} (h:o=o'):aK o p↔aK o' p:=by rw[h]
theorem aK.mono {α:Type} {o:Option α} {p c:α->Prop} (h:aK o p) (k:∀v,p v->c v):aK o c:=let⟨v,a,b⟩:=h;⟨v,a,k v b⟩
@[simp] theorem Zg {p q:Prop}:Br (.bool true) p q↔p:=⟨fun⟨b,h,k,_⟩=>by cases h;exact k rfl,fun k=>⟨true,rfl,fun _=>k,by simp⟩⟩
@[simp] theorem T1 {p q:Prop}:Br (.bool false) p q↔q:=⟨fun⟨b,h,_,k⟩=>by cases h;exact k rfl,fun k=>⟨false,rfl,by simp,fun _=>k⟩⟩
theorem Ik {b:Bool} {p q:Prop} (a:b=true->p) (c:b=false->q):Br (.bool b) p q:=⟨b,rfl,a,c⟩
@[congr] theorem me {v v':Value} {p q:Prop} (h:v=v'):Br v p q↔Br v' p q:=by rw[h]
def nZ (c a b:Value):Option Value:=match c with
 |.bool t=>some (if t then a else b)
 |_=>none
def vH (h:AH) (p:Value):Option Value:=match p with
 |.pointer (some a)=>if a.spot.isSome then none else
  (match h.get a.block with
  |some (.cells c _ _ _)=>c[a.off]?
  |_=>none)
 |_=>none
def sW (h:AH) (n:Nat) (p:Value):Option Value:=match p with
 |.pointer (some a)=>(aT h a n).map fun l=> .agg ⟨l⟩
 |_=>none
def uH (p:Value):Option Value:=match p with
 |.pointer (some a)=>some (.pointer (some a))
 |.func (.func f) a b=>some (.func (.func f) a b)
 |.func (.yield f) a b=>some (.func (.yield f) a b)
 |_=>none
def Kq (op:UnOp) (x:Value):Option Value:=match op,x with
 |.neg,.int k n=>some (.int k (k.wrap (0 - n)))
 |.not,.bool b=>some (.bool !b)
 |_,_=>none
def jL (k:IntKind) (x:Value):Option Value:=match x with
 |.int _ n=>some (.int k (k.wrap n))
 |_=>none
def mP (x:Value):Option Value:=match x with
 |.string z=>some (.string z)
 |_=>none
def qF (n:Nat) (p:Value):Option Value:=match p with
 |.pointer (some a)=>some (.pointer (some (a.add n)))
 |_=>none
def mL (a:Nat) (x:Value):Option Value:=match x with
 |.agg b=>b.toList[a]?
 |_=>none
def mI (a n:Nat) (x:Value):Option Value:=match x with
 |.agg b=>if a+n<=b.toList.length then some (.agg ⟨(b.toList.drop a).take n⟩) else none
 |_=>none
def oK (n b:Nat) (x i:Value):Option Value:=match x,i with
 |.pointer (some a),.int _ i=>if 0<=i/\i<n then some (.pointer (some (a.add (i.toNat*b)))) else none
 |_,_=>none
def kK (b:Nat) (x i:Value):Option Value:=match x,i with
 |.slice (some a) n _,.int _ i=>if 0<=i/\i<n/\a.spot=none then some (.pointer (some (a.add (i.toNat*b)))) else none
 |_,_=>none
def Ku (n b:Nat) (x i:Value):Option Value:=match x,i with
 |.agg a,.int _ i=>if 0<=i/\i<n then a.toList[i.toNat*b]? else none
 |_,_=>none
def P1 (n a:Nat) (x i:Value):Option Value:=match x,i with
 |.agg b,.int _ i=>if 0<=i/\i<n/\i.toNat*a+a<=b.toList.length then some (.agg ⟨(b.toList.drop (i.toNat*a)).take a⟩) else none
 |_,_=>none
def Pn (x i:Value):Option Value:=match x,i with
 |.string s,.int _ i=>if 0<=i then(s[i.toNat]?).map fun b=> .int .u8 b.toNat else none
 |_,_=>none
def sB (i:Nat) (t:Value):Option Value:=match t with
 |.tuple a=>a.toList[i]?
 |_=>none
def vI (h:AH) (n:Nat) (p v:Value):Option AH:=match p with
 |.pointer (some a)=>(match dS v with
  |some b=>if b.length=n then bL h a b else none
  |none=>none)
 |_=>none
def hQ (e:TypeId) (v:Value):Option hZ:=(dS v).map fun l=> .cells l e (0,0) true
def yK (bytes:Nat) (l c:Value):Option (Nat×Nat):=match l,c with
 |.int _ l,.int _ c=>if 0<=l/\l<=c/\c<=2^40/\bytes*c<=2^47 then some (l.toNat,c.toNat) else none
 |_,_=>none
def jS (cells:List Value):List (Nat×Nat×Value)->Option (List Value)
 |[]=>some cells
 |(a,size,v)::rest=>match dS v with
  |some b=>if b.length=size/\a+b.length<=cells.length then jS (aQ cells a b) rest else none
  |none=>none
def pJ (place:Nat->Option (Nat×Nat)) (b:Operand->Value):List (Nat×Operand)->Option (List (Nat×Nat×Value))
 |[]=>some []
 |(i,x)::rest=>match place i,pJ place b rest with
  |some (a,size),some l=>some ((a,size,b x)::l)
  |_,_=>none
theorem uC {place:Nat->Option (Nat×Nat)} {b:Operand->Value}:∀{a:List (Nat×Operand)} {l:List (Nat×Nat×Value)} {cells:List Value},pJ place b a=some l->vE place cells (a.map fun p=>(p.1,b p.2))=jS cells l
 |[],l,cells,h=>by simp only[pJ,Option.some.injEq] at h;subst h;rfl
 |(i,x)::rest,l,cells,h=>by
  simp only[pJ] at h;split at h;rename_i e size f c d;cases h;simp only[List.map_cons,vE,jS,c];cases hc:dS (b x) with
  |none=>rfl
  |some g=>
   simp only;split;exact uC d;rfl
  cases h
def sL (g:Nat) (h:AH) (x:Value) (f e d:Option Value):Option Value:=match x with
 |.slice none len b=>
  match lY d b b with
  |some m=>match(if e.isNone&&d.isSome then none else lY e len m) with
   |some c=>match lY f 0 c with
    |some l=>some (.slice none (c - l) (m - l))
    |none=>none
   |none=>none
  |none=>none
 |.slice (some a) len b=>
  match lY d b b with
  |some m=>match(if e.isNone&&d.isSome then none else lY e len m) with
   |some c=>match lY f 0 c with
    |some l=>
     if a.spot.isSome then(if len=0/\b=0 then some (if d.isSome then kC else cz) else none) else
     if c<=m then
      (if m=l then
       if d.isSome then some kC else
       match fX h a.block with
       |some true=>some kC
       |some false=>some (rC (a.add (l*g)))
       |none=>none
      else some (.slice (some (a.add (l*g))) (c - l) (m - l)))
     else none
    |none=>none
   |none=>none
  |none=>none
 |_=>none
def P0 (n f:Nat) (x:Value) (e c d:Option Value):Option Value:=match x with
 |.pointer (some a)=>
  match lY d n n with
  |some m=>match(if c.isNone&&d.isSome then none else lY c n m) with
   |some b=>match lY e 0 b with
    |some l=>if a.spot=none then some (.slice (some (if m=l then a else a.add (l*f))) (b - l) (m - l)) else none
    |none=>none
   |none=>none
  |none=>none
 |_=>none
def Ha (x:Value) (c b:Option Value):Option Value:=match x with
 |.string s=>
  match lY b s.size s.size with
  |some a=>match lY c 0 a with
   |some l=>some (.string (s.extract l a))
   |none=>none
  |none=>none
 |_=>none
def yC (P:Program) (K:FuncId->List Value->Option dU) (f:Value) (args:List Value) (h:AH) (Q:Value->AH->Prop):Prop:=match f with
 |.func (.func g) first a=>eA P g=true/\Ok P K (.call g (first.toList++args++a.toList)) h fun o b=>Q o.v b
 |.func (.yield l) first _=>Ok P K (.round l (first.toList++args)) h fun o b=>Q o.v b
 |_=>False
def nb (z:Value) (h:AH) (x ix:Value) (ok:Bool):Option Value:=match Sk h x,ix with
 |some a,.int k n=>match rF k n a 0 with
  |some (some (_,v))=>some (if ok then .tuple ⟨[v,.bool true]⟩ else v)
  |some none=>some (if ok then .tuple ⟨[z,.bool false]⟩ else z)
  |none=>none
 |_,_=>none
def eH (P:Program) (g:Operand->Value) (h:AH) (q:Value->Prop):Op->Prop
 |.move x=>q (g x)
 |.assign x=>q (g x)
 |.pick c a b=>aK (nZ (g c) (g a) (g b)) q
 |.build t m=>match zeroOf P t with
  |some z=>(match P.underlying t with
   |some (.struct p)=>if p.all (fun f=>(P.info? f.type).isSome) then(match pJ (fun i=>(p[i]?).map fun f=>(f.offset,P.cellsOf f.type)) g m.toList with
    |some l=>aK (jS z l) fun c=>q (.agg ⟨c⟩)
    |none=>False) else False
   |some (.array _ e)=>if(P.info? e).isSome then(match pJ (fun i=>some (i*P.cellsOf e,P.cellsOf e)) g m.toList with
    |some l=>aK (jS z l) fun c=>q (.agg ⟨c⟩)
    |none=>False) else False
   |_=>False)
  |none=>False
 |.load t a=>match eF P t with
  |some true=>aK (sW h (P.cellsOf t) (g a)) q
  |some false=>aK (vH h (g a)) q
  |none=>False
 |.nilCheck x=>aK (uH (g x)) q
 |.binOp op t x y _=>J4 P op t x y (g x) (g y) q aK
 |.unOp op _ x=>aK (Kq op (g x)) q
 |.convert s d x=>match P.underlying s with
  |some .string=>(match P.underlying d with
   |some (.int k)=>aK (jL k (g x)) q
   |some .string=>aK (mP (g x)) q
   |_=>False)
  |some (.slice e)=>(match P.underlying d with
   |some .string=>(match P.underlying e with
    |some (.int .u8)=>aK (strOf h (g x)) q
    |_=>False)
   |_=>False)
  |some _=>(match P.underlying d with
   |some (.int k)=>aK (jL k (g x)) q
   |_=>False)
  |none=>False
 |.makeInterface t x=>match P.underlying t with
  |some (.interface _)=>False
  |some _=>q (.iface t (g x))
  |none=>False
 |.makeFunc fn first j=>match fn with
  |.func f=>q (.func (.func f) (first.map g) (j.map g))
  |_=>False
 |.slice t x u r v=>match P.underlying t with
  |some (.slice e)=>if(P.info? e).isSome then aK (sL (P.cellsOf e) h (g x) (u.map g) (r.map g) (v.map g)) q else False
  |some (.array n e)=>if(P.info? e).isSome then aK (P0 n (P.cellsOf e) (g x) (u.map g) (r.map g) (v.map g)) q else False
  |some .string=>(match v with
   |none=>aK (Ha (g x) (u.map g) (r.map g)) q
   |some _=>False)
  |_=>False
 |.fieldAddr s x f=>match P.underlying s with
  |some (.struct p)=>(match p[f]? with
   |some fd=>if P.cellsOf fd.type=0 then False else aK (qF fd.offset (g x)) q
   |none=>False)
  |_=>False
 |.field t x f=>match P.underlying t with
  |some (.struct p)=>(match p[f]? with
   |some fd=>(match eF P fd.type with
    |some true=>aK (mI fd.offset (P.cellsOf fd.type) (g x)) q
    |some false=>aK (mL fd.offset (g x)) q
    |none=>False)
   |none=>False)
  |_=>False
 |.indexAddr t x i=>match P.underlying t with
  |some (.array n e)=>if(P.info? e).isSome then aK (oK n (P.cellsOf e) (g x) (g i)) q else False
  |some (.slice e)=>if(P.info? e).isSome then aK (kK (P.cellsOf e) (g x) (g i)) q else False
  |_=>False
 |.index t x i=>match P.underlying t with
  |some (.array n e)=>if(P.info? e).isSome then(match eF P e with
   |some true=>aK (P1 n (P.cellsOf e) (g x) (g i)) q
   |some false=>aK (Ku n (P.cellsOf e) (g x) (g i)) q
   |none=>False) else False
  |some .string=>aK (Pn (g x) (g i)) q
  |_=>False
 |.extract t i=>aK (sB i (g t)) q
 |.lookup t x ix ok=>match wI P t with
  |some e=>(match zeroV P e with
   |some z=>aK (nb z h (g x) (g ix) ok) q
   |none=>False)
  |none=>False
 |_=>False
theorem sF {H:Operand->Value} {h:AH} {q:Value->Prop} {op:Op} (b:eH P H h q op):kindOf op= .pW/\∃v,aH P H h op=some v/\q v:=by
 unfold eH at b;split at b;exact⟨rfl,_,rfl,b⟩;exact⟨rfl,_,rfl,b⟩;obtain⟨v,a,f⟩:=b;exact⟨rfl,v,a,f⟩;refine⟨rfl,?_⟩;split at b;rename_i z G;split at b;rename_i I s;split at b;rename_i p;split at b;rename_i l F;obtain⟨c,a,f⟩:=b;refine⟨_,?_,f⟩;simp only[aH,wQ,G,s,p,if_true];rw[uC F,a];rfl;cases b;cases b;rename_i e s;split at b;rename_i p;split at b;rename_i l F;obtain⟨c,a,f⟩:=b;refine⟨_,?_,f⟩;simp only[aH,wQ,G,s,p,if_true];rw[uC F,a];rfl;cases b;cases b;cases b;cases b;refine⟨rfl,?_⟩;split at b;rename_i n;obtain⟨v,a,f⟩:=b;refine⟨v,?_,f⟩;unfold sW at a;simp only[aH];split at a;rename_i g;rw[g];simp only[lS,n];exact a;cases a;rename_i n;obtain⟨v,a,f⟩:=b;refine⟨v,?_,f⟩;unfold vH at a;simp only[aH];split at a;rename_i g;rw[g];simp only[lS,n];exact a;cases a;cases b;obtain⟨v,a,f⟩:=b;exact⟨rfl,v,a,f⟩;obtain⟨v,a,f⟩:=J6 b;exact⟨rfl,v,a,f⟩;obtain⟨v,a,f⟩:=b;exact⟨rfl,v,a,f⟩;refine⟨rfl,?_⟩;split at b;rename_i i;split at b;rename_i u;obtain⟨v,a,f⟩:=b;refine⟨v,?_,f⟩;unfold jL at a;split at a;rename_i g;simp only[aH,i,u,g];exact a;cases a;rename_i u;obtain⟨v,a,f⟩:=b;refine⟨v,?_,f⟩;unfold mP at a;split at a;rename_i g;simp only[aH,i,u,g];exact a;cases a;cases b;rename_i i;split at b;rename_i u;split at b;rename_i g;obtain⟨v,a,f⟩:=b;refine⟨v,?_,f⟩;simp only[aH,i,u,g];exact a;cases b;cases b;rename_i i;split at b;rename_i u;obtain⟨v,a,f⟩:=b;refine⟨v,?_,f⟩;unfold jL at a;split at a;rename_i g;simp only[aH,i,u,g];exact a;cases a;cases b;cases b;refine⟨rfl,?_⟩;split at b;cases b;rename_i t x d J i;refine⟨_,?_,b⟩;simp only[aH];grind;cases b;split at b;exact⟨rfl,_,rfl,b⟩;cases b;refine⟨rfl,?_⟩;split at b;rename_i s;split at b;rename_i A;obtain⟨v,a,f⟩:=b;refine⟨v,?_,f⟩;unfold sL at a;split at a;rename_i w;simp only[aH,w,lQ,s,A,if_true];exact a;rename_i w;simp only[aH,w,lQ,s,A,true_and];exact a;cases a;cases b;rename_i s;split at b;rename_i A;obtain⟨v,a,f⟩:=b;refine⟨v,?_,f⟩;unfold P0 at a;split at a;rename_i w;simp only[aH,w,lQ,s,A,true_and];exact a;cases a;cases b;rename_i s;split at b;obtain⟨v,a,f⟩:=b;refine⟨v,?_,f⟩;unfold Ha at a;split at a;rename_i w;simp only[aH,w,lQ,s,Option.map_none,Option.isSome_none,Bool.false_eq_true,if_false];exact a;cases a;cases b;cases b;refine⟨rfl,?_⟩;split at b;rename_i i;split at b;rename_i y;split at b;cases b;rename_i r;obtain⟨v,a,f⟩:=b;refine⟨v,?_,f⟩;unfold qF at a;split at a;rename_i g;simp only[aH,i,g,y,r,if_false];exact a;cases a;cases b;cases b;refine⟨rfl,?_⟩;split at b;rename_i i;split at b;rename_i y;split at b;rename_i n;obtain⟨v,a,f⟩:=b;refine⟨v,?_,f⟩;unfold mI at a;split at a;rename_i g;simp only[aH,i,g,y,apart,n];exact a;cases a;rename_i n;obtain⟨v,a,f⟩:=b;refine⟨v,?_,f⟩;unfold mL at a;split at a;rename_i g;simp only[aH,i,g,y,apart,n];exact a;cases a;cases b;cases b;cases b;refine⟨rfl,?_⟩;split at b;rename_i i;split at b;rename_i j;obtain⟨v,a,f⟩:=b;refine⟨v,?_,f⟩;unfold oK at a;split at a;rename_i g m;split at a;rename_i r;simp only[aH,i,g,m,r,j,and_self,if_true];exact a;cases a;cases a;cases b;rename_i i;split at b;rename_i j;obtain⟨v,a,f⟩:=b;refine⟨v,?_,f⟩;unfold kK at a;split at a;rename_i g m;split at a;rename_i r;simp only[aH,i,g,m,r,j,and_self,if_true];exact a;cases a;cases a;cases b;cases b;refine⟨rfl,?_⟩;split at b;rename_i i;split at b;rename_i j;split at b;rename_i n;obtain⟨v,a,f⟩:=b;refine⟨v,?_,f⟩;unfold P1 at a;split at a;rename_i g m;split at a;rename_i r;have C:=r.1;have D:=r.2.1;have E:=r.2.2;simp only[aH,i,g,m,C,D,j,and_self,if_true,apart,n,E];exact a;cases a;cases a;rename_i n;obtain⟨v,a,f⟩:=b;refine⟨v,?_,f⟩;unfold Ku at a;split at a;rename_i g m;split at a;rename_i r;simp only[aH,i,g,m,r,j,and_self,if_true,apart,n];exact a;cases a;cases a;cases b;cases b;rename_i i;obtain⟨v,a,f⟩:=b;refine⟨v,?_,f⟩;unfold Pn at a;split at a;rename_i g m;simp only[aH,i,g,m];exact a;cases a;cases b;obtain⟨v,a,f⟩:=b;exact⟨rfl,v,a,f⟩;refine⟨rfl,?_⟩;split at b;rename_i e g;split at b;rename_i z G;obtain⟨v,a,f⟩:=b;refine⟨v,?_,f⟩;unfold nb at a;simp only[aH,mD,g];grind;cases b;cases b;cases b
end
end Go.Ab
end
section
namespace Go.Ab
noncomputable section
variable {P:Program} {K:FuncId->List Value->Option dU}
def rX (x:Value):Option Value:=match x with
 |.string s=>some (.int .i64 s.size)
 |_=>none
def eO (x:Value):Option Value:=match x with
 |.slice _ n _=>some (.int .i64 n)
 |_=>none
def X1 (h:AH) (x:Value):Option Value:=(Sk h x).map fun a=> .int .i64 a.length
def sA (x y:Value):Option Value:=match x,y with
 |.int k x,.int _ y=>some (.int k (if y<x then y else x))
 |_,_=>none
def sN (x y:Value):Option Value:=match x,y with
 |.int k x,.int _ y=>some (.int k (if y>x then y else x))
 |_,_=>none
def gF (i bytes:Nat) (e:TypeId) (h:AH) (s x:Value):Option (Value×AH):=
 match s,pT x with
 |.slice f b d,some n=>
  match dM h i n x with
  |some new=>
   if !new.all cT||new.length !=n*i then none else
   if b+n<=d then
    match f with
    |none=>if n=0 then some (s,h) else none
    |some a=>if n=0 then some (s,h) else if a.spot.isSome then none else
     (bL h (a.add (b*i)) new).map fun m=>(.slice f (b+n) d,m)
   else if(b+n)*(bytes+1)<=2^46 then
    match f with
    |none=>if b=0 then some (.slice (some ⟨h.next,0,none⟩) n n,h.alloc (.cells new e (0,0) false)) else none
    |some a=>
     if a.spot=some 1 then(if b=0 then some (.slice (some ⟨h.next,0,none⟩) n n,h.alloc (.cells new e (0,0) false)) else none) else
     if a.spot=some 2 then
      (match h.get a.block with
      |some (.cells c j l _)=>
       if j=e/\h.base<=a.block/\l=(0,0)/\a.off<=c.length/\b=0/\d=0 then
        some (.slice (some ⟨h.next,0,none⟩) n n,(h.set a.block none).alloc (.cells new e (0,0) false))
       else none
      |_=>none) else
     match aT h a (b*i),h.get a.block with
     |some g,some (.cells c j l x)=>
      if !g.all cT then none else
      if x then some (.slice (some ⟨h.next,0,none⟩) (b+n) (b+n),h.alloc (.cells (g++new) e (0,0) false))
      else if j=e/\h.base<=a.block/\l=(0,0)/\a.off+d*i<=c.length then
       some (.slice (some ⟨h.next,0,none⟩) (b+n) (b+n),(h.set a.block none).alloc (.cells (g++new) e (0,0) false))
      else none
     |_,_=>none
   else none
  |_=>none
 |_,_=>none
def copyV (f:Nat) (h:AH) (d x:Value):Option (Value×AH):=
 match d,pT x with
 |.slice c b _,some m=>
   match dM h f (Nat.min m b) x with
   |some new=>match c with
    |none=>some (.int .i64 (Nat.min m b:Nat),h)
    |some a=>if Nat.min m b=0 then some (.int .i64 0,h) else(bL h a new).map fun e=>(.int .i64 (Nat.min m b:Nat),e)
   |none=>none
 |_,_=>none
def iP (z:List Value) (h:AH) (x:Value):Option (Value×AH):=
 match x with
 |.slice none _ _=>some (.tuple #[],h)
 |.slice (some a) n _=>
   if n=0 then some (.tuple #[],h) else(bL h a (cS z n)).map fun b=>(.tuple #[],b)
 |_=>none
def Of (h:AH) (m b v:Value):Option AH:=match m,b with
 |.map (some r),.int k n=>if r<h.base then none else match h.get r with
  |some (.map c a)=>(fy k n v c a).map fun o=>h.set r (some o)
  |_=>none
 |_,_=>none
def Pz (h:AH) (m c:Value):Option AH:=match m,c with
 |.map (some r),.int k n=>if r<h.base then none else match h.get r with
  |some (.map b a)=>match rF k n b 0 with
   |some (some (i,_))=>some (h.set r (some (.map (b.eraseIdx i) a)))
   |some none=>some (h.set r (some (.map b a)))
   |none=>none
  |_=>none
 |_,_=>none
theorem We {h:AH} {t e:TypeId} {m a v:Value} {h':AH} (c:wI P t=some e) (b:Of h m a v=some h'):rK P h t m a v=some h':=by
 unfold Of at b;split at b;simp only[rK,c];exact b;cases b
theorem Ss {h:AH} {t e:TypeId} {m a:Value} {h':AH} (c:wI P t=some e) (b:Pz h m a=some h'):uN P h t m a=some h':=by
 unfold Pz at b;split at b;simp only[uN,c];exact b;cases b
def cg (x:Value):Option Value:=match x with
 |.slice none _ c=>some (.int .i64 c)
 |_=>none
def nL (P:Program) (h:AH) (q:Value->AH->Prop) (a:Array TypeId):Builtin->List Value->Prop
 |.len,[x]=>match(a[0]?).bind P.underlying with
  |some .string=>aK (rX x) fun v=>q v h
  |some (.slice _)=>aK (eO x) fun v=>q v h
  |some (.array n _)=>q (.int .i64 n) h
  |some (.pointer e)=>(match P.underlying e with
   |some (.array n _)=>q (.int .i64 n) h
   |_=>False)
  |some (.map _ _)=>aK (X1 h x) fun v=>q v h
  |_=>False
 |.append,[s,x]=>match(a[0]?).bind P.underlying with
  |some (.slice e)=>if yX P a/\(zeroOf P e).isSome then aK (gF (P.cellsOf e) (P.bytesOf e) e h s x) fun r=>q r.1 r.2 else False
  |_=>False
 |.copy,[d,x]=>match(a[0]?).bind P.underlying with
  |some (.slice e)=>if(P.info? e).isSome then aK (copyV (P.cellsOf e) h d x) fun r=>q r.1 r.2 else False
  |_=>False
 |.clear,[x]=>match(a[0]?).bind P.underlying with
  |some (.slice e)=>(match zeroOf P e with
   |some z=>aK (iP z h x) fun r=>q r.1 r.2
   |none=>False)
  |_=>False
 |.min,[x,y]=>aK (sA x y) fun v=>q v h
 |.max,[x,y]=>aK (sN x y) fun v=>q v h
 |.delete,[m,k]=>(match a[0]? with
  |some t=>(match wI P t with
   |some _=>aK (Pz h m k) fun b=>q (.tuple #[]) b
   |none=>False)
  |none=>False)
 |.cap,[x]=>match(a[0]?).bind P.underlying with
  |some (.slice _)=>aK (cg x) fun v=>q v h
  |_=>False
 |_,_=>False
theorem pY {h:AH} {q:Value->AH->Prop} {at_:Array TypeId} {b:Builtin} {args:List Value} (c:nL P h q at_ b args):∃v g,bY P h b at_ args=some (v,g)/\q v g:=by
 unfold nL at c;split at c;split at c;rename_i d;obtain⟨v,a,f⟩:=c;refine⟨v,h,?_,f⟩;unfold rX at a;split at a;simp only[bY,d];cases a;rfl;cases a;rename_i d;obtain⟨v,a,f⟩:=c;refine⟨v,h,?_,f⟩;unfold eO at a;split at a;simp only[bY,d];cases a;rfl;cases a;rename_i d;refine⟨_,h,?_,c⟩;simp only[bY,d];rename_i d;split at c;rename_i l;refine⟨_,h,?_,c⟩;simp only[bY,d,l];cases c;rename_i d;obtain⟨v,a,f⟩:=c;refine⟨v,h,?_,f⟩;unfold X1 at a;cases hm:Sk h _ with
 |none=>rw[hm] at a;cases a
 |some s=>rw[hm] at a;cases a;simp only[bY,d,hm];rfl
 cases c;split at c;rename_i e d;split at c;rename_i i;obtain⟨⟨v,g⟩,a,f⟩:=c;refine⟨v,g,?_,f⟩;obtain⟨z,m⟩:=Option.isSome_iff_exists.1 i.2;unfold gF at a;split at a;rename_i j;simp only[bY,yH,d,j,i.1,m,Bool.not_true,Bool.false_eq_true,if_false];split at a;rename_i r;rw[r];exact a;cases a;cases a;cases c;cases c;split at c;rename_i e d;split at c;rename_i i;obtain⟨⟨v,g⟩,a,f⟩:=c;refine⟨v,g,?_,f⟩;unfold copyV at a;split at a;rename_i j;have p:(P.info? e).isNone=false:=by simp_all
 simp only[bY,d,j,p,Bool.false_eq_true,if_false];exact a;cases a;cases c;cases c;split at c;rename_i e d;split at c;rename_i z m;obtain⟨⟨v,g⟩,a,f⟩:=c;refine⟨v,g,?_,f⟩;unfold iP at a;split at a;simp only[bY,d];exact a;simp only[bY,d,m];exact a;cases a;cases c;cases c;obtain⟨v,a,f⟩:=c;refine⟨v,h,?_,f⟩;unfold sA at a;split at a;simp only[bY];cases a;rfl;cases a;obtain⟨v,a,f⟩:=c;refine⟨v,h,?_,f⟩;unfold sN at a;split at a;simp only[bY];cases a;rfl;cases a;split at c;rename_i t d;split at c;rename_i e n;obtain⟨g,a,f⟩:=c;exact⟨_,g,by simp only[bY,d,Ss n a];rfl,f⟩;cases c;cases c;split at c;rename_i d;obtain⟨v,a,f⟩:=c;refine⟨v,h,?_,f⟩;unfold cg at a;split at a;simp only[bY,d];exact congrArg (Option.map fun v=>(v,h)) a;cases a;cases c;cases c
def rV (P:Program) (K:FuncId->List Value->Option dU) (d:Operand->Value) (h:AH) (q:Value->AH->Prop):Op->Prop
 |.store t a x=>if(P.info? t).isSome then aK (vI h (P.cellsOf t) (d a) (d x)) fun e=>q undef e else False
 |.call c=>match c.callee with
  |.builtin b=>nL P h q c.argTypes b (c.args.toList.map d)
  |.value (.func g)=>if eA P g then Ok P K (.call g (c.args.toList.map d)) h fun o e=>q o.v e else False
  |.value f=>yC P K (d f) (c.args.toList.map d) h q
  |.invoke _ _=>False
 |.mapUpdate t m k x=>match wI P t with
  |some _=>aK (Of h (d m) (d k) (d x)) fun e=>q undef e
  |none=>False
 |_=>False
theorem R9 {f:Value} {args:List Value} {h:AH} {q:Value->AH->Prop} (b:yC P K f args h q):
  ∃n v c,(match f with
   |.func (.func g) first a=>if eA P g then(run P K n (.call g (first.toList++args++a.toList)) h).map fun r=>(r.1.v,r.2) else none
   |.func (.yield l) first _=>(run P K n (.round l (first.toList++args)) h).map fun r=>(r.1.v,r.2)
   |_=>none)=some (v,c)/\q v c:=by
 unfold yC at b
 split at b
 .obtain⟨i,n,r,d,e⟩:=b;grind
 .obtain⟨n,r,d,e⟩:=b;grind
 .cases b
theorem mS {m:Operand->Value} (t:∀g,m (.func g)= .func (.func g) #[] #[]) {h:AH} {q:Value->AH->Prop} {op:Op} (b:rV P K m h q op):
  (kindOf op= .store\/kindOf op= .call)/\∃n v i,bQ P (run P K n) m h op=some (v,i)/\q v i:=by
 unfold rV at b
 split at b
 .refine⟨.inl rfl,?_⟩;split at b
  .rename_i l;obtain⟨i,d,j⟩:=b;refine⟨0,undef,i,?_,j⟩;unfold vI at d;split at d
   .rename_i s;split at d
    .rename_i p;split at d
     .rename_i u;simp only[bQ,s,Bl,p,u,l,and_self,if_true,d];rfl
     .cases d
    .cases d
   .cases d
  .cases b
 .rename_i c;refine⟨.inr rfl,?_⟩;split at b
  .rename_i a;obtain⟨v,i,d,j⟩:=pY b;refine⟨0,v,i,?_,j⟩;simp only[bQ,a,d]
  .rename_i a;split at b
   .rename_i p;obtain⟨n,r,d,j⟩:=b;refine⟨n,_,_,?_,j⟩;simp only[bQ,a,t,p,if_true];grind
   .cases b
  .rename_i f w a;obtain⟨n,v,i,d,j⟩:=R9 b;refine⟨n,v,i,?_,j⟩;simp only[bQ,a];exact d
  .cases b
 .refine⟨.inl rfl,?_⟩;split at b
  .rename_i e s;obtain⟨i,d,j⟩:=b;exact⟨0,undef,i,by simp only[bQ,We s d];rfl,j⟩
  .cases b
 .cases b
def Sl (l c i:Nat):Value:= .slice (some ⟨i,0,none⟩) l c
def gm (i:Nat):Value:= .pointer (some ⟨i,0,none⟩)
def Cx (i:Nat):Value:= .map (some i)
def rR (P:Program) (d:Operand->Value) (q:hZ->(Nat->Value)->Prop):Op->Prop
 |.alloc e=>match zeroOf P e with
  |some z=>q (.cells z e (0,0) true) gm
  |none=>False
 |.box e x=>aK (hQ e (d x)) fun b=>q b gm
 |.buildSlice t len a=>match P.underlying t with
  |some (.slice e)=>(match zeroOf P e with
   |some z=>if len*P.cellsOf e<=2^24 then(match pJ (fun i=>some (i*P.cellsOf e,P.cellsOf e)) d a.toList with
    |some f=>aK (jS (cS z len) f) fun l=>q (.cells l e (0,0) true) (Sl len len)
    |none=>False) else False
   |none=>False)
  |_=>False
 |.makeSlice t l c=>match P.underlying t with
  |some (.slice e)=>(match zeroOf P e with
   |some z=>aK (yK (P.bytesOf e) (d l) (d c)) fun n=>q (.cells (cS z n.2) e (0,0) true) (Sl n.1 n.2)
   |none=>False)
  |_=>False
 |.makeMap _t none=>q (.map [] 0) Cx
 |.makeMap t (some x)=>match P.underlying t with
  |some (.map _ _)=>∃k n,d x= .int k n/\q (.map [] 0) Cx
  |_=>False
 |_=>False
theorem sJ {m:Operand->Value} {q:hZ->(Nat->Value)->Prop} {op:Op} (a:rR P m q op):kindOf op= .alloc/\∃b f,bT P m op=some (b,f)/\q b f:=by
 unfold rR at a;split at a;refine⟨rfl,?_⟩;split at a;rename_i g;exact⟨_,_,by simp only[bT,g];rfl,a⟩;cases a;refine⟨rfl,?_⟩;obtain⟨b,c,d⟩:=a;refine⟨b,gm,?_,d⟩;unfold hQ at c;simp only[Option.map_eq_some_iff] at c;obtain⟨l,c,rfl⟩:=c;simp only[bT,c];rfl;refine⟨rfl,?_⟩;split at a;rename_i e;split at a;rename_i g;split at a;rename_i i;split at a;rename_i s j;obtain⟨l,c,d⟩:=a;refine⟨_,_,?_,d⟩;simp only[bT,e,g,i,if_true];rw[uC j,c];rfl;cases a;cases a;cases a;cases a;refine⟨rfl,?_⟩;split at a;rename_i e;split at a;rename_i g;obtain⟨n,c,d⟩:=a;refine⟨_,_,?_,d⟩;unfold yK at c;split at c;rename_i p r;split at c;rename_i i;cases c;simp only[bT,e,p,r,g,i,and_self,if_true];rfl;cases c;cases c;cases a;cases a;exact⟨rfl,_,_,rfl,a⟩;refine⟨rfl,?_⟩;split at a;rename_i e;obtain⟨k,n,c,d⟩:=a;exact⟨_,_,by simp only[bT,e,c];rfl,d⟩;cases a;cases a
end
end Go.Ab
end
section
namespace Go.Ab
noncomputable section
variable {P:Program} {K:FuncId->List Value->Option dU}
abbrev Cq:=List (Tmp×Option Bool)
def qy:Option Bool->Value
 |some b=> .bool b
 |none=>undef
def Cq.drop (d:Cq) (t:Option Tmp):Cq:=match t with
 |some t=>d.filter fun x=>x.1 !=t
 |none=>d
def Cq.ok (d:Cq) (env:List Value):Prop:=∀t b,(t,b)∈d->env[t]?=some (qy b)
def N6 (iR:Nat->Option Tmp) (env:List Value) (dec:Cq) (g:Option (Nat×Bool)) (p:Bool->List Value->Cq->Prop):Prop:=
 match g with
 |none=>p true env dec
 |some (j,want)=>match iR j with
  |none=>False
  |some d=>match dec.lookup d with
   |some (some b)=>p (b==want) env dec
   |some none=>p false env dec
   |none=>Br (env.getD d undef) (p (true==want) (env.set d (.bool true)) ((d,some true)::dec)) (p (false==want) (env.set d (.bool false)) ((d,some false)::dec))
def tX (h:AH) (b:hZ) (p:Nat->AH->Prop):Prop:=p h.next (h.alloc b)
def iM (h:AH) (r:Nat) (b:hZ) (p:Nat->AH->Prop):Prop:=p r (h.set r (some b))
def oB (h:AH) (n:Nat) (p:Nat->AH->Prop):Prop:=p h.next {h with next:=h.next+n}
def wpOp (P:Program) (K:FuncId->List Value->Option dU) (env:List Value) (h:AH) (q:Value->AH->Prop) (op:Op):Prop:=
 match kindOf op with
 |.pW=>eH P (bA P env) h (fun v=>q v h) op
 |.alloc=>rR P (bA P env) (fun b f=>tX h b fun i a=>q (f i) a) op
 |.store|.call=>rV P K (bA P env) h q op
 |.other=>False
theorem Lp {env:List Value} {h:AH} {q:Value->AH->Prop} {op:Op} (a:wpOp P K env h q op):∃n v e,fL P (run P K n) env h op=some (v,e)/\q v e:=by
 unfold wpOp at a;cases hk:kindOf op with
 |pW=>
  simp only[hk] at a;obtain⟨_,v,c,d⟩:=sF a;exact⟨0,v,h,by simp only[fL,hk,c];rfl,d⟩
 |alloc=>
  simp only[hk] at a;obtain⟨_,b,f,c,d⟩:=sJ a;exact⟨0,_,_,by simp only[fL,hk,c];rfl,d⟩
 |store=>
  simp only[hk] at a;obtain⟨_,n,v,e,c,d⟩:=mS (fun g=>rfl) a;exact⟨n,v,e,by simp only[fL,hk,c],d⟩
 |call=>
  simp only[hk] at a;obtain⟨_,n,v,e,c,d⟩:=mS (fun g=>rfl) a;exact⟨n,v,e,by simp only[fL,hk,c],d⟩
 |other=>simp only[hk] at a
def Z5 (env:List Value) (d:Option Tmp):Bool:=match d with
 |some d=>decide (d<env.length)
 |none=>true
def Vp (dec:Cq) (op:Op):Option Operand:=match op with
 |.pick (.tmp c) a b=>(match dec.lookup c with
  |some (some true)=>some a
  |some (some false)=>some b
  |_=>none)
 |.move x=>some x
 |.assign x=>some x
 |_=>none
def U9 (dec:Cq) (x:Operand):Option Bool:=match x with
 |.const (.bool y)=>some y
 |.tmp t=>(match dec.lookup t with
  |some (some y)=>some y
  |_=>none)
 |_=>none
def Cq.put (dec:Cq) (dst:Option Tmp) (x:Operand):Cq:=match dst,U9 dec x with
 |some d,some y=>(d,some y)::dec.drop (some d)
 |d,_=>dec.drop d
def Cq.skip (dec:Cq) (env:List Value) (dst:Option Tmp):Cq:=match dst with
 |some d=>if d<env.length then(d,none)::dec.drop (some d) else dec.drop (some d)
 |none=>dec
def wpOps (P:Program) (K:FuncId->List Value->Option dU) (iR:Nat->Option Tmp):List Oper->List Value->AH->Cq->(List Value->AH->Cq->Prop)->Prop
 |[],env,h,dec,q=>q env h dec
 |o::a,env,h,dec,q=>N6 iR env dec o.guard fun b env dec=>
  match b with
  |true=>(match Vp dec o.op with
   |some x=>wpOps P K iR a (eE env o.dst (bA P env x)) h (if Z5 env o.dst then dec.put o.dst x else dec.drop o.dst) q
   |none=>wpOp P K env h (fun v c=>wpOps P K iR a (eE env o.dst v) c (dec.drop o.dst) q) o.op)
  |false=>wpOps P K iR a (eE env o.dst undef) h (dec.skip env o.dst) q
def q8 (P:Program) (h:AH) (q:Value->Prop) (a:Array TypeId):Builtin->List Value->Prop
 |.len,[x]=>match(a[0]?).bind P.underlying with
  |some .string=>aK (rX x) q
  |some (.slice _)=>aK (eO x) q
  |some (.array n _)=>q (.int .i64 n)
  |some (.pointer e)=>(match P.underlying e with
   |some (.array n _)=>q (.int .i64 n)
   |_=>False)
  |some (.map _ _)=>aK (X1 h x) q
  |_=>False
 |.min,[x,y]=>aK (sA x y) q
 |.max,[x,y]=>aK (sN x y) q
 |_,_=>False
def iz (P:Program) (a:Operand->Value) (h:AH) (q:Value->Prop):Op->Prop
 |.call c=>match c.callee with
  |.builtin b=>q8 P h q c.argTypes b (c.args.toList.map a)
  |_=>False
 |op=>eH P a h q op
structure DR where
 env:List Value
 h:AH
 v:Value
 iq:Bool
def jq (P:Program) (K:FuncId->List Value->Option dU) (r:Nat) (env:List Value) (h:AH) (q:Value->AH->Prop) (op:Op):Prop:=
 match dD op with
 |true=>iz P (bA P env) h (fun v=>q v h) op
 |false=>match kindOf op with
  |.alloc=>rR P (bA P env) (fun b f=>iM h r b fun i a=>q (f i) a) op
  |_=>rV P K (bA P env) h q op
def yO (P:Program) (K:FuncId->List Value->Option dU) (iR:Nat->Option Tmp):Nat->List Oper->List Value->AH->Cq->List DR->(List DR->List Value->AH->Cq->Prop)->Prop
 |_,[],env,h,dec,a,q=>q a env h dec
 |r,o::c,env,h,dec,a,q=>N6 iR env dec o.guard fun b env dec=>
  match b with
  |true=>(match Vp dec o.op with
   |some x=>yO P K iR (r+1) c (eE env o.dst (bA P env x)) h (if Z5 env o.dst then dec.put o.dst x else dec.drop o.dst) (a++[⟨env,h,bA P env x,true⟩]) q
   |none=>jq P K r env h (fun v d=>yO P K iR (r+1) c (eE env o.dst v) d (dec.drop o.dst) (a++[⟨env,h,v,true⟩]) q) o.op)
  |false=>yO P K iR (r+1) c (eE env o.dst undef) h (dec.skip env o.dst) (a++[⟨env,h,undef,false⟩]) q
def df (P:Program) (all:List Oper) (rs:List DR) (hEnd:AH):List (Nat×Nat)->Prop->Prop
 |[],p=>p
 |(i,s)::a,p=>match all[i]? with
  |some o=>(match rs[i]? with
   |some r=>(match r.iq with
    |true=>iz P (bA P r.env) (match rs[s]? with|some q=>q.h|none=>hEnd) (fun v=>mA v r.v=true) o.op/\df P all rs hEnd a p
    |false=>df P all rs hEnd a p)
   |none=>False)
  |none=>False
def fp (P:Program) (K:FuncId->List Value->Option dU) (ops:Array Oper) (env:List Value) (h:AH) (q:List Value->AH->Cq->Prop):Prop:=
 if vS ops.toList&&(P.follows .mixedOrders|| !Region.departs ops) then
  oB h ops.size fun r c=>yO P K (fun j=>(ops[j]?).bind (·.dst)) r ops.toList env c [] [] fun d a b dec=>df P ops.toList d b (tJ ops.toList) (q a b dec)
 else False
end
end Go.Ab
end
section
namespace Go.Ab
noncomputable section
variable {P:Program} {K:FuncId->List Value->Option dU}
section
variable {fn:FuncId} {ro:Option Nat} {ds:List Nat} {env:List Value} {k:List Item} {h:AH} {Q:Out->AH->Prop}
theorem tV {t t':Task} {h':AH} (c:∀n,run P K (n+1) t h=run P K n t' h') (d:Ok P K t' h' Q):Ok P K t h Q:=by
 obtain⟨n,r,a,b⟩:=d;exact⟨n+1,r,by rw[c];exact a,b⟩
theorem Fe {c:Operand} {t e:Code} (g:Br (bA P env c) (Ok P K (.todo fn ro ds env (.code t::k)) h Q) (Ok P K (.todo fn ro ds env (.code e::k)) h Q)):
  Ok P K (.todo fn ro ds env (.code (.cond c t e)::k)) h Q:=by
 obtain⟨b,a,f,d⟩:=g
 cases b with
 |true=>exact tV (t':= .todo fn ro ds env (.code t::k)) (fun n=>by show bP _ _ _ _ _ _ _ _=_;simp only[bP,a,if_true]) (f rfl)
 |false=>exact tV (t':= .todo fn ro ds env (.code e::k)) (fun n=>by show bP _ _ _ _ _ _ _ _=_;simp[bP,a]) (d rfl)
end
def fP (h:AH) (l:Nat):Option AH:=match h.get l with
 |some (.loop .ready _ _ _ _ _ _ _)=>aY h l .busy none
 |_=>none
def mZ (h:AH) (l:Nat):Option (Option Code×AH):=match h.get l with
 |some (.loop st p _ _ _ _ _ _)=>if st= .busy then none else(aY h l .exhausted none).map fun a=>(p,a)
 |_=>none
def eD (h:AH) (l:Nat):Option Nat:=match h.get l with
 |some (.loop _ _ _ _ _ _ _ d)=>some d
 |_=>none
def Lu (P:Program) (K:FuncId->List Value->Option dU) (f:Value) (l:Nat) (h:AH) (q:Value->AH->Prop):Prop:=match f with
 |.func (.func g) first a=>eA P g=true/\Ok P K (.call g (first.toList++[.func (.yield l) #[] #[]]++a.toList)) h fun o b=>q o.v b
 |_=>False
def jE:Code->Option Nat
 |.region id _ _=>some id
 |.seq a b=>(match jE a with
  |some r=>some r
  |none=>jE b)
 |.block _ b=>jE b
 |.loop b=>jE b
 |.scope b=>jE b
 |_=>none
def keyOf:List Item->Option Nat
 |.code c::k=>(match jE c with
  |some r=>some r
  |none=>keyOf k)
 |.inLoop c::k=>(match jE c with
  |some r=>some r
  |none=>keyOf k)
 |_::k=>keyOf k
 |[]=>none
def dX:Code->List Nat
 |.exit id=>[id]
 |.seq a b=>dX a++dX b
 |.cond _ t e=>dX t++dX e
 |.block id b=>(dX b).filter (·!=id)
 |.loop b=>dX b
 |.scope b=>dX b
 |.rangeFunc _ _ a b=>dX a++dX b
 |_=>[]
def nO (p:Option Code) (a b:Prop) (c:List (Nat×Prop)):Prop:=match p with
 |none=>a
 |some .ret=>b
 |some (.exit id)=>(match c.lookup id with
  |some q=>q
  |none=>False)
 |_=>False
def zC (P:Program) (K:FuncId->List Value->Option dU) (fn:FuncId) (f:Value) (n:Nat) (lv:List Nat) (vs:List Value) (ps:Array Tmp) (assign a:Code) (d:Nat) (h:AH) (q:Option Code->AH->Prop):Prop:=
 ∀e:Nat->Value,lv.map e=vs->tX h (.loop .ready none fn ((List.range n).map e) ps assign a d) fun l b=>Lu P K f l b fun _ c=>aK (mZ c l) fun r=>q r.1 r.2
def Fi (L:List (Option Nat×List Nat)) (k:List Item):List Nat:=(L.lookup (keyOf k)).getD []
def gM:Nat->List Item->List Item
 |0,k=>k
 |n+1,k=>match k with
  |.code c::d=>(match c with
   |.skip=>gM n d
   |.label _=>gM n d
   |.seq a b=>gM n (.code a:: .code b::d)
   |.block id b=>gM n (.code b:: .inBlock id::d)
   |.scope b=>gM n (.code b:: .inScope b::d)
   |.loop b=>gM n (.code b:: .inLoop b::d)
   |.exit id=>(match exitTo id d with
    |some e=>gM n e
    |none=>k)
   |_=>k)
  |.inBlock _::d=>gM n d
  |.inScope _::d=>gM n d
  |.inLoop b::d=>gM n (.code b:: .inLoop b::d)
  |_=>k
def az:List Item->Bool
 |[]=>true
 |.code .ret::_=>true
 |.code (.exit _)::_=>true
 |_=>false
def short (k:List Item):Bool:=match gM 60 k with
 |.code (.region _ _ _)::a=>az (gM 60 a)
 |a=>az a
def Ch (P:Program) (K:FuncId->List Value->Option dU) (E:List Nat->List Value->List Item->AH->Prop) (F:nW->List Nat->List Value->AH->Prop) (L:List (Option Nat×List Nat)) (fn:FuncId) (ro:Option Nat):
  Nat->Cq->List Nat->List Value->List Item->AH->Prop
 |0,_,ds,env,k,h=>E ds env k h
 |n+1,dec,ds,env,k,h=>
  match k with
  |[]=>F .eM ds env h
  |.code c::k=>
   (match c with
   |.skip=>Ch P K E F L fn ro n dec ds env k h
   |.label _=>Ch P K E F L fn ro n dec ds env k h
   |.seq a b=>Ch P K E F L fn ro n dec ds env (.code a:: .code b::k) h
   |.cond c t e=>(match U9 dec c with
    |some true=>Ch P K E F L fn ro n dec ds env (.code t::k) h
    |some false=>Ch P K E F L fn ro n dec ds env (.code e::k) h
    |none=>Br (bA P env c)
     (match short (.code t::k) with
     |true=>Ch P K E F L fn ro n dec ds env (.code t::k) h
     |false=>E ds env (gM 60 (.code t::k)) h)
     (match short (.code e::k) with
     |true=>Ch P K E F L fn ro n dec ds env (.code e::k) h
     |false=>E ds env (gM 60 (.code e::k)) h))
   |.block id b=>Ch P K E F L fn ro n dec ds env (.code b:: .inBlock id::k) h
   |.loop b=>E ds env (gM 60 (.code b:: .inLoop b::k)) h
   |.scope b=>Ch P K E F L fn ro n dec ds env (.code b:: .inScope b::k) h
   |.exit id=>(match exitTo id k with
    |some u=>Ch P K E F L fn ro n dec ds env u h
    |none=>if ro.isSome then F (.exit id) ds env h else False)
   |.ret=>F .ret ds env h
   |.region _ ops false=>wpOps P K (fun j=>(ops[j]?).bind (·.dst)) ops.toList env h dec fun q i m=>Ch P K E F L fn ro n m ds q k i
   |.region _ ops true=>fp P K ops env h fun q i m=>Ch P K E F L fn ro n m ds q k i
   |.rangeFunc f r assign g=>
    (match ro with
    |none=>tX h (.marks true) fun d s=>zC P K fn (bA P env f) env.length (Fi L [.code assign,.beginRound,.code g]) ((Fi L [.code assign,.beginRound,.code g]).map fun t=>env.getD t undef) r assign g d s fun p i=>
      nO p (Ch P K E F L fn ro n dec (d::ds) env k i) (Ch P K E F L fn ro n dec (d::ds) env (.code .ret::k) i) ((dX g).map fun id=>(id,Ch P K E F L fn ro n dec (d::ds) env (.code (.exit id)::k) i))
    |some l=>aK (eD h l) fun d=>zC P K fn (bA P env f) env.length (Fi L [.code assign,.beginRound,.code g]) ((Fi L [.code assign,.beginRound,.code g]).map fun t=>env.getD t undef) r assign g d h fun p i=>
      nO p (Ch P K E F L fn ro n dec ds env k i) (Ch P K E F L fn ro n dec ds env (.code .ret::k) i) ((dX g).map fun id=>(id,Ch P K E F L fn ro n dec ds env (.code (.exit id)::k) i)))
   |_=>False)
  |.inBlock _::k=>Ch P K E F L fn ro n dec ds env k h
  |.inScope _::k=>Ch P K E F L fn ro n dec ds env k h
  |.inLoop b::k=>E ds env (gM 60 (.code b:: .inLoop b::k)) h
  |.beginRound::k=>
   (match ro with
   |some l=>aK (fP h l) fun i=>Ch P K E F L fn ro n dec ds env k i
   |none=>False)
  |_=>False
theorem Dh {env:List Value} {n:Nat} (h:env.length=n):(List.range n).map (fun t=>env.getD t undef)=env:=by
 refine List.ext_getElem? fun i=>?_;grind
theorem Mx {l:List Nat} {f:Nat->Prop} {id:Nat} {q:Prop} (h:(l.map fun i=>(i,f i)).lookup id=some q):q=f id:=by
 induction l with
 |nil=>simp at h
 |cons i l a=>
  grind
theorem Ao {fn:FuncId} {f:Value} {env:List Value} {lv:List Nat} {ps:Array Tmp} {assign b:Code} {d:Nat} {h:AH} {q:Option Code->AH->Prop}
  (i:zC P K fn f env.length lv (lv.map fun t=>env.getD t undef) ps assign b d h q):
  ∃n g first a o c p e,f= .func (.func g) first a/\eA P g=true/\run P K n (.call g (first.toList++[.func (.yield h.next) #[] #[]]++a.toList)) (h.alloc (.loop .ready none fn env ps assign b d))=some (o,c)/\
   mZ c h.next=some (p,e)/\q p e:=by
 have:=i (fun t=>env.getD t undef) rfl
 rw[Dh rfl] at this
 unfold tX Lu at this
 split at this
 .rename_i g first a
  obtain⟨m,n,r,j,⟨p,e⟩,l,c⟩:=this
  grind
 .cases this
theorem tL {fn:FuncId} {ro:Option Nat} {ds:List Nat} {env:List Value} {h:AH} {Q:Out->AH->Prop}:∀(n:Nat) {k:List Item},Ok P K (.todo fn ro ds env (gM n k)) h Q->Ok P K (.todo fn ro ds env k) h Q
 |0,_,a=>a
 |n+1,k,a=>by
  have st:∀{k':List Item},Ok P K (.todo fn ro ds env (gM n k')) h Q->(∀m,run P K (m+1) (.todo fn ro ds env k) h=run P K m (.todo fn ro ds env k') h)->Ok P K (.todo fn ro ds env k) h Q:=
   fun a b=>tV b (tL n a)
  unfold gM at a;split at a;split at a;exact st a fun _=>rfl;exact st a fun _=>rfl;exact st a fun _=>rfl;exact st a fun _=>rfl;exact st a fun _=>rfl;exact st a fun _=>rfl;split at a;rename_i c;refine st a fun m=>?_;show bP P (run P K m) _ _ _ _ _ _=_;simp only[bP,c];exact a;exact a;exact st a fun _=>rfl;exact st a fun _=>rfl;exact st a fun _=>rfl;exact a
def Nh (P:Program) (f:FuncId) (Q:Value->AH->Prop):Out->AH->Prop:=fun o b=>
 match o.leave with
 |.exit _=>False
 |_=>aK (aR o.ds b) fun a=>aK (cN P a o.env ((P.funcs[f]?).elim [] fun fn=>fn.results.toList)) fun c=>Q (oneOf c) a
theorem Oe {f:FuncId} {fn:Func} {a:Code} {args:List Value} {h:AH} {Q:Value->AH->Prop} (i:P.funcs[f]?=some fn) (hb:fn.body=some a) (p:K f args=none)
  (r:Ok P K (.todo f none [] (args++List.replicate (fn.ntmps - args.length) undef) [.code a]) h (Nh P f Q)):Ok P K (.call f args) h fun o c=>Q o.v c:=by
 obtain⟨n,⟨o,g⟩,l,b⟩:=r
 simp only at b
 have s:(∀id,o.leave≠.exit id)->(aK (aR o.ds g) fun b=>aK (cN P b o.env ((P.funcs[f]?).elim [] fun fn=>fn.results.toList)) fun e=>Q (oneOf e) b)->Ok P K (.call f args) h fun o c=>Q o.v c:=by
  intro d ⟨m,t,e,j,q⟩;rw[i] at j;simp only[Option.elim_some] at j;refine⟨n+1,(⟨.eM,[],[],oneOf e⟩,m),?_,q⟩;show fJ P K (run P K n) f args h=_;simp only[fJ,p,i,hb];rw[l];cases hlv:o.leave with
  |exit id=>exact absurd hlv (d id)
  |eM=>grind
  |ret=>grind
 unfold Nh at b
 grind
def Pt (P:Program) (K:FuncId->List Value->Option dU) (fn:FuncId) (ro:Option Nat) (Q:Out->AH->Prop) (n:Nat) (lv:List Nat) (k:List Item) (ds:List Nat) (vs:List Value) (h:AH):Prop:=
 ∀e:Nat->Value,lv.map e=vs->Ok P K (.todo fn ro ds ((List.range n).map e) k) h Q
def Gs (P:Program) (h:AH) (env:List Value):List ResultVar->(List Value->Prop)->Prop
 |[],p=>p []
 |.tmp t::b,p=>Gs P h env b fun l=>p (env.getD t undef::l)
 |.cell a t::b,p=>match eF P t with
  |some true=>aK (sW h (P.cellsOf t) (env.getD a undef)) fun v=>Gs P h env b fun l=>p (v::l)
  |some false=>aK (vH h (env.getD a undef)) fun v=>Gs P h env b fun l=>p (v::l)
  |none=>False
theorem lN {h:AH} {env:List Value}:∀{rs:List ResultVar} {p:List Value->Prop},Gs P h env rs p->∃l,cN P h env rs=some l/\p l
 |[],p,b=>⟨[],rfl,b⟩
 |.tmp t::rs,p,b=>by
  obtain⟨l,c,d⟩:=lN (rs:=rs) b;exact⟨_,by simp only[cN,c];rfl,d⟩
 |.cell a t::rs,p,b=>by
  simp only[Gs] at b;split at b;rename_i f;obtain⟨v,c,b⟩:=b;obtain⟨l,d,e⟩:=lN (rs:=rs) b;refine⟨v::l,?_,e⟩;unfold sW at c;split at c;rename_i x g;have i:lS P h t x=some v:=by unfold lS;rw[f];exact c
  simp only[cN,g,i,d];cases c;rename_i f;obtain⟨v,c,b⟩:=b;obtain⟨l,d,e⟩:=lN (rs:=rs) b;refine⟨v::l,?_,e⟩;unfold vH at c;split at c;rename_i x g;have i:lS P h t x=some v:=by unfold lS;rw[f];exact c
  simp only[cN,g,i,d];cases c;cases b
def bz (P:Program) (f:FuncId) (Q:Value->AH->Prop) (lv:nW) (ds:List Nat) (env:List Value) (h:AH):Prop:=match lv with
 |.exit _=>False
 |_=>aK (aR ds h) fun a=>Gs P a env ((P.funcs[f]?).elim [] fun fn=>fn.results.toList) fun l=>Q (oneOf l) a
theorem Nw {f:FuncId} {Q:Value->AH->Prop} {lv:nW} {ds:List Nat} {env:List Value} {h:AH} (a:bz P f Q lv ds env h):Nh P f Q ⟨lv,ds,env,undef⟩ h:=by
 unfold bz at a;unfold Nh;cases lv with
 |exit id=>exact a
 |eM=>obtain⟨b,e,a⟩:=a;obtain⟨l,c,d⟩:=lN a;simp_all
 |ret=>obtain⟨b,e,a⟩:=a;obtain⟨l,c,d⟩:=lN a;simp_all
theorem jX {f:FuncId} {args:List Value} {v:Value} {h:AH} {Q:Value->AH->Prop} (b:K f args=some (.val v)) (c:Q v h):Ok P K (.call f args) h fun o a=>Q o.v a:=
 ⟨1,(⟨.eM,[],[],v⟩,h),by show fJ _ _ _ _ _ _=_;simp only[fJ,b],c⟩
def vC (l:Nat) (Q:Value->AH->Prop):Out->AH->Prop:=fun o b=>
 o.ds=[]/\match o.leave with
 |.eM=>aK (aY b l .ready (some none)) fun a=>Q (.bool true) a
 |.ret=>aK (aY b l .done (some (some .ret))) fun a=>Q (.bool false) a
 |.exit id=>aK (aY b l .done (some (some (.exit id)))) fun a=>Q (.bool false) a
theorem T7 {l:Nat} {args:List Value} {h:AH} {st:LoopState} {p:Option Code} {fn:FuncId} {b:List Value} {ps:Array Tmp} {assign a:Code} {d:Nat} {Q:Value->AH->Prop}
  (u:h.get l=some (.loop st p fn b ps assign a d)) (w:args.length=ps.size)
  (y:Ok P K (.todo fn (some l) [] ((ps.toList.zip args).foldl (fun t (p,v)=>t.set p v) b) [.code assign,.beginRound,.code a]) h (vC l Q)):Ok P K (.round l args) h fun o j=>Q o.v j:=by
 obtain⟨n,r,A,c,f⟩:=y
 obtain⟨o,m⟩:=r
 simp only at c f
 have z:∀i e,(match o.leave with
     |.eM=>(aY m l .ready (some none)).map fun c=>((⟨.eM,[],[],.bool true⟩:Out),c)
     |.ret=>(aY m l .done (some (some .ret))).map fun c=>(⟨.eM,[],[],.bool false⟩,c)
     |.exit id=>(aY m l .done (some (some (.exit id)))).map fun c=>(⟨.eM,[],[],.bool false⟩,c))=some (i,e)->Q i.v e->Ok P K (.round l args) h fun o j=>Q o.v j:=by
  intro i e C x
  refine⟨n+1,(i,e),?_,x⟩
  show gN (run P K n) l args h=_
  simp only[gN,u,w,if_true]
  grind
 split at f
 .rename_i g;obtain⟨e,q,s⟩:=f;grind
 .rename_i g;obtain⟨e,q,s⟩:=f;grind
 .rename_i g;obtain⟨e,q,s⟩:=f;grind
def Gd (l:Nat) (Q:Value->AH->Prop) (lv:nW) (ds:List Nat) (_b:List Value) (h:AH):Prop:=match ds with
 |[]=>(match lv with
  |.eM=>aK (aY h l .ready (some none)) fun a=>Q (.bool true) a
  |.ret=>aK (aY h l .done (some (some .ret))) fun a=>Q (.bool false) a
  |.exit id=>aK (aY h l .done (some (some (.exit id)))) fun a=>Q (.bool false) a)
 |_=>False
theorem E7 {l:Nat} {Q:Value->AH->Prop} {lv:nW} {ds:List Nat} {env:List Value} {h:AH} (a:Gd l Q lv ds env h):vC l Q ⟨lv,ds,env,undef⟩ h:=by
 unfold Gd at a;cases ds with
 |nil=>refine⟨rfl,?_⟩;cases lv<;>exact a
 |cons d ds=>exact a.elim
end
end Go.Ab
end
section
namespace Go.Ab
noncomputable section
open Go.RowKit
variable {P:Program} {K:FuncId->List Value->Option dU}
def start (base:Nat) (old:Nat->Option hZ):AH:={base:=base,next:=base,old:=old,new:= .lf}
theorem oG {a:Nat} {old:Nat->Option hZ} (i:Nat):(start a old).get i=if i<a then old i else none:=by
 rw[AH.get_eq];unfold start;split;rfl;cases i - a<;>rfl
structure Reads (P:Program) (base:Nat) (old:Nat->Option hZ) (ρ:dR) (w:World):Prop where
 gH:∀i o,i<base->old i=some o->∀b s,ρ i=some (b,s)->∃o',w.heap[b]?=some o'/\mB P ρ s o o'
 low:∀i b s,i<base->ρ i=some (b,s)->b<w.heap.size
 none:∀i,base<=i->ρ i=none
 iN:∀g,g<P.globals.size->ρ g=some (g,(0,0))
theorem Reads.inv {a:Nat} {old:Nat->Option hZ} {ρ:dR} {w:World} (r:Reads P a old ρ w):Inv P w.heap.size ρ (start a old) w where
 gH:=fun i o e b s f=>by
  rw[oG] at e;split at e;rename_i c;exact r.gH i o c e b s f;cases e
 inj:=fun i j b g l c _ d=>by
  rw[oG,tt (Nat.not_lt.2 (show a<=_ from c))] at d;cases d
 low:=fun i b s c d=>by
  rw[oG,tt (Nat.not_lt.2 (show a<=_ from c))] at d;cases d
 old:=fun i b s c f=>r.low i b s c f
 fresh:=fun i c=>r.none i c
 dF:=fun i c=>by rw[oG,tt (Nat.not_lt.2 (show a<=_ from c))]
 iN:=r.iN
 size:=Nat.le_refl _
 bn:=Nat.le_refl _
theorem Jw {w:World} (C:Ctx P w.heap.size K) (t:C.G w) {a:Nat} {old:Nat->Option hZ} {ρ:dR} (r:Reads P a old ρ w) {f:FuncId} {args args':List Value} (q:aC ρ args args') {Q:Out->AH->Prop}
  (i:Ok P K (.call f args) (start a old) Q):
  Calls P f ⟨args'⟩ w fun e g=>∃ρ' o c d,e= .returned d/\aA ρ' o.v d/\Q o c/\Inv P w.heap.size ρ' c g/\Below w.heap.size w g:=by
 obtain⟨n,⟨o,c⟩,v,u⟩:=i
 intro j
 obtain⟨e,g,fr,⟨ρ',d,s,x,b⟩,l,m,p⟩:=P6 C n (.call f args) _ o c v ρ w args' r.inv t q j
 exact⟨e,g,fr,⟨ρ',o,c,d,s,x,u,b.inv,b.below r.inv⟩,l,m,p⟩
def tK (K:FuncId->List Value->Option dU) (f0:FuncId) (v0:Value):FuncId->List Value->Option dU:=fun f a=>if f=f0/\a.isEmpty=true then some (.val v0) else K f a
def Ctx.add {B:Nat} (C:Ctx P B K) (f0:FuncId) (v0:Value) (n:bU v0=true) (h:∀w,C.G w->Calls P f0 #[] w fun e d=>e= .returned v0/\Below w.heap.size w d):Ctx P B (tK K f0 v0) where
 G:=C.G
 A0:=C.A0
 call:=fun f a v w b c=>by
  unfold tK at b;split at b;rename_i l;cases b;obtain⟨rfl,p⟩:=l;have:a=[]:=by grind
  subst this;exact⟨rfl,(h w c).mono fun e d ⟨m,j⟩=>⟨⟨v0,m,fun ρ=>dB v0 n⟩,j⟩⟩;exact C.call f a v w b c
 fwd:=fun f a g i b=>by
  unfold tK at b;split at b;cases b;exact C.fwd f a g i b
 host:=fun f a F b=>by
  unfold tK at b;split at b;cases b;exact C.host f a F b
theorem lK {P:Program} {f:FuncId} {args:Array Value} {v:Value} {w:World} (g:bU v=true) (h:Calls P f args w fun e a=>e= .returned v/\Below w.heap.size w a):
  Calls P f args w fun e a=>(∃b,e= .returned b/\∀ρ,aA ρ v b)/\Below w.heap.size w a:=
 h.mono fun _ _ ⟨d,c⟩=>⟨⟨v,d,fun _=>dB v g⟩,c⟩
theorem Jj {f:FuncId} {n:Nat} {v:Value} {a:Nat} {old:Nat->Option hZ} (m:bU v=true)
  (b:((run P K n (.call f []) (start a old)).any fun r=>mA r.1.v v)=true) {w:World} (C:Ctx P w.heap.size K) (l:C.G w) {ρ:dR} (r:Reads P a old ρ w):
  Calls P f #[] w fun e g=>e= .returned v/\Below w.heap.size w g:=by
 rw[Option.any_eq_true] at b
 obtain⟨⟨o,q⟩,b,c⟩:=b
 have c:=B3 _ _ c
 have:=Jw (Q:=fun o _=>o.v=v) C l r (args:=[]) (args':=[]) rfl ⟨n,_,b,c⟩
 intro i
 obtain⟨e,g,fr,⟨ρ',y,s,p,t,d,j,_,u⟩,x⟩:=this i
 rw[j] at d
 have:=rJ v p m d
 grind
end
end Go.Ab
end
section
namespace Go.Ab
noncomputable section
structure En where
 n:Nat
 t:Tr Value
def En.get (e:En) (i:Nat):Value:=En.rec (motive:=fun _=>Value) (fun n t=>Bool.rec (motive:=fun _=>Value) undef (t.get undef i) (Nat.blt i n)) e
def En.opt (e:En) (i:Nat):Option Value:=En.rec (motive:=fun _=>Option Value) (fun n t=>Bool.rec (motive:=fun _=>Option Value) none (some (t.get undef i)) (Nat.blt i n)) e
def En.set (e:En) (i:Nat) (v:Value):En:=En.rec (motive:=fun _=>En) (fun n t=>Bool.rec (motive:=fun _=>En) (En.mk n t) (En.mk n (t.set undef i v)) (Nat.blt i n)) e
def En.pP (e:En):List Value:=(List.range e.n).map fun i=>e.t.get undef i
def Gr:List Value->Nat->Tr Value->Tr Value
 |[],_,t=>t
 |v::l,i,t=>Gr l (i+1) (t.set undef i v)
def En.of (l:List Value) (k:Nat):En:=⟨l.length+k,Gr l 0 .lf⟩
theorem En.zH (e:En) (i:Nat):e.opt i=e.pP[i]?:=by
 obtain⟨n,t⟩:=e;simp only[En.opt,En.pP];cases h:Nat.blt i n with
 |true=>
  have:i<n:=by simpa [Nat.blt_eq] using h
  simp[this]
 |false=>
  have:¬i<n:=by rw[<-Nat.blt_eq,h];simp
  simp[this]
theorem En.get_eq (e:En) (i:Nat):e.get i=e.pP.getD i undef:=by
 rw[List.getD_eq_getElem?_getD,<-En.zH];obtain⟨n,t⟩:=e;simp only[En.get,En.opt];cases Nat.blt i n<;>rfl
theorem En.An (e:En) (i:Nat) (v:Value):(e.set i v).pP=e.pP.set i v:=by
 apply List.ext_getElem?;intro j;rw[List.getElem?_set,<-En.zH,<-En.zH];obtain⟨n,t⟩:=e;have c:(En.pP ⟨n,t⟩).length=n:=by simp[En.pP]
 rw[c];simp only[En.set];cases h:Nat.blt i n with
 |true=>
  have b:i<n:=by simpa [Nat.blt_eq] using h
  simp only[En.opt,Tr.dO];by_cases a:i=j;subst a;simp[h,b];simp[a,Ne.symm a]
 |false=>
  have b:¬i<n:=by rw[<-Nat.blt_eq,h];simp
  by_cases a:i=j;subst a;simp[En.opt,h,b];simp[a]
theorem Ag:∀(l:List Value) (i:Nat) (t:Tr Value) (m:Nat),(Gr l i t).get undef m=if i<=m/\m<i+l.length then l.getD (m - i) undef else t.get undef m
 |[],i,t,m=>by
  rw[tt (by simp)];rfl
 |v::l,i,t,m=>by
  simp only[Gr];rw[Ag l (i+1) _ m,Tr.dO];simp only[List.length_cons];by_cases a:m=i;subst a;rw[aab,tu rfl,aae];simp;rw[tt a];by_cases b:i+1<=m/\m<i+1+l.length;rw[tu b,aae,show m - i=(m - (i+1))+1 by omega];simp;rw[tt b,aab]
theorem En.of_eq (l:List Value) (k:Nat):(En.of l k).pP=l++List.replicate k undef:=by
 apply List.ext_getElem?;intro j;rw[<-En.zH];unfold En.of En.opt;simp only[Ag,Tr.Ay];cases h:Nat.blt j (l.length+k) with
 |true=>
  have b:j<l.length+k:=by simpa [Nat.blt_eq] using h
  by_cases a:j<l.length;rw[aae,List.getElem?_append_left a];simp[a];rw[aab,List.getElem?_append_right (by omega),List.getElem?_replicate,aae]
 |false=>
  have b:¬j<l.length+k:=by rw[<-Nat.blt_eq,h];simp
  rw[List.getElem?_eq_none (by simp;omega)]
inductive Iw where
 |todo (fn:FuncId) (ro:Option Nat) (ds:List Nat) (env:En) (k:List Item)
 |ops (all:Array Oper) (rest:List Oper) (env:En)
 |call (f:FuncId) (args:List Value)
 |round (l:Nat) (args:List Value)
structure Ci where
 leave:nW
 ds:List Nat
 env:En
 v:Value
def Nb:En:=⟨0,.lf⟩
abbrev jN:=Iw->AH->Option (Ci×AH)
def Yb:Iw->Task
 |.todo fn ro ds env k=> .todo fn ro ds env.pP k
 |.ops all rest env=> .ops all rest env.pP
 |.call f a=> .call f a
 |.round l a=> .round l a
def Zc (o:Ci):Out:=⟨o.leave,o.ds,o.env.pP,o.v⟩
def oI (r:Ci×AH):Out×AH:=(Zc r.1,r.2)
def wU (R':jN) (R:mT):Prop:=∀t h,R (Yb t) h=(R' t h).map oI
def po (v:Value):Value:=if bU v then v else top
def pb (P:Program) (g:Nat):Value:=if g<P.globals.size then .pointer (some ⟨g,0,none⟩) else top
def qc (f:Nat):Value:= .func (.func f) #[] #[]
def aN (P:Program) (env:En) (x:Operand):Value:=Operand.rec (motive:=fun _=>Value) (En.get env) po (pb P) qc x
theorem oA (P:Program) (env:En):aN P env=bA P env.pP:=by
 funext x;cases x<;>first|rfl|exact En.get_eq _ _
def pX (env:En) (d:Option Tmp) (v:Value):En:=Option.rec (motive:=fun _=>En) env (fun d=>env.set d v) d
theorem zJ (env:En) (d:Option Tmp) (v:Value):(pX env d v).pP=eE env.pP d v:=by
 cases d;rfl;exact En.An _ _ _
def mi (want:Bool) (x:Option Value):Option Bool:=
  match x with
  |some (.bool b)=>some (b==want)
  |some (.chan _)=>none
  |_=>some false
def Ya {α:Type} (l:List α):Nat->Option α:=List.rec (motive:=fun _=>Nat->Option α) (fun _=>none) (fun a _ b n=>Nat.rec (motive:=fun _=>Option α) (some a) (fun n _=>b n) n) l
theorem G5 {α:Type}:∀(l:List α) (n:Nat),Ya l n=l[n]?
 |[],_=>rfl
 |_::_,0=>rfl
 |a::l,n+1=>by
  show Ya l n=_;rw[G5 l n];rfl
def dc (all:Array Oper) (env:En) (g:Nat×Bool):Option Bool:=mi g.2 (((Ya all.toList g.1).bind (·.dst)).bind (fun d=>env.opt d))
def gK (all:Array Oper) (env:En) (o:Oper):Option Bool:=Option.rec (motive:=fun _=>Option Bool) (some true) (dc all env) o.guard
theorem qJ (all:Array Oper) (env:En) (o:Oper):gK all env o=bS all env.pP o:=by
 unfold gK bS;cases o.guard with
 |none=>rfl
 |some g=>
  obtain⟨j,want⟩:=g;show dc all env (j,want)=_;unfold dc mi;simp only[En.zH,G5,Array.getElem?_toList];rfl
def G3 (_:Program) (a:Operand->Value) (_:AH) (x:Operand):Option Value:=some (a x)
def wF (_:Program) (a:Operand->Value) (_:AH) (x:Operand):Option Value:=some (a x)
def Fy (_:Program) (d:Operand->Value) (_:AH) (c a b:Operand):Option Value:=match d c with
  |.bool t=>some (if t then d a else d b)
  |_=>none
def zW (P:Program) (b:Operand->Value) (_:AH) (t:TypeId) (a:Array (Nat×Operand)):Option Value:=wQ P t (a.toList.map fun p=>(p.1,b p.2))
def Fg (P:Program) (b:Operand->Value) (h:AH) (t:TypeId) (a:Operand):Option Value:=match b a with
  |.pointer (some a)=>lS P h t a
  |_=>none
def rE (_:Program) (c:Operand->Value) (_:AH) (x:Operand):Option Value:=match c x with
  |.pointer (some a)=>some (.pointer (some a))
  |.func (.func f) a b=>some (.func (.func f) a b)
  |.func (.yield f) a b=>some (.func (.yield f) a b)
  |_=>none
def zN (P:Program) (a:Operand->Value) (_:AH) (op:BinOp) (t:TypeId) (x y:Operand):Option Value:=E3 P op t x y (a x) (a y)
def Fc (_:Program) (a:Operand->Value) (_:AH) (op:UnOp) (x:Operand):Option Value:=match op,a x with
  |.neg,.int k n=>some (.int k (k.wrap (0 - n)))
  |.not,.bool b=>some (.bool !b)
  |_,_=>none
def tA (P:Program) (a:Operand->Value) (h:AH) (s d:TypeId) (x:Operand):Option Value:=match P.underlying s,P.underlying d,a x with
  |some _,some (.int k),.int _ n=>some (.int k (k.wrap n))
  |some .string,some .string,.string z=>some (.string z)
  |some (.slice e),some .string,v=>(match P.underlying e with
   |some (.int .u8)=>strOf h v
   |_=>none)
  |_,_,_=>none
def jB (P:Program) (a:Operand->Value) (_:AH) (t:TypeId) (x:Operand):Option Value:=match P.underlying t with
  |some (.interface _)=>none
  |some _=>some (.iface t (a x))
  |none=>none
def rD (_:Program) (a:Operand->Value) (_:AH) (fn:Fn) (first captured:Array Operand):Option Value:=match fn with
  |.func f=>some (.func (.func f) (first.map a) (captured.map a))
  |_=>none
def Bv (P:Program) (a:Operand->Value) (h:AH) (t:TypeId) (x:Operand) (c b d:Option Operand):Option Value:=lQ P h t (a x) (c.map a) (b.map a) (d.map a)
def pQ (P:Program) (b:Operand->Value) (_:AH) (s:TypeId) (x:Operand) (f:Nat):Option Value:=match P.underlying s,b x with
  |some (.struct c),.pointer (some a)=>match c[f]? with
   |some fd=>if P.cellsOf fd.type=0 then none else some (.pointer (some (a.add fd.offset)))
   |none=>none
  |_,_=>none
def B2 (P:Program) (b:Operand->Value) (_:AH) (t:TypeId) (x:Operand) (f:Nat):Option Value:=match P.underlying t,b x with
  |some (.struct c),.agg a=>match c[f]? with
   |some fd=>apart P fd.type a.toList fd.offset
   |none=>none
  |_,_=>none
def oQ (P:Program) (b:Operand->Value) (_:AH) (t:TypeId) (x i:Operand):Option Value:=match P.underlying t,b x,b i with
  |some (.array n e),.pointer (some a),.int _ i=>if 0<=i/\i<n/\(P.info? e).isSome then some (.pointer (some (a.add (i.toNat*P.cellsOf e)))) else none
  |some (.slice e),.slice (some a) n _,.int _ i=>if 0<=i/\i<n/\(P.info? e).isSome/\a.spot=none then some (.pointer (some (a.add (i.toNat*P.cellsOf e)))) else none
  |_,_,_=>none
def zR (P:Program) (a:Operand->Value) (_:AH) (t:TypeId) (x i:Operand):Option Value:=match P.underlying t,a x,a i with
  |some (.array n e),.agg c,.int _ i=>if 0<=i/\i<n/\(P.info? e).isSome then apart P e c.toList (i.toNat*P.cellsOf e) else none
  |some .string,.string s,.int _ i=>if 0<=i then(s[i.toNat]?).map fun b=> .int .u8 b.toNat else none
  |_,_,_=>none
def sM (_:Program) (a:Operand->Value) (_:AH) (t:Operand) (i:Nat):Option Value:=match a t with
  |.tuple b=>b.toList[i]?
  |_=>none
def vJ (P:Program) (a:Operand->Value) (h:AH) (t:TypeId) (x ix:Operand) (ok:Bool):Option Value:=mD P h t (a x) (a ix) ok
def Ge (P:Program) (e:Operand->Value) (h:AH):Op->Option Value
 |.move x=>G3 P e h x
 |.assign x=>wF P e h x
 |.pick c a b=>Fy P e h c a b
 |.build t j=>zW P e h t j
 |.load t a=>Fg P e h t a
 |.nilCheck x=>rE P e h x
 |.binOp op t x y _=>zN P e h op t x y
 |.unOp op _ x=>Fc P e h op x
 |.convert s d x=>tA P e h s d x
 |.makeInterface t x=>jB P e h t x
 |.makeFunc fn first g=>rD P e h fn first g
 |.slice t x m l n=>Bv P e h t x m l n
 |.fieldAddr s x f=>pQ P e h s x f
 |.field t x f=>B2 P e h t x f
 |.indexAddr t x i=>oQ P e h t x i
 |.index t x i=>zR P e h t x i
 |.extract t i=>sM P e h t i
 |.lookup t x ix ok=>vJ P e h t x ix ok
 |_=>none
theorem zO (P:Program) (a:Operand->Value) (h:AH) (op:Op):Ge P a h op=aH P a h op:=by cases op<;>rfl
def ct (h:AH) (ds:List Nat) (ro:Option Nat):Option (Nat×AH×List Nat):=
 match ro with
 |none=>some (h.next,h.alloc (.marks true),h.next::ds)
 |some l=>match h.get l with
  |some (.loop _ _ _ _ _ _ _ d)=>some (d,h,ds)
  |_=>none
structure Zo where
 env:En
 h:AH
 v:Value
def ch (r:Zo):Rec:=⟨r.env.pP,r.h,r.v⟩
def nF (P:Program) (a:Operand->Value) (h:AH) (op:Op):Option Value:=
 match op with
 |.call c=>(match c.callee with|.builtin b=>if dI b then(bY P h b c.argTypes (c.args.toList.map a)).map (·.1) else none|_=>none)
 |op=>Ge P a h op
theorem vB (P:Program) (a:Operand->Value) (h:AH) (op:Op):nF P a h op=bZ P a h op:=by
 cases op<;>first|exact zO P a h _|rfl
def dT (P:Program) (R:jN) (e:Operand->Value) (h:AH) (op:Op):Option (Value×AH):=
 match op with
 |.store t a x=>match e a with
  |.pointer (some a)=>(Bl P h t a (e x)).map fun i=>(undef,i)
  |_=>none
 |.mapUpdate t m k x=>(rK P h t (e m) (e k) (e x)).map fun i=>(undef,i)
 |.call c=>
  match c.callee with
  |.builtin b=>bY P h b c.argTypes (c.args.toList.map e)
  |.value f=>match e f with
   |.func (.func g) first d=>
    if eA P g then(R (.call g (first.toList++c.args.toList.map e++d.toList)) h).map fun r=>(r.1.v,r.2) else none
   |.func (.yield l) first _=>(R (.round l (first.toList++c.args.toList.map e)) h).map fun r=>(r.1.v,r.2)
   |_=>none
  |.invoke _ _=>none
 |_=>none
def eX (v:Option Value) (h:AH):Option (Value×AH):=Option.rec (motive:=fun _=>Option (Value×AH)) none (fun v=>some (v,h)) v
def Uy (b:Option (hZ×(Nat->Value))) (h:AH):Option (Value×AH):=b.map fun r=>(r.2 h.next,h.alloc r.1)
def U2 (b:Option (hZ×(Nat->Value))) (r:Nat) (h:AH):Option (Value×AH):=b.map fun x=>(x.2 r,h.set r (some x.1))
def ff (P:Program) (R:jN) (c:Call) (env:En) (h:AH):Option (Value×AH):=if dD (.call c) then eX (nF P (aN P env) h (.call c)) h else dT P R (aN P env) h (.call c)
abbrev tj:=Program->jN->En->AH->Option (Value×AH)
abbrev sc:=Program->jN->Nat->En->AH->Option (Value×AH)
def uZ (P:Program) (R:jN) (env:En) (h:AH) (op:Op):Option (Value×AH):=Op.rec (motive:=fun _=>tj)
 (fun b P _ env h=>eX (G3 P (aN P env) h b) h)
 (fun b P _ env h=>eX (wF P (aN P env) h b) h)
 (fun g d f P _ env h=>eX (Fy P (aN P env) h g d f) h)
 (fun m P _ env h=>Uy (bT P (aN P env) (Op.alloc m)) h)
 (fun m l P _ env h=>Uy (bT P (aN P env) (Op.box m l)) h)
 (fun a c P _ env h=>eX (zW P (aN P env) h a c) h)
 (fun a n_ c P _ env h=>Uy (bT P (aN P env) (Op.buildSlice a n_ c)) h)
 (fun _ _ _ _ _ _ _ _=>none)
 (fun a d P _ env h=>eX (Fg P (aN P env) h a d) h)
 (fun a d l P R env h=>dT P R (aN P env) h (Op.store a d l))
 (fun _ _ _ _ _=>none)
 (fun _ _ _ _ _=>none)
 (fun b P _ env h=>eX (rE P (aN P env) h b) h)
 (fun j a b t _ P _ env h=>eX (zN P (aN P env) h j a b t) h)
 (fun j _ b P _ env h=>eX (Fc P (aN P env) h j b) h)
 (fun d f b P _ env h=>eX (tA P (aN P env) h d f b) h)
 (fun _ _ _ _ _ _=>none)
 (fun a b P _ env h=>eX (jB P (aN P env) h a b) h)
 (fun i d f P _ env h=>eX (rD P (aN P env) h i d f) h)
 (fun a s P _ env h=>Uy (bT P (aN P env) (Op.makeMap a s)) h)
 (fun _ _ _ _ _ _=>none)
 (fun a n g P _ env h=>Uy (bT P (aN P env) (Op.makeSlice a n g)) h)
 (fun a b n q p P _ env h=>eX (Bv P (aN P env) h a b n q p) h)
 (fun a b i P _ env h=>eX (pQ P (aN P env) h a b i) h)
 (fun a b i P _ env h=>eX (B2 P (aN P env) h a b i) h)
 (fun a b e P _ env h=>eX (oQ P (aN P env) h a b e) h)
 (fun a b e P _ env h=>eX (zR P (aN P env) h a b e) h)
 (fun a b e j P _ env h=>eX (vJ P (aN P env) h a b e j) h)
 (fun a p r l P R env h=>dT P R (aN P env) h (Op.mapUpdate a p r l))
 (fun _ _ _ _ _ _ _=>none)
 (fun _ _ _ _ _ _ _ _=>none)
 (fun _ _ _ _ _ _=>none)
 (fun _ _ _ _ _ _=>none)
 (fun _ _ _ _ _=>none)
 (fun _ _ _ _ _ _ _ _=>none)
 (fun a e P _ env h=>eX (sM P (aN P env) h a e) h)
 (fun g P R env h=>dT P R (aN P env) h (Op.call g))
 (fun _ _ _ _ _=>none)
 (fun _ _ _ _ _=>none)
 (fun _ _ _ _ _=>none)
 (fun _ _ _ _ _ _=>none)
 (fun _ _ _ _ _ _ _=>none)
 (fun _ _ _ _ _ _=>none) op P R env h
def Pq (P:Program) (R:jN) (r:Nat) (env:En) (h:AH) (op:Op):Option (Value×AH):=Op.rec (motive:=fun _=>sc)
 (fun b P _ _ env h=>eX (G3 P (aN P env) h b) h)
 (fun b P _ _ env h=>eX (wF P (aN P env) h b) h)
 (fun g d f P _ _ env h=>eX (Fy P (aN P env) h g d f) h)
 (fun m P _ r env h=>U2 (bT P (aN P env) (Op.alloc m)) r h)
 (fun m l P _ r env h=>U2 (bT P (aN P env) (Op.box m l)) r h)
 (fun a c P _ _ env h=>eX (zW P (aN P env) h a c) h)
 (fun a n_ c P _ r env h=>U2 (bT P (aN P env) (Op.buildSlice a n_ c)) r h)
 (fun _ _ _ _ _ _ _ _ _=>none)
 (fun a d P _ _ env h=>eX (Fg P (aN P env) h a d) h)
 (fun a d l P R _ env h=>dT P R (aN P env) h (Op.store a d l))
 (fun _ _ _ _ _ _=>none)
 (fun _ _ _ _ _ _=>none)
 (fun b P _ _ env h=>eX (rE P (aN P env) h b) h)
 (fun j a b u _ P _ _ env h=>eX (zN P (aN P env) h j a b u) h)
 (fun j _ b P _ _ env h=>eX (Fc P (aN P env) h j b) h)
 (fun d f b P _ _ env h=>eX (tA P (aN P env) h d f b) h)
 (fun _ _ _ _ _ _ _=>none)
 (fun a b P _ _ env h=>eX (jB P (aN P env) h a b) h)
 (fun i d f P _ _ env h=>eX (rD P (aN P env) h i d f) h)
 (fun a t P _ r env h=>U2 (bT P (aN P env) (Op.makeMap a t)) r h)
 (fun _ _ _ _ _ _ _=>none)
 (fun a n g P _ r env h=>U2 (bT P (aN P env) (Op.makeSlice a n g)) r h)
 (fun a b n q p P _ _ env h=>eX (Bv P (aN P env) h a b n q p) h)
 (fun a b i P _ _ env h=>eX (pQ P (aN P env) h a b i) h)
 (fun a b i P _ _ env h=>eX (B2 P (aN P env) h a b i) h)
 (fun a b e P _ _ env h=>eX (oQ P (aN P env) h a b e) h)
 (fun a b e P _ _ env h=>eX (zR P (aN P env) h a b e) h)
 (fun a b e j P _ _ env h=>eX (vJ P (aN P env) h a b e j) h)
 (fun a p s l P R _ env h=>dT P R (aN P env) h (Op.mapUpdate a p s l))
 (fun _ _ _ _ _ _ _ _=>none)
 (fun _ _ _ _ _ _ _ _ _=>none)
 (fun _ _ _ _ _ _ _=>none)
 (fun _ _ _ _ _ _ _=>none)
 (fun _ _ _ _ _ _=>none)
 (fun _ _ _ _ _ _ _ _ _=>none)
 (fun a e P _ _ env h=>eX (sM P (aN P env) h a e) h)
 (fun g P R _ env h=>ff P R g env h)
 (fun _ _ _ _ _ _=>none)
 (fun _ _ _ _ _ _=>none)
 (fun _ _ _ _ _ _=>none)
 (fun _ _ _ _ _ _ _=>none)
 (fun _ _ _ _ _ _ _ _=>none)
 (fun _ _ _ _ _ _ _=>none) op P R r env h
theorem Fl (v:Option Value) (h:AH):eX v h=v.map fun v=>(v,h):=by cases v<;>rfl
theorem H8 (P:Program) (R:jN) (env:En) (h:AH) (op:Op):uZ P R env h op=
  match kindOf op with
  |.pW=>(Ge P (aN P env) h op).map fun v=>(v,h)
  |.alloc=>(bT P (aN P env) op).map fun r=>(r.2 h.next,h.alloc r.1)
  |.store|.call=>dT P R (aN P env) h op
  |.other=>none:=by
 cases op<;>first|rfl|exact Fl _ _
theorem Ir (P:Program) (R:jN) (r:Nat) (env:En) (h:AH) (op:Op):Pq P R r env h op=
  if dD op then(nF P (aN P env) h op).map fun v=>(v,h)
  else if kindOf op== .alloc then(bT P (aN P env) op).map fun x=>(x.2 r,h.set r (some x.1))
  else dT P R (aN P env) h op:=by
 cases op<;>first|rfl|exact Fl _ _|skip
 rename_i c
 show ff P R c env h=_
 unfold ff
 rw[Fl]
 rfl
def qg (P:Program) (R:jN) (r:Nat) (env:En) (h:AH) (op:Op) (w:Option Bool):Option (Value×AH):=
 Option.rec (motive:=fun _=>Option (Value×AH)) none (fun b=>Bool.rec (motive:=fun _=>Option (Value×AH)) (some (undef,h)) (Pq P R r env h op) b) w
def jC (P:Program) (R:jN) (all:List Oper) (a i:Nat) (env:En) (h:AH) (o:Oper):Option (Value×AH):=qg P R (a+i) env h o.op (gK ⟨all⟩ env o)
theorem Cr (P:Program) (R:jN) (all:List Oper) (a i:Nat) (env:En) (h:AH) (o:Oper):jC P R all a i env h o=
 match gK ⟨all⟩ env o with
 |none=>none
 |some false=>some (undef,h)
 |some true=>
  if dD o.op then(nF P (aN P env) h o.op).map fun v=>(v,h)
  else if kindOf o.op== .alloc then(bT P (aN P env) o.op).map fun r=>(r.2 (a+i),h.set (a+i) (some r.1))
  else dT P R (aN P env) h o.op:=by
 unfold jC
 cases gK ⟨all⟩ env o with
 |none=>rfl
 |some b=>
  cases b with
  |false=>rfl
  |true=>exact Ir ..
abbrev bc:=Option (List Zo×En×AH)
def mf (env:En) (h:AH) (v:Value) (x:bc):bc:=Option.rec (motive:=fun _=>bc) none (fun r=>some (⟨env,h,v⟩::r.1,r.2)) x
def kn (a:Nat->En->AH->bc) (i:Nat) (o:Oper) (env:En) (h:AH) (x:Option (Value×AH)):bc:=Option.rec (motive:=fun _=>bc) none (fun r=>mf env h r.1 (a (i+1) (pX env o.dst r.1) r.2)) x
def fV (P:Program) (R:jN) (all:List Oper) (b i:Nat) (os:List Oper) (env:En) (h:AH):bc:=
 List.rec (motive:=fun _=>Nat->En->AH->bc) (fun _ env h=>some ([],env,h)) (fun o _ a i env h=>kn a i o env h (jC P R all b i env h o)) os i env h
theorem Bz (P:Program) (R:jN) (all:List Oper) (a i:Nat) (o:Oper) (os:List Oper) (env:En) (h:AH):fV P R all a i (o::os) env h=
  match jC P R all a i env h o with
  |some (v,b)=>match fV P R all a (i+1) os (pX env o.dst v) b with
   |some (c,e)=>some (⟨env,h,v⟩::c,e)
   |none=>none
  |none=>none:=by
 show kn (fun i env h=>fV P R all a i os env h) i o env h (jC P R all a i env h o)=_
 cases jC P R all a i env h o with
 |none=>rfl
 |some r=>
  show mf env h r.1 (fV P R all a (i+1) os (pX env o.dst r.1) r.2)=_
  cases hd:fV P R all a (i+1) os (pX env o.dst r.1) r.2 with
  |none=>simp only[hd];rfl
  |some q=>simp only[hd];rfl
def tR (P:Program) (all:List Oper) (rs:List Zo) (hEnd:AH) (x:Nat×Nat):Bool:=
 match all[x.1]?,rs[x.1]? with
 |some o,some r=>
  match gK ⟨all⟩ r.env o with
  |some true=>(match nF P (aN P r.env) (match rs[x.2]? with|some q=>q.h|none=>hEnd) o.op with|some v=>mA v r.v|none=>false)
  |_=>true
 |_,_=>false
def uL (P:Program) (R:jN) (ops:Array Oper) (env:En) (h:AH):Option (En×AH):=
 if vS ops.toList&&(P.follows .mixedOrders|| !Region.departs ops) then
  match fV P R ops.toList h.next 0 ops.toList env {h with next:=h.next+ops.size} with
  |some (c,a,b)=>if(tJ ops.toList).all (tR P ops.toList c b) then some (a,b) else none
  |none=>none
 else none
def kU (P:Program) (h:AH) (env:En):List ResultVar->Option (List Value)
 |[]=>some []
 |.tmp t::b=>(kU P h env b).map fun l=>env.get t::l
 |.cell a t::b=>match env.get a with
  |.pointer (some a)=>match lS P h t a,kU P h env b with
   |some v,some l=>some (v::l)
   |_,_=>none
  |_=>none
section td
variable (P:Program) (R:jN) (fn:FuncId) (ro:Option Nat) (ds:List Nat) (env:En) (k:List Item) (h:AH)
abbrev yF:=Option (Ci×AH)
def Oz:yF:=R (.todo fn ro ds env k) h
def cr (a b:Code):yF:=R (.todo fn ro ds env (.code a:: .code b::k)) h
def Gw (c:Operand) (t e:Code):yF:=match aN P env c with
   |.bool b=>R (.todo fn ro ds env (.code (if b then t else e)::k)) h
   |_=>none
def O2 (b:Code) (x:Item):yF:=R (.todo fn ro ds env (.code b::x::k)) h
def Fs (id:Nat):yF:=match exitTo id k with
   |some a=>R (.todo fn ro ds env a) h
   |none=>if ro.isSome then some (⟨.exit id,ds,env,undef⟩,h) else none
def cj:yF:=some (⟨.ret,ds,env,undef⟩,h)
def Yp:yF:=some (⟨.eM,ds,env,undef⟩,h)
def N2 (x:Option (Ci×AH)):yF:=match x with
   |some (o,a)=>R (.todo fn ro ds o.env k) a
   |none=>none
def Lk (ops:Array Oper):yF:=N2 R fn ro ds k (R (.ops ops ops.toList env) h)
def H7 (x:Option (En×AH)):yF:=match x with
   |some (a,b)=>R (.todo fn ro ds a k) b
   |none=>none
def F7 (ops:Array Oper):yF:=H7 R fn ro ds k (uL P R ops env h)
def Ba (f:Operand) (ps:Array Tmp) (assign b:Code):yF:=
   match ct h ds ro with
   |some (d,c,e)=>
    match aN P env f with
    |.func (.func g) first a=>
     if eA P g then
      match R (.call g (first.toList++[.func (.yield c.next) #[] #[]]++a.toList)) (c.alloc (.loop .ready none fn env.pP ps assign b d)) with
      |some (_,i)=>
       match i.get c.next with
       |some (.loop st p _ _ _ _ _ _)=>
        if st= .busy then none else
        match aY i c.next .exhausted none with
        |some j=>R (.todo fn ro e env ((p.map Item.code).toList++k)) j
        |none=>none
       |_=>none
      |none=>none
     else none
    |_=>none
   |none=>none
def zK:yF:=
  match ro with
  |some l=>match h.get l with
   |some (.loop .ready _ _ _ _ _ _ _)=>match aY h l .busy none with
    |some a=>R (.todo fn ro ds env k) a
    |none=>none
   |_=>none
  |none=>none
def Ys:Code->yF
  |.skip=>Oz R fn ro ds env k h
  |.label _=>Oz R fn ro ds env k h
  |.seq a b=>cr R fn ro ds env k h a b
  |.cond c t e=>Gw P R fn ro ds env k h c t e
  |.block id b=>O2 R fn ro ds env k h b (.inBlock id)
  |.loop b=>O2 R fn ro ds env k h b (.inLoop b)
  |.scope b=>O2 R fn ro ds env k h b (.inScope b)
  |.exit id=>Fs R fn ro ds env k h id
  |.ret=>cj ds env h
  |.region _ ops d=>Bool.rec (motive:=fun _=>yF) (Lk R fn ro ds env k h ops) (F7 P R fn ro ds env k h ops) d
  |.rangeFunc f i assign g=>Ba P R fn ro ds env k h f i assign g
  |_=>none
def Yk:Item->yF
  |.code c=>Ys P R fn ro ds env k h c
  |.inBlock _=>Oz R fn ro ds env k h
  |.inScope _=>Oz R fn ro ds env k h
  |.inLoop b=>O2 R fn ro ds env k h b (.inLoop b)
  |.beginRound=>zK R fn ro ds env k h
  |_=>none
end td
def Ix (P:Program) (R:jN) (fn:FuncId) (ro:Option Nat) (ds:List Nat) (env:En) (k:List Item) (h:AH):Option (Ci×AH):=
 List.rec (motive:=fun _=>yF) (Yp ds env h) (fun x k _=>Yk P R fn ro ds env k h x) k
section op
variable (P:Program) (R:jN) (all:Array Oper) (rest:List Oper) (env:En) (h:AH) (o:Oper)
def j8 (x:Value×AH):yF:=R (.ops all rest (pX env o.dst x.1)) x.2
def Sx:yF:=Option.rec (motive:=fun _=>yF) none (j8 R all rest env o) (uZ P R env h o.op)
def jt:yF:=R (.ops all rest (pX env o.dst undef)) h
def jw (w:Option Bool):yF:=Option.rec (motive:=fun _=>yF) none (fun b=>Bool.rec (motive:=fun _=>yF) (jt R all rest env h o) (Sx P R all rest env h o) b) w
end op
def Fw (P:Program) (R:jN) (all:Array Oper) (rest:List Oper) (env:En) (h:AH):Option (Ci×AH):=
 match rest with
 |[]=>some (⟨.eM,[],env,undef⟩,h)
 |o::rest=>
  jw P R all rest env h o (gK all env o)
def zL (P:Program) (K:FuncId->List Value->Option dU) (R:jN) (f:FuncId) (args:List Value) (h:AH):Option (Ci×AH):=
 match K f args with
 |some (.val v)=>some (⟨.eM,[],Nb,v⟩,h)
 |some (.fwd g d)=>match R (.call g d) h with
  |some (o,b)=>if D6 o.v then some (⟨.eM,[],Nb,o.v⟩,b) else none
  |none=>none
 |some (.host F)=>(F h).map fun r=>(⟨.eM,[],Nb,r.1⟩,r.2)
 |none=>
  match Ya P.funcs.toList f with
  |some fn=>
   match fn.body with
   |some a=>
    match R (.todo f none [] (En.of args (fn.ntmps - args.length)) [.code a]) h with
    |some (o,b)=>
     match o.leave with
     |.exit _=>none
     |_=>match aR o.ds b with
      |some c=>(kU P c o.env fn.results.toList).map fun e=>(⟨.eM,[],Nb,oneOf e⟩,c)
      |none=>none
    |none=>none
   |none=>none
  |none=>none
def wK (R:jN) (l:Nat) (args:List Value) (h:AH):Option (Ci×AH):=
 match h.get l with
 |some (.loop _ _ fn c e assign a _)=>
  if args.length=e.size then
   match R (.todo fn (some l) [] (En.of ((e.toList.zip args).foldl (fun t (p,v)=>t.set p v) c) 0) [.code assign,.beginRound,.code a]) h with
   |some (o,d)=>
    if o.ds.isEmpty then
     match o.leave with
     |.eM=>(aY d l .ready (some none)).map fun b=>(⟨.eM,[],Nb,.bool true⟩,b)
     |.ret=>(aY d l .done (some (some .ret))).map fun b=>(⟨.eM,[],Nb,.bool false⟩,b)
     |.exit id=>(aY d l .done (some (some (.exit id)))).map fun b=>(⟨.eM,[],Nb,.bool false⟩,b)
    else none
   |none=>none
  else none
 |_=>none
def j2 (P:Program) (K:FuncId->List Value->Option dU) (R:jN) (t:Iw) (h:AH):Option (Ci×AH):=
 Iw.rec (motive:=fun _=>yF) (fun fn ro ds env k=>Ix P R fn ro ds env k h) (fun all rest env=>Fw P R all rest env h) (fun f a=>zL P K R f a h) (fun l a=>wK R l a h) t
def U1 (P:Program) (K:FuncId->List Value->Option dU) (n:Nat):jN:=
 Nat.rec (motive:=fun _=>jN) (fun _ _=>none) (fun _ R=>j2 P K R) n
section same
variable {P:Program} {K:FuncId->List Value->Option dU} {R':jN} {R:mT}
theorem wU.val (hR:wU R' R) (t:Iw) (h:AH):(R' t h).map (fun r=>(r.1.v,r.2))=(R (Yb t) h).map fun r=>(r.1.v,r.2):=by
 rw[hR t h,Option.map_map];rfl
theorem sI (hR:wU R' R) (a:Operand->Value) (h:AH) (op:Op):dT P R' a h op=bQ P R a h op:=by
 have b:∀g l,(R' (.call g l) h).map (fun r=>(r.1.v,r.2))=(R (.call g l) h).map fun r=>(r.1.v,r.2):=fun g l=>hR.val _ _;have c:∀g l,(R' (.round g l) h).map (fun r=>(r.1.v,r.2))=(R (.round g l) h).map fun r=>(r.1.v,r.2):=fun g l=>hR.val _ _;unfold dT bQ;simp only[b,c];rfl
theorem Ly (hR:wU R' R) (env:En) (h:AH) (op:Op):uZ P R' env h op=fL P R env.pP h op:=by
 rw[H8];unfold fL;simp only[oA,zO,sI hR];rfl
theorem Gu (hR:wU R' R) (all:List Oper) (a i:Nat) (env:En) (h:AH) (o:Oper):jC P R' all a i env h o=cI P R all a i env.pP h o:=by
 rw[Cr];unfold cI;simp only[qJ,oA,vB,sI hR];rfl
theorem uW (hR:wU R' R) (all:List Oper) (a:Nat):∀(os:List Oper) (i:Nat) (env:En) (h:AH),
    dG P R all a i os env.pP h=(fV P R' all a i os env h).map fun r=>(r.1.map ch,r.2.1.pP,r.2.2)
 |[],_,_,_=>rfl
 |o::os,i,env,h=>by
  rw[Bz];simp only[dG,Gu hR];cases cI P R all a i env.pP h o with
  |none=>rfl
  |some r=>
   obtain⟨v,b⟩:=r;simp only[<-zJ,uW hR all a os];cases fV P R' all a (i+1) os (pX env o.dst v) b with
   |none=>rfl
   |some r=>rfl
theorem Kd (all:List Oper) (rs:List Zo) (hEnd:AH) (x:Nat×Nat):tR P all rs hEnd x=kP P all (rs.map ch) hEnd x:=by
 unfold tR kP;simp only[List.getElem?_map];cases all[x.1]? with
 |none=>rfl
 |some o=>
  cases rs[x.1]? with
  |none=>rfl
  |some r=>
   simp only[Option.map_some,qJ,oA,vB];cases rs[x.2]?<;>rfl
theorem Je (hR:wU R' R) (ops:Array Oper) (env:En) (h:AH):jG P R ops env.pP h=(uL P R' ops env h).map fun r=>(r.1.pP,r.2):=by
 unfold uL jG;rw[uW hR];split;cases fV P R' ops.toList h.next 0 ops.toList env {h with next:=h.next+ops.size} with
 |none=>rfl
 |some r=>
  obtain⟨b,e,a⟩:=r;have:tR P ops.toList b a=kP P ops.toList (b.map ch) a:=funext (Kd _ b a);simp only[Option.map_some,this];split<;>rfl
 rfl
theorem pB (h:AH) (env:En):∀b,kU P h env b=cN P h env.pP b
 |[]=>rfl
 |.tmp t::b=>by simp only[kU,cN,En.get_eq,pB h env b]
 |.cell a t::b=>by simp only[kU,cN,En.get_eq,pB h env b];rfl
theorem Iu (P:Program) (R:jN) (all:Array Oper) (rest:List Oper) (env:En) (h:AH):Fw P R all rest env h=
  match rest with
  |[]=>some (⟨.eM,[],env,undef⟩,h)
  |o::rest=>
   match gK all env o with
   |none=>none
   |some false=>R (.ops all rest (pX env o.dst undef)) h
   |some true=>match uZ P R env h o.op with
    |some (v,a)=>R (.ops all rest (pX env o.dst v)) a
    |none=>none:=by
 cases rest with
 |nil=>rfl
 |cons o rest=>
  show jw P R all rest env h o (gK all env o)=_
  simp only
  cases gK all env o with
  |none=>rfl
  |some b=>
   cases b with
   |false=>rfl
   |true=>
    show Sx P R all rest env h o=_
    unfold Sx
    simp only
    cases uZ P R env h o.op<;>rfl
theorem Lz (hR:wU R' R) (all:Array Oper) (rest:List Oper) (env:En) (h:AH):kB P R all rest env.pP h=(Fw P R' all rest env h).map oI:=by
 rw[Iu];unfold kB;cases rest with
 |nil=>rfl
 |cons o rest=>
  simp only[qJ,Ly hR];cases bS all env.pP o with
  |none=>rfl
  |some b=>
   cases b with
   |false=>simp only[<-zJ];exact hR (.ops all rest (pX env o.dst undef)) h
   |true=>
    simp only;cases fL P R env.pP h o.op with
    |none=>rfl
    |some r=>simp only[<-zJ];exact hR (.ops all rest (pX env o.dst r.1)) r.2
theorem Jp (hR:wU R' R) (fn:FuncId) (ro:Option Nat) (ds:List Nat) (env:En) (k:List Item) (h:AH):bP P R fn ro ds env.pP k h=(Ix P R' fn ro ds env k h).map oI:=by
 have m:∀fn ro ds (env:En) k h,R (.todo fn ro ds env.pP k) h=(R' (.todo fn ro ds env k) h).map oI:=fun fn ro ds env k h=>hR (.todo fn ro ds env k) h;unfold bP;cases k with
 |nil=>rfl
 |cons x k=>
  cases x with
  |code c=>
   cases c with
   |skip=>exact m ..
   |label _=>exact m ..
   |seq a b=>exact m ..
   |cond c t e=>
    show _=(Gw P R' fn ro ds env k h c t e).map oI;unfold Gw;simp only[oA];cases bA P env.pP c<;>first|rfl|exact m ..
   |block id b=>exact m ..
   |loop b=>exact m ..
   |scope b=>exact m ..
   |exit id=>
    show _=(Fs R' fn ro ds env k h id).map oI;unfold Fs;simp only;cases exitTo id k with
    |none=>simp only;split<;>rfl
    |some G=>exact m ..
   |ret=>rfl
   |region i ops d=>
    cases d with
    |false=>
     show _=(Lk R' fn ro ds env k h ops).map oI;unfold Lk N2;simp only;rw[show R (.ops ops ops.toList env.pP) h=(R' (.ops ops ops.toList env) h).map oI from hR (.ops ops ops.toList env) h];cases R' (.ops ops ops.toList env) h with
     |none=>rfl
     |some r=>exact m ..
    |true=>
     show _=(F7 P R' fn ro ds env k h ops).map oI;unfold F7 H7;simp only[Je hR];cases uL P R' ops env h with
     |none=>rfl
     |some r=>exact m ..
   |rangeFunc f y assign n=>
    show _=(Ba P R' fn ro ds env k h f y assign n).map oI;unfold Ba;simp only[oA];split;rename_i d q z A;have s:ct h ds ro=some (d,q,z):=A;simp only[s];split;rename_i g first j C
    simp only[C];split;rw[show R (.call g (first.toList++[.func (.yield q.next) #[] #[]]++j.toList)) (q.alloc (.loop .ready none fn env.pP y assign n d))=
     (R' (.call g (first.toList++[.func (.yield q.next) #[] #[]]++j.toList)) (q.alloc (.loop .ready none fn env.pP y assign n d))).map oI from hR (.call g _) _]
    cases R' (.call g (first.toList++[.func (.yield q.next) #[] #[]]++j.toList)) (q.alloc (.loop .ready none fn env.pP y assign n d)) with
    |none=>rfl
    |some r=>
     simp only[Option.map_some,oI];split;rename_i st p _ _ _ _ _ _ u;simp only[u];split;rfl;split;rename_i F w;simp only[w];exact m ..;rename_i w;simp only[w];rfl;rename_i u;split;rename_i v;exact absurd v (u _ _ _ _ _ _ _ _);rfl
    rfl;rename_i C;split;rename_i D;exact absurd D (C _ _ _);rfl;rename_i A;have s:ct h ds ro=none:=A;simp only[s];rfl
   |_=>rfl
  |inBlock _=>exact m ..
  |inScope _=>exact m ..
  |inLoop b=>exact m ..
  |beginRound=>
   show _=(zK R' fn ro ds env k h).map oI;unfold zK;cases ro with
   |none=>rfl
   |some l=>
    simp only;split;rename_i u;simp only[u];split;rename_i E w;simp only[w];exact m ..;rename_i w;simp only[w];rfl;rename_i u;split;rename_i v;exact absurd v (u _ _ _ _ _ _ _);rfl
  |_=>rfl
theorem J3 (hR:wU R' R) (f:FuncId) (args:List Value) (h:AH):fJ P K R f args h=(zL P K R' f args h).map oI:=by
 unfold zL fJ;cases K f args with
 |some a=>
  cases a with
  |val v=>rfl
  |fwd g c=>
   simp only;rw[show R (.call g c) h=(R' (.call g c) h).map oI from hR (.call g c) h];cases R' (.call g c) h with
   |none=>rfl
   |some r=>simp only[Option.map_some,oI,Zc];split<;>rfl
  |host F=>simp only;cases F h<;>rfl
 |none=>
  simp only;rw[G5,Array.getElem?_toList];cases P.funcs[f]? with
  |none=>rfl
  |some fn=>
   simp only;cases fn.body with
   |none=>rfl
   |some b=>
    simp only;rw[<-En.of_eq,show R (.todo f none [] (En.of args (fn.ntmps - args.length)).pP [.code b]) h=(R' (.todo f none [] (En.of args (fn.ntmps - args.length)) [.code b]) h).map oI from hR (.todo f none [] (En.of args (fn.ntmps - args.length)) [.code b]) h];cases R' (.todo f none [] (En.of args (fn.ntmps - args.length)) [.code b]) h with
    |none=>rfl
    |some r=>
     obtain⟨⟨i,ds,env,v⟩,e⟩:=r;simp only[Option.map_some,oI,Zc,pB];cases i with
     |exit id=>rfl
     |eM=>simp only;cases aR ds e with|none=>rfl|some d=>simp only;cases cN P d env.pP fn.results.toList<;>rfl
     |ret=>simp only;cases aR ds e with|none=>rfl|some d=>simp only;cases cN P d env.pP fn.results.toList<;>rfl
theorem G8 (hR:wU R' R) (l:Nat) (args:List Value) (h:AH):gN R l args h=(wK R' l args h).map oI:=by
 unfold wK gN;split;rename_i fn a g as bd d c;simp only[c];split;have f:∀t:List Value,(En.of t 0).pP=t:=fun t=>by rw[En.of_eq];simp
 have:=hR (.todo fn (some l) [] (En.of ((g.toList.zip args).foldl (fun t (p,v)=>t.set p v) a) 0) [.code as,.beginRound,.code bd]) h;simp only[Yb,f] at this;rw[this];cases R' (.todo fn (some l) [] (En.of ((g.toList.zip args).foldl (fun t (p,v)=>t.set p v) a) 0) [.code as,.beginRound,.code bd]) h with
 |none=>rfl
 |some r=>
  obtain⟨⟨i,ds,env,v⟩,b⟩:=r;simp only[Option.map_some,oI,Zc];split;cases i with
  |eM=>simp only;cases aY b l .ready (some none)<;>rfl
  |ret=>simp only;cases aY b l .done (some (some .ret))<;>rfl
  |exit id=>simp only;cases aY b l .done (some (some (.exit id)))<;>rfl
  rfl
 rfl;rename_i c;split;rename_i e;exact absurd e (c _ _ _ _ _ _ _ _);rfl
theorem O4:∀n,wU (U1 P K n) (run P K n)
 |0=>fun t h=>by cases t<;>rfl
 |n+1=>fun t h=>by
  have b:wU (U1 P K n) fun t h=>run P K n t h:=O4 n;cases t with
  |todo fn ro ds env k=>exact Jp b ..
  |ops all rest env=>exact Lz b ..
  |call f a=>exact J3 b ..
  |round l a=>exact G8 b ..
end same
theorem Ip {P:Program} {K:FuncId->List Value->Option dU} {n:Nat} {f:FuncId} {args:List Value} {h:AH} {v:Value} (a:((U1 P K n (.call f args) h).any fun r=>mA r.1.v v)=true):
  ((run P K n (.call f args) h).any fun r=>mA r.1.v v)=true:=by
 have:=O4 (P:=P) (K:=K) n (.call f args) h
 simp only[Yb] at this
 rw[this]
 revert a
 cases U1 P K n (.call f args) h<;>exact id
end
end Go.Ab
end
section
namespace Go.Ab
noncomputable section
variable {P:Program} {K:FuncId->List Value->Option dU}
def sub:Code->List Nat->Code
 |c,[]=>c
 |.seq a _,0::p=>sub a p
 |.seq _ b,1::p=>sub b p
 |.cond _ t _,0::p=>sub t p
 |.cond _ _ e,1::p=>sub e p
 |.block _ b,0::p=>sub b p
 |.loop b,0::p=>sub b p
 |.scope b,0::p=>sub b p
 |.rangeFunc _ _ a _,0::p=>sub a p
 |.rangeFunc _ _ _ b,1::p=>sub b p
 |_,_=> .skip
def zA (P:Program) (f:FuncId):Option Code:=(P.funcs[f]?).bind (·.body)
def lg (P:Program) (f:FuncId):Nat:=(P.funcs[f]?).elim 0 (·.ntmps)
def cd (P:Program) (f:FuncId) (p:List Nat):Code:=sub ((zA P f).getD .skip) p
def Cl (P:Program) (K:FuncId->List Value->Option dU) (f:FuncId) (args:List Value) (h:AH) (Q:Value->AH->Prop):Prop:=Ok P K (.call f args) h fun o a=>Q o.v a
def tq (P:Program) (f:FuncId) (p:List Nat) (n:Nat) (e:Nat->Value) (d:Nat) (st:LoopState) (pd:Option Code):hZ:=match cd P f p with
 |.rangeFunc _ c a b=> .loop st pd f ((List.range n).map e) c a b d
 |_=> .marks false
abbrev I (n:Int):Value:= .int .i64 n
def pt (b o j:Nat):Value:= .pointer (some ⟨b,o+j,none⟩)
def jx:Nat->Nat->List Nat->List Nat
 |0,_,acc=>acc
 |f+1,n,acc=>if n<=1 then acc else jx f (n/2) (n % 2::acc)
def yD (n:Nat):List Nat:=jx 120 n []
def iv:Code->Operand×Array Tmp×Code×Code
 |.rangeFunc f c a b=>(f,c,a,b)
 |_=>(.tmp 0, #[],.skip,.skip)
end
end Go.Ab
end
