/- A part of the proof. -/
import Derived.Test.YtcjlkjeeifemhaaGreatDoorE3
namespace Go.Ab
open Go.RowKit
section
variable {P:Program} {B:Nat} {K:FuncId->List Value->Option bZ}
theorem rL {α:Type} {l:List α} {f:α×Nat->Bool} (h:l.zipIdx.all f=true) {k:Nat} {o:α} (a:l[k]?=some o):f (o,k)=true:=by
 grind
theorem sV {l:List Nat} (a:l.Pairwise (·<·)) {i p:Nat} (c:l.find? (fun x=>decide (i<x))=some p):i<p/\p∈l/\∀j∈l,i<j->p<=j:=by
 obtain⟨b,as,f,rfl,g⟩:=List.find?_eq_some_iff_append.1 c;refine⟨by simpa using b,by simp,?_⟩;intro j e d;rcases List.mem_append.1 e with h|h;grind;rw[List.pairwise_append] at a;rcases List.mem_cons.1 h with h|h;omega;have:=(List.pairwise_cons.1 a.2.1).1 j h;omega
structure Fit (all:List Oper):Prop where
 dir:∀(k:Nat) o,all[k]?=some o->∀j∈aW o,j<k
 kind:∀(k:Nat) o,all[k]?=some o->kindOf o.op≠.other
 dP:∀i j:Nat,∀t,(all[i]?).bind (·.dst)=some t->(all[j]?).bind (·.dst)=some t->i=j
 tmps:∀i j:Nat,∀o p d,all[i]?=some o->all[j]?=some p->i≠j->p.dst=some d->d∈jO all o->(j<i->ahead (aV all []) j i=true)/\(i<j->ahead (aV all []) i j=true)
 gF:∀i j:Nat,∀o p,all[i]?=some o->all[j]?=some p->aK o.op=true->aK p.op=true->j<i->ahead (aV all []) j i=true
theorem wV {all:List Oper} (h:lQ all=true):Fit all:=by
 unfold lQ at h;simp only[Bool.and_eq_true] at h;obtain⟨⟨⟨b,g⟩,c⟩,_⟩:=h;have pair:∀i j:Nat,∀o p,all[i]?=some o->all[j]?=some p->i≠j->
   (o.dst.isNone||o.dst !=p.dst)=true/\
   (match p.dst with|some d=> !(jO all o).contains d||(if j<i then ahead (aV all []) j i else ahead (aV all []) i j)|none=>true)=true/\
   (!(aK o.op&&aK p.op&&decide (j<i))||ahead (aV all []) j i)=true:=by
  intro i j o p a f e
  have:=rL (rL c a) f
  grind
 refine {dir:=?_,kind:=?_,dP:=?_,tmps:=?_,gF:=?_};intro k o a j l;have:=rL b a;grind;grind;grind;grind;grind
theorem Fi {all:List Oper} {i s n:Nat} (f:n=all.length) (e:i<n):
  let gF:=(List.range n).filter fun i=>(all[i]?).any fun o=>aK o.op
  ((gF++[n]).find? fun x=>decide (i<x)).getD n=s->i<s/\∀j p,i<j->j<s->all[j]?=some p->aK p.op=false:=by
 intro gF b
 have a:(gF++[n]).Pairwise (·<·):=by
  rw[List.pairwise_append];refine⟨(List.pairwise_lt_range).filter _,by simp,?_⟩;grind
 cases hf:(gF++[n]).find? fun x=>decide (i<x) with
 |none=>
  grind
 |some p=>
  rw[hf] at b
  simp only[Option.getD_some] at b
  subst b
  obtain⟨c,_,d⟩:=sV a hf
  grind
theorem vS {all:List Oper} {i s:Nat} {o:Oper} (f:all[i]?=some o) (q:bH o.op=true) (r:s=all.length\/∃p,all[s]?=some p/\aK p.op=true)
  (d:∀j p,all[j]?=some p->aK p.op=true->(j<s->ahead (aV all []) i j=false)/\(s<=j->ahead (aV all []) j i=false))
  (c:¬(i<s/\∀j p,i<j->j<s->all[j]?=some p->aK p.op=false)):(i,s)∈jQ all:=by
 have b:i<all.length:=(List.getElem?_eq_some_iff.1 f).1
 unfold jQ
 simp only
 rw[List.mem_flatMap]
 refine⟨i,List.mem_range.2 b,?_⟩
 rw[Kx (by simp[f,q])]
 rw[List.mem_map]
 refine⟨s,?_,rfl⟩
 rw[List.mem_filter]
 constructor
 .grind
 .rw[Bool.and_eq_true];constructor
  .simp only[bne_iff_ne,ne_eq];intro m;exact c (Fi rfl b m.symm)
  .rw[List.all_eq_true];intro j e;rw[List.mem_filter] at e;obtain⟨n,a⟩:=e;cases hp:all[j]? with
   |none=>simp[hp] at a
   |some p=>
    simp[hp] at a
    obtain⟨g,l⟩:=d j p hp a
    split
    .rename_i h;simp[g h]
    .rename_i h;simp[l (by omega)]
theorem tT {R:hQ} {all:List Oper} {d:Nat}:∀(os:List Oper) (i:Nat) (env:List Value) (h:AH) (rs:List Rec) (e:List Value) (b:AH),bI P R all d i os env h=some (rs,e,b)->rs.length=os.length
 |[],i,env,h,rs,e,b,a=>by
  simp only[bI,Option.some.injEq,Prod.mk.injEq] at a;rw[<-a.1];rfl
 |o::os,i,env,h,rs,e,b,a=>by
  simp only[bI] at a;split at a;split at a;rename_i c;simp only[Option.some.injEq,Prod.mk.injEq] at a;rw[<-a.1,List.length_cons,List.length_cons,tT os _ _ _ _ _ _ c];cases a;cases a
theorem D5 (C:Ctx P B K) (R:hQ) (hR:jG C R):Ce C R:=by
 intro ops env h κ h' c ρ w b a cs k t l hg he;unfold eB at c;split at c;rename_i z;rw[Bool.and_eq_true] at z;obtain⟨z,J⟩:=z;split at c;rename_i rs e hN r;split at c;rename_i I;simp only[Option.some.injEq,Prod.mk.injEq] at c;obtain⟨rfl,rfl⟩:=c;have fit:=wV z;generalize u:ops.toList=all at fit r I z;have μ:ops.size=all.length:=by rw[<-u];simp
 obtain⟨E,H,V,W,F,A,X,G,U⟩:=nM all 0 env _ rs e hN r;have d:Dr P R all h.next E H V:={
  step:=fun j o L=>by have:=(A j o L).1;rwa [Nat.zero_add] at this
  env:=fun j o L=>(A j o L).2
  dir:=fit.dir,kind:=fit.kind,dP:=fit.dP,tmps:=fit.tmps,gF:=fit.gF
  Kh:=fun i s o L hl hs ε Y T hw=>by
   rw[List.all_eq_true] at I;have:=I (i,s) (vS L hl ε Y T);have β:i<all.length:=(List.getElem?_eq_some_iff.1 L).1;unfold eP at this;simp only[L,U i β,hw] at this;have hh:aT P (aH P (E i)) (H s) o.op=some (V i):=by
    rcases Nat.lt_or_ge s all.length with g|g;rw[U s g] at this;simp only at this;split at this;rename_i v hv;rw[hv,oF _ _ this];cases this;have ζ:s=all.length:=by omega
    rw[List.getElem?_eq_none (by rw[tT _ _ _ _ _ _ _ r];omega)] at this;simp only at this;rw[ζ,G];split at this;rename_i v hv;rw[hv,oF _ _ this];cases this
   exact hh}
 have hB:B<=w.heap.size:=l.size;have α:Inv P B ρ (H 0) w:=by
  rw[F];exact {eJ:=l.eJ,inj:=l.inj,low:=l.low,old:=l.old,fresh:=fun i g=>l.fresh i (by simp at g;omega),bM:=fun i g=>l.bM i (by simp at g;omega),eE:=l.eE,size:=l.size,bn:=by have:=l.bn;grind}
 have q:∀i,(H 0).get i=h.get i:=fun i=>by rw[F];rfl
 have θ:St P B all h.next E H V ρ h w [] 0 ρ w a.tmps.toList:={
  kE:={ext:=Ext.refl _,inv:=α,un:=fun _ _ h=>h,dA:=fun i _ _=>q i,stay:=fun i _ g=>by rw[q];exact g,frame:=fun _ _ _=>rfl,
                range:=fun i b s g x h3 _=>⟨i,s,g,by grind,h3⟩,base:=by rw[F],gB:=fun i _=>q i,size:=Nat.le_refl _,os:=rfl,out:=rfl,tape:=rfl}
  zY:=fun i g=>by cases g
  closed:=fun i g=>by cases g
  s1:=fun j o g=>by omega
  s3:=fun j o _ _ g=>by cases g
  sle:=Nat.zero_le _
  env:=by rw[W];exact he
  nx:=by grind
  jT:=fun i o b f _ g=>by cases g
  fR:=fun i n t g x=>by rw[l.fresh _ (by omega)] at x;cases x
  lone:=fun i n t _ g x=>by rw[l.fresh _ (by omega)] at x;cases x
  mU:=fun i i' n t t' _ _ x=>by rw[l.fresh _ (by omega)] at x;cases x
  xP:=fun i _ _=>l.fresh _ (by omega)
  Bd:=fun i o _ _=>l.fresh _ (by omega)
  rev:=fun i o b f g=>by omega
  xZ:=fun j _ _=>by rw[q];exact l.bM _ (by omega)
  gr:=fun m hm _=>(have:m=0:=(by omega);this▸dL.refl _)}
 obtain⟨s,ι,Z⟩:=θ.advance d l.bn hB _ _ rfl;have D:Region.schedule (P.follows .mixedOrders) ops t=Region.linearise.go .any ops ops.size t (Array.replicate ops.size false) []:=by
  unfold Region.schedule;rw[Kx J];rfl
 have S:gI all [] (Region.schedule (P.follows .mixedOrders) ops t):=by
  rw[D,<-u];refine jF (by rw[u];exact fit.dir) ops.size t _ [] (by simp) (fun i l=>by simp[l]) ?_;grind
 obtain⟨D',ρ',w',a',Fq,γ,M,η⟩:=oZ C hR u d l.bn hB l hg (b:=b) (cs:=cs) (k:=k) _ [] s ρ w a S Z ι;have y:=Fq.kE;rw[G] at y;have δ:=Fq.nx;rw[G] at δ;refine⟨ρ',w',a',y.kE (by omega),?_,M,η⟩;have N:e=hO all V (E 0) D':=by
  rw[<-X,d.Gh _ (Nat.le_refl _)];refine List.ext_getElem? fun t=>qN (fun i j g x=>fit.dP i j t g x) fun j hj=>?_;have O:j<all.length:=by
   cases hp:all[j]? with
   |none=>rw[hp] at hj;cases hj
   |some p=>grind
  simp[O,γ j O]
 rw[N];exact Fq.env;cases c;cases c;cases c
theorem zT (C:Ctx P B K) (n:Nat):jG C (run P K n):=Fe C (D5 C) n
end
end Go.Ab
section
namespace Go.Ab
variable {P:Program} {K:FuncId->List Value->Option bZ}
def hQ.le (R R':hQ):Prop:=∀t h r,R t h=some r->R' t h=some r
theorem gG {R R':hQ} (e:R.le R') {d:Operand->Value} {h:AH} {op:Op} {r:Value×AH} (a:aM P R d h op=some r):aM P R' d h op=some r:=by
 unfold aM at a ⊢;split;exact a;exact a;simp only at a ⊢;split;grind;rename_i g;simp only[g] at a;split;rename_i b;simp only[b] at a;split;rename_i f;rw[Kx f] at a;simp only[Option.map_eq_some_iff] at a ⊢;obtain⟨x,c,rfl⟩:=a;exact⟨x,e _ _ _ c,rfl⟩;grind;rename_i b;simp only[b] at a;simp only[Option.map_eq_some_iff] at a ⊢;obtain⟨x,c,rfl⟩:=a;exact⟨x,e _ _ _ c,rfl⟩;grind;grind;grind
theorem qZ {R R':hQ} (b:R.le R') {env:List Value} {h:AH} {op:Op} {r:Value×AH} (a:cS P R env h op=some r):cS P R' env h op=some r:=by
 unfold cS at a ⊢;cases hk:kindOf op<;>simp only[hk] at a ⊢;exact a;exact a;exact gG b a;exact gG b a;exact a
theorem mG {R R':hQ} (f:R.le R') {all:List Oper} {d i:Nat} {env:List Value} {h:AH} {o:Oper} {r:Value×AH} (a:aX P R all d i env h o=some r):aX P R' all d i env h o=some r:=by
 unfold aX at a ⊢;cases hw:aP ⟨all⟩ env o with
 |none=>grind
 |some b=>
  rw[hw] at a;cases b with
  |false=>exact a
  |true=>
   simp only at a ⊢;split;grind;rename_i e;rw[Kw e] at a;split;grind;rename_i c;rw[Kw c] at a;exact gG f a
theorem iI {R R':hQ} (b:R.le R') {all:List Oper} {c:Nat}:∀(os:List Oper) {i:Nat} {env:List Value} {h:AH} {r:List Rec×List Value×AH},bI P R all c i os env h=some r->bI P R' all c i os env h=some r
 |[],_,_,_,_,a=>a
 |o::os,i,env,h,r,a=>by
  simp only[bI] at a ⊢;split at a;rename_i v g d;rw[mG b d];simp only;split at a;rename_i j e f;rw[iI b os f];exact a;cases a;cases a
theorem oU {R R':hQ} (c:R.le R') {ops:Array Oper} {env:List Value} {h:AH} {r:List Value×AH} (a:eB P R ops env h=some r):eB P R' ops env h=some r:=by
 unfold eB at a ⊢;split;rename_i b;rw[Kx b] at a;split at a;rename_i d;rw[iI c _ d];exact a;cases a;grind
theorem zJ {R R':hQ} (c:R.le R') {all:Array Oper} {rest:List Oper} {env:List Value} {h:AH} {r:Out×AH} (a:eK P R all rest env h=some r):eK P R' all rest env h=some r:=by
 unfold eK at a ⊢;cases rest with
 |nil=>exact a
 |cons o rest=>
  simp only at a ⊢;cases hw:aP all env o with
  |none=>grind
  |some b=>
   rw[hw] at a;cases b with
   |false=>exact c _ _ _ a
   |true=>
    simp only at a ⊢;split at a;rename_i v e d;rw[qZ c d];exact c _ _ _ a;cases a
theorem xI {R R':hQ} (d:R.le R') {f:FuncId} {args:List Value} {h:AH} {r:Out×AH} (a:cN P K R f args h=some r):cN P K R' f args h=some r:=by
 unfold cN at a ⊢;split;grind;rename_i b;rw[b] at a;simp only at a;split at a;rename_i c;rw[d _ _ _ c];exact a;cases a;grind;rename_i b;rw[b] at a;simp only at a;split at a;split at a;split at a;rename_i c;rw[d _ _ _ c];exact a;cases a;cases a;cases a
theorem uN {R R':hQ} (c:R.le R') {l:Nat} {args:List Value} {h:AH} {r:Out×AH} (a:eF R l args h=some r):eF R' l args h=some r:=by
 unfold eF at a ⊢;split at a;split at a;rename_i b;rw[Kx b];split at a;rename_i d;rw[c _ _ _ d];exact a;cases a;cases a;cases a
theorem wS {R R':hQ} (b:R.le R') {fn:FuncId} {ro:Option Nat} {ds:List Nat} {env:List Value} {k:List Item} {h:AH} {r:Out×AH} (a:aL P R fn ro ds env k h=some r):aL P R' fn ro ds env k h=some r:=by
 unfold aL at a ⊢;split at a;exact a;rename_i c k;split at a;exact b _ _ _ a;exact b _ _ _ a;exact b _ _ _ a;split at a;exact b _ _ _ a;cases a;exact b _ _ _ a;exact b _ _ _ a;exact b _ _ _ a;split at a;exact b _ _ _ a;exact a;exact a;split at a;rename_i i;rw[b _ _ _ i];exact b _ _ _ a;cases a;split at a;rename_i i;rw[oU b i];exact b _ _ _ a;cases a;split at a;rename_i d n j m;split at a;rename_i g first e p
 split at a;rename_i f;rw[Kx f];split at a;rename_i i;rw[b _ _ _ i];simp only;split at a;split at a;cases a;rename_i l;rw[Kw l];split at a;exact b _ _ _ a;cases a;cases a;cases a;cases a;cases a;cases a;cases a;exact b _ _ _ a;exact b _ _ _ a;exact b _ _ _ a;split at a;split at a;split at a;exact b _ _ _ a;cases a;cases a;cases a;cases a
theorem Ag:∀n,(run P K n).le (run P K (n+1))
 |0,t,h,r,a=>by simp[run] at a
 |n+1,t,h,r,a=>by
  have c:=Ag n;cases t with
  |todo fn ro ds env k=>exact wS c a
  |ops all rest env=>exact zJ c a
  |call f b=>exact xI c a
  |round l b=>exact uN c a
theorem cJ {n m:Nat} (h:n<=m):(run P K n).le (run P K m):=by
 induction h with
 |refl=>exact fun _ _ _ h=>h
 |step _ b=>exact fun t g r a=>Ag _ _ _ _ (b t g r a)
end Go.Ab
end
section
namespace Go.Ab
noncomputable section
variable {P:Program} {K:FuncId->List Value->Option bZ}
def zG (k:Nat) (a b:Value):Option Bool:=match k,a,b with
 |0,.int k m,.int c n=>if k=c then some (m==n) else none
 |1,.bool m,.bool n=>some (m==n)
 |2,.string m,.string n=>some (m==n)
 |_,_,_=>none
def eM:List Nat->List Value->List Value->Option Bool
 |[],[],[]=>some true
 |k::c,x::d,y::e=>match zG k x y,eM c d e with
  |some a,some b=>some (a&&b)
  |_,_=>none
 |_,_,_=>none
def nV (P:Program) (c:TypeId->Option (List Nat)):Nat->List Field->Option (List Nat)
 |_,[]=>some []
 |o,f::d=>if f.name="_"\/f.offset≠o then none else
  match c f.type,nV P c (o+P.cellsOf f.type) d with
  |some a,some b=>if a.length=P.cellsOf f.type then some (a++b) else none
  |_,_=>none
def qC (P:Program):Nat->TypeId->Option (List Nat)
 |0,_=>none
 |d+1,t=>match P.underlying t with
  |some .bool=>some [1]
  |some (.int _)=>some [0]
  |some .string=>some [2]
  |some (.array n e)=>if(P.info? e).isSome then
    (match qC P d e with
    |some l=>if l.length=P.cellsOf e then some (List.replicate n l).flatten else none
    |none=>none) else none
  |some (.struct a)=>if P.stoodInHeld t then none else nV P (qC P d) 0 a.toList
  |_=>none
theorem eH:∀{c:List Nat} {a b:List Value} {r:Bool},eM c a b=some r->a.length=c.length/\b.length=c.length
 |[],[],[],_,_=>⟨rfl,rfl⟩
 |[],[],_::_,_,h=>by simp[eM] at h
 |[],_::_,_,_,h=>by simp[eM] at h
 |_::_,[],_,_,h=>by simp[eM] at h
 |_::_,_::_,[],_,h=>by simp[eM] at h
 |k::c,x::e,y::f,r,h=>by
  simp only[eM] at h;split at h;rename_i d;have:=eH d;simp[this];cases h
theorem jW:∀{c d:List Nat} {a b:List Value} {r:Bool},eM (c++d) a b=some r->∃e f,eM c (a.take c.length) (b.take c.length)=some e/\eM d (a.drop c.length) (b.drop c.length)=some f/\r=(e&&f)
 |[],d,a,b,r,h=>⟨true,r,by simp[eM],by simpa using h,by simp⟩
 |k::g,d,[],_,r,h=>by simp[eM] at h
 |k::g,d,_::_,[],r,h=>by simp[eM] at h
 |k::g,d,x::n,y::p,r,h=>by
  simp only[List.cons_append,eM] at h;split at h;rename_i e f i j;cases h;obtain⟨s1,s2,l,m,rfl⟩:=jW j;exact⟨e&&s1,s2,by simp[eM,i,l],by simpa using m,by rw[Bool.and_assoc]⟩;cases h
def valOf (P:Program) (t:TypeId) (a:List Value):Option Value:=match bY P t with
 |some true=>some (.agg ⟨a⟩)
 |some false=>a[0]?
 |none=>none
theorem jA {t:TypeId} {xs a:List Value} {b:Nat} {v:Value} (e:(xs.drop b).take (P.cellsOf t)=a) (f:a.length=P.cellsOf t) (d:0<P.cellsOf t\/b<=xs.length) (c:valOf P t a=some v):apart P t xs b=some v:=by
 unfold valOf at c;unfold apart;grind
theorem qG {eq:TypeId->Value->Value->Option Bool} {j:TypeId->Option (List Nat)}
  (n:∀t d a b r,j t=some d->d.length=P.cellsOf t->eM d a b=some r->∃x y,valOf P t a=some x/\valOf P t b=some y/\eq t x y=some r)
  {xs ys:List Value}:∀(fs:List Field) (o:Nat) (d:List Nat) (r:Bool),o<=xs.length->o<=ys.length->nV P j o fs=some d->eM d (xs.drop o) (ys.drop o)=some r->cV P eq xs ys fs=some r
 |[],o,d,r,_,_,c,e=>by
  simp only[nV,Option.some.injEq] at c;subst c;have:=eH e;have u:xs.drop o=[]:=List.eq_nil_of_length_eq_zero this.1;have v:ys.drop o=[]:=List.eq_nil_of_length_eq_zero this.2;rw[u,v] at e;simpa [eM,cV] using e
 |f::fs,o,d,r,C,D,c,e=>by
  simp only[nV] at c;split at c;cases c;rename_i i;simp only[not_or,Decidable.not_not,ne_eq] at i;split at c;rename_i a b w z;split at c;rename_i g;cases c;obtain⟨H,G,l,m,rfl⟩:=jW e;obtain⟨x,y,E,F,A⟩:=n _ _ _ _ _ w g l;have p:=eH l;have lc:=eH e;simp only[List.length_drop,List.length_append] at lc;have q:apart P f.type xs f.offset=some x:=jA (by rw[i.2,<-g]) (by rw[p.1,g]) (.inr (by omega)) E;have s:apart P f.type ys f.offset=some y:=jA (by rw[i.2,<-g]) (by rw[p.2,g]) (.inr (by omega)) F;simp only[cV];rw[Kw i.1,q,s];simp only[A];rw[List.drop_drop,List.drop_drop] at m;have:=qG (xs:=xs) (ys:=ys) n fs (o+P.cellsOf f.type) b G (by omega) (by omega) z (by rw[<-g];exact m);grind;cases c;cases c
theorem uG {eq:TypeId->Value->Value->Option Bool} {e:TypeId} {l:List Nat}
  (i:∀a b r,eM l a b=some r->∃x y,valOf P e a=some x/\valOf P e b=some y/\eq e x y=some r) (d:l.length=P.cellsOf e)
  {xs ys:List Value}:∀(n j:Nat) (r:Bool),j*P.cellsOf e<=xs.length->j*P.cellsOf e<=ys.length->eM (List.replicate n l).flatten (xs.drop (j*P.cellsOf e)) (ys.drop (j*P.cellsOf e))=some r->eI P eq e xs ys (List.range' j n)=some r
 |0,j,r,_,_,c=>by
  have:=eH c;simp only[List.replicate_zero,List.flatten_nil,List.length_nil] at this;have f:xs.drop (j*P.cellsOf e)=[]:=List.eq_nil_of_length_eq_zero this.1;have s:ys.drop (j*P.cellsOf e)=[]:=List.eq_nil_of_length_eq_zero this.2;rw[f,s] at c;simpa [eM,eI] using c
 |n+1,j,r,w,A,c=>by
  rw[List.replicate_succ,List.flatten_cons] at c;obtain⟨D,C,g,t,rfl⟩:=jW c;obtain⟨x,y,v,z,u⟩:=i _ _ _ g;have m:=eH g;have lc:=eH c;simp only[List.length_drop,List.length_append] at lc;have p:apart P e xs (j*P.cellsOf e)=some x:=jA (by rw[<-d]) (by rw[m.1,d]) (.inr (by omega)) v;have q:apart P e ys (j*P.cellsOf e)=some y:=jA (by rw[<-d]) (by rw[m.2,d]) (.inr (by omega)) z;simp only[List.range'_succ,eI,p,q,u];rw[List.drop_drop,List.drop_drop] at t;have f:(j+1)*P.cellsOf e=j*P.cellsOf e+P.cellsOf e:=Nat.succ_mul _ _;have:=uG (xs:=xs) (ys:=ys) i d n (j+1) C (by omega) (by omega) (by grind);grind
theorem Cu (d:Nat):∀(t:TypeId) (i:List Nat) (a b:List Value) (r:Bool),qC P d t=some i->i.length=P.cellsOf t->eM i a b=some r->
  ∃x y,valOf P t a=some x/\valOf P t b=some y/\hY P d t x y=some r:=by
 induction d with
 |zero=>intro t i a b r h;simp[qC] at h
 |succ d q=>
  intro t i a b r h p j
  have one:∀k,i=[k]->∃x y,a=[x]/\b=[y]/\zG k x y=some r:=fun k p=>by
   subst p;have:=eH j;match a,b,this with
   |[x],[y],_=>
    refine⟨x,y,rfl,rfl,?_⟩;simp only[eM] at j;grind
  unfold qC at h
  split at h
  .rename_i c;obtain⟨x,y,rfl,rfl,f⟩:=one 1 (by simpa using h.symm);refine⟨x,y,by simp[valOf,bY,c],by simp[valOf,bY,c],?_⟩;unfold zG at f;split at f
   .rename_i g;cases g
   .cases f;unfold hY;simp[c]
   .rename_i g;cases g
   .cases f
  .rename_i k c;obtain⟨x,y,rfl,rfl,f⟩:=one 0 (by simpa using h.symm);refine⟨x,y,by simp[valOf,bY,c],by simp[valOf,bY,c],?_⟩;unfold zG at f;split at f
   .split at f
    .rename_i m;subst m;cases f;unfold hY;simp[c]
    .cases f
   .rename_i g;cases g
   .rename_i g;cases g
   .cases f
  .rename_i c;obtain⟨x,y,rfl,rfl,f⟩:=one 2 (by simpa using h.symm);refine⟨x,y,by simp[valOf,bY,c],by simp[valOf,bY,c],?_⟩;unfold zG at f;split at f
   .rename_i g;cases g
   .rename_i g;cases g
   .cases f;unfold hY;simp[c]
   .cases f
  .rename_i n e c;split at h
   .rename_i z;split at h
    .rename_i l A;split at h
     .rename_i hle;cases h;refine⟨.agg ⟨a⟩,.agg ⟨b⟩,by simp[valOf,bY,c],by simp[valOf,bY,c],?_⟩;unfold hY;simp only[c,z,if_true];rw[List.range_eq_range'];exact uG (fun a b r j=>q e l a b r A hle j) hle n 0 r (by simp) (by simp) (by simpa using j)
     .cases h
    .cases h
   .cases h
  .rename_i s c;split at h
   .cases h
   .rename_i C;refine⟨.agg ⟨a⟩,.agg ⟨b⟩,by simp[valOf,bY,c],by simp[valOf,bY,c],?_⟩;unfold hY;simp only[c,C,Bool.false_eq_true,if_false];exact qG (fun t i a b r u v w=>q t i a b r u v w) s.toList 0 i r (by simp) (by simp) h (by simpa using j)
  .cases h
def wU (op:BinOp) (r:Bool):Option Value:=match op with
 |.eql=>some (.bool r)
 |.neq=>some (.bool !r)
 |_=>none
def Bi (op:BinOp) (a b:Value):Option Value:=match a,b with
 |.int k m,.int c n=>if k=c then mS op k m n else oC op k m n
 |_,_=>none
def E5 (op:BinOp) (a b:Value):Option Value:=match a,b with
 |.string m,.string n=>uI op m n
 |_,_=>none
def H5 (op:BinOp) (a b:Value):Option Value:=match a,b with
 |.bool m,.bool n=>wU op (m==n)
 |_,_=>none
def I0 (op:BinOp) (a b:Value):Option Value:=match a,b with
 |.pointer none,.pointer b=>wU op b.isNone
 |.pointer (some _),.pointer none=>wU op false
 |_,_=>none
def Ix (op:BinOp) (a b:Value):Option Value:=match a,b with
 |.slice none _ _,.slice b _ _=>wU op b.isNone
 |.slice (some _) _ _,.slice none _ _=>wU op false
 |_,_=>none
def Iz (op:BinOp) (a b:Value):Option Value:=match a,b with
 |.nilFunc,.nilFunc=>wU op true
 |.nilFunc,.func _ _ _=>wU op false
 |.func _ _ _,.nilFunc=>wU op false
 |_,_=>none
def H0 (c:Bool) (op:BinOp) (a b:Value):Option Value:=match a,b with
 |.nilIface,.nilIface=>if c then wU op true else none
 |.nilIface,.iface _ _=>wU op false
 |.iface _ _,.nilIface=>wU op false
 |_,_=>none
def Gu (c:List Nat) (op:BinOp) (a b:Value):Option Value:=match a,b with
 |.agg d,.agg e=>(eM c d.toList e.toList).bind (wU op)
 |_,_=>none
def mX (P:Program) (t:TypeId):Option (List Nat):=match qC P 10000 t with
 |some a=>if a.length=P.cellsOf t/\bY P t=some true/\P.eqGuardType P.depth t=false then some a else none
 |none=>none
def sY (P:Program) (op:BinOp) (t:TypeId) (x y:Operand) (a b:Value) (q:Value->Prop) (aQ:Option Value->(Value->Prop)->Prop):Prop:=
 match P.underlying t with
 |some (.int _)=>aQ (Bi op a b) q
 |some .string=>aQ (E5 op a b) q
 |some .bool=>aQ (H5 op a b) q
 |some (.pointer _)=>aQ (I0 op a b) q
 |some (.slice _)=>aQ (Ix op a b) q
 |some (.func _ _ _)=>aQ (Iz op a b) q
 |some (.interface _)=>aQ (H0 (isConst x||isConst y) op a b) q
 |some (.struct _)=>(match mX P t with
  |some c=>aQ (Gu c op a b) q
  |none=>False)
 |some (.array _ _)=>(match mX P t with
  |some c=>aQ (Gu c op a b) q
  |none=>False)
 |_=>False
theorem cI {op:BinOp} {t:TypeId} {x y:Operand} {a b v:Value} {r:Bool} (e:∀k m d n,¬(a= .int k m/\b= .int d n)) (i:∀m n,¬(a= .string m/\b= .string n)) (c:wU op r=some v) (f:mE P t x y a b=true) (g:hY P 10000 t a b=some r):
  rP P op t x y a b=some v:=by
 unfold rP
 split
 .grind
 .grind
 .unfold wU at c;grind
theorem cQ {t:TypeId} {a b:Value} {r:Bool} (h:hY P (9999+1) t a b=some r):hY P 10000 t a b=some r:=h
theorem tX {op:BinOp} {t:TypeId} {x y:Operand} {a b:Value} {q:Value->Prop} (g:sY P op t x y a b q fun o p=>∃v,o=some v/\p v):∃v,rP P op t x y a b=some v/\q v:=by
 unfold sY at g;split at g;obtain⟨v,c,d⟩:=g;refine⟨v,?_,d⟩;unfold Bi at c;split at c;simp only[rP];exact c;cases c;obtain⟨v,c,d⟩:=g;refine⟨v,?_,d⟩;unfold E5 at c;split at c;simp only[rP];exact c;cases c;rename_i e;obtain⟨v,c,d⟩:=g;refine⟨v,?_,d⟩;unfold H5 at c;split at c;exact cI (fun _ _ _ _ h=>by cases h.1) (fun _ _ h=>by cases h.1) c rfl (cQ (by unfold hY;simp[e]));cases c;rename_i e;obtain⟨v,c,d⟩:=g;refine⟨v,?_,d⟩;unfold I0 at c;split at c;exact cI (fun _ _ _ _ h=>by cases h.1) (fun _ _ h=>by cases h.1) c rfl (cQ (by unfold hY;simp[e]));exact cI (fun _ _ _ _ h=>by cases h.1) (fun _ _ h=>by cases h.1) c rfl (cQ (by unfold hY;simp[e]));cases c;rename_i e;obtain⟨v,c,d⟩:=g;refine⟨v,?_,d⟩;unfold Ix at c;split at c;exact cI (fun _ _ _ _ h=>by cases h.1) (fun _ _ h=>by cases h.1) c rfl (cQ (by unfold hY;simp[e]));exact cI (fun _ _ _ _ h=>by cases h.1) (fun _ _ h=>by cases h.1) c rfl (cQ (by unfold hY;simp[e]));cases c;rename_i e;obtain⟨v,c,d⟩:=g;refine⟨v,?_,d⟩;unfold Iz at c;split at c;exact cI (fun _ _ _ _ h=>by cases h.1) (fun _ _ h=>by cases h.1) c rfl (cQ (by unfold hY;simp[e]));exact cI (fun _ _ _ _ h=>by cases h.1) (fun _ _ h=>by cases h.1) c rfl (cQ (by unfold hY;simp[e]));exact cI (fun _ _ _ _ h=>by cases h.1) (fun _ _ h=>by cases h.1) c rfl (cQ (by unfold hY;simp[e]));cases c;rename_i e;obtain⟨v,c,d⟩:=g;refine⟨v,?_,d⟩;unfold H0 at c;split at c;split at c;rename_i i;exact cI (fun _ _ _ _ h=>by cases h.1) (fun _ _ h=>by cases h.1) c (by simpa [mE] using i) (cQ (by unfold hY;simp[e]));cases c;exact cI (fun _ _ _ _ h=>by cases h.1) (fun _ _ h=>by cases h.1) c rfl (cQ (by unfold hY;simp[e]));exact cI (fun _ _ _ _ h=>by cases h.1) (fun _ _ h=>by cases h.1) c rfl (cQ (by unfold hY;simp[e]));cases c;all_goals
  first
   |cases g
   |split at g
    .rename_i G f;obtain⟨v,c,d⟩:=g;refine⟨v,?_,d⟩;unfold Gu at c;split at c
     .rename_i D F;simp only[Option.bind_eq_some_iff] at c;obtain⟨r,z,u⟩:=c;unfold mX at f;split at f
      .rename_i A m;split at f
       .rename_i i;cases f;obtain⟨C,E,j,l,w⟩:=Cu 10000 t _ _ _ _ m i.1 z;simp only[valOf,i.2.1,Option.some.injEq] at j l;have n:C= .agg D:=j.symm;have s:E= .agg F:=l.symm;subst n;subst s;exact cI (fun _ _ _ _ h=>by cases h.1) (fun _ _ h=>by cases h.1) u (by simp[mE,i.2.2]) w
       .cases f
      .cases f
     .cases c
    .cases g
end
end Go.Ab
end
section
namespace Go.Ab
noncomputable section
variable {P:Program} {K:FuncId->List Value->Option bZ}
def Ok (P:Program) (K:FuncId->List Value->Option bZ) (t:Task) (h:AH) (Q:Out->AH->Prop):Prop:=∃n r,run P K n t h=some r/\Q r.1 r.2
def aQ {α:Type} (o:Option α) (p:α->Prop):Prop:=∃v,o=some v/\p v
def Br (v:Value) (p q:Prop):Prop:=∃b,v= .bool b/\(b=true->p)/\(b=false->q)
theorem Ok.mono {t:Task} {h:AH} {Q a:Out->AH->Prop} (k:Ok P K t h Q) (e:∀o b,Q o b->a o b):Ok P K t h a:=
 let⟨n,r,c,d⟩:=k;⟨n,r,c,e _ _ d⟩
@[simp] theorem Hq {α:Type} {v:α} {p:α->Prop}:aQ (some v) p↔p v:=⟨fun⟨_,h,k⟩=>by cases h;exact k,fun k=>⟨v,rfl,k⟩⟩
@[simp] theorem G2 {α:Type} {p:α->Prop}:aQ none p↔False:=⟨fun⟨_,h,_⟩=>(nomatch h),False.elim⟩
@[congr] theorem Gt {α:Type} {o o':Option α} {p:α->Prop} (h:o=o'):aQ o p↔aQ o' p:=by rw[h]
theorem aQ.mono {α:Type} {o:Option α} {p c:α->Prop} (h:aQ o p) (k:∀v,p v->c v):aQ o c:=let⟨v,a,b⟩:=h;⟨v,a,k v b⟩
@[simp] theorem C0 {p q:Prop}:Br (.bool true) p q↔p:=⟨fun⟨b,h,k,_⟩=>by cases h;exact k rfl,fun k=>⟨true,rfl,fun _=>k,by simp⟩⟩
@[simp] theorem Ik {p q:Prop}:Br (.bool false) p q↔q:=⟨fun⟨b,h,_,k⟩=>by cases h;exact k rfl,fun k=>⟨false,rfl,by simp,fun _=>k⟩⟩
theorem uY {b:Bool} {p q:Prop} (a:b=true->p) (c:b=false->q):Br (.bool b) p q:=⟨b,rfl,a,c⟩
def Bw (c a b:Value):Option Value:=match c with
 |.bool t=>some (if t then a else b)
 |_=>none
def Cq (h:AH) (p:Value):Option Value:=match p with
 |.pointer (some a)=>if a.spot.isSome then none else
  (match h.get a.block with
  |some (.cells c _ _ _)=>c[a.off]?
  |_=>none)
 |_=>none
def Co (h:AH) (n:Nat) (p:Value):Option Value:=match p with
 |.pointer (some a)=>(aG h a n).map fun l=> .agg ⟨l⟩
 |_=>none
def Fy (p:Value):Option Value:=match p with
 |.pointer (some a)=>some (.pointer (some a))
 |.func (.func f) a b=>some (.func (.func f) a b)
 |.func (.yield f) a b=>some (.func (.yield f) a b)
 |_=>none
def Il (op:UnOp) (x:Value):Option Value:=match op,x with
 |.neg,.int k n=>some (.int k (k.wrap (0 - n)))
 |.not,.bool b=>some (.bool !b)
 |_,_=>none
def mQ (k:IntKind) (x:Value):Option Value:=match x with
 |.int _ n=>some (.int k (k.wrap n))
 |_=>none
def xM (x:Value):Option Value:=match x with
 |.string z=>some (.string z)
 |_=>none
def zF (n:Nat) (p:Value):Option Value:=match p with
 |.pointer (some a)=>some (.pointer (some (a.add n)))
 |_=>none
def yO (a:Nat) (x:Value):Option Value:=match x with
 |.agg b=>b.toList[a]?
 |_=>none
def yD (a n:Nat) (x:Value):Option Value:=match x with
 |.agg b=>if a+n<=b.toList.length then some (.agg ⟨(b.toList.drop a).take n⟩) else none
 |_=>none
def Cr (n b:Nat) (x i:Value):Option Value:=match x,i with
 |.pointer (some a),.int _ i=>if 0<=i/\i<n then some (.pointer (some (a.add (i.toNat*b)))) else none
 |_,_=>none
def wN (b:Nat) (x i:Value):Option Value:=match x,i with
 |.slice (some a) n _,.int _ i=>if 0<=i/\i<n/\a.spot=none then some (.pointer (some (a.add (i.toNat*b)))) else none
 |_,_=>none
def Ja (n b:Nat) (x i:Value):Option Value:=match x,i with
 |.agg a,.int _ i=>if 0<=i/\i<n then a.toList[i.toNat*b]? else none
 |_,_=>none
def I4 (n a:Nat) (x i:Value):Option Value:=match x,i with
 |.agg b,.int _ i=>if 0<=i/\i<n/\i.toNat*a+a<=b.toList.length then some (.agg ⟨(b.toList.drop (i.toNat*a)).take a⟩) else none
 |_,_=>none
def I9 (x i:Value):Option Value:=match x,i with
 |.string s,.int _ i=>if 0<=i then(s[i.toNat]?).map fun b=> .int .u8 b.toNat else none
 |_,_=>none
def F5 (i:Nat) (t:Value):Option Value:=match t with
 |.tuple a=>a.toList[i]?
 |_=>none
def I2 (h:AH) (n:Nat) (p v:Value):Option AH:=match p with
 |.pointer (some a)=>(match cL v with
  |some b=>if b.length=n then aO h a b else none
  |none=>none)
 |_=>none
def oH (e:TypeId) (v:Value):Option dQ:=(cL v).map fun l=> .cells l e (0,0) true
def Cp (bytes:Nat) (l c:Value):Option (Nat×Nat):=match l,c with
 |.int _ l,.int _ c=>if 0<=l/\l<=c/\c<=2^40/\bytes*c<=2^47 then some (l.toNat,c.toNat) else none
 |_,_=>none
def iF (cells:List Value):List (Nat×Nat×Value)->Option (List Value)
 |[]=>some cells
 |(a,size,v)::rest=>match cL v with
  |some b=>if b.length=size/\a+b.length<=cells.length then iF (aF cells a b) rest else none
  |none=>none
def gL (place:Nat->Option (Nat×Nat)) (b:Operand->Value):List (Nat×Operand)->Option (List (Nat×Nat×Value))
 |[]=>some []
 |(i,x)::rest=>match place i,gL place b rest with
  |some (a,size),some l=>some ((a,size,b x)::l)
  |_,_=>none
theorem kO {place:Nat->Option (Nat×Nat)} {b:Operand->Value}:∀{a:List (Nat×Operand)} {l:List (Nat×Nat×Value)} {cells:List Value},gL place b a=some l->kU place cells (a.map fun p=>(p.1,b p.2))=iF cells l
 |[],l,cells,h=>by simp only[gL,Option.some.injEq] at h;subst h;rfl
 |(i,x)::rest,l,cells,h=>by
  simp only[gL] at h;split at h;rename_i e size f c d;cases h;simp only[List.map_cons,kU,iF,c];cases hc:cL (b x) with
  |none=>rfl
  |some g=>
   simp only;split;exact kO d;rfl
  cases h
def I8 (g:Nat) (h:AH) (x:Value) (f e d:Option Value):Option Value:=match x with
 |.slice none len b=>
  match jC d b b with
  |some m=>match(if e.isNone&&d.isSome then none else jC e len m) with
   |some c=>match jC f 0 c with
    |some l=>some (.slice none (c - l) (m - l))
    |none=>none
   |none=>none
  |none=>none
 |.slice (some a) len b=>
  match jC d b b with
  |some m=>match(if e.isNone&&d.isSome then none else jC e len m) with
   |some c=>match jC f 0 c with
    |some l=>
     if a.spot.isSome then(if len=0/\b=0 then some (if d.isSome then gH else Fg) else none) else
     if c<=m then
      (if m=l then
       if d.isSome then some gH else
       match iV h a.block with
       |some true=>some gH
       |some false=>some (nS (a.add (l*g)))
       |none=>none
      else some (.slice (some (a.add (l*g))) (c - l) (m - l)))
     else none
    |none=>none
   |none=>none
  |none=>none
 |_=>none
def Iy (n f:Nat) (x:Value) (e c d:Option Value):Option Value:=match x with
 |.pointer (some a)=>
  match jC d n n with
  |some m=>match(if c.isNone&&d.isSome then none else jC c n m) with
   |some b=>match jC e 0 b with
    |some l=>if a.spot=none then some (.slice (some (if m=l then a else a.add (l*f))) (b - l) (m - l)) else none
    |none=>none
   |none=>none
  |none=>none
 |_=>none
def Iv (x:Value) (c b:Option Value):Option Value:=match x with
 |.string s=>
  match jC b s.size s.size with
  |some a=>match jC c 0 a with
   |some l=>some (.string (s.extract l a))
   |none=>none
  |none=>none
 |_=>none
def Dj (P:Program) (K:FuncId->List Value->Option bZ) (f:Value) (args:List Value) (h:AH) (Q:Value->AH->Prop):Prop:=match f with
 |.func (.func g) first a=>cB P g=true/\Ok P K (.call g (first.toList++args++a.toList)) h fun o b=>Q o.v b
 |.func (.yield l) first _=>Ok P K (.round l (first.toList++args)) h fun o b=>Q o.v b
 |_=>False
def Jm (z:Value) (h:AH) (x ix:Value) (ok:Bool):Option Value:=match zZ h x,ix with
 |some a,.int k n=>match iN k n a 0 with
  |some (some (_,v))=>some (if ok then .tuple ⟨[v,.bool true]⟩ else v)
  |some none=>some (if ok then .tuple ⟨[z,.bool false]⟩ else z)
  |none=>none
 |_,_=>none
def cA (P:Program) (g:Operand->Value) (h:AH) (q:Value->Prop):Op->Prop
 |.move x=>q (g x)
 |.assign x=>q (g x)
 |.pick c a b=>aQ (Bw (g c) (g a) (g b)) q
 |.build t m=>match zeroOf P t with
  |some z=>(match P.underlying t with
   |some (.struct p)=>if p.all (fun f=>(P.info? f.type).isSome) then(match gL (fun i=>(p[i]?).map fun f=>(f.offset,P.cellsOf f.type)) g m.toList with
    |some l=>aQ (iF z l) fun c=>q (.agg ⟨c⟩)
    |none=>False) else False
   |some (.array _ e)=>if(P.info? e).isSome then(match gL (fun i=>some (i*P.cellsOf e,P.cellsOf e)) g m.toList with
    |some l=>aQ (iF z l) fun c=>q (.agg ⟨c⟩)
    |none=>False) else False
   |_=>False)
  |none=>False
 |.load t a=>match bY P t with
  |some true=>aQ (Co h (P.cellsOf t) (g a)) q
  |some false=>aQ (Cq h (g a)) q
  |none=>False
 |.nilCheck x=>aQ (Fy (g x)) q
 |.binOp op t x y _=>sY P op t x y (g x) (g y) q aQ
 |.unOp op _ x=>aQ (Il op (g x)) q
 |.convert s d x=>match P.underlying s with
  |some .string=>(match P.underlying d with
   |some (.int k)=>aQ (mQ k (g x)) q
   |some .string=>aQ (xM (g x)) q
   |_=>False)
  |some (.slice e)=>(match P.underlying d with
   |some .string=>(match P.underlying e with
    |some (.int .u8)=>aQ (strOf h (g x)) q
    |_=>False)
   |_=>False)
  |some _=>(match P.underlying d with
   |some (.int k)=>aQ (mQ k (g x)) q
   |_=>False)
  |none=>False
 |.makeInterface t x=>match P.underlying t with
  |some (.interface _)=>False
  |some _=>q (.iface t (g x))
  |none=>False
 |.makeFunc fn first j=>match fn with
  |.func f=>q (.func (.func f) (first.map g) (j.map g))
  |_=>False
 |.slice t x u r v=>match P.underlying t with
  |some (.slice e)=>if(P.info? e).isSome then aQ (I8 (P.cellsOf e) h (g x) (u.map g) (r.map g) (v.map g)) q else False
  |some (.array n e)=>if(P.info? e).isSome then aQ (Iy n (P.cellsOf e) (g x) (u.map g) (r.map g) (v.map g)) q else False
  |some .string=>(match v with
   |none=>aQ (Iv (g x) (u.map g) (r.map g)) q
   |some _=>False)
  |_=>False
 |.fieldAddr s x f=>match P.underlying s with
  |some (.struct p)=>(match p[f]? with
   |some fd=>if P.cellsOf fd.type=0 then False else aQ (zF fd.offset (g x)) q
   |none=>False)
  |_=>False
 |.field t x f=>match P.underlying t with
  |some (.struct p)=>(match p[f]? with
   |some fd=>(match bY P fd.type with
    |some true=>aQ (yD fd.offset (P.cellsOf fd.type) (g x)) q
    |some false=>aQ (yO fd.offset (g x)) q
    |none=>False)
   |none=>False)
  |_=>False
 |.indexAddr t x i=>match P.underlying t with
  |some (.array n e)=>if(P.info? e).isSome then aQ (Cr n (P.cellsOf e) (g x) (g i)) q else False
  |some (.slice e)=>if(P.info? e).isSome then aQ (wN (P.cellsOf e) (g x) (g i)) q else False
  |_=>False
 |.index t x i=>match P.underlying t with
  |some (.array n e)=>if(P.info? e).isSome then(match bY P e with
   |some true=>aQ (I4 n (P.cellsOf e) (g x) (g i)) q
   |some false=>aQ (Ja n (P.cellsOf e) (g x) (g i)) q
   |none=>False) else False
  |some .string=>aQ (I9 (g x) (g i)) q
  |_=>False
 |.extract t i=>aQ (F5 i (g t)) q
 |.lookup t x ix ok=>match lF P t with
  |some e=>(match zeroV P e with
   |some z=>aQ (Jm z h (g x) (g ix) ok) q
   |none=>False)
  |none=>False
 |_=>False
theorem jI {H:Operand->Value} {h:AH} {q:Value->Prop} {op:Op} (b:cA P H h q op):kindOf op= .gY/\∃v,aC P H h op=some v/\q v:=by
 unfold cA at b;split at b;exact⟨rfl,_,rfl,b⟩;exact⟨rfl,_,rfl,b⟩;obtain⟨v,a,f⟩:=b;exact⟨rfl,v,a,f⟩;refine⟨rfl,?_⟩;split at b;rename_i z G;split at b;rename_i I s;split at b;rename_i p;split at b;rename_i l F;obtain⟨c,a,f⟩:=b;refine⟨_,?_,f⟩;simp only[aC,lN,G,s,p,if_true];rw[kO F,a];rfl;cases b;cases b;rename_i e s;split at b;rename_i p;split at b;rename_i l F;obtain⟨c,a,f⟩:=b;refine⟨_,?_,f⟩;simp only[aC,lN,G,s,p,if_true];rw[kO F,a];rfl;cases b;cases b;cases b;cases b;refine⟨rfl,?_⟩;split at b;rename_i n;obtain⟨v,a,f⟩:=b;refine⟨v,?_,f⟩;unfold Co at a;simp only[aC];split at a;rename_i g;rw[g];simp only[eY,n];exact a;cases a;rename_i n;obtain⟨v,a,f⟩:=b;refine⟨v,?_,f⟩;unfold Cq at a;simp only[aC];split at a;rename_i g;rw[g];simp only[eY,n];exact a;cases a;cases b;obtain⟨v,a,f⟩:=b;exact⟨rfl,v,a,f⟩;obtain⟨v,a,f⟩:=tX b;exact⟨rfl,v,a,f⟩;obtain⟨v,a,f⟩:=b;exact⟨rfl,v,a,f⟩;refine⟨rfl,?_⟩;split at b;rename_i i;split at b;rename_i u;obtain⟨v,a,f⟩:=b;refine⟨v,?_,f⟩;unfold mQ at a;split at a;rename_i g;simp only[aC,i,u,g];exact a;cases a;rename_i u;obtain⟨v,a,f⟩:=b;refine⟨v,?_,f⟩;unfold xM at a;split at a;rename_i g;simp only[aC,i,u,g];exact a;cases a;cases b;rename_i i;split at b;rename_i u;split at b;rename_i g;obtain⟨v,a,f⟩:=b;refine⟨v,?_,f⟩;simp only[aC,i,u,g];exact a;cases b;cases b;rename_i i;split at b;rename_i u;obtain⟨v,a,f⟩:=b;refine⟨v,?_,f⟩;unfold mQ at a;split at a;rename_i g;simp only[aC,i,u,g];exact a;cases a;cases b;cases b;refine⟨rfl,?_⟩;split at b;cases b;rename_i t x d J i;refine⟨_,?_,b⟩;simp only[aC];grind;cases b;split at b;exact⟨rfl,_,rfl,b⟩;cases b;refine⟨rfl,?_⟩;split at b;rename_i s;split at b;rename_i A;obtain⟨v,a,f⟩:=b;refine⟨v,?_,f⟩;unfold I8 at a;split at a;rename_i w;simp only[aC,w,eZ,s,A,if_true];exact a;rename_i w;simp only[aC,w,eZ,s,A,true_and];exact a;cases a;cases b;rename_i s;split at b;rename_i A;obtain⟨v,a,f⟩:=b;refine⟨v,?_,f⟩;unfold Iy at a;split at a;rename_i w;simp only[aC,w,eZ,s,A,true_and];exact a;cases a;cases b;rename_i s;split at b;obtain⟨v,a,f⟩:=b;refine⟨v,?_,f⟩;unfold Iv at a;split at a;rename_i w;simp only[aC,w,eZ,s,Option.map_none,Option.isSome_none,Bool.false_eq_true,if_false];exact a;cases a;cases b;cases b;refine⟨rfl,?_⟩;split at b;rename_i i;split at b;rename_i y;split at b;cases b;rename_i r;obtain⟨v,a,f⟩:=b;refine⟨v,?_,f⟩;unfold zF at a;split at a;rename_i g;simp only[aC,i,g,y,r,if_false];exact a;cases a;cases b;cases b;refine⟨rfl,?_⟩;split at b;rename_i i;split at b;rename_i y;split at b;rename_i n;obtain⟨v,a,f⟩:=b;refine⟨v,?_,f⟩;unfold yD at a;split at a;rename_i g;simp only[aC,i,g,y,apart,n];exact a;cases a;rename_i n;obtain⟨v,a,f⟩:=b;refine⟨v,?_,f⟩;unfold yO at a;split at a;rename_i g;simp only[aC,i,g,y,apart,n];exact a;cases a;cases b;cases b;cases b;refine⟨rfl,?_⟩;split at b;rename_i i;split at b;rename_i j;obtain⟨v,a,f⟩:=b;refine⟨v,?_,f⟩;unfold Cr at a;split at a;rename_i g m;split at a;rename_i r;simp only[aC,i,g,m,r,j,and_self,if_true];exact a;cases a;cases a;cases b;rename_i i;split at b;rename_i j;obtain⟨v,a,f⟩:=b;refine⟨v,?_,f⟩;unfold wN at a;split at a;rename_i g m;split at a;rename_i r;simp only[aC,i,g,m,r,j,and_self,if_true];exact a;cases a;cases a;cases b;cases b;refine⟨rfl,?_⟩;split at b;rename_i i;split at b;rename_i j;split at b;rename_i n;obtain⟨v,a,f⟩:=b;refine⟨v,?_,f⟩;unfold I4 at a;split at a;rename_i g m;split at a;rename_i r;have C:=r.1;have D:=r.2.1;have E:=r.2.2;simp only[aC,i,g,m,C,D,j,and_self,if_true,apart,n,E];exact a;cases a;cases a;rename_i n;obtain⟨v,a,f⟩:=b;refine⟨v,?_,f⟩;unfold Ja at a;split at a;rename_i g m;split at a;rename_i r;simp only[aC,i,g,m,r,j,and_self,if_true,apart,n];exact a;cases a;cases a;cases b;cases b;rename_i i;obtain⟨v,a,f⟩:=b;refine⟨v,?_,f⟩;unfold I9 at a;split at a;rename_i g m;simp only[aC,i,g,m];exact a;cases a;cases b;obtain⟨v,a,f⟩:=b;exact⟨rfl,v,a,f⟩;refine⟨rfl,?_⟩;split at b;rename_i e g;split at b;rename_i z G;obtain⟨v,a,f⟩:=b;refine⟨v,?_,f⟩;unfold Jm at a;simp only[aC,fD,g];grind;cases b;cases b;cases b
end
end Go.Ab
end
section
namespace Go.Ab
noncomputable section
variable {P:Program} {K:FuncId->List Value->Option bZ}
def B0 (x:Value):Option Value:=match x with
 |.string s=>some (.int .i64 s.size)
 |_=>none
def zD (x:Value):Option Value:=match x with
 |.slice _ n _=>some (.int .i64 n)
 |_=>none
def Dl (h:AH) (x:Value):Option Value:=(zZ h x).map fun a=> .int .i64 a.length
def Ao (x y:Value):Option Value:=match x,y with
 |.int k x,.int _ y=>some (.int k (if y<x then y else x))
 |_,_=>none
def Ba (x y:Value):Option Value:=match x,y with
 |.int k x,.int _ y=>some (.int k (if y>x then y else x))
 |_,_=>none
def iH (i bytes:Nat) (e:TypeId) (h:AH) (s x:Value):Option (Value×AH):=
 match s,iK x with
 |.slice f b d,some n=>
  match cH h i n x with
  |some new=>
   if !new.all cZ||new.length !=n*i then none else
   if b+n<=d then
    match f with
    |none=>if n=0 then some (s,h) else none
    |some a=>if n=0 then some (s,h) else if a.spot.isSome then none else
     (aO h (a.add (b*i)) new).map fun m=>(.slice f (b+n) d,m)
   else if(b+n)*(bytes+1)<=2^46 then
    match f with
    |none=>if b=0 then some (.slice (some ⟨h.next,0,none⟩) n n,h.alloc (.cells new e (0,0) false)) else none
    |some a=>
     if a.spot=some 1 then(if b=0 then some (.slice (some ⟨h.next,0,none⟩) n n,h.alloc (.cells new e (0,0) false)) else none) else
     if a.spot=some 2 then
      (match h.get a.block with
      |some (.cells c j l _)=>
       if j=e/\h.base<=a.block/\l=(0,0)/\a.off<=c.length/\b=0/\d=0 then
        some (.slice (some ⟨h.next,0,none⟩) n n,(h.set a.block none).alloc (.cells new e (0,0) false))
       else none
      |_=>none) else
     match aG h a (b*i),h.get a.block with
     |some g,some (.cells c j l x)=>
      if !g.all cZ then none else
      if x then some (.slice (some ⟨h.next,0,none⟩) (b+n) (b+n),h.alloc (.cells (g++new) e (0,0) false))
      else if j=e/\h.base<=a.block/\l=(0,0)/\a.off+d*i<=c.length then
       some (.slice (some ⟨h.next,0,none⟩) (b+n) (b+n),(h.set a.block none).alloc (.cells (g++new) e (0,0) false))
      else none
     |_,_=>none
   else none
  |_=>none
 |_,_=>none
def copyV (f:Nat) (h:AH) (d x:Value):Option (Value×AH):=
 match d,iK x with
 |.slice c b _,some m=>
   match cH h f (Nat.min m b) x with
   |some new=>match c with
    |none=>some (.int .i64 (Nat.min m b:Nat),h)
    |some a=>if Nat.min m b=0 then some (.int .i64 0,h) else(aO h a new).map fun e=>(.int .i64 (Nat.min m b:Nat),e)
   |none=>none
 |_,_=>none
def sP (z:List Value) (h:AH) (x:Value):Option (Value×AH):=
 match x with
 |.slice none _ _=>some (.tuple #[],h)
 |.slice (some a) n _=>
   if n=0 then some (.tuple #[],h) else(aO h a (bP z n)).map fun b=>(.tuple #[],b)
 |_=>none
def xV (h:AH) (m b v:Value):Option AH:=match m,b with
 |.map (some r),.int k n=>if r<h.base then none else match h.get r with
  |some (.map c a)=>(Gp k n v c a).map fun o=>h.set r (some o)
  |_=>none
 |_,_=>none
def yN (h:AH) (m c:Value):Option AH:=match m,c with
 |.map (some r),.int k n=>if r<h.base then none else match h.get r with
  |some (.map b a)=>match iN k n b 0 with
   |some (some (i,_))=>some (h.set r (some (.map (b.eraseIdx i) a)))
   |some none=>some (h.set r (some (.map b a)))
   |none=>none
  |_=>none
 |_,_=>none
theorem Bq {h:AH} {t e:TypeId} {m a v:Value} {h':AH} (c:lF P t=some e) (b:xV h m a v=some h'):iS P h t m a v=some h':=by
 unfold xV at b;split at b;simp only[iS,c];exact b;cases b
theorem Bo {h:AH} {t e:TypeId} {m a:Value} {h':AH} (c:lF P t=some e) (b:yN h m a=some h'):kV P h t m a=some h':=by
 unfold yN at b;split at b;simp only[kV,c];exact b;cases b
def F2 (x:Value):Option Value:=match x with
 |.slice none _ c=>some (.int .i64 c)
 |_=>none
def fS (P:Program) (h:AH) (q:Value->AH->Prop) (a:Array TypeId):Builtin->List Value->Prop
 |.len,[x]=>match(a[0]?).bind P.underlying with
  |some .string=>aQ (B0 x) fun v=>q v h
  |some (.slice _)=>aQ (zD x) fun v=>q v h
  |some (.array n _)=>q (.int .i64 n) h
  |some (.pointer e)=>(match P.underlying e with
   |some (.array n _)=>q (.int .i64 n) h
   |_=>False)
  |some (.map _ _)=>aQ (Dl h x) fun v=>q v h
  |_=>False
 |.append,[s,x]=>match(a[0]?).bind P.underlying with
  |some (.slice e)=>if nC P a/\(zeroOf P e).isSome then aQ (iH (P.cellsOf e) (P.bytesOf e) e h s x) fun r=>q r.1 r.2 else False
  |_=>False
 |.copy,[d,x]=>match(a[0]?).bind P.underlying with
  |some (.slice e)=>if(P.info? e).isSome then aQ (copyV (P.cellsOf e) h d x) fun r=>q r.1 r.2 else False
  |_=>False
 |.clear,[x]=>match(a[0]?).bind P.underlying with
  |some (.slice e)=>(match zeroOf P e with
   |some z=>aQ (sP z h x) fun r=>q r.1 r.2
   |none=>False)
  |_=>False
 |.min,[x,y]=>aQ (Ao x y) fun v=>q v h
 |.max,[x,y]=>aQ (Ba x y) fun v=>q v h
 |.delete,[m,k]=>(match a[0]? with
  |some t=>(match lF P t with
   |some _=>aQ (yN h m k) fun b=>q (.tuple #[]) b
   |none=>False)
  |none=>False)
 |.cap,[x]=>match(a[0]?).bind P.underlying with
  |some (.slice _)=>aQ (F2 x) fun v=>q v h
  |_=>False
 |_,_=>False
theorem hJ {h:AH} {q:Value->AH->Prop} {at_:Array TypeId} {b:Builtin} {args:List Value} (c:fS P h q at_ b args):∃v g,aS P h b at_ args=some (v,g)/\q v g:=by
 unfold fS at c;split at c;split at c;rename_i d;obtain⟨v,a,f⟩:=c;refine⟨v,h,?_,f⟩;unfold B0 at a;split at a;simp only[aS,d];cases a;rfl;cases a;rename_i d;obtain⟨v,a,f⟩:=c;refine⟨v,h,?_,f⟩;unfold zD at a;split at a;simp only[aS,d];cases a;rfl;cases a;rename_i d;refine⟨_,h,?_,c⟩;simp only[aS,d];rename_i d;split at c;rename_i l;refine⟨_,h,?_,c⟩;simp only[aS,d,l];cases c;rename_i d;obtain⟨v,a,f⟩:=c;refine⟨v,h,?_,f⟩;unfold Dl at a;cases hm:zZ h _ with
 |none=>rw[hm] at a;cases a
 |some s=>rw[hm] at a;cases a;simp only[aS,d,hm];rfl
 cases c;split at c;rename_i e d;split at c;rename_i i;obtain⟨⟨v,g⟩,a,f⟩:=c;refine⟨v,g,?_,f⟩;obtain⟨z,m⟩:=Option.isSome_iff_exists.1 i.2;unfold iH at a;split at a;rename_i j;simp only[aS,nF,d,j,i.1,m,Bool.not_true,Bool.false_eq_true,if_false];split at a;rename_i r;rw[r];exact a;cases a;cases a;cases c;cases c;split at c;rename_i e d;split at c;rename_i i;obtain⟨⟨v,g⟩,a,f⟩:=c;refine⟨v,g,?_,f⟩;unfold copyV at a;split at a;rename_i j;have p:(P.info? e).isNone=false:=by simp_all
 simp only[aS,d,j,p,Bool.false_eq_true,if_false];exact a;cases a;cases c;cases c;split at c;rename_i e d;split at c;rename_i z m;obtain⟨⟨v,g⟩,a,f⟩:=c;refine⟨v,g,?_,f⟩;unfold sP at a;split at a;simp only[aS,d];exact a;simp only[aS,d,m];exact a;cases a;cases c;cases c;obtain⟨v,a,f⟩:=c;refine⟨v,h,?_,f⟩;unfold Ao at a;split at a;simp only[aS];cases a;rfl;cases a;obtain⟨v,a,f⟩:=c;refine⟨v,h,?_,f⟩;unfold Ba at a;split at a;simp only[aS];cases a;rfl;cases a;split at c;rename_i t d;split at c;rename_i e n;obtain⟨g,a,f⟩:=c;exact⟨_,g,by simp only[aS,d,Bo n a];rfl,f⟩;cases c;cases c;split at c;rename_i d;obtain⟨v,a,f⟩:=c;refine⟨v,h,?_,f⟩;unfold F2 at a;split at a;simp only[aS,d];exact congrArg (Option.map fun v=>(v,h)) a;cases a;cases c;cases c
def iY (P:Program) (K:FuncId->List Value->Option bZ) (d:Operand->Value) (h:AH) (q:Value->AH->Prop):Op->Prop
 |.store t a x=>if(P.info? t).isSome then aQ (I2 h (P.cellsOf t) (d a) (d x)) fun e=>q undef e else False
 |.call c=>match c.callee with
  |.builtin b=>fS P h q c.argTypes b (c.args.toList.map d)
  |.value (.func g)=>if cB P g then Ok P K (.call g (c.args.toList.map d)) h fun o e=>q o.v e else False
  |.value f=>Dj P K (d f) (c.args.toList.map d) h q
  |.invoke _ _=>False
 |.mapUpdate t m k x=>match lF P t with
  |some _=>aQ (xV h (d m) (d k) (d x)) fun e=>q undef e
  |none=>False
 |_=>False
theorem zA {f:Value} {args:List Value} {h:AH} {q:Value->AH->Prop} (b:Dj P K f args h q):
  ∃n v c,(match f with
   |.func (.func g) first a=>if cB P g then(run P K n (.call g (first.toList++args++a.toList)) h).map fun r=>(r.1.v,r.2) else none
   |.func (.yield l) first _=>(run P K n (.round l (first.toList++args)) h).map fun r=>(r.1.v,r.2)
   |_=>none)=some (v,c)/\q v c:=by
 unfold Dj at b
 split at b
 .obtain⟨i,n,r,d,e⟩:=b;grind
 .obtain⟨n,r,d,e⟩:=b;grind
 .cases b
theorem fI {m:Operand->Value} (t:∀g,m (.func g)= .func (.func g) #[] #[]) {h:AH} {q:Value->AH->Prop} {op:Op} (b:iY P K m h q op):
  (kindOf op= .store\/kindOf op= .call)/\∃n v i,aM P (run P K n) m h op=some (v,i)/\q v i:=by
 unfold iY at b
 split at b
 .refine⟨.inl rfl,?_⟩;split at b
  .rename_i l;obtain⟨i,d,j⟩:=b;refine⟨0,undef,i,?_,j⟩;unfold I2 at d;split at d
   .rename_i s;split at d
    .rename_i p;split at d
     .rename_i u;simp only[aM,s,nP,p,u,l,and_self,if_true,d];rfl
     .cases d
    .cases d
   .cases d
  .cases b
 .rename_i c;refine⟨.inr rfl,?_⟩;split at b
  .rename_i a;obtain⟨v,i,d,j⟩:=hJ b;refine⟨0,v,i,?_,j⟩;simp only[aM,a,d]
  .rename_i a;split at b
   .rename_i p;obtain⟨n,r,d,j⟩:=b;refine⟨n,_,_,?_,j⟩;simp only[aM,a,t,p,if_true];grind
   .cases b
  .rename_i f w a;obtain⟨n,v,i,d,j⟩:=zA b;refine⟨n,v,i,?_,j⟩;simp only[aM,a];exact d
  .cases b
 .refine⟨.inl rfl,?_⟩;split at b
  .rename_i e s;obtain⟨i,d,j⟩:=b;exact⟨0,undef,i,by simp only[aM,Bq s d];rfl,j⟩
  .cases b
 .cases b
def B2 (l c i:Nat):Value:= .slice (some ⟨i,0,none⟩) l c
def Gd (i:Nat):Value:= .pointer (some ⟨i,0,none⟩)
def D1 (i:Nat):Value:= .map (some i)
def iX (P:Program) (d:Operand->Value) (q:dQ->(Nat->Value)->Prop):Op->Prop
 |.alloc e=>match zeroOf P e with
  |some z=>q (.cells z e (0,0) true) Gd
  |none=>False
 |.box e x=>aQ (oH e (d x)) fun b=>q b Gd
 |.buildSlice t len a=>match P.underlying t with
  |some (.slice e)=>(match zeroOf P e with
   |some z=>if len*P.cellsOf e<=2^24 then(match gL (fun i=>some (i*P.cellsOf e,P.cellsOf e)) d a.toList with
    |some f=>aQ (iF (bP z len) f) fun l=>q (.cells l e (0,0) true) (B2 len len)
    |none=>False) else False
   |none=>False)
  |_=>False
 |.makeSlice t l c=>match P.underlying t with
  |some (.slice e)=>(match zeroOf P e with
   |some z=>aQ (Cp (P.bytesOf e) (d l) (d c)) fun n=>q (.cells (bP z n.2) e (0,0) true) (B2 n.1 n.2)
   |none=>False)
  |_=>False
 |.makeMap _t none=>q (.map [] 0) D1
 |.makeMap t (some x)=>match P.underlying t with
  |some (.map _ _)=>∃k n,d x= .int k n/\q (.map [] 0) D1
  |_=>False
 |_=>False
theorem jD {m:Operand->Value} {q:dQ->(Nat->Value)->Prop} {op:Op} (a:iX P m q op):kindOf op= .alloc/\∃b f,aN P m op=some (b,f)/\q b f:=by
 unfold iX at a;split at a;refine⟨rfl,?_⟩;split at a;rename_i g;exact⟨_,_,by simp only[aN,g];rfl,a⟩;cases a;refine⟨rfl,?_⟩;obtain⟨b,c,d⟩:=a;refine⟨b,Gd,?_,d⟩;unfold oH at c;simp only[Option.map_eq_some_iff] at c;obtain⟨l,c,rfl⟩:=c;simp only[aN,c];rfl;refine⟨rfl,?_⟩;split at a;rename_i e;split at a;rename_i g;split at a;rename_i i;split at a;rename_i s j;obtain⟨l,c,d⟩:=a;refine⟨_,_,?_,d⟩;simp only[aN,e,g,i,if_true];rw[kO j,c];rfl;cases a;cases a;cases a;cases a;refine⟨rfl,?_⟩;split at a;rename_i e;split at a;rename_i g;obtain⟨n,c,d⟩:=a;refine⟨_,_,?_,d⟩;unfold Cp at c;split at c;rename_i p r;split at c;rename_i i;cases c;simp only[aN,e,p,r,g,i,and_self,if_true];rfl;cases c;cases c;cases a;cases a;exact⟨rfl,_,_,rfl,a⟩;refine⟨rfl,?_⟩;split at a;rename_i e;obtain⟨k,n,c,d⟩:=a;exact⟨_,_,by simp only[aN,e,c];rfl,d⟩;cases a;cases a
end
end Go.Ab
end
section
namespace Go.Ab
noncomputable section
variable {P:Program} {K:FuncId->List Value->Option bZ}
abbrev pS:=List (Tmp×Option Bool)
def Jo:Option Bool->Value
 |some b=> .bool b
 |none=>undef
def pS.drop (d:pS) (t:Option Tmp):pS:=match t with
 |some t=>d.filter fun x=>x.1 !=t
 |none=>d
def pS.ok (d:pS) (env:List Value):Prop:=∀t b,(t,b)∈d->env[t]?=some (Jo b)
def xN (dP:Nat->Option Tmp) (env:List Value) (dec:pS) (g:Option (Nat×Bool)) (p:Bool->List Value->pS->Prop):Prop:=
 match g with
 |none=>p true env dec
 |some (j,want)=>match dP j with
  |none=>False
  |some d=>match dec.lookup d with
   |some (some b)=>p (b==want) env dec
   |some none=>p false env dec
   |none=>Br (env.getD d undef) (p (true==want) (env.set d (.bool true)) ((d,some true)::dec)) (p (false==want) (env.set d (.bool false)) ((d,some false)::dec))
def zX (h:AH) (b:dQ) (p:Nat->AH->Prop):Prop:=p h.next (h.alloc b)
def qW (h:AH) (r:Nat) (b:dQ) (p:Nat->AH->Prop):Prop:=p r (h.set r (some b))
def fR (h:AH) (n:Nat) (p:Nat->AH->Prop):Prop:=p h.next {h with next:=h.next+n}
def wpOp (P:Program) (K:FuncId->List Value->Option bZ) (env:List Value) (h:AH) (q:Value->AH->Prop) (op:Op):Prop:=
 match kindOf op with
 |.gY=>cA P (aH P env) h (fun v=>q v h) op
 |.alloc=>iX P (aH P env) (fun b f=>zX h b fun i a=>q (f i) a) op
 |.store|.call=>iY P K (aH P env) h q op
 |.other=>False
theorem vQ {env:List Value} {h:AH} {q:Value->AH->Prop} {op:Op} (a:wpOp P K env h q op):∃n v e,cS P (run P K n) env h op=some (v,e)/\q v e:=by
 unfold wpOp at a;cases hk:kindOf op with
 |gY=>
  simp only[hk] at a;obtain⟨_,v,c,d⟩:=jI a;exact⟨0,v,h,by simp only[cS,hk,c];rfl,d⟩
 |alloc=>
  simp only[hk] at a;obtain⟨_,b,f,c,d⟩:=jD a;exact⟨0,_,_,by simp only[cS,hk,c];rfl,d⟩
 |store=>
  simp only[hk] at a;obtain⟨_,n,v,e,c,d⟩:=fI (fun g=>rfl) a;exact⟨n,v,e,by simp only[cS,hk,c],d⟩
 |call=>
  simp only[hk] at a;obtain⟨_,n,v,e,c,d⟩:=fI (fun g=>rfl) a;exact⟨n,v,e,by simp only[cS,hk,c],d⟩
 |other=>simp only[hk] at a
def D9 (env:List Value) (d:Option Tmp):Bool:=match d with
 |some d=>decide (d<env.length)
 |none=>true
def Ac (dec:pS) (op:Op):Option Operand:=match op with
 |.pick (.tmp c) a b=>(match dec.lookup c with
  |some (some true)=>some a
  |some (some false)=>some b
  |_=>none)
 |.move x=>some x
 |.assign x=>some x
 |_=>none
def Ck (dec:pS) (x:Operand):Option Bool:=match x with
 |.const (.bool y)=>some y
 |.tmp t=>(match dec.lookup t with
  |some (some y)=>some y
  |_=>none)
 |_=>none
def pS.put (dec:pS) (dst:Option Tmp) (x:Operand):pS:=match dst,Ck dec x with
 |some d,some y=>(d,some y)::dec.drop (some d)
 |d,_=>dec.drop d
def pS.skip (dec:pS) (env:List Value) (dst:Option Tmp):pS:=match dst with
 |some d=>if d<env.length then(d,none)::dec.drop (some d) else dec.drop (some d)
 |none=>dec
def wpOps (P:Program) (K:FuncId->List Value->Option bZ) (dP:Nat->Option Tmp):List Oper->List Value->AH->pS->(List Value->AH->pS->Prop)->Prop
 |[],env,h,dec,q=>q env h dec
 |o::a,env,h,dec,q=>xN dP env dec o.guard fun b env dec=>
  match b with
  |true=>(match Ac dec o.op with
   |some x=>wpOps P K dP a (bX env o.dst (aH P env x)) h (if D9 env o.dst then dec.put o.dst x else dec.drop o.dst) q
   |none=>wpOp P K env h (fun v c=>wpOps P K dP a (bX env o.dst v) c (dec.drop o.dst) q) o.op)
  |false=>wpOps P K dP a (bX env o.dst undef) h (dec.skip env o.dst) q
def J2 (P:Program) (h:AH) (q:Value->Prop) (a:Array TypeId):Builtin->List Value->Prop
 |.len,[x]=>match(a[0]?).bind P.underlying with
  |some .string=>aQ (B0 x) q
  |some (.slice _)=>aQ (zD x) q
  |some (.array n _)=>q (.int .i64 n)
  |some (.pointer e)=>(match P.underlying e with
   |some (.array n _)=>q (.int .i64 n)
   |_=>False)
  |some (.map _ _)=>aQ (Dl h x) q
  |_=>False
 |.min,[x,y]=>aQ (Ao x y) q
 |.max,[x,y]=>aQ (Ba x y) q
 |_,_=>False
def Hu (P:Program) (a:Operand->Value) (h:AH) (q:Value->Prop):Op->Prop
 |.call c=>match c.callee with
  |.builtin b=>J2 P h q c.argTypes b (c.args.toList.map a)
  |_=>False
 |op=>cA P a h q op
structure DR where
 env:List Value
 h:AH
 v:Value
 Iw:Bool
def Hl (P:Program) (K:FuncId->List Value->Option bZ) (r:Nat) (env:List Value) (h:AH) (q:Value->AH->Prop) (op:Op):Prop:=
 match bH op with
 |true=>Hu P (aH P env) h (fun v=>q v h) op
 |false=>match kindOf op with
  |.alloc=>iX P (aH P env) (fun b f=>qW h r b fun i a=>q (f i) a) op
  |_=>iY P K (aH P env) h q op
def nE (P:Program) (K:FuncId->List Value->Option bZ) (dP:Nat->Option Tmp):Nat->List Oper->List Value->AH->pS->List DR->(List DR->List Value->AH->pS->Prop)->Prop
 |_,[],env,h,dec,a,q=>q a env h dec
 |r,o::c,env,h,dec,a,q=>xN dP env dec o.guard fun b env dec=>
  match b with
  |true=>(match Ac dec o.op with
   |some x=>nE P K dP (r+1) c (bX env o.dst (aH P env x)) h (if D9 env o.dst then dec.put o.dst x else dec.drop o.dst) (a++[⟨env,h,aH P env x,true⟩]) q
   |none=>Hl P K r env h (fun v d=>nE P K dP (r+1) c (bX env o.dst v) d (dec.drop o.dst) (a++[⟨env,h,v,true⟩]) q) o.op)
  |false=>nE P K dP (r+1) c (bX env o.dst undef) h (dec.skip env o.dst) (a++[⟨env,h,undef,false⟩]) q
def F6 (P:Program) (all:List Oper) (rs:List DR) (hEnd:AH):List (Nat×Nat)->Prop->Prop
 |[],p=>p
 |(i,s)::a,p=>match all[i]? with
  |some o=>(match rs[i]? with
   |some r=>(match r.Iw with
    |true=>Hu P (aH P r.env) (match rs[s]? with|some q=>q.h|none=>hEnd) (fun v=>iC v r.v=true) o.op/\F6 P all rs hEnd a p
    |false=>F6 P all rs hEnd a p)
   |none=>False)
  |none=>False
def Gc (P:Program) (K:FuncId->List Value->Option bZ) (ops:Array Oper) (env:List Value) (h:AH) (q:List Value->AH->pS->Prop):Prop:=
 if lQ ops.toList&&(P.follows .mixedOrders|| !Region.departs ops) then
  fR h ops.size fun r c=>nE P K (fun j=>(ops[j]?).bind (·.dst)) r ops.toList env c [] [] fun d a b dec=>F6 P ops.toList d b (jQ ops.toList) (q a b dec)
 else False
end
end Go.Ab
end
section
namespace Go.Ab
noncomputable section
variable {P:Program} {K:FuncId->List Value->Option bZ}
section
variable {fn:FuncId} {ro:Option Nat} {ds:List Nat} {env:List Value} {k:List Item} {h:AH} {Q:Out->AH->Prop}
theorem kY {t t':Task} {h':AH} (c:∀n,run P K (n+1) t h=run P K n t' h') (d:Ok P K t' h' Q):Ok P K t h Q:=by
 obtain⟨n,r,a,b⟩:=d;exact⟨n+1,r,by rw[c];exact a,b⟩
theorem rG {c:Operand} {t e:Code} (g:Br (aH P env c) (Ok P K (.todo fn ro ds env (.code t::k)) h Q) (Ok P K (.todo fn ro ds env (.code e::k)) h Q)):
  Ok P K (.todo fn ro ds env (.code (.cond c t e)::k)) h Q:=by
 obtain⟨b,a,f,d⟩:=g
 cases b with
 |true=>exact kY (t':= .todo fn ro ds env (.code t::k)) (fun n=>by show aL _ _ _ _ _ _ _ _=_;simp only[aL,a,if_true]) (f rfl)
 |false=>exact kY (t':= .todo fn ro ds env (.code e::k)) (fun n=>by show aL _ _ _ _ _ _ _ _=_;simp[aL,a]) (d rfl)
end
def rT (h:AH) (l:Nat):Option AH:=match h.get l with
 |some (.loop .ready _ _ _ _ _ _ _)=>bE h l .busy none
 |_=>none
def wR (h:AH) (l:Nat):Option (Option Code×AH):=match h.get l with
 |some (.loop st p _ _ _ _ _ _)=>if st= .busy then none else(bE h l .exhausted none).map fun a=>(p,a)
 |_=>none
def lC (h:AH) (l:Nat):Option Nat:=match h.get l with
 |some (.loop _ _ _ _ _ _ _ d)=>some d
 |_=>none
def I1 (P:Program) (K:FuncId->List Value->Option bZ) (f:Value) (l:Nat) (h:AH) (q:Value->AH->Prop):Prop:=match f with
 |.func (.func g) first a=>cB P g=true/\Ok P K (.call g (first.toList++[.func (.yield l) #[] #[]]++a.toList)) h fun o b=>q o.v b
 |_=>False
def dV:Code->Option Nat
 |.region id _ _=>some id
 |.seq a b=>(match dV a with
  |some r=>some r
  |none=>dV b)
 |.block _ b=>dV b
 |.loop b=>dV b
 |.scope b=>dV b
 |_=>none
def keyOf:List Item->Option Nat
 |.code c::k=>(match dV c with
  |some r=>some r
  |none=>keyOf k)
 |.inLoop c::k=>(match dV c with
  |some r=>some r
  |none=>keyOf k)
 |_::k=>keyOf k
 |[]=>none
def bV:Code->List Nat
 |.exit id=>[id]
 |.seq a b=>bV a++bV b
 |.cond _ t e=>bV t++bV e
 |.block id b=>(bV b).filter (·!=id)
 |.loop b=>bV b
 |.scope b=>bV b
 |.rangeFunc _ _ a b=>bV a++bV b
 |_=>[]
def vZ (p:Option Code) (a b:Prop) (c:List (Nat×Prop)):Prop:=match p with
 |none=>a
 |some .ret=>b
 |some (.exit id)=>(match c.lookup id with
  |some q=>q
  |none=>False)
 |_=>False
def oB (P:Program) (K:FuncId->List Value->Option bZ) (fn:FuncId) (f:Value) (n:Nat) (lv:List Nat) (vs:List Value) (g:Array Tmp) (assign a:Code) (d:Nat) (h:AH) (q:Option Code->AH->Prop):Prop:=
 ∀e:Nat->Value,lv.map e=vs->zX h (.loop .ready none fn ((List.range n).map e) g assign a d) fun l b=>I1 P K f l b fun _ c=>aQ (wR c l) fun r=>q r.1 r.2
def sN (L:List (Option Nat×List Nat)) (k:List Item):List Nat:=(L.lookup (keyOf k)).getD []
def cY:Nat->List Item->List Item
 |0,k=>k
 |n+1,k=>match k with
  |.code c::d=>(match c with
   |.skip=>cY n d
   |.label _=>cY n d
   |.seq a b=>cY n (.code a:: .code b::d)
   |.block id b=>cY n (.code b:: .inBlock id::d)
   |.scope b=>cY n (.code b:: .inScope b::d)
   |.loop b=>cY n (.code b:: .inLoop b::d)
   |.exit id=>(match exitTo id d with
    |some e=>cY n e
    |none=>k)
   |_=>k)
  |.inBlock _::d=>cY n d
  |.inScope _::d=>cY n d
  |.inLoop b::d=>cY n (.code b:: .inLoop b::d)
  |_=>k
def Es:List Item->Bool
 |[]=>true
 |.code .ret::_=>true
 |.code (.exit _)::_=>true
 |_=>false
def short (k:List Item):Bool:=match cY 60 k with
 |.code (.region _ _ _)::a=>Es (cY 60 a)
 |a=>Es a
def pT (P:Program) (K:FuncId->List Value->Option bZ) (E:List Nat->List Value->List Item->AH->Prop) (F:iE->List Nat->List Value->AH->Prop) (L:List (Option Nat×List Nat)) (fn:FuncId) (ro:Option Nat):
  Nat->pS->List Nat->List Value->List Item->AH->Prop
 |0,_,ds,env,k,h=>E ds env k h
 |n+1,dec,ds,env,k,h=>
  match k with
  |[]=>F .cO ds env h
  |.code c::k=>
   (match c with
   |.skip=>pT P K E F L fn ro n dec ds env k h
   |.label _=>pT P K E F L fn ro n dec ds env k h
   |.seq a b=>pT P K E F L fn ro n dec ds env (.code a:: .code b::k) h
   |.cond c t e=>(match Ck dec c with
    |some true=>pT P K E F L fn ro n dec ds env (.code t::k) h
    |some false=>pT P K E F L fn ro n dec ds env (.code e::k) h
    |none=>Br (aH P env c)
     (match short (.code t::k) with
     |true=>pT P K E F L fn ro n dec ds env (.code t::k) h
     |false=>E ds env (cY 60 (.code t::k)) h)
     (match short (.code e::k) with
     |true=>pT P K E F L fn ro n dec ds env (.code e::k) h
     |false=>E ds env (cY 60 (.code e::k)) h))
   |.block id b=>pT P K E F L fn ro n dec ds env (.code b:: .inBlock id::k) h
   |.loop b=>E ds env (cY 60 (.code b:: .inLoop b::k)) h
   |.scope b=>pT P K E F L fn ro n dec ds env (.code b:: .inScope b::k) h
   |.exit id=>(match exitTo id k with
    |some u=>pT P K E F L fn ro n dec ds env u h
    |none=>if ro.isSome then F (.exit id) ds env h else False)
   |.ret=>F .ret ds env h
   |.region _ ops false=>wpOps P K (fun j=>(ops[j]?).bind (·.dst)) ops.toList env h dec fun q i m=>pT P K E F L fn ro n m ds q k i
   |.region _ ops true=>Gc P K ops env h fun q i m=>pT P K E F L fn ro n m ds q k i
   |.rangeFunc f r assign g=>
    (match ro with
    |none=>zX h (.marks true) fun d s=>oB P K fn (aH P env f) env.length (sN L [.code assign,.beginRound,.code g]) ((sN L [.code assign,.beginRound,.code g]).map fun t=>env.getD t undef) r assign g d s fun p i=>
      vZ p (pT P K E F L fn ro n dec (d::ds) env k i) (pT P K E F L fn ro n dec (d::ds) env (.code .ret::k) i) ((bV g).map fun id=>(id,pT P K E F L fn ro n dec (d::ds) env (.code (.exit id)::k) i))
    |some l=>aQ (lC h l) fun d=>oB P K fn (aH P env f) env.length (sN L [.code assign,.beginRound,.code g]) ((sN L [.code assign,.beginRound,.code g]).map fun t=>env.getD t undef) r assign g d h fun p i=>
      vZ p (pT P K E F L fn ro n dec ds env k i) (pT P K E F L fn ro n dec ds env (.code .ret::k) i) ((bV g).map fun id=>(id,pT P K E F L fn ro n dec ds env (.code (.exit id)::k) i)))
   |_=>False)
  |.inBlock _::k=>pT P K E F L fn ro n dec ds env k h
  |.inScope _::k=>pT P K E F L fn ro n dec ds env k h
  |.inLoop b::k=>E ds env (cY 60 (.code b:: .inLoop b::k)) h
  |.beginRound::k=>
   (match ro with
   |some l=>aQ (rT h l) fun i=>pT P K E F L fn ro n dec ds env k i
   |none=>False)
  |_=>False
theorem qR {env:List Value} {n:Nat} (h:env.length=n):(List.range n).map (fun t=>env.getD t undef)=env:=by
 refine List.ext_getElem? fun i=>?_;grind
theorem vW {l:List Nat} {f:Nat->Prop} {id:Nat} {q:Prop} (h:(l.map fun i=>(i,f i)).lookup id=some q):q=f id:=by
 induction l with
 |nil=>simp at h
 |cons i l a=>
  grind
theorem nR {fn:FuncId} {f:Value} {env:List Value} {lv:List Nat} {i:Array Tmp} {assign b:Code} {d:Nat} {h:AH} {q:Option Code->AH->Prop}
  (j:oB P K fn f env.length lv (lv.map fun t=>env.getD t undef) i assign b d h q):
  ∃n g first a o c p e,f= .func (.func g) first a/\cB P g=true/\run P K n (.call g (first.toList++[.func (.yield h.next) #[] #[]]++a.toList)) (h.alloc (.loop .ready none fn env i assign b d))=some (o,c)/\
   wR c h.next=some (p,e)/\q p e:=by
 have:=j (fun t=>env.getD t undef) rfl
 rw[qR rfl] at this
 unfold zX I1 at this
 split at this
 .rename_i g first a
  obtain⟨s,n,r,l,⟨p,e⟩,m,c⟩:=this
  grind
 .cases this
theorem oI {fn:FuncId} {ro:Option Nat} {ds:List Nat} {env:List Value} {h:AH} {Q:Out->AH->Prop}:∀(n:Nat) {k:List Item},Ok P K (.todo fn ro ds env (cY n k)) h Q->Ok P K (.todo fn ro ds env k) h Q
 |0,_,a=>a
 |n+1,k,a=>by
  have st:∀{k':List Item},Ok P K (.todo fn ro ds env (cY n k')) h Q->(∀m,run P K (m+1) (.todo fn ro ds env k) h=run P K m (.todo fn ro ds env k') h)->Ok P K (.todo fn ro ds env k) h Q:=
   fun a b=>kY b (oI n a)
  unfold cY at a;split at a;split at a;exact st a fun _=>rfl;exact st a fun _=>rfl;exact st a fun _=>rfl;exact st a fun _=>rfl;exact st a fun _=>rfl;exact st a fun _=>rfl;split at a;rename_i c;refine st a fun m=>?_;show aL P (run P K m) _ _ _ _ _ _=_;simp only[aL,c];exact a;exact a;exact st a fun _=>rfl;exact st a fun _=>rfl;exact st a fun _=>rfl;exact a
def xG (P:Program) (f:FuncId) (Q:Value->AH->Prop):Out->AH->Prop:=fun o b=>
 match o.leave with
 |.exit _=>False
 |_=>aQ (aZ o.ds b) fun a=>aQ (bA P a o.env ((P.funcs[f]?).elim [] fun fn=>fn.results.toList)) fun c=>Q (oneOf c) a
theorem Df {f:FuncId} {fn:Func} {a:Code} {args:List Value} {h:AH} {Q:Value->AH->Prop} (i:P.funcs[f]?=some fn) (q:fn.body=some a) (p:K f args=none)
  (s:Ok P K (.todo f none [] (args++List.replicate (fn.ntmps - args.length) undef) [.code a]) h (xG P f Q)):Ok P K (.call f args) h fun o c=>Q o.v c:=by
 obtain⟨n,⟨o,g⟩,l,b⟩:=s
 simp only at b
 have t:(∀id,o.leave≠.exit id)->(aQ (aZ o.ds g) fun b=>aQ (bA P b o.env ((P.funcs[f]?).elim [] fun fn=>fn.results.toList)) fun e=>Q (oneOf e) b)->Ok P K (.call f args) h fun o c=>Q o.v c:=by
  intro d ⟨m,u,e,j,r⟩;rw[i] at j;simp only[Option.elim_some] at j;refine⟨n+1,(⟨.cO,[],[],oneOf e⟩,m),?_,r⟩;show cN P K (run P K n) f args h=_;simp only[cN,p,i,q];rw[l];cases hlv:o.leave with
  |exit id=>exact absurd hlv (d id)
  |cO=>grind
  |ret=>grind
 unfold xG at b
 grind
def Pt (P:Program) (K:FuncId->List Value->Option bZ) (fn:FuncId) (ro:Option Nat) (Q:Out->AH->Prop) (n:Nat) (lv:List Nat) (k:List Item) (ds:List Nat) (vs:List Value) (h:AH):Prop:=
 ∀e:Nat->Value,lv.map e=vs->Ok P K (.todo fn ro ds ((List.range n).map e) k) h Q
def rN (P:Program) (h:AH) (env:List Value):List ResultVar->(List Value->Prop)->Prop
 |[],p=>p []
 |.tmp t::b,p=>rN P h env b fun l=>p (env.getD t undef::l)
 |.cell a t::b,p=>match bY P t with
  |some true=>aQ (Co h (P.cellsOf t) (env.getD a undef)) fun v=>rN P h env b fun l=>p (v::l)
  |some false=>aQ (Cq h (env.getD a undef)) fun v=>rN P h env b fun l=>p (v::l)
  |none=>False
theorem eV {h:AH} {env:List Value}:∀{rs:List ResultVar} {p:List Value->Prop},rN P h env rs p->∃l,bA P h env rs=some l/\p l
 |[],p,b=>⟨[],rfl,b⟩
 |.tmp t::rs,p,b=>by
  obtain⟨l,c,d⟩:=eV (rs:=rs) b;exact⟨_,by simp only[bA,c];rfl,d⟩
 |.cell a t::rs,p,b=>by
  simp only[rN] at b;split at b;rename_i f;obtain⟨v,c,b⟩:=b;obtain⟨l,d,e⟩:=eV (rs:=rs) b;refine⟨v::l,?_,e⟩;unfold Co at c;split at c;rename_i x g;have i:eY P h t x=some v:=by unfold eY;rw[f];exact c
  simp only[bA,g,i,d];cases c;rename_i f;obtain⟨v,c,b⟩:=b;obtain⟨l,d,e⟩:=eV (rs:=rs) b;refine⟨v::l,?_,e⟩;unfold Cq at c;split at c;rename_i x g;have i:eY P h t x=some v:=by unfold eY;rw[f];exact c
  simp only[bA,g,i,d];cases c;cases b
def Ga (P:Program) (f:FuncId) (Q:Value->AH->Prop) (lv:iE) (ds:List Nat) (env:List Value) (h:AH):Prop:=match lv with
 |.exit _=>False
 |_=>aQ (aZ ds h) fun a=>rN P a env ((P.funcs[f]?).elim [] fun fn=>fn.results.toList) fun l=>Q (oneOf l) a
theorem vN {f:FuncId} {Q:Value->AH->Prop} {lv:iE} {ds:List Nat} {env:List Value} {h:AH} (a:Ga P f Q lv ds env h):xG P f Q ⟨lv,ds,env,undef⟩ h:=by
 unfold Ga at a;unfold xG;cases lv with
 |exit id=>exact a
 |cO=>obtain⟨b,e,a⟩:=a;obtain⟨l,c,d⟩:=eV a;simp_all
 |ret=>obtain⟨b,e,a⟩:=a;obtain⟨l,c,d⟩:=eV a;simp_all
theorem uE {f:FuncId} {args:List Value} {v:Value} {h:AH} {Q:Value->AH->Prop} (b:K f args=some (.val v)) (c:Q v h):Ok P K (.call f args) h fun o a=>Q o.v a:=
 ⟨1,(⟨.cO,[],[],v⟩,h),by show cN _ _ _ _ _ _=_;simp only[cN,b],c⟩
def Bp (l:Nat) (Q:Value->AH->Prop):Out->AH->Prop:=fun o b=>
 o.ds=[]/\match o.leave with
 |.cO=>aQ (bE b l .ready (some none)) fun a=>Q (.bool true) a
 |.ret=>aQ (bE b l .done (some (some .ret))) fun a=>Q (.bool false) a
 |.exit id=>aQ (bE b l .done (some (some (.exit id)))) fun a=>Q (.bool false) a
end
end Go.Ab
end
section
namespace Go.Ab
noncomputable section
open Go.RowKit
variable {P:Program} {K:FuncId->List Value->Option bZ}
def start (base:Nat) (old:Nat->Option dQ):AH:={base:=base,next:=base,old:=old,new:= .lf}
theorem gA {a:Nat} {old:Nat->Option dQ} (i:Nat):(start a old).get i=if i<a then old i else none:=by
 rw[AH.get_eq];unfold start;split;rfl;cases i - a<;>rfl
structure Reads (P:Program) (base:Nat) (old:Nat->Option dQ) (ρ:bQ) (w:World):Prop where
 eJ:∀i o,i<base->old i=some o->∀b s,ρ i=some (b,s)->∃o',w.heap[b]?=some o'/\gD P ρ s o o'
 low:∀i b s,i<base->ρ i=some (b,s)->b<w.heap.size
 none:∀i,base<=i->ρ i=none
 eE:∀g,g<P.globals.size->ρ g=some (g,(0,0))
theorem Reads.inv {a:Nat} {old:Nat->Option dQ} {ρ:bQ} {w:World} (r:Reads P a old ρ w):Inv P w.heap.size ρ (start a old) w where
 eJ:=fun i o e b s f=>by
  rw[gA] at e;split at e;rename_i c;exact r.eJ i o c e b s f;cases e
 inj:=fun i j b g l c _ d=>by
  rw[gA,Kw (Nat.not_lt.2 (show a<=_ from c))] at d;cases d
 low:=fun i b s c d=>by
  rw[gA,Kw (Nat.not_lt.2 (show a<=_ from c))] at d;cases d
 old:=fun i b s c f=>r.low i b s c f
 fresh:=fun i c=>r.none i c
 bM:=fun i c=>by rw[gA,Kw (Nat.not_lt.2 (show a<=_ from c))]
 eE:=r.eE
 size:=Nat.le_refl _
 bn:=Nat.le_refl _
theorem tC {w:World} (C:Ctx P w.heap.size K) (t:C.G w) {a:Nat} {old:Nat->Option dQ} {ρ:bQ} (r:Reads P a old ρ w) {f:FuncId} {args args':List Value} (q:aB ρ args args') {Q:Out->AH->Prop}
  (i:Ok P K (.call f args) (start a old) Q):
  Calls P f ⟨args'⟩ w fun e g=>∃ρ' o c d,e= .returned d/\aA ρ' o.v d/\Q o c/\Inv P w.heap.size ρ' c g/\Below w.heap.size w g:=by
 obtain⟨n,⟨o,c⟩,v,u⟩:=i
 intro j
 obtain⟨e,g,fr,⟨ρ',d,s,x,b⟩,l,m,p⟩:=zT C n (.call f args) _ o c v ρ w args' r.inv t q j
 exact⟨e,g,fr,⟨ρ',o,c,d,s,x,u,b.inv,b.below r.inv⟩,l,m,p⟩
def rV (K:FuncId->List Value->Option bZ) (f0:FuncId) (v0:Value):FuncId->List Value->Option bZ:=fun f a=>if f=f0/\a.isEmpty=true then some (.val v0) else K f a
def Ctx.add {B:Nat} (C:Ctx P B K) (f0:FuncId) (v0:Value) (n:aR v0=true) (h:∀w,C.G w->Calls P f0 #[] w fun e d=>e= .returned v0/\Below w.heap.size w d):Ctx P B (rV K f0 v0) where
 G:=C.G
 rJ:=C.rJ
 call:=fun f a v w b c=>by
  unfold rV at b;split at b;rename_i l;cases b;obtain⟨rfl,p⟩:=l;have:a=[]:=by grind
  subst this;exact⟨rfl,(h w c).mono fun e d ⟨m,j⟩=>⟨⟨v0,m,fun ρ=>bJ v0 n⟩,j⟩⟩;exact C.call f a v w b c
 fwd:=fun f a g i b=>by
  unfold rV at b;split at b;cases b;exact C.fwd f a g i b
 host:=fun f a F b=>by
  unfold rV at b;split at b;cases b;exact C.host f a F b
theorem gN {P:Program} {f:FuncId} {args:Array Value} {v:Value} {w:World} (g:aR v=true) (h:Calls P f args w fun e a=>e= .returned v/\Below w.heap.size w a):
  Calls P f args w fun e a=>(∃b,e= .returned b/\∀ρ,aA ρ v b)/\Below w.heap.size w a:=
 h.mono fun _ _ ⟨d,c⟩=>⟨⟨v,d,fun _=>bJ v g⟩,c⟩
theorem uP {f:FuncId} {n:Nat} {v:Value} {a:Nat} {old:Nat->Option dQ} (m:aR v=true)
  (b:((run P K n (.call f []) (start a old)).any fun r=>iC r.1.v v)=true) {w:World} (C:Ctx P w.heap.size K) (l:C.G w) {ρ:bQ} (r:Reads P a old ρ w):
  Calls P f #[] w fun e g=>e= .returned v/\Below w.heap.size w g:=by
 rw[Option.any_eq_true] at b
 obtain⟨⟨o,q⟩,b,c⟩:=b
 have c:=oF _ _ c
 have:=tC (Q:=fun o _=>o.v=v) C l r (args:=[]) (args':=[]) rfl ⟨n,_,b,c⟩
 intro i
 obtain⟨e,g,fr,⟨ρ',y,s,p,t,d,j,_,u⟩,x⟩:=this i
 rw[j] at d
 have:=iW v p m d
 grind
end
end Go.Ab
end
section
namespace Go.Ab
noncomputable section
structure En where
 n:Nat
 t:Tr Value
def En.get (e:En) (i:Nat):Value:=En.rec (motive:=fun _=>Value) (fun n t=>Bool.rec (motive:=fun _=>Value) undef (t.get undef i) (Nat.blt i n)) e
def En.opt (e:En) (i:Nat):Option Value:=En.rec (motive:=fun _=>Option Value) (fun n t=>Bool.rec (motive:=fun _=>Option Value) none (some (t.get undef i)) (Nat.blt i n)) e
def En.set (e:En) (i:Nat) (v:Value):En:=En.rec (motive:=fun _=>En) (fun n t=>Bool.rec (motive:=fun _=>En) (En.mk n t) (En.mk n (t.set undef i v)) (Nat.blt i n)) e
def En.gS (e:En):List Value:=(List.range e.n).map fun i=>e.t.get undef i
def rZ:List Value->Nat->Tr Value->Tr Value
 |[],_,t=>t
 |v::l,i,t=>rZ l (i+1) (t.set undef i v)
def En.of (l:List Value) (k:Nat):En:=⟨l.length+k,rZ l 0 .lf⟩
theorem En.pP (e:En) (i:Nat):e.opt i=e.gS[i]?:=by
 obtain⟨n,t⟩:=e;simp only[En.opt,En.gS];cases h:Nat.blt i n with
 |true=>
  have:i<n:=by simpa [Nat.blt_eq] using h
  simp[this]
 |false=>
  have:¬i<n:=by rw[<-Nat.blt_eq,h];simp
  simp[this]
theorem En.get_eq (e:En) (i:Nat):e.get i=e.gS.getD i undef:=by
 rw[List.getD_eq_getElem?_getD,<-En.pP];obtain⟨n,t⟩:=e;simp only[En.get,En.opt];cases Nat.blt i n<;>rfl
theorem En.lP (e:En) (i:Nat) (v:Value):(e.set i v).gS=e.gS.set i v:=by
 apply List.ext_getElem?;intro j;rw[List.getElem?_set,<-En.pP,<-En.pP];obtain⟨n,t⟩:=e;have c:(En.gS ⟨n,t⟩).length=n:=by simp[En.gS]
 rw[c];simp only[En.set];cases h:Nat.blt i n with
 |true=>
  have b:i<n:=by simpa [Nat.blt_eq] using h
  simp only[En.opt,Tr.bU];by_cases a:i=j;subst a;simp[h,b];simp[a,Ne.symm a]
 |false=>
  have b:¬i<n:=by rw[<-Nat.blt_eq,h];simp
  by_cases a:i=j;subst a;simp[En.opt,h,b];simp[a]
theorem oO:∀(l:List Value) (i:Nat) (t:Tr Value) (m:Nat),(rZ l i t).get undef m=if i<=m/\m<i+l.length then l.getD (m - i) undef else t.get undef m
 |[],i,t,m=>by
  rw[Kw (by simp)];rfl
 |v::l,i,t,m=>by
  simp only[rZ];rw[oO l (i+1) _ m,Tr.bU];simp only[List.length_cons];by_cases a:m=i;subst a;rw[aaa,Kx rfl,Kx (by omega)];simp;rw[Kw a];by_cases b:i+1<=m/\m<i+1+l.length;rw[Kx b,Kx (by omega),show m - i=(m - (i+1))+1 by omega];simp;rw[Kw b,aaa]
theorem En.of_eq (l:List Value) (k:Nat):(En.of l k).gS=l++List.replicate k undef:=by
 apply List.ext_getElem?;intro j;rw[<-En.pP];unfold En.of En.opt;simp only[oO,Tr.nI];cases h:Nat.blt j (l.length+k) with
 |true=>
  have b:j<l.length+k:=by simpa [Nat.blt_eq] using h
  by_cases a:j<l.length;rw[Kx (by omega),List.getElem?_append_left a];simp[a];rw[aaa,List.getElem?_append_right (by omega),List.getElem?_replicate,Kx (by omega)]
 |false=>
  have b:¬j<l.length+k:=by rw[<-Nat.blt_eq,h];simp
  rw[List.getElem?_eq_none (by simp;omega)]
inductive uW where
 |todo (fn:FuncId) (ro:Option Nat) (ds:List Nat) (env:En) (k:List Item)
 |ops (all:Array Oper) (rest:List Oper) (env:En)
 |call (f:FuncId) (args:List Value)
 |round (l:Nat) (args:List Value)
structure pZ where
 leave:iE
 ds:List Nat
 env:En
 v:Value
def vL:En:=⟨0,.lf⟩
abbrev eG:=uW->AH->Option (pZ×AH)
def Dp:uW->Task
 |.todo fn ro ds env k=> .todo fn ro ds env.gS k
 |.ops all rest env=> .ops all rest env.gS
 |.call f a=> .call f a
 |.round l a=> .round l a
def Cx (o:pZ):Out:=⟨o.leave,o.ds,o.env.gS,o.v⟩
def fY (r:pZ×AH):Out×AH:=(Cx r.1,r.2)
def lI (R':eG) (R:hQ):Prop:=∀t h,R (Dp t) h=(R' t h).map fY
def Jj (v:Value):Value:=if aR v then v else top
def J9 (P:Program) (g:Nat):Value:=if g<P.globals.size then .pointer (some ⟨g,0,none⟩) else top
def Jv (f:Nat):Value:= .func (.func f) #[] #[]
def aD (P:Program) (env:En) (x:Operand):Value:=Operand.rec (motive:=fun _=>Value) (En.get env) Jj (J9 P) Jv x
theorem fV (P:Program) (env:En):aD P env=aH P env.gS:=by
 funext x;cases x<;>first|rfl|exact En.get_eq _ _
def gZ (env:En) (d:Option Tmp) (v:Value):En:=Option.rec (motive:=fun _=>En) env (fun d=>env.set d v) d
theorem nN (env:En) (d:Option Tmp) (v:Value):(gZ env d v).gS=bX env.gS d v:=by
 cases d;rfl;exact En.lP _ _ _
def Gx (want:Bool) (x:Option Value):Option Bool:=
  match x with
  |some (.bool b)=>some (b==want)
  |some (.chan _)=>none
  |_=>some false
def Dc {α:Type} (l:List α):Nat->Option α:=List.rec (motive:=fun _=>Nat->Option α) (fun _=>none) (fun a _ b n=>Nat.rec (motive:=fun _=>Option α) (some a) (fun n _=>b n) n) l
theorem rH {α:Type}:∀(l:List α) (n:Nat),Dc l n=l[n]?
 |[],_=>rfl
 |_::_,0=>rfl
 |a::l,n+1=>by
  show Dc l n=_;rw[rH l n];rfl
def Fk (all:Array Oper) (env:En) (g:Nat×Bool):Option Bool:=Gx g.2 (((Dc all.toList g.1).bind (·.dst)).bind (fun d=>env.opt d))
def dB (all:Array Oper) (env:En) (o:Oper):Option Bool:=Option.rec (motive:=fun _=>Option Bool) (some true) (Fk all env) o.guard
theorem iP (all:Array Oper) (env:En) (o:Oper):dB all env o=aP all env.gS o:=by
 unfold dB aP;cases o.guard with
 |none=>rfl
 |some g=>
  obtain⟨j,want⟩:=g;show Fk all env (j,want)=_;unfold Fk Gx;simp only[En.pP,rH,Array.getElem?_toList];rfl
def sI (_:Program) (a:Operand->Value) (_:AH) (x:Operand):Option Value:=some (a x)
def lT (_:Program) (a:Operand->Value) (_:AH) (x:Operand):Option Value:=some (a x)
def rE (_:Program) (d:Operand->Value) (_:AH) (c a b:Operand):Option Value:=match d c with
  |.bool t=>some (if t then d a else d b)
  |_=>none
def nL (P:Program) (b:Operand->Value) (_:AH) (t:TypeId) (a:Array (Nat×Operand)):Option Value:=lN P t (a.toList.map fun p=>(p.1,b p.2))
def rI (P:Program) (b:Operand->Value) (h:AH) (t:TypeId) (a:Operand):Option Value:=match b a with
  |.pointer (some a)=>eY P h t a
  |_=>none
def iJ (_:Program) (c:Operand->Value) (_:AH) (x:Operand):Option Value:=match c x with
  |.pointer (some a)=>some (.pointer (some a))
  |.func (.func f) a b=>some (.func (.func f) a b)
  |.func (.yield f) a b=>some (.func (.yield f) a b)
  |_=>none
def nZ (P:Program) (a:Operand->Value) (_:AH) (op:BinOp) (t:TypeId) (x y:Operand):Option Value:=rP P op t x y (a x) (a y)
def sF (_:Program) (a:Operand->Value) (_:AH) (op:UnOp) (x:Operand):Option Value:=match op,a x with
  |.neg,.int k n=>some (.int k (k.wrap (0 - n)))
  |.not,.bool b=>some (.bool !b)
  |_,_=>none
def jP (P:Program) (a:Operand->Value) (h:AH) (s d:TypeId) (x:Operand):Option Value:=match P.underlying s,P.underlying d,a x with
  |some _,some (.int k),.int _ n=>some (.int k (k.wrap n))
  |some .string,some .string,.string z=>some (.string z)
  |some (.slice e),some .string,v=>(match P.underlying e with
   |some (.int .u8)=>strOf h v
   |_=>none)
  |_,_,_=>none
def dW (P:Program) (a:Operand->Value) (_:AH) (t:TypeId) (x:Operand):Option Value:=match P.underlying t with
  |some (.interface _)=>none
  |some _=>some (.iface t (a x))
  |none=>none
def iG (_:Program) (a:Operand->Value) (_:AH) (fn:Fn) (first captured:Array Operand):Option Value:=match fn with
  |.func f=>some (.func (.func f) (first.map a) (captured.map a))
  |_=>none
def pO (P:Program) (a:Operand->Value) (h:AH) (t:TypeId) (x:Operand) (c b d:Option Operand):Option Value:=eZ P h t (a x) (c.map a) (b.map a) (d.map a)
def gO (P:Program) (b:Operand->Value) (_:AH) (s:TypeId) (x:Operand) (f:Nat):Option Value:=match P.underlying s,b x with
  |some (.struct c),.pointer (some a)=>match c[f]? with
   |some fd=>if P.cellsOf fd.type=0 then none else some (.pointer (some (a.add fd.offset)))
   |none=>none
  |_,_=>none
def nX (P:Program) (b:Operand->Value) (_:AH) (t:TypeId) (x:Operand) (f:Nat):Option Value:=match P.underlying t,b x with
  |some (.struct c),.agg a=>match c[f]? with
   |some fd=>apart P fd.type a.toList fd.offset
   |none=>none
  |_,_=>none
def gQ (P:Program) (b:Operand->Value) (_:AH) (t:TypeId) (x i:Operand):Option Value:=match P.underlying t,b x,b i with
  |some (.array n e),.pointer (some a),.int _ i=>if 0<=i/\i<n/\(P.info? e).isSome then some (.pointer (some (a.add (i.toNat*P.cellsOf e)))) else none
  |some (.slice e),.slice (some a) n _,.int _ i=>if 0<=i/\i<n/\(P.info? e).isSome/\a.spot=none then some (.pointer (some (a.add (i.toNat*P.cellsOf e)))) else none
  |_,_,_=>none
def pH (P:Program) (a:Operand->Value) (_:AH) (t:TypeId) (x i:Operand):Option Value:=match P.underlying t,a x,a i with
  |some (.array n e),.agg c,.int _ i=>if 0<=i/\i<n/\(P.info? e).isSome then apart P e c.toList (i.toNat*P.cellsOf e) else none
  |some .string,.string s,.int _ i=>if 0<=i then(s[i.toNat]?).map fun b=> .int .u8 b.toNat else none
  |_,_,_=>none
def jZ (_:Program) (a:Operand->Value) (_:AH) (t:Operand) (i:Nat):Option Value:=match a t with
  |.tuple b=>b.toList[i]?
  |_=>none
def lL (P:Program) (a:Operand->Value) (h:AH) (t:TypeId) (x ix:Operand) (ok:Bool):Option Value:=fD P h t (a x) (a ix) ok
def rY (P:Program) (e:Operand->Value) (h:AH):Op->Option Value
 |.move x=>sI P e h x
 |.assign x=>lT P e h x
 |.pick c a b=>rE P e h c a b
 |.build t j=>nL P e h t j
 |.load t a=>rI P e h t a
 |.nilCheck x=>iJ P e h x
 |.binOp op t x y _=>nZ P e h op t x y
 |.unOp op _ x=>sF P e h op x
 |.convert s d x=>jP P e h s d x
 |.makeInterface t x=>dW P e h t x
 |.makeFunc fn first g=>iG P e h fn first g
 |.slice t x m l n=>pO P e h t x m l n
 |.fieldAddr s x f=>gO P e h s x f
 |.field t x f=>nX P e h t x f
 |.indexAddr t x i=>gQ P e h t x i
 |.index t x i=>pH P e h t x i
 |.extract t i=>jZ P e h t i
 |.lookup t x ix ok=>lL P e h t x ix ok
 |_=>none
theorem pA (P:Program) (a:Operand->Value) (h:AH) (op:Op):rY P a h op=aC P a h op:=by cases op<;>rfl
def E4 (h:AH) (ds:List Nat) (ro:Option Nat):Option (Nat×AH×List Nat):=
 match ro with
 |none=>some (h.next,h.alloc (.marks true),h.next::ds)
 |some l=>match h.get l with
  |some (.loop _ _ _ _ _ _ _ d)=>some (d,h,ds)
  |_=>none
structure Dk where
 env:En
 h:AH
 v:Value
def Fs (r:Dk):Rec:=⟨r.env.gS,r.h,r.v⟩
def gC (P:Program) (a:Operand->Value) (h:AH) (op:Op):Option Value:=
 match op with
 |.call c=>(match c.callee with|.builtin b=>if bK b then(aS P h b c.argTypes (c.args.toList.map a)).map (·.1) else none|_=>none)
 |op=>rY P a h op
theorem kW (P:Program) (a:Operand->Value) (h:AH) (op:Op):gC P a h op=aT P a h op:=by
 cases op<;>first|exact pA P a h _|rfl
def bN (P:Program) (R:eG) (e:Operand->Value) (h:AH) (op:Op):Option (Value×AH):=
 match op with
 |.store t a x=>match e a with
  |.pointer (some a)=>(nP P h t a (e x)).map fun i=>(undef,i)
  |_=>none
 |.mapUpdate t m k x=>(iS P h t (e m) (e k) (e x)).map fun i=>(undef,i)
 |.call c=>
  match c.callee with
  |.builtin b=>aS P h b c.argTypes (c.args.toList.map e)
  |.value f=>match e f with
   |.func (.func g) first d=>
    if cB P g then(R (.call g (first.toList++c.args.toList.map e++d.toList)) h).map fun r=>(r.1.v,r.2) else none
   |.func (.yield l) first _=>(R (.round l (first.toList++c.args.toList.map e)) h).map fun r=>(r.1.v,r.2)
   |_=>none
  |.invoke _ _=>none
 |_=>none
def cK (v:Option Value) (h:AH):Option (Value×AH):=Option.rec (motive:=fun _=>Option (Value×AH)) none (fun v=>some (v,h)) v
def An (b:Option (dQ×(Nat->Value))) (h:AH):Option (Value×AH):=b.map fun r=>(r.2 h.next,h.alloc r.1)
def B9 (b:Option (dQ×(Nat->Value))) (r:Nat) (h:AH):Option (Value×AH):=b.map fun x=>(x.2 r,h.set r (some x.1))
def Ge (P:Program) (R:eG) (c:Call) (env:En) (h:AH):Option (Value×AH):=if bH (.call c) then cK (gC P (aD P env) h (.call c)) h else bN P R (aD P env) h (.call c)
abbrev Kl:=Program->eG->En->AH->Option (Value×AH)
abbrev Kj:=Program->eG->Nat->En->AH->Option (Value×AH)
def kH (P:Program) (R:eG) (env:En) (h:AH) (op:Op):Option (Value×AH):=Op.rec (motive:=fun _=>Kl)
 (fun b P _ env h=>cK (sI P (aD P env) h b) h)
 (fun b P _ env h=>cK (lT P (aD P env) h b) h)
 (fun g d f P _ env h=>cK (rE P (aD P env) h g d f) h)
 (fun m P _ env h=>An (aN P (aD P env) (Op.alloc m)) h)
 (fun m l P _ env h=>An (aN P (aD P env) (Op.box m l)) h)
 (fun a c P _ env h=>cK (nL P (aD P env) h a c) h)
 (fun a n_ c P _ env h=>An (aN P (aD P env) (Op.buildSlice a n_ c)) h)
 (fun _ _ _ _ _ _ _ _=>none)
 (fun a d P _ env h=>cK (rI P (aD P env) h a d) h)
 (fun a d l P R env h=>bN P R (aD P env) h (Op.store a d l))
 (fun _ _ _ _ _=>none)
 (fun _ _ _ _ _=>none)
 (fun b P _ env h=>cK (iJ P (aD P env) h b) h)
 (fun j a b t _ P _ env h=>cK (nZ P (aD P env) h j a b t) h)
 (fun j _ b P _ env h=>cK (sF P (aD P env) h j b) h)
 (fun d f b P _ env h=>cK (jP P (aD P env) h d f b) h)
 (fun _ _ _ _ _ _=>none)
 (fun a b P _ env h=>cK (dW P (aD P env) h a b) h)
 (fun i d f P _ env h=>cK (iG P (aD P env) h i d f) h)
 (fun a s P _ env h=>An (aN P (aD P env) (Op.makeMap a s)) h)
 (fun _ _ _ _ _ _=>none)
 (fun a n g P _ env h=>An (aN P (aD P env) (Op.makeSlice a n g)) h)
 (fun a b n q p P _ env h=>cK (pO P (aD P env) h a b n q p) h)
 (fun a b i P _ env h=>cK (gO P (aD P env) h a b i) h)
 (fun a b i P _ env h=>cK (nX P (aD P env) h a b i) h)
 (fun a b e P _ env h=>cK (gQ P (aD P env) h a b e) h)
 (fun a b e P _ env h=>cK (pH P (aD P env) h a b e) h)
 (fun a b e j P _ env h=>cK (lL P (aD P env) h a b e j) h)
 (fun a p r l P R env h=>bN P R (aD P env) h (Op.mapUpdate a p r l))
 (fun _ _ _ _ _ _ _=>none)
 (fun _ _ _ _ _ _ _ _=>none)
 (fun _ _ _ _ _ _=>none)
 (fun _ _ _ _ _ _=>none)
 (fun _ _ _ _ _=>none)
 (fun _ _ _ _ _ _ _ _=>none)
 (fun a e P _ env h=>cK (jZ P (aD P env) h a e) h)
 (fun g P R env h=>bN P R (aD P env) h (Op.call g))
 (fun _ _ _ _ _=>none)
 (fun _ _ _ _ _=>none)
 (fun _ _ _ _ _=>none)
 (fun _ _ _ _ _ _=>none)
 (fun _ _ _ _ _ _ _=>none)
 (fun _ _ _ _ _ _=>none) op P R env h
def yA (P:Program) (R:eG) (r:Nat) (env:En) (h:AH) (op:Op):Option (Value×AH):=Op.rec (motive:=fun _=>Kj)
 (fun b P _ _ env h=>cK (sI P (aD P env) h b) h)
 (fun b P _ _ env h=>cK (lT P (aD P env) h b) h)
 (fun g d f P _ _ env h=>cK (rE P (aD P env) h g d f) h)
 (fun m P _ r env h=>B9 (aN P (aD P env) (Op.alloc m)) r h)
 (fun m l P _ r env h=>B9 (aN P (aD P env) (Op.box m l)) r h)
 (fun a c P _ _ env h=>cK (nL P (aD P env) h a c) h)
 (fun a n_ c P _ r env h=>B9 (aN P (aD P env) (Op.buildSlice a n_ c)) r h)
 (fun _ _ _ _ _ _ _ _ _=>none)
 (fun a d P _ _ env h=>cK (rI P (aD P env) h a d) h)
 (fun a d l P R _ env h=>bN P R (aD P env) h (Op.store a d l))
 (fun _ _ _ _ _ _=>none)
 (fun _ _ _ _ _ _=>none)
 (fun b P _ _ env h=>cK (iJ P (aD P env) h b) h)
 (fun j a b u _ P _ _ env h=>cK (nZ P (aD P env) h j a b u) h)
 (fun j _ b P _ _ env h=>cK (sF P (aD P env) h j b) h)
 (fun d f b P _ _ env h=>cK (jP P (aD P env) h d f b) h)
 (fun _ _ _ _ _ _ _=>none)
 (fun a b P _ _ env h=>cK (dW P (aD P env) h a b) h)
 (fun i d f P _ _ env h=>cK (iG P (aD P env) h i d f) h)
 (fun a t P _ r env h=>B9 (aN P (aD P env) (Op.makeMap a t)) r h)
 (fun _ _ _ _ _ _ _=>none)
 (fun a n g P _ r env h=>B9 (aN P (aD P env) (Op.makeSlice a n g)) r h)
 (fun a b n q p P _ _ env h=>cK (pO P (aD P env) h a b n q p) h)
 (fun a b i P _ _ env h=>cK (gO P (aD P env) h a b i) h)
 (fun a b i P _ _ env h=>cK (nX P (aD P env) h a b i) h)
 (fun a b e P _ _ env h=>cK (gQ P (aD P env) h a b e) h)
 (fun a b e P _ _ env h=>cK (pH P (aD P env) h a b e) h)
 (fun a b e j P _ _ env h=>cK (lL P (aD P env) h a b e j) h)
 (fun a p s l P R _ env h=>bN P R (aD P env) h (Op.mapUpdate a p s l))
 (fun _ _ _ _ _ _ _ _=>none)
 (fun _ _ _ _ _ _ _ _ _=>none)
 (fun _ _ _ _ _ _ _=>none)
 (fun _ _ _ _ _ _ _=>none)
 (fun _ _ _ _ _ _=>none)
 (fun _ _ _ _ _ _ _ _ _=>none)
 (fun a e P _ _ env h=>cK (jZ P (aD P env) h a e) h)
 (fun g P R _ env h=>Ge P R g env h)
 (fun _ _ _ _ _ _=>none)
 (fun _ _ _ _ _ _=>none)
 (fun _ _ _ _ _ _=>none)
 (fun _ _ _ _ _ _ _=>none)
 (fun _ _ _ _ _ _ _ _=>none)
 (fun _ _ _ _ _ _ _=>none) op P R r env h
theorem sA (v:Option Value) (h:AH):cK v h=v.map fun v=>(v,h):=by cases v<;>rfl
theorem tD (P:Program) (R:eG) (env:En) (h:AH) (op:Op):kH P R env h op=
  match kindOf op with
  |.gY=>(rY P (aD P env) h op).map fun v=>(v,h)
  |.alloc=>(aN P (aD P env) op).map fun r=>(r.2 h.next,h.alloc r.1)
  |.store|.call=>bN P R (aD P env) h op
  |.other=>none:=by
 cases op<;>first|rfl|exact sA _ _
theorem tA (P:Program) (R:eG) (r:Nat) (env:En) (h:AH) (op:Op):yA P R r env h op=
  if bH op then(gC P (aD P env) h op).map fun v=>(v,h)
  else if kindOf op== .alloc then(aN P (aD P env) op).map fun x=>(x.2 r,h.set r (some x.1))
  else bN P R (aD P env) h op:=by
 cases op<;>first|rfl|exact sA _ _|skip
 rename_i c
 show Ge P R c env h=_
 unfold Ge
 rw[sA]
 rfl
def Jq (P:Program) (R:eG) (r:Nat) (env:En) (h:AH) (op:Op) (w:Option Bool):Option (Value×AH):=
 Option.rec (motive:=fun _=>Option (Value×AH)) none (fun b=>Bool.rec (motive:=fun _=>Option (Value×AH)) (some (undef,h)) (yA P R r env h op) b) w
def dS (P:Program) (R:eG) (all:List Oper) (a i:Nat) (env:En) (h:AH) (o:Oper):Option (Value×AH):=Jq P R (a+i) env h o.op (dB ⟨all⟩ env o)
theorem pX (P:Program) (R:eG) (all:List Oper) (a i:Nat) (env:En) (h:AH) (o:Oper):dS P R all a i env h o=
 match dB ⟨all⟩ env o with
 |none=>none
 |some false=>some (undef,h)
 |some true=>
  if bH o.op then(gC P (aD P env) h o.op).map fun v=>(v,h)
  else if kindOf o.op== .alloc then(aN P (aD P env) o.op).map fun r=>(r.2 (a+i),h.set (a+i) (some r.1))
  else bN P R (aD P env) h o.op:=by
 unfold dS
 cases dB ⟨all⟩ env o with
 |none=>rfl
 |some b=>
  cases b with
  |false=>rfl
  |true=>exact tA ..
abbrev El:=Option (List Dk×En×AH)
def Hv (env:En) (h:AH) (v:Value) (x:El):El:=Option.rec (motive:=fun _=>El) none (fun r=>some (⟨env,h,v⟩::r.1,r.2)) x
def G4 (a:Nat->En->AH->El) (i:Nat) (o:Oper) (env:En) (h:AH) (x:Option (Value×AH)):El:=Option.rec (motive:=fun _=>El) none (fun r=>Hv env h r.1 (a (i+1) (gZ env o.dst r.1) r.2)) x
def cU (P:Program) (R:eG) (all:List Oper) (b i:Nat) (os:List Oper) (env:En) (h:AH):El:=
 List.rec (motive:=fun _=>Nat->En->AH->El) (fun _ env h=>some ([],env,h)) (fun o _ a i env h=>G4 a i o env h (dS P R all b i env h o)) os i env h
theorem nQ (P:Program) (R:eG) (all:List Oper) (a i:Nat) (o:Oper) (os:List Oper) (env:En) (h:AH):cU P R all a i (o::os) env h=
  match dS P R all a i env h o with
  |some (v,b)=>match cU P R all a (i+1) os (gZ env o.dst v) b with
   |some (c,e)=>some (⟨env,h,v⟩::c,e)
   |none=>none
  |none=>none:=by
 show G4 (fun i env h=>cU P R all a i os env h) i o env h (dS P R all a i env h o)=_
 cases dS P R all a i env h o with
 |none=>rfl
 |some r=>
  show Hv env h r.1 (cU P R all a (i+1) os (gZ env o.dst r.1) r.2)=_
  cases hd:cU P R all a (i+1) os (gZ env o.dst r.1) r.2 with
  |none=>simp only[hd];rfl
  |some q=>simp only[hd];rfl
def kR (P:Program) (all:List Oper) (rs:List Dk) (hEnd:AH) (x:Nat×Nat):Bool:=
 match all[x.1]?,rs[x.1]? with
 |some o,some r=>
  match dB ⟨all⟩ r.env o with
  |some true=>(match gC P (aD P r.env) (match rs[x.2]? with|some q=>q.h|none=>hEnd) o.op with|some v=>iC v r.v|none=>false)
  |_=>true
 |_,_=>false
def kZ (P:Program) (R:eG) (ops:Array Oper) (env:En) (h:AH):Option (En×AH):=
 if lQ ops.toList&&(P.follows .mixedOrders|| !Region.departs ops) then
  match cU P R ops.toList h.next 0 ops.toList env {h with next:=h.next+ops.size} with
  |some (c,a,b)=>if(jQ ops.toList).all (kR P ops.toList c b) then some (a,b) else none
  |none=>none
 else none
def eR (P:Program) (h:AH) (env:En):List ResultVar->Option (List Value)
 |[]=>some []
 |.tmp t::b=>(eR P h env b).map fun l=>env.get t::l
 |.cell a t::b=>match env.get a with
  |.pointer (some a)=>match eY P h t a,eR P h env b with
   |some v,some l=>some (v::l)
   |_,_=>none
  |_=>none
section td
variable (P:Program) (R:eG) (fn:FuncId) (ro:Option Nat) (ds:List Nat) (env:En) (k:List Item) (h:AH)
abbrev mR:=Option (pZ×AH)
def yM:mR:=R (.todo fn ro ds env k) h
def E8 (a b:Code):mR:=R (.todo fn ro ds env (.code a:: .code b::k)) h
def sH (c:Operand) (t e:Code):mR:=match aD P env c with
   |.bool b=>R (.todo fn ro ds env (.code (if b then t else e)::k)) h
   |_=>none
def xY (b:Code) (x:Item):mR:=R (.todo fn ro ds env (.code b::x::k)) h
def sD (id:Nat):mR:=match exitTo id k with
   |some a=>R (.todo fn ro ds env a) h
   |none=>if ro.isSome then some (⟨.exit id,ds,env,undef⟩,h) else none
def Fm:mR:=some (⟨.ret,ds,env,undef⟩,h)
def Cy:mR:=some (⟨.cO,ds,env,undef⟩,h)
def xU (x:Option (pZ×AH)):mR:=match x with
   |some (o,a)=>R (.todo fn ro ds o.env k) a
   |none=>none
def vY (ops:Array Oper):mR:=xU R fn ro ds k (R (.ops ops ops.toList env) h)
def tM (x:Option (En×AH)):mR:=match x with
   |some (a,b)=>R (.todo fn ro ds a k) b
   |none=>none
def rX (ops:Array Oper):mR:=tM R fn ro ds k (kZ P R ops env h)
def nJ (f:Operand) (l:Array Tmp) (assign b:Code):mR:=
   match E4 h ds ro with
   |some (d,c,e)=>
    match aD P env f with
    |.func (.func g) first a=>
     if cB P g then
      match R (.call g (first.toList++[.func (.yield c.next) #[] #[]]++a.toList)) (c.alloc (.loop .ready none fn env.gS l assign b d)) with
      |some (_,i)=>
       match i.get c.next with
       |some (.loop st p _ _ _ _ _ _)=>
        if st= .busy then none else
        match bE i c.next .exhausted none with
        |some j=>R (.todo fn ro e env ((p.map Item.code).toList++k)) j
        |none=>none
       |_=>none
      |none=>none
     else none
    |_=>none
   |none=>none
def nY:mR:=
  match ro with
  |some l=>match h.get l with
   |some (.loop .ready _ _ _ _ _ _ _)=>match bE h l .busy none with
    |some a=>R (.todo fn ro ds env k) a
    |none=>none
   |_=>none
  |none=>none
def Cz:Code->mR
  |.skip=>yM R fn ro ds env k h
  |.label _=>yM R fn ro ds env k h
  |.seq a b=>E8 R fn ro ds env k h a b
  |.cond c t e=>sH P R fn ro ds env k h c t e
  |.block id b=>xY R fn ro ds env k h b (.inBlock id)
  |.loop b=>xY R fn ro ds env k h b (.inLoop b)
  |.scope b=>xY R fn ro ds env k h b (.inScope b)
  |.exit id=>sD R fn ro ds env k h id
  |.ret=>Fm ds env h
  |.region _ ops d=>Bool.rec (motive:=fun _=>mR) (vY R fn ro ds env k h ops) (rX P R fn ro ds env k h ops) d
  |.rangeFunc f i assign g=>nJ P R fn ro ds env k h f i assign g
  |_=>none
def D7:Item->mR
  |.code c=>Cz P R fn ro ds env k h c
  |.inBlock _=>yM R fn ro ds env k h
  |.inScope _=>yM R fn ro ds env k h
  |.inLoop b=>xY R fn ro ds env k h b (.inLoop b)
  |.beginRound=>nY R fn ro ds env k h
  |_=>none
end td
def uB (P:Program) (R:eG) (fn:FuncId) (ro:Option Nat) (ds:List Nat) (env:En) (k:List Item) (h:AH):Option (pZ×AH):=
 List.rec (motive:=fun _=>mR) (Cy ds env h) (fun x k _=>D7 P R fn ro ds env k h x) k
section op
variable (P:Program) (R:eG) (all:Array Oper) (rest:List Oper) (env:En) (h:AH) (o:Oper)
def Ha (x:Value×AH):mR:=R (.ops all rest (gZ env o.dst x.1)) x.2
def Ar:mR:=Option.rec (motive:=fun _=>mR) none (Ha R all rest env o) (kH P R env h o.op)
def Hh:mR:=R (.ops all rest (gZ env o.dst undef)) h
def Ig (w:Option Bool):mR:=Option.rec (motive:=fun _=>mR) none (fun b=>Bool.rec (motive:=fun _=>mR) (Hh R all rest env h o) (Ar P R all rest env h o) b) w
end op
def rO (P:Program) (R:eG) (all:Array Oper) (rest:List Oper) (env:En) (h:AH):Option (pZ×AH):=
 match rest with
 |[]=>some (⟨.cO,[],env,undef⟩,h)
 |o::rest=>
  Ig P R all rest env h o (dB all env o)
def nW (P:Program) (K:FuncId->List Value->Option bZ) (R:eG) (f:FuncId) (args:List Value) (h:AH):Option (pZ×AH):=
 match K f args with
 |some (.val v)=>some (⟨.cO,[],vL,v⟩,h)
 |some (.fwd g d)=>match R (.call g d) h with
  |some (o,b)=>if uD o.v then some (⟨.cO,[],vL,o.v⟩,b) else none
  |none=>none
 |some (.host F)=>(F h).map fun r=>(⟨.cO,[],vL,r.1⟩,r.2)
 |none=>
  match Dc P.funcs.toList f with
  |some fn=>
   match fn.body with
   |some a=>
    match R (.todo f none [] (En.of args (fn.ntmps - args.length)) [.code a]) h with
    |some (o,b)=>
     match o.leave with
     |.exit _=>none
     |_=>match aZ o.ds b with
      |some c=>(eR P c o.env fn.results.toList).map fun e=>(⟨.cO,[],vL,oneOf e⟩,c)
      |none=>none
    |none=>none
   |none=>none
  |none=>none
def lJ (R:eG) (l:Nat) (args:List Value) (h:AH):Option (pZ×AH):=
 match h.get l with
 |some (.loop _ _ fn c e assign a _)=>
  if args.length=e.size then
   match R (.todo fn (some l) [] (En.of ((e.toList.zip args).foldl (fun t (p,v)=>t.set p v) c) 0) [.code assign,.beginRound,.code a]) h with
   |some (o,d)=>
    if o.ds.isEmpty then
     match o.leave with
     |.cO=>(bE d l .ready (some none)).map fun b=>(⟨.cO,[],vL,.bool true⟩,b)
     |.ret=>(bE d l .done (some (some .ret))).map fun b=>(⟨.cO,[],vL,.bool false⟩,b)
     |.exit id=>(bE d l .done (some (some (.exit id)))).map fun b=>(⟨.cO,[],vL,.bool false⟩,b)
    else none
   |none=>none
  else none
 |_=>none
def H4 (P:Program) (K:FuncId->List Value->Option bZ) (R:eG) (t:uW) (h:AH):Option (pZ×AH):=
 uW.rec (motive:=fun _=>mR) (fun fn ro ds env k=>uB P R fn ro ds env k h) (fun all rest env=>rO P R all rest env h) (fun f a=>nW P K R f a h) (fun l a=>lJ R l a h) t
def Ae (P:Program) (K:FuncId->List Value->Option bZ) (n:Nat):eG:=
 Nat.rec (motive:=fun _=>eG) (fun _ _=>none) (fun _ R=>H4 P K R) n
section same
variable {P:Program} {K:FuncId->List Value->Option bZ} {R':eG} {R:hQ}
theorem lI.val (a:lI R' R) (t:uW) (h:AH):(R' t h).map (fun r=>(r.1.v,r.2))=(R (Dp t) h).map fun r=>(r.1.v,r.2):=by
 rw[a t h,Option.map_map];rfl
theorem jL (b:lI R' R) (a:Operand->Value) (h:AH) (op:Op):bN P R' a h op=aM P R a h op:=by
 have c:∀g l,(R' (.call g l) h).map (fun r=>(r.1.v,r.2))=(R (.call g l) h).map fun r=>(r.1.v,r.2):=fun g l=>b.val _ _;have d:∀g l,(R' (.round g l) h).map (fun r=>(r.1.v,r.2))=(R (.round g l) h).map fun r=>(r.1.v,r.2):=fun g l=>b.val _ _;unfold bN aM;simp only[c,d];rfl
theorem wQ (a:lI R' R) (env:En) (h:AH) (op:Op):kH P R' env h op=cS P R env.gS h op:=by
 rw[tD];unfold cS;simp only[fV,pA,jL a];rfl
theorem sL (b:lI R' R) (all:List Oper) (a i:Nat) (env:En) (h:AH) (o:Oper):dS P R' all a i env h o=aX P R all a i env.gS h o:=by
 rw[pX];unfold aX;simp only[iP,fV,kW,jL b];rfl
theorem kQ (b:lI R' R) (all:List Oper) (a:Nat):∀(os:List Oper) (i:Nat) (env:En) (h:AH),
    bI P R all a i os env.gS h=(cU P R' all a i os env h).map fun r=>(r.1.map Fs,r.2.1.gS,r.2.2)
 |[],_,_,_=>rfl
 |o::os,i,env,h=>by
  rw[nQ];simp only[bI,sL b];cases aX P R all a i env.gS h o with
  |none=>rfl
  |some r=>
   obtain⟨v,c⟩:=r;simp only[<-nN,kQ b all a os];cases cU P R' all a (i+1) os (gZ env o.dst v) c with
   |none=>rfl
   |some r=>rfl
theorem uZ (all:List Oper) (rs:List Dk) (hEnd:AH) (x:Nat×Nat):kR P all rs hEnd x=eP P all (rs.map Fs) hEnd x:=by
 unfold kR eP;simp only[List.getElem?_map];cases all[x.1]? with
 |none=>rfl
 |some o=>
  cases rs[x.1]? with
  |none=>rfl
  |some r=>
   simp only[Option.map_some,iP,fV,kW];cases rs[x.2]?<;>rfl
theorem uR (c:lI R' R) (ops:Array Oper) (env:En) (h:AH):eB P R ops env.gS h=(kZ P R' ops env h).map fun r=>(r.1.gS,r.2):=by
 unfold kZ eB;rw[kQ c];split;cases cU P R' ops.toList h.next 0 ops.toList env {h with next:=h.next+ops.size} with
 |none=>rfl
 |some r=>
  obtain⟨b,e,a⟩:=r;have:kR P ops.toList b a=eP P ops.toList (b.map Fs) a:=funext (uZ _ b a);simp only[Option.map_some,this];split<;>rfl
 rfl
theorem gV (h:AH) (env:En):∀b,eR P h env b=bA P h env.gS b
 |[]=>rfl
 |.tmp t::b=>by simp only[eR,bA,En.get_eq,gV h env b]
 |.cell a t::b=>by simp only[eR,bA,En.get_eq,gV h env b];rfl
theorem vB (P:Program) (R:eG) (all:Array Oper) (rest:List Oper) (env:En) (h:AH):rO P R all rest env h=
  match rest with
  |[]=>some (⟨.cO,[],env,undef⟩,h)
  |o::rest=>
   match dB all env o with
   |none=>none
   |some false=>R (.ops all rest (gZ env o.dst undef)) h
   |some true=>match kH P R env h o.op with
    |some (v,a)=>R (.ops all rest (gZ env o.dst v)) a
    |none=>none:=by
 cases rest with
 |nil=>rfl
 |cons o rest=>
  show Ig P R all rest env h o (dB all env o)=_
  simp only
  cases dB all env o with
  |none=>rfl
  |some b=>
   cases b with
   |false=>rfl
   |true=>
    show Ar P R all rest env h o=_
    unfold Ar
    simp only
    cases kH P R env h o.op<;>rfl
theorem vV (a:lI R' R) (all:Array Oper) (rest:List Oper) (env:En) (h:AH):eK P R all rest env.gS h=(rO P R' all rest env h).map fY:=by
 rw[vB];unfold eK;cases rest with
 |nil=>rfl
 |cons o rest=>
  simp only[iP,wQ a];cases aP all env.gS o with
  |none=>rfl
  |some b=>
   cases b with
   |false=>simp only[<-nN];exact a (.ops all rest (gZ env o.dst undef)) h
   |true=>
    simp only;cases cS P R env.gS h o.op with
    |none=>rfl
    |some r=>simp only[<-nN];exact a (.ops all rest (gZ env o.dst r.1)) r.2
theorem sX (y:lI R' R) (fn:FuncId) (ro:Option Nat) (ds:List Nat) (env:En) (k:List Item) (h:AH):aL P R fn ro ds env.gS k h=(uB P R' fn ro ds env k h).map fY:=by
 have m:∀fn ro ds (env:En) k h,R (.todo fn ro ds env.gS k) h=(R' (.todo fn ro ds env k) h).map fY:=fun fn ro ds env k h=>y (.todo fn ro ds env k) h;unfold aL;cases k with
 |nil=>rfl
 |cons x k=>
  cases x with
  |code c=>
   cases c with
   |skip=>exact m ..
   |label _=>exact m ..
   |seq a b=>exact m ..
   |cond c t e=>
    show _=(sH P R' fn ro ds env k h c t e).map fY;unfold sH;simp only[fV];cases aH P env.gS c<;>first|rfl|exact m ..
   |block id b=>exact m ..
   |loop b=>exact m ..
   |scope b=>exact m ..
   |exit id=>
    show _=(sD R' fn ro ds env k h id).map fY;unfold sD;simp only;cases exitTo id k with
    |none=>simp only;split<;>rfl
    |some H=>exact m ..
   |ret=>rfl
   |region i ops d=>
    cases d with
    |false=>
     show _=(vY R' fn ro ds env k h ops).map fY;unfold vY xU;simp only;rw[show R (.ops ops ops.toList env.gS) h=(R' (.ops ops ops.toList env) h).map fY from y (.ops ops ops.toList env) h];cases R' (.ops ops ops.toList env) h with
     |none=>rfl
     |some r=>exact m ..
    |true=>
     show _=(rX P R' fn ro ds env k h ops).map fY;unfold rX tM;simp only[uR y];cases kZ P R' ops env h with
     |none=>rfl
     |some r=>exact m ..
   |rangeFunc f z assign n=>
    show _=(nJ P R' fn ro ds env k h f z assign n).map fY;unfold nJ;simp only[fV];split;rename_i d q A C;have s:E4 h ds ro=some (d,q,A):=C;simp only[s];split;rename_i g first j D
    simp only[D];split;rw[show R (.call g (first.toList++[.func (.yield q.next) #[] #[]]++j.toList)) (q.alloc (.loop .ready none fn env.gS z assign n d))=
     (R' (.call g (first.toList++[.func (.yield q.next) #[] #[]]++j.toList)) (q.alloc (.loop .ready none fn env.gS z assign n d))).map fY from y (.call g _) _]
    cases R' (.call g (first.toList++[.func (.yield q.next) #[] #[]]++j.toList)) (q.alloc (.loop .ready none fn env.gS z assign n d)) with
    |none=>rfl
    |some r=>
     simp only[Option.map_some,fY];split;rename_i st p _ _ _ _ _ _ u;simp only[u];split;rfl;split;rename_i G w;simp only[w];exact m ..;rename_i w;simp only[w];rfl;rename_i u;split;rename_i v;exact absurd v (u _ _ _ _ _ _ _ _);rfl
    rfl;rename_i D;split;rename_i E;exact absurd E (D _ _ _);rfl;rename_i C;have s:E4 h ds ro=none:=C;simp only[s];rfl
   |_=>rfl
  |inBlock _=>exact m ..
  |inScope _=>exact m ..
  |inLoop b=>exact m ..
  |beginRound=>
   show _=(nY R' fn ro ds env k h).map fY;unfold nY;cases ro with
   |none=>rfl
   |some l=>
    simp only;split;rename_i u;simp only[u];split;rename_i F w;simp only[w];exact m ..;rename_i w;simp only[w];rfl;rename_i u;split;rename_i v;exact absurd v (u _ _ _ _ _ _ _);rfl
  |_=>rfl
theorem uJ (i:lI R' R) (f:FuncId) (args:List Value) (h:AH):cN P K R f args h=(nW P K R' f args h).map fY:=by
 unfold nW cN;cases K f args with
 |some a=>
  cases a with
  |val v=>rfl
  |fwd g c=>
   simp only;rw[show R (.call g c) h=(R' (.call g c) h).map fY from i (.call g c) h];cases R' (.call g c) h with
   |none=>rfl
   |some r=>simp only[Option.map_some,fY,Cx];split<;>rfl
  |host F=>simp only;cases F h<;>rfl
 |none=>
  simp only;rw[rH,Array.getElem?_toList];cases P.funcs[f]? with
  |none=>rfl
  |some fn=>
   simp only;cases fn.body with
   |none=>rfl
   |some b=>
    simp only;rw[<-En.of_eq,show R (.todo f none [] (En.of args (fn.ntmps - args.length)).gS [.code b]) h=(R' (.todo f none [] (En.of args (fn.ntmps - args.length)) [.code b]) h).map fY from i (.todo f none [] (En.of args (fn.ntmps - args.length)) [.code b]) h];cases R' (.todo f none [] (En.of args (fn.ntmps - args.length)) [.code b]) h with
    |none=>rfl
    |some r=>
     obtain⟨⟨j,ds,env,v⟩,e⟩:=r;simp only[Option.map_some,fY,Cx,gV];cases j with
     |exit id=>rfl
     |cO=>simp only;cases aZ ds e with|none=>rfl|some d=>simp only;cases bA P d env.gS fn.results.toList<;>rfl
     |ret=>simp only;cases aZ ds e with|none=>rfl|some d=>simp only;cases bA P d env.gS fn.results.toList<;>rfl
theorem sR (j:lI R' R) (l:Nat) (args:List Value) (h:AH):eF R l args h=(lJ R' l args h).map fY:=by
 unfold lJ eF;split;rename_i fn a i as g d c;simp only[c];split;have f:∀t:List Value,(En.of t 0).gS=t:=fun t=>by rw[En.of_eq];simp
 have:=j (.todo fn (some l) [] (En.of ((i.toList.zip args).foldl (fun t (p,v)=>t.set p v) a) 0) [.code as,.beginRound,.code g]) h;simp only[Dp,f] at this;rw[this];cases R' (.todo fn (some l) [] (En.of ((i.toList.zip args).foldl (fun t (p,v)=>t.set p v) a) 0) [.code as,.beginRound,.code g]) h with
 |none=>rfl
 |some r=>
  obtain⟨⟨m,ds,env,v⟩,b⟩:=r;simp only[Option.map_some,fY,Cx];split;cases m with
  |cO=>simp only;cases bE b l .ready (some none)<;>rfl
  |ret=>simp only;cases bE b l .done (some (some .ret))<;>rfl
  |exit id=>simp only;cases bE b l .done (some (some (.exit id)))<;>rfl
  rfl
 rfl;rename_i c;split;rename_i e;exact absurd e (c _ _ _ _ _ _ _ _);rfl
theorem xO:∀n,lI (Ae P K n) (run P K n)
 |0=>fun t h=>by cases t<;>rfl
 |n+1=>fun t h=>by
  have b:lI (Ae P K n) fun t h=>run P K n t h:=xO n;cases t with
  |todo fn ro ds env k=>exact sX b ..
  |ops all rest env=>exact vV b ..
  |call f a=>exact uJ b ..
  |round l a=>exact sR b ..
end same
theorem tB {P:Program} {K:FuncId->List Value->Option bZ} {n:Nat} {f:FuncId} {args:List Value} {h:AH} {v:Value} (a:((Ae P K n (.call f args) h).any fun r=>iC r.1.v v)=true):
  ((run P K n (.call f args) h).any fun r=>iC r.1.v v)=true:=by
 have:=xO (P:=P) (K:=K) n (.call f args) h
 simp only[Dp] at this
 rw[this]
 revert a
 cases Ae P K n (.call f args) h<;>exact id
end
end Go.Ab
end
section
namespace Go.Ab
noncomputable section
variable {P:Program} {K:FuncId->List Value->Option bZ}
def sub:Code->List Nat->Code
 |c,[]=>c
 |.seq a _,0::p=>sub a p
 |.seq _ b,1::p=>sub b p
 |.cond _ t _,0::p=>sub t p
 |.cond _ _ e,1::p=>sub e p
 |.block _ b,0::p=>sub b p
 |.loop b,0::p=>sub b p
 |.scope b,0::p=>sub b p
 |.rangeFunc _ _ a _,0::p=>sub a p
 |.rangeFunc _ _ _ b,1::p=>sub b p
 |_,_=> .skip
def oQ (P:Program) (f:FuncId):Option Code:=(P.funcs[f]?).bind (·.body)
def I6 (P:Program) (f:FuncId):Nat:=(P.funcs[f]?).elim 0 (·.ntmps)
def cd (P:Program) (f:FuncId) (p:List Nat):Code:=sub ((oQ P f).getD .skip) p
def Cl (P:Program) (K:FuncId->List Value->Option bZ) (f:FuncId) (args:List Value) (h:AH) (Q:Value->AH->Prop):Prop:=Ok P K (.call f args) h fun o a=>Q o.v a
def Kv (P:Program) (f:FuncId) (p:List Nat) (n:Nat) (e:Nat->Value) (d:Nat) (st:LoopState) (pd:Option Code):dQ:=match cd P f p with
 |.rangeFunc _ c a b=> .loop st pd f ((List.range n).map e) c a b d
 |_=> .marks false
abbrev I (n:Int):Value:= .int .i64 n
def pt (b o j:Nat):Value:= .pointer (some ⟨b,o+j,none⟩)
def G7:Nat->Nat->List Nat->List Nat
 |0,_,acc=>acc
 |f+1,n,acc=>if n<=1 then acc else G7 f (n/2) (n % 2::acc)
def Bv (n:Nat):List Nat:=G7 120 n []
def Im:Code->Operand×Array Tmp×Code×Code
 |.rangeFunc f c a b=>(f,c,a,b)
 |_=>(.tmp 0, #[],.skip,.skip)
end
end Go.Ab
end
