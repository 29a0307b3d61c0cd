/- A part of the proof. -/
import Derived.Test.YtmhapehobfnoiaaGreatDoorN3
namespace Go.Ab
open Go.RowKit
section
variable {P:Program} {B:Nat} {K:FuncId->List Value->Option fC}
theorem Mb {α:Type} {l:List α} {f:α×Nat->Bool} (h:l.zipIdx.all f=true) {k:Nat} {o:α} (a:l[k]?=some o):f (o,k)=true:=by
 grind
theorem Pg {l:List Nat} (a:l.Pairwise (·<·)) {i p:Nat} (c:l.find? (fun x=>decide (i<x))=some p):i<p/\p∈l/\∀j∈l,i<j->p<=j:=by
 obtain⟨b,as,f,rfl,g⟩:=List.find?_eq_some_iff_append.1 c;refine⟨by simpa using b,by simp,?_⟩;intro j e d;rcases List.mem_append.1 e with h|h;grind;rw[List.pairwise_append] at a;rcases List.mem_cons.1 h with h|h;omega;have:=(List.pairwise_cons.1 a.2.1).1 j h;omega
structure Fit (all:List Oper):Prop where
 dir:∀(k:Nat) o,all[k]?=some o->∀j∈dC o,j<k
 kind:∀(k:Nat) o,all[k]?=some o->kindOf o.op≠.other
 kS:∀i j:Nat,∀t,(all[i]?).bind (·.dst)=some t->(all[j]?).bind (·.dst)=some t->i=j
 tmps:∀i j:Nat,∀o p d,all[i]?=some o->all[j]?=some p->i≠j->p.dst=some d->d∈xQ all o->(j<i->ahead (cX all []) j i=true)/\(i<j->ahead (cX all []) i j=true)
 rH:∀i j:Nat,∀o p,all[i]?=some o->all[j]?=some p->cC o.op=true->cC p.op=true->j<i->ahead (cX all []) j i=true
theorem Rf {all:List Oper} (h:Bi all=true):Fit all:=by
 unfold Bi at h;simp only[Bool.and_eq_true] at h;obtain⟨⟨⟨b,g⟩,c⟩,_⟩:=h;have pair:∀i j:Nat,∀o p,all[i]?=some o->all[j]?=some p->i≠j->
   (o.dst.isNone||o.dst !=p.dst)=true/\
   (match p.dst with|some d=> !(xQ all o).contains d||(if j<i then ahead (cX all []) j i else ahead (cX all []) i j)|none=>true)=true/\
   (!(cC o.op&&cC p.op&&decide (j<i))||ahead (cX all []) j i)=true:=by
  intro i j o p a f e
  have:=Mb (Mb c a) f
  grind
 refine {dir:=?_,kind:=?_,kS:=?_,tmps:=?_,rH:=?_};intro k o a j l;have:=Mb b a;grind;grind;grind;grind;grind
theorem wb {all:List Oper} {i s n:Nat} (f:n=all.length) (e:i<n):
  let rH:=(List.range n).filter fun i=>(all[i]?).any fun o=>cC o.op
  ((rH++[n]).find? fun x=>decide (i<x)).getD n=s->i<s/\∀j p,i<j->j<s->all[j]?=some p->cC p.op=false:=by
 intro rH b
 have a:(rH++[n]).Pairwise (·<·):=by
  rw[List.pairwise_append];refine⟨(List.pairwise_lt_range).filter _,by simp,?_⟩;grind
 cases hf:(rH++[n]).find? fun x=>decide (i<x) with
 |none=>
  grind
 |some p=>
  rw[hf] at b
  simp only[Option.getD_some] at b
  subst b
  obtain⟨c,_,d⟩:=Pg a hf
  grind
theorem S1 {all:List Oper} {i s:Nat} {o:Oper} (f:all[i]?=some o) (q:dW o.op=true) (r:s=all.length\/∃p,all[s]?=some p/\cC p.op=true)
  (d:∀j p,all[j]?=some p->cC p.op=true->(j<s->ahead (cX all []) i j=false)/\(s<=j->ahead (cX all []) j i=false))
  (c:¬(i<s/\∀j p,i<j->j<s->all[j]?=some p->cC p.op=false)):(i,s)∈yK all:=by
 have b:i<all.length:=(List.getElem?_eq_some_iff.1 f).1
 unfold yK
 simp only
 rw[List.mem_flatMap]
 refine⟨i,List.mem_range.2 b,?_⟩
 rw[aCx (by simp[f,q])]
 rw[List.mem_map]
 refine⟨s,?_,rfl⟩
 rw[List.mem_filter]
 constructor
 .grind
 .rw[Bool.and_eq_true];constructor
  .simp only[bne_iff_ne,ne_eq];intro m;exact c (wb rfl b m.symm)
  .rw[List.all_eq_true];intro j e;rw[List.mem_filter] at e;obtain⟨n,a⟩:=e;cases hp:all[j]? with
   |none=>simp[hp] at a
   |some p=>
    simp[hp] at a
    obtain⟨g,l⟩:=d j p hp a
    split
    .rename_i h;simp[g h]
    .rename_i h;simp[l (by omega)]
theorem Pv {R:iK} {all:List Oper} {d:Nat}:∀(os:List Oper) (i:Nat) (env:List Value) (h:AH) (rs:List Rec) (e:List Value) (b:AH),dY P R all d i os env h=some (rs,e,b)->rs.length=os.length
 |[],i,env,h,rs,e,b,a=>by
  simp only[dY,Option.some.injEq,Prod.mk.injEq] at a;rw[<-a.1];rfl
 |o::os,i,env,h,rs,e,b,a=>by
  simp only[dY] at a;split at a;split at a;rename_i c;simp only[Option.some.injEq,Prod.mk.injEq] at a;rw[<-a.1,List.length_cons,List.length_cons,Pv os _ _ _ _ _ _ c];cases a;cases a
theorem ki (C:Ctx P B K) (R:iK) (hR:xH C R):ey C R:=by
 intro ops env h θ h' c ρ w b a cs k t g hg he;unfold lK at c;split at c;rename_i y;rw[Bool.and_eq_true] at y;obtain⟨y,I⟩:=y;split at c;rename_i rs e hN q;split at c;rename_i G;simp only[Option.some.injEq,Prod.mk.injEq] at c;obtain⟨rfl,rfl⟩:=c;have fit:=Rf y;generalize r:ops.toList=all at fit q G y;have ι:ops.size=all.length:=by rw[<-r];simp
 obtain⟨E,H,V,U,D,z,W,F,T⟩:=Fm all 0 env _ rs e hN q;have d:Dr P R all h.next E H V:={
  step:=fun j o J=>by have:=(z j o J).1;rwa [Nat.zero_add] at this
  env:=fun j o J=>(z j o J).2
  dir:=fit.dir,kind:=fit.kind,kS:=fit.kS,tmps:=fit.tmps,rH:=fit.rH
  flt:=fun i s o J hl hs δ X S hw=>by
   rw[List.all_eq_true] at G;have:=G (i,s) (S1 J hl δ X S);have α:i<all.length:=(List.getElem?_eq_some_iff.1 J).1;unfold nA at this;simp only[J,T i α,hw] at this;have hh:cN P (bT P (E i)) (H s) o.op=some (V i):=by
    rcases Nat.lt_or_ge s all.length with h1|h1;rw[T s h1] at this;simp only at this;split at this;rename_i v hv;rw[hv,A3 _ _ this];cases this;have ε:s=all.length:=by omega
    rw[List.getElem?_eq_none (by rw[Pv _ _ _ _ _ _ _ q];omega)] at this;simp only at this;rw[ε,F];split at this;rename_i v hv;rw[hv,A3 _ _ this];cases this
   exact hh}
 have hB:B<=w.heap.size:=g.size;have Z:Inv P B ρ (H 0) w:=by
  rw[D];exact {iQ:=g.iQ,inj:=g.inj,low:=g.low,old:=g.old,fresh:=fun i h1=>g.fresh i (by simp at h1;omega),eK:=fun i h1=>g.eK i (by simp at h1;omega),lH:=g.lH,size:=g.size,bn:=by have:=g.bn;grind}
 have l:∀i,(H 0).get i=h.get i:=fun i=>by rw[D];rfl
 have η:St P B all h.next E H V ρ h w [] 0 ρ w a.tmps.toList:={
  yT:={ext:=Ext.refl _,inv:=Z,un:=fun _ _ h=>h,iV:=fun i _ _=>l i,stay:=fun i _ h1=>by rw[l];exact h1,frame:=fun _ _ _=>rfl,
                range:=fun i b s h1 u h3 _=>⟨i,s,h1,by grind,h3⟩,base:=by rw[D],rF:=fun i _=>l i,size:=Nat.le_refl _,os:=rfl,out:=rfl,tape:=rfl}
  Xz:=fun i h1=>by cases h1
  closed:=fun i h1=>by cases h1
  s1:=fun j o h1=>by omega
  s3:=fun j o _ _ h1=>by cases h1
  sle:=Nat.zero_le _
  env:=by rw[U];exact he
  nx:=by grind
  fB:=fun i o b f _ h1=>by cases h1
  qZ:=fun i n t h1 u=>by rw[g.fresh _ (by omega)] at u;cases u
  lone:=fun i n t _ h1 u=>by rw[g.fresh _ (by omega)] at u;cases u
  C4:=fun i i' n t t' _ _ u=>by rw[g.fresh _ (by omega)] at u;cases u
  Uv:=fun i _ _=>g.fresh _ (by omega)
  Zy:=fun i o _ _=>g.fresh _ (by omega)
  rev:=fun i o b f h1=>by omega
  S2:=fun j _ _=>by rw[l];exact g.eK _ (by omega)
  gr:=fun m hm _=>(have:m=0:=(by omega);this▸kL.refl _)}
 obtain⟨s,st1,Y⟩:=η.advance d g.bn hB _ _ rfl;have A:Region.schedule (P.follows .mixedOrders) ops t=Region.linearise.go .any ops ops.size t (Array.replicate ops.size false) []:=by
  unfold Region.schedule;rw[aCx I];rfl
 have O:sP all [] (Region.schedule (P.follows .mixedOrders) ops t):=by
  rw[A,<-r];refine xA (by rw[r];exact fit.dir) ops.size t _ [] (by simp) (fun i g=>by simp[g]) ?_;grind
 obtain⟨D',ρ',w',a',st2,β,L,ζ⟩:=Gv C hR r d g.bn hB g hg (b:=b) (cs:=cs) (k:=k) _ [] s ρ w a O Y st1;have x:=st2.yT;rw[F] at x;have γ:=st2.nx;rw[F] at γ;refine⟨ρ',w',a',x.yT (by omega),?_,L,ζ⟩;have M:e=tT all V (E 0) D':=by
  rw[<-W,d.wk _ (Nat.le_refl _)];refine List.ext_getElem? fun t=>Ja (fun i j h1 u=>fit.kS i j t h1 u) fun j hj=>?_;have N:j<all.length:=by
   cases hp:all[j]? with
   |none=>rw[hp] at hj;cases hj
   |some p=>grind
  simp[N,β j N]
 rw[M];exact st2.env;cases c;cases c;cases c
theorem Xt (C:Ctx P B K) (n:Nat):xH C (run P K n):=uk C (ki C) n
end
end Go.Ab
section
namespace Go.Ab
variable {P:Program} {K:FuncId->List Value->Option fC}
def iK.le (R R':iK):Prop:=∀t h r,R t h=some r->R' t h=some r
theorem sR {R R':iK} (e:R.le R') {d:Operand->Value} {h:AH} {op:Op} {r:Value×AH} (a:cH P R d h op=some r):cH P R' d h op=some r:=by
 unfold cH at a ⊢;split;exact a;exact a;simp only at a ⊢;split;grind;rename_i g;simp only[g] at a;split;rename_i b;simp only[b] at a;split;rename_i f;rw[aCx f] at a;simp only[Option.map_eq_some_iff] at a ⊢;obtain⟨x,c,rfl⟩:=a;exact⟨x,e _ _ _ c,rfl⟩;grind;rename_i b;simp only[b] at a;simp only[Option.map_eq_some_iff] at a ⊢;obtain⟨x,c,rfl⟩:=a;exact⟨x,e _ _ _ c,rfl⟩;grind;grind;grind
theorem H3 {R R':iK} (b:R.le R') {env:List Value} {h:AH} {op:Op} {r:Value×AH} (a:iD P R env h op=some r):iD P R' env h op=some r:=by
 unfold iD at a ⊢;cases hk:kindOf op<;>simp only[hk] at a ⊢;exact a;exact a;exact sR b a;exact sR b a;exact a
theorem Cw {R R':iK} (f:R.le R') {all:List Oper} {d i:Nat} {env:List Value} {h:AH} {o:Oper} {r:Value×AH} (a:dF P R all d i env h o=some r):dF P R' all d i env h o=some r:=by
 unfold dF at a ⊢;cases hw:cJ ⟨all⟩ env o with
 |none=>grind
 |some b=>
  rw[hw] at a;cases b with
  |false=>exact a
  |true=>
   simp only at a ⊢;split;grind;rename_i e;rw[aCw e] at a;split;grind;rename_i c;rw[aCw c] at a;exact sR f a
theorem uX {R R':iK} (b:R.le R') {all:List Oper} {c:Nat}:∀(os:List Oper) {i:Nat} {env:List Value} {h:AH} {r:List Rec×List Value×AH},dY P R all c i os env h=some r->dY P R' all c i os env h=some r
 |[],_,_,_,_,a=>a
 |o::os,i,env,h,r,a=>by
  simp only[dY] at a ⊢;split at a;rename_i v g d;rw[Cw b d];simp only;split at a;rename_i j e f;rw[uX b os f];exact a;cases a;cases a
theorem E6 {R R':iK} (c:R.le R') {ops:Array Oper} {env:List Value} {h:AH} {r:List Value×AH} (a:lK P R ops env h=some r):lK P R' ops env h=some r:=by
 unfold lK at a ⊢;split;rename_i b;rw[aCx b] at a;split at a;rename_i d;rw[uX c _ d];exact a;cases a;grind
theorem Xi {R R':iK} (c:R.le R') {all:Array Oper} {rest:List Oper} {env:List Value} {h:AH} {r:Out×AH} (a:mO P R all rest env h=some r):mO P R' all rest env h=some r:=by
 unfold mO at a ⊢;cases rest with
 |nil=>exact a
 |cons o rest=>
  simp only at a ⊢;cases hw:cJ all env o with
  |none=>grind
  |some b=>
   rw[hw] at a;cases b with
   |false=>exact c _ _ _ a
   |true=>
    simp only at a ⊢;split at a;rename_i v e d;rw[H3 c d];exact c _ _ _ a;cases a
theorem Ru {R R':iK} (d:R.le R') {f:FuncId} {args:List Value} {h:AH} {r:Out×AH} (a:gX P K R f args h=some r):gX P K R' f args h=some r:=by
 unfold gX at a ⊢;split;grind;rename_i b;rw[b] at a;simp only at a;split at a;rename_i c;rw[d _ _ _ c];exact a;cases a;grind;rename_i b;rw[b] at a;simp only at a;split at a;split at a;split at a;rename_i c;rw[d _ _ _ c];exact a;cases a;cases a;cases a
theorem M3 {R R':iK} (c:R.le R') {l:Nat} {args:List Value} {h:AH} {r:Out×AH} (a:jA R l args h=some r):jA R' l args h=some r:=by
 unfold jA at a ⊢;split at a;split at a;rename_i b;rw[aCx b];split at a;rename_i d;rw[c _ _ _ d];exact a;cases a;cases a;cases a
theorem Ry {R R':iK} (b:R.le R') {fn:FuncId} {ro:Option Nat} {ds:List Nat} {env:List Value} {k:List Item} {h:AH} {r:Out×AH} (a:cG P R fn ro ds env k h=some r):cG P R' fn ro ds env k h=some r:=by
 unfold cG at a ⊢;split at a;exact a;rename_i c k;split at a;exact b _ _ _ a;exact b _ _ _ a;exact b _ _ _ a;split at a;exact b _ _ _ a;cases a;exact b _ _ _ a;exact b _ _ _ a;exact b _ _ _ a;split at a;exact b _ _ _ a;exact a;exact a;split at a;rename_i i;rw[b _ _ _ i];exact b _ _ _ a;cases a;split at a;rename_i i;rw[E6 b i];exact b _ _ _ a;cases a;split at a;rename_i d n j m;split at a;rename_i g first e p
 split at a;rename_i f;rw[aCx f];split at a;rename_i i;rw[b _ _ _ i];simp only;split at a;split at a;cases a;rename_i l;rw[aCw l];split at a;exact b _ _ _ a;cases a;cases a;cases a;cases a;cases a;cases a;cases a;exact b _ _ _ a;exact b _ _ _ a;exact b _ _ _ a;split at a;split at a;split at a;exact b _ _ _ a;cases a;cases a;cases a;cases a
theorem db:∀n,(run P K n).le (run P K (n+1))
 |0,t,h,r,a=>by simp[run] at a
 |n+1,t,h,r,a=>by
  have c:=db n;cases t with
  |todo fn ro ds env k=>exact Ry c a
  |ops all rest env=>exact Xi c a
  |call f b=>exact Ru c a
  |round l b=>exact M3 c a
theorem gT {n m:Nat} (h:n<=m):(run P K n).le (run P K m):=by
 induction h with
 |refl=>exact fun _ _ _ h=>h
 |step _ b=>exact fun t g r a=>db _ _ _ _ (b t g r a)
end Go.Ab
end
section
namespace Go.Ab
noncomputable section
variable {P:Program} {K:FuncId->List Value->Option fC}
def Nn (k:Nat) (a b:Value):Option Bool:=match k,a,b with
 |0,.int k m,.int c n=>if k=c then some (m==n) else none
 |1,.bool m,.bool n=>some (m==n)
 |2,.string m,.string n=>some (m==n)
 |_,_,_=>none
def lE:List Nat->List Value->List Value->Option Bool
 |[],[],[]=>some true
 |k::c,x::d,y::e=>match Nn k x y,lE c d e with
  |some a,some b=>some (a&&b)
  |_,_=>none
 |_,_,_=>none
def Fo (P:Program) (c:TypeId->Option (List Nat)):Nat->List Field->Option (List Nat)
 |_,[]=>some []
 |o,f::d=>if f.name="_"\/f.offset≠o then none else
  match c f.type,Fo P c (o+P.cellsOf f.type) d with
  |some a,some b=>if a.length=P.cellsOf f.type then some (a++b) else none
  |_,_=>none
def flatK (P:Program):Nat->TypeId->Option (List Nat)
 |0,_=>none
 |d+1,t=>match P.underlying t with
  |some .bool=>some [1]
  |some (.int _)=>some [0]
  |some .string=>some [2]
  |some (.array n e)=>if(P.info? e).isSome then
    (match flatK P d e with
    |some l=>if l.length=P.cellsOf e then some (List.replicate n l).flatten else none
    |none=>none) else none
  |some (.struct a)=>if P.stoodInHeld t then none else Fo P (flatK P d) 0 a.toList
  |_=>none
theorem lU:∀{c:List Nat} {a b:List Value} {r:Bool},lE c a b=some r->a.length=c.length/\b.length=c.length
 |[],[],[],_,_=>⟨rfl,rfl⟩
 |[],[],_::_,_,h=>by simp[lE] at h
 |[],_::_,_,_,h=>by simp[lE] at h
 |_::_,[],_,_,h=>by simp[lE] at h
 |_::_,_::_,[],_,h=>by simp[lE] at h
 |k::c,x::e,y::f,r,h=>by
  simp only[lE] at h;split at h;rename_i d;have:=lU d;simp[this];cases h
theorem yE:∀{c d:List Nat} {a b:List Value} {r:Bool},lE (c++d) a b=some r->∃e f,lE c (a.take c.length) (b.take c.length)=some e/\lE d (a.drop c.length) (b.drop c.length)=some f/\r=(e&&f)
 |[],d,a,b,r,h=>⟨true,r,by simp[lE],by simpa using h,by simp⟩
 |k::g,d,[],_,r,h=>by simp[lE] at h
 |k::g,d,_::_,[],r,h=>by simp[lE] at h
 |k::g,d,x::n,y::p,r,h=>by
  simp only[List.cons_append,lE] at h;split at h;rename_i e f i j;cases h;obtain⟨s1,s2,l,m,rfl⟩:=yE j;exact⟨e&&s1,s2,by simp[lE,i,l],by simpa using m,by rw[Bool.and_assoc]⟩;cases h
def valOf (P:Program) (t:TypeId) (a:List Value):Option Value:=match fS P t with
 |some true=>some (.agg ⟨a⟩)
 |some false=>a[0]?
 |none=>none
theorem vG {t:TypeId} {xs a:List Value} {b:Nat} {v:Value} (e:(xs.drop b).take (P.cellsOf t)=a) (f:a.length=P.cellsOf t) (d:0<P.cellsOf t\/b<=xs.length) (c:valOf P t a=some v):apart P t xs b=some v:=by
 unfold valOf at c;unfold apart;grind
theorem I6 {eq:TypeId->Value->Value->Option Bool} {j:TypeId->Option (List Nat)}
  (n:∀t d a b r,j t=some d->d.length=P.cellsOf t->lE d a b=some r->∃x y,valOf P t a=some x/\valOf P t b=some y/\eq t x y=some r)
  {xs ys:List Value}:∀(fs:List Field) (o:Nat) (d:List Nat) (r:Bool),o<=xs.length->o<=ys.length->Fo P j o fs=some d->lE d (xs.drop o) (ys.drop o)=some r->iH P eq xs ys fs=some r
 |[],o,d,r,_,_,c,e=>by
  simp only[Fo,Option.some.injEq] at c;subst c;have:=lU e;have u:xs.drop o=[]:=List.eq_nil_of_length_eq_zero this.1;have v:ys.drop o=[]:=List.eq_nil_of_length_eq_zero this.2;rw[u,v] at e;simpa [lE,iH] using e
 |f::fs,o,d,r,C,D,c,e=>by
  simp only[Fo] at c;split at c;cases c;rename_i i;simp only[not_or,Decidable.not_not,ne_eq] at i;split at c;rename_i a b w z;split at c;rename_i g;cases c;obtain⟨H,G,l,m,rfl⟩:=yE e;obtain⟨x,y,E,F,A⟩:=n _ _ _ _ _ w g l;have p:=lU l;have lc:=lU e;simp only[List.length_drop,List.length_append] at lc;have q:apart P f.type xs f.offset=some x:=vG (by rw[i.2,<-g]) (by rw[p.1,g]) (.inr (by omega)) E;have s:apart P f.type ys f.offset=some y:=vG (by rw[i.2,<-g]) (by rw[p.2,g]) (.inr (by omega)) F;simp only[iH];rw[aCw i.1,q,s];simp only[A];rw[List.drop_drop,List.drop_drop] at m;have:=I6 (xs:=xs) (ys:=ys) n fs (o+P.cellsOf f.type) b G (by omega) (by omega) z (by rw[<-g];exact m);grind;cases c;cases c
theorem Nf {eq:TypeId->Value->Value->Option Bool} {e:TypeId} {l:List Nat}
  (i:∀a b r,lE l a b=some r->∃x y,valOf P e a=some x/\valOf P e b=some y/\eq e x y=some r) (d:l.length=P.cellsOf e)
  {xs ys:List Value}:∀(n j:Nat) (r:Bool),j*P.cellsOf e<=xs.length->j*P.cellsOf e<=ys.length->lE (List.replicate n l).flatten (xs.drop (j*P.cellsOf e)) (ys.drop (j*P.cellsOf e))=some r->lT P eq e xs ys (List.range' j n)=some r
 |0,j,r,_,_,c=>by
  have:=lU c;simp only[List.replicate_zero,List.flatten_nil,List.length_nil] at this;have f:xs.drop (j*P.cellsOf e)=[]:=List.eq_nil_of_length_eq_zero this.1;have s:ys.drop (j*P.cellsOf e)=[]:=List.eq_nil_of_length_eq_zero this.2;rw[f,s] at c;simpa [lE,lT] using c
 |n+1,j,r,w,A,c=>by
  rw[List.replicate_succ,List.flatten_cons] at c;obtain⟨D,C,g,t,rfl⟩:=yE c;obtain⟨x,y,v,z,u⟩:=i _ _ _ g;have m:=lU g;have lc:=lU c;simp only[List.length_drop,List.length_append] at lc;have p:apart P e xs (j*P.cellsOf e)=some x:=vG (by rw[<-d]) (by rw[m.1,d]) (.inr (by omega)) v;have q:apart P e ys (j*P.cellsOf e)=some y:=vG (by rw[<-d]) (by rw[m.2,d]) (.inr (by omega)) z;simp only[List.range'_succ,lT,p,q,u];rw[List.drop_drop,List.drop_drop] at t;have f:(j+1)*P.cellsOf e=j*P.cellsOf e+P.cellsOf e:=Nat.succ_mul _ _;have:=Nf (xs:=xs) (ys:=ys) i d n (j+1) C (by omega) (by omega) (by grind);grind
theorem qn (d:Nat):∀(t:TypeId) (i:List Nat) (a b:List Value) (r:Bool),flatK P d t=some i->i.length=P.cellsOf t->lE i a b=some r->
  ∃x y,valOf P t a=some x/\valOf P t b=some y/\tU P d t x y=some r:=by
 induction d with
 |zero=>intro t i a b r h;simp[flatK] at h
 |succ d q=>
  intro t i a b r h p j
  have one:∀k,i=[k]->∃x y,a=[x]/\b=[y]/\Nn k x y=some r:=fun k p=>by
   subst p;have:=lU j;match a,b,this with
   |[x],[y],_=>
    refine⟨x,y,rfl,rfl,?_⟩;simp only[lE] at j;grind
  unfold flatK at h
  split at h
  .rename_i c;obtain⟨x,y,rfl,rfl,f⟩:=one 1 (by simpa using h.symm);refine⟨x,y,by simp[valOf,fS,c],by simp[valOf,fS,c],?_⟩;unfold Nn at f;split at f
   .rename_i g;cases g
   .cases f;unfold tU;simp[c]
   .rename_i g;cases g
   .cases f
  .rename_i k c;obtain⟨x,y,rfl,rfl,f⟩:=one 0 (by simpa using h.symm);refine⟨x,y,by simp[valOf,fS,c],by simp[valOf,fS,c],?_⟩;unfold Nn at f;split at f
   .split at f
    .rename_i m;subst m;cases f;unfold tU;simp[c]
    .cases f
   .rename_i g;cases g
   .rename_i g;cases g
   .cases f
  .rename_i c;obtain⟨x,y,rfl,rfl,f⟩:=one 2 (by simpa using h.symm);refine⟨x,y,by simp[valOf,fS,c],by simp[valOf,fS,c],?_⟩;unfold Nn at f;split at f
   .rename_i g;cases g
   .rename_i g;cases g
   .cases f;unfold tU;simp[c]
   .cases f
  .rename_i n e c;split at h
   .rename_i z;split at h
    .rename_i l A;split at h
     .rename_i hle;cases h;refine⟨.agg ⟨a⟩,.agg ⟨b⟩,by simp[valOf,fS,c],by simp[valOf,fS,c],?_⟩;unfold tU;simp only[c,z,if_true];rw[List.range_eq_range'];exact Nf (fun a b r j=>q e l a b r A hle j) hle n 0 r (by simp) (by simp) (by simpa using j)
     .cases h
    .cases h
   .cases h
  .rename_i s c;split at h
   .cases h
   .rename_i C;refine⟨.agg ⟨a⟩,.agg ⟨b⟩,by simp[valOf,fS,c],by simp[valOf,fS,c],?_⟩;unfold tU;simp only[c,C,Bool.false_eq_true,if_false];exact I6 (fun t i a b r u v w=>q t i a b r u v w) s.toList 0 i r (by simp) (by simp) h (by simpa using j)
  .cases h
def N8 (op:BinOp) (r:Bool):Option Value:=match op with
 |.eql=>some (.bool r)
 |.neq=>some (.bool !r)
 |_=>none
def A1 (op:BinOp) (a b:Value):Option Value:=match a,b with
 |.int k m,.int c n=>if k=c then P2 op k m n else Fk op k m n
 |_,_=>none
def Xb (op:BinOp) (a b:Value):Option Value:=match a,b with
 |.string m,.string n=>ku op m n
 |_,_=>none
def T1 (op:BinOp) (a b:Value):Option Value:=match a,b with
 |.bool m,.bool n=>N8 op (m==n)
 |_,_=>none
def P6 (op:BinOp) (a b:Value):Option Value:=match a,b with
 |.pointer none,.pointer b=>N8 op b.isNone
 |.pointer (some _),.pointer none=>N8 op false
 |_,_=>none
def P5 (op:BinOp) (a b:Value):Option Value:=match a,b with
 |.slice none _ _,.slice b _ _=>N8 op b.isNone
 |.slice (some _) _ _,.slice none _ _=>N8 op false
 |_,_=>none
def Tb (op:BinOp) (a b:Value):Option Value:=match a,b with
 |.nilFunc,.nilFunc=>N8 op true
 |.nilFunc,.func _ _ _=>N8 op false
 |.func _ _ _,.nilFunc=>N8 op false
 |_,_=>none
def Uj (c:Bool) (op:BinOp) (a b:Value):Option Value:=match a,b with
 |.nilIface,.nilIface=>if c then N8 op true else none
 |.nilIface,.iface _ _=>N8 op false
 |.iface _ _,.nilIface=>N8 op false
 |_,_=>none
def Mx (c:List Nat) (op:BinOp) (a b:Value):Option Value:=match a,b with
 |.agg d,.agg e=>(lE c d.toList e.toList).bind (N8 op)
 |_,_=>none
def Dg (P:Program) (t:TypeId):Option (List Nat):=match flatK P 10000 t with
 |some a=>if a.length=P.cellsOf t/\fS P t=some true/\P.eqGuardType P.depth t=false then some a else none
 |none=>none
def N2 (P:Program) (op:BinOp) (t:TypeId) (x y:Operand) (a b:Value) (q:Value->Prop) (bB:Option Value->(Value->Prop)->Prop):Prop:=
 match P.underlying t with
 |some (.int _)=>bB (A1 op a b) q
 |some .string=>bB (Xb op a b) q
 |some .bool=>bB (T1 op a b) q
 |some (.pointer _)=>bB (P6 op a b) q
 |some (.slice _)=>bB (P5 op a b) q
 |some (.func _ _ _)=>bB (Tb op a b) q
 |some (.interface _)=>bB (Uj (isConst x||isConst y) op a b) q
 |some (.struct _)=>(match Dg P t with
  |some c=>bB (Mx c op a b) q
  |none=>False)
 |some (.array _ _)=>(match Dg P t with
  |some c=>bB (Mx c op a b) q
  |none=>False)
 |_=>False
theorem gQ {op:BinOp} {t:TypeId} {x y:Operand} {a b v:Value} {r:Bool} (e:∀k m d n,¬(a= .int k m/\b= .int d n)) (i:∀m n,¬(a= .string m/\b= .string n)) (c:N8 op r=some v) (f:Cp P t x y a b=true) (g:tU P 10000 t a b=some r):
  Lv P op t x y a b=some v:=by
 unfold Lv
 split
 .grind
 .grind
 .unfold N8 at c;grind
theorem iA {t:TypeId} {a b:Value} {r:Bool} (h:tU P (9999+1) t a b=some r):tU P 10000 t a b=some r:=h
theorem Oz {op:BinOp} {t:TypeId} {x y:Operand} {a b:Value} {q:Value->Prop} (g:N2 P op t x y a b q fun o p=>∃v,o=some v/\p v):∃v,Lv P op t x y a b=some v/\q v:=by
 unfold N2 at g;split at g;obtain⟨v,c,d⟩:=g;refine⟨v,?_,d⟩;unfold A1 at c;split at c;simp only[Lv];exact c;cases c;obtain⟨v,c,d⟩:=g;refine⟨v,?_,d⟩;unfold Xb at c;split at c;simp only[Lv];exact c;cases c;rename_i e;obtain⟨v,c,d⟩:=g;refine⟨v,?_,d⟩;unfold T1 at c;split at c;exact gQ (fun _ _ _ _ h=>by cases h.1) (fun _ _ h=>by cases h.1) c rfl (iA (by unfold tU;simp[e]));cases c;rename_i e;obtain⟨v,c,d⟩:=g;refine⟨v,?_,d⟩;unfold P6 at c;split at c;exact gQ (fun _ _ _ _ h=>by cases h.1) (fun _ _ h=>by cases h.1) c rfl (iA (by unfold tU;simp[e]));exact gQ (fun _ _ _ _ h=>by cases h.1) (fun _ _ h=>by cases h.1) c rfl (iA (by unfold tU;simp[e]));cases c;rename_i e;obtain⟨v,c,d⟩:=g;refine⟨v,?_,d⟩;unfold P5 at c;split at c;exact gQ (fun _ _ _ _ h=>by cases h.1) (fun _ _ h=>by cases h.1) c rfl (iA (by unfold tU;simp[e]));exact gQ (fun _ _ _ _ h=>by cases h.1) (fun _ _ h=>by cases h.1) c rfl (iA (by unfold tU;simp[e]));cases c;rename_i e;obtain⟨v,c,d⟩:=g;refine⟨v,?_,d⟩;unfold Tb at c;split at c;exact gQ (fun _ _ _ _ h=>by cases h.1) (fun _ _ h=>by cases h.1) c rfl (iA (by unfold tU;simp[e]));exact gQ (fun _ _ _ _ h=>by cases h.1) (fun _ _ h=>by cases h.1) c rfl (iA (by unfold tU;simp[e]));exact gQ (fun _ _ _ _ h=>by cases h.1) (fun _ _ h=>by cases h.1) c rfl (iA (by unfold tU;simp[e]));cases c;rename_i e;obtain⟨v,c,d⟩:=g;refine⟨v,?_,d⟩;unfold Uj at c;split at c;split at c;rename_i i;exact gQ (fun _ _ _ _ h=>by cases h.1) (fun _ _ h=>by cases h.1) c (by simpa [Cp] using i) (iA (by unfold tU;simp[e]));cases c;exact gQ (fun _ _ _ _ h=>by cases h.1) (fun _ _ h=>by cases h.1) c rfl (iA (by unfold tU;simp[e]));exact gQ (fun _ _ _ _ h=>by cases h.1) (fun _ _ h=>by cases h.1) c rfl (iA (by unfold tU;simp[e]));cases c;all_goals
  first
   |cases g
   |split at g
    .rename_i G f;obtain⟨v,c,d⟩:=g;refine⟨v,?_,d⟩;unfold Mx at c;split at c
     .rename_i D F;simp only[Option.bind_eq_some_iff] at c;obtain⟨r,z,u⟩:=c;unfold Dg at f;split at f
      .rename_i A m;split at f
       .rename_i i;cases f;obtain⟨C,E,j,l,w⟩:=qn 10000 t _ _ _ _ m i.1 z;simp only[valOf,i.2.1,Option.some.injEq] at j l;have n:C= .agg D:=j.symm;have s:E= .agg F:=l.symm;subst n;subst s;exact gQ (fun _ _ _ _ h=>by cases h.1) (fun _ _ h=>by cases h.1) u (by simp[Cp,i.2.2]) w
       .cases f
      .cases f
     .cases c
    .cases g
end
end Go.Ab
end
section
namespace Go.Ab
noncomputable section
variable {P:Program} {K:FuncId->List Value->Option fC}
def Ok (P:Program) (K:FuncId->List Value->Option fC) (t:Task) (h:AH) (Q:Out->AH->Prop):Prop:=∃n r,run P K n t h=some r/\Q r.1 r.2
def bB {α:Type} (o:Option α) (p:α->Prop):Prop:=∃v,o=some v/\p v
def Br (v:Value) (p q:Prop):Prop:=∃b,v= .bool b/\(b=true->p)/\(b=false->q)
theorem Ok.mono {t:Task} {h:AH} {Q a:Out->AH->Prop} (k:Ok P K t h Q) (e:∀o b,Q o b->a o b):Ok P K t h a:=
 let⟨n,r,c,d⟩:=k;⟨n,r,c,e _ _ d⟩
theorem Ok.of {t:Task} {h:AH} {Q:Out->AH->Prop} {n:Nat} {o:Out} {h':AH} (b:run P K n t h=some (o,h')) (a:Q o h'):Ok P K t h Q:=⟨n,(o,h'),b,a⟩
@[simp] theorem yr {α:Type} {v:α} {p:α->Prop}:bB (some v) p↔p v:=⟨fun⟨_,h,k⟩=>by cases h;exact k,fun k=>⟨v,rfl,k⟩⟩
@[simp] theorem zi {α:Type} {p:α->Prop}:bB none p↔False:=⟨fun⟨_,h,_⟩=>(nomatch h),False.elim⟩
@[congr] theorem xz {α:Type} {o o':Option α} {p:α->Prop} (h:o=o'):bB o p↔bB o' p:=by rw[h]
theorem bB.mono {α:Type} {o:Option α} {p c:α->Prop} (h:bB o p) (k:∀v,p v->c v):bB o c:=let⟨v,a,b⟩:=h;⟨v,a,k v b⟩
@[simp] theorem oq {p q:Prop}:Br (.bool true) p q↔p:=⟨fun⟨b,h,k,_⟩=>by cases h;exact k rfl,fun k=>⟨true,rfl,fun _=>k,by simp⟩⟩
@[simp] theorem Yw {p q:Prop}:Br (.bool false) p q↔q:=⟨fun⟨b,h,_,k⟩=>by cases h;exact k rfl,fun k=>⟨false,rfl,by simp,fun _=>k⟩⟩
theorem Nd {b:Bool} {p q:Prop} (a:b=true->p) (c:b=false->q):Br (.bool b) p q:=⟨b,rfl,a,c⟩
@[congr] theorem zc {v v':Value} {p q:Prop} (h:v=v'):Br v p q↔Br v' p q:=by rw[h]
def tE (c a b:Value):Option Value:=match c with
 |.bool t=>some (if t then a else b)
 |_=>none
def ld1 (h:AH) (p:Value):Option Value:=match p with
 |.pointer (some a)=>if a.spot.isSome then none else
  (match h.get a.block with
  |some (.cells c _ _ _)=>c[a.off]?
  |_=>none)
 |_=>none
def A5 (h:AH) (n:Nat) (p:Value):Option Value:=match p with
 |.pointer (some a)=>(bM h a n).map fun l=> .agg ⟨l⟩
 |_=>none
def zP (p:Value):Option Value:=match p with
 |.pointer (some a)=>some (.pointer (some a))
 |.func (.func f) a b=>some (.func (.func f) a b)
 |.func (.yield f) a b=>some (.func (.yield f) a b)
 |_=>none
def W6 (op:UnOp) (x:Value):Option Value:=match op,x with
 |.neg,.int k n=>some (.int k (k.wrap (0 - n)))
 |.not,.bool b=>some (.bool !b)
 |_,_=>none
def lZ (k:IntKind) (x:Value):Option Value:=match x with
 |.int _ n=>some (.int k (k.wrap n))
 |_=>none
def rG (x:Value):Option Value:=match x with
 |.string z=>some (.string z)
 |_=>none
def qS (n:Nat) (p:Value):Option Value:=match p with
 |.pointer (some a)=>some (.pointer (some (a.add n)))
 |_=>none
def pT (a:Nat) (x:Value):Option Value:=match x with
 |.agg b=>b.toList[a]?
 |_=>none
def nL (a n:Nat) (x:Value):Option Value:=match x with
 |.agg b=>if a+n<=b.toList.length then some (.agg ⟨(b.toList.drop a).take n⟩) else none
 |_=>none
def tQ (n b:Nat) (x i:Value):Option Value:=match x,i with
 |.pointer (some a),.int _ i=>if 0<=i/\i<n then some (.pointer (some (a.add (i.toNat*b)))) else none
 |_,_=>none
def kQ (b:Nat) (x i:Value):Option Value:=match x,i with
 |.slice (some a) n _,.int _ i=>if 0<=i/\i<n/\a.spot=none then some (.pointer (some (a.add (i.toNat*b)))) else none
 |_,_=>none
def Rp (n b:Nat) (x i:Value):Option Value:=match x,i with
 |.agg a,.int _ i=>if 0<=i/\i<n then a.toList[i.toNat*b]? else none
 |_,_=>none
def Vn (n a:Nat) (x i:Value):Option Value:=match x,i with
 |.agg b,.int _ i=>if 0<=i/\i<n/\i.toNat*a+a<=b.toList.length then some (.agg ⟨(b.toList.drop (i.toNat*a)).take a⟩) else none
 |_,_=>none
def Uz (x i:Value):Option Value:=match x,i with
 |.string s,.int _ i=>if 0<=i then(s[i.toNat]?).map fun b=> .int .u8 b.toNat else none
 |_,_=>none
def Bo (i:Nat) (t:Value):Option Value:=match t with
 |.tuple a=>a.toList[i]?
 |_=>none
def I7 (h:AH) (n:Nat) (p v:Value):Option AH:=match p with
 |.pointer (some a)=>(match fI v with
  |some b=>if b.length=n then cB h a b else none
  |none=>none)
 |_=>none
def iZ (e:TypeId) (v:Value):Option jD:=(fI v).map fun l=> .cells l e (0,0) true
def Ed (bytes:Nat) (l c:Value):Option (Nat×Nat):=match l,c with
 |.int _ l,.int _ c=>if 0<=l/\l<=c/\c<=2^40/\bytes*c<=2^47 then some (l.toNat,c.toNat) else none
 |_,_=>none
def oL (cells:List Value):List (Nat×Nat×Value)->Option (List Value)
 |[]=>some cells
 |(a,size,v)::rest=>match fI v with
  |some b=>if b.length=size/\a+b.length<=cells.length then oL (bJ cells a b) rest else none
  |none=>none
def sZ (place:Nat->Option (Nat×Nat)) (b:Operand->Value):List (Nat×Operand)->Option (List (Nat×Nat×Value))
 |[]=>some []
 |(i,x)::rest=>match place i,sZ place b rest with
  |some (a,size),some l=>some ((a,size,b x)::l)
  |_,_=>none
theorem Ak {place:Nat->Option (Nat×Nat)} {b:Operand->Value}:∀{a:List (Nat×Operand)} {l:List (Nat×Nat×Value)} {cells:List Value},sZ place b a=some l->Aq place cells (a.map fun p=>(p.1,b p.2))=oL cells l
 |[],l,cells,h=>by simp only[sZ,Option.some.injEq] at h;subst h;rfl
 |(i,x)::rest,l,cells,h=>by
  simp only[sZ] at h;split at h;rename_i e size f c d;cases h;simp only[List.map_cons,Aq,oL,c];cases hc:fI (b x) with
  |none=>rfl
  |some g=>
   simp only;split;exact Ak d;rfl
  cases h
def V5 (g:Nat) (h:AH) (x:Value) (f e d:Option Value):Option Value:=match x with
 |.slice none len b=>
  match wK d b b with
  |some m=>match(if e.isNone&&d.isSome then none else wK e len m) with
   |some c=>match wK f 0 c with
    |some l=>some (.slice none (c - l) (m - l))
    |none=>none
   |none=>none
  |none=>none
 |.slice (some a) len b=>
  match wK d b b with
  |some m=>match(if e.isNone&&d.isSome then none else wK e len m) with
   |some c=>match wK f 0 c with
    |some l=>
     if a.spot.isSome then(if len=0/\b=0 then some (if d.isSome then sC else tu) else none) else
     if c<=m then
      (if m=l then
       if d.isSome then some sC else
       match vO h a.block with
       |some true=>some sC
       |some false=>some (F2 (a.add (l*g)))
       |none=>none
      else some (.slice (some (a.add (l*g))) (c - l) (m - l)))
     else none
    |none=>none
   |none=>none
  |none=>none
 |_=>none
def Vo (n f:Nat) (x:Value) (e c d:Option Value):Option Value:=match x with
 |.pointer (some a)=>
  match wK d n n with
  |some m=>match(if c.isNone&&d.isSome then none else wK c n m) with
   |some b=>match wK e 0 b with
    |some l=>if a.spot=none then some (.slice (some (if m=l then a else a.add (l*f))) (b - l) (m - l)) else none
    |none=>none
   |none=>none
  |none=>none
 |_=>none
def W0 (x:Value) (c b:Option Value):Option Value:=match x with
 |.string s=>
  match wK b s.size s.size with
  |some a=>match wK c 0 a with
   |some l=>some (.string (s.extract l a))
   |none=>none
  |none=>none
 |_=>none
def C9 (P:Program) (K:FuncId->List Value->Option fC) (f:Value) (args:List Value) (h:AH) (Q:Value->AH->Prop):Prop:=match f with
 |.func (.func g) first a=>eU P g=true/\Ok P K (.call g (first.toList++args++a.toList)) h fun o b=>Q o.v b
 |.func (.yield l) first _=>Ok P K (.round l (first.toList++args)) h fun o b=>Q o.v b
 |_=>False
def xm (z:Value) (h:AH) (x ix:Value) (ok:Bool):Option Value:=match Uq h x,ix with
 |some a,.int k n=>match qL k n a 0 with
  |some (some (_,v))=>some (if ok then .tuple ⟨[v,.bool true]⟩ else v)
  |some none=>some (if ok then .tuple ⟨[z,.bool false]⟩ else z)
  |none=>none
 |_,_=>none
def fU (P:Program) (g:Operand->Value) (h:AH) (q:Value->Prop):Op->Prop
 |.move x=>q (g x)
 |.assign x=>q (g x)
 |.pick c a b=>bB (tE (g c) (g a) (g b)) q
 |.build t m=>match zeroOf P t with
  |some z=>(match P.underlying t with
   |some (.struct p)=>if p.all (fun f=>(P.info? f.type).isSome) then(match sZ (fun i=>(p[i]?).map fun f=>(f.offset,P.cellsOf f.type)) g m.toList with
    |some l=>bB (oL z l) fun c=>q (.agg ⟨c⟩)
    |none=>False) else False
   |some (.array _ e)=>if(P.info? e).isSome then(match sZ (fun i=>some (i*P.cellsOf e,P.cellsOf e)) g m.toList with
    |some l=>bB (oL z l) fun c=>q (.agg ⟨c⟩)
    |none=>False) else False
   |_=>False)
  |none=>False
 |.load t a=>match fS P t with
  |some true=>bB (A5 h (P.cellsOf t) (g a)) q
  |some false=>bB (ld1 h (g a)) q
  |none=>False
 |.nilCheck x=>bB (zP (g x)) q
 |.binOp op t x y _=>N2 P op t x y (g x) (g y) q bB
 |.unOp op _ x=>bB (W6 op (g x)) q
 |.convert s d x=>match P.underlying s with
  |some .string=>(match P.underlying d with
   |some (.int k)=>bB (lZ k (g x)) q
   |some .string=>bB (rG (g x)) q
   |_=>False)
  |some (.slice e)=>(match P.underlying d with
   |some .string=>(match P.underlying e with
    |some (.int .u8)=>bB (strOf h (g x)) q
    |_=>False)
   |_=>False)
  |some _=>(match P.underlying d with
   |some (.int k)=>bB (lZ k (g x)) q
   |_=>False)
  |none=>False
 |.makeInterface t x=>match P.underlying t with
  |some (.interface _)=>False
  |some _=>q (.iface t (g x))
  |none=>False
 |.makeFunc fn first j=>match fn with
  |.func f=>q (.func (.func f) (first.map g) (j.map g))
  |_=>False
 |.slice t x u r v=>match P.underlying t with
  |some (.slice e)=>if(P.info? e).isSome then bB (V5 (P.cellsOf e) h (g x) (u.map g) (r.map g) (v.map g)) q else False
  |some (.array n e)=>if(P.info? e).isSome then bB (Vo n (P.cellsOf e) (g x) (u.map g) (r.map g) (v.map g)) q else False
  |some .string=>(match v with
   |none=>bB (W0 (g x) (u.map g) (r.map g)) q
   |some _=>False)
  |_=>False
 |.fieldAddr s x f=>match P.underlying s with
  |some (.struct p)=>(match p[f]? with
   |some fd=>if P.cellsOf fd.type=0 then False else bB (qS fd.offset (g x)) q
   |none=>False)
  |_=>False
 |.field t x f=>match P.underlying t with
  |some (.struct p)=>(match p[f]? with
   |some fd=>(match fS P fd.type with
    |some true=>bB (nL fd.offset (P.cellsOf fd.type) (g x)) q
    |some false=>bB (pT fd.offset (g x)) q
    |none=>False)
   |none=>False)
  |_=>False
 |.indexAddr t x i=>match P.underlying t with
  |some (.array n e)=>if(P.info? e).isSome then bB (tQ n (P.cellsOf e) (g x) (g i)) q else False
  |some (.slice e)=>if(P.info? e).isSome then bB (kQ (P.cellsOf e) (g x) (g i)) q else False
  |_=>False
 |.index t x i=>match P.underlying t with
  |some (.array n e)=>if(P.info? e).isSome then(match fS P e with
   |some true=>bB (Vn n (P.cellsOf e) (g x) (g i)) q
   |some false=>bB (Rp n (P.cellsOf e) (g x) (g i)) q
   |none=>False) else False
  |some .string=>bB (Uz (g x) (g i)) q
  |_=>False
 |.extract t i=>bB (Bo i (g t)) q
 |.lookup t x ix ok=>match Ba P t with
  |some e=>(match zeroV P e with
   |some z=>bB (xm z h (g x) (g ix) ok) q
   |none=>False)
  |none=>False
 |_=>False
theorem wY {H:Operand->Value} {h:AH} {q:Value->Prop} {op:Op} (b:fU P H h q op):kindOf op= .tH/\∃v,aX P H h op=some v/\q v:=by
 unfold fU at b;split at b;exact⟨rfl,_,rfl,b⟩;exact⟨rfl,_,rfl,b⟩;obtain⟨v,a,f⟩:=b;exact⟨rfl,v,a,f⟩;refine⟨rfl,?_⟩;split at b;rename_i z G;split at b;rename_i I s;split at b;rename_i p;split at b;rename_i l F;obtain⟨c,a,f⟩:=b;refine⟨_,?_,f⟩;simp only[aX,B1,G,s,p,if_true];rw[Ak F,a];rfl;cases b;cases b;rename_i e s;split at b;rename_i p;split at b;rename_i l F;obtain⟨c,a,f⟩:=b;refine⟨_,?_,f⟩;simp only[aX,B1,G,s,p,if_true];rw[Ak F,a];rfl;cases b;cases b;cases b;cases b;refine⟨rfl,?_⟩;split at b;rename_i n;obtain⟨v,a,f⟩:=b;refine⟨v,?_,f⟩;unfold A5 at a;simp only[aX];split at a;rename_i g;rw[g];simp only[nH,n];exact a;cases a;rename_i n;obtain⟨v,a,f⟩:=b;refine⟨v,?_,f⟩;unfold ld1 at a;simp only[aX];split at a;rename_i g;rw[g];simp only[nH,n];exact a;cases a;cases b;obtain⟨v,a,f⟩:=b;exact⟨rfl,v,a,f⟩;obtain⟨v,a,f⟩:=Oz b;exact⟨rfl,v,a,f⟩;obtain⟨v,a,f⟩:=b;exact⟨rfl,v,a,f⟩;refine⟨rfl,?_⟩;split at b;rename_i i;split at b;rename_i u;obtain⟨v,a,f⟩:=b;refine⟨v,?_,f⟩;unfold lZ at a;split at a;rename_i g;simp only[aX,i,u,g];exact a;cases a;rename_i u;obtain⟨v,a,f⟩:=b;refine⟨v,?_,f⟩;unfold rG at a;split at a;rename_i g;simp only[aX,i,u,g];exact a;cases a;cases b;rename_i i;split at b;rename_i u;split at b;rename_i g;obtain⟨v,a,f⟩:=b;refine⟨v,?_,f⟩;simp only[aX,i,u,g];exact a;cases b;cases b;rename_i i;split at b;rename_i u;obtain⟨v,a,f⟩:=b;refine⟨v,?_,f⟩;unfold lZ at a;split at a;rename_i g;simp only[aX,i,u,g];exact a;cases a;cases b;cases b;refine⟨rfl,?_⟩;split at b;cases b;rename_i t x d J i;refine⟨_,?_,b⟩;simp only[aX];grind;cases b;split at b;exact⟨rfl,_,rfl,b⟩;cases b;refine⟨rfl,?_⟩;split at b;rename_i s;split at b;rename_i A;obtain⟨v,a,f⟩:=b;refine⟨v,?_,f⟩;unfold V5 at a;split at a;rename_i w;simp only[aX,w,oN,s,A,if_true];exact a;rename_i w;simp only[aX,w,oN,s,A,true_and];exact a;cases a;cases b;rename_i s;split at b;rename_i A;obtain⟨v,a,f⟩:=b;refine⟨v,?_,f⟩;unfold Vo at a;split at a;rename_i w;simp only[aX,w,oN,s,A,true_and];exact a;cases a;cases b;rename_i s;split at b;obtain⟨v,a,f⟩:=b;refine⟨v,?_,f⟩;unfold W0 at a;split at a;rename_i w;simp only[aX,w,oN,s,Option.map_none,Option.isSome_none,Bool.false_eq_true,if_false];exact a;cases a;cases b;cases b;refine⟨rfl,?_⟩;split at b;rename_i i;split at b;rename_i y;split at b;cases b;rename_i r;obtain⟨v,a,f⟩:=b;refine⟨v,?_,f⟩;unfold qS at a;split at a;rename_i g;simp only[aX,i,g,y,r,if_false];exact a;cases a;cases b;cases b;refine⟨rfl,?_⟩;split at b;rename_i i;split at b;rename_i y;split at b;rename_i n;obtain⟨v,a,f⟩:=b;refine⟨v,?_,f⟩;unfold nL at a;split at a;rename_i g;simp only[aX,i,g,y,apart,n];exact a;cases a;rename_i n;obtain⟨v,a,f⟩:=b;refine⟨v,?_,f⟩;unfold pT at a;split at a;rename_i g;simp only[aX,i,g,y,apart,n];exact a;cases a;cases b;cases b;cases b;refine⟨rfl,?_⟩;split at b;rename_i i;split at b;rename_i j;obtain⟨v,a,f⟩:=b;refine⟨v,?_,f⟩;unfold tQ at a;split at a;rename_i g m;split at a;rename_i r;simp only[aX,i,g,m,r,j,and_self,if_true];exact a;cases a;cases a;cases b;rename_i i;split at b;rename_i j;obtain⟨v,a,f⟩:=b;refine⟨v,?_,f⟩;unfold kQ at a;split at a;rename_i g m;split at a;rename_i r;simp only[aX,i,g,m,r,j,and_self,if_true];exact a;cases a;cases a;cases b;cases b;refine⟨rfl,?_⟩;split at b;rename_i i;split at b;rename_i j;split at b;rename_i n;obtain⟨v,a,f⟩:=b;refine⟨v,?_,f⟩;unfold Vn at a;split at a;rename_i g m;split at a;rename_i r;have C:=r.1;have D:=r.2.1;have E:=r.2.2;simp only[aX,i,g,m,C,D,j,and_self,if_true,apart,n,E];exact a;cases a;cases a;rename_i n;obtain⟨v,a,f⟩:=b;refine⟨v,?_,f⟩;unfold Rp at a;split at a;rename_i g m;split at a;rename_i r;simp only[aX,i,g,m,r,j,and_self,if_true,apart,n];exact a;cases a;cases a;cases b;cases b;rename_i i;obtain⟨v,a,f⟩:=b;refine⟨v,?_,f⟩;unfold Uz at a;split at a;rename_i g m;simp only[aX,i,g,m];exact a;cases a;cases b;obtain⟨v,a,f⟩:=b;exact⟨rfl,v,a,f⟩;refine⟨rfl,?_⟩;split at b;rename_i e g;split at b;rename_i z G;obtain⟨v,a,f⟩:=b;refine⟨v,?_,f⟩;unfold xm at a;simp only[aX,pM,g];grind;cases b;cases b;cases b
end
end Go.Ab
end
section
namespace Go.Ab
noncomputable section
variable {P:Program} {K:FuncId->List Value->Option fC}
def yV (x:Value):Option Value:=match x with
 |.string s=>some (.int .i64 s.size)
 |_=>none
def mH (x:Value):Option Value:=match x with
 |.slice _ n _=>some (.int .i64 n)
 |_=>none
def pb (h:AH) (x:Value):Option Value:=(Uq h x).map fun a=> .int .i64 a.length
def Ay (x y:Value):Option Value:=match x,y with
 |.int k x,.int _ y=>some (.int k (if y<x then y else x))
 |_,_=>none
def yZ (x y:Value):Option Value:=match x,y with
 |.int k x,.int _ y=>some (.int k (if y>x then y else x))
 |_,_=>none
def iB (i bytes:Nat) (e:TypeId) (h:AH) (s x:Value):Option (Value×AH):=
 match s,tD x with
 |.slice f b d,some n=>
  match eR h i n x with
  |some new=>
   if !new.all dR||new.length !=n*i then none else
   if b+n<=d then
    match f with
    |none=>if n=0 then some (s,h) else none
    |some a=>if n=0 then some (s,h) else if a.spot.isSome then none else
     (cB h (a.add (b*i)) new).map fun m=>(.slice f (b+n) d,m)
   else if(b+n)*(bytes+1)<=2^46 then
    match f with
    |none=>if b=0 then some (.slice (some ⟨h.next,0,none⟩) n n,h.alloc (.cells new e (0,0) false)) else none
    |some a=>
     if a.spot=some 1 then(if b=0 then some (.slice (some ⟨h.next,0,none⟩) n n,h.alloc (.cells new e (0,0) false)) else none) else
     if a.spot=some 2 then
      (match h.get a.block with
      |some (.cells c j l _)=>
       if j=e/\h.base<=a.block/\l=(0,0)/\a.off<=c.length/\b=0/\d=0 then
        some (.slice (some ⟨h.next,0,none⟩) n n,(h.set a.block none).alloc (.cells new e (0,0) false))
       else none
      |_=>none) else
     match bM h a (b*i),h.get a.block with
     |some g,some (.cells c j l x)=>
      if !g.all dR then none else
      if x then some (.slice (some ⟨h.next,0,none⟩) (b+n) (b+n),h.alloc (.cells (g++new) e (0,0) false))
      else if j=e/\h.base<=a.block/\l=(0,0)/\a.off+d*i<=c.length then
       some (.slice (some ⟨h.next,0,none⟩) (b+n) (b+n),(h.set a.block none).alloc (.cells (g++new) e (0,0) false))
      else none
     |_,_=>none
   else none
  |_=>none
 |_,_=>none
def copyV (f:Nat) (h:AH) (d x:Value):Option (Value×AH):=
 match d,tD x with
 |.slice c b _,some m=>
   match eR h f (Nat.min m b) x with
   |some new=>match c with
    |none=>some (.int .i64 (Nat.min m b:Nat),h)
    |some a=>if Nat.min m b=0 then some (.int .i64 0,h) else(cB h a new).map fun e=>(.int .i64 (Nat.min m b:Nat),e)
   |none=>none
 |_,_=>none
def kV (z:List Value) (h:AH) (x:Value):Option (Value×AH):=
 match x with
 |.slice none _ _=>some (.tuple #[],h)
 |.slice (some a) n _=>
   if n=0 then some (.tuple #[],h) else(cB h a (dS z n)).map fun b=>(.tuple #[],b)
 |_=>none
def Tu (h:AH) (m b v:Value):Option AH:=match m,b with
 |.map (some r),.int k n=>if r<h.base then none else match h.get r with
  |some (.map c a)=>(u0 k n v c a).map fun o=>h.set r (some o)
  |_=>none
 |_,_=>none
def T2 (h:AH) (m c:Value):Option AH:=match m,c with
 |.map (some r),.int k n=>if r<h.base then none else match h.get r with
  |some (.map b a)=>match qL k n b 0 with
   |some (some (i,_))=>some (h.set r (some (.map (b.eraseIdx i) a)))
   |some none=>some (h.set r (some (.map b a)))
   |none=>none
  |_=>none
 |_,_=>none
theorem du {h:AH} {t e:TypeId} {m a v:Value} {h':AH} (c:Ba P t=some e) (b:Tu h m a v=some h'):wJ P h t m a v=some h':=by
 unfold Tu at b;split at b;simp only[wJ,c];exact b;cases b
theorem di {h:AH} {t e:TypeId} {m a:Value} {h':AH} (c:Ba P t=some e) (b:T2 h m a=some h'):Ai P h t m a=some h':=by
 unfold T2 at b;split at b;simp only[Ai,c];exact b;cases b
def xh (x:Value):Option Value:=match x with
 |.slice none _ c=>some (.int .i64 c)
 |_=>none
def rA (P:Program) (h:AH) (q:Value->AH->Prop) (a:Array TypeId):Builtin->List Value->Prop
 |.len,[x]=>match(a[0]?).bind P.underlying with
  |some .string=>bB (yV x) fun v=>q v h
  |some (.slice _)=>bB (mH x) fun v=>q v h
  |some (.array n _)=>q (.int .i64 n) h
  |some (.pointer e)=>(match P.underlying e with
   |some (.array n _)=>q (.int .i64 n) h
   |_=>False)
  |some (.map _ _)=>bB (pb h x) fun v=>q v h
  |_=>False
 |.append,[s,x]=>match(a[0]?).bind P.underlying with
  |some (.slice e)=>if Dk P a/\(zeroOf P e).isSome then bB (iB (P.cellsOf e) (P.bytesOf e) e h s x) fun r=>q r.1 r.2 else False
  |_=>False
 |.copy,[d,x]=>match(a[0]?).bind P.underlying with
  |some (.slice e)=>if(P.info? e).isSome then bB (copyV (P.cellsOf e) h d x) fun r=>q r.1 r.2 else False
  |_=>False
 |.clear,[x]=>match(a[0]?).bind P.underlying with
  |some (.slice e)=>(match zeroOf P e with
   |some z=>bB (kV z h x) fun r=>q r.1 r.2
   |none=>False)
  |_=>False
 |.min,[x,y]=>bB (Ay x y) fun v=>q v h
 |.max,[x,y]=>bB (yZ x y) fun v=>q v h
 |.delete,[m,k]=>(match a[0]? with
  |some t=>(match Ba P t with
   |some _=>bB (T2 h m k) fun b=>q (.tuple #[]) b
   |none=>False)
  |none=>False)
 |.cap,[x]=>match(a[0]?).bind P.underlying with
  |some (.slice _)=>bB (xh x) fun v=>q v h
  |_=>False
 |_,_=>False
theorem tL {h:AH} {q:Value->AH->Prop} {at_:Array TypeId} {b:Builtin} {args:List Value} (c:rA P h q at_ b args):∃v g,cK P h b at_ args=some (v,g)/\q v g:=by
 unfold rA at c;split at c;split at c;rename_i d;obtain⟨v,a,f⟩:=c;refine⟨v,h,?_,f⟩;unfold yV at a;split at a;simp only[cK,d];cases a;rfl;cases a;rename_i d;obtain⟨v,a,f⟩:=c;refine⟨v,h,?_,f⟩;unfold mH at a;split at a;simp only[cK,d];cases a;rfl;cases a;rename_i d;refine⟨_,h,?_,c⟩;simp only[cK,d];rename_i d;split at c;rename_i l;refine⟨_,h,?_,c⟩;simp only[cK,d,l];cases c;rename_i d;obtain⟨v,a,f⟩:=c;refine⟨v,h,?_,f⟩;unfold pb at a;cases hm:Uq h _ with
 |none=>rw[hm] at a;cases a
 |some s=>rw[hm] at a;cases a;simp only[cK,d,hm];rfl
 cases c;split at c;rename_i e d;split at c;rename_i i;obtain⟨⟨v,g⟩,a,f⟩:=c;refine⟨v,g,?_,f⟩;obtain⟨z,m⟩:=Option.isSome_iff_exists.1 i.2;unfold iB at a;split at a;rename_i j;simp only[cK,Dv,d,j,i.1,m,Bool.not_true,Bool.false_eq_true,if_false];split at a;rename_i r;rw[r];exact a;cases a;cases a;cases c;cases c;split at c;rename_i e d;split at c;rename_i i;obtain⟨⟨v,g⟩,a,f⟩:=c;refine⟨v,g,?_,f⟩;unfold copyV at a;split at a;rename_i j;have p:(P.info? e).isNone=false:=by simp_all
 simp only[cK,d,j,p,Bool.false_eq_true,if_false];exact a;cases a;cases c;cases c;split at c;rename_i e d;split at c;rename_i z m;obtain⟨⟨v,g⟩,a,f⟩:=c;refine⟨v,g,?_,f⟩;unfold kV at a;split at a;simp only[cK,d];exact a;simp only[cK,d,m];exact a;cases a;cases c;cases c;obtain⟨v,a,f⟩:=c;refine⟨v,h,?_,f⟩;unfold Ay at a;split at a;simp only[cK];cases a;rfl;cases a;obtain⟨v,a,f⟩:=c;refine⟨v,h,?_,f⟩;unfold yZ at a;split at a;simp only[cK];cases a;rfl;cases a;split at c;rename_i t d;split at c;rename_i e n;obtain⟨g,a,f⟩:=c;exact⟨_,g,by simp only[cK,d,di n a];rfl,f⟩;cases c;cases c;split at c;rename_i d;obtain⟨v,a,f⟩:=c;refine⟨v,h,?_,f⟩;unfold xh at a;split at a;simp only[cK,d];exact congrArg (Option.map fun v=>(v,h)) a;cases a;cases c;cases c
def vQ (P:Program) (K:FuncId->List Value->Option fC) (d:Operand->Value) (h:AH) (q:Value->AH->Prop):Op->Prop
 |.store t a x=>if(P.info? t).isSome then bB (I7 h (P.cellsOf t) (d a) (d x)) fun e=>q undef e else False
 |.call c=>match c.callee with
  |.builtin b=>rA P h q c.argTypes b (c.args.toList.map d)
  |.value (.func g)=>if eU P g then Ok P K (.call g (c.args.toList.map d)) h fun o e=>q o.v e else False
  |.value f=>C9 P K (d f) (c.args.toList.map d) h q
  |.invoke _ _=>False
 |.mapUpdate t m k x=>match Ba P t with
  |some _=>bB (Tu h (d m) (d k) (d x)) fun e=>q undef e
  |none=>False
 |_=>False
theorem W9 {f:Value} {args:List Value} {h:AH} {q:Value->AH->Prop} (b:C9 P K f args h q):
  ∃n v c,(match f with
   |.func (.func g) first a=>if eU P g then(run P K n (.call g (first.toList++args++a.toList)) h).map fun r=>(r.1.v,r.2) else none
   |.func (.yield l) first _=>(run P K n (.round l (first.toList++args)) h).map fun r=>(r.1.v,r.2)
   |_=>none)=some (v,c)/\q v c:=by
 unfold C9 at b
 split at b
 .obtain⟨i,n,r,d,e⟩:=b;grind
 .obtain⟨n,r,d,e⟩:=b;grind
 .cases b
theorem qA {m:Operand->Value} (t:∀g,m (.func g)= .func (.func g) #[] #[]) {h:AH} {q:Value->AH->Prop} {op:Op} (b:vQ P K m h q op):
  (kindOf op= .store\/kindOf op= .call)/\∃n v i,cH P (run P K n) m h op=some (v,i)/\q v i:=by
 unfold vQ at b
 split at b
 .refine⟨.inl rfl,?_⟩;split at b
  .rename_i l;obtain⟨i,d,j⟩:=b;refine⟨0,undef,i,?_,j⟩;unfold I7 at d;split at d
   .rename_i s;split at d
    .rename_i p;split at d
     .rename_i u;simp only[cH,s,E5,p,u,l,and_self,if_true,d];rfl
     .cases d
    .cases d
   .cases d
  .cases b
 .rename_i c;refine⟨.inr rfl,?_⟩;split at b
  .rename_i a;obtain⟨v,i,d,j⟩:=tL b;refine⟨0,v,i,?_,j⟩;simp only[cH,a,d]
  .rename_i a;split at b
   .rename_i p;obtain⟨n,r,d,j⟩:=b;refine⟨n,_,_,?_,j⟩;simp only[cH,a,t,p,if_true];grind
   .cases b
  .rename_i f w a;obtain⟨n,v,i,d,j⟩:=W9 b;refine⟨n,v,i,?_,j⟩;simp only[cH,a];exact d
  .cases b
 .refine⟨.inl rfl,?_⟩;split at b
  .rename_i e s;obtain⟨i,d,j⟩:=b;exact⟨0,undef,i,by simp only[cH,du s d];rfl,j⟩
  .cases b
 .cases b
def Zf (l c i:Nat):Value:= .slice (some ⟨i,0,none⟩) l c
def s7 (i:Nat):Value:= .pointer (some ⟨i,0,none⟩)
def mP (i:Nat):Value:= .map (some i)
def vR (P:Program) (d:Operand->Value) (q:jD->(Nat->Value)->Prop):Op->Prop
 |.alloc e=>match zeroOf P e with
  |some z=>q (.cells z e (0,0) true) s7
  |none=>False
 |.box e x=>bB (iZ e (d x)) fun b=>q b s7
 |.buildSlice t len a=>match P.underlying t with
  |some (.slice e)=>(match zeroOf P e with
   |some z=>if len*P.cellsOf e<=2^24 then(match sZ (fun i=>some (i*P.cellsOf e,P.cellsOf e)) d a.toList with
    |some f=>bB (oL (dS z len) f) fun l=>q (.cells l e (0,0) true) (Zf len len)
    |none=>False) else False
   |none=>False)
  |_=>False
 |.makeSlice t l c=>match P.underlying t with
  |some (.slice e)=>(match zeroOf P e with
   |some z=>bB (Ed (P.bytesOf e) (d l) (d c)) fun n=>q (.cells (dS z n.2) e (0,0) true) (Zf n.1 n.2)
   |none=>False)
  |_=>False
 |.makeMap _t none=>q (.map [] 0) mP
 |.makeMap t (some x)=>match P.underlying t with
  |some (.map _ _)=>∃k n,d x= .int k n/\q (.map [] 0) mP
  |_=>False
 |_=>False
theorem wU {m:Operand->Value} {q:jD->(Nat->Value)->Prop} {op:Op} (a:vR P m q op):kindOf op= .alloc/\∃b f,cI P m op=some (b,f)/\q b f:=by
 unfold vR at a;split at a;refine⟨rfl,?_⟩;split at a;rename_i g;exact⟨_,_,by simp only[cI,g];rfl,a⟩;cases a;refine⟨rfl,?_⟩;obtain⟨b,c,d⟩:=a;refine⟨b,s7,?_,d⟩;unfold iZ at c;simp only[Option.map_eq_some_iff] at c;obtain⟨l,c,rfl⟩:=c;simp only[cI,c];rfl;refine⟨rfl,?_⟩;split at a;rename_i e;split at a;rename_i g;split at a;rename_i i;split at a;rename_i s j;obtain⟨l,c,d⟩:=a;refine⟨_,_,?_,d⟩;simp only[cI,e,g,i,if_true];rw[Ak j,c];rfl;cases a;cases a;cases a;cases a;refine⟨rfl,?_⟩;split at a;rename_i e;split at a;rename_i g;obtain⟨n,c,d⟩:=a;refine⟨_,_,?_,d⟩;unfold Ed at c;split at c;rename_i p r;split at c;rename_i i;cases c;simp only[cI,e,p,r,g,i,and_self,if_true];rfl;cases c;cases c;cases a;cases a;exact⟨rfl,_,_,rfl,a⟩;refine⟨rfl,?_⟩;split at a;rename_i e;obtain⟨k,n,c,d⟩:=a;exact⟨_,_,by simp only[cI,e,c];rfl,d⟩;cases a;cases a
end
end Go.Ab
end
section
namespace Go.Ab
noncomputable section
variable {P:Program} {K:FuncId->List Value->Option fC}
abbrev Hc:=List (Tmp×Option Bool)
def aBl:Option Bool->Value
 |some b=> .bool b
 |none=>undef
def Hc.drop (d:Hc) (t:Option Tmp):Hc:=match t with
 |some t=>d.filter fun x=>x.1 !=t
 |none=>d
def Hc.ok (d:Hc) (env:List Value):Prop:=∀t b,(t,b)∈d->env[t]?=some (aBl b)
def Us (kS:Nat->Option Tmp) (env:List Value) (dec:Hc) (g:Option (Nat×Bool)) (p:Bool->List Value->Hc->Prop):Prop:=
 match g with
 |none=>p true env dec
 |some (j,want)=>match kS j with
  |none=>False
  |some d=>match dec.lookup d with
   |some (some b)=>p (b==want) env dec
   |some none=>p false env dec
   |none=>Br (env.getD d undef) (p (true==want) (env.set d (.bool true)) ((d,some true)::dec)) (p (false==want) (env.set d (.bool false)) ((d,some false)::dec))
def Cd (h:AH) (b:jD) (p:Nat->AH->Prop):Prop:=p h.next (h.alloc b)
def kT (h:AH) (r:Nat) (b:jD) (p:Nat->AH->Prop):Prop:=p r (h.set r (some b))
def qZ (h:AH) (n:Nat) (p:Nat->AH->Prop):Prop:=p h.next {h with next:=h.next+n}
def wpOp (P:Program) (K:FuncId->List Value->Option fC) (env:List Value) (h:AH) (q:Value->AH->Prop) (op:Op):Prop:=
 match kindOf op with
 |.tH=>fU P (bT P env) h (fun v=>q v h) op
 |.alloc=>vR P (bT P env) (fun b f=>Cd h b fun i a=>q (f i) a) op
 |.store|.call=>vQ P K (bT P env) h q op
 |.other=>False
theorem Q7 {env:List Value} {h:AH} {q:Value->AH->Prop} {op:Op} (a:wpOp P K env h q op):∃n v e,iD P (run P K n) env h op=some (v,e)/\q v e:=by
 unfold wpOp at a;cases hk:kindOf op with
 |tH=>
  simp only[hk] at a;obtain⟨_,v,c,d⟩:=wY a;exact⟨0,v,h,by simp only[iD,hk,c];rfl,d⟩
 |alloc=>
  simp only[hk] at a;obtain⟨_,b,f,c,d⟩:=wU a;exact⟨0,_,_,by simp only[iD,hk,c];rfl,d⟩
 |store=>
  simp only[hk] at a;obtain⟨_,n,v,e,c,d⟩:=qA (fun g=>rfl) a;exact⟨n,v,e,by simp only[iD,hk,c],d⟩
 |call=>
  simp only[hk] at a;obtain⟨_,n,v,e,c,d⟩:=qA (fun g=>rfl) a;exact⟨n,v,e,by simp only[iD,hk,c],d⟩
 |other=>simp only[hk] at a
def qy (env:List Value) (d:Option Tmp):Bool:=match d with
 |some d=>decide (d<env.length)
 |none=>true
def X9 (dec:Hc) (op:Op):Option Operand:=match op with
 |.pick (.tmp c) a b=>(match dec.lookup c with
  |some (some true)=>some a
  |some (some false)=>some b
  |_=>none)
 |.move x=>some x
 |.assign x=>some x
 |_=>none
def Zt (dec:Hc) (x:Operand):Option Bool:=match x with
 |.const (.bool y)=>some y
 |.tmp t=>(match dec.lookup t with
  |some (some y)=>some y
  |_=>none)
 |_=>none
def Hc.put (dec:Hc) (dst:Option Tmp) (x:Operand):Hc:=match dst,Zt dec x with
 |some d,some y=>(d,some y)::dec.drop (some d)
 |d,_=>dec.drop d
def Hc.skip (dec:Hc) (env:List Value) (dst:Option Tmp):Hc:=match dst with
 |some d=>if d<env.length then(d,none)::dec.drop (some d) else dec.drop (some d)
 |none=>dec
def wpOps (P:Program) (K:FuncId->List Value->Option fC) (kS:Nat->Option Tmp):List Oper->List Value->AH->Hc->(List Value->AH->Hc->Prop)->Prop
 |[],env,h,dec,q=>q env h dec
 |o::a,env,h,dec,q=>Us kS env dec o.guard fun b env dec=>
  match b with
  |true=>(match X9 dec o.op with
   |some x=>wpOps P K kS a (fP env o.dst (bT P env x)) h (if qy env o.dst then dec.put o.dst x else dec.drop o.dst) q
   |none=>wpOp P K env h (fun v c=>wpOps P K kS a (fP env o.dst v) c (dec.drop o.dst) q) o.op)
  |false=>wpOps P K kS a (fP env o.dst undef) h (dec.skip env o.dst) q
def aAo (P:Program) (h:AH) (q:Value->Prop) (a:Array TypeId):Builtin->List Value->Prop
 |.len,[x]=>match(a[0]?).bind P.underlying with
  |some .string=>bB (yV x) q
  |some (.slice _)=>bB (mH x) q
  |some (.array n _)=>q (.int .i64 n)
  |some (.pointer e)=>(match P.underlying e with
   |some (.array n _)=>q (.int .i64 n)
   |_=>False)
  |some (.map _ _)=>bB (pb h x) q
  |_=>False
 |.min,[x,y]=>bB (Ay x y) q
 |.max,[x,y]=>bB (yZ x y) q
 |_,_=>False
def y5 (P:Program) (a:Operand->Value) (h:AH) (q:Value->Prop):Op->Prop
 |.call c=>match c.callee with
  |.builtin b=>aAo P h q c.argTypes b (c.args.toList.map a)
  |_=>False
 |op=>fU P a h q op
structure DR where
 env:List Value
 h:AH
 v:Value
 ran:Bool
def aA3 (P:Program) (K:FuncId->List Value->Option fC) (r:Nat) (env:List Value) (h:AH) (q:Value->AH->Prop) (op:Op):Prop:=
 match dW op with
 |true=>y5 P (bT P env) h (fun v=>q v h) op
 |false=>match kindOf op with
  |.alloc=>vR P (bT P env) (fun b f=>kT h r b fun i a=>q (f i) a) op
  |_=>vQ P K (bT P env) h q op
def Dw (P:Program) (K:FuncId->List Value->Option fC) (kS:Nat->Option Tmp):Nat->List Oper->List Value->AH->Hc->List DR->(List DR->List Value->AH->Hc->Prop)->Prop
 |_,[],env,h,dec,a,q=>q a env h dec
 |r,o::c,env,h,dec,a,q=>Us kS env dec o.guard fun b env dec=>
  match b with
  |true=>(match X9 dec o.op with
   |some x=>Dw P K kS (r+1) c (fP env o.dst (bT P env x)) h (if qy env o.dst then dec.put o.dst x else dec.drop o.dst) (a++[⟨env,h,bT P env x,true⟩]) q
   |none=>aA3 P K r env h (fun v d=>Dw P K kS (r+1) c (fP env o.dst v) d (dec.drop o.dst) (a++[⟨env,h,v,true⟩]) q) o.op)
  |false=>Dw P K kS (r+1) c (fP env o.dst undef) h (dec.skip env o.dst) (a++[⟨env,h,undef,false⟩]) q
def wg (P:Program) (all:List Oper) (rs:List DR) (hEnd:AH):List (Nat×Nat)->Prop->Prop
 |[],p=>p
 |(i,s)::a,p=>match all[i]? with
  |some o=>(match rs[i]? with
   |some r=>(match r.ran with
    |true=>y5 P (bT P r.env) (match rs[s]? with|some q=>q.h|none=>hEnd) (fun v=>oO v r.v=true) o.op/\wg P all rs hEnd a p
    |false=>wg P all rs hEnd a p)
   |none=>False)
  |none=>False
def vy (P:Program) (K:FuncId->List Value->Option fC) (ops:Array Oper) (env:List Value) (h:AH) (q:List Value->AH->Hc->Prop):Prop:=
 if Bi ops.toList&&(P.follows .mixedOrders|| !Region.departs ops) then
  qZ h ops.size fun r c=>Dw P K (fun j=>(ops[j]?).bind (·.dst)) r ops.toList env c [] [] fun d a b dec=>wg P ops.toList d b (yK ops.toList) (q a b dec)
 else False
end
end Go.Ab
end
section
namespace Go.Ab
noncomputable section
variable {P:Program} {K:FuncId->List Value->Option fC}
section
variable {fn:FuncId} {ro:Option Nat} {ds:List Nat} {env:List Value} {k:List Item} {h:AH} {Q:Out->AH->Prop}
theorem Ae {t t':Task} {h':AH} (c:∀n,run P K (n+1) t h=run P K n t' h') (d:Ok P K t' h' Q):Ok P K t h Q:=by
 obtain⟨n,r,a,b⟩:=d;exact⟨n+1,r,by rw[c];exact a,b⟩
theorem Le {c:Operand} {t e:Code} (g:Br (bT P env c) (Ok P K (.todo fn ro ds env (.code t::k)) h Q) (Ok P K (.todo fn ro ds env (.code e::k)) h Q)):
  Ok P K (.todo fn ro ds env (.code (.cond c t e)::k)) h Q:=by
 obtain⟨b,a,f,d⟩:=g
 cases b with
 |true=>exact Ae (t':= .todo fn ro ds env (.code t::k)) (fun n=>by show cG _ _ _ _ _ _ _ _=_;simp only[cG,a,if_true]) (f rfl)
 |false=>exact Ae (t':= .todo fn ro ds env (.code e::k)) (fun n=>by show cG _ _ _ _ _ _ _ _=_;simp[cG,a]) (d rfl)
end
def iO (h:AH) (l:Nat):Option AH:=match h.get l with
 |some (.loop .ready _ _ _ _ _ _ _)=>bS h l .busy none
 |_=>none
def qH (h:AH) (l:Nat):Option (Option Code×AH):=match h.get l with
 |some (.loop st p _ _ _ _ _ _)=>if st= .busy then none else(bS h l .exhausted none).map fun a=>(p,a)
 |_=>none
def eI (h:AH) (l:Nat):Option Nat:=match h.get l with
 |some (.loop _ _ _ _ _ _ _ d)=>some d
 |_=>none
def Ui (P:Program) (K:FuncId->List Value->Option fC) (f:Value) (l:Nat) (h:AH) (q:Value->AH->Prop):Prop:=match f with
 |.func (.func g) first a=>eU P g=true/\Ok P K (.call g (first.toList++[.func (.yield l) #[] #[]]++a.toList)) h fun o b=>q o.v b
 |_=>False
def lF:Code->Option Nat
 |.region id _ _=>some id
 |.seq a b=>(match lF a with
  |some r=>some r
  |none=>lF b)
 |.block _ b=>lF b
 |.loop b=>lF b
 |.scope b=>lF b
 |_=>none
def keyOf:List Item->Option Nat
 |.code c::k=>(match lF c with
  |some r=>some r
  |none=>keyOf k)
 |.inLoop c::k=>(match lF c with
  |some r=>some r
  |none=>keyOf k)
 |_::k=>keyOf k
 |[]=>none
def fL:Code->List Nat
 |.exit id=>[id]
 |.seq a b=>fL a++fL b
 |.cond _ t e=>fL t++fL e
 |.block id b=>(fL b).filter (·!=id)
 |.loop b=>fL b
 |.scope b=>fL b
 |.rangeFunc _ _ a b=>fL a++fL b
 |_=>[]
def qR (p:Option Code) (a b:Prop) (c:List (Nat×Prop)):Prop:=match p with
 |none=>a
 |some .ret=>b
 |some (.exit id)=>(match c.lookup id with
  |some q=>q
  |none=>False)
 |_=>False
def Gi (P:Program) (K:FuncId->List Value->Option fC) (fn:FuncId) (f:Value) (n:Nat) (lv:List Nat) (vs:List Value) (ps:Array Tmp) (assign a:Code) (d:Nat) (h:AH) (q:Option Code->AH->Prop):Prop:=
 ∀e:Nat->Value,lv.map e=vs->Cd h (.loop .ready none fn ((List.range n).map e) ps assign a d) fun l b=>Ui P K f l b fun _ c=>bB (qH c l) fun r=>q r.1 r.2
def Kk (L:List (Option Nat×List Nat)) (k:List Item):List Nat:=(L.lookup (keyOf k)).getD []
def iT:Nat->List Item->List Item
 |0,k=>k
 |n+1,k=>match k with
  |.code c::d=>(match c with
   |.skip=>iT n d
   |.label _=>iT n d
   |.seq a b=>iT n (.code a:: .code b::d)
   |.block id b=>iT n (.code b:: .inBlock id::d)
   |.scope b=>iT n (.code b:: .inScope b::d)
   |.loop b=>iT n (.code b:: .inLoop b::d)
   |.exit id=>(match exitTo id d with
    |some e=>iT n e
    |none=>k)
   |_=>k)
  |.inBlock _::d=>iT n d
  |.inScope _::d=>iT n d
  |.inLoop b::d=>iT n (.code b:: .inLoop b::d)
  |_=>k
def qw:List Item->Bool
 |[]=>true
 |.code .ret::_=>true
 |.code (.exit _)::_=>true
 |_=>false
def short (k:List Item):Bool:=match iT 60 k with
 |.code (.region _ _ _)::a=>qw (iT 60 a)
 |a=>qw a
def He (P:Program) (K:FuncId->List Value->Option fC) (E:List Nat->List Value->List Item->AH->Prop) (F:rJ->List Nat->List Value->AH->Prop) (L:List (Option Nat×List Nat)) (fn:FuncId) (ro:Option Nat):
  Nat->Hc->List Nat->List Value->List Item->AH->Prop
 |0,_,ds,env,k,h=>E ds env k h
 |n+1,dec,ds,env,k,h=>
  match k with
  |[]=>F .fX ds env h
  |.code c::k=>
   (match c with
   |.skip=>He P K E F L fn ro n dec ds env k h
   |.label _=>He P K E F L fn ro n dec ds env k h
   |.seq a b=>He P K E F L fn ro n dec ds env (.code a:: .code b::k) h
   |.cond c t e=>(match Zt dec c with
    |some true=>He P K E F L fn ro n dec ds env (.code t::k) h
    |some false=>He P K E F L fn ro n dec ds env (.code e::k) h
    |none=>Br (bT P env c)
     (match short (.code t::k) with
     |true=>He P K E F L fn ro n dec ds env (.code t::k) h
     |false=>E ds env (iT 60 (.code t::k)) h)
     (match short (.code e::k) with
     |true=>He P K E F L fn ro n dec ds env (.code e::k) h
     |false=>E ds env (iT 60 (.code e::k)) h))
   |.block id b=>He P K E F L fn ro n dec ds env (.code b:: .inBlock id::k) h
   |.loop b=>E ds env (iT 60 (.code b:: .inLoop b::k)) h
   |.scope b=>He P K E F L fn ro n dec ds env (.code b:: .inScope b::k) h
   |.exit id=>(match exitTo id k with
    |some u=>He P K E F L fn ro n dec ds env u h
    |none=>if ro.isSome then F (.exit id) ds env h else False)
   |.ret=>F .ret ds env h
   |.region _ ops false=>wpOps P K (fun j=>(ops[j]?).bind (·.dst)) ops.toList env h dec fun q i m=>He P K E F L fn ro n m ds q k i
   |.region _ ops true=>vy P K ops env h fun q i m=>He P K E F L fn ro n m ds q k i
   |.rangeFunc f r assign g=>
    (match ro with
    |none=>Cd h (.marks true) fun d s=>Gi P K fn (bT P env f) env.length (Kk L [.code assign,.beginRound,.code g]) ((Kk L [.code assign,.beginRound,.code g]).map fun t=>env.getD t undef) r assign g d s fun p i=>
      qR p (He P K E F L fn ro n dec (d::ds) env k i) (He P K E F L fn ro n dec (d::ds) env (.code .ret::k) i) ((fL g).map fun id=>(id,He P K E F L fn ro n dec (d::ds) env (.code (.exit id)::k) i))
    |some l=>bB (eI h l) fun d=>Gi P K fn (bT P env f) env.length (Kk L [.code assign,.beginRound,.code g]) ((Kk L [.code assign,.beginRound,.code g]).map fun t=>env.getD t undef) r assign g d h fun p i=>
      qR p (He P K E F L fn ro n dec ds env k i) (He P K E F L fn ro n dec ds env (.code .ret::k) i) ((fL g).map fun id=>(id,He P K E F L fn ro n dec ds env (.code (.exit id)::k) i)))
   |_=>False)
  |.inBlock _::k=>He P K E F L fn ro n dec ds env k h
  |.inScope _::k=>He P K E F L fn ro n dec ds env k h
  |.inLoop b::k=>E ds env (iT 60 (.code b:: .inLoop b::k)) h
  |.beginRound::k=>
   (match ro with
   |some l=>bB (iO h l) fun i=>He P K E F L fn ro n dec ds env k i
   |none=>False)
  |_=>False
theorem Ih {env:List Value} {n:Nat} (h:env.length=n):(List.range n).map (fun t=>env.getD t undef)=env:=by
 refine List.ext_getElem? fun i=>?_;grind
theorem Sy {l:List Nat} {f:Nat->Prop} {id:Nat} {q:Prop} (h:(l.map fun i=>(i,f i)).lookup id=some q):q=f id:=by
 induction l with
 |nil=>simp at h
 |cons i l a=>
  grind
theorem G8 {fn:FuncId} {f:Value} {env:List Value} {lv:List Nat} {ps:Array Tmp} {assign b:Code} {d:Nat} {h:AH} {q:Option Code->AH->Prop}
  (i:Gi P K fn f env.length lv (lv.map fun t=>env.getD t undef) ps assign b d h q):
  ∃n g first a o c p e,f= .func (.func g) first a/\eU P g=true/\run P K n (.call g (first.toList++[.func (.yield h.next) #[] #[]]++a.toList)) (h.alloc (.loop .ready none fn env ps assign b d))=some (o,c)/\
   qH c h.next=some (p,e)/\q p e:=by
 have:=i (fun t=>env.getD t undef) rfl
 rw[Ih rfl] at this
 unfold Cd Ui at this
 split at this
 .rename_i g first a
  obtain⟨m,n,r,j,⟨p,e⟩,l,c⟩:=this
  grind
 .cases this
theorem Fg {fn:FuncId} {ro:Option Nat} {ds:List Nat} {env:List Value} {h:AH} {Q:Out->AH->Prop}:∀(n:Nat) {k:List Item},Ok P K (.todo fn ro ds env (iT n k)) h Q->Ok P K (.todo fn ro ds env k) h Q
 |0,_,a=>a
 |n+1,k,a=>by
  have st:∀{k':List Item},Ok P K (.todo fn ro ds env (iT n k')) h Q->(∀m,run P K (m+1) (.todo fn ro ds env k) h=run P K m (.todo fn ro ds env k') h)->Ok P K (.todo fn ro ds env k) h Q:=
   fun a b=>Ae b (Fg n a)
  unfold iT at a;split at a;split at a;exact st a fun _=>rfl;exact st a fun _=>rfl;exact st a fun _=>rfl;exact st a fun _=>rfl;exact st a fun _=>rfl;exact st a fun _=>rfl;split at a;rename_i c;refine st a fun m=>?_;show cG P (run P K m) _ _ _ _ _ _=_;simp only[cG,c];exact a;exact a;exact st a fun _=>rfl;exact st a fun _=>rfl;exact st a fun _=>rfl;exact a
def Se (P:Program) (f:FuncId) (Q:Value->AH->Prop):Out->AH->Prop:=fun o b=>
 match o.leave with
 |.exit _=>False
 |_=>bB (bG o.ds b) fun a=>bB (dK P a o.env ((P.funcs[f]?).elim [] fun fn=>fn.results.toList)) fun c=>Q (oneOf c) a
theorem ka {f:FuncId} {fn:Func} {a:Code} {args:List Value} {h:AH} {Q:Value->AH->Prop} (i:P.funcs[f]?=some fn) (hb:fn.body=some a) (p:K f args=none)
  (r:Ok P K (.todo f none [] (args++List.replicate (fn.ntmps - args.length) undef) [.code a]) h (Se P f Q)):Ok P K (.call f args) h fun o c=>Q o.v c:=by
 obtain⟨n,⟨o,g⟩,l,b⟩:=r
 simp only at b
 have s:(∀id,o.leave≠.exit id)->(bB (bG o.ds g) fun b=>bB (dK P b o.env ((P.funcs[f]?).elim [] fun fn=>fn.results.toList)) fun e=>Q (oneOf e) b)->Ok P K (.call f args) h fun o c=>Q o.v c:=by
  intro d ⟨m,t,e,j,q⟩;rw[i] at j;simp only[Option.elim_some] at j;refine⟨n+1,(⟨.fX,[],[],oneOf e⟩,m),?_,q⟩;show gX P K (run P K n) f args h=_;simp only[gX,p,i,hb];rw[l];cases hlv:o.leave with
  |exit id=>exact absurd hlv (d id)
  |fX=>grind
  |ret=>grind
 unfold Se at b
 grind
def Pt (P:Program) (K:FuncId->List Value->Option fC) (fn:FuncId) (ro:Option Nat) (Q:Out->AH->Prop) (n:Nat) (lv:List Nat) (k:List Item) (ds:List Nat) (vs:List Value) (h:AH):Prop:=
 ∀e:Nat->Value,lv.map e=vs->Ok P K (.todo fn ro ds ((List.range n).map e) k) h Q
def Jp (P:Program) (h:AH) (env:List Value):List ResultVar->(List Value->Prop)->Prop
 |[],p=>p []
 |.tmp t::b,p=>Jp P h env b fun l=>p (env.getD t undef::l)
 |.cell a t::b,p=>match fS P t with
  |some true=>bB (A5 h (P.cellsOf t) (env.getD a undef)) fun v=>Jp P h env b fun l=>p (v::l)
  |some false=>bB (ld1 h (env.getD a undef)) fun v=>Jp P h env b fun l=>p (v::l)
  |none=>False
theorem nQ {h:AH} {env:List Value}:∀{rs:List ResultVar} {p:List Value->Prop},Jp P h env rs p->∃l,dK P h env rs=some l/\p l
 |[],p,b=>⟨[],rfl,b⟩
 |.tmp t::rs,p,b=>by
  obtain⟨l,c,d⟩:=nQ (rs:=rs) b;exact⟨_,by simp only[dK,c];rfl,d⟩
 |.cell a t::rs,p,b=>by
  simp only[Jp] at b;split at b;rename_i f;obtain⟨v,c,b⟩:=b;obtain⟨l,d,e⟩:=nQ (rs:=rs) b;refine⟨v::l,?_,e⟩;unfold A5 at c;split at c;rename_i x g;have i:nH P h t x=some v:=by unfold nH;rw[f];exact c
  simp only[dK,g,i,d];cases c;rename_i f;obtain⟨v,c,b⟩:=b;obtain⟨l,d,e⟩:=nQ (rs:=rs) b;refine⟨v::l,?_,e⟩;unfold ld1 at c;split at c;rename_i x g;have i:nH P h t x=some v:=by unfold nH;rw[f];exact c
  simp only[dK,g,i,d];cases c;cases b
def xd (P:Program) (f:FuncId) (Q:Value->AH->Prop) (lv:rJ) (ds:List Nat) (env:List Value) (h:AH):Prop:=match lv with
 |.exit _=>False
 |_=>bB (bG ds h) fun a=>Jp P a env ((P.funcs[f]?).elim [] fun fn=>fn.results.toList) fun l=>Q (oneOf l) a
theorem Re {f:FuncId} {Q:Value->AH->Prop} {lv:rJ} {ds:List Nat} {env:List Value} {h:AH} (a:xd P f Q lv ds env h):Se P f Q ⟨lv,ds,env,undef⟩ h:=by
 unfold xd at a;unfold Se;cases lv with
 |exit id=>exact a
 |fX=>obtain⟨b,e,a⟩:=a;obtain⟨l,c,d⟩:=nQ a;simp_all
 |ret=>obtain⟨b,e,a⟩:=a;obtain⟨l,c,d⟩:=nQ a;simp_all
theorem Z5 {f:FuncId} {args:List Value} {v:Value} {h:AH} {Q:Value->AH->Prop} (b:K f args=some (.val v)) (c:Q v h):Ok P K (.call f args) h fun o a=>Q o.v a:=
 ⟨1,(⟨.fX,[],[],v⟩,h),by show gX _ _ _ _ _ _=_;simp only[gX,b],c⟩
def Ap (l:Nat) (Q:Value->AH->Prop):Out->AH->Prop:=fun o b=>
 o.ds=[]/\match o.leave with
 |.fX=>bB (bS b l .ready (some none)) fun a=>Q (.bool true) a
 |.ret=>bB (bS b l .done (some (some .ret))) fun a=>Q (.bool false) a
 |.exit id=>bB (bS b l .done (some (some (.exit id)))) fun a=>Q (.bool false) a
theorem Zn {l:Nat} {args:List Value} {h:AH} {st:LoopState} {p:Option Code} {fn:FuncId} {b:List Value} {ps:Array Tmp} {assign a:Code} {d:Nat} {Q:Value->AH->Prop}
  (u:h.get l=some (.loop st p fn b ps assign a d)) (w:args.length=ps.size)
  (y:Ok P K (.todo fn (some l) [] ((ps.toList.zip args).foldl (fun t (p,v)=>t.set p v) b) [.code assign,.beginRound,.code a]) h (Ap l Q)):Ok P K (.round l args) h fun o j=>Q o.v j:=by
 obtain⟨n,r,A,c,f⟩:=y
 obtain⟨o,m⟩:=r
 simp only at c f
 have z:∀i e,(match o.leave with
     |.fX=>(bS m l .ready (some none)).map fun c=>((⟨.fX,[],[],.bool true⟩:Out),c)
     |.ret=>(bS m l .done (some (some .ret))).map fun c=>(⟨.fX,[],[],.bool false⟩,c)
     |.exit id=>(bS m l .done (some (some (.exit id)))).map fun c=>(⟨.fX,[],[],.bool false⟩,c))=some (i,e)->Q i.v e->Ok P K (.round l args) h fun o j=>Q o.v j:=by
  intro i e C x
  refine⟨n+1,(i,e),?_,x⟩
  show jA (run P K n) l args h=_
  simp only[jA,u,w,if_true]
  grind
 split at f
 .rename_i g;obtain⟨e,q,s⟩:=f;grind
 .rename_i g;obtain⟨e,q,s⟩:=f;grind
 .rename_i g;obtain⟨e,q,s⟩:=f;grind
def Lk (l:Nat) (Q:Value->AH->Prop) (lv:rJ) (ds:List Nat) (_b:List Value) (h:AH):Prop:=match ds with
 |[]=>(match lv with
  |.fX=>bB (bS h l .ready (some none)) fun a=>Q (.bool true) a
  |.ret=>bB (bS h l .done (some (some .ret))) fun a=>Q (.bool false) a
  |.exit id=>bB (bS h l .done (some (some (.exit id)))) fun a=>Q (.bool false) a)
 |_=>False
theorem K6 {l:Nat} {Q:Value->AH->Prop} {lv:rJ} {ds:List Nat} {env:List Value} {h:AH} (a:Lk l Q lv ds env h):Ap l Q ⟨lv,ds,env,undef⟩ h:=by
 unfold Lk at a;cases ds with
 |nil=>refine⟨rfl,?_⟩;cases lv<;>exact a
 |cons d ds=>exact a.elim
end
end Go.Ab
end
section
namespace Go.Ab
noncomputable section
open Go.RowKit
variable {P:Program} {K:FuncId->List Value->Option fC}
def start (base:Nat) (old:Nat->Option jD):AH:={base:=base,next:=base,old:=old,new:= .lf}
theorem qK {a:Nat} {old:Nat->Option jD} (i:Nat):(start a old).get i=if i<a then old i else none:=by
 rw[AH.get_eq];unfold start;split;rfl;cases i - a<;>rfl
structure Reads (P:Program) (base:Nat) (old:Nat->Option jD) (ρ:eN) (w:World):Prop where
 iQ:∀i o,i<base->old i=some o->∀b s,ρ i=some (b,s)->∃o',w.heap[b]?=some o'/\oT P ρ s o o'
 low:∀i b s,i<base->ρ i=some (b,s)->b<w.heap.size
 none:∀i,base<=i->ρ i=none
 lH:∀g,g<P.globals.size->ρ g=some (g,(0,0))
theorem Reads.inv {a:Nat} {old:Nat->Option jD} {ρ:eN} {w:World} (r:Reads P a old ρ w):Inv P w.heap.size ρ (start a old) w where
 iQ:=fun i o d b s e=>by
  rw[qK] at d;split at d;rename_i c;exact r.iQ i o c d b s e;cases d
 inj:=fun i j b f g c _ gi=>by
  rw[qK,aCw (Nat.not_lt.2 (show a<=_ from c))] at gi;cases gi
 low:=fun i b s c gi=>by
  rw[qK,aCw (Nat.not_lt.2 (show a<=_ from c))] at gi;cases gi
 old:=fun i b s c e=>r.low i b s c e
 fresh:=fun i c=>r.none i c
 eK:=fun i c=>by rw[qK,aCw (Nat.not_lt.2 (show a<=_ from c))]
 lH:=r.lH
 size:=Nat.le_refl _
 bn:=Nat.le_refl _
theorem F0 {w:World} (C:Ctx P w.heap.size K) (t:C.G w) {a:Nat} {old:Nat->Option jD} {ρ:eN} (r:Reads P a old ρ w) {f:FuncId} {args args':List Value} (q:aE ρ args args') {Q:Out->AH->Prop}
  (i:Ok P K (.call f args) (start a old) Q):
  Calls P f ⟨args'⟩ w fun e g=>∃ρ' o c d,e= .returned d/\aA ρ' o.v d/\Q o c/\Inv P w.heap.size ρ' c g/\Below w.heap.size w g:=by
 obtain⟨n,⟨o,c⟩,v,u⟩:=i
 intro j
 obtain⟨e,g,fr,⟨ρ',d,s,x,b⟩,l,m,p⟩:=Xt C n (.call f args) _ o c v ρ w args' r.inv t q j
 exact⟨e,g,fr,⟨ρ',o,c,d,s,x,u,b.inv,b.below r.inv⟩,l,m,p⟩
def Ctx.empty (P:Program) (B:Nat):Ctx P B (fun _ _=>none) where
 G:=fun _=>True
 zV:=fun _ _ _ _=>trivial
 call:=fun _ _ _ _ h=>by cases h
 fwd:=fun _ _ _ _ h=>by cases h
 host:=fun _ _ _ h=>by cases h
def O6 (K:FuncId->List Value->Option fC) (f0:FuncId) (v0:Value):FuncId->List Value->Option fC:=fun f a=>if f=f0/\a.isEmpty=true then some (.val v0) else K f a
def Ctx.add {B:Nat} (C:Ctx P B K) (f0:FuncId) (v0:Value) (n:cE v0=true) (h:∀w,C.G w->Calls P f0 #[] w fun e d=>e= .returned v0/\Below w.heap.size w d):Ctx P B (O6 K f0 v0) where
 G:=C.G
 zV:=C.zV
 call:=fun f a v w b c=>by
  unfold O6 at b;split at b;rename_i l;cases b;obtain⟨rfl,p⟩:=l;have:a=[]:=by grind
  subst this;exact⟨rfl,(h w c).mono fun e d ⟨m,j⟩=>⟨⟨v0,m,fun ρ=>eC v0 n⟩,j⟩⟩;exact C.call f a v w b c
 fwd:=fun f a g i b=>by
  unfold O6 at b;split at b;cases b;exact C.fwd f a g i b
 host:=fun f a F b=>by
  unfold O6 at b;split at b;cases b;exact C.host f a F b
theorem Q9 {P:Program} {f:FuncId} {args:Array Value} {v:Value} {w:World} (g:cE v=true) (h:Calls P f args w fun e a=>e= .returned v/\Below w.heap.size w a):
  Calls P f args w fun e a=>(∃b,e= .returned b/\∀ρ,aA ρ v b)/\Below w.heap.size w a:=
 h.mono fun _ _ ⟨d,c⟩=>⟨⟨v,d,fun _=>eC v g⟩,c⟩
theorem Nc {f:FuncId} {n:Nat} {v:Value} {a:Nat} {old:Nat->Option jD} (m:cE v=true)
  (b:((run P K n (.call f []) (start a old)).any fun r=>oO r.1.v v)=true) {w:World} (C:Ctx P w.heap.size K) (l:C.G w) {ρ:eN} (r:Reads P a old ρ w):
  Calls P f #[] w fun e g=>e= .returned v/\Below w.heap.size w g:=by
 rw[Option.any_eq_true] at b
 obtain⟨⟨o,q⟩,b,c⟩:=b
 have c:=A3 _ _ c
 have:=F0 (Q:=fun o _=>o.v=v) C l r (args:=[]) (args':=[]) rfl ⟨n,_,b,c⟩
 intro i
 obtain⟨e,g,fr,⟨ρ',y,s,p,t,d,j,_,u⟩,x⟩:=this i
 rw[j] at d
 have:=qO v p m d
 grind
end
end Go.Ab
end
section
namespace Go.Ab
noncomputable section
structure En where
 n:Nat
 t:Tr Value
def En.get (e:En) (i:Nat):Value:=En.rec (motive:=fun _=>Value) (fun n t=>Bool.rec (motive:=fun _=>Value) undef (t.get undef i) (Nat.blt i n)) e
def En.opt (e:En) (i:Nat):Option Value:=En.rec (motive:=fun _=>Option Value) (fun n t=>Bool.rec (motive:=fun _=>Option Value) none (some (t.get undef i)) (Nat.blt i n)) e
def En.set (e:En) (i:Nat) (v:Value):En:=En.rec (motive:=fun _=>En) (fun n t=>Bool.rec (motive:=fun _=>En) (En.mk n t) (En.mk n (t.set undef i v)) (Nat.blt i n)) e
def En.sN (e:En):List Value:=(List.range e.n).map fun i=>e.t.get undef i
def Kh:List Value->Nat->Tr Value->Tr Value
 |[],_,t=>t
 |v::l,i,t=>Kh l (i+1) (t.set undef i v)
def En.of (l:List Value) (k:Nat):En:=⟨l.length+k,Kh l 0 .lf⟩
theorem En.F9 (e:En) (i:Nat):e.opt i=e.sN[i]?:=by
 obtain⟨n,t⟩:=e;simp only[En.opt,En.sN];cases h:Nat.blt i n with
 |true=>
  have:i<n:=by simpa [Nat.blt_eq] using h
  simp[this]
 |false=>
  have:¬i<n:=by rw[<-Nat.blt_eq,h];simp
  simp[this]
theorem En.get_eq (e:En) (i:Nat):e.get i=e.sN.getD i undef:=by
 rw[List.getD_eq_getElem?_getD,<-En.F9];obtain⟨n,t⟩:=e;simp only[En.get,En.opt];cases Nat.blt i n<;>rfl
theorem En.Bu (e:En) (i:Nat) (v:Value):(e.set i v).sN=e.sN.set i v:=by
 apply List.ext_getElem?;intro j;rw[List.getElem?_set,<-En.F9,<-En.F9];obtain⟨n,t⟩:=e;have c:(En.sN ⟨n,t⟩).length=n:=by simp[En.sN]
 rw[c];simp only[En.set];cases h:Nat.blt i n with
 |true=>
  have b:i<n:=by simpa [Nat.blt_eq] using h
  simp only[En.opt,Tr.fK];by_cases a:i=j;subst a;simp[h,b];simp[a,Ne.symm a]
 |false=>
  have b:¬i<n:=by rw[<-Nat.blt_eq,h];simp
  by_cases a:i=j;subst a;simp[En.opt,h,b];simp[a]
theorem D5:∀(l:List Value) (i:Nat) (t:Tr Value) (m:Nat),(Kh l i t).get undef m=if i<=m/\m<i+l.length then l.getD (m - i) undef else t.get undef m
 |[],i,t,m=>by
  rw[aCw (by simp)];rfl
 |v::l,i,t,m=>by
  simp only[Kh];rw[D5 l (i+1) _ m,Tr.fK];simp only[List.length_cons];by_cases a:m=i;subst a;rw[aaa,aCx rfl,aac];simp;rw[aCw a];by_cases b:i+1<=m/\m<i+1+l.length;rw[aCx b,aac,show m - i=(m - (i+1))+1 by omega];simp;rw[aCw b,aaa]
theorem En.of_eq (l:List Value) (k:Nat):(En.of l k).sN=l++List.replicate k undef:=by
 apply List.ext_getElem?;intro j;rw[<-En.F9];unfold En.of En.opt;simp only[D5,Tr.Gm];cases h:Nat.blt j (l.length+k) with
 |true=>
  have b:j<l.length+k:=by simpa [Nat.blt_eq] using h
  by_cases a:j<l.length;rw[aac,List.getElem?_append_left a];simp[a];rw[aaa,List.getElem?_append_right (by omega),List.getElem?_replicate,aac]
 |false=>
  have b:¬j<l.length+k:=by rw[<-Nat.blt_eq,h];simp
  rw[List.getElem?_eq_none (by simp;omega)]
inductive Mq where
 |todo (fn:FuncId) (ro:Option Nat) (ds:List Nat) (env:En) (k:List Item)
 |ops (all:Array Oper) (rest:List Oper) (env:En)
 |call (f:FuncId) (args:List Value)
 |round (l:Nat) (args:List Value)
structure Hv where
 leave:rJ
 ds:List Nat
 env:En
 v:Value
def Ss:En:=⟨0,.lf⟩
abbrev mA:=Mq->AH->Option (Hv×AH)
def qi:Mq->Task
 |.todo fn ro ds env k=> .todo fn ro ds env.sN k
 |.ops all rest env=> .ops all rest env.sN
 |.call f a=> .call f a
 |.round l a=> .round l a
def jt (o:Hv):Out:=⟨o.leave,o.ds,o.env.sN,o.v⟩
def rD (r:Hv×AH):Out×AH:=(jt r.1,r.2)
def A4 (R':mA) (R:iK):Prop:=∀t h,R (qi t) h=(R' t h).map rD
def aB3 (v:Value):Value:=if cE v then v else top
def aAn (P:Program) (g:Nat):Value:=if g<P.globals.size then .pointer (some ⟨g,0,none⟩) else top
def aBt (f:Nat):Value:= .func (.func f) #[] #[]
def bE (P:Program) (env:En) (x:Operand):Value:=Operand.rec (motive:=fun _=>Value) (En.get env) aB3 (aAn P) aBt x
theorem rB (P:Program) (env:En):bE P env=bT P env.sN:=by
 funext x;cases x<;>first|rfl|exact En.get_eq _ _
def tJ (env:En) (d:Option Tmp) (v:Value):En:=Option.rec (motive:=fun _=>En) env (fun d=>env.set d v) d
theorem F3 (env:En) (d:Option Tmp) (v:Value):(tJ env d v).sN=fP env.sN d v:=by
 cases d;rfl;exact En.Bu _ _ _
def yu (want:Bool) (x:Option Value):Option Bool:=
  match x with
  |some (.bool b)=>some (b==want)
  |some (.chan _)=>none
  |_=>some false
def jy {α:Type} (l:List α):Nat->Option α:=List.rec (motive:=fun _=>Nat->Option α) (fun _=>none) (fun a _ b n=>Nat.rec (motive:=fun _=>Option α) (some a) (fun n _=>b n) n) l
theorem Jy {α:Type}:∀(l:List α) (n:Nat),jy l n=l[n]?
 |[],_=>rfl
 |_::_,0=>rfl
 |a::l,n+1=>by
  show jy l n=_;rw[Jy l n];rfl
def te (all:Array Oper) (env:En) (g:Nat×Bool):Option Bool:=yu g.2 (((jy all.toList g.1).bind (·.dst)).bind (fun d=>env.opt d))
def iW (all:Array Oper) (env:En) (o:Oper):Option Bool:=Option.rec (motive:=fun _=>Option Bool) (some true) (te all env) o.guard
theorem uQ (all:Array Oper) (env:En) (o:Oper):iW all env o=cJ all env.sN o:=by
 unfold iW cJ;cases o.guard with
 |none=>rfl
 |some g=>
  obtain⟨j,want⟩:=g;show te all env (j,want)=_;unfold te yu;simp only[En.F9,Jy,Array.getElem?_toList];rfl
def Lt (_:Program) (a:Operand->Value) (_:AH) (x:Operand):Option Value:=some (a x)
def Bc (_:Program) (a:Operand->Value) (_:AH) (x:Operand):Option Value:=some (a x)
def Kj (_:Program) (d:Operand->Value) (_:AH) (c a b:Operand):Option Value:=match d c with
  |.bool t=>some (if t then d a else d b)
  |_=>none
def Gc (P:Program) (b:Operand->Value) (_:AH) (t:TypeId) (a:Array (Nat×Operand)):Option Value:=B1 P t (a.toList.map fun p=>(p.1,b p.2))
def Kf (P:Program) (b:Operand->Value) (h:AH) (t:TypeId) (a:Operand):Option Value:=match b a with
  |.pointer (some a)=>nH P h t a
  |_=>none
def uE (_:Program) (c:Operand->Value) (_:AH) (x:Operand):Option Value:=match c x with
  |.pointer (some a)=>some (.pointer (some a))
  |.func (.func f) a b=>some (.func (.func f) a b)
  |.func (.yield f) a b=>some (.func (.yield f) a b)
  |_=>none
def D9 (P:Program) (a:Operand->Value) (_:AH) (op:BinOp) (t:TypeId) (x y:Operand):Option Value:=Lv P op t x y (a x) (a y)
def Kq (_:Program) (a:Operand->Value) (_:AH) (op:UnOp) (x:Operand):Option Value:=match op,a x with
  |.neg,.int k n=>some (.int k (k.wrap (0 - n)))
  |.not,.bool b=>some (.bool !b)
  |_,_=>none
def yM (P:Program) (a:Operand->Value) (h:AH) (s d:TypeId) (x:Operand):Option Value:=match P.underlying s,P.underlying d,a x with
  |some _,some (.int k),.int _ n=>some (.int k (k.wrap n))
  |some .string,some .string,.string z=>some (.string z)
  |some (.slice e),some .string,v=>(match P.underlying e with
   |some (.int .u8)=>strOf h v
   |_=>none)
  |_,_,_=>none
def lG (P:Program) (a:Operand->Value) (_:AH) (t:TypeId) (x:Operand):Option Value:=match P.underlying t with
  |some (.interface _)=>none
  |some _=>some (.iface t (a x))
  |none=>none
def tW (_:Program) (a:Operand->Value) (_:AH) (fn:Fn) (first captured:Array Operand):Option Value:=match fn with
  |.func f=>some (.func (.func f) (first.map a) (captured.map a))
  |_=>none
def Fh (P:Program) (a:Operand->Value) (h:AH) (t:TypeId) (x:Operand) (c b d:Option Operand):Option Value:=oN P h t (a x) (c.map a) (b.map a) (d.map a)
def rO (P:Program) (b:Operand->Value) (_:AH) (s:TypeId) (x:Operand) (f:Nat):Option Value:=match P.underlying s,b x with
  |some (.struct c),.pointer (some a)=>match c[f]? with
   |some fd=>if P.cellsOf fd.type=0 then none else some (.pointer (some (a.add fd.offset)))
   |none=>none
  |_,_=>none
def Fz (P:Program) (b:Operand->Value) (_:AH) (t:TypeId) (x:Operand) (f:Nat):Option Value:=match P.underlying t,b x with
  |some (.struct c),.agg a=>match c[f]? with
   |some fd=>apart P fd.type a.toList fd.offset
   |none=>none
  |_,_=>none
def rV (P:Program) (b:Operand->Value) (_:AH) (t:TypeId) (x i:Operand):Option Value:=match P.underlying t,b x,b i with
  |some (.array n e),.pointer (some a),.int _ i=>if 0<=i/\i<n/\(P.info? e).isSome then some (.pointer (some (a.add (i.toNat*P.cellsOf e)))) else none
  |some (.slice e),.slice (some a) n _,.int _ i=>if 0<=i/\i<n/\(P.info? e).isSome/\a.spot=none then some (.pointer (some (a.add (i.toNat*P.cellsOf e)))) else none
  |_,_,_=>none
def Gy (P:Program) (a:Operand->Value) (_:AH) (t:TypeId) (x i:Operand):Option Value:=match P.underlying t,a x,a i with
  |some (.array n e),.agg c,.int _ i=>if 0<=i/\i<n/\(P.info? e).isSome then apart P e c.toList (i.toNat*P.cellsOf e) else none
  |some .string,.string s,.int _ i=>if 0<=i then(s[i.toNat]?).map fun b=> .int .u8 b.toNat else none
  |_,_,_=>none
def xV (_:Program) (a:Operand->Value) (_:AH) (t:Operand) (i:Nat):Option Value:=match a t with
  |.tuple b=>b.toList[i]?
  |_=>none
def Bw (P:Program) (a:Operand->Value) (h:AH) (t:TypeId) (x ix:Operand) (ok:Bool):Option Value:=pM P h t (a x) (a ix) ok
def Km (P:Program) (e:Operand->Value) (h:AH):Op->Option Value
 |.move x=>Lt P e h x
 |.assign x=>Bc P e h x
 |.pick c a b=>Kj P e h c a b
 |.build t j=>Gc P e h t j
 |.load t a=>Kf P e h t a
 |.nilCheck x=>uE P e h x
 |.binOp op t x y _=>D9 P e h op t x y
 |.unOp op _ x=>Kq P e h op x
 |.convert s d x=>yM P e h s d x
 |.makeInterface t x=>lG P e h t x
 |.makeFunc fn first g=>tW P e h fn first g
 |.slice t x m l n=>Fh P e h t x m l n
 |.fieldAddr s x f=>rO P e h s x f
 |.field t x f=>Fz P e h t x f
 |.indexAddr t x i=>rV P e h t x i
 |.index t x i=>Gy P e h t x i
 |.extract t i=>xV P e h t i
 |.lookup t x ix ok=>Bw P e h t x ix ok
 |_=>none
theorem Fj (P:Program) (a:Operand->Value) (h:AH) (op:Op):Km P a h op=aX P a h op:=by cases op<;>rfl
def wi (h:AH) (ds:List Nat) (ro:Option Nat):Option (Nat×AH×List Nat):=
 match ro with
 |none=>some (h.next,h.alloc (.marks true),h.next::ds)
 |some l=>match h.get l with
  |some (.loop _ _ _ _ _ _ _ d)=>some (d,h,ds)
  |_=>none
structure lz where
 env:En
 h:AH
 v:Value
def uu (r:lz):Rec:=⟨r.env.sN,r.h,r.v⟩
def qW (P:Program) (a:Operand->Value) (h:AH) (op:Op):Option Value:=
 match op with
 |.call c=>(match c.callee with|.builtin b=>if eB b then(cK P h b c.argTypes (c.args.toList.map a)).map (·.1) else none|_=>none)
 |op=>Km P a h op
theorem zL (P:Program) (a:Operand->Value) (h:AH) (op:Op):qW P a h op=cN P a h op:=by
 cases op<;>first|exact Fj P a h _|rfl
def eT (P:Program) (R:mA) (e:Operand->Value) (h:AH) (op:Op):Option (Value×AH):=
 match op with
 |.store t a x=>match e a with
  |.pointer (some a)=>(E5 P h t a (e x)).map fun i=>(undef,i)
  |_=>none
 |.mapUpdate t m k x=>(wJ P h t (e m) (e k) (e x)).map fun i=>(undef,i)
 |.call c=>
  match c.callee with
  |.builtin b=>cK P h b c.argTypes (c.args.toList.map e)
  |.value f=>match e f with
   |.func (.func g) first d=>
    if eU P g then(R (.call g (first.toList++c.args.toList.map e++d.toList)) h).map fun r=>(r.1.v,r.2) else none
   |.func (.yield l) first _=>(R (.round l (first.toList++c.args.toList.map e)) h).map fun r=>(r.1.v,r.2)
   |_=>none
  |.invoke _ _=>none
 |_=>none
def gP (v:Option Value) (h:AH):Option (Value×AH):=Option.rec (motive:=fun _=>Option (Value×AH)) none (fun v=>some (v,h)) v
def da (b:Option (jD×(Nat->Value))) (h:AH):Option (Value×AH):=b.map fun r=>(r.2 h.next,h.alloc r.1)
def Y5 (b:Option (jD×(Nat->Value))) (r:Nat) (h:AH):Option (Value×AH):=b.map fun x=>(x.2 r,h.set r (some x.1))
def tg (P:Program) (R:mA) (c:Call) (env:En) (h:AH):Option (Value×AH):=if dW (.call c) then gP (qW P (bE P env) h (.call c)) h else eT P R (bE P env) h (.call c)
abbrev OsF:=Program->mA->En->AH->Option (Value×AH)
abbrev DsF:=Program->mA->Nat->En->AH->Option (Value×AH)
def zJ (P:Program) (R:mA) (env:En) (h:AH) (op:Op):Option (Value×AH):=Op.rec (motive:=fun _=>OsF)
 (fun b P _ env h=>gP (Lt P (bE P env) h b) h)
 (fun b P _ env h=>gP (Bc P (bE P env) h b) h)
 (fun g d f P _ env h=>gP (Kj P (bE P env) h g d f) h)
 (fun m P _ env h=>da (cI P (bE P env) (Op.alloc m)) h)
 (fun m l P _ env h=>da (cI P (bE P env) (Op.box m l)) h)
 (fun a c P _ env h=>gP (Gc P (bE P env) h a c) h)
 (fun a n_ c P _ env h=>da (cI P (bE P env) (Op.buildSlice a n_ c)) h)
 (fun _ _ _ _ _ _ _ _=>none)
 (fun a d P _ env h=>gP (Kf P (bE P env) h a d) h)
 (fun a d l P R env h=>eT P R (bE P env) h (Op.store a d l))
 (fun _ _ _ _ _=>none)
 (fun _ _ _ _ _=>none)
 (fun b P _ env h=>gP (uE P (bE P env) h b) h)
 (fun j a b t _ P _ env h=>gP (D9 P (bE P env) h j a b t) h)
 (fun j _ b P _ env h=>gP (Kq P (bE P env) h j b) h)
 (fun d f b P _ env h=>gP (yM P (bE P env) h d f b) h)
 (fun _ _ _ _ _ _=>none)
 (fun a b P _ env h=>gP (lG P (bE P env) h a b) h)
 (fun i d f P _ env h=>gP (tW P (bE P env) h i d f) h)
 (fun a s P _ env h=>da (cI P (bE P env) (Op.makeMap a s)) h)
 (fun _ _ _ _ _ _=>none)
 (fun a n g P _ env h=>da (cI P (bE P env) (Op.makeSlice a n g)) h)
 (fun a b n q p P _ env h=>gP (Fh P (bE P env) h a b n q p) h)
 (fun a b i P _ env h=>gP (rO P (bE P env) h a b i) h)
 (fun a b i P _ env h=>gP (Fz P (bE P env) h a b i) h)
 (fun a b e P _ env h=>gP (rV P (bE P env) h a b e) h)
 (fun a b e P _ env h=>gP (Gy P (bE P env) h a b e) h)
 (fun a b e j P _ env h=>gP (Bw P (bE P env) h a b e j) h)
 (fun a p r l P R env h=>eT P R (bE P env) h (Op.mapUpdate a p r l))
 (fun _ _ _ _ _ _ _=>none)
 (fun _ _ _ _ _ _ _ _=>none)
 (fun _ _ _ _ _ _=>none)
 (fun _ _ _ _ _ _=>none)
 (fun _ _ _ _ _=>none)
 (fun _ _ _ _ _ _ _ _=>none)
 (fun a e P _ env h=>gP (xV P (bE P env) h a e) h)
 (fun g P R env h=>eT P R (bE P env) h (Op.call g))
 (fun _ _ _ _ _=>none)
 (fun _ _ _ _ _=>none)
 (fun _ _ _ _ _=>none)
 (fun _ _ _ _ _ _=>none)
 (fun _ _ _ _ _ _ _=>none)
 (fun _ _ _ _ _ _=>none) op P R env h
def Ty (P:Program) (R:mA) (r:Nat) (env:En) (h:AH) (op:Op):Option (Value×AH):=Op.rec (motive:=fun _=>DsF)
 (fun b P _ _ env h=>gP (Lt P (bE P env) h b) h)
 (fun b P _ _ env h=>gP (Bc P (bE P env) h b) h)
 (fun g d f P _ _ env h=>gP (Kj P (bE P env) h g d f) h)
 (fun m P _ r env h=>Y5 (cI P (bE P env) (Op.alloc m)) r h)
 (fun m l P _ r env h=>Y5 (cI P (bE P env) (Op.box m l)) r h)
 (fun a c P _ _ env h=>gP (Gc P (bE P env) h a c) h)
 (fun a n_ c P _ r env h=>Y5 (cI P (bE P env) (Op.buildSlice a n_ c)) r h)
 (fun _ _ _ _ _ _ _ _ _=>none)
 (fun a d P _ _ env h=>gP (Kf P (bE P env) h a d) h)
 (fun a d l P R _ env h=>eT P R (bE P env) h (Op.store a d l))
 (fun _ _ _ _ _ _=>none)
 (fun _ _ _ _ _ _=>none)
 (fun b P _ _ env h=>gP (uE P (bE P env) h b) h)
 (fun j a b u _ P _ _ env h=>gP (D9 P (bE P env) h j a b u) h)
 (fun j _ b P _ _ env h=>gP (Kq P (bE P env) h j b) h)
 (fun d f b P _ _ env h=>gP (yM P (bE P env) h d f b) h)
 (fun _ _ _ _ _ _ _=>none)
 (fun a b P _ _ env h=>gP (lG P (bE P env) h a b) h)
 (fun i d f P _ _ env h=>gP (tW P (bE P env) h i d f) h)
 (fun a t P _ r env h=>Y5 (cI P (bE P env) (Op.makeMap a t)) r h)
 (fun _ _ _ _ _ _ _=>none)
 (fun a n g P _ r env h=>Y5 (cI P (bE P env) (Op.makeSlice a n g)) r h)
 (fun a b n q p P _ _ env h=>gP (Fh P (bE P env) h a b n q p) h)
 (fun a b i P _ _ env h=>gP (rO P (bE P env) h a b i) h)
 (fun a b i P _ _ env h=>gP (Fz P (bE P env) h a b i) h)
 (fun a b e P _ _ env h=>gP (rV P (bE P env) h a b e) h)
 (fun a b e P _ _ env h=>gP (Gy P (bE P env) h a b e) h)
 (fun a b e j P _ _ env h=>gP (Bw P (bE P env) h a b e j) h)
 (fun a p s l P R _ env h=>eT P R (bE P env) h (Op.mapUpdate a p s l))
 (fun _ _ _ _ _ _ _ _=>none)
 (fun _ _ _ _ _ _ _ _ _=>none)
 (fun _ _ _ _ _ _ _=>none)
 (fun _ _ _ _ _ _ _=>none)
 (fun _ _ _ _ _ _=>none)
 (fun _ _ _ _ _ _ _ _ _=>none)
 (fun a e P _ _ env h=>gP (xV P (bE P env) h a e) h)
 (fun g P R _ env h=>tg P R g env h)
 (fun _ _ _ _ _ _=>none)
 (fun _ _ _ _ _ _=>none)
 (fun _ _ _ _ _ _=>none)
 (fun _ _ _ _ _ _ _=>none)
 (fun _ _ _ _ _ _ _ _=>none)
 (fun _ _ _ _ _ _ _=>none) op P R r env h
theorem Ks (v:Option Value) (h:AH):gP v h=v.map fun v=>(v,h):=by cases v<;>rfl
theorem Mo (P:Program) (R:mA) (env:En) (h:AH) (op:Op):zJ P R env h op=
  match kindOf op with
  |.tH=>(Km P (bE P env) h op).map fun v=>(v,h)
  |.alloc=>(cI P (bE P env) op).map fun r=>(r.2 h.next,h.alloc r.1)
  |.store|.call=>eT P R (bE P env) h op
  |.other=>none:=by
 cases op<;>first|rfl|exact Ks _ _
theorem Na (P:Program) (R:mA) (r:Nat) (env:En) (h:AH) (op:Op):Ty P R r env h op=
  if dW op then(qW P (bE P env) h op).map fun v=>(v,h)
  else if kindOf op== .alloc then(cI P (bE P env) op).map fun x=>(x.2 r,h.set r (some x.1))
  else eT P R (bE P env) h op:=by
 cases op<;>first|rfl|exact Ks _ _|skip
 rename_i c
 show tg P R c env h=_
 unfold tg
 rw[Ks]
 rfl
def aAm (P:Program) (R:mA) (r:Nat) (env:En) (h:AH) (op:Op) (w:Option Bool):Option (Value×AH):=
 Option.rec (motive:=fun _=>Option (Value×AH)) none (fun b=>Bool.rec (motive:=fun _=>Option (Value×AH)) (some (undef,h)) (Ty P R r env h op) b) w
def lD (P:Program) (R:mA) (all:List Oper) (a i:Nat) (env:En) (h:AH) (o:Oper):Option (Value×AH):=aAm P R (a+i) env h o.op (iW ⟨all⟩ env o)
theorem Hw (P:Program) (R:mA) (all:List Oper) (a i:Nat) (env:En) (h:AH) (o:Oper):lD P R all a i env h o=
 match iW ⟨all⟩ env o with
 |none=>none
 |some false=>some (undef,h)
 |some true=>
  if dW o.op then(qW P (bE P env) h o.op).map fun v=>(v,h)
  else if kindOf o.op== .alloc then(cI P (bE P env) o.op).map fun r=>(r.2 (a+i),h.set (a+i) (some r.1))
  else eT P R (bE P env) h o.op:=by
 unfold lD
 cases iW ⟨all⟩ env o with
 |none=>rfl
 |some b=>
  cases b with
  |false=>rfl
  |true=>exact Na ..
abbrev re:=Option (List lz×En×AH)
def zf (env:En) (h:AH) (v:Value) (x:re):re:=Option.rec (motive:=fun _=>re) none (fun r=>some (⟨env,h,v⟩::r.1,r.2)) x
def yq (a:Nat->En->AH->re) (i:Nat) (o:Oper) (env:En) (h:AH) (x:Option (Value×AH)):re:=Option.rec (motive:=fun _=>re) none (fun r=>zf env h r.1 (a (i+1) (tJ env o.dst r.1) r.2)) x
def iG (P:Program) (R:mA) (all:List Oper) (b i:Nat) (os:List Oper) (env:En) (h:AH):re:=
 List.rec (motive:=fun _=>Nat->En->AH->re) (fun _ env h=>some ([],env,h)) (fun o _ a i env h=>yq a i o env h (lD P R all b i env h o)) os i env h
theorem Ec (P:Program) (R:mA) (all:List Oper) (a i:Nat) (o:Oper) (os:List Oper) (env:En) (h:AH):iG P R all a i (o::os) env h=
  match lD P R all a i env h o with
  |some (v,b)=>match iG P R all a (i+1) os (tJ env o.dst v) b with
   |some (c,e)=>some (⟨env,h,v⟩::c,e)
   |none=>none
  |none=>none:=by
 show yq (fun i env h=>iG P R all a i os env h) i o env h (lD P R all a i env h o)=_
 cases lD P R all a i env h o with
 |none=>rfl
 |some r=>
  show zf env h r.1 (iG P R all a (i+1) os (tJ env o.dst r.1) r.2)=_
  cases hd:iG P R all a (i+1) os (tJ env o.dst r.1) r.2 with
  |none=>simp only[hd];rfl
  |some q=>simp only[hd];rfl
def Ax (P:Program) (all:List Oper) (rs:List lz) (hEnd:AH) (x:Nat×Nat):Bool:=
 match all[x.1]?,rs[x.1]? with
 |some o,some r=>
  match iW ⟨all⟩ r.env o with
  |some true=>(match qW P (bE P r.env) (match rs[x.2]? with|some q=>q.h|none=>hEnd) o.op with|some v=>oO v r.v|none=>false)
  |_=>true
 |_,_=>false
def Av (P:Program) (R:mA) (ops:Array Oper) (env:En) (h:AH):Option (En×AH):=
 if Bi ops.toList&&(P.follows .mixedOrders|| !Region.departs ops) then
  match iG P R ops.toList h.next 0 ops.toList env {h with next:=h.next+ops.size} with
  |some (c,a,b)=>if(yK ops.toList).all (Ax P ops.toList c b) then some (a,b) else none
  |none=>none
 else none
def nG (P:Program) (h:AH) (env:En):List ResultVar->Option (List Value)
 |[]=>some []
 |.tmp t::b=>(nG P h env b).map fun l=>env.get t::l
 |.cell a t::b=>match env.get a with
  |.pointer (some a)=>match nH P h t a,nG P h env b with
   |some v,some l=>some (v::l)
   |_,_=>none
  |_=>none
section td
variable (P:Program) (R:mA) (fn:FuncId) (ro:Option Nat) (ds:List Nat) (env:En) (k:List Item) (h:AH)
abbrev C6:=Option (Hv×AH)
def Tq:C6:=R (.todo fn ro ds env k) h
def vj (a b:Code):C6:=R (.todo fn ro ds env (.code a:: .code b::k)) h
def Jt (c:Operand) (t e:Code):C6:=match bE P env c with
   |.bool b=>R (.todo fn ro ds env (.code (if b then t else e)::k)) h
   |_=>none
def S4 (b:Code) (x:Item):C6:=R (.todo fn ro ds env (.code b::x::k)) h
def Lj (id:Nat):C6:=match exitTo id k with
   |some a=>R (.todo fn ro ds env a) h
   |none=>if ro.isSome then some (⟨.exit id,ds,env,undef⟩,h) else none
def tt:C6:=some (⟨.ret,ds,env,undef⟩,h)
def qk:C6:=some (⟨.fX,ds,env,undef⟩,h)
def S3 (x:Option (Hv×AH)):C6:=match x with
   |some (o,a)=>R (.todo fn ro ds o.env k) a
   |none=>none
def Qn (ops:Array Oper):C6:=S3 R fn ro ds k (R (.ops ops ops.toList env) h)
def P3 (x:Option (En×AH)):C6:=match x with
   |some (a,b)=>R (.todo fn ro ds a k) b
   |none=>none
def J9 (ops:Array Oper):C6:=P3 R fn ro ds k (Av P R ops env h)
def E4 (f:Operand) (ps:Array Tmp) (assign b:Code):C6:=
   match wi h ds ro with
   |some (d,c,e)=>
    match bE P env f with
    |.func (.func g) first a=>
     if eU P g then
      match R (.call g (first.toList++[.func (.yield c.next) #[] #[]]++a.toList)) (c.alloc (.loop .ready none fn env.sN ps assign b d)) with
      |some (_,i)=>
       match i.get c.next with
       |some (.loop st p _ _ _ _ _ _)=>
        if st= .busy then none else
        match bS i c.next .exhausted none with
        |some j=>R (.todo fn ro e env ((p.map Item.code).toList++k)) j
        |none=>none
       |_=>none
      |none=>none
     else none
    |_=>none
   |none=>none
def Gk:C6:=
  match ro with
  |some l=>match h.get l with
   |some (.loop .ready _ _ _ _ _ _ _)=>match bS h l .busy none with
    |some a=>R (.todo fn ro ds env k) a
    |none=>none
   |_=>none
  |none=>none
def ny:Code->C6
  |.skip=>Tq R fn ro ds env k h
  |.label _=>Tq R fn ro ds env k h
  |.seq a b=>vj R fn ro ds env k h a b
  |.cond c t e=>Jt P R fn ro ds env k h c t e
  |.block id b=>S4 R fn ro ds env k h b (.inBlock id)
  |.loop b=>S4 R fn ro ds env k h b (.inLoop b)
  |.scope b=>S4 R fn ro ds env k h b (.inScope b)
  |.exit id=>Lj R fn ro ds env k h id
  |.ret=>tt ds env h
  |.region _ ops d=>Bool.rec (motive:=fun _=>C6) (Qn R fn ro ds env k h ops) (J9 P R fn ro ds env k h ops) d
  |.rangeFunc f i assign g=>E4 P R fn ro ds env k h f i assign g
  |_=>none
def po:Item->C6
  |.code c=>ny P R fn ro ds env k h c
  |.inBlock _=>Tq R fn ro ds env k h
  |.inScope _=>Tq R fn ro ds env k h
  |.inLoop b=>S4 R fn ro ds env k h b (.inLoop b)
  |.beginRound=>Gk R fn ro ds env k h
  |_=>none
end td
def Nq (P:Program) (R:mA) (fn:FuncId) (ro:Option Nat) (ds:List Nat) (env:En) (k:List Item) (h:AH):Option (Hv×AH):=
 List.rec (motive:=fun _=>C6) (qk ds env h) (fun x k _=>po P R fn ro ds env k h x) k
section op
variable (P:Program) (R:mA) (all:Array Oper) (rest:List Oper) (env:En) (h:AH) (o:Oper)
def zq (x:Value×AH):C6:=R (.ops all rest (tJ env o.dst x.1)) x.2
def Y0:C6:=Option.rec (motive:=fun _=>C6) none (zq R all rest env o) (zJ P R env h o.op)
def x6:C6:=R (.ops all rest (tJ env o.dst undef)) h
def zz (w:Option Bool):C6:=Option.rec (motive:=fun _=>C6) none (fun b=>Bool.rec (motive:=fun _=>C6) (x6 R all rest env h o) (Y0 P R all rest env h o) b) w
end op
def Lq (P:Program) (R:mA) (all:Array Oper) (rest:List Oper) (env:En) (h:AH):Option (Hv×AH):=
 match rest with
 |[]=>some (⟨.fX,[],env,undef⟩,h)
 |o::rest=>
  zz P R all rest env h o (iW all env o)
def Fc (P:Program) (K:FuncId->List Value->Option fC) (R:mA) (f:FuncId) (args:List Value) (h:AH):Option (Hv×AH):=
 match K f args with
 |some (.val v)=>some (⟨.fX,[],Ss,v⟩,h)
 |some (.fwd g d)=>match R (.call g d) h with
  |some (o,b)=>if Ip o.v then some (⟨.fX,[],Ss,o.v⟩,b) else none
  |none=>none
 |some (.host F)=>(F h).map fun r=>(⟨.fX,[],Ss,r.1⟩,r.2)
 |none=>
  match jy P.funcs.toList f with
  |some fn=>
   match fn.body with
   |some a=>
    match R (.todo f none [] (En.of args (fn.ntmps - args.length)) [.code a]) h with
    |some (o,b)=>
     match o.leave with
     |.exit _=>none
     |_=>match bG o.ds b with
      |some c=>(nG P c o.env fn.results.toList).map fun e=>(⟨.fX,[],Ss,oneOf e⟩,c)
      |none=>none
    |none=>none
   |none=>none
  |none=>none
def B2 (R:mA) (l:Nat) (args:List Value) (h:AH):Option (Hv×AH):=
 match h.get l with
 |some (.loop _ _ fn c e assign a _)=>
  if args.length=e.size then
   match R (.todo fn (some l) [] (En.of ((e.toList.zip args).foldl (fun t (p,v)=>t.set p v) c) 0) [.code assign,.beginRound,.code a]) h with
   |some (o,d)=>
    if o.ds.isEmpty then
     match o.leave with
     |.fX=>(bS d l .ready (some none)).map fun b=>(⟨.fX,[],Ss,.bool true⟩,b)
     |.ret=>(bS d l .done (some (some .ret))).map fun b=>(⟨.fX,[],Ss,.bool false⟩,b)
     |.exit id=>(bS d l .done (some (some (.exit id)))).map fun b=>(⟨.fX,[],Ss,.bool false⟩,b)
    else none
   |none=>none
  else none
 |_=>none
def yp (P:Program) (K:FuncId->List Value->Option fC) (R:mA) (t:Mq) (h:AH):Option (Hv×AH):=
 Mq.rec (motive:=fun _=>C6) (fun fn ro ds env k=>Nq P R fn ro ds env k h) (fun all rest env=>Lq P R all rest env h) (fun f a=>Fc P K R f a h) (fun l a=>B2 R l a h) t
def Py (P:Program) (K:FuncId->List Value->Option fC) (n:Nat):mA:=
 Nat.rec (motive:=fun _=>mA) (fun _ _=>none) (fun _ R=>yp P K R) n
section same
variable {P:Program} {K:FuncId->List Value->Option fC} {R':mA} {R:iK}
theorem A4.val (a:A4 R' R) (t:Mq) (h:AH):(R' t h).map (fun r=>(r.1.v,r.2))=(R (qi t) h).map fun r=>(r.1.v,r.2):=by
 rw[a t h,Option.map_map];rfl
theorem wX (b:A4 R' R) (a:Operand->Value) (h:AH) (op:Op):eT P R' a h op=cH P R a h op:=by
 have c:∀g l,(R' (.call g l) h).map (fun r=>(r.1.v,r.2))=(R (.call g l) h).map fun r=>(r.1.v,r.2):=fun g l=>b.val _ _;have d:∀g l,(R' (.round g l) h).map (fun r=>(r.1.v,r.2))=(R (.round g l) h).map fun r=>(r.1.v,r.2):=fun g l=>b.val _ _;unfold eT cH;simp only[c,d];rfl
theorem Rn (a:A4 R' R) (env:En) (h:AH) (op:Op):zJ P R' env h op=iD P R env.sN h op:=by
 rw[Mo];unfold iD;simp only[rB,Fj,wX a];rfl
theorem Ko (b:A4 R' R) (all:List Oper) (a i:Nat) (env:En) (h:AH) (o:Oper):lD P R' all a i env h o=dF P R all a i env.sN h o:=by
 rw[Hw];unfold dF;simp only[uQ,rB,zL,wX b];rfl
theorem zE (b:A4 R' R) (all:List Oper) (a:Nat):∀(os:List Oper) (i:Nat) (env:En) (h:AH),
    dY P R all a i os env.sN h=(iG P R' all a i os env h).map fun r=>(r.1.map uu,r.2.1.sN,r.2.2)
 |[],_,_,_=>rfl
 |o::os,i,env,h=>by
  rw[Ec];simp only[dY,Ko b];cases dF P R all a i env.sN h o with
  |none=>rfl
  |some r=>
   obtain⟨v,c⟩:=r;simp only[<-F3,zE b all a os];cases iG P R' all a (i+1) os (tJ env o.dst v) c with
   |none=>rfl
   |some r=>rfl
theorem O1 (all:List Oper) (rs:List lz) (hEnd:AH) (x:Nat×Nat):Ax P all rs hEnd x=nA P all (rs.map uu) hEnd x:=by
 unfold Ax nA;simp only[List.getElem?_map];cases all[x.1]? with
 |none=>rfl
 |some o=>
  cases rs[x.1]? with
  |none=>rfl
  |some r=>
   simp only[Option.map_some,uQ,rB,zL];cases rs[x.2]?<;>rfl
theorem My (c:A4 R' R) (ops:Array Oper) (env:En) (h:AH):lK P R ops env.sN h=(Av P R' ops env h).map fun r=>(r.1.sN,r.2):=by
 unfold Av lK;rw[zE c];split;cases iG P R' ops.toList h.next 0 ops.toList env {h with next:=h.next+ops.size} with
 |none=>rfl
 |some r=>
  obtain⟨b,e,a⟩:=r;have:Ax P ops.toList b a=nA P ops.toList (b.map uu) a:=funext (O1 _ b a);simp only[Option.map_some,this];split<;>rfl
 rfl
theorem rR (h:AH) (env:En):∀b,nG P h env b=dK P h env.sN b
 |[]=>rfl
 |.tmp t::b=>by simp only[nG,dK,En.get_eq,rR h env b]
 |.cell a t::b=>by simp only[nG,dK,En.get_eq,rR h env b];rfl
theorem Pn (P:Program) (R:mA) (all:Array Oper) (rest:List Oper) (env:En) (h:AH):Lq P R all rest env h=
  match rest with
  |[]=>some (⟨.fX,[],env,undef⟩,h)
  |o::rest=>
   match iW all env o with
   |none=>none
   |some false=>R (.ops all rest (tJ env o.dst undef)) h
   |some true=>match zJ P R env h o.op with
    |some (v,a)=>R (.ops all rest (tJ env o.dst v)) a
    |none=>none:=by
 cases rest with
 |nil=>rfl
 |cons o rest=>
  show zz P R all rest env h o (iW all env o)=_
  simp only
  cases iW all env o with
  |none=>rfl
  |some b=>
   cases b with
   |false=>rfl
   |true=>
    show Y0 P R all rest env h o=_
    unfold Y0
    simp only
    cases zJ P R env h o.op<;>rfl
theorem Ql (a:A4 R' R) (all:Array Oper) (rest:List Oper) (env:En) (h:AH):mO P R all rest env.sN h=(Lq P R' all rest env h).map rD:=by
 rw[Pn];unfold mO;cases rest with
 |nil=>rfl
 |cons o rest=>
  simp only[uQ,Rn a];cases cJ all env.sN o with
  |none=>rfl
  |some b=>
   cases b with
   |false=>simp only[<-F3];exact a (.ops all rest (tJ env o.dst undef)) h
   |true=>
    simp only;cases iD P R env.sN h o.op with
    |none=>rfl
    |some r=>simp only[<-F3];exact a (.ops all rest (tJ env o.dst r.1)) r.2
theorem Pk (y:A4 R' R) (fn:FuncId) (ro:Option Nat) (ds:List Nat) (env:En) (k:List Item) (h:AH):cG P R fn ro ds env.sN k h=(Nq P R' fn ro ds env k h).map rD:=by
 have m:∀fn ro ds (env:En) k h,R (.todo fn ro ds env.sN k) h=(R' (.todo fn ro ds env k) h).map rD:=fun fn ro ds env k h=>y (.todo fn ro ds env k) h;unfold cG;cases k with
 |nil=>rfl
 |cons x k=>
  cases x with
  |code c=>
   cases c with
   |skip=>exact m ..
   |label _=>exact m ..
   |seq a b=>exact m ..
   |cond c t e=>
    show _=(Jt P R' fn ro ds env k h c t e).map rD;unfold Jt;simp only[rB];cases bT P env.sN c<;>first|rfl|exact m ..
   |block id b=>exact m ..
   |loop b=>exact m ..
   |scope b=>exact m ..
   |exit id=>
    show _=(Lj R' fn ro ds env k h id).map rD;unfold Lj;simp only;cases exitTo id k with
    |none=>simp only;split<;>rfl
    |some H=>exact m ..
   |ret=>rfl
   |region i ops d=>
    cases d with
    |false=>
     show _=(Qn R' fn ro ds env k h ops).map rD;unfold Qn S3;simp only;rw[show R (.ops ops ops.toList env.sN) h=(R' (.ops ops ops.toList env) h).map rD from y (.ops ops ops.toList env) h];cases R' (.ops ops ops.toList env) h with
     |none=>rfl
     |some r=>exact m ..
    |true=>
     show _=(J9 P R' fn ro ds env k h ops).map rD;unfold J9 P3;simp only[My y];cases Av P R' ops env h with
     |none=>rfl
     |some r=>exact m ..
   |rangeFunc f z assign n=>
    show _=(E4 P R' fn ro ds env k h f z assign n).map rD;unfold E4;simp only[rB];split;rename_i d q A C;have s:wi h ds ro=some (d,q,A):=C;simp only[s];split;rename_i g first j D
    simp only[D];split;rw[show R (.call g (first.toList++[.func (.yield q.next) #[] #[]]++j.toList)) (q.alloc (.loop .ready none fn env.sN z assign n d))=
     (R' (.call g (first.toList++[.func (.yield q.next) #[] #[]]++j.toList)) (q.alloc (.loop .ready none fn env.sN z assign n d))).map rD from y (.call g _) _]
    cases R' (.call g (first.toList++[.func (.yield q.next) #[] #[]]++j.toList)) (q.alloc (.loop .ready none fn env.sN z assign n d)) with
    |none=>rfl
    |some r=>
     simp only[Option.map_some,rD];split;rename_i st p _ _ _ _ _ _ u;simp only[u];split;rfl;split;rename_i G w;simp only[w];exact m ..;rename_i w;simp only[w];rfl;rename_i u;split;rename_i v;exact absurd v (u _ _ _ _ _ _ _ _);rfl
    rfl;rename_i D;split;rename_i E;exact absurd E (D _ _ _);rfl;rename_i C;have s:wi h ds ro=none:=C;simp only[s];rfl
   |_=>rfl
  |inBlock _=>exact m ..
  |inScope _=>exact m ..
  |inLoop b=>exact m ..
  |beginRound=>
   show _=(Gk R' fn ro ds env k h).map rD;unfold Gk;cases ro with
   |none=>rfl
   |some l=>
    simp only;split;rename_i u;simp only[u];split;rename_i F w;simp only[w];exact m ..;rename_i w;simp only[w];rfl;rename_i u;split;rename_i v;exact absurd v (u _ _ _ _ _ _ _);rfl
  |_=>rfl
theorem Oc (i:A4 R' R) (f:FuncId) (args:List Value) (h:AH):gX P K R f args h=(Fc P K R' f args h).map rD:=by
 unfold Fc gX;cases K f args with
 |some a=>
  cases a with
  |val v=>rfl
  |fwd g c=>
   simp only;rw[show R (.call g c) h=(R' (.call g c) h).map rD from i (.call g c) h];cases R' (.call g c) h with
   |none=>rfl
   |some r=>simp only[Option.map_some,rD,jt];split<;>rfl
  |host F=>simp only;cases F h<;>rfl
 |none=>
  simp only;rw[Jy,Array.getElem?_toList];cases P.funcs[f]? with
  |none=>rfl
  |some fn=>
   simp only;cases fn.body with
   |none=>rfl
   |some b=>
    simp only;rw[<-En.of_eq,show R (.todo f none [] (En.of args (fn.ntmps - args.length)).sN [.code b]) h=(R' (.todo f none [] (En.of args (fn.ntmps - args.length)) [.code b]) h).map rD from i (.todo f none [] (En.of args (fn.ntmps - args.length)) [.code b]) h];cases R' (.todo f none [] (En.of args (fn.ntmps - args.length)) [.code b]) h with
    |none=>rfl
    |some r=>
     obtain⟨⟨j,ds,env,v⟩,e⟩:=r;simp only[Option.map_some,rD,jt,rR];cases j with
     |exit id=>rfl
     |fX=>simp only;cases bG ds e with|none=>rfl|some d=>simp only;cases dK P d env.sN fn.results.toList<;>rfl
     |ret=>simp only;cases bG ds e with|none=>rfl|some d=>simp only;cases dK P d env.sN fn.results.toList<;>rfl
theorem Jx (i:A4 R' R) (l:Nat) (args:List Value) (h:AH):jA R l args h=(B2 R' l args h).map rD:=by
 unfold B2 jA;split;rename_i fn a g as bd d c;simp only[c];split;have f:∀t:List Value,(En.of t 0).sN=t:=fun t=>by rw[En.of_eq];simp
 have:=i (.todo fn (some l) [] (En.of ((g.toList.zip args).foldl (fun t (p,v)=>t.set p v) a) 0) [.code as,.beginRound,.code bd]) h;simp only[qi,f] at this;rw[this];cases R' (.todo fn (some l) [] (En.of ((g.toList.zip args).foldl (fun t (p,v)=>t.set p v) a) 0) [.code as,.beginRound,.code bd]) h with
 |none=>rfl
 |some r=>
  obtain⟨⟨j,ds,env,v⟩,b⟩:=r;simp only[Option.map_some,rD,jt];split;cases j with
  |fX=>simp only;cases bS b l .ready (some none)<;>rfl
  |ret=>simp only;cases bS b l .done (some (some .ret))<;>rfl
  |exit id=>simp only;cases bS b l .done (some (some (.exit id)))<;>rfl
  rfl
 rfl;rename_i c;split;rename_i e;exact absurd e (c _ _ _ _ _ _ _ _);rfl
theorem T8:∀n,A4 (Py P K n) (run P K n)
 |0=>fun t h=>by cases t<;>rfl
 |n+1=>fun t h=>by
  have b:A4 (Py P K n) fun t h=>run P K n t h:=T8 n;cases t with
  |todo fn ro ds env k=>exact Pk b ..
  |ops all rest env=>exact Ql b ..
  |call f a=>exact Oc b ..
  |round l a=>exact Jx b ..
end same
theorem Cj {P:Program} {K:FuncId->List Value->Option fC} {n:Nat} {f:FuncId} {args:List Value} {h:AH} {v:Value} (a:((Py P K n (.call f args) h).any fun r=>oO r.1.v v)=true):
  ((run P K n (.call f args) h).any fun r=>oO r.1.v v)=true:=by
 have:=T8 (P:=P) (K:=K) n (.call f args) h
 simp only[qi] at this
 rw[this]
 revert a
 cases Py P K n (.call f args) h<;>exact id
end
end Go.Ab
end
section
namespace Go.Ab
noncomputable section
variable {P:Program} {K:FuncId->List Value->Option fC}
def sub:Code->List Nat->Code
 |c,[]=>c
 |.seq a _,0::p=>sub a p
 |.seq _ b,1::p=>sub b p
 |.cond _ t _,0::p=>sub t p
 |.cond _ _ e,1::p=>sub e p
 |.block _ b,0::p=>sub b p
 |.loop b,0::p=>sub b p
 |.scope b,0::p=>sub b p
 |.rangeFunc _ _ a _,0::p=>sub a p
 |.rangeFunc _ _ _ b,1::p=>sub b p
 |_,_=> .skip
def Eo (P:Program) (f:FuncId):Option Code:=(P.funcs[f]?).bind (·.body)
def yb (P:Program) (f:FuncId):Nat:=(P.funcs[f]?).elim 0 (·.ntmps)
def cd (P:Program) (f:FuncId) (p:List Nat):Code:=sub ((Eo P f).getD .skip) p
def Cl (P:Program) (K:FuncId->List Value->Option fC) (f:FuncId) (args:List Value) (h:AH) (Q:Value->AH->Prop):Prop:=Ok P K (.call f args) h fun o a=>Q o.v a
theorem Cl.mono {f:FuncId} {args:List Value} {h:AH} {Q a:Value->AH->Prop} (k:Cl P K f args h Q) (c:∀v b,Q v b->a v b):Cl P K f args h a:=Ok.mono k fun _ _=>c _ _
def lpB (P:Program) (f:FuncId) (p:List Nat) (n:Nat) (e:Nat->Value) (d:Nat) (st:LoopState) (pd:Option Code):jD:=match cd P f p with
 |.rangeFunc _ c a b=> .loop st pd f ((List.range n).map e) c a b d
 |_=> .marks false
abbrev I (n:Int):Value:= .int .i64 n
def pt (b o j:Nat):Value:= .pointer (some ⟨b,o+j,none⟩)
def yn:Nat->Nat->List Nat->List Nat
 |0,_,acc=>acc
 |f+1,n,acc=>if n<=1 then acc else yn f (n/2) (n % 2::acc)
def mJ (n:Nat):List Nat:=yn 120 n []
def zl:Code->Operand×Array Tmp×Code×Code
 |.rangeFunc f c a b=>(f,c,a,b)
 |_=>(.tmp 0, #[],.skip,.skip)
end
end Go.Ab
end
