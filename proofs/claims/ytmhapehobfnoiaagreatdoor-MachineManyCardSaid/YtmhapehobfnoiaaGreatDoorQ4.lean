/- A part of the proof. -/
import Derived.Test.YtmhapehobfnoiaaGreatDoorQ3
namespace Go.Ab
open Go.RowKit
section
variable {P:Program} {B:Nat} {K:FuncId->List Value->Option iL}
theorem Qy {α:Type} {l:List α} {f:α×Nat->Bool} (h:l.zipIdx.all f=true) {k:Nat} {o:α} (a:l[k]?=some o):f (o,k)=true:=by
 grind
theorem Vh {l:List Nat} (a:l.Pairwise (·<·)) {i p:Nat} (c:l.find? (fun x=>decide (i<x))=some p):i<p/\p∈l/\∀j∈l,i<j->p<=j:=by
 obtain⟨b,as,f,rfl,g⟩:=List.find?_eq_some_iff_append.1 c;refine⟨by simpa using b,by simp,?_⟩;intro j e d;rcases List.mem_append.1 e with h|h;grind;rw[List.pairwise_append] at a;rcases List.mem_cons.1 h with h|h;omega;have:=(List.pairwise_cons.1 a.2.1).1 j h;omega
structure Fit (all:List Oper):Prop where
 dir:∀(k:Nat) o,all[k]?=some o->∀j∈eV o,j<k
 kind:∀(k:Nat) o,all[k]?=some o->kindOf o.op≠.other
 oW:∀i j:Nat,∀t,(all[i]?).bind (·.dst)=some t->(all[j]?).bind (·.dst)=some t->i=j
 tmps:∀i j:Nat,∀o p d,all[i]?=some o->all[j]?=some p->i≠j->p.dst=some d->d∈Ca all o->(j<i->ahead (eT all []) j i=true)/\(i<j->ahead (eT all []) i j=true)
 uL:∀i j:Nat,∀o p,all[i]?=some o->all[j]?=some p->dP o.op=true->dP p.op=true->j<i->ahead (eT all []) j i=true
theorem Yt {all:List Oper} (h:Fh all=true):Fit all:=by
 unfold Fh at h;simp only[Bool.and_eq_true] at h;obtain⟨⟨⟨b,g⟩,c⟩,_⟩:=h;have pair:∀i j:Nat,∀o p,all[i]?=some o->all[j]?=some p->i≠j->
   (o.dst.isNone||o.dst !=p.dst)=true/\
   (match p.dst with|some d=> !(Ca all o).contains d||(if j<i then ahead (eT all []) j i else ahead (eT all []) i j)|none=>true)=true/\
   (!(dP o.op&&dP p.op&&decide (j<i))||ahead (eT all []) j i)=true:=by
  intro i j o p a f e
  have:=Qy (Qy c a) f
  grind
 refine {dir:=?_,kind:=?_,oW:=?_,tmps:=?_,uL:=?_};intro k o a j l;have:=Qy b a;grind;grind;grind;grind;grind
theorem aGg {all:List Oper} {i s n:Nat} (f:n=all.length) (e:i<n):
  let uL:=(List.range n).filter fun i=>(all[i]?).any fun o=>dP o.op
  ((uL++[n]).find? fun x=>decide (i<x)).getD n=s->i<s/\∀j p,i<j->j<s->all[j]?=some p->dP p.op=false:=by
 intro uL b
 have a:(uL++[n]).Pairwise (·<·):=by
  rw[List.pairwise_append];refine⟨(List.pairwise_lt_range).filter _,by simp,?_⟩;grind
 cases hf:(uL++[n]).find? fun x=>decide (i<x) with
 |none=>
  grind
 |some p=>
  rw[hf] at b
  simp only[Option.getD_some] at b
  subst b
  obtain⟨c,_,d⟩:=Vh a hf
  grind
theorem Z6 {all:List Oper} {i s:Nat} {o:Oper} (f:all[i]?=some o) (q:gE o.op=true) (r:s=all.length\/∃p,all[s]?=some p/\dP p.op=true)
  (d:∀j p,all[j]?=some p->dP p.op=true->(j<s->ahead (eT all []) i j=false)/\(s<=j->ahead (eT all []) j i=false))
  (c:¬(i<s/\∀j p,i<j->j<s->all[j]?=some p->dP p.op=false)):(i,s)∈B0 all:=by
 have b:i<all.length:=(List.getElem?_eq_some_iff.1 f).1
 unfold B0
 simp only
 rw[List.mem_flatMap]
 refine⟨i,List.mem_range.2 b,?_⟩
 rw[aLy (by simp[f,q])]
 rw[List.mem_map]
 refine⟨s,?_,rfl⟩
 rw[List.mem_filter]
 constructor
 .grind
 .rw[Bool.and_eq_true];constructor
  .simp only[bne_iff_ne,ne_eq];intro m;exact c (aGg rfl b m.symm)
  .rw[List.all_eq_true];intro j e;rw[List.mem_filter] at e;obtain⟨n,a⟩:=e;cases hp:all[j]? with
   |none=>simp[hp] at a
   |some p=>
    simp[hp] at a
    obtain⟨g,l⟩:=d j p hp a
    split
    .rename_i h;simp[g h]
    .rename_i h;simp[l (by omega)]
theorem Xm {R:jH} {all:List Oper} {d:Nat}:∀(os:List Oper) (i:Nat) (env:List Value) (h:AH) (rs:List Rec) (e:List Value) (b:AH),gJ P R all d i os env h=some (rs,e,b)->rs.length=os.length
 |[],i,env,h,rs,e,b,a=>by
  simp only[gJ,Option.some.injEq,Prod.mk.injEq] at a;rw[<-a.1];rfl
 |o::os,i,env,h,rs,e,b,a=>by
  simp only[gJ] at a;split at a;split at a;rename_i c;simp only[Option.some.injEq,Prod.mk.injEq] at a;rw[<-a.1,List.length_cons,List.length_cons,Xm os _ _ _ _ _ _ c];cases a;cases a
theorem aBp (C:Ctx P B K) (R:jH) (hR:Bc C R):wi C R:=by
 intro ops env h θ h' c ρ w b a cs k t g hg he;unfold qF at c;split at c;rename_i y;rw[Bool.and_eq_true] at y;obtain⟨y,I⟩:=y;split at c;rename_i rs e hN q;split at c;rename_i G;simp only[Option.some.injEq,Prod.mk.injEq] at c;obtain⟨rfl,rfl⟩:=c;have fit:=Yt y;generalize r:ops.toList=all at fit q G y;have ι:ops.size=all.length:=by rw[<-r];simp
 obtain⟨E,H,V,U,D,z,W,F,T⟩:=Ms all 0 env _ rs e hN q;have d:Dr P R all h.next E H V:={
  step:=fun j o J=>by have:=(z j o J).1;rwa [Nat.zero_add] at this
  env:=fun j o J=>(z j o J).2
  dir:=fit.dir,kind:=fit.kind,oW:=fit.oW,tmps:=fit.tmps,uL:=fit.uL
  flt:=fun i s o J hl hs δ X S hw=>by
   rw[List.all_eq_true] at G;have:=G (i,s) (Z6 J hl δ X S);have α:i<all.length:=(List.getElem?_eq_some_iff.1 J).1;unfold rK at this;simp only[J,T i α,hw] at this;have hh:eH P (cZ P (E i)) (H s) o.op=some (V i):=by
    rcases Nat.lt_or_ge s all.length with h1|h1;rw[T s h1] at this;simp only at this;split at this;rename_i v hv;rw[hv,Fj _ _ this];cases this;have ε:s=all.length:=by omega
    rw[List.getElem?_eq_none (by rw[Xm _ _ _ _ _ _ _ q];omega)] at this;simp only at this;rw[ε,F];split at this;rename_i v hv;rw[hv,Fj _ _ this];cases this
   exact hh}
 have hB:B<=w.heap.size:=g.size;have Z:Inv P B ρ (H 0) w:=by
  rw[D];exact {mS:=g.mS,inj:=g.inj,low:=g.low,old:=g.old,fresh:=fun i h1=>g.fresh i (by simp at h1;omega),gY:=fun i h1=>g.gY i (by simp at h1;omega),pF:=g.pF,size:=g.size,bn:=by have:=g.bn;grind}
 have l:∀i,(H 0).get i=h.get i:=fun i=>by rw[D];rfl
 have η:St P B all h.next E H V ρ h w [] 0 ρ w a.tmps.toList:={
  C3:={ext:=Ext.refl _,inv:=Z,un:=fun _ _ h=>h,nB:=fun i _ _=>l i,stay:=fun i _ h1=>by rw[l];exact h1,frame:=fun _ _ _=>rfl,
                range:=fun i b s h1 u h3 _=>⟨i,s,h1,by grind,h3⟩,base:=by rw[D],vC:=fun i _=>l i,size:=Nat.le_refl _,os:=rfl,out:=rfl,tape:=rfl}
  qh:=fun i h1=>by cases h1
  closed:=fun i h1=>by cases h1
  s1:=fun j o h1=>by omega
  s3:=fun j o _ _ h1=>by cases h1
  sle:=Nat.zero_le _
  env:=by rw[U];exact he
  nx:=by grind
  B9:=fun i o b f _ h1=>by cases h1
  uJ:=fun i n t h1 u=>by rw[g.fresh _ (by omega)] at u;cases u
  lone:=fun i n t _ h1 u=>by rw[g.fresh _ (by omega)] at u;cases u
  H2:=fun i i' n t t' _ _ u=>by rw[g.fresh _ (by omega)] at u;cases u
  fa:=fun i _ _=>g.fresh _ (by omega)
  yb:=fun i o _ _=>g.fresh _ (by omega)
  rev:=fun i o b f h1=>by omega
  gu:=fun j _ _=>by rw[l];exact g.gY _ (by omega)
  gr:=fun m hm _=>(have:m=0:=(by omega);this▸oH.refl _)}
 obtain⟨s,st1,Y⟩:=η.advance d g.bn hB _ _ rfl;have A:Region.schedule (P.follows .mixedOrders) ops t=Region.linearise.go .any ops ops.size t (Array.replicate ops.size false) []:=by
  unfold Region.schedule;rw[aLy I];rfl
 have O:wI all [] (Region.schedule (P.follows .mixedOrders) ops t):=by
  rw[A,<-r];refine Bj (by rw[r];exact fit.dir) ops.size t _ [] (by simp) (fun i g=>by simp[g]) ?_;grind
 obtain⟨D',ρ',w',a',st2,β,L,ζ⟩:=Lx C hR r d g.bn hB g hg (b:=b) (cs:=cs) (k:=k) _ [] s ρ w a O Y st1;have x:=st2.C3;rw[F] at x;have γ:=st2.nx;rw[F] at γ;refine⟨ρ',w',a',x.C3 (by omega),?_,L,ζ⟩;have M:e=xZ all V (E 0) D':=by
  rw[<-W,d.aDt _ (Nat.le_refl _)];refine List.ext_getElem? fun t=>P5 (fun i j h1 u=>fit.oW i j t h1 u) fun j hj=>?_;have N:j<all.length:=by
   cases hp:all[j]? with
   |none=>rw[hp] at hj;cases hj
   |some p=>grind
  simp[N,β j N]
 rw[M];exact st2.env;cases c;cases c;cases c
theorem nf (C:Ctx P B K) (n:Nat):Bc C (run P K n):=aEx C (aBp C) n
end
end Go.Ab
section
namespace Go.Ab
variable {P:Program} {K:FuncId->List Value->Option iL}
def jH.le (R R':jH):Prop:=∀t h r,R t h=some r->R' t h=some r
theorem vO {R R':jH} (e:R.le R') {d:Operand->Value} {h:AH} {op:Op} {r:Value×AH} (a:eA P R d h op=some r):eA P R' d h op=some r:=by
 unfold eA at a ⊢;split;exact a;exact a;simp only at a ⊢;split;grind;rename_i g;simp only[g] at a;split;rename_i b;simp only[b] at a;split;rename_i f;rw[aLy f] at a;simp only[Option.map_eq_some_iff] at a ⊢;obtain⟨x,c,rfl⟩:=a;exact⟨x,e _ _ _ c,rfl⟩;grind;rename_i b;simp only[b] at a;simp only[Option.map_eq_some_iff] at a ⊢;obtain⟨x,c,rfl⟩:=a;exact⟨x,e _ _ _ c,rfl⟩;grind;grind;grind
theorem N3 {R R':jH} (b:R.le R') {env:List Value} {h:AH} {op:Op} {r:Value×AH} (a:lR P R env h op=some r):lR P R' env h op=some r:=by
 unfold lR at a ⊢;cases hk:kindOf op<;>simp only[hk] at a ⊢;exact a;exact a;exact vO b a;exact vO b a;exact a
theorem G9 {R R':jH} (f:R.le R') {all:List Oper} {d i:Nat} {env:List Value} {h:AH} {o:Oper} {r:Value×AH} (a:eZ P R all d i env h o=some r):eZ P R' all d i env h o=some r:=by
 unfold eZ at a ⊢;cases hw:eD ⟨all⟩ env o with
 |none=>grind
 |some b=>
  rw[hw] at a;cases b with
  |false=>exact a
  |true=>
   simp only at a ⊢;split;grind;rename_i e;rw[aLx e] at a;split;grind;rename_i c;rw[aLx c] at a;exact vO f a
theorem zG {R R':jH} (b:R.le R') {all:List Oper} {c:Nat}:∀(os:List Oper) {i:Nat} {env:List Value} {h:AH} {r:List Rec×List Value×AH},gJ P R all c i os env h=some r->gJ P R' all c i os env h=some r
 |[],_,_,_,_,a=>a
 |o::os,i,env,h,r,a=>by
  simp only[gJ] at a ⊢;split at a;rename_i v g d;rw[G9 b d];simp only;split at a;rename_i j e f;rw[zG b os f];exact a;cases a;cases a
theorem K5 {R R':jH} (c:R.le R') {ops:Array Oper} {env:List Value} {h:AH} {r:List Value×AH} (a:qF P R ops env h=some r):qF P R' ops env h=some r:=by
 unfold qF at a ⊢;split;rename_i b;rw[aLy b] at a;split at a;rename_i d;rw[zG c _ d];exact a;cases a;grind
theorem pg {R R':jH} (c:R.le R') {all:Array Oper} {rest:List Oper} {env:List Value} {h:AH} {r:Out×AH} (a:rA P R all rest env h=some r):rA P R' all rest env h=some r:=by
 unfold rA at a ⊢;cases rest with
 |nil=>exact a
 |cons o rest=>
  simp only at a ⊢;cases hw:eD all env o with
  |none=>grind
  |some b=>
   rw[hw] at a;cases b with
   |false=>exact c _ _ _ a
   |true=>
    simp only at a ⊢;split at a;rename_i v e d;rw[N3 c d];exact c _ _ _ a;cases a
theorem bp {R R':jH} (d:R.le R') {f:FuncId} {args:List Value} {h:AH} {r:Out×AH} (a:jG P K R f args h=some r):jG P K R' f args h=some r:=by
 unfold jG at a ⊢;split;grind;rename_i b;rw[b] at a;simp only at a;split at a;rename_i c;rw[d _ _ _ c];exact a;cases a;grind;rename_i b;rw[b] at a;simp only at a;split at a;split at a;split at a;rename_i c;rw[d _ _ _ c];exact a;cases a;cases a;cases a
theorem Uz {R R':jH} (c:R.le R') {l:Nat} {args:List Value} {h:AH} {r:Out×AH} (a:mU R l args h=some r):mU R' l args h=some r:=by
 unfold mU at a ⊢;split at a;split at a;rename_i b;rw[aLy b];split at a;rename_i d;rw[c _ _ _ d];exact a;cases a;cases a;cases a
theorem bh {R R':jH} (b:R.le R') {fn:FuncId} {ro:Option Nat} {ds:List Nat} {env:List Value} {k:List Item} {h:AH} {r:Out×AH} (a:dW P R fn ro ds env k h=some r):dW P R' fn ro ds env k h=some r:=by
 unfold dW at a ⊢;split at a;exact a;rename_i c k;split at a;exact b _ _ _ a;exact b _ _ _ a;exact b _ _ _ a;split at a;exact b _ _ _ a;cases a;exact b _ _ _ a;exact b _ _ _ a;exact b _ _ _ a;split at a;exact b _ _ _ a;exact a;exact a;split at a;rename_i i;rw[b _ _ _ i];exact b _ _ _ a;cases a;split at a;rename_i i;rw[K5 b i];exact b _ _ _ a;cases a;split at a;rename_i d n j m;split at a;rename_i g first e p
 split at a;rename_i f;rw[aLy f];split at a;rename_i i;rw[b _ _ _ i];simp only;split at a;split at a;cases a;rename_i l;rw[aLx l];split at a;exact b _ _ _ a;cases a;cases a;cases a;cases a;cases a;cases a;cases a;exact b _ _ _ a;exact b _ _ _ a;exact b _ _ _ a;split at a;split at a;split at a;exact b _ _ _ a;cases a;cases a;cases a;cases a
theorem x8:∀n,(run P K n).le (run P K (n+1))
 |0,t,h,r,a=>by simp[run] at a
 |n+1,t,h,r,a=>by
  have c:=x8 n;cases t with
  |todo fn ro ds env k=>exact bh c a
  |ops all rest env=>exact pg c a
  |call f b=>exact bp c a
  |round l b=>exact Uz c a
theorem kU {n m:Nat} (h:n<=m):(run P K n).le (run P K m):=by
 induction h with
 |refl=>exact fun _ _ _ h=>h
 |step _ b=>exact fun t g r a=>x8 _ _ _ _ (b t g r a)
end Go.Ab
end
section
namespace Go.Ab
noncomputable section
variable {P:Program} {K:FuncId->List Value->Option iL}
def E1 (k:Nat) (a b:Value):Option Bool:=match k,a,b with
 |0,.int k m,.int c n=>if k=c then some (m==n) else none
 |1,.bool m,.bool n=>some (m==n)
 |2,.string m,.string n=>some (m==n)
 |_,_,_=>none
def mP:List Nat->List Value->List Value->Option Bool
 |[],[],[]=>some true
 |k::c,x::d,y::e=>match E1 k x y,mP c d e with
  |some a,some b=>some (a&&b)
  |_,_=>none
 |_,_,_=>none
def Ka (P:Program) (c:TypeId->Option (List Nat)):Nat->List Field->Option (List Nat)
 |_,[]=>some []
 |o,f::d=>if f.name="_"\/f.offset≠o then none else
  match c f.type,Ka P c (o+P.cellsOf f.type) d with
  |some a,some b=>if a.length=P.cellsOf f.type then some (a++b) else none
  |_,_=>none
def flatK (P:Program):Nat->TypeId->Option (List Nat)
 |0,_=>none
 |d+1,t=>match P.underlying t with
  |some .bool=>some [1]
  |some (.int _)=>some [0]
  |some .string=>some [2]
  |some (.array n e)=>if(P.info? e).isSome then
    (match flatK P d e with
    |some l=>if l.length=P.cellsOf e then some (List.replicate n l).flatten else none
    |none=>none) else none
  |some (.struct a)=>if P.stoodInHeld t then none else Ka P (flatK P d) 0 a.toList
  |_=>none
theorem qP:∀{c:List Nat} {a b:List Value} {r:Bool},mP c a b=some r->a.length=c.length/\b.length=c.length
 |[],[],[],_,_=>⟨rfl,rfl⟩
 |[],[],_::_,_,h=>by simp[mP] at h
 |[],_::_,_,_,h=>by simp[mP] at h
 |_::_,[],_,_,h=>by simp[mP] at h
 |_::_,_::_,[],_,h=>by simp[mP] at h
 |k::c,x::e,y::f,r,h=>by
  simp only[mP] at h;split at h;rename_i d;have:=qP d;simp[this];cases h
theorem Ci:∀{c d:List Nat} {a b:List Value} {r:Bool},mP (c++d) a b=some r->∃e f,mP c (a.take c.length) (b.take c.length)=some e/\mP d (a.drop c.length) (b.drop c.length)=some f/\r=(e&&f)
 |[],d,a,b,r,h=>⟨true,r,by simp[mP],by simpa using h,by simp⟩
 |k::g,d,[],_,r,h=>by simp[mP] at h
 |k::g,d,_::_,[],r,h=>by simp[mP] at h
 |k::g,d,x::n,y::p,r,h=>by
  simp only[List.cons_append,mP] at h;split at h;rename_i e f i j;cases h;obtain⟨s1,s2,l,m,rfl⟩:=Ci j;exact⟨e&&s1,s2,by simp[mP,i,l],by simpa using m,by rw[Bool.and_assoc]⟩;cases h
def valOf (P:Program) (t:TypeId) (a:List Value):Option Value:=match jD P t with
 |some true=>some (.agg ⟨a⟩)
 |some false=>a[0]?
 |none=>none
theorem Ao {t:TypeId} {xs a:List Value} {b:Nat} {v:Value} (e:(xs.drop b).take (P.cellsOf t)=a) (f:a.length=P.cellsOf t) (d:0<P.cellsOf t\/b<=xs.length) (c:valOf P t a=some v):apart P t xs b=some v:=by
 unfold valOf at c;unfold apart;grind
theorem On {eq:TypeId->Value->Value->Option Bool} {j:TypeId->Option (List Nat)}
  (n:∀t d a b r,j t=some d->d.length=P.cellsOf t->mP d a b=some r->∃x y,valOf P t a=some x/\valOf P t b=some y/\eq t x y=some r)
  {xs ys:List Value}:∀(fs:List Field) (o:Nat) (d:List Nat) (r:Bool),o<=xs.length->o<=ys.length->Ka P j o fs=some d->mP d (xs.drop o) (ys.drop o)=some r->lY P eq xs ys fs=some r
 |[],o,d,r,_,_,c,e=>by
  simp only[Ka,Option.some.injEq] at c;subst c;have:=qP e;have u:xs.drop o=[]:=List.eq_nil_of_length_eq_zero this.1;have v:ys.drop o=[]:=List.eq_nil_of_length_eq_zero this.2;rw[u,v] at e;simpa [mP,lY] using e
 |f::fs,o,d,r,C,D,c,e=>by
  simp only[Ka] at c;split at c;cases c;rename_i i;simp only[not_or,Decidable.not_not,ne_eq] at i;split at c;rename_i a b w z;split at c;rename_i g;cases c;obtain⟨H,G,l,m,rfl⟩:=Ci e;obtain⟨x,y,E,F,A⟩:=n _ _ _ _ _ w g l;have p:=qP l;have lc:=qP e;simp only[List.length_drop,List.length_append] at lc;have q:apart P f.type xs f.offset=some x:=Ao (by rw[i.2,<-g]) (by rw[p.1,g]) (.inr (by omega)) E;have s:apart P f.type ys f.offset=some y:=Ao (by rw[i.2,<-g]) (by rw[p.2,g]) (.inr (by omega)) F;simp only[lY];rw[aLx i.1,q,s];simp only[A];rw[List.drop_drop,List.drop_drop] at m;have:=On (xs:=xs) (ys:=ys) n fs (o+P.cellsOf f.type) b G (by omega) (by omega) z (by rw[<-g];exact m);grind;cases c;cases c
theorem Vm {eq:TypeId->Value->Value->Option Bool} {e:TypeId} {l:List Nat}
  (i:∀a b r,mP l a b=some r->∃x y,valOf P e a=some x/\valOf P e b=some y/\eq e x y=some r) (d:l.length=P.cellsOf e)
  {xs ys:List Value}:∀(n j:Nat) (r:Bool),j*P.cellsOf e<=xs.length->j*P.cellsOf e<=ys.length->mP (List.replicate n l).flatten (xs.drop (j*P.cellsOf e)) (ys.drop (j*P.cellsOf e))=some r->qG P eq e xs ys (List.range' j n)=some r
 |0,j,r,_,_,c=>by
  have:=qP c;simp only[List.replicate_zero,List.flatten_nil,List.length_nil] at this;have f:xs.drop (j*P.cellsOf e)=[]:=List.eq_nil_of_length_eq_zero this.1;have s:ys.drop (j*P.cellsOf e)=[]:=List.eq_nil_of_length_eq_zero this.2;rw[f,s] at c;simpa [mP,qG] using c
 |n+1,j,r,w,A,c=>by
  rw[List.replicate_succ,List.flatten_cons] at c;obtain⟨D,C,g,t,rfl⟩:=Ci c;obtain⟨x,y,v,z,u⟩:=i _ _ _ g;have m:=qP g;have lc:=qP c;simp only[List.length_drop,List.length_append] at lc;have p:apart P e xs (j*P.cellsOf e)=some x:=Ao (by rw[<-d]) (by rw[m.1,d]) (.inr (by omega)) v;have q:apart P e ys (j*P.cellsOf e)=some y:=Ao (by rw[<-d]) (by rw[m.2,d]) (.inr (by omega)) z;simp only[List.range'_succ,qG,p,q,u];rw[List.drop_drop,List.drop_drop] at t;have f:(j+1)*P.cellsOf e=j*P.cellsOf e+P.cellsOf e:=Nat.succ_mul _ _;have:=Vm (xs:=xs) (ys:=ys) i d n (j+1) C (by omega) (by omega) (by grind);grind
theorem aCd (d:Nat):∀(t:TypeId) (i:List Nat) (a b:List Value) (r:Bool),flatK P d t=some i->i.length=P.cellsOf t->mP i a b=some r->
  ∃x y,valOf P t a=some x/\valOf P t b=some y/\yD P d t x y=some r:=by
 induction d with
 |zero=>intro t i a b r h;simp[flatK] at h
 |succ d q=>
  intro t i a b r h p j
  have one:∀k,i=[k]->∃x y,a=[x]/\b=[y]/\E1 k x y=some r:=fun k p=>by
   subst p;have:=qP j;match a,b,this with
   |[x],[y],_=>
    refine⟨x,y,rfl,rfl,?_⟩;simp only[mP] at j;grind
  unfold flatK at h
  split at h
  .rename_i c;obtain⟨x,y,rfl,rfl,f⟩:=one 1 (by simpa using h.symm);refine⟨x,y,by simp[valOf,jD,c],by simp[valOf,jD,c],?_⟩;unfold E1 at f;split at f
   .rename_i g;cases g
   .cases f;unfold yD;simp[c]
   .rename_i g;cases g
   .cases f
  .rename_i k c;obtain⟨x,y,rfl,rfl,f⟩:=one 0 (by simpa using h.symm);refine⟨x,y,by simp[valOf,jD,c],by simp[valOf,jD,c],?_⟩;unfold E1 at f;split at f
   .split at f
    .rename_i m;subst m;cases f;unfold yD;simp[c]
    .cases f
   .rename_i g;cases g
   .rename_i g;cases g
   .cases f
  .rename_i c;obtain⟨x,y,rfl,rfl,f⟩:=one 2 (by simpa using h.symm);refine⟨x,y,by simp[valOf,jD,c],by simp[valOf,jD,c],?_⟩;unfold E1 at f;split at f
   .rename_i g;cases g
   .rename_i g;cases g
   .cases f;unfold yD;simp[c]
   .cases f
  .rename_i n e c;split at h
   .rename_i z;split at h
    .rename_i l A;split at h
     .rename_i hle;cases h;refine⟨.agg ⟨a⟩,.agg ⟨b⟩,by simp[valOf,jD,c],by simp[valOf,jD,c],?_⟩;unfold yD;simp only[c,z,if_true];rw[List.range_eq_range'];exact Vm (fun a b r j=>q e l a b r A hle j) hle n 0 r (by simp) (by simp) (by simpa using j)
     .cases h
    .cases h
   .cases h
  .rename_i s c;split at h
   .cases h
   .rename_i C;refine⟨.agg ⟨a⟩,.agg ⟨b⟩,by simp[valOf,jD,c],by simp[valOf,jD,c],?_⟩;unfold yD;simp only[c,C,Bool.false_eq_true,if_false];exact On (fun t i a b r u v w=>q t i a b r u v w) s.toList 0 i r (by simp) (by simp) h (by simpa using j)
  .cases h
def Mm (op:BinOp) (r:Bool):Option Value:=match op with
 |.eql=>some (.bool r)
 |.neq=>some (.bool !r)
 |_=>none
def sY (op:BinOp) (a b:Value):Option Value:=match a,b with
 |.int k m,.int c n=>if k=c then Nh op k m n else J8 op k m n
 |_,_=>none
def Ts (op:BinOp) (a b:Value):Option Value:=match a,b with
 |.string m,.string n=>aAo op m n
 |_,_=>none
def Pe (op:BinOp) (a b:Value):Option Value:=match a,b with
 |.bool m,.bool n=>Mm op (m==n)
 |_,_=>none
def No (op:BinOp) (a b:Value):Option Value:=match a,b with
 |.pointer none,.pointer b=>Mm op b.isNone
 |.pointer (some _),.pointer none=>Mm op false
 |_,_=>none
def M5 (op:BinOp) (a b:Value):Option Value:=match a,b with
 |.slice none _ _,.slice b _ _=>Mm op b.isNone
 |.slice (some _) _ _,.slice none _ _=>Mm op false
 |_,_=>none
def Qt (op:BinOp) (a b:Value):Option Value:=match a,b with
 |.nilFunc,.nilFunc=>Mm op true
 |.nilFunc,.func _ _ _=>Mm op false
 |.func _ _ _,.nilFunc=>Mm op false
 |_,_=>none
def Ns (c:Bool) (op:BinOp) (a b:Value):Option Value:=match a,b with
 |.nilIface,.nilIface=>if c then Mm op true else none
 |.nilIface,.iface _ _=>Mm op false
 |.iface _ _,.nilIface=>Mm op false
 |_,_=>none
def Ei (c:List Nat) (op:BinOp) (a b:Value):Option Value:=match a,b with
 |.agg d,.agg e=>(mP c d.toList e.toList).bind (Mm op)
 |_,_=>none
def Ie (P:Program) (t:TypeId):Option (List Nat):=match flatK P 10000 t with
 |some a=>if a.length=P.cellsOf t/\jD P t=some true/\P.eqGuardType P.depth t=false then some a else none
 |none=>none
def Xg (P:Program) (op:BinOp) (t:TypeId) (x y:Operand) (a b:Value) (q:Value->Prop) (bA:Option Value->(Value->Prop)->Prop):Prop:=
 match P.underlying t with
 |some (.int _)=>bA (sY op a b) q
 |some .string=>bA (Ts op a b) q
 |some .bool=>bA (Pe op a b) q
 |some (.pointer _)=>bA (No op a b) q
 |some (.slice _)=>bA (M5 op a b) q
 |some (.func _ _ _)=>bA (Qt op a b) q
 |some (.interface _)=>bA (Ns (isConst x||isConst y) op a b) q
 |some (.struct _)=>(match Ie P t with
  |some c=>bA (Ei c op a b) q
  |none=>False)
 |some (.array _ _)=>(match Ie P t with
  |some c=>bA (Ei c op a b) q
  |none=>False)
 |_=>False
theorem kQ {op:BinOp} {t:TypeId} {x y:Operand} {a b v:Value} {r:Bool} (e:∀k m d n,¬(a= .int k m/\b= .int d n)) (i:∀m n,¬(a= .string m/\b= .string n)) (c:Mm op r=some v) (f:Hj P t x y a b=true) (g:yD P 10000 t a b=some r):
  Qw P op t x y a b=some v:=by
 unfold Qw
 split
 .grind
 .grind
 .unfold Mm at c;grind
theorem lU {t:TypeId} {a b:Value} {r:Bool} (h:yD P (9999+1) t a b=some r):yD P 10000 t a b=some r:=h
theorem Us {op:BinOp} {t:TypeId} {x y:Operand} {a b:Value} {q:Value->Prop} (g:Xg P op t x y a b q fun o p=>∃v,o=some v/\p v):∃v,Qw P op t x y a b=some v/\q v:=by
 unfold Xg at g;split at g;obtain⟨v,c,d⟩:=g;refine⟨v,?_,d⟩;unfold sY at c;split at c;simp only[Qw];exact c;cases c;obtain⟨v,c,d⟩:=g;refine⟨v,?_,d⟩;unfold Ts at c;split at c;simp only[Qw];exact c;cases c;rename_i e;obtain⟨v,c,d⟩:=g;refine⟨v,?_,d⟩;unfold Pe at c;split at c;exact kQ (fun _ _ _ _ h=>by cases h.1) (fun _ _ h=>by cases h.1) c rfl (lU (by unfold yD;simp[e]));cases c;rename_i e;obtain⟨v,c,d⟩:=g;refine⟨v,?_,d⟩;unfold No at c;split at c;exact kQ (fun _ _ _ _ h=>by cases h.1) (fun _ _ h=>by cases h.1) c rfl (lU (by unfold yD;simp[e]));exact kQ (fun _ _ _ _ h=>by cases h.1) (fun _ _ h=>by cases h.1) c rfl (lU (by unfold yD;simp[e]));cases c;rename_i e;obtain⟨v,c,d⟩:=g;refine⟨v,?_,d⟩;unfold M5 at c;split at c;exact kQ (fun _ _ _ _ h=>by cases h.1) (fun _ _ h=>by cases h.1) c rfl (lU (by unfold yD;simp[e]));exact kQ (fun _ _ _ _ h=>by cases h.1) (fun _ _ h=>by cases h.1) c rfl (lU (by unfold yD;simp[e]));cases c;rename_i e;obtain⟨v,c,d⟩:=g;refine⟨v,?_,d⟩;unfold Qt at c;split at c;exact kQ (fun _ _ _ _ h=>by cases h.1) (fun _ _ h=>by cases h.1) c rfl (lU (by unfold yD;simp[e]));exact kQ (fun _ _ _ _ h=>by cases h.1) (fun _ _ h=>by cases h.1) c rfl (lU (by unfold yD;simp[e]));exact kQ (fun _ _ _ _ h=>by cases h.1) (fun _ _ h=>by cases h.1) c rfl (lU (by unfold yD;simp[e]));cases c;rename_i e;obtain⟨v,c,d⟩:=g;refine⟨v,?_,d⟩;unfold Ns at c;split at c;split at c;rename_i i;exact kQ (fun _ _ _ _ h=>by cases h.1) (fun _ _ h=>by cases h.1) c (by simpa [Hj] using i) (lU (by unfold yD;simp[e]));cases c;exact kQ (fun _ _ _ _ h=>by cases h.1) (fun _ _ h=>by cases h.1) c rfl (lU (by unfold yD;simp[e]));exact kQ (fun _ _ _ _ h=>by cases h.1) (fun _ _ h=>by cases h.1) c rfl (lU (by unfold yD;simp[e]));cases c;all_goals
  first
   |cases g
   |split at g
    .rename_i G f;obtain⟨v,c,d⟩:=g;refine⟨v,?_,d⟩;unfold Ei at c;split at c
     .rename_i D F;simp only[Option.bind_eq_some_iff] at c;obtain⟨r,z,u⟩:=c;unfold Ie at f;split at f
      .rename_i A m;split at f
       .rename_i i;cases f;obtain⟨C,E,j,l,w⟩:=aCd 10000 t _ _ _ _ m i.1 z;simp only[valOf,i.2.1,Option.some.injEq] at j l;have n:C= .agg D:=j.symm;have s:E= .agg F:=l.symm;subst n;subst s;exact kQ (fun _ _ _ _ h=>by cases h.1) (fun _ _ h=>by cases h.1) u (by simp[Hj,i.2.2]) w
       .cases f
      .cases f
     .cases c
    .cases g
end
end Go.Ab
end
section
namespace Go.Ab
noncomputable section
variable {P:Program} {K:FuncId->List Value->Option iL}
def Ok (P:Program) (K:FuncId->List Value->Option iL) (t:Task) (h:AH) (Q:Out->AH->Prop):Prop:=∃n r,run P K n t h=some r/\Q r.1 r.2
def bA {α:Type} (o:Option α) (p:α->Prop):Prop:=∃v,o=some v/\p v
def Br (v:Value) (p q:Prop):Prop:=∃b,v= .bool b/\(b=true->p)/\(b=false->q)
theorem Ok.mono {t:Task} {h:AH} {Q a:Out->AH->Prop} (k:Ok P K t h Q) (e:∀o b,Q o b->a o b):Ok P K t h a:=
 let⟨n,r,c,d⟩:=k;⟨n,r,c,e _ _ d⟩
theorem Ok.of {t:Task} {h:AH} {Q:Out->AH->Prop} {n:Nat} {o:Out} {h':AH} (b:run P K n t h=some (o,h')) (a:Q o h'):Ok P K t h Q:=⟨n,(o,h'),b,a⟩
@[simp] theorem aIq {α:Type} {v:α} {p:α->Prop}:bA (some v) p↔p v:=⟨fun⟨_,h,k⟩=>by cases h;exact k,fun k=>⟨v,rfl,k⟩⟩
@[simp] theorem aH1 {α:Type} {p:α->Prop}:bA none p↔False:=⟨fun⟨_,h,_⟩=>(nomatch h),False.elim⟩
@[congr] theorem aGo {α:Type} {o o':Option α} {p:α->Prop} (h:o=o'):bA o p↔bA o' p:=by rw[h]
theorem bA.mono {α:Type} {o:Option α} {p c:α->Prop} (h:bA o p) (k:∀v,p v->c v):bA o c:=let⟨v,a,b⟩:=h;⟨v,a,k v b⟩
@[simp] theorem aB3 {p q:Prop}:Br (.bool true) p q↔p:=⟨fun⟨b,h,k,_⟩=>by cases h;exact k rfl,fun k=>⟨true,rfl,fun _=>k,by simp⟩⟩
@[simp] theorem wq {p q:Prop}:Br (.bool false) p q↔q:=⟨fun⟨b,h,_,k⟩=>by cases h;exact k rfl,fun k=>⟨false,rfl,by simp,fun _=>k⟩⟩
theorem Ud {b:Bool} {p q:Prop} (a:b=true->p) (c:b=false->q):Br (.bool b) p q:=⟨b,rfl,a,c⟩
@[congr] theorem aH4 {v v':Value} {p q:Prop} (h:v=v'):Br v p q↔Br v' p q:=by rw[h]
def qR (c a b:Value):Option Value:=match c with
 |.bool t=>some (if t then a else b)
 |_=>none
def ld1 (h:AH) (p:Value):Option Value:=match p with
 |.pointer (some a)=>if a.spot.isSome then none else
  (match h.get a.block with
  |some (.cells c _ _ _)=>c[a.off]?
  |_=>none)
 |_=>none
def rT (h:AH) (n:Nat) (p:Value):Option Value:=match p with
 |.pointer (some a)=>(cJ h a n).map fun l=> .agg ⟨l⟩
 |_=>none
def lT (p:Value):Option Value:=match p with
 |.pointer (some a)=>some (.pointer (some a))
 |.func (.func f) a b=>some (.func (.func f) a b)
 |.func (.yield f) a b=>some (.func (.yield f) a b)
 |_=>none
def Sb (op:UnOp) (x:Value):Option Value:=match op,x with
 |.neg,.int k n=>some (.int k (k.wrap (0 - n)))
 |.not,.bool b=>some (.bool !b)
 |_,_=>none
def mL (k:IntKind) (x:Value):Option Value:=match x with
 |.int _ n=>some (.int k (k.wrap n))
 |_=>none
def pD (x:Value):Option Value:=match x with
 |.string z=>some (.string z)
 |_=>none
def fZ (n:Nat) (p:Value):Option Value:=match p with
 |.pointer (some a)=>some (.pointer (some (a.add n)))
 |_=>none
def oU (a:Nat) (x:Value):Option Value:=match x with
 |.agg b=>b.toList[a]?
 |_=>none
def nW (a n:Nat) (x:Value):Option Value:=match x with
 |.agg b=>if a+n<=b.toList.length then some (.agg ⟨(b.toList.drop a).take n⟩) else none
 |_=>none
def nR (n b:Nat) (x i:Value):Option Value:=match x,i with
 |.pointer (some a),.int _ i=>if 0<=i/\i<n then some (.pointer (some (a.add (i.toNat*b)))) else none
 |_,_=>none
def jV (b:Nat) (x i:Value):Option Value:=match x,i with
 |.slice (some a) n _,.int _ i=>if 0<=i/\i<n/\a.spot=none then some (.pointer (some (a.add (i.toNat*b)))) else none
 |_,_=>none
def Kb (n b:Nat) (x i:Value):Option Value:=match x,i with
 |.agg a,.int _ i=>if 0<=i/\i<n then a.toList[i.toNat*b]? else none
 |_,_=>none
def Pq (n a:Nat) (x i:Value):Option Value:=match x,i with
 |.agg b,.int _ i=>if 0<=i/\i<n/\i.toNat*a+a<=b.toList.length then some (.agg ⟨(b.toList.drop (i.toNat*a)).take a⟩) else none
 |_,_=>none
def Tl (x i:Value):Option Value:=match x,i with
 |.string s,.int _ i=>if 0<=i then(s[i.toNat]?).map fun b=> .int .u8 b.toNat else none
 |_,_=>none
def oX (i:Nat) (t:Value):Option Value:=match t with
 |.tuple a=>a.toList[i]?
 |_=>none
def sH (h:AH) (n:Nat) (p v:Value):Option AH:=match p with
 |.pointer (some a)=>(match iH v with
  |some b=>if b.length=n then dK h a b else none
  |none=>none)
 |_=>none
def jX (e:TypeId) (v:Value):Option mW:=(iH v).map fun l=> .cells l e (0,0) true
def E6 (bytes:Nat) (l c:Value):Option (Nat×Nat):=match l,c with
 |.int _ l,.int _ c=>if 0<=l/\l<=c/\c<=2^40/\bytes*c<=2^47 then some (l.toNat,c.toNat) else none
 |_,_=>none
def nY (cells:List Value):List (Nat×Nat×Value)->Option (List Value)
 |[]=>some cells
 |(a,size,v)::rest=>match iH v with
  |some b=>if b.length=size/\a+b.length<=cells.length then nY (cG cells a b) rest else none
  |none=>none
def wX (place:Nat->Option (Nat×Nat)) (b:Operand->Value):List (Nat×Operand)->Option (List (Nat×Nat×Value))
 |[]=>some []
 |(i,x)::rest=>match place i,wX place b rest with
  |some (a,size),some l=>some ((a,size,b x)::l)
  |_,_=>none
theorem C7 {place:Nat->Option (Nat×Nat)} {b:Operand->Value}:∀{a:List (Nat×Operand)} {l:List (Nat×Nat×Value)} {cells:List Value},wX place b a=some l->E2 place cells (a.map fun p=>(p.1,b p.2))=nY cells l
 |[],l,cells,h=>by simp only[wX,Option.some.injEq] at h;subst h;rfl
 |(i,x)::rest,l,cells,h=>by
  simp only[wX] at h;split at h;rename_i e size f c d;cases h;simp only[List.map_cons,E2,nY,c];cases hc:iH (b x) with
  |none=>rfl
  |some g=>
   simp only;split;exact C7 d;rfl
  cases h
def vD (g:Nat) (h:AH) (x:Value) (f e d:Option Value):Option Value:=match x with
 |.slice none len b=>
  match lF d b b with
  |some m=>match(if e.isNone&&d.isSome then none else lF e len m) with
   |some c=>match lF f 0 c with
    |some l=>some (.slice none (c - l) (m - l))
    |none=>none
   |none=>none
  |none=>none
 |.slice (some a) len b=>
  match lF d b b with
  |some m=>match(if e.isNone&&d.isSome then none else lF e len m) with
   |some c=>match lF f 0 c with
    |some l=>
     if a.spot.isSome then(if len=0/\b=0 then some (if d.isSome then sN else aEj) else none) else
     if c<=m then
      (if m=l then
       if d.isSome then some sN else
       match nF h a.block with
       |some true=>some sN
       |some false=>some (yT (a.add (l*g)))
       |none=>none
      else some (.slice (some (a.add (l*g))) (c - l) (m - l)))
     else none
    |none=>none
   |none=>none
  |none=>none
 |_=>none
def Tg (n f:Nat) (x:Value) (e c d:Option Value):Option Value:=match x with
 |.pointer (some a)=>
  match lF d n n with
  |some m=>match(if c.isNone&&d.isSome then none else lF c n m) with
   |some b=>match lF e 0 b with
    |some l=>if a.spot=none then some (.slice (some (if m=l then a else a.add (l*f))) (b - l) (m - l)) else none
    |none=>none
   |none=>none
  |none=>none
 |_=>none
def Tm (x:Value) (c b:Option Value):Option Value:=match x with
 |.string s=>
  match lF b s.size s.size with
  |some a=>match lF c 0 a with
   |some l=>some (.string (s.extract l a))
   |none=>none
  |none=>none
 |_=>none
def xS (P:Program) (K:FuncId->List Value->Option iL) (f:Value) (args:List Value) (h:AH) (Q:Value->AH->Prop):Prop:=match f with
 |.func (.func g) first a=>fY P g=true/\Ok P K (.call g (first.toList++args++a.toList)) h fun o b=>Q o.v b
 |.func (.yield l) first _=>Ok P K (.round l (first.toList++args)) h fun o b=>Q o.v b
 |_=>False
def lkV (z:Value) (h:AH) (x ix:Value) (ok:Bool):Option Value:=match cn h x,ix with
 |some a,.int k n=>match uI k n a 0 with
  |some (some (_,v))=>some (if ok then .tuple ⟨[v,.bool true]⟩ else v)
  |some none=>some (if ok then .tuple ⟨[z,.bool false]⟩ else z)
  |none=>none
 |_,_=>none
def jK (P:Program) (g:Operand->Value) (h:AH) (q:Value->Prop):Op->Prop
 |.move x=>q (g x)
 |.assign x=>q (g x)
 |.pick c a b=>bA (qR (g c) (g a) (g b)) q
 |.build t m=>match zeroOf P t with
  |some z=>(match P.underlying t with
   |some (.struct p)=>if p.all (fun f=>(P.info? f.type).isSome) then(match wX (fun i=>(p[i]?).map fun f=>(f.offset,P.cellsOf f.type)) g m.toList with
    |some l=>bA (nY z l) fun c=>q (.agg ⟨c⟩)
    |none=>False) else False
   |some (.array _ e)=>if(P.info? e).isSome then(match wX (fun i=>some (i*P.cellsOf e,P.cellsOf e)) g m.toList with
    |some l=>bA (nY z l) fun c=>q (.agg ⟨c⟩)
    |none=>False) else False
   |_=>False)
  |none=>False
 |.load t a=>match jD P t with
  |some true=>bA (rT h (P.cellsOf t) (g a)) q
  |some false=>bA (ld1 h (g a)) q
  |none=>False
 |.nilCheck x=>bA (lT (g x)) q
 |.binOp op t x y _=>Xg P op t x y (g x) (g y) q bA
 |.unOp op _ x=>bA (Sb op (g x)) q
 |.convert s d x=>match P.underlying s with
  |some .string=>(match P.underlying d with
   |some (.int k)=>bA (mL k (g x)) q
   |some .string=>bA (pD (g x)) q
   |_=>False)
  |some (.slice e)=>(match P.underlying d with
   |some .string=>(match P.underlying e with
    |some (.int .u8)=>bA (strOf h (g x)) q
    |_=>False)
   |_=>False)
  |some _=>(match P.underlying d with
   |some (.int k)=>bA (mL k (g x)) q
   |_=>False)
  |none=>False
 |.makeInterface t x=>match P.underlying t with
  |some (.interface _)=>False
  |some _=>q (.iface t (g x))
  |none=>False
 |.makeFunc fn first j=>match fn with
  |.func f=>q (.func (.func f) (first.map g) (j.map g))
  |_=>False
 |.slice t x u r v=>match P.underlying t with
  |some (.slice e)=>if(P.info? e).isSome then bA (vD (P.cellsOf e) h (g x) (u.map g) (r.map g) (v.map g)) q else False
  |some (.array n e)=>if(P.info? e).isSome then bA (Tg n (P.cellsOf e) (g x) (u.map g) (r.map g) (v.map g)) q else False
  |some .string=>(match v with
   |none=>bA (Tm (g x) (u.map g) (r.map g)) q
   |some _=>False)
  |_=>False
 |.fieldAddr s x f=>match P.underlying s with
  |some (.struct p)=>(match p[f]? with
   |some fd=>if P.cellsOf fd.type=0 then False else bA (fZ fd.offset (g x)) q
   |none=>False)
  |_=>False
 |.field t x f=>match P.underlying t with
  |some (.struct p)=>(match p[f]? with
   |some fd=>(match jD P fd.type with
    |some true=>bA (nW fd.offset (P.cellsOf fd.type) (g x)) q
    |some false=>bA (oU fd.offset (g x)) q
    |none=>False)
   |none=>False)
  |_=>False
 |.indexAddr t x i=>match P.underlying t with
  |some (.array n e)=>if(P.info? e).isSome then bA (nR n (P.cellsOf e) (g x) (g i)) q else False
  |some (.slice e)=>if(P.info? e).isSome then bA (jV (P.cellsOf e) (g x) (g i)) q else False
  |_=>False
 |.index t x i=>match P.underlying t with
  |some (.array n e)=>if(P.info? e).isSome then(match jD P e with
   |some true=>bA (Pq n (P.cellsOf e) (g x) (g i)) q
   |some false=>bA (Kb n (P.cellsOf e) (g x) (g i)) q
   |none=>False) else False
  |some .string=>bA (Tl (g x) (g i)) q
  |_=>False
 |.extract t i=>bA (oX i (g t)) q
 |.lookup t x ix ok=>match F5 P t with
  |some e=>(match zeroV P e with
   |some z=>bA (lkV z h (g x) (g ix) ok) q
   |none=>False)
  |none=>False
 |_=>False
theorem A5 {H:Operand->Value} {h:AH} {q:Value->Prop} {op:Op} (b:jK P H h q op):kindOf op= .xV/\∃v,bU P H h op=some v/\q v:=by
 unfold jK at b;split at b;exact⟨rfl,_,rfl,b⟩;exact⟨rfl,_,rfl,b⟩;obtain⟨v,a,f⟩:=b;exact⟨rfl,v,a,f⟩;refine⟨rfl,?_⟩;split at b;rename_i z G;split at b;rename_i I s;split at b;rename_i p;split at b;rename_i l F;obtain⟨c,a,f⟩:=b;refine⟨_,?_,f⟩;simp only[bU,Fb,G,s,p,if_true];rw[C7 F,a];rfl;cases b;cases b;rename_i e s;split at b;rename_i p;split at b;rename_i l F;obtain⟨c,a,f⟩:=b;refine⟨_,?_,f⟩;simp only[bU,Fb,G,s,p,if_true];rw[C7 F,a];rfl;cases b;cases b;cases b;cases b;refine⟨rfl,?_⟩;split at b;rename_i n;obtain⟨v,a,f⟩:=b;refine⟨v,?_,f⟩;unfold rT at a;simp only[bU];split at a;rename_i g;rw[g];simp only[sP,n];exact a;cases a;rename_i n;obtain⟨v,a,f⟩:=b;refine⟨v,?_,f⟩;unfold ld1 at a;simp only[bU];split at a;rename_i g;rw[g];simp only[sP,n];exact a;cases a;cases b;obtain⟨v,a,f⟩:=b;exact⟨rfl,v,a,f⟩;obtain⟨v,a,f⟩:=Us b;exact⟨rfl,v,a,f⟩;obtain⟨v,a,f⟩:=b;exact⟨rfl,v,a,f⟩;refine⟨rfl,?_⟩;split at b;rename_i i;split at b;rename_i u;obtain⟨v,a,f⟩:=b;refine⟨v,?_,f⟩;unfold mL at a;split at a;rename_i g;simp only[bU,i,u,g];exact a;cases a;rename_i u;obtain⟨v,a,f⟩:=b;refine⟨v,?_,f⟩;unfold pD at a;split at a;rename_i g;simp only[bU,i,u,g];exact a;cases a;cases b;rename_i i;split at b;rename_i u;split at b;rename_i g;obtain⟨v,a,f⟩:=b;refine⟨v,?_,f⟩;simp only[bU,i,u,g];exact a;cases b;cases b;rename_i i;split at b;rename_i u;obtain⟨v,a,f⟩:=b;refine⟨v,?_,f⟩;unfold mL at a;split at a;rename_i g;simp only[bU,i,u,g];exact a;cases a;cases b;cases b;refine⟨rfl,?_⟩;split at b;cases b;rename_i t x d J i;refine⟨_,?_,b⟩;simp only[bU];grind;cases b;split at b;exact⟨rfl,_,rfl,b⟩;cases b;refine⟨rfl,?_⟩;split at b;rename_i s;split at b;rename_i A;obtain⟨v,a,f⟩:=b;refine⟨v,?_,f⟩;unfold vD at a;split at a;rename_i w;simp only[bU,w,sI,s,A,if_true];exact a;rename_i w;simp only[bU,w,sI,s,A,true_and];exact a;cases a;cases b;rename_i s;split at b;rename_i A;obtain⟨v,a,f⟩:=b;refine⟨v,?_,f⟩;unfold Tg at a;split at a;rename_i w;simp only[bU,w,sI,s,A,true_and];exact a;cases a;cases b;rename_i s;split at b;obtain⟨v,a,f⟩:=b;refine⟨v,?_,f⟩;unfold Tm at a;split at a;rename_i w;simp only[bU,w,sI,s,Option.map_none,Option.isSome_none,Bool.false_eq_true,if_false];exact a;cases a;cases b;cases b;refine⟨rfl,?_⟩;split at b;rename_i i;split at b;rename_i y;split at b;cases b;rename_i r;obtain⟨v,a,f⟩:=b;refine⟨v,?_,f⟩;unfold fZ at a;split at a;rename_i g;simp only[bU,i,g,y,r,if_false];exact a;cases a;cases b;cases b;refine⟨rfl,?_⟩;split at b;rename_i i;split at b;rename_i y;split at b;rename_i n;obtain⟨v,a,f⟩:=b;refine⟨v,?_,f⟩;unfold nW at a;split at a;rename_i g;simp only[bU,i,g,y,apart,n];exact a;cases a;rename_i n;obtain⟨v,a,f⟩:=b;refine⟨v,?_,f⟩;unfold oU at a;split at a;rename_i g;simp only[bU,i,g,y,apart,n];exact a;cases a;cases b;cases b;cases b;refine⟨rfl,?_⟩;split at b;rename_i i;split at b;rename_i j;obtain⟨v,a,f⟩:=b;refine⟨v,?_,f⟩;unfold nR at a;split at a;rename_i g m;split at a;rename_i r;simp only[bU,i,g,m,r,j,and_self,if_true];exact a;cases a;cases a;cases b;rename_i i;split at b;rename_i j;obtain⟨v,a,f⟩:=b;refine⟨v,?_,f⟩;unfold jV at a;split at a;rename_i g m;split at a;rename_i r;simp only[bU,i,g,m,r,j,and_self,if_true];exact a;cases a;cases a;cases b;cases b;refine⟨rfl,?_⟩;split at b;rename_i i;split at b;rename_i j;split at b;rename_i n;obtain⟨v,a,f⟩:=b;refine⟨v,?_,f⟩;unfold Pq at a;split at a;rename_i g m;split at a;rename_i r;have C:=r.1;have D:=r.2.1;have E:=r.2.2;simp only[bU,i,g,m,C,D,j,and_self,if_true,apart,n,E];exact a;cases a;cases a;rename_i n;obtain⟨v,a,f⟩:=b;refine⟨v,?_,f⟩;unfold Kb at a;split at a;rename_i g m;split at a;rename_i r;simp only[bU,i,g,m,r,j,and_self,if_true,apart,n];exact a;cases a;cases a;cases b;cases b;rename_i i;obtain⟨v,a,f⟩:=b;refine⟨v,?_,f⟩;unfold Tl at a;split at a;rename_i g m;simp only[bU,i,g,m];exact a;cases a;cases b;obtain⟨v,a,f⟩:=b;exact⟨rfl,v,a,f⟩;refine⟨rfl,?_⟩;split at b;rename_i e g;split at b;rename_i z G;obtain⟨v,a,f⟩:=b;refine⟨v,?_,f⟩;unfold lkV at a;simp only[bU,tP,g];grind;cases b;cases b;cases b
end
end Go.Ab
end
section
namespace Go.Ab
noncomputable section
variable {P:Program} {K:FuncId->List Value->Option iL}
def xH (x:Value):Option Value:=match x with
 |.string s=>some (.int .i64 s.size)
 |_=>none
def kS (x:Value):Option Value:=match x with
 |.slice _ n _=>some (.int .i64 n)
 |_=>none
def o9 (h:AH) (x:Value):Option Value:=(cn h x).map fun a=> .int .i64 a.length
def uW (x y:Value):Option Value:=match x,y with
 |.int k x,.int _ y=>some (.int k (if y<x then y else x))
 |_,_=>none
def vP (x y:Value):Option Value:=match x,y with
 |.int k x,.int _ y=>some (.int k (if y>x then y else x))
 |_,_=>none
def iK (i bytes:Nat) (e:TypeId) (h:AH) (s x:Value):Option (Value×AH):=
 match s,sW x with
 |.slice f b d,some n=>
  match gA h i n x with
  |some new=>
   if !new.all eK||new.length !=n*i then none else
   if b+n<=d then
    match f with
    |none=>if n=0 then some (s,h) else none
    |some a=>if n=0 then some (s,h) else if a.spot.isSome then none else
     (dK h (a.add (b*i)) new).map fun m=>(.slice f (b+n) d,m)
   else if(b+n)*(bytes+1)<=2^46 then
    match f with
    |none=>if b=0 then some (.slice (some ⟨h.next,0,none⟩) n n,h.alloc (.cells new e (0,0) false)) else none
    |some a=>
     if a.spot=some 1 then(if b=0 then some (.slice (some ⟨h.next,0,none⟩) n n,h.alloc (.cells new e (0,0) false)) else none) else
     if a.spot=some 2 then
      (match h.get a.block with
      |some (.cells c j l _)=>
       if j=e/\h.base<=a.block/\l=(0,0)/\a.off<=c.length/\b=0/\d=0 then
        some (.slice (some ⟨h.next,0,none⟩) n n,(h.set a.block none).alloc (.cells new e (0,0) false))
       else none
      |_=>none) else
     match cJ h a (b*i),h.get a.block with
     |some g,some (.cells c j l x)=>
      if !g.all eK then none else
      if x then some (.slice (some ⟨h.next,0,none⟩) (b+n) (b+n),h.alloc (.cells (g++new) e (0,0) false))
      else if j=e/\h.base<=a.block/\l=(0,0)/\a.off+d*i<=c.length then
       some (.slice (some ⟨h.next,0,none⟩) (b+n) (b+n),(h.set a.block none).alloc (.cells (g++new) e (0,0) false))
      else none
     |_,_=>none
   else none
  |_=>none
 |_,_=>none
def copyV (f:Nat) (h:AH) (d x:Value):Option (Value×AH):=
 match d,sW x with
 |.slice c b _,some m=>
   match gA h f (Nat.min m b) x with
   |some new=>match c with
    |none=>some (.int .i64 (Nat.min m b:Nat),h)
    |some a=>if Nat.min m b=0 then some (.int .i64 0,h) else(dK h a new).map fun e=>(.int .i64 (Nat.min m b:Nat),e)
   |none=>none
 |_,_=>none
def gZ (z:List Value) (h:AH) (x:Value):Option (Value×AH):=
 match x with
 |.slice none _ _=>some (.tuple #[],h)
 |.slice (some a) n _=>
   if n=0 then some (.tuple #[],h) else(dK h a (eB z n)).map fun b=>(.tuple #[],b)
 |_=>none
def Pg (h:AH) (m b v:Value):Option AH:=match m,b with
 |.map (some r),.int k n=>if r<h.base then none else match h.get r with
  |some (.map c a)=>(zt k n v c a).map fun o=>h.set r (some o)
  |_=>none
 |_,_=>none
def P4 (h:AH) (m c:Value):Option AH:=match m,c with
 |.map (some r),.int k n=>if r<h.base then none else match h.get r with
  |some (.map b a)=>match uI k n b 0 with
   |some (some (i,_))=>some (h.set r (some (.map (b.eraseIdx i) a)))
   |some none=>some (h.set r (some (.map b a)))
   |none=>none
  |_=>none
 |_,_=>none
theorem vd {h:AH} {t e:TypeId} {m a v:Value} {h':AH} (c:F5 P t=some e) (b:Pg h m a v=some h'):A0 P h t m a v=some h':=by
 unfold Pg at b;split at b;simp only[A0,c];exact b;cases b
theorem uq {h:AH} {t e:TypeId} {m a:Value} {h':AH} (c:F5 P t=some e) (b:P4 h m a=some h'):D2 P h t m a=some h':=by
 unfold P4 at b;split at b;simp only[D2,c];exact b;cases b
def aDx (x:Value):Option Value:=match x with
 |.slice none _ c=>some (.int .i64 c)
 |_=>none
def uR (P:Program) (h:AH) (q:Value->AH->Prop) (a:Array TypeId):Builtin->List Value->Prop
 |.len,[x]=>match(a[0]?).bind P.underlying with
  |some .string=>bA (xH x) fun v=>q v h
  |some (.slice _)=>bA (kS x) fun v=>q v h
  |some (.array n _)=>q (.int .i64 n) h
  |some (.pointer e)=>(match P.underlying e with
   |some (.array n _)=>q (.int .i64 n) h
   |_=>False)
  |some (.map _ _)=>bA (o9 h x) fun v=>q v h
  |_=>False
 |.append,[s,x]=>match(a[0]?).bind P.underlying with
  |some (.slice e)=>if Ia P a/\(zeroOf P e).isSome then bA (iK (P.cellsOf e) (P.bytesOf e) e h s x) fun r=>q r.1 r.2 else False
  |_=>False
 |.copy,[d,x]=>match(a[0]?).bind P.underlying with
  |some (.slice e)=>if(P.info? e).isSome then bA (copyV (P.cellsOf e) h d x) fun r=>q r.1 r.2 else False
  |_=>False
 |.clear,[x]=>match(a[0]?).bind P.underlying with
  |some (.slice e)=>(match zeroOf P e with
   |some z=>bA (gZ z h x) fun r=>q r.1 r.2
   |none=>False)
  |_=>False
 |.min,[x,y]=>bA (uW x y) fun v=>q v h
 |.max,[x,y]=>bA (vP x y) fun v=>q v h
 |.delete,[m,k]=>(match a[0]? with
  |some t=>(match F5 P t with
   |some _=>bA (P4 h m k) fun b=>q (.tuple #[]) b
   |none=>False)
  |none=>False)
 |.cap,[x]=>match(a[0]?).bind P.underlying with
  |some (.slice _)=>bA (aDx x) fun v=>q v h
  |_=>False
 |_,_=>False
theorem xR {h:AH} {q:Value->AH->Prop} {at_:Array TypeId} {b:Builtin} {args:List Value} (c:uR P h q at_ b args):∃v g,eE P h b at_ args=some (v,g)/\q v g:=by
 unfold uR at c;split at c;split at c;rename_i d;obtain⟨v,a,f⟩:=c;refine⟨v,h,?_,f⟩;unfold xH at a;split at a;simp only[eE,d];cases a;rfl;cases a;rename_i d;obtain⟨v,a,f⟩:=c;refine⟨v,h,?_,f⟩;unfold kS at a;split at a;simp only[eE,d];cases a;rfl;cases a;rename_i d;refine⟨_,h,?_,c⟩;simp only[eE,d];rename_i d;split at c;rename_i l;refine⟨_,h,?_,c⟩;simp only[eE,d,l];cases c;rename_i d;obtain⟨v,a,f⟩:=c;refine⟨v,h,?_,f⟩;unfold o9 at a;cases hm:cn h _ with
 |none=>rw[hm] at a;cases a
 |some s=>rw[hm] at a;cases a;simp only[eE,d,hm];rfl
 cases c;split at c;rename_i e d;split at c;rename_i i;obtain⟨⟨v,g⟩,a,f⟩:=c;refine⟨v,g,?_,f⟩;obtain⟨z,m⟩:=Option.isSome_iff_exists.1 i.2;unfold iK at a;split at a;rename_i j;simp only[eE,Ik,d,j,i.1,m,Bool.not_true,Bool.false_eq_true,if_false];split at a;rename_i r;rw[r];exact a;cases a;cases a;cases c;cases c;split at c;rename_i e d;split at c;rename_i i;obtain⟨⟨v,g⟩,a,f⟩:=c;refine⟨v,g,?_,f⟩;unfold copyV at a;split at a;rename_i j;have p:(P.info? e).isNone=false:=by simp_all
 simp only[eE,d,j,p,Bool.false_eq_true,if_false];exact a;cases a;cases c;cases c;split at c;rename_i e d;split at c;rename_i z m;obtain⟨⟨v,g⟩,a,f⟩:=c;refine⟨v,g,?_,f⟩;unfold gZ at a;split at a;simp only[eE,d];exact a;simp only[eE,d,m];exact a;cases a;cases c;cases c;obtain⟨v,a,f⟩:=c;refine⟨v,h,?_,f⟩;unfold uW at a;split at a;simp only[eE];cases a;rfl;cases a;obtain⟨v,a,f⟩:=c;refine⟨v,h,?_,f⟩;unfold vP at a;split at a;simp only[eE];cases a;rfl;cases a;split at c;rename_i t d;split at c;rename_i e n;obtain⟨g,a,f⟩:=c;exact⟨_,g,by simp only[eE,d,uq n a];rfl,f⟩;cases c;cases c;split at c;rename_i d;obtain⟨v,a,f⟩:=c;refine⟨v,h,?_,f⟩;unfold aDx at a;split at a;simp only[eE,d];exact congrArg (Option.map fun v=>(v,h)) a;cases a;cases c;cases c
def Ae (P:Program) (K:FuncId->List Value->Option iL) (d:Operand->Value) (h:AH) (q:Value->AH->Prop):Op->Prop
 |.store t a x=>if(P.info? t).isSome then bA (sH h (P.cellsOf t) (d a) (d x)) fun e=>q undef e else False
 |.call c=>match c.callee with
  |.builtin b=>uR P h q c.argTypes b (c.args.toList.map d)
  |.value (.func g)=>if fY P g then Ok P K (.call g (c.args.toList.map d)) h fun o e=>q o.v e else False
  |.value f=>xS P K (d f) (c.args.toList.map d) h q
  |.invoke _ _=>False
 |.mapUpdate t m k x=>match F5 P t with
  |some _=>bA (Pg h (d m) (d k) (d x)) fun e=>q undef e
  |none=>False
 |_=>False
theorem ki {f:Value} {args:List Value} {h:AH} {q:Value->AH->Prop} (b:xS P K f args h q):
  ∃n v c,(match f with
   |.func (.func g) first a=>if fY P g then(run P K n (.call g (first.toList++args++a.toList)) h).map fun r=>(r.1.v,r.2) else none
   |.func (.yield l) first _=>(run P K n (.round l (first.toList++args)) h).map fun r=>(r.1.v,r.2)
   |_=>none)=some (v,c)/\q v c:=by
 unfold xS at b
 split at b
 .obtain⟨i,n,r,d,e⟩:=b;grind
 .obtain⟨n,r,d,e⟩:=b;grind
 .cases b
theorem tT {m:Operand->Value} (t:∀g,m (.func g)= .func (.func g) #[] #[]) {h:AH} {q:Value->AH->Prop} {op:Op} (b:Ae P K m h q op):
  (kindOf op= .store\/kindOf op= .call)/\∃n v i,eA P (run P K n) m h op=some (v,i)/\q v i:=by
 unfold Ae at b
 split at b
 .refine⟨.inl rfl,?_⟩;split at b
  .rename_i l;obtain⟨i,d,j⟩:=b;refine⟨0,undef,i,?_,j⟩;unfold sH at d;split at d
   .rename_i s;split at d
    .rename_i p;split at d
     .rename_i u;simp only[eA,s,Ku,p,u,l,and_self,if_true,d];rfl
     .cases d
    .cases d
   .cases d
  .cases b
 .rename_i c;refine⟨.inr rfl,?_⟩;split at b
  .rename_i a;obtain⟨v,i,d,j⟩:=xR b;refine⟨0,v,i,?_,j⟩;simp only[eA,a,d]
  .rename_i a;split at b
   .rename_i p;obtain⟨n,r,d,j⟩:=b;refine⟨n,_,_,?_,j⟩;simp only[eA,a,t,p,if_true];grind
   .cases b
  .rename_i f w a;obtain⟨n,v,i,d,j⟩:=ki b;refine⟨n,v,i,?_,j⟩;simp only[eA,a];exact d
  .cases b
 .refine⟨.inl rfl,?_⟩;split at b
  .rename_i e s;obtain⟨i,d,j⟩:=b;exact⟨0,undef,i,by simp only[eA,vd s d];rfl,j⟩
  .cases b
 .cases b
def uf (l c i:Nat):Value:= .slice (some ⟨i,0,none⟩) l c
def aF0 (i:Nat):Value:= .pointer (some ⟨i,0,none⟩)
def fS (i:Nat):Value:= .map (some i)
def Az (P:Program) (d:Operand->Value) (q:mW->(Nat->Value)->Prop):Op->Prop
 |.alloc e=>match zeroOf P e with
  |some z=>q (.cells z e (0,0) true) aF0
  |none=>False
 |.box e x=>bA (jX e (d x)) fun b=>q b aF0
 |.buildSlice t len a=>match P.underlying t with
  |some (.slice e)=>(match zeroOf P e with
   |some z=>if len*P.cellsOf e<=2^24 then(match wX (fun i=>some (i*P.cellsOf e,P.cellsOf e)) d a.toList with
    |some f=>bA (nY (eB z len) f) fun l=>q (.cells l e (0,0) true) (uf len len)
    |none=>False) else False
   |none=>False)
  |_=>False
 |.makeSlice t l c=>match P.underlying t with
  |some (.slice e)=>(match zeroOf P e with
   |some z=>bA (E6 (P.bytesOf e) (d l) (d c)) fun n=>q (.cells (eB z n.2) e (0,0) true) (uf n.1 n.2)
   |none=>False)
  |_=>False
 |.makeMap _t none=>q (.map [] 0) fS
 |.makeMap t (some x)=>match P.underlying t with
  |some (.map _ _)=>∃k n,d x= .int k n/\q (.map [] 0) fS
  |_=>False
 |_=>False
theorem Bi {m:Operand->Value} {q:mW->(Nat->Value)->Prop} {op:Op} (a:Az P m q op):kindOf op= .alloc/\∃b f,eC P m op=some (b,f)/\q b f:=by
 unfold Az at a;split at a;refine⟨rfl,?_⟩;split at a;rename_i g;exact⟨_,_,by simp only[eC,g];rfl,a⟩;cases a;refine⟨rfl,?_⟩;obtain⟨b,c,d⟩:=a;refine⟨b,aF0,?_,d⟩;unfold jX at c;simp only[Option.map_eq_some_iff] at c;obtain⟨l,c,rfl⟩:=c;simp only[eC,c];rfl;refine⟨rfl,?_⟩;split at a;rename_i e;split at a;rename_i g;split at a;rename_i i;split at a;rename_i s j;obtain⟨l,c,d⟩:=a;refine⟨_,_,?_,d⟩;simp only[eC,e,g,i,if_true];rw[C7 j,c];rfl;cases a;cases a;cases a;cases a;refine⟨rfl,?_⟩;split at a;rename_i e;split at a;rename_i g;obtain⟨n,c,d⟩:=a;refine⟨_,_,?_,d⟩;unfold E6 at c;split at c;rename_i p r;split at c;rename_i i;cases c;simp only[eC,e,p,r,g,i,and_self,if_true];rfl;cases c;cases c;cases a;cases a;exact⟨rfl,_,_,rfl,a⟩;refine⟨rfl,?_⟩;split at a;rename_i e;obtain⟨k,n,c,d⟩:=a;exact⟨_,_,by simp only[eC,e,c];rfl,d⟩;cases a;cases a
end
end Go.Ab
end
section
namespace Go.Ab
noncomputable section
variable {P:Program} {K:FuncId->List Value->Option iL}
abbrev Nb:=List (Tmp×Option Bool)
def aK0:Option Bool->Value
 |some b=> .bool b
 |none=>undef
def Nb.drop (d:Nb) (t:Option Tmp):Nb:=match t with
 |some t=>d.filter fun x=>x.1 !=t
 |none=>d
def Nb.ok (d:Nb) (env:List Value):Prop:=∀t b,(t,b)∈d->env[t]?=some (aK0 b)
def fe (oW:Nat->Option Tmp) (env:List Value) (dec:Nb) (g:Option (Nat×Bool)) (p:Bool->List Value->Nb->Prop):Prop:=
 match g with
 |none=>p true env dec
 |some (j,want)=>match oW j with
  |none=>False
  |some d=>match dec.lookup d with
   |some (some b)=>p (b==want) env dec
   |some none=>p false env dec
   |none=>Br (env.getD d undef) (p (true==want) (env.set d (.bool true)) ((d,some true)::dec)) (p (false==want) (env.set d (.bool false)) ((d,some false)::dec))
def A2 (h:AH) (b:mW) (p:Nat->AH->Prop):Prop:=p h.next (h.alloc b)
def lH (h:AH) (r:Nat) (b:mW) (p:Nat->AH->Prop):Prop:=p r (h.set r (some b))
def uJ (h:AH) (n:Nat) (p:Nat->AH->Prop):Prop:=p h.next {h with next:=h.next+n}
def wpOp (P:Program) (K:FuncId->List Value->Option iL) (env:List Value) (h:AH) (q:Value->AH->Prop) (op:Op):Prop:=
 match kindOf op with
 |.xV=>jK P (cZ P env) h (fun v=>q v h) op
 |.alloc=>Az P (cZ P env) (fun b f=>A2 h b fun i a=>q (f i) a) op
 |.store|.call=>Ae P K (cZ P env) h q op
 |.other=>False
theorem Yv {env:List Value} {h:AH} {q:Value->AH->Prop} {op:Op} (a:wpOp P K env h q op):∃n v e,lR P (run P K n) env h op=some (v,e)/\q v e:=by
 unfold wpOp at a;cases hk:kindOf op with
 |xV=>
  simp only[hk] at a;obtain⟨_,v,c,d⟩:=A5 a;exact⟨0,v,h,by simp only[lR,hk,c];rfl,d⟩
 |alloc=>
  simp only[hk] at a;obtain⟨_,b,f,c,d⟩:=Bi a;exact⟨0,_,_,by simp only[lR,hk,c];rfl,d⟩
 |store=>
  simp only[hk] at a;obtain⟨_,n,v,e,c,d⟩:=tT (fun g=>rfl) a;exact⟨n,v,e,by simp only[lR,hk,c],d⟩
 |call=>
  simp only[hk] at a;obtain⟨_,n,v,e,c,d⟩:=tT (fun g=>rfl) a;exact⟨n,v,e,by simp only[lR,hk,c],d⟩
 |other=>simp only[hk] at a
def aDg (env:List Value) (d:Option Tmp):Bool:=match d with
 |some d=>decide (d<env.length)
 |none=>true
def q5 (dec:Nb) (op:Op):Option Operand:=match op with
 |.pick (.tmp c) a b=>(match dec.lookup c with
  |some (some true)=>some a
  |some (some false)=>some b
  |_=>none)
 |.move x=>some x
 |.assign x=>some x
 |_=>none
def qw (dec:Nb) (x:Operand):Option Bool:=match x with
 |.const (.bool y)=>some y
 |.tmp t=>(match dec.lookup t with
  |some (some y)=>some y
  |_=>none)
 |_=>none
def Nb.put (dec:Nb) (dst:Option Tmp) (x:Operand):Nb:=match dst,qw dec x with
 |some d,some y=>(d,some y)::dec.drop (some d)
 |d,_=>dec.drop d
def Nb.skip (dec:Nb) (env:List Value) (dst:Option Tmp):Nb:=match dst with
 |some d=>if d<env.length then(d,none)::dec.drop (some d) else dec.drop (some d)
 |none=>dec
def wpOps (P:Program) (K:FuncId->List Value->Option iL) (oW:Nat->Option Tmp):List Oper->List Value->AH->Nb->(List Value->AH->Nb->Prop)->Prop
 |[],env,h,dec,q=>q env h dec
 |o::a,env,h,dec,q=>fe oW env dec o.guard fun b env dec=>
  match b with
  |true=>(match q5 dec o.op with
   |some x=>wpOps P K oW a (jC env o.dst (cZ P env x)) h (if aDg env o.dst then dec.put o.dst x else dec.drop o.dst) q
   |none=>wpOp P K env h (fun v c=>wpOps P K oW a (jC env o.dst v) c (dec.drop o.dst) q) o.op)
  |false=>wpOps P K oW a (jC env o.dst undef) h (dec.skip env o.dst) q
def aKq (P:Program) (h:AH) (q:Value->Prop) (a:Array TypeId):Builtin->List Value->Prop
 |.len,[x]=>match(a[0]?).bind P.underlying with
  |some .string=>bA (xH x) q
  |some (.slice _)=>bA (kS x) q
  |some (.array n _)=>q (.int .i64 n)
  |some (.pointer e)=>(match P.underlying e with
   |some (.array n _)=>q (.int .i64 n)
   |_=>False)
  |some (.map _ _)=>bA (o9 h x) q
  |_=>False
 |.min,[x,y]=>bA (uW x y) q
 |.max,[x,y]=>bA (vP x y) q
 |_,_=>False
def aI4 (P:Program) (a:Operand->Value) (h:AH) (q:Value->Prop):Op->Prop
 |.call c=>match c.callee with
  |.builtin b=>aKq P h q c.argTypes b (c.args.toList.map a)
  |_=>False
 |op=>jK P a h q op
structure DR where
 env:List Value
 h:AH
 v:Value
 ran:Bool
def aHi (P:Program) (K:FuncId->List Value->Option iL) (r:Nat) (env:List Value) (h:AH) (q:Value->AH->Prop) (op:Op):Prop:=
 match gE op with
 |true=>aI4 P (cZ P env) h (fun v=>q v h) op
 |false=>match kindOf op with
  |.alloc=>Az P (cZ P env) (fun b f=>lH h r b fun i a=>q (f i) a) op
  |_=>Ae P K (cZ P env) h q op
def Ib (P:Program) (K:FuncId->List Value->Option iL) (oW:Nat->Option Tmp):Nat->List Oper->List Value->AH->Nb->List DR->(List DR->List Value->AH->Nb->Prop)->Prop
 |_,[],env,h,dec,a,q=>q a env h dec
 |r,o::c,env,h,dec,a,q=>fe oW env dec o.guard fun b env dec=>
  match b with
  |true=>(match q5 dec o.op with
   |some x=>Ib P K oW (r+1) c (jC env o.dst (cZ P env x)) h (if aDg env o.dst then dec.put o.dst x else dec.drop o.dst) (a++[⟨env,h,cZ P env x,true⟩]) q
   |none=>aHi P K r env h (fun v d=>Ib P K oW (r+1) c (jC env o.dst v) d (dec.drop o.dst) (a++[⟨env,h,v,true⟩]) q) o.op)
  |false=>Ib P K oW (r+1) c (jC env o.dst undef) h (dec.skip env o.dst) (a++[⟨env,h,undef,false⟩]) q
def aDr (P:Program) (all:List Oper) (rs:List DR) (hEnd:AH):List (Nat×Nat)->Prop->Prop
 |[],p=>p
 |(i,s)::a,p=>match all[i]? with
  |some o=>(match rs[i]? with
   |some r=>(match r.ran with
    |true=>aI4 P (cZ P r.env) (match rs[s]? with|some q=>q.h|none=>hEnd) (fun v=>nP v r.v=true) o.op/\aDr P all rs hEnd a p
    |false=>aDr P all rs hEnd a p)
   |none=>False)
  |none=>False
def aFv (P:Program) (K:FuncId->List Value->Option iL) (ops:Array Oper) (env:List Value) (h:AH) (q:List Value->AH->Nb->Prop):Prop:=
 if Fh ops.toList&&(P.follows .mixedOrders|| !Region.departs ops) then
  uJ h ops.size fun r c=>Ib P K (fun j=>(ops[j]?).bind (·.dst)) r ops.toList env c [] [] fun d a b dec=>aDr P ops.toList d b (B0 ops.toList) (q a b dec)
 else False
end
end Go.Ab
end
section
namespace Go.Ab
noncomputable section
variable {P:Program} {K:FuncId->List Value->Option iL}
section
variable {fn:FuncId} {ro:Option Nat} {ds:List Nat} {env:List Value} {k:List Item} {h:AH} {Q:Out->AH->Prop}
theorem Es {t t':Task} {h':AH} (c:∀n,run P K (n+1) t h=run P K n t' h') (d:Ok P K t' h' Q):Ok P K t h Q:=by
 obtain⟨n,r,a,b⟩:=d;exact⟨n+1,r,by rw[c];exact a,b⟩
theorem Sm {c:Operand} {t e:Code} (g:Br (cZ P env c) (Ok P K (.todo fn ro ds env (.code t::k)) h Q) (Ok P K (.todo fn ro ds env (.code e::k)) h Q)):
  Ok P K (.todo fn ro ds env (.code (.cond c t e)::k)) h Q:=by
 obtain⟨b,a,f,d⟩:=g
 cases b with
 |true=>exact Es (t':= .todo fn ro ds env (.code t::k)) (fun n=>by show dW _ _ _ _ _ _ _ _=_;simp only[dW,a,if_true]) (f rfl)
 |false=>exact Es (t':= .todo fn ro ds env (.code e::k)) (fun n=>by show dW _ _ _ _ _ _ _ _=_;simp[dW,a]) (d rfl)
end
def jA (h:AH) (l:Nat):Option AH:=match h.get l with
 |some (.loop .ready _ _ _ _ _ _ _)=>cS h l .busy none
 |_=>none
def qT (h:AH) (l:Nat):Option (Option Code×AH):=match h.get l with
 |some (.loop st p _ _ _ _ _ _)=>if st= .busy then none else(cS h l .exhausted none).map fun a=>(p,a)
 |_=>none
def eX (h:AH) (l:Nat):Option Nat:=match h.get l with
 |some (.loop _ _ _ _ _ _ _ d)=>some d
 |_=>none
def Tb (P:Program) (K:FuncId->List Value->Option iL) (f:Value) (l:Nat) (h:AH) (q:Value->AH->Prop):Prop:=match f with
 |.func (.func g) first a=>fY P g=true/\Ok P K (.call g (first.toList++[.func (.yield l) #[] #[]]++a.toList)) h fun o b=>q o.v b
 |_=>False
def pJ:Code->Option Nat
 |.region id _ _=>some id
 |.seq a b=>(match pJ a with
  |some r=>some r
  |none=>pJ b)
 |.block _ b=>pJ b
 |.loop b=>pJ b
 |.scope b=>pJ b
 |_=>none
def keyOf:List Item->Option Nat
 |.code c::k=>(match pJ c with
  |some r=>some r
  |none=>keyOf k)
 |.inLoop c::k=>(match pJ c with
  |some r=>some r
  |none=>keyOf k)
 |_::k=>keyOf k
 |[]=>none
def iW:Code->List Nat
 |.exit id=>[id]
 |.seq a b=>iW a++iW b
 |.cond _ t e=>iW t++iW e
 |.block id b=>(iW b).filter (·!=id)
 |.loop b=>iW b
 |.scope b=>iW b
 |.rangeFunc _ _ a b=>iW a++iW b
 |_=>[]
def qW (p:Option Code) (a b:Prop) (c:List (Nat×Prop)):Prop:=match p with
 |none=>a
 |some .ret=>b
 |some (.exit id)=>(match c.lookup id with
  |some q=>q
  |none=>False)
 |_=>False
def Lv (P:Program) (K:FuncId->List Value->Option iL) (fn:FuncId) (f:Value) (n:Nat) (lv:List Nat) (vs:List Value) (ps:Array Tmp) (assign a:Code) (d:Nat) (h:AH) (q:Option Code->AH->Prop):Prop:=
 ∀e:Nat->Value,lv.map e=vs->A2 h (.loop .ready none fn ((List.range n).map e) ps assign a d) fun l b=>Tb P K f l b fun _ c=>bA (qT c l) fun r=>q r.1 r.2
def Rp (L:List (Option Nat×List Nat)) (k:List Item):List Nat:=(L.lookup (keyOf k)).getD []
def nC:Nat->List Item->List Item
 |0,k=>k
 |n+1,k=>match k with
  |.code c::d=>(match c with
   |.skip=>nC n d
   |.label _=>nC n d
   |.seq a b=>nC n (.code a:: .code b::d)
   |.block id b=>nC n (.code b:: .inBlock id::d)
   |.scope b=>nC n (.code b:: .inScope b::d)
   |.loop b=>nC n (.code b:: .inLoop b::d)
   |.exit id=>(match exitTo id d with
    |some e=>nC n e
    |none=>k)
   |_=>k)
  |.inBlock _::d=>nC n d
  |.inScope _::d=>nC n d
  |.inLoop b::d=>nC n (.code b:: .inLoop b::d)
  |_=>k
def aDb:List Item->Bool
 |[]=>true
 |.code .ret::_=>true
 |.code (.exit _)::_=>true
 |_=>false
def short (k:List Item):Bool:=match nC 60 k with
 |.code (.region _ _ _)::a=>aDb (nC 60 a)
 |a=>aDb a
def Nn (P:Program) (K:FuncId->List Value->Option iL) (E:List Nat->List Value->List Item->AH->Prop) (F:vE->List Nat->List Value->AH->Prop) (L:List (Option Nat×List Nat)) (fn:FuncId) (ro:Option Nat):
  Nat->Nb->List Nat->List Value->List Item->AH->Prop
 |0,_,ds,env,k,h=>E ds env k h
 |n+1,dec,ds,env,k,h=>
  match k with
  |[]=>F .jF ds env h
  |.code c::k=>
   (match c with
   |.skip=>Nn P K E F L fn ro n dec ds env k h
   |.label _=>Nn P K E F L fn ro n dec ds env k h
   |.seq a b=>Nn P K E F L fn ro n dec ds env (.code a:: .code b::k) h
   |.cond c t e=>(match qw dec c with
    |some true=>Nn P K E F L fn ro n dec ds env (.code t::k) h
    |some false=>Nn P K E F L fn ro n dec ds env (.code e::k) h
    |none=>Br (cZ P env c)
     (match short (.code t::k) with
     |true=>Nn P K E F L fn ro n dec ds env (.code t::k) h
     |false=>E ds env (nC 60 (.code t::k)) h)
     (match short (.code e::k) with
     |true=>Nn P K E F L fn ro n dec ds env (.code e::k) h
     |false=>E ds env (nC 60 (.code e::k)) h))
   |.block id b=>Nn P K E F L fn ro n dec ds env (.code b:: .inBlock id::k) h
   |.loop b=>E ds env (nC 60 (.code b:: .inLoop b::k)) h
   |.scope b=>Nn P K E F L fn ro n dec ds env (.code b:: .inScope b::k) h
   |.exit id=>(match exitTo id k with
    |some u=>Nn P K E F L fn ro n dec ds env u h
    |none=>if ro.isSome then F (.exit id) ds env h else False)
   |.ret=>F .ret ds env h
   |.region _ ops false=>wpOps P K (fun j=>(ops[j]?).bind (·.dst)) ops.toList env h dec fun q i m=>Nn P K E F L fn ro n m ds q k i
   |.region _ ops true=>aFv P K ops env h fun q i m=>Nn P K E F L fn ro n m ds q k i
   |.rangeFunc f r assign g=>
    (match ro with
    |none=>A2 h (.marks true) fun d s=>Lv P K fn (cZ P env f) env.length (Rp L [.code assign,.beginRound,.code g]) ((Rp L [.code assign,.beginRound,.code g]).map fun t=>env.getD t undef) r assign g d s fun p i=>
      qW p (Nn P K E F L fn ro n dec (d::ds) env k i) (Nn P K E F L fn ro n dec (d::ds) env (.code .ret::k) i) ((iW g).map fun id=>(id,Nn P K E F L fn ro n dec (d::ds) env (.code (.exit id)::k) i))
    |some l=>bA (eX h l) fun d=>Lv P K fn (cZ P env f) env.length (Rp L [.code assign,.beginRound,.code g]) ((Rp L [.code assign,.beginRound,.code g]).map fun t=>env.getD t undef) r assign g d h fun p i=>
      qW p (Nn P K E F L fn ro n dec ds env k i) (Nn P K E F L fn ro n dec ds env (.code .ret::k) i) ((iW g).map fun id=>(id,Nn P K E F L fn ro n dec ds env (.code (.exit id)::k) i)))
   |_=>False)
  |.inBlock _::k=>Nn P K E F L fn ro n dec ds env k h
  |.inScope _::k=>Nn P K E F L fn ro n dec ds env k h
  |.inLoop b::k=>E ds env (nC 60 (.code b:: .inLoop b::k)) h
  |.beginRound::k=>
   (match ro with
   |some l=>bA (jA h l) fun i=>Nn P K E F L fn ro n dec ds env k i
   |none=>False)
  |_=>False
theorem P7 {env:List Value} {n:Nat} (h:env.length=n):(List.range n).map (fun t=>env.getD t undef)=env:=by
 refine List.ext_getElem? fun i=>?_;grind
theorem ar {l:List Nat} {f:Nat->Prop} {id:Nat} {q:Prop} (h:(l.map fun i=>(i,f i)).lookup id=some q):q=f id:=by
 induction l with
 |nil=>simp at h
 |cons i l a=>
  grind
theorem Mv {fn:FuncId} {f:Value} {env:List Value} {lv:List Nat} {ps:Array Tmp} {assign b:Code} {d:Nat} {h:AH} {q:Option Code->AH->Prop}
  (i:Lv P K fn f env.length lv (lv.map fun t=>env.getD t undef) ps assign b d h q):
  ∃n g first a o c p e,f= .func (.func g) first a/\fY P g=true/\run P K n (.call g (first.toList++[.func (.yield h.next) #[] #[]]++a.toList)) (h.alloc (.loop .ready none fn env ps assign b d))=some (o,c)/\
   qT c h.next=some (p,e)/\q p e:=by
 have:=i (fun t=>env.getD t undef) rfl
 rw[P7 rfl] at this
 unfold A2 Tb at this
 split at this
 .rename_i g first a
  obtain⟨m,n,r,j,⟨p,e⟩,l,c⟩:=this
  grind
 .cases this
theorem Mg {fn:FuncId} {ro:Option Nat} {ds:List Nat} {env:List Value} {h:AH} {Q:Out->AH->Prop}:∀(n:Nat) {k:List Item},Ok P K (.todo fn ro ds env (nC n k)) h Q->Ok P K (.todo fn ro ds env k) h Q
 |0,_,a=>a
 |n+1,k,a=>by
  have st:∀{k':List Item},Ok P K (.todo fn ro ds env (nC n k')) h Q->(∀m,run P K (m+1) (.todo fn ro ds env k) h=run P K m (.todo fn ro ds env k') h)->Ok P K (.todo fn ro ds env k) h Q:=
   fun a b=>Es b (Mg n a)
  unfold nC at a;split at a;split at a;exact st a fun _=>rfl;exact st a fun _=>rfl;exact st a fun _=>rfl;exact st a fun _=>rfl;exact st a fun _=>rfl;exact st a fun _=>rfl;split at a;rename_i c;refine st a fun m=>?_;show dW P (run P K m) _ _ _ _ _ _=_;simp only[dW,c];exact a;exact a;exact st a fun _=>rfl;exact st a fun _=>rfl;exact st a fun _=>rfl;exact a
def Y7 (P:Program) (f:FuncId) (Q:Value->AH->Prop):Out->AH->Prop:=fun o b=>
 match o.leave with
 |.exit _=>False
 |_=>bA (bZ o.ds b) fun a=>bA (fH P a o.env ((P.funcs[f]?).elim [] fun fn=>fn.results.toList)) fun c=>Q (oneOf c) a
theorem aBs {f:FuncId} {fn:Func} {a:Code} {args:List Value} {h:AH} {Q:Value->AH->Prop} (i:P.funcs[f]?=some fn) (hb:fn.body=some a) (p:K f args=none)
  (r:Ok P K (.todo f none [] (args++List.replicate (fn.ntmps - args.length) undef) [.code a]) h (Y7 P f Q)):Ok P K (.call f args) h fun o c=>Q o.v c:=by
 obtain⟨n,⟨o,g⟩,l,b⟩:=r
 simp only at b
 have s:(∀id,o.leave≠.exit id)->(bA (bZ o.ds g) fun b=>bA (fH P b o.env ((P.funcs[f]?).elim [] fun fn=>fn.results.toList)) fun e=>Q (oneOf e) b)->Ok P K (.call f args) h fun o c=>Q o.v c:=by
  intro d ⟨m,t,e,j,q⟩;rw[i] at j;simp only[Option.elim_some] at j;refine⟨n+1,(⟨.jF,[],[],oneOf e⟩,m),?_,q⟩;show jG P K (run P K n) f args h=_;simp only[jG,p,i,hb];rw[l];cases hlv:o.leave with
  |exit id=>exact absurd hlv (d id)
  |jF=>grind
  |ret=>grind
 unfold Y7 at b
 grind
def Pt (P:Program) (K:FuncId->List Value->Option iL) (fn:FuncId) (ro:Option Nat) (Q:Out->AH->Prop) (n:Nat) (lv:List Nat) (k:List Item) (ds:List Nat) (vs:List Value) (h:AH):Prop:=
 ∀e:Nat->Value,lv.map e=vs->Ok P K (.todo fn ro ds ((List.range n).map e) k) h Q
def Sd (P:Program) (h:AH) (env:List Value):List ResultVar->(List Value->Prop)->Prop
 |[],p=>p []
 |.tmp t::b,p=>Sd P h env b fun l=>p (env.getD t undef::l)
 |.cell a t::b,p=>match jD P t with
  |some true=>bA (rT h (P.cellsOf t) (env.getD a undef)) fun v=>Sd P h env b fun l=>p (v::l)
  |some false=>bA (ld1 h (env.getD a undef)) fun v=>Sd P h env b fun l=>p (v::l)
  |none=>False
theorem sV {h:AH} {env:List Value}:∀{rs:List ResultVar} {p:List Value->Prop},Sd P h env rs p->∃l,fH P h env rs=some l/\p l
 |[],p,b=>⟨[],rfl,b⟩
 |.tmp t::rs,p,b=>by
  obtain⟨l,c,d⟩:=sV (rs:=rs) b;exact⟨_,by simp only[fH,c];rfl,d⟩
 |.cell a t::rs,p,b=>by
  simp only[Sd] at b;split at b;rename_i f;obtain⟨v,c,b⟩:=b;obtain⟨l,d,e⟩:=sV (rs:=rs) b;refine⟨v::l,?_,e⟩;unfold rT at c;split at c;rename_i x g;have i:sP P h t x=some v:=by unfold sP;rw[f];exact c
  simp only[fH,g,i,d];cases c;rename_i f;obtain⟨v,c,b⟩:=b;obtain⟨l,d,e⟩:=sV (rs:=rs) b;refine⟨v::l,?_,e⟩;unfold ld1 at c;split at c;rename_i x g;have i:sP P h t x=some v:=by unfold sP;rw[f];exact c
  simp only[fH,g,i,d];cases c;cases b
def aGl (P:Program) (f:FuncId) (Q:Value->AH->Prop) (lv:vE) (ds:List Nat) (env:List Value) (h:AH):Prop:=match lv with
 |.exit _=>False
 |_=>bA (bZ ds h) fun a=>Sd P a env ((P.funcs[f]?).elim [] fun fn=>fn.results.toList) fun l=>Q (oneOf l) a
theorem Xq {f:FuncId} {Q:Value->AH->Prop} {lv:vE} {ds:List Nat} {env:List Value} {h:AH} (a:aGl P f Q lv ds env h):Y7 P f Q ⟨lv,ds,env,undef⟩ h:=by
 unfold aGl at a;unfold Y7;cases lv with
 |exit id=>exact a
 |jF=>obtain⟨b,e,a⟩:=a;obtain⟨l,c,d⟩:=sV a;simp_all
 |ret=>obtain⟨b,e,a⟩:=a;obtain⟨l,c,d⟩:=sV a;simp_all
theorem W8 {f:FuncId} {args:List Value} {v:Value} {h:AH} {Q:Value->AH->Prop} (b:K f args=some (.val v)) (c:Q v h):Ok P K (.call f args) h fun o a=>Q o.v a:=
 ⟨1,(⟨.jF,[],[],v⟩,h),by show jG _ _ _ _ _ _=_;simp only[jG,b],c⟩
def Eb (l:Nat) (Q:Value->AH->Prop):Out->AH->Prop:=fun o b=>
 o.ds=[]/\match o.leave with
 |.jF=>bA (cS b l .ready (some none)) fun a=>Q (.bool true) a
 |.ret=>bA (cS b l .done (some (some .ret))) fun a=>Q (.bool false) a
 |.exit id=>bA (cS b l .done (some (some (.exit id)))) fun a=>Q (.bool false) a
theorem tf {l:Nat} {args:List Value} {h:AH} {st:LoopState} {p:Option Code} {fn:FuncId} {b:List Value} {ps:Array Tmp} {assign a:Code} {d:Nat} {Q:Value->AH->Prop}
  (u:h.get l=some (.loop st p fn b ps assign a d)) (w:args.length=ps.size)
  (y:Ok P K (.todo fn (some l) [] ((ps.toList.zip args).foldl (fun t (p,v)=>t.set p v) b) [.code assign,.beginRound,.code a]) h (Eb l Q)):Ok P K (.round l args) h fun o j=>Q o.v j:=by
 obtain⟨n,r,A,c,f⟩:=y
 obtain⟨o,m⟩:=r
 simp only at c f
 have z:∀i e,(match o.leave with
     |.jF=>(cS m l .ready (some none)).map fun c=>((⟨.jF,[],[],.bool true⟩:Out),c)
     |.ret=>(cS m l .done (some (some .ret))).map fun c=>(⟨.jF,[],[],.bool false⟩,c)
     |.exit id=>(cS m l .done (some (some (.exit id)))).map fun c=>(⟨.jF,[],[],.bool false⟩,c))=some (i,e)->Q i.v e->Ok P K (.round l args) h fun o j=>Q o.v j:=by
  intro i e C x
  refine⟨n+1,(i,e),?_,x⟩
  show mU (run P K n) l args h=_
  simp only[mU,u,w,if_true]
  grind
 split at f
 .rename_i g;obtain⟨e,q,s⟩:=f;grind
 .rename_i g;obtain⟨e,q,s⟩:=f;grind
 .rename_i g;obtain⟨e,q,s⟩:=f;grind
def Sj (l:Nat) (Q:Value->AH->Prop) (lv:vE) (ds:List Nat) (_b:List Value) (h:AH):Prop:=match ds with
 |[]=>(match lv with
  |.jF=>bA (cS h l .ready (some none)) fun a=>Q (.bool true) a
  |.ret=>bA (cS h l .done (some (some .ret))) fun a=>Q (.bool false) a
  |.exit id=>bA (cS h l .done (some (some (.exit id)))) fun a=>Q (.bool false) a)
 |_=>False
theorem Sy {l:Nat} {Q:Value->AH->Prop} {lv:vE} {ds:List Nat} {env:List Value} {h:AH} (a:Sj l Q lv ds env h):Eb l Q ⟨lv,ds,env,undef⟩ h:=by
 unfold Sj at a;cases ds with
 |nil=>refine⟨rfl,?_⟩;cases lv<;>exact a
 |cons d ds=>exact a.elim
end
end Go.Ab
end
section
namespace Go.Ab
noncomputable section
open Go.RowKit
variable {P:Program} {K:FuncId->List Value->Option iL}
def start (base:Nat) (old:Nat->Option mW):AH:={base:=base,next:=base,old:=old,new:= .lf}
theorem vB {a:Nat} {old:Nat->Option mW} (i:Nat):(start a old).get i=if i<a then old i else none:=by
 rw[AH.get_eq];unfold start;split;rfl;cases i - a<;>rfl
structure Reads (P:Program) (base:Nat) (old:Nat->Option mW) (ρ:iC) (w:World):Prop where
 mS:∀i o,i<base->old i=some o->∀b s,ρ i=some (b,s)->∃o',w.heap[b]?=some o'/\tE P ρ s o o'
 low:∀i b s,i<base->ρ i=some (b,s)->b<w.heap.size
 none:∀i,base<=i->ρ i=none
 pF:∀g,g<P.globals.size->ρ g=some (g,(0,0))
theorem Reads.inv {a:Nat} {old:Nat->Option mW} {ρ:iC} {w:World} (r:Reads P a old ρ w):Inv P w.heap.size ρ (start a old) w where
 mS:=fun i o e b s f=>by
  rw[vB] at e;split at e;rename_i c;exact r.mS i o c e b s f;cases e
 inj:=fun i j b g l c _ d=>by
  rw[vB,aLx (Nat.not_lt.2 (show a<=_ from c))] at d;cases d
 low:=fun i b s c d=>by
  rw[vB,aLx (Nat.not_lt.2 (show a<=_ from c))] at d;cases d
 old:=fun i b s c f=>r.low i b s c f
 fresh:=fun i c=>r.none i c
 gY:=fun i c=>by rw[vB,aLx (Nat.not_lt.2 (show a<=_ from c))]
 pF:=r.pF
 size:=Nat.le_refl _
 bn:=Nat.le_refl _
theorem Ko {w:World} (C:Ctx P w.heap.size K) (t:C.G w) {a:Nat} {old:Nat->Option mW} {ρ:iC} (r:Reads P a old ρ w) {f:FuncId} {args args':List Value} (q:aU ρ args args') {Q:Out->AH->Prop}
  (i:Ok P K (.call f args) (start a old) Q):
  Calls P f ⟨args'⟩ w fun e g=>∃ρ' o c d,e= .returned d/\aF ρ' o.v d/\Q o c/\Inv P w.heap.size ρ' c g/\Below w.heap.size w g:=by
 obtain⟨n,⟨o,c⟩,v,u⟩:=i
 intro j
 obtain⟨e,g,fr,⟨ρ',d,s,x,b⟩,l,m,p⟩:=nf C n (.call f args) _ o c v ρ w args' r.inv t q j
 exact⟨e,g,fr,⟨ρ',o,c,d,s,x,u,b.inv,b.below r.inv⟩,l,m,p⟩
def Ctx.empty (P:Program) (B:Nat):Ctx P B (fun _ _=>none) where
 G:=fun _=>True
 Ew:=fun _ _ _ _=>trivial
 call:=fun _ _ _ _ h=>by cases h
 fwd:=fun _ _ _ _ h=>by cases h
 host:=fun _ _ _ h=>by cases h
def Vi (K:FuncId->List Value->Option iL) (f0:FuncId) (v0:Value):FuncId->List Value->Option iL:=fun f a=>if f=f0/\a.isEmpty=true then some (.val v0) else K f a
def Ctx.add {B:Nat} (C:Ctx P B K) (f0:FuncId) (v0:Value) (n:dQ v0=true) (h:∀w,C.G w->Calls P f0 #[] w fun e d=>e= .returned v0/\Below w.heap.size w d):Ctx P B (Vi K f0 v0) where
 G:=C.G
 Ew:=C.Ew
 call:=fun f a v w b c=>by
  unfold Vi at b;split at b;rename_i l;cases b;obtain⟨rfl,p⟩:=l;have:a=[]:=by grind
  subst this;exact⟨rfl,(h w c).mono fun e d ⟨m,j⟩=>⟨⟨v0,m,fun ρ=>gT v0 n⟩,j⟩⟩;exact C.call f a v w b c
 fwd:=fun f a g i b=>by
  unfold Vi at b;split at b;cases b;exact C.fwd f a g i b
 host:=fun f a F b=>by
  unfold Vi at b;split at b;cases b;exact C.host f a F b
theorem Zu {P:Program} {f:FuncId} {args:Array Value} {v:Value} {w:World} (g:dQ v=true) (h:Calls P f args w fun e a=>e= .returned v/\Below w.heap.size w a):
  Calls P f args w fun e a=>(∃b,e= .returned b/\∀ρ,aF ρ v b)/\Below w.heap.size w a:=
 h.mono fun _ _ ⟨d,c⟩=>⟨⟨v,d,fun _=>gT v g⟩,c⟩
theorem Xe {f:FuncId} {n:Nat} {v:Value} {a:Nat} {old:Nat->Option mW} (m:dQ v=true)
  (b:((run P K n (.call f []) (start a old)).any fun r=>nP r.1.v v)=true) {w:World} (C:Ctx P w.heap.size K) (l:C.G w) {ρ:iC} (r:Reads P a old ρ w):
  Calls P f #[] w fun e g=>e= .returned v/\Below w.heap.size w g:=by
 rw[Option.any_eq_true] at b
 obtain⟨⟨o,q⟩,b,c⟩:=b
 have c:=Fj _ _ c
 have:=Ko (Q:=fun o _=>o.v=v) C l r (args:=[]) (args':=[]) rfl ⟨n,_,b,c⟩
 intro i
 obtain⟨e,g,fr,⟨ρ',y,s,p,t,d,j,_,u⟩,x⟩:=this i
 rw[j] at d
 have:=uG v p m d
 grind
end
end Go.Ab
end
section
namespace Go.Ab
noncomputable section
structure En where
 n:Nat
 t:Tr Value
def En.get (e:En) (i:Nat):Value:=En.rec (motive:=fun _=>Value) (fun n t=>Bool.rec (motive:=fun _=>Value) undef (t.get undef i) (Nat.blt i n)) e
def En.opt (e:En) (i:Nat):Option Value:=En.rec (motive:=fun _=>Option Value) (fun n t=>Bool.rec (motive:=fun _=>Option Value) none (some (t.get undef i)) (Nat.blt i n)) e
def En.set (e:En) (i:Nat) (v:Value):En:=En.rec (motive:=fun _=>En) (fun n t=>Bool.rec (motive:=fun _=>En) (En.mk n t) (En.mk n (t.set undef i v)) (Nat.blt i n)) e
def En.vS (e:En):List Value:=(List.range e.n).map fun i=>e.t.get undef i
def Qk:List Value->Nat->Tr Value->Tr Value
 |[],_,t=>t
 |v::l,i,t=>Qk l (i+1) (t.set undef i v)
def En.of (l:List Value) (k:Nat):En:=⟨l.length+k,Qk l 0 .lf⟩
theorem En.Ll (e:En) (i:Nat):e.opt i=e.vS[i]?:=by
 obtain⟨n,t⟩:=e;simp only[En.opt,En.vS];cases h:Nat.blt i n with
 |true=>
  have:i<n:=by simpa [Nat.blt_eq] using h
  simp[this]
 |false=>
  have:¬i<n:=by rw[<-Nat.blt_eq,h];simp
  simp[this]
theorem En.get_eq (e:En) (i:Nat):e.get i=e.vS.getD i undef:=by
 rw[List.getD_eq_getElem?_getD,<-En.Ll];obtain⟨n,t⟩:=e;simp only[En.get,En.opt];cases Nat.blt i n<;>rfl
theorem En.F0 (e:En) (i:Nat) (v:Value):(e.set i v).vS=e.vS.set i v:=by
 apply List.ext_getElem?;intro j;rw[List.getElem?_set,<-En.Ll,<-En.Ll];obtain⟨n,t⟩:=e;have c:(En.vS ⟨n,t⟩).length=n:=by simp[En.vS]
 rw[c];simp only[En.set];cases h:Nat.blt i n with
 |true=>
  have b:i<n:=by simpa [Nat.blt_eq] using h
  simp only[En.opt,Tr.iJ];by_cases a:i=j;subst a;simp[h,b];simp[a,Ne.symm a]
 |false=>
  have b:¬i<n:=by rw[<-Nat.blt_eq,h];simp
  by_cases a:i=j;subst a;simp[En.opt,h,b];simp[a]
theorem Ki:∀(l:List Value) (i:Nat) (t:Tr Value) (m:Nat),(Qk l i t).get undef m=if i<=m/\m<i+l.length then l.getD (m - i) undef else t.get undef m
 |[],i,t,m=>by
  rw[aLx (by simp)];rfl
 |v::l,i,t,m=>by
  simp only[Qk];rw[Ki l (i+1) _ m,Tr.iJ];simp only[List.length_cons];by_cases a:m=i;subst a;rw[aab,aLy rfl,aae];simp;rw[aLx a];by_cases b:i+1<=m/\m<i+1+l.length;rw[aLy b,aae,show m - i=(m - (i+1))+1 by omega];simp;rw[aLx b,aab]
theorem En.of_eq (l:List Value) (k:Nat):(En.of l k).vS=l++List.replicate k undef:=by
 apply List.ext_getElem?;intro j;rw[<-En.Ll];unfold En.of En.opt;simp only[Ki,Tr.Mu];cases h:Nat.blt j (l.length+k) with
 |true=>
  have b:j<l.length+k:=by simpa [Nat.blt_eq] using h
  by_cases a:j<l.length;rw[aae,List.getElem?_append_left a];simp[a];rw[aab,List.getElem?_append_right (by omega),List.getElem?_replicate,aae]
 |false=>
  have b:¬j<l.length+k:=by rw[<-Nat.blt_eq,h];simp
  rw[List.getElem?_eq_none (by simp;omega)]
inductive Ux where
 |todo (fn:FuncId) (ro:Option Nat) (ds:List Nat) (env:En) (k:List Item)
 |ops (all:Array Oper) (rest:List Oper) (env:En)
 |call (f:FuncId) (args:List Value)
 |round (l:Nat) (args:List Value)
structure Nl where
 leave:vE
 ds:List Nat
 env:En
 v:Value
def ch:En:=⟨0,.lf⟩
abbrev qL:=Ux->AH->Option (Nl×AH)
def aCm:Ux->Task
 |.todo fn ro ds env k=> .todo fn ro ds env.vS k
 |.ops all rest env=> .ops all rest env.vS
 |.call f a=> .call f a
 |.round l a=> .round l a
def aAt (o:Nl):Out:=⟨o.leave,o.ds,o.env.vS,o.v⟩
def vH (r:Nl×AH):Out×AH:=(aAt r.1,r.2)
def Fv (R':qL) (R:jH):Prop:=∀t h,R (aCm t) h=(R' t h).map vH
def aKw (v:Value):Value:=if dQ v then v else top
def aJy (P:Program) (g:Nat):Value:=if g<P.globals.size then .pointer (some ⟨g,0,none⟩) else top
def aKj (f:Nat):Value:= .func (.func f) #[] #[]
def cI (P:Program) (env:En) (x:Operand):Value:=Operand.rec (motive:=fun _=>Value) (En.get env) aKw (aJy P) aKj x
theorem vA (P:Program) (env:En):cI P env=cZ P env.vS:=by
 funext x;cases x<;>first|rfl|exact En.get_eq _ _
def xW (env:En) (d:Option Tmp) (v:Value):En:=Option.rec (motive:=fun _=>En) env (fun d=>env.set d v) d
theorem Jn (env:En) (d:Option Tmp) (v:Value):(xW env d v).vS=jC env.vS d v:=by
 cases d;rfl;exact En.F0 _ _ _
def aIt (want:Bool) (x:Option Value):Option Bool:=
  match x with
  |some (.bool b)=>some (b==want)
  |some (.chan _)=>none
  |_=>some false
def aC5 {α:Type} (l:List α):Nat->Option α:=List.rec (motive:=fun _=>Nat->Option α) (fun _=>none) (fun a _ b n=>Nat.rec (motive:=fun _=>Option α) (some a) (fun n _=>b n) n) l
theorem Sk {α:Type}:∀(l:List α) (n:Nat),aC5 l n=l[n]?
 |[],_=>rfl
 |_::_,0=>rfl
 |a::l,n+1=>by
  show aC5 l n=_;rw[Sk l n];rfl
def aE3 (all:Array Oper) (env:En) (g:Nat×Bool):Option Bool:=aIt g.2 (((aC5 all.toList g.1).bind (·.dst)).bind (fun d=>env.opt d))
def mY (all:Array Oper) (env:En) (o:Oper):Option Bool:=Option.rec (motive:=fun _=>Option Bool) (some true) (aE3 all env) o.guard
theorem zY (all:Array Oper) (env:En) (o:Oper):mY all env o=eD all env.vS o:=by
 unfold mY eD;cases o.guard with
 |none=>rfl
 |some g=>
  obtain⟨j,want⟩:=g;show aE3 all env (j,want)=_;unfold aE3 aIt;simp only[En.Ll,Sk,Array.getElem?_toList];rfl
def Qc (_:Program) (a:Operand->Value) (_:AH) (x:Operand):Option Value:=some (a x)
def Gt (_:Program) (a:Operand->Value) (_:AH) (x:Operand):Option Value:=some (a x)
def Rk (_:Program) (d:Operand->Value) (_:AH) (c a b:Operand):Option Value:=match d c with
  |.bool t=>some (if t then d a else d b)
  |_=>none
def Ld (P:Program) (b:Operand->Value) (_:AH) (t:TypeId) (a:Array (Nat×Operand)):Option Value:=Fb P t (a.toList.map fun p=>(p.1,b p.2))
def Qn (P:Program) (b:Operand->Value) (h:AH) (t:TypeId) (a:Operand):Option Value:=match b a with
  |.pointer (some a)=>sP P h t a
  |_=>none
def zM (_:Program) (c:Operand->Value) (_:AH) (x:Operand):Option Value:=match c x with
  |.pointer (some a)=>some (.pointer (some a))
  |.func (.func f) a b=>some (.func (.func f) a b)
  |.func (.yield f) a b=>some (.func (.yield f) a b)
  |_=>none
def J3 (P:Program) (a:Operand->Value) (_:AH) (op:BinOp) (t:TypeId) (x y:Operand):Option Value:=Qw P op t x y (a x) (a y)
def Si (_:Program) (a:Operand->Value) (_:AH) (op:UnOp) (x:Operand):Option Value:=match op,a x with
  |.neg,.int k n=>some (.int k (k.wrap (0 - n)))
  |.not,.bool b=>some (.bool !b)
  |_,_=>none
def B3 (P:Program) (a:Operand->Value) (h:AH) (s d:TypeId) (x:Operand):Option Value:=match P.underlying s,P.underlying d,a x with
  |some _,some (.int k),.int _ n=>some (.int k (k.wrap n))
  |some .string,some .string,.string z=>some (.string z)
  |some (.slice e),some .string,v=>(match P.underlying e with
   |some (.int .u8)=>strOf h v
   |_=>none)
  |_,_,_=>none
def pZ (P:Program) (a:Operand->Value) (_:AH) (t:TypeId) (x:Operand):Option Value:=match P.underlying t with
  |some (.interface _)=>none
  |some _=>some (.iface t (a x))
  |none=>none
def zD (_:Program) (a:Operand->Value) (_:AH) (fn:Fn) (first captured:Array Operand):Option Value:=match fn with
  |.func f=>some (.func (.func f) (first.map a) (captured.map a))
  |_=>none
def Ls (P:Program) (a:Operand->Value) (h:AH) (t:TypeId) (x:Operand) (c b d:Option Operand):Option Value:=sI P h t (a x) (c.map a) (b.map a) (d.map a)
def vR (P:Program) (b:Operand->Value) (_:AH) (s:TypeId) (x:Operand) (f:Nat):Option Value:=match P.underlying s,b x with
  |some (.struct c),.pointer (some a)=>match c[f]? with
   |some fd=>if P.cellsOf fd.type=0 then none else some (.pointer (some (a.add fd.offset)))
   |none=>none
  |_,_=>none
def K9 (P:Program) (b:Operand->Value) (_:AH) (t:TypeId) (x:Operand) (f:Nat):Option Value:=match P.underlying t,b x with
  |some (.struct c),.agg a=>match c[f]? with
   |some fd=>apart P fd.type a.toList fd.offset
   |none=>none
  |_,_=>none
def vZ (P:Program) (b:Operand->Value) (_:AH) (t:TypeId) (x i:Operand):Option Value:=match P.underlying t,b x,b i with
  |some (.array n e),.pointer (some a),.int _ i=>if 0<=i/\i<n/\(P.info? e).isSome then some (.pointer (some (a.add (i.toNat*P.cellsOf e)))) else none
  |some (.slice e),.slice (some a) n _,.int _ i=>if 0<=i/\i<n/\(P.info? e).isSome/\a.spot=none then some (.pointer (some (a.add (i.toNat*P.cellsOf e)))) else none
  |_,_,_=>none
def Kv (P:Program) (a:Operand->Value) (_:AH) (t:TypeId) (x i:Operand):Option Value:=match P.underlying t,a x,a i with
  |some (.array n e),.agg c,.int _ i=>if 0<=i/\i<n/\(P.info? e).isSome then apart P e c.toList (i.toNat*P.cellsOf e) else none
  |some .string,.string s,.int _ i=>if 0<=i then(s[i.toNat]?).map fun b=> .int .u8 b.toNat else none
  |_,_,_=>none
def B4 (_:Program) (a:Operand->Value) (_:AH) (t:Operand) (i:Nat):Option Value:=match a t with
  |.tuple b=>b.toList[i]?
  |_=>none
def Gx (P:Program) (a:Operand->Value) (h:AH) (t:TypeId) (x ix:Operand) (ok:Bool):Option Value:=tP P h t (a x) (a ix) ok
def Rv (P:Program) (e:Operand->Value) (h:AH):Op->Option Value
 |.move x=>Qc P e h x
 |.assign x=>Gt P e h x
 |.pick c a b=>Rk P e h c a b
 |.build t j=>Ld P e h t j
 |.load t a=>Qn P e h t a
 |.nilCheck x=>zM P e h x
 |.binOp op t x y _=>J3 P e h op t x y
 |.unOp op _ x=>Si P e h op x
 |.convert s d x=>B3 P e h s d x
 |.makeInterface t x=>pZ P e h t x
 |.makeFunc fn first g=>zD P e h fn first g
 |.slice t x m l n=>Ls P e h t x m l n
 |.fieldAddr s x f=>vR P e h s x f
 |.field t x f=>K9 P e h t x f
 |.indexAddr t x i=>vZ P e h t x i
 |.index t x i=>Kv P e h t x i
 |.extract t i=>B4 P e h t i
 |.lookup t x ix ok=>Gx P e h t x ix ok
 |_=>none
theorem Kl (P:Program) (a:Operand->Value) (h:AH) (op:Op):Rv P a h op=bU P a h op:=by cases op<;>rfl
def aEg (h:AH) (ds:List Nat) (ro:Option Nat):Option (Nat×AH×List Nat):=
 match ro with
 |none=>some (h.next,h.alloc (.marks true),h.next::ds)
 |some l=>match h.get l with
  |some (.loop _ _ _ _ _ _ _ d)=>some (d,h,ds)
  |_=>none
structure aBv where
 env:En
 h:AH
 v:Value
def aFn (r:aBv):Rec:=⟨r.env.vS,r.h,r.v⟩
def uM (P:Program) (a:Operand->Value) (h:AH) (op:Op):Option Value:=
 match op with
 |.call c=>(match c.callee with|.builtin b=>if gS b then(eE P h b c.argTypes (c.args.toList.map a)).map (·.1) else none|_=>none)
 |op=>Rv P a h op
theorem Dh (P:Program) (a:Operand->Value) (h:AH) (op:Op):uM P a h op=eH P a h op:=by
 cases op<;>first|exact Kl P a h _|rfl
def iD (P:Program) (R:qL) (e:Operand->Value) (h:AH) (op:Op):Option (Value×AH):=
 match op with
 |.store t a x=>match e a with
  |.pointer (some a)=>(Ku P h t a (e x)).map fun i=>(undef,i)
  |_=>none
 |.mapUpdate t m k x=>(A0 P h t (e m) (e k) (e x)).map fun i=>(undef,i)
 |.call c=>
  match c.callee with
  |.builtin b=>eE P h b c.argTypes (c.args.toList.map e)
  |.value f=>match e f with
   |.func (.func g) first d=>
    if fY P g then(R (.call g (first.toList++c.args.toList.map e++d.toList)) h).map fun r=>(r.1.v,r.2) else none
   |.func (.yield l) first _=>(R (.round l (first.toList++c.args.toList.map e)) h).map fun r=>(r.1.v,r.2)
   |_=>none
  |.invoke _ _=>none
 |_=>none
def kN (v:Option Value) (h:AH):Option (Value×AH):=Option.rec (motive:=fun _=>Option (Value×AH)) none (fun v=>some (v,h)) v
def va (b:Option (mW×(Nat->Value))) (h:AH):Option (Value×AH):=b.map fun r=>(r.2 h.next,h.alloc r.1)
def wk (b:Option (mW×(Nat->Value))) (r:Nat) (h:AH):Option (Value×AH):=b.map fun x=>(x.2 r,h.set r (some x.1))
def aFg (P:Program) (R:qL) (c:Call) (env:En) (h:AH):Option (Value×AH):=if gE (.call c) then kN (uM P (cI P env) h (.call c)) h else iD P R (cI P env) h (.call c)
abbrev OsF:=Program->qL->En->AH->Option (Value×AH)
abbrev DsF:=Program->qL->Nat->En->AH->Option (Value×AH)
def Db (P:Program) (R:qL) (env:En) (h:AH) (op:Op):Option (Value×AH):=Op.rec (motive:=fun _=>OsF)
 (fun b P _ env h=>kN (Qc P (cI P env) h b) h)
 (fun b P _ env h=>kN (Gt P (cI P env) h b) h)
 (fun g d f P _ env h=>kN (Rk P (cI P env) h g d f) h)
 (fun m P _ env h=>va (eC P (cI P env) (Op.alloc m)) h)
 (fun m l P _ env h=>va (eC P (cI P env) (Op.box m l)) h)
 (fun a c P _ env h=>kN (Ld P (cI P env) h a c) h)
 (fun a n_ c P _ env h=>va (eC P (cI P env) (Op.buildSlice a n_ c)) h)
 (fun _ _ _ _ _ _ _ _=>none)
 (fun a d P _ env h=>kN (Qn P (cI P env) h a d) h)
 (fun a d l P R env h=>iD P R (cI P env) h (Op.store a d l))
 (fun _ _ _ _ _=>none)
 (fun _ _ _ _ _=>none)
 (fun b P _ env h=>kN (zM P (cI P env) h b) h)
 (fun j a b t _ P _ env h=>kN (J3 P (cI P env) h j a b t) h)
 (fun j _ b P _ env h=>kN (Si P (cI P env) h j b) h)
 (fun d f b P _ env h=>kN (B3 P (cI P env) h d f b) h)
 (fun _ _ _ _ _ _=>none)
 (fun a b P _ env h=>kN (pZ P (cI P env) h a b) h)
 (fun i d f P _ env h=>kN (zD P (cI P env) h i d f) h)
 (fun a s P _ env h=>va (eC P (cI P env) (Op.makeMap a s)) h)
 (fun _ _ _ _ _ _=>none)
 (fun a n g P _ env h=>va (eC P (cI P env) (Op.makeSlice a n g)) h)
 (fun a b n q p P _ env h=>kN (Ls P (cI P env) h a b n q p) h)
 (fun a b i P _ env h=>kN (vR P (cI P env) h a b i) h)
 (fun a b i P _ env h=>kN (K9 P (cI P env) h a b i) h)
 (fun a b e P _ env h=>kN (vZ P (cI P env) h a b e) h)
 (fun a b e P _ env h=>kN (Kv P (cI P env) h a b e) h)
 (fun a b e j P _ env h=>kN (Gx P (cI P env) h a b e j) h)
 (fun a p r l P R env h=>iD P R (cI P env) h (Op.mapUpdate a p r l))
 (fun _ _ _ _ _ _ _=>none)
 (fun _ _ _ _ _ _ _ _=>none)
 (fun _ _ _ _ _ _=>none)
 (fun _ _ _ _ _ _=>none)
 (fun _ _ _ _ _=>none)
 (fun _ _ _ _ _ _ _ _=>none)
 (fun a e P _ env h=>kN (B4 P (cI P env) h a e) h)
 (fun g P R env h=>iD P R (cI P env) h (Op.call g))
 (fun _ _ _ _ _=>none)
 (fun _ _ _ _ _=>none)
 (fun _ _ _ _ _=>none)
 (fun _ _ _ _ _ _=>none)
 (fun _ _ _ _ _ _ _=>none)
 (fun _ _ _ _ _ _=>none) op P R env h
def ep (P:Program) (R:qL) (r:Nat) (env:En) (h:AH) (op:Op):Option (Value×AH):=Op.rec (motive:=fun _=>DsF)
 (fun b P _ _ env h=>kN (Qc P (cI P env) h b) h)
 (fun b P _ _ env h=>kN (Gt P (cI P env) h b) h)
 (fun g d f P _ _ env h=>kN (Rk P (cI P env) h g d f) h)
 (fun m P _ r env h=>wk (eC P (cI P env) (Op.alloc m)) r h)
 (fun m l P _ r env h=>wk (eC P (cI P env) (Op.box m l)) r h)
 (fun a c P _ _ env h=>kN (Ld P (cI P env) h a c) h)
 (fun a n_ c P _ r env h=>wk (eC P (cI P env) (Op.buildSlice a n_ c)) r h)
 (fun _ _ _ _ _ _ _ _ _=>none)
 (fun a d P _ _ env h=>kN (Qn P (cI P env) h a d) h)
 (fun a d l P R _ env h=>iD P R (cI P env) h (Op.store a d l))
 (fun _ _ _ _ _ _=>none)
 (fun _ _ _ _ _ _=>none)
 (fun b P _ _ env h=>kN (zM P (cI P env) h b) h)
 (fun j a b u _ P _ _ env h=>kN (J3 P (cI P env) h j a b u) h)
 (fun j _ b P _ _ env h=>kN (Si P (cI P env) h j b) h)
 (fun d f b P _ _ env h=>kN (B3 P (cI P env) h d f b) h)
 (fun _ _ _ _ _ _ _=>none)
 (fun a b P _ _ env h=>kN (pZ P (cI P env) h a b) h)
 (fun i d f P _ _ env h=>kN (zD P (cI P env) h i d f) h)
 (fun a t P _ r env h=>wk (eC P (cI P env) (Op.makeMap a t)) r h)
 (fun _ _ _ _ _ _ _=>none)
 (fun a n g P _ r env h=>wk (eC P (cI P env) (Op.makeSlice a n g)) r h)
 (fun a b n q p P _ _ env h=>kN (Ls P (cI P env) h a b n q p) h)
 (fun a b i P _ _ env h=>kN (vR P (cI P env) h a b i) h)
 (fun a b i P _ _ env h=>kN (K9 P (cI P env) h a b i) h)
 (fun a b e P _ _ env h=>kN (vZ P (cI P env) h a b e) h)
 (fun a b e P _ _ env h=>kN (Kv P (cI P env) h a b e) h)
 (fun a b e j P _ _ env h=>kN (Gx P (cI P env) h a b e j) h)
 (fun a p s l P R _ env h=>iD P R (cI P env) h (Op.mapUpdate a p s l))
 (fun _ _ _ _ _ _ _ _=>none)
 (fun _ _ _ _ _ _ _ _ _=>none)
 (fun _ _ _ _ _ _ _=>none)
 (fun _ _ _ _ _ _ _=>none)
 (fun _ _ _ _ _ _=>none)
 (fun _ _ _ _ _ _ _ _ _=>none)
 (fun a e P _ _ env h=>kN (B4 P (cI P env) h a e) h)
 (fun g P R _ env h=>aFg P R g env h)
 (fun _ _ _ _ _ _=>none)
 (fun _ _ _ _ _ _=>none)
 (fun _ _ _ _ _ _=>none)
 (fun _ _ _ _ _ _ _=>none)
 (fun _ _ _ _ _ _ _ _=>none)
 (fun _ _ _ _ _ _ _=>none) op P R r env h
theorem Qq (v:Option Value) (h:AH):kN v h=v.map fun v=>(v,h):=by cases v<;>rfl
theorem Xf (P:Program) (R:qL) (env:En) (h:AH) (op:Op):Db P R env h op=
  match kindOf op with
  |.xV=>(Rv P (cI P env) h op).map fun v=>(v,h)
  |.alloc=>(eC P (cI P env) op).map fun r=>(r.2 h.next,h.alloc r.1)
  |.store|.call=>iD P R (cI P env) h op
  |.other=>none:=by
 cases op<;>first|rfl|exact Qq _ _
theorem Ul (P:Program) (R:qL) (r:Nat) (env:En) (h:AH) (op:Op):ep P R r env h op=
  if gE op then(uM P (cI P env) h op).map fun v=>(v,h)
  else if kindOf op== .alloc then(eC P (cI P env) op).map fun x=>(x.2 r,h.set r (some x.1))
  else iD P R (cI P env) h op:=by
 cases op<;>first|rfl|exact Qq _ _|skip
 rename_i c
 show aFg P R c env h=_
 unfold aFg
 rw[Qq]
 rfl
def aJn (P:Program) (R:qL) (r:Nat) (env:En) (h:AH) (op:Op) (w:Option Bool):Option (Value×AH):=
 Option.rec (motive:=fun _=>Option (Value×AH)) none (fun b=>Bool.rec (motive:=fun _=>Option (Value×AH)) (some (undef,h)) (ep P R r env h op) b) w
def pQ (P:Program) (R:qL) (all:List Oper) (a i:Nat) (env:En) (h:AH) (o:Oper):Option (Value×AH):=aJn P R (a+i) env h o.op (mY ⟨all⟩ env o)
theorem M8 (P:Program) (R:qL) (all:List Oper) (a i:Nat) (env:En) (h:AH) (o:Oper):pQ P R all a i env h o=
 match mY ⟨all⟩ env o with
 |none=>none
 |some false=>some (undef,h)
 |some true=>
  if gE o.op then(uM P (cI P env) h o.op).map fun v=>(v,h)
  else if kindOf o.op== .alloc then(eC P (cI P env) o.op).map fun r=>(r.2 (a+i),h.set (a+i) (some r.1))
  else iD P R (cI P env) h o.op:=by
 unfold pQ
 cases mY ⟨all⟩ env o with
 |none=>rfl
 |some b=>
  cases b with
  |false=>rfl
  |true=>exact Ul ..
abbrev DtR:=Option (List aBv×En×AH)
def aIz (env:En) (h:AH) (v:Value) (x:DtR):DtR:=Option.rec (motive:=fun _=>DtR) none (fun r=>some (⟨env,h,v⟩::r.1,r.2)) x
def aI6 (a:Nat->En->AH->DtR) (i:Nat) (o:Oper) (env:En) (h:AH) (x:Option (Value×AH)):DtR:=Option.rec (motive:=fun _=>DtR) none (fun r=>aIz env h r.1 (a (i+1) (xW env o.dst r.1) r.2)) x
def mD (P:Program) (R:qL) (all:List Oper) (b i:Nat) (os:List Oper) (env:En) (h:AH):DtR:=
 List.rec (motive:=fun _=>Nat->En->AH->DtR) (fun _ env h=>some ([],env,h)) (fun o _ a i env h=>aI6 a i o env h (pQ P R all b i env h o)) os i env h
theorem Jo (P:Program) (R:qL) (all:List Oper) (a i:Nat) (o:Oper) (os:List Oper) (env:En) (h:AH):mD P R all a i (o::os) env h=
  match pQ P R all a i env h o with
  |some (v,b)=>match mD P R all a (i+1) os (xW env o.dst v) b with
   |some (c,e)=>some (⟨env,h,v⟩::c,e)
   |none=>none
  |none=>none:=by
 show aI6 (fun i env h=>mD P R all a i os env h) i o env h (pQ P R all a i env h o)=_
 cases pQ P R all a i env h o with
 |none=>rfl
 |some r=>
  show aIz env h r.1 (mD P R all a (i+1) os (xW env o.dst r.1) r.2)=_
  cases hd:mD P R all a (i+1) os (xW env o.dst r.1) r.2 with
  |none=>simp only[hd];rfl
  |some q=>simp only[hd];rfl
def C8 (P:Program) (all:List Oper) (rs:List aBv) (hEnd:AH) (x:Nat×Nat):Bool:=
 match all[x.1]?,rs[x.1]? with
 |some o,some r=>
  match mY ⟨all⟩ r.env o with
  |some true=>(match uM P (cI P r.env) (match rs[x.2]? with|some q=>q.h|none=>hEnd) o.op with|some v=>nP v r.v|none=>false)
  |_=>true
 |_,_=>false
def Ez (P:Program) (R:qL) (ops:Array Oper) (env:En) (h:AH):Option (En×AH):=
 if Fh ops.toList&&(P.follows .mixedOrders|| !Region.departs ops) then
  match mD P R ops.toList h.next 0 ops.toList env {h with next:=h.next+ops.size} with
  |some (c,a,b)=>if(B0 ops.toList).all (C8 P ops.toList c b) then some (a,b) else none
  |none=>none
 else none
def rZ (P:Program) (h:AH) (env:En):List ResultVar->Option (List Value)
 |[]=>some []
 |.tmp t::b=>(rZ P h env b).map fun l=>env.get t::l
 |.cell a t::b=>match env.get a with
  |.pointer (some a)=>match sP P h t a,rZ P h env b with
   |some v,some l=>some (v::l)
   |_,_=>none
  |_=>none
section td
variable (P:Program) (R:qL) (fn:FuncId) (ro:Option Nat) (ds:List Nat) (env:En) (k:List Item) (h:AH)
abbrev Hw:=Option (Nl×AH)
def cu:Hw:=R (.todo fn ro ds env k) h
def aFz (a b:Code):Hw:=R (.todo fn ro ds env (.code a:: .code b::k)) h
def Ql (c:Operand) (t e:Code):Hw:=match cI P env c with
   |.bool b=>R (.todo fn ro ds env (.code (if b then t else e)::k)) h
   |_=>none
def fi (b:Code) (x:Item):Hw:=R (.todo fn ro ds env (.code b::x::k)) h
def Q0 (id:Nat):Hw:=match exitTo id k with
   |some a=>R (.todo fn ro ds env a) h
   |none=>if ro.isSome then some (⟨.exit id,ds,env,undef⟩,h) else none
def aEv:Hw:=some (⟨.ret,ds,env,undef⟩,h)
def aCe:Hw:=some (⟨.jF,ds,env,undef⟩,h)
def dm (x:Option (Nl×AH)):Hw:=match x with
   |some (o,a)=>R (.todo fn ro ds o.env k) a
   |none=>none
def Yl (ops:Array Oper):Hw:=dm R fn ro ds k (R (.ops ops ops.toList env) h)
def Vy (x:Option (En×AH)):Hw:=match x with
   |some (a,b)=>R (.todo fn ro ds a k) b
   |none=>none
def Te (ops:Array Oper):Hw:=Vy R fn ro ds k (Ez P R ops env h)
def Mo (f:Operand) (ps:Array Tmp) (assign b:Code):Hw:=
   match aEg h ds ro with
   |some (d,c,e)=>
    match cI P env f with
    |.func (.func g) first a=>
     if fY P g then
      match R (.call g (first.toList++[.func (.yield c.next) #[] #[]]++a.toList)) (c.alloc (.loop .ready none fn env.vS ps assign b d)) with
      |some (_,i)=>
       match i.get c.next with
       |some (.loop st p _ _ _ _ _ _)=>
        if st= .busy then none else
        match cS i c.next .exhausted none with
        |some j=>R (.todo fn ro e env ((p.map Item.code).toList++k)) j
        |none=>none
       |_=>none
      |none=>none
     else none
    |_=>none
   |none=>none
def Lu:Hw:=
  match ro with
  |some l=>match h.get l with
   |some (.loop .ready _ _ _ _ _ _ _)=>match cS h l .busy none with
    |some a=>R (.todo fn ro ds env k) a
    |none=>none
   |_=>none
  |none=>none
def aAd:Code->Hw
  |.skip=>cu R fn ro ds env k h
  |.label _=>cu R fn ro ds env k h
  |.seq a b=>aFz R fn ro ds env k h a b
  |.cond c t e=>Ql P R fn ro ds env k h c t e
  |.block id b=>fi R fn ro ds env k h b (.inBlock id)
  |.loop b=>fi R fn ro ds env k h b (.inLoop b)
  |.scope b=>fi R fn ro ds env k h b (.inScope b)
  |.exit id=>Q0 R fn ro ds env k h id
  |.ret=>aEv ds env h
  |.region _ ops d=>Bool.rec (motive:=fun _=>Hw) (Yl R fn ro ds env k h ops) (Te P R fn ro ds env k h ops) d
  |.rangeFunc f i assign g=>Mo P R fn ro ds env k h f i assign g
  |_=>none
def aAv:Item->Hw
  |.code c=>aAd P R fn ro ds env k h c
  |.inBlock _=>cu R fn ro ds env k h
  |.inScope _=>cu R fn ro ds env k h
  |.inLoop b=>fi R fn ro ds env k h b (.inLoop b)
  |.beginRound=>Lu R fn ro ds env k h
  |_=>none
end td
def W4 (P:Program) (R:qL) (fn:FuncId) (ro:Option Nat) (ds:List Nat) (env:En) (k:List Item) (h:AH):Option (Nl×AH):=
 List.rec (motive:=fun _=>Hw) (aCe ds env h) (fun x k _=>aAv P R fn ro ds env k h x) k
section op
variable (P:Program) (R:qL) (all:Array Oper) (rest:List Oper) (env:En) (h:AH) (o:Oper)
def aHu (x:Value×AH):Hw:=R (.ops all rest (xW env o.dst x.1)) x.2
def sa:Hw:=Option.rec (motive:=fun _=>Hw) none (aHu R all rest env o) (Db P R env h o.op)
def aIm:Hw:=R (.ops all rest (xW env o.dst undef)) h
def aIy (w:Option Bool):Hw:=Option.rec (motive:=fun _=>Hw) none (fun b=>Bool.rec (motive:=fun _=>Hw) (aIm R all rest env h o) (sa P R all rest env h o) b) w
end op
def Qi (P:Program) (R:qL) (all:Array Oper) (rest:List Oper) (env:En) (h:AH):Option (Nl×AH):=
 match rest with
 |[]=>some (⟨.jF,[],env,undef⟩,h)
 |o::rest=>
  aIy P R all rest env h o (mY all env o)
def J7 (P:Program) (K:FuncId->List Value->Option iL) (R:qL) (f:FuncId) (args:List Value) (h:AH):Option (Nl×AH):=
 match K f args with
 |some (.val v)=>some (⟨.jF,[],ch,v⟩,h)
 |some (.fwd g d)=>match R (.call g d) h with
  |some (o,b)=>if Lj o.v then some (⟨.jF,[],ch,o.v⟩,b) else none
  |none=>none
 |some (.host F)=>(F h).map fun r=>(⟨.jF,[],ch,r.1⟩,r.2)
 |none=>
  match aC5 P.funcs.toList f with
  |some fn=>
   match fn.body with
   |some a=>
    match R (.todo f none [] (En.of args (fn.ntmps - args.length)) [.code a]) h with
    |some (o,b)=>
     match o.leave with
     |.exit _=>none
     |_=>match bZ o.ds b with
      |some c=>(rZ P c o.env fn.results.toList).map fun e=>(⟨.jF,[],ch,oneOf e⟩,c)
      |none=>none
    |none=>none
   |none=>none
  |none=>none
def Fc (R:qL) (l:Nat) (args:List Value) (h:AH):Option (Nl×AH):=
 match h.get l with
 |some (.loop _ _ fn c e assign a _)=>
  if args.length=e.size then
   match R (.todo fn (some l) [] (En.of ((e.toList.zip args).foldl (fun t (p,v)=>t.set p v) c) 0) [.code assign,.beginRound,.code a]) h with
   |some (o,d)=>
    if o.ds.isEmpty then
     match o.leave with
     |.jF=>(cS d l .ready (some none)).map fun b=>(⟨.jF,[],ch,.bool true⟩,b)
     |.ret=>(cS d l .done (some (some .ret))).map fun b=>(⟨.jF,[],ch,.bool false⟩,b)
     |.exit id=>(cS d l .done (some (some (.exit id)))).map fun b=>(⟨.jF,[],ch,.bool false⟩,b)
    else none
   |none=>none
  else none
 |_=>none
def aHj (P:Program) (K:FuncId->List Value->Option iL) (R:qL) (t:Ux) (h:AH):Option (Nl×AH):=
 Ux.rec (motive:=fun _=>Hw) (fun fn ro ds env k=>W4 P R fn ro ds env k h) (fun all rest env=>Qi P R all rest env h) (fun f a=>J7 P K R f a h) (fun l a=>Fc R l a h) t
def V4 (P:Program) (K:FuncId->List Value->Option iL) (n:Nat):qL:=
 Nat.rec (motive:=fun _=>qL) (fun _ _=>none) (fun _ R=>aHj P K R) n
section same
variable {P:Program} {K:FuncId->List Value->Option iL} {R':qL} {R:jH}
theorem Fv.val (a:Fv R' R) (t:Ux) (h:AH):(R' t h).map (fun r=>(r.1.v,r.2))=(R (aCm t) h).map fun r=>(r.1.v,r.2):=by
 rw[a t h,Option.map_map];rfl
theorem Bm (b:Fv R' R) (a:Operand->Value) (h:AH) (op:Op):iD P R' a h op=eA P R a h op:=by
 have c:∀g l,(R' (.call g l) h).map (fun r=>(r.1.v,r.2))=(R (.call g l) h).map fun r=>(r.1.v,r.2):=fun g l=>b.val _ _;have d:∀g l,(R' (.round g l) h).map (fun r=>(r.1.v,r.2))=(R (.round g l) h).map fun r=>(r.1.v,r.2):=fun g l=>b.val _ _;unfold iD eA;simp only[c,d];rfl
theorem Zi (a:Fv R' R) (env:En) (h:AH) (op:Op):Db P R' env h op=lR P R env.vS h op:=by
 rw[Xf];unfold lR;simp only[vA,Kl,Bm a];rfl
theorem Rc (b:Fv R' R) (all:List Oper) (a i:Nat) (env:En) (h:AH) (o:Oper):pQ P R' all a i env h o=eZ P R all a i env.vS h o:=by
 rw[M8];unfold eZ;simp only[zY,vA,Dh,Bm b];rfl
theorem E3 (b:Fv R' R) (all:List Oper) (a:Nat):∀(os:List Oper) (i:Nat) (env:En) (h:AH),
    gJ P R all a i os env.vS h=(mD P R' all a i os env h).map fun r=>(r.1.map aFn,r.2.1.vS,r.2.2)
 |[],_,_,_=>rfl
 |o::os,i,env,h=>by
  rw[Jo];simp only[gJ,Rc b];cases eZ P R all a i env.vS h o with
  |none=>rfl
  |some r=>
   obtain⟨v,c⟩:=r;simp only[<-Jn,E3 b all a os];cases mD P R' all a (i+1) os (xW env o.dst v) c with
   |none=>rfl
   |some r=>rfl
theorem W2 (all:List Oper) (rs:List aBv) (hEnd:AH) (x:Nat×Nat):C8 P all rs hEnd x=rK P all (rs.map aFn) hEnd x:=by
 unfold C8 rK;simp only[List.getElem?_map];cases all[x.1]? with
 |none=>rfl
 |some o=>
  cases rs[x.1]? with
  |none=>rfl
  |some r=>
   simp only[Option.map_some,zY,vA,Dh];cases rs[x.2]?<;>rfl
theorem V9 (c:Fv R' R) (ops:Array Oper) (env:En) (h:AH):qF P R ops env.vS h=(Ez P R' ops env h).map fun r=>(r.1.vS,r.2):=by
 unfold Ez qF;rw[E3 c];split;cases mD P R' ops.toList h.next 0 ops.toList env {h with next:=h.next+ops.size} with
 |none=>rfl
 |some r=>
  obtain⟨b,e,a⟩:=r;have:C8 P ops.toList b a=rK P ops.toList (b.map aFn) a:=funext (W2 _ b a);simp only[Option.map_some,this];split<;>rfl
 rfl
theorem xB (h:AH) (env:En):∀b,rZ P h env b=fH P h env.vS b
 |[]=>rfl
 |.tmp t::b=>by simp only[rZ,fH,En.get_eq,xB h env b]
 |.cell a t::b=>by simp only[rZ,fH,En.get_eq,xB h env b];rfl
theorem V7 (P:Program) (R:qL) (all:Array Oper) (rest:List Oper) (env:En) (h:AH):Qi P R all rest env h=
  match rest with
  |[]=>some (⟨.jF,[],env,undef⟩,h)
  |o::rest=>
   match mY all env o with
   |none=>none
   |some false=>R (.ops all rest (xW env o.dst undef)) h
   |some true=>match Db P R env h o.op with
    |some (v,a)=>R (.ops all rest (xW env o.dst v)) a
    |none=>none:=by
 cases rest with
 |nil=>rfl
 |cons o rest=>
  show aIy P R all rest env h o (mY all env o)=_
  simp only
  cases mY all env o with
  |none=>rfl
  |some b=>
   cases b with
   |false=>rfl
   |true=>
    show sa P R all rest env h o=_
    unfold sa
    simp only
    cases Db P R env h o.op<;>rfl
theorem cr (a:Fv R' R) (all:Array Oper) (rest:List Oper) (env:En) (h:AH):rA P R all rest env.vS h=(Qi P R' all rest env h).map vH:=by
 rw[V7];unfold rA;cases rest with
 |nil=>rfl
 |cons o rest=>
  simp only[zY,Zi a];cases eD all env.vS o with
  |none=>rfl
  |some b=>
   cases b with
   |false=>simp only[<-Jn];exact a (.ops all rest (xW env o.dst undef)) h
   |true=>
    simp only;cases lR P R env.vS h o.op with
    |none=>rfl
    |some r=>simp only[<-Jn];exact a (.ops all rest (xW env o.dst r.1)) r.2
theorem Vl (y:Fv R' R) (fn:FuncId) (ro:Option Nat) (ds:List Nat) (env:En) (k:List Item) (h:AH):dW P R fn ro ds env.vS k h=(W4 P R' fn ro ds env k h).map vH:=by
 have m:∀fn ro ds (env:En) k h,R (.todo fn ro ds env.vS k) h=(R' (.todo fn ro ds env k) h).map vH:=fun fn ro ds env k h=>y (.todo fn ro ds env k) h;unfold dW;cases k with
 |nil=>rfl
 |cons x k=>
  cases x with
  |code c=>
   cases c with
   |skip=>exact m ..
   |label _=>exact m ..
   |seq a b=>exact m ..
   |cond c t e=>
    show _=(Ql P R' fn ro ds env k h c t e).map vH;unfold Ql;simp only[vA];cases cZ P env.vS c<;>first|rfl|exact m ..
   |block id b=>exact m ..
   |loop b=>exact m ..
   |scope b=>exact m ..
   |exit id=>
    show _=(Q0 R' fn ro ds env k h id).map vH;unfold Q0;simp only;cases exitTo id k with
    |none=>simp only;split<;>rfl
    |some H=>exact m ..
   |ret=>rfl
   |region i ops d=>
    cases d with
    |false=>
     show _=(Yl R' fn ro ds env k h ops).map vH;unfold Yl dm;simp only;rw[show R (.ops ops ops.toList env.vS) h=(R' (.ops ops ops.toList env) h).map vH from y (.ops ops ops.toList env) h];cases R' (.ops ops ops.toList env) h with
     |none=>rfl
     |some r=>exact m ..
    |true=>
     show _=(Te P R' fn ro ds env k h ops).map vH;unfold Te Vy;simp only[V9 y];cases Ez P R' ops env h with
     |none=>rfl
     |some r=>exact m ..
   |rangeFunc f z assign n=>
    show _=(Mo P R' fn ro ds env k h f z assign n).map vH;unfold Mo;simp only[vA];split;rename_i d q A C;have s:aEg h ds ro=some (d,q,A):=C;simp only[s];split;rename_i g first j D
    simp only[D];split;rw[show R (.call g (first.toList++[.func (.yield q.next) #[] #[]]++j.toList)) (q.alloc (.loop .ready none fn env.vS z assign n d))=
     (R' (.call g (first.toList++[.func (.yield q.next) #[] #[]]++j.toList)) (q.alloc (.loop .ready none fn env.vS z assign n d))).map vH from y (.call g _) _]
    cases R' (.call g (first.toList++[.func (.yield q.next) #[] #[]]++j.toList)) (q.alloc (.loop .ready none fn env.vS z assign n d)) with
    |none=>rfl
    |some r=>
     simp only[Option.map_some,vH];split;rename_i st p _ _ _ _ _ _ u;simp only[u];split;rfl;split;rename_i G w;simp only[w];exact m ..;rename_i w;simp only[w];rfl;rename_i u;split;rename_i v;exact absurd v (u _ _ _ _ _ _ _ _);rfl
    rfl;rename_i D;split;rename_i E;exact absurd E (D _ _ _);rfl;rename_i C;have s:aEg h ds ro=none:=C;simp only[s];rfl
   |_=>rfl
  |inBlock _=>exact m ..
  |inScope _=>exact m ..
  |inLoop b=>exact m ..
  |beginRound=>
   show _=(Lu R' fn ro ds env k h).map vH;unfold Lu;cases ro with
   |none=>rfl
   |some l=>
    simp only;split;rename_i u;simp only[u];split;rename_i F w;simp only[w];exact m ..;rename_i w;simp only[w];rfl;rename_i u;split;rename_i v;exact absurd v (u _ _ _ _ _ _ _);rfl
  |_=>rfl
theorem W9 (i:Fv R' R) (f:FuncId) (args:List Value) (h:AH):jG P K R f args h=(J7 P K R' f args h).map vH:=by
 unfold J7 jG;cases K f args with
 |some a=>
  cases a with
  |val v=>rfl
  |fwd g c=>
   simp only;rw[show R (.call g c) h=(R' (.call g c) h).map vH from i (.call g c) h];cases R' (.call g c) h with
   |none=>rfl
   |some r=>simp only[Option.map_some,vH,aAt];split<;>rfl
  |host F=>simp only;cases F h<;>rfl
 |none=>
  simp only;rw[Sk,Array.getElem?_toList];cases P.funcs[f]? with
  |none=>rfl
  |some fn=>
   simp only;cases fn.body with
   |none=>rfl
   |some b=>
    simp only;rw[<-En.of_eq,show R (.todo f none [] (En.of args (fn.ntmps - args.length)).vS [.code b]) h=(R' (.todo f none [] (En.of args (fn.ntmps - args.length)) [.code b]) h).map vH from i (.todo f none [] (En.of args (fn.ntmps - args.length)) [.code b]) h];cases R' (.todo f none [] (En.of args (fn.ntmps - args.length)) [.code b]) h with
    |none=>rfl
    |some r=>
     obtain⟨⟨j,ds,env,v⟩,e⟩:=r;simp only[Option.map_some,vH,aAt,xB];cases j with
     |exit id=>rfl
     |jF=>simp only;cases bZ ds e with|none=>rfl|some d=>simp only;cases fH P d env.vS fn.results.toList<;>rfl
     |ret=>simp only;cases bZ ds e with|none=>rfl|some d=>simp only;cases fH P d env.vS fn.results.toList<;>rfl
theorem S2 (i:Fv R' R) (l:Nat) (args:List Value) (h:AH):mU R l args h=(Fc R' l args h).map vH:=by
 unfold Fc mU;split;rename_i fn a g as bd d c;simp only[c];split;have f:∀t:List Value,(En.of t 0).vS=t:=fun t=>by rw[En.of_eq];simp
 have:=i (.todo fn (some l) [] (En.of ((g.toList.zip args).foldl (fun t (p,v)=>t.set p v) a) 0) [.code as,.beginRound,.code bd]) h;simp only[aCm,f] at this;rw[this];cases R' (.todo fn (some l) [] (En.of ((g.toList.zip args).foldl (fun t (p,v)=>t.set p v) a) 0) [.code as,.beginRound,.code bd]) h with
 |none=>rfl
 |some r=>
  obtain⟨⟨j,ds,env,v⟩,b⟩:=r;simp only[Option.map_some,vH,aAt];split;cases j with
  |jF=>simp only;cases cS b l .ready (some none)<;>rfl
  |ret=>simp only;cases cS b l .done (some (some .ret))<;>rfl
  |exit id=>simp only;cases cS b l .done (some (some (.exit id)))<;>rfl
  rfl
 rfl;rename_i c;split;rename_i e;exact absurd e (c _ _ _ _ _ _ _ _);rfl
theorem eh:∀n,Fv (V4 P K n) (run P K n)
 |0=>fun t h=>by cases t<;>rfl
 |n+1=>fun t h=>by
  have b:Fv (V4 P K n) fun t h=>run P K n t h:=eh n;cases t with
  |todo fn ro ds env k=>exact Vl b ..
  |ops all rest env=>exact cr b ..
  |call f a=>exact W9 b ..
  |round l a=>exact S2 b ..
end same
theorem Hh {P:Program} {K:FuncId->List Value->Option iL} {n:Nat} {f:FuncId} {args:List Value} {h:AH} {v:Value} (a:((V4 P K n (.call f args) h).any fun r=>nP r.1.v v)=true):
  ((run P K n (.call f args) h).any fun r=>nP r.1.v v)=true:=by
 have:=eh (P:=P) (K:=K) n (.call f args) h
 simp only[aCm] at this
 rw[this]
 revert a
 cases V4 P K n (.call f args) h<;>exact id
end
end Go.Ab
end
section
namespace Go.Ab
noncomputable section
variable {P:Program} {K:FuncId->List Value->Option iL}
def sub:Code->List Nat->Code
 |c,[]=>c
 |.seq a _,0::p=>sub a p
 |.seq _ b,1::p=>sub b p
 |.cond _ t _,0::p=>sub t p
 |.cond _ _ e,1::p=>sub e p
 |.block _ b,0::p=>sub b p
 |.loop b,0::p=>sub b p
 |.scope b,0::p=>sub b p
 |.rangeFunc _ _ a _,0::p=>sub a p
 |.rangeFunc _ _ _ b,1::p=>sub b p
 |_,_=> .skip
def Mi (P:Program) (f:FuncId):Option Code:=(P.funcs[f]?).bind (·.body)
def ntm (P:Program) (f:FuncId):Nat:=(P.funcs[f]?).elim 0 (·.ntmps)
def cd (P:Program) (f:FuncId) (p:List Nat):Code:=sub ((Mi P f).getD .skip) p
def Cl (P:Program) (K:FuncId->List Value->Option iL) (f:FuncId) (args:List Value) (h:AH) (Q:Value->AH->Prop):Prop:=Ok P K (.call f args) h fun o a=>Q o.v a
theorem Cl.mono {f:FuncId} {args:List Value} {h:AH} {Q a:Value->AH->Prop} (k:Cl P K f args h Q) (c:∀v b,Q v b->a v b):Cl P K f args h a:=Ok.mono k fun _ _=>c _ _
def lpB (P:Program) (f:FuncId) (p:List Nat) (n:Nat) (e:Nat->Value) (d:Nat) (st:LoopState) (pd:Option Code):mW:=match cd P f p with
 |.rangeFunc _ c a b=> .loop st pd f ((List.range n).map e) c a b d
 |_=> .marks false
abbrev I (n:Int):Value:= .int .i64 n
def pt (b o j:Nat):Value:= .pointer (some ⟨b,o+j,none⟩)
def aHt:Nat->Nat->List Nat->List Nat
 |0,_,acc=>acc
 |f+1,n,acc=>if n<=1 then acc else aHt f (n/2) (n % 2::acc)
def fQ (n:Nat):List Nat:=aHt 120 n []
def rgF:Code->Operand×Array Tmp×Code×Code
 |.rangeFunc f c a b=>(f,c,a,b)
 |_=>(.tmp 0, #[],.skip,.skip)
end
end Go.Ab
end
