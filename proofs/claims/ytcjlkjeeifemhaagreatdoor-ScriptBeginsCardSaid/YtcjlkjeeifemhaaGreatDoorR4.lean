/- A part of the proof. -/
import Derived.Test.YtcjlkjeeifemhaaGreatDoorR3
namespace Go.Ab
open Go.RowKit
section
variable {P:Program} {B:Nat} {K:FuncId->List Value->Option iJ}
theorem Se {α:Type} {l:List α} {f:α×Nat->Bool} (h:l.zipIdx.all f=true) {k:Nat} {o:α} (a:l[k]?=some o):f (o,k)=true:=by
 grind
theorem Vj {l:List Nat} (a:l.Pairwise (·<·)) {i p:Nat} (c:l.find? (fun x=>decide (i<x))=some p):i<p/\p∈l/\∀j∈l,i<j->p<=j:=by
 obtain⟨b,as,f,rfl,g⟩:=List.find?_eq_some_iff_append.1 c;refine⟨by simpa using b,by simp,?_⟩;intro j e d;rcases List.mem_append.1 e with h|h;grind;rw[List.pairwise_append] at a;rcases List.mem_cons.1 h with h|h;omega;have:=(List.pairwise_cons.1 a.2.1).1 j h;omega
structure Fit (all:List Oper):Prop where
 dir:∀(k:Nat) o,all[k]?=some o->∀j∈eM o,j<k
 kind:∀(k:Nat) o,all[k]?=some o->kindOf o.op≠.other
 oO:∀i j:Nat,∀t,(all[i]?).bind (·.dst)=some t->(all[j]?).bind (·.dst)=some t->i=j
 tmps:∀i j:Nat,∀o p d,all[i]?=some o->all[j]?=some p->i≠j->p.dst=some d->d∈C2 all o->(j<i->ahead (eH all []) j i=true)/\(i<j->ahead (eH all []) i j=true)
 vT:∀i j:Nat,∀o p,all[i]?=some o->all[j]?=some p->dD o.op=true->dD p.op=true->j<i->ahead (eH all []) j i=true
theorem Zu {all:List Oper} (h:Gc all=true):Fit all:=by
 unfold Gc at h;simp only[Bool.and_eq_true] at h;obtain⟨⟨⟨b,g⟩,c⟩,_⟩:=h;have pair:∀i j:Nat,∀o p,all[i]?=some o->all[j]?=some p->i≠j->
   (o.dst.isNone||o.dst !=p.dst)=true/\
   (match p.dst with|some d=> !(C2 all o).contains d||(if j<i then ahead (eH all []) j i else ahead (eH all []) i j)|none=>true)=true/\
   (!(dD o.op&&dD p.op&&decide (j<i))||ahead (eH all []) j i)=true:=by
  intro i j o p a f e
  have:=Se (Se c a) f
  grind
 refine {dir:=?_,kind:=?_,oO:=?_,tmps:=?_,vT:=?_};intro k o a j l;have:=Se b a;grind;grind;grind;grind;grind
theorem aHi {all:List Oper} {i s n:Nat} (f:n=all.length) (e:i<n):
  let vT:=(List.range n).filter fun i=>(all[i]?).any fun o=>dD o.op
  ((vT++[n]).find? fun x=>decide (i<x)).getD n=s->i<s/\∀j p,i<j->j<s->all[j]?=some p->dD p.op=false:=by
 intro vT b
 have a:(vT++[n]).Pairwise (·<·):=by
  rw[List.pairwise_append];refine⟨(List.pairwise_lt_range).filter _,by simp,?_⟩;grind
 cases hf:(vT++[n]).find? fun x=>decide (i<x) with
 |none=>
  grind
 |some p=>
  rw[hf] at b
  simp only[Option.getD_some] at b
  subst b
  obtain⟨c,_,d⟩:=Vj a hf
  grind
theorem Z6 {all:List Oper} {i s:Nat} {o:Oper} (f:all[i]?=some o) (q:gB o.op=true) (r:s=all.length\/∃p,all[s]?=some p/\dD p.op=true)
  (d:∀j p,all[j]?=some p->dD p.op=true->(j<s->ahead (eH all []) i j=false)/\(s<=j->ahead (eH all []) j i=false))
  (c:¬(i<s/\∀j p,i<j->j<s->all[j]?=some p->dD p.op=false)):(i,s)∈B7 all:=by
 have b:i<all.length:=(List.getElem?_eq_some_iff.1 f).1
 unfold B7
 simp only
 rw[List.mem_flatMap]
 refine⟨i,List.mem_range.2 b,?_⟩
 rw[aNa (by simp[f,q])]
 rw[List.mem_map]
 refine⟨s,?_,rfl⟩
 rw[List.mem_filter]
 constructor
 .grind
 .rw[Bool.and_eq_true];constructor
  .simp only[bne_iff_ne,ne_eq];intro m;exact c (aHi rfl b m.symm)
  .rw[List.all_eq_true];intro j e;rw[List.mem_filter] at e;obtain⟨n,a⟩:=e;cases hp:all[j]? with
   |none=>simp[hp] at a
   |some p=>
    simp[hp] at a
    obtain⟨g,l⟩:=d j p hp a
    split
    .rename_i h;simp[g h]
    .rename_i h;simp[l (by omega)]
theorem zW {R:iU} {all:List Oper} {d:Nat}:∀(os:List Oper) (i:Nat) (env:List Value) (h:AH) (rs:List Rec) (e:List Value) (b:AH),gE P R all d i os env h=some (rs,e,b)->rs.length=os.length
 |[],i,env,h,rs,e,b,a=>by
  simp only[gE,Option.some.injEq,Prod.mk.injEq] at a;rw[<-a.1];rfl
 |o::os,i,env,h,rs,e,b,a=>by
  simp only[gE] at a;split at a;split at a;rename_i c;simp only[Option.some.injEq,Prod.mk.injEq] at a;rw[<-a.1,List.length_cons,List.length_cons,zW os _ _ _ _ _ _ c];cases a;cases a
theorem aB8 (C:Ctx P B K) (R:iU) (hR:Bz C R):r6 C R:=by
 intro ops env h μ h' c ρ w b a cs k t l hg he;unfold pT at c;split at c;rename_i z;rw[Bool.and_eq_true] at z;obtain⟨z,J⟩:=z;split at c;rename_i rs e hN r;split at c;rename_i I;simp only[Option.some.injEq,Prod.mk.injEq] at c;obtain⟨rfl,rfl⟩:=c;have fit:=Zu z;generalize u:ops.toList=all at fit r I z;have ν:ops.size=all.length:=by rw[<-u];simp
 obtain⟨E,H,V,X,F,A,Y,G,W⟩:=K6 all 0 env _ rs e hN r;have d:Dr P R all h.next E H V:={
  step:=fun j o L=>by have:=(A j o L).1;rwa [Nat.zero_add] at this
  env:=fun j o L=>(A j o L).2
  dir:=fit.dir,kind:=fit.kind,oO:=fit.oO,tmps:=fit.tmps,vT:=fit.vT
  flt:=fun i s o L hl hs ζ Z U hw=>by
   rw[List.all_eq_true] at I;have:=I (i,s) (Z6 L hl ζ Z U);have γ:i<all.length:=(List.getElem?_eq_some_iff.1 L).1;unfold sD at this;simp only[L,W i γ,hw] at this;have hh:dZ P (cQ P (E i)) (H s) o.op=some (V i):=by
    rcases Nat.lt_or_ge s all.length with g|g;rw[W s g] at this;simp only at this;split at this;rename_i v hv;rw[hv,L0 _ _ this];cases this;have η:s=all.length:=by omega
    rw[List.getElem?_eq_none (by rw[zW _ _ _ _ _ _ _ r];omega)] at this;simp only at this;rw[η,G];split at this;rename_i v hv;rw[hv,L0 _ _ this];cases this
   exact hh}
 have hB:B<=w.heap.size:=l.size;have β:Inv P B ρ (H 0) w:=by
  rw[F];exact {mO:=l.mO,inj:=l.inj,low:=l.low,old:=l.old,fresh:=fun i g=>l.fresh i (by simp at g;omega),gF:=fun i g=>l.gF i (by simp at g;omega),nT:=l.nT,size:=l.size,bn:=by have:=l.bn;grind}
 have q:∀i,(H 0).get i=h.get i:=fun i=>by rw[F];rfl
 have ι:St P B all h.next E H V ρ h w [] 0 ρ w a.tmps.toList:={
  C8:={ext:=Ext.refl _,inv:=β,un:=fun _ _ h=>h,lQ:=fun i _ _=>q i,stay:=fun i _ g=>by rw[q];exact g,frame:=fun _ _ _=>rfl,
                range:=fun i b s g x h3 _=>⟨i,s,g,by grind,h3⟩,base:=by rw[F],uZ:=fun i _=>q i,size:=Nat.le_refl _,os:=rfl,out:=rfl,tape:=rfl}
  qi:=fun i g=>by cases g
  closed:=fun i g=>by cases g
  s1:=fun j o g=>by omega
  s3:=fun j o _ _ g=>by cases g
  sle:=Nat.zero_le _
  env:=by rw[X];exact he
  nx:=by grind
  Ci:=fun i o b f _ g=>by cases g
  wS:=fun i n t g x=>by rw[l.fresh _ (by omega)] at x;cases x
  lone:=fun i n t _ g x=>by rw[l.fresh _ (by omega)] at x;cases x
  Hv:=fun i i' n t t' _ _ x=>by rw[l.fresh _ (by omega)] at x;cases x
  en:=fun i _ _=>l.fresh _ (by omega)
  xu:=fun i o _ _=>l.fresh _ (by omega)
  rev:=fun i o b f g=>by omega
  ik:=fun j _ _=>by rw[q];exact l.gF _ (by omega)
  gr:=fun m hm _=>(have:m=0:=(by omega);this▸nV.refl _)}
 obtain⟨s,κ,α⟩:=ι.advance d l.bn hB _ _ rfl;have D:Region.schedule (P.follows .mixedOrders) ops t=Region.linearise.go .any ops ops.size t (Array.replicate ops.size false) []:=by
  unfold Region.schedule;rw[aNa J];rfl
 have T:yE all [] (Region.schedule (P.follows .mixedOrders) ops t):=by
  rw[D,<-u];refine Bt (by rw[u];exact fit.dir) ops.size t _ [] (by simp) (fun i l=>by simp[l]) ?_;grind
 obtain⟨D',ρ',w',a',M,δ,N,θ⟩:=Lx C hR u d l.bn hB l hg (b:=b) (cs:=cs) (k:=k) _ [] s ρ w a T α κ;have y:=M.C8;rw[G] at y;have ε:=M.nx;rw[G] at ε;refine⟨ρ',w',a',y.C8 (by omega),?_,N,θ⟩;have O:e=yQ all V (E 0) D':=by
  rw[<-Y,d.aFv _ (Nat.le_refl _)];refine List.ext_getElem? fun t=>Pv (fun i j g x=>fit.oO i j t g x) fun j hj=>?_;have S:j<all.length:=by
   cases hp:all[j]? with
   |none=>rw[hp] at hj;cases hj
   |some p=>grind
  simp[S,δ j S]
 rw[O];exact M.env;cases c;cases c;cases c
theorem nq (C:Ctx P B K) (n:Nat):Bz C (run P K n):=F0 C (aB8 C) n
end
end Go.Ab
section
namespace Go.Ab
variable {P:Program} {K:FuncId->List Value->Option iJ}
def iU.le (R R':iU):Prop:=∀t h r,R t h=some r->R' t h=some r
theorem xC {R R':iU} (e:R.le R') {d:Operand->Value} {h:AH} {op:Op} {r:Value×AH} (a:dN P R d h op=some r):dN P R' d h op=some r:=by
 unfold dN at a ⊢;split;exact a;exact a;simp only at a ⊢;split;grind;rename_i g;simp only[g] at a;split;rename_i b;simp only[b] at a;split;rename_i f;rw[aNa f] at a;simp only[Option.map_eq_some_iff] at a ⊢;obtain⟨x,c,rfl⟩:=a;exact⟨x,e _ _ _ c,rfl⟩;grind;rename_i b;simp only[b] at a;simp only[Option.map_eq_some_iff] at a ⊢;obtain⟨x,c,rfl⟩:=a;exact⟨x,e _ _ _ c,rfl⟩;grind;grind;grind
theorem Oz {R R':iU} (b:R.le R') {env:List Value} {h:AH} {op:Op} {r:Value×AH} (a:lC P R env h op=some r):lC P R' env h op=some r:=by
 unfold lC at a ⊢;cases hk:kindOf op<;>simp only[hk] at a ⊢;exact a;exact a;exact xC b a;exact xC b a;exact a
theorem G5 {R R':iU} (f:R.le R') {all:List Oper} {d i:Nat} {env:List Value} {h:AH} {o:Oper} {r:Value×AH} (a:eU P R all d i env h o=some r):eU P R' all d i env h o=some r:=by
 unfold eU at a ⊢;cases hw:dO ⟨all⟩ env o with
 |none=>grind
 |some b=>
  rw[hw] at a;cases b with
  |false=>exact a
  |true=>
   simp only at a ⊢;split;grind;rename_i e;rw[aN9 e] at a;split;grind;rename_i c;rw[aN9 c] at a;exact xC f a
theorem Ao {R R':iU} (b:R.le R') {all:List Oper} {c:Nat}:∀(os:List Oper) {i:Nat} {env:List Value} {h:AH} {r:List Rec×List Value×AH},gE P R all c i os env h=some r->gE P R' all c i os env h=some r
 |[],_,_,_,_,a=>a
 |o::os,i,env,h,r,a=>by
  simp only[gE] at a ⊢;split at a;rename_i v g d;rw[G5 b d];simp only;split at a;rename_i j e f;rw[Ao b os f];exact a;cases a;cases a
theorem Jn {R R':iU} (c:R.le R') {ops:Array Oper} {env:List Value} {h:AH} {r:List Value×AH} (a:pT P R ops env h=some r):pT P R' ops env h=some r:=by
 unfold pT at a ⊢;split;rename_i b;rw[aNa b] at a;split at a;rename_i d;rw[Ao c _ d];exact a;cases a;grind
theorem ng {R R':iU} (c:R.le R') {all:Array Oper} {rest:List Oper} {env:List Value} {h:AH} {r:Out×AH} (a:rE P R all rest env h=some r):rE P R' all rest env h=some r:=by
 unfold rE at a ⊢;cases rest with
 |nil=>exact a
 |cons o rest=>
  simp only at a ⊢;cases hw:dO all env o with
  |none=>grind
  |some b=>
   rw[hw] at a;cases b with
   |false=>exact c _ _ _ a
   |true=>
    simp only at a ⊢;split at a;rename_i v e d;rw[Oz c d];exact c _ _ _ a;cases a
theorem Yg {R R':iU} (d:R.le R') {f:FuncId} {args:List Value} {h:AH} {r:Out×AH} (a:iS P K R f args h=some r):iS P K R' f args h=some r:=by
 unfold iS at a ⊢;split;grind;rename_i b;rw[b] at a;simp only at a;split at a;rename_i c;rw[d _ _ _ c];exact a;cases a;grind;rename_i b;rw[b] at a;simp only at a;split at a;split at a;split at a;rename_i c;rw[d _ _ _ c];exact a;cases a;cases a;cases a
theorem Tp {R R':iU} (c:R.le R') {l:Nat} {args:List Value} {h:AH} {r:Out×AH} (a:mK R l args h=some r):mK R' l args h=some r:=by
 unfold mK at a ⊢;split at a;split at a;rename_i b;rw[aNa b];split at a;rename_i d;rw[c _ _ _ d];exact a;cases a;cases a;cases a
theorem Yj {R R':iU} (b:R.le R') {fn:FuncId} {ro:Option Nat} {ds:List Nat} {env:List Value} {k:List Item} {h:AH} {r:Out×AH} (a:dL P R fn ro ds env k h=some r):dL P R' fn ro ds env k h=some r:=by
 unfold dL at a ⊢;split at a;exact a;rename_i c k;split at a;exact b _ _ _ a;exact b _ _ _ a;exact b _ _ _ a;split at a;exact b _ _ _ a;cases a;exact b _ _ _ a;exact b _ _ _ a;exact b _ _ _ a;split at a;exact b _ _ _ a;exact a;exact a;split at a;rename_i i;rw[b _ _ _ i];exact b _ _ _ a;cases a;split at a;rename_i i;rw[Jn b i];exact b _ _ _ a;cases a;split at a;rename_i d n j m;split at a;rename_i g first e p
 split at a;rename_i f;rw[aNa f];split at a;rename_i i;rw[b _ _ _ i];simp only;split at a;split at a;cases a;rename_i l;rw[aN9 l];split at a;exact b _ _ _ a;cases a;cases a;cases a;cases a;cases a;cases a;cases a;exact b _ _ _ a;exact b _ _ _ a;exact b _ _ _ a;split at a;split at a;split at a;exact b _ _ _ a;cases a;cases a;cases a;cases a
theorem wz:∀n,(run P K n).le (run P K (n+1))
 |0,t,h,r,a=>by simp[run] at a
 |n+1,t,h,r,a=>by
  have c:=wz n;cases t with
  |todo fn ro ds env k=>exact Yj c a
  |ops all rest env=>exact ng c a
  |call f b=>exact Yg c a
  |round l b=>exact Tp c a
theorem jV {n m:Nat} (h:n<=m):(run P K n).le (run P K m):=by
 induction h with
 |refl=>exact fun _ _ _ h=>h
 |step _ b=>exact fun t g r a=>wz _ _ _ _ (b t g r a)
end Go.Ab
end
section
namespace Go.Ab
noncomputable section
variable {P:Program} {K:FuncId->List Value->Option iJ}
def V2 (k:Nat) (a b:Value):Option Bool:=match k,a,b with
 |0,.int k m,.int c n=>if k=c then some (m==n) else none
 |1,.bool m,.bool n=>some (m==n)
 |2,.string m,.string n=>some (m==n)
 |_,_,_=>none
def oX:List Nat->List Value->List Value->Option Bool
 |[],[],[]=>some true
 |k::c,x::d,y::e=>match V2 k x y,oX c d e with
  |some a,some b=>some (a&&b)
  |_,_=>none
 |_,_,_=>none
def Kb (P:Program) (c:TypeId->Option (List Nat)):Nat->List Field->Option (List Nat)
 |_,[]=>some []
 |o,f::d=>if f.name="_"\/f.offset≠o then none else
  match c f.type,Kb P c (o+P.cellsOf f.type) d with
  |some a,some b=>if a.length=P.cellsOf f.type then some (a++b) else none
  |_,_=>none
def Oo (P:Program):Nat->TypeId->Option (List Nat)
 |0,_=>none
 |d+1,t=>match P.underlying t with
  |some .bool=>some [1]
  |some (.int _)=>some [0]
  |some .string=>some [2]
  |some (.array n e)=>if(P.info? e).isSome then
    (match Oo P d e with
    |some l=>if l.length=P.cellsOf e then some (List.replicate n l).flatten else none
    |none=>none) else none
  |some (.struct a)=>if P.stoodInHeld t then none else Kb P (Oo P d) 0 a.toList
  |_=>none
theorem qR:∀{c:List Nat} {a b:List Value} {r:Bool},oX c a b=some r->a.length=c.length/\b.length=c.length
 |[],[],[],_,_=>⟨rfl,rfl⟩
 |[],[],_::_,_,h=>by simp[oX] at h
 |[],_::_,_,_,h=>by simp[oX] at h
 |_::_,[],_,_,h=>by simp[oX] at h
 |_::_,_::_,[],_,h=>by simp[oX] at h
 |k::c,x::e,y::f,r,h=>by
  simp only[oX] at h;split at h;rename_i d;have:=qR d;simp[this];cases h
theorem B6:∀{c d:List Nat} {a b:List Value} {r:Bool},oX (c++d) a b=some r->∃e f,oX c (a.take c.length) (b.take c.length)=some e/\oX d (a.drop c.length) (b.drop c.length)=some f/\r=(e&&f)
 |[],d,a,b,r,h=>⟨true,r,by simp[oX],by simpa using h,by simp⟩
 |k::g,d,[],_,r,h=>by simp[oX] at h
 |k::g,d,_::_,[],r,h=>by simp[oX] at h
 |k::g,d,x::n,y::p,r,h=>by
  simp only[List.cons_append,oX] at h;split at h;rename_i e f i j;cases h;obtain⟨s1,s2,l,m,rfl⟩:=B6 j;exact⟨e&&s1,s2,by simp[oX,i,l],by simpa using m,by rw[Bool.and_assoc]⟩;cases h
def valOf (P:Program) (t:TypeId) (a:List Value):Option Value:=match iQ P t with
 |some true=>some (.agg ⟨a⟩)
 |some false=>a[0]?
 |none=>none
theorem Ar {t:TypeId} {xs a:List Value} {b:Nat} {v:Value} (e:(xs.drop b).take (P.cellsOf t)=a) (f:a.length=P.cellsOf t) (d:0<P.cellsOf t\/b<=xs.length) (c:valOf P t a=some v):apart P t xs b=some v:=by
 unfold valOf at c;unfold apart;grind
theorem Og {eq:TypeId->Value->Value->Option Bool} {j:TypeId->Option (List Nat)}
  (n:∀t d a b r,j t=some d->d.length=P.cellsOf t->oX d a b=some r->∃x y,valOf P t a=some x/\valOf P t b=some y/\eq t x y=some r)
  {xs ys:List Value}:∀(fs:List Field) (o:Nat) (d:List Nat) (r:Bool),o<=xs.length->o<=ys.length->Kb P j o fs=some d->oX d (xs.drop o) (ys.drop o)=some r->lI P eq xs ys fs=some r
 |[],o,d,r,_,_,c,e=>by
  simp only[Kb,Option.some.injEq] at c;subst c;have:=qR e;have u:xs.drop o=[]:=List.eq_nil_of_length_eq_zero this.1;have v:ys.drop o=[]:=List.eq_nil_of_length_eq_zero this.2;rw[u,v] at e;simpa [oX,lI] using e
 |f::fs,o,d,r,C,D,c,e=>by
  simp only[Kb] at c;split at c;cases c;rename_i i;simp only[not_or,Decidable.not_not,ne_eq] at i;split at c;rename_i a b w z;split at c;rename_i g;cases c;obtain⟨H,G,l,m,rfl⟩:=B6 e;obtain⟨x,y,E,F,A⟩:=n _ _ _ _ _ w g l;have p:=qR l;have lc:=qR e;simp only[List.length_drop,List.length_append] at lc;have q:apart P f.type xs f.offset=some x:=Ar (by rw[i.2,<-g]) (by rw[p.1,g]) (.inr (by omega)) E;have s:apart P f.type ys f.offset=some y:=Ar (by rw[i.2,<-g]) (by rw[p.2,g]) (.inr (by omega)) F;simp only[lI];rw[aN9 i.1,q,s];simp only[A];rw[List.drop_drop,List.drop_drop] at m;have:=Og (xs:=xs) (ys:=ys) n fs (o+P.cellsOf f.type) b G (by omega) (by omega) z (by rw[<-g];exact m);grind;cases c;cases c
theorem Ur {eq:TypeId->Value->Value->Option Bool} {e:TypeId} {l:List Nat}
  (i:∀a b r,oX l a b=some r->∃x y,valOf P e a=some x/\valOf P e b=some y/\eq e x y=some r) (d:l.length=P.cellsOf e)
  {xs ys:List Value}:∀(n j:Nat) (r:Bool),j*P.cellsOf e<=xs.length->j*P.cellsOf e<=ys.length->oX (List.replicate n l).flatten (xs.drop (j*P.cellsOf e)) (ys.drop (j*P.cellsOf e))=some r->qS P eq e xs ys (List.range' j n)=some r
 |0,j,r,_,_,c=>by
  have:=qR c;simp only[List.replicate_zero,List.flatten_nil,List.length_nil] at this;have f:xs.drop (j*P.cellsOf e)=[]:=List.eq_nil_of_length_eq_zero this.1;have s:ys.drop (j*P.cellsOf e)=[]:=List.eq_nil_of_length_eq_zero this.2;rw[f,s] at c;simpa [oX,qS] using c
 |n+1,j,r,w,A,c=>by
  rw[List.replicate_succ,List.flatten_cons] at c;obtain⟨D,C,g,t,rfl⟩:=B6 c;obtain⟨x,y,v,z,u⟩:=i _ _ _ g;have m:=qR g;have lc:=qR c;simp only[List.length_drop,List.length_append] at lc;have p:apart P e xs (j*P.cellsOf e)=some x:=Ar (by rw[<-d]) (by rw[m.1,d]) (.inr (by omega)) v;have q:apart P e ys (j*P.cellsOf e)=some y:=Ar (by rw[<-d]) (by rw[m.2,d]) (.inr (by omega)) z;simp only[List.range'_succ,qS,p,q,u];rw[List.drop_drop,List.drop_drop] at t;have f:(j+1)*P.cellsOf e=j*P.cellsOf e+P.cellsOf e:=Nat.succ_mul _ _;have:=Ur (xs:=xs) (ys:=ys) i d n (j+1) C (by omega) (by omega) (by grind);grind
theorem aCc (d:Nat):∀(t:TypeId) (i:List Nat) (a b:List Value) (r:Bool),Oo P d t=some i->i.length=P.cellsOf t->oX i a b=some r->
  ∃x y,valOf P t a=some x/\valOf P t b=some y/\yR P d t x y=some r:=by
 induction d with
 |zero=>intro t i a b r h;simp[Oo] at h
 |succ d q=>
  intro t i a b r h p j
  have one:∀k,i=[k]->∃x y,a=[x]/\b=[y]/\V2 k x y=some r:=fun k p=>by
   subst p;have:=qR j;match a,b,this with
   |[x],[y],_=>
    refine⟨x,y,rfl,rfl,?_⟩;simp only[oX] at j;grind
  unfold Oo at h
  split at h
  .rename_i c;obtain⟨x,y,rfl,rfl,f⟩:=one 1 (by simpa using h.symm);refine⟨x,y,by simp[valOf,iQ,c],by simp[valOf,iQ,c],?_⟩;unfold V2 at f;split at f
   .rename_i g;cases g
   .cases f;unfold yR;simp[c]
   .rename_i g;cases g
   .cases f
  .rename_i k c;obtain⟨x,y,rfl,rfl,f⟩:=one 0 (by simpa using h.symm);refine⟨x,y,by simp[valOf,iQ,c],by simp[valOf,iQ,c],?_⟩;unfold V2 at f;split at f
   .split at f
    .rename_i m;subst m;cases f;unfold yR;simp[c]
    .cases f
   .rename_i g;cases g
   .rename_i g;cases g
   .cases f
  .rename_i c;obtain⟨x,y,rfl,rfl,f⟩:=one 2 (by simpa using h.symm);refine⟨x,y,by simp[valOf,iQ,c],by simp[valOf,iQ,c],?_⟩;unfold V2 at f;split at f
   .rename_i g;cases g
   .rename_i g;cases g
   .cases f;unfold yR;simp[c]
   .cases f
  .rename_i n e c;split at h
   .rename_i z;split at h
    .rename_i l A;split at h
     .rename_i hle;cases h;refine⟨.agg ⟨a⟩,.agg ⟨b⟩,by simp[valOf,iQ,c],by simp[valOf,iQ,c],?_⟩;unfold yR;simp only[c,z,if_true];rw[List.range_eq_range'];exact Ur (fun a b r j=>q e l a b r A hle j) hle n 0 r (by simp) (by simp) (by simpa using j)
     .cases h
    .cases h
   .cases h
  .rename_i s c;split at h
   .cases h
   .rename_i C;refine⟨.agg ⟨a⟩,.agg ⟨b⟩,by simp[valOf,iQ,c],by simp[valOf,iQ,c],?_⟩;unfold yR;simp only[c,C,Bool.false_eq_true,if_false];exact Og (fun t i a b r u v w=>q t i a b r u v w) s.toList 0 i r (by simp) (by simp) h (by simpa using j)
  .cases h
def Uo (op:BinOp) (r:Bool):Option Value:=match op with
 |.eql=>some (.bool r)
 |.neq=>some (.bool !r)
 |_=>none
def tD (op:BinOp) (a b:Value):Option Value:=match a,b with
 |.int k m,.int c n=>if k=c then Eh op k m n else Jh op k m n
 |_,_=>none
def I5 (op:BinOp) (a b:Value):Option Value:=match a,b with
 |.string m,.string n=>Ns op m n
 |_,_=>none
def Q2 (op:BinOp) (a b:Value):Option Value:=match a,b with
 |.bool m,.bool n=>Uo op (m==n)
 |_,_=>none
def Nf (op:BinOp) (a b:Value):Option Value:=match a,b with
 |.pointer none,.pointer b=>Uo op b.isNone
 |.pointer (some _),.pointer none=>Uo op false
 |_,_=>none
def M1 (op:BinOp) (a b:Value):Option Value:=match a,b with
 |.slice none _ _,.slice b _ _=>Uo op b.isNone
 |.slice (some _) _ _,.slice none _ _=>Uo op false
 |_,_=>none
def Sb (op:BinOp) (a b:Value):Option Value:=match a,b with
 |.nilFunc,.nilFunc=>Uo op true
 |.nilFunc,.func _ _ _=>Uo op false
 |.func _ _ _,.nilFunc=>Uo op false
 |_,_=>none
def Nl (c:Bool) (op:BinOp) (a b:Value):Option Value:=match a,b with
 |.nilIface,.nilIface=>if c then Uo op true else none
 |.nilIface,.iface _ _=>Uo op false
 |.iface _ _,.nilIface=>Uo op false
 |_,_=>none
def J1 (c:List Nat) (op:BinOp) (a b:Value):Option Value:=match a,b with
 |.agg d,.agg e=>(oX c d.toList e.toList).bind (Uo op)
 |_,_=>none
def Ii (P:Program) (t:TypeId):Option (List Nat):=match Oo P 10000 t with
 |some a=>if a.length=P.cellsOf t/\iQ P t=some true/\P.eqGuardType P.depth t=false then some a else none
 |none=>none
def Vi (P:Program) (op:BinOp) (t:TypeId) (x y:Operand) (a b:Value) (q:Value->Prop) (aY:Option Value->(Value->Prop)->Prop):Prop:=
 match P.underlying t with
 |some (.int _)=>aY (tD op a b) q
 |some .string=>aY (I5 op a b) q
 |some .bool=>aY (Q2 op a b) q
 |some (.pointer _)=>aY (Nf op a b) q
 |some (.slice _)=>aY (M1 op a b) q
 |some (.func _ _ _)=>aY (Sb op a b) q
 |some (.interface _)=>aY (Nl (isConst x||isConst y) op a b) q
 |some (.struct _)=>(match Ii P t with
  |some c=>aY (J1 c op a b) q
  |none=>False)
 |some (.array _ _)=>(match Ii P t with
  |some c=>aY (J1 c op a b) q
  |none=>False)
 |_=>False
theorem jX {op:BinOp} {t:TypeId} {x y:Operand} {a b v:Value} {r:Bool} (e:∀k m d n,¬(a= .int k m/\b= .int d n)) (i:∀m n,¬(a= .string m/\b= .string n)) (c:Uo op r=some v) (f:Hc P t x y a b=true) (g:yR P 10000 t a b=some r):
  P7 P op t x y a b=some v:=by
 unfold P7
 split
 .grind
 .grind
 .unfold Uo at c;grind
theorem lA {t:TypeId} {a b:Value} {r:Bool} (h:yR P (9999+1) t a b=some r):yR P 10000 t a b=some r:=h
theorem T8 {op:BinOp} {t:TypeId} {x y:Operand} {a b:Value} {q:Value->Prop} (g:Vi P op t x y a b q fun o p=>∃v,o=some v/\p v):∃v,P7 P op t x y a b=some v/\q v:=by
 unfold Vi at g;split at g;obtain⟨v,c,d⟩:=g;refine⟨v,?_,d⟩;unfold tD at c;split at c;simp only[P7];exact c;cases c;obtain⟨v,c,d⟩:=g;refine⟨v,?_,d⟩;unfold I5 at c;split at c;simp only[P7];exact c;cases c;rename_i e;obtain⟨v,c,d⟩:=g;refine⟨v,?_,d⟩;unfold Q2 at c;split at c;exact jX (fun _ _ _ _ h=>by cases h.1) (fun _ _ h=>by cases h.1) c rfl (lA (by unfold yR;simp[e]));cases c;rename_i e;obtain⟨v,c,d⟩:=g;refine⟨v,?_,d⟩;unfold Nf at c;split at c;exact jX (fun _ _ _ _ h=>by cases h.1) (fun _ _ h=>by cases h.1) c rfl (lA (by unfold yR;simp[e]));exact jX (fun _ _ _ _ h=>by cases h.1) (fun _ _ h=>by cases h.1) c rfl (lA (by unfold yR;simp[e]));cases c;rename_i e;obtain⟨v,c,d⟩:=g;refine⟨v,?_,d⟩;unfold M1 at c;split at c;exact jX (fun _ _ _ _ h=>by cases h.1) (fun _ _ h=>by cases h.1) c rfl (lA (by unfold yR;simp[e]));exact jX (fun _ _ _ _ h=>by cases h.1) (fun _ _ h=>by cases h.1) c rfl (lA (by unfold yR;simp[e]));cases c;rename_i e;obtain⟨v,c,d⟩:=g;refine⟨v,?_,d⟩;unfold Sb at c;split at c;exact jX (fun _ _ _ _ h=>by cases h.1) (fun _ _ h=>by cases h.1) c rfl (lA (by unfold yR;simp[e]));exact jX (fun _ _ _ _ h=>by cases h.1) (fun _ _ h=>by cases h.1) c rfl (lA (by unfold yR;simp[e]));exact jX (fun _ _ _ _ h=>by cases h.1) (fun _ _ h=>by cases h.1) c rfl (lA (by unfold yR;simp[e]));cases c;rename_i e;obtain⟨v,c,d⟩:=g;refine⟨v,?_,d⟩;unfold Nl at c;split at c;split at c;rename_i i;exact jX (fun _ _ _ _ h=>by cases h.1) (fun _ _ h=>by cases h.1) c (by simpa [Hc] using i) (lA (by unfold yR;simp[e]));cases c;exact jX (fun _ _ _ _ h=>by cases h.1) (fun _ _ h=>by cases h.1) c rfl (lA (by unfold yR;simp[e]));exact jX (fun _ _ _ _ h=>by cases h.1) (fun _ _ h=>by cases h.1) c rfl (lA (by unfold yR;simp[e]));cases c;all_goals
  first
   |cases g
   |split at g
    .rename_i G f;obtain⟨v,c,d⟩:=g;refine⟨v,?_,d⟩;unfold J1 at c;split at c
     .rename_i D F;simp only[Option.bind_eq_some_iff] at c;obtain⟨r,z,u⟩:=c;unfold Ii at f;split at f
      .rename_i A m;split at f
       .rename_i i;cases f;obtain⟨C,E,j,l,w⟩:=aCc 10000 t _ _ _ _ m i.1 z;simp only[valOf,i.2.1,Option.some.injEq] at j l;have n:C= .agg D:=j.symm;have s:E= .agg F:=l.symm;subst n;subst s;exact jX (fun _ _ _ _ h=>by cases h.1) (fun _ _ h=>by cases h.1) u (by simp[Hc,i.2.2]) w
       .cases f
      .cases f
     .cases c
    .cases g
end
end Go.Ab
end
section
namespace Go.Ab
noncomputable section
variable {P:Program} {K:FuncId->List Value->Option iJ}
def Ok (P:Program) (K:FuncId->List Value->Option iJ) (t:Task) (h:AH) (Q:Out->AH->Prop):Prop:=∃n r,run P K n t h=some r/\Q r.1 r.2
def aY {α:Type} (o:Option α) (p:α->Prop):Prop:=∃v,o=some v/\p v
def Br (v:Value) (p q:Prop):Prop:=∃b,v= .bool b/\(b=true->p)/\(b=false->q)
theorem Ok.mono {t:Task} {h:AH} {Q a:Out->AH->Prop} (k:Ok P K t h Q) (e:∀o b,Q o b->a o b):Ok P K t h a:=
 let⟨n,r,c,d⟩:=k;⟨n,r,c,e _ _ d⟩
@[simp] theorem aJt {α:Type} {v:α} {p:α->Prop}:aY (some v) p↔p v:=⟨fun⟨_,h,k⟩=>by cases h;exact k,fun k=>⟨v,rfl,k⟩⟩
@[simp] theorem aK6 {α:Type} {p:α->Prop}:aY none p↔False:=⟨fun⟨_,h,_⟩=>(nomatch h),False.elim⟩
@[congr] theorem aHw {α:Type} {o o':Option α} {p:α->Prop} (h:o=o'):aY o p↔aY o' p:=by rw[h]
theorem aY.mono {α:Type} {o:Option α} {p c:α->Prop} (h:aY o p) (k:∀v,p v->c v):aY o c:=let⟨v,a,b⟩:=h;⟨v,a,k v b⟩
@[simp] theorem aCz {p q:Prop}:Br (.bool true) p q↔p:=⟨fun⟨b,h,k,_⟩=>by cases h;exact k rfl,fun k=>⟨true,rfl,fun _=>k,by simp⟩⟩
@[simp] theorem tz {p q:Prop}:Br (.bool false) p q↔q:=⟨fun⟨b,h,_,k⟩=>by cases h;exact k rfl,fun k=>⟨false,rfl,by simp,fun _=>k⟩⟩
theorem Vu {b:Bool} {p q:Prop} (a:b=true->p) (c:b=false->q):Br (.bool b) p q:=⟨b,rfl,a,c⟩
@[congr] theorem aJ3 {v v':Value} {p q:Prop} (h:v=v'):Br v p q↔Br v' p q:=by rw[h]
def qI (c a b:Value):Option Value:=match c with
 |.bool t=>some (if t then a else b)
 |_=>none
def oM (h:AH) (p:Value):Option Value:=match p with
 |.pointer (some a)=>if a.spot.isSome then none else
  (match h.get a.block with
  |some (.cells c _ _ _)=>c[a.off]?
  |_=>none)
 |_=>none
def tU (h:AH) (n:Nat) (p:Value):Option Value:=match p with
 |.pointer (some a)=>(bZ h a n).map fun l=> .agg ⟨l⟩
 |_=>none
def lN (p:Value):Option Value:=match p with
 |.pointer (some a)=>some (.pointer (some a))
 |.func (.func f) a b=>some (.func (.func f) a b)
 |.func (.yield f) a b=>some (.func (.yield f) a b)
 |_=>none
def Pc (op:UnOp) (x:Value):Option Value:=match op,x with
 |.neg,.int k n=>some (.int k (k.wrap (0 - n)))
 |.not,.bool b=>some (.bool !b)
 |_,_=>none
def lS (k:IntKind) (x:Value):Option Value:=match x with
 |.int _ n=>some (.int k (k.wrap n))
 |_=>none
def oS (x:Value):Option Value:=match x with
 |.string z=>some (.string z)
 |_=>none
def gO (n:Nat) (p:Value):Option Value:=match p with
 |.pointer (some a)=>some (.pointer (some (a.add n)))
 |_=>none
def nQ (a:Nat) (x:Value):Option Value:=match x with
 |.agg b=>b.toList[a]?
 |_=>none
def nD (a n:Nat) (x:Value):Option Value:=match x with
 |.agg b=>if a+n<=b.toList.length then some (.agg ⟨(b.toList.drop a).take n⟩) else none
 |_=>none
def mM (n b:Nat) (x i:Value):Option Value:=match x,i with
 |.pointer (some a),.int _ i=>if 0<=i/\i<n then some (.pointer (some (a.add (i.toNat*b)))) else none
 |_,_=>none
def kA (b:Nat) (x i:Value):Option Value:=match x,i with
 |.slice (some a) n _,.int _ i=>if 0<=i/\i<n/\a.spot=none then some (.pointer (some (a.add (i.toNat*b)))) else none
 |_,_=>none
def Le (n b:Nat) (x i:Value):Option Value:=match x,i with
 |.agg a,.int _ i=>if 0<=i/\i<n then a.toList[i.toNat*b]? else none
 |_,_=>none
def O1 (n a:Nat) (x i:Value):Option Value:=match x,i with
 |.agg b,.int _ i=>if 0<=i/\i<n/\i.toNat*a+a<=b.toList.length then some (.agg ⟨(b.toList.drop (i.toNat*a)).take a⟩) else none
 |_,_=>none
def Ta (x i:Value):Option Value:=match x,i with
 |.string s,.int _ i=>if 0<=i then(s[i.toNat]?).map fun b=> .int .u8 b.toNat else none
 |_,_=>none
def oP (i:Nat) (t:Value):Option Value:=match t with
 |.tuple a=>a.toList[i]?
 |_=>none
def tZ (h:AH) (n:Nat) (p v:Value):Option AH:=match p with
 |.pointer (some a)=>(match iE v with
  |some b=>if b.length=n then dI h a b else none
  |none=>none)
 |_=>none
def jD (e:TypeId) (v:Value):Option mR:=(iE v).map fun l=> .cells l e (0,0) true
def Fa (bytes:Nat) (l c:Value):Option (Nat×Nat):=match l,c with
 |.int _ l,.int _ c=>if 0<=l/\l<=c/\c<=2^40/\bytes*c<=2^47 then some (l.toNat,c.toNat) else none
 |_,_=>none
def oD (cells:List Value):List (Nat×Nat×Value)->Option (List Value)
 |[]=>some cells
 |(a,size,v)::rest=>match iE v with
  |some b=>if b.length=size/\a+b.length<=cells.length then oD (bV cells a b) rest else none
  |none=>none
def xV (place:Nat->Option (Nat×Nat)) (b:Operand->Value):List (Nat×Operand)->Option (List (Nat×Nat×Value))
 |[]=>some []
 |(i,x)::rest=>match place i,xV place b rest with
  |some (a,size),some l=>some ((a,size,b x)::l)
  |_,_=>none
theorem Dl {place:Nat->Option (Nat×Nat)} {b:Operand->Value}:∀{a:List (Nat×Operand)} {l:List (Nat×Nat×Value)} {cells:List Value},xV place b a=some l->E6 place cells (a.map fun p=>(p.1,b p.2))=oD cells l
 |[],l,cells,h=>by simp only[xV,Option.some.injEq] at h;subst h;rfl
 |(i,x)::rest,l,cells,h=>by
  simp only[xV] at h;split at h;rename_i e size f c d;cases h;simp only[List.map_cons,E6,oD,c];cases hc:iE (b x) with
  |none=>rfl
  |some g=>
   simp only;split;exact Dl d;rfl
  cases h
def uU (g:Nat) (h:AH) (x:Value) (f e d:Option Value):Option Value:=match x with
 |.slice none len b=>
  match jZ d b b with
  |some m=>match(if e.isNone&&d.isSome then none else jZ e len m) with
   |some c=>match jZ f 0 c with
    |some l=>some (.slice none (c - l) (m - l))
    |none=>none
   |none=>none
  |none=>none
 |.slice (some a) len b=>
  match jZ d b b with
  |some m=>match(if e.isNone&&d.isSome then none else jZ e len m) with
   |some c=>match jZ f 0 c with
    |some l=>
     if a.spot.isSome then(if len=0/\b=0 then some (if d.isSome then tC else aGd) else none) else
     if c<=m then
      (if m=l then
       if d.isSome then some tC else
       match pV h a.block with
       |some true=>some tC
       |some false=>some (yS (a.add (l*g)))
       |none=>none
      else some (.slice (some (a.add (l*g))) (c - l) (m - l)))
     else none
    |none=>none
   |none=>none
  |none=>none
 |_=>none
def S4 (n f:Nat) (x:Value) (e c d:Option Value):Option Value:=match x with
 |.pointer (some a)=>
  match jZ d n n with
  |some m=>match(if c.isNone&&d.isSome then none else jZ c n m) with
   |some b=>match jZ e 0 b with
    |some l=>if a.spot=none then some (.slice (some (if m=l then a else a.add (l*f))) (b - l) (m - l)) else none
    |none=>none
   |none=>none
  |none=>none
 |_=>none
def S7 (x:Value) (c b:Option Value):Option Value:=match x with
 |.string s=>
  match jZ b s.size s.size with
  |some a=>match jZ c 0 a with
   |some l=>some (.string (s.extract l a))
   |none=>none
  |none=>none
 |_=>none
def yG (P:Program) (K:FuncId->List Value->Option iJ) (f:Value) (args:List Value) (h:AH) (Q:Value->AH->Prop):Prop:=match f with
 |.func (.func g) first a=>fX P g=true/\Ok P K (.call g (first.toList++args++a.toList)) h fun o b=>Q o.v b
 |.func (.yield l) first _=>Ok P K (.round l (first.toList++args)) h fun o b=>Q o.v b
 |_=>False
def lkV (z:Value) (h:AH) (x ix:Value) (ok:Bool):Option Value:=match X0 h x,ix with
 |some a,.int k n=>match wM k n a 0 with
  |some (some (_,v))=>some (if ok then .tuple ⟨[v,.bool true]⟩ else v)
  |some none=>some (if ok then .tuple ⟨[z,.bool false]⟩ else z)
  |none=>none
 |_,_=>none
def iT (P:Program) (g:Operand->Value) (h:AH) (q:Value->Prop):Op->Prop
 |.move x=>q (g x)
 |.assign x=>q (g x)
 |.pick c a b=>aY (qI (g c) (g a) (g b)) q
 |.build t m=>match zeroOf P t with
  |some z=>(match P.underlying t with
   |some (.struct p)=>if p.all (fun f=>(P.info? f.type).isSome) then(match xV (fun i=>(p[i]?).map fun f=>(f.offset,P.cellsOf f.type)) g m.toList with
    |some l=>aY (oD z l) fun c=>q (.agg ⟨c⟩)
    |none=>False) else False
   |some (.array _ e)=>if(P.info? e).isSome then(match xV (fun i=>some (i*P.cellsOf e,P.cellsOf e)) g m.toList with
    |some l=>aY (oD z l) fun c=>q (.agg ⟨c⟩)
    |none=>False) else False
   |_=>False)
  |none=>False
 |.load t a=>match iQ P t with
  |some true=>aY (tU h (P.cellsOf t) (g a)) q
  |some false=>aY (oM h (g a)) q
  |none=>False
 |.nilCheck x=>aY (lN (g x)) q
 |.binOp op t x y _=>Vi P op t x y (g x) (g y) q aY
 |.unOp op _ x=>aY (Pc op (g x)) q
 |.convert s d x=>match P.underlying s with
  |some .string=>(match P.underlying d with
   |some (.int k)=>aY (lS k (g x)) q
   |some .string=>aY (oS (g x)) q
   |_=>False)
  |some (.slice e)=>(match P.underlying d with
   |some .string=>(match P.underlying e with
    |some (.int .u8)=>aY (strOf h (g x)) q
    |_=>False)
   |_=>False)
  |some _=>(match P.underlying d with
   |some (.int k)=>aY (lS k (g x)) q
   |_=>False)
  |none=>False
 |.makeInterface t x=>match P.underlying t with
  |some (.interface _)=>False
  |some _=>q (.iface t (g x))
  |none=>False
 |.makeFunc fn first j=>match fn with
  |.func f=>q (.func (.func f) (first.map g) (j.map g))
  |_=>False
 |.slice t x u r v=>match P.underlying t with
  |some (.slice e)=>if(P.info? e).isSome then aY (uU (P.cellsOf e) h (g x) (u.map g) (r.map g) (v.map g)) q else False
  |some (.array n e)=>if(P.info? e).isSome then aY (S4 n (P.cellsOf e) (g x) (u.map g) (r.map g) (v.map g)) q else False
  |some .string=>(match v with
   |none=>aY (S7 (g x) (u.map g) (r.map g)) q
   |some _=>False)
  |_=>False
 |.fieldAddr s x f=>match P.underlying s with
  |some (.struct p)=>(match p[f]? with
   |some fd=>if P.cellsOf fd.type=0 then False else aY (gO fd.offset (g x)) q
   |none=>False)
  |_=>False
 |.field t x f=>match P.underlying t with
  |some (.struct p)=>(match p[f]? with
   |some fd=>(match iQ P fd.type with
    |some true=>aY (nD fd.offset (P.cellsOf fd.type) (g x)) q
    |some false=>aY (nQ fd.offset (g x)) q
    |none=>False)
   |none=>False)
  |_=>False
 |.indexAddr t x i=>match P.underlying t with
  |some (.array n e)=>if(P.info? e).isSome then aY (mM n (P.cellsOf e) (g x) (g i)) q else False
  |some (.slice e)=>if(P.info? e).isSome then aY (kA (P.cellsOf e) (g x) (g i)) q else False
  |_=>False
 |.index t x i=>match P.underlying t with
  |some (.array n e)=>if(P.info? e).isSome then(match iQ P e with
   |some true=>aY (O1 n (P.cellsOf e) (g x) (g i)) q
   |some false=>aY (Le n (P.cellsOf e) (g x) (g i)) q
   |none=>False) else False
  |some .string=>aY (Ta (g x) (g i)) q
  |_=>False
 |.extract t i=>aY (oP i (g t)) q
 |.lookup t x ix ok=>match Gf P t with
  |some e=>(match zeroV P e with
   |some z=>aY (lkV z h (g x) (g ix) ok) q
   |none=>False)
  |none=>False
 |_=>False
theorem Bv {H:Operand->Value} {h:AH} {q:Value->Prop} {op:Op} (b:iT P H h q op):kindOf op= .yK/\∃v,bN P H h op=some v/\q v:=by
 unfold iT at b;split at b;exact⟨rfl,_,rfl,b⟩;exact⟨rfl,_,rfl,b⟩;obtain⟨v,a,f⟩:=b;exact⟨rfl,v,a,f⟩;refine⟨rfl,?_⟩;split at b;rename_i z G;split at b;rename_i I s;split at b;rename_i p;split at b;rename_i l F;obtain⟨c,a,f⟩:=b;refine⟨_,?_,f⟩;simp only[bN,F9,G,s,p,if_true];rw[Dl F,a];rfl;cases b;cases b;rename_i e s;split at b;rename_i p;split at b;rename_i l F;obtain⟨c,a,f⟩:=b;refine⟨_,?_,f⟩;simp only[bN,F9,G,s,p,if_true];rw[Dl F,a];rfl;cases b;cases b;cases b;cases b;refine⟨rfl,?_⟩;split at b;rename_i n;obtain⟨v,a,f⟩:=b;refine⟨v,?_,f⟩;unfold tU at a;simp only[bN];split at a;rename_i g;rw[g];simp only[tL,n];exact a;cases a;rename_i n;obtain⟨v,a,f⟩:=b;refine⟨v,?_,f⟩;unfold oM at a;simp only[bN];split at a;rename_i g;rw[g];simp only[tL,n];exact a;cases a;cases b;obtain⟨v,a,f⟩:=b;exact⟨rfl,v,a,f⟩;obtain⟨v,a,f⟩:=T8 b;exact⟨rfl,v,a,f⟩;obtain⟨v,a,f⟩:=b;exact⟨rfl,v,a,f⟩;refine⟨rfl,?_⟩;split at b;rename_i i;split at b;rename_i u;obtain⟨v,a,f⟩:=b;refine⟨v,?_,f⟩;unfold lS at a;split at a;rename_i g;simp only[bN,i,u,g];exact a;cases a;rename_i u;obtain⟨v,a,f⟩:=b;refine⟨v,?_,f⟩;unfold oS at a;split at a;rename_i g;simp only[bN,i,u,g];exact a;cases a;cases b;rename_i i;split at b;rename_i u;split at b;rename_i g;obtain⟨v,a,f⟩:=b;refine⟨v,?_,f⟩;simp only[bN,i,u,g];exact a;cases b;cases b;rename_i i;split at b;rename_i u;obtain⟨v,a,f⟩:=b;refine⟨v,?_,f⟩;unfold lS at a;split at a;rename_i g;simp only[bN,i,u,g];exact a;cases a;cases b;cases b;refine⟨rfl,?_⟩;split at b;cases b;rename_i t x d J i;refine⟨_,?_,b⟩;simp only[bN];grind;cases b;split at b;exact⟨rfl,_,rfl,b⟩;cases b;refine⟨rfl,?_⟩;split at b;rename_i s;split at b;rename_i A;obtain⟨v,a,f⟩:=b;refine⟨v,?_,f⟩;unfold uU at a;split at a;rename_i w;simp only[bN,w,tB,s,A,if_true];exact a;rename_i w;simp only[bN,w,tB,s,A,true_and];exact a;cases a;cases b;rename_i s;split at b;rename_i A;obtain⟨v,a,f⟩:=b;refine⟨v,?_,f⟩;unfold S4 at a;split at a;rename_i w;simp only[bN,w,tB,s,A,true_and];exact a;cases a;cases b;rename_i s;split at b;obtain⟨v,a,f⟩:=b;refine⟨v,?_,f⟩;unfold S7 at a;split at a;rename_i w;simp only[bN,w,tB,s,Option.map_none,Option.isSome_none,Bool.false_eq_true,if_false];exact a;cases a;cases b;cases b;refine⟨rfl,?_⟩;split at b;rename_i i;split at b;rename_i y;split at b;cases b;rename_i r;obtain⟨v,a,f⟩:=b;refine⟨v,?_,f⟩;unfold gO at a;split at a;rename_i g;simp only[bN,i,g,y,r,if_false];exact a;cases a;cases b;cases b;refine⟨rfl,?_⟩;split at b;rename_i i;split at b;rename_i y;split at b;rename_i n;obtain⟨v,a,f⟩:=b;refine⟨v,?_,f⟩;unfold nD at a;split at a;rename_i g;simp only[bN,i,g,y,apart,n];exact a;cases a;rename_i n;obtain⟨v,a,f⟩:=b;refine⟨v,?_,f⟩;unfold nQ at a;split at a;rename_i g;simp only[bN,i,g,y,apart,n];exact a;cases a;cases b;cases b;cases b;refine⟨rfl,?_⟩;split at b;rename_i i;split at b;rename_i j;obtain⟨v,a,f⟩:=b;refine⟨v,?_,f⟩;unfold mM at a;split at a;rename_i g m;split at a;rename_i r;simp only[bN,i,g,m,r,j,and_self,if_true];exact a;cases a;cases a;cases b;rename_i i;split at b;rename_i j;obtain⟨v,a,f⟩:=b;refine⟨v,?_,f⟩;unfold kA at a;split at a;rename_i g m;split at a;rename_i r;simp only[bN,i,g,m,r,j,and_self,if_true];exact a;cases a;cases a;cases b;cases b;refine⟨rfl,?_⟩;split at b;rename_i i;split at b;rename_i j;split at b;rename_i n;obtain⟨v,a,f⟩:=b;refine⟨v,?_,f⟩;unfold O1 at a;split at a;rename_i g m;split at a;rename_i r;have C:=r.1;have D:=r.2.1;have E:=r.2.2;simp only[bN,i,g,m,C,D,j,and_self,if_true,apart,n,E];exact a;cases a;cases a;rename_i n;obtain⟨v,a,f⟩:=b;refine⟨v,?_,f⟩;unfold Le at a;split at a;rename_i g m;split at a;rename_i r;simp only[bN,i,g,m,r,j,and_self,if_true,apart,n];exact a;cases a;cases a;cases b;cases b;rename_i i;obtain⟨v,a,f⟩:=b;refine⟨v,?_,f⟩;unfold Ta at a;split at a;rename_i g m;simp only[bN,i,g,m];exact a;cases a;cases b;obtain⟨v,a,f⟩:=b;exact⟨rfl,v,a,f⟩;refine⟨rfl,?_⟩;split at b;rename_i e g;split at b;rename_i z G;obtain⟨v,a,f⟩:=b;refine⟨v,?_,f⟩;unfold lkV at a;simp only[bN,uD,g];grind;cases b;cases b;cases b
end
end Go.Ab
end
section
namespace Go.Ab
noncomputable section
variable {P:Program} {K:FuncId->List Value->Option iJ}
def vN (x:Value):Option Value:=match x with
 |.string s=>some (.int .i64 s.size)
 |_=>none
def iK (x:Value):Option Value:=match x with
 |.slice _ n _=>some (.int .i64 n)
 |_=>none
def pc (h:AH) (x:Value):Option Value:=(X0 h x).map fun a=> .int .i64 a.length
def wJ (x y:Value):Option Value:=match x,y with
 |.int k x,.int _ y=>some (.int k (if y<x then y else x))
 |_,_=>none
def yB (x y:Value):Option Value:=match x,y with
 |.int k x,.int _ y=>some (.int k (if y>x then y else x))
 |_,_=>none
def iH (i bytes:Nat) (e:TypeId) (h:AH) (s x:Value):Option (Value×AH):=
 match s,tP x with
 |.slice f b d,some n=>
  match fA h i n x with
  |some new=>
   if !new.all dV||new.length !=n*i then none else
   if b+n<=d then
    match f with
    |none=>if n=0 then some (s,h) else none
    |some a=>if n=0 then some (s,h) else if a.spot.isSome then none else
     (dI h (a.add (b*i)) new).map fun m=>(.slice f (b+n) d,m)
   else if(b+n)*(bytes+1)<=2^46 then
    match f with
    |none=>if b=0 then some (.slice (some ⟨h.next,0,none⟩) n n,h.alloc (.cells new e (0,0) false)) else none
    |some a=>
     if a.spot=some 1 then(if b=0 then some (.slice (some ⟨h.next,0,none⟩) n n,h.alloc (.cells new e (0,0) false)) else none) else
     if a.spot=some 2 then
      (match h.get a.block with
      |some (.cells c j l _)=>
       if j=e/\h.base<=a.block/\l=(0,0)/\a.off<=c.length/\b=0/\d=0 then
        some (.slice (some ⟨h.next,0,none⟩) n n,(h.set a.block none).alloc (.cells new e (0,0) false))
       else none
      |_=>none) else
     match bZ h a (b*i),h.get a.block with
     |some g,some (.cells c j l x)=>
      if !g.all dV then none else
      if x then some (.slice (some ⟨h.next,0,none⟩) (b+n) (b+n),h.alloc (.cells (g++new) e (0,0) false))
      else if j=e/\h.base<=a.block/\l=(0,0)/\a.off+d*i<=c.length then
       some (.slice (some ⟨h.next,0,none⟩) (b+n) (b+n),(h.set a.block none).alloc (.cells (g++new) e (0,0) false))
      else none
     |_,_=>none
   else none
  |_=>none
 |_,_=>none
def copyV (f:Nat) (h:AH) (d x:Value):Option (Value×AH):=
 match d,tP x with
 |.slice c b _,some m=>
   match fA h f (Nat.min m b) x with
   |some new=>match c with
    |none=>some (.int .i64 (Nat.min m b:Nat),h)
    |some a=>if Nat.min m b=0 then some (.int .i64 0,h) else(dI h a new).map fun e=>(.int .i64 (Nat.min m b:Nat),e)
   |none=>none
 |_,_=>none
def gW (z:List Value) (h:AH) (x:Value):Option (Value×AH):=
 match x with
 |.slice none _ _=>some (.tuple #[],h)
 |.slice (some a) n _=>
   if n=0 then some (.tuple #[],h) else(dI h a (dY z n)).map fun b=>(.tuple #[],b)
 |_=>none
def Ps (h:AH) (m b v:Value):Option AH:=match m,b with
 |.map (some r),.int k n=>if r<h.base then none else match h.get r with
  |some (.map c a)=>(aB1 k n v c a).map fun o=>h.set r (some o)
  |_=>none
 |_,_=>none
def P0 (h:AH) (m c:Value):Option AH:=match m,c with
 |.map (some r),.int k n=>if r<h.base then none else match h.get r with
  |some (.map b a)=>match wM k n b 0 with
   |some (some (i,_))=>some (h.set r (some (.map (b.eraseIdx i) a)))
   |some none=>some (h.set r (some (.map b a)))
   |none=>none
  |_=>none
 |_,_=>none
theorem wx {h:AH} {t e:TypeId} {m a v:Value} {h':AH} (c:Gf P t=some e) (b:Ps h m a v=some h'):Ba P h t m a v=some h':=by
 unfold Ps at b;split at b;simp only[Ba,c];exact b;cases b
theorem vy {h:AH} {t e:TypeId} {m a:Value} {h':AH} (c:Gf P t=some e) (b:P0 h m a=some h'):D5 P h t m a=some h':=by
 unfold P0 at b;split at b;simp only[D5,c];exact b;cases b
def aHn (x:Value):Option Value:=match x with
 |.slice none _ c=>some (.int .i64 c)
 |_=>none
def vS (P:Program) (h:AH) (q:Value->AH->Prop) (a:Array TypeId):Builtin->List Value->Prop
 |.len,[x]=>match(a[0]?).bind P.underlying with
  |some .string=>aY (vN x) fun v=>q v h
  |some (.slice _)=>aY (iK x) fun v=>q v h
  |some (.array n _)=>q (.int .i64 n) h
  |some (.pointer e)=>(match P.underlying e with
   |some (.array n _)=>q (.int .i64 n) h
   |_=>False)
  |some (.map _ _)=>aY (pc h x) fun v=>q v h
  |_=>False
 |.append,[s,x]=>match(a[0]?).bind P.underlying with
  |some (.slice e)=>if Ih P a/\(zeroOf P e).isSome then aY (iH (P.cellsOf e) (P.bytesOf e) e h s x) fun r=>q r.1 r.2 else False
  |_=>False
 |.copy,[d,x]=>match(a[0]?).bind P.underlying with
  |some (.slice e)=>if(P.info? e).isSome then aY (copyV (P.cellsOf e) h d x) fun r=>q r.1 r.2 else False
  |_=>False
 |.clear,[x]=>match(a[0]?).bind P.underlying with
  |some (.slice e)=>(match zeroOf P e with
   |some z=>aY (gW z h x) fun r=>q r.1 r.2
   |none=>False)
  |_=>False
 |.min,[x,y]=>aY (wJ x y) fun v=>q v h
 |.max,[x,y]=>aY (yB x y) fun v=>q v h
 |.delete,[m,k]=>(match a[0]? with
  |some t=>(match Gf P t with
   |some _=>aY (P0 h m k) fun b=>q (.tuple #[]) b
   |none=>False)
  |none=>False)
 |.cap,[x]=>match(a[0]?).bind P.underlying with
  |some (.slice _)=>aY (aHn x) fun v=>q v h
  |_=>False
 |_,_=>False
theorem yI {h:AH} {q:Value->AH->Prop} {at_:Array TypeId} {b:Builtin} {args:List Value} (c:vS P h q at_ b args):∃v g,dW P h b at_ args=some (v,g)/\q v g:=by
 unfold vS at c;split at c;split at c;rename_i d;obtain⟨v,a,f⟩:=c;refine⟨v,h,?_,f⟩;unfold vN at a;split at a;simp only[dW,d];cases a;rfl;cases a;rename_i d;obtain⟨v,a,f⟩:=c;refine⟨v,h,?_,f⟩;unfold iK at a;split at a;simp only[dW,d];cases a;rfl;cases a;rename_i d;refine⟨_,h,?_,c⟩;simp only[dW,d];rename_i d;split at c;rename_i l;refine⟨_,h,?_,c⟩;simp only[dW,d,l];cases c;rename_i d;obtain⟨v,a,f⟩:=c;refine⟨v,h,?_,f⟩;unfold pc at a;cases hm:X0 h _ with
 |none=>rw[hm] at a;cases a
 |some s=>rw[hm] at a;cases a;simp only[dW,d,hm];rfl
 cases c;split at c;rename_i e d;split at c;rename_i i;obtain⟨⟨v,g⟩,a,f⟩:=c;refine⟨v,g,?_,f⟩;obtain⟨z,m⟩:=Option.isSome_iff_exists.1 i.2;unfold iH at a;split at a;rename_i j;simp only[dW,Io,d,j,i.1,m,Bool.not_true,Bool.false_eq_true,if_false];split at a;rename_i r;rw[r];exact a;cases a;cases a;cases c;cases c;split at c;rename_i e d;split at c;rename_i i;obtain⟨⟨v,g⟩,a,f⟩:=c;refine⟨v,g,?_,f⟩;unfold copyV at a;split at a;rename_i j;have p:(P.info? e).isNone=false:=by simp_all
 simp only[dW,d,j,p,Bool.false_eq_true,if_false];exact a;cases a;cases c;cases c;split at c;rename_i e d;split at c;rename_i z m;obtain⟨⟨v,g⟩,a,f⟩:=c;refine⟨v,g,?_,f⟩;unfold gW at a;split at a;simp only[dW,d];exact a;simp only[dW,d,m];exact a;cases a;cases c;cases c;obtain⟨v,a,f⟩:=c;refine⟨v,h,?_,f⟩;unfold wJ at a;split at a;simp only[dW];cases a;rfl;cases a;obtain⟨v,a,f⟩:=c;refine⟨v,h,?_,f⟩;unfold yB at a;split at a;simp only[dW];cases a;rfl;cases a;split at c;rename_i t d;split at c;rename_i e n;obtain⟨g,a,f⟩:=c;exact⟨_,g,by simp only[dW,d,vy n a];rfl,f⟩;cases c;cases c;split at c;rename_i d;obtain⟨v,a,f⟩:=c;refine⟨v,h,?_,f⟩;unfold aHn at a;split at a;simp only[dW,d];exact congrArg (Option.map fun v=>(v,h)) a;cases a;cases c;cases c
def Be (P:Program) (K:FuncId->List Value->Option iJ) (d:Operand->Value) (h:AH) (q:Value->AH->Prop):Op->Prop
 |.store t a x=>if(P.info? t).isSome then aY (tZ h (P.cellsOf t) (d a) (d x)) fun e=>q undef e else False
 |.call c=>match c.callee with
  |.builtin b=>vS P h q c.argTypes b (c.args.toList.map d)
  |.value (.func g)=>if fX P g then Ok P K (.call g (c.args.toList.map d)) h fun o e=>q o.v e else False
  |.value f=>yG P K (d f) (c.args.toList.map d) h q
  |.invoke _ _=>False
 |.mapUpdate t m k x=>match Gf P t with
  |some _=>aY (Ps h (d m) (d k) (d x)) fun e=>q undef e
  |none=>False
 |_=>False
theorem jz {f:Value} {args:List Value} {h:AH} {q:Value->AH->Prop} (b:yG P K f args h q):
  ∃n v c,(match f with
   |.func (.func g) first a=>if fX P g then(run P K n (.call g (first.toList++args++a.toList)) h).map fun r=>(r.1.v,r.2) else none
   |.func (.yield l) first _=>(run P K n (.round l (first.toList++args)) h).map fun r=>(r.1.v,r.2)
   |_=>none)=some (v,c)/\q v c:=by
 unfold yG at b
 split at b
 .obtain⟨i,n,r,d,e⟩:=b;grind
 .obtain⟨n,r,d,e⟩:=b;grind
 .cases b
theorem uS {m:Operand->Value} (t:∀g,m (.func g)= .func (.func g) #[] #[]) {h:AH} {q:Value->AH->Prop} {op:Op} (b:Be P K m h q op):
  (kindOf op= .store\/kindOf op= .call)/\∃n v i,dN P (run P K n) m h op=some (v,i)/\q v i:=by
 unfold Be at b
 split at b
 .refine⟨.inl rfl,?_⟩;split at b
  .rename_i l;obtain⟨i,d,j⟩:=b;refine⟨0,undef,i,?_,j⟩;unfold tZ at d;split at d
   .rename_i s;split at d
    .rename_i p;split at d
     .rename_i u;simp only[dN,s,I3,p,u,l,and_self,if_true,d];rfl
     .cases d
    .cases d
   .cases d
  .cases b
 .rename_i c;refine⟨.inr rfl,?_⟩;split at b
  .rename_i a;obtain⟨v,i,d,j⟩:=yI b;refine⟨0,v,i,?_,j⟩;simp only[dN,a,d]
  .rename_i a;split at b
   .rename_i p;obtain⟨n,r,d,j⟩:=b;refine⟨n,_,_,?_,j⟩;simp only[dN,a,t,p,if_true];grind
   .cases b
  .rename_i f w a;obtain⟨n,v,i,d,j⟩:=jz b;refine⟨n,v,i,?_,j⟩;simp only[dN,a];exact d
  .cases b
 .refine⟨.inl rfl,?_⟩;split at b
  .rename_i e s;obtain⟨i,d,j⟩:=b;exact⟨0,undef,i,by simp only[dN,wx s d];rfl,j⟩
  .cases b
 .cases b
def zk (l c i:Nat):Value:= .slice (some ⟨i,0,none⟩) l c
def aGq (i:Nat):Value:= .pointer (some ⟨i,0,none⟩)
def fN (i:Nat):Value:= .map (some i)
def Bf (P:Program) (d:Operand->Value) (q:mR->(Nat->Value)->Prop):Op->Prop
 |.alloc e=>match zeroOf P e with
  |some z=>q (.cells z e (0,0) true) aGq
  |none=>False
 |.box e x=>aY (jD e (d x)) fun b=>q b aGq
 |.buildSlice t len a=>match P.underlying t with
  |some (.slice e)=>(match zeroOf P e with
   |some z=>if len*P.cellsOf e<=2^24 then(match xV (fun i=>some (i*P.cellsOf e,P.cellsOf e)) d a.toList with
    |some f=>aY (oD (dY z len) f) fun l=>q (.cells l e (0,0) true) (zk len len)
    |none=>False) else False
   |none=>False)
  |_=>False
 |.makeSlice t l c=>match P.underlying t with
  |some (.slice e)=>(match zeroOf P e with
   |some z=>aY (Fa (P.bytesOf e) (d l) (d c)) fun n=>q (.cells (dY z n.2) e (0,0) true) (zk n.1 n.2)
   |none=>False)
  |_=>False
 |.makeMap _t none=>q (.map [] 0) fN
 |.makeMap t (some x)=>match P.underlying t with
  |some (.map _ _)=>∃k n,d x= .int k n/\q (.map [] 0) fN
  |_=>False
 |_=>False
theorem Bs {m:Operand->Value} {q:mR->(Nat->Value)->Prop} {op:Op} (a:Bf P m q op):kindOf op= .alloc/\∃b f,dP P m op=some (b,f)/\q b f:=by
 unfold Bf at a;split at a;refine⟨rfl,?_⟩;split at a;rename_i g;exact⟨_,_,by simp only[dP,g];rfl,a⟩;cases a;refine⟨rfl,?_⟩;obtain⟨b,c,d⟩:=a;refine⟨b,aGq,?_,d⟩;unfold jD at c;simp only[Option.map_eq_some_iff] at c;obtain⟨l,c,rfl⟩:=c;simp only[dP,c];rfl;refine⟨rfl,?_⟩;split at a;rename_i e;split at a;rename_i g;split at a;rename_i i;split at a;rename_i s j;obtain⟨l,c,d⟩:=a;refine⟨_,_,?_,d⟩;simp only[dP,e,g,i,if_true];rw[Dl j,c];rfl;cases a;cases a;cases a;cases a;refine⟨rfl,?_⟩;split at a;rename_i e;split at a;rename_i g;obtain⟨n,c,d⟩:=a;refine⟨_,_,?_,d⟩;unfold Fa at c;split at c;rename_i p r;split at c;rename_i i;cases c;simp only[dP,e,p,r,g,i,and_self,if_true];rfl;cases c;cases c;cases a;cases a;exact⟨rfl,_,_,rfl,a⟩;refine⟨rfl,?_⟩;split at a;rename_i e;obtain⟨k,n,c,d⟩:=a;exact⟨_,_,by simp only[dP,e,c];rfl,d⟩;cases a;cases a
end
end Go.Ab
end
section
namespace Go.Ab
noncomputable section
variable {P:Program} {K:FuncId->List Value->Option iJ}
abbrev Nh:=List (Tmp×Option Bool)
def aLx:Option Bool->Value
 |some b=> .bool b
 |none=>undef
def Nh.drop (d:Nh) (t:Option Tmp):Nh:=match t with
 |some t=>d.filter fun x=>x.1 !=t
 |none=>d
def Nh.ok (d:Nh) (env:List Value):Prop:=∀t b,(t,b)∈d->env[t]?=some (aLx b)
def gy (oO:Nat->Option Tmp) (env:List Value) (dec:Nh) (g:Option (Nat×Bool)) (p:Bool->List Value->Nh->Prop):Prop:=
 match g with
 |none=>p true env dec
 |some (j,want)=>match oO j with
  |none=>False
  |some d=>match dec.lookup d with
   |some (some b)=>p (b==want) env dec
   |some none=>p false env dec
   |none=>Br (env.getD d undef) (p (true==want) (env.set d (.bool true)) ((d,some true)::dec)) (p (false==want) (env.set d (.bool false)) ((d,some false)::dec))
def Bj (h:AH) (b:mR) (p:Nat->AH->Prop):Prop:=p h.next (h.alloc b)
def kK (h:AH) (r:Nat) (b:mR) (p:Nat->AH->Prop):Prop:=p r (h.set r (some b))
def wS (h:AH) (n:Nat) (p:Nat->AH->Prop):Prop:=p h.next {h with next:=h.next+n}
def wpOp (P:Program) (K:FuncId->List Value->Option iJ) (env:List Value) (h:AH) (q:Value->AH->Prop) (op:Op):Prop:=
 match kindOf op with
 |.yK=>iT P (cQ P env) h (fun v=>q v h) op
 |.alloc=>Bf P (cQ P env) (fun b f=>Bj h b fun i a=>q (f i) a) op
 |.store|.call=>Be P K (cQ P env) h q op
 |.other=>False
theorem X1 {env:List Value} {h:AH} {q:Value->AH->Prop} {op:Op} (a:wpOp P K env h q op):∃n v e,lC P (run P K n) env h op=some (v,e)/\q v e:=by
 unfold wpOp at a;cases hk:kindOf op with
 |yK=>
  simp only[hk] at a;obtain⟨_,v,c,d⟩:=Bv a;exact⟨0,v,h,by simp only[lC,hk,c];rfl,d⟩
 |alloc=>
  simp only[hk] at a;obtain⟨_,b,f,c,d⟩:=Bs a;exact⟨0,_,_,by simp only[lC,hk,c];rfl,d⟩
 |store=>
  simp only[hk] at a;obtain⟨_,n,v,e,c,d⟩:=uS (fun g=>rfl) a;exact⟨n,v,e,by simp only[lC,hk,c],d⟩
 |call=>
  simp only[hk] at a;obtain⟨_,n,v,e,c,d⟩:=uS (fun g=>rfl) a;exact⟨n,v,e,by simp only[lC,hk,c],d⟩
 |other=>simp only[hk] at a
def aE4 (env:List Value) (d:Option Tmp):Bool:=match d with
 |some d=>decide (d<env.length)
 |none=>true
def xw (dec:Nh) (op:Op):Option Operand:=match op with
 |.pick (.tmp c) a b=>(match dec.lookup c with
  |some (some true)=>some a
  |some (some false)=>some b
  |_=>none)
 |.move x=>some x
 |.assign x=>some x
 |_=>none
def vf (dec:Nh) (x:Operand):Option Bool:=match x with
 |.const (.bool y)=>some y
 |.tmp t=>(match dec.lookup t with
  |some (some y)=>some y
  |_=>none)
 |_=>none
def Nh.put (dec:Nh) (dst:Option Tmp) (x:Operand):Nh:=match dst,vf dec x with
 |some d,some y=>(d,some y)::dec.drop (some d)
 |d,_=>dec.drop d
def Nh.skip (dec:Nh) (env:List Value) (dst:Option Tmp):Nh:=match dst with
 |some d=>if d<env.length then(d,none)::dec.drop (some d) else dec.drop (some d)
 |none=>dec
def wpOps (P:Program) (K:FuncId->List Value->Option iJ) (oO:Nat->Option Tmp):List Oper->List Value->AH->Nh->(List Value->AH->Nh->Prop)->Prop
 |[],env,h,dec,q=>q env h dec
 |o::a,env,h,dec,q=>gy oO env dec o.guard fun b env dec=>
  match b with
  |true=>(match xw dec o.op with
   |some x=>wpOps P K oO a (iO env o.dst (cQ P env x)) h (if aE4 env o.dst then dec.put o.dst x else dec.drop o.dst) q
   |none=>wpOp P K env h (fun v c=>wpOps P K oO a (iO env o.dst v) c (dec.drop o.dst) q) o.op)
  |false=>wpOps P K oO a (iO env o.dst undef) h (dec.skip env o.dst) q
def aLc (P:Program) (h:AH) (q:Value->Prop) (a:Array TypeId):Builtin->List Value->Prop
 |.len,[x]=>match(a[0]?).bind P.underlying with
  |some .string=>aY (vN x) q
  |some (.slice _)=>aY (iK x) q
  |some (.array n _)=>q (.int .i64 n)
  |some (.pointer e)=>(match P.underlying e with
   |some (.array n _)=>q (.int .i64 n)
   |_=>False)
  |some (.map _ _)=>aY (pc h x) q
  |_=>False
 |.min,[x,y]=>aY (wJ x y) q
 |.max,[x,y]=>aY (yB x y) q
 |_,_=>False
def aIx (P:Program) (a:Operand->Value) (h:AH) (q:Value->Prop):Op->Prop
 |.call c=>match c.callee with
  |.builtin b=>aLc P h q c.argTypes b (c.args.toList.map a)
  |_=>False
 |op=>iT P a h q op
structure DR where
 env:List Value
 h:AH
 v:Value
 ran:Bool
def aJj (P:Program) (K:FuncId->List Value->Option iJ) (r:Nat) (env:List Value) (h:AH) (q:Value->AH->Prop) (op:Op):Prop:=
 match gB op with
 |true=>aIx P (cQ P env) h (fun v=>q v h) op
 |false=>match kindOf op with
  |.alloc=>Bf P (cQ P env) (fun b f=>kK h r b fun i a=>q (f i) a) op
  |_=>Be P K (cQ P env) h q op
def H7 (P:Program) (K:FuncId->List Value->Option iJ) (oO:Nat->Option Tmp):Nat->List Oper->List Value->AH->Nh->List DR->(List DR->List Value->AH->Nh->Prop)->Prop
 |_,[],env,h,dec,a,q=>q a env h dec
 |r,o::c,env,h,dec,a,q=>gy oO env dec o.guard fun b env dec=>
  match b with
  |true=>(match xw dec o.op with
   |some x=>H7 P K oO (r+1) c (iO env o.dst (cQ P env x)) h (if aE4 env o.dst then dec.put o.dst x else dec.drop o.dst) (a++[⟨env,h,cQ P env x,true⟩]) q
   |none=>aJj P K r env h (fun v d=>H7 P K oO (r+1) c (iO env o.dst v) d (dec.drop o.dst) (a++[⟨env,h,v,true⟩]) q) o.op)
  |false=>H7 P K oO (r+1) c (iO env o.dst undef) h (dec.skip env o.dst) (a++[⟨env,h,undef,false⟩]) q
def aFf (P:Program) (all:List Oper) (rs:List DR) (hEnd:AH):List (Nat×Nat)->Prop->Prop
 |[],p=>p
 |(i,s)::a,p=>match all[i]? with
  |some o=>(match rs[i]? with
   |some r=>(match r.ran with
    |true=>aIx P (cQ P r.env) (match rs[s]? with|some q=>q.h|none=>hEnd) (fun v=>nN v r.v=true) o.op/\aFf P all rs hEnd a p
    |false=>aFf P all rs hEnd a p)
   |none=>False)
  |none=>False
def aFr (P:Program) (K:FuncId->List Value->Option iJ) (ops:Array Oper) (env:List Value) (h:AH) (q:List Value->AH->Nh->Prop):Prop:=
 if Gc ops.toList&&(P.follows .mixedOrders|| !Region.departs ops) then
  wS h ops.size fun r c=>H7 P K (fun j=>(ops[j]?).bind (·.dst)) r ops.toList env c [] [] fun d a b dec=>aFf P ops.toList d b (B7 ops.toList) (q a b dec)
 else False
end
end Go.Ab
end
section
namespace Go.Ab
noncomputable section
variable {P:Program} {K:FuncId->List Value->Option iJ}
section
variable {fn:FuncId} {ro:Option Nat} {ds:List Nat} {env:List Value} {k:List Item} {h:AH} {Q:Out->AH->Prop}
theorem D4 {t t':Task} {h':AH} (c:∀n,run P K (n+1) t h=run P K n t' h') (d:Ok P K t' h' Q):Ok P K t h Q:=by
 obtain⟨n,r,a,b⟩:=d;exact⟨n+1,r,by rw[c];exact a,b⟩
theorem Ro {c:Operand} {t e:Code} (g:Br (cQ P env c) (Ok P K (.todo fn ro ds env (.code t::k)) h Q) (Ok P K (.todo fn ro ds env (.code e::k)) h Q)):
  Ok P K (.todo fn ro ds env (.code (.cond c t e)::k)) h Q:=by
 obtain⟨b,a,f,d⟩:=g
 cases b with
 |true=>exact D4 (t':= .todo fn ro ds env (.code t::k)) (fun n=>by show dL _ _ _ _ _ _ _ _=_;simp only[dL,a,if_true]) (f rfl)
 |false=>exact D4 (t':= .todo fn ro ds env (.code e::k)) (fun n=>by show dL _ _ _ _ _ _ _ _=_;simp[dL,a]) (d rfl)
end
def iP (h:AH) (l:Nat):Option AH:=match h.get l with
 |some (.loop .ready _ _ _ _ _ _ _)=>cI h l .busy none
 |_=>none
def qM (h:AH) (l:Nat):Option (Option Code×AH):=match h.get l with
 |some (.loop st p _ _ _ _ _ _)=>if st= .busy then none else(cI h l .exhausted none).map fun a=>(p,a)
 |_=>none
def eP (h:AH) (l:Nat):Option Nat:=match h.get l with
 |some (.loop _ _ _ _ _ _ _ d)=>some d
 |_=>none
def Rz (P:Program) (K:FuncId->List Value->Option iJ) (f:Value) (l:Nat) (h:AH) (q:Value->AH->Prop):Prop:=match f with
 |.func (.func g) first a=>fX P g=true/\Ok P K (.call g (first.toList++[.func (.yield l) #[] #[]]++a.toList)) h fun o b=>q o.v b
 |_=>False
def pO:Code->Option Nat
 |.region id _ _=>some id
 |.seq a b=>(match pO a with
  |some r=>some r
  |none=>pO b)
 |.block _ b=>pO b
 |.loop b=>pO b
 |.scope b=>pO b
 |_=>none
def keyOf:List Item->Option Nat
 |.code c::k=>(match pO c with
  |some r=>some r
  |none=>keyOf k)
 |.inLoop c::k=>(match pO c with
  |some r=>some r
  |none=>keyOf k)
 |_::k=>keyOf k
 |[]=>none
def iN:Code->List Nat
 |.exit id=>[id]
 |.seq a b=>iN a++iN b
 |.cond _ t e=>iN t++iN e
 |.block id b=>(iN b).filter (·!=id)
 |.loop b=>iN b
 |.scope b=>iN b
 |.rangeFunc _ _ a b=>iN a++iN b
 |_=>[]
def qY (p:Option Code) (a b:Prop) (c:List (Nat×Prop)):Prop:=match p with
 |none=>a
 |some .ret=>b
 |some (.exit id)=>(match c.lookup id with
  |some q=>q
  |none=>False)
 |_=>False
def Mv (P:Program) (K:FuncId->List Value->Option iJ) (fn:FuncId) (f:Value) (n:Nat) (lv:List Nat) (vs:List Value) (ps:Array Tmp) (assign a:Code) (d:Nat) (h:AH) (q:Option Code->AH->Prop):Prop:=
 ∀e:Nat->Value,lv.map e=vs->Bj h (.loop .ready none fn ((List.range n).map e) ps assign a d) fun l b=>Rz P K f l b fun _ c=>aY (qM c l) fun r=>q r.1 r.2
def Q9 (L:List (Option Nat×List Nat)) (k:List Item):List Nat:=(L.lookup (keyOf k)).getD []
def mI:Nat->List Item->List Item
 |0,k=>k
 |n+1,k=>match k with
  |.code c::d=>(match c with
   |.skip=>mI n d
   |.label _=>mI n d
   |.seq a b=>mI n (.code a:: .code b::d)
   |.block id b=>mI n (.code b:: .inBlock id::d)
   |.scope b=>mI n (.code b:: .inScope b::d)
   |.loop b=>mI n (.code b:: .inLoop b::d)
   |.exit id=>(match exitTo id d with
    |some e=>mI n e
    |none=>k)
   |_=>k)
  |.inBlock _::d=>mI n d
  |.inScope _::d=>mI n d
  |.inLoop b::d=>mI n (.code b:: .inLoop b::d)
  |_=>k
def aEj:List Item->Bool
 |[]=>true
 |.code .ret::_=>true
 |.code (.exit _)::_=>true
 |_=>false
def short (k:List Item):Bool:=match mI 60 k with
 |.code (.region _ _ _)::a=>aEj (mI 60 a)
 |a=>aEj a
def Na (P:Program) (K:FuncId->List Value->Option iJ) (E:List Nat->List Value->List Item->AH->Prop) (F:wQ->List Nat->List Value->AH->Prop) (L:List (Option Nat×List Nat)) (fn:FuncId) (ro:Option Nat):
  Nat->Nh->List Nat->List Value->List Item->AH->Prop
 |0,_,ds,env,k,h=>E ds env k h
 |n+1,dec,ds,env,k,h=>
  match k with
  |[]=>F .iR ds env h
  |.code c::k=>
   (match c with
   |.skip=>Na P K E F L fn ro n dec ds env k h
   |.label _=>Na P K E F L fn ro n dec ds env k h
   |.seq a b=>Na P K E F L fn ro n dec ds env (.code a:: .code b::k) h
   |.cond c t e=>(match vf dec c with
    |some true=>Na P K E F L fn ro n dec ds env (.code t::k) h
    |some false=>Na P K E F L fn ro n dec ds env (.code e::k) h
    |none=>Br (cQ P env c)
     (match short (.code t::k) with
     |true=>Na P K E F L fn ro n dec ds env (.code t::k) h
     |false=>E ds env (mI 60 (.code t::k)) h)
     (match short (.code e::k) with
     |true=>Na P K E F L fn ro n dec ds env (.code e::k) h
     |false=>E ds env (mI 60 (.code e::k)) h))
   |.block id b=>Na P K E F L fn ro n dec ds env (.code b:: .inBlock id::k) h
   |.loop b=>E ds env (mI 60 (.code b:: .inLoop b::k)) h
   |.scope b=>Na P K E F L fn ro n dec ds env (.code b:: .inScope b::k) h
   |.exit id=>(match exitTo id k with
    |some u=>Na P K E F L fn ro n dec ds env u h
    |none=>if ro.isSome then F (.exit id) ds env h else False)
   |.ret=>F .ret ds env h
   |.region _ ops false=>wpOps P K (fun j=>(ops[j]?).bind (·.dst)) ops.toList env h dec fun q i m=>Na P K E F L fn ro n m ds q k i
   |.region _ ops true=>aFr P K ops env h fun q i m=>Na P K E F L fn ro n m ds q k i
   |.rangeFunc f r assign g=>
    (match ro with
    |none=>Bj h (.marks true) fun d s=>Mv P K fn (cQ P env f) env.length (Q9 L [.code assign,.beginRound,.code g]) ((Q9 L [.code assign,.beginRound,.code g]).map fun t=>env.getD t undef) r assign g d s fun p i=>
      qY p (Na P K E F L fn ro n dec (d::ds) env k i) (Na P K E F L fn ro n dec (d::ds) env (.code .ret::k) i) ((iN g).map fun id=>(id,Na P K E F L fn ro n dec (d::ds) env (.code (.exit id)::k) i))
    |some l=>aY (eP h l) fun d=>Mv P K fn (cQ P env f) env.length (Q9 L [.code assign,.beginRound,.code g]) ((Q9 L [.code assign,.beginRound,.code g]).map fun t=>env.getD t undef) r assign g d h fun p i=>
      qY p (Na P K E F L fn ro n dec ds env k i) (Na P K E F L fn ro n dec ds env (.code .ret::k) i) ((iN g).map fun id=>(id,Na P K E F L fn ro n dec ds env (.code (.exit id)::k) i)))
   |_=>False)
  |.inBlock _::k=>Na P K E F L fn ro n dec ds env k h
  |.inScope _::k=>Na P K E F L fn ro n dec ds env k h
  |.inLoop b::k=>E ds env (mI 60 (.code b:: .inLoop b::k)) h
  |.beginRound::k=>
   (match ro with
   |some l=>aY (iP h l) fun i=>Na P K E F L fn ro n dec ds env k i
   |none=>False)
  |_=>False
theorem Ov {env:List Value} {n:Nat} (h:env.length=n):(List.range n).map (fun t=>env.getD t undef)=env:=by
 refine List.ext_getElem? fun i=>?_;grind
theorem Xf {l:List Nat} {f:Nat->Prop} {id:Nat} {q:Prop} (h:(l.map fun i=>(i,f i)).lookup id=some q):q=f id:=by
 induction l with
 |nil=>simp at h
 |cons i l a=>
  grind
theorem Mq {fn:FuncId} {f:Value} {env:List Value} {lv:List Nat} {ps:Array Tmp} {assign b:Code} {d:Nat} {h:AH} {q:Option Code->AH->Prop}
  (i:Mv P K fn f env.length lv (lv.map fun t=>env.getD t undef) ps assign b d h q):
  ∃n g first a o c p e,f= .func (.func g) first a/\fX P g=true/\run P K n (.call g (first.toList++[.func (.yield h.next) #[] #[]]++a.toList)) (h.alloc (.loop .ready none fn env ps assign b d))=some (o,c)/\
   qM c h.next=some (p,e)/\q p e:=by
 have:=i (fun t=>env.getD t undef) rfl
 rw[Ov rfl] at this
 unfold Bj Rz at this
 split at this
 .rename_i g first a
  obtain⟨m,n,r,j,⟨p,e⟩,l,c⟩:=this
  grind
 .cases this
theorem Cb {fn:FuncId} {ro:Option Nat} {ds:List Nat} {env:List Value} {h:AH} {Q:Out->AH->Prop}:∀(n:Nat) {k:List Item},Ok P K (.todo fn ro ds env (mI n k)) h Q->Ok P K (.todo fn ro ds env k) h Q
 |0,_,a=>a
 |n+1,k,a=>by
  have st:∀{k':List Item},Ok P K (.todo fn ro ds env (mI n k')) h Q->(∀m,run P K (m+1) (.todo fn ro ds env k) h=run P K m (.todo fn ro ds env k') h)->Ok P K (.todo fn ro ds env k) h Q:=
   fun a b=>D4 b (Cb n a)
  unfold mI at a;split at a;split at a;exact st a fun _=>rfl;exact st a fun _=>rfl;exact st a fun _=>rfl;exact st a fun _=>rfl;exact st a fun _=>rfl;exact st a fun _=>rfl;split at a;rename_i c;refine st a fun m=>?_;show dL P (run P K m) _ _ _ _ _ _=_;simp only[dL,c];exact a;exact a;exact st a fun _=>rfl;exact st a fun _=>rfl;exact st a fun _=>rfl;exact a
def ag (P:Program) (f:FuncId) (Q:Value->AH->Prop):Out->AH->Prop:=fun o b=>
 match o.leave with
 |.exit _=>False
 |_=>aY (bS o.ds b) fun a=>aY (fC P a o.env ((P.funcs[f]?).elim [] fun fn=>fn.results.toList)) fun c=>Q (oneOf c) a
theorem eu {f:FuncId} {fn:Func} {a:Code} {args:List Value} {h:AH} {Q:Value->AH->Prop} (i:P.funcs[f]?=some fn) (hb:fn.body=some a) (p:K f args=none)
  (r:Ok P K (.todo f none [] (args++List.replicate (fn.ntmps - args.length) undef) [.code a]) h (ag P f Q)):Ok P K (.call f args) h fun o c=>Q o.v c:=by
 obtain⟨n,⟨o,g⟩,l,b⟩:=r
 simp only at b
 have s:(∀id,o.leave≠.exit id)->(aY (bS o.ds g) fun b=>aY (fC P b o.env ((P.funcs[f]?).elim [] fun fn=>fn.results.toList)) fun e=>Q (oneOf e) b)->Ok P K (.call f args) h fun o c=>Q o.v c:=by
  intro d ⟨m,t,e,j,q⟩;rw[i] at j;simp only[Option.elim_some] at j;refine⟨n+1,(⟨.iR,[],[],oneOf e⟩,m),?_,q⟩;show iS P K (run P K n) f args h=_;simp only[iS,p,i,hb];rw[l];cases hlv:o.leave with
  |exit id=>exact absurd hlv (d id)
  |iR=>grind
  |ret=>grind
 unfold ag at b
 grind
def Pt (P:Program) (K:FuncId->List Value->Option iJ) (fn:FuncId) (ro:Option Nat) (Q:Out->AH->Prop) (n:Nat) (lv:List Nat) (k:List Item) (ds:List Nat) (vs:List Value) (h:AH):Prop:=
 ∀e:Nat->Value,lv.map e=vs->Ok P K (.todo fn ro ds ((List.range n).map e) k) h Q
def Sa (P:Program) (h:AH) (env:List Value):List ResultVar->(List Value->Prop)->Prop
 |[],p=>p []
 |.tmp t::b,p=>Sa P h env b fun l=>p (env.getD t undef::l)
 |.cell a t::b,p=>match iQ P t with
  |some true=>aY (tU h (P.cellsOf t) (env.getD a undef)) fun v=>Sa P h env b fun l=>p (v::l)
  |some false=>aY (oM h (env.getD a undef)) fun v=>Sa P h env b fun l=>p (v::l)
  |none=>False
theorem sY {h:AH} {env:List Value}:∀{rs:List ResultVar} {p:List Value->Prop},Sa P h env rs p->∃l,fC P h env rs=some l/\p l
 |[],p,b=>⟨[],rfl,b⟩
 |.tmp t::rs,p,b=>by
  obtain⟨l,c,d⟩:=sY (rs:=rs) b;exact⟨_,by simp only[fC,c];rfl,d⟩
 |.cell a t::rs,p,b=>by
  simp only[Sa] at b;split at b;rename_i f;obtain⟨v,c,b⟩:=b;obtain⟨l,d,e⟩:=sY (rs:=rs) b;refine⟨v::l,?_,e⟩;unfold tU at c;split at c;rename_i x g;have i:tL P h t x=some v:=by unfold tL;rw[f];exact c
  simp only[fC,g,i,d];cases c;rename_i f;obtain⟨v,c,b⟩:=b;obtain⟨l,d,e⟩:=sY (rs:=rs) b;refine⟨v::l,?_,e⟩;unfold oM at c;split at c;rename_i x g;have i:tL P h t x=some v:=by unfold tL;rw[f];exact c
  simp only[fC,g,i,d];cases c;cases b
def aHb (P:Program) (f:FuncId) (Q:Value->AH->Prop) (lv:wQ) (ds:List Nat) (env:List Value) (h:AH):Prop:=match lv with
 |.exit _=>False
 |_=>aY (bS ds h) fun a=>Sa P a env ((P.funcs[f]?).elim [] fun fn=>fn.results.toList) fun l=>Q (oneOf l) a
theorem Xp {f:FuncId} {Q:Value->AH->Prop} {lv:wQ} {ds:List Nat} {env:List Value} {h:AH} (a:aHb P f Q lv ds env h):ag P f Q ⟨lv,ds,env,undef⟩ h:=by
 unfold aHb at a;unfold ag;cases lv with
 |exit id=>exact a
 |iR=>obtain⟨b,e,a⟩:=a;obtain⟨l,c,d⟩:=sY a;simp_all
 |ret=>obtain⟨b,e,a⟩:=a;obtain⟨l,c,d⟩:=sY a;simp_all
theorem W3 {f:FuncId} {args:List Value} {v:Value} {h:AH} {Q:Value->AH->Prop} (b:K f args=some (.val v)) (c:Q v h):Ok P K (.call f args) h fun o a=>Q o.v a:=
 ⟨1,(⟨.iR,[],[],v⟩,h),by show iS _ _ _ _ _ _=_;simp only[iS,b],c⟩
def E3 (l:Nat) (Q:Value->AH->Prop):Out->AH->Prop:=fun o b=>
 o.ds=[]/\match o.leave with
 |.iR=>aY (cI b l .ready (some none)) fun a=>Q (.bool true) a
 |.ret=>aY (cI b l .done (some (some .ret))) fun a=>Q (.bool false) a
 |.exit id=>aY (cI b l .done (some (some (.exit id)))) fun a=>Q (.bool false) a
theorem y3 {l:Nat} {args:List Value} {h:AH} {st:LoopState} {p:Option Code} {fn:FuncId} {b:List Value} {ps:Array Tmp} {assign a:Code} {d:Nat} {Q:Value->AH->Prop}
  (u:h.get l=some (.loop st p fn b ps assign a d)) (w:args.length=ps.size)
  (y:Ok P K (.todo fn (some l) [] ((ps.toList.zip args).foldl (fun t (p,v)=>t.set p v) b) [.code assign,.beginRound,.code a]) h (E3 l Q)):Ok P K (.round l args) h fun o j=>Q o.v j:=by
 obtain⟨n,r,A,c,f⟩:=y
 obtain⟨o,m⟩:=r
 simp only at c f
 have z:∀i e,(match o.leave with
     |.iR=>(cI m l .ready (some none)).map fun c=>((⟨.iR,[],[],.bool true⟩:Out),c)
     |.ret=>(cI m l .done (some (some .ret))).map fun c=>(⟨.iR,[],[],.bool false⟩,c)
     |.exit id=>(cI m l .done (some (some (.exit id)))).map fun c=>(⟨.iR,[],[],.bool false⟩,c))=some (i,e)->Q i.v e->Ok P K (.round l args) h fun o j=>Q o.v j:=by
  intro i e C x
  refine⟨n+1,(i,e),?_,x⟩
  show mK (run P K n) l args h=_
  simp only[mK,u,w,if_true]
  grind
 split at f
 .rename_i g;obtain⟨e,q,s⟩:=f;grind
 .rename_i g;obtain⟨e,q,s⟩:=f;grind
 .rename_i g;obtain⟨e,q,s⟩:=f;grind
def P9 (l:Nat) (Q:Value->AH->Prop) (lv:wQ) (ds:List Nat) (_b:List Value) (h:AH):Prop:=match ds with
 |[]=>(match lv with
  |.iR=>aY (cI h l .ready (some none)) fun a=>Q (.bool true) a
  |.ret=>aY (cI h l .done (some (some .ret))) fun a=>Q (.bool false) a
  |.exit id=>aY (cI h l .done (some (some (.exit id)))) fun a=>Q (.bool false) a)
 |_=>False
theorem R9 {l:Nat} {Q:Value->AH->Prop} {lv:wQ} {ds:List Nat} {env:List Value} {h:AH} (a:P9 l Q lv ds env h):E3 l Q ⟨lv,ds,env,undef⟩ h:=by
 unfold P9 at a;cases ds with
 |nil=>refine⟨rfl,?_⟩;cases lv<;>exact a
 |cons d ds=>exact a.elim
end
end Go.Ab
end
section
namespace Go.Ab
noncomputable section
open Go.RowKit
variable {P:Program} {K:FuncId->List Value->Option iJ}
def start (base:Nat) (old:Nat->Option mR):AH:={base:=base,next:=base,old:=old,new:= .lf}
theorem wV {a:Nat} {old:Nat->Option mR} (i:Nat):(start a old).get i=if i<a then old i else none:=by
 rw[AH.get_eq];unfold start;split;rfl;cases i - a<;>rfl
structure Reads (P:Program) (base:Nat) (old:Nat->Option mR) (ρ:hU) (w:World):Prop where
 mO:∀i o,i<base->old i=some o->∀b s,ρ i=some (b,s)->∃o',w.heap[b]?=some o'/\tX P ρ s o o'
 low:∀i b s,i<base->ρ i=some (b,s)->b<w.heap.size
 none:∀i,base<=i->ρ i=none
 nT:∀g,g<P.globals.size->ρ g=some (g,(0,0))
theorem Reads.inv {a:Nat} {old:Nat->Option mR} {ρ:hU} {w:World} (r:Reads P a old ρ w):Inv P w.heap.size ρ (start a old) w where
 mO:=fun i o e b s f=>by
  rw[wV] at e;split at e;rename_i c;exact r.mO i o c e b s f;cases e
 inj:=fun i j b g l c _ d=>by
  rw[wV,aN9 (Nat.not_lt.2 (show a<=_ from c))] at d;cases d
 low:=fun i b s c d=>by
  rw[wV,aN9 (Nat.not_lt.2 (show a<=_ from c))] at d;cases d
 old:=fun i b s c f=>r.low i b s c f
 fresh:=fun i c=>r.none i c
 gF:=fun i c=>by rw[wV,aN9 (Nat.not_lt.2 (show a<=_ from c))]
 nT:=r.nT
 size:=Nat.le_refl _
 bn:=Nat.le_refl _
theorem Vy {w:World} (C:Ctx P w.heap.size K) (t:C.G w) {a:Nat} {old:Nat->Option mR} {ρ:hU} (r:Reads P a old ρ w) {f:FuncId} {args args':List Value} (q:aR ρ args args') {Q:Out->AH->Prop}
  (i:Ok P K (.call f args) (start a old) Q):
  Calls P f ⟨args'⟩ w fun e g=>∃ρ' o c d,e= .returned d/\aE ρ' o.v d/\Q o c/\Inv P w.heap.size ρ' c g/\Below w.heap.size w g:=by
 obtain⟨n,⟨o,c⟩,v,u⟩:=i
 intro j
 obtain⟨e,g,fr,⟨ρ',d,s,x,b⟩,l,m,p⟩:=nq C n (.call f args) _ o c v ρ w args' r.inv t q j
 exact⟨e,g,fr,⟨ρ',o,c,d,s,x,u,b.inv,b.below r.inv⟩,l,m,p⟩
def Gq (K:FuncId->List Value->Option iJ) (f0:FuncId) (v0:Value):FuncId->List Value->Option iJ:=fun f a=>if f=f0/\a.isEmpty=true then some (.val v0) else K f a
def Ctx.add {B:Nat} (C:Ctx P B K) (f0:FuncId) (v0:Value) (n:dR v0=true) (h:∀w,C.G w->Calls P f0 #[] w fun e d=>e= .returned v0/\Below w.heap.size w d):Ctx P B (Gq K f0 v0) where
 G:=C.G
 Mr:=C.Mr
 call:=fun f a v w b c=>by
  unfold Gq at b;split at b;rename_i l;cases b;obtain⟨rfl,p⟩:=l;have:a=[]:=by grind
  subst this;exact⟨rfl,(h w c).mono fun e d ⟨m,j⟩=>⟨⟨v0,m,fun ρ=>fZ v0 n⟩,j⟩⟩;exact C.call f a v w b c
 fwd:=fun f a g i b=>by
  unfold Gq at b;split at b;cases b;exact C.fwd f a g i b
 host:=fun f a F b=>by
  unfold Gq at b;split at b;cases b;exact C.host f a F b
theorem sM {P:Program} {f:FuncId} {args:Array Value} {v:Value} {w:World} (g:dR v=true) (h:Calls P f args w fun e a=>e= .returned v/\Below w.heap.size w a):
  Calls P f args w fun e a=>(∃b,e= .returned b/\∀ρ,aE ρ v b)/\Below w.heap.size w a:=
 h.mono fun _ _ ⟨d,c⟩=>⟨⟨v,d,fun _=>fZ v g⟩,c⟩
theorem U8 {f:FuncId} {n:Nat} {v:Value} {a:Nat} {old:Nat->Option mR} (m:dR v=true)
  (b:((run P K n (.call f []) (start a old)).any fun r=>nN r.1.v v)=true) {w:World} (C:Ctx P w.heap.size K) (l:C.G w) {ρ:hU} (r:Reads P a old ρ w):
  Calls P f #[] w fun e g=>e= .returned v/\Below w.heap.size w g:=by
 rw[Option.any_eq_true] at b
 obtain⟨⟨o,q⟩,b,c⟩:=b
 have c:=L0 _ _ c
 have:=Vy (Q:=fun o _=>o.v=v) C l r (args:=[]) (args':=[]) rfl ⟨n,_,b,c⟩
 intro i
 obtain⟨e,g,fr,⟨ρ',y,s,p,t,d,j,_,u⟩,x⟩:=this i
 rw[j] at d
 have:=Bb v p m d
 grind
end
end Go.Ab
end
section
namespace Go.Ab
noncomputable section
structure En where
 n:Nat
 t:Tr Value
def En.get (e:En) (i:Nat):Value:=En.rec (motive:=fun _=>Value) (fun n t=>Bool.rec (motive:=fun _=>Value) undef (t.get undef i) (Nat.blt i n)) e
def En.opt (e:En) (i:Nat):Option Value:=En.rec (motive:=fun _=>Option Value) (fun n t=>Bool.rec (motive:=fun _=>Option Value) none (some (t.get undef i)) (Nat.blt i n)) e
def En.set (e:En) (i:Nat) (v:Value):En:=En.rec (motive:=fun _=>En) (fun n t=>Bool.rec (motive:=fun _=>En) (En.mk n t) (En.mk n (t.set undef i v)) (Nat.blt i n)) e
def En.yC (e:En):List Value:=(List.range e.n).map fun i=>e.t.get undef i
def Sk:List Value->Nat->Tr Value->Tr Value
 |[],_,t=>t
 |v::l,i,t=>Sk l (i+1) (t.set undef i v)
def En.of (l:List Value) (k:Nat):En:=⟨l.length+k,Sk l 0 .lf⟩
theorem En.Kh (e:En) (i:Nat):e.opt i=e.yC[i]?:=by
 obtain⟨n,t⟩:=e;simp only[En.opt,En.yC];cases h:Nat.blt i n with
 |true=>
  have:i<n:=by simpa [Nat.blt_eq] using h
  simp[this]
 |false=>
  have:¬i<n:=by rw[<-Nat.blt_eq,h];simp
  simp[this]
theorem En.get_eq (e:En) (i:Nat):e.get i=e.yC.getD i undef:=by
 rw[List.getD_eq_getElem?_getD,<-En.Kh];obtain⟨n,t⟩:=e;simp only[En.get,En.opt];cases Nat.blt i n<;>rfl
theorem En.Lz (e:En) (i:Nat) (v:Value):(e.set i v).yC=e.yC.set i v:=by
 apply List.ext_getElem?;intro j;rw[List.getElem?_set,<-En.Kh,<-En.Kh];obtain⟨n,t⟩:=e;have c:(En.yC ⟨n,t⟩).length=n:=by simp[En.yC]
 rw[c];simp only[En.set];cases h:Nat.blt i n with
 |true=>
  have b:i<n:=by simpa [Nat.blt_eq] using h
  simp only[En.opt,Tr.gM];by_cases a:i=j;subst a;simp[h,b];simp[a,Ne.symm a]
 |false=>
  have b:¬i<n:=by rw[<-Nat.blt_eq,h];simp
  by_cases a:i=j;subst a;simp[En.opt,h,b];simp[a]
theorem Kc:∀(l:List Value) (i:Nat) (t:Tr Value) (m:Nat),(Sk l i t).get undef m=if i<=m/\m<i+l.length then l.getD (m - i) undef else t.get undef m
 |[],i,t,m=>by
  rw[aN9 (by simp)];rfl
 |v::l,i,t,m=>by
  simp only[Sk];rw[Kc l (i+1) _ m,Tr.gM];simp only[List.length_cons];by_cases a:m=i;subst a;rw[aab,aNa rfl,aae];simp;rw[aN9 a];by_cases b:i+1<=m/\m<i+1+l.length;rw[aNa b,aae,show m - i=(m - (i+1))+1 by omega];simp;rw[aN9 b,aab]
theorem En.of_eq (l:List Value) (k:Nat):(En.of l k).yC=l++List.replicate k undef:=by
 apply List.ext_getElem?;intro j;rw[<-En.Kh];unfold En.of En.opt;simp only[Kc,Tr.Kd];cases h:Nat.blt j (l.length+k) with
 |true=>
  have b:j<l.length+k:=by simpa [Nat.blt_eq] using h
  by_cases a:j<l.length;rw[aae,List.getElem?_append_left a];simp[a];rw[aab,List.getElem?_append_right (by omega),List.getElem?_replicate,aae]
 |false=>
  have b:¬j<l.length+k:=by rw[<-Nat.blt_eq,h];simp
  rw[List.getElem?_eq_none (by simp;omega)]
inductive Uv where
 |todo (fn:FuncId) (ro:Option Nat) (ds:List Nat) (env:En) (k:List Item)
 |ops (all:Array Oper) (rest:List Oper) (env:En)
 |call (f:FuncId) (args:List Value)
 |round (l:Nat) (args:List Value)
structure Nr where
 leave:wQ
 ds:List Nat
 env:En
 v:Value
def Z8:En:=⟨0,.lf⟩
abbrev qE:=Uv->AH->Option (Nr×AH)
def aCg:Uv->Task
 |.todo fn ro ds env k=> .todo fn ro ds env.yC k
 |.ops all rest env=> .ops all rest env.yC
 |.call f a=> .call f a
 |.round l a=> .round l a
def aBc (o:Nr):Out:=⟨o.leave,o.ds,o.env.yC,o.v⟩
def vL (r:Nr×AH):Out×AH:=(aBc r.1,r.2)
def Ge (R':qE) (R:iU):Prop:=∀t h,R (aCg t) h=(R' t h).map vL
def aL4 (v:Value):Value:=if dR v then v else top
def aMa (P:Program) (g:Nat):Value:=if g<P.globals.size then .pointer (some ⟨g,0,none⟩) else top
def aL1 (f:Nat):Value:= .func (.func f) #[] #[]
def cB (P:Program) (env:En) (x:Operand):Value:=Operand.rec (motive:=fun _=>Value) (En.get env) aL4 (aMa P) aL1 x
theorem vO (P:Program) (env:En):cB P env=cQ P env.yC:=by
 funext x;cases x<;>first|rfl|exact En.get_eq _ _
def yL (env:En) (d:Option Tmp) (v:Value):En:=Option.rec (motive:=fun _=>En) env (fun d=>env.set d v) d
theorem K7 (env:En) (d:Option Tmp) (v:Value):(yL env d v).yC=iO env.yC d v:=by
 cases d;rfl;exact En.Lz _ _ _
def aJ6 (want:Bool) (x:Option Value):Option Bool:=
  match x with
  |some (.bool b)=>some (b==want)
  |some (.chan _)=>none
  |_=>some false
def aBx {α:Type} (l:List α):Nat->Option α:=List.rec (motive:=fun _=>Nat->Option α) (fun _=>none) (fun a _ b n=>Nat.rec (motive:=fun _=>Option α) (some a) (fun n _=>b n) n) l
theorem Qp {α:Type}:∀(l:List α) (n:Nat),aBx l n=l[n]?
 |[],_=>rfl
 |_::_,0=>rfl
 |a::l,n+1=>by
  show aBx l n=_;rw[Qp l n];rfl
def aFm (all:Array Oper) (env:En) (g:Nat×Bool):Option Bool:=aJ6 g.2 (((aBx all.toList g.1).bind (·.dst)).bind (fun d=>env.opt d))
def mE (all:Array Oper) (env:En) (o:Oper):Option Bool:=Option.rec (motive:=fun _=>Option Bool) (some true) (aFm all env) o.guard
theorem Ah (all:Array Oper) (env:En) (o:Oper):mE all env o=dO all env.yC o:=by
 unfold mE dO;cases o.guard with
 |none=>rfl
 |some g=>
  obtain⟨j,want⟩:=g;show aFm all env (j,want)=_;unfold aFm aJ6;simp only[En.Kh,Qp,Array.getElem?_toList];rfl
def Rm (_:Program) (a:Operand->Value) (_:AH) (x:Operand):Option Value:=some (a x)
def F8 (_:Program) (a:Operand->Value) (_:AH) (x:Operand):Option Value:=some (a x)
def Ss (_:Program) (d:Operand->Value) (_:AH) (c a b:Operand):Option Value:=match d c with
  |.bool t=>some (if t then d a else d b)
  |_=>none
def K2 (P:Program) (b:Operand->Value) (_:AH) (t:TypeId) (a:Array (Nat×Operand)):Option Value:=F9 P t (a.toList.map fun p=>(p.1,b p.2))
def Sx (P:Program) (b:Operand->Value) (h:AH) (t:TypeId) (a:Operand):Option Value:=match b a with
  |.pointer (some a)=>tL P h t a
  |_=>none
def yU (_:Program) (c:Operand->Value) (_:AH) (x:Operand):Option Value:=match c x with
  |.pointer (some a)=>some (.pointer (some a))
  |.func (.func f) a b=>some (.func (.func f) a b)
  |.func (.yield f) a b=>some (.func (.yield f) a b)
  |_=>none
def Mx (P:Program) (a:Operand->Value) (_:AH) (op:BinOp) (t:TypeId) (x y:Operand):Option Value:=P7 P op t x y (a x) (a y)
def Ql (_:Program) (a:Operand->Value) (_:AH) (op:UnOp) (x:Operand):Option Value:=match op,a x with
  |.neg,.int k n=>some (.int k (k.wrap (0 - n)))
  |.not,.bool b=>some (.bool !b)
  |_,_=>none
def Cp (P:Program) (a:Operand->Value) (h:AH) (s d:TypeId) (x:Operand):Option Value:=match P.underlying s,P.underlying d,a x with
  |some _,some (.int k),.int _ n=>some (.int k (k.wrap n))
  |some .string,some .string,.string z=>some (.string z)
  |some (.slice e),some .string,v=>(match P.underlying e with
   |some (.int .u8)=>strOf h v
   |_=>none)
  |_,_,_=>none
def pB (P:Program) (a:Operand->Value) (_:AH) (t:TypeId) (x:Operand):Option Value:=match P.underlying t with
  |some (.interface _)=>none
  |some _=>some (.iface t (a x))
  |none=>none
def zX (_:Program) (a:Operand->Value) (_:AH) (fn:Fn) (first captured:Array Operand):Option Value:=match fn with
  |.func f=>some (.func (.func f) (first.map a) (captured.map a))
  |_=>none
def Jp (P:Program) (a:Operand->Value) (h:AH) (t:TypeId) (x:Operand) (c b d:Option Operand):Option Value:=tB P h t (a x) (c.map a) (b.map a) (d.map a)
def xJ (P:Program) (b:Operand->Value) (_:AH) (s:TypeId) (x:Operand) (f:Nat):Option Value:=match P.underlying s,b x with
  |some (.struct c),.pointer (some a)=>match c[f]? with
   |some fd=>if P.cellsOf fd.type=0 then none else some (.pointer (some (a.add fd.offset)))
   |none=>none
  |_,_=>none
def I1 (P:Program) (b:Operand->Value) (_:AH) (t:TypeId) (x:Operand) (f:Nat):Option Value:=match P.underlying t,b x with
  |some (.struct c),.agg a=>match c[f]? with
   |some fd=>apart P fd.type a.toList fd.offset
   |none=>none
  |_,_=>none
def xG (P:Program) (b:Operand->Value) (_:AH) (t:TypeId) (x i:Operand):Option Value:=match P.underlying t,b x,b i with
  |some (.array n e),.pointer (some a),.int _ i=>if 0<=i/\i<n/\(P.info? e).isSome then some (.pointer (some (a.add (i.toNat*P.cellsOf e)))) else none
  |some (.slice e),.slice (some a) n _,.int _ i=>if 0<=i/\i<n/\(P.info? e).isSome/\a.spot=none then some (.pointer (some (a.add (i.toNat*P.cellsOf e)))) else none
  |_,_,_=>none
def Lk (P:Program) (a:Operand->Value) (_:AH) (t:TypeId) (x i:Operand):Option Value:=match P.underlying t,a x,a i with
  |some (.array n e),.agg c,.int _ i=>if 0<=i/\i<n/\(P.info? e).isSome then apart P e c.toList (i.toNat*P.cellsOf e) else none
  |some .string,.string s,.int _ i=>if 0<=i then(s[i.toNat]?).map fun b=> .int .u8 b.toNat else none
  |_,_,_=>none
def C3 (_:Program) (a:Operand->Value) (_:AH) (t:Operand) (i:Nat):Option Value:=match a t with
  |.tuple b=>b.toList[i]?
  |_=>none
def Fk (P:Program) (a:Operand->Value) (h:AH) (t:TypeId) (x ix:Operand) (ok:Bool):Option Value:=uD P h t (a x) (a ix) ok
def Q4 (P:Program) (e:Operand->Value) (h:AH):Op->Option Value
 |.move x=>Rm P e h x
 |.assign x=>F8 P e h x
 |.pick c a b=>Ss P e h c a b
 |.build t j=>K2 P e h t j
 |.load t a=>Sx P e h t a
 |.nilCheck x=>yU P e h x
 |.binOp op t x y _=>Mx P e h op t x y
 |.unOp op _ x=>Ql P e h op x
 |.convert s d x=>Cp P e h s d x
 |.makeInterface t x=>pB P e h t x
 |.makeFunc fn first g=>zX P e h fn first g
 |.slice t x m l n=>Jp P e h t x m l n
 |.fieldAddr s x f=>xJ P e h s x f
 |.field t x f=>I1 P e h t x f
 |.indexAddr t x i=>xG P e h t x i
 |.index t x i=>Lk P e h t x i
 |.extract t i=>C3 P e h t i
 |.lookup t x ix ok=>Fk P e h t x ix ok
 |_=>none
theorem Mb (P:Program) (a:Operand->Value) (h:AH) (op:Op):Q4 P a h op=bN P a h op:=by cases op<;>rfl
def aEq (h:AH) (ds:List Nat) (ro:Option Nat):Option (Nat×AH×List Nat):=
 match ro with
 |none=>some (h.next,h.alloc (.marks true),h.next::ds)
 |some l=>match h.get l with
  |some (.loop _ _ _ _ _ _ _ d)=>some (d,h,ds)
  |_=>none
structure aC0 where
 env:En
 h:AH
 v:Value
def aFu (r:aC0):Rec:=⟨r.env.yC,r.h,r.v⟩
def vY (P:Program) (a:Operand->Value) (h:AH) (op:Op):Option Value:=
 match op with
 |.call c=>(match c.callee with|.builtin b=>if gR b then(dW P h b c.argTypes (c.args.toList.map a)).map (·.1) else none|_=>none)
 |op=>Q4 P a h op
theorem Ew (P:Program) (a:Operand->Value) (h:AH) (op:Op):vY P a h op=dZ P a h op:=by
 cases op<;>first|exact Mb P a h _|rfl
def iB (P:Program) (R:qE) (e:Operand->Value) (h:AH) (op:Op):Option (Value×AH):=
 match op with
 |.store t a x=>match e a with
  |.pointer (some a)=>(I3 P h t a (e x)).map fun i=>(undef,i)
  |_=>none
 |.mapUpdate t m k x=>(Ba P h t (e m) (e k) (e x)).map fun i=>(undef,i)
 |.call c=>
  match c.callee with
  |.builtin b=>dW P h b c.argTypes (c.args.toList.map e)
  |.value f=>match e f with
   |.func (.func g) first d=>
    if fX P g then(R (.call g (first.toList++c.args.toList.map e++d.toList)) h).map fun r=>(r.1.v,r.2) else none
   |.func (.yield l) first _=>(R (.round l (first.toList++c.args.toList.map e)) h).map fun r=>(r.1.v,r.2)
   |_=>none
  |.invoke _ _=>none
 |_=>none
def jY (v:Option Value) (h:AH):Option (Value×AH):=Option.rec (motive:=fun _=>Option (Value×AH)) none (fun v=>some (v,h)) v
def zr (b:Option (mR×(Nat->Value))) (h:AH):Option (Value×AH):=b.map fun r=>(r.2 h.next,h.alloc r.1)
def y6 (b:Option (mR×(Nat->Value))) (r:Nat) (h:AH):Option (Value×AH):=b.map fun x=>(x.2 r,h.set r (some x.1))
def aF0 (P:Program) (R:qE) (c:Call) (env:En) (h:AH):Option (Value×AH):=if gB (.call c) then jY (vY P (cB P env) h (.call c)) h else iB P R (cB P env) h (.call c)
abbrev OsF:=Program->qE->En->AH->Option (Value×AH)
abbrev DsF:=Program->qE->Nat->En->AH->Option (Value×AH)
def E8 (P:Program) (R:qE) (env:En) (h:AH) (op:Op):Option (Value×AH):=Op.rec (motive:=fun _=>OsF)
 (fun b P _ env h=>jY (Rm P (cB P env) h b) h)
 (fun b P _ env h=>jY (F8 P (cB P env) h b) h)
 (fun g d f P _ env h=>jY (Ss P (cB P env) h g d f) h)
 (fun m P _ env h=>zr (dP P (cB P env) (Op.alloc m)) h)
 (fun m l P _ env h=>zr (dP P (cB P env) (Op.box m l)) h)
 (fun a c P _ env h=>jY (K2 P (cB P env) h a c) h)
 (fun a n_ c P _ env h=>zr (dP P (cB P env) (Op.buildSlice a n_ c)) h)
 (fun _ _ _ _ _ _ _ _=>none)
 (fun a d P _ env h=>jY (Sx P (cB P env) h a d) h)
 (fun a d l P R env h=>iB P R (cB P env) h (Op.store a d l))
 (fun _ _ _ _ _=>none)
 (fun _ _ _ _ _=>none)
 (fun b P _ env h=>jY (yU P (cB P env) h b) h)
 (fun j a b t _ P _ env h=>jY (Mx P (cB P env) h j a b t) h)
 (fun j _ b P _ env h=>jY (Ql P (cB P env) h j b) h)
 (fun d f b P _ env h=>jY (Cp P (cB P env) h d f b) h)
 (fun _ _ _ _ _ _=>none)
 (fun a b P _ env h=>jY (pB P (cB P env) h a b) h)
 (fun i d f P _ env h=>jY (zX P (cB P env) h i d f) h)
 (fun a s P _ env h=>zr (dP P (cB P env) (Op.makeMap a s)) h)
 (fun _ _ _ _ _ _=>none)
 (fun a n g P _ env h=>zr (dP P (cB P env) (Op.makeSlice a n g)) h)
 (fun a b n q p P _ env h=>jY (Jp P (cB P env) h a b n q p) h)
 (fun a b i P _ env h=>jY (xJ P (cB P env) h a b i) h)
 (fun a b i P _ env h=>jY (I1 P (cB P env) h a b i) h)
 (fun a b e P _ env h=>jY (xG P (cB P env) h a b e) h)
 (fun a b e P _ env h=>jY (Lk P (cB P env) h a b e) h)
 (fun a b e j P _ env h=>jY (Fk P (cB P env) h a b e j) h)
 (fun a p r l P R env h=>iB P R (cB P env) h (Op.mapUpdate a p r l))
 (fun _ _ _ _ _ _ _=>none)
 (fun _ _ _ _ _ _ _ _=>none)
 (fun _ _ _ _ _ _=>none)
 (fun _ _ _ _ _ _=>none)
 (fun _ _ _ _ _=>none)
 (fun _ _ _ _ _ _ _ _=>none)
 (fun a e P _ env h=>jY (C3 P (cB P env) h a e) h)
 (fun g P R env h=>iB P R (cB P env) h (Op.call g))
 (fun _ _ _ _ _=>none)
 (fun _ _ _ _ _=>none)
 (fun _ _ _ _ _=>none)
 (fun _ _ _ _ _ _=>none)
 (fun _ _ _ _ _ _ _=>none)
 (fun _ _ _ _ _ _=>none) op P R env h
def cn (P:Program) (R:qE) (r:Nat) (env:En) (h:AH) (op:Op):Option (Value×AH):=Op.rec (motive:=fun _=>DsF)
 (fun b P _ _ env h=>jY (Rm P (cB P env) h b) h)
 (fun b P _ _ env h=>jY (F8 P (cB P env) h b) h)
 (fun g d f P _ _ env h=>jY (Ss P (cB P env) h g d f) h)
 (fun m P _ r env h=>y6 (dP P (cB P env) (Op.alloc m)) r h)
 (fun m l P _ r env h=>y6 (dP P (cB P env) (Op.box m l)) r h)
 (fun a c P _ _ env h=>jY (K2 P (cB P env) h a c) h)
 (fun a n_ c P _ r env h=>y6 (dP P (cB P env) (Op.buildSlice a n_ c)) r h)
 (fun _ _ _ _ _ _ _ _ _=>none)
 (fun a d P _ _ env h=>jY (Sx P (cB P env) h a d) h)
 (fun a d l P R _ env h=>iB P R (cB P env) h (Op.store a d l))
 (fun _ _ _ _ _ _=>none)
 (fun _ _ _ _ _ _=>none)
 (fun b P _ _ env h=>jY (yU P (cB P env) h b) h)
 (fun j a b u _ P _ _ env h=>jY (Mx P (cB P env) h j a b u) h)
 (fun j _ b P _ _ env h=>jY (Ql P (cB P env) h j b) h)
 (fun d f b P _ _ env h=>jY (Cp P (cB P env) h d f b) h)
 (fun _ _ _ _ _ _ _=>none)
 (fun a b P _ _ env h=>jY (pB P (cB P env) h a b) h)
 (fun i d f P _ _ env h=>jY (zX P (cB P env) h i d f) h)
 (fun a t P _ r env h=>y6 (dP P (cB P env) (Op.makeMap a t)) r h)
 (fun _ _ _ _ _ _ _=>none)
 (fun a n g P _ r env h=>y6 (dP P (cB P env) (Op.makeSlice a n g)) r h)
 (fun a b n q p P _ _ env h=>jY (Jp P (cB P env) h a b n q p) h)
 (fun a b i P _ _ env h=>jY (xJ P (cB P env) h a b i) h)
 (fun a b i P _ _ env h=>jY (I1 P (cB P env) h a b i) h)
 (fun a b e P _ _ env h=>jY (xG P (cB P env) h a b e) h)
 (fun a b e P _ _ env h=>jY (Lk P (cB P env) h a b e) h)
 (fun a b e j P _ _ env h=>jY (Fk P (cB P env) h a b e j) h)
 (fun a p s l P R _ env h=>iB P R (cB P env) h (Op.mapUpdate a p s l))
 (fun _ _ _ _ _ _ _ _=>none)
 (fun _ _ _ _ _ _ _ _ _=>none)
 (fun _ _ _ _ _ _ _=>none)
 (fun _ _ _ _ _ _ _=>none)
 (fun _ _ _ _ _ _=>none)
 (fun _ _ _ _ _ _ _ _ _=>none)
 (fun a e P _ _ env h=>jY (C3 P (cB P env) h a e) h)
 (fun g P R _ env h=>aF0 P R g env h)
 (fun _ _ _ _ _ _=>none)
 (fun _ _ _ _ _ _=>none)
 (fun _ _ _ _ _ _=>none)
 (fun _ _ _ _ _ _ _=>none)
 (fun _ _ _ _ _ _ _ _=>none)
 (fun _ _ _ _ _ _ _=>none) op P R r env h
theorem Sj (v:Option Value) (h:AH):jY v h=v.map fun v=>(v,h):=by cases v<;>rfl
theorem Tf (P:Program) (R:qE) (env:En) (h:AH) (op:Op):E8 P R env h op=
  match kindOf op with
  |.yK=>(Q4 P (cB P env) h op).map fun v=>(v,h)
  |.alloc=>(dP P (cB P env) op).map fun r=>(r.2 h.next,h.alloc r.1)
  |.store|.call=>iB P R (cB P env) h op
  |.other=>none:=by
 cases op<;>first|rfl|exact Sj _ _
theorem Xa (P:Program) (R:qE) (r:Nat) (env:En) (h:AH) (op:Op):cn P R r env h op=
  if gB op then(vY P (cB P env) h op).map fun v=>(v,h)
  else if kindOf op== .alloc then(dP P (cB P env) op).map fun x=>(x.2 r,h.set r (some x.1))
  else iB P R (cB P env) h op:=by
 cases op<;>first|rfl|exact Sj _ _|skip
 rename_i c
 show aF0 P R c env h=_
 unfold aF0
 rw[Sj]
 rfl
def aLw (P:Program) (R:qE) (r:Nat) (env:En) (h:AH) (op:Op) (w:Option Bool):Option (Value×AH):=
 Option.rec (motive:=fun _=>Option (Value×AH)) none (fun b=>Bool.rec (motive:=fun _=>Option (Value×AH)) (some (undef,h)) (cn P R r env h op) b) w
def pM (P:Program) (R:qE) (all:List Oper) (a i:Nat) (env:En) (h:AH) (o:Oper):Option (Value×AH):=aLw P R (a+i) env h o.op (mE ⟨all⟩ env o)
theorem Ng (P:Program) (R:qE) (all:List Oper) (a i:Nat) (env:En) (h:AH) (o:Oper):pM P R all a i env h o=
 match mE ⟨all⟩ env o with
 |none=>none
 |some false=>some (undef,h)
 |some true=>
  if gB o.op then(vY P (cB P env) h o.op).map fun v=>(v,h)
  else if kindOf o.op== .alloc then(dP P (cB P env) o.op).map fun r=>(r.2 (a+i),h.set (a+i) (some r.1))
  else iB P R (cB P env) h o.op:=by
 unfold pM
 cases mE ⟨all⟩ env o with
 |none=>rfl
 |some b=>
  cases b with
  |false=>rfl
  |true=>exact Xa ..
abbrev DtR:=Option (List aC0×En×AH)
def aIr (env:En) (h:AH) (v:Value) (x:DtR):DtR:=Option.rec (motive:=fun _=>DtR) none (fun r=>some (⟨env,h,v⟩::r.1,r.2)) x
def aJ9 (a:Nat->En->AH->DtR) (i:Nat) (o:Oper) (env:En) (h:AH) (x:Option (Value×AH)):DtR:=Option.rec (motive:=fun _=>DtR) none (fun r=>aIr env h r.1 (a (i+1) (yL env o.dst r.1) r.2)) x
def lM (P:Program) (R:qE) (all:List Oper) (b i:Nat) (os:List Oper) (env:En) (h:AH):DtR:=
 List.rec (motive:=fun _=>Nat->En->AH->DtR) (fun _ env h=>some ([],env,h)) (fun o _ a i env h=>aJ9 a i o env h (pM P R all b i env h o)) os i env h
theorem Lv (P:Program) (R:qE) (all:List Oper) (a i:Nat) (o:Oper) (os:List Oper) (env:En) (h:AH):lM P R all a i (o::os) env h=
  match pM P R all a i env h o with
  |some (v,b)=>match lM P R all a (i+1) os (yL env o.dst v) b with
   |some (c,e)=>some (⟨env,h,v⟩::c,e)
   |none=>none
  |none=>none:=by
 show aJ9 (fun i env h=>lM P R all a i os env h) i o env h (pM P R all a i env h o)=_
 cases pM P R all a i env h o with
 |none=>rfl
 |some r=>
  show aIr env h r.1 (lM P R all a (i+1) os (yL env o.dst r.1) r.2)=_
  cases hd:lM P R all a (i+1) os (yL env o.dst r.1) r.2 with
  |none=>simp only[hd];rfl
  |some q=>simp only[hd];rfl
def Ey (P:Program) (all:List Oper) (rs:List aC0) (hEnd:AH) (x:Nat×Nat):Bool:=
 match all[x.1]?,rs[x.1]? with
 |some o,some r=>
  match mE ⟨all⟩ r.env o with
  |some true=>(match vY P (cB P r.env) (match rs[x.2]? with|some q=>q.h|none=>hEnd) o.op with|some v=>nN v r.v|none=>false)
  |_=>true
 |_,_=>false
def De (P:Program) (R:qE) (ops:Array Oper) (env:En) (h:AH):Option (En×AH):=
 if Gc ops.toList&&(P.follows .mixedOrders|| !Region.departs ops) then
  match lM P R ops.toList h.next 0 ops.toList env {h with next:=h.next+ops.size} with
  |some (c,a,b)=>if(B7 ops.toList).all (Ey P ops.toList c b) then some (a,b) else none
  |none=>none
 else none
def sJ (P:Program) (h:AH) (env:En):List ResultVar->Option (List Value)
 |[]=>some []
 |.tmp t::b=>(sJ P h env b).map fun l=>env.get t::l
 |.cell a t::b=>match env.get a with
  |.pointer (some a)=>match tL P h t a,sJ P h env b with
   |some v,some l=>some (v::l)
   |_,_=>none
  |_=>none
section td
variable (P:Program) (R:qE) (fn:FuncId) (ro:Option Nat) (ds:List Nat) (env:En) (k:List Item) (h:AH)
abbrev Hw:=Option (Nr×AH)
def db:Hw:=R (.todo fn ro ds env k) h
def aFn (a b:Code):Hw:=R (.todo fn ro ds env (.code a:: .code b::k)) h
def Sv (c:Operand) (t e:Code):Hw:=match cB P env c with
   |.bool b=>R (.todo fn ro ds env (.code (if b then t else e)::k)) h
   |_=>none
def gh (b:Code) (x:Item):Hw:=R (.todo fn ro ds env (.code b::x::k)) h
def Qb (id:Nat):Hw:=match exitTo id k with
   |some a=>R (.todo fn ro ds env a) h
   |none=>if ro.isSome then some (⟨.exit id,ds,env,undef⟩,h) else none
def aH7:Hw:=some (⟨.ret,ds,env,undef⟩,h)
def aDe:Hw:=some (⟨.iR,ds,env,undef⟩,h)
def dp (x:Option (Nr×AH)):Hw:=match x with
   |some (o,a)=>R (.todo fn ro ds o.env k) a
   |none=>none
def Zp (ops:Array Oper):Hw:=dp R fn ro ds k (R (.ops ops ops.toList env) h)
def V1 (x:Option (En×AH)):Hw:=match x with
   |some (a,b)=>R (.todo fn ro ds a k) b
   |none=>none
def Qz (ops:Array Oper):Hw:=V1 R fn ro ds k (De P R ops env h)
def Ms (f:Operand) (ps:Array Tmp) (assign b:Code):Hw:=
   match aEq h ds ro with
   |some (d,c,e)=>
    match cB P env f with
    |.func (.func g) first a=>
     if fX P g then
      match R (.call g (first.toList++[.func (.yield c.next) #[] #[]]++a.toList)) (c.alloc (.loop .ready none fn env.yC ps assign b d)) with
      |some (_,i)=>
       match i.get c.next with
       |some (.loop st p _ _ _ _ _ _)=>
        if st= .busy then none else
        match cI i c.next .exhausted none with
        |some j=>R (.todo fn ro e env ((p.map Item.code).toList++k)) j
        |none=>none
       |_=>none
      |none=>none
     else none
    |_=>none
   |none=>none
def Jj:Hw:=
  match ro with
  |some l=>match h.get l with
   |some (.loop .ready _ _ _ _ _ _ _)=>match cI h l .busy none with
    |some a=>R (.todo fn ro ds env k) a
    |none=>none
   |_=>none
  |none=>none
def aBi:Code->Hw
  |.skip=>db R fn ro ds env k h
  |.label _=>db R fn ro ds env k h
  |.seq a b=>aFn R fn ro ds env k h a b
  |.cond c t e=>Sv P R fn ro ds env k h c t e
  |.block id b=>gh R fn ro ds env k h b (.inBlock id)
  |.loop b=>gh R fn ro ds env k h b (.inLoop b)
  |.scope b=>gh R fn ro ds env k h b (.inScope b)
  |.exit id=>Qb R fn ro ds env k h id
  |.ret=>aH7 ds env h
  |.region _ ops d=>Bool.rec (motive:=fun _=>Hw) (Zp R fn ro ds env k h ops) (Qz P R fn ro ds env k h ops) d
  |.rangeFunc f i assign g=>Ms P R fn ro ds env k h f i assign g
  |_=>none
def aBb:Item->Hw
  |.code c=>aBi P R fn ro ds env k h c
  |.inBlock _=>db R fn ro ds env k h
  |.inScope _=>db R fn ro ds env k h
  |.inLoop b=>gh R fn ro ds env k h b (.inLoop b)
  |.beginRound=>Jj R fn ro ds env k h
  |_=>none
end td
def To (P:Program) (R:qE) (fn:FuncId) (ro:Option Nat) (ds:List Nat) (env:En) (k:List Item) (h:AH):Option (Nr×AH):=
 List.rec (motive:=fun _=>Hw) (aDe ds env h) (fun x k _=>aBb P R fn ro ds env k h x) k
section op
variable (P:Program) (R:qE) (all:Array Oper) (rest:List Oper) (env:En) (h:AH) (o:Oper)
def aI7 (x:Value×AH):Hw:=R (.ops all rest (yL env o.dst x.1)) x.2
def za:Hw:=Option.rec (motive:=fun _=>Hw) none (aI7 R all rest env o) (E8 P R env h o.op)
def aJr:Hw:=R (.ops all rest (yL env o.dst undef)) h
def aKb (w:Option Bool):Hw:=Option.rec (motive:=fun _=>Hw) none (fun b=>Bool.rec (motive:=fun _=>Hw) (aJr R all rest env h o) (za P R all rest env h o) b) w
end op
def Re (P:Program) (R:qE) (all:Array Oper) (rest:List Oper) (env:En) (h:AH):Option (Nr×AH):=
 match rest with
 |[]=>some (⟨.iR,[],env,undef⟩,h)
 |o::rest=>
  aKb P R all rest env h o (mE all env o)
def Jq (P:Program) (K:FuncId->List Value->Option iJ) (R:qE) (f:FuncId) (args:List Value) (h:AH):Option (Nr×AH):=
 match K f args with
 |some (.val v)=>some (⟨.iR,[],Z8,v⟩,h)
 |some (.fwd g d)=>match R (.call g d) h with
  |some (o,b)=>if Mm o.v then some (⟨.iR,[],Z8,o.v⟩,b) else none
  |none=>none
 |some (.host F)=>(F h).map fun r=>(⟨.iR,[],Z8,r.1⟩,r.2)
 |none=>
  match aBx P.funcs.toList f with
  |some fn=>
   match fn.body with
   |some a=>
    match R (.todo f none [] (En.of args (fn.ntmps - args.length)) [.code a]) h with
    |some (o,b)=>
     match o.leave with
     |.exit _=>none
     |_=>match bS o.ds b with
      |some c=>(sJ P c o.env fn.results.toList).map fun e=>(⟨.iR,[],Z8,oneOf e⟩,c)
      |none=>none
    |none=>none
   |none=>none
  |none=>none
def Fb (R:qE) (l:Nat) (args:List Value) (h:AH):Option (Nr×AH):=
 match h.get l with
 |some (.loop _ _ fn c e assign a _)=>
  if args.length=e.size then
   match R (.todo fn (some l) [] (En.of ((e.toList.zip args).foldl (fun t (p,v)=>t.set p v) c) 0) [.code assign,.beginRound,.code a]) h with
   |some (o,d)=>
    if o.ds.isEmpty then
     match o.leave with
     |.iR=>(cI d l .ready (some none)).map fun b=>(⟨.iR,[],Z8,.bool true⟩,b)
     |.ret=>(cI d l .done (some (some .ret))).map fun b=>(⟨.iR,[],Z8,.bool false⟩,b)
     |.exit id=>(cI d l .done (some (some (.exit id)))).map fun b=>(⟨.iR,[],Z8,.bool false⟩,b)
    else none
   |none=>none
  else none
 |_=>none
def aI8 (P:Program) (K:FuncId->List Value->Option iJ) (R:qE) (t:Uv) (h:AH):Option (Nr×AH):=
 Uv.rec (motive:=fun _=>Hw) (fun fn ro ds env k=>To P R fn ro ds env k h) (fun all rest env=>Re P R all rest env h) (fun f a=>Jq P K R f a h) (fun l a=>Fb R l a h) t
def vt (P:Program) (K:FuncId->List Value->Option iJ) (n:Nat):qE:=
 Nat.rec (motive:=fun _=>qE) (fun _ _=>none) (fun _ R=>aI8 P K R) n
section same
variable {P:Program} {K:FuncId->List Value->Option iJ} {R':qE} {R:iU}
theorem Ge.val (hR:Ge R' R) (t:Uv) (h:AH):(R' t h).map (fun r=>(r.1.v,r.2))=(R (aCg t) h).map fun r=>(r.1.v,r.2):=by
 rw[hR t h,Option.map_map];rfl
theorem Bw (hR:Ge R' R) (a:Operand->Value) (h:AH) (op:Op):iB P R' a h op=dN P R a h op:=by
 have b:∀g l,(R' (.call g l) h).map (fun r=>(r.1.v,r.2))=(R (.call g l) h).map fun r=>(r.1.v,r.2):=fun g l=>hR.val _ _;have c:∀g l,(R' (.round g l) h).map (fun r=>(r.1.v,r.2))=(R (.round g l) h).map fun r=>(r.1.v,r.2):=fun g l=>hR.val _ _;unfold iB dN;simp only[b,c];rfl
theorem Zz (hR:Ge R' R) (env:En) (h:AH) (op:Op):E8 P R' env h op=lC P R env.yC h op:=by
 rw[Tf];unfold lC;simp only[vO,Mb,Bw hR];rfl
theorem Qm (hR:Ge R' R) (all:List Oper) (a i:Nat) (env:En) (h:AH) (o:Oper):pM P R' all a i env h o=eU P R all a i env.yC h o:=by
 rw[Ng];unfold eU;simp only[Ah,vO,Ew,Bw hR];rfl
theorem Dm (hR:Ge R' R) (all:List Oper) (a:Nat):∀(os:List Oper) (i:Nat) (env:En) (h:AH),
    gE P R all a i os env.yC h=(lM P R' all a i os env h).map fun r=>(r.1.map aFu,r.2.1.yC,r.2.2)
 |[],_,_,_=>rfl
 |o::os,i,env,h=>by
  rw[Lv];simp only[gE,Qm hR];cases eU P R all a i env.yC h o with
  |none=>rfl
  |some r=>
   obtain⟨v,b⟩:=r;simp only[<-K7,Dm hR all a os];cases lM P R' all a (i+1) os (yL env o.dst v) b with
   |none=>rfl
   |some r=>rfl
theorem Vx (all:List Oper) (rs:List aC0) (hEnd:AH) (x:Nat×Nat):Ey P all rs hEnd x=sD P all (rs.map aFu) hEnd x:=by
 unfold Ey sD;simp only[List.getElem?_map];cases all[x.1]? with
 |none=>rfl
 |some o=>
  cases rs[x.1]? with
  |none=>rfl
  |some r=>
   simp only[Option.map_some,Ah,vO,Ew];cases rs[x.2]?<;>rfl
theorem Wx (hR:Ge R' R) (ops:Array Oper) (env:En) (h:AH):pT P R ops env.yC h=(De P R' ops env h).map fun r=>(r.1.yC,r.2):=by
 unfold De pT;rw[Dm hR];split;cases lM P R' ops.toList h.next 0 ops.toList env {h with next:=h.next+ops.size} with
 |none=>rfl
 |some r=>
  obtain⟨b,e,a⟩:=r;have:Ey P ops.toList b a=sD P ops.toList (b.map aFu) a:=funext (Vx _ b a);simp only[Option.map_some,this];split<;>rfl
 rfl
theorem xA (h:AH) (env:En):∀b,sJ P h env b=fC P h env.yC b
 |[]=>rfl
 |.tmp t::b=>by simp only[sJ,fC,En.get_eq,xA h env b]
 |.cell a t::b=>by simp only[sJ,fC,En.get_eq,xA h env b];rfl
theorem Wb (P:Program) (R:qE) (all:Array Oper) (rest:List Oper) (env:En) (h:AH):Re P R all rest env h=
  match rest with
  |[]=>some (⟨.iR,[],env,undef⟩,h)
  |o::rest=>
   match mE all env o with
   |none=>none
   |some false=>R (.ops all rest (yL env o.dst undef)) h
   |some true=>match E8 P R env h o.op with
    |some (v,a)=>R (.ops all rest (yL env o.dst v)) a
    |none=>none:=by
 cases rest with
 |nil=>rfl
 |cons o rest=>
  show aKb P R all rest env h o (mE all env o)=_
  simp only
  cases mE all env o with
  |none=>rfl
  |some b=>
   cases b with
   |false=>rfl
   |true=>
    show za P R all rest env h o=_
    unfold za
    simp only
    cases E8 P R env h o.op<;>rfl
theorem Xn (hR:Ge R' R) (all:Array Oper) (rest:List Oper) (env:En) (h:AH):rE P R all rest env.yC h=(Re P R' all rest env h).map vL:=by
 rw[Wb];unfold rE;cases rest with
 |nil=>rfl
 |cons o rest=>
  simp only[Ah,Zz hR];cases dO all env.yC o with
  |none=>rfl
  |some b=>
   cases b with
   |false=>simp only[<-K7];exact hR (.ops all rest (yL env o.dst undef)) h
   |true=>
    simp only;cases lC P R env.yC h o.op with
    |none=>rfl
    |some r=>simp only[<-K7];exact hR (.ops all rest (yL env o.dst r.1)) r.2
theorem W1 (hR:Ge R' R) (fn:FuncId) (ro:Option Nat) (ds:List Nat) (env:En) (k:List Item) (h:AH):dL P R fn ro ds env.yC k h=(To P R' fn ro ds env k h).map vL:=by
 have m:∀fn ro ds (env:En) k h,R (.todo fn ro ds env.yC k) h=(R' (.todo fn ro ds env k) h).map vL:=fun fn ro ds env k h=>hR (.todo fn ro ds env k) h;unfold dL;cases k with
 |nil=>rfl
 |cons x k=>
  cases x with
  |code c=>
   cases c with
   |skip=>exact m ..
   |label _=>exact m ..
   |seq a b=>exact m ..
   |cond c t e=>
    show _=(Sv P R' fn ro ds env k h c t e).map vL;unfold Sv;simp only[vO];cases cQ P env.yC c<;>first|rfl|exact m ..
   |block id b=>exact m ..
   |loop b=>exact m ..
   |scope b=>exact m ..
   |exit id=>
    show _=(Qb R' fn ro ds env k h id).map vL;unfold Qb;simp only;cases exitTo id k with
    |none=>simp only;split<;>rfl
    |some G=>exact m ..
   |ret=>rfl
   |region i ops d=>
    cases d with
    |false=>
     show _=(Zp R' fn ro ds env k h ops).map vL;unfold Zp dp;simp only;rw[show R (.ops ops ops.toList env.yC) h=(R' (.ops ops ops.toList env) h).map vL from hR (.ops ops ops.toList env) h];cases R' (.ops ops ops.toList env) h with
     |none=>rfl
     |some r=>exact m ..
    |true=>
     show _=(Qz P R' fn ro ds env k h ops).map vL;unfold Qz V1;simp only[Wx hR];cases De P R' ops env h with
     |none=>rfl
     |some r=>exact m ..
   |rangeFunc f y assign n=>
    show _=(Ms P R' fn ro ds env k h f y assign n).map vL;unfold Ms;simp only[vO];split;rename_i d q z A;have s:aEq h ds ro=some (d,q,z):=A;simp only[s];split;rename_i g first j C
    simp only[C];split;rw[show R (.call g (first.toList++[.func (.yield q.next) #[] #[]]++j.toList)) (q.alloc (.loop .ready none fn env.yC y assign n d))=
     (R' (.call g (first.toList++[.func (.yield q.next) #[] #[]]++j.toList)) (q.alloc (.loop .ready none fn env.yC y assign n d))).map vL from hR (.call g _) _]
    cases R' (.call g (first.toList++[.func (.yield q.next) #[] #[]]++j.toList)) (q.alloc (.loop .ready none fn env.yC y assign n d)) with
    |none=>rfl
    |some r=>
     simp only[Option.map_some,vL];split;rename_i st p _ _ _ _ _ _ u;simp only[u];split;rfl;split;rename_i F w;simp only[w];exact m ..;rename_i w;simp only[w];rfl;rename_i u;split;rename_i v;exact absurd v (u _ _ _ _ _ _ _ _);rfl
    rfl;rename_i C;split;rename_i D;exact absurd D (C _ _ _);rfl;rename_i A;have s:aEq h ds ro=none:=A;simp only[s];rfl
   |_=>rfl
  |inBlock _=>exact m ..
  |inScope _=>exact m ..
  |inLoop b=>exact m ..
  |beginRound=>
   show _=(Jj R' fn ro ds env k h).map vL;unfold Jj;cases ro with
   |none=>rfl
   |some l=>
    simp only;split;rename_i u;simp only[u];split;rename_i E w;simp only[w];exact m ..;rename_i w;simp only[w];rfl;rename_i u;split;rename_i v;exact absurd v (u _ _ _ _ _ _ _);rfl
  |_=>rfl
theorem Vm (hR:Ge R' R) (f:FuncId) (args:List Value) (h:AH):iS P K R f args h=(Jq P K R' f args h).map vL:=by
 unfold Jq iS;cases K f args with
 |some a=>
  cases a with
  |val v=>rfl
  |fwd g c=>
   simp only;rw[show R (.call g c) h=(R' (.call g c) h).map vL from hR (.call g c) h];cases R' (.call g c) h with
   |none=>rfl
   |some r=>simp only[Option.map_some,vL,aBc];split<;>rfl
  |host F=>simp only;cases F h<;>rfl
 |none=>
  simp only;rw[Qp,Array.getElem?_toList];cases P.funcs[f]? with
  |none=>rfl
  |some fn=>
   simp only;cases fn.body with
   |none=>rfl
   |some b=>
    simp only;rw[<-En.of_eq,show R (.todo f none [] (En.of args (fn.ntmps - args.length)).yC [.code b]) h=(R' (.todo f none [] (En.of args (fn.ntmps - args.length)) [.code b]) h).map vL from hR (.todo f none [] (En.of args (fn.ntmps - args.length)) [.code b]) h];cases R' (.todo f none [] (En.of args (fn.ntmps - args.length)) [.code b]) h with
    |none=>rfl
    |some r=>
     obtain⟨⟨i,ds,env,v⟩,e⟩:=r;simp only[Option.map_some,vL,aBc,xA];cases i with
     |exit id=>rfl
     |iR=>simp only;cases bS ds e with|none=>rfl|some d=>simp only;cases fC P d env.yC fn.results.toList<;>rfl
     |ret=>simp only;cases bS ds e with|none=>rfl|some d=>simp only;cases fC P d env.yC fn.results.toList<;>rfl
theorem Rx (hR:Ge R' R) (l:Nat) (args:List Value) (h:AH):mK R l args h=(Fb R' l args h).map vL:=by
 unfold Fb mK;split;rename_i fn a g as bd d c;simp only[c];split;have f:∀t:List Value,(En.of t 0).yC=t:=fun t=>by rw[En.of_eq];simp
 have:=hR (.todo fn (some l) [] (En.of ((g.toList.zip args).foldl (fun t (p,v)=>t.set p v) a) 0) [.code as,.beginRound,.code bd]) h;simp only[aCg,f] at this;rw[this];cases R' (.todo fn (some l) [] (En.of ((g.toList.zip args).foldl (fun t (p,v)=>t.set p v) a) 0) [.code as,.beginRound,.code bd]) h with
 |none=>rfl
 |some r=>
  obtain⟨⟨i,ds,env,v⟩,b⟩:=r;simp only[Option.map_some,vL,aBc];split;cases i with
  |iR=>simp only;cases cI b l .ready (some none)<;>rfl
  |ret=>simp only;cases cI b l .done (some (some .ret))<;>rfl
  |exit id=>simp only;cases cI b l .done (some (some (.exit id)))<;>rfl
  rfl
 rfl;rename_i c;split;rename_i e;exact absurd e (c _ _ _ _ _ _ _ _);rfl
theorem fj:∀n,Ge (vt P K n) (run P K n)
 |0=>fun t h=>by cases t<;>rfl
 |n+1=>fun t h=>by
  have b:Ge (vt P K n) fun t h=>run P K n t h:=fj n;cases t with
  |todo fn ro ds env k=>exact W1 b ..
  |ops all rest env=>exact Xn b ..
  |call f a=>exact Vm b ..
  |round l a=>exact Rx b ..
end same
theorem Vo {P:Program} {K:FuncId->List Value->Option iJ} {n:Nat} {f:FuncId} {args:List Value} {h:AH} {v:Value} (a:((vt P K n (.call f args) h).any fun r=>nN r.1.v v)=true):
  ((run P K n (.call f args) h).any fun r=>nN r.1.v v)=true:=by
 have:=fj (P:=P) (K:=K) n (.call f args) h
 simp only[aCg] at this
 rw[this]
 revert a
 cases vt P K n (.call f args) h<;>exact id
end
end Go.Ab
end
section
namespace Go.Ab
noncomputable section
variable {P:Program} {K:FuncId->List Value->Option iJ}
def sub:Code->List Nat->Code
 |c,[]=>c
 |.seq a _,0::p=>sub a p
 |.seq _ b,1::p=>sub b p
 |.cond _ t _,0::p=>sub t p
 |.cond _ _ e,1::p=>sub e p
 |.block _ b,0::p=>sub b p
 |.loop b,0::p=>sub b p
 |.scope b,0::p=>sub b p
 |.rangeFunc _ _ a _,0::p=>sub a p
 |.rangeFunc _ _ _ b,1::p=>sub b p
 |_,_=> .skip
def Me (P:Program) (f:FuncId):Option Code:=(P.funcs[f]?).bind (·.body)
def ntm (P:Program) (f:FuncId):Nat:=(P.funcs[f]?).elim 0 (·.ntmps)
def cd (P:Program) (f:FuncId) (p:List Nat):Code:=sub ((Me P f).getD .skip) p
def Cl (P:Program) (K:FuncId->List Value->Option iJ) (f:FuncId) (args:List Value) (h:AH) (Q:Value->AH->Prop):Prop:=Ok P K (.call f args) h fun o a=>Q o.v a
def lpB (P:Program) (f:FuncId) (p:List Nat) (n:Nat) (e:Nat->Value) (d:Nat) (st:LoopState) (pd:Option Code):mR:=match cd P f p with
 |.rangeFunc _ c a b=> .loop st pd f ((List.range n).map e) c a b d
 |_=> .marks false
abbrev I (n:Int):Value:= .int .i64 n
def pt (b o j:Nat):Value:= .pointer (some ⟨b,o+j,none⟩)
def aIn:Nat->Nat->List Nat->List Nat
 |0,_,acc=>acc
 |f+1,n,acc=>if n<=1 then acc else aIn f (n/2) (n % 2::acc)
def kI (n:Nat):List Nat:=aIn 120 n []
def rgF:Code->Operand×Array Tmp×Code×Code
 |.rangeFunc f c a b=>(f,c,a,b)
 |_=>(.tmp 0, #[],.skip,.skip)
end
end Go.Ab
end
