/- A part of the proof. -/
import Derived.Test.YtajjljbmfdboaaaGreatDoorR3
namespace Go.Ab
open Go.RowKit
section
variable {P:Program} {B:Nat} {K:FuncId->List Value->Option jI}
theorem Rp {α:Type} {l:List α} {f:α×Nat->Bool} (h:l.zipIdx.all f=true) {k:Nat} {o:α} (a:l[k]?=some o):f (o,k)=true:=by
 grind
theorem Vu {l:List Nat} (a:l.Pairwise (·<·)) {i p:Nat} (c:l.find? (fun x=>decide (i<x))=some p):i<p/\p∈l/\∀j∈l,i<j->p<=j:=by
 obtain⟨b,as,f,rfl,g⟩:=List.find?_eq_some_iff_append.1 c;refine⟨by simpa using b,by simp,?_⟩;intro j e d;rcases List.mem_append.1 e with h|h;grind;rw[List.pairwise_append] at a;rcases List.mem_cons.1 h with h|h;omega;have:=(List.pairwise_cons.1 a.2.1).1 j h;omega
structure Fit (all:List Oper):Prop where
 dir:∀(k:Nat) o,all[k]?=some o->∀j∈fF o,j<k
 kind:∀(k:Nat) o,all[k]?=some o->kindOf o.op≠.other
 pF:∀i j:Nat,∀t,(all[i]?).bind (·.dst)=some t->(all[j]?).bind (·.dst)=some t->i=j
 tmps:∀i j:Nat,∀o p d,all[i]?=some o->all[j]?=some p->i≠j->p.dst=some d->d∈Dz all o->(j<i->ahead (eZ all []) j i=true)/\(i<j->ahead (eZ all []) i j=true)
 wU:∀i j:Nat,∀o p,all[i]?=some o->all[j]?=some p->dO o.op=true->dO p.op=true->j<i->ahead (eZ all []) j i=true
theorem Wk {all:List Oper} (h:Jh all=true):Fit all:=by
 unfold Jh at h;simp only[Bool.and_eq_true] at h;obtain⟨⟨⟨b,g⟩,c⟩,_⟩:=h;have pair:∀i j:Nat,∀o p,all[i]?=some o->all[j]?=some p->i≠j->
   (o.dst.isNone||o.dst !=p.dst)=true/\
   (match p.dst with|some d=> !(Dz all o).contains d||(if j<i then ahead (eZ all []) j i else ahead (eZ all []) i j)|none=>true)=true/\
   (!(dO o.op&&dO p.op&&decide (j<i))||ahead (eZ all []) j i)=true:=by
  intro i j o p a f e
  have:=Rp (Rp c a) f
  grind
 refine {dir:=?_,kind:=?_,pF:=?_,tmps:=?_,wU:=?_};intro k o a j l;have:=Rp b a;grind;grind;grind;grind;grind
theorem aD2 {all:List Oper} {i s n:Nat} (f:n=all.length) (e:i<n):
  let wU:=(List.range n).filter fun i=>(all[i]?).any fun o=>dO o.op
  ((wU++[n]).find? fun x=>decide (i<x)).getD n=s->i<s/\∀j p,i<j->j<s->all[j]?=some p->dO p.op=false:=by
 intro wU b
 have a:(wU++[n]).Pairwise (·<·):=by
  rw[List.pairwise_append];refine⟨(List.pairwise_lt_range).filter _,by simp,?_⟩;grind
 cases hf:(wU++[n]).find? fun x=>decide (i<x) with
 |none=>
  grind
 |some p=>
  rw[hf] at b
  simp only[Option.getD_some] at b
  subst b
  obtain⟨c,_,d⟩:=Vu a hf
  grind
theorem Wi {all:List Oper} {i s:Nat} {o:Oper} (f:all[i]?=some o) (q:iN o.op=true) (r:s=all.length\/∃p,all[s]?=some p/\dO p.op=true)
  (d:∀j p,all[j]?=some p->dO p.op=true->(j<s->ahead (eZ all []) i j=false)/\(s<=j->ahead (eZ all []) j i=false))
  (c:¬(i<s/\∀j p,i<j->j<s->all[j]?=some p->dO p.op=false)):(i,s)∈G7 all:=by
 have b:i<all.length:=(List.getElem?_eq_some_iff.1 f).1
 unfold G7
 simp only
 rw[List.mem_flatMap]
 refine⟨i,List.mem_range.2 b,?_⟩
 rw[aJ7 (by simp[f,q])]
 rw[List.mem_map]
 refine⟨s,?_,rfl⟩
 rw[List.mem_filter]
 constructor
 .grind
 .rw[Bool.and_eq_true];constructor
  .simp only[bne_iff_ne,ne_eq];intro m;exact c (aD2 rfl b m.symm)
  .rw[List.all_eq_true];intro j e;rw[List.mem_filter] at e;obtain⟨n,a⟩:=e;cases hp:all[j]? with
   |none=>simp[hp] at a
   |some p=>
    simp[hp] at a
    obtain⟨g,l⟩:=d j p hp a
    split
    .rename_i h;simp[g h]
    .rename_i h;simp[l (by omega)]
theorem Uz {R:jE} {all:List Oper} {d:Nat}:∀(os:List Oper) (i:Nat) (env:List Value) (h:AH) (rs:List Rec) (e:List Value) (b:AH),drawText P R all d i os env h=some (rs,e,b)->rs.length=os.length
 |[],i,env,h,rs,e,b,a=>by
  simp only[drawText,Option.some.injEq,Prod.mk.injEq] at a;rw[<-a.1];rfl
 |o::os,i,env,h,rs,e,b,a=>by
  simp only[drawText] at a;split at a;split at a;rename_i c;simp only[Option.some.injEq,Prod.mk.injEq] at a;rw[<-a.1,List.length_cons,List.length_cons,Uz os _ _ _ _ _ _ c];cases a;cases a
theorem aAh (C:Ctx P B K) (R:jE) (hR:Ck C R):po C R:=by
 intro ops env h μ h' c ρ w b a cs k t l hg he;unfold uW at c;split at c;rename_i z;rw[Bool.and_eq_true] at z;obtain⟨z,J⟩:=z;split at c;rename_i rs e hN r;split at c;rename_i I;simp only[Option.some.injEq,Prod.mk.injEq] at c;obtain⟨rfl,rfl⟩:=c;have fit:=Wk z;generalize u:ops.toList=all at fit r I z;have ν:ops.size=all.length:=by rw[<-u];simp
 obtain⟨E,H,V,X,F,A,Y,G,W⟩:=J3 all 0 env _ rs e hN r;have d:Dr P R all h.next E H V:={
  step:=fun j o L=>by have:=(A j o L).1;rwa [Nat.zero_add] at this
  env:=fun j o L=>(A j o L).2
  dir:=fit.dir,kind:=fit.kind,pF:=fit.pF,tmps:=fit.tmps,wU:=fit.wU
  flt:=fun i s o L hl hs ζ Z U hw=>by
   rw[List.all_eq_true] at I;have:=I (i,s) (Wi L hl ζ Z U);have γ:i<all.length:=(List.getElem?_eq_some_iff.1 L).1;unfold floatOk at this;simp only[L,W i γ,hw] at this;have hh:eR P (dH P (E i)) (H s) o.op=some (V i):=by
    rcases Nat.lt_or_ge s all.length with g|g;rw[W s g] at this;simp only at this;split at this;rename_i v hv;rw[hv,Gt _ _ this];cases this;have η:s=all.length:=by omega
    rw[List.getElem?_eq_none (by rw[Uz _ _ _ _ _ _ _ r];omega)] at this;simp only at this;rw[η,G];split at this;rename_i v hv;rw[hv,Gt _ _ this];cases this
   exact hh}
 have hB:B<=w.heap.size:=l.size;have β:Inv P B ρ (H 0) w:=by
  rw[F];exact {rI:=l.rI,inj:=l.inj,low:=l.low,old:=l.old,fresh:=fun i g=>l.fresh i (by simp at g;omega),iE:=fun i g=>l.iE i (by simp at g;omega),pW:=l.pW,size:=l.size,bn:=by have:=l.bn;grind}
 have q:∀i,(H 0).get i=h.get i:=fun i=>by rw[F];rfl
 have ι:St P B all h.next E H V ρ h w [] 0 ρ w a.tmps.toList:={
  D3:={ext:=Ext.refl _,inv:=β,un:=fun _ _ h=>h,nC:=fun i _ _=>q i,stay:=fun i _ g=>by rw[q];exact g,frame:=fun _ _ _=>rfl,
                range:=fun i b s g x h3 _=>⟨i,s,g,by grind,h3⟩,base:=by rw[F],wN:=fun i _=>q i,size:=Nat.le_refl _,os:=rfl,out:=rfl,tape:=rfl}
  mw:=fun i g=>by cases g
  closed:=fun i g=>by cases g
  s1:=fun j o g=>by omega
  s3:=fun j o _ _ g=>by cases g
  sle:=Nat.zero_le _
  env:=by rw[X];exact he
  nx:=by grind
  iS:=fun i o b f _ g=>by cases g
  wR:=fun i n t g x=>by rw[l.fresh _ (by omega)] at x;cases x
  lone:=fun i n t _ g x=>by rw[l.fresh _ (by omega)] at x;cases x
  H8:=fun i i' n t t' _ _ x=>by rw[l.fresh _ (by omega)] at x;cases x
  db:=fun i _ _=>l.fresh _ (by omega)
  m8:=fun i o _ _=>l.fresh _ (by omega)
  rev:=fun i o b f g=>by omega
  az:=fun j _ _=>by rw[q];exact l.iE _ (by omega)
  gr:=fun m hm _=>(have:m=0:=(by omega);this▸oD.refl _)}
 obtain⟨s,κ,α⟩:=ι.advance d l.bn hB _ _ rfl;have D:Region.schedule (P.follows .mixedOrders) ops t=Region.linearise.go .any ops ops.size t (Array.replicate ops.size false) []:=by
  unfold Region.schedule;rw[aJ7 J];rfl
 have T:xI all [] (Region.schedule (P.follows .mixedOrders) ops t):=by
  rw[D,<-u];refine Ch (by rw[u];exact fit.dir) ops.size t _ [] (by simp) (fun i l=>by simp[l]) ?_;grind
 obtain⟨D',ρ',w',a',M,δ,N,θ⟩:=Lj C hR u d l.bn hB l hg (b:=b) (cs:=cs) (k:=k) _ [] s ρ w a T α κ;have y:=M.D3;rw[G] at y;have ε:=M.nx;rw[G] at ε;refine⟨ρ',w',a',y.D3 (by omega),?_,N,θ⟩;have O:e=yY all V (E 0) D':=by
  rw[<-Y,d.aEj _ (Nat.le_refl _)];refine List.ext_getElem? fun t=>Oi (fun i j g x=>fit.pF i j t g x) fun j hj=>?_;have S:j<all.length:=by
   cases hp:all[j]? with
   |none=>rw[hp] at hj;cases hj
   |some p=>grind
  simp[S,δ j S]
 rw[O];exact M.env;cases c;cases c;cases c
theorem gu (C:Ctx P B K) (n:Nat):Ck C (run P K n):=Lh C (aAh C) n
end
end Go.Ab
section
namespace Go.Ab
variable {P:Program} {K:FuncId->List Value->Option jI}
def jE.le (R a:jE):Prop:=∀t h r,R t h=some r->a t h=some r
theorem xO {R d:jE} (e:R.le d) {ev:Operand->Value} {h:AH} {op:Op} {r:Value×AH} (a:heavyStep P R ev h op=some r):heavyStep P d ev h op=some r:=by
 unfold heavyStep at a ⊢;split;exact a;exact a;simp only at a ⊢;split;grind;rename_i g;simp only[g] at a;split;rename_i b;simp only[b] at a;split;rename_i f;rw[aJ7 f] at a;simp only[Option.map_eq_some_iff] at a ⊢;obtain⟨x,c,rfl⟩:=a;exact⟨x,e _ _ _ c,rfl⟩;grind;rename_i b;simp only[b] at a;simp only[Option.map_eq_some_iff] at a ⊢;obtain⟨x,c,rfl⟩:=a;exact⟨x,e _ _ _ c,rfl⟩;grind;grind;grind
theorem Pp {R b:jE} (c:R.le b) {env:List Value} {h:AH} {op:Op} {r:Value×AH} (a:opStep P R env h op=some r):opStep P b env h op=some r:=by
 unfold opStep at a ⊢;cases hk:kindOf op<;>simp only[hk] at a ⊢;exact a;exact a;exact xO c a;exact xO c a;exact a
theorem H3 {R d:jE} (g:R.le d) {all:List Oper} {e i:Nat} {env:List Value} {h:AH} {o:Oper} {r:Value×AH} (a:drawStep P R all e i env h o=some r):drawStep P d all e i env h o=some r:=by
 unfold drawStep at a ⊢;cases hw:aWanted ⟨all⟩ env o with
 |none=>grind
 |some b=>
  rw[hw] at a;cases b with
  |false=>exact a
  |true=>
   simp only at a ⊢;split;grind;rename_i f;rw[aJ6 f] at a;split;grind;rename_i c;rw[aJ6 c] at a;exact xO g a
theorem Am {R b:jE} (c:R.le b) {all:List Oper} {d:Nat}:∀(os:List Oper) {i:Nat} {env:List Value} {h:AH} {r:List Rec×List Value×AH},drawText P R all d i os env h=some r->drawText P b all d i os env h=some r
 |[],_,_,_,_,a=>a
 |o::os,i,env,h,r,a=>by
  simp only[drawText] at a ⊢;split at a;rename_i v j f;rw[H3 c f];simp only;split at a;rename_i l e g;rw[Am c os g];exact a;cases a;cases a
theorem L0 {R b:jE} (d:R.le b) {ops:Array Oper} {env:List Value} {h:AH} {r:List Value×AH} (a:uW P R ops env h=some r):uW P b ops env h=some r:=by
 unfold uW at a ⊢;split;rename_i c;rw[aJ7 c] at a;split at a;rename_i e;rw[Am d _ e];exact a;cases a;grind
theorem gx {R d:jE} (c:R.le d) {all:Array Oper} {rest:List Oper} {env:List Value} {h:AH} {r:Out×AH} (a:vH P R all rest env h=some r):vH P d all rest env h=some r:=by
 unfold vH at a ⊢;cases rest with
 |nil=>exact a
 |cons o rest=>
  simp only at a ⊢;cases hw:aWanted all env o with
  |none=>grind
  |some b=>
   rw[hw] at a;cases b with
   |false=>exact c _ _ _ a
   |true=>
    simp only at a ⊢;split at a;rename_i v f e;rw[Pp c e];exact c _ _ _ a;cases a
theorem Wv {R d:jE} (e:R.le d) {f:FuncId} {args:List Value} {h:AH} {r:Out×AH} (a:runCall P K R f args h=some r):runCall P K d f args h=some r:=by
 unfold runCall at a ⊢;split;grind;rename_i b;rw[b] at a;simp only at a;split at a;rename_i c;rw[e _ _ _ c];exact a;cases a;grind;rename_i b;rw[b] at a;simp only at a;split at a;split at a;split at a;rename_i c;rw[e _ _ _ c];exact a;cases a;cases a;cases a
theorem Ue {R b:jE} (d:R.le b) {l:Nat} {args:List Value} {h:AH} {r:Out×AH} (a:runRound R l args h=some r):runRound b l args h=some r:=by
 unfold runRound at a ⊢;split at a;split at a;rename_i c;rw[aJ7 c];split at a;rename_i e;rw[d _ _ _ e];exact a;cases a;cases a;cases a
theorem Ww {R j:jE} (b:R.le j) {fn:FuncId} {ro:Option Nat} {ds:List Nat} {env:List Value} {k:List Item} {h:AH} {r:Out×AH} (a:runTodo P R fn ro ds env k h=some r):runTodo P j fn ro ds env k h=some r:=by
 unfold runTodo at a ⊢;split at a;exact a;rename_i c k;split at a;exact b _ _ _ a;exact b _ _ _ a;exact b _ _ _ a;split at a;exact b _ _ _ a;cases a;exact b _ _ _ a;exact b _ _ _ a;exact b _ _ _ a;split at a;exact b _ _ _ a;exact a;exact a;split at a;rename_i i;rw[b _ _ _ i];exact b _ _ _ a;cases a;split at a;rename_i i;rw[L0 b i];exact b _ _ _ a;cases a;split at a;rename_i d o l n;split at a;rename_i g first e p
 split at a;rename_i f;rw[aJ7 f];split at a;rename_i i;rw[b _ _ _ i];simp only;split at a;split at a;cases a;rename_i m;rw[aJ6 m];split at a;exact b _ _ _ a;cases a;cases a;cases a;cases a;cases a;cases a;cases a;exact b _ _ _ a;exact b _ _ _ a;exact b _ _ _ a;split at a;split at a;split at a;exact b _ _ _ a;cases a;cases a;cases a;cases a
theorem q7:∀n,(run P K n).le (run P K (n+1))
 |0,t,h,r,a=>by simp[run] at a
 |n+1,t,h,r,a=>by
  have c:=q7 n;cases t with
  |todo fn ro ds env k=>exact Ww c a
  |ops all rest env=>exact gx c a
  |call f b=>exact Wv c a
  |round l b=>exact Ue c a
theorem kO {n m:Nat} (h:n<=m):(run P K n).le (run P K m):=by
 induction h with
 |refl=>exact fun _ _ _ h=>h
 |step _ b=>exact fun t g r a=>q7 _ _ _ _ (b t g r a)
end Go.Ab
end
section
namespace Go.Ab
noncomputable section
variable {P:Program} {K:FuncId->List Value->Option jI}
def Nl (k:Nat) (a b:Value):Option Bool:=match k,a,b with
 |0,.int k m,.int c n=>if k=c then some (m==n) else none
 |1,.bool m,.bool n=>some (m==n)
 |2,.string m,.string n=>some (m==n)
 |_,_,_=>none
def oM:List Nat->List Value->List Value->Option Bool
 |[],[],[]=>some true
 |k::c,x::d,y::e=>match Nl k x y,oM c d e with
  |some a,some b=>some (a&&b)
  |_,_=>none
 |_,_,_=>none
def Ks (P:Program) (c:TypeId->Option (List Nat)):Nat->List Field->Option (List Nat)
 |_,[]=>some []
 |o,f::d=>if f.name="_"\/f.offset≠o then none else
  match c f.type,Ks P c (o+P.cellsOf f.type) d with
  |some a,some b=>if a.length=P.cellsOf f.type then some (a++b) else none
  |_,_=>none
def Ou (P:Program):Nat->TypeId->Option (List Nat)
 |0,_=>none
 |d+1,t=>match P.underlying t with
  |some .bool=>some [1]
  |some (.int _)=>some [0]
  |some .string=>some [2]
  |some (.array n e)=>if(P.info? e).isSome then
    (match Ou P d e with
    |some l=>if l.length=P.cellsOf e then some (List.replicate n l).flatten else none
    |none=>none) else none
  |some (.struct a)=>if P.stoodInHeld t then none else Ks P (Ou P d) 0 a.toList
  |_=>none
theorem qZ:∀{c:List Nat} {a b:List Value} {r:Bool},oM c a b=some r->a.length=c.length/\b.length=c.length
 |[],[],[],_,_=>⟨rfl,rfl⟩
 |[],[],_::_,_,h=>by simp[oM] at h
 |[],_::_,_,_,h=>by simp[oM] at h
 |_::_,[],_,_,h=>by simp[oM] at h
 |_::_,_::_,[],_,h=>by simp[oM] at h
 |k::c,x::e,y::f,r,h=>by
  simp only[oM] at h;split at h;rename_i d;have:=qZ d;simp[this];cases h
theorem Dx:∀{c d:List Nat} {a b:List Value} {r:Bool},oM (c++d) a b=some r->∃e f,oM c (a.take c.length) (b.take c.length)=some e/\oM d (a.drop c.length) (b.drop c.length)=some f/\r=(e&&f)
 |[],d,a,b,r,h=>⟨true,r,by simp[oM],by simpa using h,by simp⟩
 |k::g,d,[],_,r,h=>by simp[oM] at h
 |k::g,d,_::_,[],r,h=>by simp[oM] at h
 |k::g,d,x::n,y::o,r,h=>by
  simp only[List.cons_append,oM] at h;split at h;rename_i e f i j;cases h;obtain⟨s1,s2,l,m,rfl⟩:=Dx j;exact⟨e&&s1,s2,by simp[oM,i,l],by simpa using m,by rw[Bool.and_assoc]⟩;cases h
def valOf (P:Program) (t:TypeId) (a:List Value):Option Value:=match jH P t with
 |some true=>some (.agg ⟨a⟩)
 |some false=>a[0]?
 |none=>none
theorem Bh {t:TypeId} {xs a:List Value} {b:Nat} {v:Value} (e:(xs.drop b).take (P.cellsOf t)=a) (f:a.length=P.cellsOf t) (d:0<P.cellsOf t\/b<=xs.length) (c:valOf P t a=some v):apart P t xs b=some v:=by
 unfold valOf at c;unfold apart;grind
theorem Px {eq:TypeId->Value->Value->Option Bool} {j:TypeId->Option (List Nat)}
  (n:∀t d a b r,j t=some d->d.length=P.cellsOf t->oM d a b=some r->∃x y,valOf P t a=some x/\valOf P t b=some y/\eq t x y=some r)
  {xs ys:List Value}:∀(fs:List Field) (o:Nat) (d:List Nat) (r:Bool),o<=xs.length->o<=ys.length->Ks P j o fs=some d->oM d (xs.drop o) (ys.drop o)=some r->mG P eq xs ys fs=some r
 |[],o,d,r,_,_,c,e=>by
  simp only[Ks,Option.some.injEq] at c;subst c;have:=qZ e;have u:xs.drop o=[]:=List.eq_nil_of_length_eq_zero this.1;have v:ys.drop o=[]:=List.eq_nil_of_length_eq_zero this.2;rw[u,v] at e;simpa [oM,mG] using e
 |f::fs,o,d,r,C,D,c,e=>by
  simp only[Ks] at c;split at c;cases c;rename_i i;simp only[not_or,Decidable.not_not,ne_eq] at i;split at c;rename_i a b w z;split at c;rename_i g;cases c;obtain⟨H,G,l,m,rfl⟩:=Dx e;obtain⟨x,y,E,F,A⟩:=n _ _ _ _ _ w g l;have p:=qZ l;have lc:=qZ e;simp only[List.length_drop,List.length_append] at lc;have q:apart P f.type xs f.offset=some x:=Bh (by rw[i.2,<-g]) (by rw[p.1,g]) (.inr (by omega)) E;have s:apart P f.type ys f.offset=some y:=Bh (by rw[i.2,<-g]) (by rw[p.2,g]) (.inr (by omega)) F;simp only[mG];rw[aJ6 i.1,q,s];simp only[A];rw[List.drop_drop,List.drop_drop] at m;have:=Px (xs:=xs) (ys:=ys) n fs (o+P.cellsOf f.type) b G (by omega) (by omega) z (by rw[<-g];exact m);grind;cases c;cases c
theorem Tb {eq:TypeId->Value->Value->Option Bool} {e:TypeId} {l:List Nat}
  (i:∀a b r,oM l a b=some r->∃x y,valOf P e a=some x/\valOf P e b=some y/\eq e x y=some r) (d:l.length=P.cellsOf e)
  {xs ys:List Value}:∀(n j:Nat) (r:Bool),j*P.cellsOf e<=xs.length->j*P.cellsOf e<=ys.length->oM (List.replicate n l).flatten (xs.drop (j*P.cellsOf e)) (ys.drop (j*P.cellsOf e))=some r->rD P eq e xs ys (List.range' j n)=some r
 |0,j,r,_,_,c=>by
  have:=qZ c;simp only[List.replicate_zero,List.flatten_nil,List.length_nil] at this;have f:xs.drop (j*P.cellsOf e)=[]:=List.eq_nil_of_length_eq_zero this.1;have q:ys.drop (j*P.cellsOf e)=[]:=List.eq_nil_of_length_eq_zero this.2;rw[f,q] at c;simpa [oM,rD] using c
 |n+1,j,r,v,z,c=>by
  rw[List.replicate_succ,List.flatten_cons] at c;obtain⟨C,A,g,s,rfl⟩:=Dx c;obtain⟨x,y,u,w,t⟩:=i _ _ _ g;have m:=qZ g;have lc:=qZ c;simp only[List.length_drop,List.length_append] at lc;have o:apart P e xs (j*P.cellsOf e)=some x:=Bh (by rw[<-d]) (by rw[m.1,d]) (.inr (by omega)) u;have p:apart P e ys (j*P.cellsOf e)=some y:=Bh (by rw[<-d]) (by rw[m.2,d]) (.inr (by omega)) w;simp only[List.range'_succ,rD,o,p,t];rw[List.drop_drop,List.drop_drop] at s;have f:(j+1)*P.cellsOf e=j*P.cellsOf e+P.cellsOf e:=Nat.succ_mul _ _;have:=Tb (xs:=xs) (ys:=ys) i d n (j+1) A (by omega) (by omega) (by grind);grind
theorem aA0 (d:Nat):∀(t:TypeId) (i:List Nat) (a b:List Value) (r:Bool),Ou P d t=some i->i.length=P.cellsOf t->oM i a b=some r->
  ∃x y,valOf P t a=some x/\valOf P t b=some y/\yZ P d t x y=some r:=by
 induction d with
 |zero=>intro t i a b r h;simp[Ou] at h
 |succ d p=>
  intro t i a b r h o j
  have one:∀k,i=[k]->∃x y,a=[x]/\b=[y]/\Nl k x y=some r:=fun k o=>by
   subst o;have:=qZ j;match a,b,this with
   |[x],[y],_=>
    refine⟨x,y,rfl,rfl,?_⟩;simp only[oM] at j;grind
  unfold Ou at h
  split at h
  .rename_i c;obtain⟨x,y,rfl,rfl,f⟩:=one 1 (by simpa using h.symm);refine⟨x,y,by simp[valOf,jH,c],by simp[valOf,jH,c],?_⟩;unfold Nl at f;split at f
   .rename_i g;cases g
   .cases f;unfold yZ;simp[c]
   .rename_i g;cases g
   .cases f
  .rename_i k c;obtain⟨x,y,rfl,rfl,f⟩:=one 0 (by simpa using h.symm);refine⟨x,y,by simp[valOf,jH,c],by simp[valOf,jH,c],?_⟩;unfold Nl at f;split at f
   .split at f
    .rename_i m;subst m;cases f;unfold yZ;simp[c]
    .cases f
   .rename_i g;cases g
   .rename_i g;cases g
   .cases f
  .rename_i c;obtain⟨x,y,rfl,rfl,f⟩:=one 2 (by simpa using h.symm);refine⟨x,y,by simp[valOf,jH,c],by simp[valOf,jH,c],?_⟩;unfold Nl at f;split at f
   .rename_i g;cases g
   .rename_i g;cases g
   .cases f;unfold yZ;simp[c]
   .cases f
  .rename_i n e c;split at h
   .rename_i w;split at h
    .rename_i l z;split at h
     .rename_i hle;cases h;refine⟨.agg ⟨a⟩,.agg ⟨b⟩,by simp[valOf,jH,c],by simp[valOf,jH,c],?_⟩;unfold yZ;simp only[c,w,if_true];rw[List.range_eq_range'];exact Tb (fun a b r j=>p e l a b r z hle j) hle n 0 r (by simp) (by simp) (by simpa using j)
     .cases h
    .cases h
   .cases h
  .rename_i q c;split at h
   .cases h
   .rename_i A;refine⟨.agg ⟨a⟩,.agg ⟨b⟩,by simp[valOf,jH,c],by simp[valOf,jH,c],?_⟩;unfold yZ;simp only[c,A,Bool.false_eq_true,if_false];exact Px (fun t i a b r s u v=>p t i a b r s u v) q.toList 0 i r (by simp) (by simp) h (by simpa using j)
  .cases h
def Qe (op:BinOp) (r:Bool):Option Value:=match op with
 |.eql=>some (.bool r)
 |.neq=>some (.bool !r)
 |_=>none
def vE (op:BinOp) (a b:Value):Option Value:=match a,b with
 |.int k m,.int c n=>if k=c then Nr op k m n else Jz op k m n
 |_,_=>none
def V9 (op:BinOp) (a b:Value):Option Value:=match a,b with
 |.string m,.string n=>aAe op m n
 |_,_=>none
def V4 (op:BinOp) (a b:Value):Option Value:=match a,b with
 |.bool m,.bool n=>Qe op (m==n)
 |_,_=>none
def Ro (op:BinOp) (a b:Value):Option Value:=match a,b with
 |.pointer none,.pointer b=>Qe op b.isNone
 |.pointer (some _),.pointer none=>Qe op false
 |_,_=>none
def Ps (op:BinOp) (a b:Value):Option Value:=match a,b with
 |.slice none _ _,.slice b _ _=>Qe op b.isNone
 |.slice (some _) _ _,.slice none _ _=>Qe op false
 |_,_=>none
def Vv (op:BinOp) (a b:Value):Option Value:=match a,b with
 |.nilFunc,.nilFunc=>Qe op true
 |.nilFunc,.func _ _ _=>Qe op false
 |.func _ _ _,.nilFunc=>Qe op false
 |_,_=>none
def Qm (c:Bool) (op:BinOp) (a b:Value):Option Value:=match a,b with
 |.nilIface,.nilIface=>if c then Qe op true else none
 |.nilIface,.iface _ _=>Qe op false
 |.iface _ _,.nilIface=>Qe op false
 |_,_=>none
def Jp (c:List Nat) (op:BinOp) (a b:Value):Option Value:=match a,b with
 |.agg d,.agg e=>(oM c d.toList e.toList).bind (Qe op)
 |_,_=>none
def H9 (P:Program) (t:TypeId):Option (List Nat):=match Ou P 10000 t with
 |some a=>if a.length=P.cellsOf t/\jH P t=some true/\P.eqGuardType P.depth t=false then some a else none
 |none=>none
def Vc (P:Program) (op:BinOp) (t:TypeId) (x y:Operand) (a b:Value) (q:Value->Prop) (bG:Option Value->(Value->Prop)->Prop):Prop:=
 match P.underlying t with
 |some (.int _)=>bG (vE op a b) q
 |some .string=>bG (V9 op a b) q
 |some .bool=>bG (V4 op a b) q
 |some (.pointer _)=>bG (Ro op a b) q
 |some (.slice _)=>bG (Ps op a b) q
 |some (.func _ _ _)=>bG (Vv op a b) q
 |some (.interface _)=>bG (Qm (isConst x||isConst y) op a b) q
 |some (.struct _)=>(match H9 P t with
  |some c=>bG (Jp c op a b) q
  |none=>False)
 |some (.array _ _)=>(match H9 P t with
  |some c=>bG (Jp c op a b) q
  |none=>False)
 |_=>False
theorem kX {op:BinOp} {t:TypeId} {x y:Operand} {a b v:Value} {r:Bool} (e:∀k m d n,¬(a= .int k m/\b= .int d n)) (i:∀m n,¬(a= .string m/\b= .string n)) (c:Qe op r=some v) (f:Hr P t x y a b=true) (g:yZ P 10000 t a b=some r):
  Vd P op t x y a b=some v:=by
 unfold Vd
 split
 .grind
 .grind
 .unfold Qe at c;grind
theorem lY {t:TypeId} {a b:Value} {r:Bool} (h:yZ P (9999+1) t a b=some r):yZ P 10000 t a b=some r:=h
theorem Uj {op:BinOp} {t:TypeId} {x y:Operand} {a b:Value} {q:Value->Prop} (g:Vc P op t x y a b q fun o p=>∃v,o=some v/\p v):∃v,Vd P op t x y a b=some v/\q v:=by
 unfold Vc at g;split at g;obtain⟨v,c,d⟩:=g;refine⟨v,?_,d⟩;unfold vE at c;split at c;simp only[Vd];exact c;cases c;obtain⟨v,c,d⟩:=g;refine⟨v,?_,d⟩;unfold V9 at c;split at c;simp only[Vd];exact c;cases c;rename_i e;obtain⟨v,c,d⟩:=g;refine⟨v,?_,d⟩;unfold V4 at c;split at c;exact kX (fun _ _ _ _ h=>by cases h.1) (fun _ _ h=>by cases h.1) c rfl (lY (by unfold yZ;simp[e]));cases c;rename_i e;obtain⟨v,c,d⟩:=g;refine⟨v,?_,d⟩;unfold Ro at c;split at c;exact kX (fun _ _ _ _ h=>by cases h.1) (fun _ _ h=>by cases h.1) c rfl (lY (by unfold yZ;simp[e]));exact kX (fun _ _ _ _ h=>by cases h.1) (fun _ _ h=>by cases h.1) c rfl (lY (by unfold yZ;simp[e]));cases c;rename_i e;obtain⟨v,c,d⟩:=g;refine⟨v,?_,d⟩;unfold Ps at c;split at c;exact kX (fun _ _ _ _ h=>by cases h.1) (fun _ _ h=>by cases h.1) c rfl (lY (by unfold yZ;simp[e]));exact kX (fun _ _ _ _ h=>by cases h.1) (fun _ _ h=>by cases h.1) c rfl (lY (by unfold yZ;simp[e]));cases c;rename_i e;obtain⟨v,c,d⟩:=g;refine⟨v,?_,d⟩;unfold Vv at c;split at c;exact kX (fun _ _ _ _ h=>by cases h.1) (fun _ _ h=>by cases h.1) c rfl (lY (by unfold yZ;simp[e]));exact kX (fun _ _ _ _ h=>by cases h.1) (fun _ _ h=>by cases h.1) c rfl (lY (by unfold yZ;simp[e]));exact kX (fun _ _ _ _ h=>by cases h.1) (fun _ _ h=>by cases h.1) c rfl (lY (by unfold yZ;simp[e]));cases c;rename_i e;obtain⟨v,c,d⟩:=g;refine⟨v,?_,d⟩;unfold Qm at c;split at c;split at c;rename_i i;exact kX (fun _ _ _ _ h=>by cases h.1) (fun _ _ h=>by cases h.1) c (by simpa [Hr] using i) (lY (by unfold yZ;simp[e]));cases c;exact kX (fun _ _ _ _ h=>by cases h.1) (fun _ _ h=>by cases h.1) c rfl (lY (by unfold yZ;simp[e]));exact kX (fun _ _ _ _ h=>by cases h.1) (fun _ _ h=>by cases h.1) c rfl (lY (by unfold yZ;simp[e]));cases c;all_goals
  first
   |cases g
   |split at g
    .rename_i G f;obtain⟨v,c,d⟩:=g;refine⟨v,?_,d⟩;unfold Jp at c;split at c
     .rename_i D F;simp only[Option.bind_eq_some_iff] at c;obtain⟨r,z,u⟩:=c;unfold H9 at f;split at f
      .rename_i A m;split at f
       .rename_i i;cases f;obtain⟨C,E,j,l,w⟩:=aA0 10000 t _ _ _ _ m i.1 z;simp only[valOf,i.2.1,Option.some.injEq] at j l;have n:C= .agg D:=j.symm;have s:E= .agg F:=l.symm;subst n;subst s;exact kX (fun _ _ _ _ h=>by cases h.1) (fun _ _ h=>by cases h.1) u (by simp[Hr,i.2.2]) w
       .cases f
      .cases f
     .cases c
    .cases g
end
end Go.Ab
end
section
namespace Go.Ab
noncomputable section
variable {P:Program} {K:FuncId->List Value->Option jI}
def Ok (P:Program) (K:FuncId->List Value->Option jI) (t:Task) (h:AH) (Q:Out->AH->Prop):Prop:=∃n r,run P K n t h=some r/\Q r.1 r.2
def bG {α:Type} (o:Option α) (p:α->Prop):Prop:=∃v,o=some v/\p v
def Br (v:Value) (p q:Prop):Prop:=∃b,v= .bool b/\(b=true->p)/\(b=false->q)
theorem Ok.mono {t:Task} {h:AH} {Q a:Out->AH->Prop} (k:Ok P K t h Q) (e:∀o b,Q o b->a o b):Ok P K t h a:=
 let⟨n,r,c,d⟩:=k;⟨n,r,c,e _ _ d⟩
theorem Ok.of {t:Task} {h:AH} {Q:Out->AH->Prop} {n:Nat} {o:Out} {h':AH} (b:run P K n t h=some (o,h')) (a:Q o h'):Ok P K t h Q:=⟨n,(o,h'),b,a⟩
@[simp] theorem aFk {α:Type} {v:α} {p:α->Prop}:bG (some v) p↔p v:=⟨fun⟨_,h,k⟩=>by cases h;exact k,fun k=>⟨v,rfl,k⟩⟩
@[simp] theorem aGl {α:Type} {p:α->Prop}:bG none p↔False:=⟨fun⟨_,h,_⟩=>(nomatch h),False.elim⟩
@[congr] theorem aEv {α:Type} {o o':Option α} {p:α->Prop} (h:o=o'):bG o p↔bG o' p:=by rw[h]
theorem bG.mono {α:Type} {o:Option α} {p c:α->Prop} (h:bG o p) (k:∀v,p v->c v):bG o c:=let⟨v,a,b⟩:=h;⟨v,a,k v b⟩
@[simp] theorem za {p q:Prop}:Br (.bool true) p q↔p:=⟨fun⟨b,h,k,_⟩=>by cases h;exact k rfl,fun k=>⟨true,rfl,fun _=>k,by simp⟩⟩
@[simp] theorem pz {p q:Prop}:Br (.bool false) p q↔q:=⟨fun⟨b,h,_,k⟩=>by cases h;exact k rfl,fun k=>⟨false,rfl,by simp,fun _=>k⟩⟩
theorem Sv {b:Bool} {p q:Prop} (a:b=true->p) (c:b=false->q):Br (.bool b) p q:=⟨b,rfl,a,c⟩
@[congr] theorem aF5 {v v':Value} {p q:Prop} (h:v=v'):Br v p q↔Br v' p q:=by rw[h]
def tX (c a b:Value):Option Value:=match c with
 |.bool t=>some (if t then a else b)
 |_=>none
def pK (h:AH) (p:Value):Option Value:=match p with
 |.pointer (some a)=>if a.spot.isSome then none else
  (match h.get a.block with
  |some (.cells c _ _ _)=>c[a.off]?
  |_=>none)
 |_=>none
def sD (h:AH) (n:Nat) (p:Value):Option Value:=match p with
 |.pointer (some a)=>(cU h a n).map fun l=> .agg ⟨l⟩
 |_=>none
def mT (p:Value):Option Value:=match p with
 |.pointer (some a)=>some (.pointer (some a))
 |.func (.func f) a b=>some (.func (.func f) a b)
 |.func (.yield f) a b=>some (.func (.yield f) a b)
 |_=>none
def Vm (op:UnOp) (x:Value):Option Value:=match op,x with
 |.neg,.int k n=>some (.int k (k.wrap (0 - n)))
 |.not,.bool b=>some (.bool !b)
 |_,_=>none
def oA (k:IntKind) (x:Value):Option Value:=match x with
 |.int _ n=>some (.int k (k.wrap n))
 |_=>none
def rY (x:Value):Option Value:=match x with
 |.string z=>some (.string z)
 |_=>none
def gX (n:Nat) (p:Value):Option Value:=match p with
 |.pointer (some a)=>some (.pointer (some (a.add n)))
 |_=>none
def rG (a:Nat) (x:Value):Option Value:=match x with
 |.agg b=>b.toList[a]?
 |_=>none
def pJ (a n:Nat) (x:Value):Option Value:=match x with
 |.agg b=>if a+n<=b.toList.length then some (.agg ⟨(b.toList.drop a).take n⟩) else none
 |_=>none
def oL (n b:Nat) (x i:Value):Option Value:=match x,i with
 |.pointer (some a),.int _ i=>if 0<=i/\i<n then some (.pointer (some (a.add (i.toNat*b)))) else none
 |_,_=>none
def lB (b:Nat) (x i:Value):Option Value:=match x,i with
 |.slice (some a) n _,.int _ i=>if 0<=i/\i<n/\a.spot=none then some (.pointer (some (a.add (i.toNat*b)))) else none
 |_,_=>none
def Nc (n b:Nat) (x i:Value):Option Value:=match x,i with
 |.agg a,.int _ i=>if 0<=i/\i<n then a.toList[i.toNat*b]? else none
 |_,_=>none
def Sp (n a:Nat) (x i:Value):Option Value:=match x,i with
 |.agg b,.int _ i=>if 0<=i/\i<n/\i.toNat*a+a<=b.toList.length then some (.agg ⟨(b.toList.drop (i.toNat*a)).take a⟩) else none
 |_,_=>none
def V2 (x i:Value):Option Value:=match x,i with
 |.string s,.int _ i=>if 0<=i then(s[i.toNat]?).map fun b=> .int .u8 b.toNat else none
 |_,_=>none
def rA (i:Nat) (t:Value):Option Value:=match t with
 |.tuple a=>a.toList[i]?
 |_=>none
def tZ (h:AH) (n:Nat) (p v:Value):Option AH:=match p with
 |.pointer (some a)=>(match iX v with
  |some b=>if b.length=n then eA h a b else none
  |none=>none)
 |_=>none
def lG (e:TypeId) (v:Value):Option nI:=(iX v).map fun l=> .cells l e (0,0) true
def Hn (bytes:Nat) (l c:Value):Option (Nat×Nat):=match l,c with
 |.int _ l,.int _ c=>if 0<=l/\l<=c/\c<=2^40/\bytes*c<=2^47 then some (l.toNat,c.toNat) else none
 |_,_=>none
def oN (cells:List Value):List (Nat×Nat×Value)->Option (List Value)
 |[]=>some cells
 |(a,size,v)::rest=>match iX v with
  |some b=>if b.length=size/\a+b.length<=cells.length then oN (cC cells a b) rest else none
  |none=>none
def xX (place:Nat->Option (Nat×Nat)) (ev:Operand->Value):List (Nat×Operand)->Option (List (Nat×Nat×Value))
 |[]=>some []
 |(i,x)::rest=>match place i,xX place ev rest with
  |some (a,size),some l=>some ((a,size,ev x)::l)
  |_,_=>none
theorem Eb {place:Nat->Option (Nat×Nat)} {ev:Operand->Value}:∀{a:List (Nat×Operand)} {l:List (Nat×Nat×Value)} {cells:List Value},xX place ev a=some l->Fl place cells (a.map fun p=>(p.1,ev p.2))=oN cells l
 |[],l,cells,h=>by simp only[xX,Option.some.injEq] at h;subst h;rfl
 |(i,x)::rest,l,cells,h=>by
  simp only[xX] at h;split at h;rename_i d size e b c;cases h;simp only[List.map_cons,Fl,oN,b];cases hc:iX (ev x) with
  |none=>rfl
  |some f=>
   simp only;split;exact Eb c;rfl
  cases h
def xK (g:Nat) (h:AH) (x:Value) (f e d:Option Value):Option Value:=match x with
 |.slice none len b=>
  match lI d b b with
  |some m=>match(if e.isNone&&d.isSome then none else lI e len m) with
   |some c=>match lI f 0 c with
    |some l=>some (.slice none (c - l) (m - l))
    |none=>none
   |none=>none
  |none=>none
 |.slice (some a) len b=>
  match lI d b b with
  |some m=>match(if e.isNone&&d.isSome then none else lI e len m) with
   |some c=>match lI f 0 c with
    |some l=>
     if a.spot.isSome then(if len=0/\b=0 then some (if d.isSome then tF else aCy) else none) else
     if c<=m then
      (if m=l then
       if d.isSome then some tF else
       match qK h a.block with
       |some true=>some tF
       |some false=>some (Ar (a.add (l*g)))
       |none=>none
      else some (.slice (some (a.add (l*g))) (c - l) (m - l)))
     else none
    |none=>none
   |none=>none
  |none=>none
 |_=>none
def V7 (n f:Nat) (x:Value) (e c d:Option Value):Option Value:=match x with
 |.pointer (some a)=>
  match lI d n n with
  |some m=>match(if c.isNone&&d.isSome then none else lI c n m) with
   |some b=>match lI e 0 b with
    |some l=>if a.spot=none then some (.slice (some (if m=l then a else a.add (l*f))) (b - l) (m - l)) else none
    |none=>none
   |none=>none
  |none=>none
 |_=>none
def V8 (x:Value) (c b:Option Value):Option Value:=match x with
 |.string s=>
  match lI b s.size s.size with
  |some a=>match lI c 0 a with
   |some l=>some (.string (s.extract l a))
   |none=>none
  |none=>none
 |_=>none
def yO (P:Program) (K:FuncId->List Value->Option jI) (f:Value) (args:List Value) (h:AH) (Q:Value->AH->Prop):Prop:=match f with
 |.func (.func g) first a=>callable P g=true/\Ok P K (.call g (first.toList++args++a.toList)) h fun o b=>Q o.v b
 |.func (.yield l) first _=>Ok P K (.round l (first.toList++args)) h fun o b=>Q o.v b
 |_=>False
def lkV (z:Value) (h:AH) (x ix:Value) (ok:Bool):Option Value:=match Yi h x,ix with
 |some a,.int k n=>match wV k n a 0 with
  |some (some (_,v))=>some (if ok then .tuple ⟨[v,.bool true]⟩ else v)
  |some none=>some (if ok then .tuple ⟨[z,.bool false]⟩ else z)
  |none=>none
 |_,_=>none
def jL (P:Program) (ev:Operand->Value) (h:AH) (q:Value->Prop):Op->Prop
 |.move x=>q (ev x)
 |.assign x=>q (ev x)
 |.pick c a b=>bG (tX (ev c) (ev a) (ev b)) q
 |.build t j=>match zeroOf P t with
  |some z=>(match P.underlying t with
   |some (.struct m)=>if m.all (fun f=>(P.info? f.type).isSome) then(match xX (fun i=>(m[i]?).map fun f=>(f.offset,P.cellsOf f.type)) ev j.toList with
    |some l=>bG (oN z l) fun c=>q (.agg ⟨c⟩)
    |none=>False) else False
   |some (.array _ e)=>if(P.info? e).isSome then(match xX (fun i=>some (i*P.cellsOf e,P.cellsOf e)) ev j.toList with
    |some l=>bG (oN z l) fun c=>q (.agg ⟨c⟩)
    |none=>False) else False
   |_=>False)
  |none=>False
 |.load t a=>match jH P t with
  |some true=>bG (sD h (P.cellsOf t) (ev a)) q
  |some false=>bG (pK h (ev a)) q
  |none=>False
 |.nilCheck x=>bG (mT (ev x)) q
 |.binOp op t x y _=>Vc P op t x y (ev x) (ev y) q bG
 |.unOp op _ x=>bG (Vm op (ev x)) q
 |.convert s d x=>match P.underlying s with
  |some .string=>(match P.underlying d with
   |some (.int k)=>bG (oA k (ev x)) q
   |some .string=>bG (rY (ev x)) q
   |_=>False)
  |some (.slice e)=>(match P.underlying d with
   |some .string=>(match P.underlying e with
    |some (.int .u8)=>bG (strOf h (ev x)) q
    |_=>False)
   |_=>False)
  |some _=>(match P.underlying d with
   |some (.int k)=>bG (oA k (ev x)) q
   |_=>False)
  |none=>False
 |.makeInterface t x=>match P.underlying t with
  |some (.interface _)=>False
  |some _=>q (.iface t (ev x))
  |none=>False
 |.makeFunc fn first g=>match fn with
  |.func f=>q (.func (.func f) (first.map ev) (g.map ev))
  |_=>False
 |.slice t x p o r=>match P.underlying t with
  |some (.slice e)=>if(P.info? e).isSome then bG (xK (P.cellsOf e) h (ev x) (p.map ev) (o.map ev) (r.map ev)) q else False
  |some (.array n e)=>if(P.info? e).isSome then bG (V7 n (P.cellsOf e) (ev x) (p.map ev) (o.map ev) (r.map ev)) q else False
  |some .string=>(match r with
   |none=>bG (V8 (ev x) (p.map ev) (o.map ev)) q
   |some _=>False)
  |_=>False
 |.fieldAddr s x f=>match P.underlying s with
  |some (.struct m)=>(match m[f]? with
   |some fd=>if P.cellsOf fd.type=0 then False else bG (gX fd.offset (ev x)) q
   |none=>False)
  |_=>False
 |.field t x f=>match P.underlying t with
  |some (.struct m)=>(match m[f]? with
   |some fd=>(match jH P fd.type with
    |some true=>bG (pJ fd.offset (P.cellsOf fd.type) (ev x)) q
    |some false=>bG (rG fd.offset (ev x)) q
    |none=>False)
   |none=>False)
  |_=>False
 |.indexAddr t x i=>match P.underlying t with
  |some (.array n e)=>if(P.info? e).isSome then bG (oL n (P.cellsOf e) (ev x) (ev i)) q else False
  |some (.slice e)=>if(P.info? e).isSome then bG (lB (P.cellsOf e) (ev x) (ev i)) q else False
  |_=>False
 |.index t x i=>match P.underlying t with
  |some (.array n e)=>if(P.info? e).isSome then(match jH P e with
   |some true=>bG (Sp n (P.cellsOf e) (ev x) (ev i)) q
   |some false=>bG (Nc n (P.cellsOf e) (ev x) (ev i)) q
   |none=>False) else False
  |some .string=>bG (V2 (ev x) (ev i)) q
  |_=>False
 |.extract t i=>bG (rA i (ev t)) q
 |.lookup t x ix ok=>match G4 P t with
  |some e=>(match zeroV P e with
   |some z=>bG (lkV z h (ev x) (ev ix) ok) q
   |none=>False)
  |none=>False
 |_=>False
theorem B9 {ev:Operand->Value} {h:AH} {q:Value->Prop} {op:Op} (b:jL P ev h q op):kindOf op= .zW/\∃v,bY P ev h op=some v/\q v:=by
 unfold jL at b;split at b;exact⟨rfl,_,rfl,b⟩;exact⟨rfl,_,rfl,b⟩;obtain⟨v,a,f⟩:=b;exact⟨rfl,v,a,f⟩;refine⟨rfl,?_⟩;split at b;rename_i z F;split at b;rename_i G r;split at b;rename_i o;split at b;rename_i l E;obtain⟨c,a,f⟩:=b;refine⟨_,?_,f⟩;simp only[bY,Lp,F,r,o,if_true];rw[Eb E,a];rfl;cases b;cases b;rename_i e r;split at b;rename_i o;split at b;rename_i l E;obtain⟨c,a,f⟩:=b;refine⟨_,?_,f⟩;simp only[bY,Lp,F,r,o,if_true];rw[Eb E,a];rfl;cases b;cases b;cases b;cases b;refine⟨rfl,?_⟩;split at b;rename_i n;obtain⟨v,a,f⟩:=b;refine⟨v,?_,f⟩;unfold sD at a;simp only[bY];split at a;rename_i g;rw[g];simp only[vZ,n];exact a;cases a;rename_i n;obtain⟨v,a,f⟩:=b;refine⟨v,?_,f⟩;unfold pK at a;simp only[bY];split at a;rename_i g;rw[g];simp only[vZ,n];exact a;cases a;cases b;obtain⟨v,a,f⟩:=b;exact⟨rfl,v,a,f⟩;obtain⟨v,a,f⟩:=Uj b;exact⟨rfl,v,a,f⟩;obtain⟨v,a,f⟩:=b;exact⟨rfl,v,a,f⟩;refine⟨rfl,?_⟩;split at b;rename_i i;split at b;rename_i s;obtain⟨v,a,f⟩:=b;refine⟨v,?_,f⟩;unfold oA at a;split at a;rename_i g;simp only[bY,i,s,g];exact a;cases a;rename_i s;obtain⟨v,a,f⟩:=b;refine⟨v,?_,f⟩;unfold rY at a;split at a;rename_i g;simp only[bY,i,s,g];exact a;cases a;cases b;rename_i i;split at b;rename_i s;split at b;rename_i g;obtain⟨v,a,f⟩:=b;refine⟨v,?_,f⟩;simp only[bY,i,s,g];exact a;cases b;cases b;rename_i i;split at b;rename_i s;obtain⟨v,a,f⟩:=b;refine⟨v,?_,f⟩;unfold oA at a;split at a;rename_i g;simp only[bY,i,s,g];exact a;cases a;cases b;cases b;refine⟨rfl,?_⟩;split at b;cases b;rename_i t x d H i;refine⟨_,?_,b⟩;simp only[bY];grind;cases b;split at b;exact⟨rfl,_,rfl,b⟩;cases b;refine⟨rfl,?_⟩;split at b;rename_i r;split at b;rename_i y;obtain⟨v,a,f⟩:=b;refine⟨v,?_,f⟩;unfold xK at a;split at a;rename_i u;simp only[bY,u,uY,r,y,if_true];exact a;rename_i u;simp only[bY,u,uY,r,y,true_and];exact a;cases a;cases b;rename_i r;split at b;rename_i y;obtain⟨v,a,f⟩:=b;refine⟨v,?_,f⟩;unfold V7 at a;split at a;rename_i u;simp only[bY,u,uY,r,y,true_and];exact a;cases a;cases b;rename_i r;split at b;obtain⟨v,a,f⟩:=b;refine⟨v,?_,f⟩;unfold V8 at a;split at a;rename_i u;simp only[bY,u,uY,r,Option.map_none,Option.isSome_none,Bool.false_eq_true,if_false];exact a;cases a;cases b;cases b;refine⟨rfl,?_⟩;split at b;rename_i i;split at b;rename_i w;split at b;cases b;rename_i p;obtain⟨v,a,f⟩:=b;refine⟨v,?_,f⟩;unfold gX at a;split at a;rename_i g;simp only[bY,i,g,w,p,if_false];exact a;cases a;cases b;cases b;refine⟨rfl,?_⟩;split at b;rename_i i;split at b;rename_i w;split at b;rename_i n;obtain⟨v,a,f⟩:=b;refine⟨v,?_,f⟩;unfold pJ at a;split at a;rename_i g;simp only[bY,i,g,w,apart,n];exact a;cases a;rename_i n;obtain⟨v,a,f⟩:=b;refine⟨v,?_,f⟩;unfold rG at a;split at a;rename_i g;simp only[bY,i,g,w,apart,n];exact a;cases a;cases b;cases b;cases b;refine⟨rfl,?_⟩;split at b;rename_i i;split at b;rename_i j;obtain⟨v,a,f⟩:=b;refine⟨v,?_,f⟩;unfold oL at a;split at a;rename_i g m;split at a;rename_i p;simp only[bY,i,g,m,p,j,and_self,if_true];exact a;cases a;cases a;cases b;rename_i i;split at b;rename_i j;obtain⟨v,a,f⟩:=b;refine⟨v,?_,f⟩;unfold lB at a;split at a;rename_i g m;split at a;rename_i p;simp only[bY,i,g,m,p,j,and_self,if_true];exact a;cases a;cases a;cases b;cases b;refine⟨rfl,?_⟩;split at b;rename_i i;split at b;rename_i j;split at b;rename_i n;obtain⟨v,a,f⟩:=b;refine⟨v,?_,f⟩;unfold Sp at a;split at a;rename_i g m;split at a;rename_i p;have A:=p.1;have C:=p.2.1;have D:=p.2.2;simp only[bY,i,g,m,A,C,j,and_self,if_true,apart,n,D];exact a;cases a;cases a;rename_i n;obtain⟨v,a,f⟩:=b;refine⟨v,?_,f⟩;unfold Nc at a;split at a;rename_i g m;split at a;rename_i p;simp only[bY,i,g,m,p,j,and_self,if_true,apart,n];exact a;cases a;cases a;cases b;cases b;rename_i i;obtain⟨v,a,f⟩:=b;refine⟨v,?_,f⟩;unfold V2 at a;split at a;rename_i g m;simp only[bY,i,g,m];exact a;cases a;cases b;obtain⟨v,a,f⟩:=b;exact⟨rfl,v,a,f⟩;refine⟨rfl,?_⟩;split at b;rename_i e g;split at b;rename_i z F;obtain⟨v,a,f⟩:=b;refine⟨v,?_,f⟩;unfold lkV at a;simp only[bY,xR,g];grind;cases b;cases b;cases b
end
end Go.Ab
end
section
namespace Go.Ab
noncomputable section
variable {P:Program} {K:FuncId->List Value->Option jI}
def zA (x:Value):Option Value:=match x with
 |.string s=>some (.int .i64 s.size)
 |_=>none
def kU (x:Value):Option Value:=match x with
 |.slice _ n _=>some (.int .i64 n)
 |_=>none
def iv (h:AH) (x:Value):Option Value:=(Yi h x).map fun a=> .int .i64 a.length
def yU (x y:Value):Option Value:=match x,y with
 |.int k x,.int _ y=>some (.int k (if y<x then y else x))
 |_,_=>none
def Ao (x y:Value):Option Value:=match x,y with
 |.int k x,.int _ y=>some (.int k (if y>x then y else x))
 |_,_=>none
def jK (i bytes:Nat) (e:TypeId) (h:AH) (s x:Value):Option (Value×AH):=
 match s,vO x with
 |.slice f b d,some n=>
  match gP h i n x with
  |some new=>
   if !new.all eF||new.length !=n*i then none else
   if b+n<=d then
    match f with
    |none=>if n=0 then some (s,h) else none
    |some a=>if n=0 then some (s,h) else if a.spot.isSome then none else
     (eA h (a.add (b*i)) new).map fun m=>(.slice f (b+n) d,m)
   else if(b+n)*(bytes+1)<=2^46 then
    match f with
    |none=>if b=0 then some (.slice (some ⟨h.next,0,none⟩) n n,h.alloc (.cells new e (0,0) false)) else none
    |some a=>
     if a.spot=some 1 then(if b=0 then some (.slice (some ⟨h.next,0,none⟩) n n,h.alloc (.cells new e (0,0) false)) else none) else
     if a.spot=some 2 then
      (match h.get a.block with
      |some (.cells c j l _)=>
       if j=e/\h.base<=a.block/\l=(0,0)/\a.off<=c.length/\b=0/\d=0 then
        some (.slice (some ⟨h.next,0,none⟩) n n,(h.set a.block none).alloc (.cells new e (0,0) false))
       else none
      |_=>none) else
     match cU h a (b*i),h.get a.block with
     |some g,some (.cells c j l x)=>
      if !g.all eF then none else
      if x then some (.slice (some ⟨h.next,0,none⟩) (b+n) (b+n),h.alloc (.cells (g++new) e (0,0) false))
      else if j=e/\h.base<=a.block/\l=(0,0)/\a.off+d*i<=c.length then
       some (.slice (some ⟨h.next,0,none⟩) (b+n) (b+n),(h.set a.block none).alloc (.cells (g++new) e (0,0) false))
      else none
     |_,_=>none
   else none
  |_=>none
 |_,_=>none
def copyV (f:Nat) (h:AH) (d x:Value):Option (Value×AH):=
 match d,vO x with
 |.slice c b _,some m=>
   match gP h f (Nat.min m b) x with
   |some new=>match c with
    |none=>some (.int .i64 (Nat.min m b:Nat),h)
    |some a=>if Nat.min m b=0 then some (.int .i64 0,h) else(eA h a new).map fun e=>(.int .i64 (Nat.min m b:Nat),e)
   |none=>none
 |_,_=>none
def iQ (z:List Value) (h:AH) (x:Value):Option (Value×AH):=
 match x with
 |.slice none _ _=>some (.tuple #[],h)
 |.slice (some a) n _=>
   if n=0 then some (.tuple #[],h) else(eA h a (eJ z n)).map fun b=>(.tuple #[],b)
 |_=>none
def Ov (h:AH) (m b v:Value):Option AH:=match m,b with
 |.map (some r),.int k n=>if r<h.base then none else match h.get r with
  |some (.map c a)=>(yl k n v c a).map fun o=>h.set r (some o)
  |_=>none
 |_,_=>none
def P0 (h:AH) (m c:Value):Option AH:=match m,c with
 |.map (some r),.int k n=>if r<h.base then none else match h.get r with
  |some (.map b a)=>match wV k n b 0 with
   |some (some (i,_))=>some (h.set r (some (.map (b.eraseIdx i) a)))
   |some none=>some (h.set r (some (.map b a)))
   |none=>none
  |_=>none
 |_,_=>none
theorem xg {h:AH} {t e:TypeId} {m a v:Value} {h':AH} (c:G4 P t=some e) (b:Ov h m a v=some h'):Ez P h t m a v=some h':=by
 unfold Ov at b;split at b;simp only[Ez,c];exact b;cases b
theorem na {h:AH} {t e:TypeId} {m a:Value} {h':AH} (c:G4 P t=some e) (b:P0 h m a=some h'):E8 P h t m a=some h':=by
 unfold P0 at b;split at b;simp only[E8,c];exact b;cases b
def vT (P:Program) (h:AH) (q:Value->AH->Prop) (a:Array TypeId):Builtin->List Value->Prop
 |.len,[x]=>match(a[0]?).bind P.underlying with
  |some .string=>bG (zA x) fun v=>q v h
  |some (.slice _)=>bG (kU x) fun v=>q v h
  |some (.array n _)=>q (.int .i64 n) h
  |some (.pointer e)=>(match P.underlying e with
   |some (.array n _)=>q (.int .i64 n) h
   |_=>False)
  |some (.map _ _)=>bG (iv h x) fun v=>q v h
  |_=>False
 |.append,[s,x]=>match(a[0]?).bind P.underlying with
  |some (.slice e)=>if I2 P a/\(zeroOf P e).isSome then bG (jK (P.cellsOf e) (P.bytesOf e) e h s x) fun r=>q r.1 r.2 else False
  |_=>False
 |.copy,[d,x]=>match(a[0]?).bind P.underlying with
  |some (.slice e)=>if(P.info? e).isSome then bG (copyV (P.cellsOf e) h d x) fun r=>q r.1 r.2 else False
  |_=>False
 |.clear,[x]=>match(a[0]?).bind P.underlying with
  |some (.slice e)=>(match zeroOf P e with
   |some z=>bG (iQ z h x) fun r=>q r.1 r.2
   |none=>False)
  |_=>False
 |.min,[x,y]=>bG (yU x y) fun v=>q v h
 |.max,[x,y]=>bG (Ao x y) fun v=>q v h
 |.delete,[m,k]=>(match a[0]? with
  |some t=>(match G4 P t with
   |some _=>bG (P0 h m k) fun b=>q (.tuple #[]) b
   |none=>False)
  |none=>False)
 |_,_=>False
theorem yN {h:AH} {q:Value->AH->Prop} {at_:Array TypeId} {b:Builtin} {args:List Value} (c:vT P h q at_ b args):∃v g,fC P h b at_ args=some (v,g)/\q v g:=by
 unfold vT at c;split at c;split at c;rename_i d;obtain⟨v,a,f⟩:=c;refine⟨v,h,?_,f⟩;unfold zA at a;split at a;simp only[fC,d];cases a;rfl;cases a;rename_i d;obtain⟨v,a,f⟩:=c;refine⟨v,h,?_,f⟩;unfold kU at a;split at a;simp only[fC,d];cases a;rfl;cases a;rename_i d;refine⟨_,h,?_,c⟩;simp only[fC,d];rename_i d;split at c;rename_i l;refine⟨_,h,?_,c⟩;simp only[fC,d,l];cases c;rename_i d;obtain⟨v,a,f⟩:=c;refine⟨v,h,?_,f⟩;unfold iv at a;cases hm:Yi h _ with
 |none=>rw[hm] at a;cases a
 |some r=>rw[hm] at a;cases a;simp only[fC,d,hm];rfl
 cases c;split at c;rename_i e d;split at c;rename_i i;obtain⟨⟨v,g⟩,a,f⟩:=c;refine⟨v,g,?_,f⟩;obtain⟨z,m⟩:=Option.isSome_iff_exists.1 i.2;unfold jK at a;split at a;rename_i j;simp only[fC,Ip,d,j,i.1,m,Bool.not_true,Bool.false_eq_true,if_false];split at a;rename_i p;rw[p];exact a;cases a;cases a;cases c;cases c;split at c;rename_i e d;split at c;rename_i i;obtain⟨⟨v,g⟩,a,f⟩:=c;refine⟨v,g,?_,f⟩;unfold copyV at a;split at a;rename_i j;have o:(P.info? e).isNone=false:=by simp_all
 simp only[fC,d,j,o,Bool.false_eq_true,if_false];exact a;cases a;cases c;cases c;split at c;rename_i e d;split at c;rename_i z m;obtain⟨⟨v,g⟩,a,f⟩:=c;refine⟨v,g,?_,f⟩;unfold iQ at a;split at a;simp only[fC,d];exact a;simp only[fC,d,m];exact a;cases a;cases c;cases c;obtain⟨v,a,f⟩:=c;refine⟨v,h,?_,f⟩;unfold yU at a;split at a;simp only[fC];cases a;rfl;cases a;obtain⟨v,a,f⟩:=c;refine⟨v,h,?_,f⟩;unfold Ao at a;split at a;simp only[fC];cases a;rfl;cases a;split at c;rename_i t d;split at c;rename_i e n;obtain⟨g,a,f⟩:=c;exact⟨_,g,by simp only[fC,d,na n a];rfl,f⟩;cases c;cases c;cases c
def Bj (P:Program) (K:FuncId->List Value->Option jI) (ev:Operand->Value) (h:AH) (q:Value->AH->Prop):Op->Prop
 |.store t a x=>if(P.info? t).isSome then bG (tZ h (P.cellsOf t) (ev a) (ev x)) fun d=>q undef d else False
 |.call c=>match c.callee with
  |.builtin b=>vT P h q c.argTypes b (c.args.toList.map ev)
  |.value (.func g)=>if callable P g then Ok P K (.call g (c.args.toList.map ev)) h fun o d=>q o.v d else False
  |.value f=>yO P K (ev f) (c.args.toList.map ev) h q
  |.invoke _ _=>False
 |.mapUpdate t m k x=>match G4 P t with
  |some _=>bG (Ov h (ev m) (ev k) (ev x)) fun d=>q undef d
  |none=>False
 |_=>False
theorem je {f:Value} {args:List Value} {h:AH} {q:Value->AH->Prop} (b:yO P K f args h q):
  ∃n v c,(match f with
   |.func (.func g) first a=>if callable P g then(run P K n (.call g (first.toList++args++a.toList)) h).map fun r=>(r.1.v,r.2) else none
   |.func (.yield l) first _=>(run P K n (.round l (first.toList++args)) h).map fun r=>(r.1.v,r.2)
   |_=>none)=some (v,c)/\q v c:=by
 unfold yO at b
 split at b
 .obtain⟨i,n,r,d,e⟩:=b;grind
 .obtain⟨n,r,d,e⟩:=b;grind
 .cases b
theorem vN {ev:Operand->Value} (p:∀g,ev (.func g)= .func (.func g) #[] #[]) {h:AH} {q:Value->AH->Prop} {op:Op} (b:Bj P K ev h q op):
  (kindOf op= .store\/kindOf op= .call)/\∃n v i,heavyStep P (run P K n) ev h op=some (v,i)/\q v i:=by
 unfold Bj at b
 split at b
 .refine⟨.inl rfl,?_⟩;split at b
  .rename_i l;obtain⟨i,d,j⟩:=b;refine⟨0,undef,i,?_,j⟩;unfold tZ at d;split at d
   .rename_i o;split at d
    .rename_i m;split at d
     .rename_i s;simp only[heavyStep,o,R7,m,s,l,and_self,if_true,d];rfl
     .cases d
    .cases d
   .cases d
  .cases b
 .rename_i c;refine⟨.inr rfl,?_⟩;split at b
  .rename_i a;obtain⟨v,i,d,j⟩:=yN b;refine⟨0,v,i,?_,j⟩;simp only[heavyStep,a,d]
  .rename_i a;split at b
   .rename_i m;obtain⟨n,r,d,j⟩:=b;refine⟨n,_,_,?_,j⟩;simp only[heavyStep,a,p,m,if_true];grind
   .cases b
  .rename_i f t a;obtain⟨n,v,i,d,j⟩:=je b;refine⟨n,v,i,?_,j⟩;simp only[heavyStep,a];exact d
  .cases b
 .refine⟨.inl rfl,?_⟩;split at b
  .rename_i e o;obtain⟨i,d,j⟩:=b;exact⟨0,undef,i,by simp only[heavyStep,xg o d];rfl,j⟩
  .cases b
 .cases b
def mz (l c i:Nat):Value:= .slice (some ⟨i,0,none⟩) l c
def aBx (i:Nat):Value:= .pointer (some ⟨i,0,none⟩)
def gH (i:Nat):Value:= .map (some i)
def Bm (P:Program) (ev:Operand->Value) (q:nI->(Nat->Value)->Prop):Op->Prop
 |.alloc e=>match zeroOf P e with
  |some z=>q (.cells z e (0,0) true) aBx
  |none=>False
 |.box e x=>bG (lG e (ev x)) fun b=>q b aBx
 |.buildSlice t len a=>match P.underlying t with
  |some (.slice e)=>(match zeroOf P e with
   |some z=>if len*P.cellsOf e<=2^24 then(match xX (fun i=>some (i*P.cellsOf e,P.cellsOf e)) ev a.toList with
    |some d=>bG (oN (eJ z len) d) fun l=>q (.cells l e (0,0) true) (mz len len)
    |none=>False) else False
   |none=>False)
  |_=>False
 |.makeSlice t l c=>match P.underlying t with
  |some (.slice e)=>(match zeroOf P e with
   |some z=>bG (Hn (P.bytesOf e) (ev l) (ev c)) fun n=>q (.cells (eJ z n.2) e (0,0) true) (mz n.1 n.2)
   |none=>False)
  |_=>False
 |.makeMap _t none=>q (.map [] 0) gH
 |.makeMap t (some x)=>match P.underlying t with
  |some (.map _ _)=>∃k n,ev x= .int k n/\q (.map [] 0) gH
  |_=>False
 |_=>False
theorem Ca {ev:Operand->Value} {q:nI->(Nat->Value)->Prop} {op:Op} (a:Bm P ev q op):kindOf op= .alloc/\∃b f,gQ P ev op=some (b,f)/\q b f:=by
 unfold Bm at a;split at a;refine⟨rfl,?_⟩;split at a;rename_i g;exact⟨_,_,by simp only[gQ,g];rfl,a⟩;cases a;refine⟨rfl,?_⟩;obtain⟨b,c,d⟩:=a;refine⟨b,aBx,?_,d⟩;unfold lG at c;simp only[Option.map_eq_some_iff] at c;obtain⟨l,c,rfl⟩:=c;simp only[gQ,c];rfl;refine⟨rfl,?_⟩;split at a;rename_i e;split at a;rename_i g;split at a;rename_i i;split at a;rename_i p j;obtain⟨l,c,d⟩:=a;refine⟨_,_,?_,d⟩;simp only[gQ,e,g,i,if_true];rw[Eb j,c];rfl;cases a;cases a;cases a;cases a;refine⟨rfl,?_⟩;split at a;rename_i e;split at a;rename_i g;obtain⟨n,c,d⟩:=a;refine⟨_,_,?_,d⟩;unfold Hn at c;split at c;rename_i m o;split at c;rename_i i;cases c;simp only[gQ,e,m,o,g,i,and_self,if_true];rfl;cases c;cases c;cases a;cases a;exact⟨rfl,_,_,rfl,a⟩;refine⟨rfl,?_⟩;split at a;rename_i e;obtain⟨k,n,c,d⟩:=a;exact⟨_,_,by simp only[gQ,e,c];rfl,d⟩;cases a;cases a
end
end Go.Ab
end
section
namespace Go.Ab
noncomputable section
variable {P:Program} {K:FuncId->List Value->Option jI}
abbrev Nn:=List (Tmp×Option Bool)
def aI4:Option Bool->Value
 |some b=> .bool b
 |none=>undef
def Nn.drop (d:Nn) (t:Option Tmp):Nn:=match t with
 |some t=>d.filter fun x=>x.1 !=t
 |none=>d
def Nn.ok (d:Nn) (env:List Value):Prop:=∀t b,(t,b)∈d->env[t]?=some (aI4 b)
def Z8 (pF:Nat->Option Tmp) (env:List Value) (dec:Nn) (g:Option (Nat×Bool)) (p:Bool->List Value->Nn->Prop):Prop:=
 match g with
 |none=>p true env dec
 |some (j,want)=>match pF j with
  |none=>False
  |some d=>match dec.lookup d with
   |some (some b)=>p (b==want) env dec
   |some none=>p false env dec
   |none=>Br (env.getD d undef) (p (true==want) (env.set d (.bool true)) ((d,some true)::dec)) (p (false==want) (env.set d (.bool false)) ((d,some false)::dec))
def Cq (h:AH) (b:nI) (p:Nat->AH->Prop):Prop:=p h.next (h.alloc b)
def mN (h:AH) (r:Nat) (b:nI) (p:Nat->AH->Prop):Prop:=p r (h.set r (some b))
def wR (h:AH) (n:Nat) (p:Nat->AH->Prop):Prop:=p h.next {h with next:=h.next+n}
def wpOp (P:Program) (K:FuncId->List Value->Option jI) (env:List Value) (h:AH) (q:Value->AH->Prop) (op:Op):Prop:=
 match kindOf op with
 |.zW=>jL P (dH P env) h (fun v=>q v h) op
 |.alloc=>Bm P (dH P env) (fun b f=>Cq h b fun i a=>q (f i) a) op
 |.store|.call=>Bj P K (dH P env) h q op
 |.other=>False
theorem Xq {env:List Value} {h:AH} {q:Value->AH->Prop} {op:Op} (a:wpOp P K env h q op):∃n v e,opStep P (run P K n) env h op=some (v,e)/\q v e:=by
 unfold wpOp at a;cases hk:kindOf op with
 |zW=>
  simp only[hk] at a;obtain⟨_,v,c,d⟩:=B9 a;exact⟨0,v,h,by simp only[opStep,hk,c];rfl,d⟩
 |alloc=>
  simp only[hk] at a;obtain⟨_,b,f,c,d⟩:=Ca a;exact⟨0,_,_,by simp only[opStep,hk,c];rfl,d⟩
 |store=>
  simp only[hk] at a;obtain⟨_,n,v,e,c,d⟩:=vN (fun g=>rfl) a;exact⟨n,v,e,by simp only[opStep,hk,c],d⟩
 |call=>
  simp only[hk] at a;obtain⟨_,n,v,e,c,d⟩:=vN (fun g=>rfl) a;exact⟨n,v,e,by simp only[opStep,hk,c],d⟩
 |other=>simp only[hk] at a
def aB5 (env:List Value) (d:Option Tmp):Bool:=match d with
 |some d=>decide (d<env.length)
 |none=>true
def wz (dec:Nn) (op:Op):Option Operand:=match op with
 |.pick (.tmp c) a b=>(match dec.lookup c with
  |some (some true)=>some a
  |some (some false)=>some b
  |_=>none)
 |.move x=>some x
 |.assign x=>some x
 |_=>none
def uh (dec:Nn) (x:Operand):Option Bool:=match x with
 |.const (.bool y)=>some y
 |.tmp t=>(match dec.lookup t with
  |some (some y)=>some y
  |_=>none)
 |_=>none
def Nn.put (dec:Nn) (dst:Option Tmp) (x:Operand):Nn:=match dst,uh dec x with
 |some d,some y=>(d,some y)::dec.drop (some d)
 |d,_=>dec.drop d
def Nn.skip (dec:Nn) (env:List Value) (dst:Option Tmp):Nn:=match dst with
 |some d=>if d<env.length then(d,none)::dec.drop (some d) else dec.drop (some d)
 |none=>dec
def wpOps (P:Program) (K:FuncId->List Value->Option jI) (pF:Nat->Option Tmp):List Oper->List Value->AH->Nn->(List Value->AH->Nn->Prop)->Prop
 |[],env,h,dec,q=>q env h dec
 |o::a,env,h,dec,q=>Z8 pF env dec o.guard fun b env dec=>
  match b with
  |true=>(match wz dec o.op with
   |some x=>wpOps P K pF a (jJ env o.dst (dH P env x)) h (if aB5 env o.dst then dec.put o.dst x else dec.drop o.dst) q
   |none=>wpOp P K env h (fun v c=>wpOps P K pF a (jJ env o.dst v) c (dec.drop o.dst) q) o.op)
  |false=>wpOps P K pF a (jJ env o.dst undef) h (dec.skip env o.dst) q
def aHc (P:Program) (h:AH) (q:Value->Prop) (a:Array TypeId):Builtin->List Value->Prop
 |.len,[x]=>match(a[0]?).bind P.underlying with
  |some .string=>bG (zA x) q
  |some (.slice _)=>bG (kU x) q
  |some (.array n _)=>q (.int .i64 n)
  |some (.pointer e)=>(match P.underlying e with
   |some (.array n _)=>q (.int .i64 n)
   |_=>False)
  |some (.map _ _)=>bG (iv h x) q
  |_=>False
 |.min,[x,y]=>bG (yU x y) q
 |.max,[x,y]=>bG (Ao x y) q
 |_,_=>False
def aGc (P:Program) (ev:Operand->Value) (h:AH) (q:Value->Prop):Op->Prop
 |.call c=>match c.callee with
  |.builtin b=>aHc P h q c.argTypes b (c.args.toList.map ev)
  |_=>False
 |op=>jL P ev h q op
structure DR where
 env:List Value
 h:AH
 v:Value
 ran:Bool
def aFl (P:Program) (K:FuncId->List Value->Option jI) (r:Nat) (env:List Value) (h:AH) (q:Value->AH->Prop) (op:Op):Prop:=
 match iN op with
 |true=>aGc P (dH P env) h (fun v=>q v h) op
 |false=>match kindOf op with
  |.alloc=>Bm P (dH P env) (fun b f=>mN h r b fun i a=>q (f i) a) op
  |_=>Bj P K (dH P env) h q op
def Iz (P:Program) (K:FuncId->List Value->Option jI) (pF:Nat->Option Tmp):Nat->List Oper->List Value->AH->Nn->List DR->(List DR->List Value->AH->Nn->Prop)->Prop
 |_,[],env,h,dec,a,q=>q a env h dec
 |r,o::c,env,h,dec,a,q=>Z8 pF env dec o.guard fun b env dec=>
  match b with
  |true=>(match wz dec o.op with
   |some x=>Iz P K pF (r+1) c (jJ env o.dst (dH P env x)) h (if aB5 env o.dst then dec.put o.dst x else dec.drop o.dst) (a++[⟨env,h,dH P env x,true⟩]) q
   |none=>aFl P K r env h (fun v d=>Iz P K pF (r+1) c (jJ env o.dst v) d (dec.drop o.dst) (a++[⟨env,h,v,true⟩]) q) o.op)
  |false=>Iz P K pF (r+1) c (jJ env o.dst undef) h (dec.skip env o.dst) (a++[⟨env,h,undef,false⟩]) q
def aCm (P:Program) (all:List Oper) (rs:List DR) (hEnd:AH):List (Nat×Nat)->Prop->Prop
 |[],p=>p
 |(i,s)::a,p=>match all[i]? with
  |some o=>(match rs[i]? with
   |some r=>(match r.ran with
    |true=>aGc P (dH P r.env) (match rs[s]? with|some q=>q.h|none=>hEnd) (fun v=>nG v r.v=true) o.op/\aCm P all rs hEnd a p
    |false=>aCm P all rs hEnd a p)
   |none=>False)
  |none=>False
def aDb (P:Program) (K:FuncId->List Value->Option jI) (ops:Array Oper) (env:List Value) (h:AH) (q:List Value->AH->Nn->Prop):Prop:=
 if Jh ops.toList&&(P.follows .mixedOrders|| !Region.departs ops) then
  wR h ops.size fun r c=>Iz P K (fun j=>(ops[j]?).bind (·.dst)) r ops.toList env c [] [] fun d a b dec=>aCm P ops.toList d b (G7 ops.toList) (q a b dec)
 else False
end
end Go.Ab
end
section
namespace Go.Ab
noncomputable section
variable {P:Program} {K:FuncId->List Value->Option jI}
section
variable {fn:FuncId} {ro:Option Nat} {ds:List Nat} {env:List Value} {k:List Item} {h:AH} {Q:Out->AH->Prop}
theorem Eg {t t':Task} {h':AH} (c:∀n,run P K (n+1) t h=run P K n t' h') (d:Ok P K t' h' Q):Ok P K t h Q:=by
 obtain⟨n,r,a,b⟩:=d;exact⟨n+1,r,by rw[c];exact a,b⟩
theorem Sc {c:Operand} {t e:Code} (g:Br (dH P env c) (Ok P K (.todo fn ro ds env (.code t::k)) h Q) (Ok P K (.todo fn ro ds env (.code e::k)) h Q)):
  Ok P K (.todo fn ro ds env (.code (.cond c t e)::k)) h Q:=by
 obtain⟨b,a,f,d⟩:=g
 cases b with
 |true=>exact Eg (t':= .todo fn ro ds env (.code t::k)) (fun n=>by show runTodo _ _ _ _ _ _ _ _=_;simp only[runTodo,a,if_true]) (f rfl)
 |false=>exact Eg (t':= .todo fn ro ds env (.code e::k)) (fun n=>by show runTodo _ _ _ _ _ _ _ _=_;simp[runTodo,a]) (d rfl)
end
def kJ (h:AH) (l:Nat):Option AH:=match h.get l with
 |some (.loop .ready _ _ _ _ _ _ _)=>setLoop h l .busy none
 |_=>none
def sC (h:AH) (l:Nat):Option (Option Code×AH):=match h.get l with
 |some (.loop st p _ _ _ _ _ _)=>if st= .busy then none else(setLoop h l .exhausted none).map fun a=>(p,a)
 |_=>none
def hT (h:AH) (l:Nat):Option Nat:=match h.get l with
 |some (.loop _ _ _ _ _ _ _ d)=>some d
 |_=>none
def Vx (P:Program) (K:FuncId->List Value->Option jI) (f:Value) (l:Nat) (h:AH) (q:Value->AH->Prop):Prop:=match f with
 |.func (.func g) first a=>callable P g=true/\Ok P K (.call g (first.toList++[.func (.yield l) #[] #[]]++a.toList)) h fun o b=>q o.v b
 |_=>False
def pP:Code->Option Nat
 |.region id _ _=>some id
 |.seq a b=>(match pP a with
  |some r=>some r
  |none=>pP b)
 |.block _ b=>pP b
 |.loop b=>pP b
 |.scope b=>pP b
 |_=>none
def keyOf:List Item->Option Nat
 |.code c::k=>(match pP c with
  |some r=>some r
  |none=>keyOf k)
 |.inLoop c::k=>(match pP c with
  |some r=>some r
  |none=>keyOf k)
 |_::k=>keyOf k
 |[]=>none
def iW:Code->List Nat
 |.exit id=>[id]
 |.seq a b=>iW a++iW b
 |.cond _ t e=>iW t++iW e
 |.block id b=>(iW b).filter (·!=id)
 |.loop b=>iW b
 |.scope b=>iW b
 |.rangeFunc _ _ a b=>iW a++iW b
 |_=>[]
def tE (p:Option Code) (a b:Prop) (c:List (Nat×Prop)):Prop:=match p with
 |none=>a
 |some .ret=>b
 |some (.exit id)=>(match c.lookup id with
  |some q=>q
  |none=>False)
 |_=>False
def Ms (P:Program) (K:FuncId->List Value->Option jI) (fn:FuncId) (f:Value) (n:Nat) (lv:List Nat) (vs:List Value) (ps:Array Tmp) (assign a:Code) (d:Nat) (h:AH) (q:Option Code->AH->Prop):Prop:=
 ∀e:Nat->Value,lv.map e=vs->Cq h (.loop .ready none fn ((List.range n).map e) ps assign a d) fun l b=>Vx P K f l b fun _ c=>bG (sC c l) fun r=>q r.1 r.2
def Rk (L:List (Option Nat×List Nat)) (k:List Item):List Nat:=(L.lookup (keyOf k)).getD []
def mY:Nat->List Item->List Item
 |0,k=>k
 |n+1,k=>match k with
  |.code c::d=>(match c with
   |.skip=>mY n d
   |.label _=>mY n d
   |.seq a b=>mY n (.code a:: .code b::d)
   |.block id b=>mY n (.code b:: .inBlock id::d)
   |.scope b=>mY n (.code b:: .inScope b::d)
   |.loop b=>mY n (.code b:: .inLoop b::d)
   |.exit id=>(match exitTo id d with
    |some e=>mY n e
    |none=>k)
   |_=>k)
  |.inBlock _::d=>mY n d
  |.inScope _::d=>mY n d
  |.inLoop b::d=>mY n (.code b:: .inLoop b::d)
  |_=>k
def aBm:List Item->Bool
 |[]=>true
 |.code .ret::_=>true
 |.code (.exit _)::_=>true
 |_=>false
def short (k:List Item):Bool:=match mY 60 k with
 |.code (.region _ _ _)::a=>aBm (mY 60 a)
 |a=>aBm a
def Nk (P:Program) (K:FuncId->List Value->Option jI) (E:List Nat->List Value->List Item->AH->Prop) (F:yS->List Nat->List Value->AH->Prop) (L:List (Option Nat×List Nat)) (fn:FuncId) (ro:Option Nat):
  Nat->Nn->List Nat->List Value->List Item->AH->Prop
 |0,_,ds,env,k,h=>E ds env k h
 |n+1,dec,ds,env,k,h=>
  match k with
  |[]=>F .oQ ds env h
  |.code c::k=>
   (match c with
   |.skip=>Nk P K E F L fn ro n dec ds env k h
   |.label _=>Nk P K E F L fn ro n dec ds env k h
   |.seq a b=>Nk P K E F L fn ro n dec ds env (.code a:: .code b::k) h
   |.cond c t e=>(match uh dec c with
    |some true=>Nk P K E F L fn ro n dec ds env (.code t::k) h
    |some false=>Nk P K E F L fn ro n dec ds env (.code e::k) h
    |none=>Br (dH P env c)
     (match short (.code t::k) with
     |true=>Nk P K E F L fn ro n dec ds env (.code t::k) h
     |false=>E ds env (mY 60 (.code t::k)) h)
     (match short (.code e::k) with
     |true=>Nk P K E F L fn ro n dec ds env (.code e::k) h
     |false=>E ds env (mY 60 (.code e::k)) h))
   |.block id b=>Nk P K E F L fn ro n dec ds env (.code b:: .inBlock id::k) h
   |.loop b=>E ds env (mY 60 (.code b:: .inLoop b::k)) h
   |.scope b=>Nk P K E F L fn ro n dec ds env (.code b:: .inScope b::k) h
   |.exit id=>(match exitTo id k with
    |some s=>Nk P K E F L fn ro n dec ds env s h
    |none=>if ro.isSome then F (.exit id) ds env h else False)
   |.ret=>F .ret ds env h
   |.region _ ops false=>wpOps P K (fun j=>(ops[j]?).bind (·.dst)) ops.toList env h dec fun o i m=>Nk P K E F L fn ro n m ds o k i
   |.region _ ops true=>aDb P K ops env h fun o i m=>Nk P K E F L fn ro n m ds o k i
   |.rangeFunc f q assign g=>
    (match ro with
    |none=>Cq h (.marks true) fun d r=>Ms P K fn (dH P env f) env.length (Rk L [.code assign,.beginRound,.code g]) ((Rk L [.code assign,.beginRound,.code g]).map fun t=>env.getD t undef) q assign g d r fun p i=>
      tE p (Nk P K E F L fn ro n dec (d::ds) env k i) (Nk P K E F L fn ro n dec (d::ds) env (.code .ret::k) i) ((iW g).map fun id=>(id,Nk P K E F L fn ro n dec (d::ds) env (.code (.exit id)::k) i))
    |some l=>bG (hT h l) fun d=>Ms P K fn (dH P env f) env.length (Rk L [.code assign,.beginRound,.code g]) ((Rk L [.code assign,.beginRound,.code g]).map fun t=>env.getD t undef) q assign g d h fun p i=>
      tE p (Nk P K E F L fn ro n dec ds env k i) (Nk P K E F L fn ro n dec ds env (.code .ret::k) i) ((iW g).map fun id=>(id,Nk P K E F L fn ro n dec ds env (.code (.exit id)::k) i)))
   |_=>False)
  |.inBlock _::k=>Nk P K E F L fn ro n dec ds env k h
  |.inScope _::k=>Nk P K E F L fn ro n dec ds env k h
  |.inLoop b::k=>E ds env (mY 60 (.code b:: .inLoop b::k)) h
  |.beginRound::k=>
   (match ro with
   |some l=>bG (kJ h l) fun i=>Nk P K E F L fn ro n dec ds env k i
   |none=>False)
  |_=>False
theorem Oy {env:List Value} {n:Nat} (h:env.length=n):(List.range n).map (fun t=>env.getD t undef)=env:=by
 refine List.ext_getElem? fun i=>?_;grind
theorem Y3 {l:List Nat} {f:Nat->Prop} {id:Nat} {q:Prop} (h:(l.map fun i=>(i,f i)).lookup id=some q):q=f id:=by
 induction l with
 |nil=>simp at h
 |cons i l a=>
  grind
theorem Jq {fn:FuncId} {f:Value} {env:List Value} {lv:List Nat} {ps:Array Tmp} {assign b:Code} {d:Nat} {h:AH} {q:Option Code->AH->Prop}
  (i:Ms P K fn f env.length lv (lv.map fun t=>env.getD t undef) ps assign b d h q):
  ∃n g first a o c p e,f= .func (.func g) first a/\callable P g=true/\run P K n (.call g (first.toList++[.func (.yield h.next) #[] #[]]++a.toList)) (h.alloc (.loop .ready none fn env ps assign b d))=some (o,c)/\
   sC c h.next=some (p,e)/\q p e:=by
 have:=i (fun t=>env.getD t undef) rfl
 rw[Oy rfl] at this
 unfold Cq Vx at this
 split at this
 .rename_i g first a
  obtain⟨m,n,r,j,⟨p,e⟩,l,c⟩:=this
  grind
 .cases this
theorem Kj {fn:FuncId} {ro:Option Nat} {ds:List Nat} {env:List Value} {h:AH} {Q:Out->AH->Prop}:∀(n:Nat) {k:List Item},Ok P K (.todo fn ro ds env (mY n k)) h Q->Ok P K (.todo fn ro ds env k) h Q
 |0,_,a=>a
 |n+1,k,a=>by
  have st:∀{k':List Item},Ok P K (.todo fn ro ds env (mY n k')) h Q->(∀m,run P K (m+1) (.todo fn ro ds env k) h=run P K m (.todo fn ro ds env k') h)->Ok P K (.todo fn ro ds env k) h Q:=
   fun a b=>Eg b (Kj n a)
  unfold mY at a;split at a;split at a;exact st a fun _=>rfl;exact st a fun _=>rfl;exact st a fun _=>rfl;exact st a fun _=>rfl;exact st a fun _=>rfl;exact st a fun _=>rfl;split at a;rename_i c;refine st a fun m=>?_;show runTodo P (run P K m) _ _ _ _ _ _=_;simp only[runTodo,c];exact a;exact a;exact st a fun _=>rfl;exact st a fun _=>rfl;exact st a fun _=>rfl;exact a
def Yh (P:Program) (f:FuncId) (Q:Value->AH->Prop):Out->AH->Prop:=fun o b=>
 match o.leave with
 |.exit _=>False
 |_=>bG (cT o.ds b) fun a=>bG (aresults P a o.env ((P.funcs[f]?).elim [] fun fn=>fn.results.toList)) fun c=>Q (oneOf c) a
theorem x9 {f:FuncId} {fn:Func} {a:Code} {args:List Value} {h:AH} {Q:Value->AH->Prop} (i:P.funcs[f]?=some fn) (hb:fn.body=some a) (p:K f args=none)
  (r:Ok P K (.todo f none [] (args++List.replicate (fn.ntmps - args.length) undef) [.code a]) h (Yh P f Q)):Ok P K (.call f args) h fun o c=>Q o.v c:=by
 obtain⟨n,⟨o,g⟩,l,b⟩:=r
 simp only at b
 have s:(∀id,o.leave≠.exit id)->(bG (cT o.ds g) fun b=>bG (aresults P b o.env ((P.funcs[f]?).elim [] fun fn=>fn.results.toList)) fun e=>Q (oneOf e) b)->Ok P K (.call f args) h fun o c=>Q o.v c:=by
  intro d ⟨m,t,e,j,q⟩;rw[i] at j;simp only[Option.elim_some] at j;refine⟨n+1,(⟨.oQ,[],[],oneOf e⟩,m),?_,q⟩;show runCall P K (run P K n) f args h=_;simp only[runCall,p,i,hb];rw[l];cases hlv:o.leave with
  |exit id=>exact absurd hlv (d id)
  |oQ=>grind
  |ret=>grind
 unfold Yh at b
 grind
def Pt (P:Program) (K:FuncId->List Value->Option jI) (fn:FuncId) (ro:Option Nat) (Q:Out->AH->Prop) (n:Nat) (lv:List Nat) (k:List Item) (ds:List Nat) (vs:List Value) (h:AH):Prop:=
 ∀e:Nat->Value,lv.map e=vs->Ok P K (.todo fn ro ds ((List.range n).map e) k) h Q
def R9 (P:Program) (h:AH) (env:List Value):List ResultVar->(List Value->Prop)->Prop
 |[],p=>p []
 |.tmp t::b,p=>R9 P h env b fun l=>p (env.getD t undef::l)
 |.cell a t::b,p=>match jH P t with
  |some true=>bG (sD h (P.cellsOf t) (env.getD a undef)) fun v=>R9 P h env b fun l=>p (v::l)
  |some false=>bG (pK h (env.getD a undef)) fun v=>R9 P h env b fun l=>p (v::l)
  |none=>False
theorem tM {h:AH} {env:List Value}:∀{rs:List ResultVar} {p:List Value->Prop},R9 P h env rs p->∃l,aresults P h env rs=some l/\p l
 |[],p,b=>⟨[],rfl,b⟩
 |.tmp t::rs,p,b=>by
  obtain⟨l,c,d⟩:=tM (rs:=rs) b;exact⟨_,by simp only[aresults,c];rfl,d⟩
 |.cell a t::rs,p,b=>by
  simp only[R9] at b;split at b;rename_i f;obtain⟨v,c,b⟩:=b;obtain⟨l,d,e⟩:=tM (rs:=rs) b;refine⟨v::l,?_,e⟩;unfold sD at c;split at c;rename_i x g;have i:vZ P h t x=some v:=by unfold vZ;rw[f];exact c
  simp only[aresults,g,i,d];cases c;rename_i f;obtain⟨v,c,b⟩:=b;obtain⟨l,d,e⟩:=tM (rs:=rs) b;refine⟨v::l,?_,e⟩;unfold pK at c;split at c;rename_i x g;have i:vZ P h t x=some v:=by unfold vZ;rw[f];exact c
  simp only[aresults,g,i,d];cases c;cases b
def aDx (P:Program) (f:FuncId) (Q:Value->AH->Prop) (lv:yS) (ds:List Nat) (env:List Value) (h:AH):Prop:=match lv with
 |.exit _=>False
 |_=>bG (cT ds h) fun a=>R9 P a env ((P.funcs[f]?).elim [] fun fn=>fn.results.toList) fun l=>Q (oneOf l) a
theorem Ys {f:FuncId} {Q:Value->AH->Prop} {lv:yS} {ds:List Nat} {env:List Value} {h:AH} (a:aDx P f Q lv ds env h):Yh P f Q ⟨lv,ds,env,undef⟩ h:=by
 unfold aDx at a;unfold Yh;cases lv with
 |exit id=>exact a
 |oQ=>obtain⟨b,e,a⟩:=a;obtain⟨l,c,d⟩:=tM a;simp_all
 |ret=>obtain⟨b,e,a⟩:=a;obtain⟨l,c,d⟩:=tM a;simp_all
theorem qg {f:FuncId} {args:List Value} {v:Value} {h:AH} {Q:Value->AH->Prop} (b:K f args=some (.val v)) (c:Q v h):Ok P K (.call f args) h fun o a=>Q o.v a:=
 ⟨1,(⟨.oQ,[],[],v⟩,h),by show runCall _ _ _ _ _ _=_;simp only[runCall,b],c⟩
def Fw (l:Nat) (Q:Value->AH->Prop):Out->AH->Prop:=fun o b=>
 o.ds=[]/\match o.leave with
 |.oQ=>bG (setLoop b l .ready (some none)) fun a=>Q (.bool true) a
 |.ret=>bG (setLoop b l .done (some (some .ret))) fun a=>Q (.bool false) a
 |.exit id=>bG (setLoop b l .done (some (some (.exit id)))) fun a=>Q (.bool false) a
theorem r6 {l:Nat} {args:List Value} {h:AH} {st:LoopState} {p:Option Code} {fn:FuncId} {b:List Value} {ps:Array Tmp} {assign a:Code} {d:Nat} {Q:Value->AH->Prop}
  (u:h.get l=some (.loop st p fn b ps assign a d)) (w:args.length=ps.size)
  (y:Ok P K (.todo fn (some l) [] ((ps.toList.zip args).foldl (fun t (p,v)=>t.set p v) b) [.code assign,.beginRound,.code a]) h (Fw l Q)):Ok P K (.round l args) h fun o j=>Q o.v j:=by
 obtain⟨n,r,A,c,f⟩:=y
 obtain⟨o,m⟩:=r
 simp only at c f
 have z:∀i e,(match o.leave with
     |.oQ=>(setLoop m l .ready (some none)).map fun c=>((⟨.oQ,[],[],.bool true⟩:Out),c)
     |.ret=>(setLoop m l .done (some (some .ret))).map fun c=>(⟨.oQ,[],[],.bool false⟩,c)
     |.exit id=>(setLoop m l .done (some (some (.exit id)))).map fun c=>(⟨.oQ,[],[],.bool false⟩,c))=some (i,e)->Q i.v e->Ok P K (.round l args) h fun o j=>Q o.v j:=by
  intro i e C x
  refine⟨n+1,(i,e),?_,x⟩
  show runRound (run P K n) l args h=_
  simp only[runRound,u,w,if_true]
  grind
 split at f
 .rename_i g;obtain⟨e,q,s⟩:=f;grind
 .rename_i g;obtain⟨e,q,s⟩:=f;grind
 .rename_i g;obtain⟨e,q,s⟩:=f;grind
def Se (l:Nat) (Q:Value->AH->Prop) (lv:yS) (ds:List Nat) (_b:List Value) (h:AH):Prop:=match ds with
 |[]=>(match lv with
  |.oQ=>bG (setLoop h l .ready (some none)) fun a=>Q (.bool true) a
  |.ret=>bG (setLoop h l .done (some (some .ret))) fun a=>Q (.bool false) a
  |.exit id=>bG (setLoop h l .done (some (some (.exit id)))) fun a=>Q (.bool false) a)
 |_=>False
theorem Sf {l:Nat} {Q:Value->AH->Prop} {lv:yS} {ds:List Nat} {env:List Value} {h:AH} (a:Se l Q lv ds env h):Fw l Q ⟨lv,ds,env,undef⟩ h:=by
 unfold Se at a;cases ds with
 |nil=>refine⟨rfl,?_⟩;cases lv<;>exact a
 |cons d ds=>exact a.elim
end
end Go.Ab
end
section
namespace Go.Ab
noncomputable section
open Go.RowKit
variable {P:Program} {K:FuncId->List Value->Option jI}
def start (base:Nat) (old:Nat->Option nI):AH:={base:=base,next:=base,old:=old,new:= .lf}
theorem wX {a:Nat} {old:Nat->Option nI} (i:Nat):(start a old).get i=if i<a then old i else none:=by
 rw[AH.get_eq];unfold start;split;rfl;cases i - a<;>rfl
structure Reads (P:Program) (base:Nat) (old:Nat->Option nI) (ρ:iH) (w:World):Prop where
 rI:∀i o,i<base->old i=some o->∀b s,ρ i=some (b,s)->∃o',w.heap[b]?=some o'/\uF P ρ s o o'
 low:∀i b s,i<base->ρ i=some (b,s)->b<w.heap.size
 none:∀i,base<=i->ρ i=none
 pW:∀g,g<P.globals.size->ρ g=some (g,(0,0))
theorem Reads.inv {a:Nat} {old:Nat->Option nI} {ρ:iH} {w:World} (r:Reads P a old ρ w):Inv P w.heap.size ρ (start a old) w where
 rI:=fun i o d b s e=>by
  rw[wX] at d;split at d;rename_i c;exact r.rI i o c d b s e;cases d
 inj:=fun i j b f g c _ gi=>by
  rw[wX,aJ6 (Nat.not_lt.2 (show a<=_ from c))] at gi;cases gi
 low:=fun i b s c gi=>by
  rw[wX,aJ6 (Nat.not_lt.2 (show a<=_ from c))] at gi;cases gi
 old:=fun i b s c e=>r.low i b s c e
 fresh:=fun i c=>r.none i c
 iE:=fun i c=>by rw[wX,aJ6 (Nat.not_lt.2 (show a<=_ from c))]
 pW:=r.pW
 size:=Nat.le_refl _
 bn:=Nat.le_refl _
theorem Lk {w:World} (C:Ctx P w.heap.size K) (t:C.G w) {a:Nat} {old:Nat->Option nI} {ρ:iH} (r:Reads P a old ρ w) {f:FuncId} {args args':List Value} (q:aZ ρ args args') {Q:Out->AH->Prop}
  (i:Ok P K (.call f args) (start a old) Q):
  Calls P f ⟨args'⟩ w fun e g=>∃ρ' o c d,e= .returned d/\aF ρ' o.v d/\Q o c/\Inv P w.heap.size ρ' c g/\Below w.heap.size w g:=by
 obtain⟨n,⟨o,c⟩,v,u⟩:=i
 intro j
 obtain⟨e,g,fr,⟨ρ',d,s,x,b⟩,l,m,p⟩:=gu C n (.call f args) _ o c v ρ w args' r.inv t q j
 exact⟨e,g,fr,⟨ρ',o,c,d,s,x,u,b.inv,b.below r.inv⟩,l,m,p⟩
def Ctx.empty (P:Program) (B:Nat):Ctx P B (fun _ _=>none) where
 G:=fun _=>True
 E4:=fun _ _ _ _=>trivial
 call:=fun _ _ _ _ h=>by cases h
 fwd:=fun _ _ _ _ h=>by cases h
 host:=fun _ _ _ h=>by cases h
def iq (K:FuncId->List Value->Option jI) (f0:FuncId) (v0:Value):FuncId->List Value->Option jI:=fun f a=>if f=f0/\a.isEmpty=true then some (.val v0) else K f a
def Ctx.add {B:Nat} (C:Ctx P B K) (f0:FuncId) (v0:Value) (n:dT v0=true) (h:∀w,C.G w->Calls P f0 #[] w fun e d=>e= .returned v0/\Below w.heap.size w d):Ctx P B (iq K f0 v0) where
 G:=C.G
 E4:=C.E4
 call:=fun f a v w b c=>by
  unfold iq at b;split at b;rename_i l;cases b;obtain⟨rfl,o⟩:=l;have:a=[]:=by grind
  subst this;exact⟨rfl,(h w c).mono fun e d ⟨m,j⟩=>⟨⟨v0,m,fun ρ=>hQ v0 n⟩,j⟩⟩;exact C.call f a v w b c
 fwd:=fun f a g i b=>by
  unfold iq at b;split at b;cases b;exact C.fwd f a g i b
 host:=fun f a F b=>by
  unfold iq at b;split at b;cases b;exact C.host f a F b
theorem Xa {P:Program} {f:FuncId} {args:Array Value} {v:Value} {w:World} (g:dT v=true) (h:Calls P f args w fun e a=>e= .returned v/\Below w.heap.size w a):
  Calls P f args w fun e a=>(∃b,e= .returned b/\∀ρ,aF ρ v b)/\Below w.heap.size w a:=
 h.mono fun _ _ ⟨d,c⟩=>⟨⟨v,d,fun _=>hQ v g⟩,c⟩
theorem S5 {f:FuncId} {n:Nat} {v:Value} {a:Nat} {old:Nat->Option nI} (m:dT v=true)
  (b:((run P K n (.call f []) (start a old)).any fun r=>nG r.1.v v)=true) {w:World} (C:Ctx P w.heap.size K) (l:C.G w) {ρ:iH} (r:Reads P a old ρ w):
  Calls P f #[] w fun e g=>e= .returned v/\Below w.heap.size w g:=by
 rw[Option.any_eq_true] at b
 obtain⟨⟨o,q⟩,b,c⟩:=b
 have c:=Gt _ _ c
 have:=Lk (Q:=fun o _=>o.v=v) C l r (args:=[]) (args':=[]) rfl ⟨n,_,b,c⟩
 intro i
 obtain⟨e,g,fr,⟨ρ',y,s,p,t,d,j,_,u⟩,x⟩:=this i
 rw[j] at d
 have:=vX v p m d
 grind
end
end Go.Ab
end
section
namespace Go.Ab
noncomputable section
variable {P:Program} {K:FuncId->List Value->Option jI}
def sub:Code->List Nat->Code
 |c,[]=>c
 |.seq a _,0::p=>sub a p
 |.seq _ b,1::p=>sub b p
 |.cond _ t _,0::p=>sub t p
 |.cond _ _ e,1::p=>sub e p
 |.block _ b,0::p=>sub b p
 |.loop b,0::p=>sub b p
 |.scope b,0::p=>sub b p
 |.rangeFunc _ _ a _,0::p=>sub a p
 |.rangeFunc _ _ _ b,1::p=>sub b p
 |_,_=> .skip
def Mg (P:Program) (f:FuncId):Option Code:=(P.funcs[f]?).bind (·.body)
def ntm (P:Program) (f:FuncId):Nat:=(P.funcs[f]?).elim 0 (·.ntmps)
def cd (P:Program) (f:FuncId) (p:List Nat):Code:=sub ((Mg P f).getD .skip) p
def Cl (P:Program) (K:FuncId->List Value->Option jI) (f:FuncId) (args:List Value) (h:AH) (Q:Value->AH->Prop):Prop:=Ok P K (.call f args) h fun o a=>Q o.v a
theorem Cl.mono {f:FuncId} {args:List Value} {h:AH} {Q a:Value->AH->Prop} (k:Cl P K f args h Q) (c:∀v b,Q v b->a v b):Cl P K f args h a:=Ok.mono k fun _ _=>c _ _
def lpB (P:Program) (f:FuncId) (p:List Nat) (n:Nat) (e:Nat->Value) (d:Nat) (st:LoopState) (pd:Option Code):nI:=match cd P f p with
 |.rangeFunc _ c a b=> .loop st pd f ((List.range n).map e) c a b d
 |_=> .marks false
abbrev I (n:Int):Value:= .int .i64 n
def pt (b o j:Nat):Value:= .pointer (some ⟨b,o+j,none⟩)
def aFf:Nat->Nat->List Nat->List Nat
 |0,_,acc=>acc
 |f+1,n,acc=>if n<=1 then acc else aFf f (n/2) (n % 2::acc)
def pD (n:Nat):List Nat:=aFf 120 n []
def rgF:Code->Operand×Array Tmp×Code×Code
 |.rangeFunc f c a b=>(f,c,a,b)
 |_=>(.tmp 0, #[],.skip,.skip)
end
end Go.Ab
end
