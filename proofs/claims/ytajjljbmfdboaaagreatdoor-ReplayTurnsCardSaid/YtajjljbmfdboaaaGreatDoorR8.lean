/- A part of the proof. -/
import Derived.Test.YtajjljbmfdboaaaGreatDoorR4
import Derived.IntWalk
import Derived.KernelRfl
import Derived.Test.YtajjljbmfdboaaaGreatDoorR7
import Derived.ChangeSlices
import Derived.LaidLaws
import Derived.MakeChecks
import Derived.WalkKit
import Derived.ProofKit
import Derived.ChangeOld
import Derived.ChangeSame
import Derived.ChangeVars
import Derived.JoinedOf
import Derived.Carry
import Derived.LaidHandle
import Derived.Stop.Joined
namespace Go.Ab
open Go.RowKit
section
inductive Tok where
 |free
 |mt (e:TypeId) (x:Bool) (n:Nat)
 |M7 (b:nI)
structure cS where
 cell:Nat->Nat->Option Value
 tok:Nat->Option Tok
def Ky:nI->Bool
 |.cells ..=>false
 |_=>true
structure cS.In (r:cS) (h:AH):Prop where
 cell:∀b o v,r.cell b o=some v->h.base<=b/\∃c e x,h.get b=some (.cells c e (0,0) x)/\c[o]?=some v
 free:∀b,r.tok b=some .free->h.base<=b/\b<h.next/\h.get b=none
 mt:∀b e x n,r.tok b=some (.mt e x n)->h.base<=b/\∃c,h.get b=some (.cells c e (0,0) x)/\c.length=n
 M7:∀b o,r.tok b=some (.M7 o)->h.base<=b/\h.get b=some o/\Ky o=true
structure cS.vA (r s:cS):Prop where
 cell:∀b o,r.cell b o=none\/s.cell b o=none
 tok:∀b,r.tok b=none\/s.tok b=none
def cS.add (r s:cS):cS:=⟨fun b o=>(r.cell b o).or (s.cell b o),fun b=>(r.tok b).or (s.tok b)⟩
def cS.emp:cS:=⟨fun _ _=>none,fun _=>none⟩
theorem cS.ext' {r s:cS} (c:∀b o,r.cell b o=s.cell b o) (g:∀b,r.tok b=s.tok b):r=s:=by
 cases r;cases s;simp only[cS.mk.injEq];grind
theorem M3 {α:Type} {a b:Option α} (h:a=none\/b=none):a.or b=b.or a:=by
 rcases h with h|h<;>subst h<;>simp
theorem or_none {α:Type} {a b:Option α} (h:a.or b=none):a=none/\b=none:=by cases a<;>simp_all
theorem cS.vA.symm {r s:cS} (d:r.vA s):s.vA r:=⟨fun b o=>(d.cell b o).symm,fun b=>(d.tok b).symm⟩
theorem cS.add_comm {r s:cS} (d:r.vA s):r.add s=s.add r:=cS.ext' (fun b o=>M3 (d.cell b o)) (fun b=>M3 (d.tok b))
theorem cS.add_assoc {r s t:cS}:(r.add s).add t=r.add (s.add t):=cS.ext' (fun b o=>by simp[cS.add,Option.or_assoc]) (fun b=>by simp[cS.add,Option.or_assoc])
theorem cS.iL {r s t:cS}:r.vA (s.add t)↔r.vA s/\r.vA t:=by
 constructor;intro d;refine⟨⟨fun b o=>?_,fun b=>?_⟩,⟨fun b o=>?_,fun b=>?_⟩⟩;rcases d.cell b o with h|h;exact .inl h;exact .inr (or_none h).1;rcases d.tok b with h|h;exact .inl h;exact .inr (or_none h).1;rcases d.cell b o with h|h;exact .inl h;exact .inr (or_none h).2;rcases d.tok b with h|h;exact .inl h;exact .inr (or_none h).2;intro⟨d1,d2⟩;refine⟨fun b o=>?_,fun b=>?_⟩;rcases d1.cell b o with h|h;exact .inl h;rcases d2.cell b o with c|c;exact .inl c;exact .inr (by simp[cS.add,h,c]);rcases d1.tok b with h|h;exact .inl h;rcases d2.tok b with c|c;exact .inl c;exact .inr (by simp[cS.add,h,c])
theorem cS.gJ {r:cS}:cS.emp.add r=r:=cS.ext' (fun _ _=>by simp[cS.add,cS.emp]) (fun _=>by simp[cS.add,cS.emp])
theorem cS.dS {r:cS}:cS.emp.vA r:=⟨fun _ _=> .inl rfl,fun _=> .inl rfl⟩
theorem cS.fS {r s:cS} {h:AH} (d:r.vA s):(r.add s).In h↔r.In h/\s.In h:=by
 have g:∀b o v,r.cell b o=some v->(r.add s).cell b o=some v:=fun b o v c=>by simp[cS.add,c]
 have c2:∀b o v,s.cell b o=some v->(r.add s).cell b o=some v:=fun b o v c=>by
  rcases d.cell b o with h|h;simp[cS.add,h,c];grind
 have t1:∀b v,r.tok b=some v->(r.add s).tok b=some v:=fun b v c=>by simp[cS.add,c]
 have t2:∀b v,s.tok b=some v->(r.add s).tok b=some v:=fun b v c=>by
  rcases d.tok b with h|h;simp[cS.add,h,c];grind
 have c3:∀b o v,(r.add s).cell b o=some v->r.cell b o=some v\/s.cell b o=some v:=fun b o v c=>by
  simp only[cS.add] at c;cases hr:r.cell b o with
  |none=>grind
  |some u=>grind
 have t3:∀b v,(r.add s).tok b=some v->r.tok b=some v\/s.tok b=some v:=fun b v c=>by
  simp only[cS.add] at c;cases hr:r.tok b with
  |none=>grind
  |some u=>grind
 constructor;intro i;exact⟨⟨fun b o v c=>i.cell b o v (g _ _ _ c),fun b c=>i.free b (t1 _ _ c),fun b e x n c=>i.mt b e x n (t1 _ _ c),fun b o c=>i.M7 b o (t1 _ _ c)⟩,
     ⟨fun b o v c=>i.cell b o v (c2 _ _ _ c),fun b c=>i.free b (t2 _ _ c),fun b e x n c=>i.mt b e x n (t2 _ _ c),fun b o c=>i.M7 b o (t2 _ _ c)⟩⟩
 intro⟨i,j⟩;refine⟨fun b o v c=>?_,fun b c=>?_,fun b e x n c=>?_,fun b o c=>?_⟩;rcases c3 _ _ _ c with h|h;exact i.cell b o v h;exact j.cell b o v h;rcases t3 _ _ c with h|h;exact i.free b h;exact j.free b h;rcases t3 _ _ c with h|h;exact i.mt b e x n h;exact j.mt b e x n h;rcases t3 _ _ c with h|h;exact i.M7 b o h;exact j.M7 b o h
abbrev HP:=cS->Prop
def star:List HP->cS->Prop
 |[],r=>r=cS.emp
 |A::L,r=>∃c g,A c/\star L g/\c.vA g/\r=c.add g
theorem Gw {L L':List HP} (p:L.Perm L'):∀r,star L r->star L' r:=by
 induction p with
 |nil=>exact fun _ h=>h
 |cons A _ z=>exact fun r ⟨c,m,g,q,i,j⟩=>⟨c,m,g,z _ q,i,j⟩
 |swap A B L=>
  intro r ⟨c,m,g,⟨r3,o,s,t,u,v⟩,i,j⟩;subst v;subst j;obtain⟨d1,d2⟩:=cS.iL.1 i;refine⟨r3,c.add o,s,⟨c,o,g,t,d2,rfl⟩,cS.iL.2 ⟨d1.symm,u⟩,?_⟩;rw[<-cS.add_assoc,<-cS.add_assoc,cS.add_comm d1]
 |trans _ _ C D=>grind
theorem iV {L M:List HP}:∀{r},star (L++M) r↔∃c g,star L c/\star M g/\c.vA g/\r=c.add g:=by
 induction L with
 |nil=>intro r;exact⟨fun h=>⟨cS.emp,r,rfl,h,cS.dS,cS.gJ.symm⟩,fun⟨c,g,j,m,o,i⟩=>by cases j;rw[cS.gJ] at i;subst i;exact m⟩
 |cons A L v=>
  intro r;constructor;intro⟨c,g,j,m,o,i⟩;obtain⟨r3,q,s,t,u,z⟩:=v.1 m;subst z;obtain⟨d1,d2⟩:=cS.iL.1 o;exact⟨c.add r3,q,⟨c,r3,j,s,d1,rfl⟩,t,(cS.iL.2 ⟨d2.symm,u.symm⟩).symm,by rw[i,cS.add_assoc]⟩;intro⟨c,g,⟨r3,q,j,m,o,i⟩,s,t,u⟩;subst i;obtain⟨d1,d2⟩:=cS.iL.1 t.symm;exact⟨r3,q.add g,j,v.2 ⟨q,g,m,s,d2.symm,rfl⟩,cS.iL.2 ⟨o,d1.symm⟩,by rw[u,cS.add_assoc]⟩
structure Bg where
 base:Nat
 old:Nat->Option nI
structure Hs (G:Bg) (h:AH) (L:List HP):Prop where
 base:h.base=G.base
 old:h.old=G.old
 wf:h.base<=h.next
 fr:∀i,h.next<=i->h.get i=none
 res:∃r,star L r/\r.In h
variable {P:Program} {K:FuncId->List Value->Option jI} {G:Bg} {h:AH} {L L' M:List HP}
theorem Hs.perm (c:Hs G h L) (p:L.Perm L'):Hs G h L':=⟨c.base,c.old,c.wf,c.fr,let⟨r,g,i⟩:=c.res;⟨r,Gw p r g,i⟩⟩
theorem Hs.tail {A:HP} (c:Hs G h (A::L)):Hs G h L:=⟨c.base,c.old,c.wf,c.fr,let⟨_,⟨_,o,_,g,i,j⟩,m⟩:=c.res;⟨o,g,((cS.fS i).1 (j▸m)).2⟩⟩
theorem Hs.imp {A:HP} {B:List HP} (c:Hs G h (A::L)) (k:∀r,A r->star B r):Hs G h (B++L):=⟨c.base,c.old,c.wf,c.fr,let⟨r,⟨g,s,i,j,m,o⟩,q⟩:=c.res;⟨r,iV.2 ⟨g,s,k g i,j,m,o⟩,q⟩⟩
theorem Hs.join {A:List HP} {B:HP} (c:Hs G h (A++L)) (k:∀r,star A r->B r):Hs G h (B::L):=⟨c.base,c.old,c.wf,c.fr,let⟨r,g,q⟩:=c.res;let⟨i,s,g,j,m,o⟩:=iV.1 g;⟨r,⟨i,s,k i g,j,m,o⟩,q⟩⟩
class Has {α:Type} (R:α->HP) (L:List HP) (a:outParam α) (L':outParam (List HP)):Prop where
 perm:L.Perm (R a::L')
instance (priority:=low) Has.there {α:Type} {R:α->HP} {A:HP} {a:α} [k:Has R L a L']:Has R (A::L) a (A::L'):=⟨(k.perm.cons A).trans (List.Perm.swap _ _ _)⟩
instance (priority:=high) Has.here {α:Type} {R:α->HP} {a:α}:Has R (R a::L) a L:=⟨List.Perm.refl _⟩
instance (priority:=high) Has.app {α:Type} {R:α->HP} {A:HP} {c L2:List HP} {a:α} [k:Has R (A::(c++L2)) a L']:Has R ((A::c)++L2) a L':=k
instance (priority:=high) Has.aCt {α:Type} {R:α->HP} {L2:List HP} {a:α} [k:Has R L2 a L']:Has R ([]++L2) a L':=k
theorem Hs.get {α:Type} {R:α->HP} {a:α} (c:Hs G h L) [k:Has R L a L']:Hs G h (R a::L'):=c.perm k.perm
def E9 (b o:Nat) (c:List Value):cS:=⟨fun i g=>if i=b/\o<=g then c[g - o]? else none,fun _=>none⟩
def aG (b o:Nat) (c:List Value):HP:=fun r=>r=E9 b o c
def mt (b:Nat) (m:TypeId×Bool×Nat):HP:=fun r=>r=⟨fun _ _=>none,fun c=>if c=b then some (.mt m.1 m.2.1 m.2.2) else none⟩
def ot (b:Nat) (o:nI):HP:=fun r=>r=⟨fun _ _=>none,fun c=>if c=b then some (.M7 o) else none⟩
def yr (c n:Nat) (D:List Nat):HP:=fun r=>r=⟨fun _ _=>none,fun b=>if c<=b/\b<c+n/\(b - c)∉D then some .free else none⟩
theorem qG {b o:Nat} {c:List Value} {g o':Nat}:(E9 b o c).cell g o'=if g=b/\o<=o' then c[o' - o]? else none:=rfl
theorem Hy {b o:Nat} {c d:List Value}:E9 b o (c++d)=(E9 b o c).add (E9 b (o+c.length) d):=by
 refine cS.ext' (fun g i=>?_) (fun _=>rfl);simp only[cS.add,qG];grind
theorem gq {b o:Nat} {c d:List Value}:(E9 b o c).vA (E9 b (o+c.length) d):=by
 refine⟨fun g i=>?_,fun _=> .inl rfl⟩;simp only[qG];grind
theorem B0 {b o:Nat} {c d:List Value} (r:cS):aG b o (c++d) r↔star [aG b o c,aG b (o+c.length) d] r:=by
 constructor;intro t;cases t;exact⟨_,_,rfl,⟨_,cS.emp,rfl,rfl,cS.dS.symm,rfl⟩,by rw[cS.add_comm cS.dS.symm,cS.gJ];exact gq,by rw[cS.add_comm (s:=cS.emp) cS.dS.symm,cS.gJ,Hy]⟩;intro⟨z,A,i,⟨r3,B,j,m,v,q⟩,u,g⟩;cases i;cases j;cases m;subst q;rw[cS.add_comm (s:=cS.emp) cS.dS.symm,cS.gJ] at g;rw[<-Hy] at g;exact g
theorem Hs.split {b o:Nat} {c d:List Value} (g:Hs G h (aG b o (c++d)::L)):Hs G h (aG b o c::aG b (o+c.length) d::L):=g.imp (B:=[_,_]) fun r=>(B0 r).1
theorem Hs.Ic {b o o':Nat} {c d:List Value} (i:Hs G h (aG b o c::aG b o' d::L)) (g:o'=o+c.length):Hs G h (aG b o (c++d)::L):=by
 subst g;exact Hs.join (A:=[_,_]) i fun r=>(B0 r).2
theorem Hs.cellAt {b o j:Nat} {c:List Value} {v:Value} (i:Hs G h (aG b o c::L)) (hc:c[j]?=some v):
  G.base<=b/\∃g e x,h.get b=some (.cells g e (0,0) x)/\g[o+j]?=some v:=by
 obtain⟨_,⟨u,z,m,t,q,r⟩,s⟩:=i.res
 cases m
 subst r
 have:=((cS.fS q).1 s).1.cell b (o+j) v (by rw[qG,aJ7 ⟨rfl,by omega⟩];grind)
 rw[i.base] at this
 exact this
theorem Hs.cells {b o:Nat} {c:List Value} (q:Hs G h (aG b o c::L)) (m:0<c.length):
  G.base<=b/\∃i e x,h.get b=some (.cells i e (0,0) x)/\o+c.length<=i.length/\∀j,j<c.length->i[o+j]?=c[j]?:=by
 obtain⟨r,i,e,x,s,z⟩:=q.cellAt (j:=0) (List.getElem?_eq_getElem m)
 have g:∀j,j<c.length->i[o+j]?=c[j]?:=fun j u=>by
  obtain⟨_,c2,v,C,t,B⟩:=q.cellAt (j:=j) (List.getElem?_eq_getElem u);grind
 refine⟨r,i,e,x,s,?_,g⟩
 have A:=g (c.length - 1) (by omega)
 grind
theorem cS.In.of {r:cS} {h h':AH} (i:r.In h) (hb:h'.base=h.base) (t:h.next<=h'.next) (s:∀b,(r.tok b≠none\/∃o,r.cell b o≠none)->h'.get b=h.get b):r.In h' where
 cell:=fun b o v g=>by
  obtain⟨j,c,e,x,m,q⟩:=i.cell b o v g;grind
 free:=fun b g=>by
  obtain⟨j,m,q⟩:=i.free b g;grind
 mt:=fun b e x n g=>by
  obtain⟨j,c,m,q⟩:=i.mt b e x n g;grind
 M7:=fun b o g=>by
  obtain⟨j,m,q⟩:=i.M7 b o g;grind
theorem AH.A9 {h:AH} {i:Nat} {o:Option nI}:(h.set i o).old=h.old:=by rw[AH.set_eq];split<;>rfl
theorem Hs.write {b o j:Nat} {c vs:List Value} (u:Hs G h (aG b o c::L)) (hl:j+vs.length<=c.length) (hv:vs.all eF=true) (J:0<c.length):
  ∃R,eA h ⟨b,o+j,none⟩ vs=some R/\Hs G R (aG b o (cC c j vs)::L):=by
 obtain⟨hb,A,e,x,C,V,B⟩:=u.cells J
 have t:h.base<=b:=by rw[u.base];exact hb
 refine⟨h.set b (some (.cells (cC A (o+j) vs) e (0,0) x)),?_,?_⟩
 .simp only[eA,Option.isSome_none,Bool.false_or,hv,Bool.not_true,Bool.or_false,C];grind
 .obtain⟨_,⟨r1,Q,z,E,F,Y⟩,Z⟩:=u.res;cases z;subst Y;obtain⟨i1,i2⟩:=(cS.fS F).1 Z;have r:∀i,(h.set b (some (.cells (cC A (o+j) vs) e (0,0) x))).get i=if i=b then some (.cells (cC A (o+j) vs) e (0,0) x) else h.get i:=fun i=>AH.jO t
  have O:∀k,(cC A (o+j) vs)[k]?=if o+j<=k/\k<o+j+vs.length then vs[k - (o+j)]? else A[k]?:=fun k=>by
   unfold cC;by_cases z:k<o+j;grind;by_cases E:k<o+j+vs.length;grind;rw[aaa,List.getElem?_append_right (by simp;omega)];simp only[List.length_append,List.length_take,List.getElem?_drop];congr 1;omega
  have N:∀k,(cC c j vs)[k]?=if j<=k/\k<j+vs.length then vs[k - j]? else c[k]?:=fun k=>by
   unfold cC;by_cases z:k<j;grind;by_cases E:k<j+vs.length;grind;rw[aaa,List.getElem?_append_right (by simp;omega)];simp only[List.length_append,List.length_take,List.getElem?_drop];congr 1;omega
  have W:(cC c j vs).length=c.length:=by simp[cC];omega
  have S:(E9 b o (cC c j vs)).vA Q:=by
   refine⟨fun m q=>?_,fun _=> .inl rfl⟩;rcases F.cell m q with h|h;left;rw[qG] at h ⊢;grind;exact .inr h
  have α:b<h.next:=by
   rcases Nat.lt_or_ge b h.next with z|z
   exact z;rw[u.fr b z] at C;cases C
  refine⟨by simp;exact u.base,by rw[AH.A9];exact u.old,by simp;exact u.wf,fun i T=>by simp at T;rw[r,aaa];exact u.fr i T,_,⟨_,Q,rfl,E,S,rfl⟩,(cS.fS S).2 ⟨?_,?_⟩⟩
  .refine⟨fun m q v g=>?_,fun _ D=>by simp[E9] at D,fun _ _ _ _ D=>by simp[E9] at D,fun _ _ D=>by simp[E9] at D⟩;rw[qG] at g;split at g
   .rename_i hc;obtain⟨rfl,ho⟩:=hc;refine⟨by simp;exact t,_,e,x,by rw[r,aJ7 rfl],?_⟩;rw[O];rw[N] at g;split at g
    .rename_i U;rw[aac,show q - (o+j)=q - o - j by omega];exact g
    .rename_i U;rw[aaa];have I:q - o<c.length:=(List.getElem?_eq_some_iff.1 g).1;have:=B (q - o) I;rw[show o+(q - o)=q by omega] at this;rw[this];exact g
   .cases g
  .have β:∀m q v,Q.cell m q=some v->m=b->¬(o+j<=q/\q<o+j+vs.length):=by
    intro m q v g s U;subst s;rcases F.cell m q with h|h;rw[qG,aJ7 ⟨rfl,by omega⟩,List.getElem?_eq_none_iff] at h;omega;grind
   refine⟨fun m q v g=>?_,fun m g=>?_,fun m X x' n g=>?_,fun m ob g=>?_⟩
   .obtain⟨g1,c2,e2,x2,g2,g3⟩:=i2.cell m q v g;refine⟨by simp;exact g1,?_⟩;grind
   .obtain⟨g1,g2,g3⟩:=i2.free m g;refine⟨by simp;exact g1,by simp;exact g2,?_⟩;grind
   .obtain⟨g1,c2,g2,g3⟩:=i2.mt m X x' n g;refine⟨by simp;exact g1,?_⟩;rw[r];by_cases s:m=b
    .rw[aJ7 s];rw[s,C] at g2;cases g2;exact⟨_,rfl,by simp[cC];omega⟩
    grind
   .obtain⟨g1,g2,g3⟩:=i2.M7 m ob g;refine⟨by simp;exact g1,?_,g3⟩;rw[r,aJ6 (by intro s;subst s;rw[C] at g2;cases g2;simp[Ky] at g3)];exact g2
theorem Zn {r:cS} {h:AH} {i:Nat} (q:r.In h) (m:h.get i=none) (s:r.tok i=none) {c:List Value} {t:Option Tok}:
  (⟨fun b o=>if b=i then c[o]? else none,fun b=>if b=i then t else none⟩:cS).vA r:=by
 refine⟨fun b o=>?_,fun b=>?_⟩
 .by_cases j:b=i
  .right;subst j;cases hc:r.cell b o with
   |none=>rfl
   |some v=>obtain⟨_,_,_,_,g,_⟩:=q.cell b o v hc;rw[m] at g;cases g
  .left;simp[j]
 grind
def mI (i:Nat) (c:List Value) (t:Option Tok):cS:=⟨fun b o=>if b=i then c[o]? else none,fun b=>if b=i then t else none⟩
theorem pS {i:Nat} {c:List Value} {e:TypeId} {x:Bool}:star [aG i 0 c,mt i (e,x,c.length)] (mI i c (some (.mt e x c.length))):=by
 refine⟨E9 i 0 c,_,rfl,⟨_,cS.emp,rfl,rfl,cS.dS.symm,rfl⟩,?_,?_⟩;rw[cS.add_comm (s:=cS.emp) cS.dS.symm,cS.gJ];exact⟨fun _ _=> .inr rfl,fun _=> .inl rfl⟩;rw[cS.add_comm (s:=cS.emp) cS.dS.symm,cS.gJ];refine cS.ext' (fun b o=>?_) (fun b=>?_);simp[mI,cS.add,E9];simp[mI,cS.add,E9]
theorem Hs.new {c:List Value} {e:TypeId} {x:Bool} (u:Hs G h L):Hs G (h.alloc (.cells c e (0,0) x)) (aG h.next 0 c::mt h.next (e,x,c.length)::L):=by
 obtain⟨r,F,A⟩:=u.res;have z:h.get h.next=none:=u.fr _ (Nat.le_refl _)
 have B:r.tok h.next=none:=by
  cases ht:r.tok h.next with
  |none=>rfl
  |some t=>
   cases t with
   |free=>have:=(A.free _ ht).2.1;omega
   |mt E J n=>obtain⟨_,_,g,_⟩:=A.mt _ _ _ _ ht;grind
   |M7 o=>obtain⟨_,g,_⟩:=A.M7 _ _ ht;grind
 have D:(mI h.next c (some (.mt e x c.length))).vA r:=Zn A z B;have m:∀j,(h.alloc (.cells c e (0,0) x)).get j=if j=h.next then some (.cells c e (0,0) x) else h.get j:=fun j=>AH.vS u.wf
 refine⟨u.base,u.old,Nat.le_succ_of_le u.wf,fun i I=>by simp at I;rw[m,aaa];exact u.fr i (by omega),(mI h.next c (some (.mt e x c.length))).add r,(iV (L:=[aG h.next 0 c,mt h.next (e,x,c.length)])).2 ⟨_,r,pS,F,D,rfl⟩,(cS.fS D).2 ⟨?_,?_⟩⟩;refine⟨fun b o v q=>?_,fun b q=>?_,fun b E J n q=>?_,fun b o q=>?_⟩;simp only[mI] at q;split at q;rename_i s;subst s;exact⟨by simp;exact u.wf,c,e,x,by rw[m,aJ7 rfl],q⟩;cases q;simp only[mI] at q;grind;simp only[mI] at q;split at q;rename_i s;subst s;cases q;exact⟨by simp;exact u.wf,c,by rw[m,aJ7 rfl],rfl⟩;cases q;simp only[mI] at q;grind;refine A.of rfl (by simp) fun b s=>?_;rw[m,aJ6];intro C;subst C;rcases s with s|⟨o,s⟩;exact s B;apply s;cases hc:r.cell h.next o with
 |none=>rfl
 |some v=>obtain⟨_,_,_,_,g,_⟩:=A.cell _ o v hc;grind
end
end Go.Ab
section
namespace Go.Ab
variable {P:Program} {K:FuncId->List Value->Option jI} {G:Bg} {h:AH} {L L' M:List HP}
theorem Has.of {α:Type} {R:α->HP} {a:α} (m:Has R L a L') (c:Hs G h L):Hs G h (R a::L'):=c.perm m.perm
def wW (h:AH) (_i:Nat) (e:TypeId) (l:List Value) (n c:Nat) (k:Value->AH->Prop):Prop:=Cq h (.cells l e (0,0) true) fun p g=>k (.slice (some ⟨p,0,none⟩) n c) g
def lR (h:AH) (r:Nat) (_i:Nat) (e:TypeId) (l:List Value) (n c:Nat) (k:Value->AH->Prop):Prop:=mN h r (.cells l e (0,0) true) fun p g=>k (.slice (some ⟨p,0,none⟩) n c) g
def lp (P:Program) (f:FuncId) (p:List Nat) (n:Nat) (e:Nat->Value) (d:Nat) (st:LoopState) (pd:Option Code):nI:=
 .loop st pd f ((List.range n).map e) (rgF (cd P f p)).2.1 (rgF (cd P f p)).2.2.1 (rgF (cd P f p)).2.2.2 d
theorem Hs.Wt (c:Hs G h L) {b:Nat} (hb:b<G.base):h.get b=G.old b:=by
 rw[AH.get_eq,c.base,aJ7 hb,c.old]
structure Ob (G:Bg) (b:Nat) (c:List Value):Prop where
 lt:b<G.base
 get:∃e fz x,G.old b=some (.cells c e fz x)
theorem aD {b o j:Nat} {c:List Value} {v:Value} {k:Value->Prop} (r:Hs G h L) [m:Has (aG b o) L c L'] (hc:c[j]?=some v) (q:k v):bG (pK h (pt b o j)) k:=by
 obtain⟨_,s,e,x,i,g⟩:=(m.of r).cellAt hc;exact⟨v,by simp[pK,pt,i,g],q⟩
theorem am (b:Nat) {j:Nat} {c:List Value} {v:Value} {k:Value->Prop} (r:Hs G h L) [m:Has (aG b 0) L c L'] (hc:c[j]?=some v) (q:k v):bG (pK h (pt b 0 j)) k:=aD (b:=b) (o:=0) r hc q
theorem zQ {b o j:Nat} {c:List Value} {v:Value} {k:Value->Prop} (q:Hs G h L) (g:Ob G b c) (hc:c[o+j]?=some v) (m:k v):bG (pK h (pt b o j)) k:=by
 obtain⟨e,r,x,i⟩:=g.get;exact⟨v,by simp[pK,pt,q.Wt g.lt,i,hc],m⟩
theorem aR {b o j n:Nat} {c l:List Value} {k:Value->Prop} (s:Hs G h L) [m:Has (aG b o) L c L'] (A:0<n) (hc:(c.drop j).take n=l) (z:l.length=n) (r:k (.agg ⟨l⟩)):bG (sD h n (pt b o j)) k:=by
 have g:j+n<=c.length:=by
  grind
 obtain⟨_,t,e,x,q,u,v⟩:=(m.of s).cells (by omega);refine⟨.agg ⟨l⟩,?_,r⟩;simp only[sD,pt,cU,Option.isSome_none,Bool.false_eq_true,if_false,q];rw[aac];simp only[Option.map_some,Option.some.injEq,Value.agg.injEq,Array.mk.injEq];rw[<-hc];refine List.ext_getElem? fun i=>?_;grind
theorem an (b:Nat) {j n:Nat} {c l:List Value} {k:Value->Prop} (s:Hs G h L) [m:Has (aG b 0) L c L'] (hc:(c.drop j).take n=l) (z:l.length=n) (r:k (.agg ⟨l⟩)) (A:0<n:=by decide):bG (sD h n (pt b 0 j)) k:=aR (b:=b) (o:=0) s A hc z r
theorem Ym {b o j n:Nat} {c l:List Value} {k:Value->Prop} (q:Hs G h L) (g:Ob G b c) (hc:(c.drop (o+j)).take n=l) (s:l.length=n) (hb:o+j<=c.length) (m:k (.agg ⟨l⟩)):bG (sD h n (pt b o j)) k:=by
 obtain⟨e,r,x,i⟩:=g.get;have:=congrArg List.length hc;simp at this;exact⟨.agg ⟨l⟩,by simp[sD,pt,cU,q.Wt g.lt,i,hc];omega,m⟩
def dN:List Value->Nat->List Value->List Value
 |c,0,[]=>c
 |[],0,_::_=>[]
 |_::c,0,v::g=>v::dN c 0 g
 |[],_+1,_=>[]
 |x::c,j+1,g=>x::dN c j g
theorem lS:∀(c:List Value) (j:Nat) (vs:List Value),j+vs.length<=c.length->cC c j vs=dN c j vs
 |c,0,[],_=>by cases c<;>simp[cC,dN]
 |[],0,_::_,h=>by simp at h
 |x::c,0,v::vs,h=>by
  have:=lS c 0 vs (by simp at h ⊢;omega);simp only[dN];rw[<-this];simp[cC]
 |[],j+1,vs,h=>by simp at h
 |x::c,j+1,vs,h=>by
  have:=lS c j vs (by simp at h ⊢;omega);simp only[dN];rw[<-this];simp only[cC,List.take_succ_cons,List.cons_append];grind
theorem aFj {b o j n:Nat} {c vs:List Value} {v:Value} {k:AH->Prop} (z:Hs G h L) [m:Has (aG b o) L c L'] (A:iX v=some vs) (u:vs.length=n) (q:Nat.ble (j+n) c.length=true) (hb:vs.all eF=true) (r:Nat.ble 1 c.length=true)
  (t:∀g,Hs G g (aG b o (dN c j vs)::L')->k g):bG (tZ h n (pt b o j) v) k:=by
 have q:=Nat.le_of_ble_eq_true q
 obtain⟨g,s,i⟩:=(m.of z).write (j:=j) (vs:=vs) (by omega) hb (Nat.le_of_ble_eq_true r)
 rw[lS _ _ _ (by omega)] at i
 exact⟨g,by simp[tZ,pt,A,u,s],t _ i⟩
theorem bQ {cs:List Value} {e:TypeId} {k:Nat->AH->Prop} (j:Hs G h L) (i:∀p g,Hs G g (aG p 0 cs::L)->k p g):Cq h (.cells cs e (0,0) true) k:=
 i _ _ (let t:=j.new (c:=cs) (e:=e) (x:=true);(t.perm (List.Perm.swap _ _ _)).tail)
theorem aF8 {cs:List Value} {e:TypeId} {v:Value} {k:Nat->AH->Prop} (i:Hs G h L) (j:iX v=some cs) (g:∀p c,Hs G c (aG p 0 cs::L)->k p c):bG (lG e v) fun b=>Cq h b k:=
 ⟨.cells cs e (0,0) true,by simp[lG,j],bQ i g⟩
def af (r:Nat) (x:Nat×List Nat):HP:=yr r x.1 x.2
theorem aAd {n:Nat} {k:Nat->AH->Prop} (c:Hs G h L) (D:∀r u,Hs G u (af r (n,[])::L)->k r u):wR h n k:=by
 refine D _ _ ?_;obtain⟨r,B,j⟩:=c.res;have z:∀i,({h with next:=h.next+n}:AH).get i=h.get i:=fun i=>rfl;refine⟨c.base,c.old,Nat.le_trans c.wf (Nat.le_add_right _ _),fun i C=>by rw[z];exact c.fr i (Nat.le_trans (Nat.le_add_right _ _) C),_,⟨_,r,rfl,B,?_,rfl⟩,(cS.fS ?_).2 ⟨?_,?_⟩⟩;rotate_right;exact j.of rfl (Nat.le_add_right _ _) fun _ _=>rfl;have s:∀b,h.next<=b->r.tok b=none:=fun b q=>by
  cases ht:r.tok b with
  |none=>rfl
  |some t=>
   cases t with
   |free=>have:=(j.free _ ht).2.1;omega
   |mt A E n=>obtain⟨_,_,g,_⟩:=j.mt _ _ _ _ ht;rw[c.fr b q] at g;cases g
   |M7 o=>obtain⟨_,g,_⟩:=j.M7 _ _ ht;rw[c.fr b q] at g;cases g
 refine⟨fun _ _=> .inl rfl,fun b=>?_⟩;grind;have s:∀b,h.next<=b->r.tok b=none:=fun b q=>by
  cases ht:r.tok b with
  |none=>rfl
  |some t=>
   cases t with
   |free=>have:=(j.free _ ht).2.1;omega
   |mt A E n=>obtain⟨_,_,g,_⟩:=j.mt _ _ _ _ ht;rw[c.fr b q] at g;cases g
   |M7 o=>obtain⟨_,g,_⟩:=j.M7 _ _ ht;rw[c.fr b q] at g;cases g
 refine⟨fun _ _=> .inl rfl,fun b=>?_⟩;grind;refine⟨fun _ _ _ m=>(by cases m),fun b m=>?_,fun b e x n m=>?_,fun b o m=>?_⟩;simp only at m;split at m;rename_i v;have:=c.wf;exact⟨by grind,v.2.1,by rw[z];exact c.fr b v.1⟩;cases m;grind;grind
def Nb (c:Bool) (g:List Nat) (op:BinOp) (a b:Value) (q:Value->Prop):Prop:=c=true/\bG (Jp g op a b) q
def Rs (c:Bool) (h:AH) (n:Nat) (k:Nat->AH->Prop):Prop:=c=true/\wR h n k
theorem aY {c:Bool} {n:Nat} {k:Nat->AH->Prop} (j:Hs G h L) (i:∀r g,Hs G g (af r (n,[])::L)->k r g) (hc:c=true:=by kernel_rfl):Rs c h n k:=⟨hc,aAd j i⟩
theorem Ty {r n i:Nat} {D:List Nat} (c:i<n) (hD:i∉D):star [fun q=>q=(⟨fun _ _=>none,fun b=>if b=r+i then some .free else none⟩:cS),yr r n (i::D)] ⟨fun _ _=>none,fun b=>if r<=b/\b<r+n/\(b - r)∉D then some .free else none⟩:=by
 refine⟨_,_,rfl,⟨_,cS.emp,rfl,rfl,cS.dS.symm,rfl⟩,?_,?_⟩;rw[cS.add_comm (s:=cS.emp) cS.dS.symm,cS.gJ];refine⟨fun _ _=> .inl rfl,fun b=>?_⟩;grind;rw[cS.add_comm (s:=cS.emp) cS.dS.symm,cS.gJ];refine cS.ext' (fun _ _=>rfl) (fun b=>?_);simp only[cS.add];grind
theorem Hs.newAt {r n i:Nat} {D:List Nat} {c:List Value} {e:TypeId} {x:Bool} (E:Hs G h (yr r n D::L)) (Z:i<n) (hD:i∉D):
  Hs G (h.set (r+i) (some (.cells c e (0,0) x))) (aG (r+i) 0 c::mt (r+i) (e,x,c.length)::yr r n (i::D)::L):=by
 obtain⟨q,⟨r1,R,U,V,F,W⟩,X⟩:=E.res
 cases U
 subst W
 obtain⟨i1,i2⟩:=(cS.fS F).1 X
 obtain⟨q1,q2,J,⟨q3,q4,N,O,α,C⟩,Y,Q⟩:=Ty (r:=r) Z hD
 cases J;cases O
 rw[cS.add_comm (s:=cS.emp) cS.dS.symm,cS.gJ] at C
 subst C
 cases N
 rw[Q] at i1 F
 obtain⟨i3,i4⟩:=(cS.fS Y).1 i1
 obtain⟨fb,fn,S⟩:=i3.free (r+i) (by simp)
 obtain⟨d1,d2⟩:=cS.iL.1 F.symm
 have t:∀j,(h.set (r+i) (some (.cells c e (0,0) x))).get j=if j=r+i then some (.cells c e (0,0) x) else h.get j:=fun j=>AH.jO fb
 have m:=(cS.fS d2.symm).2 ⟨i4,i2⟩
 have A:((⟨fun _ _=>none,fun b=>if r<=b/\b<r+n/\(b - r)∉(i::D) then some .free else none⟩:cS).add R).tok (r+i)=none:=by
  simp only[cS.add];rw[aJ6 (by grind)];rcases d1.tok (r+i) with h|h;simpa using h;simp at h
 have B:(mI (r+i) c (some (.mt e x c.length))).vA ((⟨fun _ _=>none,fun b=>if r<=b/\b<r+n/\(b - r)∉(i::D) then some .free else none⟩:cS).add R):=Zn m S A
 refine⟨by simp;exact E.base,by rw[AH.A9];exact E.old,by simp;exact E.wf,fun j T=>by simp at T;rw[t,aaa];exact E.fr j T,
    _,(iV (L:=[aG (r+i) 0 c,mt (r+i) (e,x,c.length)])).2 ⟨_,_,pS,⟨_,R,rfl,V,d2.symm,rfl⟩,B,rfl⟩,(cS.fS B).2 ⟨?_,?_⟩⟩
 .refine⟨fun b o v u=>?_,fun b u=>?_,fun b e' x' n u=>?_,fun b o u=>?_⟩
  .simp only[mI] at u;simp_all
  .simp only[mI] at u;grind
  .simp only[mI] at u;simp_all
  .simp only[mI] at u;grind
 .refine m.of (by simp) (by simp) fun b z=>?_;rw[t,aJ6];intro I;subst I;rcases z with z|⟨o,z⟩
  .exact z A
  .apply z;cases hc:cS.cell _ (r+i) o with
   |none=>rfl
   |some v=>obtain⟨_,_,_,_,g,_⟩:=m.cell _ o v hc;rw[S] at g;cases g
theorem aF9 {A B:HP} (c:Hs G h (A::B::L)):Hs G h (A::L):=(c.perm (List.Perm.swap _ _ _)).tail
theorem jM {r i n:Nat} {D:List Nat} {cs:List Value} {e:TypeId} {k:Nat->AH->Prop} (j:Hs G h L) [m:Has (af r) L (n,D) L'] (o:Nat.blt i n=true) (hD:D.contains i=false)
  (g:∀p c,Hs G c (aG p 0 cs::af r (n,i::D)::L')->k p c):mN h (r+i) (.cells cs e (0,0) true) k:=
 g _ _ (aF9 (Hs.newAt (show Hs G h (yr r n D::L') from m.of j) (by simp_all) (by simpa using hD)))
theorem aAs {r i n:Nat} {D:List Nat} {cs:List Value} {v:Value} {e:TypeId} {k:Nat->AH->Prop} (o:Hs G h L) [m:Has (af r) L (n,D) L'] (q:iX v=some cs) (g:Nat.blt i n=true) (hD:D.contains i=false)
  (j:∀p c,Hs G c (aG p 0 cs::af r (n,i::D)::L')->k p c):bG (lG e v) fun b=>mN h (r+i) b k:=
 ⟨.cells cs e (0,0) true,by simp[lG,q],jM o g hD j⟩
theorem Hs.aEn {o:nI} (J:Ky o=true) (s:Hs G h L):Hs G (h.alloc o) (ot h.next o::L):=by
 obtain⟨r,F,z⟩:=s.res;have c:h.get h.next=none:=s.fr _ (Nat.le_refl _)
 have A:r.tok h.next=none:=by
  cases ht:r.tok h.next with
  |none=>rfl
  |some t=>
   cases t with
   |free=>have:=(z.free _ ht).2.1;omega
   |mt E N n=>obtain⟨_,_,g,_⟩:=z.mt _ _ _ _ ht;rw[c] at g;cases g
   |M7 o=>obtain⟨_,g,_⟩:=z.M7 _ _ ht;rw[c] at g;cases g
 have C:(⟨fun _ _=>none,fun D=>if D=h.next then some (.M7 o) else none⟩:cS).vA r:=by
  refine⟨fun _ _=> .inl rfl,fun b=>?_⟩;by_cases q:b=h.next
  right;rw[q];exact A;grind
 have m:∀j,(h.alloc o).get j=if j=h.next then some o else h.get j:=fun j=>AH.vS s.wf
 refine⟨s.base,s.old,Nat.le_succ_of_le s.wf,fun i I=>by simp at I;rw[m,aaa];exact s.fr i (by omega),_,⟨_,r,rfl,F,C,rfl⟩,(cS.fS C).2 ⟨?_,?_⟩⟩;refine⟨fun _ _ _ u=>(by cases u),fun b u=>?_,fun b E N n u=>?_,fun b O u=>?_⟩;grind;grind;simp only at u;split at u;rename_i q;subst q;cases u;exact⟨by simp;exact s.wf,by rw[m,aJ7 rfl],J⟩;cases u;refine z.of rfl (by simp) fun b q=>?_;rw[m,aJ6];intro B;subst B;rcases q with q|⟨o,q⟩;exact q A;apply q;cases hc:r.cell h.next o with
 |none=>rfl
 |some v=>obtain⟨_,_,_,_,g,_⟩:=z.cell _ o v hc;rw[c] at g;cases g
theorem Hs.B8 {b:Nat} {o o':nI} (S:Ky o'=true) (c:Hs G h (ot b o::L)):h.get b=some o/\h.base<=b/\Hs G (h.set b (some o')) (ot b o'::L):=by
 obtain⟨q,⟨T,u,r,I,C,J⟩,N⟩:=c.res;cases r;subst J;obtain⟨i1,i2⟩:=(cS.fS C).1 N;obtain⟨gb,z,m⟩:=i1.M7 b o (by simp);have s:∀j,(h.set b (some o')).get j=if j=b then some o' else h.get j:=fun j=>AH.jO gb
 have O:b<h.next:=by
  rcases Nat.lt_or_ge b h.next with r|r
  exact r;rw[c.fr b r] at z;cases z
 have B:u.tok b=none:=by rcases C.tok b with h|h;simp at h;exact h
 have Q:∀t,u.cell b t=none:=fun t=>by
  cases hc:u.cell b t with
  |none=>rfl
  |some v=>
   obtain⟨_,_,_,_,g,_⟩:=i2.cell _ t v hc;rw[z] at g;cases g;simp[Ky] at m
 have E:(⟨fun _ _=>none,fun i=>if i=b then some (.M7 o') else none⟩:cS).vA u:=by
  refine⟨fun _ _=> .inl rfl,fun i=>?_⟩;by_cases D:i=b;right;rw[D];exact B;grind
 refine⟨z,gb,by simp;exact c.base,by rw[AH.A9];exact c.old,by simp;exact c.wf,fun j F=>by simp at F;rw[s,aaa];exact c.fr j F,_,⟨_,u,rfl,I,E,rfl⟩,(cS.fS E).2 ⟨?_,?_⟩⟩;refine⟨fun _ _ _ A=>(by cases A),fun b A=>?_,fun b R U n A=>?_,fun i t A=>?_⟩;grind;grind;simp_all;refine i2.of (by simp) (by simp) fun i D=>?_;grind
def pH (P:Program) (f:FuncId) (p:List Nat) (n:Nat) (e:Nat->Value) (d l:Nat) (x:LoopState×Option Code):HP:=ot l (lp P f p n e d x.1 x.2)
def mk (d:Nat) (_:Unit):HP:=ot d (.marks true)
theorem oF {k:Nat->AH->Prop} (i:Hs G h L) (g:∀d c,Hs G c (mk d ()::L)->k d c):Cq h (.marks true) k:=g _ _ (i.aEn rfl)
theorem sV {f:FuncId} {p:List Nat} {n:Nat} {e:Nat->Value} {d:Nat} {st:LoopState} {pd:Option Code} {k:Nat->AH->Prop} (i:Hs G h L) (g:∀l c,Hs G c (pH P f p n e d l (st,pd)::L)->k l c):Cq h (lp P f p n e d st pd) k:=g _ _ (i.aEn rfl)
theorem mB {k:AH->Prop} (c:k h):bG (cT [] h) k:=⟨h,rfl,c⟩
theorem oT {d:Nat} {g:List Nat} {k:AH->Prop} (t:Hs G h L) [m:Has (mk d) L () L'] (s:∀c,Hs G c L'->bG (cT g c) k):bG (cT (d::g) h) k:=by
 obtain⟨i,j,o⟩:=Hs.B8 (o':= .marks false) rfl (show Hs G h (ot d (.marks true)::L') from m.of t);obtain⟨c,q,r⟩:=s _ o.tail;exact⟨c,by simp only[cT,i,aJ7 j];exact q,r⟩
theorem aGh {f:FuncId} {p:List Nat} {n:Nat} {e:Nat->Value} {d l:Nat} {st st':LoopState} {pd pd':Option Code} {k:AH->Prop} (q:Hs G h L) [m:Has (pH P f p n e d l) L (st,pd) L'] (o:∀c,Hs G c (pH P f p n e d l (st',pd')::L')->k c):
  bG (setLoop h l st' (some pd')) k:=by
 obtain⟨g,i,j⟩:=Hs.B8 (o':=lp P f p n e d st' pd') rfl (show Hs G h (ot l (lp P f p n e d st pd)::L') from m.of q)
 exact⟨_,by simp only[setLoop,g,lp];rw[aJ7 i];rfl,o _ j⟩
theorem aA1 {f:FuncId} {p:List Nat} {n:Nat} {e:Nat->Value} {d l:Nat} {pd:Option Code} {k:AH->Prop} (q:Hs G h L) [m:Has (pH P f p n e d l) L (.ready,pd) L'] (o:∀c,Hs G c (pH P f p n e d l (.busy,pd)::L')->k c):
  bG (kJ h l) k:=by
 obtain⟨g,i,j⟩:=Hs.B8 (o':=lp P f p n e d .busy pd) rfl (show Hs G h (ot l (lp P f p n e d .ready pd)::L') from m.of q)
 exact⟨_,by simp only[kJ,setLoop,g,lp];rw[aJ7 i];rfl,o _ j⟩
theorem uu {f:FuncId} {p:List Nat} {n:Nat} {e:Nat->Value} {d l:Nat} {st:LoopState} {pd:Option Code} {k:Option Code->AH->Prop} (s:Hs G h L) [m:Has (pH P f p n e d l) L (st,pd) L'] (c:st≠.busy) (q:∀g,Hs G g L'->k pd g):
  bG (sC h l) fun r=>k r.1 r.2:=by
 obtain⟨i,j,o⟩:=Hs.B8 (o':=lp P f p n e d .exhausted pd) rfl (show Hs G h (ot l (lp P f p n e d st pd)::L') from m.of s)
 refine⟨(pd,_),?_,q _ o.tail⟩
 simp only[sC,i,lp]
 rw[aJ6 c]
 simp only[setLoop,i,lp]
 rw[aJ7 j];rfl
theorem aHr {f:FuncId} {p:List Nat} {n:Nat} {e:Nat->Value} {d l:Nat} {st:LoopState} {pd:Option Code} (c:Hs G h L) [m:Has (pH P f p n e d l) L (st,pd) L']:h.get l=some (lp P f p n e d st pd):=
 (Hs.B8 (o':= .marks true) rfl (show Hs G h (ot l (lp P f p n e d st pd)::L') from m.of c)).1
end Go.Ab
end
section
namespace Go.Ab
variable {P:Program} {K:FuncId->List Value->Option jI} {G:Bg} {h:AH} {L L' M:List HP}
def cN (W:Nat) (e:TypeId) (a:Option Addr) (cap:Nat) (x:Nat×List Value):HP:=fun r=>
 x.2.length=x.1*W/\x.2.all eF=true/\
 ((x.1=0/\r=cS.emp/\cap=0/\(a=none\/∃b o,a=some ⟨b,o,some 1⟩))\/
  (x.1=0/\cap=0/\∃b o i,a=some ⟨b,o,some 2⟩/\o<=i.length/\r=mI b i (some (.mt e false i.length)))\/
  (x.1<=cap/\∃b g c ex,a=some ⟨b,g.length,none⟩/\g.length+cap*W<=(g++x.2++c).length/\r=mI b (g++x.2++c) (some (.mt e ex (g++x.2++c).length))))
theorem gK {W:Nat} {e:TypeId} (g:Hs G h L):Hs G h (cN W e none 0 (0,[])::L):=by
 refine Hs.join (A:=[]) g fun r c=>?_;exact⟨by simp,rfl,.inl ⟨rfl,c,rfl,.inl rfl⟩⟩
theorem tD {b:Nat} {c:List Value} {e:TypeId} {x:Bool} {r:cS} (h:star [aG b 0 c,mt b (e,x,c.length)] r):r=mI b c (some (.mt e x c.length)):=by
 obtain⟨I,J,m,⟨r3,N,o,q,A,B⟩,v,z⟩:=h;obtain⟨C,D,g1,⟨E,F,g,j,t,u⟩,g3,s⟩:=pS (i:=b) (c:=c) (e:=e) (x:=x);cases m;cases o;cases q;cases g1;cases g;cases j;grind
theorem dL {W:Nat} {e:TypeId} {l:List Value} {n c:Nat} {k:Value->AH->Prop} (q:Hs G h L) (i:l.length=c*W) (m:n=c) (hb:l.all eF=true)
  (j:∀a g,Hs G g (cN W e (some a) c (n,l)::L)->k (.slice (some a) n c) g):wW h W e l n c k:=by
 subst m
 refine j _ _ ?_
 have:=q.new (c:=l) (e:=e) (x:=true)
 refine Hs.join (A:=[_,_]) this fun r o=>?_
 have:=tD o
 exact⟨i,hb,.inr (.inr ⟨Nat.le_refl _,h.next,[],[],true,rfl,by simp[i],by simpa using this⟩)⟩
theorem jV {W r i N:Nat} {D:List Nat} {e:TypeId} {l:List Value} {n c:Nat} {k:Value->AH->Prop} (u:Hs G h L) [m:Has (af r) L (N,D) L'] (v:Nat.blt i N=true) (hD:D.contains i=false) (j:l.length=c*W) (s:n=c) (hb:l.all eF=true)
  (o:∀a g,Hs G g (cN W e (some a) c (n,l)::af r (N,i::D)::L')->k (.slice (some a) n c) g):lR h (r+i) W e l n c k:=by
 subst s
 refine o _ _ ?_
 have:=Hs.newAt (i:=i) (c:=l) (e:=e) (x:=true) (show Hs G h (yr r N D::L') from m.of u) (by simp_all) (by simpa using hD)
 refine Hs.join (A:=[_,_]) this fun q t=>?_
 have:=tD t
 exact⟨j,hb,.inr (.inr ⟨Nat.le_refl _,r+i,[],[],true,rfl,by simp[j],by simpa using this⟩)⟩
theorem Hs.fst {A:HP} (m:Hs G h (A::L)):∃r c,A r/\star L c/\r.vA c/\r.In h/\c.In h:=by
 obtain⟨q,⟨t,c,o,s,g,i⟩,j⟩:=m.res;subst i;obtain⟨i1,i2⟩:=(cS.fS g).1 j;grind
theorem Hs.Ap {W:Nat} {e:TypeId} {a:Option Addr} {cap:Nat} {x:Nat×List Value} (g:Hs G h (cN W e a cap x::L)):x.2.length=x.1*W:=by
 obtain⟨r,_,c,_⟩:=g.fst;exact c.1
theorem Hs.zM {W:Nat} {e:TypeId} {a:Option Addr} {cap:Nat} {x:Nat×List Value} (g:Hs G h (cN W e a cap x::L)):x.2.all eF=true:=by
 obtain⟨r,_,c,_⟩:=g.fst;exact c.2.1
theorem Hs.oG {W:Nat} {e:TypeId} {a:Option Addr} {cap n:Nat} {cs:List Value} (J:Hs G h (cN W e a cap (n,cs)::L)) (h0:0<n):
  ∃b o,a=some ⟨b,o,none⟩/\∃H:HP,Hs G h (aG b o cs::H::L)/\∀U m M,m.length=cs.length->m.all eF=true->Hs G U (aG b o m::H::M)->Hs G U (cN W e a cap (n,m)::M):=by
 have N:∀b (j g:List Value) ex,∀m:List Value,m.length=cs.length->∀r,star [aG b j.length m,fun r=>star [aG b 0 j,aG b (j.length+cs.length) g,mt b (e,ex,(j++cs++g).length)] r] r↔r=mI b (j++m++g) (some (.mt e ex (j++m++g).length)):=by
  intro b j g ex m R r;have e1:(j++cs++g).length=(j++m++g).length:=by simp[R]
  have e2:∀q,star [aG b 0 (j++m++g),mt b (e,ex,(j++m++g).length)] q->star [aG b j.length m,fun r=>star [aG b 0 j,aG b (j.length+cs.length) g,mt b (e,ex,(j++cs++g).length)] r] q:=by
   intro q I;obtain⟨r1,C,V,h2,D,Y⟩:=I;have X:=(B0 r1).1 V;obtain⟨s1,s2,g1,⟨s3,s4,g2,g3,g4,O⟩,T,Q⟩:=X;have S:=(B0 s1).1 g1;cases g3;rw[cS.add_comm (s:=cS.emp) cS.dS.symm,cS.gJ] at O;subst O;have E:star ([aG b 0 j,aG b (0+j.length) m]++([aG b (0+(j++m).length) g]++[mt b (e,ex,(j++m++g).length)])) q:=by
    refine iV.2 ⟨s1,s2.add C,S,iV.2 ⟨s2,C,⟨s2,cS.emp,g2,rfl,cS.dS.symm,by rw[cS.add_comm (s:=cS.emp) cS.dS.symm,cS.gJ]⟩,h2,?_,rfl⟩,?_,?_⟩;rw[Q] at D;exact(cS.iL.1 D.symm).2.symm;rw[Q] at D;exact cS.iL.2 ⟨T,(cS.iL.1 D.symm).1.symm⟩;rw[Y,Q,cS.add_assoc]
   have hp:star ([aG b (0+j.length) m]++[aG b 0 j,aG b (0+(j++m).length) g,mt b (e,ex,(j++m++g).length)]) q:=Gw (List.Perm.swap _ _ _) q E;obtain⟨u1,u2,w1,w2,w3,w4⟩:=iV.1 hp;rw[Nat.zero_add] at w1;obtain⟨v1,v2,x1,x2,x3,x4⟩:=w1;cases x2;rw[cS.add_comm (s:=cS.emp) cS.dS.symm,cS.gJ] at x4;subst x4;refine⟨u1,u2,x1,⟨u2,cS.emp,?_,rfl,cS.dS.symm,by rw[cS.add_comm (s:=cS.emp) cS.dS.symm,cS.gJ]⟩,w3,w4⟩;grind
  constructor;intro v;have hb:=e2 _ (pS (i:=b) (c:=j++m++g) (e:=e) (x:=ex));obtain⟨r1,C,V,⟨r3,r4,h5,h6,h7,h8⟩,D,Y⟩:=v;obtain⟨q1,q2,g1,⟨q3,q4,O,T,Q,g8⟩,g3,g4⟩:=hb;cases V;cases g1;cases h6;cases T;rw[cS.add_comm (s:=cS.emp) cS.dS.symm,cS.gJ] at h8 g8;subst h8;subst g8;have:C=q2:=by
   obtain⟨a1,a2,b1,⟨a3,a4,b2,⟨a5,a6,b3,b4,b5,b6⟩,b7,b8⟩,b9,γ⟩:=h5;obtain⟨c1,c2,d1,⟨c3,c4,d2,⟨c5,c6,d3,d4,d5,d6⟩,d7,d8⟩,d9,d10⟩:=O;cases b1;cases b2;cases b3;cases b4;cases d1;cases d2;cases d3;cases d4;grind
  rw[Y,g4,this];intro v;subst v;exact e2 _ pS
 obtain⟨r,C,v,α,hd,hi,Z⟩:=J.fst
 obtain⟨R,hc,v⟩:=v
 simp only at R hc
 rcases v with⟨hz,_⟩|⟨hz,_⟩|⟨F,b,j,g,ex,rfl,hle,β⟩
 .simp at hz;omega
 .simp at hz;omega
 .refine⟨b,j.length,rfl,fun r=>star [aG b 0 j,aG b (j.length+cs.length) g,mt b (e,ex,(j++cs++g).length)] r,?_,?_⟩
  .have z:Hs G h ((fun r=>r=mI b (j++cs++g) (some (.mt e ex (j++cs++g).length)))::L):=⟨J.base,J.old,J.wf,J.fr,_,⟨r,C,β,α,hd,rfl⟩,(cS.fS hd).2 ⟨hi,Z⟩⟩;exact z.imp (B:=[_,_]) fun q I=>(N b j g ex cs rfl q).2 I
  .intro U m M u t z;refine Hs.join (A:=[_,_]) z fun q I=>?_;have:=(N b j g ex m u q).1 I;refine⟨by rw[u];exact R,t,.inr (.inr ⟨F,b,j,g,ex,rfl,?_,this⟩)⟩;grind
theorem Kf {b:Nat} {c:List Value} {e:TypeId} {x:Bool} {r:cS} (i:(mI b c (some (.mt e x c.length))).In h) (_g:r.In h):h.base<=b/\h.get b=some (.cells c e (0,0) x):=by
 obtain⟨o,s,q,u⟩:=i.mt b e x c.length (by simp[mI]);refine⟨o,?_⟩;rw[q];congr 2;refine List.ext_getElem? fun j=>?_;rcases Nat.lt_or_ge j c.length with m|m;obtain⟨_,c2,t,v,g1,g2⟩:=i.cell b j c[j] (by simp[mI,m]);grind;grind
theorem Hs.kill {b:Nat} {c c2:List Value} {e e2:TypeId} {x x2:Bool} (q:Hs G h ((fun r=>r=mI b c (some (.mt e x c.length)))::L)):Hs G ((h.set b none).alloc (.cells c2 e2 (0,0) x2)) ((fun r=>r=mI h.next c2 (some (.mt e2 x2 c2.length)))::L):=by
 obtain⟨r,u,B,C,E,t,g⟩:=q.fst;subst B;obtain⟨I,O⟩:=Kf t g;have m:∀j,(h.set b none).get j=if j=b then none else h.get j:=fun j=>AH.jO I
 have J:∀j,(u.tok j≠none\/∃o,u.cell j o≠none)->j≠b:=by
  intro j F z;subst z;rcases F with s|⟨o,s⟩;rcases E.tok j with h|h;simp[mI] at h;exact s h;rcases E.cell j o with h|h;simp only[mI,if_true] at h;cases hc:u.cell j o with
  |none=>exact s hc
  |some v=>
   obtain⟨_,N,_,_,g1,g2⟩:=g.cell j o v hc;grind
  exact s h
 have D:Hs G (h.set b none) L:=by
  refine⟨by simp;exact q.base,by rw[AH.A9];exact q.old,by simp;exact q.wf,fun i t=>by simp at t;rw[m];split;rfl;exact q.fr i t,u,C,?_⟩;exact g.of (by simp) (by simp) fun j F=>by grind
 have:=D.new (c:=c2) (e:=e2) (x:=x2);rw[AH.s7] at this;exact Hs.join (A:=[_,_]) this fun r B=>tD B
theorem oO {a:Option Addr} {n c:Nat}:vO (.slice a n c)=some n:=rfl
theorem aBb {W bytes:Nat} {e:TypeId} {a:Option Addr} {c n m:Nat} {cs ns:List Value} {src:Value} {k:Value->AH->Prop} (D:Hs G h L) [mm:Has (cN W e a c) L (n,cs) L']
  (v:vO src=some m) (C:gP h W m src=some ns) (θ:ns.all eF=true) (ο:ns.length=m*W) (T:(n+m)*(bytes+1)<=2^46)
  (hk:∀a' c' h',Hs G h' (cN W e a' c' (n+m,cs++ns)::L')->k (.slice a' (n+m) c') h'):bG (jK W bytes e h (.slice a n c) src) fun r=>k r.1 r.2:=by
 have δ:=mm.of D
 obtain⟨r,r2,hr,X,Z,U,F⟩:=δ.fst
 obtain⟨hl,hc,hr⟩:=hr
 simp only at hl hc hr
 have z:(!ns.all eF||ns.length !=m*W)=false:=by simp[θ,ο]
 have J:(cs++ns).all eF=true:=by grind
 have Q:(cs++ns).length=(n+m)*W:=by grind
 have E:∀{h1:AH},Hs G h1 ((fun r=>r=mI h.next (cs++ns) (some (.mt e false (cs++ns).length)))::L')->Hs G h1 (cN W e (some ⟨h.next,0,none⟩) (n+m) (n+m,cs++ns)::L'):=by
  intro h1 hh;refine Hs.join (A:=[_]) hh fun q R=>?_;obtain⟨q1,q2,e1,e2,e3,e4⟩:=R;cases e1;cases e2;rw[cS.add_comm (s:=cS.emp) cS.dS.symm,cS.gJ] at e4;exact⟨Q,J,.inr (.inr ⟨Nat.le_refl _,h.next,[],[],false,rfl,by grind,by simpa using e4⟩)⟩
 by_cases hm:m=0
 .subst hm;have:ns=[]:=List.eq_nil_of_length_eq_zero (by omega);subst this;have V:=hk a c h (by simpa using δ);rcases hr with⟨rfl,ρ,rfl,ha⟩|⟨rfl,rfl,b,o,β,rfl,_⟩|⟨N,b,g,t,ex,rfl,hle,Y⟩
  .rcases ha with rfl|⟨b,o,rfl⟩
   .exact⟨(.slice none 0 0,h),by simp[jK,v,C],by simpa using V⟩
   .exact⟨(.slice _ 0 0,h),by simp[jK,v,C];rfl,by simpa using V⟩
  .exact⟨(.slice _ 0 0,h),by simp[jK,v,C];rfl,by simpa using V⟩
  .exact⟨(.slice _ n c,h),by simp[jK,v,C,N];rfl,by simpa using V⟩
 .have α:Hs G h L':=δ.tail;rcases hr with⟨rfl,ρ,rfl,ha⟩|⟨rfl,rfl,b,o,β,rfl,ho,Y⟩|⟨N,b,g,t,ex,rfl,hle,Y⟩
  .have γ:cs=[]:=List.eq_nil_of_length_eq_zero (by simpa using hl);subst γ;have ι:=α.new (c:=ns) (e:=e) (x:=false);have I:=E (Hs.join (A:=[_,_]) ι fun q R=>tD R);have u:¬(0+m<=0):=by omega
   rcases ha with rfl|⟨b,o,rfl⟩
   .refine⟨(.slice (some ⟨h.next,0,none⟩) m m,h.alloc (.cells ns e (0,0) false)),?_,by grind⟩;simp only[jK,v,C,z,Bool.false_eq_true,if_false,u,T,if_true]
   .refine⟨(.slice (some ⟨h.next,0,none⟩) m m,h.alloc (.cells ns e (0,0) false)),?_,by grind⟩;simp only[jK,v,C,z,Bool.false_eq_true,if_false,u,T,if_true]
  .have γ:cs=[]:=List.eq_nil_of_length_eq_zero (by simpa using hl);subst γ;subst Y;obtain⟨hb,hg⟩:=Kf U F;have S:Hs G h ((fun r=>r=mI b β (some (.mt e false β.length)))::L'):=⟨D.base,D.old,D.wf,D.fr,_,⟨_,r2,rfl,X,Z,rfl⟩,(cS.fS Z).2 ⟨U,F⟩⟩;have I:=E (S.kill (c2:=ns) (e2:=e) (x2:=false));have u:¬(0+m<=0):=by omega
   refine⟨(.slice (some ⟨h.next,0,none⟩) m m,(h.set b none).alloc (.cells ns e (0,0) false)),?_,by simpa using hk _ _ _ I⟩
   have ν:¬(some 2=some 1):=by simp
   simp only[jK,v,C,z,Bool.false_eq_true,if_false,u,T,if_true,ν,hg,hb,ho,and_self]
  .subst Y;obtain⟨hb,hg⟩:=Kf U F;by_cases u:n+m<=c
   .have hW:(n+m)*W<=c*W:=Nat.mul_le_mul_right _ u;rw[Nat.add_mul] at hW;have S:Hs G h ((fun r=>r=mI b (g++cs++t) (some (.mt e ex (g++cs++t).length)))::L'):=⟨D.base,D.old,D.wf,D.fr,_,⟨_,r2,rfl,X,Z,rfl⟩,(cS.fS Z).2 ⟨U,F⟩⟩;have σ:Hs G h (aG b 0 (g++cs++t)::mt b (e,ex,(g++cs++t).length)::L'):=S.imp (B:=[_,_]) fun q R=>by subst R;exact pS
    have π:g.length+cs.length+ns.length<=(g++cs++t).length:=by grind
    by_cases ξ:ns.length=0
    .have κ:ns=[]:=List.eq_nil_of_length_eq_zero ξ;subst κ;refine⟨(.slice (some ⟨b,g.length,none⟩) (n+m) c,h.set b (some (.cells (cC (g++cs++t) (g.length+n*W) []) e (0,0) ex))),?_,?_⟩
     .simp only[jK,v,C,z,Bool.false_eq_true,if_false,u,if_true,hm,Option.isSome_none,dE];simp only[eA,Option.isSome_none,Bool.false_or,List.all_nil,Bool.not_true,Bool.or_false,hg];grind
     .have ζ:cC (g++cs++t) (g.length+n*W) []=g++cs++t:=by simp only[cC,List.append_nil,List.length_nil,Nat.add_zero,List.take_append_drop]
      rw[ζ]
      refine hk _ _ _ ?_
      have:Hs G (h.set b (some (.cells (g++cs++t) e (0,0) ex))) ((fun r=>r=mI b (g++cs++t) (some (.mt e ex (g++cs++t).length)))::L'):=by
       have O:∀j,(h.set b (some (.cells (g++cs++t) e (0,0) ex))).get j=h.get j:=fun j=>by
        rw[AH.jO hb];grind
       refine⟨by simp;exact D.base,by rw[AH.A9];exact D.old,by simp;exact D.wf,fun i U=>by simp at U;rw[O];exact D.fr i U,_,⟨_,r2,rfl,X,Z,rfl⟩,(cS.fS Z).2 ⟨?_,?_⟩⟩;exact U.of (by simp) (by simp) fun j _=>O j;exact F.of (by simp) (by simp) fun j _=>O j
      refine Hs.join (A:=[_]) this fun q R=>?_
      obtain⟨q1,q2,e1,e2,e3,e4⟩:=R
      cases e1;cases e2
      rw[cS.add_comm (s:=cS.emp) cS.dS.symm,cS.gJ] at e4
      refine⟨Q,J,.inr (.inr ⟨u,b,g,t,ex,rfl,?_,by simpa using e4⟩)⟩
      grind
    .obtain⟨h',μ,ε⟩:=σ.write (j:=g.length+cs.length) (vs:=ns) π θ (by omega);rw[Nat.zero_add] at μ;refine⟨(.slice (some ⟨b,g.length,none⟩) (n+m) c,h'),?_,?_⟩
     .simp only[jK,v,C,z,Bool.false_eq_true,if_false,u,if_true,hm,Option.isSome_none,dE];rw[<-hl,μ];rfl
     .refine hk _ _ _ ?_;have ζ:cC (g++cs++t) (g.length+cs.length) ns=g++(cs++ns)++t.drop ns.length:=by
       unfold cC;rw[List.take_append_of_le_length (by simp),List.take_of_length_le (by simp),List.drop_append];have:(g++cs).drop (g.length+cs.length+ns.length)=[]:=List.drop_eq_nil_of_le (by simp);rw[this];simp only[List.length_append,List.nil_append,List.append_assoc];rw[show g.length+cs.length+ns.length - (g.length+cs.length)=ns.length by omega]
      rw[ζ] at ε
      have η:(g++cs++t).length=(g++(cs++ns)++t.drop ns.length).length:=by grind
      rw[η] at ε
      refine Hs.join (A:=[_,_]) ε fun q R=>?_
      exact⟨Q,J,.inr (.inr ⟨u,b,g,t.drop ns.length,ex,rfl,by rw[<-η];exact hle,tD R⟩)⟩
   .have S:Hs G h ((fun r=>r=mI b (g++cs++t) (some (.mt e ex (g++cs++t).length)))::L'):=⟨D.base,D.old,D.wf,D.fr,_,⟨_,r2,rfl,X,Z,rfl⟩,(cS.fS Z).2 ⟨U,F⟩⟩;have τ:n*W<=c*W:=Nat.mul_le_mul_right _ N;have hold:cU h ⟨b,g.length,none⟩ (n*W)=some cs:=by
     simp only[cU,Option.isSome_none,Bool.false_eq_true,if_false,hg];rw[aac];simp only[Option.some.injEq];grind
    have h1:¬((none:Option Nat)=some 1):=by simp
    have h2:¬((none:Option Nat)=some 2):=by simp
    cases ex with
    |true=>
     have I:=E (Hs.join (A:=[_,_]) (α.new (c:=cs++ns) (e:=e) (x:=false)) fun q R=>tD R)
     refine⟨(.slice (some ⟨h.next,0,none⟩) (n+m) (n+m),h.alloc (.cells (cs++ns) e (0,0) false)),?_,hk _ _ _ I⟩
     simp only[jK,v,C,z,Bool.false_eq_true,if_false,u,T,if_true,h1,h2,hold,hg,hc,Bool.not_true]
    |false=>
     have I:=E (S.kill (c2:=cs++ns) (e2:=e) (x2:=false))
     refine⟨(.slice (some ⟨h.next,0,none⟩) (n+m) (n+m),(h.set b none).alloc (.cells (cs++ns) e (0,0) false)),?_,hk _ _ _ I⟩
     simp only[jK,v,C,z,Bool.false_eq_true,if_false,u,T,if_true,h1,h2,hold,hg,hc,Bool.not_true,hb,hle,and_self]
end Go.Ab
end
section
namespace Go.Ab
variable {P:Program} {K:FuncId->List Value->Option jI} {G:Bg} {h:AH} {L L' M:List HP}
abbrev wr (x:Int):Int:=IntKind.i64.wrap x
theorem a8 {x:Int} (h: -9223372036854775808<=x/\x<=9223372036854775807):wr x=x:=IntWalk.i64_in _ (by omega)
section
variable {k:Value->Prop} {a b:Int} {x y:Value}
theorem Xb {α:Type} {o:Option α} {v:α} {k:α->Prop} (g:o=some v) (c:k v):bG o k:=⟨v,g,c⟩
theorem aA {b o j n:Nat} (c:k (pt b o (j+n))):bG (gX n (pt b o j)) k:=⟨_,by simp[gX,pt,dE,Nat.add_assoc],c⟩
theorem aB {b o j:Nat} (c:k (pt b o j)):bG (mT (pt b o j)) k:=⟨_,rfl,c⟩
theorem aH {i:Nat} {vs:List Value} {v:Value} (g:vs[i]?=some v) (c:k v):bG (rA i (.tuple ⟨vs⟩)) k:=⟨v,g,c⟩
theorem ct {j:Nat} {l:List Value} {v:Value} (g:l[j]?=some v) (c:k v):bG (rG j (.agg ⟨l⟩)) k:=⟨v,g,c⟩
theorem Ik {j n:Nat} {l m:List Value} (i:Nat.ble (j+n) l.length=true) (g:(l.drop j).take n=m) (c:k (.agg ⟨m⟩)):bG (pJ j n (.agg ⟨l⟩)) k:=
 ⟨_,by have:=Nat.le_of_ble_eq_true i;simp[pJ,this,g],c⟩
theorem bU {a:Option Addr} {n c:Nat} (g:k (I n)):bG (kU (.slice a n c)) k:=⟨_,rfl,g⟩
theorem bN (h: -9223372036854775808<=a+b/\a+b<=9223372036854775807) (c:k (I (a+b))):bG (vE .add (I a) (I b)) k:=⟨_,by show some (Value.int .i64 (wr (a+b)))=_;rw[a8 h],c⟩
theorem aad (c:k (I (a+b)))(h: -9223372036854775808<=a+b/\a+b<=9223372036854775807:=by omega):bG (vE .add (I a) (I b)) k:=⟨_,by show some (Value.int .i64 (wr (a+b)))=_;rw[a8 h],c⟩
theorem rL (h: -9223372036854775808<=a - b/\a - b<=9223372036854775807) (c:k (I (a - b))):bG (vE .sub (I a) (I b)) k:=⟨_,by show some (Value.int .i64 (wr (a - b)))=_;rw[a8 h],c⟩
theorem Ds (h: -9223372036854775808<=a*b/\a*b<=9223372036854775807) (c:k (I (a*b))):bG (vE .mul (I a) (I b)) k:=⟨_,by show some (Value.int .i64 (wr (a*b)))=_;rw[a8 h],c⟩
theorem Li (c:k (I (wr (a+b)))):bG (vE .add (I a) (I b)) k:=⟨_,rfl,c⟩
theorem E3 (c:0<=a) (hb:0<b) (h:a<=9223372036854775807) (g:k (I (a/b))):bG (vE .quo (I a) (I b)) k:=by
 refine⟨_,?_,g⟩;show Nr .quo .i64 a b=_;simp only[Nr];rw[aaa,Int.tdiv_eq_ediv_of_nonneg c];have i:0<=a/b:=Int.ediv_nonneg c (by omega);have j:a/b<=a:=Int.ediv_le_self b c;rw[show IntKind.i64.wrap (a/b)=a/b from a8 (by omega)]
theorem Me (g:0<=a) (hb:0<b) (c:k (I (a % b))):bG (vE .rem (I a) (I b)) k:=by
 refine⟨_,?_,c⟩;show Nr .rem .i64 a b=_;simp only[Nr];grind
theorem Yb (hb:b≠0) (c:k (I (a.tmod b))):bG (vE .rem (I a) (I b)) k:=by
 refine⟨_,?_,c⟩;show Nr .rem .i64 a b=_;simp only[Nr];rw[aJ6 hb]
theorem bH (c:k (.bool (decide (a=b)))):bG (vE .eql (I a) (I b)) k:=⟨_,by show some (Value.bool (a==b))=_;rfl,c⟩
theorem bC (c:k (.bool (decide (a≠b)))):bG (vE .neq (I a) (I b)) k:=⟨_,by show some (Value.bool (a !=b))=_;grind,c⟩
theorem bA (c:k (.bool (decide (a<b)))):bG (vE .lss (I a) (I b)) k:=⟨_,rfl,c⟩
theorem zB (c:k (.bool (decide (a<=b)))):bG (vE .leq (I a) (I b)) k:=⟨_,rfl,c⟩
theorem mC (c:k (.bool (decide (b<a)))):bG (vE .gtr (I a) (I b)) k:=⟨_,rfl,c⟩
theorem dW (c:k (.bool (decide (b<=a)))):bG (vE .geq (I a) (I b)) k:=⟨_,rfl,c⟩
theorem ui {b o j:Nat} (c:k (.bool true)):bG (Ro .neq (pt b o j) (.pointer none)) k:=⟨_,rfl,c⟩
theorem dD {b o j:Nat} (c:k (.bool false)):bG (Ro .eql (pt b o j) (.pointer none)) k:=⟨_,rfl,c⟩
theorem cH {b:Bool} (c:k (.bool !b)):bG (Vm .not (.bool b)) k:=⟨_,rfl,c⟩
theorem dM {b o n c g i:Nat} (j:i<n) (m:k (pt b (o+i*g) 0)):bG (lB g (.slice (some ⟨b,o,none⟩) n c) (I i)) k:=⟨_,by simp[lB,j,dE,pt],m⟩
theorem dX {b o j n c:Nat} (g:0<=a) (i:a<n) (m:k (pt b o (j+a.toNat*c))):bG (oL n c (pt b o j) (I a)) k:=⟨_,by simp[oL,g,i,dE,pt,Nat.add_assoc],m⟩
theorem bS {c:Prop} [Decidable c] {p q:Prop} (h:c) (i:p):Br (.bool (decide c)) p q:=⟨_,rfl,fun _=>i,fun g=>absurd h (by simpa using g)⟩
theorem aae {c:Prop} [Decidable c] {p q:Prop} (i:p)(h:c:=by omega):Br (.bool (decide c)) p q:=⟨_,rfl,fun _=>i,fun g=>absurd h (by simpa using g)⟩
theorem aU {c:Prop} [Decidable c] {p q:Prop} (h:¬c) (i:q):Br (.bool (decide c)) p q:=⟨_,rfl,fun g=>absurd (by simpa using g) h,fun _=>i⟩
theorem aab {c:Prop} [Decidable c] {p q:Prop} (i:q)(h:¬c:=by omega):Br (.bool (decide c)) p q:=⟨_,rfl,fun g=>absurd (by simpa using g) h,fun _=>i⟩
theorem aX {c:Prop} [Decidable c] {p q:Prop} (i:c->p) (j:¬c->q):Br (.bool (decide c)) p q:=⟨_,rfl,fun g=>i (by simpa using g),fun g=>j (by simpa using g)⟩
theorem eU {p q:Prop} (c:p):Br (.bool true) p q:=za.2 c
theorem cG {p q:Prop} (c:q):Br (.bool false) p q:=pz.2 c
theorem dI {b:Bool} {p q:Prop} (c:b=true->p) (g:b=false->q):Br (.bool b) p q:=⟨_,rfl,c,g⟩
theorem eB {b:Bool} {p q:Prop} (h:Br (.bool b) q p):Br (.bool !b) p q:=by obtain⟨c,i,j,g⟩:=h;cases i;cases b;exact⟨_,rfl,fun _=>g rfl,fun h=>(by cases h)⟩;simp_all
end
theorem aQ {z c:List Value} {ps:List (Nat×Nat×Value)} {k:List Value->Prop} (i:oN z ps=some c) (g:k c):bG (oN z ps) k:=⟨c,i,g⟩
theorem bT {p q:Prop} (c:p) (g:q):p/\q:=⟨c,g⟩
theorem gF {a:Int}:nG (I a) (I a)=true:=by simp[nG]
theorem aFx {a:Bool}:nG (.bool a) (.bool a)=true:=by simp[nG]
theorem bZ {b o j:Nat}:nG (pt b o j) (pt b o j)=true:=by simp[nG,pt]
theorem Hq {a:Option Addr} {n c:Nat}:nG (.slice a n c) (.slice a n c)=true:=by simp[nG]
theorem Ah {g:FuncId} {first captured:Array Value} {l:Nat} {q:Value->AH->Prop} (hc:callable P g=true) (c:Cl P K g (first.toList++[.func (.yield l) #[] #[]]++captured.toList) h q):Vx P K (.func (.func g) first captured) l h q:=⟨hc,c⟩
theorem mZ {g:FuncId} {first captured:Array Value} {args:List Value} {q:Value->AH->Prop} (hc:callable P g=true) (c:Cl P K g (first.toList++args++captured.toList) h q):yO P K (.func (.func g) first captured) args h q:=⟨hc,c⟩
end Go.Ab
end
section
namespace Go.Ab
variable {P:Program} {K:FuncId->List Value->Option jI} {G:Bg} {h:AH} {L L' M:List HP}
def sp (A:List HP):HP:=fun r=>star A r
theorem Hs.pack {A:List HP} (c:Hs G h (A++L)):Hs G h (sp A::L):=c.join fun _ h=>h
theorem Hs.unpack {A:List HP} (c:Hs G h (sp A::L)):Hs G h (A++L):=c.imp fun _ h=>h
def vD {α:Type} (A:α->HP):HP:=fun r=>∃x,A x r
theorem Hs.zX {α:Type} {A:α->HP} (x:α) (m:Hs G h (A x::L)):Hs G h (vD A::L):=Hs.join (A:=[A x]) m fun r j=>by
 obtain⟨o,q,g,i,_,c⟩:=j;cases i;rw[cS.add_comm (s:=cS.emp) cS.dS.symm,cS.gJ] at c;subst c;exact⟨x,g⟩
theorem Tf {A:HP} {r:cS}:star [A] r↔A r:=by
 constructor;intro⟨m,o,g,i,_,c⟩;cases i;rw[cS.add_comm (s:=cS.emp) cS.dS.symm,cS.gJ] at c;subst c;exact g;intro j;exact⟨r,cS.emp,j,rfl,cS.dS.symm,by rw[cS.add_comm (s:=cS.emp) cS.dS.symm,cS.gJ]⟩
theorem Hs.B4 {α:Type} {A:α->HP} (c:Hs G h (vD A::L)):∃x,Hs G h (A x::L):=by
 obtain⟨r,q,⟨x,o⟩,i,g,j,m⟩:=c.fst;exact⟨x,c.base,c.old,c.wf,c.fr,_,⟨r,q,o,i,g,rfl⟩,(cS.fS g).2 ⟨j,m⟩⟩
def B6 (p:Prop):HP:=fun r=>p/\r=cS.emp
theorem Hs.Sz {p:Prop} (c:p) (i:Hs G h L):Hs G h (B6 p::L):=Hs.join (A:=[]) i fun _ g=>⟨c,g⟩
theorem Hs.xw {p:Prop} (c:Hs G h (B6 p::L)):p/\Hs G h L:=by
 obtain⟨r,_,⟨g,_⟩,_⟩:=c.fst;exact⟨g,c.tail⟩
def dF (n:Nat) (f:Nat->HP):HP:=sp ((List.range n).map f)
theorem Kz {n i:Nat} {f:Nat->HP} (c:i<n):((List.range n).map f).Perm (f i::((List.range n).erase i).map f):=by
 have:(List.range n).Perm (i::(List.range n).erase i):=List.perm_cons_erase (List.mem_range.2 c);exact this.map f
theorem Hs.jX {n:Nat} {f:Nat->HP} (m:Hs G h (dF n f::L)) (i:Nat) (j:i<n):Hs G h (f i::sp (((List.range n).erase i).map f)::L):=by
 have c:=m.unpack.perm ((Kz j).append_right L);have g:Hs G h (((List.range n).erase i).map f++f i::L):=c.perm (by simpa using List.perm_middle.symm);exact(g.pack).perm (List.Perm.swap _ _ _)
theorem Hs.aB8 {n i:Nat} {f g:Nat->HP} (m:i<n) (s:∀j,j≠i->g j=f j) (r:Hs G h (g i::sp (((List.range n).erase i).map f)::L)):Hs G h (dF n g::L):=by
 have c:=(r.perm (List.Perm.swap _ _ _)).unpack;have q:((List.range n).erase i).map f=((List.range n).erase i).map g:=List.map_congr_left fun j o=>by
  have:j≠i:=by
   intro e;subst e;exact List.Nodup.not_mem_erase List.nodup_range o
  grind
 rw[q] at c;refine(c.perm ?_).pack;exact(List.perm_middle.trans ((Kz m).symm.append_right L))
theorem qB {n:Nat} {f g:Nat->HP} (c:∀j,j<n->g j=f j) (m:Hs G h (dF n f::L)):Hs G h (dF n g::L):=by
 have:(List.range n).map f=(List.range n).map g:=List.map_congr_left fun j i=>(c j (List.mem_range.1 i)).symm;unfold dF at m ⊢;grind
theorem Hs.Tw {f:Nat->HP} (c:Hs G h L):Hs G h (dF 0 f::L):=Hs.pack (A:=[]) c
theorem Hs.Tz {n:Nat} {f:Nat->HP} (g:Hs G h (f n::dF n f::L)):Hs G h (dF (n+1) f::L):=by
 have c:=(g.perm (List.Perm.swap _ _ _)).unpack;refine Hs.pack (A:=(List.range (n+1)).map f) (c.perm ?_);rw[List.range_succ,List.map_append];simp
theorem yO.mono {f:Value} {args:List Value} {Q c:Value->AH->Prop} (k:yO P K f args h Q) (i:∀v g,Q v g->c v g):yO P K f args h c:=by
 unfold yO at k ⊢;split at k;exact⟨k.1,Ok.mono k.2 fun _ _=>i _ _⟩;exact Ok.mono k fun _ _=>i _ _;cases k
theorem fu {l:Nat} {args:List Value} {Q:Value->AH->Prop} (k:Ok P K (.round l args) h fun o c=>Q o.v c):yO P K (.func (.yield l) #[] #[]) args h Q:=by
 simpa [yO] using k
def uc (P:Program) (K:FuncId->List Value->Option jI) (G:Bg) (f:FuncId) (first captured:List Value) (A:HP) (xs:List (List Value)):Prop:=
 ∀(I:List (List Value)->HP) (J:HP) (y:Value) (L:List HP) (h:AH) (Q:Value->AH->Prop),Hs G h (A::I xs::L)->
  (∀x rest h M,Hs G h (I (x::rest)::M)->yO P K y x h fun v c=>(v= .bool true/\Hs G c (I rest::M))\/(v= .bool false/\Hs G c (J::M)))->
  (∀v c,Hs G c (A::I []::L)->Q v c)->(∀v c,Hs G c (A::J::L)->Q v c)->Cl P K f (first++[y]++captured) h Q
class dY (A:HP) (L:List HP) (L':outParam (List HP)):Prop where
 perm:L.Perm (A::L')
instance (priority:=low) dY.there {A B:HP} [k:dY A L L']:dY A (B::L) (B::L'):=⟨(k.perm.cons B).trans (List.Perm.swap _ _ _)⟩
instance (priority:=high) dY.here {A:HP}:dY A (A::L) L:=⟨List.Perm.refl _⟩
instance (priority:=high) dY.app {A B:HP} {c L2:List HP} [k:dY A (B::(c++L2)) L']:dY A ((B::c)++L2) L':=k
instance (priority:=high) dY.aCt {A:HP} {L2:List HP} [k:dY A L2 L']:dY A ([]++L2) L':=k
class Sub (L M:List HP):Prop where
 to:∀r,star L r->∃r1 r2,star M r1/\r1.vA r2/\r=r1.add r2
theorem aA4 {r:cS}:r.add cS.emp=r:=by rw[cS.add_comm cS.dS.symm,cS.gJ]
instance (priority:=low) Sub.skip {A:HP} [k:Sub L M]:Sub (A::L) M:=⟨fun r ⟨j,m,o,c,g,i⟩=>by
 obtain⟨s1,s2,g1,g2,g3⟩:=k.to m c;subst g3;obtain⟨d1,d2⟩:=cS.iL.1 g;exact⟨s1,j.add s2,g1,cS.iL.2 ⟨d1.symm,g2⟩,by rw[i,<-cS.add_assoc,<-cS.add_assoc,cS.add_comm d1]⟩⟩
instance Sub.take {A:HP} [k:dY A L L'] [q:Sub L' M]:Sub L (A::M):=⟨fun r o=>by
 obtain⟨c,s,g,i,j,m⟩:=Gw k.perm r o;obtain⟨s1,s2,g1,g2,g3⟩:=q.to s i;subst g3;obtain⟨d1,d2⟩:=cS.iL.1 j;exact⟨c.add s1,s2,⟨c,s1,g,g1,d1,rfl⟩,(cS.iL.2 ⟨d2.symm,g2.symm⟩).symm,by rw[m,cS.add_assoc]⟩⟩
instance (priority:=high) Sub.refl:Sub L L:=⟨fun r c=>⟨r,cS.emp,c,cS.dS.symm,aA4.symm⟩⟩
instance (priority:=high) Sub.app {A:HP} {c L2:List HP} [k:Sub L (A::(c++L2))]:Sub L ((A::c)++L2):=k
instance (priority:=high) Sub.aCt {L2:List HP} [k:Sub L L2]:Sub L ([]++L2):=k
instance (priority:=high) Sub.aIn {A:HP} {c L2:List HP} [k:Sub (A::(c++L2)) M]:Sub ((A::c)++L2) M:=k
instance (priority:=high) Sub.sp {A:List HP} [k:Sub L (A++M)]:Sub L (sp A::M):=⟨fun r m=>by
 obtain⟨s1,s2,g1,g2,g3⟩:=k.to r m;obtain⟨o,q,c,g,i,j⟩:=iV.1 g1;exact⟨s1,s2,⟨o,q,c,g,i,j⟩,g2,g3⟩⟩
theorem Hs.to (c:Hs G h L) [k:Sub L M]:Hs G h M:=⟨c.base,c.old,c.wf,c.fr,by
 obtain⟨r,g,i⟩:=c.res;obtain⟨j,m,g1,g2,g3⟩:=k.to r g;subst g3;exact⟨j,g1,((cS.fS g2).1 i).1⟩⟩
theorem Hs.lK {A B:HP} (c:Hs G h (B::A::L)):Hs G h (A::B::L):=c.perm (List.Perm.swap _ _ _)
theorem yP {p:Prop} {A:List HP} (c:p) (g:Hs G h (sp A::L)):Hs G h (sp (B6 p::A)::L):=Hs.pack (A:=B6 p::A) (Hs.Sz c g.unpack)
theorem iD {p:Prop} {A:List HP} (c:Hs G h (sp (B6 p::A)::L)):p/\Hs G h (sp A::L):=let⟨a,b⟩:=Hs.xw c.unpack;⟨a,b.pack⟩
theorem tA {a b:Prop} {c:List (Nat×Prop)} (g:a):tE none a b c:=g
theorem su {a b:Prop} {c:List (Nat×Prop)} (g:b):tE (some .ret) a b c:=g
theorem Qp {a b q:Prop} {c:List (Nat×Prop)} {id:Nat} (i:c.lookup id=some q) (g:q):tE (some (.exit id)) a b c:=by simp only[tE,i];exact g
theorem aFt {b o j m:Nat} (h:m<=j):pt b o j=pt b (o+m) (j - m):=by simp only[pt];grind
end Go.Ab
end
section
namespace Go.Ab
variable {P:Program} {K:FuncId->List Value->Option jI} {G:Bg} {h:AH} {L L' M:List HP}
class Cv (v:Value) (cs:outParam (List Value)):Prop where
 eq:iX v=some cs
instance {a:Int}:Cv (I a) [I a]:=⟨rfl⟩
instance {a:Bool}:Cv (.bool a) [.bool a]:=⟨rfl⟩
instance {b o j:Nat}:Cv (pt b o j) [pt b o j]:=⟨rfl⟩
instance {a:Option Addr}:Cv (.pointer a) [.pointer a]:=⟨rfl⟩
instance {a:Option Addr} {n c:Nat}:Cv (.slice a n c) [.slice a n c]:=⟨rfl⟩
instance {l:List Value}:Cv (.agg ⟨l⟩) l:=⟨rfl⟩
instance {f:Fn} {a b:Array Value}:Cv (.func f a b) [.func f a b]:=⟨rfl⟩
theorem dR {cs:List Value} {e:TypeId} {v:Value} {k:Nat->AH->Prop} (i:Hs G h L) [j:Cv v cs] (g:∀p c,Hs G c (aG p 0 cs::L)->k p c):bG (lG e v) fun b=>Cq h b k:=aF8 i j.eq g
theorem xD {r i n:Nat} {D:List Nat} {cs:List Value} {v:Value} {e:TypeId} {k:Nat->AH->Prop} (o:Hs G h L) [m:Has (af r) L (n,D) L'] [q:Cv v cs] (g:Nat.blt i n=true) (hD:D.contains i=false)
  (j:∀p c,Hs G c (aG p 0 cs::af r (n,i::D)::L')->k p c):bG (lG e v) fun b=>mN h (r+i) b k:=aAs o q.eq g hD j
theorem bJ {b o j n:Nat} {c vs:List Value} {v:Value} {k:AH->Prop} (t:Hs G h L) [m:Has (aG b o) L c L'] [u:Cv v vs] (s:vs.length=n) (r:Nat.ble (j+n) c.length=true) (hb:vs.all eF=true) (i:Nat.ble 1 c.length=true)
  (q:∀g,Hs G g (aG b o (dN c j vs)::L')->k g):bG (tZ h n (pt b o j) v) k:=aFj t u.eq s r hb i q
theorem ay {b o j n:Nat} {c vs:List Value} {v:Value} {k:AH->Prop} (t:Hs G h L) [m:Has (aG b o) L c L'] [u:Cv v vs] (q:∀g,Hs G g (aG b o (dN c j vs)::L')->k g) (s:vs.length=n:=by exact rfl) (r:Nat.ble (j+n) c.length=true:=by exact rfl) (hb:vs.all eF=true:=by exact rfl) (i:Nat.ble 1 c.length=true:=by exact rfl):bG (tZ h n (pt b o j) v) k:=bJ t s r hb i q
theorem Uo:∀(c vs:List Value),c.length=vs.length->dN c 0 vs=vs
 |[],[],_=>rfl
 |_::c,v::vs,h=>by simp only[dN];rw[Uo c vs (by simpa using h)]
theorem bE {b o n:Nat} {c vs:List Value} {v:Value} {k:AH->Prop} (s:Hs G h L) [m:Has (aG b o) L c L'] [t:Cv v vs] (g:Nat.beq c.length n=true) (j:Nat.ble 1 n=true) (r:vs.length=n) (hb:vs.all eF=true)
  (q:∀i,Hs G i (aG b o vs::L')->k i):bG (tZ h n (pt b o 0) v) k:=by
 have g:=Nat.eq_of_beq_eq_true g
 refine aFj s t.eq r (by rw[g];simp) hb (by rw[g];exact j) ?_
 rw[Uo c vs (by omega)];exact q
theorem ax {b o n:Nat} {c vs:List Value} {v:Value} {k:AH->Prop} (s:Hs G h L) [m:Has (aG b o) L c L'] [t:Cv v vs] (q:∀i,Hs G i (aG b o vs::L')->k i) (g:Nat.beq c.length n=true:=by exact rfl) (j:Nat.ble 1 n=true:=by exact rfl) (r:vs.length=n:=by exact rfl) (hb:vs.all eF=true:=by exact rfl):bG (tZ h n (pt b o 0) v) k:=bE s g j r hb q
structure LpX where
 P:Program
 f:FuncId
 p:List Nat
 n:Nat
 e:Nat->Value
 d:Nat
 st:LoopState
 pd:Option Code
class oY (l:Nat) (L:List HP) (x:outParam LpX) (L':outParam (List HP)):Prop where
 perm:L.Perm (pH x.P x.f x.p x.n x.e x.d l (x.st,x.pd)::L')
instance (priority:=low) oY.there {l:Nat} {A:HP} {x:LpX} [k:oY l L x L']:oY l (A::L) x (A::L'):=⟨(k.perm.cons A).trans (List.Perm.swap _ _ _)⟩
instance (priority:=high) oY.here {l:Nat} {f:FuncId} {p:List Nat} {n:Nat} {e:Nat->Value} {d:Nat} {st:LoopState} {pd:Option Code}:oY l (pH P f p n e d l (st,pd)::L) ⟨P,f,p,n,e,d,st,pd⟩ L:=⟨List.Perm.refl _⟩
instance (priority:=high) oY.app {l:Nat} {A:HP} {c L2:List HP} {x:LpX} [k:oY l (A::(c++L2)) x L']:oY l ((A::c)++L2) x L':=k
instance (priority:=high) oY.aCt {l:Nat} {L2:List HP} {x:LpX} [k:oY l L2 x L']:oY l ([]++L2) x L':=k
theorem oY.of {l:Nat} {x:LpX} [k:oY l L x L'] (c:Hs G h L):Hs G h (pH x.P x.f x.p x.n x.e x.d l (x.st,x.pd)::L'):=c.perm k.perm
section
variable {f:FuncId} {p:List Nat} {n:Nat} {e:Nat->Value} {d l:Nat} {st st':LoopState} {pd pd':Option Code}
theorem mD {k:AH->Prop} (i:Hs G h L) [m:oY l L ⟨P,f,p,n,e,d,st,pd⟩ L'] (g:∀c,Hs G c (pH P f p n e d l (st',pd')::L')->k c):bG (setLoop h l st' (some pd')) k:=aGh (show Hs G h (pH P f p n e d l (st,pd)::L') from m.of i) g
theorem lT {k:AH->Prop} (i:Hs G h L) [m:oY l L ⟨P,f,p,n,e,d,.ready,pd⟩ L'] (g:∀c,Hs G c (pH P f p n e d l (.busy,pd)::L')->k c):bG (kJ h l) k:=aA1 (show Hs G h (pH P f p n e d l (.ready,pd)::L') from m.of i) g
theorem tR {k:Option Code×AH->Prop} (i:Hs G h L) [m:oY l L ⟨P,f,p,n,e,d,.ready,pd⟩ L'] (g:∀c,Hs G c L'->k (pd,c)):bG (sC h l) k:=
 uu (P:=P) (f:=f) (p:=p) (n:=n) (e:=e) (d:=d) (st:= .ready) (pd:=pd) (k:=fun a b=>k (a,b)) (show Hs G h (pH P f p n e d l (.ready,pd)::L') from m.of i) (by decide) g
theorem Aa (c:Hs G h L) [m:oY l L ⟨P,f,p,n,e,d,st,pd⟩ L']:h.get l=some (lp P f p n e d st pd):=aHr (show Hs G h (pH P f p n e d l (st,pd)::L') from m.of c)
end
theorem ar {W:Nat} {e:TypeId} {a:Option Addr} {c n:Nat} {cs:List Value} (s:Hs G h (cN W e a c (n,cs)::L)):gP h W n (.slice a n c)=some cs:=by
 have I:=s.Ap;simp only at I;by_cases v:n=0;subst v;have:cs=[]:=List.eq_nil_of_length_eq_zero (by omega);subst this;cases a<;>simp[gP];obtain⟨b,o,rfl,H,t,_⟩:=s.oG (by omega);simp only[gP,aJ6 v,Nat.le_refl,if_true];by_cases C:n*W=0;have:cs=[]:=List.eq_nil_of_length_eq_zero (by omega);subst this;obtain⟨r,T,m,J,S,F,i⟩:=s.fst;obtain⟨_,_,m⟩:=m;rcases m with⟨u,_⟩|⟨u,_⟩|⟨A,O,N,B,ex,D,hle,q⟩;simp at u;omega;simp at u;omega;cases D;subst q;obtain⟨E,g⟩:=Kf F i;simp only[cU,Option.isSome_none,Bool.false_eq_true,if_false,g,C];grind;obtain⟨E,Q,R,U,g,hle,z⟩:=t.cells (by omega);simp only[cU,Option.isSome_none,Bool.false_eq_true,if_false,g];rw[aac];congr 1;refine List.ext_getElem? fun j=>?_;grind
theorem nY {W bytes:Nat} {e:TypeId} {a a2:Option Addr} {c c2 n m:Nat} {cs ns:List Value} {k:Value×AH->Prop} (r:Hs G h L) [t:Has (cN W e a c) L (n,cs) L'] [u:Has (cN W e a2 c2) L' (m,ns) M] (i:(n+m)*(bytes+1)<=2^46)
  (s:∀j o q,Hs G q (cN W e j o (n+m,cs++ns)::L')->k (.slice j (n+m) o,q)):bG (jK W bytes e h (.slice a n c) (.slice a2 m c2)) k:=by
 have g:=u.of (t.of r).tail
 exact aBb (k:=fun x y=>k (x,y)) r oO (ar g) g.zM g.Ap i s
theorem Hs.front (A:HP) (c:Hs G h L) [k:dY A L L']:Hs G h (A::L'):=c.perm k.perm
theorem Hs.cI (A B:HP) (c:Hs G h L) [k:dY A L L'] [g:dY B L' M]:Hs G h (A::B::M):=c.perm (k.perm.trans (g.perm.cons A))
end Go.Ab
end
section
namespace Go.Ab
variable {P:Program} {K:FuncId->List Value->Option jI} {G:Bg} {h:AH} {L L' M:List HP}
structure td (G:Bg) (W:Nat) (e:TypeId) (a:Option Addr) (cap n b o:Nat) where
 p:HP
 back:∀(h':AH) (cs':List Value) (M:List HP),cs'.length=n*W->cs'.all eF=true->Hs G h' (aG b o cs'::p::M)->Hs G h' (cN W e a cap (n,cs')::M)
def hole (G:Bg) (W:Nat) (e:TypeId) (a:Option Addr) (cap n b o:Nat):HP:=vD fun H:td G W e a cap n b o=>H.p
theorem Hs.gD {W:Nat} {e:TypeId} {a:Option Addr} {cap n:Nat} {cs:List Value} (j:Hs G h (cN W e a cap (n,cs)::L)) (q:0<n):
  ∃b o,a=some ⟨b,o,none⟩/\Hs G h (aG b o cs::hole G W e a cap n b o::L):=by
 have i:=j.Ap
 simp only at i
 obtain⟨b,o,u,H,g,v⟩:=j.oG q
 exact⟨b,o,u,Hs.lK (Hs.zX (A:=fun H:td G W e a cap n b o=>H.p) ⟨H,fun m c M r s t=>v m c M (r.trans i.symm) s t⟩ g.lK)⟩
theorem Hs.kZ {W:Nat} {e:TypeId} {a:Option Addr} {cap n b o:Nat} {cs:List Value} (c:Hs G h (aG b o cs::hole G W e a cap n b o::L)) (i:cs.length=n*W) (hc:cs.all eF=true):Hs G h (cN W e a cap (n,cs)::L):=by
 obtain⟨⟨H,g⟩,c⟩:=Hs.B4 (A:=fun H:td G W e a cap n b o=>H.p) c.lK;exact g _ _ _ i hc c.lK
theorem Zc {b o W:Nat} {c:Nat->List Value} (hc:∀i,(c i).length=W):∀(n:Nat) (L:List HP),Hs G h (aG b o ((List.range n).flatMap c)::L)->Hs G h (dF n (fun i=>aG b (o+i*W) (c i))::L):=by
 intro n;induction n with
 |zero=>intro L g;exact Hs.Tw g.tail
 |succ n r=>
  intro L g;rw[List.range_succ,List.flatMap_append] at g;have q:∀m,((List.range m).flatMap c).length=m*W:=fun m=>by
   induction m with
   |zero=>simp
   |succ m j=>rw[List.range_succ,List.flatMap_append,List.length_append,j];grind
  have g:=g.split;simp only[List.flatMap_cons,List.flatMap_nil,List.append_nil,q] at g;exact Hs.Tz (Hs.lK (r _ g))
theorem y5 {b o W:Nat} {c:Nat->List Value} (hc:∀i,(c i).length=W) (_:0<W):∀(n:Nat) (L:List HP),0<n->Hs G h (dF n (fun i=>aG b (o+i*W) (c i))::L)->Hs G h (aG b o ((List.range n).flatMap c)::L):=by
 intro n;have r:∀m,((List.range m).flatMap c).length=m*W:=fun m=>by
  induction m with
  |zero=>simp
  |succ m q=>rw[List.range_succ,List.flatMap_append,List.length_append,q];grind
 induction n with
 |zero=>intro L j;omega
 |succ n s=>
  intro L _ g;have g:=g.unpack;rw[List.range_succ,List.map_append,List.append_assoc] at g;have g:Hs G h (dF n (fun i=>aG b (o+i*W) (c i))::aG b (o+n*W) (c n)::L):=Hs.pack g;rw[List.range_succ,List.flatMap_append];simp only[List.flatMap_cons,List.flatMap_nil,List.append_nil];rcases Nat.eq_zero_or_pos n with j|j;simp_all;exact Hs.Ic (s _ j g) (by rw[r])
theorem Hs.Jb {f g:Nat->HP}:∀(n:Nat) (L:List HP),(∀i,i<n->∀h L,Hs G h (f i::L)->Hs G h (g i::L))->Hs G h (dF n f::L)->Hs G h (dF n g::L):=by
 intro n;induction n with
 |zero=>intro L _ c;exact Hs.Tw c.tail
 |succ n m=>
  intro L j c;have c:=c.unpack;rw[List.range_succ,List.map_append,List.append_assoc] at c;have c:Hs G h (dF n f::f n::L):=Hs.pack c;exact Hs.Tz (j n (Nat.lt_succ_self n) _ _ (m _ (fun i o=>j i (by omega)) c).lK)
theorem Hs.aDj {f g k:Nat->HP} (j:∀i h L,Hs G h (f i::g i::L)->Hs G h (k i::L)):∀(n:Nat) (L:List HP),Hs G h (dF n f::dF n g::L)->Hs G h (dF n k::L):=by
 intro n;induction n with
 |zero=>intro L c;exact Hs.Tw c.tail.tail
 |succ n m=>
  intro L c;have c:=c.unpack;rw[List.range_succ,List.map_append,List.append_assoc] at c;have c:Hs G h (dF n f::f n::dF (n+1) g::L):=Hs.pack c;have c:Hs G h (dF (n+1) g::f n::dF n f::L):=c.to;have c:=c.unpack;rw[List.range_succ,List.map_append,List.append_assoc] at c;have c:Hs G h (dF n g::g n::f n::dF n f::L):=Hs.pack c;have c:Hs G h (dF n f::dF n g::f n::g n::L):=c.to;have c:=m _ c;exact Hs.Tz (j n _ _ (c.to (M:=[f n,g n,dF n k]++L)))
theorem cv {n i:Nat} {l:List Value} {v:Value} {k:Value->Prop} (c:i<n) (j:l[i]?=some v) (g:k v):bG (Nc n 1 (.agg ⟨l⟩) (I i)) k:=⟨v,by simp[Nc,c,j],g⟩
theorem fQ {b o j n c i:Nat} {k:Value->Prop} (g:i<n) (m:k (pt b o (j+i*c))):bG (oL n c (pt b o j) (I i)) k:=⟨_,by simp[oL,g,dE,pt,Nat.add_assoc],m⟩
theorem aBp {bytes n:Nat} {k:Nat×Nat->Prop} (g:n<=2^40) (hb:bytes*n<=2^47) (c:k (n,n)):bG (Hn bytes (I n) (I n)) k:=⟨_,by simp only[Hn];grind,c⟩
theorem kB {b o j n:Nat} {c l:List Value} {k:Value->Prop} (r:Hs G h L) [m:Has (aG b o) L c L'] (q:0<n) (hc:(c.drop j).take n=l) (i:l.length=n) (g:k (.agg ⟨l⟩)):bG (sD h n (pt b o j)) k:=aR r q hc i g
theorem aDo {b n:Nat} {c:List Value} {k:Value->Prop} (q:Hs G h L) (m:Ob G b c) (g:c.length=n) (i:k (.agg ⟨c⟩)):bG (sD h n (.pointer (some ⟨b,0,none⟩))) k:=
 Ym (o:=0) (j:=0) q m (by rw[<-g];simp) g (by simp) i
def aS {α:Type} (f:Nat->α) (i:Nat) (v:α):Nat->α:=fun j=>if j=i then v else f j
theorem cJ {α:Type} {f:Nat->α} {i:Nat} {v:α}:aS f i v i=v:=by simp[aS]
theorem cF {α:Type} {f:Nat->α} {i j:Nat} {v:α} (h:j≠i):aS f i v j=f j:=by simp[aS,h]
theorem rE {W:Nat} {c:Nat->List Value} (hc:∀i,(c i).length=W) (m:Nat):((List.range m).flatMap c).length=m*W:=by
 induction m with
 |zero=>simp
 |succ m g=>rw[List.range_succ,List.flatMap_append,List.length_append,g];grind
theorem bg {W:Nat} {c:Nat->List Value} (hc:∀i,(c i).length=W) {i:Nat}:∀(n:Nat),i<n->∃m g,(List.range n).flatMap c=m++(c i++g)/\m.length=i*W/\∀x,(List.range n).flatMap (aS c i x)=m++(x++g):=by
 intro n;induction n with
 |zero=>intro h;omega
 |succ n t=>
  intro h;by_cases o:i=n;subst o;refine⟨(List.range i).flatMap c,[],?_,rE hc i,fun x=>?_⟩;rw[List.range_succ,List.flatMap_append];simp;rw[List.range_succ,List.flatMap_append];congr 1;rw[List.flatMap_def,List.flatMap_def];congr 1;exact List.map_congr_left fun j u=>cF (by grind);simp[cJ];obtain⟨m,g,q,r,s⟩:=t (by omega);refine⟨m,g++c n,?_,r,fun x=>?_⟩;rw[List.range_succ,List.flatMap_append,q];simp;rw[List.range_succ,List.flatMap_append,s];simp[cF (Ne.symm o)]
theorem Hs.py {W:Nat} {e:TypeId} {a:Option Addr} {cap n i:Nat} {c:Nat->List Value} (hc:∀i,(c i).length=W) (B:i<n) (g:Hs G h (cN W e a cap (n,(List.range n).flatMap c)::L)):
  ∃b o,a=some ⟨b,o,none⟩/\∃H:HP,Hs G h (aG b (o+i*W) (c i)::H::L)/\∀s x M,x.length=W->x.all eF=true->Hs G s (aG b (o+i*W) x::H::M)->Hs G s (cN W e a cap (n,(List.range n).flatMap (aS c i x))::M):=by
 have m:=g.zM
 simp only at m
 obtain⟨b,o,z,g⟩:=g.gD (by omega)
 obtain⟨r,q,u,t,v⟩:=bg hc n B
 rw[u] at g m
 have g:=g.split.lK.split
 rw[t] at g
 refine⟨b,o,z,sp [aG b o r,aG b (o+i*W+(c i).length) q,hole G W e a cap n b o],?_,?_⟩
 .exact(Hs.pack (A:=[aG b o r,aG b (o+i*W+(c i).length) q,hole G W e a cap n b o]) g.to).lK
 .intro s x M C D g;have g:Hs G s (aG b (o+i*W) x::aG b (o+i*W+(c i).length) q::aG b o r::hole G W e a cap n b o::M):=(g.lK.unpack).to;have g:=Hs.Ic g (by rw[C,hc]);have g:=Hs.Ic g.lK (by rw[t]);refine Hs.kZ (by rw[v];exact g) (rE (fun j=>by unfold aS;grind) n) ?_;grind
theorem Hs.sg {b o:Nat} {c c':List Value} (g:Hs G h L) [m:Has (aG b o) L c' L'] (hc:c'=c):Hs G h (aG b o c::L'):=by subst hc;exact m.of g
theorem Hs.lA {n i:Nat} (f g:Nat->HP) (o:i<n) (s:∀j,j<n->j≠i->g j=f j) (c:Hs G h L) [k:dY (g i) L L'] [t:dY (sp (((List.range n).erase i).map f)) L' M]:Hs G h (dF n g::M):=by
 have c:=c.cI (g i) (sp (((List.range n).erase i).map f));have m:=(c.perm (List.Perm.swap _ _ _)).unpack;have r:((List.range n).erase i).map f=((List.range n).erase i).map g:=List.map_congr_left fun j q=>by
  have:j≠i:=by
   intro e;subst e;exact List.Nodup.not_mem_erase List.nodup_range q
  grind
 rw[r] at m;refine(m.perm ?_).pack;exact(List.perm_middle.trans ((Kz o).symm.append_right M))
theorem Qx {bytes:Nat} {a:Int} {k:Nat×Nat->Prop} (g:0<=a) (i:a<=2^40) (hb:bytes*a<=2^47) (c:k (a.toNat,a.toNat)):bG (Hn bytes (I a) (I a)) k:=⟨_,by simp only[Hn];grind,c⟩
theorem gT (z:List Value) (n:Nat):eJ z n=(List.range n).flatMap fun _=>z:=by
 induction n with
 |zero=>rfl
 |succ n c=>rw[List.range_succ,List.flatMap_append,<-c];simp[eJ,List.replicate_succ']
theorem pO {c:Nat->List Value} (hc:∀i,(c i).all eF=true) (n:Nat):((List.range n).flatMap c).all eF=true:=by
 grind
theorem Hs.Ke {W:Nat} {e:TypeId} {z:List Value} {a:Option Addr} {cap n:Nat} (m:z.length=W) (g:0<n) (c:Hs G h (cN W e a cap (n,eJ z n)::L)):∃b o,a=some ⟨b,o,none⟩/\Hs G h (dF n (fun i=>aG b (o+i*W) z)::hole G W e a cap n b o::L):=by
 obtain⟨b,o,j,c⟩:=c.gD g;rw[gT] at c;exact⟨b,o,j,Zc (fun _=>m) n _ c⟩
theorem Hs.cZ {c L2 g:List HP} (A B C:HP) (i:Hs G h L) [k:dY A L c] [j:dY B c L2] [m:dY C L2 g]:Hs G h (A::B::C::g):=i.perm (k.perm.trans ((j.perm.trans (m.perm.cons B)).cons A))
theorem aB4 {b o i j:Nat} {c:List Value} {v:Value} {k:Value->Prop} (q:Hs G h L) [m:Has (aG b o) L c L'] (hc:c[i+j]?=some v) (g:k v):bG (pK h (pt b (o+i) j)) k:=by
 have:pt b (o+i) j=pt b o (i+j):=by simp only[pt];rw[Nat.add_assoc]
 rw[this];exact aD q hc g
theorem oa {a b c d:Bool} {k:Value->Prop} (i:k (.bool (a||b||c||d))) {g:Bool} (hc:g=true:=by kernel_rfl):Nb g [1,1,1,1] .neq (.agg ⟨[.bool a,.bool b,.bool c,.bool d]⟩) (.agg ⟨[.bool false,.bool false,.bool false,.bool false]⟩) k:=
 ⟨hc,_,by cases a<;>cases b<;>cases c<;>cases d<;>rfl,i⟩
theorem tV {α:Type} {f:Nat->α} {i:Nat} {v w:α}:aS (aS f i v) i w=aS f i w:=by funext j;unfold aS;split<;>rfl
theorem Zk:∀(l:List Value),(∀v∈l,nG v v=true)->H6 l l=true
 |[],_=>by simp[H6]
 |a::l,h=>by simp only[H6,h a List.mem_cons_self,Bool.true_and];exact Zk l fun v c=>h v (List.mem_cons_of_mem _ c)
theorem oP {l:List Value} (h:∀v∈l,nG v v=true):nG (.agg ⟨l⟩) (.agg ⟨l⟩)=true:=by
 simp only[nG,Tv];exact Zk l h
end Go.Ab
end
section
namespace Go.Ab
variable {P:Program} {K:FuncId->List Value->Option jI} {G:Bg} {h:AH} {L L' M:List HP}
theorem R3 {W:Nat} {e:TypeId} {a:Option Addr} {cap:Nat} {x:Nat×List Value} {r:cS} (i:Hs G h ((fun q=>q=r)::L)) (g:cN W e a cap x r):Hs G h (cN W e a cap x::L):=
 Hs.join (A:=[_]) i fun q c=>by
  rw[Tf] at c;subst c;exact g
theorem wx {W n c:Nat} {e:TypeId} {a:Option Addr} {cs:List Value} {k:Value->Prop} (j:Hs G h L) [m:Has (cN W e a c) L (n+1,cs) L'] (O:∀S T,Hs G h (cN W e S T (n,cs.drop W)::L')->k (.slice S n T)):bG (xK W h (.slice a (n+1) c) (some (I 1)) none none) k:=by
 have j:=m.of j;obtain⟨r,Y,⟨hl,X,hr⟩,z,C,N,s⟩:=j.fst;simp only at hl X;have J:(cs.drop W).all eF=true:=List.all_eq_true.2 fun v hv=>List.all_eq_true.1 X v (List.mem_of_mem_drop hv);have Q:(cs.drop W).length=n*W:=by grind
 rcases hr with⟨R,_⟩|⟨R,_⟩|⟨o,b,g,i,ex,rfl,hle,B⟩;simp at R;simp at R;simp only at o hle B;subst B;obtain⟨hb,Z⟩:=Kf N s;have E:lI (some (I 1)) 0 (n+1)=some 1:=by simp only[lI];grind
 have D:lI none c c=some c:=rfl;have F:lI none (n+1) c=some (n+1):=rfl;by_cases t:c=1;have hn:n=0:=by omega
 subst t;subst hn;have hex:qK h b=some ex:=by simp only[qK,Z]
 have u:cs.drop W=[]:=List.eq_nil_of_length_eq_zero (by omega);cases ex with
 |true=>
  refine⟨tF,by simp only[xK,D,E,Option.isNone_none,Option.isSome_none,Bool.and_false,Bool.false_eq_true,if_false,hex];simp,O _ _ ?_⟩;rw[u];refine Hs.join (A:=[]) j.tail fun q hq=>⟨by simp,rfl,.inl ⟨rfl,hq,rfl,.inr ⟨0,0,rfl⟩⟩⟩
 |false=>
  refine⟨Ar ⟨b,g.length+1*W,none⟩,by simp only[xK,D,E,Option.isNone_none,Option.isSome_none,Bool.and_false,Bool.false_eq_true,if_false,hex,dE];simp,O _ _ ?_⟩;rw[u];refine R3 (r:=mI b (g++cs++i) (some (.mt e false (g++cs++i).length))) ⟨j.base,j.old,j.wf,j.fr,_,⟨_,Y,rfl,z,C,rfl⟩,(cS.fS C).2 ⟨N,s⟩⟩ ?_;refine⟨by simp,rfl,.inr (.inl ⟨rfl,rfl,b,g.length+1*W,g++cs++i,rfl,?_,rfl⟩)⟩;grind
 refine⟨.slice (some ⟨b,g.length+1*W,none⟩) n (c - 1),?_,O _ _ ?_⟩;have hm:¬c=1:=t;simp only[xK,D,E,F,Option.isNone_none,Option.isSome_none,Bool.and_false,Bool.false_eq_true,if_false,hm,dE];rw[aJ7 o];rfl;have U:g++cs++i=(g++cs.take W)++cs.drop W++i:=by simp
 have V:(g++cs.take W).length=g.length+1*W:=by
  grind
 refine R3 (r:=mI b (g++cs++i) (some (.mt e ex (g++cs++i).length))) ⟨j.base,j.old,j.wf,j.fr,_,⟨_,Y,rfl,z,C,rfl⟩,(cS.fS C).2 ⟨N,s⟩⟩ ?_;refine⟨Q,J,.inr (.inr ⟨by simp only;omega,b,g++cs.take W,i,ex,by rw[V],?_,by rw[<-U]⟩)⟩;simp only;rw[<-U,V];have:c*W=(c - 1)*W+W:=by rw[<-Nat.succ_mul];congr 1;omega
 omega
theorem Lq {b o i j n:Nat} {c l:List Value} {k:Value->Prop} (s:Hs G h L) [m:Has (aG b o) L c L'] (r:0<n) (hc:(c.drop (i+j)).take n=l) (q:l.length=n) (g:k (.agg ⟨l⟩)):bG (sD h n (pt b (o+i) j)) k:=by
 have:pt b (o+i) j=pt b o (i+j):=by simp only[pt];rw[Nat.add_assoc]
 rw[this];exact aR s r hc q g
end Go.Ab
end
section
namespace Go.Ab
variable {P:Program} {K:FuncId->List Value->Option jI} {h:AH}
theorem aEd {f g:FuncId} {args c:List Value} {Q:Value->AH->Prop} (m:K f args=some (.fwd g c)) (t:Cl P K g c h fun v i=>Po v=true/\Q v i):Cl P K f args h Q:=by
 obtain⟨n,⟨o,j⟩,s,q,r⟩:=t;exact⟨n+1,(⟨.oQ,[],[],o.v⟩,j),by show runCall _ _ _ _ _ _=_;simp only[runCall,m,s,q,if_true],r⟩
end Go.Ab
end
namespace Go.Ab
open Go Go.RowKit
section
variable {P:Program}
def san:Value->Value
 |.int k n=> .int k n
 |.bool b=> .bool b
 |_=>top
theorem Zu {ρ:iH}:∀l:List Value,aZ ρ (l.map san) l
 |[]=>rfl
 |v::l=>by
  refine aZ.cons ?_ (Zu l);cases v<;>simp[san,top,aF]
theorem Kk:∀{g:List (Option IntKind)} {l:List Value},Flat g l->l.map san=l
 |[],[],_=>rfl
 |none::g,v::l,h=>by
  obtain⟨⟨b,rfl⟩,c⟩:=h;simp[san,Kk c]
 |some k::g,v::l,h=>by
  obtain⟨⟨b,rfl,_⟩,c⟩:=h;simp[san,Kk c]
def jN (c:List (Option IntKind)) (w:World) (a:Option Addr) (len cap:Nat):Prop:=
 (a=none/\len=0/\cap=0)\/(∃x,a=some x/\len=0)\/
 ∃x cc e g,a=some x/\0<len/\x.spot=none/\len<=cap/\w.heap[x.block]?=some (.cells cc e g)/\x.off+len*c.length<=cc.size/\
  ∀i,i<len->Flat c ((cc.toList.drop (x.off+i*c.length)).take c.length)
theorem Yv {x:Addr} {i:Nat} (h:x.spot=none):x.add i=⟨x.block,x.off+i,none⟩:=by
 unfold Addr.add;split;rename_i c;subst c;cases x;simp at h;subst h;rfl;rfl
variable {H:Type} {enc:TypeId×Value->H} {w:World} {base:Nat} {spare:Nat->Bool} {held:Bool}
theorem Hb {t e:TypeId} {n fuel:Nat} {g:List (Option IntKind)} {cs:List Value} {x:DataW H×List MemPlace} (Z:P.underlying t=some (.slice e)) (V:pL P n e=some g) (hc:P.cellsOf e=g.length) (U:0<g.length)
  (h:DataW.trod enc P w base spare held fuel t cs=some x):∃a len s,cs=[.slice a len s]/\jN g w a len s:=by
 rcases DataW.trod_slice Z h with⟨rfl,_⟩|⟨a,len,s,elems,rest,m,_,rfl,_,D,X,hm,S,O,_,_⟩
 .exact⟨none,0,0,rfl,.inl ⟨rfl,rfl,rfl⟩⟩
 refine⟨some a,len,s,rfl,?_⟩
 rcases Nat.eq_zero_or_pos len with J|J
 .exact .inr (.inl ⟨a,rfl,J⟩)
 refine .inr (.inr ?_)
 have each:∀i,i<len->∃c:List Value,Flat g c/\c.length=g.length/\∀j,j<g.length->w.cell? ((a.add (i*g.length)).add j)=c[j]?:=by
  intro i E;have R:=O i E;rw[List.getElem?_eq_getElem (by omega),hc,Option.bind_eq_some_iff] at R;obtain⟨c,q,hy⟩:=R;refine⟨c,Gp n V hy,?_,fun j A=>?_⟩;unfold World.cells? at q;split at q;have:=mapM_some_length q;simpa using this;cases q;unfold World.cells? at q;split at q;exact mapM_some_get q j j (by simp[A]);cases q
 obtain⟨c0,W,Y,N⟩:=each 0 J
 have r:=N 0 U
 rw[List.getElem?_eq_getElem (by omega)] at r
 obtain⟨cc,T,B,D,I⟩:∃cc e B,w.heap[a.block]?=some (.cells cc e B)/\a.spot=none:=by
  have Q:(a.add (0*g.length)).add 0=a:=by rw[Nat.zero_mul];rfl
  rw[Q] at r;unfold World.cell? at r;split at r;rename_i c e B D;split at r;cases r;rename_i I;exact⟨c,e,B,D,by simpa using I⟩;cases r
 have v:∀o,w.cell? ⟨a.block,o,none⟩=cc[o]?:=by
  intro o;unfold World.cell?;rw[D];simp
 have C:∀i,i<len->∃c:List Value,Flat g c/\c.length=g.length/\∀j,j<g.length->cc[a.off+i*g.length+j]?=c[j]?:=by
  intro i E;obtain⟨c,F,z,A⟩:=each i E;refine⟨c,F,z,fun j u=>?_⟩;rw[<-A j u,Yv I,Yv rfl];exact(v _).symm
 refine⟨a,cc,T,B,rfl,J,I,X,D,?_,?_⟩
 .obtain⟨c,F,z,A⟩:=C (len - 1) (by omega);have:=A (g.length - 1) (by omega);rw[List.getElem?_eq_getElem (by omega)] at this;have h2:=(Array.getElem?_eq_some_iff.1 this).1;have:len*g.length=(len - 1)*g.length+g.length:=by
   conv=>lhs;rw[show len=(len - 1)+1 by omega,Nat.succ_mul]
  omega
 .intro i E;obtain⟨c,F,z,A⟩:=C i E;have:(cc.toList.drop (a.off+i*g.length)).take g.length=c:=by
   apply List.ext_getElem?;intro j;rw[List.getElem?_take];split;rename_i u;rw[List.getElem?_drop,Array.getElem?_toList,A j u];rename_i u;rw[List.getElem?_eq_none (by omega)]
  rw[this];exact F
def uA (G:Bg) (W:Nat) (v:Value) (n:Nat) (at':Nat->List Value):Prop:=∃a c,v= .slice a n c/\∀i,i<n->∃b o cells,a=some ⟨b,o,none⟩/\Ob G b cells/\(cells.drop (o+i*W)).take W=at' i/\o+i*W<=cells.length
abbrev OB:=Option nI×Option (Nat×(Nat×Nat))
def Yf (P:Program) (w:World) (r:OB):Prop:=
 (∀o,r.1=some o->∀b s,r.2=some (b,s)->∃c,w.heap[b]?=some c/\∀ρ,uF P ρ s o c)/\(∀b s,r.2=some (b,s)->b<w.heap.size)
def yT (g:Nat) (gl:Nat->Option nI) (rs:List OB):Nat->Option nI:=fun i=>if i<g then gl i else(rs[i - g]?).bind (·.1)
def rX (g:Nat) (rs:List OB):iH:=fun i=>if i<g then some (i,(0,0)) else(rs[i - g]?).bind (·.2)
def yf (P:Program) (g:Nat) (gl:Nat->Option nI) (w:World):Prop:=∀i o,i<g->gl i=some o->∃c,w.heap[i]?=some c/\∀ρ,uF P ρ (0,0) o c
theorem qy {g:Nat} {gl:Nat->Option nI} {rs:List OB} (B:P.globals.size<=g) (A:g<=w.heap.size) (t:yf P g gl w) (z:∀r∈rs,Yf P w r):Reads P (g+rs.length) (yT g gl rs) (rX g rs) w where
 rI:=fun i o u j b s c=>by
  unfold yT at j;unfold rX at c;split at j;rename_i h;rw[aJ7 h] at c;cases c;obtain⟨v,m,q⟩:=t i o h j;exact⟨v,m,q _⟩;rename_i h;rw[aJ6 h] at c;rw[List.getElem?_eq_getElem (by omega)] at j c;obtain⟨v,m,q⟩:=(z _ (List.getElem_mem (by omega))).1 o j b s c;exact⟨v,m,q _⟩
 low:=fun i b s u c=>by
  unfold rX at c;split at c;cases c;omega;rw[List.getElem?_eq_getElem (by omega)] at c;exact(z _ (List.getElem_mem (by omega))).2 b s c
 none:=fun i u=>by unfold rX;rw[aaa,List.getElem?_eq_none (by omega)];rfl
 pW:=fun i u=>by unfold rX;rw[aac]
theorem pb {g i:Nat} {gl:Nat->Option nI} {rs:List OB} {r:OB} (h:rs[i]?=some r):yT g gl rs (g+i)=r.1:=by unfold yT;rw[aaa,show g+i - g=i by omega,h];rfl
theorem sX {g i:Nat} {rs:List OB} {r:OB} (h:rs[i]?=some r):rX g rs (g+i)=r.2:=by unfold rX;rw[aaa,show g+i - g=i by omega,h];rfl
theorem so {g i:Nat} {gl:Nat->Option nI} {rs:List OB} (h:i<g):yT g gl rs i=gl i:=by unfold yT;rw[aJ7 h]
theorem qi {base:Nat} {old:Nat->Option nI}:Hs ⟨base,old⟩ (Go.Ab.start base old) [] where
 base:=rfl
 old:=rfl
 wf:=Nat.le_refl _
 fr:=fun i c=>by rw[wX,aJ6 (Nat.not_lt.2 (show base<=i from c))]
 res:=⟨cS.emp,rfl,⟨fun b o v h=>by simp[cS.emp] at h,fun b h=>by simp[cS.emp] at h,fun b e x n h=>by simp[cS.emp] at h,fun b o h=>by simp[cS.emp] at h⟩⟩
end
section
variable {P:Program} {H:Type}
def Ai (f:DataW H->Option (List Value)) (w:Nat):List (DataW H)->Option (List Value)
 |[]=>some []
 |d::g=>match f d with
  |some c=>if c.length=w then(Ai f w g).map (c++·) else none
  |none=>none
def yG (f:TypeId->DataW H->Option (List Value)) (w:TypeId->Nat):List Field->List (DataW H)->Nat->Option (List Value)
 |[],[],_=>some []
 |x::i,d::g,o=>match f x.type d with
  |some c=>if x.offset=o/\c.length=w x.type then(yG f w i g (o+c.length)).map (c++·) else none
  |none=>none
 |_,_,_=>none
def Mm (P:Program):Nat->TypeId->DataW H->Option (List Value)
 |0,_,_=>none
 |n+1,t,d=>match P.underlying t,d with
  |some (.int _),.lit (.int k m)=>some [.int k m]
  |some .bool,.lit (.bool b)=>some [.bool b]
  |some .string,.lit (.string s)=>some [.string ⟨s.toArray⟩]
  |some (.array _ e),.agg c=>match Ai (Mm P n e) (P.cellsOf e) c with
   |some l=>if l.length=P.cellsOf t then some l else none
   |none=>none
  |some (.struct g),.agg c=>match yG (Mm P n) P.cellsOf g.toList c 0 with
   |some l=>if l.length=P.cellsOf t then some l else none
   |none=>none
  |_,_=>none
theorem Jj {f:DataW H->Option (List Value)} {w:Nat}:∀{g:List (DataW H)} {l:List Value},Ai f w g=some l->l.length=g.length*w
 |[],l,h=>by simp[Ai] at h;subst h;simp
 |d::g,l,h=>by
  unfold Ai at h;split at h;rename_i c m;split at h;rename_i i;simp only[Option.map_eq_some_iff] at h;obtain⟨r,j,rfl⟩:=h;have:=Jj j;simp[this,i,Nat.succ_mul];omega;cases h;cases h
theorem Pg {f:DataW H->Option (List Value)} {w:Nat} {T:List Value->Option (DataW H×List MemPlace)} (o:∀c x l,T c=some x->f x.1=some l->c=l):∀(xs:List (DataW H×List MemPlace)) (cs l:List Value),
    Ai f w (xs.map (·.1))=some l->cs.length=xs.length*w->(∀i,i<xs.length->T ((cs.drop (i*w)).take w)=xs[i]?)->cs=l
 |[],cs,l,h,g,_=>by simp[Ai] at h;subst h;exact List.eq_nil_of_length_eq_zero (by simpa using g)
 |x::xs,cs,l,h,g,m=>by
  simp only[List.map_cons,Ai] at h;split at h;rename_i c t;split at h;rename_i u;simp only[Option.map_eq_some_iff] at h;obtain⟨r,v,rfl⟩:=h;have j:=m 0 (by simp);simp only[Nat.zero_mul,List.drop_zero,List.getElem?_cons_zero] at j;have q:=o _ _ _ j t;have s:=Pg o xs (cs.drop w) r v (by rw[List.length_drop,g,List.length_cons,Nat.succ_mul];omega) fun i z=>by
   have:=m (i+1) (by simp;omega);rw[List.getElem?_cons_succ] at this;rw[List.drop_drop,<-this,Nat.succ_mul,Nat.add_comm]
  rw[<-List.take_append_drop w cs,q,s];cases h;cases h
theorem K6 {f:TypeId->DataW H->Option (List Value)} {w:TypeId->Nat} {T:TypeId->List Value->Option (DataW H×List MemPlace)} (q:∀t c x l,T t c=some x->f t x.1=some l->c=l) {cs:List Value}:∀(fs:List Field) (xs:List (DataW H×List MemPlace)) (o:Nat) (l:List Value),
    yG f w fs (xs.map (·.1)) o=some l->(∀(i:Nat) (x:Field),fs[i]?=some x->T x.type ((cs.drop x.offset).take (w x.type))=xs[i]?)->(cs.drop o).take l.length=l
 |[],[],o,l,h,_=>by simp[yG] at h;subst h;simp
 |[],_::_,_,_,h,_=>by simp[yG] at h
 |_::_,[],_,_,h,_=>by simp[yG] at h
 |y::fs,x::xs,o,l,h,m=>by
  simp only[List.map_cons,yG] at h;split at h;rename_i c v;split at h;rename_i g;simp only[Option.map_eq_some_iff] at h;obtain⟨r,A,rfl⟩:=h;have u:=m 0 y rfl;have j:=q _ _ _ _ u v;have s:=K6 q fs xs (o+c.length) r A fun i z B=>m (i+1) z B;rw[g.1,<-g.2] at j;rw[List.length_append,List.take_add,List.drop_drop,j,s];cases h;cases h
variable {enc:TypeId×Value->H} {w:World} {base:Nat} {spare:Nat->Bool} {held:Bool}
theorem Xl:∀(n:Nat) {t:TypeId} {cs l:List Value} {x:DataW H×List MemPlace} {fuel:Nat},DataW.trod enc P w base spare held fuel t cs=some x->Mm P n t x.1=some l->cs=l:=by
 intro n;induction n with
 |zero=>intro t cs l x fuel _ h;cases h
 |succ n E=>
  intro t cs l x fuel u h;unfold Mm at h;split at h;rename_i j g;obtain⟨m,rfl,o,_⟩:=DataW.trod_int j u;rw[o] at g;cases g;cases h;rfl;rename_i j g;obtain⟨m,rfl,o⟩:=DataW.trod_bool j u;rw[o] at g;cases g;cases h;rfl;rename_i j g;obtain⟨m,rfl,o,_⟩:=DataW.trod_string j u;rw[o] at g;cases g;cases h;rfl;rename_i j g;obtain⟨C,m,_,o,D,B,q⟩:=DataW.trod_array j u;rw[o] at g;cases g;split at h;rename_i r v;split at h;rename_i s;cases h;have:=Jj v;rw[List.length_map] at this;exact Pg (T:=DataW.trod enc P w base spare held m _) (fun c y l z A=>E z A) C cs l v (by rw[D,<-s,this]) fun i I=>q i (by omega);cases h;cases h;rename_i j g;obtain⟨C,m,_,o,D,B,q⟩:=DataW.trod_struct j u;rw[o] at g;cases g;split at h;rename_i r v;split at h;rename_i s;cases h;have:=K6 (w:=P.cellsOf) (T:=fun t c=>DataW.trod enc P w base spare held m t c) (fun t c y l z A=>E z A) (cs:=cs) _ C 0 l v fun i y F=>q i y (by rw[<-F,Array.getElem?_toList]);rw[List.drop_zero,List.take_of_length_le (by omega)] at this;exact this;cases h;cases h;cases h
theorem Ft {n:String} {d:DataW Unit}:∀{laid:List (String×DataW Unit)} {ps:List MemPlace},DataW.LaidVars P w laid ps->(n,d)∈laid->
  ∃g t c fuel p,P.globalNamed n=some g/\(P.globals[g]?).map (·.type)=some t/\w.var? P n=some c/\DataW.trod (fun _=>()) P w 0 (fun _=>true) false fuel t c.toList=some (d,p)
 |[],_,_,i=>by cases i
 |(z,v)::r,ps,h,i=>by
  obtain⟨g,t,c,fuel,p,q,j,m,o,s,u,_⟩:=h;rcases List.mem_cons.1 i with e|e;cases e;exact⟨g,t,c,fuel,p,j,m,o,s⟩;exact Ft u e
theorem yH {laid:List (String×DataW Unit)} {n:String} {d:DataW Unit} {g:Nat} {t:TypeId} {l:List Value} (fuel:Nat) (z:(laid.all fun x=>x.2.handleName?.isNone)=true) (h:laidMetH P laid w) (v:(n,d)∈laid)
  (m:P.globalNamed n=some g) (A:(P.globals[g]?).map (·.type)=some t) (hc:Mm P fuel t d=some l):∃e j,w.heap[g]?=some (.cells ⟨l⟩ e j):=by
 rw[Go.MakeChecks.laidMetH_plain _ _ _ z] at h
 obtain⟨D,B,_⟩:=h
 obtain⟨C,E,o,f,p,q,r,i,s⟩:=Ft B v
 obtain rfl:=Option.some.inj (m.symm.trans q)
 obtain rfl:=Option.some.inj (A.symm.trans r)
 have:=Xl fuel s hc
 simp only[World.var?,m,Option.bind_some] at i
 split at i
 .rename_i c e j u;cases i;refine⟨e,j,?_⟩;rw[u];cases o;simp at this;subst this;rfl
 .cases i
end
end Go.Ab
namespace Go.Ab
open Go Go.RowKit Go.ChangeShapes Go.WideShapes Go.ChangeAt
section
variable {H:Type} {enc:TypeId×Value->H}
def Yo (P:Program) (c:List TypeId):Bool:=c.all fun t=>P.readableRec t&&decide (t<P.types.size)
theorem Pw {P:Program} (s:laidOutB P=true) {W o:World} (hb:Below W.heap.size W o):∀(c:List TypeId) {vs:List Value} {g:List (DataW H)} {ps:List MemPlace},Yo P c=true->
  DataW.TrodAll enc P W 0 (fun _=>true) true c vs g ps->DataW.TrodAll enc P o 0 (fun b=>decide (b<W.heap.size)) true c vs g ps
 |[],vs,g,ps,_,h=>by
  obtain⟨rfl,rfl,rfl⟩:=trodAll_nil h;exact trodAll_mk0
 |t::c,vs,g,ps,i,h=>by
  obtain⟨v,B,d,u,p,q,rfl,rfl,rfl,r,z⟩:=trodAll_cons h;simp only[Yo,List.all_cons,Bool.and_eq_true,decide_eq_true_eq] at i;have j:∀x∈p,x.block<W.heap.size:=by obtain⟨m,A⟩:=r;exact DataW.trod_lt m _ _ _ A
  exact trodAll_cons_mk (Below.trod s i.1.1 i.1.2 r hb j) (Pw s hb c i.2 z)
theorem Z1 {P:Program} {w:World} {base:Nat} {spare:Nat->Bool} {held:Bool}:∀(g:List TypeId) {vs:List Value} {c:List (DataW H)} {ps:List MemPlace},
    DataW.TrodAll enc P w base spare held g vs c ps->c.length=g.length
 |[],vs,c,ps,h=>by obtain⟨rfl,rfl,rfl⟩:=trodAll_nil h;rfl
 |t::g,vs,c,ps,h=>by
  obtain⟨v,m,d,i,p,q,rfl,rfl,rfl,o,j⟩:=trodAll_cons h;simp[Z1 g j]
theorem I7 {C:Checked} {os:Os} (started:os.Started) {f:FuncId} {c:Func} {s:ChangeSpec} {laid:List (String×DataW Unit)} {R:TypeId} {fresh handsOn:Bool}
  (own:ownKnob C.prog.godebug=none) (o:C.prog.inits.idxOf? f=none) (E:C.prog.funcs[f]?=some c) (F:laidOutB C.prog=true) (I:Yo C.prog c.params.toList=true)
  (A:c.resultTypes= #[R]) (J:C.prog.underlying R=some .bool) (g:s.vars=[])
  (u:∀m:List (DataW H),m.length=c.params.size->s.fn H m={results:=[.lit (.bool true)],args:=m})
  (witness:∃(w:World) (tape:Tape) (i:Input),w.os=os/\(w.forCall tape i).Shaped C.prog/\i.vars=[]/\Input.okWide C.prog (w.forCall tape i) .any w.heap.size f i/\
   ((s.pre enc C.prog c [] false (w.forCall tape i).memory i.args/\laidMetH C.prog laid (w.forCall tape i).memory)/\sizedMet enc C.prog c (OpenSpec.ofChange s) false (w.forCall tape i).memory i.args)/\({}:Assume).holds C.prog (lone (Frame.enter C.prog f i.args .normal) [] (w.forCall tape i)))
  (walk:∀(W:World) (base:Nat) (args:List Value) (m:List (DataW H)) (ps:List MemPlace),DataW.TrodAll enc C.prog W 0 (fun _=>true) true c.params.toList args m ps->
   (∀(j:Nat) t v,c.params[j]?=some t->args[j]?=some v->Value.okWide C.prog W .any base t v)->laidMetH C.prog laid W->Calls C.prog f ⟨args⟩ W fun e N=>e= .returned (.bool true)/\Below W.heap.size W N):
  ReturnsInHanded {} C os f .any (fun w args=>(s.pre enc C.prog c [] false w args/\laidMetH C.prog laid w)/\sizedMet enc C.prog c (OpenSpec.ofChange s) false w args) (s.post enc C.prog c false fresh handsOn false):=by
 refine returnsInHanded_of_change_and (C:=C) (X:=fun w _=>laidMetH C.prog laid w) (fun _ _ _ Z h=>h.of_heap Z) own started o E witness ?_
 intro W base args m gs before B Q _ _ U _
 have D:=Q
 obtain⟨p,q,hA,O,rfl,Y,α⟩:=Q
 rw[g] at O
 obtain⟨rfl,rfl⟩:=trodVars_none O
 have r:=u m (by rw[Z1 _ hA];simp)
 obtain⟨args⟩:=args
 refine(walk W base args m p hA (fun j t v S T=>B j t v S (by simpa using T)) U).mono fun e N ⟨V,z⟩=>?_
 subst V
 refine⟨_,rfl,m,[],_,[],p,[],D,?_,?_,?_,z.frame _,fun h=>by cases h⟩
 .rw[List.append_nil,r,A];exact trodAll_mk1 (shut_bool J _)
 .rw[List.append_nil,r];exact Pw F z _ I hA
 .rw[List.append_nil,r,g];rfl
theorem gS {k:IntKind} {c:List (Option IntKind)} {l:List Value} (h:Flat (some k::c) l):∃(n:Int) (l':List Value),l= .int k n::l'/\Flat c l':=by
 cases l with
 |nil=>exact h.elim
 |cons v l=>obtain⟨⟨n,rfl,_⟩,h⟩:=h;exact⟨n,l,rfl,h⟩
theorem zO {l:List Value} (h:Flat [] l):l=[]:=by
 cases l with
 |nil=>rfl
 |cons v l=>exact h.elim
theorem Pj {P:Program} {W:World} {base:Nat} {t e:TypeId} {v:Value} {d:DataW H} {p:List MemPlace} {n:Nat} {i:List (Option IntKind)} (o:P.underlying t=some (.slice e)) (s:pL P n e=some i) (hc:P.cellsOf e=i.length) (r:0<i.length)
  (j:Value.okWide P W .any base t v) (h:DataW.Trod enc P W 0 (fun _=>true) true t v d p):∃a len c,v= .slice a len c/\jN i W a len c:=by
 obtain⟨a,len,c,rfl⟩:=okWide_slice o j
 obtain⟨fuel,u⟩:=h
 obtain⟨A,q,m,g,z⟩:=Hb o s hc r u
 simp[Value.cells] at g
 obtain⟨rfl,rfl,rfl⟩:=g
 exact⟨_,_,_,rfl,z⟩
theorem Vz {P:Program} {W:World} {base:Nat} {t e:TypeId} {m:Nat} {v:Value} {d:DataW H} {p:List MemPlace} {n:Nat} {g:List (Option IntKind)} (q:P.underlying t=some (.array m e)) (j:pL P n t=some g)
  (c:Value.okWide P W .any base t v) (h:DataW.Trod enc P W 0 (fun _=>true) true t v d p):∃l,v= .agg ⟨l⟩/\Flat g l:=by
 simp only[Value.okWide,q] at c
 obtain⟨i,rfl,_,_⟩:=c
 obtain⟨fuel,o⟩:=h
 obtain⟨l⟩:=i
 exact⟨l,rfl,Gp n j o⟩
end
end Go.Ab
