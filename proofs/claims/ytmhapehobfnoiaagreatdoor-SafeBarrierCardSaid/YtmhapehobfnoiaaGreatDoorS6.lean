/- A part of the proof. -/
import Derived.Test.YtmhapehobfnoiaaGreatDoorS4
import Derived.IntWalk
import Derived.KernelRfl
namespace Go.Ab
open Go.RowKit
section
inductive Tok where
 |free
 |mt (e:TypeId) (x:Bool) (n:Nat)
 |Me (b:oS)
structure cN where
 cell:Nat->Nat->Option Value
 tok:Nat->Option Tok
def K2:oS->Bool
 |.cells ..=>false
 |_=>true
structure cN.In (r:cN) (h:AH):Prop where
 cell:∀b o v,r.cell b o=some v->h.base<=b/\∃c e x,h.get b=some (.cells c e (0,0) x)/\c[o]?=some v
 free:∀b,r.tok b=some .free->h.base<=b/\b<h.next/\h.get b=none
 mt:∀b e x n,r.tok b=some (.mt e x n)->h.base<=b/\∃c,h.get b=some (.cells c e (0,0) x)/\c.length=n
 Me:∀b o,r.tok b=some (.Me o)->h.base<=b/\h.get b=some o/\K2 o=true
structure cN.vI (r s:cN):Prop where
 cell:∀b o,r.cell b o=none\/s.cell b o=none
 tok:∀b,r.tok b=none\/s.tok b=none
def cN.add (r s:cN):cN:=⟨fun b o=>(r.cell b o).or (s.cell b o),fun b=>(r.tok b).or (s.tok b)⟩
def cN.emp:cN:=⟨fun _ _=>none,fun _=>none⟩
theorem cN.ext' {r s:cN} (c:∀b o,r.cell b o=s.cell b o) (g:∀b,r.tok b=s.tok b):r=s:=by
 cases r;cases s;simp only[cN.mk.injEq];grind
theorem I2 {α:Type} {a b:Option α} (h:a=none\/b=none):a.or b=b.or a:=by
 rcases h with h|h<;>subst h<;>simp
theorem or_none {α:Type} {a b:Option α} (h:a.or b=none):a=none/\b=none:=by cases a<;>simp_all
theorem cN.vI.symm {r s:cN} (d:r.vI s):s.vI r:=⟨fun b o=>(d.cell b o).symm,fun b=>(d.tok b).symm⟩
theorem cN.add_comm {r s:cN} (d:r.vI s):r.add s=s.add r:=cN.ext' (fun b o=>I2 (d.cell b o)) (fun b=>I2 (d.tok b))
theorem cN.add_assoc {r s t:cN}:(r.add s).add t=r.add (s.add t):=cN.ext' (fun b o=>by simp[cN.add,Option.or_assoc]) (fun b=>by simp[cN.add,Option.or_assoc])
theorem cN.iI {r s t:cN}:r.vI (s.add t)↔r.vI s/\r.vI t:=by
 constructor;intro d;refine⟨⟨fun b o=>?_,fun b=>?_⟩,⟨fun b o=>?_,fun b=>?_⟩⟩;rcases d.cell b o with h|h;exact .inl h;exact .inr (or_none h).1;rcases d.tok b with h|h;exact .inl h;exact .inr (or_none h).1;rcases d.cell b o with h|h;exact .inl h;exact .inr (or_none h).2;rcases d.tok b with h|h;exact .inl h;exact .inr (or_none h).2;intro⟨d1,d2⟩;refine⟨fun b o=>?_,fun b=>?_⟩;rcases d1.cell b o with h|h;exact .inl h;rcases d2.cell b o with c|c;exact .inl c;exact .inr (by simp[cN.add,h,c]);rcases d1.tok b with h|h;exact .inl h;rcases d2.tok b with c|c;exact .inl c;exact .inr (by simp[cN.add,h,c])
theorem cN.gD {r:cN}:cN.emp.add r=r:=cN.ext' (fun _ _=>by simp[cN.add,cN.emp]) (fun _=>by simp[cN.add,cN.emp])
theorem cN.dP {r:cN}:cN.emp.vI r:=⟨fun _ _=> .inl rfl,fun _=> .inl rfl⟩
theorem cN.fP {r s:cN} {h:AH} (d:r.vI s):(r.add s).In h↔r.In h/\s.In h:=by
 have g:∀b o v,r.cell b o=some v->(r.add s).cell b o=some v:=fun b o v c=>by simp[cN.add,c]
 have c2:∀b o v,s.cell b o=some v->(r.add s).cell b o=some v:=fun b o v c=>by
  rcases d.cell b o with h|h;simp[cN.add,h,c];grind
 have t1:∀b v,r.tok b=some v->(r.add s).tok b=some v:=fun b v c=>by simp[cN.add,c]
 have t2:∀b v,s.tok b=some v->(r.add s).tok b=some v:=fun b v c=>by
  rcases d.tok b with h|h;simp[cN.add,h,c];grind
 have c3:∀b o v,(r.add s).cell b o=some v->r.cell b o=some v\/s.cell b o=some v:=fun b o v c=>by
  simp only[cN.add] at c;cases hr:r.cell b o with
  |none=>grind
  |some u=>grind
 have t3:∀b v,(r.add s).tok b=some v->r.tok b=some v\/s.tok b=some v:=fun b v c=>by
  simp only[cN.add] at c;cases hr:r.tok b with
  |none=>grind
  |some u=>grind
 constructor;intro i;exact⟨⟨fun b o v c=>i.cell b o v (g _ _ _ c),fun b c=>i.free b (t1 _ _ c),fun b e x n c=>i.mt b e x n (t1 _ _ c),fun b o c=>i.Me b o (t1 _ _ c)⟩,
     ⟨fun b o v c=>i.cell b o v (c2 _ _ _ c),fun b c=>i.free b (t2 _ _ c),fun b e x n c=>i.mt b e x n (t2 _ _ c),fun b o c=>i.Me b o (t2 _ _ c)⟩⟩
 intro⟨i,j⟩;refine⟨fun b o v c=>?_,fun b c=>?_,fun b e x n c=>?_,fun b o c=>?_⟩;rcases c3 _ _ _ c with h|h;exact i.cell b o v h;exact j.cell b o v h;rcases t3 _ _ c with h|h;exact i.free b h;exact j.free b h;rcases t3 _ _ c with h|h;exact i.mt b e x n h;exact j.mt b e x n h;rcases t3 _ _ c with h|h;exact i.Me b o h;exact j.Me b o h
abbrev HP:=cN->Prop
def star:List HP->cN->Prop
 |[],r=>r=cN.emp
 |A::L,r=>∃c g,A c/\star L g/\c.vI g/\r=c.add g
theorem F9 {L L':List HP} (p:L.Perm L'):∀r,star L r->star L' r:=by
 induction p with
 |nil=>exact fun _ h=>h
 |cons A _ w=>exact fun r ⟨c,m,g,q,i,j⟩=>⟨c,m,g,w _ q,i,j⟩
 |swap A B L=>
  intro r ⟨c,m,g,⟨r3,o,s,t,u,v⟩,i,j⟩;subst v;subst j;obtain⟨d1,d2⟩:=cN.iI.1 i;refine⟨r3,c.add o,s,⟨c,o,g,t,d2,rfl⟩,cN.iI.2 ⟨d1.symm,u⟩,?_⟩;rw[<-cN.add_assoc,<-cN.add_assoc,cN.add_comm d1]
 |trans _ _ z C=>grind
theorem jD {L M:List HP}:∀{r},star (L++M) r↔∃c g,star L c/\star M g/\c.vI g/\r=c.add g:=by
 induction L with
 |nil=>intro r;exact⟨fun h=>⟨cN.emp,r,rfl,h,cN.dP,cN.gD.symm⟩,fun⟨c,g,j,m,o,i⟩=>by cases j;rw[cN.gD] at i;subst i;exact m⟩
 |cons A L v=>
  intro r;constructor;intro⟨c,g,j,m,o,i⟩;obtain⟨r3,q,s,t,u,w⟩:=v.1 m;subst w;obtain⟨d1,d2⟩:=cN.iI.1 o;exact⟨c.add r3,q,⟨c,r3,j,s,d1,rfl⟩,t,(cN.iI.2 ⟨d2.symm,u.symm⟩).symm,by rw[i,cN.add_assoc]⟩;intro⟨c,g,⟨r3,q,j,m,o,i⟩,s,t,u⟩;subst i;obtain⟨d1,d2⟩:=cN.iI.1 t.symm;exact⟨r3,q.add g,j,v.2 ⟨q,g,m,s,d2.symm,rfl⟩,cN.iI.2 ⟨o,d1.symm⟩,by rw[u,cN.add_assoc]⟩
structure Bg where
 base:Nat
 old:Nat->Option oS
structure Hs (G:Bg) (h:AH) (L:List HP):Prop where
 base:h.base=G.base
 old:h.old=G.old
 wf:h.base<=h.next
 fr:∀i,h.next<=i->h.get i=none
 res:∃r,star L r/\r.In h
variable {P:Program} {K:FuncId->List Value->Option kA} {G:Bg} {h:AH} {L L' M:List HP}
theorem Hs.perm (c:Hs G h L) (p:L.Perm L'):Hs G h L':=⟨c.base,c.old,c.wf,c.fr,let⟨r,g,i⟩:=c.res;⟨r,F9 p r g,i⟩⟩
theorem Hs.tail {A:HP} (c:Hs G h (A::L)):Hs G h L:=⟨c.base,c.old,c.wf,c.fr,let⟨_,⟨_,o,_,g,i,j⟩,m⟩:=c.res;⟨o,g,((cN.fP i).1 (j▸m)).2⟩⟩
theorem Hs.imp {A:HP} {B:List HP} (c:Hs G h (A::L)) (k:∀r,A r->star B r):Hs G h (B++L):=⟨c.base,c.old,c.wf,c.fr,let⟨r,⟨g,s,i,j,m,o⟩,q⟩:=c.res;⟨r,jD.2 ⟨g,s,k g i,j,m,o⟩,q⟩⟩
theorem Hs.join {A:List HP} {B:HP} (c:Hs G h (A++L)) (k:∀r,star A r->B r):Hs G h (B::L):=⟨c.base,c.old,c.wf,c.fr,let⟨r,g,q⟩:=c.res;let⟨i,s,g,j,m,o⟩:=jD.1 g;⟨r,⟨i,s,k i g,j,m,o⟩,q⟩⟩
class Has {α:Type} (R:α->HP) (L:List HP) (a:outParam α) (L':outParam (List HP)):Prop where
 perm:L.Perm (R a::L')
instance (priority:=low) Has.there {α:Type} {R:α->HP} {A:HP} {a:α} [k:Has R L a L']:Has R (A::L) a (A::L'):=⟨(k.perm.cons A).trans (List.Perm.swap _ _ _)⟩
instance (priority:=high) Has.here {α:Type} {R:α->HP} {a:α}:Has R (R a::L) a L:=⟨List.Perm.refl _⟩
instance (priority:=high) Has.app {α:Type} {R:α->HP} {A:HP} {c L2:List HP} {a:α} [k:Has R (A::(c++L2)) a L']:Has R ((A::c)++L2) a L':=k
instance (priority:=high) Has.aEt {α:Type} {R:α->HP} {L2:List HP} {a:α} [k:Has R L2 a L']:Has R ([]++L2) a L':=k
def Ef (b o:Nat) (c:List Value):cN:=⟨fun i g=>if i=b/\o<=g then c[g - o]? else none,fun _=>none⟩
def aE (b o:Nat) (c:List Value):HP:=fun r=>r=Ef b o c
def mt (b:Nat) (m:TypeId×Bool×Nat):HP:=fun r=>r=⟨fun _ _=>none,fun c=>if c=b then some (.mt m.1 m.2.1 m.2.2) else none⟩
def ot (b:Nat) (o:oS):HP:=fun r=>r=⟨fun _ _=>none,fun c=>if c=b then some (.Me o) else none⟩
def frs (c n:Nat) (D:List Nat):HP:=fun r=>r=⟨fun _ _=>none,fun b=>if c<=b/\b<c+n/\(b - c)∉D then some .free else none⟩
theorem qS {b o:Nat} {c:List Value} {g o':Nat}:(Ef b o c).cell g o'=if g=b/\o<=o' then c[o' - o]? else none:=rfl
theorem Hd {b o:Nat} {c d:List Value}:Ef b o (c++d)=(Ef b o c).add (Ef b (o+c.length) d):=by
 refine cN.ext' (fun g i=>?_) (fun _=>rfl);simp only[cN.add,qS];grind
theorem iy {b o:Nat} {c d:List Value}:(Ef b o c).vI (Ef b (o+c.length) d):=by
 refine⟨fun g i=>?_,fun _=> .inl rfl⟩;simp only[qS];grind
theorem Bu {b o:Nat} {c d:List Value} (r:cN):aE b o (c++d) r↔star [aE b o c,aE b (o+c.length) d] r:=by
 constructor;intro t;cases t;exact⟨_,_,rfl,⟨_,cN.emp,rfl,rfl,cN.dP.symm,rfl⟩,by rw[cN.add_comm cN.dP.symm,cN.gD];exact iy,by rw[cN.add_comm (s:=cN.emp) cN.dP.symm,cN.gD,Hd]⟩;intro⟨w,z,i,⟨r3,A,j,m,v,q⟩,u,g⟩;cases i;cases j;cases m;subst q;rw[cN.add_comm (s:=cN.emp) cN.dP.symm,cN.gD] at g;rw[<-Hd] at g;exact g
theorem Hs.split {b o:Nat} {c d:List Value} (g:Hs G h (aE b o (c++d)::L)):Hs G h (aE b o c::aE b (o+c.length) d::L):=g.imp (B:=[_,_]) fun r=>(Bu r).1
theorem Hs.Im {b o o':Nat} {c d:List Value} (i:Hs G h (aE b o c::aE b o' d::L)) (g:o'=o+c.length):Hs G h (aE b o (c++d)::L):=by
 subst g;exact Hs.join (A:=[_,_]) i fun r=>(Bu r).2
theorem Hs.cellAt {b o j:Nat} {c:List Value} {v:Value} (i:Hs G h (aE b o c::L)) (hc:c[j]?=some v):
  G.base<=b/\∃g e x,h.get b=some (.cells g e (0,0) x)/\g[o+j]?=some v:=by
 obtain⟨_,⟨u,w,m,t,q,r⟩,s⟩:=i.res
 cases m
 subst r
 have:=((cN.fP q).1 s).1.cell b (o+j) v (by rw[qS,aKj ⟨rfl,by omega⟩];grind)
 rw[i.base] at this
 exact this
theorem Hs.cells {b o:Nat} {c:List Value} (q:Hs G h (aE b o c::L)) (m:0<c.length):
  G.base<=b/\∃i e x,h.get b=some (.cells i e (0,0) x)/\o+c.length<=i.length/\∀j,j<c.length->i[o+j]?=c[j]?:=by
 obtain⟨r,i,e,x,s,w⟩:=q.cellAt (j:=0) (List.getElem?_eq_getElem m)
 have g:∀j,j<c.length->i[o+j]?=c[j]?:=fun j u=>by
  obtain⟨_,c2,v,B,t,A⟩:=q.cellAt (j:=j) (List.getElem?_eq_getElem u);grind
 refine⟨r,i,e,x,s,?_,g⟩
 have z:=g (c.length - 1) (by omega)
 grind
theorem cN.In.of {r:cN} {h h':AH} (i:r.In h) (hb:h'.base=h.base) (t:h.next<=h'.next) (s:∀b,(r.tok b≠none\/∃o,r.cell b o≠none)->h'.get b=h.get b):r.In h' where
 cell:=fun b o v g=>by
  obtain⟨j,c,e,x,m,q⟩:=i.cell b o v g;grind
 free:=fun b g=>by
  obtain⟨j,m,q⟩:=i.free b g;grind
 mt:=fun b e x n g=>by
  obtain⟨j,c,m,q⟩:=i.mt b e x n g;grind
 Me:=fun b o g=>by
  obtain⟨j,m,q⟩:=i.Me b o g;grind
theorem AH.Bs {h:AH} {i:Nat} {o:Option oS}:(h.set i o).old=h.old:=by rw[AH.set_eq];split<;>rfl
theorem Hs.write {b o j:Nat} {c vs:List Value} (u:Hs G h (aE b o c::L)) (hl:j+vs.length<=c.length) (hv:vs.all eJ=true) (F:0<c.length):
  ∃N,dI h ⟨b,o+j,none⟩ vs=some N/\Hs G N (aE b o (cF c j vs)::L):=by
 obtain⟨X,w,e,x,A,S,z⟩:=u.cells F
 have t:h.base<=b:=by rw[u.base];exact X
 refine⟨h.set b (some (.cells (cF w (o+j) vs) e (0,0) x)),?_,?_⟩
 .simp only[dI,Option.isSome_none,Bool.false_or,hv,Bool.not_true,Bool.or_false,A];grind
 .obtain⟨_,⟨r1,J,h1,C,D,V⟩,W⟩:=u.res;cases h1;subst V;obtain⟨i1,i2⟩:=(cN.fP D).1 W;have r:∀i,(h.set b (some (.cells (cF w (o+j) vs) e (0,0) x))).get i=if i=b then some (.cells (cF w (o+j) vs) e (0,0) x) else h.get i:=fun i=>AH.jR t
  have I:∀k,(cF w (o+j) vs)[k]?=if o+j<=k/\k<o+j+vs.length then vs[k - (o+j)]? else w[k]?:=fun k=>by
   unfold cF;by_cases h1:k<o+j;grind;by_cases C:k<o+j+vs.length;grind;rw[aab,List.getElem?_append_right (by simp;omega)];simp only[List.length_append,List.length_take,List.getElem?_drop];congr 1;omega
  have H:∀k,(cF c j vs)[k]?=if j<=k/\k<j+vs.length then vs[k - j]? else c[k]?:=fun k=>by
   unfold cF;by_cases h1:k<j;grind;by_cases C:k<j+vs.length;grind;rw[aab,List.getElem?_append_right (by simp;omega)];simp only[List.length_append,List.length_take,List.getElem?_drop];congr 1;omega
  have T:(cF c j vs).length=c.length:=by simp[cF];omega
  have O:(Ef b o (cF c j vs)).vI J:=by
   refine⟨fun m q=>?_,fun _=> .inl rfl⟩;rcases D.cell m q with h|h;left;rw[qS] at h ⊢;grind;exact .inr h
  have Y:b<h.next:=by
   rcases Nat.lt_or_ge b h.next with h1|h1
   exact h1;rw[u.fr b h1] at A;cases A
  refine⟨by simp;exact u.base,by rw[AH.Bs];exact u.old,by simp;exact u.wf,fun i Q=>by simp at Q;rw[r,aab];exact u.fr i Q,_,⟨_,J,rfl,C,O,rfl⟩,(cN.fP O).2 ⟨?_,?_⟩⟩
  .refine⟨fun m q v g=>?_,fun _ B=>by simp[Ef] at B,fun _ _ _ _ B=>by simp[Ef] at B,fun _ _ B=>by simp[Ef] at B⟩;rw[qS] at g;split at g
   .rename_i Z;obtain⟨rfl,ho⟩:=Z;refine⟨by simp;exact t,_,e,x,by rw[r,aKj rfl],?_⟩;rw[I];rw[H] at g;split at g
    .rename_i R;rw[aac,show q - (o+j)=q - o - j by omega];exact g
    .rename_i R;rw[aab];have E:q - o<c.length:=(List.getElem?_eq_some_iff.1 g).1;have:=z (q - o) E;rw[show o+(q - o)=q by omega] at this;rw[this];exact g
   .cases g
  .have α:∀m q v,J.cell m q=some v->m=b->¬(o+j<=q/\q<o+j+vs.length):=by
    intro m q v g s R;subst s;rcases D.cell m q with h|h;rw[qS,aKj ⟨rfl,by omega⟩,List.getElem?_eq_none_iff] at h;omega;grind
   refine⟨fun m q v g=>?_,fun m g=>?_,fun m U x' n g=>?_,fun m ob g=>?_⟩
   .obtain⟨g1,c2,e2,x2,g2,g3⟩:=i2.cell m q v g;refine⟨by simp;exact g1,?_⟩;grind
   .obtain⟨g1,g2,g3⟩:=i2.free m g;refine⟨by simp;exact g1,by simp;exact g2,?_⟩;grind
   .obtain⟨g1,c2,g2,g3⟩:=i2.mt m U x' n g;refine⟨by simp;exact g1,?_⟩;rw[r];by_cases s:m=b
    .rw[aKj s];rw[s,A] at g2;cases g2;exact⟨_,rfl,by simp[cF];omega⟩
    grind
   .obtain⟨g1,g2,g3⟩:=i2.Me m ob g;refine⟨by simp;exact g1,?_,g3⟩;rw[r,aKi (by intro s;subst s;rw[A] at g2;cases g2;simp[K2] at g3)];exact g2
theorem Zl {r:cN} {h:AH} {i:Nat} (q:r.In h) (m:h.get i=none) (s:r.tok i=none) {c:List Value} {t:Option Tok}:
  (⟨fun b o=>if b=i then c[o]? else none,fun b=>if b=i then t else none⟩:cN).vI r:=by
 refine⟨fun b o=>?_,fun b=>?_⟩
 .by_cases j:b=i
  .right;subst j;cases hc:r.cell b o with
   |none=>rfl
   |some v=>obtain⟨_,_,_,_,g,_⟩:=q.cell b o v hc;rw[m] at g;cases g
  .left;simp[j]
 grind
def mL (i:Nat) (c:List Value) (t:Option Tok):cN:=⟨fun b o=>if b=i then c[o]? else none,fun b=>if b=i then t else none⟩
theorem qJ {i:Nat} {c:List Value} {e:TypeId} {x:Bool}:star [aE i 0 c,mt i (e,x,c.length)] (mL i c (some (.mt e x c.length))):=by
 refine⟨Ef i 0 c,_,rfl,⟨_,cN.emp,rfl,rfl,cN.dP.symm,rfl⟩,?_,?_⟩;rw[cN.add_comm (s:=cN.emp) cN.dP.symm,cN.gD];exact⟨fun _ _=> .inr rfl,fun _=> .inl rfl⟩;rw[cN.add_comm (s:=cN.emp) cN.dP.symm,cN.gD];refine cN.ext' (fun b o=>?_) (fun b=>?_);simp[mL,cN.add,Ef];simp[mL,cN.add,Ef]
theorem Hs.new {c:List Value} {e:TypeId} {x:Bool} (u:Hs G h L):Hs G (h.alloc (.cells c e (0,0) x)) (aE h.next 0 c::mt h.next (e,x,c.length)::L):=by
 obtain⟨r,E,z⟩:=u.res;have w:h.get h.next=none:=u.fr _ (Nat.le_refl _)
 have A:r.tok h.next=none:=by
  cases ht:r.tok h.next with
  |none=>rfl
  |some t=>
   cases t with
   |free=>have:=(z.free _ ht).2.1;omega
   |mt D H n=>obtain⟨_,_,g,_⟩:=z.mt _ _ _ _ ht;grind
   |Me o=>obtain⟨_,g,_⟩:=z.Me _ _ ht;grind
 have C:(mL h.next c (some (.mt e x c.length))).vI r:=Zl z w A;have m:∀j,(h.alloc (.cells c e (0,0) x)).get j=if j=h.next then some (.cells c e (0,0) x) else h.get j:=fun j=>AH.wR u.wf
 refine⟨u.base,u.old,Nat.le_succ_of_le u.wf,fun i F=>by simp at F;rw[m,aab];exact u.fr i (by omega),(mL h.next c (some (.mt e x c.length))).add r,(jD (L:=[aE h.next 0 c,mt h.next (e,x,c.length)])).2 ⟨_,r,qJ,E,C,rfl⟩,(cN.fP C).2 ⟨?_,?_⟩⟩;refine⟨fun b o v q=>?_,fun b q=>?_,fun b D H n q=>?_,fun b o q=>?_⟩;simp only[mL] at q;split at q;rename_i s;subst s;exact⟨by simp;exact u.wf,c,e,x,by rw[m,aKj rfl],q⟩;cases q;simp only[mL] at q;grind;simp only[mL] at q;split at q;rename_i s;subst s;cases q;exact⟨by simp;exact u.wf,c,by rw[m,aKj rfl],rfl⟩;cases q;simp only[mL] at q;grind;refine z.of rfl (by simp) fun b s=>?_;rw[m,aKi];intro B;subst B;rcases s with s|⟨o,s⟩;exact s A;apply s;cases hc:r.cell h.next o with
 |none=>rfl
 |some v=>obtain⟨_,_,_,_,g,_⟩:=z.cell _ o v hc;grind
end
end Go.Ab
section
namespace Go.Ab
variable {P:Program} {K:FuncId->List Value->Option kA} {G:Bg} {h:AH} {L L' M:List HP}
theorem Has.of {α:Type} {R:α->HP} {a:α} (m:Has R L a L') (c:Hs G h L):Hs G h (R a::L'):=c.perm m.perm
def uX (h:AH) (_i:Nat) (e:TypeId) (l:List Value) (n c:Nat) (k:Value->AH->Prop):Prop:=B4 h (.cells l e (0,0) true) fun p g=>k (.slice (some ⟨p,0,none⟩) n c) g
def lK (h:AH) (r:Nat) (_i:Nat) (e:TypeId) (l:List Value) (n c:Nat) (k:Value->AH->Prop):Prop:=mA h r (.cells l e (0,0) true) fun p g=>k (.slice (some ⟨p,0,none⟩) n c) g
def lp (P:Program) (f:FuncId) (p:List Nat) (n:Nat) (e:Nat->Value) (d:Nat) (st:LoopState) (pd:Option Code):oS:=
 .loop st pd f ((List.range n).map e) (rgF (cd P f p)).2.1 (rgF (cd P f p)).2.2.1 (rgF (cd P f p)).2.2.2 d
theorem Hs.Wb (c:Hs G h L) {b:Nat} (hb:b<G.base):h.get b=G.old b:=by
 rw[AH.get_eq,c.base,aKj hb,c.old]
structure Ob (G:Bg) (b:Nat) (c:List Value):Prop where
 lt:b<G.base
 get:∃e fz x,G.old b=some (.cells c e fz x)
theorem aC {b o j:Nat} {c:List Value} {v:Value} {k:Value->Prop} (r:Hs G h L) [m:Has (aE b o) L c L'] (hc:c[j]?=some v) (q:k v):bG (ld1 h (pt b o j)) k:=by
 obtain⟨_,s,e,x,i,g⟩:=(m.of r).cellAt hc;exact⟨v,by simp[ld1,pt,i,g],q⟩
theorem am (b:Nat) {j:Nat} {c:List Value} {v:Value} {k:Value->Prop} (r:Hs G h L) [m:Has (aE b 0) L c L'] (hc:c[j]?=some v) (q:k v):bG (ld1 h (pt b 0 j)) k:=aC (b:=b) (o:=0) r hc q
theorem Af {b o j:Nat} {c:List Value} {v:Value} {k:Value->Prop} (q:Hs G h L) (g:Ob G b c) (hc:c[o+j]?=some v) (m:k v):bG (ld1 h (pt b o j)) k:=by
 obtain⟨e,r,x,i⟩:=g.get;exact⟨v,by simp[ld1,pt,q.Wb g.lt,i,hc],m⟩
theorem aR {b o j n:Nat} {c l:List Value} {k:Value->Prop} (s:Hs G h L) [m:Has (aE b o) L c L'] (z:0<n) (hc:(c.drop j).take n=l) (w:l.length=n) (r:k (.agg ⟨l⟩)):bG (uF h n (pt b o j)) k:=by
 have g:j+n<=c.length:=by
  grind
 obtain⟨_,t,e,x,q,u,v⟩:=(m.of s).cells (by omega);refine⟨.agg ⟨l⟩,?_,r⟩;simp only[uF,pt,cJ,Option.isSome_none,Bool.false_eq_true,if_false,q];rw[aac];simp only[Option.map_some,Option.some.injEq,Value.agg.injEq,Array.mk.injEq];rw[<-hc];refine List.ext_getElem? fun i=>?_;grind
theorem an (b:Nat) {j n:Nat} {c l:List Value} {k:Value->Prop} (s:Hs G h L) [m:Has (aE b 0) L c L'] (hc:(c.drop j).take n=l) (w:l.length=n) (r:k (.agg ⟨l⟩)) (z:0<n:=by decide):bG (uF h n (pt b 0 j)) k:=aR (b:=b) (o:=0) s z hc w r
theorem Vq {b o j n:Nat} {c l:List Value} {k:Value->Prop} (q:Hs G h L) (g:Ob G b c) (hc:(c.drop (o+j)).take n=l) (s:l.length=n) (hb:o+j<=c.length) (m:k (.agg ⟨l⟩)):bG (uF h n (pt b o j)) k:=by
 obtain⟨e,r,x,i⟩:=g.get;have:=congrArg List.length hc;simp at this;exact⟨.agg ⟨l⟩,by simp[uF,pt,cJ,q.Wb g.lt,i,hc];omega,m⟩
def dS:List Value->Nat->List Value->List Value
 |c,0,[]=>c
 |[],0,_::_=>[]
 |_::c,0,v::g=>v::dS c 0 g
 |[],_+1,_=>[]
 |x::c,j+1,g=>x::dS c j g
theorem rU:∀(c:List Value) (j:Nat) (vs:List Value),j+vs.length<=c.length->cF c j vs=dS c j vs
 |c,0,[],_=>by cases c<;>simp[cF,dS]
 |[],0,_::_,h=>by simp at h
 |x::c,0,v::vs,h=>by
  have:=rU c 0 vs (by simp at h ⊢;omega);simp only[dS];rw[<-this];simp[cF]
 |[],j+1,vs,h=>by simp at h
 |x::c,j+1,vs,h=>by
  have:=rU c j vs (by simp at h ⊢;omega);simp only[dS];rw[<-this];simp only[cF,List.take_succ_cons,List.cons_append];grind
theorem aFt {b o j n:Nat} {c vs:List Value} {v:Value} {k:AH->Prop} (w:Hs G h L) [m:Has (aE b o) L c L'] (z:iK v=some vs) (u:vs.length=n) (q:Nat.ble (j+n) c.length=true) (hb:vs.all eJ=true) (r:Nat.ble 1 c.length=true)
  (t:∀g,Hs G g (aE b o (dS c j vs)::L')->k g):bG (uG h n (pt b o j) v) k:=by
 have q:=Nat.le_of_ble_eq_true q
 obtain⟨g,s,i⟩:=(m.of w).write (j:=j) (vs:=vs) (by omega) hb (Nat.le_of_ble_eq_true r)
 rw[rU _ _ _ (by omega)] at i
 exact⟨g,by simp[uG,pt,z,u,s],t _ i⟩
theorem bM {cs:List Value} {e:TypeId} {k:Nat->AH->Prop} (j:Hs G h L) (i:∀p g,Hs G g (aE p 0 cs::L)->k p g):B4 h (.cells cs e (0,0) true) k:=
 i _ _ (let t:=j.new (c:=cs) (e:=e) (x:=true);(t.perm (List.Perm.swap _ _ _)).tail)
theorem aHm {cs:List Value} {e:TypeId} {v:Value} {k:Nat->AH->Prop} (i:Hs G h L) (j:iK v=some cs) (g:∀p c,Hs G c (aE p 0 cs::L)->k p c):bG (kX e v) fun b=>B4 h b k:=
 ⟨.cells cs e (0,0) true,by simp[kX,j],bM i g⟩
def Z6 (r:Nat) (x:Nat×List Nat):HP:=frs r x.1 x.2
theorem za {n:Nat} {k:Nat->AH->Prop} (c:Hs G h L) (C:∀r u,Hs G u (Z6 r (n,[])::L)->k r u):vT h n k:=by
 refine C _ _ ?_;obtain⟨r,A,j⟩:=c.res;have w:∀i,({h with next:=h.next+n}:AH).get i=h.get i:=fun i=>rfl;refine⟨c.base,c.old,Nat.le_trans c.wf (Nat.le_add_right _ _),fun i B=>by rw[w];exact c.fr i (Nat.le_trans (Nat.le_add_right _ _) B),_,⟨_,r,rfl,A,?_,rfl⟩,(cN.fP ?_).2 ⟨?_,?_⟩⟩;rotate_right;exact j.of rfl (Nat.le_add_right _ _) fun _ _=>rfl;have s:∀b,h.next<=b->r.tok b=none:=fun b q=>by
  cases ht:r.tok b with
  |none=>rfl
  |some t=>
   cases t with
   |free=>have:=(j.free _ ht).2.1;omega
   |mt z D n=>obtain⟨_,_,g,_⟩:=j.mt _ _ _ _ ht;rw[c.fr b q] at g;cases g
   |Me o=>obtain⟨_,g,_⟩:=j.Me _ _ ht;rw[c.fr b q] at g;cases g
 refine⟨fun _ _=> .inl rfl,fun b=>?_⟩;grind;have s:∀b,h.next<=b->r.tok b=none:=fun b q=>by
  cases ht:r.tok b with
  |none=>rfl
  |some t=>
   cases t with
   |free=>have:=(j.free _ ht).2.1;omega
   |mt z D n=>obtain⟨_,_,g,_⟩:=j.mt _ _ _ _ ht;rw[c.fr b q] at g;cases g
   |Me o=>obtain⟨_,g,_⟩:=j.Me _ _ ht;rw[c.fr b q] at g;cases g
 refine⟨fun _ _=> .inl rfl,fun b=>?_⟩;grind;refine⟨fun _ _ _ m=>(by cases m),fun b m=>?_,fun b e x n m=>?_,fun b o m=>?_⟩;simp only at m;split at m;rename_i v;have:=c.wf;exact⟨by grind,v.2.1,by rw[w];exact c.fr b v.1⟩;cases m;grind;grind
def Ny (c:Bool) (g:List Nat) (op:BinOp) (a b:Value) (q:Value->Prop):Prop:=c=true/\bG (Md g op a b) q
def P3 (c:Bool) (h:AH) (n:Nat) (k:Nat->AH->Prop):Prop:=c=true/\vT h n k
theorem bE {c:Bool} {n:Nat} {k:Nat->AH->Prop} (j:Hs G h L) (i:∀r g,Hs G g (Z6 r (n,[])::L)->k r g) (hc:c=true:=by kernel_rfl):P3 c h n k:=⟨hc,za j i⟩
theorem Ub {r n i:Nat} {D:List Nat} (c:i<n) (hD:i∉D):star [fun q=>q=(⟨fun _ _=>none,fun b=>if b=r+i then some .free else none⟩:cN),frs r n (i::D)] ⟨fun _ _=>none,fun b=>if r<=b/\b<r+n/\(b - r)∉D then some .free else none⟩:=by
 refine⟨_,_,rfl,⟨_,cN.emp,rfl,rfl,cN.dP.symm,rfl⟩,?_,?_⟩;rw[cN.add_comm (s:=cN.emp) cN.dP.symm,cN.gD];refine⟨fun _ _=> .inl rfl,fun b=>?_⟩;grind;rw[cN.add_comm (s:=cN.emp) cN.dP.symm,cN.gD];refine cN.ext' (fun _ _=>rfl) (fun b=>?_);simp only[cN.add];grind
theorem Hs.newAt {r n i:Nat} {D:List Nat} {c:List Value} {e:TypeId} {x:Bool} (C:Hs G h (frs r n D::L)) (X:i<n) (hD:i∉D):
  Hs G (h.set (r+i) (some (.cells c e (0,0) x))) (aE (r+i) 0 c::mt (r+i) (e,x,c.length)::frs r n (i::D)::L):=by
 obtain⟨q,⟨r1,O,S,T,E,U⟩,V⟩:=C.res
 cases S
 subst U
 obtain⟨i1,i2⟩:=(cN.fP E).1 V
 obtain⟨q1,q2,H,⟨q3,q4,I,J,Y,B⟩,W,N⟩:=Ub (r:=r) X hD
 cases H;cases J
 rw[cN.add_comm (s:=cN.emp) cN.dP.symm,cN.gD] at B
 subst B
 cases I
 rw[N] at i1 E
 obtain⟨i3,i4⟩:=(cN.fP W).1 i1
 obtain⟨fb,fn,Q⟩:=i3.free (r+i) (by simp)
 obtain⟨d1,d2⟩:=cN.iI.1 E.symm
 have t:∀j,(h.set (r+i) (some (.cells c e (0,0) x))).get j=if j=r+i then some (.cells c e (0,0) x) else h.get j:=fun j=>AH.jR fb
 have m:=(cN.fP d2.symm).2 ⟨i4,i2⟩
 have z:((⟨fun _ _=>none,fun b=>if r<=b/\b<r+n/\(b - r)∉(i::D) then some .free else none⟩:cN).add O).tok (r+i)=none:=by
  simp only[cN.add];rw[aKi (by grind)];rcases d1.tok (r+i) with h|h;simpa using h;simp at h
 have A:(mL (r+i) c (some (.mt e x c.length))).vI ((⟨fun _ _=>none,fun b=>if r<=b/\b<r+n/\(b - r)∉(i::D) then some .free else none⟩:cN).add O):=Zl m Q z
 refine⟨by simp;exact C.base,by rw[AH.Bs];exact C.old,by simp;exact C.wf,fun j R=>by simp at R;rw[t,aab];exact C.fr j R,
    _,(jD (L:=[aE (r+i) 0 c,mt (r+i) (e,x,c.length)])).2 ⟨_,_,qJ,⟨_,O,rfl,T,d2.symm,rfl⟩,A,rfl⟩,(cN.fP A).2 ⟨?_,?_⟩⟩
 .refine⟨fun b o v u=>?_,fun b u=>?_,fun b Z x' n u=>?_,fun b o u=>?_⟩
  .simp only[mL] at u;simp_all
  .simp only[mL] at u;grind
  .simp only[mL] at u;simp_all
  .simp only[mL] at u;grind
 .refine m.of (by simp) (by simp) fun b w=>?_;rw[t,aKi];intro F;subst F;rcases w with w|⟨o,w⟩
  .exact w z
  .apply w;cases hc:cN.cell _ (r+i) o with
   |none=>rfl
   |some v=>obtain⟨_,_,_,_,g,_⟩:=m.cell _ o v hc;rw[Q] at g;cases g
theorem aGw {A B:HP} (c:Hs G h (A::B::L)):Hs G h (A::L):=(c.perm (List.Perm.swap _ _ _)).tail
theorem kQ {r i n:Nat} {D:List Nat} {cs:List Value} {e:TypeId} {k:Nat->AH->Prop} (j:Hs G h L) [m:Has (Z6 r) L (n,D) L'] (o:Nat.blt i n=true) (hD:D.contains i=false)
  (g:∀p c,Hs G c (aE p 0 cs::Z6 r (n,i::D)::L')->k p c):mA h (r+i) (.cells cs e (0,0) true) k:=
 g _ _ (aGw (Hs.newAt (show Hs G h (frs r n D::L') from m.of j) (by simp_all) (by simpa using hD)))
theorem zy {r i n:Nat} {D:List Nat} {cs:List Value} {v:Value} {e:TypeId} {k:Nat->AH->Prop} (o:Hs G h L) [m:Has (Z6 r) L (n,D) L'] (q:iK v=some cs) (g:Nat.blt i n=true) (hD:D.contains i=false)
  (j:∀p c,Hs G c (aE p 0 cs::Z6 r (n,i::D)::L')->k p c):bG (kX e v) fun b=>mA h (r+i) b k:=
 ⟨.cells cs e (0,0) true,by simp[kX,q],kQ o g hD j⟩
theorem Hs.aEe {o:oS} (H:K2 o=true) (s:Hs G h L):Hs G (h.alloc o) (ot h.next o::L):=by
 obtain⟨r,E,w⟩:=s.res;have c:h.get h.next=none:=s.fr _ (Nat.le_refl _)
 have z:r.tok h.next=none:=by
  cases ht:r.tok h.next with
  |none=>rfl
  |some t=>
   cases t with
   |free=>have:=(w.free _ ht).2.1;omega
   |mt D I n=>obtain⟨_,_,g,_⟩:=w.mt _ _ _ _ ht;rw[c] at g;cases g
   |Me o=>obtain⟨_,g,_⟩:=w.Me _ _ ht;rw[c] at g;cases g
 have B:(⟨fun _ _=>none,fun C=>if C=h.next then some (.Me o) else none⟩:cN).vI r:=by
  refine⟨fun _ _=> .inl rfl,fun b=>?_⟩;by_cases q:b=h.next
  right;rw[q];exact z;grind
 have m:∀j,(h.alloc o).get j=if j=h.next then some o else h.get j:=fun j=>AH.wR s.wf
 refine⟨s.base,s.old,Nat.le_succ_of_le s.wf,fun i F=>by simp at F;rw[m,aab];exact s.fr i (by omega),_,⟨_,r,rfl,E,B,rfl⟩,(cN.fP B).2 ⟨?_,?_⟩⟩;refine⟨fun _ _ _ u=>(by cases u),fun b u=>?_,fun b D I n u=>?_,fun b J u=>?_⟩;grind;grind;simp only at u;split at u;rename_i q;subst q;cases u;exact⟨by simp;exact s.wf,by rw[m,aKj rfl],H⟩;cases u;refine w.of rfl (by simp) fun b q=>?_;rw[m,aKi];intro A;subst A;rcases q with q|⟨o,q⟩;exact q z;apply q;cases hc:r.cell h.next o with
 |none=>rfl
 |some v=>obtain⟨_,_,_,_,g,_⟩:=w.cell _ o v hc;rw[c] at g;cases g
theorem Hs.Hl {b:Nat} {o o':oS} (O:K2 o'=true) (c:Hs G h (ot b o::L)):h.get b=some o/\h.base<=b/\Hs G (h.set b (some o')) (ot b o'::L):=by
 obtain⟨q,⟨Q,t,h1,E,A,F⟩,H⟩:=c.res;cases h1;subst F;obtain⟨i1,i2⟩:=(cN.fP A).1 H;obtain⟨gb,u,m⟩:=i1.Me b o (by simp);have r:∀j,(h.set b (some o')).get j=if j=b then some o' else h.get j:=fun j=>AH.jR gb
 have I:b<h.next:=by
  rcases Nat.lt_or_ge b h.next with h1|h1
  exact h1;rw[c.fr b h1] at u;cases u
 have z:t.tok b=none:=by rcases A.tok b with h|h;simp at h;exact h
 have J:∀s,t.cell b s=none:=fun s=>by
  cases hc:t.cell b s with
  |none=>rfl
  |some v=>
   obtain⟨_,_,_,_,g,_⟩:=i2.cell _ s v hc;rw[u] at g;cases g;simp[K2] at m
 have C:(⟨fun _ _=>none,fun i=>if i=b then some (.Me o') else none⟩:cN).vI t:=by
  refine⟨fun _ _=> .inl rfl,fun i=>?_⟩;by_cases B:i=b;right;rw[B];exact z;grind
 refine⟨u,gb,by simp;exact c.base,by rw[AH.Bs];exact c.old,by simp;exact c.wf,fun j D=>by simp at D;rw[r,aab];exact c.fr j D,_,⟨_,t,rfl,E,C,rfl⟩,(cN.fP C).2 ⟨?_,?_⟩⟩;refine⟨fun _ _ _ w=>(by cases w),fun b w=>?_,fun b N R n w=>?_,fun i s w=>?_⟩;grind;grind;simp_all;refine i2.of (by simp) (by simp) fun i B=>?_;grind
def gF (P:Program) (f:FuncId) (p:List Nat) (n:Nat) (e:Nat->Value) (d l:Nat) (x:LoopState×Option Code):HP:=ot l (lp P f p n e d x.1 x.2)
def mk (d:Nat) (_:Unit):HP:=ot d (.marks true)
theorem iR {k:Nat->AH->Prop} (i:Hs G h L) (g:∀d c,Hs G c (mk d ()::L)->k d c):B4 h (.marks true) k:=g _ _ (i.aEe rfl)
theorem jI {f:FuncId} {p:List Nat} {n:Nat} {e:Nat->Value} {d:Nat} {st:LoopState} {pd:Option Code} {k:Nat->AH->Prop} (i:Hs G h L) (g:∀l c,Hs G c (gF P f p n e d l (st,pd)::L)->k l c):B4 h (lp P f p n e d st pd) k:=g _ _ (i.aEe rfl)
theorem iU {k:AH->Prop} (c:k h):bG (cH [] h) k:=⟨h,rfl,c⟩
theorem kG {d:Nat} {g:List Nat} {k:AH->Prop} (t:Hs G h L) [m:Has (mk d) L () L'] (s:∀c,Hs G c L'->bG (cH g c) k):bG (cH (d::g) h) k:=by
 obtain⟨i,j,o⟩:=Hs.Hl (o':= .marks false) rfl (show Hs G h (ot d (.marks true)::L') from m.of t);obtain⟨c,q,r⟩:=s _ o.tail;exact⟨c,by simp only[cH,i,aKj j];exact q,r⟩
theorem aHd {f:FuncId} {p:List Nat} {n:Nat} {e:Nat->Value} {d l:Nat} {st st':LoopState} {pd pd':Option Code} {k:AH->Prop} (q:Hs G h L) [m:Has (gF P f p n e d l) L (st,pd) L'] (o:∀c,Hs G c (gF P f p n e d l (st',pd')::L')->k c):
  bG (setLoop h l st' (some pd')) k:=by
 obtain⟨g,i,j⟩:=Hs.Hl (o':=lp P f p n e d st' pd') rfl (show Hs G h (ot l (lp P f p n e d st pd)::L') from m.of q)
 exact⟨_,by simp only[setLoop,g,lp];rw[aKj i];rfl,o _ j⟩
theorem aA5 {f:FuncId} {p:List Nat} {n:Nat} {e:Nat->Value} {d l:Nat} {pd:Option Code} {k:AH->Prop} (q:Hs G h L) [m:Has (gF P f p n e d l) L (.ready,pd) L'] (o:∀c,Hs G c (gF P f p n e d l (.busy,pd)::L')->k c):
  bG (jS h l) k:=by
 obtain⟨g,i,j⟩:=Hs.Hl (o':=lp P f p n e d .busy pd) rfl (show Hs G h (ot l (lp P f p n e d .ready pd)::L') from m.of q)
 exact⟨_,by simp only[jS,setLoop,g,lp];rw[aKj i];rfl,o _ j⟩
theorem nk {f:FuncId} {p:List Nat} {n:Nat} {e:Nat->Value} {d l:Nat} {st:LoopState} {pd:Option Code} {k:Option Code->AH->Prop} (s:Hs G h L) [m:Has (gF P f p n e d l) L (st,pd) L'] (c:st≠.busy) (q:∀g,Hs G g L'->k pd g):
  bG (sC h l) fun r=>k r.1 r.2:=by
 obtain⟨i,j,o⟩:=Hs.Hl (o':=lp P f p n e d .exhausted pd) rfl (show Hs G h (ot l (lp P f p n e d st pd)::L') from m.of s)
 refine⟨(pd,_),?_,q _ o.tail⟩
 simp only[sC,i,lp]
 rw[aKi c]
 simp only[setLoop,i,lp]
 rw[aKj j];rfl
theorem uh {f:FuncId} {p:List Nat} {n:Nat} {e:Nat->Value} {d l:Nat} {st:LoopState} {pd:Option Code} {k:Nat->Prop} (i:Hs G h L) [m:Has (gF P f p n e d l) L (st,pd) L'] (g:k d):bG (fL h l) k:=by
 obtain⟨c,_,_⟩:=Hs.Hl (o':= .marks true) rfl (show Hs G h (ot l (lp P f p n e d st pd)::L') from m.of i);exact⟨d,by simp only[fL,c,lp],g⟩
theorem aIg {f:FuncId} {p:List Nat} {n:Nat} {e:Nat->Value} {d l:Nat} {st:LoopState} {pd:Option Code} (c:Hs G h L) [m:Has (gF P f p n e d l) L (st,pd) L']:h.get l=some (lp P f p n e d st pd):=
 (Hs.Hl (o':= .marks true) rfl (show Hs G h (ot l (lp P f p n e d st pd)::L') from m.of c)).1
end Go.Ab
end
section
namespace Go.Ab
variable {P:Program} {K:FuncId->List Value->Option kA} {G:Bg} {h:AH} {L L' M:List HP}
def dH (W:Nat) (e:TypeId) (a:Option Addr) (cap:Nat) (x:Nat×List Value):HP:=fun r=>
 x.2.length=x.1*W/\x.2.all eJ=true/\
 ((x.1=0/\r=cN.emp/\cap=0/\(a=none\/∃b o,a=some ⟨b,o,some 1⟩))\/
  (x.1=0/\cap=0/\∃b o i,a=some ⟨b,o,some 2⟩/\o<=i.length/\r=mL b i (some (.mt e false i.length)))\/
  (x.1<=cap/\∃b g c ex,a=some ⟨b,g.length,none⟩/\g.length+cap*W<=(g++x.2++c).length/\r=mL b (g++x.2++c) (some (.mt e ex (g++x.2++c).length))))
theorem gL {W:Nat} {e:TypeId} (g:Hs G h L):Hs G h (dH W e none 0 (0,[])::L):=by
 refine Hs.join (A:=[]) g fun r c=>?_;exact⟨by simp,rfl,.inl ⟨rfl,c,rfl,.inl rfl⟩⟩
theorem rL {b:Nat} {c:List Value} {e:TypeId} {x:Bool} {r:cN} (h:star [aE b 0 c,mt b (e,x,c.length)] r):r=mL b c (some (.mt e x c.length)):=by
 obtain⟨A,B,g,⟨r3,C,j,m,s,t⟩,o,q⟩:=h;obtain⟨u,v,g1,⟨w,z,g5,g6,g7,g8⟩,g3,g4⟩:=qJ (i:=b) (c:=c) (e:=e) (x:=x);cases g;cases j;cases m;cases g1;cases g5;cases g6;grind
theorem dK {W:Nat} {e:TypeId} {l:List Value} {n c:Nat} {k:Value->AH->Prop} (q:Hs G h L) (i:l.length=c*W) (m:n=c) (hb:l.all eJ=true)
  (j:∀a g,Hs G g (dH W e (some a) c (n,l)::L)->k (.slice (some a) n c) g):uX h W e l n c k:=by
 subst m
 refine j _ _ ?_
 have:=q.new (c:=l) (e:=e) (x:=true)
 refine Hs.join (A:=[_,_]) this fun r o=>?_
 have:=rL o
 exact⟨i,hb,.inr (.inr ⟨Nat.le_refl _,h.next,[],[],true,rfl,by simp[i],by simpa using this⟩)⟩
theorem kD {W r i N:Nat} {D:List Nat} {e:TypeId} {l:List Value} {n c:Nat} {k:Value->AH->Prop} (u:Hs G h L) [m:Has (Z6 r) L (N,D) L'] (v:Nat.blt i N=true) (hD:D.contains i=false) (j:l.length=c*W) (s:n=c) (hb:l.all eJ=true)
  (o:∀a g,Hs G g (dH W e (some a) c (n,l)::Z6 r (N,i::D)::L')->k (.slice (some a) n c) g):lK h (r+i) W e l n c k:=by
 subst s
 refine o _ _ ?_
 have:=Hs.newAt (i:=i) (c:=l) (e:=e) (x:=true) (show Hs G h (frs r N D::L') from m.of u) (by simp_all) (by simpa using hD)
 refine Hs.join (A:=[_,_]) this fun q t=>?_
 have:=rL t
 exact⟨j,hb,.inr (.inr ⟨Nat.le_refl _,r+i,[],[],true,rfl,by simp[j],by simpa using this⟩)⟩
theorem Hs.fst {A:HP} (m:Hs G h (A::L)):∃r c,A r/\star L c/\r.vI c/\r.In h/\c.In h:=by
 obtain⟨q,⟨t,c,o,s,g,i⟩,j⟩:=m.res;subst i;obtain⟨i1,i2⟩:=(cN.fP g).1 j;grind
theorem Hs.Cj {W:Nat} {e:TypeId} {a:Option Addr} {cap:Nat} {x:Nat×List Value} (g:Hs G h (dH W e a cap x::L)):x.2.length=x.1*W:=by
 obtain⟨r,_,c,_⟩:=g.fst;exact c.1
theorem Hs.Es {W:Nat} {e:TypeId} {a:Option Addr} {cap:Nat} {x:Nat×List Value} (g:Hs G h (dH W e a cap x::L)):x.2.all eJ=true:=by
 obtain⟨r,_,c,_⟩:=g.fst;exact c.2.1
theorem Hs.oZ {W:Nat} {e:TypeId} {a:Option Addr} {cap n:Nat} {cs:List Value} (I:Hs G h (dH W e a cap (n,cs)::L)) (h0:0<n):
  ∃b o,a=some ⟨b,o,none⟩/\∃H:HP,Hs G h (aE b o cs::H::L)/\∀Q m M,m.length=cs.length->m.all eJ=true->Hs G Q (aE b o m::H::M)->Hs G Q (dH W e a cap (n,m)::M):=by
 have J:∀b (j g:List Value) ex,∀m:List Value,m.length=cs.length->∀r,star [aE b j.length m,fun r=>star [aE b 0 j,aE b (j.length+cs.length) g,mt b (e,ex,(j++cs++g).length)] r] r↔r=mL b (j++m++g) (some (.mt e ex (j++m++g).length)):=by
  intro b j g ex m N r;have e1:(j++cs++g).length=(j++m++g).length:=by simp[N]
  have Z:∀q,star [aE b 0 (j++m++g),mt b (e,ex,(j++m++g).length)] q->star [aE b j.length m,fun r=>star [aE b 0 j,aE b (j.length+cs.length) g,mt b (e,ex,(j++cs++g).length)] r] q:=by
   intro q F;obtain⟨r1,z,R,h2,C,T⟩:=F;have S:=(Bu r1).1 R;obtain⟨s1,s2,g1,⟨s3,s4,g2,g3,g4,g5⟩,g6,g7⟩:=S;have O:=(Bu s1).1 g1;cases g3;rw[cN.add_comm (s:=cN.emp) cN.dP.symm,cN.gD] at g5;subst g5;have D:star ([aE b 0 j,aE b (0+j.length) m]++([aE b (0+(j++m).length) g]++[mt b (e,ex,(j++m++g).length)])) q:=by
    refine jD.2 ⟨s1,s2.add z,O,jD.2 ⟨s2,z,⟨s2,cN.emp,g2,rfl,cN.dP.symm,by rw[cN.add_comm (s:=cN.emp) cN.dP.symm,cN.gD]⟩,h2,?_,rfl⟩,?_,?_⟩;rw[g7] at C;exact(cN.iI.1 C.symm).2.symm;rw[g7] at C;exact cN.iI.2 ⟨g6,(cN.iI.1 C.symm).1.symm⟩;rw[T,g7,cN.add_assoc]
   have hp:star ([aE b (0+j.length) m]++[aE b 0 j,aE b (0+(j++m).length) g,mt b (e,ex,(j++m++g).length)]) q:=F9 (List.Perm.swap _ _ _) q D;obtain⟨u1,u2,w1,w2,w3,w4⟩:=jD.1 hp;rw[Nat.zero_add] at w1;obtain⟨v1,v2,x1,x2,x3,x4⟩:=w1;cases x2;rw[cN.add_comm (s:=cN.emp) cN.dP.symm,cN.gD] at x4;subst x4;refine⟨u1,u2,x1,⟨u2,cN.emp,?_,rfl,cN.dP.symm,by rw[cN.add_comm (s:=cN.emp) cN.dP.symm,cN.gD]⟩,w3,w4⟩;grind
  constructor;intro v;have hb:=Z _ (qJ (i:=b) (c:=j++m++g) (e:=e) (x:=ex));obtain⟨r1,z,R,⟨r3,r4,h5,h6,h7,h8⟩,C,T⟩:=v;obtain⟨q1,q2,g1,⟨q3,q4,g5,g6,g7,g8⟩,g3,g4⟩:=hb;cases R;cases g1;cases h6;cases g6;rw[cN.add_comm (s:=cN.emp) cN.dP.symm,cN.gD] at h8 g8;subst h8;subst g8;have:z=q2:=by
   obtain⟨a1,a2,b1,⟨a3,a4,b2,⟨a5,a6,b3,b4,b5,b6⟩,b7,b8⟩,b9,α⟩:=h5;obtain⟨c1,c2,d1,⟨c3,c4,d2,⟨c5,c6,d3,d4,d5,d6⟩,d7,d8⟩,d9,d10⟩:=g5;cases b1;cases b2;cases b3;cases b4;cases d1;cases d2;cases d3;cases d4;grind
  rw[T,g4,this];intro v;subst v;exact Z _ qJ
 obtain⟨r,z,v,V,hd,hi,U⟩:=I.fst
 obtain⟨N,hc,v⟩:=v
 simp only at N hc
 rcases v with⟨Y,_⟩|⟨Y,_⟩|⟨E,b,j,g,ex,rfl,hle,X⟩
 .simp at Y;omega
 .simp at Y;omega
 .refine⟨b,j.length,rfl,fun r=>star [aE b 0 j,aE b (j.length+cs.length) g,mt b (e,ex,(j++cs++g).length)] r,?_,?_⟩
  .have w:Hs G h ((fun r=>r=mL b (j++cs++g) (some (.mt e ex (j++cs++g).length)))::L):=⟨I.base,I.old,I.wf,I.fr,_,⟨r,z,X,V,hd,rfl⟩,(cN.fP hd).2 ⟨hi,U⟩⟩;exact w.imp (B:=[_,_]) fun q F=>(J b j g ex cs rfl q).2 F
  .intro Q m M u t w;refine Hs.join (A:=[_,_]) w fun q F=>?_;have:=(J b j g ex m u q).1 F;refine⟨by rw[u];exact N,t,.inr (.inr ⟨E,b,j,g,ex,rfl,?_,this⟩)⟩;grind
theorem Fz {b:Nat} {c:List Value} {e:TypeId} {x:Bool} {r:cN} (i:(mL b c (some (.mt e x c.length))).In h) (_g:r.In h):h.base<=b/\h.get b=some (.cells c e (0,0) x):=by
 obtain⟨o,s,q,u⟩:=i.mt b e x c.length (by simp[mL]);refine⟨o,?_⟩;rw[q];congr 2;refine List.ext_getElem? fun j=>?_;rcases Nat.lt_or_ge j c.length with m|m;obtain⟨_,c2,t,v,g1,g2⟩:=i.cell b j c[j] (by simp[mL,m]);grind;grind
theorem Hs.kill {b:Nat} {c c2:List Value} {e e2:TypeId} {x x2:Bool} (q:Hs G h ((fun r=>r=mL b c (some (.mt e x c.length)))::L)):Hs G ((h.set b none).alloc (.cells c2 e2 (0,0) x2)) ((fun r=>r=mL h.next c2 (some (.mt e2 x2 c2.length)))::L):=by
 obtain⟨r,u,z,B,D,t,g⟩:=q.fst;subst z;obtain⟨F,J⟩:=Fz t g;have m:∀j,(h.set b none).get j=if j=b then none else h.get j:=fun j=>AH.jR F
 have H:∀j,(u.tok j≠none\/∃o,u.cell j o≠none)->j≠b:=by
  intro j E w;subst w;rcases E with s|⟨o,s⟩;rcases D.tok j with h|h;simp[mL] at h;exact s h;rcases D.cell j o with h|h;simp only[mL,if_true] at h;cases hc:u.cell j o with
  |none=>exact s hc
  |some v=>
   obtain⟨_,I,_,_,g1,g2⟩:=g.cell j o v hc;grind
  exact s h
 have C:Hs G (h.set b none) L:=by
  refine⟨by simp;exact q.base,by rw[AH.Bs];exact q.old,by simp;exact q.wf,fun i t=>by simp at t;rw[m];split;rfl;exact q.fr i t,u,B,?_⟩;exact g.of (by simp) (by simp) fun j E=>by grind
 have:=C.new (c:=c2) (e:=e2) (x:=x2);rw[AH.qx] at this;exact Hs.join (A:=[_,_]) this fun r z=>rL z
theorem pP {a:Option Addr} {n c:Nat}:tG (.slice a n c)=some n:=rfl
theorem aBb {W bytes:Nat} {e:TypeId} {a:Option Addr} {c n m:Nat} {cs ns:List Value} {src:Value} {k:Value->AH->Prop} (C:Hs G h L) [mm:Has (dH W e a c) L (n,cs) L']
  (v:tG src=some m) (z:gE h W m src=some ns) (ζ:ns.all eJ=true) (ν:ns.length=m*W) (R:(n+m)*(bytes+1)<=2^46)
  (hk:∀a' c' h',Hs G h' (dH W e a' c' (n+m,cs++ns)::L')->k (.slice a' (n+m) c') h'):bG (iV W bytes e h (.slice a n c) src) fun r=>k r.1 r.2:=by
 have β:=mm.of C
 obtain⟨r,r2,hr,U,X,S,E⟩:=β.fst
 obtain⟨hl,hc,hr⟩:=hr
 simp only at hl hc hr
 have w:(!ns.all eJ||ns.length !=m*W)=false:=by simp[ζ,ν]
 have H:(cs++ns).all eJ=true:=by grind
 have N:(cs++ns).length=(n+m)*W:=by grind
 have D:∀{h1:AH},Hs G h1 ((fun r=>r=mL h.next (cs++ns) (some (.mt e false (cs++ns).length)))::L')->Hs G h1 (dH W e (some ⟨h.next,0,none⟩) (n+m) (n+m,cs++ns)::L'):=by
  intro h1 hh;refine Hs.join (A:=[_]) hh fun q O=>?_;obtain⟨q1,q2,e1,e2,e3,e4⟩:=O;cases e1;cases e2;rw[cN.add_comm (s:=cN.emp) cN.dP.symm,cN.gD] at e4;exact⟨N,H,.inr (.inr ⟨Nat.le_refl _,h.next,[],[],false,rfl,by grind,by simpa using e4⟩)⟩
 by_cases hm:m=0
 .subst hm;have:ns=[]:=List.eq_nil_of_length_eq_zero (by omega);subst this;have T:=hk a c h (by simpa using β);rcases hr with⟨rfl,ο,rfl,ha⟩|⟨rfl,rfl,b,o,Z,rfl,_⟩|⟨I,b,g,t,ex,rfl,hle,V⟩
  .rcases ha with rfl|⟨b,o,rfl⟩
   .exact⟨(.slice none 0 0,h),by simp[iV,v,z],by simpa using T⟩
   .exact⟨(.slice _ 0 0,h),by simp[iV,v,z];rfl,by simpa using T⟩
  .exact⟨(.slice _ 0 0,h),by simp[iV,v,z];rfl,by simpa using T⟩
  .exact⟨(.slice _ n c,h),by simp[iV,v,z,I];rfl,by simpa using T⟩
 .have Y:Hs G h L':=β.tail;rcases hr with⟨rfl,ο,rfl,ha⟩|⟨rfl,rfl,b,o,Z,rfl,ho,V⟩|⟨I,b,g,t,ex,rfl,hle,V⟩
  .have α:cs=[]:=List.eq_nil_of_length_eq_zero (by simpa using hl);subst α;have η:=Y.new (c:=ns) (e:=e) (x:=false);have F:=D (Hs.join (A:=[_,_]) η fun q O=>rL O);have u:¬(0+m<=0):=by omega
   rcases ha with rfl|⟨b,o,rfl⟩
   .refine⟨(.slice (some ⟨h.next,0,none⟩) m m,h.alloc (.cells ns e (0,0) false)),?_,by grind⟩;simp only[iV,v,z,w,Bool.false_eq_true,if_false,u,R,if_true]
   .refine⟨(.slice (some ⟨h.next,0,none⟩) m m,h.alloc (.cells ns e (0,0) false)),?_,by grind⟩;simp only[iV,v,z,w,Bool.false_eq_true,if_false,u,R,if_true]
  .have α:cs=[]:=List.eq_nil_of_length_eq_zero (by simpa using hl);subst α;subst V;obtain⟨hb,hg⟩:=Fz S E;have Q:Hs G h ((fun r=>r=mL b Z (some (.mt e false Z.length)))::L'):=⟨C.base,C.old,C.wf,C.fr,_,⟨_,r2,rfl,U,X,rfl⟩,(cN.fP X).2 ⟨S,E⟩⟩;have F:=D (Q.kill (c2:=ns) (e2:=e) (x2:=false));have u:¬(0+m<=0):=by omega
   refine⟨(.slice (some ⟨h.next,0,none⟩) m m,(h.set b none).alloc (.cells ns e (0,0) false)),?_,by simpa using hk _ _ _ F⟩
   have κ:¬(some 2=some 1):=by simp
   simp only[iV,v,z,w,Bool.false_eq_true,if_false,u,R,if_true,κ,hg,hb,ho,and_self]
  .subst V;obtain⟨hb,hg⟩:=Fz S E;by_cases u:n+m<=c
   .have hW:(n+m)*W<=c*W:=Nat.mul_le_mul_right _ u;rw[Nat.add_mul] at hW;have Q:Hs G h ((fun r=>r=mL b (g++cs++t) (some (.mt e ex (g++cs++t).length)))::L'):=⟨C.base,C.old,C.wf,C.fr,_,⟨_,r2,rfl,U,X,rfl⟩,(cN.fP X).2 ⟨S,E⟩⟩;have π:Hs G h (aE b 0 (g++cs++t)::mt b (e,ex,(g++cs++t).length)::L'):=Q.imp (B:=[_,_]) fun q O=>by subst O;exact qJ
    have ξ:g.length+cs.length+ns.length<=(g++cs++t).length:=by grind
    by_cases μ:ns.length=0
    .have θ:ns=[]:=List.eq_nil_of_length_eq_zero μ;subst θ;refine⟨(.slice (some ⟨b,g.length,none⟩) (n+m) c,h.set b (some (.cells (cF (g++cs++t) (g.length+n*W) []) e (0,0) ex))),?_,?_⟩
     .simp only[iV,v,z,w,Bool.false_eq_true,if_false,u,if_true,hm,Option.isSome_none,dA];simp only[dI,Option.isSome_none,Bool.false_or,List.all_nil,Bool.not_true,Bool.or_false,hg];grind
     .have δ:cF (g++cs++t) (g.length+n*W) []=g++cs++t:=by simp only[cF,List.append_nil,List.length_nil,Nat.add_zero,List.take_append_drop]
      rw[δ]
      refine hk _ _ _ ?_
      have:Hs G (h.set b (some (.cells (g++cs++t) e (0,0) ex))) ((fun r=>r=mL b (g++cs++t) (some (.mt e ex (g++cs++t).length)))::L'):=by
       have J:∀j,(h.set b (some (.cells (g++cs++t) e (0,0) ex))).get j=h.get j:=fun j=>by
        rw[AH.jR hb];grind
       refine⟨by simp;exact C.base,by rw[AH.Bs];exact C.old,by simp;exact C.wf,fun i S=>by simp at S;rw[J];exact C.fr i S,_,⟨_,r2,rfl,U,X,rfl⟩,(cN.fP X).2 ⟨?_,?_⟩⟩;exact S.of (by simp) (by simp) fun j _=>J j;exact E.of (by simp) (by simp) fun j _=>J j
      refine Hs.join (A:=[_]) this fun q O=>?_
      obtain⟨q1,q2,e1,e2,e3,e4⟩:=O
      cases e1;cases e2
      rw[cN.add_comm (s:=cN.emp) cN.dP.symm,cN.gD] at e4
      refine⟨N,H,.inr (.inr ⟨u,b,g,t,ex,rfl,?_,by simpa using e4⟩)⟩
      grind
    .obtain⟨h',ι,γ⟩:=π.write (j:=g.length+cs.length) (vs:=ns) ξ ζ (by omega);rw[Nat.zero_add] at ι;refine⟨(.slice (some ⟨b,g.length,none⟩) (n+m) c,h'),?_,?_⟩
     .simp only[iV,v,z,w,Bool.false_eq_true,if_false,u,if_true,hm,Option.isSome_none,dA];rw[<-hl,ι];rfl
     .refine hk _ _ _ ?_;have δ:cF (g++cs++t) (g.length+cs.length) ns=g++(cs++ns)++t.drop ns.length:=by
       unfold cF;rw[List.take_append_of_le_length (by simp),List.take_of_length_le (by simp),List.drop_append];have:(g++cs).drop (g.length+cs.length+ns.length)=[]:=List.drop_eq_nil_of_le (by simp);rw[this];simp only[List.length_append,List.nil_append,List.append_assoc];rw[show g.length+cs.length+ns.length - (g.length+cs.length)=ns.length by omega]
      rw[δ] at γ
      have ε:(g++cs++t).length=(g++(cs++ns)++t.drop ns.length).length:=by grind
      rw[ε] at γ
      refine Hs.join (A:=[_,_]) γ fun q O=>?_
      exact⟨N,H,.inr (.inr ⟨u,b,g,t.drop ns.length,ex,rfl,by rw[<-ε];exact hle,rL O⟩)⟩
   .have Q:Hs G h ((fun r=>r=mL b (g++cs++t) (some (.mt e ex (g++cs++t).length)))::L'):=⟨C.base,C.old,C.wf,C.fr,_,⟨_,r2,rfl,U,X,rfl⟩,(cN.fP X).2 ⟨S,E⟩⟩;have ρ:n*W<=c*W:=Nat.mul_le_mul_right _ I;have hold:cJ h ⟨b,g.length,none⟩ (n*W)=some cs:=by
     simp only[cJ,Option.isSome_none,Bool.false_eq_true,if_false,hg];rw[aac];simp only[Option.some.injEq];grind
    have h1:¬((none:Option Nat)=some 1):=by simp
    have h2:¬((none:Option Nat)=some 2):=by simp
    cases ex with
    |true=>
     have F:=D (Hs.join (A:=[_,_]) (Y.new (c:=cs++ns) (e:=e) (x:=false)) fun q O=>rL O)
     refine⟨(.slice (some ⟨h.next,0,none⟩) (n+m) (n+m),h.alloc (.cells (cs++ns) e (0,0) false)),?_,hk _ _ _ F⟩
     simp only[iV,v,z,w,Bool.false_eq_true,if_false,u,R,if_true,h1,h2,hold,hg,hc,Bool.not_true]
    |false=>
     have F:=D (Q.kill (c2:=cs++ns) (e2:=e) (x2:=false))
     refine⟨(.slice (some ⟨h.next,0,none⟩) (n+m) (n+m),(h.set b none).alloc (.cells (cs++ns) e (0,0) false)),?_,hk _ _ _ F⟩
     simp only[iV,v,z,w,Bool.false_eq_true,if_false,u,R,if_true,h1,h2,hold,hg,hc,Bool.not_true,hb,hle,and_self]
end Go.Ab
end
section
namespace Go.Ab
variable {P:Program} {K:FuncId->List Value->Option kA} {G:Bg} {h:AH} {L L' M:List HP}
abbrev wr (x:Int):Int:=IntKind.i64.wrap x
theorem Zn {x:Int} (h: -9223372036854775808<=x/\x<=9223372036854775807):wr x=x:=IntWalk.i64_in _ (by omega)
section
variable {k:Value->Prop} {a b:Int} {x y:Value}
theorem yC {α:Type} {o:Option α} {v:α} {k:α->Prop} (g:o=some v) (c:k v):bG o k:=⟨v,g,c⟩
theorem aA {b o j n:Nat} (c:k (pt b o (j+n))):bG (hQ n (pt b o j)) k:=⟨_,by simp[hQ,pt,dA,Nat.add_assoc],c⟩
theorem aB {b o j:Nat} (c:k (pt b o j)):bG (mY (pt b o j)) k:=⟨_,rfl,c⟩
theorem aI {i:Nat} {vs:List Value} {v:Value} (g:vs[i]?=some v) (c:k v):bG (qG i (.tuple ⟨vs⟩)) k:=⟨v,g,c⟩
theorem aa {j:Nat} {l:List Value} {v:Value} (g:l[j]?=some v) (c:k v):bG (pZ j (.agg ⟨l⟩)) k:=⟨v,g,c⟩
theorem Il {j n:Nat} {l m:List Value} (i:Nat.ble (j+n) l.length=true) (g:(l.drop j).take n=m) (c:k (.agg ⟨m⟩)):bG (pS j n (.agg ⟨l⟩)) k:=
 ⟨_,by have:=Nat.le_of_ble_eq_true i;simp[pS,this,g],c⟩
theorem bP {a:Option Addr} {n c:Nat} (g:k (I n)):bG (lH (.slice a n c)) k:=⟨_,rfl,g⟩
theorem bH (h: -9223372036854775808<=a+b/\a+b<=9223372036854775807) (c:k (I (a+b))):bG (uE .add (I a) (I b)) k:=⟨_,by show some (Value.int .i64 (wr (a+b)))=_;rw[Zn h],c⟩
theorem aad (c:k (I (a+b)))(h: -9223372036854775808<=a+b/\a+b<=9223372036854775807:=by omega):bG (uE .add (I a) (I b)) k:=⟨_,by show some (Value.int .i64 (wr (a+b)))=_;rw[Zn h],c⟩
theorem xP (h: -9223372036854775808<=a - b/\a - b<=9223372036854775807) (c:k (I (a - b))):bG (uE .sub (I a) (I b)) k:=⟨_,by show some (Value.int .i64 (wr (a - b)))=_;rw[Zn h],c⟩
theorem C1 (h: -9223372036854775808<=a*b/\a*b<=9223372036854775807) (c:k (I (a*b))):bG (uE .mul (I a) (I b)) k:=⟨_,by show some (Value.int .i64 (wr (a*b)))=_;rw[Zn h],c⟩
theorem Vt (c:k (I (wr (a+b)))):bG (uE .add (I a) (I b)) k:=⟨_,rfl,c⟩
theorem Hf (c:0<=a) (hb:0<b) (h:a<=9223372036854775807) (g:k (I (a/b))):bG (uE .quo (I a) (I b)) k:=by
 refine⟨_,?_,g⟩;show Mp .quo .i64 a b=_;simp only[Mp];rw[aab,Int.tdiv_eq_ediv_of_nonneg c];have i:0<=a/b:=Int.ediv_nonneg c (by omega);have j:a/b<=a:=Int.ediv_le_self b c;rw[show IntKind.i64.wrap (a/b)=a/b from Zn (by omega)]
theorem Sc (g:0<=a) (hb:0<b) (c:k (I (a % b))):bG (uE .rem (I a) (I b)) k:=by
 refine⟨_,?_,c⟩;show Mp .rem .i64 a b=_;simp only[Mp];grind
theorem aE7 (hb:b≠0) (c:k (I (a.tmod b))):bG (uE .rem (I a) (I b)) k:=by
 refine⟨_,?_,c⟩;show Mp .rem .i64 a b=_;simp only[Mp];rw[aKi hb]
theorem bJ (c:k (.bool (decide (a=b)))):bG (uE .eql (I a) (I b)) k:=⟨_,by show some (Value.bool (a==b))=_;rfl,c⟩
theorem bA (c:k (.bool (decide (a≠b)))):bG (uE .neq (I a) (I b)) k:=⟨_,by show some (Value.bool (a !=b))=_;grind,c⟩
theorem aS (c:k (.bool (decide (a<b)))):bG (uE .lss (I a) (I b)) k:=⟨_,rfl,c⟩
theorem yV (c:k (.bool (decide (a<=b)))):bG (uE .leq (I a) (I b)) k:=⟨_,rfl,c⟩
theorem mR (c:k (.bool (decide (b<a)))):bG (uE .gtr (I a) (I b)) k:=⟨_,rfl,c⟩
theorem dR (c:k (.bool (decide (b<=a)))):bG (uE .geq (I a) (I b)) k:=⟨_,rfl,c⟩
theorem K6 {b o j:Nat} (c:k (.bool true)):bG (Oa .neq (pt b o j) (.pointer none)) k:=⟨_,rfl,c⟩
theorem dD {b o j:Nat} (c:k (.bool false)):bG (Oa .eql (pt b o j) (.pointer none)) k:=⟨_,rfl,c⟩
theorem bX {b:Bool} (c:k (.bool !b)):bG (Rn .not (.bool b)) k:=⟨_,rfl,c⟩
theorem dN {b o n c g i:Nat} (j:i<n) (m:k (pt b (o+i*g) 0)):bG (lN g (.slice (some ⟨b,o,none⟩) n c) (I i)) k:=⟨_,by simp[lN,j,dA,pt],m⟩
theorem jJ {b o j n c:Nat} (g:0<=a) (i:a<n) (m:k (pt b o (j+a.toNat*c))):bG (oT n c (pt b o j) (I a)) k:=⟨_,by simp[oT,g,i,dA,pt,Nat.add_assoc],m⟩
theorem bS {c:Prop} [Decidable c] {p q:Prop} (h:c) (i:p):Br (.bool (decide c)) p q:=⟨_,rfl,fun _=>i,fun g=>absurd h (by simpa using g)⟩
theorem aae {c:Prop} [Decidable c] {p q:Prop} (i:p)(h:c:=by omega):Br (.bool (decide c)) p q:=⟨_,rfl,fun _=>i,fun g=>absurd h (by simpa using g)⟩
theorem aJ {c:Prop} [Decidable c] {p q:Prop} (h:¬c) (i:q):Br (.bool (decide c)) p q:=⟨_,rfl,fun g=>absurd (by simpa using g) h,fun _=>i⟩
theorem aaa {c:Prop} [Decidable c] {p q:Prop} (i:q)(h:¬c:=by omega):Br (.bool (decide c)) p q:=⟨_,rfl,fun g=>absurd (by simpa using g) h,fun _=>i⟩
theorem aZ {c:Prop} [Decidable c] {p q:Prop} (i:c->p) (j:¬c->q):Br (.bool (decide c)) p q:=⟨_,rfl,fun g=>i (by simpa using g),fun g=>j (by simpa using g)⟩
theorem eZ {p q:Prop} (c:p):Br (.bool true) p q:=zq.2 c
theorem bV {p q:Prop} (c:q):Br (.bool false) p q:=u0.2 c
theorem dG {b:Bool} {p q:Prop} (c:b=true->p) (g:b=false->q):Br (.bool b) p q:=⟨_,rfl,c,g⟩
theorem eN {b:Bool} {p q:Prop} (h:Br (.bool b) q p):Br (.bool !b) p q:=by obtain⟨c,i,j,g⟩:=h;cases i;cases b;exact⟨_,rfl,fun _=>g rfl,fun h=>(by cases h)⟩;simp_all
end
theorem aN {z c:List Value} {ps:List (Nat×Nat×Value)} {k:List Value->Prop} (i:pJ z ps=some c) (g:k c):bG (pJ z ps) k:=⟨c,i,g⟩
theorem cZ {p q:Prop} (c:p) (g:q):p/\q:=⟨c,g⟩
theorem jA {a:Int}:pY (I a) (I a)=true:=by simp[pY]
theorem aGu {a:Bool}:pY (.bool a) (.bool a)=true:=by simp[pY]
theorem dJ {b o j:Nat}:pY (pt b o j) (pt b o j)=true:=by simp[pY,pt]
theorem Sw {a:Option Addr} {n c:Nat}:pY (.slice a n c) (.slice a n c)=true:=by simp[pY]
theorem nF {g:FuncId} {first captured:Array Value} {l:Nat} {q:Value->AH->Prop} (hc:callable P g=true) (c:Cl P K g (first.toList++[.func (.yield l) #[] #[]]++captured.toList) h q):Ro P K (.func (.func g) first captured) l h q:=⟨hc,c⟩
theorem rC {g:FuncId} {first captured:Array Value} {args:List Value} {q:Value->AH->Prop} (hc:callable P g=true) (c:Cl P K g (first.toList++args++captured.toList) h q):zB P K (.func (.func g) first captured) args h q:=⟨hc,c⟩
end Go.Ab
end
section
namespace Go.Ab
variable {P:Program} {K:FuncId->List Value->Option kA} {G:Bg} {h:AH} {L L' M:List HP}
def sp (A:List HP):HP:=fun r=>star A r
theorem Hs.pack {A:List HP} (c:Hs G h (A++L)):Hs G h (sp A::L):=c.join fun _ h=>h
theorem Hs.unpack {A:List HP} (c:Hs G h (sp A::L)):Hs G h (A++L):=c.imp fun _ h=>h
def sB {α:Type} (A:α->HP):HP:=fun r=>∃x,A x r
theorem Hs.qU {α:Type} {A:α->HP} (x:α) (m:Hs G h (A x::L)):Hs G h (sB A::L):=Hs.join (A:=[A x]) m fun r j=>by
 obtain⟨o,q,g,i,_,c⟩:=j;cases i;rw[cN.add_comm (s:=cN.emp) cN.dP.symm,cN.gD] at c;subst c;exact⟨x,g⟩
theorem Sf {A:HP} {r:cN}:star [A] r↔A r:=by
 constructor;intro⟨m,o,g,i,_,c⟩;cases i;rw[cN.add_comm (s:=cN.emp) cN.dP.symm,cN.gD] at c;subst c;exact g;intro j;exact⟨r,cN.emp,j,rfl,cN.dP.symm,by rw[cN.add_comm (s:=cN.emp) cN.dP.symm,cN.gD]⟩
theorem Hs.tW {α:Type} {A:α->HP} (c:Hs G h (sB A::L)):∃x,Hs G h (A x::L):=by
 obtain⟨r,q,⟨x,o⟩,i,g,j,m⟩:=c.fst;exact⟨x,c.base,c.old,c.wf,c.fr,_,⟨r,q,o,i,g,rfl⟩,(cN.fP g).2 ⟨j,m⟩⟩
def tX (p:Prop):HP:=fun r=>p/\r=cN.emp
theorem Hs.U5 {p:Prop} (c:p) (i:Hs G h L):Hs G h (tX p::L):=Hs.join (A:=[]) i fun _ g=>⟨c,g⟩
theorem Hs.Vd {p:Prop} (c:Hs G h (tX p::L)):p/\Hs G h L:=by
 obtain⟨r,_,⟨g,_⟩,_⟩:=c.fst;exact⟨g,c.tail⟩
def dE (n:Nat) (f:Nat->HP):HP:=sp ((List.range n).map f)
theorem Ki {n i:Nat} {f:Nat->HP} (c:i<n):((List.range n).map f).Perm (f i::((List.range n).erase i).map f):=by
 have:(List.range n).Perm (i::(List.range n).erase i):=List.perm_cons_erase (List.mem_range.2 c);exact this.map f
theorem Hs.kO {n:Nat} {f:Nat->HP} (m:Hs G h (dE n f::L)) (i:Nat) (j:i<n):Hs G h (f i::sp (((List.range n).erase i).map f)::L):=by
 have c:=m.unpack.perm ((Ki j).append_right L);have g:Hs G h (((List.range n).erase i).map f++f i::L):=c.perm (by simpa using List.perm_middle.symm);exact(g.pack).perm (List.Perm.swap _ _ _)
theorem Hs.aAz {n i:Nat} {f g:Nat->HP} (m:i<n) (s:∀j,j≠i->g j=f j) (r:Hs G h (g i::sp (((List.range n).erase i).map f)::L)):Hs G h (dE n g::L):=by
 have c:=(r.perm (List.Perm.swap _ _ _)).unpack;have q:((List.range n).erase i).map f=((List.range n).erase i).map g:=List.map_congr_left fun j o=>by
  have:j≠i:=by
   intro e;subst e;exact List.Nodup.not_mem_erase List.nodup_range o
  grind
 rw[q] at c;refine(c.perm ?_).pack;exact(List.perm_middle.trans ((Ki m).symm.append_right L))
theorem sV {n:Nat} {f g:Nat->HP} (c:∀j,j<n->g j=f j) (m:Hs G h (dE n f::L)):Hs G h (dE n g::L):=by
 have:(List.range n).map f=(List.range n).map g:=List.map_congr_left fun j i=>(c j (List.mem_range.1 i)).symm;unfold dE at m ⊢;grind
theorem Hs.U1 {f:Nat->HP} (c:Hs G h L):Hs G h (dE 0 f::L):=Hs.pack (A:=[]) c
theorem Hs.T1 {n:Nat} {f:Nat->HP} (g:Hs G h (f n::dE n f::L)):Hs G h (dE (n+1) f::L):=by
 have c:=(g.perm (List.Perm.swap _ _ _)).unpack;refine Hs.pack (A:=(List.range (n+1)).map f) (c.perm ?_);rw[List.range_succ,List.map_append];simp
theorem zB.mono {f:Value} {args:List Value} {Q c:Value->AH->Prop} (k:zB P K f args h Q) (i:∀v g,Q v g->c v g):zB P K f args h c:=by
 unfold zB at k ⊢;split at k;exact⟨k.1,Ok.mono k.2 fun _ _=>i _ _⟩;exact Ok.mono k fun _ _=>i _ _;cases k
theorem im {l:Nat} {args:List Value} {Q:Value->AH->Prop} (k:Ok P K (.round l args) h fun o c=>Q o.v c):zB P K (.func (.yield l) #[] #[]) args h Q:=by
 simpa [zB] using k
def Xn (P:Program) (K:FuncId->List Value->Option kA) (G:Bg) (f:FuncId) (first captured:List Value) (A:HP) (xs:List (List Value)):Prop:=
 ∀(I:List (List Value)->HP) (J:HP) (y:Value) (L:List HP) (h:AH) (Q:Value->AH->Prop),Hs G h (A::I xs::L)->
  (∀x rest h M,Hs G h (I (x::rest)::M)->zB P K y x h fun v c=>(v= .bool true/\Hs G c (I rest::M))\/(v= .bool false/\Hs G c (J::M)))->
  (∀v c,Hs G c (A::I []::L)->Q v c)->(∀v c,Hs G c (A::J::L)->Q v c)->Cl P K f (first++[y]++captured) h Q
class dT (A:HP) (L:List HP) (L':outParam (List HP)):Prop where
 perm:L.Perm (A::L')
instance (priority:=low) dT.there {A B:HP} [k:dT A L L']:dT A (B::L) (B::L'):=⟨(k.perm.cons B).trans (List.Perm.swap _ _ _)⟩
instance (priority:=high) dT.here {A:HP}:dT A (A::L) L:=⟨List.Perm.refl _⟩
instance (priority:=high) dT.app {A B:HP} {c L2:List HP} [k:dT A (B::(c++L2)) L']:dT A ((B::c)++L2) L':=k
instance (priority:=high) dT.aEt {A:HP} {L2:List HP} [k:dT A L2 L']:dT A ([]++L2) L':=k
class Sub (L M:List HP):Prop where
 to:∀r,star L r->∃r1 r2,star M r1/\r1.vI r2/\r=r1.add r2
theorem yi {r:cN}:r.add cN.emp=r:=by rw[cN.add_comm cN.dP.symm,cN.gD]
instance (priority:=low) Sub.skip {A:HP} [k:Sub L M]:Sub (A::L) M:=⟨fun r ⟨j,m,o,c,g,i⟩=>by
 obtain⟨s1,s2,g1,g2,g3⟩:=k.to m c;subst g3;obtain⟨d1,d2⟩:=cN.iI.1 g;exact⟨s1,j.add s2,g1,cN.iI.2 ⟨d1.symm,g2⟩,by rw[i,<-cN.add_assoc,<-cN.add_assoc,cN.add_comm d1]⟩⟩
instance Sub.take {A:HP} [k:dT A L L'] [q:Sub L' M]:Sub L (A::M):=⟨fun r o=>by
 obtain⟨c,s,g,i,j,m⟩:=F9 k.perm r o;obtain⟨s1,s2,g1,g2,g3⟩:=q.to s i;subst g3;obtain⟨d1,d2⟩:=cN.iI.1 j;exact⟨c.add s1,s2,⟨c,s1,g,g1,d1,rfl⟩,(cN.iI.2 ⟨d2.symm,g2.symm⟩).symm,by rw[m,cN.add_assoc]⟩⟩
instance (priority:=high) Sub.refl:Sub L L:=⟨fun r c=>⟨r,cN.emp,c,cN.dP.symm,yi.symm⟩⟩
instance (priority:=high) Sub.app {A:HP} {c L2:List HP} [k:Sub L (A::(c++L2))]:Sub L ((A::c)++L2):=k
instance (priority:=high) Sub.aEt {L2:List HP} [k:Sub L L2]:Sub L ([]++L2):=k
instance (priority:=high) Sub.aK2 {A:HP} {c L2:List HP} [k:Sub (A::(c++L2)) M]:Sub ((A::c)++L2) M:=k
instance (priority:=high) Sub.aJp {L2:List HP} [k:Sub L2 M]:Sub ([]++L2) M:=k
instance (priority:=high) Sub.sp {A:List HP} [k:Sub L (A++M)]:Sub L (sp A::M):=⟨fun r m=>by
 obtain⟨s1,s2,g1,g2,g3⟩:=k.to r m;obtain⟨o,q,c,g,i,j⟩:=jD.1 g1;exact⟨s1,s2,⟨o,q,c,g,i,j⟩,g2,g3⟩⟩
theorem Hs.to (c:Hs G h L) [k:Sub L M]:Hs G h M:=⟨c.base,c.old,c.wf,c.fr,by
 obtain⟨r,g,i⟩:=c.res;obtain⟨j,m,g1,g2,g3⟩:=k.to r g;subst g3;exact⟨j,g1,((cN.fP g2).1 i).1⟩⟩
theorem Hs.lU {A B:HP} (c:Hs G h (B::A::L)):Hs G h (A::B::L):=c.perm (List.Perm.swap _ _ _)
theorem tC {p:Prop} {A:List HP} (c:p) (g:Hs G h (sp A::L)):Hs G h (sp (tX p::A)::L):=Hs.pack (A:=tX p::A) (Hs.U5 c g.unpack)
theorem gH {p:Prop} {A:List HP} (c:Hs G h (sp (tX p::A)::L)):p/\Hs G h (sp A::L):=let⟨a,b⟩:=Hs.Vd c.unpack;⟨a,b.pack⟩
theorem jK {a b:Prop} {c:List (Nat×Prop)} (g:a):sM none a b c:=g
theorem Wg {a b:Prop} {c:List (Nat×Prop)} (g:b):sM (some .ret) a b c:=g
theorem Q3 {a b q:Prop} {c:List (Nat×Prop)} {id:Nat} (i:c.lookup id=some q) (g:q):sM (some (.exit id)) a b c:=by simp only[sM,i];exact g
theorem aHl {b o j m:Nat} (h:m<=j):pt b o j=pt b (o+m) (j - m):=by simp only[pt];grind
end Go.Ab
end
section
namespace Go.Ab
variable {P:Program} {K:FuncId->List Value->Option kA} {G:Bg} {h:AH} {L L' M:List HP}
class Cv (v:Value) (cs:outParam (List Value)):Prop where
 eq:iK v=some cs
instance {a:Int}:Cv (I a) [I a]:=⟨rfl⟩
instance {a:Bool}:Cv (.bool a) [.bool a]:=⟨rfl⟩
instance {b o j:Nat}:Cv (pt b o j) [pt b o j]:=⟨rfl⟩
instance {a:Option Addr}:Cv (.pointer a) [.pointer a]:=⟨rfl⟩
instance {a:Option Addr} {n c:Nat}:Cv (.slice a n c) [.slice a n c]:=⟨rfl⟩
instance {l:List Value}:Cv (.agg ⟨l⟩) l:=⟨rfl⟩
instance {f:Fn} {a b:Array Value}:Cv (.func f a b) [.func f a b]:=⟨rfl⟩
theorem dF {cs:List Value} {e:TypeId} {v:Value} {k:Nat->AH->Prop} (i:Hs G h L) [j:Cv v cs] (g:∀p c,Hs G c (aE p 0 cs::L)->k p c):bG (kX e v) fun b=>B4 h b k:=aHm i j.eq g
theorem Ai {r i n:Nat} {D:List Nat} {cs:List Value} {v:Value} {e:TypeId} {k:Nat->AH->Prop} (o:Hs G h L) [m:Has (Z6 r) L (n,D) L'] [q:Cv v cs] (g:Nat.blt i n=true) (hD:D.contains i=false)
  (j:∀p c,Hs G c (aE p 0 cs::Z6 r (n,i::D)::L')->k p c):bG (kX e v) fun b=>mA h (r+i) b k:=zy o q.eq g hD j
theorem bL {b o j n:Nat} {c vs:List Value} {v:Value} {k:AH->Prop} (t:Hs G h L) [m:Has (aE b o) L c L'] [u:Cv v vs] (s:vs.length=n) (r:Nat.ble (j+n) c.length=true) (hb:vs.all eJ=true) (i:Nat.ble 1 c.length=true)
  (q:∀g,Hs G g (aE b o (dS c j vs)::L')->k g):bG (uG h n (pt b o j) v) k:=aFt t u.eq s r hb i q
theorem ay {b o j n:Nat} {c vs:List Value} {v:Value} {k:AH->Prop} (t:Hs G h L) [m:Has (aE b o) L c L'] [u:Cv v vs] (q:∀g,Hs G g (aE b o (dS c j vs)::L')->k g) (s:vs.length=n:=by exact rfl) (r:Nat.ble (j+n) c.length=true:=by exact rfl) (hb:vs.all eJ=true:=by exact rfl) (i:Nat.ble 1 c.length=true:=by exact rfl):bG (uG h n (pt b o j) v) k:=bL t s r hb i q
theorem Sk:∀(c vs:List Value),c.length=vs.length->dS c 0 vs=vs
 |[],[],_=>rfl
 |_::c,v::vs,h=>by simp only[dS];rw[Sk c vs (by simpa using h)]
theorem aY {b o n:Nat} {c vs:List Value} {v:Value} {k:AH->Prop} (s:Hs G h L) [m:Has (aE b o) L c L'] [t:Cv v vs] (g:Nat.beq c.length n=true) (j:Nat.ble 1 n=true) (r:vs.length=n) (hb:vs.all eJ=true)
  (q:∀i,Hs G i (aE b o vs::L')->k i):bG (uG h n (pt b o 0) v) k:=by
 have g:=Nat.eq_of_beq_eq_true g
 refine aFt s t.eq r (by rw[g];simp) hb (by rw[g];exact j) ?_
 rw[Sk c vs (by omega)];exact q
theorem ax {b o n:Nat} {c vs:List Value} {v:Value} {k:AH->Prop} (s:Hs G h L) [m:Has (aE b o) L c L'] [t:Cv v vs] (q:∀i,Hs G i (aE b o vs::L')->k i) (g:Nat.beq c.length n=true:=by exact rfl) (j:Nat.ble 1 n=true:=by exact rfl) (r:vs.length=n:=by exact rfl) (hb:vs.all eJ=true:=by exact rfl):bG (uG h n (pt b o 0) v) k:=aY s g j r hb q
structure LpX where
 P:Program
 f:FuncId
 p:List Nat
 n:Nat
 e:Nat->Value
 d:Nat
 st:LoopState
 pd:Option Code
class oO (l:Nat) (L:List HP) (x:outParam LpX) (L':outParam (List HP)):Prop where
 perm:L.Perm (gF x.P x.f x.p x.n x.e x.d l (x.st,x.pd)::L')
instance (priority:=low) oO.there {l:Nat} {A:HP} {x:LpX} [k:oO l L x L']:oO l (A::L) x (A::L'):=⟨(k.perm.cons A).trans (List.Perm.swap _ _ _)⟩
instance (priority:=high) oO.here {l:Nat} {f:FuncId} {p:List Nat} {n:Nat} {e:Nat->Value} {d:Nat} {st:LoopState} {pd:Option Code}:oO l (gF P f p n e d l (st,pd)::L) ⟨P,f,p,n,e,d,st,pd⟩ L:=⟨List.Perm.refl _⟩
instance (priority:=high) oO.app {l:Nat} {A:HP} {c L2:List HP} {x:LpX} [k:oO l (A::(c++L2)) x L']:oO l ((A::c)++L2) x L':=k
instance (priority:=high) oO.aEt {l:Nat} {L2:List HP} {x:LpX} [k:oO l L2 x L']:oO l ([]++L2) x L':=k
theorem oO.of {l:Nat} {x:LpX} [k:oO l L x L'] (c:Hs G h L):Hs G h (gF x.P x.f x.p x.n x.e x.d l (x.st,x.pd)::L'):=c.perm k.perm
section
variable {f:FuncId} {p:List Nat} {n:Nat} {e:Nat->Value} {d l:Nat} {st st':LoopState} {pd pd':Option Code}
theorem gM {k:AH->Prop} (i:Hs G h L) [m:oO l L ⟨P,f,p,n,e,d,st,pd⟩ L'] (g:∀c,Hs G c (gF P f p n e d l (st',pd')::L')->k c):bG (setLoop h l st' (some pd')) k:=aHd (show Hs G h (gF P f p n e d l (st,pd)::L') from m.of i) g
theorem fU {k:AH->Prop} (i:Hs G h L) [m:oO l L ⟨P,f,p,n,e,d,.ready,pd⟩ L'] (g:∀c,Hs G c (gF P f p n e d l (.busy,pd)::L')->k c):bG (jS h l) k:=aA5 (show Hs G h (gF P f p n e d l (.ready,pd)::L') from m.of i) g
theorem jL {k:Option Code×AH->Prop} (i:Hs G h L) [m:oO l L ⟨P,f,p,n,e,d,.ready,pd⟩ L'] (g:∀c,Hs G c L'->k (pd,c)):bG (sC h l) k:=
 nk (P:=P) (f:=f) (p:=p) (n:=n) (e:=e) (d:=d) (st:= .ready) (pd:=pd) (k:=fun a b=>k (a,b)) (show Hs G h (gF P f p n e d l (.ready,pd)::L') from m.of i) (by decide) g
theorem Gg {k:Nat->Prop} (g:Hs G h L) [m:oO l L ⟨P,f,p,n,e,d,st,pd⟩ L'] (c:k d):bG (fL h l) k:=uh (P:=P) (f:=f) (p:=p) (n:=n) (e:=e) (d:=d) (st:=st) (pd:=pd) (show Hs G h (gF P f p n e d l (st,pd)::L') from m.of g) c
theorem oW (c:Hs G h L) [m:oO l L ⟨P,f,p,n,e,d,st,pd⟩ L']:h.get l=some (lp P f p n e d st pd):=aIg (show Hs G h (gF P f p n e d l (st,pd)::L') from m.of c)
end
theorem Z1 {W:Nat} {e:TypeId} {a:Option Addr} {c n:Nat} {cs:List Value} (s:Hs G h (dH W e a c (n,cs)::L)):gE h W n (.slice a n c)=some cs:=by
 have F:=s.Cj;simp only at F;by_cases v:n=0;subst v;have:cs=[]:=List.eq_nil_of_length_eq_zero (by omega);subst this;cases a<;>simp[gE];obtain⟨b,o,rfl,H,t,_⟩:=s.oZ (by omega);simp only[gE,aKi v,Nat.le_refl,if_true];by_cases B:n*W=0;have:cs=[]:=List.eq_nil_of_length_eq_zero (by omega);subst this;obtain⟨r,S,m,I,R,E,i⟩:=s.fst;obtain⟨_,_,m⟩:=m;rcases m with⟨u,_⟩|⟨u,_⟩|⟨z,N,J,A,ex,C,hle,q⟩;simp at u;omega;simp at u;omega;cases C;subst q;obtain⟨D,g⟩:=Fz E i;simp only[cJ,Option.isSome_none,Bool.false_eq_true,if_false,g,B];grind;obtain⟨D,O,Q,T,g,hle,w⟩:=t.cells (by omega);simp only[cJ,Option.isSome_none,Bool.false_eq_true,if_false,g];rw[aac];congr 1;refine List.ext_getElem? fun j=>?_;grind
theorem rV {W bytes:Nat} {e:TypeId} {a a2:Option Addr} {c c2 n m:Nat} {cs ns:List Value} {k:Value×AH->Prop} (r:Hs G h L) [t:Has (dH W e a c) L (n,cs) L'] [u:Has (dH W e a2 c2) L' (m,ns) M] (i:(n+m)*(bytes+1)<=2^46)
  (s:∀j o q,Hs G q (dH W e j o (n+m,cs++ns)::L')->k (.slice j (n+m) o,q)):bG (iV W bytes e h (.slice a n c) (.slice a2 m c2)) k:=by
 have g:=u.of (t.of r).tail
 exact aBb (k:=fun x y=>k (x,y)) r pP (Z1 g) g.Es g.Cj i s
theorem Hs.front (A:HP) (c:Hs G h L) [k:dT A L L']:Hs G h (A::L'):=c.perm k.perm
theorem Hs.cC (A B:HP) (c:Hs G h L) [k:dT A L L'] [g:dT B L' M]:Hs G h (A::B::M):=c.perm (k.perm.trans (g.perm.cons A))
end Go.Ab
end
section
namespace Go.Ab
variable {P:Program} {K:FuncId->List Value->Option kA} {G:Bg} {h:AH} {L L' M:List HP}
structure se (G:Bg) (W:Nat) (e:TypeId) (a:Option Addr) (cap n b o:Nat) where
 p:HP
 back:∀(h':AH) (cs':List Value) (M:List HP),cs'.length=n*W->cs'.all eJ=true->Hs G h' (aE b o cs'::p::M)->Hs G h' (dH W e a cap (n,cs')::M)
def hole (G:Bg) (W:Nat) (e:TypeId) (a:Option Addr) (cap n b o:Nat):HP:=sB fun H:se G W e a cap n b o=>H.p
theorem Hs.fV {W:Nat} {e:TypeId} {a:Option Addr} {cap n:Nat} {cs:List Value} (j:Hs G h (dH W e a cap (n,cs)::L)) (q:0<n):
  ∃b o,a=some ⟨b,o,none⟩/\Hs G h (aE b o cs::hole G W e a cap n b o::L):=by
 have i:=j.Cj
 simp only at i
 obtain⟨b,o,u,H,g,v⟩:=j.oZ q
 exact⟨b,o,u,Hs.lU (Hs.qU (A:=fun H:se G W e a cap n b o=>H.p) ⟨H,fun m c M r s t=>v m c M (r.trans i.symm) s t⟩ g.lU)⟩
theorem Hs.mQ {W:Nat} {e:TypeId} {a:Option Addr} {cap n b o:Nat} {cs:List Value} (c:Hs G h (aE b o cs::hole G W e a cap n b o::L)) (g:cs.length=n*W) (hc:cs.all eJ=true):Hs G h (dH W e a cap (n,cs)::L):=by
 obtain⟨⟨H,hH⟩,c⟩:=Hs.tW (A:=fun H:se G W e a cap n b o=>H.p) c.lU;exact hH _ _ _ g hc c.lU
theorem Yr {b o W:Nat} {c:Nat->List Value} (hc:∀i,(c i).length=W):∀(n:Nat) (L:List HP),Hs G h (aE b o ((List.range n).flatMap c)::L)->Hs G h (dE n (fun i=>aE b (o+i*W) (c i))::L):=by
 intro n;induction n with
 |zero=>intro L g;exact Hs.U1 g.tail
 |succ n r=>
  intro L g;rw[List.range_succ,List.flatMap_append] at g;have q:∀m,((List.range m).flatMap c).length=m*W:=fun m=>by
   induction m with
   |zero=>simp
   |succ m j=>rw[List.range_succ,List.flatMap_append,List.length_append,j];grind
  have g:=g.split;simp only[List.flatMap_cons,List.flatMap_nil,List.append_nil,q] at g;exact Hs.T1 (Hs.lU (r _ g))
theorem aAf {b o W:Nat} {c:Nat->List Value} (hc:∀i,(c i).length=W) (_:0<W):∀(n:Nat) (L:List HP),0<n->Hs G h (dE n (fun i=>aE b (o+i*W) (c i))::L)->Hs G h (aE b o ((List.range n).flatMap c)::L):=by
 intro n;have r:∀m,((List.range m).flatMap c).length=m*W:=fun m=>by
  induction m with
  |zero=>simp
  |succ m q=>rw[List.range_succ,List.flatMap_append,List.length_append,q];grind
 induction n with
 |zero=>intro L j;omega
 |succ n s=>
  intro L _ g;have g:=g.unpack;rw[List.range_succ,List.map_append,List.append_assoc] at g;have g:Hs G h (dE n (fun i=>aE b (o+i*W) (c i))::aE b (o+n*W) (c n)::L):=Hs.pack g;rw[List.range_succ,List.flatMap_append];simp only[List.flatMap_cons,List.flatMap_nil,List.append_nil];rcases Nat.eq_zero_or_pos n with j|j;simp_all;exact Hs.Im (s _ j g) (by rw[r])
theorem Hs.J0 {f g:Nat->HP}:∀(n:Nat) (L:List HP),(∀i,i<n->∀h L,Hs G h (f i::L)->Hs G h (g i::L))->Hs G h (dE n f::L)->Hs G h (dE n g::L):=by
 intro n;induction n with
 |zero=>intro L _ c;exact Hs.U1 c.tail
 |succ n m=>
  intro L j c;have c:=c.unpack;rw[List.range_succ,List.map_append,List.append_assoc] at c;have c:Hs G h (dE n f::f n::L):=Hs.pack c;exact Hs.T1 (j n (Nat.lt_succ_self n) _ _ (m _ (fun i o=>j i (by omega)) c).lU)
theorem Hs.aDi {f g k:Nat->HP} (j:∀i h L,Hs G h (f i::g i::L)->Hs G h (k i::L)):∀(n:Nat) (L:List HP),Hs G h (dE n f::dE n g::L)->Hs G h (dE n k::L):=by
 intro n;induction n with
 |zero=>intro L c;exact Hs.U1 c.tail.tail
 |succ n m=>
  intro L c;have c:=c.unpack;rw[List.range_succ,List.map_append,List.append_assoc] at c;have c:Hs G h (dE n f::f n::dE (n+1) g::L):=Hs.pack c;have c:Hs G h (dE (n+1) g::f n::dE n f::L):=c.to;have c:=c.unpack;rw[List.range_succ,List.map_append,List.append_assoc] at c;have c:Hs G h (dE n g::g n::f n::dE n f::L):=Hs.pack c;have c:Hs G h (dE n f::dE n g::f n::g n::L):=c.to;have c:=m _ c;exact Hs.T1 (j n _ _ (c.to (M:=[f n,g n,dE n k]++L)))
theorem Y8 {n i:Nat} {l:List Value} {v:Value} {k:Value->Prop} (c:i<n) (j:l[i]?=some v) (g:k v):bG (Mb n 1 (.agg ⟨l⟩) (I i)) k:=⟨v,by simp[Mb,c,j],g⟩
theorem gK {b o j n c i:Nat} {k:Value->Prop} (g:i<n) (m:k (pt b o (j+i*c))):bG (oT n c (pt b o j) (I i)) k:=⟨_,by simp[oT,g,dA,pt,Nat.add_assoc],m⟩
theorem ud {bytes n:Nat} {k:Nat×Nat->Prop} (g:n<=2^40) (hb:bytes*n<=2^47) (c:k (n,n)):bG (Gk bytes (I n) (I n)) k:=⟨_,by simp only[Gk];grind,c⟩
theorem kS {b o j n:Nat} {c l:List Value} {k:Value->Prop} (r:Hs G h L) [m:Has (aE b o) L c L'] (q:0<n) (hc:(c.drop j).take n=l) (i:l.length=n) (g:k (.agg ⟨l⟩)):bG (uF h n (pt b o j)) k:=aR r q hc i g
theorem aEv {b n:Nat} {c:List Value} {k:Value->Prop} (q:Hs G h L) (m:Ob G b c) (g:c.length=n) (i:k (.agg ⟨c⟩)):bG (uF h n (.pointer (some ⟨b,0,none⟩))) k:=
 Vq (o:=0) (j:=0) q m (by rw[<-g];simp) g (by simp) i
def aX {α:Type} (f:Nat->α) (i:Nat) (v:α):Nat->α:=fun j=>if j=i then v else f j
theorem dQ {α:Type} {f:Nat->α} {i:Nat} {v:α}:aX f i v i=v:=by simp[aX]
theorem cX {α:Type} {f:Nat->α} {i j:Nat} {v:α} (h:j≠i):aX f i v j=f j:=by simp[aX,h]
theorem rK {W:Nat} {c:Nat->List Value} (hc:∀i,(c i).length=W) (m:Nat):((List.range m).flatMap c).length=m*W:=by
 induction m with
 |zero=>simp
 |succ m g=>rw[List.range_succ,List.flatMap_append,List.length_append,g];grind
theorem x9 {W:Nat} {c:Nat->List Value} (hc:∀i,(c i).length=W) {i:Nat}:∀(n:Nat),i<n->∃m g,(List.range n).flatMap c=m++(c i++g)/\m.length=i*W/\∀x,(List.range n).flatMap (aX c i x)=m++(x++g):=by
 intro n;induction n with
 |zero=>intro h;omega
 |succ n t=>
  intro h;by_cases o:i=n;subst o;refine⟨(List.range i).flatMap c,[],?_,rK hc i,fun x=>?_⟩;rw[List.range_succ,List.flatMap_append];simp;rw[List.range_succ,List.flatMap_append];congr 1;rw[List.flatMap_def,List.flatMap_def];congr 1;exact List.map_congr_left fun j u=>cX (by grind);simp[dQ];obtain⟨m,g,q,r,s⟩:=t (by omega);refine⟨m,g++c n,?_,r,fun x=>?_⟩;rw[List.range_succ,List.flatMap_append,q];simp;rw[List.range_succ,List.flatMap_append,s];simp[cX (Ne.symm o)]
theorem Hs.Y7 {W:Nat} {e:TypeId} {a:Option Addr} {cap n i:Nat} {c:Nat->List Value} (hc:∀i,(c i).length=W) (z:i<n) (g:Hs G h (dH W e a cap (n,(List.range n).flatMap c)::L)):
  ∃b o,a=some ⟨b,o,none⟩/\∃H:HP,Hs G h (aE b (o+i*W) (c i)::H::L)/\∀s x M,x.length=W->x.all eJ=true->Hs G s (aE b (o+i*W) x::H::M)->Hs G s (dH W e a cap (n,(List.range n).flatMap (aX c i x))::M):=by
 have m:=g.Es
 simp only at m
 obtain⟨b,o,w,g⟩:=g.fV (by omega)
 obtain⟨r,q,u,t,v⟩:=x9 hc n z
 rw[u] at g m
 have g:=g.split.lU.split
 rw[t] at g
 refine⟨b,o,w,sp [aE b o r,aE b (o+i*W+(c i).length) q,hole G W e a cap n b o],?_,?_⟩
 .exact(Hs.pack (A:=[aE b o r,aE b (o+i*W+(c i).length) q,hole G W e a cap n b o]) g.to).lU
 .intro s x M B C g;have g:Hs G s (aE b (o+i*W) x::aE b (o+i*W+(c i).length) q::aE b o r::hole G W e a cap n b o::M):=(g.lU.unpack).to;have g:=Hs.Im g (by rw[B,hc]);have g:=Hs.Im g.lU (by rw[t]);refine Hs.mQ (by rw[v];exact g) (rK (fun j=>by unfold aX;grind) n) ?_;grind
theorem Hs.sg {b o:Nat} {c c':List Value} (g:Hs G h L) [m:Has (aE b o) L c' L'] (hc:c'=c):Hs G h (aE b o c::L'):=by subst hc;exact m.of g
theorem Hs.oB {n i:Nat} (f g:Nat->HP) (o:i<n) (s:∀j,j<n->j≠i->g j=f j) (c:Hs G h L) [k:dT (g i) L L'] [t:dT (sp (((List.range n).erase i).map f)) L' M]:Hs G h (dE n g::M):=by
 have c:=c.cC (g i) (sp (((List.range n).erase i).map f));have m:=(c.perm (List.Perm.swap _ _ _)).unpack;have r:((List.range n).erase i).map f=((List.range n).erase i).map g:=List.map_congr_left fun j q=>by
  have:j≠i:=by
   intro e;subst e;exact List.Nodup.not_mem_erase List.nodup_range q
  grind
 rw[r] at m;refine(m.perm ?_).pack;exact(List.perm_middle.trans ((Ki o).symm.append_right M))
theorem Pm {bytes:Nat} {a:Int} {k:Nat×Nat->Prop} (g:0<=a) (i:a<=2^40) (hb:bytes*a<=2^47) (c:k (a.toNat,a.toNat)):bG (Gk bytes (I a) (I a)) k:=⟨_,by simp only[Gk];grind,c⟩
theorem gR (z:List Value) (n:Nat):dY z n=(List.range n).flatMap fun _=>z:=by
 induction n with
 |zero=>rfl
 |succ n c=>rw[List.range_succ,List.flatMap_append,<-c];simp[dY,List.replicate_succ']
theorem qK {c:Nat->List Value} (hc:∀i,(c i).all eJ=true) (n:Nat):((List.range n).flatMap c).all eJ=true:=by
 grind
theorem Hs.Jl {W:Nat} {e:TypeId} {z:List Value} {a:Option Addr} {cap n:Nat} (m:z.length=W) (g:0<n) (c:Hs G h (dH W e a cap (n,dY z n)::L)):∃b o,a=some ⟨b,o,none⟩/\Hs G h (dE n (fun i=>aE b (o+i*W) z)::hole G W e a cap n b o::L):=by
 obtain⟨b,o,j,c⟩:=c.fV g;rw[gR] at c;exact⟨b,o,j,Yr (fun _=>m) n _ c⟩
theorem Hs.cI {c L2 g:List HP} (A B C:HP) (i:Hs G h L) [k:dT A L c] [j:dT B c L2] [m:dT C L2 g]:Hs G h (A::B::C::g):=i.perm (k.perm.trans ((j.perm.trans (m.perm.cons B)).cons A))
theorem aBa {b o i j:Nat} {c:List Value} {v:Value} {k:Value->Prop} (q:Hs G h L) [m:Has (aE b o) L c L'] (hc:c[i+j]?=some v) (g:k v):bG (ld1 h (pt b (o+i) j)) k:=by
 have:pt b (o+i) j=pt b o (i+j):=by simp only[pt];rw[Nat.add_assoc]
 rw[this];exact aC q hc g
theorem tu {a b c d:Bool} {k:Value->Prop} (i:k (.bool (a||b||c||d))) {g:Bool} (hc:g=true:=by kernel_rfl):Ny g [1,1,1,1] .neq (.agg ⟨[.bool a,.bool b,.bool c,.bool d]⟩) (.agg ⟨[.bool false,.bool false,.bool false,.bool false]⟩) k:=
 ⟨hc,_,by cases a<;>cases b<;>cases c<;>cases d<;>rfl,i⟩
theorem wW {α:Type} {f:Nat->α} {i:Nat} {v w:α}:aX (aX f i v) i w=aX f i w:=by funext j;unfold aX;split<;>rfl
theorem Zd:∀(l:List Value),(∀v∈l,pY v v=true)->P4 l l=true
 |[],_=>by simp[P4]
 |a::l,h=>by simp only[P4,h a List.mem_cons_self,Bool.true_and];exact Zd l fun v c=>h v (List.mem_cons_of_mem _ c)
theorem qY {l:List Value} (h:∀v∈l,pY v v=true):pY (.agg ⟨l⟩) (.agg ⟨l⟩)=true:=by
 simp only[pY,X3];exact Zd l h
end Go.Ab
end
section
namespace Go.Ab
variable {P:Program} {K:FuncId->List Value->Option kA} {G:Bg} {h:AH} {L L' M:List HP}
theorem Ph {W:Nat} {e:TypeId} {a:Option Addr} {cap:Nat} {x:Nat×List Value} {r:cN} (i:Hs G h ((fun q=>q=r)::L)) (g:dH W e a cap x r):Hs G h (dH W e a cap x::L):=
 Hs.join (A:=[_]) i fun q c=>by
  rw[Sf] at c;subst c;exact g
theorem ti {W n c:Nat} {e:TypeId} {a:Option Addr} {cs:List Value} {k:Value->Prop} (j:Hs G h L) [m:Has (dH W e a c) L (n+1,cs) L'] (J:∀Q R,Hs G h (dH W e Q R (n,cs.drop W)::L')->k (.slice Q n R)):bG (wV W h (.slice a (n+1) c) (some (I 1)) none none) k:=by
 have j:=m.of j;obtain⟨r,V,⟨Y,U,hr⟩,w,B,H,s⟩:=j.fst;simp only at Y U;have F:(cs.drop W).all eJ=true:=List.all_eq_true.2 fun v hv=>List.all_eq_true.1 U v (List.mem_of_mem_drop hv);have N:(cs.drop W).length=n*W:=by grind
 rcases hr with⟨O,_⟩|⟨O,_⟩|⟨o,b,g,i,ex,rfl,hle,z⟩;simp at O;simp at O;simp only at o hle z;subst z;obtain⟨hb,X⟩:=Fz H s;have D:lS (some (I 1)) 0 (n+1)=some 1:=by simp only[lS];grind
 have C:lS none c c=some c:=rfl;have E:lS none (n+1) c=some (n+1):=rfl;by_cases t:c=1;have hn:n=0:=by omega
 subst t;subst hn;have hex:nR h b=some ex:=by simp only[nR,X]
 have u:cs.drop W=[]:=List.eq_nil_of_length_eq_zero (by omega);cases ex with
 |true=>
  refine⟨tB,by simp only[wV,C,D,Option.isNone_none,Option.isSome_none,Bool.and_false,Bool.false_eq_true,if_false,hex];simp,J _ _ ?_⟩;rw[u];refine Hs.join (A:=[]) j.tail fun q hq=>⟨by simp,rfl,.inl ⟨rfl,hq,rfl,.inr ⟨0,0,rfl⟩⟩⟩
 |false=>
  refine⟨zU ⟨b,g.length+1*W,none⟩,by simp only[wV,C,D,Option.isNone_none,Option.isSome_none,Bool.and_false,Bool.false_eq_true,if_false,hex,dA];simp,J _ _ ?_⟩;rw[u];refine Ph (r:=mL b (g++cs++i) (some (.mt e false (g++cs++i).length))) ⟨j.base,j.old,j.wf,j.fr,_,⟨_,V,rfl,w,B,rfl⟩,(cN.fP B).2 ⟨H,s⟩⟩ ?_;refine⟨by simp,rfl,.inr (.inl ⟨rfl,rfl,b,g.length+1*W,g++cs++i,rfl,?_,rfl⟩)⟩;grind
 refine⟨.slice (some ⟨b,g.length+1*W,none⟩) n (c - 1),?_,J _ _ ?_⟩;have Z:¬c=1:=t;simp only[wV,C,D,E,Option.isNone_none,Option.isSome_none,Bool.and_false,Bool.false_eq_true,if_false,Z,dA];rw[aKj o];rfl;have S:g++cs++i=(g++cs.take W)++cs.drop W++i:=by simp
 have T:(g++cs.take W).length=g.length+1*W:=by
  grind
 refine Ph (r:=mL b (g++cs++i) (some (.mt e ex (g++cs++i).length))) ⟨j.base,j.old,j.wf,j.fr,_,⟨_,V,rfl,w,B,rfl⟩,(cN.fP B).2 ⟨H,s⟩⟩ ?_;refine⟨N,F,.inr (.inr ⟨by simp only;omega,b,g++cs.take W,i,ex,by rw[T],?_,by rw[<-S]⟩)⟩;simp only;rw[<-S,T];have:c*W=(c - 1)*W+W:=by rw[<-Nat.succ_mul];congr 1;omega
 omega
theorem Kq {b o i j n:Nat} {c l:List Value} {k:Value->Prop} (s:Hs G h L) [m:Has (aE b o) L c L'] (r:0<n) (hc:(c.drop (i+j)).take n=l) (q:l.length=n) (g:k (.agg ⟨l⟩)):bG (uF h n (pt b (o+i) j)) k:=by
 have:pt b (o+i) j=pt b o (i+j):=by simp only[pt];rw[Nat.add_assoc]
 rw[this];exact aR s r hc q g
end Go.Ab
end
section
namespace Go.Ab
variable {P:Program} {K:FuncId->List Value->Option kA} {h:AH}
theorem aCd {f g:FuncId} {args c:List Value} {Q:Value->AH->Prop} (m:K f args=some (.fwd g c)) (t:Cl P K g c h fun v i=>O5 v=true/\Q v i):Cl P K f args h Q:=by
 obtain⟨n,⟨o,j⟩,s,q,r⟩:=t;exact⟨n+1,(⟨.pR,[],[],o.v⟩,j),by show runCall _ _ _ _ _ _=_;simp only[runCall,m,s,q,if_true],r⟩
end Go.Ab
end
section
namespace Go.Ab
variable {P:Program} {K:FuncId->List Value->Option kA} {G:Bg} {h:AH} {L L' M:List HP}
theorem Iq {W n m c:Nat} {e:TypeId} {a:Option Addr} {cs zs:List Value} (I:m<=n) (H:0<n) (C:cs.length=m*W) (q:Hs G h (dH W e a c (n,cs++zs)::L)):Hs G h (dH W e a c (m,cs)::L):=by
 obtain⟨r,F,⟨u,A,D⟩,v,w,B,t⟩:=q.fst;simp only at u A;have s:cs.all eJ=true:=by grind
 rcases D with⟨E,_⟩|⟨E,_⟩|⟨j,b,i,g,ex,rfl,hle,o⟩;grind;grind;simp only at j hle o;subst o;refine Ph (r:=mL b (i++(cs++zs)++g) (some (.mt e ex (i++(cs++zs)++g).length))) ⟨q.base,q.old,q.wf,q.fr,_,⟨_,F,rfl,v,w,rfl⟩,(cN.fP w).2 ⟨B,t⟩⟩ ?_;have z:i++(cs++zs)++g=i++cs++(zs++g):=by simp
 refine⟨C,s,.inr (.inr ⟨by simp only;omega,b,i,zs++g,ex,rfl,?_,by rw[z]⟩)⟩;grind
theorem o6 {b o j m:Nat} {c:List Value} (r:Hs G h (aE b o c::L)) (i:0<c.length) (v:j+m<=c.length):cJ h ⟨b,o+j,none⟩ m=some ((c.drop j).take m):=by
 obtain⟨u,s,t,w,q,hle,g⟩:=r.cells i;simp only[cJ,Option.isSome_none,Bool.false_eq_true,if_false,q];rw[aac];congr 1;refine List.ext_getElem? fun k=>?_;grind
theorem Un {A B z:List Value} {j:Nat} (c:A.length=j) (g:B.length=z.length):cF (A++B) j z=A++z:=by
 subst c;unfold cF;rw[List.take_left,List.drop_eq_nil_of_le (by rw[List.length_append];omega),List.append_nil]
theorem Iv {α:Type} (l:List α) (i:Nat):l.take i++l.drop i=l:=List.take_append_drop i l
theorem aBt {W bytes n i c:Nat} {e:TypeId} {a:Option Addr} {cs z:List Value} {k:Value->AH->Prop} (hW:0<W) (hz:z.length=W) (ι:z.all eJ=true) (hi:i<n) (J:Hs G h L) [m:Has (dH W e a c) L (n,cs) L']
  (hk:∀h',Hs G h' (dH W e a c (n - 1,cs.take (i*W)++cs.drop ((i+1)*W))::L')->k (.slice a (n - 1) c) h'):
  bG (wV W h (.slice a n c) none (some (I i)) none) fun v3=>bG (wV W h (.slice a n c) (some (I ((i:Int)+1))) none none) fun v4=>
   bG (iV W bytes e h v3 v4) fun s=>bG (lH s.1) fun Z=>bG (wV W s.2 s.1 (some Z) (some (I n)) none) fun v9=>bG (iJ z s.2 v9) fun q=>k s.1 q.2:=by
 have J:=m.of J
 have hl:=J.Cj
 have hc:=J.Es
 simp only at hl hc
 have g:n<=c:=by
  obtain⟨r,r2,⟨_,_,hr⟩,_⟩:=J.fst;rcases hr with⟨hz,_⟩|⟨hz,_⟩|⟨g,_⟩;simp only at hz;omega;simp only at hz;omega;exact g
 obtain⟨b,o,rfl,H,u,close⟩:=J.oZ (by omega)
 have κ:0<n*W:=Nat.mul_pos (by omega) hW
 have B:0<cs.length:=by omega
 have F:lS none c c=some c:=rfl
 have b2:lS (some (I i)) n c=some i:=by simp only[lS];rw[aac];simp
 have b3:lS none 0 i=some 0:=rfl
 have b4:lS none n c=some n:=rfl
 have b5:lS (some (I ((i:Int)+1))) 0 n=some (i+1):=by simp only[lS];rw[aac];congr 1
 have b6:lS (some (I ((n - 1:Nat):Int))) 0 n=some (n - 1):=by simp only[lS];grind
 have b7:lS (some (I n)) n c=some n:=by simp only[lS];grind
 have T:¬c=0:=by omega
 refine⟨.slice (some ⟨b,o,none⟩) i c,?_,?_⟩
 .simp only[wV,F,b2,b3,Option.isNone_some,Bool.false_and,Option.isSome_none,Bool.false_eq_true,if_false,T,dA];rw[aac];simp
 have μ:(i+1)*W=i*W+W:=by rw[Nat.add_mul,Nat.one_mul]
 have ν:(i+1)*W<=n*W:=Nat.mul_le_mul_right W hi
 have η:(n - (i+1))*W=n*W - (i+1)*W:=Nat.sub_mul _ _ _
 have ξ:(n - 1)*W=n*W - W:=by rw[Nat.sub_mul,Nat.one_mul]
 have fin:∀t,Hs G t (aE b o (cs.take (i*W)++cs.drop ((i+1)*W)++cs.drop ((n - 1)*W))::H::L')->
   bG (lH (.slice (some ⟨b,o,none⟩) (n - 1) c)) fun Z=>bG (wV W t (.slice (some ⟨b,o,none⟩) (n - 1) c) (some Z) (some (I n)) none) fun v9=>bG (iJ z t v9) fun q=>k (.slice (some ⟨b,o,none⟩) (n - 1) c) q.2:=by
  intro t U
  refine bP ?_
  have C:¬c=n - 1:=by omega
  refine⟨.slice (some ⟨b,o+(n - 1)*W,none⟩) (n - (n - 1)) (c - (n - 1)),?_,?_⟩
  .have α:lS (some (I n)) (n - 1) c=some n:=b7;simp only[wV,F,α,b6,Option.isNone_some,Bool.false_and,Option.isSome_none,Bool.false_eq_true,if_false,C,dA];grind
  have β:n - (n - 1)=1:=by omega
  rw[β]
  have w:(cs.take (i*W)++cs.drop ((i+1)*W)).length=(n - 1)*W:=by
   grind
  have θ:dY z 1=z:=by simp[dY]
  have O:(cs.take (i*W)++cs.drop ((i+1)*W)).all eJ=true:=by
   grind
  obtain⟨N,D,V⟩:=U.write (j:=(n - 1)*W) (vs:=z) (by grind) ι (by grind)
  refine⟨(.tuple #[],N),?_,?_⟩
  .simp only[iJ,Nat.one_ne_zero,if_false,θ,D,Option.map_some]
  refine hk N ?_
  have X:cF (cs.take (i*W)++cs.drop ((i+1)*W)++cs.drop ((n - 1)*W)) ((n - 1)*W) z=cs.take (i*W)++cs.drop ((i+1)*W)++z:=Un w (by grind)
  rw[X] at V
  refine Iq (n:=n) (zs:=z) (by omega) (by omega) w (close N _ _ ?_ ?_ V)
  .grind
  .grind
 by_cases S:i+1=n
 .have γ:cs.drop ((i+1)*W)=[]:=List.drop_eq_nil_of_le (by rw[S];omega);have E:∀v4:Value,tG v4=some 0->gE h W 0 v4=some []->bG (iV W bytes e h (.slice (some ⟨b,o,none⟩) i c) v4) fun s=>bG (lH s.1) fun Z=>bG (wV W s.2 s.1 (some Z) (some (I n)) none) fun v9=>bG (iJ z s.2 v9) fun q=>k s.1 q.2:=by
   intro v4 t N;refine⟨(.slice (some ⟨b,o,none⟩) i c,h),?_,?_⟩;simp only[iV,t,N,List.all_nil,Bool.not_true,List.length_nil,Nat.zero_mul,bne_self_eq_false,Bool.or_self,Bool.false_eq_true,if_false,Nat.add_zero];grind;have R:i=n - 1:=by omega
   have:=fin h (by
    rw[γ,List.append_nil,R,Iv];exact u)
   rw[R];exact this
  by_cases A:c=i+1
  .obtain⟨hb,c',e',x',hg,hle,O⟩:=u.cells B;have hex:nR h b=some x':=by simp only[nR,hg]
   cases x' with
   |true=>
    refine⟨tB,?_,E _ rfl rfl⟩
    simp only[wV,F,b4,b5,Option.isNone_none,Option.isSome_none,Bool.and_false,Bool.false_eq_true,if_false,dA,hex]
    grind
   |false=>
    refine⟨zU ⟨b,o+(i+1)*W,none⟩,?_,E _ rfl rfl⟩
    simp only[wV,F,b4,b5,Option.isNone_none,Option.isSome_none,Bool.and_false,Bool.false_eq_true,if_false,dA,hex]
    grind
  .refine⟨.slice (some ⟨b,o+(i+1)*W,none⟩) (n - (i+1)) (c - (i+1)),?_,?_⟩
   .simp only[wV,F,b4,b5,Option.isNone_none,Option.isSome_none,Bool.and_false,Bool.false_eq_true,if_false,dA,A];rw[aKj g]
   .have:n - (i+1)=0:=by omega
    rw[this]
    exact E _ rfl (by simp[gE])
 .have A:¬c=i+1:=by omega
  refine⟨.slice (some ⟨b,o+(i+1)*W,none⟩) (n - (i+1)) (c - (i+1)),?_,?_⟩
  .simp only[wV,F,b4,b5,Option.isNone_none,Option.isSome_none,Bool.and_false,Bool.false_eq_true,if_false,dA,A];rw[aKj g]
  have ζ:¬n - (i+1)=0:=by omega
  have ε:cJ h ⟨b,o+(i+1)*W,none⟩ ((n - (i+1))*W)=some (cs.drop ((i+1)*W)):=by
   rw[o6 u B (by omega),List.take_of_length_le (by grind)]
  have δ:(cs.drop ((i+1)*W)).length=(n - (i+1))*W:=by grind
  have Q:(cs.drop ((i+1)*W)).all eJ=true:=List.all_eq_true.2 fun v hv=>List.all_eq_true.1 hc v (List.mem_of_mem_drop hv)
  obtain⟨t,D,U⟩:=u.write (j:=i*W) (vs:=cs.drop ((i+1)*W)) (by omega) Q B
  have Y:i+(n - (i+1))=n - 1:=by omega
  refine⟨(.slice (some ⟨b,o,none⟩) (n - 1) c,t),?_,?_⟩
  .simp only[iV,tG,gE,aKi ζ,Nat.le_refl,if_true,ε,Q,δ,Bool.not_true,bne_self_eq_false,Bool.or_self,Bool.false_eq_true,if_false,dA,D,Option.map_some,Option.isSome_none,Y];grind
  refine fin t ?_
  have X:cF cs (i*W) (cs.drop ((i+1)*W))=cs.take (i*W)++cs.drop ((i+1)*W)++cs.drop ((n - 1)*W):=by
   unfold cF;grind
  grind
end Go.Ab
end
