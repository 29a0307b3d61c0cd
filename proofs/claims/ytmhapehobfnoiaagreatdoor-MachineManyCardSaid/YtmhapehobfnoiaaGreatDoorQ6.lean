/- A part of the proof. -/
import Derived.Test.YtmhapehobfnoiaaGreatDoorQ4
import Derived.IntWalk
import Derived.KernelRfl
namespace Go.Ab
open Go.RowKit
section
inductive Tok where
 |free
 |mt (e:TypeId) (x:Bool) (n:Nat)
 |M6 (b:mW)
structure cT where
 cell:Nat->Nat->Option Value
 tok:Nat->Option Tok
def I6:mW->Bool
 |.cells ..=>false
 |_=>true
structure cT.In (r:cT) (h:AH):Prop where
 cell:∀b o v,r.cell b o=some v->h.base<=b/\∃c e x,h.get b=some (.cells c e (0,0) x)/\c[o]?=some v
 free:∀b,r.tok b=some .free->h.base<=b/\b<h.next/\h.get b=none
 mt:∀b e x n,r.tok b=some (.mt e x n)->h.base<=b/\∃c,h.get b=some (.cells c e (0,0) x)/\c.length=n
 M6:∀b o,r.tok b=some (.M6 o)->h.base<=b/\h.get b=some o/\I6 o=true
structure cT.tZ (r s:cT):Prop where
 cell:∀b o,r.cell b o=none\/s.cell b o=none
 tok:∀b,r.tok b=none\/s.tok b=none
def cT.add (r s:cT):cT:=⟨fun b o=>(r.cell b o).or (s.cell b o),fun b=>(r.tok b).or (s.tok b)⟩
def cT.emp:cT:=⟨fun _ _=>none,fun _=>none⟩
theorem cT.ext' {r s:cT} (c:∀b o,r.cell b o=s.cell b o) (g:∀b,r.tok b=s.tok b):r=s:=by
 cases r;cases s;simp only[cT.mk.injEq];grind
theorem Mh {α:Type} {a b:Option α} (h:a=none\/b=none):a.or b=b.or a:=by
 rcases h with h|h<;>subst h<;>simp
theorem or_none {α:Type} {a b:Option α} (h:a.or b=none):a=none/\b=none:=by cases a<;>simp_all
theorem cT.tZ.symm {r s:cT} (d:r.tZ s):s.tZ r:=⟨fun b o=>(d.cell b o).symm,fun b=>(d.tok b).symm⟩
theorem cT.add_comm {r s:cT} (d:r.tZ s):r.add s=s.add r:=cT.ext' (fun b o=>Mh (d.cell b o)) (fun b=>Mh (d.tok b))
theorem cT.add_assoc {r s t:cT}:(r.add s).add t=r.add (s.add t):=cT.ext' (fun b o=>by simp[cT.add,Option.or_assoc]) (fun b=>by simp[cT.add,Option.or_assoc])
theorem cT.iF {r s t:cT}:r.tZ (s.add t)↔r.tZ s/\r.tZ t:=by
 constructor;intro d;refine⟨⟨fun b o=>?_,fun b=>?_⟩,⟨fun b o=>?_,fun b=>?_⟩⟩;rcases d.cell b o with h|h;exact .inl h;exact .inr (or_none h).1;rcases d.tok b with h|h;exact .inl h;exact .inr (or_none h).1;rcases d.cell b o with h|h;exact .inl h;exact .inr (or_none h).2;rcases d.tok b with h|h;exact .inl h;exact .inr (or_none h).2;intro⟨d1,d2⟩;refine⟨fun b o=>?_,fun b=>?_⟩;rcases d1.cell b o with h|h;exact .inl h;rcases d2.cell b o with c|c;exact .inl c;exact .inr (by simp[cT.add,h,c]);rcases d1.tok b with h|h;exact .inl h;rcases d2.tok b with c|c;exact .inl c;exact .inr (by simp[cT.add,h,c])
theorem cT.fX {r:cT}:cT.emp.add r=r:=cT.ext' (fun _ _=>by simp[cT.add,cT.emp]) (fun _=>by simp[cT.add,cT.emp])
theorem cT.dS {r:cT}:cT.emp.tZ r:=⟨fun _ _=> .inl rfl,fun _=> .inl rfl⟩
theorem cT.fJ {r s:cT} {h:AH} (d:r.tZ s):(r.add s).In h↔r.In h/\s.In h:=by
 have g:∀b o v,r.cell b o=some v->(r.add s).cell b o=some v:=fun b o v c=>by simp[cT.add,c]
 have c2:∀b o v,s.cell b o=some v->(r.add s).cell b o=some v:=fun b o v c=>by
  rcases d.cell b o with h|h;simp[cT.add,h,c];grind
 have t1:∀b v,r.tok b=some v->(r.add s).tok b=some v:=fun b v c=>by simp[cT.add,c]
 have t2:∀b v,s.tok b=some v->(r.add s).tok b=some v:=fun b v c=>by
  rcases d.tok b with h|h;simp[cT.add,h,c];grind
 have c3:∀b o v,(r.add s).cell b o=some v->r.cell b o=some v\/s.cell b o=some v:=fun b o v c=>by
  simp only[cT.add] at c;cases hr:r.cell b o with
  |none=>grind
  |some u=>grind
 have t3:∀b v,(r.add s).tok b=some v->r.tok b=some v\/s.tok b=some v:=fun b v c=>by
  simp only[cT.add] at c;cases hr:r.tok b with
  |none=>grind
  |some u=>grind
 constructor;intro i;exact⟨⟨fun b o v c=>i.cell b o v (g _ _ _ c),fun b c=>i.free b (t1 _ _ c),fun b e x n c=>i.mt b e x n (t1 _ _ c),fun b o c=>i.M6 b o (t1 _ _ c)⟩,
     ⟨fun b o v c=>i.cell b o v (c2 _ _ _ c),fun b c=>i.free b (t2 _ _ c),fun b e x n c=>i.mt b e x n (t2 _ _ c),fun b o c=>i.M6 b o (t2 _ _ c)⟩⟩
 intro⟨i,j⟩;refine⟨fun b o v c=>?_,fun b c=>?_,fun b e x n c=>?_,fun b o c=>?_⟩;rcases c3 _ _ _ c with h|h;exact i.cell b o v h;exact j.cell b o v h;rcases t3 _ _ c with h|h;exact i.free b h;exact j.free b h;rcases t3 _ _ c with h|h;exact i.mt b e x n h;exact j.mt b e x n h;rcases t3 _ _ c with h|h;exact i.M6 b o h;exact j.M6 b o h
abbrev HP:=cT->Prop
def star:List HP->cT->Prop
 |[],r=>r=cT.emp
 |A::L,r=>∃c g,A c/\star L g/\c.tZ g/\r=c.add g
theorem Fu {L L':List HP} (p:L.Perm L'):∀r,star L r->star L' r:=by
 induction p with
 |nil=>exact fun _ h=>h
 |cons A _ w=>exact fun r ⟨c,m,g,q,i,j⟩=>⟨c,m,g,w _ q,i,j⟩
 |swap A B L=>
  intro r ⟨c,m,g,⟨r3,o,s,t,u,v⟩,i,j⟩;subst v;subst j;obtain⟨d1,d2⟩:=cT.iF.1 i;refine⟨r3,c.add o,s,⟨c,o,g,t,d2,rfl⟩,cT.iF.2 ⟨d1.symm,u⟩,?_⟩;rw[<-cT.add_assoc,<-cT.add_assoc,cT.add_comm d1]
 |trans _ _ z C=>grind
theorem iQ {L M:List HP}:∀{r},star (L++M) r↔∃c g,star L c/\star M g/\c.tZ g/\r=c.add g:=by
 induction L with
 |nil=>intro r;exact⟨fun h=>⟨cT.emp,r,rfl,h,cT.dS,cT.fX.symm⟩,fun⟨c,g,j,m,o,i⟩=>by cases j;rw[cT.fX] at i;subst i;exact m⟩
 |cons A L v=>
  intro r;constructor;intro⟨c,g,j,m,o,i⟩;obtain⟨r3,q,s,t,u,w⟩:=v.1 m;subst w;obtain⟨d1,d2⟩:=cT.iF.1 o;exact⟨c.add r3,q,⟨c,r3,j,s,d1,rfl⟩,t,(cT.iF.2 ⟨d2.symm,u.symm⟩).symm,by rw[i,cT.add_assoc]⟩;intro⟨c,g,⟨r3,q,j,m,o,i⟩,s,t,u⟩;subst i;obtain⟨d1,d2⟩:=cT.iF.1 t.symm;exact⟨r3,q.add g,j,v.2 ⟨q,g,m,s,d2.symm,rfl⟩,cT.iF.2 ⟨o,d1.symm⟩,by rw[u,cT.add_assoc]⟩
structure Bg where
 base:Nat
 old:Nat->Option mW
structure Hs (G:Bg) (h:AH) (L:List HP):Prop where
 base:h.base=G.base
 old:h.old=G.old
 wf:h.base<=h.next
 fr:∀i,h.next<=i->h.get i=none
 res:∃r,star L r/\r.In h
variable {P:Program} {K:FuncId->List Value->Option iL} {G:Bg} {h:AH} {L L' M:List HP}
theorem Hs.perm (c:Hs G h L) (p:L.Perm L'):Hs G h L':=⟨c.base,c.old,c.wf,c.fr,let⟨r,g,i⟩:=c.res;⟨r,Fu p r g,i⟩⟩
theorem Hs.tail {A:HP} (c:Hs G h (A::L)):Hs G h L:=⟨c.base,c.old,c.wf,c.fr,let⟨_,⟨_,o,_,g,i,j⟩,m⟩:=c.res;⟨o,g,((cT.fJ i).1 (j▸m)).2⟩⟩
theorem Hs.imp {A:HP} {B:List HP} (c:Hs G h (A::L)) (k:∀r,A r->star B r):Hs G h (B++L):=⟨c.base,c.old,c.wf,c.fr,let⟨r,⟨g,s,i,j,m,o⟩,q⟩:=c.res;⟨r,iQ.2 ⟨g,s,k g i,j,m,o⟩,q⟩⟩
theorem Hs.join {A:List HP} {B:HP} (c:Hs G h (A++L)) (k:∀r,star A r->B r):Hs G h (B::L):=⟨c.base,c.old,c.wf,c.fr,let⟨r,g,q⟩:=c.res;let⟨i,s,g,j,m,o⟩:=iQ.1 g;⟨r,⟨i,s,k i g,j,m,o⟩,q⟩⟩
class Has {α:Type} (R:α->HP) (L:List HP) (a:outParam α) (L':outParam (List HP)):Prop where
 perm:L.Perm (R a::L')
instance (priority:=low) Has.there {α:Type} {R:α->HP} {A:HP} {a:α} [k:Has R L a L']:Has R (A::L) a (A::L'):=⟨(k.perm.cons A).trans (List.Perm.swap _ _ _)⟩
instance (priority:=high) Has.here {α:Type} {R:α->HP} {a:α}:Has R (R a::L) a L:=⟨List.Perm.refl _⟩
instance (priority:=high) Has.app {α:Type} {R:α->HP} {A:HP} {c L2:List HP} {a:α} [k:Has R (A::(c++L2)) a L']:Has R ((A::c)++L2) a L':=k
instance (priority:=high) Has.aFf {α:Type} {R:α->HP} {L2:List HP} {a:α} [k:Has R L2 a L']:Has R ([]++L2) a L':=k
theorem Hs.get {α:Type} {R:α->HP} {a:α} (c:Hs G h L) [k:Has R L a L']:Hs G h (R a::L'):=c.perm k.perm
def Et (b o:Nat) (c:List Value):cT:=⟨fun i g=>if i=b/\o<=g then c[g - o]? else none,fun _=>none⟩
def aE (b o:Nat) (c:List Value):HP:=fun r=>r=Et b o c
def mt (b:Nat) (m:TypeId×Bool×Nat):HP:=fun r=>r=⟨fun _ _=>none,fun c=>if c=b then some (.mt m.1 m.2.1 m.2.2) else none⟩
def ot (b:Nat) (o:mW):HP:=fun r=>r=⟨fun _ _=>none,fun c=>if c=b then some (.M6 o) else none⟩
def frs (c n:Nat) (D:List Nat):HP:=fun r=>r=⟨fun _ _=>none,fun b=>if c<=b/\b<c+n/\(b - c)∉D then some .free else none⟩
theorem pG {b o:Nat} {c:List Value} {g o':Nat}:(Et b o c).cell g o'=if g=b/\o<=o' then c[o' - o]? else none:=rfl
theorem G4 {b o:Nat} {c d:List Value}:Et b o (c++d)=(Et b o c).add (Et b (o+c.length) d):=by
 refine cT.ext' (fun g i=>?_) (fun _=>rfl);simp only[cT.add,pG];grind
theorem nz {b o:Nat} {c d:List Value}:(Et b o c).tZ (Et b (o+c.length) d):=by
 refine⟨fun g i=>?_,fun _=> .inl rfl⟩;simp only[pG];grind
theorem Av {b o:Nat} {c d:List Value} (r:cT):aE b o (c++d) r↔star [aE b o c,aE b (o+c.length) d] r:=by
 constructor;intro t;cases t;exact⟨_,_,rfl,⟨_,cT.emp,rfl,rfl,cT.dS.symm,rfl⟩,by rw[cT.add_comm cT.dS.symm,cT.fX];exact nz,by rw[cT.add_comm (s:=cT.emp) cT.dS.symm,cT.fX,G4]⟩;intro⟨w,z,i,⟨r3,A,j,m,v,q⟩,u,g⟩;cases i;cases j;cases m;subst q;rw[cT.add_comm (s:=cT.emp) cT.dS.symm,cT.fX] at g;rw[<-G4] at g;exact g
theorem Hs.split {b o:Nat} {c d:List Value} (g:Hs G h (aE b o (c++d)::L)):Hs G h (aE b o c::aE b (o+c.length) d::L):=g.imp (B:=[_,_]) fun r=>(Av r).1
theorem Hs.I3 {b o o':Nat} {c d:List Value} (i:Hs G h (aE b o c::aE b o' d::L)) (g:o'=o+c.length):Hs G h (aE b o (c++d)::L):=by
 subst g;exact Hs.join (A:=[_,_]) i fun r=>(Av r).2
theorem Hs.cellAt {b o j:Nat} {c:List Value} {v:Value} (i:Hs G h (aE b o c::L)) (hc:c[j]?=some v):
  G.base<=b/\∃g e x,h.get b=some (.cells g e (0,0) x)/\g[o+j]?=some v:=by
 obtain⟨_,⟨u,w,m,t,q,r⟩,s⟩:=i.res
 cases m
 subst r
 have:=((cT.fJ q).1 s).1.cell b (o+j) v (by rw[pG,aLy ⟨rfl,by omega⟩];grind)
 rw[i.base] at this
 exact this
theorem Hs.cells {b o:Nat} {c:List Value} (q:Hs G h (aE b o c::L)) (m:0<c.length):
  G.base<=b/\∃i e x,h.get b=some (.cells i e (0,0) x)/\o+c.length<=i.length/\∀j,j<c.length->i[o+j]?=c[j]?:=by
 obtain⟨r,i,e,x,s,w⟩:=q.cellAt (j:=0) (List.getElem?_eq_getElem m)
 have g:∀j,j<c.length->i[o+j]?=c[j]?:=fun j u=>by
  obtain⟨_,c2,v,B,t,A⟩:=q.cellAt (j:=j) (List.getElem?_eq_getElem u);grind
 refine⟨r,i,e,x,s,?_,g⟩
 have z:=g (c.length - 1) (by omega)
 grind
theorem cT.In.of {r:cT} {h h':AH} (i:r.In h) (hb:h'.base=h.base) (t:h.next<=h'.next) (s:∀b,(r.tok b≠none\/∃o,r.cell b o≠none)->h'.get b=h.get b):r.In h' where
 cell:=fun b o v g=>by
  obtain⟨j,c,e,x,m,q⟩:=i.cell b o v g;grind
 free:=fun b g=>by
  obtain⟨j,m,q⟩:=i.free b g;grind
 mt:=fun b e x n g=>by
  obtain⟨j,c,m,q⟩:=i.mt b e x n g;grind
 M6:=fun b o g=>by
  obtain⟨j,m,q⟩:=i.M6 b o g;grind
theorem AH.An {h:AH} {i:Nat} {o:Option mW}:(h.set i o).old=h.old:=by rw[AH.F0];split<;>rfl
theorem Hs.write {b o j:Nat} {c vs:List Value} (u:Hs G h (aE b o c::L)) (hl:j+vs.length<=c.length) (hv:vs.all eK=true) (F:0<c.length):
  ∃N,dK h ⟨b,o+j,none⟩ vs=some N/\Hs G N (aE b o (cG c j vs)::L):=by
 obtain⟨X,w,e,x,A,S,z⟩:=u.cells F
 have t:h.base<=b:=by rw[u.base];exact X
 refine⟨h.set b (some (.cells (cG w (o+j) vs) e (0,0) x)),?_,?_⟩
 .simp only[dK,Option.isSome_none,Bool.false_or,hv,Bool.not_true,Bool.or_false,A];grind
 .obtain⟨_,⟨r1,J,h1,C,D,V⟩,W⟩:=u.res;cases h1;subst V;obtain⟨i1,i2⟩:=(cT.fJ D).1 W;have r:∀i,(h.set b (some (.cells (cG w (o+j) vs) e (0,0) x))).get i=if i=b then some (.cells (cG w (o+j) vs) e (0,0) x) else h.get i:=fun i=>AH.iJ t
  have I:∀k,(cG w (o+j) vs)[k]?=if o+j<=k/\k<o+j+vs.length then vs[k - (o+j)]? else w[k]?:=fun k=>by
   unfold cG;by_cases h1:k<o+j;grind;by_cases C:k<o+j+vs.length;grind;rw[aab,List.getElem?_append_right (by simp;omega)];simp only[List.length_append,List.length_take,List.getElem?_drop];congr 1;omega
  have H:∀k,(cG c j vs)[k]?=if j<=k/\k<j+vs.length then vs[k - j]? else c[k]?:=fun k=>by
   unfold cG;by_cases h1:k<j;grind;by_cases C:k<j+vs.length;grind;rw[aab,List.getElem?_append_right (by simp;omega)];simp only[List.length_append,List.length_take,List.getElem?_drop];congr 1;omega
  have T:(cG c j vs).length=c.length:=by simp[cG];omega
  have O:(Et b o (cG c j vs)).tZ J:=by
   refine⟨fun m q=>?_,fun _=> .inl rfl⟩;rcases D.cell m q with h|h;left;rw[pG] at h ⊢;grind;exact .inr h
  have Y:b<h.next:=by
   rcases Nat.lt_or_ge b h.next with h1|h1
   exact h1;rw[u.fr b h1] at A;cases A
  refine⟨by simp;exact u.base,by rw[AH.An];exact u.old,by simp;exact u.wf,fun i Q=>by simp at Q;rw[r,aab];exact u.fr i Q,_,⟨_,J,rfl,C,O,rfl⟩,(cT.fJ O).2 ⟨?_,?_⟩⟩
  .refine⟨fun m q v g=>?_,fun _ B=>by simp[Et] at B,fun _ _ _ _ B=>by simp[Et] at B,fun _ _ B=>by simp[Et] at B⟩;rw[pG] at g;split at g
   .rename_i Z;obtain⟨rfl,ho⟩:=Z;refine⟨by simp;exact t,_,e,x,by rw[r,aLy rfl],?_⟩;rw[I];rw[H] at g;split at g
    .rename_i R;rw[aae,show q - (o+j)=q - o - j by omega];exact g
    .rename_i R;rw[aab];have E:q - o<c.length:=(List.getElem?_eq_some_iff.1 g).1;have:=z (q - o) E;rw[show o+(q - o)=q by omega] at this;rw[this];exact g
   .cases g
  .have α:∀m q v,J.cell m q=some v->m=b->¬(o+j<=q/\q<o+j+vs.length):=by
    intro m q v g s R;subst s;rcases D.cell m q with h|h;rw[pG,aLy ⟨rfl,by omega⟩,List.getElem?_eq_none_iff] at h;omega;grind
   refine⟨fun m q v g=>?_,fun m g=>?_,fun m U x' n g=>?_,fun m ob g=>?_⟩
   .obtain⟨g1,c2,e2,x2,g2,g3⟩:=i2.cell m q v g;refine⟨by simp;exact g1,?_⟩;grind
   .obtain⟨g1,g2,g3⟩:=i2.free m g;refine⟨by simp;exact g1,by simp;exact g2,?_⟩;grind
   .obtain⟨g1,c2,g2,g3⟩:=i2.mt m U x' n g;refine⟨by simp;exact g1,?_⟩;rw[r];by_cases s:m=b
    .rw[aLy s];rw[s,A] at g2;cases g2;exact⟨_,rfl,by simp[cG];omega⟩
    grind
   .obtain⟨g1,g2,g3⟩:=i2.M6 m ob g;refine⟨by simp;exact g1,?_,g3⟩;rw[r,aLx (by intro s;subst s;rw[A] at g2;cases g2;simp[I6] at g3)];exact g2
theorem da {r:cT} {h:AH} {i:Nat} (q:r.In h) (m:h.get i=none) (s:r.tok i=none) {c:List Value} {t:Option Tok}:
  (⟨fun b o=>if b=i then c[o]? else none,fun b=>if b=i then t else none⟩:cT).tZ r:=by
 refine⟨fun b o=>?_,fun b=>?_⟩
 .by_cases j:b=i
  .right;subst j;cases hc:r.cell b o with
   |none=>rfl
   |some v=>obtain⟨_,_,_,_,g,_⟩:=q.cell b o v hc;rw[m] at g;cases g
  .left;simp[j]
 grind
def mA (i:Nat) (c:List Value) (t:Option Tok):cT:=⟨fun b o=>if b=i then c[o]? else none,fun b=>if b=i then t else none⟩
theorem pW {i:Nat} {c:List Value} {e:TypeId} {x:Bool}:star [aE i 0 c,mt i (e,x,c.length)] (mA i c (some (.mt e x c.length))):=by
 refine⟨Et i 0 c,_,rfl,⟨_,cT.emp,rfl,rfl,cT.dS.symm,rfl⟩,?_,?_⟩;rw[cT.add_comm (s:=cT.emp) cT.dS.symm,cT.fX];exact⟨fun _ _=> .inr rfl,fun _=> .inl rfl⟩;rw[cT.add_comm (s:=cT.emp) cT.dS.symm,cT.fX];refine cT.ext' (fun b o=>?_) (fun b=>?_);simp[mA,cT.add,Et];simp[mA,cT.add,Et]
theorem Hs.new {c:List Value} {e:TypeId} {x:Bool} (u:Hs G h L):Hs G (h.alloc (.cells c e (0,0) x)) (aE h.next 0 c::mt h.next (e,x,c.length)::L):=by
 obtain⟨r,E,z⟩:=u.res;have w:h.get h.next=none:=u.fr _ (Nat.le_refl _)
 have A:r.tok h.next=none:=by
  cases ht:r.tok h.next with
  |none=>rfl
  |some t=>
   cases t with
   |free=>have:=(z.free _ ht).2.1;omega
   |mt D H n=>obtain⟨_,_,g,_⟩:=z.mt _ _ _ _ ht;grind
   |M6 o=>obtain⟨_,g,_⟩:=z.M6 _ _ ht;grind
 have C:(mA h.next c (some (.mt e x c.length))).tZ r:=da z w A;have m:∀j,(h.alloc (.cells c e (0,0) x)).get j=if j=h.next then some (.cells c e (0,0) x) else h.get j:=fun j=>AH.uE u.wf
 refine⟨u.base,u.old,Nat.le_succ_of_le u.wf,fun i F=>by simp at F;rw[m,aab];exact u.fr i (by omega),(mA h.next c (some (.mt e x c.length))).add r,(iQ (L:=[aE h.next 0 c,mt h.next (e,x,c.length)])).2 ⟨_,r,pW,E,C,rfl⟩,(cT.fJ C).2 ⟨?_,?_⟩⟩;refine⟨fun b o v q=>?_,fun b q=>?_,fun b D H n q=>?_,fun b o q=>?_⟩;simp only[mA] at q;split at q;rename_i s;subst s;exact⟨by simp;exact u.wf,c,e,x,by rw[m,aLy rfl],q⟩;cases q;simp only[mA] at q;grind;simp only[mA] at q;split at q;rename_i s;subst s;cases q;exact⟨by simp;exact u.wf,c,by rw[m,aLy rfl],rfl⟩;cases q;simp only[mA] at q;grind;refine z.of rfl (by simp) fun b s=>?_;rw[m,aLx];intro B;subst B;rcases s with s|⟨o,s⟩;exact s A;apply s;cases hc:r.cell h.next o with
 |none=>rfl
 |some v=>obtain⟨_,_,_,_,g,_⟩:=z.cell _ o v hc;grind
end
end Go.Ab
section
namespace Go.Ab
variable {P:Program} {K:FuncId->List Value->Option iL} {G:Bg} {h:AH} {L L' M:List HP}
theorem Has.of {α:Type} {R:α->HP} {a:α} (m:Has R L a L') (c:Hs G h L):Hs G h (R a::L'):=c.perm m.perm
def tD (h:AH) (_i:Nat) (e:TypeId) (l:List Value) (n c:Nat) (k:Value->AH->Prop):Prop:=A2 h (.cells l e (0,0) true) fun p g=>k (.slice (some ⟨p,0,none⟩) n c) g
def kC (h:AH) (r:Nat) (_i:Nat) (e:TypeId) (l:List Value) (n c:Nat) (k:Value->AH->Prop):Prop:=lH h r (.cells l e (0,0) true) fun p g=>k (.slice (some ⟨p,0,none⟩) n c) g
def lp (P:Program) (f:FuncId) (p:List Nat) (n:Nat) (e:Nat->Value) (d:Nat) (st:LoopState) (pd:Option Code):mW:=
 .loop st pd f ((List.range n).map e) (rgF (cd P f p)).2.1 (rgF (cd P f p)).2.2.1 (rgF (cd P f p)).2.2.2 d
theorem Hs.Zs (c:Hs G h L) {b:Nat} (hb:b<G.base):h.get b=G.old b:=by
 rw[AH.get_eq,c.base,aLy hb,c.old]
structure Ob (G:Bg) (b:Nat) (c:List Value):Prop where
 lt:b<G.base
 get:∃e fz x,G.old b=some (.cells c e fz x)
theorem aC {b o j:Nat} {c:List Value} {v:Value} {k:Value->Prop} (r:Hs G h L) [m:Has (aE b o) L c L'] (hc:c[j]?=some v) (q:k v):bA (ld1 h (pt b o j)) k:=by
 obtain⟨_,s,e,x,i,g⟩:=(m.of r).cellAt hc;exact⟨v,by simp[ld1,pt,i,g],q⟩
theorem am (b:Nat) {j:Nat} {c:List Value} {v:Value} {k:Value->Prop} (r:Hs G h L) [m:Has (aE b 0) L c L'] (hc:c[j]?=some v) (q:k v):bA (ld1 h (pt b 0 j)) k:=aC (b:=b) (o:=0) r hc q
theorem zO {b o j:Nat} {c:List Value} {v:Value} {k:Value->Prop} (q:Hs G h L) (g:Ob G b c) (hc:c[o+j]?=some v) (m:k v):bA (ld1 h (pt b o j)) k:=by
 obtain⟨e,r,x,i⟩:=g.get;exact⟨v,by simp[ld1,pt,q.Zs g.lt,i,hc],m⟩
theorem aN {b o j n:Nat} {c l:List Value} {k:Value->Prop} (s:Hs G h L) [m:Has (aE b o) L c L'] (z:0<n) (hc:(c.drop j).take n=l) (w:l.length=n) (r:k (.agg ⟨l⟩)):bA (rT h n (pt b o j)) k:=by
 have g:j+n<=c.length:=by
  grind
 obtain⟨_,t,e,x,q,u,v⟩:=(m.of s).cells (by omega);refine⟨.agg ⟨l⟩,?_,r⟩;simp only[rT,pt,cJ,Option.isSome_none,Bool.false_eq_true,if_false,q];rw[aae];simp only[Option.map_some,Option.some.injEq,Value.agg.injEq,Array.mk.injEq];rw[<-hc];refine List.ext_getElem? fun i=>?_;grind
theorem an (b:Nat) {j n:Nat} {c l:List Value} {k:Value->Prop} (s:Hs G h L) [m:Has (aE b 0) L c L'] (hc:(c.drop j).take n=l) (w:l.length=n) (r:k (.agg ⟨l⟩)) (z:0<n:=by decide):bA (rT h n (pt b 0 j)) k:=aN (b:=b) (o:=0) s z hc w r
theorem Z2 {b o j n:Nat} {c l:List Value} {k:Value->Prop} (q:Hs G h L) (g:Ob G b c) (hc:(c.drop (o+j)).take n=l) (s:l.length=n) (hb:o+j<=c.length) (m:k (.agg ⟨l⟩)):bA (rT h n (pt b o j)) k:=by
 obtain⟨e,r,x,i⟩:=g.get;have:=congrArg List.length hc;simp at this;exact⟨.agg ⟨l⟩,by simp[rT,pt,cJ,q.Zs g.lt,i,hc];omega,m⟩
def dT:List Value->Nat->List Value->List Value
 |c,0,[]=>c
 |[],0,_::_=>[]
 |_::c,0,v::g=>v::dT c 0 g
 |[],_+1,_=>[]
 |x::c,j+1,g=>x::dT c j g
theorem qU:∀(c:List Value) (j:Nat) (vs:List Value),j+vs.length<=c.length->cG c j vs=dT c j vs
 |c,0,[],_=>by cases c<;>simp[cG,dT]
 |[],0,_::_,h=>by simp at h
 |x::c,0,v::vs,h=>by
  have:=qU c 0 vs (by simp at h ⊢;omega);simp only[dT];rw[<-this];simp[cG]
 |[],j+1,vs,h=>by simp at h
 |x::c,j+1,vs,h=>by
  have:=qU c j vs (by simp at h ⊢;omega);simp only[dT];rw[<-this];simp only[cG,List.take_succ_cons,List.cons_append];grind
theorem aHv {b o j n:Nat} {c vs:List Value} {v:Value} {k:AH->Prop} (w:Hs G h L) [m:Has (aE b o) L c L'] (z:iH v=some vs) (u:vs.length=n) (q:Nat.ble (j+n) c.length=true) (hb:vs.all eK=true) (r:Nat.ble 1 c.length=true)
  (t:∀g,Hs G g (aE b o (dT c j vs)::L')->k g):bA (sH h n (pt b o j) v) k:=by
 have q:=Nat.le_of_ble_eq_true q
 obtain⟨g,s,i⟩:=(m.of w).write (j:=j) (vs:=vs) (by omega) hb (Nat.le_of_ble_eq_true r)
 rw[qU _ _ _ (by omega)] at i
 exact⟨g,by simp[sH,pt,z,u,s],t _ i⟩
theorem bN {cs:List Value} {e:TypeId} {k:Nat->AH->Prop} (j:Hs G h L) (i:∀p g,Hs G g (aE p 0 cs::L)->k p g):A2 h (.cells cs e (0,0) true) k:=
 i _ _ (let t:=j.new (c:=cs) (e:=e) (x:=true);(t.perm (List.Perm.swap _ _ _)).tail)
theorem aJ2 {cs:List Value} {e:TypeId} {v:Value} {k:Nat->AH->Prop} (i:Hs G h L) (j:iH v=some cs) (g:∀p c,Hs G c (aE p 0 cs::L)->k p c):bA (jX e v) fun b=>A2 h b k:=
 ⟨.cells cs e (0,0) true,by simp[jX,j],bN i g⟩
def gq (r:Nat) (x:Nat×List Nat):HP:=frs r x.1 x.2
theorem aC9 {n:Nat} {k:Nat->AH->Prop} (c:Hs G h L) (C:∀r u,Hs G u (gq r (n,[])::L)->k r u):uJ h n k:=by
 refine C _ _ ?_;obtain⟨r,A,j⟩:=c.res;have w:∀i,({h with next:=h.next+n}:AH).get i=h.get i:=fun i=>rfl;refine⟨c.base,c.old,Nat.le_trans c.wf (Nat.le_add_right _ _),fun i B=>by rw[w];exact c.fr i (Nat.le_trans (Nat.le_add_right _ _) B),_,⟨_,r,rfl,A,?_,rfl⟩,(cT.fJ ?_).2 ⟨?_,?_⟩⟩;rotate_right;exact j.of rfl (Nat.le_add_right _ _) fun _ _=>rfl;have s:∀b,h.next<=b->r.tok b=none:=fun b q=>by
  cases ht:r.tok b with
  |none=>rfl
  |some t=>
   cases t with
   |free=>have:=(j.free _ ht).2.1;omega
   |mt z D n=>obtain⟨_,_,g,_⟩:=j.mt _ _ _ _ ht;rw[c.fr b q] at g;cases g
   |M6 o=>obtain⟨_,g,_⟩:=j.M6 _ _ ht;rw[c.fr b q] at g;cases g
 refine⟨fun _ _=> .inl rfl,fun b=>?_⟩;grind;have s:∀b,h.next<=b->r.tok b=none:=fun b q=>by
  cases ht:r.tok b with
  |none=>rfl
  |some t=>
   cases t with
   |free=>have:=(j.free _ ht).2.1;omega
   |mt z D n=>obtain⟨_,_,g,_⟩:=j.mt _ _ _ _ ht;rw[c.fr b q] at g;cases g
   |M6 o=>obtain⟨_,g,_⟩:=j.M6 _ _ ht;rw[c.fr b q] at g;cases g
 refine⟨fun _ _=> .inl rfl,fun b=>?_⟩;grind;refine⟨fun _ _ _ m=>(by cases m),fun b m=>?_,fun b e x n m=>?_,fun b o m=>?_⟩;simp only at m;split at m;rename_i v;have:=c.wf;exact⟨by grind,v.2.1,by rw[w];exact c.fr b v.1⟩;cases m;grind;grind
def Gm (c:Bool) (g:List Nat) (op:BinOp) (a b:Value) (q:Value->Prop):Prop:=c=true/\bA (Ei g op a b) q
def Nk (c:Bool) (h:AH) (n:Nat) (k:Nat->AH->Prop):Prop:=c=true/\uJ h n k
theorem aS {c:Bool} {n:Nat} {k:Nat->AH->Prop} (j:Hs G h L) (i:∀r g,Hs G g (gq r (n,[])::L)->k r g) (hc:c=true:=by kernel_rfl):Nk c h n k:=⟨hc,aC9 j i⟩
theorem U0 {r n i:Nat} {D:List Nat} (c:i<n) (hD:i∉D):star [fun q=>q=(⟨fun _ _=>none,fun b=>if b=r+i then some .free else none⟩:cT),frs r n (i::D)] ⟨fun _ _=>none,fun b=>if r<=b/\b<r+n/\(b - r)∉D then some .free else none⟩:=by
 refine⟨_,_,rfl,⟨_,cT.emp,rfl,rfl,cT.dS.symm,rfl⟩,?_,?_⟩;rw[cT.add_comm (s:=cT.emp) cT.dS.symm,cT.fX];refine⟨fun _ _=> .inl rfl,fun b=>?_⟩;grind;rw[cT.add_comm (s:=cT.emp) cT.dS.symm,cT.fX];refine cT.ext' (fun _ _=>rfl) (fun b=>?_);simp only[cT.add];grind
theorem Hs.newAt {r n i:Nat} {D:List Nat} {c:List Value} {e:TypeId} {x:Bool} (C:Hs G h (frs r n D::L)) (X:i<n) (hD:i∉D):
  Hs G (h.set (r+i) (some (.cells c e (0,0) x))) (aE (r+i) 0 c::mt (r+i) (e,x,c.length)::frs r n (i::D)::L):=by
 obtain⟨q,⟨r1,O,S,T,E,U⟩,V⟩:=C.res
 cases S
 subst U
 obtain⟨i1,i2⟩:=(cT.fJ E).1 V
 obtain⟨q1,q2,H,⟨q3,q4,I,J,Y,B⟩,W,N⟩:=U0 (r:=r) X hD
 cases H;cases J
 rw[cT.add_comm (s:=cT.emp) cT.dS.symm,cT.fX] at B
 subst B
 cases I
 rw[N] at i1 E
 obtain⟨i3,i4⟩:=(cT.fJ W).1 i1
 obtain⟨fb,fn,Q⟩:=i3.free (r+i) (by simp)
 obtain⟨d1,d2⟩:=cT.iF.1 E.symm
 have t:∀j,(h.set (r+i) (some (.cells c e (0,0) x))).get j=if j=r+i then some (.cells c e (0,0) x) else h.get j:=fun j=>AH.iJ fb
 have m:=(cT.fJ d2.symm).2 ⟨i4,i2⟩
 have z:((⟨fun _ _=>none,fun b=>if r<=b/\b<r+n/\(b - r)∉(i::D) then some .free else none⟩:cT).add O).tok (r+i)=none:=by
  simp only[cT.add];rw[aLx (by grind)];rcases d1.tok (r+i) with h|h;simpa using h;simp at h
 have A:(mA (r+i) c (some (.mt e x c.length))).tZ ((⟨fun _ _=>none,fun b=>if r<=b/\b<r+n/\(b - r)∉(i::D) then some .free else none⟩:cT).add O):=da m Q z
 refine⟨by simp;exact C.base,by rw[AH.An];exact C.old,by simp;exact C.wf,fun j R=>by simp at R;rw[t,aab];exact C.fr j R,
    _,(iQ (L:=[aE (r+i) 0 c,mt (r+i) (e,x,c.length)])).2 ⟨_,_,pW,⟨_,O,rfl,T,d2.symm,rfl⟩,A,rfl⟩,(cT.fJ A).2 ⟨?_,?_⟩⟩
 .refine⟨fun b o v u=>?_,fun b u=>?_,fun b Z x' n u=>?_,fun b o u=>?_⟩
  .simp only[mA] at u;simp_all
  .simp only[mA] at u;grind
  .simp only[mA] at u;simp_all
  .simp only[mA] at u;grind
 .refine m.of (by simp) (by simp) fun b w=>?_;rw[t,aLx];intro F;subst F;rcases w with w|⟨o,w⟩
  .exact w z
  .apply w;cases hc:cT.cell _ (r+i) o with
   |none=>rfl
   |some v=>obtain⟨_,_,_,_,g,_⟩:=m.cell _ o v hc;rw[Q] at g;cases g
theorem aI2 {A B:HP} (c:Hs G h (A::B::L)):Hs G h (A::L):=(c.perm (List.Perm.swap _ _ _)).tail
theorem kI {r i n:Nat} {D:List Nat} {cs:List Value} {e:TypeId} {k:Nat->AH->Prop} (j:Hs G h L) [m:Has (gq r) L (n,D) L'] (o:Nat.blt i n=true) (hD:D.contains i=false)
  (g:∀p c,Hs G c (aE p 0 cs::gq r (n,i::D)::L')->k p c):lH h (r+i) (.cells cs e (0,0) true) k:=
 g _ _ (aI2 (Hs.newAt (show Hs G h (frs r n D::L') from m.of j) (by simp_all) (by simpa using hD)))
theorem z7 {r i n:Nat} {D:List Nat} {cs:List Value} {v:Value} {e:TypeId} {k:Nat->AH->Prop} (o:Hs G h L) [m:Has (gq r) L (n,D) L'] (q:iH v=some cs) (g:Nat.blt i n=true) (hD:D.contains i=false)
  (j:∀p c,Hs G c (aE p 0 cs::gq r (n,i::D)::L')->k p c):bA (jX e v) fun b=>lH h (r+i) b k:=
 ⟨.cells cs e (0,0) true,by simp[jX,q],kI o g hD j⟩
theorem Hs.aGc {o:mW} (H:I6 o=true) (s:Hs G h L):Hs G (h.alloc o) (ot h.next o::L):=by
 obtain⟨r,E,w⟩:=s.res;have c:h.get h.next=none:=s.fr _ (Nat.le_refl _)
 have z:r.tok h.next=none:=by
  cases ht:r.tok h.next with
  |none=>rfl
  |some t=>
   cases t with
   |free=>have:=(w.free _ ht).2.1;omega
   |mt D I n=>obtain⟨_,_,g,_⟩:=w.mt _ _ _ _ ht;rw[c] at g;cases g
   |M6 o=>obtain⟨_,g,_⟩:=w.M6 _ _ ht;rw[c] at g;cases g
 have B:(⟨fun _ _=>none,fun C=>if C=h.next then some (.M6 o) else none⟩:cT).tZ r:=by
  refine⟨fun _ _=> .inl rfl,fun b=>?_⟩;by_cases q:b=h.next
  right;rw[q];exact z;grind
 have m:∀j,(h.alloc o).get j=if j=h.next then some o else h.get j:=fun j=>AH.uE s.wf
 refine⟨s.base,s.old,Nat.le_succ_of_le s.wf,fun i F=>by simp at F;rw[m,aab];exact s.fr i (by omega),_,⟨_,r,rfl,E,B,rfl⟩,(cT.fJ B).2 ⟨?_,?_⟩⟩;refine⟨fun _ _ _ u=>(by cases u),fun b u=>?_,fun b D I n u=>?_,fun b J u=>?_⟩;grind;grind;simp only at u;split at u;rename_i q;subst q;cases u;exact⟨by simp;exact s.wf,by rw[m,aLy rfl],H⟩;cases u;refine w.of rfl (by simp) fun b q=>?_;rw[m,aLx];intro A;subst A;rcases q with q|⟨o,q⟩;exact q z;apply q;cases hc:r.cell h.next o with
 |none=>rfl
 |some v=>obtain⟨_,_,_,_,g,_⟩:=w.cell _ o v hc;rw[c] at g;cases g
theorem Hs.D4 {b:Nat} {o o':mW} (O:I6 o'=true) (c:Hs G h (ot b o::L)):h.get b=some o/\h.base<=b/\Hs G (h.set b (some o')) (ot b o'::L):=by
 obtain⟨q,⟨Q,t,h1,E,A,F⟩,H⟩:=c.res;cases h1;subst F;obtain⟨i1,i2⟩:=(cT.fJ A).1 H;obtain⟨gb,u,m⟩:=i1.M6 b o (by simp);have r:∀j,(h.set b (some o')).get j=if j=b then some o' else h.get j:=fun j=>AH.iJ gb
 have I:b<h.next:=by
  rcases Nat.lt_or_ge b h.next with h1|h1
  exact h1;rw[c.fr b h1] at u;cases u
 have z:t.tok b=none:=by rcases A.tok b with h|h;simp at h;exact h
 have J:∀s,t.cell b s=none:=fun s=>by
  cases hc:t.cell b s with
  |none=>rfl
  |some v=>
   obtain⟨_,_,_,_,g,_⟩:=i2.cell _ s v hc;rw[u] at g;cases g;simp[I6] at m
 have C:(⟨fun _ _=>none,fun i=>if i=b then some (.M6 o') else none⟩:cT).tZ t:=by
  refine⟨fun _ _=> .inl rfl,fun i=>?_⟩;by_cases B:i=b;right;rw[B];exact z;grind
 refine⟨u,gb,by simp;exact c.base,by rw[AH.An];exact c.old,by simp;exact c.wf,fun j D=>by simp at D;rw[r,aab];exact c.fr j D,_,⟨_,t,rfl,E,C,rfl⟩,(cT.fJ C).2 ⟨?_,?_⟩⟩;refine⟨fun _ _ _ w=>(by cases w),fun b w=>?_,fun b N R n w=>?_,fun i s w=>?_⟩;grind;grind;simp_all;refine i2.of (by simp) (by simp) fun i B=>?_;grind
def fM (P:Program) (f:FuncId) (p:List Nat) (n:Nat) (e:Nat->Value) (d l:Nat) (x:LoopState×Option Code):HP:=ot l (lp P f p n e d x.1 x.2)
def mk (d:Nat) (_:Unit):HP:=ot d (.marks true)
theorem iI {k:Nat->AH->Prop} (i:Hs G h L) (g:∀d c,Hs G c (mk d ()::L)->k d c):A2 h (.marks true) k:=g _ _ (i.aGc rfl)
theorem jL {f:FuncId} {p:List Nat} {n:Nat} {e:Nat->Value} {d:Nat} {st:LoopState} {pd:Option Code} {k:Nat->AH->Prop} (i:Hs G h L) (g:∀l c,Hs G c (fM P f p n e d l (st,pd)::L)->k l c):A2 h (lp P f p n e d st pd) k:=g _ _ (i.aGc rfl)
theorem iT {k:AH->Prop} (c:k h):bA (bZ [] h) k:=⟨h,rfl,c⟩
theorem jW {d:Nat} {g:List Nat} {k:AH->Prop} (t:Hs G h L) [m:Has (mk d) L () L'] (s:∀c,Hs G c L'->bA (bZ g c) k):bA (bZ (d::g) h) k:=by
 obtain⟨i,j,o⟩:=Hs.D4 (o':= .marks false) rfl (show Hs G h (ot d (.marks true)::L') from m.of t);obtain⟨c,q,r⟩:=s _ o.tail;exact⟨c,by simp only[bZ,i,aLy j];exact q,r⟩
theorem aGy {f:FuncId} {p:List Nat} {n:Nat} {e:Nat->Value} {d l:Nat} {st st':LoopState} {pd pd':Option Code} {k:AH->Prop} (q:Hs G h L) [m:Has (fM P f p n e d l) L (st,pd) L'] (o:∀c,Hs G c (fM P f p n e d l (st',pd')::L')->k c):
  bA (cS h l st' (some pd')) k:=by
 obtain⟨g,i,j⟩:=Hs.D4 (o':=lp P f p n e d st' pd') rfl (show Hs G h (ot l (lp P f p n e d st pd)::L') from m.of q)
 exact⟨_,by simp only[cS,g,lp];rw[aLy i];rfl,o _ j⟩
theorem aAm {f:FuncId} {p:List Nat} {n:Nat} {e:Nat->Value} {d l:Nat} {pd:Option Code} {k:AH->Prop} (q:Hs G h L) [m:Has (fM P f p n e d l) L (.ready,pd) L'] (o:∀c,Hs G c (fM P f p n e d l (.busy,pd)::L')->k c):
  bA (jA h l) k:=by
 obtain⟨g,i,j⟩:=Hs.D4 (o':=lp P f p n e d .busy pd) rfl (show Hs G h (ot l (lp P f p n e d .ready pd)::L') from m.of q)
 exact⟨_,by simp only[jA,cS,g,lp];rw[aLy i];rfl,o _ j⟩
theorem yl {f:FuncId} {p:List Nat} {n:Nat} {e:Nat->Value} {d l:Nat} {st:LoopState} {pd:Option Code} {k:Option Code->AH->Prop} (s:Hs G h L) [m:Has (fM P f p n e d l) L (st,pd) L'] (c:st≠.busy) (q:∀g,Hs G g L'->k pd g):
  bA (qT h l) fun r=>k r.1 r.2:=by
 obtain⟨i,j,o⟩:=Hs.D4 (o':=lp P f p n e d .exhausted pd) rfl (show Hs G h (ot l (lp P f p n e d st pd)::L') from m.of s)
 refine⟨(pd,_),?_,q _ o.tail⟩
 simp only[qT,i,lp]
 rw[aLx c]
 simp only[cS,i,lp]
 rw[aLy j];rfl
theorem xu {f:FuncId} {p:List Nat} {n:Nat} {e:Nat->Value} {d l:Nat} {st:LoopState} {pd:Option Code} {k:Nat->Prop} (i:Hs G h L) [m:Has (fM P f p n e d l) L (st,pd) L'] (g:k d):bA (eX h l) k:=by
 obtain⟨c,_,_⟩:=Hs.D4 (o':= .marks true) rfl (show Hs G h (ot l (lp P f p n e d st pd)::L') from m.of i);exact⟨d,by simp only[eX,c,lp],g⟩
theorem aKb {f:FuncId} {p:List Nat} {n:Nat} {e:Nat->Value} {d l:Nat} {st:LoopState} {pd:Option Code} (c:Hs G h L) [m:Has (fM P f p n e d l) L (st,pd) L']:h.get l=some (lp P f p n e d st pd):=
 (Hs.D4 (o':= .marks true) rfl (show Hs G h (ot l (lp P f p n e d st pd)::L') from m.of c)).1
end Go.Ab
end
section
namespace Go.Ab
variable {P:Program} {K:FuncId->List Value->Option iL} {G:Bg} {h:AH} {L L' M:List HP}
def dI (W:Nat) (e:TypeId) (a:Option Addr) (cap:Nat) (x:Nat×List Value):HP:=fun r=>
 x.2.length=x.1*W/\x.2.all eK=true/\
 ((x.1=0/\r=cT.emp/\cap=0/\(a=none\/∃b o,a=some ⟨b,o,some 1⟩))\/
  (x.1=0/\cap=0/\∃b o i,a=some ⟨b,o,some 2⟩/\o<=i.length/\r=mA b i (some (.mt e false i.length)))\/
  (x.1<=cap/\∃b g c ex,a=some ⟨b,g.length,none⟩/\g.length+cap*W<=(g++x.2++c).length/\r=mA b (g++x.2++c) (some (.mt e ex (g++x.2++c).length))))
theorem gG {W:Nat} {e:TypeId} (g:Hs G h L):Hs G h (dI W e none 0 (0,[])::L):=by
 refine Hs.join (A:=[]) g fun r c=>?_;exact⟨by simp,rfl,.inl ⟨rfl,c,rfl,.inl rfl⟩⟩
theorem qO {b:Nat} {c:List Value} {e:TypeId} {x:Bool} {r:cT} (h:star [aE b 0 c,mt b (e,x,c.length)] r):r=mA b c (some (.mt e x c.length)):=by
 obtain⟨A,B,g,⟨r3,C,j,m,s,t⟩,o,q⟩:=h;obtain⟨u,v,g1,⟨w,z,g5,g6,g7,g8⟩,g3,g4⟩:=pW (i:=b) (c:=c) (e:=e) (x:=x);cases g;cases j;cases m;cases g1;cases g5;cases g6;grind
theorem dC {W:Nat} {e:TypeId} {l:List Value} {n c:Nat} {k:Value->AH->Prop} (q:Hs G h L) (i:l.length=c*W) (m:n=c) (hb:l.all eK=true)
  (j:∀a g,Hs G g (dI W e (some a) c (n,l)::L)->k (.slice (some a) n c) g):tD h W e l n c k:=by
 subst m
 refine j _ _ ?_
 have:=q.new (c:=l) (e:=e) (x:=true)
 refine Hs.join (A:=[_,_]) this fun r o=>?_
 have:=qO o
 exact⟨i,hb,.inr (.inr ⟨Nat.le_refl _,h.next,[],[],true,rfl,by simp[i],by simpa using this⟩)⟩
theorem gM {W r i N:Nat} {D:List Nat} {e:TypeId} {l:List Value} {n c:Nat} {k:Value->AH->Prop} (u:Hs G h L) [m:Has (gq r) L (N,D) L'] (v:Nat.blt i N=true) (hD:D.contains i=false) (j:l.length=c*W) (s:n=c) (hb:l.all eK=true)
  (o:∀a g,Hs G g (dI W e (some a) c (n,l)::gq r (N,i::D)::L')->k (.slice (some a) n c) g):kC h (r+i) W e l n c k:=by
 subst s
 refine o _ _ ?_
 have:=Hs.newAt (i:=i) (c:=l) (e:=e) (x:=true) (show Hs G h (frs r N D::L') from m.of u) (by simp_all) (by simpa using hD)
 refine Hs.join (A:=[_,_]) this fun q t=>?_
 have:=qO t
 exact⟨j,hb,.inr (.inr ⟨Nat.le_refl _,r+i,[],[],true,rfl,by simp[j],by simpa using this⟩)⟩
theorem Hs.fst {A:HP} (m:Hs G h (A::L)):∃r c,A r/\star L c/\r.tZ c/\r.In h/\c.In h:=by
 obtain⟨q,⟨t,c,o,s,g,i⟩,j⟩:=m.res;subst i;obtain⟨i1,i2⟩:=(cT.fJ g).1 j;grind
theorem Hs.Cs {W:Nat} {e:TypeId} {a:Option Addr} {cap:Nat} {x:Nat×List Value} (g:Hs G h (dI W e a cap x::L)):x.2.length=x.1*W:=by
 obtain⟨r,_,c,_⟩:=g.fst;exact c.1
theorem Hs.Eg {W:Nat} {e:TypeId} {a:Option Addr} {cap:Nat} {x:Nat×List Value} (g:Hs G h (dI W e a cap x::L)):x.2.all eK=true:=by
 obtain⟨r,_,c,_⟩:=g.fst;exact c.2.1
theorem Hs.oT {W:Nat} {e:TypeId} {a:Option Addr} {cap n:Nat} {cs:List Value} (I:Hs G h (dI W e a cap (n,cs)::L)) (h0:0<n):
  ∃b o,a=some ⟨b,o,none⟩/\∃H:HP,Hs G h (aE b o cs::H::L)/\∀Q m M,m.length=cs.length->m.all eK=true->Hs G Q (aE b o m::H::M)->Hs G Q (dI W e a cap (n,m)::M):=by
 have J:∀b (j g:List Value) ex,∀m:List Value,m.length=cs.length->∀r,star [aE b j.length m,fun r=>star [aE b 0 j,aE b (j.length+cs.length) g,mt b (e,ex,(j++cs++g).length)] r] r↔r=mA b (j++m++g) (some (.mt e ex (j++m++g).length)):=by
  intro b j g ex m N r;have e1:(j++cs++g).length=(j++m++g).length:=by simp[N]
  have Z:∀q,star [aE b 0 (j++m++g),mt b (e,ex,(j++m++g).length)] q->star [aE b j.length m,fun r=>star [aE b 0 j,aE b (j.length+cs.length) g,mt b (e,ex,(j++cs++g).length)] r] q:=by
   intro q F;obtain⟨r1,z,R,h2,C,T⟩:=F;have S:=(Av r1).1 R;obtain⟨s1,s2,g1,⟨s3,s4,g2,g3,g4,g5⟩,g6,g7⟩:=S;have O:=(Av s1).1 g1;cases g3;rw[cT.add_comm (s:=cT.emp) cT.dS.symm,cT.fX] at g5;subst g5;have D:star ([aE b 0 j,aE b (0+j.length) m]++([aE b (0+(j++m).length) g]++[mt b (e,ex,(j++m++g).length)])) q:=by
    refine iQ.2 ⟨s1,s2.add z,O,iQ.2 ⟨s2,z,⟨s2,cT.emp,g2,rfl,cT.dS.symm,by rw[cT.add_comm (s:=cT.emp) cT.dS.symm,cT.fX]⟩,h2,?_,rfl⟩,?_,?_⟩;rw[g7] at C;exact(cT.iF.1 C.symm).2.symm;rw[g7] at C;exact cT.iF.2 ⟨g6,(cT.iF.1 C.symm).1.symm⟩;rw[T,g7,cT.add_assoc]
   have hp:star ([aE b (0+j.length) m]++[aE b 0 j,aE b (0+(j++m).length) g,mt b (e,ex,(j++m++g).length)]) q:=Fu (List.Perm.swap _ _ _) q D;obtain⟨u1,u2,w1,w2,w3,w4⟩:=iQ.1 hp;rw[Nat.zero_add] at w1;obtain⟨v1,v2,x1,x2,x3,x4⟩:=w1;cases x2;rw[cT.add_comm (s:=cT.emp) cT.dS.symm,cT.fX] at x4;subst x4;refine⟨u1,u2,x1,⟨u2,cT.emp,?_,rfl,cT.dS.symm,by rw[cT.add_comm (s:=cT.emp) cT.dS.symm,cT.fX]⟩,w3,w4⟩;grind
  constructor;intro v;have hb:=Z _ (pW (i:=b) (c:=j++m++g) (e:=e) (x:=ex));obtain⟨r1,z,R,⟨r3,r4,h5,h6,h7,h8⟩,C,T⟩:=v;obtain⟨q1,q2,g1,⟨q3,q4,g5,g6,g7,g8⟩,g3,g4⟩:=hb;cases R;cases g1;cases h6;cases g6;rw[cT.add_comm (s:=cT.emp) cT.dS.symm,cT.fX] at h8 g8;subst h8;subst g8;have:z=q2:=by
   obtain⟨a1,a2,b1,⟨a3,a4,b2,⟨a5,a6,b3,b4,b5,b6⟩,b7,b8⟩,b9,α⟩:=h5;obtain⟨c1,c2,d1,⟨c3,c4,d2,⟨c5,c6,d3,d4,d5,d6⟩,d7,d8⟩,d9,d10⟩:=g5;cases b1;cases b2;cases b3;cases b4;cases d1;cases d2;cases d3;cases d4;grind
  rw[T,g4,this];intro v;subst v;exact Z _ pW
 obtain⟨r,z,v,V,hd,hi,U⟩:=I.fst
 obtain⟨N,hc,v⟩:=v
 simp only at N hc
 rcases v with⟨Y,_⟩|⟨Y,_⟩|⟨E,b,j,g,ex,rfl,hle,X⟩
 .simp at Y;omega
 .simp at Y;omega
 .refine⟨b,j.length,rfl,fun r=>star [aE b 0 j,aE b (j.length+cs.length) g,mt b (e,ex,(j++cs++g).length)] r,?_,?_⟩
  .have w:Hs G h ((fun r=>r=mA b (j++cs++g) (some (.mt e ex (j++cs++g).length)))::L):=⟨I.base,I.old,I.wf,I.fr,_,⟨r,z,X,V,hd,rfl⟩,(cT.fJ hd).2 ⟨hi,U⟩⟩;exact w.imp (B:=[_,_]) fun q F=>(J b j g ex cs rfl q).2 F
  .intro Q m M u t w;refine Hs.join (A:=[_,_]) w fun q F=>?_;have:=(J b j g ex m u q).1 F;refine⟨by rw[u];exact N,t,.inr (.inr ⟨E,b,j,g,ex,rfl,?_,this⟩)⟩;grind
theorem Gi {b:Nat} {c:List Value} {e:TypeId} {x:Bool} {r:cT} (i:(mA b c (some (.mt e x c.length))).In h) (_g:r.In h):h.base<=b/\h.get b=some (.cells c e (0,0) x):=by
 obtain⟨o,s,q,u⟩:=i.mt b e x c.length (by simp[mA]);refine⟨o,?_⟩;rw[q];congr 2;refine List.ext_getElem? fun j=>?_;rcases Nat.lt_or_ge j c.length with m|m;obtain⟨_,c2,t,v,g1,g2⟩:=i.cell b j c[j] (by simp[mA,m]);grind;grind
theorem Hs.kill {b:Nat} {c c2:List Value} {e e2:TypeId} {x x2:Bool} (q:Hs G h ((fun r=>r=mA b c (some (.mt e x c.length)))::L)):Hs G ((h.set b none).alloc (.cells c2 e2 (0,0) x2)) ((fun r=>r=mA h.next c2 (some (.mt e2 x2 c2.length)))::L):=by
 obtain⟨r,u,z,B,D,t,g⟩:=q.fst;subst z;obtain⟨F,J⟩:=Gi t g;have m:∀j,(h.set b none).get j=if j=b then none else h.get j:=fun j=>AH.iJ F
 have H:∀j,(u.tok j≠none\/∃o,u.cell j o≠none)->j≠b:=by
  intro j E w;subst w;rcases E with s|⟨o,s⟩;rcases D.tok j with h|h;simp[mA] at h;exact s h;rcases D.cell j o with h|h;simp only[mA,if_true] at h;cases hc:u.cell j o with
  |none=>exact s hc
  |some v=>
   obtain⟨_,I,_,_,g1,g2⟩:=g.cell j o v hc;grind
  exact s h
 have C:Hs G (h.set b none) L:=by
  refine⟨by simp;exact q.base,by rw[AH.An];exact q.old,by simp;exact q.wf,fun i t=>by simp at t;rw[m];split;rfl;exact q.fr i t,u,B,?_⟩;exact g.of (by simp) (by simp) fun j E=>by grind
 have:=C.new (c:=c2) (e:=e2) (x:=x2);rw[AH.xo] at this;exact Hs.join (A:=[_,_]) this fun r z=>qO z
theorem oI {a:Option Addr} {n c:Nat}:sW (.slice a n c)=some n:=rfl
theorem aD3 {W bytes:Nat} {e:TypeId} {a:Option Addr} {c n m:Nat} {cs ns:List Value} {src:Value} {k:Value->AH->Prop} (C:Hs G h L) [mm:Has (dI W e a c) L (n,cs) L']
  (v:sW src=some m) (z:gA h W m src=some ns) (ζ:ns.all eK=true) (ν:ns.length=m*W) (R:(n+m)*(bytes+1)<=2^46)
  (hk:∀a' c' h',Hs G h' (dI W e a' c' (n+m,cs++ns)::L')->k (.slice a' (n+m) c') h'):bA (iK W bytes e h (.slice a n c) src) fun r=>k r.1 r.2:=by
 have β:=mm.of C
 obtain⟨r,r2,hr,U,X,S,E⟩:=β.fst
 obtain⟨hl,hc,hr⟩:=hr
 simp only at hl hc hr
 have w:(!ns.all eK||ns.length !=m*W)=false:=by simp[ζ,ν]
 have H:(cs++ns).all eK=true:=by grind
 have N:(cs++ns).length=(n+m)*W:=by grind
 have D:∀{h1:AH},Hs G h1 ((fun r=>r=mA h.next (cs++ns) (some (.mt e false (cs++ns).length)))::L')->Hs G h1 (dI W e (some ⟨h.next,0,none⟩) (n+m) (n+m,cs++ns)::L'):=by
  intro h1 hh;refine Hs.join (A:=[_]) hh fun q O=>?_;obtain⟨q1,q2,e1,e2,e3,e4⟩:=O;cases e1;cases e2;rw[cT.add_comm (s:=cT.emp) cT.dS.symm,cT.fX] at e4;exact⟨N,H,.inr (.inr ⟨Nat.le_refl _,h.next,[],[],false,rfl,by grind,by simpa using e4⟩)⟩
 by_cases hm:m=0
 .subst hm;have:ns=[]:=List.eq_nil_of_length_eq_zero (by omega);subst this;have T:=hk a c h (by simpa using β);rcases hr with⟨rfl,ο,rfl,ha⟩|⟨rfl,rfl,b,o,Z,rfl,_⟩|⟨I,b,g,t,ex,rfl,hle,V⟩
  .rcases ha with rfl|⟨b,o,rfl⟩
   .exact⟨(.slice none 0 0,h),by simp[iK,v,z],by simpa using T⟩
   .exact⟨(.slice _ 0 0,h),by simp[iK,v,z];rfl,by simpa using T⟩
  .exact⟨(.slice _ 0 0,h),by simp[iK,v,z];rfl,by simpa using T⟩
  .exact⟨(.slice _ n c,h),by simp[iK,v,z,I];rfl,by simpa using T⟩
 .have Y:Hs G h L':=β.tail;rcases hr with⟨rfl,ο,rfl,ha⟩|⟨rfl,rfl,b,o,Z,rfl,ho,V⟩|⟨I,b,g,t,ex,rfl,hle,V⟩
  .have α:cs=[]:=List.eq_nil_of_length_eq_zero (by simpa using hl);subst α;have η:=Y.new (c:=ns) (e:=e) (x:=false);have F:=D (Hs.join (A:=[_,_]) η fun q O=>qO O);have u:¬(0+m<=0):=by omega
   rcases ha with rfl|⟨b,o,rfl⟩
   .refine⟨(.slice (some ⟨h.next,0,none⟩) m m,h.alloc (.cells ns e (0,0) false)),?_,by grind⟩;simp only[iK,v,z,w,Bool.false_eq_true,if_false,u,R,if_true]
   .refine⟨(.slice (some ⟨h.next,0,none⟩) m m,h.alloc (.cells ns e (0,0) false)),?_,by grind⟩;simp only[iK,v,z,w,Bool.false_eq_true,if_false,u,R,if_true]
  .have α:cs=[]:=List.eq_nil_of_length_eq_zero (by simpa using hl);subst α;subst V;obtain⟨hb,hg⟩:=Gi S E;have Q:Hs G h ((fun r=>r=mA b Z (some (.mt e false Z.length)))::L'):=⟨C.base,C.old,C.wf,C.fr,_,⟨_,r2,rfl,U,X,rfl⟩,(cT.fJ X).2 ⟨S,E⟩⟩;have F:=D (Q.kill (c2:=ns) (e2:=e) (x2:=false));have u:¬(0+m<=0):=by omega
   refine⟨(.slice (some ⟨h.next,0,none⟩) m m,(h.set b none).alloc (.cells ns e (0,0) false)),?_,by simpa using hk _ _ _ F⟩
   have κ:¬(some 2=some 1):=by simp
   simp only[iK,v,z,w,Bool.false_eq_true,if_false,u,R,if_true,κ,hg,hb,ho,and_self]
  .subst V;obtain⟨hb,hg⟩:=Gi S E;by_cases u:n+m<=c
   .have hW:(n+m)*W<=c*W:=Nat.mul_le_mul_right _ u;rw[Nat.add_mul] at hW;have Q:Hs G h ((fun r=>r=mA b (g++cs++t) (some (.mt e ex (g++cs++t).length)))::L'):=⟨C.base,C.old,C.wf,C.fr,_,⟨_,r2,rfl,U,X,rfl⟩,(cT.fJ X).2 ⟨S,E⟩⟩;have π:Hs G h (aE b 0 (g++cs++t)::mt b (e,ex,(g++cs++t).length)::L'):=Q.imp (B:=[_,_]) fun q O=>by subst O;exact pW
    have ξ:g.length+cs.length+ns.length<=(g++cs++t).length:=by grind
    by_cases μ:ns.length=0
    .have θ:ns=[]:=List.eq_nil_of_length_eq_zero μ;subst θ;refine⟨(.slice (some ⟨b,g.length,none⟩) (n+m) c,h.set b (some (.cells (cG (g++cs++t) (g.length+n*W) []) e (0,0) ex))),?_,?_⟩
     .simp only[iK,v,z,w,Bool.false_eq_true,if_false,u,if_true,hm,Option.isSome_none,dB];simp only[dK,Option.isSome_none,Bool.false_or,List.all_nil,Bool.not_true,Bool.or_false,hg];grind
     .have δ:cG (g++cs++t) (g.length+n*W) []=g++cs++t:=by simp only[cG,List.append_nil,List.length_nil,Nat.add_zero,List.take_append_drop]
      rw[δ]
      refine hk _ _ _ ?_
      have:Hs G (h.set b (some (.cells (g++cs++t) e (0,0) ex))) ((fun r=>r=mA b (g++cs++t) (some (.mt e ex (g++cs++t).length)))::L'):=by
       have J:∀j,(h.set b (some (.cells (g++cs++t) e (0,0) ex))).get j=h.get j:=fun j=>by
        rw[AH.iJ hb];grind
       refine⟨by simp;exact C.base,by rw[AH.An];exact C.old,by simp;exact C.wf,fun i S=>by simp at S;rw[J];exact C.fr i S,_,⟨_,r2,rfl,U,X,rfl⟩,(cT.fJ X).2 ⟨?_,?_⟩⟩;exact S.of (by simp) (by simp) fun j _=>J j;exact E.of (by simp) (by simp) fun j _=>J j
      refine Hs.join (A:=[_]) this fun q O=>?_
      obtain⟨q1,q2,e1,e2,e3,e4⟩:=O
      cases e1;cases e2
      rw[cT.add_comm (s:=cT.emp) cT.dS.symm,cT.fX] at e4
      refine⟨N,H,.inr (.inr ⟨u,b,g,t,ex,rfl,?_,by simpa using e4⟩)⟩
      grind
    .obtain⟨h',ι,γ⟩:=π.write (j:=g.length+cs.length) (vs:=ns) ξ ζ (by omega);rw[Nat.zero_add] at ι;refine⟨(.slice (some ⟨b,g.length,none⟩) (n+m) c,h'),?_,?_⟩
     .simp only[iK,v,z,w,Bool.false_eq_true,if_false,u,if_true,hm,Option.isSome_none,dB];rw[<-hl,ι];rfl
     .refine hk _ _ _ ?_;have δ:cG (g++cs++t) (g.length+cs.length) ns=g++(cs++ns)++t.drop ns.length:=by
       unfold cG;rw[List.take_append_of_le_length (by simp),List.take_of_length_le (by simp),List.drop_append];have:(g++cs).drop (g.length+cs.length+ns.length)=[]:=List.drop_eq_nil_of_le (by simp);rw[this];simp only[List.length_append,List.nil_append,List.append_assoc];rw[show g.length+cs.length+ns.length - (g.length+cs.length)=ns.length by omega]
      rw[δ] at γ
      have ε:(g++cs++t).length=(g++(cs++ns)++t.drop ns.length).length:=by grind
      rw[ε] at γ
      refine Hs.join (A:=[_,_]) γ fun q O=>?_
      exact⟨N,H,.inr (.inr ⟨u,b,g,t.drop ns.length,ex,rfl,by rw[<-ε];exact hle,qO O⟩)⟩
   .have Q:Hs G h ((fun r=>r=mA b (g++cs++t) (some (.mt e ex (g++cs++t).length)))::L'):=⟨C.base,C.old,C.wf,C.fr,_,⟨_,r2,rfl,U,X,rfl⟩,(cT.fJ X).2 ⟨S,E⟩⟩;have ρ:n*W<=c*W:=Nat.mul_le_mul_right _ I;have hold:cJ h ⟨b,g.length,none⟩ (n*W)=some cs:=by
     simp only[cJ,Option.isSome_none,Bool.false_eq_true,if_false,hg];rw[aae];simp only[Option.some.injEq];grind
    have h1:¬((none:Option Nat)=some 1):=by simp
    have h2:¬((none:Option Nat)=some 2):=by simp
    cases ex with
    |true=>
     have F:=D (Hs.join (A:=[_,_]) (Y.new (c:=cs++ns) (e:=e) (x:=false)) fun q O=>qO O)
     refine⟨(.slice (some ⟨h.next,0,none⟩) (n+m) (n+m),h.alloc (.cells (cs++ns) e (0,0) false)),?_,hk _ _ _ F⟩
     simp only[iK,v,z,w,Bool.false_eq_true,if_false,u,R,if_true,h1,h2,hold,hg,hc,Bool.not_true]
    |false=>
     have F:=D (Q.kill (c2:=cs++ns) (e2:=e) (x2:=false))
     refine⟨(.slice (some ⟨h.next,0,none⟩) (n+m) (n+m),(h.set b none).alloc (.cells (cs++ns) e (0,0) false)),?_,hk _ _ _ F⟩
     simp only[iK,v,z,w,Bool.false_eq_true,if_false,u,R,if_true,h1,h2,hold,hg,hc,Bool.not_true,hb,hle,and_self]
end Go.Ab
end
section
namespace Go.Ab
variable {P:Program} {K:FuncId->List Value->Option iL} {G:Bg} {h:AH} {L L' M:List HP}
abbrev wr (x:Int):Int:=IntKind.i64.wrap x
theorem gd {x:Int} (h: -9223372036854775808<=x/\x<=9223372036854775807):wr x=x:=IntWalk.i64_in _ (by omega)
section
variable {k:Value->Prop} {a b:Int} {x y:Value}
theorem xI {α:Type} {o:Option α} {v:α} {k:α->Prop} (g:o=some v) (c:k v):bA o k:=⟨v,g,c⟩
theorem aA {b o j n:Nat} (c:k (pt b o (j+n))):bA (fZ n (pt b o j)) k:=⟨_,by simp[fZ,pt,dB,Nat.add_assoc],c⟩
theorem aB {b o j:Nat} (c:k (pt b o j)):bA (lT (pt b o j)) k:=⟨_,rfl,c⟩
theorem aG {i:Nat} {vs:List Value} {v:Value} (g:vs[i]?=some v) (c:k v):bA (oX i (.tuple ⟨vs⟩)) k:=⟨v,g,c⟩
theorem ic {j:Nat} {l:List Value} {v:Value} (g:l[j]?=some v) (c:k v):bA (oU j (.agg ⟨l⟩)) k:=⟨v,g,c⟩
theorem Io {j n:Nat} {l m:List Value} (i:Nat.ble (j+n) l.length=true) (g:(l.drop j).take n=m) (c:k (.agg ⟨m⟩)):bA (nW j n (.agg ⟨l⟩)) k:=
 ⟨_,by have:=Nat.le_of_ble_eq_true i;simp[nW,this,g],c⟩
theorem bH {a:Option Addr} {n c:Nat} (g:k (I n)):bA (kS (.slice a n c)) k:=⟨_,rfl,g⟩
theorem aY (h: -9223372036854775808<=a+b/\a+b<=9223372036854775807) (c:k (I (a+b))):bA (sY .add (I a) (I b)) k:=⟨_,by show some (Value.int .i64 (wr (a+b)))=_;rw[gd h],c⟩
theorem aac (c:k (I (a+b)))(h: -9223372036854775808<=a+b/\a+b<=9223372036854775807:=by omega):bA (sY .add (I a) (I b)) k:=⟨_,by show some (Value.int .i64 (wr (a+b)))=_;rw[gd h],c⟩
theorem yO (h: -9223372036854775808<=a - b/\a - b<=9223372036854775807) (c:k (I (a - b))):bA (sY .sub (I a) (I b)) k:=⟨_,by show some (Value.int .i64 (wr (a - b)))=_;rw[gd h],c⟩
theorem uB (h: -9223372036854775808<=a*b/\a*b<=9223372036854775807) (c:k (I (a*b))):bA (sY .mul (I a) (I b)) k:=⟨_,by show some (Value.int .i64 (wr (a*b)))=_;rw[gd h],c⟩
theorem ca (c:k (I (wr (a+b)))):bA (sY .add (I a) (I b)) k:=⟨_,rfl,c⟩
theorem D9 (c:0<=a) (hb:0<b) (h:a<=9223372036854775807) (g:k (I (a/b))):bA (sY .quo (I a) (I b)) k:=by
 refine⟨_,?_,g⟩;show Nh .quo .i64 a b=_;simp only[Nh];rw[aab,Int.tdiv_eq_ediv_of_nonneg c];have i:0<=a/b:=Int.ediv_nonneg c (by omega);have j:a/b<=a:=Int.ediv_le_self b c;rw[show IntKind.i64.wrap (a/b)=a/b from gd (by omega)]
theorem Mk (g:0<=a) (hb:0<b) (c:k (I (a % b))):bA (sY .rem (I a) (I b)) k:=by
 refine⟨_,?_,c⟩;show Nh .rem .i64 a b=_;simp only[Nh];grind
theorem aEb (hb:b≠0) (c:k (I (a.tmod b))):bA (sY .rem (I a) (I b)) k:=by
 refine⟨_,?_,c⟩;show Nh .rem .i64 a b=_;simp only[Nh];rw[aLx hb]
theorem bG (c:k (.bool (decide (a=b)))):bA (sY .eql (I a) (I b)) k:=⟨_,by show some (Value.bool (a==b))=_;rfl,c⟩
theorem aX (c:k (.bool (decide (a≠b)))):bA (sY .neq (I a) (I b)) k:=⟨_,by show some (Value.bool (a !=b))=_;grind,c⟩
theorem aI (c:k (.bool (decide (a<b)))):bA (sY .lss (I a) (I b)) k:=⟨_,rfl,c⟩
theorem xO (c:k (.bool (decide (a<=b)))):bA (sY .leq (I a) (I b)) k:=⟨_,rfl,c⟩
theorem iM (c:k (.bool (decide (b<a)))):bA (sY .gtr (I a) (I b)) k:=⟨_,rfl,c⟩
theorem dV (c:k (.bool (decide (b<=a)))):bA (sY .geq (I a) (I b)) k:=⟨_,rfl,c⟩
theorem Kh {b o j:Nat} (c:k (.bool true)):bA (No .neq (pt b o j) (.pointer none)) k:=⟨_,rfl,c⟩
theorem cK {b o j:Nat} (c:k (.bool false)):bA (No .eql (pt b o j) (.pointer none)) k:=⟨_,rfl,c⟩
theorem bY {b:Bool} (c:k (.bool !b)):bA (Sb .not (.bool b)) k:=⟨_,rfl,c⟩
theorem dO {b o n c g i:Nat} (j:i<n) (m:k (pt b (o+i*g) 0)):bA (jV g (.slice (some ⟨b,o,none⟩) n c) (I i)) k:=⟨_,by simp[jV,j,dB,pt],m⟩
theorem fI {b o j n c:Nat} (g:0<=a) (i:a<n) (m:k (pt b o (j+a.toNat*c))):bA (nR n c (pt b o j) (I a)) k:=⟨_,by simp[nR,g,i,dB,pt,Nat.add_assoc],m⟩
theorem bJ {c:Prop} [Decidable c] {p q:Prop} (h:c) (i:p):Br (.bool (decide c)) p q:=⟨_,rfl,fun _=>i,fun g=>absurd h (by simpa using g)⟩
theorem aad {c:Prop} [Decidable c] {p q:Prop} (i:p)(h:c:=by omega):Br (.bool (decide c)) p q:=⟨_,rfl,fun _=>i,fun g=>absurd h (by simpa using g)⟩
theorem aH {c:Prop} [Decidable c] {p q:Prop} (h:¬c) (i:q):Br (.bool (decide c)) p q:=⟨_,rfl,fun g=>absurd (by simpa using g) h,fun _=>i⟩
theorem aaa {c:Prop} [Decidable c] {p q:Prop} (i:q)(h:¬c:=by omega):Br (.bool (decide c)) p q:=⟨_,rfl,fun g=>absurd (by simpa using g) h,fun _=>i⟩
theorem aT {c:Prop} [Decidable c] {p q:Prop} (i:c->p) (j:¬c->q):Br (.bool (decide c)) p q:=⟨_,rfl,fun g=>i (by simpa using g),fun g=>j (by simpa using g)⟩
theorem dN {p q:Prop} (c:p):Br (.bool true) p q:=aB3.2 c
theorem bP {p q:Prop} (c:q):Br (.bool false) p q:=wq.2 c
theorem dH {b:Bool} {p q:Prop} (c:b=true->p) (g:b=false->q):Br (.bool b) p q:=⟨_,rfl,c,g⟩
theorem dY {b:Bool} {p q:Prop} (h:Br (.bool b) q p):Br (.bool !b) p q:=by obtain⟨c,i,j,g⟩:=h;cases i;cases b;exact⟨_,rfl,fun _=>g rfl,fun h=>(by cases h)⟩;simp_all
end
theorem aJ {z c:List Value} {ps:List (Nat×Nat×Value)} {k:List Value->Prop} (i:nY z ps=some c) (g:k c):bA (nY z ps) k:=⟨c,i,g⟩
theorem bV {p q:Prop} (c:p) (g:q):p/\q:=⟨c,g⟩
theorem iN {a:Int}:nP (I a) (I a)=true:=by simp[nP]
theorem aJ1 {a:Bool}:nP (.bool a) (.bool a)=true:=by simp[nP]
theorem bX {b o j:Nat}:nP (pt b o j) (pt b o j)=true:=by simp[nP,pt]
theorem Hr {a:Option Addr} {n c:Nat}:nP (.slice a n c) (.slice a n c)=true:=by simp[nP]
theorem oB {g:FuncId} {first captured:Array Value} {l:Nat} {q:Value->AH->Prop} (hc:fY P g=true) (c:Cl P K g (first.toList++[.func (.yield l) #[] #[]]++captured.toList) h q):Tb P K (.func (.func g) first captured) l h q:=⟨hc,c⟩
theorem qN {g:FuncId} {first captured:Array Value} {args:List Value} {q:Value->AH->Prop} (hc:fY P g=true) (c:Cl P K g (first.toList++args++captured.toList) h q):xS P K (.func (.func g) first captured) args h q:=⟨hc,c⟩
end Go.Ab
end
section
namespace Go.Ab
variable {P:Program} {K:FuncId->List Value->Option iL} {G:Bg} {h:AH} {L L' M:List HP}
def sp (A:List HP):HP:=fun r=>star A r
theorem Hs.pack {A:List HP} (c:Hs G h (A++L)):Hs G h (sp A::L):=c.join fun _ h=>h
theorem Hs.unpack {A:List HP} (c:Hs G h (sp A::L)):Hs G h (A++L):=c.imp fun _ h=>h
def qV {α:Type} (A:α->HP):HP:=fun r=>∃x,A x r
theorem Hs.oZ {α:Type} {A:α->HP} (x:α) (m:Hs G h (A x::L)):Hs G h (qV A::L):=Hs.join (A:=[A x]) m fun r j=>by
 obtain⟨o,q,g,i,_,c⟩:=j;cases i;rw[cT.add_comm (s:=cT.emp) cT.dS.symm,cT.fX] at c;subst c;exact⟨x,g⟩
theorem Vq {A:HP} {r:cT}:star [A] r↔A r:=by
 constructor;intro⟨m,o,g,i,_,c⟩;cases i;rw[cT.add_comm (s:=cT.emp) cT.dS.symm,cT.fX] at c;subst c;exact g;intro j;exact⟨r,cT.emp,j,rfl,cT.dS.symm,by rw[cT.add_comm (s:=cT.emp) cT.dS.symm,cT.fX]⟩
theorem Hs.rS {α:Type} {A:α->HP} (c:Hs G h (qV A::L)):∃x,Hs G h (A x::L):=by
 obtain⟨r,q,⟨x,o⟩,i,g,j,m⟩:=c.fst;exact⟨x,c.base,c.old,c.wf,c.fr,_,⟨r,q,o,i,g,rfl⟩,(cT.fJ g).2 ⟨j,m⟩⟩
def rN (p:Prop):HP:=fun r=>p/\r=cT.emp
theorem Hs.Wm {p:Prop} (c:p) (i:Hs G h L):Hs G h (rN p::L):=Hs.join (A:=[]) i fun _ g=>⟨c,g⟩
theorem Hs.To {p:Prop} (c:Hs G h (rN p::L)):p/\Hs G h L:=by
 obtain⟨r,_,⟨g,_⟩,_⟩:=c.fst;exact⟨g,c.tail⟩
def dE (n:Nat) (f:Nat->HP):HP:=sp ((List.range n).map f)
theorem Jy {n i:Nat} {f:Nat->HP} (c:i<n):((List.range n).map f).Perm (f i::((List.range n).erase i).map f):=by
 have:(List.range n).Perm (i::(List.range n).erase i):=List.perm_cons_erase (List.mem_range.2 c);exact this.map f
theorem Hs.kH {n:Nat} {f:Nat->HP} (m:Hs G h (dE n f::L)) (i:Nat) (j:i<n):Hs G h (f i::sp (((List.range n).erase i).map f)::L):=by
 have c:=m.unpack.perm ((Jy j).append_right L);have g:Hs G h (((List.range n).erase i).map f++f i::L):=c.perm (by simpa using List.perm_middle.symm);exact(g.pack).perm (List.Perm.swap _ _ _)
theorem Hs.aD4 {n i:Nat} {f g:Nat->HP} (m:i<n) (s:∀j,j≠i->g j=f j) (r:Hs G h (g i::sp (((List.range n).erase i).map f)::L)):Hs G h (dE n g::L):=by
 have c:=(r.perm (List.Perm.swap _ _ _)).unpack;have q:((List.range n).erase i).map f=((List.range n).erase i).map g:=List.map_congr_left fun j o=>by
  have:j≠i:=by
   intro e;subst e;exact List.Nodup.not_mem_erase List.nodup_range o
  grind
 rw[q] at c;refine(c.perm ?_).pack;exact(List.perm_middle.trans ((Jy m).symm.append_right L))
theorem rY {n:Nat} {f g:Nat->HP} (c:∀j,j<n->g j=f j) (m:Hs G h (dE n f::L)):Hs G h (dE n g::L):=by
 have:(List.range n).map f=(List.range n).map g:=List.map_congr_left fun j i=>(c j (List.mem_range.1 i)).symm;unfold dE at m ⊢;grind
theorem Hs.T5 {f:Nat->HP} (c:Hs G h L):Hs G h (dE 0 f::L):=Hs.pack (A:=[]) c
theorem Hs.U6 {n:Nat} {f:Nat->HP} (g:Hs G h (f n::dE n f::L)):Hs G h (dE (n+1) f::L):=by
 have c:=(g.perm (List.Perm.swap _ _ _)).unpack;refine Hs.pack (A:=(List.range (n+1)).map f) (c.perm ?_);rw[List.range_succ,List.map_append];simp
theorem xS.mono {f:Value} {args:List Value} {Q c:Value->AH->Prop} (k:xS P K f args h Q) (i:∀v g,Q v g->c v g):xS P K f args h c:=by
 unfold xS at k ⊢;split at k;exact⟨k.1,Ok.mono k.2 fun _ _=>i _ _⟩;exact Ok.mono k fun _ _=>i _ _;cases k
theorem pw {l:Nat} {args:List Value} {Q:Value->AH->Prop} (k:Ok P K (.round l args) h fun o c=>Q o.v c):xS P K (.func (.yield l) #[] #[]) args h Q:=by
 simpa [xS] using k
def cf (P:Program) (K:FuncId->List Value->Option iL) (G:Bg) (f:FuncId) (first captured:List Value) (A:HP) (xs:List (List Value)):Prop:=
 ∀(I:List (List Value)->HP) (J:HP) (y:Value) (L:List HP) (h:AH) (Q:Value->AH->Prop),Hs G h (A::I xs::L)->
  (∀x rest h M,Hs G h (I (x::rest)::M)->xS P K y x h fun v c=>(v= .bool true/\Hs G c (I rest::M))\/(v= .bool false/\Hs G c (J::M)))->
  (∀v c,Hs G c (A::I []::L)->Q v c)->(∀v c,Hs G c (A::J::L)->Q v c)->Cl P K f (first++[y]++captured) h Q
class dX (A:HP) (L:List HP) (L':outParam (List HP)):Prop where
 perm:L.Perm (A::L')
instance (priority:=low) dX.there {A B:HP} [k:dX A L L']:dX A (B::L) (B::L'):=⟨(k.perm.cons B).trans (List.Perm.swap _ _ _)⟩
instance (priority:=high) dX.here {A:HP}:dX A (A::L) L:=⟨List.Perm.refl _⟩
instance (priority:=high) dX.app {A B:HP} {c L2:List HP} [k:dX A (B::(c++L2)) L']:dX A ((B::c)++L2) L':=k
instance (priority:=high) dX.aFf {A:HP} {L2:List HP} [k:dX A L2 L']:dX A ([]++L2) L':=k
class Sub (L M:List HP):Prop where
 to:∀r,star L r->∃r1 r2,star M r1/\r1.tZ r2/\r=r1.add r2
theorem aAj {r:cT}:r.add cT.emp=r:=by rw[cT.add_comm cT.dS.symm,cT.fX]
instance (priority:=low) Sub.skip {A:HP} [k:Sub L M]:Sub (A::L) M:=⟨fun r ⟨j,m,o,c,g,i⟩=>by
 obtain⟨s1,s2,g1,g2,g3⟩:=k.to m c;subst g3;obtain⟨d1,d2⟩:=cT.iF.1 g;exact⟨s1,j.add s2,g1,cT.iF.2 ⟨d1.symm,g2⟩,by rw[i,<-cT.add_assoc,<-cT.add_assoc,cT.add_comm d1]⟩⟩
instance Sub.take {A:HP} [k:dX A L L'] [q:Sub L' M]:Sub L (A::M):=⟨fun r o=>by
 obtain⟨c,s,g,i,j,m⟩:=Fu k.perm r o;obtain⟨s1,s2,g1,g2,g3⟩:=q.to s i;subst g3;obtain⟨d1,d2⟩:=cT.iF.1 j;exact⟨c.add s1,s2,⟨c,s1,g,g1,d1,rfl⟩,(cT.iF.2 ⟨d2.symm,g2.symm⟩).symm,by rw[m,cT.add_assoc]⟩⟩
instance (priority:=high) Sub.refl:Sub L L:=⟨fun r c=>⟨r,cT.emp,c,cT.dS.symm,aAj.symm⟩⟩
instance (priority:=high) Sub.app {A:HP} {c L2:List HP} [k:Sub L (A::(c++L2))]:Sub L ((A::c)++L2):=k
instance (priority:=high) Sub.aFf {L2:List HP} [k:Sub L L2]:Sub L ([]++L2):=k
instance (priority:=high) Sub.aLf {A:HP} {c L2:List HP} [k:Sub (A::(c++L2)) M]:Sub ((A::c)++L2) M:=k
instance (priority:=high) Sub.sp {A:List HP} [k:Sub L (A++M)]:Sub L (sp A::M):=⟨fun r m=>by
 obtain⟨s1,s2,g1,g2,g3⟩:=k.to r m;obtain⟨o,q,c,g,i,j⟩:=iQ.1 g1;exact⟨s1,s2,⟨o,q,c,g,i,j⟩,g2,g3⟩⟩
theorem Hs.to (c:Hs G h L) [k:Sub L M]:Hs G h M:=⟨c.base,c.old,c.wf,c.fr,by
 obtain⟨r,g,i⟩:=c.res;obtain⟨j,m,g1,g2,g3⟩:=k.to r g;subst g3;exact⟨j,g1,((cT.fJ g2).1 i).1⟩⟩
theorem Hs.lJ {A B:HP} (c:Hs G h (B::A::L)):Hs G h (A::B::L):=c.perm (List.Perm.swap _ _ _)
theorem xT {p:Prop} {A:List HP} (c:p) (g:Hs G h (sp A::L)):Hs G h (sp (rN p::A)::L):=Hs.pack (A:=rN p::A) (Hs.Wm c g.unpack)
theorem hJ {p:Prop} {A:List HP} (c:Hs G h (sp (rN p::A)::L)):p/\Hs G h (sp A::L):=let⟨a,b⟩:=Hs.To c.unpack;⟨a,b.pack⟩
theorem jR {a b:Prop} {c:List (Nat×Prop)} (g:a):qW none a b c:=g
theorem um {a b:Prop} {c:List (Nat×Prop)} (g:b):qW (some .ret) a b c:=g
theorem Q4 {a b q:Prop} {c:List (Nat×Prop)} {id:Nat} (i:c.lookup id=some q) (g:q):qW (some (.exit id)) a b c:=by simp only[qW,i];exact g
theorem aH3 {b o j m:Nat} (h:m<=j):pt b o j=pt b (o+m) (j - m):=by simp only[pt];grind
end Go.Ab
end
section
namespace Go.Ab
variable {P:Program} {K:FuncId->List Value->Option iL} {G:Bg} {h:AH} {L L' M:List HP}
class Cv (v:Value) (cs:outParam (List Value)):Prop where
 eq:iH v=some cs
instance {a:Int}:Cv (I a) [I a]:=⟨rfl⟩
instance {a:Bool}:Cv (.bool a) [.bool a]:=⟨rfl⟩
instance {b o j:Nat}:Cv (pt b o j) [pt b o j]:=⟨rfl⟩
instance {a:Option Addr}:Cv (.pointer a) [.pointer a]:=⟨rfl⟩
instance {a:Option Addr} {n c:Nat}:Cv (.slice a n c) [.slice a n c]:=⟨rfl⟩
instance {l:List Value}:Cv (.agg ⟨l⟩) l:=⟨rfl⟩
instance {f:Fn} {a b:Array Value}:Cv (.func f a b) [.func f a b]:=⟨rfl⟩
theorem dL {cs:List Value} {e:TypeId} {v:Value} {k:Nat->AH->Prop} (i:Hs G h L) [j:Cv v cs] (g:∀p c,Hs G c (aE p 0 cs::L)->k p c):bA (jX e v) fun b=>A2 h b k:=aJ2 i j.eq g
theorem xL {r i n:Nat} {D:List Nat} {cs:List Value} {v:Value} {e:TypeId} {k:Nat->AH->Prop} (o:Hs G h L) [m:Has (gq r) L (n,D) L'] [q:Cv v cs] (g:Nat.blt i n=true) (hD:D.contains i=false)
  (j:∀p c,Hs G c (aE p 0 cs::gq r (n,i::D)::L')->k p c):bA (jX e v) fun b=>lH h (r+i) b k:=z7 o q.eq g hD j
theorem bK {b o j n:Nat} {c vs:List Value} {v:Value} {k:AH->Prop} (t:Hs G h L) [m:Has (aE b o) L c L'] [u:Cv v vs] (s:vs.length=n) (r:Nat.ble (j+n) c.length=true) (hb:vs.all eK=true) (i:Nat.ble 1 c.length=true)
  (q:∀g,Hs G g (aE b o (dT c j vs)::L')->k g):bA (sH h n (pt b o j) v) k:=aHv t u.eq s r hb i q
theorem ay {b o j n:Nat} {c vs:List Value} {v:Value} {k:AH->Prop} (t:Hs G h L) [m:Has (aE b o) L c L'] [u:Cv v vs] (q:∀g,Hs G g (aE b o (dT c j vs)::L')->k g) (s:vs.length=n:=by exact rfl) (r:Nat.ble (j+n) c.length=true:=by exact rfl) (hb:vs.all eK=true:=by exact rfl) (i:Nat.ble 1 c.length=true:=by exact rfl):bA (sH h n (pt b o j) v) k:=bK t s r hb i q
theorem Xa:∀(c vs:List Value),c.length=vs.length->dT c 0 vs=vs
 |[],[],_=>rfl
 |_::c,v::vs,h=>by simp only[dT];rw[Xa c vs (by simpa using h)]
theorem aZ {b o n:Nat} {c vs:List Value} {v:Value} {k:AH->Prop} (s:Hs G h L) [m:Has (aE b o) L c L'] [t:Cv v vs] (g:Nat.beq c.length n=true) (j:Nat.ble 1 n=true) (r:vs.length=n) (hb:vs.all eK=true)
  (q:∀i,Hs G i (aE b o vs::L')->k i):bA (sH h n (pt b o 0) v) k:=by
 have g:=Nat.eq_of_beq_eq_true g
 refine aHv s t.eq r (by rw[g];simp) hb (by rw[g];exact j) ?_
 rw[Xa c vs (by omega)];exact q
theorem ax {b o n:Nat} {c vs:List Value} {v:Value} {k:AH->Prop} (s:Hs G h L) [m:Has (aE b o) L c L'] [t:Cv v vs] (q:∀i,Hs G i (aE b o vs::L')->k i) (g:Nat.beq c.length n=true:=by exact rfl) (j:Nat.ble 1 n=true:=by exact rfl) (r:vs.length=n:=by exact rfl) (hb:vs.all eK=true:=by exact rfl):bA (sH h n (pt b o 0) v) k:=aZ s g j r hb q
structure LpX where
 P:Program
 f:FuncId
 p:List Nat
 n:Nat
 e:Nat->Value
 d:Nat
 st:LoopState
 pd:Option Code
class nZ (l:Nat) (L:List HP) (x:outParam LpX) (L':outParam (List HP)):Prop where
 perm:L.Perm (fM x.P x.f x.p x.n x.e x.d l (x.st,x.pd)::L')
instance (priority:=low) nZ.there {l:Nat} {A:HP} {x:LpX} [k:nZ l L x L']:nZ l (A::L) x (A::L'):=⟨(k.perm.cons A).trans (List.Perm.swap _ _ _)⟩
instance (priority:=high) nZ.here {l:Nat} {f:FuncId} {p:List Nat} {n:Nat} {e:Nat->Value} {d:Nat} {st:LoopState} {pd:Option Code}:nZ l (fM P f p n e d l (st,pd)::L) ⟨P,f,p,n,e,d,st,pd⟩ L:=⟨List.Perm.refl _⟩
instance (priority:=high) nZ.app {l:Nat} {A:HP} {c L2:List HP} {x:LpX} [k:nZ l (A::(c++L2)) x L']:nZ l ((A::c)++L2) x L':=k
instance (priority:=high) nZ.aFf {l:Nat} {L2:List HP} {x:LpX} [k:nZ l L2 x L']:nZ l ([]++L2) x L':=k
theorem nZ.of {l:Nat} {x:LpX} [k:nZ l L x L'] (c:Hs G h L):Hs G h (fM x.P x.f x.p x.n x.e x.d l (x.st,x.pd)::L'):=c.perm k.perm
section
variable {f:FuncId} {p:List Nat} {n:Nat} {e:Nat->Value} {d l:Nat} {st st':LoopState} {pd pd':Option Code}
theorem gK {k:AH->Prop} (i:Hs G h L) [m:nZ l L ⟨P,f,p,n,e,d,st,pd⟩ L'] (g:∀c,Hs G c (fM P f p n e d l (st',pd')::L')->k c):bA (cS h l st' (some pd')) k:=aGy (show Hs G h (fM P f p n e d l (st,pd)::L') from m.of i) g
theorem fG {k:AH->Prop} (i:Hs G h L) [m:nZ l L ⟨P,f,p,n,e,d,.ready,pd⟩ L'] (g:∀c,Hs G c (fM P f p n e d l (.busy,pd)::L')->k c):bA (jA h l) k:=aAm (show Hs G h (fM P f p n e d l (.ready,pd)::L') from m.of i) g
theorem jN {k:Option Code×AH->Prop} (i:Hs G h L) [m:nZ l L ⟨P,f,p,n,e,d,.ready,pd⟩ L'] (g:∀c,Hs G c L'->k (pd,c)):bA (qT h l) k:=
 yl (P:=P) (f:=f) (p:=p) (n:=n) (e:=e) (d:=d) (st:= .ready) (pd:=pd) (k:=fun a b=>k (a,b)) (show Hs G h (fM P f p n e d l (.ready,pd)::L') from m.of i) (by decide) g
theorem Pm {k:Nat->Prop} (g:Hs G h L) [m:nZ l L ⟨P,f,p,n,e,d,st,pd⟩ L'] (c:k d):bA (eX h l) k:=xu (P:=P) (f:=f) (p:=p) (n:=n) (e:=e) (d:=d) (st:=st) (pd:=pd) (show Hs G h (fM P f p n e d l (st,pd)::L') from m.of g) c
theorem nX (c:Hs G h L) [m:nZ l L ⟨P,f,p,n,e,d,st,pd⟩ L']:h.get l=some (lp P f p n e d st pd):=aKb (show Hs G h (fM P f p n e d l (st,pd)::L') from m.of c)
end
theorem fj {W:Nat} {e:TypeId} {a:Option Addr} {c n:Nat} {cs:List Value} (s:Hs G h (dI W e a c (n,cs)::L)):gA h W n (.slice a n c)=some cs:=by
 have F:=s.Cs;simp only at F;by_cases v:n=0;subst v;have:cs=[]:=List.eq_nil_of_length_eq_zero (by omega);subst this;cases a<;>simp[gA];obtain⟨b,o,rfl,H,t,_⟩:=s.oT (by omega);simp only[gA,aLx v,Nat.le_refl,if_true];by_cases B:n*W=0;have:cs=[]:=List.eq_nil_of_length_eq_zero (by omega);subst this;obtain⟨r,S,m,I,R,E,i⟩:=s.fst;obtain⟨_,_,m⟩:=m;rcases m with⟨u,_⟩|⟨u,_⟩|⟨z,N,J,A,ex,C,hle,q⟩;simp at u;omega;simp at u;omega;cases C;subst q;obtain⟨D,g⟩:=Gi E i;simp only[cJ,Option.isSome_none,Bool.false_eq_true,if_false,g,B];grind;obtain⟨D,O,Q,T,g,hle,w⟩:=t.cells (by omega);simp only[cJ,Option.isSome_none,Bool.false_eq_true,if_false,g];rw[aae];congr 1;refine List.ext_getElem? fun j=>?_;grind
theorem rD {W bytes:Nat} {e:TypeId} {a a2:Option Addr} {c c2 n m:Nat} {cs ns:List Value} {k:Value×AH->Prop} (r:Hs G h L) [t:Has (dI W e a c) L (n,cs) L'] [u:Has (dI W e a2 c2) L' (m,ns) M] (i:(n+m)*(bytes+1)<=2^46)
  (s:∀j o q,Hs G q (dI W e j o (n+m,cs++ns)::L')->k (.slice j (n+m) o,q)):bA (iK W bytes e h (.slice a n c) (.slice a2 m c2)) k:=by
 have g:=u.of (t.of r).tail
 exact aD3 (k:=fun x y=>k (x,y)) r oI (fj g) g.Eg g.Cs i s
theorem Hs.front (A:HP) (c:Hs G h L) [k:dX A L L']:Hs G h (A::L'):=c.perm k.perm
theorem Hs.bL (A B:HP) (c:Hs G h L) [k:dX A L L'] [g:dX B L' M]:Hs G h (A::B::M):=c.perm (k.perm.trans (g.perm.cons A))
end Go.Ab
end
section
namespace Go.Ab
variable {P:Program} {K:FuncId->List Value->Option iL} {G:Bg} {h:AH} {L L' M:List HP}
structure vu (G:Bg) (W:Nat) (e:TypeId) (a:Option Addr) (cap n b o:Nat) where
 p:HP
 back:∀(h':AH) (cs':List Value) (M:List HP),cs'.length=n*W->cs'.all eK=true->Hs G h' (aE b o cs'::p::M)->Hs G h' (dI W e a cap (n,cs')::M)
def hole (G:Bg) (W:Nat) (e:TypeId) (a:Option Addr) (cap n b o:Nat):HP:=qV fun H:vu G W e a cap n b o=>H.p
theorem Hs.fN {W:Nat} {e:TypeId} {a:Option Addr} {cap n:Nat} {cs:List Value} (j:Hs G h (dI W e a cap (n,cs)::L)) (q:0<n):
  ∃b o,a=some ⟨b,o,none⟩/\Hs G h (aE b o cs::hole G W e a cap n b o::L):=by
 have i:=j.Cs
 simp only at i
 obtain⟨b,o,u,H,g,v⟩:=j.oT q
 exact⟨b,o,u,Hs.lJ (Hs.oZ (A:=fun H:vu G W e a cap n b o=>H.p) ⟨H,fun m c M r s t=>v m c M (r.trans i.symm) s t⟩ g.lJ)⟩
theorem Hs.mC {W:Nat} {e:TypeId} {a:Option Addr} {cap n b o:Nat} {cs:List Value} (c:Hs G h (aE b o cs::hole G W e a cap n b o::L)) (g:cs.length=n*W) (hc:cs.all eK=true):Hs G h (dI W e a cap (n,cs)::L):=by
 obtain⟨⟨H,hH⟩,c⟩:=Hs.rS (A:=fun H:vu G W e a cap n b o=>H.p) c.lJ;exact hH _ _ _ g hc c.lJ
theorem ga {b o W:Nat} {c:Nat->List Value} (hc:∀i,(c i).length=W):∀(n:Nat) (L:List HP),Hs G h (aE b o ((List.range n).flatMap c)::L)->Hs G h (dE n (fun i=>aE b (o+i*W) (c i))::L):=by
 intro n;induction n with
 |zero=>intro L g;exact Hs.T5 g.tail
 |succ n r=>
  intro L g;rw[List.range_succ,List.flatMap_append] at g;have q:∀m,((List.range m).flatMap c).length=m*W:=fun m=>by
   induction m with
   |zero=>simp
   |succ m j=>rw[List.range_succ,List.flatMap_append,List.length_append,j];grind
  have g:=g.split;simp only[List.flatMap_cons,List.flatMap_nil,List.append_nil,q] at g;exact Hs.U6 (Hs.lJ (r _ g))
theorem aBb {b o W:Nat} {c:Nat->List Value} (hc:∀i,(c i).length=W) (_:0<W):∀(n:Nat) (L:List HP),0<n->Hs G h (dE n (fun i=>aE b (o+i*W) (c i))::L)->Hs G h (aE b o ((List.range n).flatMap c)::L):=by
 intro n;have r:∀m,((List.range m).flatMap c).length=m*W:=fun m=>by
  induction m with
  |zero=>simp
  |succ m q=>rw[List.range_succ,List.flatMap_append,List.length_append,q];grind
 induction n with
 |zero=>intro L j;omega
 |succ n s=>
  intro L _ g;have g:=g.unpack;rw[List.range_succ,List.map_append,List.append_assoc] at g;have g:Hs G h (dE n (fun i=>aE b (o+i*W) (c i))::aE b (o+n*W) (c n)::L):=Hs.pack g;rw[List.range_succ,List.flatMap_append];simp only[List.flatMap_cons,List.flatMap_nil,List.append_nil];rcases Nat.eq_zero_or_pos n with j|j;simp_all;exact Hs.I3 (s _ j g) (by rw[r])
theorem Hs.Lm {f g:Nat->HP}:∀(n:Nat) (L:List HP),(∀i,i<n->∀h L,Hs G h (f i::L)->Hs G h (g i::L))->Hs G h (dE n f::L)->Hs G h (dE n g::L):=by
 intro n;induction n with
 |zero=>intro L _ c;exact Hs.T5 c.tail
 |succ n m=>
  intro L j c;have c:=c.unpack;rw[List.range_succ,List.map_append,List.append_assoc] at c;have c:Hs G h (dE n f::f n::L):=Hs.pack c;exact Hs.U6 (j n (Nat.lt_succ_self n) _ _ (m _ (fun i o=>j i (by omega)) c).lJ)
theorem Hs.aFb {f g k:Nat->HP} (j:∀i h L,Hs G h (f i::g i::L)->Hs G h (k i::L)):∀(n:Nat) (L:List HP),Hs G h (dE n f::dE n g::L)->Hs G h (dE n k::L):=by
 intro n;induction n with
 |zero=>intro L c;exact Hs.T5 c.tail.tail
 |succ n m=>
  intro L c;have c:=c.unpack;rw[List.range_succ,List.map_append,List.append_assoc] at c;have c:Hs G h (dE n f::f n::dE (n+1) g::L):=Hs.pack c;have c:Hs G h (dE (n+1) g::f n::dE n f::L):=c.to;have c:=c.unpack;rw[List.range_succ,List.map_append,List.append_assoc] at c;have c:Hs G h (dE n g::g n::f n::dE n f::L):=Hs.pack c;have c:Hs G h (dE n f::dE n g::f n::g n::L):=c.to;have c:=m _ c;exact Hs.U6 (j n _ _ (c.to (M:=[f n,g n,dE n k]++L)))
theorem dr {n i:Nat} {l:List Value} {v:Value} {k:Value->Prop} (c:i<n) (j:l[i]?=some v) (g:k v):bA (Kb n 1 (.agg ⟨l⟩) (I i)) k:=⟨v,by simp[Kb,c,j],g⟩
theorem gF {b o j n c i:Nat} {k:Value->Prop} (g:i<n) (m:k (pt b o (j+i*c))):bA (nR n c (pt b o j) (I i)) k:=⟨_,by simp[nR,g,dB,pt,Nat.add_assoc],m⟩
theorem zi {bytes n:Nat} {k:Nat×Nat->Prop} (g:n<=2^40) (hb:bytes*n<=2^47) (c:k (n,n)):bA (E6 bytes (I n) (I n)) k:=⟨_,by simp only[E6];grind,c⟩
theorem iV {b o j n:Nat} {c l:List Value} {k:Value->Prop} (r:Hs G h L) [m:Has (aE b o) L c L'] (q:0<n) (hc:(c.drop j).take n=l) (i:l.length=n) (g:k (.agg ⟨l⟩)):bA (rT h n (pt b o j)) k:=aN r q hc i g
theorem aEl {b n:Nat} {c:List Value} {k:Value->Prop} (q:Hs G h L) (m:Ob G b c) (g:c.length=n) (i:k (.agg ⟨c⟩)):bA (rT h n (.pointer (some ⟨b,0,none⟩))) k:=
 Z2 (o:=0) (j:=0) q m (by rw[<-g];simp) g (by simp) i
def cB {α:Type} (f:Nat->α) (i:Nat) (v:α):Nat->α:=fun j=>if j=i then v else f j
theorem gP {α:Type} {f:Nat->α} {i:Nat} {v:α}:cB f i v i=v:=by simp[cB]
theorem xA {α:Type} {f:Nat->α} {i j:Nat} {v:α} (h:j≠i):cB f i v j=f j:=by simp[cB,h]
theorem qI {W:Nat} {c:Nat->List Value} (hc:∀i,(c i).length=W) (m:Nat):((List.range m).flatMap c).length=m*W:=by
 induction m with
 |zero=>simp
 |succ m g=>rw[List.range_succ,List.flatMap_append,List.length_append,g];grind
theorem aBo {W:Nat} {c:Nat->List Value} (hc:∀i,(c i).length=W) {i:Nat}:∀(n:Nat),i<n->∃m g,(List.range n).flatMap c=m++(c i++g)/\m.length=i*W/\∀x,(List.range n).flatMap (cB c i x)=m++(x++g):=by
 intro n;induction n with
 |zero=>intro h;omega
 |succ n t=>
  intro h;by_cases o:i=n;subst o;refine⟨(List.range i).flatMap c,[],?_,qI hc i,fun x=>?_⟩;rw[List.range_succ,List.flatMap_append];simp;rw[List.range_succ,List.flatMap_append];congr 1;rw[List.flatMap_def,List.flatMap_def];congr 1;exact List.map_congr_left fun j u=>xA (by grind);simp[gP];obtain⟨m,g,q,r,s⟩:=t (by omega);refine⟨m,g++c n,?_,r,fun x=>?_⟩;rw[List.range_succ,List.flatMap_append,q];simp;rw[List.range_succ,List.flatMap_append,s];simp[xA (Ne.symm o)]
theorem Hs.ey {W:Nat} {e:TypeId} {a:Option Addr} {cap n i:Nat} {c:Nat->List Value} (hc:∀i,(c i).length=W) (z:i<n) (g:Hs G h (dI W e a cap (n,(List.range n).flatMap c)::L)):
  ∃b o,a=some ⟨b,o,none⟩/\∃H:HP,Hs G h (aE b (o+i*W) (c i)::H::L)/\∀s x M,x.length=W->x.all eK=true->Hs G s (aE b (o+i*W) x::H::M)->Hs G s (dI W e a cap (n,(List.range n).flatMap (cB c i x))::M):=by
 have m:=g.Eg
 simp only at m
 obtain⟨b,o,w,g⟩:=g.fN (by omega)
 obtain⟨r,q,u,t,v⟩:=aBo hc n z
 rw[u] at g m
 have g:=g.split.lJ.split
 rw[t] at g
 refine⟨b,o,w,sp [aE b o r,aE b (o+i*W+(c i).length) q,hole G W e a cap n b o],?_,?_⟩
 .exact(Hs.pack (A:=[aE b o r,aE b (o+i*W+(c i).length) q,hole G W e a cap n b o]) g.to).lJ
 .intro s x M B C g;have g:Hs G s (aE b (o+i*W) x::aE b (o+i*W+(c i).length) q::aE b o r::hole G W e a cap n b o::M):=(g.lJ.unpack).to;have g:=Hs.I3 g (by rw[B,hc]);have g:=Hs.I3 g.lJ (by rw[t]);refine Hs.mC (by rw[v];exact g) (qI (fun j=>by unfold cB;grind) n) ?_;grind
theorem Hs.sg {b o:Nat} {c c':List Value} (g:Hs G h L) [m:Has (aE b o) L c' L'] (hc:c'=c):Hs G h (aE b o c::L'):=by subst hc;exact m.of g
theorem Hs.nQ {n i:Nat} (f g:Nat->HP) (o:i<n) (s:∀j,j<n->j≠i->g j=f j) (c:Hs G h L) [k:dX (g i) L L'] [t:dX (sp (((List.range n).erase i).map f)) L' M]:Hs G h (dE n g::M):=by
 have c:=c.bL (g i) (sp (((List.range n).erase i).map f));have m:=(c.perm (List.Perm.swap _ _ _)).unpack;have r:((List.range n).erase i).map f=((List.range n).erase i).map g:=List.map_congr_left fun j q=>by
  have:j≠i:=by
   intro e;subst e;exact List.Nodup.not_mem_erase List.nodup_range q
  grind
 rw[r] at m;refine(m.perm ?_).pack;exact(List.perm_middle.trans ((Jy o).symm.append_right M))
theorem Rb {bytes:Nat} {a:Int} {k:Nat×Nat->Prop} (g:0<=a) (i:a<=2^40) (hb:bytes*a<=2^47) (c:k (a.toNat,a.toNat)):bA (E6 bytes (I a) (I a)) k:=⟨_,by simp only[E6];grind,c⟩
theorem gH (z:List Value) (n:Nat):eB z n=(List.range n).flatMap fun _=>z:=by
 induction n with
 |zero=>rfl
 |succ n c=>rw[List.range_succ,List.flatMap_append,<-c];simp[eB,List.replicate_succ']
theorem pN {c:Nat->List Value} (hc:∀i,(c i).all eK=true) (n:Nat):((List.range n).flatMap c).all eK=true:=by
 grind
theorem Hs.Jf {W:Nat} {e:TypeId} {z:List Value} {a:Option Addr} {cap n:Nat} (m:z.length=W) (g:0<n) (c:Hs G h (dI W e a cap (n,eB z n)::L)):∃b o,a=some ⟨b,o,none⟩/\Hs G h (dE n (fun i=>aE b (o+i*W) z)::hole G W e a cap n b o::L):=by
 obtain⟨b,o,j,c⟩:=c.fN g;rw[gH] at c;exact⟨b,o,j,ga (fun _=>m) n _ c⟩
theorem Hs.cE {c L2 g:List HP} (A B C:HP) (i:Hs G h L) [k:dX A L c] [j:dX B c L2] [m:dX C L2 g]:Hs G h (A::B::C::g):=i.perm (k.perm.trans ((j.perm.trans (m.perm.cons B)).cons A))
theorem aCz {b o i j:Nat} {c:List Value} {v:Value} {k:Value->Prop} (q:Hs G h L) [m:Has (aE b o) L c L'] (hc:c[i+j]?=some v) (g:k v):bA (ld1 h (pt b (o+i) j)) k:=by
 have:pt b (o+i) j=pt b o (i+j):=by simp only[pt];rw[Nat.add_assoc]
 rw[this];exact aC q hc g
theorem xv {a b c d:Bool} {k:Value->Prop} (i:k (.bool (a||b||c||d))) {g:Bool} (hc:g=true:=by kernel_rfl):Gm g [1,1,1,1] .neq (.agg ⟨[.bool a,.bool b,.bool c,.bool d]⟩) (.agg ⟨[.bool false,.bool false,.bool false,.bool false]⟩) k:=
 ⟨hc,_,by cases a<;>cases b<;>cases c<;>cases d<;>rfl,i⟩
theorem Cj {α:Type} {f:Nat->α} {i:Nat} {v w:α}:cB (cB f i v) i w=cB f i w:=by funext j;unfold cB;split<;>rfl
theorem du:∀(l:List Value),(∀v∈l,nP v v=true)->Mp l l=true
 |[],_=>by simp[Mp]
 |a::l,h=>by simp only[Mp,h a List.mem_cons_self,Bool.true_and];exact du l fun v c=>h v (List.mem_cons_of_mem _ c)
theorem oN {l:List Value} (h:∀v∈l,nP v v=true):nP (.agg ⟨l⟩) (.agg ⟨l⟩)=true:=by
 simp only[nP,Y1];exact du l h
end Go.Ab
end
section
namespace Go.Ab
variable {P:Program} {K:FuncId->List Value->Option iL} {G:Bg} {h:AH} {L L' M:List HP}
theorem Q9 {W:Nat} {e:TypeId} {a:Option Addr} {cap:Nat} {x:Nat×List Value} {r:cT} (i:Hs G h ((fun q=>q=r)::L)) (g:dI W e a cap x r):Hs G h (dI W e a cap x::L):=
 Hs.join (A:=[_]) i fun q c=>by
  rw[Vq] at c;subst c;exact g
theorem x7 {W n c:Nat} {e:TypeId} {a:Option Addr} {cs:List Value} {k:Value->Prop} (j:Hs G h L) [m:Has (dI W e a c) L (n+1,cs) L'] (J:∀Q R,Hs G h (dI W e Q R (n,cs.drop W)::L')->k (.slice Q n R)):bA (vD W h (.slice a (n+1) c) (some (I 1)) none none) k:=by
 have j:=m.of j;obtain⟨r,V,⟨Y,U,hr⟩,w,B,H,s⟩:=j.fst;simp only at Y U;have F:(cs.drop W).all eK=true:=List.all_eq_true.2 fun v hv=>List.all_eq_true.1 U v (List.mem_of_mem_drop hv);have N:(cs.drop W).length=n*W:=by grind
 rcases hr with⟨O,_⟩|⟨O,_⟩|⟨o,b,g,i,ex,rfl,hle,z⟩;simp at O;simp at O;simp only at o hle z;subst z;obtain⟨hb,X⟩:=Gi H s;have D:lF (some (I 1)) 0 (n+1)=some 1:=by simp only[lF];grind
 have C:lF none c c=some c:=rfl;have E:lF none (n+1) c=some (n+1):=rfl;by_cases t:c=1;have hn:n=0:=by omega
 subst t;subst hn;have hex:nF h b=some ex:=by simp only[nF,X]
 have u:cs.drop W=[]:=List.eq_nil_of_length_eq_zero (by omega);cases ex with
 |true=>
  refine⟨sN,by simp only[vD,C,D,Option.isNone_none,Option.isSome_none,Bool.and_false,Bool.false_eq_true,if_false,hex];simp,J _ _ ?_⟩;rw[u];refine Hs.join (A:=[]) j.tail fun q hq=>⟨by simp,rfl,.inl ⟨rfl,hq,rfl,.inr ⟨0,0,rfl⟩⟩⟩
 |false=>
  refine⟨yT ⟨b,g.length+1*W,none⟩,by simp only[vD,C,D,Option.isNone_none,Option.isSome_none,Bool.and_false,Bool.false_eq_true,if_false,hex,dB];simp,J _ _ ?_⟩;rw[u];refine Q9 (r:=mA b (g++cs++i) (some (.mt e false (g++cs++i).length))) ⟨j.base,j.old,j.wf,j.fr,_,⟨_,V,rfl,w,B,rfl⟩,(cT.fJ B).2 ⟨H,s⟩⟩ ?_;refine⟨by simp,rfl,.inr (.inl ⟨rfl,rfl,b,g.length+1*W,g++cs++i,rfl,?_,rfl⟩)⟩;grind
 refine⟨.slice (some ⟨b,g.length+1*W,none⟩) n (c - 1),?_,J _ _ ?_⟩;have Z:¬c=1:=t;simp only[vD,C,D,E,Option.isNone_none,Option.isSome_none,Bool.and_false,Bool.false_eq_true,if_false,Z,dB];rw[aLy o];rfl;have S:g++cs++i=(g++cs.take W)++cs.drop W++i:=by simp
 have T:(g++cs.take W).length=g.length+1*W:=by
  grind
 refine Q9 (r:=mA b (g++cs++i) (some (.mt e ex (g++cs++i).length))) ⟨j.base,j.old,j.wf,j.fr,_,⟨_,V,rfl,w,B,rfl⟩,(cT.fJ B).2 ⟨H,s⟩⟩ ?_;refine⟨N,F,.inr (.inr ⟨by simp only;omega,b,g++cs.take W,i,ex,by rw[T],?_,by rw[<-S]⟩)⟩;simp only;rw[<-S,T];have:c*W=(c - 1)*W+W:=by rw[<-Nat.succ_mul];congr 1;omega
 omega
theorem Lo {b o i j n:Nat} {c l:List Value} {k:Value->Prop} (s:Hs G h L) [m:Has (aE b o) L c L'] (r:0<n) (hc:(c.drop (i+j)).take n=l) (q:l.length=n) (g:k (.agg ⟨l⟩)):bA (rT h n (pt b (o+i) j)) k:=by
 have:pt b (o+i) j=pt b o (i+j):=by simp only[pt];rw[Nat.add_assoc]
 rw[this];exact aN s r hc q g
end Go.Ab
end
section
namespace Go.Ab
variable {P:Program} {K:FuncId->List Value->Option iL} {h:AH}
theorem aGf {f g:FuncId} {args c:List Value} {Q:Value->AH->Prop} (m:K f args=some (.fwd g c)) (t:Cl P K g c h fun v i=>Lj v=true/\Q v i):Cl P K f args h Q:=by
 obtain⟨n,⟨o,j⟩,s,q,r⟩:=t;exact⟨n+1,(⟨.jF,[],[],o.v⟩,j),by show jG _ _ _ _ _ _=_;simp only[jG,m,s,q,if_true],r⟩
end Go.Ab
end
section
namespace Go.Ab
variable {P:Program} {K:FuncId->List Value->Option iL} {G:Bg} {h:AH} {L L' M:List HP}
theorem Jh {W n m c:Nat} {e:TypeId} {a:Option Addr} {cs zs:List Value} (I:m<=n) (H:0<n) (C:cs.length=m*W) (q:Hs G h (dI W e a c (n,cs++zs)::L)):Hs G h (dI W e a c (m,cs)::L):=by
 obtain⟨r,F,⟨u,A,D⟩,v,w,B,t⟩:=q.fst;simp only at u A;have s:cs.all eK=true:=by grind
 rcases D with⟨E,_⟩|⟨E,_⟩|⟨j,b,i,g,ex,rfl,hle,o⟩;grind;grind;simp only at j hle o;subst o;refine Q9 (r:=mA b (i++(cs++zs)++g) (some (.mt e ex (i++(cs++zs)++g).length))) ⟨q.base,q.old,q.wf,q.fr,_,⟨_,F,rfl,v,w,rfl⟩,(cT.fJ w).2 ⟨B,t⟩⟩ ?_;have z:i++(cs++zs)++g=i++cs++(zs++g):=by simp
 refine⟨C,s,.inr (.inr ⟨by simp only;omega,b,i,zs++g,ex,rfl,?_,by rw[z]⟩)⟩;grind
theorem re {b o j m:Nat} {c:List Value} (r:Hs G h (aE b o c::L)) (i:0<c.length) (v:j+m<=c.length):cJ h ⟨b,o+j,none⟩ m=some ((c.drop j).take m):=by
 obtain⟨u,s,t,w,q,hle,g⟩:=r.cells i;simp only[cJ,Option.isSome_none,Bool.false_eq_true,if_false,q];rw[aae];congr 1;refine List.ext_getElem? fun k=>?_;grind
theorem Uw {A B z:List Value} {j:Nat} (c:A.length=j) (g:B.length=z.length):cG (A++B) j z=A++z:=by
 subst c;unfold cG;rw[List.take_left,List.drop_eq_nil_of_le (by rw[List.length_append];omega),List.append_nil]
theorem Ly {α:Type} (l:List α) (i:Nat):l.take i++l.drop i=l:=List.take_append_drop i l
theorem aDi {W bytes n i c:Nat} {e:TypeId} {a:Option Addr} {cs z:List Value} {k:Value->AH->Prop} (hW:0<W) (hz:z.length=W) (ι:z.all eK=true) (hi:i<n) (J:Hs G h L) [m:Has (dI W e a c) L (n,cs) L']
  (hk:∀h',Hs G h' (dI W e a c (n - 1,cs.take (i*W)++cs.drop ((i+1)*W))::L')->k (.slice a (n - 1) c) h'):
  bA (vD W h (.slice a n c) none (some (I i)) none) fun v3=>bA (vD W h (.slice a n c) (some (I ((i:Int)+1))) none none) fun v4=>
   bA (iK W bytes e h v3 v4) fun s=>bA (kS s.1) fun Z=>bA (vD W s.2 s.1 (some Z) (some (I n)) none) fun v9=>bA (gZ z s.2 v9) fun q=>k s.1 q.2:=by
 have J:=m.of J
 have hl:=J.Cs
 have hc:=J.Eg
 simp only at hl hc
 have g:n<=c:=by
  obtain⟨r,r2,⟨_,_,hr⟩,_⟩:=J.fst;rcases hr with⟨hz,_⟩|⟨hz,_⟩|⟨g,_⟩;simp only at hz;omega;simp only at hz;omega;exact g
 obtain⟨b,o,rfl,H,u,close⟩:=J.oT (by omega)
 have κ:0<n*W:=Nat.mul_pos (by omega) hW
 have B:0<cs.length:=by omega
 have F:lF none c c=some c:=rfl
 have b2:lF (some (I i)) n c=some i:=by simp only[lF];rw[aae];simp
 have b3:lF none 0 i=some 0:=rfl
 have b4:lF none n c=some n:=rfl
 have b5:lF (some (I ((i:Int)+1))) 0 n=some (i+1):=by simp only[lF];rw[aae];congr 1
 have b6:lF (some (I ((n - 1:Nat):Int))) 0 n=some (n - 1):=by simp only[lF];grind
 have b7:lF (some (I n)) n c=some n:=by simp only[lF];grind
 have T:¬c=0:=by omega
 refine⟨.slice (some ⟨b,o,none⟩) i c,?_,?_⟩
 .simp only[vD,F,b2,b3,Option.isNone_some,Bool.false_and,Option.isSome_none,Bool.false_eq_true,if_false,T,dB];rw[aae];simp
 have μ:(i+1)*W=i*W+W:=by rw[Nat.add_mul,Nat.one_mul]
 have ν:(i+1)*W<=n*W:=Nat.mul_le_mul_right W hi
 have η:(n - (i+1))*W=n*W - (i+1)*W:=Nat.sub_mul _ _ _
 have ξ:(n - 1)*W=n*W - W:=by rw[Nat.sub_mul,Nat.one_mul]
 have fin:∀t,Hs G t (aE b o (cs.take (i*W)++cs.drop ((i+1)*W)++cs.drop ((n - 1)*W))::H::L')->
   bA (kS (.slice (some ⟨b,o,none⟩) (n - 1) c)) fun Z=>bA (vD W t (.slice (some ⟨b,o,none⟩) (n - 1) c) (some Z) (some (I n)) none) fun v9=>bA (gZ z t v9) fun q=>k (.slice (some ⟨b,o,none⟩) (n - 1) c) q.2:=by
  intro t U
  refine bH ?_
  have C:¬c=n - 1:=by omega
  refine⟨.slice (some ⟨b,o+(n - 1)*W,none⟩) (n - (n - 1)) (c - (n - 1)),?_,?_⟩
  .have α:lF (some (I n)) (n - 1) c=some n:=b7;simp only[vD,F,α,b6,Option.isNone_some,Bool.false_and,Option.isSome_none,Bool.false_eq_true,if_false,C,dB];grind
  have β:n - (n - 1)=1:=by omega
  rw[β]
  have w:(cs.take (i*W)++cs.drop ((i+1)*W)).length=(n - 1)*W:=by
   grind
  have θ:eB z 1=z:=by simp[eB]
  have O:(cs.take (i*W)++cs.drop ((i+1)*W)).all eK=true:=by
   grind
  obtain⟨N,D,V⟩:=U.write (j:=(n - 1)*W) (vs:=z) (by grind) ι (by grind)
  refine⟨(.tuple #[],N),?_,?_⟩
  .simp only[gZ,Nat.one_ne_zero,if_false,θ,D,Option.map_some]
  refine hk N ?_
  have X:cG (cs.take (i*W)++cs.drop ((i+1)*W)++cs.drop ((n - 1)*W)) ((n - 1)*W) z=cs.take (i*W)++cs.drop ((i+1)*W)++z:=Uw w (by grind)
  rw[X] at V
  refine Jh (n:=n) (zs:=z) (by omega) (by omega) w (close N _ _ ?_ ?_ V)
  .grind
  .grind
 by_cases S:i+1=n
 .have γ:cs.drop ((i+1)*W)=[]:=List.drop_eq_nil_of_le (by rw[S];omega);have E:∀v4:Value,sW v4=some 0->gA h W 0 v4=some []->bA (iK W bytes e h (.slice (some ⟨b,o,none⟩) i c) v4) fun s=>bA (kS s.1) fun Z=>bA (vD W s.2 s.1 (some Z) (some (I n)) none) fun v9=>bA (gZ z s.2 v9) fun q=>k s.1 q.2:=by
   intro v4 t N;refine⟨(.slice (some ⟨b,o,none⟩) i c,h),?_,?_⟩;simp only[iK,t,N,List.all_nil,Bool.not_true,List.length_nil,Nat.zero_mul,bne_self_eq_false,Bool.or_self,Bool.false_eq_true,if_false,Nat.add_zero];grind;have R:i=n - 1:=by omega
   have:=fin h (by
    rw[γ,List.append_nil,R,Ly];exact u)
   rw[R];exact this
  by_cases A:c=i+1
  .obtain⟨hb,c',e',x',hg,hle,O⟩:=u.cells B;have hex:nF h b=some x':=by simp only[nF,hg]
   cases x' with
   |true=>
    refine⟨sN,?_,E _ rfl rfl⟩
    simp only[vD,F,b4,b5,Option.isNone_none,Option.isSome_none,Bool.and_false,Bool.false_eq_true,if_false,dB,hex]
    grind
   |false=>
    refine⟨yT ⟨b,o+(i+1)*W,none⟩,?_,E _ rfl rfl⟩
    simp only[vD,F,b4,b5,Option.isNone_none,Option.isSome_none,Bool.and_false,Bool.false_eq_true,if_false,dB,hex]
    grind
  .refine⟨.slice (some ⟨b,o+(i+1)*W,none⟩) (n - (i+1)) (c - (i+1)),?_,?_⟩
   .simp only[vD,F,b4,b5,Option.isNone_none,Option.isSome_none,Bool.and_false,Bool.false_eq_true,if_false,dB,A];rw[aLy g]
   .have:n - (i+1)=0:=by omega
    rw[this]
    exact E _ rfl (by simp[gA])
 .have A:¬c=i+1:=by omega
  refine⟨.slice (some ⟨b,o+(i+1)*W,none⟩) (n - (i+1)) (c - (i+1)),?_,?_⟩
  .simp only[vD,F,b4,b5,Option.isNone_none,Option.isSome_none,Bool.and_false,Bool.false_eq_true,if_false,dB,A];rw[aLy g]
  have ζ:¬n - (i+1)=0:=by omega
  have ε:cJ h ⟨b,o+(i+1)*W,none⟩ ((n - (i+1))*W)=some (cs.drop ((i+1)*W)):=by
   rw[re u B (by omega),List.take_of_length_le (by grind)]
  have δ:(cs.drop ((i+1)*W)).length=(n - (i+1))*W:=by grind
  have Q:(cs.drop ((i+1)*W)).all eK=true:=List.all_eq_true.2 fun v hv=>List.all_eq_true.1 hc v (List.mem_of_mem_drop hv)
  obtain⟨t,D,U⟩:=u.write (j:=i*W) (vs:=cs.drop ((i+1)*W)) (by omega) Q B
  have Y:i+(n - (i+1))=n - 1:=by omega
  refine⟨(.slice (some ⟨b,o,none⟩) (n - 1) c,t),?_,?_⟩
  .simp only[iK,sW,gA,aLx ζ,Nat.le_refl,if_true,ε,Q,δ,Bool.not_true,bne_self_eq_false,Bool.or_self,Bool.false_eq_true,if_false,dB,D,Option.map_some,Option.isSome_none,Y];grind
  refine fin t ?_
  have X:cG cs (i*W) (cs.drop ((i+1)*W))=cs.take (i*W)++cs.drop ((i+1)*W)++cs.drop ((n - 1)*W):=by
   unfold cG;grind
  grind
end Go.Ab
end
