/- A part of the proof. -/
import Derived.Test.YtcjlkjeeifemhaaGreatDoorR4
import Derived.IntWalk
import Derived.KernelRfl
namespace Go.Ab
open Go.RowKit
section
inductive Tok where
 |free
 |mt (e:TypeId) (x:Bool) (n:Nat)
 |M6 (b:mR)
structure cH where
 cell:Nat->Nat->Option Value
 tok:Nat->Option Tok
def Ja:mR->Bool
 |.cells ..=>false
 |_=>true
structure cH.In (r:cH) (B:Nat) (h:AH):Prop where
 cell:∀b o v,r.cell b o=some v->B<=b/\∃c e x,h.get b=some (.cells c e (0,0) x)/\c[o]?=some v
 free:∀b,r.tok b=some .free->B<=b/\b<h.next/\h.get b=none
 mt:∀b e x n,r.tok b=some (.mt e x n)->B<=b/\∃c,h.get b=some (.cells c e (0,0) x)/\c.length=n
 M6:∀b o,r.tok b=some (.M6 o)->B<=b/\h.get b=some o/\Ja o=true
structure cH.uV (r s:cH):Prop where
 cell:∀b o,r.cell b o=none\/s.cell b o=none
 tok:∀b,r.tok b=none\/s.tok b=none
def cH.add (r s:cH):cH:=⟨fun b o=>(r.cell b o).or (s.cell b o),fun b=>(r.tok b).or (s.tok b)⟩
def cH.emp:cH:=⟨fun _ _=>none,fun _=>none⟩
theorem cH.ext' {r s:cH} (c:∀b o,r.cell b o=s.cell b o) (g:∀b,r.tok b=s.tok b):r=s:=by
 cases r;cases s;simp only[cH.mk.injEq];grind
theorem Kj {α:Type} {a b:Option α} (h:a=none\/b=none):a.or b=b.or a:=by
 rcases h with h|h<;>subst h<;>simp
theorem or_none {α:Type} {a b:Option α} (h:a.or b=none):a=none/\b=none:=by cases a<;>simp_all
theorem cH.uV.symm {r s:cH} (d:r.uV s):s.uV r:=⟨fun b o=>(d.cell b o).symm,fun b=>(d.tok b).symm⟩
theorem cH.add_comm {r s:cH} (d:r.uV s):r.add s=s.add r:=cH.ext' (fun b o=>Kj (d.cell b o)) (fun b=>Kj (d.tok b))
theorem cH.add_assoc {r s t:cH}:(r.add s).add t=r.add (s.add t):=cH.ext' (fun b o=>by simp[cH.add,Option.or_assoc]) (fun b=>by simp[cH.add,Option.or_assoc])
theorem cH.iC {r s t:cH}:r.uV (s.add t)↔r.uV s/\r.uV t:=by
 constructor;intro d;refine⟨⟨fun b o=>?_,fun b=>?_⟩,⟨fun b o=>?_,fun b=>?_⟩⟩;rcases d.cell b o with h|h;exact .inl h;exact .inr (or_none h).1;rcases d.tok b with h|h;exact .inl h;exact .inr (or_none h).1;rcases d.cell b o with h|h;exact .inl h;exact .inr (or_none h).2;rcases d.tok b with h|h;exact .inl h;exact .inr (or_none h).2;intro⟨d1,d2⟩;refine⟨fun b o=>?_,fun b=>?_⟩;rcases d1.cell b o with h|h;exact .inl h;rcases d2.cell b o with c|c;exact .inl c;exact .inr (by simp[cH.add,h,c]);rcases d1.tok b with h|h;exact .inl h;rcases d2.tok b with c|c;exact .inl c;exact .inr (by simp[cH.add,h,c])
theorem cH.fQ {r:cH}:cH.emp.add r=r:=cH.ext' (fun _ _=>by simp[cH.add,cH.emp]) (fun _=>by simp[cH.add,cH.emp])
theorem cH.dG {r:cH}:cH.emp.uV r:=⟨fun _ _=> .inl rfl,fun _=> .inl rfl⟩
theorem cH.eY {r s:cH} {B:Nat} {h:AH} (d:r.uV s):(r.add s).In B h↔r.In B h/\s.In B h:=by
 have g:∀b o v,r.cell b o=some v->(r.add s).cell b o=some v:=fun b o v c=>by simp[cH.add,c]
 have c2:∀b o v,s.cell b o=some v->(r.add s).cell b o=some v:=fun b o v c=>by
  rcases d.cell b o with h|h;simp[cH.add,h,c];grind
 have t1:∀b v,r.tok b=some v->(r.add s).tok b=some v:=fun b v c=>by simp[cH.add,c]
 have t2:∀b v,s.tok b=some v->(r.add s).tok b=some v:=fun b v c=>by
  rcases d.tok b with h|h;simp[cH.add,h,c];grind
 have c3:∀b o v,(r.add s).cell b o=some v->r.cell b o=some v\/s.cell b o=some v:=fun b o v c=>by
  simp only[cH.add] at c;cases hr:r.cell b o with
  |none=>grind
  |some u=>grind
 have t3:∀b v,(r.add s).tok b=some v->r.tok b=some v\/s.tok b=some v:=fun b v c=>by
  simp only[cH.add] at c;cases hr:r.tok b with
  |none=>grind
  |some u=>grind
 constructor;intro i;exact⟨⟨fun b o v c=>i.cell b o v (g _ _ _ c),fun b c=>i.free b (t1 _ _ c),fun b e x n c=>i.mt b e x n (t1 _ _ c),fun b o c=>i.M6 b o (t1 _ _ c)⟩,
     ⟨fun b o v c=>i.cell b o v (c2 _ _ _ c),fun b c=>i.free b (t2 _ _ c),fun b e x n c=>i.mt b e x n (t2 _ _ c),fun b o c=>i.M6 b o (t2 _ _ c)⟩⟩
 intro⟨i,j⟩;refine⟨fun b o v c=>?_,fun b c=>?_,fun b e x n c=>?_,fun b o c=>?_⟩;rcases c3 _ _ _ c with h|h;exact i.cell b o v h;exact j.cell b o v h;rcases t3 _ _ c with h|h;exact i.free b h;exact j.free b h;rcases t3 _ _ c with h|h;exact i.mt b e x n h;exact j.mt b e x n h;rcases t3 _ _ c with h|h;exact i.M6 b o h;exact j.M6 b o h
abbrev HP:=cH->Prop
def star:List HP->cH->Prop
 |[],r=>r=cH.emp
 |A::L,r=>∃c g,A c/\star L g/\c.uV g/\r=c.add g
theorem Fp {L L':List HP} (p:L.Perm L'):∀r,star L r->star L' r:=by
 induction p with
 |nil=>exact fun _ h=>h
 |cons A _ w=>exact fun r ⟨c,m,g,q,i,j⟩=>⟨c,m,g,w _ q,i,j⟩
 |swap A B L=>
  intro r ⟨c,m,g,⟨r3,o,s,t,u,v⟩,i,j⟩;subst v;subst j;obtain⟨d1,d2⟩:=cH.iC.1 i;refine⟨r3,c.add o,s,⟨c,o,g,t,d2,rfl⟩,cH.iC.2 ⟨d1.symm,u⟩,?_⟩;rw[<-cH.add_assoc,<-cH.add_assoc,cH.add_comm d1]
 |trans _ _ z C=>grind
theorem iM {L M:List HP}:∀{r},star (L++M) r↔∃c g,star L c/\star M g/\c.uV g/\r=c.add g:=by
 induction L with
 |nil=>intro r;exact⟨fun h=>⟨cH.emp,r,rfl,h,cH.dG,cH.fQ.symm⟩,fun⟨c,g,j,m,o,i⟩=>by cases j;rw[cH.fQ] at i;subst i;exact m⟩
 |cons A L v=>
  intro r;constructor;intro⟨c,g,j,m,o,i⟩;obtain⟨r3,q,s,t,u,w⟩:=v.1 m;subst w;obtain⟨d1,d2⟩:=cH.iC.1 o;exact⟨c.add r3,q,⟨c,r3,j,s,d1,rfl⟩,t,(cH.iC.2 ⟨d2.symm,u.symm⟩).symm,by rw[i,cH.add_assoc]⟩;intro⟨c,g,⟨r3,q,j,m,o,i⟩,s,t,u⟩;subst i;obtain⟨d1,d2⟩:=cH.iC.1 t.symm;exact⟨r3,q.add g,j,v.2 ⟨q,g,m,s,d2.symm,rfl⟩,cH.iC.2 ⟨o,d1.symm⟩,by rw[u,cH.add_assoc]⟩
structure Bg where
 base:Nat
 old:Nat->Option mR
 hb:Nat
structure Hs (G:Bg) (h:AH) (L:List HP):Prop where
 base:h.base=G.hb/\G.hb<=G.base
 old:∀i,i<G.base->h.get i=G.old i
 wf:G.base<=h.next
 fr:∀i,h.next<=i->h.get i=none
 res:∃r,star L r/\r.In G.base h
variable {P:Program} {K:FuncId->List Value->Option iJ} {G:Bg} {h:AH} {L L' M:List HP}
theorem Hs.le (c:Hs G h L):h.base<=G.base:=by rw[c.base.1];exact c.base.2
theorem Hs.perm (c:Hs G h L) (p:L.Perm L'):Hs G h L':=⟨c.base,c.old,c.wf,c.fr,let⟨r,g,i⟩:=c.res;⟨r,Fp p r g,i⟩⟩
theorem Hs.tail {A:HP} (c:Hs G h (A::L)):Hs G h L:=⟨c.base,c.old,c.wf,c.fr,let⟨_,⟨_,o,_,g,i,j⟩,m⟩:=c.res;⟨o,g,((cH.eY i).1 (j▸m)).2⟩⟩
theorem Hs.imp {A:HP} {B:List HP} (c:Hs G h (A::L)) (k:∀r,A r->star B r):Hs G h (B++L):=⟨c.base,c.old,c.wf,c.fr,let⟨r,⟨g,s,i,j,m,o⟩,q⟩:=c.res;⟨r,iM.2 ⟨g,s,k g i,j,m,o⟩,q⟩⟩
theorem Hs.join {A:List HP} {B:HP} (c:Hs G h (A++L)) (k:∀r,star A r->B r):Hs G h (B::L):=⟨c.base,c.old,c.wf,c.fr,let⟨r,g,q⟩:=c.res;let⟨i,s,g,j,m,o⟩:=iM.1 g;⟨r,⟨i,s,k i g,j,m,o⟩,q⟩⟩
class Has {α:Type} (R:α->HP) (L:List HP) (a:outParam α) (L':outParam (List HP)):Prop where
 perm:L.Perm (R a::L')
instance (priority:=low) Has.there {α:Type} {R:α->HP} {A:HP} {a:α} [k:Has R L a L']:Has R (A::L) a (A::L'):=⟨(k.perm.cons A).trans (List.Perm.swap _ _ _)⟩
instance (priority:=high) Has.here {α:Type} {R:α->HP} {a:α}:Has R (R a::L) a L:=⟨List.Perm.refl _⟩
instance (priority:=high) Has.app {α:Type} {R:α->HP} {A:HP} {c L2:List HP} {a:α} [k:Has R (A::(c++L2)) a L']:Has R ((A::c)++L2) a L':=k
instance (priority:=high) Has.aF1 {α:Type} {R:α->HP} {L2:List HP} {a:α} [k:Has R L2 a L']:Has R ([]++L2) a L':=k
def Dx (b o:Nat) (c:List Value):cH:=⟨fun i g=>if i=b/\o<=g then c[g - o]? else none,fun _=>none⟩
def aF (b o:Nat) (c:List Value):HP:=fun r=>r=Dx b o c
def mt (b:Nat) (m:TypeId×Bool×Nat):HP:=fun r=>r=⟨fun _ _=>none,fun c=>if c=b then some (.mt m.1 m.2.1 m.2.2) else none⟩
def ot (b:Nat) (o:mR):HP:=fun r=>r=⟨fun _ _=>none,fun c=>if c=b then some (.M6 o) else none⟩
def frs (c n:Nat) (D:List Nat):HP:=fun r=>r=⟨fun _ _=>none,fun b=>if c<=b/\b<c+n/\(b - c)∉D then some .free else none⟩
theorem pC {b o:Nat} {c:List Value} {g o':Nat}:(Dx b o c).cell g o'=if g=b/\o<=o' then c[o' - o]? else none:=rfl
theorem Gz {b o:Nat} {c d:List Value}:Dx b o (c++d)=(Dx b o c).add (Dx b (o+c.length) d):=by
 refine cH.ext' (fun g i=>?_) (fun _=>rfl);simp only[cH.add,pC];grind
theorem jy {b o:Nat} {c d:List Value}:(Dx b o c).uV (Dx b (o+c.length) d):=by
 refine⟨fun g i=>?_,fun _=> .inl rfl⟩;simp only[pC];grind
theorem A0 {b o:Nat} {c d:List Value} (r:cH):aF b o (c++d) r↔star [aF b o c,aF b (o+c.length) d] r:=by
 constructor;intro t;cases t;exact⟨_,_,rfl,⟨_,cH.emp,rfl,rfl,cH.dG.symm,rfl⟩,by rw[cH.add_comm cH.dG.symm,cH.fQ];exact jy,by rw[cH.add_comm (s:=cH.emp) cH.dG.symm,cH.fQ,Gz]⟩;intro⟨w,z,i,⟨r3,A,j,m,v,q⟩,u,g⟩;cases i;cases j;cases m;subst q;rw[cH.add_comm (s:=cH.emp) cH.dG.symm,cH.fQ] at g;rw[<-Gz] at g;exact g
theorem Hs.split {b o:Nat} {c d:List Value} (g:Hs G h (aF b o (c++d)::L)):Hs G h (aF b o c::aF b (o+c.length) d::L):=g.imp (B:=[_,_]) fun r=>(A0 r).1
theorem Hs.H8 {b o o':Nat} {c d:List Value} (i:Hs G h (aF b o c::aF b o' d::L)) (g:o'=o+c.length):Hs G h (aF b o (c++d)::L):=by
 subst g;exact Hs.join (A:=[_,_]) i fun r=>(A0 r).2
theorem Hs.cellAt {b o j:Nat} {c:List Value} {v:Value} (s:Hs G h (aF b o c::L)) (hc:c[j]?=some v):
  G.base<=b/\∃g e x,h.get b=some (.cells g e (0,0) x)/\g[o+j]?=some v:=by
 obtain⟨_,⟨u,w,i,t,m,q⟩,r⟩:=s.res
 cases i
 subst q
 have:=((cH.eY m).1 r).1.cell b (o+j) v (by rw[pC,aNa ⟨rfl,by omega⟩];grind)
 exact this
theorem Hs.cells {b o:Nat} {c:List Value} (q:Hs G h (aF b o c::L)) (m:0<c.length):
  G.base<=b/\∃i e x,h.get b=some (.cells i e (0,0) x)/\o+c.length<=i.length/\∀j,j<c.length->i[o+j]?=c[j]?:=by
 obtain⟨r,i,e,x,s,w⟩:=q.cellAt (j:=0) (List.getElem?_eq_getElem m)
 have g:∀j,j<c.length->i[o+j]?=c[j]?:=fun j u=>by
  obtain⟨_,c2,v,B,t,A⟩:=q.cellAt (j:=j) (List.getElem?_eq_getElem u);grind
 refine⟨r,i,e,x,s,?_,g⟩
 have z:=g (c.length - 1) (by omega)
 grind
theorem cH.In.of {r:cH} {B:Nat} {h h':AH} (i:r.In B h) (_s:h'.base=h.base) (u:h.next<=h'.next) (t:∀b,(r.tok b≠none\/∃o,r.cell b o≠none)->h'.get b=h.get b):r.In B h' where
 cell:=fun b o v g=>by
  obtain⟨j,c,e,x,m,q⟩:=i.cell b o v g;grind
 free:=fun b g=>by
  obtain⟨j,m,q⟩:=i.free b g;grind
 mt:=fun b e x n g=>by
  obtain⟨j,c,m,q⟩:=i.mt b e x n g;grind
 M6:=fun b o g=>by
  obtain⟨j,m,q⟩:=i.M6 b o g;grind
theorem Hs.write {b o j:Nat} {c vs:List Value} (t:Hs G h (aF b o c::L)) (hl:j+vs.length<=c.length) (hv:vs.all dV=true) (I:0<c.length):
  ∃Q,dI h ⟨b,o+j,none⟩ vs=some Q/\Hs G Q (aF b o (bV c j vs)::L):=by
 obtain⟨R,z,e,x,B,U,A⟩:=t.cells I
 have w:h.base<=b:=Nat.le_trans t.le R
 refine⟨h.set b (some (.cells (bV z (o+j) vs) e (0,0) x)),?_,?_⟩
 .simp only[dI,Option.isSome_none,Bool.false_or,hv,Bool.not_true,Bool.or_false,B];grind
 .obtain⟨_,⟨r1,O,u,E,F,X⟩,Y⟩:=t.res;cases u;subst X;obtain⟨i1,i2⟩:=(cH.eY F).1 Y;have m:∀i,(h.set b (some (.cells (bV z (o+j) vs) e (0,0) x))).get i=if i=b then some (.cells (bV z (o+j) vs) e (0,0) x) else h.get i:=fun i=>AH.gM w
  have N:∀k,(bV z (o+j) vs)[k]?=if o+j<=k/\k<o+j+vs.length then vs[k - (o+j)]? else z[k]?:=fun k=>by
   unfold bV;by_cases u:k<o+j;grind;by_cases E:k<o+j+vs.length;grind;rw[aab,List.getElem?_append_right (by simp;omega)];simp only[List.length_append,List.length_take,List.getElem?_drop];congr 1;omega
  have J:∀k,(bV c j vs)[k]?=if j<=k/\k<j+vs.length then vs[k - j]? else c[k]?:=fun k=>by
   unfold bV;by_cases u:k<j;grind;by_cases E:k<j+vs.length;grind;rw[aab,List.getElem?_append_right (by simp;omega)];simp only[List.length_append,List.length_take,List.getElem?_drop];congr 1;omega
  have V:(bV c j vs).length=c.length:=by simp[bV];omega
  have S:(Dx b o (bV c j vs)).uV O:=by
   refine⟨fun q r=>?_,fun _=> .inl rfl⟩;rcases F.cell q r with h|h;left;rw[pC] at h ⊢;grind;exact .inr h
  have Z:b<h.next:=by
   rcases Nat.lt_or_ge b h.next with u|u
   exact u;rw[t.fr b u] at B;cases B
  refine⟨by simp;exact t.base,fun i D=>by rw[m,aab];exact t.old i D,by simp;exact t.wf,fun i D=>by simp at D;rw[m,aab];exact t.fr i D,_,⟨_,O,rfl,E,S,rfl⟩,(cH.eY S).2 ⟨?_,?_⟩⟩
  .refine⟨fun q r v g=>?_,fun _ C=>by simp[Dx] at C,fun _ _ _ _ C=>by simp[Dx] at C,fun _ _ C=>by simp[Dx] at C⟩;rw[pC] at g;split at g
   .rename_i hc;obtain⟨rfl,ho⟩:=hc;refine⟨R,_,e,x,by rw[m,aNa rfl],?_⟩;rw[N];rw[J] at g;split at g
    .rename_i T;rw[aae,show r - (o+j)=r - o - j by omega];exact g
    .rename_i T;rw[aab];have H:r - o<c.length:=(List.getElem?_eq_some_iff.1 g).1;have:=A (r - o) H;rw[show o+(r - o)=r by omega] at this;rw[this];exact g
   .cases g
  .have α:∀q r v,O.cell q r=some v->q=b->¬(o+j<=r/\r<o+j+vs.length):=by
    intro q r v g s T;subst s;rcases F.cell q r with h|h;rw[pC,aNa ⟨rfl,by omega⟩,List.getElem?_eq_none_iff] at h;omega;grind
   refine⟨fun q r v g=>?_,fun q g=>?_,fun q W x' n g=>?_,fun q ob g=>?_⟩
   .obtain⟨g1,c2,e2,x2,g2,g3⟩:=i2.cell q r v g;refine⟨g1,?_⟩;grind
   .obtain⟨g1,g2,g3⟩:=i2.free q g;refine⟨g1,by simp;exact g2,?_⟩;grind
   .obtain⟨g1,c2,g2,g3⟩:=i2.mt q W x' n g;refine⟨g1,?_⟩;rw[m];by_cases s:q=b
    .rw[aNa s];rw[s,B] at g2;cases g2;exact⟨_,rfl,by simp[bV];omega⟩
    grind
   .obtain⟨g1,g2,g3⟩:=i2.M6 q ob g;refine⟨g1,?_,g3⟩;rw[m,aN9 (by intro s;subst s;rw[B] at g2;cases g2;simp[Ja] at g3)];exact g2
theorem eb {r:cH} {B:Nat} {h:AH} {i:Nat} (q:r.In B h) (m:h.get i=none) (s:r.tok i=none) {c:List Value} {t:Option Tok}:
  (⟨fun b o=>if b=i then c[o]? else none,fun b=>if b=i then t else none⟩:cH).uV r:=by
 refine⟨fun b o=>?_,fun b=>?_⟩
 .by_cases j:b=i
  .right;subst j;cases hc:r.cell b o with
   |none=>rfl
   |some v=>obtain⟨_,_,_,_,g,_⟩:=q.cell b o v hc;rw[m] at g;cases g
  .left;simp[j]
 grind
def jF (i:Nat) (c:List Value) (t:Option Tok):cH:=⟨fun b o=>if b=i then c[o]? else none,fun b=>if b=i then t else none⟩
theorem pK {i:Nat} {c:List Value} {e:TypeId} {x:Bool}:star [aF i 0 c,mt i (e,x,c.length)] (jF i c (some (.mt e x c.length))):=by
 refine⟨Dx i 0 c,_,rfl,⟨_,cH.emp,rfl,rfl,cH.dG.symm,rfl⟩,?_,?_⟩;rw[cH.add_comm (s:=cH.emp) cH.dG.symm,cH.fQ];exact⟨fun _ _=> .inr rfl,fun _=> .inl rfl⟩;rw[cH.add_comm (s:=cH.emp) cH.dG.symm,cH.fQ];refine cH.ext' (fun b o=>?_) (fun b=>?_);simp[jF,cH.add,Dx];simp[jF,cH.add,Dx]
theorem Hs.new {c:List Value} {e:TypeId} {x:Bool} (s:Hs G h L):Hs G (h.alloc (.cells c e (0,0) x)) (aF h.next 0 c::mt h.next (e,x,c.length)::L):=by
 obtain⟨r,F,z⟩:=s.res;have w:h.get h.next=none:=s.fr _ (Nat.le_refl _)
 have A:r.tok h.next=none:=by
  cases ht:r.tok h.next with
  |none=>rfl
  |some t=>
   cases t with
   |free=>have:=(z.free _ ht).2.1;omega
   |mt E H n=>obtain⟨_,_,g,_⟩:=z.mt _ _ _ _ ht;grind
   |M6 o=>obtain⟨_,g,_⟩:=z.M6 _ _ ht;grind
 have D:(jF h.next c (some (.mt e x c.length))).uV r:=eb z w A;have m:∀j,(h.alloc (.cells c e (0,0) x)).get j=if j=h.next then some (.cells c e (0,0) x) else h.get j:=fun j=>AH.wW (Nat.le_trans s.le s.wf)
 refine⟨s.base,fun i C=>(by rw[m,aN9 (by have:=s.wf;omega)];exact s.old i C),Nat.le_succ_of_le s.wf,fun i C=>by simp at C;rw[m,aab];exact s.fr i (by omega),(jF h.next c (some (.mt e x c.length))).add r,(iM (L:=[aF h.next 0 c,mt h.next (e,x,c.length)])).2 ⟨_,r,pK,F,D,rfl⟩,(cH.eY D).2 ⟨?_,?_⟩⟩;refine⟨fun b o v q=>?_,fun b q=>?_,fun b E H n q=>?_,fun b o q=>?_⟩;simp only[jF] at q;split at q;rename_i u;subst u;exact⟨s.wf,c,e,x,by rw[m,aNa rfl],q⟩;cases q;simp only[jF] at q;grind;simp only[jF] at q;split at q;rename_i u;subst u;cases q;exact⟨s.wf,c,by rw[m,aNa rfl],rfl⟩;cases q;simp only[jF] at q;grind;refine z.of rfl (by simp) fun b u=>?_;rw[m,aN9];intro B;subst B;rcases u with u|⟨o,u⟩;exact u A;apply u;cases hc:r.cell h.next o with
 |none=>rfl
 |some v=>obtain⟨_,_,_,_,g,_⟩:=z.cell _ o v hc;grind
end
end Go.Ab
section
namespace Go.Ab
variable {P:Program} {K:FuncId->List Value->Option iJ} {G:Bg} {h:AH} {L L' M:List HP}
theorem Has.of {α:Type} {R:α->HP} {a:α} (m:Has R L a L') (c:Hs G h L):Hs G h (R a::L'):=c.perm m.perm
def tW (h:AH) (_i:Nat) (e:TypeId) (l:List Value) (n c:Nat) (k:Value->AH->Prop):Prop:=Bj h (.cells l e (0,0) true) fun p g=>k (.slice (some ⟨p,0,none⟩) n c) g
def jJ (h:AH) (r:Nat) (_i:Nat) (e:TypeId) (l:List Value) (n c:Nat) (k:Value->AH->Prop):Prop:=kK h r (.cells l e (0,0) true) fun p g=>k (.slice (some ⟨p,0,none⟩) n c) g
def lp (P:Program) (f:FuncId) (p:List Nat) (n:Nat) (e:Nat->Value) (d:Nat) (st:LoopState) (pd:Option Code):mR:=
 .loop st pd f ((List.range n).map e) (rgF (cd P f p)).2.1 (rgF (cd P f p)).2.2.1 (rgF (cd P f p)).2.2.2 d
theorem Hs.Zg (c:Hs G h L) {b:Nat} (hb:b<G.base):h.get b=G.old b:=by
 exact c.old b hb
structure Ob (G:Bg) (b:Nat) (c:List Value):Prop where
 lt:b<G.base
 get:∃e fz x,G.old b=some (.cells c e fz x)
theorem aC {b o j:Nat} {c:List Value} {v:Value} {k:Value->Prop} (r:Hs G h L) [m:Has (aF b o) L c L'] (hc:c[j]?=some v) (q:k v):aY (oM h (pt b o j)) k:=by
 obtain⟨_,s,e,x,i,g⟩:=(m.of r).cellAt hc;exact⟨v,by simp[oM,pt,i,g],q⟩
theorem am (b:Nat) {j:Nat} {c:List Value} {v:Value} {k:Value->Prop} (r:Hs G h L) [m:Has (aF b 0) L c L'] (hc:c[j]?=some v) (q:k v):aY (oM h (pt b 0 j)) k:=aC (b:=b) (o:=0) r hc q
theorem uJ {b o j:Nat} {c:List Value} {v:Value} {k:Value->Prop} (q:Hs G h L) (g:Ob G b c) (hc:c[o+j]?=some v) (m:k v):aY (oM h (pt b o j)) k:=by
 obtain⟨e,r,x,i⟩:=g.get;exact⟨v,by simp[oM,pt,q.Zg g.lt,i,hc],m⟩
theorem aN {b o j n:Nat} {c l:List Value} {k:Value->Prop} (s:Hs G h L) [m:Has (aF b o) L c L'] (z:0<n) (hc:(c.drop j).take n=l) (w:l.length=n) (r:k (.agg ⟨l⟩)):aY (tU h n (pt b o j)) k:=by
 have g:j+n<=c.length:=by
  grind
 obtain⟨_,t,e,x,q,u,v⟩:=(m.of s).cells (by omega);refine⟨.agg ⟨l⟩,?_,r⟩;simp only[tU,pt,bZ,Option.isSome_none,Bool.false_eq_true,if_false,q];rw[aae];simp only[Option.map_some,Option.some.injEq,Value.agg.injEq,Array.mk.injEq];rw[<-hc];refine List.ext_getElem? fun i=>?_;grind
theorem an (b:Nat) {j n:Nat} {c l:List Value} {k:Value->Prop} (s:Hs G h L) [m:Has (aF b 0) L c L'] (hc:(c.drop j).take n=l) (w:l.length=n) (r:k (.agg ⟨l⟩)) (z:0<n:=by decide):aY (tU h n (pt b 0 j)) k:=aN (b:=b) (o:=0) s z hc w r
theorem bf {b o j n:Nat} {c l:List Value} {k:Value->Prop} (q:Hs G h L) (g:Ob G b c) (hc:(c.drop (o+j)).take n=l) (s:l.length=n) (hb:o+j<=c.length) (m:k (.agg ⟨l⟩)):aY (tU h n (pt b o j)) k:=by
 obtain⟨e,r,x,i⟩:=g.get;have:=congrArg List.length hc;simp at this;exact⟨.agg ⟨l⟩,by simp[tU,pt,bZ,q.Zg g.lt,i,hc];omega,m⟩
def dH:List Value->Nat->List Value->List Value
 |c,0,[]=>c
 |[],0,_::_=>[]
 |_::c,0,v::g=>v::dH c 0 g
 |[],_+1,_=>[]
 |x::c,j+1,g=>x::dH c j g
theorem qQ:∀(c:List Value) (j:Nat) (vs:List Value),j+vs.length<=c.length->bV c j vs=dH c j vs
 |c,0,[],_=>by cases c<;>simp[bV,dH]
 |[],0,_::_,h=>by simp at h
 |x::c,0,v::vs,h=>by
  have:=qQ c 0 vs (by simp at h ⊢;omega);simp only[dH];rw[<-this];simp[bV]
 |[],j+1,vs,h=>by simp at h
 |x::c,j+1,vs,h=>by
  have:=qQ c j vs (by simp at h ⊢;omega);simp only[dH];rw[<-this];simp only[bV,List.take_succ_cons,List.cons_append];grind
theorem aIs {b o j n:Nat} {c vs:List Value} {v:Value} {k:AH->Prop} (w:Hs G h L) [m:Has (aF b o) L c L'] (z:iE v=some vs) (u:vs.length=n) (q:Nat.ble (j+n) c.length=true) (hb:vs.all dV=true) (r:Nat.ble 1 c.length=true)
  (t:∀g,Hs G g (aF b o (dH c j vs)::L')->k g):aY (tZ h n (pt b o j) v) k:=by
 have q:=Nat.le_of_ble_eq_true q
 obtain⟨g,s,i⟩:=(m.of w).write (j:=j) (vs:=vs) (by omega) hb (Nat.le_of_ble_eq_true r)
 rw[qQ _ _ _ (by omega)] at i
 exact⟨g,by simp[tZ,pt,z,u,s],t _ i⟩
theorem bG {cs:List Value} {e:TypeId} {k:Nat->AH->Prop} (j:Hs G h L) (i:∀p g,Hs G g (aF p 0 cs::L)->k p g):Bj h (.cells cs e (0,0) true) k:=
 i _ _ (let t:=j.new (c:=cs) (e:=e) (x:=true);(t.perm (List.Perm.swap _ _ _)).tail)
theorem aJu {cs:List Value} {e:TypeId} {v:Value} {k:Nat->AH->Prop} (i:Hs G h L) (j:iE v=some cs) (g:∀p c,Hs G c (aF p 0 cs::L)->k p c):aY (jD e v) fun b=>Bj h b k:=
 ⟨.cells cs e (0,0) true,by simp[jD,j],bG i g⟩
def ia (r:Nat) (x:Nat×List Nat):HP:=frs r x.1 x.2
theorem aCi {n:Nat} {k:Nat->AH->Prop} (c:Hs G h L) (C:∀r u,Hs G u (ia r (n,[])::L)->k r u):wS h n k:=by
 refine C _ _ ?_;obtain⟨r,A,j⟩:=c.res;have w:∀i,({h with next:=h.next+n}:AH).get i=h.get i:=fun i=>rfl;refine⟨c.base,c.old,Nat.le_trans c.wf (Nat.le_add_right _ _),fun i B=>by rw[w];exact c.fr i (Nat.le_trans (Nat.le_add_right _ _) B),_,⟨_,r,rfl,A,?_,rfl⟩,(cH.eY ?_).2 ⟨?_,?_⟩⟩;rotate_right;exact j.of rfl (Nat.le_add_right _ _) fun _ _=>rfl;have s:∀b,h.next<=b->r.tok b=none:=fun b q=>by
  cases ht:r.tok b with
  |none=>rfl
  |some t=>
   cases t with
   |free=>have:=(j.free _ ht).2.1;omega
   |mt z D n=>obtain⟨_,_,g,_⟩:=j.mt _ _ _ _ ht;rw[c.fr b q] at g;cases g
   |M6 o=>obtain⟨_,g,_⟩:=j.M6 _ _ ht;rw[c.fr b q] at g;cases g
 refine⟨fun _ _=> .inl rfl,fun b=>?_⟩;grind;have s:∀b,h.next<=b->r.tok b=none:=fun b q=>by
  cases ht:r.tok b with
  |none=>rfl
  |some t=>
   cases t with
   |free=>have:=(j.free _ ht).2.1;omega
   |mt z D n=>obtain⟨_,_,g,_⟩:=j.mt _ _ _ _ ht;rw[c.fr b q] at g;cases g
   |M6 o=>obtain⟨_,g,_⟩:=j.M6 _ _ ht;rw[c.fr b q] at g;cases g
 refine⟨fun _ _=> .inl rfl,fun b=>?_⟩;grind;refine⟨fun _ _ _ m=>(by cases m),fun b m=>?_,fun b e x n m=>?_,fun b o m=>?_⟩;simp only at m;split at m;rename_i v;have:=c.wf;exact⟨by grind,v.2.1,by rw[w];exact c.fr b v.1⟩;cases m;grind;grind
def Nj (c:Bool) (g:List Nat) (op:BinOp) (a b:Value) (q:Value->Prop):Prop:=c=true/\aY (J1 g op a b) q
def Oy (c:Bool) (h:AH) (n:Nat) (k:Nat->AH->Prop):Prop:=c=true/\wS h n k
theorem aU {c:Bool} {n:Nat} {k:Nat->AH->Prop} (j:Hs G h L) (i:∀r g,Hs G g (ia r (n,[])::L)->k r g) (hc:c=true:=by kernel_rfl):Oy c h n k:=⟨hc,aCi j i⟩
theorem Wi {r n i:Nat} {D:List Nat} (c:i<n) (hD:i∉D):star [fun q=>q=(⟨fun _ _=>none,fun b=>if b=r+i then some .free else none⟩:cH),frs r n (i::D)] ⟨fun _ _=>none,fun b=>if r<=b/\b<r+n/\(b - r)∉D then some .free else none⟩:=by
 refine⟨_,_,rfl,⟨_,cH.emp,rfl,rfl,cH.dG.symm,rfl⟩,?_,?_⟩;rw[cH.add_comm (s:=cH.emp) cH.dG.symm,cH.fQ];refine⟨fun _ _=> .inl rfl,fun b=>?_⟩;grind;rw[cH.add_comm (s:=cH.emp) cH.dG.symm,cH.fQ];refine cH.ext' (fun _ _=>rfl) (fun b=>?_);simp only[cH.add];grind
theorem Hs.newAt {r n i:Nat} {D:List Nat} {c:List Value} {e:TypeId} {x:Bool} (w:Hs G h (frs r n D::L)) (X:i<n) (hD:i∉D):
  Hs G (h.set (r+i) (some (.cells c e (0,0) x))) (aF (r+i) 0 c::mt (r+i) (e,x,c.length)::frs r n (i::D)::L):=by
 obtain⟨q,⟨r1,Q,S,T,F,U⟩,V⟩:=w.res
 cases S
 subst U
 obtain⟨i1,i2⟩:=(cH.eY F).1 V
 obtain⟨q1,q2,I,⟨q3,q4,J,N,Y,C⟩,W,O⟩:=Wi (r:=r) X hD
 cases I;cases N
 rw[cH.add_comm (s:=cH.emp) cH.dG.symm,cH.fQ] at C
 subst C
 cases J
 rw[O] at i1 F
 obtain⟨i3,i4⟩:=(cH.eY W).1 i1
 obtain⟨fb,fn,R⟩:=i3.free (r+i) (by simp)
 obtain⟨d1,d2⟩:=cH.iC.1 F.symm
 have t:∀j,(h.set (r+i) (some (.cells c e (0,0) x))).get j=if j=r+i then some (.cells c e (0,0) x) else h.get j:=fun j=>AH.gM (Nat.le_trans w.le fb)
 have m:=(cH.eY d2.symm).2 ⟨i4,i2⟩
 have A:((⟨fun _ _=>none,fun b=>if r<=b/\b<r+n/\(b - r)∉(i::D) then some .free else none⟩:cH).add Q).tok (r+i)=none:=by
  simp only[cH.add];rw[aN9 (by grind)];rcases d1.tok (r+i) with h|h;simpa using h;simp at h
 have B:(jF (r+i) c (some (.mt e x c.length))).uV ((⟨fun _ _=>none,fun b=>if r<=b/\b<r+n/\(b - r)∉(i::D) then some .free else none⟩:cH).add Q):=eb m R A
 refine⟨by simp;exact w.base,fun j E=>by rw[t,aab];exact w.old j E,by simp;exact w.wf,fun j E=>by simp at E;rw[t,aab];exact w.fr j E,
    _,(iM (L:=[aF (r+i) 0 c,mt (r+i) (e,x,c.length)])).2 ⟨_,_,pK,⟨_,Q,rfl,T,d2.symm,rfl⟩,B,rfl⟩,(cH.eY B).2 ⟨?_,?_⟩⟩
 .refine⟨fun b o v u=>?_,fun b u=>?_,fun b Z x' n u=>?_,fun b o u=>?_⟩
  .simp only[jF] at u;simp_all
  .simp only[jF] at u;grind
  .simp only[jF] at u;simp_all
  .simp only[jF] at u;grind
 .refine m.of (by simp) (by simp) fun b z=>?_;rw[t,aN9];intro H;subst H;rcases z with z|⟨o,z⟩
  .exact z A
  .apply z;cases hc:cH.cell _ (r+i) o with
   |none=>rfl
   |some v=>obtain⟨_,_,_,_,g,_⟩:=m.cell _ o v hc;rw[R] at g;cases g
theorem aIk {A B:HP} (c:Hs G h (A::B::L)):Hs G h (A::L):=(c.perm (List.Perm.swap _ _ _)).tail
theorem kM {r i n:Nat} {D:List Nat} {cs:List Value} {e:TypeId} {k:Nat->AH->Prop} (j:Hs G h L) [m:Has (ia r) L (n,D) L'] (o:Nat.blt i n=true) (hD:D.contains i=false)
  (g:∀p c,Hs G c (aF p 0 cs::ia r (n,i::D)::L')->k p c):kK h (r+i) (.cells cs e (0,0) true) k:=
 g _ _ (aIk (Hs.newAt (show Hs G h (frs r n D::L') from m.of j) (by simp_all) (by simpa using hD)))
theorem aA9 {r i n:Nat} {D:List Nat} {cs:List Value} {v:Value} {e:TypeId} {k:Nat->AH->Prop} (o:Hs G h L) [m:Has (ia r) L (n,D) L'] (q:iE v=some cs) (g:Nat.blt i n=true) (hD:D.contains i=false)
  (j:∀p c,Hs G c (aF p 0 cs::ia r (n,i::D)::L')->k p c):aY (jD e v) fun b=>kK h (r+i) b k:=
 ⟨.cells cs e (0,0) true,by simp[jD,q],kM o g hD j⟩
theorem Hs.aGz {o:mR} (H:Ja o=true) (q:Hs G h L):Hs G (h.alloc o) (ot h.next o::L):=by
 obtain⟨r,F,w⟩:=q.res;have c:h.get h.next=none:=q.fr _ (Nat.le_refl _)
 have z:r.tok h.next=none:=by
  cases ht:r.tok h.next with
  |none=>rfl
  |some t=>
   cases t with
   |free=>have:=(w.free _ ht).2.1;omega
   |mt E I n=>obtain⟨_,_,g,_⟩:=w.mt _ _ _ _ ht;rw[c] at g;cases g
   |M6 o=>obtain⟨_,g,_⟩:=w.M6 _ _ ht;rw[c] at g;cases g
 have C:(⟨fun _ _=>none,fun D=>if D=h.next then some (.M6 o) else none⟩:cH).uV r:=by
  refine⟨fun _ _=> .inl rfl,fun b=>?_⟩;by_cases s:b=h.next
  right;rw[s];exact z;grind
 have m:∀j,(h.alloc o).get j=if j=h.next then some o else h.get j:=fun j=>AH.wW (Nat.le_trans q.le q.wf)
 refine⟨q.base,fun i B=>(by rw[m,aN9 (by have:=q.wf;omega)];exact q.old i B),Nat.le_succ_of_le q.wf,fun i B=>by simp at B;rw[m,aab];exact q.fr i (by omega),_,⟨_,r,rfl,F,C,rfl⟩,(cH.eY C).2 ⟨?_,?_⟩⟩;refine⟨fun _ _ _ u=>(by cases u),fun b u=>?_,fun b E I n u=>?_,fun b J u=>?_⟩;grind;grind;simp only at u;split at u;rename_i s;subst s;cases u;exact⟨q.wf,by rw[m,aNa rfl],H⟩;cases u;refine w.of rfl (by simp) fun b s=>?_;rw[m,aN9];intro A;subst A;rcases s with s|⟨o,s⟩;exact s z;apply s;cases hc:r.cell h.next o with
 |none=>rfl
 |some v=>obtain⟨_,_,_,_,g,_⟩:=w.cell _ o v hc;rw[c] at g;cases g
theorem Hs.H3 {b:Nat} {o o':mR} (Q:Ja o'=true) (i:Hs G h (ot b o::L)):h.get b=some o/\h.base<=b/\Hs G (h.set b (some o')) (ot b o'::L):=by
 obtain⟨q,⟨R,u,s,F,C,H⟩,I⟩:=i.res;cases s;subst H;obtain⟨i1,i2⟩:=(cH.eY C).1 I;obtain⟨gb,w,r⟩:=i1.M6 b o (by simp);have c:∀j,(h.set b (some o')).get j=if j=b then some o' else h.get j:=fun j=>AH.gM (Nat.le_trans i.le gb)
 have J:b<h.next:=by
  rcases Nat.lt_or_ge b h.next with s|s
  exact s;rw[i.fr b s] at w;cases w
 have B:u.tok b=none:=by rcases C.tok b with h|h;simp at h;exact h
 have N:∀t,u.cell b t=none:=fun t=>by
  cases hc:u.cell b t with
  |none=>rfl
  |some v=>
   obtain⟨_,_,_,_,g,_⟩:=i2.cell _ t v hc;rw[w] at g;cases g;simp[Ja] at r
 have E:(⟨fun _ _=>none,fun m=>if m=b then some (.M6 o') else none⟩:cH).uV u:=by
  refine⟨fun _ _=> .inl rfl,fun m=>?_⟩;by_cases D:m=b;right;rw[D];exact B;grind
 refine⟨w,Nat.le_trans i.le gb,by simp;exact i.base,fun j z=>by rw[c,aab];exact i.old j z,by simp;exact i.wf,fun j z=>by simp at z;rw[c,aab];exact i.fr j z,_,⟨_,u,rfl,F,E,rfl⟩,(cH.eY E).2 ⟨?_,?_⟩⟩;refine⟨fun _ _ _ A=>(by cases A),fun b A=>?_,fun b O S n A=>?_,fun m t A=>?_⟩;grind;grind;simp_all;refine i2.of (by simp) (by simp) fun m D=>?_;grind
def kE (P:Program) (f:FuncId) (p:List Nat) (n:Nat) (e:Nat->Value) (d l:Nat) (x:LoopState×Option Code):HP:=ot l (lp P f p n e d x.1 x.2)
def mk (d:Nat) (_:Unit):HP:=ot d (.marks true)
theorem jM {k:Nat->AH->Prop} (i:Hs G h L) (g:∀d c,Hs G c (mk d ()::L)->k d c):Bj h (.marks true) k:=g _ _ (i.aGz rfl)
theorem lY {f:FuncId} {p:List Nat} {n:Nat} {e:Nat->Value} {d:Nat} {st:LoopState} {pd:Option Code} {k:Nat->AH->Prop} (i:Hs G h L) (g:∀l c,Hs G c (kE P f p n e d l (st,pd)::L)->k l c):Bj h (lp P f p n e d st pd) k:=g _ _ (i.aGz rfl)
theorem iF {k:AH->Prop} (c:k h):aY (bS [] h) k:=⟨h,rfl,c⟩
theorem kN {d:Nat} {g:List Nat} {k:AH->Prop} (t:Hs G h L) [m:Has (mk d) L () L'] (s:∀c,Hs G c L'->aY (bS g c) k):aY (bS (d::g) h) k:=by
 obtain⟨i,j,o⟩:=Hs.H3 (o':= .marks false) rfl (show Hs G h (ot d (.marks true)::L') from m.of t);obtain⟨c,q,r⟩:=s _ o.tail;exact⟨c,by simp only[bS,i,aNa j];exact q,r⟩
theorem aIu {f:FuncId} {p:List Nat} {n:Nat} {e:Nat->Value} {d l:Nat} {st st':LoopState} {pd pd':Option Code} {k:AH->Prop} (q:Hs G h L) [m:Has (kE P f p n e d l) L (st,pd) L'] (o:∀c,Hs G c (kE P f p n e d l (st',pd')::L')->k c):
  aY (cI h l st' (some pd')) k:=by
 obtain⟨g,i,j⟩:=Hs.H3 (o':=lp P f p n e d st' pd') rfl (show Hs G h (ot l (lp P f p n e d st pd)::L') from m.of q)
 exact⟨_,by simp only[cI,g,lp];rw[aNa i];rfl,o _ j⟩
theorem aAb {f:FuncId} {p:List Nat} {n:Nat} {e:Nat->Value} {d l:Nat} {pd:Option Code} {k:AH->Prop} (q:Hs G h L) [m:Has (kE P f p n e d l) L (.ready,pd) L'] (o:∀c,Hs G c (kE P f p n e d l (.busy,pd)::L')->k c):
  aY (iP h l) k:=by
 obtain⟨g,i,j⟩:=Hs.H3 (o':=lp P f p n e d .busy pd) rfl (show Hs G h (ot l (lp P f p n e d .ready pd)::L') from m.of q)
 exact⟨_,by simp only[iP,cI,g,lp];rw[aNa i];rfl,o _ j⟩
theorem zt {f:FuncId} {p:List Nat} {n:Nat} {e:Nat->Value} {d l:Nat} {st:LoopState} {pd:Option Code} {k:Option Code->AH->Prop} (s:Hs G h L) [m:Has (kE P f p n e d l) L (st,pd) L'] (c:st≠.busy) (q:∀g,Hs G g L'->k pd g):
  aY (qM h l) fun r=>k r.1 r.2:=by
 obtain⟨i,j,o⟩:=Hs.H3 (o':=lp P f p n e d .exhausted pd) rfl (show Hs G h (ot l (lp P f p n e d st pd)::L') from m.of s)
 refine⟨(pd,_),?_,q _ o.tail⟩
 simp only[qM,i,lp]
 rw[aN9 c]
 simp only[cI,i,lp]
 rw[aNa j];rfl
theorem sq {f:FuncId} {p:List Nat} {n:Nat} {e:Nat->Value} {d l:Nat} {st:LoopState} {pd:Option Code} {k:Nat->Prop} (i:Hs G h L) [m:Has (kE P f p n e d l) L (st,pd) L'] (g:k d):aY (eP h l) k:=by
 obtain⟨c,_,_⟩:=Hs.H3 (o':= .marks true) rfl (show Hs G h (ot l (lp P f p n e d st pd)::L') from m.of i);exact⟨d,by simp only[eP,c,lp],g⟩
theorem aLy {f:FuncId} {p:List Nat} {n:Nat} {e:Nat->Value} {d l:Nat} {st:LoopState} {pd:Option Code} (c:Hs G h L) [m:Has (kE P f p n e d l) L (st,pd) L']:h.get l=some (lp P f p n e d st pd):=
 (Hs.H3 (o':= .marks true) rfl (show Hs G h (ot l (lp P f p n e d st pd)::L') from m.of c)).1
end Go.Ab
end
section
namespace Go.Ab
variable {P:Program} {K:FuncId->List Value->Option iJ} {G:Bg} {h:AH} {L L' M:List HP}
def cU (W:Nat) (e:TypeId) (a:Option Addr) (cap:Nat) (x:Nat×List Value):HP:=fun r=>
 x.2.length=x.1*W/\x.2.all dV=true/\
 ((x.1=0/\r=cH.emp/\cap=0/\(a=none\/∃b o,a=some ⟨b,o,some 1⟩))\/
  (x.1=0/\cap=0/\∃b o i,a=some ⟨b,o,some 2⟩/\o<=i.length/\r=jF b i (some (.mt e false i.length)))\/
  (x.1<=cap/\∃b g c ex,a=some ⟨b,g.length,none⟩/\g.length+cap*W<=(g++x.2++c).length/\r=jF b (g++x.2++c) (some (.mt e ex (g++x.2++c).length))))
theorem fG {W:Nat} {e:TypeId} (g:Hs G h L):Hs G h (cU W e none 0 (0,[])::L):=by
 refine Hs.join (A:=[]) g fun r c=>?_;exact⟨by simp,rfl,.inl ⟨rfl,c,rfl,.inl rfl⟩⟩
theorem qT {b:Nat} {c:List Value} {e:TypeId} {x:Bool} {r:cH} (h:star [aF b 0 c,mt b (e,x,c.length)] r):r=jF b c (some (.mt e x c.length)):=by
 obtain⟨A,B,g,⟨r3,C,j,m,s,t⟩,o,q⟩:=h;obtain⟨u,v,g1,⟨w,z,g5,g6,g7,g8⟩,g3,g4⟩:=pK (i:=b) (c:=c) (e:=e) (x:=x);cases g;cases j;cases m;cases g1;cases g5;cases g6;grind
theorem dA {W:Nat} {e:TypeId} {l:List Value} {n c:Nat} {k:Value->AH->Prop} (q:Hs G h L) (i:l.length=c*W) (m:n=c) (hb:l.all dV=true)
  (j:∀a g,Hs G g (cU W e (some a) c (n,l)::L)->k (.slice (some a) n c) g):tW h W e l n c k:=by
 subst m
 refine j _ _ ?_
 have:=q.new (c:=l) (e:=e) (x:=true)
 refine Hs.join (A:=[_,_]) this fun r o=>?_
 have:=qT o
 exact⟨i,hb,.inr (.inr ⟨Nat.le_refl _,h.next,[],[],true,rfl,by simp[i],by simpa using this⟩)⟩
theorem gT {W r i N:Nat} {D:List Nat} {e:TypeId} {l:List Value} {n c:Nat} {k:Value->AH->Prop} (u:Hs G h L) [m:Has (ia r) L (N,D) L'] (v:Nat.blt i N=true) (hD:D.contains i=false) (j:l.length=c*W) (s:n=c) (hb:l.all dV=true)
  (o:∀a g,Hs G g (cU W e (some a) c (n,l)::ia r (N,i::D)::L')->k (.slice (some a) n c) g):jJ h (r+i) W e l n c k:=by
 subst s
 refine o _ _ ?_
 have:=Hs.newAt (i:=i) (c:=l) (e:=e) (x:=true) (show Hs G h (frs r N D::L') from m.of u) (by simp_all) (by simpa using hD)
 refine Hs.join (A:=[_,_]) this fun q t=>?_
 have:=qT t
 exact⟨j,hb,.inr (.inr ⟨Nat.le_refl _,r+i,[],[],true,rfl,by simp[j],by simpa using this⟩)⟩
theorem Hs.fst {A:HP} (m:Hs G h (A::L)):∃r c,A r/\star L c/\r.uV c/\r.In G.base h/\c.In G.base h:=by
 obtain⟨q,⟨t,c,o,s,g,i⟩,j⟩:=m.res;subst i;obtain⟨i1,i2⟩:=(cH.eY g).1 j;grind
theorem Hs.Ce {W:Nat} {e:TypeId} {a:Option Addr} {cap:Nat} {x:Nat×List Value} (g:Hs G h (cU W e a cap x::L)):x.2.length=x.1*W:=by
 obtain⟨r,_,c,_⟩:=g.fst;exact c.1
theorem Hs.Ex {W:Nat} {e:TypeId} {a:Option Addr} {cap:Nat} {x:Nat×List Value} (g:Hs G h (cU W e a cap x::L)):x.2.all dV=true:=by
 obtain⟨r,_,c,_⟩:=g.fst;exact c.2.1
theorem Hs.oJ {W:Nat} {e:TypeId} {a:Option Addr} {cap n:Nat} {cs:List Value} (I:Hs G h (cU W e a cap (n,cs)::L)) (h0:0<n):
  ∃b o,a=some ⟨b,o,none⟩/\∃H:HP,Hs G h (aF b o cs::H::L)/\∀Q m M,m.length=cs.length->m.all dV=true->Hs G Q (aF b o m::H::M)->Hs G Q (cU W e a cap (n,m)::M):=by
 have J:∀b (j g:List Value) ex,∀m:List Value,m.length=cs.length->∀r,star [aF b j.length m,fun r=>star [aF b 0 j,aF b (j.length+cs.length) g,mt b (e,ex,(j++cs++g).length)] r] r↔r=jF b (j++m++g) (some (.mt e ex (j++m++g).length)):=by
  intro b j g ex m N r;have e1:(j++cs++g).length=(j++m++g).length:=by simp[N]
  have Z:∀q,star [aF b 0 (j++m++g),mt b (e,ex,(j++m++g).length)] q->star [aF b j.length m,fun r=>star [aF b 0 j,aF b (j.length+cs.length) g,mt b (e,ex,(j++cs++g).length)] r] q:=by
   intro q F;obtain⟨r1,z,R,h2,C,T⟩:=F;have S:=(A0 r1).1 R;obtain⟨s1,s2,g1,⟨s3,s4,g2,g3,g4,g5⟩,g6,g7⟩:=S;have O:=(A0 s1).1 g1;cases g3;rw[cH.add_comm (s:=cH.emp) cH.dG.symm,cH.fQ] at g5;subst g5;have D:star ([aF b 0 j,aF b (0+j.length) m]++([aF b (0+(j++m).length) g]++[mt b (e,ex,(j++m++g).length)])) q:=by
    refine iM.2 ⟨s1,s2.add z,O,iM.2 ⟨s2,z,⟨s2,cH.emp,g2,rfl,cH.dG.symm,by rw[cH.add_comm (s:=cH.emp) cH.dG.symm,cH.fQ]⟩,h2,?_,rfl⟩,?_,?_⟩;rw[g7] at C;exact(cH.iC.1 C.symm).2.symm;rw[g7] at C;exact cH.iC.2 ⟨g6,(cH.iC.1 C.symm).1.symm⟩;rw[T,g7,cH.add_assoc]
   have hp:star ([aF b (0+j.length) m]++[aF b 0 j,aF b (0+(j++m).length) g,mt b (e,ex,(j++m++g).length)]) q:=Fp (List.Perm.swap _ _ _) q D;obtain⟨u1,u2,w1,w2,w3,w4⟩:=iM.1 hp;rw[Nat.zero_add] at w1;obtain⟨v1,v2,x1,x2,x3,x4⟩:=w1;cases x2;rw[cH.add_comm (s:=cH.emp) cH.dG.symm,cH.fQ] at x4;subst x4;refine⟨u1,u2,x1,⟨u2,cH.emp,?_,rfl,cH.dG.symm,by rw[cH.add_comm (s:=cH.emp) cH.dG.symm,cH.fQ]⟩,w3,w4⟩;grind
  constructor;intro v;have hb:=Z _ (pK (i:=b) (c:=j++m++g) (e:=e) (x:=ex));obtain⟨r1,z,R,⟨r3,r4,h5,h6,h7,h8⟩,C,T⟩:=v;obtain⟨q1,q2,g1,⟨q3,q4,g5,g6,g7,g8⟩,g3,g4⟩:=hb;cases R;cases g1;cases h6;cases g6;rw[cH.add_comm (s:=cH.emp) cH.dG.symm,cH.fQ] at h8 g8;subst h8;subst g8;have:z=q2:=by
   obtain⟨a1,a2,b1,⟨a3,a4,b2,⟨a5,a6,b3,b4,b5,b6⟩,b7,b8⟩,b9,α⟩:=h5;obtain⟨c1,c2,d1,⟨c3,c4,d2,⟨c5,c6,d3,d4,d5,d6⟩,d7,d8⟩,d9,d10⟩:=g5;cases b1;cases b2;cases b3;cases b4;cases d1;cases d2;cases d3;cases d4;grind
  rw[T,g4,this];intro v;subst v;exact Z _ pK
 obtain⟨r,z,v,V,hd,hi,U⟩:=I.fst
 obtain⟨N,hc,v⟩:=v
 simp only at N hc
 rcases v with⟨Y,_⟩|⟨Y,_⟩|⟨E,b,j,g,ex,rfl,hle,X⟩
 .simp at Y;omega
 .simp at Y;omega
 .refine⟨b,j.length,rfl,fun r=>star [aF b 0 j,aF b (j.length+cs.length) g,mt b (e,ex,(j++cs++g).length)] r,?_,?_⟩
  .have w:Hs G h ((fun r=>r=jF b (j++cs++g) (some (.mt e ex (j++cs++g).length)))::L):=⟨I.base,I.old,I.wf,I.fr,_,⟨r,z,X,V,hd,rfl⟩,(cH.eY hd).2 ⟨hi,U⟩⟩;exact w.imp (B:=[_,_]) fun q F=>(J b j g ex cs rfl q).2 F
  .intro Q m M u t w;refine Hs.join (A:=[_,_]) w fun q F=>?_;have:=(J b j g ex m u q).1 F;refine⟨by rw[u];exact N,t,.inr (.inr ⟨E,b,j,g,ex,rfl,?_,this⟩)⟩;grind
theorem xY {b B:Nat} {c:List Value} {e:TypeId} {x:Bool} {r:cH} (i:(jF b c (some (.mt e x c.length))).In B h) (_g:r.In B h):B<=b/\h.get b=some (.cells c e (0,0) x):=by
 obtain⟨o,s,q,u⟩:=i.mt b e x c.length (by simp[jF]);refine⟨o,?_⟩;rw[q];congr 2;refine List.ext_getElem? fun j=>?_;rcases Nat.lt_or_ge j c.length with m|m;obtain⟨_,c2,t,v,g1,g2⟩:=i.cell b j c[j] (by simp[jF,m]);grind;grind
theorem Hs.kill {b:Nat} {c c2:List Value} {e e2:TypeId} {x x2:Bool} (s:Hs G h ((fun r=>r=jF b c (some (.mt e x c.length)))::L)):Hs G ((h.set b none).alloc (.cells c2 e2 (0,0) x2)) ((fun r=>r=jF h.next c2 (some (.mt e2 x2 c2.length)))::L):=by
 obtain⟨r,u,B,C,E,q,m⟩:=s.fst;subst B;obtain⟨w,N⟩:=xY q m;have H:=Nat.le_trans s.le w;have g:∀j,(h.set b none).get j=if j=b then none else h.get j:=fun j=>AH.gM H
 have I:∀j,(u.tok j≠none\/∃o,u.cell j o≠none)->j≠b:=by
  intro j F z;subst z;rcases F with t|⟨o,t⟩;rcases E.tok j with h|h;simp[jF] at h;exact t h;rcases E.cell j o with h|h;simp only[jF,if_true] at h;cases hc:u.cell j o with
  |none=>exact t hc
  |some v=>
   obtain⟨_,J,_,_,g1,g2⟩:=m.cell j o v hc;grind
  exact t h
 have D:Hs G (h.set b none) L:=by
  refine⟨by simp;exact s.base,fun i q=>by rw[g,aab];exact s.old i q,by simp;exact s.wf,fun i q=>by simp at q;rw[g];split;rfl;exact s.fr i q,u,C,?_⟩;exact m.of (by simp) (by simp) fun j F=>by grind
 have:=D.new (c:=c2) (e:=e2) (x:=x2);rw[AH.zm] at this;exact Hs.join (A:=[_,_]) this fun r B=>qT B
theorem oE {a:Option Addr} {n c:Nat}:tP (.slice a n c)=some n:=rfl
theorem qm {W bytes:Nat} {e:TypeId} {a:Option Addr} {c n m:Nat} {cs ns:List Value} {src:Value} {k:Value->AH->Prop} (C:Hs G h L) [mm:Has (cU W e a c) L (n,cs) L']
  (v:tP src=some m) (z:fA h W m src=some ns) (η:ns.all dV=true) (ξ:ns.length=m*W) (S:(n+m)*(bytes+1)<=2^46)
  (hk:∀a' c' h',Hs G h' (cU W e a' c' (n+m,cs++ns)::L')->k (.slice a' (n+m) c') h'):aY (iH W bytes e h (.slice a n c) src) fun r=>k r.1 r.2:=by
 have γ:=mm.of C
 obtain⟨r,r2,hr,U,X,N,F⟩:=γ.fst
 obtain⟨hl,hc,hr⟩:=hr
 simp only at hl hc hr
 have w:(!ns.all dV||ns.length !=m*W)=false:=by simp[η,ξ]
 have I:(cs++ns).all dV=true:=by grind
 have O:(cs++ns).length=(n+m)*W:=by grind
 have E:∀{h1:AH},Hs G h1 ((fun r=>r=jF h.next (cs++ns) (some (.mt e false (cs++ns).length)))::L')->Hs G h1 (cU W e (some ⟨h.next,0,none⟩) (n+m) (n+m,cs++ns)::L'):=by
  intro h1 hh;refine Hs.join (A:=[_]) hh fun q Q=>?_;obtain⟨q1,q2,e1,e2,e3,e4⟩:=Q;cases e1;cases e2;rw[cH.add_comm (s:=cH.emp) cH.dG.symm,cH.fQ] at e4;exact⟨O,I,.inr (.inr ⟨Nat.le_refl _,h.next,[],[],false,rfl,by grind,by simpa using e4⟩)⟩
 by_cases hm:m=0
 .subst hm;have:ns=[]:=List.eq_nil_of_length_eq_zero (by omega);subst this;have T:=hk a c h (by simpa using γ);rcases hr with⟨rfl,π,rfl,ha⟩|⟨rfl,rfl,b,o,Z,rfl,_⟩|⟨J,b,g,t,ex,rfl,hle,V⟩
  .rcases ha with rfl|⟨b,o,rfl⟩
   .exact⟨(.slice none 0 0,h),by simp[iH,v,z],by simpa using T⟩
   .exact⟨(.slice _ 0 0,h),by simp[iH,v,z];rfl,by simpa using T⟩
  .exact⟨(.slice _ 0 0,h),by simp[iH,v,z];rfl,by simpa using T⟩
  .exact⟨(.slice _ n c,h),by simp[iH,v,z,J];rfl,by simpa using T⟩
 .have Y:Hs G h L':=γ.tail;rcases hr with⟨rfl,π,rfl,ha⟩|⟨rfl,rfl,b,o,Z,rfl,ho,V⟩|⟨J,b,g,t,ex,rfl,hle,V⟩
  .have β:cs=[]:=List.eq_nil_of_length_eq_zero (by simpa using hl);subst β;have θ:=Y.new (c:=ns) (e:=e) (x:=false);have H:=E (Hs.join (A:=[_,_]) θ fun q Q=>qT Q);have u:¬(0+m<=0):=by omega
   rcases ha with rfl|⟨b,o,rfl⟩
   .refine⟨(.slice (some ⟨h.next,0,none⟩) m m,h.alloc (.cells ns e (0,0) false)),?_,by grind⟩;simp only[iH,v,z,w,Bool.false_eq_true,if_false,u,S,if_true]
   .refine⟨(.slice (some ⟨h.next,0,none⟩) m m,h.alloc (.cells ns e (0,0) false)),?_,by grind⟩;simp only[iH,v,z,w,Bool.false_eq_true,if_false,u,S,if_true]
  .have β:cs=[]:=List.eq_nil_of_length_eq_zero (by simpa using hl);subst β;subst V;obtain⟨α,hg⟩:=xY N F;have hb:=Nat.le_trans C.le α;have R:Hs G h ((fun r=>r=jF b Z (some (.mt e false Z.length)))::L'):=⟨C.base,C.old,C.wf,C.fr,_,⟨_,r2,rfl,U,X,rfl⟩,(cH.eY X).2 ⟨N,F⟩⟩;have H:=E (R.kill (c2:=ns) (e2:=e) (x2:=false));have u:¬(0+m<=0):=by omega
   refine⟨(.slice (some ⟨h.next,0,none⟩) m m,(h.set b none).alloc (.cells ns e (0,0) false)),?_,by simpa using hk _ _ _ H⟩
   have μ:¬(some 2=some 1):=by simp
   simp only[iH,v,z,w,Bool.false_eq_true,if_false,u,S,if_true,μ,hg,hb,ho,and_self]
  .subst V;obtain⟨α,hg⟩:=xY N F;have hb:=Nat.le_trans C.le α;by_cases u:n+m<=c
   .have hW:(n+m)*W<=c*W:=Nat.mul_le_mul_right _ u;rw[Nat.add_mul] at hW;have R:Hs G h ((fun r=>r=jF b (g++cs++t) (some (.mt e ex (g++cs++t).length)))::L'):=⟨C.base,C.old,C.wf,C.fr,_,⟨_,r2,rfl,U,X,rfl⟩,(cH.eY X).2 ⟨N,F⟩⟩;have ρ:Hs G h (aF b 0 (g++cs++t)::mt b (e,ex,(g++cs++t).length)::L'):=R.imp (B:=[_,_]) fun q Q=>by subst Q;exact pK
    have ο:g.length+cs.length+ns.length<=(g++cs++t).length:=by grind
    by_cases ν:ns.length=0
    .have ι:ns=[]:=List.eq_nil_of_length_eq_zero ν;subst ι;refine⟨(.slice (some ⟨b,g.length,none⟩) (n+m) c,h.set b (some (.cells (bV (g++cs++t) (g.length+n*W) []) e (0,0) ex))),?_,?_⟩
     .simp only[iH,v,z,w,Bool.false_eq_true,if_false,u,if_true,hm,Option.isSome_none,cT];simp only[dI,Option.isSome_none,Bool.false_or,List.all_nil,Bool.not_true,Bool.or_false,hg];grind
     .have ε:bV (g++cs++t) (g.length+n*W) []=g++cs++t:=by simp only[bV,List.append_nil,List.length_nil,Nat.add_zero,List.take_append_drop]
      rw[ε]
      refine hk _ _ _ ?_
      have:Hs G (h.set b (some (.cells (g++cs++t) e (0,0) ex))) ((fun r=>r=jF b (g++cs++t) (some (.mt e ex (g++cs++t).length)))::L'):=by
       have D:∀j,(h.set b (some (.cells (g++cs++t) e (0,0) ex))).get j=h.get j:=fun j=>by
        rw[AH.gM hb];grind
       refine⟨by simp;exact C.base,fun i N=>by rw[D];exact C.old i N,by simp;exact C.wf,fun i N=>by simp at N;rw[D];exact C.fr i N,_,⟨_,r2,rfl,U,X,rfl⟩,(cH.eY X).2 ⟨?_,?_⟩⟩;exact N.of (by simp) (by simp) fun j _=>D j;exact F.of (by simp) (by simp) fun j _=>D j
      refine Hs.join (A:=[_]) this fun q Q=>?_
      obtain⟨q1,q2,e1,e2,e3,e4⟩:=Q
      cases e1;cases e2
      rw[cH.add_comm (s:=cH.emp) cH.dG.symm,cH.fQ] at e4
      refine⟨O,I,.inr (.inr ⟨u,b,g,t,ex,rfl,?_,by simpa using e4⟩)⟩
      grind
    .obtain⟨h',κ,δ⟩:=ρ.write (j:=g.length+cs.length) (vs:=ns) ο η (by omega);rw[Nat.zero_add] at κ;refine⟨(.slice (some ⟨b,g.length,none⟩) (n+m) c,h'),?_,?_⟩
     .simp only[iH,v,z,w,Bool.false_eq_true,if_false,u,if_true,hm,Option.isSome_none,cT];rw[<-hl,κ];rfl
     .refine hk _ _ _ ?_;have ε:bV (g++cs++t) (g.length+cs.length) ns=g++(cs++ns)++t.drop ns.length:=by
       unfold bV;rw[List.take_append_of_le_length (by simp),List.take_of_length_le (by simp),List.drop_append];have:(g++cs).drop (g.length+cs.length+ns.length)=[]:=List.drop_eq_nil_of_le (by simp);rw[this];simp only[List.length_append,List.nil_append,List.append_assoc];rw[show g.length+cs.length+ns.length - (g.length+cs.length)=ns.length by omega]
      rw[ε] at δ
      have ζ:(g++cs++t).length=(g++(cs++ns)++t.drop ns.length).length:=by grind
      rw[ζ] at δ
      refine Hs.join (A:=[_,_]) δ fun q Q=>?_
      exact⟨O,I,.inr (.inr ⟨u,b,g,t.drop ns.length,ex,rfl,by rw[<-ζ];exact hle,qT Q⟩)⟩
   .have R:Hs G h ((fun r=>r=jF b (g++cs++t) (some (.mt e ex (g++cs++t).length)))::L'):=⟨C.base,C.old,C.wf,C.fr,_,⟨_,r2,rfl,U,X,rfl⟩,(cH.eY X).2 ⟨N,F⟩⟩;have σ:n*W<=c*W:=Nat.mul_le_mul_right _ J;have hold:bZ h ⟨b,g.length,none⟩ (n*W)=some cs:=by
     simp only[bZ,Option.isSome_none,Bool.false_eq_true,if_false,hg];rw[aae];simp only[Option.some.injEq];grind
    have h1:¬((none:Option Nat)=some 1):=by simp
    have h2:¬((none:Option Nat)=some 2):=by simp
    cases ex with
    |true=>
     have H:=E (Hs.join (A:=[_,_]) (Y.new (c:=cs++ns) (e:=e) (x:=false)) fun q Q=>qT Q)
     refine⟨(.slice (some ⟨h.next,0,none⟩) (n+m) (n+m),h.alloc (.cells (cs++ns) e (0,0) false)),?_,hk _ _ _ H⟩
     simp only[iH,v,z,w,Bool.false_eq_true,if_false,u,S,if_true,h1,h2,hold,hg,hc,Bool.not_true]
    |false=>
     have H:=E (R.kill (c2:=cs++ns) (e2:=e) (x2:=false))
     refine⟨(.slice (some ⟨h.next,0,none⟩) (n+m) (n+m),(h.set b none).alloc (.cells (cs++ns) e (0,0) false)),?_,hk _ _ _ H⟩
     simp only[iH,v,z,w,Bool.false_eq_true,if_false,u,S,if_true,h1,h2,hold,hg,hc,Bool.not_true,hb,hle,and_self]
end Go.Ab
end
section
namespace Go.Ab
variable {P:Program} {K:FuncId->List Value->Option iJ} {G:Bg} {h:AH} {L L' M:List HP}
abbrev wr (x:Int):Int:=IntKind.i64.wrap x
theorem On {x:Int} (h: -9223372036854775808<=x/\x<=9223372036854775807):wr x=x:=IntWalk.i64_in _ (by omega)
section
variable {k:Value->Prop} {a b:Int} {x y:Value}
theorem ar {α:Type} {o:Option α} {v:α} {k:α->Prop} (g:o=some v) (c:k v):aY o k:=⟨v,g,c⟩
theorem aA {b o j n:Nat} (c:k (pt b o (j+n))):aY (gO n (pt b o j)) k:=⟨_,by simp[gO,pt,cT,Nat.add_assoc],c⟩
theorem aB {b o j:Nat} (c:k (pt b o j)):aY (lN (pt b o j)) k:=⟨_,rfl,c⟩
theorem aH {i:Nat} {vs:List Value} {v:Value} (g:vs[i]?=some v) (c:k v):aY (oP i (.tuple ⟨vs⟩)) k:=⟨v,g,c⟩
theorem gm {j:Nat} {l:List Value} {v:Value} (g:l[j]?=some v) (c:k v):aY (nQ j (.agg ⟨l⟩)) k:=⟨v,g,c⟩
theorem Ix {j n:Nat} {l m:List Value} (i:Nat.ble (j+n) l.length=true) (g:(l.drop j).take n=m) (c:k (.agg ⟨m⟩)):aY (nD j n (.agg ⟨l⟩)) k:=
 ⟨_,by have:=Nat.le_of_ble_eq_true i;simp[nD,this,g],c⟩
theorem bH {a:Option Addr} {n c:Nat} (g:k (I n)):aY (iK (.slice a n c)) k:=⟨_,rfl,g⟩
theorem bA (h: -9223372036854775808<=a+b/\a+b<=9223372036854775807) (c:k (I (a+b))):aY (tD .add (I a) (I b)) k:=⟨_,by show some (Value.int .i64 (wr (a+b)))=_;rw[On h],c⟩
theorem aac (c:k (I (a+b)))(h: -9223372036854775808<=a+b/\a+b<=9223372036854775807:=by omega):aY (tD .add (I a) (I b)) k:=⟨_,by show some (Value.int .i64 (wr (a+b)))=_;rw[On h],c⟩
theorem zL (h: -9223372036854775808<=a - b/\a - b<=9223372036854775807) (c:k (I (a - b))):aY (tD .sub (I a) (I b)) k:=⟨_,by show some (Value.int .i64 (wr (a - b)))=_;rw[On h],c⟩
theorem Cm (h: -9223372036854775808<=a*b/\a*b<=9223372036854775807) (c:k (I (a*b))):aY (tD .mul (I a) (I b)) k:=⟨_,by show some (Value.int .i64 (wr (a*b)))=_;rw[On h],c⟩
theorem Zv (c:k (I (wr (a+b)))):aY (tD .add (I a) (I b)) k:=⟨_,rfl,c⟩
theorem Ea (c:0<=a) (hb:0<b) (h:a<=9223372036854775807) (g:k (I (a/b))):aY (tD .quo (I a) (I b)) k:=by
 refine⟨_,?_,g⟩;show Eh .quo .i64 a b=_;simp only[Eh];rw[aab,Int.tdiv_eq_ediv_of_nonneg c];have i:0<=a/b:=Int.ediv_nonneg c (by omega);have j:a/b<=a:=Int.ediv_le_self b c;rw[show IntKind.i64.wrap (a/b)=a/b from On (by omega)]
theorem Om (g:0<=a) (hb:0<b) (c:k (I (a % b))):aY (tD .rem (I a) (I b)) k:=by
 refine⟨_,?_,c⟩;show Eh .rem .i64 a b=_;simp only[Eh];grind
theorem aFp (hb:b≠0) (c:k (I (a.tmod b))):aY (tD .rem (I a) (I b)) k:=by
 refine⟨_,?_,c⟩;show Eh .rem .i64 a b=_;simp only[Eh];rw[aN9 hb]
theorem aZ (c:k (.bool (decide (a=b)))):aY (tD .eql (I a) (I b)) k:=⟨_,by show some (Value.bool (a==b))=_;rfl,c⟩
theorem aT (c:k (.bool (decide (a≠b)))):aY (tD .neq (I a) (I b)) k:=⟨_,by show some (Value.bool (a !=b))=_;grind,c⟩
theorem aM (c:k (.bool (decide (a<b)))):aY (tD .lss (I a) (I b)) k:=⟨_,rfl,c⟩
theorem sN (c:k (.bool (decide (a<=b)))):aY (tD .leq (I a) (I b)) k:=⟨_,rfl,c⟩
theorem gZ (c:k (.bool (decide (b<a)))):aY (tD .gtr (I a) (I b)) k:=⟨_,rfl,c⟩
theorem dE (c:k (.bool (decide (b<=a)))):aY (tD .geq (I a) (I b)) k:=⟨_,rfl,c⟩
theorem tk (h: -9223372036854775808<=0 - a/\0 - a<=9223372036854775807) (c:k (I (0 - a))):aY (Pc .neg (I a)) k:=⟨_,by show some (Value.int .i64 (wr (0 - a)))=_;rw[On h],c⟩
theorem Yy {b o j:Nat} (c:k (.bool true)):aY (Nf .neq (pt b o j) (.pointer none)) k:=⟨_,rfl,c⟩
theorem cS {b o j:Nat} (c:k (.bool false)):aY (Nf .eql (pt b o j) (.pointer none)) k:=⟨_,rfl,c⟩
theorem bT {b:Bool} (c:k (.bool !b)):aY (Pc .not (.bool b)) k:=⟨_,rfl,c⟩
theorem dF {b o n c g i:Nat} (j:i<n) (m:k (pt b (o+i*g) 0)):aY (kA g (.slice (some ⟨b,o,none⟩) n c) (I i)) k:=⟨_,by simp[kA,j,cT,pt],m⟩
theorem iI {b o j n c:Nat} (g:0<=a) (i:a<n) (m:k (pt b o (j+a.toNat*c))):aY (mM n c (pt b o j) (I a)) k:=⟨_,by simp[mM,g,i,cT,pt,Nat.add_assoc],m⟩
theorem bE {c:Prop} [Decidable c] {p q:Prop} (h:c) (i:p):Br (.bool (decide c)) p q:=⟨_,rfl,fun _=>i,fun g=>absurd h (by simpa using g)⟩
theorem aad {c:Prop} [Decidable c] {p q:Prop} (i:p)(h:c:=by omega):Br (.bool (decide c)) p q:=⟨_,rfl,fun _=>i,fun g=>absurd h (by simpa using g)⟩
theorem aJ {c:Prop} [Decidable c] {p q:Prop} (h:¬c) (i:q):Br (.bool (decide c)) p q:=⟨_,rfl,fun g=>absurd (by simpa using g) h,fun _=>i⟩
theorem aaa {c:Prop} [Decidable c] {p q:Prop} (i:q)(h:¬c:=by omega):Br (.bool (decide c)) p q:=⟨_,rfl,fun g=>absurd (by simpa using g) h,fun _=>i⟩
theorem aQ {c:Prop} [Decidable c] {p q:Prop} (i:c->p) (j:¬c->q):Br (.bool (decide c)) p q:=⟨_,rfl,fun g=>i (by simpa using g),fun g=>j (by simpa using g)⟩
theorem eN {p q:Prop} (c:p):Br (.bool true) p q:=aCz.2 c
theorem bX {p q:Prop} (c:q):Br (.bool false) p q:=tz.2 c
theorem cZ {b:Bool} {p q:Prop} (c:b=true->p) (g:b=false->q):Br (.bool b) p q:=⟨_,rfl,c,g⟩
theorem dT {b:Bool} {p q:Prop} (h:Br (.bool b) q p):Br (.bool !b) p q:=by obtain⟨c,i,j,g⟩:=h;cases i;cases b;exact⟨_,rfl,fun _=>g rfl,fun h=>(by cases h)⟩;simp_all
end
theorem aI {z c:List Value} {ps:List (Nat×Nat×Value)} {k:List Value->Prop} (i:oD z ps=some c) (g:k c):aY (oD z ps) k:=⟨c,i,g⟩
theorem bP {p q:Prop} (c:p) (g:q):p/\q:=⟨c,g⟩
theorem eG {a:Int}:nN (I a) (I a)=true:=by simp[nN]
theorem aEk {a:Bool}:nN (.bool a) (.bool a)=true:=by simp[nN]
theorem cG {b o j:Nat}:nN (pt b o j) (pt b o j)=true:=by simp[nN,pt]
theorem T4 {a:Option Addr} {n c:Nat}:nN (.slice a n c) (.slice a n c)=true:=by simp[nN]
theorem rL {g:FuncId} {first captured:Array Value} {l:Nat} {q:Value->AH->Prop} (hc:fX P g=true) (c:Cl P K g (first.toList++[.func (.yield l) #[] #[]]++captured.toList) h q):Rz P K (.func (.func g) first captured) l h q:=⟨hc,c⟩
theorem qJ {g:FuncId} {first captured:Array Value} {args:List Value} {q:Value->AH->Prop} (hc:fX P g=true) (c:Cl P K g (first.toList++args++captured.toList) h q):yG P K (.func (.func g) first captured) args h q:=⟨hc,c⟩
end Go.Ab
end
section
namespace Go.Ab
variable {P:Program} {K:FuncId->List Value->Option iJ} {G:Bg} {h:AH} {L L' M:List HP}
def sp (A:List HP):HP:=fun r=>star A r
theorem Hs.pack {A:List HP} (c:Hs G h (A++L)):Hs G h (sp A::L):=c.join fun _ h=>h
theorem Hs.unpack {A:List HP} (c:Hs G h (sp A::L)):Hs G h (A++L):=c.imp fun _ h=>h
def tV {α:Type} (A:α->HP):HP:=fun r=>∃x,A x r
theorem Hs.vA {α:Type} {A:α->HP} (x:α) (m:Hs G h (A x::L)):Hs G h (tV A::L):=Hs.join (A:=[A x]) m fun r j=>by
 obtain⟨o,q,g,i,_,c⟩:=j;cases i;rw[cH.add_comm (s:=cH.emp) cH.dG.symm,cH.fQ] at c;subst c;exact⟨x,g⟩
theorem Uq {A:HP} {r:cH}:star [A] r↔A r:=by
 constructor;intro⟨m,o,g,i,_,c⟩;cases i;rw[cH.add_comm (s:=cH.emp) cH.dG.symm,cH.fQ] at c;subst c;exact g;intro j;exact⟨r,cH.emp,j,rfl,cH.dG.symm,by rw[cH.add_comm (s:=cH.emp) cH.dG.symm,cH.fQ]⟩
theorem Hs.yP {α:Type} {A:α->HP} (c:Hs G h (tV A::L)):∃x,Hs G h (A x::L):=by
 obtain⟨r,q,⟨x,o⟩,i,g,j,m⟩:=c.fst;exact⟨x,c.base,c.old,c.wf,c.fr,_,⟨r,q,o,i,g,rfl⟩,(cH.eY g).2 ⟨j,m⟩⟩
def uH (p:Prop):HP:=fun r=>p/\r=cH.emp
theorem Hs.T2 {p:Prop} (c:p) (i:Hs G h L):Hs G h (uH p::L):=Hs.join (A:=[]) i fun _ g=>⟨c,g⟩
theorem Hs.jr {p:Prop} (c:Hs G h (uH p::L)):p/\Hs G h L:=by
 obtain⟨r,_,⟨g,_⟩,_⟩:=c.fst;exact⟨g,c.tail⟩
def dC (n:Nat) (f:Nat->HP):HP:=sp ((List.range n).map f)
theorem Mt {n i:Nat} {f:Nat->HP} (c:i<n):((List.range n).map f).Perm (f i::((List.range n).erase i).map f):=by
 have:(List.range n).Perm (i::(List.range n).erase i):=List.perm_cons_erase (List.mem_range.2 c);exact this.map f
theorem Hs.mD {n:Nat} {f:Nat->HP} (m:Hs G h (dC n f::L)) (i:Nat) (j:i<n):Hs G h (f i::sp (((List.range n).erase i).map f)::L):=by
 have c:=m.unpack.perm ((Mt j).append_right L);have g:Hs G h (((List.range n).erase i).map f++f i::L):=c.perm (by simpa using List.perm_middle.symm);exact(g.pack).perm (List.Perm.swap _ _ _)
theorem Hs.aEb {n i:Nat} {f g:Nat->HP} (m:i<n) (s:∀j,j≠i->g j=f j) (r:Hs G h (g i::sp (((List.range n).erase i).map f)::L)):Hs G h (dC n g::L):=by
 have c:=(r.perm (List.Perm.swap _ _ _)).unpack;have q:((List.range n).erase i).map f=((List.range n).erase i).map g:=List.map_congr_left fun j o=>by
  have:j≠i:=by
   intro e;subst e;exact List.Nodup.not_mem_erase List.nodup_range o
  grind
 rw[q] at c;refine(c.perm ?_).pack;exact(List.perm_middle.trans ((Mt m).symm.append_right L))
theorem sF {n:Nat} {f g:Nat->HP} (c:∀j,j<n->g j=f j) (m:Hs G h (dC n f::L)):Hs G h (dC n g::L):=by
 have:(List.range n).map f=(List.range n).map g:=List.map_congr_left fun j i=>(c j (List.mem_range.1 i)).symm;unfold dC at m ⊢;grind
theorem Hs.Wj {f:Nat->HP} (c:Hs G h L):Hs G h (dC 0 f::L):=Hs.pack (A:=[]) c
theorem Hs.V9 {n:Nat} {f:Nat->HP} (g:Hs G h (f n::dC n f::L)):Hs G h (dC (n+1) f::L):=by
 have c:=(g.perm (List.Perm.swap _ _ _)).unpack;refine Hs.pack (A:=(List.range (n+1)).map f) (c.perm ?_);rw[List.range_succ,List.map_append];simp
theorem yG.mono {f:Value} {args:List Value} {Q c:Value->AH->Prop} (k:yG P K f args h Q) (i:∀v g,Q v g->c v g):yG P K f args h c:=by
 unfold yG at k ⊢;split at k;exact⟨k.1,Ok.mono k.2 fun _ _=>i _ _⟩;exact Ok.mono k fun _ _=>i _ _;cases k
theorem lx {l:Nat} {args:List Value} {Q:Value->AH->Prop} (k:Ok P K (.round l args) h fun o c=>Q o.v c):yG P K (.func (.yield l) #[] #[]) args h Q:=by
 simpa [yG] using k
def ez (P:Program) (K:FuncId->List Value->Option iJ) (G:Bg) (f:FuncId) (first captured:List Value) (A:HP) (xs:List (List Value)):Prop:=
 ∀(I:List (List Value)->HP) (J:HP) (y:Value) (L:List HP) (h:AH) (Q:Value->AH->Prop),Hs G h (A::I xs::L)->
  (∀x rest h M,Hs G h (I (x::rest)::M)->yG P K y x h fun v c=>(v= .bool true/\Hs G c (I rest::M))\/(v= .bool false/\Hs G c (J::M)))->
  (∀v c,Hs G c (A::I []::L)->Q v c)->(∀v c,Hs G c (A::J::L)->Q v c)->Cl P K f (first++[y]++captured) h Q
class dQ (A:HP) (L:List HP) (L':outParam (List HP)):Prop where
 perm:L.Perm (A::L')
instance (priority:=low) dQ.there {A B:HP} [k:dQ A L L']:dQ A (B::L) (B::L'):=⟨(k.perm.cons B).trans (List.Perm.swap _ _ _)⟩
instance (priority:=high) dQ.here {A:HP}:dQ A (A::L) L:=⟨List.Perm.refl _⟩
instance (priority:=high) dQ.app {A B:HP} {c L2:List HP} [k:dQ A (B::(c++L2)) L']:dQ A ((B::c)++L2) L':=k
instance (priority:=high) dQ.aF1 {A:HP} {L2:List HP} [k:dQ A L2 L']:dQ A ([]++L2) L':=k
class Sub (L M:List HP):Prop where
 to:∀r,star L r->∃r1 r2,star M r1/\r1.uV r2/\r=r1.add r2
theorem aDc {r:cH}:r.add cH.emp=r:=by rw[cH.add_comm cH.dG.symm,cH.fQ]
instance (priority:=low) Sub.skip {A:HP} [k:Sub L M]:Sub (A::L) M:=⟨fun r ⟨j,m,o,c,g,i⟩=>by
 obtain⟨s1,s2,g1,g2,g3⟩:=k.to m c;subst g3;obtain⟨d1,d2⟩:=cH.iC.1 g;exact⟨s1,j.add s2,g1,cH.iC.2 ⟨d1.symm,g2⟩,by rw[i,<-cH.add_assoc,<-cH.add_assoc,cH.add_comm d1]⟩⟩
instance Sub.take {A:HP} [k:dQ A L L'] [q:Sub L' M]:Sub L (A::M):=⟨fun r o=>by
 obtain⟨c,s,g,i,j,m⟩:=Fp k.perm r o;obtain⟨s1,s2,g1,g2,g3⟩:=q.to s i;subst g3;obtain⟨d1,d2⟩:=cH.iC.1 j;exact⟨c.add s1,s2,⟨c,s1,g,g1,d1,rfl⟩,(cH.iC.2 ⟨d2.symm,g2.symm⟩).symm,by rw[m,cH.add_assoc]⟩⟩
instance (priority:=high) Sub.refl:Sub L L:=⟨fun r c=>⟨r,cH.emp,c,cH.dG.symm,aDc.symm⟩⟩
instance (priority:=high) Sub.app {A:HP} {c L2:List HP} [k:Sub L (A::(c++L2))]:Sub L ((A::c)++L2):=k
instance (priority:=high) Sub.aF1 {L2:List HP} [k:Sub L L2]:Sub L ([]++L2):=k
instance (priority:=high) Sub.aN3 {A:HP} {c L2:List HP} [k:Sub (A::(c++L2)) M]:Sub ((A::c)++L2) M:=k
instance (priority:=high) Sub.sp {A:List HP} [k:Sub L (A++M)]:Sub L (sp A::M):=⟨fun r m=>by
 obtain⟨s1,s2,g1,g2,g3⟩:=k.to r m;obtain⟨o,q,c,g,i,j⟩:=iM.1 g1;exact⟨s1,s2,⟨o,q,c,g,i,j⟩,g2,g3⟩⟩
theorem Hs.to (c:Hs G h L) [k:Sub L M]:Hs G h M:=⟨c.base,c.old,c.wf,c.fr,by
 obtain⟨r,g,i⟩:=c.res;obtain⟨j,m,g1,g2,g3⟩:=k.to r g;subst g3;exact⟨j,g1,((cH.eY g2).1 i).1⟩⟩
theorem Hs.jN {A B:HP} (c:Hs G h (B::A::L)):Hs G h (A::B::L):=c.perm (List.Perm.swap _ _ _)
theorem nJ {p:Prop} {A:List HP} (c:p) (g:Hs G h (sp A::L)):Hs G h (sp (uH p::A)::L):=Hs.pack (A:=uH p::A) (Hs.T2 c g.unpack)
theorem eV {p:Prop} {A:List HP} (c:Hs G h (sp (uH p::A)::L)):p/\Hs G h (sp A::L):=let⟨a,b⟩:=Hs.jr c.unpack;⟨a,b.pack⟩
theorem lT {a b:Prop} {c:List (Nat×Prop)} (g:a):qY none a b c:=g
theorem y7 {a b:Prop} {c:List (Nat×Prop)} (g:b):qY (some .ret) a b c:=g
theorem Gg {a b q:Prop} {c:List (Nat×Prop)} {id:Nat} (i:c.lookup id=some q) (g:q):qY (some (.exit id)) a b c:=by simp only[qY,i];exact g
theorem aJs {b o j m:Nat} (h:m<=j):pt b o j=pt b (o+m) (j - m):=by simp only[pt];grind
end Go.Ab
end
section
namespace Go.Ab
variable {P:Program} {K:FuncId->List Value->Option iJ} {G:Bg} {h:AH} {L L' M:List HP}
class Cv (v:Value) (cs:outParam (List Value)):Prop where
 eq:iE v=some cs
instance {a:Int}:Cv (I a) [I a]:=⟨rfl⟩
instance {a:Bool}:Cv (.bool a) [.bool a]:=⟨rfl⟩
instance {b o j:Nat}:Cv (pt b o j) [pt b o j]:=⟨rfl⟩
instance {a:Option Addr}:Cv (.pointer a) [.pointer a]:=⟨rfl⟩
instance {a:Option Addr} {n c:Nat}:Cv (.slice a n c) [.slice a n c]:=⟨rfl⟩
instance {s:ByteArray}:Cv (.string s) [.string s]:=⟨rfl⟩
instance {l:List Value}:Cv (.agg ⟨l⟩) l:=⟨rfl⟩
instance {f:Fn} {a b:Array Value}:Cv (.func f a b) [.func f a b]:=⟨rfl⟩
theorem dB {cs:List Value} {e:TypeId} {v:Value} {k:Nat->AH->Prop} (i:Hs G h L) [j:Cv v cs] (g:∀p c,Hs G c (aF p 0 cs::L)->k p c):aY (jD e v) fun b=>Bj h b k:=aJu i j.eq g
theorem zK {r i n:Nat} {D:List Nat} {cs:List Value} {v:Value} {e:TypeId} {k:Nat->AH->Prop} (o:Hs G h L) [m:Has (ia r) L (n,D) L'] [q:Cv v cs] (g:Nat.blt i n=true) (hD:D.contains i=false)
  (j:∀p c,Hs G c (aF p 0 cs::ia r (n,i::D)::L')->k p c):aY (jD e v) fun b=>kK h (r+i) b k:=aA9 o q.eq g hD j
theorem bC {b o j n:Nat} {c vs:List Value} {v:Value} {k:AH->Prop} (t:Hs G h L) [m:Has (aF b o) L c L'] [u:Cv v vs] (s:vs.length=n) (r:Nat.ble (j+n) c.length=true) (hb:vs.all dV=true) (i:Nat.ble 1 c.length=true)
  (q:∀g,Hs G g (aF b o (dH c j vs)::L')->k g):aY (tZ h n (pt b o j) v) k:=aIs t u.eq s r hb i q
theorem ay {b o j n:Nat} {c vs:List Value} {v:Value} {k:AH->Prop} (t:Hs G h L) [m:Has (aF b o) L c L'] [u:Cv v vs] (q:∀g,Hs G g (aF b o (dH c j vs)::L')->k g) (s:vs.length=n:=by exact rfl) (r:Nat.ble (j+n) c.length=true:=by exact rfl) (hb:vs.all dV=true:=by exact rfl) (i:Nat.ble 1 c.length=true:=by exact rfl):aY (tZ h n (pt b o j) v) k:=bC t s r hb i q
theorem U3:∀(c vs:List Value),c.length=vs.length->dH c 0 vs=vs
 |[],[],_=>rfl
 |_::c,v::vs,h=>by simp only[dH];rw[U3 c vs (by simpa using h)]
theorem aS {b o n:Nat} {c vs:List Value} {v:Value} {k:AH->Prop} (s:Hs G h L) [m:Has (aF b o) L c L'] [t:Cv v vs] (g:Nat.beq c.length n=true) (j:Nat.ble 1 n=true) (r:vs.length=n) (hb:vs.all dV=true)
  (q:∀i,Hs G i (aF b o vs::L')->k i):aY (tZ h n (pt b o 0) v) k:=by
 have g:=Nat.eq_of_beq_eq_true g
 refine aIs s t.eq r (by rw[g];simp) hb (by rw[g];exact j) ?_
 rw[U3 c vs (by omega)];exact q
theorem ax {b o n:Nat} {c vs:List Value} {v:Value} {k:AH->Prop} (s:Hs G h L) [m:Has (aF b o) L c L'] [t:Cv v vs] (q:∀i,Hs G i (aF b o vs::L')->k i) (g:Nat.beq c.length n=true:=by exact rfl) (j:Nat.ble 1 n=true:=by exact rfl) (r:vs.length=n:=by exact rfl) (hb:vs.all dV=true:=by exact rfl):aY (tZ h n (pt b o 0) v) k:=aS s g j r hb q
structure LpX where
 P:Program
 f:FuncId
 p:List Nat
 n:Nat
 e:Nat->Value
 d:Nat
 st:LoopState
 pd:Option Code
class nC (l:Nat) (L:List HP) (x:outParam LpX) (L':outParam (List HP)):Prop where
 perm:L.Perm (kE x.P x.f x.p x.n x.e x.d l (x.st,x.pd)::L')
instance (priority:=low) nC.there {l:Nat} {A:HP} {x:LpX} [k:nC l L x L']:nC l (A::L) x (A::L'):=⟨(k.perm.cons A).trans (List.Perm.swap _ _ _)⟩
instance (priority:=high) nC.here {l:Nat} {f:FuncId} {p:List Nat} {n:Nat} {e:Nat->Value} {d:Nat} {st:LoopState} {pd:Option Code}:nC l (kE P f p n e d l (st,pd)::L) ⟨P,f,p,n,e,d,st,pd⟩ L:=⟨List.Perm.refl _⟩
instance (priority:=high) nC.app {l:Nat} {A:HP} {c L2:List HP} {x:LpX} [k:nC l (A::(c++L2)) x L']:nC l ((A::c)++L2) x L':=k
instance (priority:=high) nC.aF1 {l:Nat} {L2:List HP} {x:LpX} [k:nC l L2 x L']:nC l ([]++L2) x L':=k
theorem nC.of {l:Nat} {x:LpX} [k:nC l L x L'] (c:Hs G h L):Hs G h (kE x.P x.f x.p x.n x.e x.d l (x.st,x.pd)::L'):=c.perm k.perm
section
variable {f:FuncId} {p:List Nat} {n:Nat} {e:Nat->Value} {d l:Nat} {st st':LoopState} {pd pd':Option Code}
theorem gV {k:AH->Prop} (i:Hs G h L) [m:nC l L ⟨P,f,p,n,e,d,st,pd⟩ L'] (g:∀c,Hs G c (kE P f p n e d l (st',pd')::L')->k c):aY (cI h l st' (some pd')) k:=aIu (show Hs G h (kE P f p n e d l (st,pd)::L') from m.of i) g
theorem gS {k:AH->Prop} (i:Hs G h L) [m:nC l L ⟨P,f,p,n,e,d,.ready,pd⟩ L'] (g:∀c,Hs G c (kE P f p n e d l (.busy,pd)::L')->k c):aY (iP h l) k:=aAb (show Hs G h (kE P f p n e d l (.ready,pd)::L') from m.of i) g
theorem mC {k:Option Code×AH->Prop} (i:Hs G h L) [m:nC l L ⟨P,f,p,n,e,d,.ready,pd⟩ L'] (g:∀c,Hs G c L'->k (pd,c)):aY (qM h l) k:=
 zt (P:=P) (f:=f) (p:=p) (n:=n) (e:=e) (d:=d) (st:= .ready) (pd:=pd) (k:=fun a b=>k (a,b)) (show Hs G h (kE P f p n e d l (.ready,pd)::L') from m.of i) (by decide) g
theorem kl {k:Nat->Prop} (g:Hs G h L) [m:nC l L ⟨P,f,p,n,e,d,st,pd⟩ L'] (c:k d):aY (eP h l) k:=sq (P:=P) (f:=f) (p:=p) (n:=n) (e:=e) (d:=d) (st:=st) (pd:=pd) (show Hs G h (kE P f p n e d l (st,pd)::L') from m.of g) c
theorem rK (c:Hs G h L) [m:nC l L ⟨P,f,p,n,e,d,st,pd⟩ L']:h.get l=some (lp P f p n e d st pd):=aLy (show Hs G h (kE P f p n e d l (st,pd)::L') from m.of c)
end
theorem Sr {W:Nat} {e:TypeId} {a:Option Addr} {c n:Nat} {cs:List Value} (s:Hs G h (cU W e a c (n,cs)::L)):fA h W n (.slice a n c)=some cs:=by
 have E:=s.Ce;simp only at E;by_cases v:n=0;subst v;have:cs=[]:=List.eq_nil_of_length_eq_zero (by omega);subst this;cases a<;>simp[fA];obtain⟨b,o,rfl,H,t,_⟩:=s.oJ (by omega);simp only[fA,aN9 v,Nat.le_refl,if_true];by_cases hW:n*W=0;have:cs=[]:=List.eq_nil_of_length_eq_zero (by omega);subst this;obtain⟨r,R,m,F,Q,D,i⟩:=s.fst;obtain⟨_,_,m⟩:=m;rcases m with⟨u,_⟩|⟨u,_⟩|⟨z,J,I,A,ex,B,hle,q⟩;simp at u;omega;simp at u;omega;cases B;subst q;obtain⟨C,g⟩:=xY D i;simp only[bZ,Option.isSome_none,Bool.false_eq_true,if_false,g,hW];grind;obtain⟨C,N,O,S,g,hle,w⟩:=t.cells (by omega);simp only[bZ,Option.isSome_none,Bool.false_eq_true,if_false,g];rw[aae];congr 1;refine List.ext_getElem? fun j=>?_;grind
theorem nY {W bytes:Nat} {e:TypeId} {a a2:Option Addr} {c c2 n m:Nat} {cs ns:List Value} {k:Value×AH->Prop} (r:Hs G h L) [t:Has (cU W e a c) L (n,cs) L'] [u:Has (cU W e a2 c2) L' (m,ns) M] (i:(n+m)*(bytes+1)<=2^46)
  (s:∀j o q,Hs G q (cU W e j o (n+m,cs++ns)::L')->k (.slice j (n+m) o,q)):aY (iH W bytes e h (.slice a n c) (.slice a2 m c2)) k:=by
 have g:=u.of (t.of r).tail
 exact qm (k:=fun x y=>k (x,y)) r oE (Sr g) g.Ex g.Ce i s
theorem Hs.front (A:HP) (c:Hs G h L) [k:dQ A L L']:Hs G h (A::L'):=c.perm k.perm
theorem Hs.cF (A B:HP) (c:Hs G h L) [k:dQ A L L'] [g:dQ B L' M]:Hs G h (A::B::M):=c.perm (k.perm.trans (g.perm.cons A))
end Go.Ab
end
section
namespace Go.Ab
variable {P:Program} {K:FuncId->List Value->Option iJ} {G:Bg} {h:AH} {L L' M:List HP}
structure s8 (G:Bg) (W:Nat) (e:TypeId) (a:Option Addr) (cap n b o:Nat) where
 p:HP
 back:∀(h':AH) (cs':List Value) (M:List HP),cs'.length=n*W->cs'.all dV=true->Hs G h' (aF b o cs'::p::M)->Hs G h' (cU W e a cap (n,cs')::M)
def hole (G:Bg) (W:Nat) (e:TypeId) (a:Option Addr) (cap n b o:Nat):HP:=tV fun H:s8 G W e a cap n b o=>H.p
theorem Hs.eZ {W:Nat} {e:TypeId} {a:Option Addr} {cap n:Nat} {cs:List Value} (j:Hs G h (cU W e a cap (n,cs)::L)) (q:0<n):
  ∃b o,a=some ⟨b,o,none⟩/\Hs G h (aF b o cs::hole G W e a cap n b o::L):=by
 have i:=j.Ce
 simp only at i
 obtain⟨b,o,u,H,g,v⟩:=j.oJ q
 exact⟨b,o,u,Hs.jN (Hs.vA (A:=fun H:s8 G W e a cap n b o=>H.p) ⟨H,fun m c M r s t=>v m c M (r.trans i.symm) s t⟩ g.jN)⟩
theorem Hs.nH {W:Nat} {e:TypeId} {a:Option Addr} {cap n b o:Nat} {cs:List Value} (c:Hs G h (aF b o cs::hole G W e a cap n b o::L)) (i:cs.length=n*W) (hc:cs.all dV=true):Hs G h (cU W e a cap (n,cs)::L):=by
 obtain⟨⟨H,g⟩,c⟩:=Hs.yP (A:=fun H:s8 G W e a cap n b o=>H.p) c.jN;exact g _ _ _ i hc c.jN
theorem dm {b o W:Nat} {c:Nat->List Value} (hc:∀i,(c i).length=W):∀(n:Nat) (L:List HP),Hs G h (aF b o ((List.range n).flatMap c)::L)->Hs G h (dC n (fun i=>aF b (o+i*W) (c i))::L):=by
 intro n;induction n with
 |zero=>intro L g;exact Hs.Wj g.tail
 |succ n r=>
  intro L g;rw[List.range_succ,List.flatMap_append] at g;have q:∀m,((List.range m).flatMap c).length=m*W:=fun m=>by
   induction m with
   |zero=>simp
   |succ m j=>rw[List.range_succ,List.flatMap_append,List.length_append,j];grind
  have g:=g.split;simp only[List.flatMap_cons,List.flatMap_nil,List.append_nil,q] at g;exact Hs.V9 (Hs.jN (r _ g))
theorem aB2 {b o W:Nat} {c:Nat->List Value} (hc:∀i,(c i).length=W) (_:0<W):∀(n:Nat) (L:List HP),0<n->Hs G h (dC n (fun i=>aF b (o+i*W) (c i))::L)->Hs G h (aF b o ((List.range n).flatMap c)::L):=by
 intro n;have r:∀m,((List.range m).flatMap c).length=m*W:=fun m=>by
  induction m with
  |zero=>simp
  |succ m q=>rw[List.range_succ,List.flatMap_append,List.length_append,q];grind
 induction n with
 |zero=>intro L j;omega
 |succ n s=>
  intro L _ g;have g:=g.unpack;rw[List.range_succ,List.map_append,List.append_assoc] at g;have g:Hs G h (dC n (fun i=>aF b (o+i*W) (c i))::aF b (o+n*W) (c n)::L):=Hs.pack g;rw[List.range_succ,List.flatMap_append];simp only[List.flatMap_cons,List.flatMap_nil,List.append_nil];rcases Nat.eq_zero_or_pos n with j|j;simp_all;exact Hs.H8 (s _ j g) (by rw[r])
theorem Hs.Mu {f g:Nat->HP}:∀(n:Nat) (L:List HP),(∀i,i<n->∀h L,Hs G h (f i::L)->Hs G h (g i::L))->Hs G h (dC n f::L)->Hs G h (dC n g::L):=by
 intro n;induction n with
 |zero=>intro L _ c;exact Hs.Wj c.tail
 |succ n m=>
  intro L j c;have c:=c.unpack;rw[List.range_succ,List.map_append,List.append_assoc] at c;have c:Hs G h (dC n f::f n::L):=Hs.pack c;exact Hs.V9 (j n (Nat.lt_succ_self n) _ _ (m _ (fun i o=>j i (by omega)) c).jN)
theorem Hs.aGg {f g k:Nat->HP} (j:∀i h L,Hs G h (f i::g i::L)->Hs G h (k i::L)):∀(n:Nat) (L:List HP),Hs G h (dC n f::dC n g::L)->Hs G h (dC n k::L):=by
 intro n;induction n with
 |zero=>intro L c;exact Hs.Wj c.tail.tail
 |succ n m=>
  intro L c;have c:=c.unpack;rw[List.range_succ,List.map_append,List.append_assoc] at c;have c:Hs G h (dC n f::f n::dC (n+1) g::L):=Hs.pack c;have c:Hs G h (dC (n+1) g::f n::dC n f::L):=c.to;have c:=c.unpack;rw[List.range_succ,List.map_append,List.append_assoc] at c;have c:Hs G h (dC n g::g n::f n::dC n f::L):=Hs.pack c;have c:Hs G h (dC n f::dC n g::f n::g n::L):=c.to;have c:=m _ c;exact Hs.V9 (j n _ _ (c.to (M:=[f n,g n,dC n k]++L)))
theorem Tz {n i:Nat} {l:List Value} {v:Value} {k:Value->Prop} (c:i<n) (j:l[i]?=some v) (g:k v):aY (Le n 1 (.agg ⟨l⟩) (I i)) k:=⟨v,by simp[Le,c,j],g⟩
theorem fS {b o j n c i:Nat} {k:Value->Prop} (g:i<n) (m:k (pt b o (j+i*c))):aY (mM n c (pt b o j) (I i)) k:=⟨_,by simp[mM,g,cT,pt,Nat.add_assoc],m⟩
theorem aE2 {bytes n:Nat} {k:Nat×Nat->Prop} (g:n<=2^40) (hb:bytes*n<=2^47) (c:k (n,n)):aY (Fa bytes (I n) (I n)) k:=⟨_,by simp only[Fa];grind,c⟩
theorem gD {b o j n:Nat} {c l:List Value} {k:Value->Prop} (r:Hs G h L) [m:Has (aF b o) L c L'] (q:0<n) (hc:(c.drop j).take n=l) (i:l.length=n) (g:k (.agg ⟨l⟩)):aY (tU h n (pt b o j)) k:=aN r q hc i g
theorem aGs {b n:Nat} {c:List Value} {k:Value->Prop} (q:Hs G h L) (m:Ob G b c) (g:c.length=n) (i:k (.agg ⟨c⟩)):aY (tU h n (.pointer (some ⟨b,0,none⟩))) k:=
 bf (o:=0) (j:=0) q m (by rw[<-g];simp) g (by simp) i
def bY {α:Type} (f:Nat->α) (i:Nat) (v:α):Nat->α:=fun j=>if j=i then v else f j
theorem jA {α:Type} {f:Nat->α} {i:Nat} {v:α}:bY f i v i=v:=by simp[bY]
theorem Bh {α:Type} {f:Nat->α} {i j:Nat} {v:α} (h:j≠i):bY f i v j=f j:=by simp[bY,h]
theorem qK {W:Nat} {c:Nat->List Value} (hc:∀i,(c i).length=W) (m:Nat):((List.range m).flatMap c).length=m*W:=by
 induction m with
 |zero=>simp
 |succ m g=>rw[List.range_succ,List.flatMap_append,List.length_append,g];grind
theorem aBj {W:Nat} {c:Nat->List Value} (hc:∀i,(c i).length=W) {i:Nat}:∀(n:Nat),i<n->∃m g,(List.range n).flatMap c=m++(c i++g)/\m.length=i*W/\∀x,(List.range n).flatMap (bY c i x)=m++(x++g):=by
 intro n;induction n with
 |zero=>intro h;omega
 |succ n t=>
  intro h;by_cases o:i=n;subst o;refine⟨(List.range i).flatMap c,[],?_,qK hc i,fun x=>?_⟩;rw[List.range_succ,List.flatMap_append];simp;rw[List.range_succ,List.flatMap_append];congr 1;rw[List.flatMap_def,List.flatMap_def];congr 1;exact List.map_congr_left fun j u=>Bh (by grind);simp[jA];obtain⟨m,g,q,r,s⟩:=t (by omega);refine⟨m,g++c n,?_,r,fun x=>?_⟩;rw[List.range_succ,List.flatMap_append,q];simp;rw[List.range_succ,List.flatMap_append,s];simp[Bh (Ne.symm o)]
theorem Hs.vh {W:Nat} {e:TypeId} {a:Option Addr} {cap n i:Nat} {c:Nat->List Value} (hc:∀i,(c i).length=W) (z:i<n) (g:Hs G h (cU W e a cap (n,(List.range n).flatMap c)::L)):
  ∃b o,a=some ⟨b,o,none⟩/\∃H:HP,Hs G h (aF b (o+i*W) (c i)::H::L)/\∀s x M,x.length=W->x.all dV=true->Hs G s (aF b (o+i*W) x::H::M)->Hs G s (cU W e a cap (n,(List.range n).flatMap (bY c i x))::M):=by
 have m:=g.Ex
 simp only at m
 obtain⟨b,o,w,g⟩:=g.eZ (by omega)
 obtain⟨r,q,u,t,v⟩:=aBj hc n z
 rw[u] at g m
 have g:=g.split.jN.split
 rw[t] at g
 refine⟨b,o,w,sp [aF b o r,aF b (o+i*W+(c i).length) q,hole G W e a cap n b o],?_,?_⟩
 .exact(Hs.pack (A:=[aF b o r,aF b (o+i*W+(c i).length) q,hole G W e a cap n b o]) g.to).jN
 .intro s x M B C g;have g:Hs G s (aF b (o+i*W) x::aF b (o+i*W+(c i).length) q::aF b o r::hole G W e a cap n b o::M):=(g.jN.unpack).to;have g:=Hs.H8 g (by rw[B,hc]);have g:=Hs.H8 g.jN (by rw[t]);refine Hs.nH (by rw[v];exact g) (qK (fun j=>by unfold bY;grind) n) ?_;grind
theorem Hs.sg {b o:Nat} {c c':List Value} (g:Hs G h L) [m:Has (aF b o) L c' L'] (hc:c'=c):Hs G h (aF b o c::L'):=by subst hc;exact m.of g
theorem Hs.oZ {n i:Nat} (f g:Nat->HP) (o:i<n) (s:∀j,j<n->j≠i->g j=f j) (c:Hs G h L) [k:dQ (g i) L L'] [t:dQ (sp (((List.range n).erase i).map f)) L' M]:Hs G h (dC n g::M):=by
 have c:=c.cF (g i) (sp (((List.range n).erase i).map f));have m:=(c.perm (List.Perm.swap _ _ _)).unpack;have r:((List.range n).erase i).map f=((List.range n).erase i).map g:=List.map_congr_left fun j q=>by
  have:j≠i:=by
   intro e;subst e;exact List.Nodup.not_mem_erase List.nodup_range q
  grind
 rw[r] at m;refine(m.perm ?_).pack;exact(List.perm_middle.trans ((Mt o).symm.append_right M))
theorem Qo {bytes:Nat} {a:Int} {k:Nat×Nat->Prop} (g:0<=a) (i:a<=2^40) (hb:bytes*a<=2^47) (c:k (a.toNat,a.toNat)):aY (Fa bytes (I a) (I a)) k:=⟨_,by simp only[Fa];grind,c⟩
theorem gG (z:List Value) (n:Nat):dY z n=(List.range n).flatMap fun _=>z:=by
 induction n with
 |zero=>rfl
 |succ n c=>rw[List.range_succ,List.flatMap_append,<-c];simp[dY,List.replicate_succ']
theorem pN {c:Nat->List Value} (hc:∀i,(c i).all dV=true) (n:Nat):((List.range n).flatMap c).all dV=true:=by
 grind
theorem Hs.Mi {W:Nat} {e:TypeId} {z:List Value} {a:Option Addr} {cap n:Nat} (m:z.length=W) (g:0<n) (c:Hs G h (cU W e a cap (n,dY z n)::L)):∃b o,a=some ⟨b,o,none⟩/\Hs G h (dC n (fun i=>aF b (o+i*W) z)::hole G W e a cap n b o::L):=by
 obtain⟨b,o,j,c⟩:=c.eZ g;rw[gG] at c;exact⟨b,o,j,dm (fun _=>m) n _ c⟩
theorem Hs.cK {c L2 g:List HP} (A B C:HP) (i:Hs G h L) [k:dQ A L c] [j:dQ B c L2] [m:dQ C L2 g]:Hs G h (A::B::C::g):=i.perm (k.perm.trans ((j.perm.trans (m.perm.cons B)).cons A))
theorem aE8 {b o i j:Nat} {c:List Value} {v:Value} {k:Value->Prop} (q:Hs G h L) [m:Has (aF b o) L c L'] (hc:c[i+j]?=some v) (g:k v):aY (oM h (pt b (o+i) j)) k:=by
 have:pt b (o+i) j=pt b o (i+j):=by simp only[pt];rw[Nat.add_assoc]
 rw[this];exact aC q hc g
theorem ur {a b c d:Bool} {k:Value->Prop} (g:k (.bool (a||b||c||d))) {c0:Bool} (hc:c0=true:=by kernel_rfl):Nj c0 [1,1,1,1] .neq (.agg ⟨[.bool a,.bool b,.bool c,.bool d]⟩) (.agg ⟨[.bool false,.bool false,.bool false,.bool false]⟩) k:=
 ⟨hc,_,by cases a<;>cases b<;>cases c<;>cases d<;>rfl,g⟩
theorem Cg {α:Type} {f:Nat->α} {i:Nat} {v w:α}:bY (bY f i v) i w=bY f i w:=by funext j;unfold bY;split<;>rfl
theorem dc:∀(l:List Value),(∀v∈l,nN v v=true)->Sm l l=true
 |[],_=>by simp[Sm]
 |a::l,h=>by simp only[Sm,h a List.mem_cons_self,Bool.true_and];exact dc l fun v c=>h v (List.mem_cons_of_mem _ c)
theorem pW {l:List Value} (h:∀v∈l,nN v v=true):nN (.agg ⟨l⟩) (.agg ⟨l⟩)=true:=by
 simp only[nN,Xv];exact dc l h
end Go.Ab
end
section
namespace Go.Ab
variable {P:Program} {K:FuncId->List Value->Option iJ} {G:Bg} {h:AH} {L L' M:List HP}
theorem Rs {W:Nat} {e:TypeId} {a:Option Addr} {cap:Nat} {x:Nat×List Value} {r:cH} (i:Hs G h ((fun q=>q=r)::L)) (g:cU W e a cap x r):Hs G h (cU W e a cap x::L):=
 Hs.join (A:=[_]) i fun q c=>by
  rw[Uq] at c;subst c;exact g
theorem yg {W n c:Nat} {e:TypeId} {a:Option Addr} {cs:List Value} {k:Value->Prop} (j:Hs G h L) [m:Has (cU W e a c) L (n+1,cs) L'] (J:∀Q R,Hs G h (cU W e Q R (n,cs.drop W)::L')->k (.slice Q n R)):aY (uU W h (.slice a (n+1) c) (some (I 1)) none none) k:=by
 have j:=m.of j;obtain⟨r,V,⟨Y,U,hr⟩,w,B,H,s⟩:=j.fst;simp only at Y U;have F:(cs.drop W).all dV=true:=List.all_eq_true.2 fun v hv=>List.all_eq_true.1 U v (List.mem_of_mem_drop hv);have N:(cs.drop W).length=n*W:=by grind
 rcases hr with⟨O,_⟩|⟨O,_⟩|⟨o,b,g,i,ex,rfl,hle,z⟩;simp at O;simp at O;simp only at o hle z;subst z;obtain⟨hb,X⟩:=xY H s;have D:jZ (some (I 1)) 0 (n+1)=some 1:=by simp only[jZ];grind
 have C:jZ none c c=some c:=rfl;have E:jZ none (n+1) c=some (n+1):=rfl;by_cases t:c=1;have hn:n=0:=by omega
 subst t;subst hn;have hex:pV h b=some ex:=by simp only[pV,X]
 have u:cs.drop W=[]:=List.eq_nil_of_length_eq_zero (by omega);cases ex with
 |true=>
  refine⟨tC,by simp only[uU,C,D,Option.isNone_none,Option.isSome_none,Bool.and_false,Bool.false_eq_true,if_false,hex];simp,J _ _ ?_⟩;rw[u];refine Hs.join (A:=[]) j.tail fun q hq=>⟨by simp,rfl,.inl ⟨rfl,hq,rfl,.inr ⟨0,0,rfl⟩⟩⟩
 |false=>
  refine⟨yS ⟨b,g.length+1*W,none⟩,by simp only[uU,C,D,Option.isNone_none,Option.isSome_none,Bool.and_false,Bool.false_eq_true,if_false,hex,cT];simp,J _ _ ?_⟩;rw[u];refine Rs (r:=jF b (g++cs++i) (some (.mt e false (g++cs++i).length))) ⟨j.base,j.old,j.wf,j.fr,_,⟨_,V,rfl,w,B,rfl⟩,(cH.eY B).2 ⟨H,s⟩⟩ ?_;refine⟨by simp,rfl,.inr (.inl ⟨rfl,rfl,b,g.length+1*W,g++cs++i,rfl,?_,rfl⟩)⟩;grind
 refine⟨.slice (some ⟨b,g.length+1*W,none⟩) n (c - 1),?_,J _ _ ?_⟩;have Z:¬c=1:=t;simp only[uU,C,D,E,Option.isNone_none,Option.isSome_none,Bool.and_false,Bool.false_eq_true,if_false,Z,cT];rw[aNa o];rfl;have S:g++cs++i=(g++cs.take W)++cs.drop W++i:=by simp
 have T:(g++cs.take W).length=g.length+1*W:=by
  grind
 refine Rs (r:=jF b (g++cs++i) (some (.mt e ex (g++cs++i).length))) ⟨j.base,j.old,j.wf,j.fr,_,⟨_,V,rfl,w,B,rfl⟩,(cH.eY B).2 ⟨H,s⟩⟩ ?_;refine⟨N,F,.inr (.inr ⟨by simp only;omega,b,g++cs.take W,i,ex,by rw[T],?_,by rw[<-S]⟩)⟩;simp only;rw[<-S,T];have:c*W=(c - 1)*W+W:=by rw[<-Nat.succ_mul];congr 1;omega
 omega
theorem Ku {b o i j n:Nat} {c l:List Value} {k:Value->Prop} (s:Hs G h L) [m:Has (aF b o) L c L'] (r:0<n) (hc:(c.drop (i+j)).take n=l) (q:l.length=n) (g:k (.agg ⟨l⟩)):aY (tU h n (pt b (o+i) j)) k:=by
 have:pt b (o+i) j=pt b o (i+j):=by simp only[pt];rw[Nat.add_assoc]
 rw[this];exact aN s r hc q g
end Go.Ab
end
section
namespace Go.Ab
variable {P:Program} {K:FuncId->List Value->Option iJ} {h:AH}
theorem aH8 {f g:FuncId} {args c:List Value} {Q:Value->AH->Prop} (m:K f args=some (.fwd g c)) (t:Cl P K g c h fun v i=>Mm v=true/\Q v i):Cl P K f args h Q:=by
 obtain⟨n,⟨o,j⟩,s,q,r⟩:=t;exact⟨n+1,(⟨.iR,[],[],o.v⟩,j),by show iS _ _ _ _ _ _=_;simp only[iS,m,s,q,if_true],r⟩
end Go.Ab
end
section
namespace Go.Ab
variable {P:Program} {K:FuncId->List Value->Option iJ} {G:Bg} {h:AH} {L L' M:List HP}
theorem Mh {W n m c:Nat} {e:TypeId} {a:Option Addr} {cs zs:List Value} (I:m<=n) (H:0<n) (C:cs.length=m*W) (q:Hs G h (cU W e a c (n,cs++zs)::L)):Hs G h (cU W e a c (m,cs)::L):=by
 obtain⟨r,F,⟨u,A,D⟩,v,w,B,t⟩:=q.fst;simp only at u A;have s:cs.all dV=true:=by grind
 rcases D with⟨E,_⟩|⟨E,_⟩|⟨j,b,i,g,ex,rfl,hle,o⟩;grind;grind;simp only at j hle o;subst o;refine Rs (r:=jF b (i++(cs++zs)++g) (some (.mt e ex (i++(cs++zs)++g).length))) ⟨q.base,q.old,q.wf,q.fr,_,⟨_,F,rfl,v,w,rfl⟩,(cH.eY w).2 ⟨B,t⟩⟩ ?_;have z:i++(cs++zs)++g=i++cs++(zs++g):=by simp
 refine⟨C,s,.inr (.inr ⟨by simp only;omega,b,i,zs++g,ex,rfl,?_,by rw[z]⟩)⟩;grind
theorem r7 {b o j m:Nat} {c:List Value} (r:Hs G h (aF b o c::L)) (i:0<c.length) (v:j+m<=c.length):bZ h ⟨b,o+j,none⟩ m=some ((c.drop j).take m):=by
 obtain⟨u,s,t,w,q,hle,g⟩:=r.cells i;simp only[bZ,Option.isSome_none,Bool.false_eq_true,if_false,q];rw[aae];congr 1;refine List.ext_getElem? fun k=>?_;grind
theorem Wm {A B z:List Value} {j:Nat} (c:A.length=j) (g:B.length=z.length):bV (A++B) j z=A++z:=by
 subst c;unfold bV;rw[List.take_left,List.drop_eq_nil_of_le (by rw[List.length_append];omega),List.append_nil]
theorem I2 {α:Type} (l:List α) (i:Nat):l.take i++l.drop i=l:=List.take_append_drop i l
theorem aDz {W bytes n i c:Nat} {e:TypeId} {a:Option Addr} {cs z:List Value} {k:Value->AH->Prop} (hW:0<W) (hz:z.length=W) (ι:z.all dV=true) (hi:i<n) (J:Hs G h L) [m:Has (cU W e a c) L (n,cs) L']
  (hk:∀h',Hs G h' (cU W e a c (n - 1,cs.take (i*W)++cs.drop ((i+1)*W))::L')->k (.slice a (n - 1) c) h'):
  aY (uU W h (.slice a n c) none (some (I i)) none) fun v3=>aY (uU W h (.slice a n c) (some (I ((i:Int)+1))) none none) fun v4=>
   aY (iH W bytes e h v3 v4) fun s=>aY (iK s.1) fun Z=>aY (uU W s.2 s.1 (some Z) (some (I n)) none) fun v9=>aY (gW z s.2 v9) fun q=>k s.1 q.2:=by
 have J:=m.of J
 have hl:=J.Ce
 have hc:=J.Ex
 simp only at hl hc
 have g:n<=c:=by
  obtain⟨r,r2,⟨_,_,hr⟩,_⟩:=J.fst;rcases hr with⟨hz,_⟩|⟨hz,_⟩|⟨g,_⟩;simp only at hz;omega;simp only at hz;omega;exact g
 obtain⟨b,o,rfl,H,u,close⟩:=J.oJ (by omega)
 have κ:0<n*W:=Nat.mul_pos (by omega) hW
 have B:0<cs.length:=by omega
 have F:jZ none c c=some c:=rfl
 have b2:jZ (some (I i)) n c=some i:=by simp only[jZ];rw[aae];simp
 have b3:jZ none 0 i=some 0:=rfl
 have b4:jZ none n c=some n:=rfl
 have b5:jZ (some (I ((i:Int)+1))) 0 n=some (i+1):=by simp only[jZ];rw[aae];congr 1
 have b6:jZ (some (I ((n - 1:Nat):Int))) 0 n=some (n - 1):=by simp only[jZ];grind
 have b7:jZ (some (I n)) n c=some n:=by simp only[jZ];grind
 have T:¬c=0:=by omega
 refine⟨.slice (some ⟨b,o,none⟩) i c,?_,?_⟩
 .simp only[uU,F,b2,b3,Option.isNone_some,Bool.false_and,Option.isSome_none,Bool.false_eq_true,if_false,T,cT];rw[aae];simp
 have μ:(i+1)*W=i*W+W:=by rw[Nat.add_mul,Nat.one_mul]
 have ν:(i+1)*W<=n*W:=Nat.mul_le_mul_right W hi
 have η:(n - (i+1))*W=n*W - (i+1)*W:=Nat.sub_mul _ _ _
 have ξ:(n - 1)*W=n*W - W:=by rw[Nat.sub_mul,Nat.one_mul]
 have fin:∀t,Hs G t (aF b o (cs.take (i*W)++cs.drop ((i+1)*W)++cs.drop ((n - 1)*W))::H::L')->
   aY (iK (.slice (some ⟨b,o,none⟩) (n - 1) c)) fun Z=>aY (uU W t (.slice (some ⟨b,o,none⟩) (n - 1) c) (some Z) (some (I n)) none) fun v9=>aY (gW z t v9) fun q=>k (.slice (some ⟨b,o,none⟩) (n - 1) c) q.2:=by
  intro t U
  refine bH ?_
  have C:¬c=n - 1:=by omega
  refine⟨.slice (some ⟨b,o+(n - 1)*W,none⟩) (n - (n - 1)) (c - (n - 1)),?_,?_⟩
  .have α:jZ (some (I n)) (n - 1) c=some n:=b7;simp only[uU,F,α,b6,Option.isNone_some,Bool.false_and,Option.isSome_none,Bool.false_eq_true,if_false,C,cT];grind
  have β:n - (n - 1)=1:=by omega
  rw[β]
  have w:(cs.take (i*W)++cs.drop ((i+1)*W)).length=(n - 1)*W:=by
   grind
  have θ:dY z 1=z:=by simp[dY]
  have O:(cs.take (i*W)++cs.drop ((i+1)*W)).all dV=true:=by
   grind
  obtain⟨N,D,V⟩:=U.write (j:=(n - 1)*W) (vs:=z) (by grind) ι (by grind)
  refine⟨(.tuple #[],N),?_,?_⟩
  .simp only[gW,Nat.one_ne_zero,if_false,θ,D,Option.map_some]
  refine hk N ?_
  have X:bV (cs.take (i*W)++cs.drop ((i+1)*W)++cs.drop ((n - 1)*W)) ((n - 1)*W) z=cs.take (i*W)++cs.drop ((i+1)*W)++z:=Wm w (by grind)
  rw[X] at V
  refine Mh (n:=n) (zs:=z) (by omega) (by omega) w (close N _ _ ?_ ?_ V)
  .grind
  .grind
 by_cases S:i+1=n
 .have γ:cs.drop ((i+1)*W)=[]:=List.drop_eq_nil_of_le (by rw[S];omega);have E:∀v4:Value,tP v4=some 0->fA h W 0 v4=some []->aY (iH W bytes e h (.slice (some ⟨b,o,none⟩) i c) v4) fun s=>aY (iK s.1) fun Z=>aY (uU W s.2 s.1 (some Z) (some (I n)) none) fun v9=>aY (gW z s.2 v9) fun q=>k s.1 q.2:=by
   intro v4 t N;refine⟨(.slice (some ⟨b,o,none⟩) i c,h),?_,?_⟩;simp only[iH,t,N,List.all_nil,Bool.not_true,List.length_nil,Nat.zero_mul,bne_self_eq_false,Bool.or_self,Bool.false_eq_true,if_false,Nat.add_zero];grind;have R:i=n - 1:=by omega
   have:=fin h (by
    rw[γ,List.append_nil,R,I2];exact u)
   rw[R];exact this
  by_cases A:c=i+1
  .obtain⟨hb,c',e',x',hg,hle,O⟩:=u.cells B;have hex:pV h b=some x':=by simp only[pV,hg]
   cases x' with
   |true=>
    refine⟨tC,?_,E _ rfl rfl⟩
    simp only[uU,F,b4,b5,Option.isNone_none,Option.isSome_none,Bool.and_false,Bool.false_eq_true,if_false,cT,hex]
    grind
   |false=>
    refine⟨yS ⟨b,o+(i+1)*W,none⟩,?_,E _ rfl rfl⟩
    simp only[uU,F,b4,b5,Option.isNone_none,Option.isSome_none,Bool.and_false,Bool.false_eq_true,if_false,cT,hex]
    grind
  .refine⟨.slice (some ⟨b,o+(i+1)*W,none⟩) (n - (i+1)) (c - (i+1)),?_,?_⟩
   .simp only[uU,F,b4,b5,Option.isNone_none,Option.isSome_none,Bool.and_false,Bool.false_eq_true,if_false,cT,A];rw[aNa g]
   .have:n - (i+1)=0:=by omega
    rw[this]
    exact E _ rfl (by simp[fA])
 .have A:¬c=i+1:=by omega
  refine⟨.slice (some ⟨b,o+(i+1)*W,none⟩) (n - (i+1)) (c - (i+1)),?_,?_⟩
  .simp only[uU,F,b4,b5,Option.isNone_none,Option.isSome_none,Bool.and_false,Bool.false_eq_true,if_false,cT,A];rw[aNa g]
  have ζ:¬n - (i+1)=0:=by omega
  have ε:bZ h ⟨b,o+(i+1)*W,none⟩ ((n - (i+1))*W)=some (cs.drop ((i+1)*W)):=by
   rw[r7 u B (by omega),List.take_of_length_le (by grind)]
  have δ:(cs.drop ((i+1)*W)).length=(n - (i+1))*W:=by grind
  have Q:(cs.drop ((i+1)*W)).all dV=true:=List.all_eq_true.2 fun v hv=>List.all_eq_true.1 hc v (List.mem_of_mem_drop hv)
  obtain⟨t,D,U⟩:=u.write (j:=i*W) (vs:=cs.drop ((i+1)*W)) (by omega) Q B
  have Y:i+(n - (i+1))=n - 1:=by omega
  refine⟨(.slice (some ⟨b,o,none⟩) (n - 1) c,t),?_,?_⟩
  .simp only[iH,tP,fA,aN9 ζ,Nat.le_refl,if_true,ε,Q,δ,Bool.not_true,bne_self_eq_false,Bool.or_self,Bool.false_eq_true,if_false,cT,D,Option.map_some,Option.isSome_none,Y];grind
  refine fin t ?_
  have X:bV cs (i*W) (cs.drop ((i+1)*W))=cs.take (i*W)++cs.drop ((i+1)*W)++cs.drop ((n - 1)*W):=by
   unfold bV;grind
  grind
end Go.Ab
end
