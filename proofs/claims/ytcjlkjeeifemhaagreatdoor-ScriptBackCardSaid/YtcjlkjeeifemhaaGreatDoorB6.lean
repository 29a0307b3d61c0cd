/- A part of the proof. -/
import Derived.Test.YtcjlkjeeifemhaaGreatDoorB4
import Derived.IntWalk
import Derived.KernelRfl
namespace Go.Ab
open Go.RowKit
section
inductive Tok where
 |free
 |mt (e:TypeId) (x:Bool) (n:Nat)
 |vG (b:hZ)
structure aU where
 cell:Nat->Nat->Option Value
 tok:Nat->Option Tok
def I7:hZ->Bool
 |.cells ..=>false
 |_=>true
structure aU.In (r:aU) (B:Nat) (h:AH):Prop where
 cell:∀b o v,r.cell b o=some v->B<=b/\∃c e x,h.get b=some (.cells c e (0,0) x)/\c[o]?=some v
 free:∀b,r.tok b=some .free->B<=b/\b<h.next/\h.get b=none
 mt:∀b e x n,r.tok b=some (.mt e x n)->B<=b/\∃c,h.get b=some (.cells c e (0,0) x)/\c.length=n
 vG:∀b o,r.tok b=some (.vG o)->B<=b/\h.get b=some o/\I7 o=true
structure aU.mV (r s:aU):Prop where
 cell:∀b o,r.cell b o=none\/s.cell b o=none
 tok:∀b,r.tok b=none\/s.tok b=none
def aU.add (r s:aU):aU:=⟨fun b o=>(r.cell b o).or (s.cell b o),fun b=>(r.tok b).or (s.tok b)⟩
def aU.emp:aU:=⟨fun _ _=>none,fun _=>none⟩
theorem aU.ext' {r s:aU} (c:∀b o,r.cell b o=s.cell b o) (g:∀b,r.tok b=s.tok b):r=s:=by
 cases r;cases s;simp only[aU.mk.injEq];grind
theorem Av {α:Type} {a b:Option α} (h:a=none\/b=none):a.or b=b.or a:=by
 rcases h with h|h<;>subst h<;>simp
theorem or_none {α:Type} {a b:Option α} (h:a.or b=none):a=none/\b=none:=by cases a<;>simp_all
theorem aU.mV.symm {r s:aU} (d:r.mV s):s.mV r:=⟨fun b o=>(d.cell b o).symm,fun b=>(d.tok b).symm⟩
theorem aU.add_comm {r s:aU} (d:r.mV s):r.add s=s.add r:=aU.ext' (fun b o=>Av (d.cell b o)) (fun b=>Av (d.tok b))
theorem aU.add_assoc {r s t:aU}:(r.add s).add t=r.add (s.add t):=aU.ext' (fun b o=>by simp[aU.add,Option.or_assoc]) (fun b=>by simp[aU.add,Option.or_assoc])
theorem aU.dZ {r s t:aU}:r.mV (s.add t)↔r.mV s/\r.mV t:=by
 constructor;intro d;refine⟨⟨fun b o=>?_,fun b=>?_⟩,⟨fun b o=>?_,fun b=>?_⟩⟩;rcases d.cell b o with h|h;exact .inl h;exact .inr (or_none h).1;rcases d.tok b with h|h;exact .inl h;exact .inr (or_none h).1;rcases d.cell b o with h|h;exact .inl h;exact .inr (or_none h).2;rcases d.tok b with h|h;exact .inl h;exact .inr (or_none h).2;intro⟨d1,d2⟩;refine⟨fun b o=>?_,fun b=>?_⟩;rcases d1.cell b o with h|h;exact .inl h;rcases d2.cell b o with c|c;exact .inl c;exact .inr (by simp[aU.add,h,c]);rcases d1.tok b with h|h;exact .inl h;rcases d2.tok b with c|c;exact .inl c;exact .inr (by simp[aU.add,h,c])
theorem aU.dC {r:aU}:aU.emp.add r=r:=aU.ext' (fun _ _=>by simp[aU.add,aU.emp]) (fun _=>by simp[aU.add,aU.emp])
theorem aU.bM {r:aU}:aU.emp.mV r:=⟨fun _ _=> .inl rfl,fun _=> .inl rfl⟩
theorem aU.dA {r s:aU} {B:Nat} {h:AH} (d:r.mV s):(r.add s).In B h↔r.In B h/\s.In B h:=by
 have g:∀b o v,r.cell b o=some v->(r.add s).cell b o=some v:=fun b o v c=>by simp[aU.add,c]
 have c2:∀b o v,s.cell b o=some v->(r.add s).cell b o=some v:=fun b o v c=>by
  rcases d.cell b o with h|h;simp[aU.add,h,c];grind
 have t1:∀b v,r.tok b=some v->(r.add s).tok b=some v:=fun b v c=>by simp[aU.add,c]
 have t2:∀b v,s.tok b=some v->(r.add s).tok b=some v:=fun b v c=>by
  rcases d.tok b with h|h;simp[aU.add,h,c];grind
 have c3:∀b o v,(r.add s).cell b o=some v->r.cell b o=some v\/s.cell b o=some v:=fun b o v c=>by
  simp only[aU.add] at c;cases hr:r.cell b o with
  |none=>grind
  |some u=>grind
 have t3:∀b v,(r.add s).tok b=some v->r.tok b=some v\/s.tok b=some v:=fun b v c=>by
  simp only[aU.add] at c;cases hr:r.tok b with
  |none=>grind
  |some u=>grind
 constructor;intro i;exact⟨⟨fun b o v c=>i.cell b o v (g _ _ _ c),fun b c=>i.free b (t1 _ _ c),fun b e x n c=>i.mt b e x n (t1 _ _ c),fun b o c=>i.vG b o (t1 _ _ c)⟩,
     ⟨fun b o v c=>i.cell b o v (c2 _ _ _ c),fun b c=>i.free b (t2 _ _ c),fun b e x n c=>i.mt b e x n (t2 _ _ c),fun b o c=>i.vG b o (t2 _ _ c)⟩⟩
 intro⟨i,j⟩;refine⟨fun b o v c=>?_,fun b c=>?_,fun b e x n c=>?_,fun b o c=>?_⟩;rcases c3 _ _ _ c with h|h;exact i.cell b o v h;exact j.cell b o v h;rcases t3 _ _ c with h|h;exact i.free b h;exact j.free b h;rcases t3 _ _ c with h|h;exact i.mt b e x n h;exact j.mt b e x n h;rcases t3 _ _ c with h|h;exact i.vG b o h;exact j.vG b o h
abbrev HP:=aU->Prop
def star:List HP->aU->Prop
 |[],r=>r=aU.emp
 |A::L,r=>∃c g,A c/\star L g/\c.mV g/\r=c.add g
theorem vK {L L':List HP} (p:L.Perm L'):∀r,star L r->star L' r:=by
 induction p with
 |nil=>exact fun _ h=>h
 |cons A _ w=>exact fun r ⟨c,m,g,q,i,j⟩=>⟨c,m,g,w _ q,i,j⟩
 |swap A B L=>
  intro r ⟨c,m,g,⟨r3,o,s,t,u,v⟩,i,j⟩;subst v;subst j;obtain⟨d1,d2⟩:=aU.dZ.1 i;refine⟨r3,c.add o,s,⟨c,o,g,t,d2,rfl⟩,aU.dZ.2 ⟨d1.symm,u⟩,?_⟩;rw[<-aU.add_assoc,<-aU.add_assoc,aU.add_comm d1]
 |trans _ _ z C=>grind
theorem dP {L M:List HP}:∀{r},star (L++M) r↔∃c g,star L c/\star M g/\c.mV g/\r=c.add g:=by
 induction L with
 |nil=>intro r;exact⟨fun h=>⟨aU.emp,r,rfl,h,aU.bM,aU.dC.symm⟩,fun⟨c,g,j,m,o,i⟩=>by cases j;rw[aU.dC] at i;subst i;exact m⟩
 |cons A L v=>
  intro r;constructor;intro⟨c,g,j,m,o,i⟩;obtain⟨r3,q,s,t,u,w⟩:=v.1 m;subst w;obtain⟨d1,d2⟩:=aU.dZ.1 o;exact⟨c.add r3,q,⟨c,r3,j,s,d1,rfl⟩,t,(aU.dZ.2 ⟨d2.symm,u.symm⟩).symm,by rw[i,aU.add_assoc]⟩;intro⟨c,g,⟨r3,q,j,m,o,i⟩,s,t,u⟩;subst i;obtain⟨d1,d2⟩:=aU.dZ.1 t.symm;exact⟨r3,q.add g,j,v.2 ⟨q,g,m,s,d2.symm,rfl⟩,aU.dZ.2 ⟨o,d1.symm⟩,by rw[u,aU.add_assoc]⟩
structure Bg where
 base:Nat
 old:Nat->Option hZ
 hb:Nat
structure Hs (G:Bg) (h:AH) (L:List HP):Prop where
 base:h.base=G.hb/\G.hb<=G.base
 old:∀i,i<G.base->h.get i=G.old i
 wf:G.base<=h.next
 fr:∀i,h.next<=i->h.get i=none
 res:∃r,star L r/\r.In G.base h
variable {P:Program} {K:FuncId->List Value->Option dU} {G:Bg} {h:AH} {L L' M:List HP}
theorem Hs.le (c:Hs G h L):h.base<=G.base:=by rw[c.base.1];exact c.base.2
theorem Hs.perm (c:Hs G h L) (p:L.Perm L'):Hs G h L':=⟨c.base,c.old,c.wf,c.fr,let⟨r,g,i⟩:=c.res;⟨r,vK p r g,i⟩⟩
theorem Hs.tail {A:HP} (c:Hs G h (A::L)):Hs G h L:=⟨c.base,c.old,c.wf,c.fr,let⟨_,⟨_,o,_,g,i,j⟩,m⟩:=c.res;⟨o,g,((aU.dA i).1 (j▸m)).2⟩⟩
theorem Hs.imp {A:HP} {B:List HP} (c:Hs G h (A::L)) (k:∀r,A r->star B r):Hs G h (B++L):=⟨c.base,c.old,c.wf,c.fr,let⟨r,⟨g,s,i,j,m,o⟩,q⟩:=c.res;⟨r,dP.2 ⟨g,s,k g i,j,m,o⟩,q⟩⟩
theorem Hs.join {A:List HP} {B:HP} (c:Hs G h (A++L)) (k:∀r,star A r->B r):Hs G h (B::L):=⟨c.base,c.old,c.wf,c.fr,let⟨r,g,q⟩:=c.res;let⟨i,s,g,j,m,o⟩:=dP.1 g;⟨r,⟨i,s,k i g,j,m,o⟩,q⟩⟩
class Has {α:Type} (R:α->HP) (L:List HP) (a:outParam α) (L':outParam (List HP)):Prop where
 perm:L.Perm (R a::L')
instance (priority:=low) Has.there {α:Type} {R:α->HP} {A:HP} {a:α} [k:Has R L a L']:Has R (A::L) a (A::L'):=⟨(k.perm.cons A).trans (List.Perm.swap _ _ _)⟩
instance (priority:=high) Has.here {α:Type} {R:α->HP} {a:α}:Has R (R a::L) a L:=⟨List.Perm.refl _⟩
instance (priority:=high) Has.app {α:Type} {R:α->HP} {A:HP} {c g:List HP} {a:α} [k:Has R (A::(c++g)) a L']:Has R ((A::c)++g) a L':=k
instance (priority:=high) Has.fx {α:Type} {R:α->HP} {c:List HP} {a:α} [k:Has R c a L']:Has R ([]++c) a L':=k
def vD (b o:Nat) (c:List Value):aU:=⟨fun i g=>if i=b/\o<=g then c[g - o]? else none,fun _=>none⟩
def aM (b o:Nat) (c:List Value):HP:=fun r=>r=vD b o c
def mt (b:Nat) (m:TypeId×Bool×Nat):HP:=fun r=>r=⟨fun _ _=>none,fun c=>if c=b then some (.mt m.1 m.2.1 m.2.2) else none⟩
def ot (b:Nat) (o:hZ):HP:=fun r=>r=⟨fun _ _=>none,fun c=>if c=b then some (.vG o) else none⟩
def il (c n:Nat) (D:List Nat):HP:=fun r=>r=⟨fun _ _=>none,fun b=>if c<=b/\b<c+n/\(b - c)∉D then some .free else none⟩
theorem kV {b o:Nat} {c:List Value} {g o':Nat}:(vD b o c).cell g o'=if g=b/\o<=o' then c[o' - o]? else none:=rfl
theorem xT {b o:Nat} {c d:List Value}:vD b o (c++d)=(vD b o c).add (vD b (o+c.length) d):=by
 refine aU.ext' (fun g i=>?_) (fun _=>rfl);simp only[aU.add,kV];grind
theorem Q7 {b o:Nat} {c d:List Value}:(vD b o c).mV (vD b (o+c.length) d):=by
 refine⟨fun g i=>?_,fun _=> .inl rfl⟩;simp only[kV];grind
theorem rM {b o:Nat} {c d:List Value} (r:aU):aM b o (c++d) r↔star [aM b o c,aM b (o+c.length) d] r:=by
 constructor;intro t;cases t;exact⟨_,_,rfl,⟨_,aU.emp,rfl,rfl,aU.bM.symm,rfl⟩,by rw[aU.add_comm aU.bM.symm,aU.dC];exact Q7,by rw[aU.add_comm (s:=aU.emp) aU.bM.symm,aU.dC,xT]⟩;intro⟨w,z,i,⟨r3,A,j,m,v,q⟩,u,g⟩;cases i;cases j;cases m;subst q;rw[aU.add_comm (s:=aU.emp) aU.bM.symm,aU.dC] at g;rw[<-xT] at g;exact g
theorem Hs.split {b o:Nat} {c d:List Value} (g:Hs G h (aM b o (c++d)::L)):Hs G h (aM b o c::aM b (o+c.length) d::L):=g.imp (B:=[_,_]) fun r=>(rM r).1
theorem Hs.O9 {b o o':Nat} {c d:List Value} (i:Hs G h (aM b o c::aM b o' d::L)) (g:o'=o+c.length):Hs G h (aM b o (c++d)::L):=by
 subst g;exact Hs.join (A:=[_,_]) i fun r=>(rM r).2
theorem Hs.cellAt {b o j:Nat} {c:List Value} {v:Value} (s:Hs G h (aM b o c::L)) (u:c[j]?=some v):
  G.base<=b/\∃g e x,h.get b=some (.cells g e (0,0) x)/\g[o+j]?=some v:=by
 obtain⟨_,⟨w,z,i,t,m,q⟩,r⟩:=s.res
 cases i
 subst q
 have:=((aU.dA m).1 r).1.cell b (o+j) v (by rw[kV,tu ⟨rfl,by omega⟩];grind)
 exact this
theorem Hs.cells {b o:Nat} {c:List Value} (q:Hs G h (aM b o c::L)) (m:0<c.length):
  G.base<=b/\∃i e x,h.get b=some (.cells i e (0,0) x)/\o+c.length<=i.length/\∀j,j<c.length->i[o+j]?=c[j]?:=by
 obtain⟨r,i,e,x,s,w⟩:=q.cellAt (j:=0) (List.getElem?_eq_getElem m)
 have g:∀j,j<c.length->i[o+j]?=c[j]?:=fun j u=>by
  obtain⟨_,c2,v,B,t,A⟩:=q.cellAt (j:=j) (List.getElem?_eq_getElem u);grind
 refine⟨r,i,e,x,s,?_,g⟩
 have z:=g (c.length - 1) (by omega)
 grind
theorem aU.In.of {r:aU} {B:Nat} {h h':AH} (i:r.In B h) (_s:h'.base=h.base) (u:h.next<=h'.next) (t:∀b,(r.tok b≠none\/∃o,r.cell b o≠none)->h'.get b=h.get b):r.In B h' where
 cell:=fun b o v g=>by
  obtain⟨j,c,e,x,m,q⟩:=i.cell b o v g;grind
 free:=fun b g=>by
  obtain⟨j,m,q⟩:=i.free b g;grind
 mt:=fun b e x n g=>by
  obtain⟨j,c,m,q⟩:=i.mt b e x n g;grind
 vG:=fun b o g=>by
  obtain⟨j,m,q⟩:=i.vG b o g;grind
theorem Hs.write {b o j:Nat} {c vs:List Value} (t:Hs G h (aM b o c::L)) (hl:j+vs.length<=c.length) (hv:vs.all cT=true) (I:0<c.length):
  ∃Q,bL h ⟨b,o+j,none⟩ vs=some Q/\Hs G Q (aM b o (aQ c j vs)::L):=by
 obtain⟨R,z,e,x,B,U,A⟩:=t.cells I
 have w:h.base<=b:=Nat.le_trans t.le R
 refine⟨h.set b (some (.cells (aQ z (o+j) vs) e (0,0) x)),?_,?_⟩
 .simp only[bL,Option.isSome_none,Bool.false_or,hv,Bool.not_true,Bool.or_false,B];grind
 .obtain⟨_,⟨r1,O,u,E,F,X⟩,Y⟩:=t.res;cases u;subst X;obtain⟨i1,i2⟩:=(aU.dA F).1 Y;have m:∀i,(h.set b (some (.cells (aQ z (o+j) vs) e (0,0) x))).get i=if i=b then some (.cells (aQ z (o+j) vs) e (0,0) x) else h.get i:=fun i=>AH.dO w
  have N:∀k,(aQ z (o+j) vs)[k]?=if o+j<=k/\k<o+j+vs.length then vs[k - (o+j)]? else z[k]?:=fun k=>by
   unfold aQ;by_cases u:k<o+j;grind;by_cases E:k<o+j+vs.length;grind;rw[aab,List.getElem?_append_right (by simp;omega)];simp only[List.length_append,List.length_take,List.getElem?_drop];congr 1;omega
  have J:∀k,(aQ c j vs)[k]?=if j<=k/\k<j+vs.length then vs[k - j]? else c[k]?:=fun k=>by
   unfold aQ;by_cases u:k<j;grind;by_cases E:k<j+vs.length;grind;rw[aab,List.getElem?_append_right (by simp;omega)];simp only[List.length_append,List.length_take,List.getElem?_drop];congr 1;omega
  have V:(aQ c j vs).length=c.length:=by simp[aQ];omega
  have S:(vD b o (aQ c j vs)).mV O:=by
   refine⟨fun q r=>?_,fun _=> .inl rfl⟩;rcases F.cell q r with h|h;left;rw[kV] at h ⊢;grind;exact .inr h
  have Z:b<h.next:=by
   rcases Nat.lt_or_ge b h.next with u|u
   exact u;rw[t.fr b u] at B;cases B
  refine⟨by simp;exact t.base,fun i D=>by rw[m,aab];exact t.old i D,by simp;exact t.wf,fun i D=>by simp at D;rw[m,aab];exact t.fr i D,_,⟨_,O,rfl,E,S,rfl⟩,(aU.dA S).2 ⟨?_,?_⟩⟩
  .refine⟨fun q r v g=>?_,fun _ C=>by simp[vD] at C,fun _ _ _ _ C=>by simp[vD] at C,fun _ _ C=>by simp[vD] at C⟩;rw[kV] at g;split at g
   .rename_i hc;obtain⟨rfl,ho⟩:=hc;refine⟨R,_,e,x,by rw[m,tu rfl],?_⟩;rw[N];rw[J] at g;split at g
    .rename_i T;rw[aae,show r - (o+j)=r - o - j by omega];exact g
    .rename_i T;rw[aab];have H:r - o<c.length:=(List.getElem?_eq_some_iff.1 g).1;have:=A (r - o) H;rw[show o+(r - o)=r by omega] at this;rw[this];exact g
   .cases g
  .have α:∀q r v,O.cell q r=some v->q=b->¬(o+j<=r/\r<o+j+vs.length):=by
    intro q r v g s T;subst s;rcases F.cell q r with h|h;rw[kV,tu ⟨rfl,by omega⟩,List.getElem?_eq_none_iff] at h;omega;grind
   refine⟨fun q r v g=>?_,fun q g=>?_,fun q W x' n g=>?_,fun q ob g=>?_⟩
   .obtain⟨g1,c2,e2,x2,g2,g3⟩:=i2.cell q r v g;refine⟨g1,?_⟩;grind
   .obtain⟨g1,g2,g3⟩:=i2.free q g;refine⟨g1,by simp;exact g2,?_⟩;grind
   .obtain⟨g1,c2,g2,g3⟩:=i2.mt q W x' n g;refine⟨g1,?_⟩;rw[m];by_cases s:q=b
    .rw[tu s];rw[s,B] at g2;cases g2;exact⟨_,rfl,by simp[aQ];omega⟩
    grind
   .obtain⟨g1,g2,g3⟩:=i2.vG q ob g;refine⟨g1,?_,g3⟩;rw[m,tt (by intro s;subst s;rw[B] at g2;cases g2;simp[I7] at g3)];exact g2
theorem O6 {r:aU} {B:Nat} {h:AH} {i:Nat} (q:r.In B h) (m:h.get i=none) (s:r.tok i=none) {c:List Value} {t:Option Tok}:
  (⟨fun b o=>if b=i then c[o]? else none,fun b=>if b=i then t else none⟩:aU).mV r:=by
 refine⟨fun b o=>?_,fun b=>?_⟩
 .by_cases j:b=i
  .right;subst j;cases hc:r.cell b o with
   |none=>rfl
   |some v=>obtain⟨_,_,_,_,g,_⟩:=q.cell b o v hc;rw[m] at g;cases g
  .left;simp[j]
 grind
def eZ (i:Nat) (c:List Value) (t:Option Tok):aU:=⟨fun b o=>if b=i then c[o]? else none,fun b=>if b=i then t else none⟩
theorem jD {i:Nat} {c:List Value} {e:TypeId} {x:Bool}:star [aM i 0 c,mt i (e,x,c.length)] (eZ i c (some (.mt e x c.length))):=by
 refine⟨vD i 0 c,_,rfl,⟨_,aU.emp,rfl,rfl,aU.bM.symm,rfl⟩,?_,?_⟩;rw[aU.add_comm (s:=aU.emp) aU.bM.symm,aU.dC];exact⟨fun _ _=> .inr rfl,fun _=> .inl rfl⟩;rw[aU.add_comm (s:=aU.emp) aU.bM.symm,aU.dC];refine aU.ext' (fun b o=>?_) (fun b=>?_);simp[eZ,aU.add,vD];simp[eZ,aU.add,vD]
theorem Hs.new {c:List Value} {e:TypeId} {x:Bool} (s:Hs G h L):Hs G (h.alloc (.cells c e (0,0) x)) (aM h.next 0 c::mt h.next (e,x,c.length)::L):=by
 obtain⟨r,F,z⟩:=s.res;have w:h.get h.next=none:=s.fr _ (Nat.le_refl _)
 have A:r.tok h.next=none:=by
  cases ht:r.tok h.next with
  |none=>rfl
  |some t=>
   cases t with
   |free=>have:=(z.free _ ht).2.1;omega
   |mt E H n=>obtain⟨_,_,g,_⟩:=z.mt _ _ _ _ ht;grind
   |vG o=>obtain⟨_,g,_⟩:=z.vG _ _ ht;grind
 have D:(eZ h.next c (some (.mt e x c.length))).mV r:=O6 z w A;have m:∀j,(h.alloc (.cells c e (0,0) x)).get j=if j=h.next then some (.cells c e (0,0) x) else h.get j:=fun j=>AH.nI (Nat.le_trans s.le s.wf)
 refine⟨s.base,fun i C=>(by rw[m,tt (by have:=s.wf;omega)];exact s.old i C),Nat.le_succ_of_le s.wf,fun i C=>by simp at C;rw[m,aab];exact s.fr i (by omega),(eZ h.next c (some (.mt e x c.length))).add r,(dP (L:=[aM h.next 0 c,mt h.next (e,x,c.length)])).2 ⟨_,r,jD,F,D,rfl⟩,(aU.dA D).2 ⟨?_,?_⟩⟩;refine⟨fun b o v q=>?_,fun b q=>?_,fun b E H n q=>?_,fun b o q=>?_⟩;simp only[eZ] at q;split at q;rename_i u;subst u;exact⟨s.wf,c,e,x,by rw[m,tu rfl],q⟩;cases q;simp only[eZ] at q;grind;simp only[eZ] at q;split at q;rename_i u;subst u;cases q;exact⟨s.wf,c,by rw[m,tu rfl],rfl⟩;cases q;simp only[eZ] at q;grind;refine z.of rfl (by simp) fun b u=>?_;rw[m,tt];intro B;subst B;rcases u with u|⟨o,u⟩;exact u A;apply u;cases hc:r.cell h.next o with
 |none=>rfl
 |some v=>obtain⟨_,_,_,_,g,_⟩:=z.cell _ o v hc;grind
end
end Go.Ab
section
namespace Go.Ab
variable {P:Program} {K:FuncId->List Value->Option dU} {G:Bg} {h:AH} {L L' M:List HP}
theorem Has.of {α:Type} {R:α->HP} {a:α} (m:Has R L a L') (c:Hs G h L):Hs G h (R a::L'):=c.perm m.perm
def tM (h:AH) (_i:Nat) (e:TypeId) (l:List Value) (n c:Nat) (k:Value->AH->Prop):Prop:=tX h (.cells l e (0,0) true) fun p g=>k (.slice (some ⟨p,0,none⟩) n c) g
def gT (h:AH) (r:Nat) (_i:Nat) (e:TypeId) (l:List Value) (n c:Nat) (k:Value->AH->Prop):Prop:=iM h r (.cells l e (0,0) true) fun p g=>k (.slice (some ⟨p,0,none⟩) n c) g
def lp (P:Program) (f:FuncId) (p:List Nat) (n:Nat) (e:Nat->Value) (d:Nat) (st:LoopState) (pd:Option Code):hZ:=
 .loop st pd f ((List.range n).map e) (iv (cd P f p)).2.1 (iv (cd P f p)).2.2.1 (iv (cd P f p)).2.2.2 d
theorem Hs.wP (c:Hs G h L) {b:Nat} (hb:b<G.base):h.get b=G.old b:=by
 exact c.old b hb
structure Ob (G:Bg) (b:Nat) (c:List Value):Prop where
 lt:b<G.base
 get:∃e fz x,G.old b=some (.cells c e fz x)
theorem aL {b o j:Nat} {c:List Value} {v:Value} {k:Value->Prop} (s:Hs G h L) [m:Has (aM b o) L c L'] (i:c[j]?=some v) (r:k v):aK (vH h (pt b o j)) k:=by
 obtain⟨_,t,e,x,q,g⟩:=(m.of s).cellAt i;exact⟨v,by simp[vH,pt,q,g],r⟩
theorem am (b:Nat) {j:Nat} {c:List Value} {v:Value} {k:Value->Prop} (s:Hs G h L) [m:Has (aM b 0) L c L'] (i:c[j]?=some v) (r:k v):aK (vH h (pt b 0 j)) k:=aL (b:=b) (o:=0) s i r
theorem zE {b o j:Nat} {c:List Value} {v:Value} {k:Value->Prop} (r:Hs G h L) (g:Ob G b c) (i:c[o+j]?=some v) (q:k v):aK (vH h (pt b o j)) k:=by
 obtain⟨e,s,x,m⟩:=g.get;exact⟨v,by simp[vH,pt,r.wP g.lt,m,i],q⟩
theorem bE {b o j n:Nat} {c l:List Value} {k:Value->Prop} (t:Hs G h L) [m:Has (aM b o) L c L'] (A:0<n) (q:(c.drop j).take n=l) (z:l.length=n) (s:k (.agg ⟨l⟩)):aK (sW h n (pt b o j)) k:=by
 have g:j+n<=c.length:=by
  grind
 obtain⟨_,u,e,x,r,v,w⟩:=(m.of t).cells (by omega);refine⟨.agg ⟨l⟩,?_,s⟩;simp only[sW,pt,aT,Option.isSome_none,Bool.false_eq_true,if_false,r];rw[aae];simp only[Option.map_some,Option.some.injEq,Value.agg.injEq,Array.mk.injEq];rw[<-q];refine List.ext_getElem? fun i=>?_;grind
theorem an (b:Nat) {j n:Nat} {c l:List Value} {k:Value->Prop} (t:Hs G h L) [m:Has (aM b 0) L c L'] (q:(c.drop j).take n=l) (z:l.length=n) (s:k (.agg ⟨l⟩)) (A:0<n:=by decide):aK (sW h n (pt b 0 j)) k:=bE (b:=b) (o:=0) t A q z s
theorem Tg {b o j n:Nat} {c l:List Value} {k:Value->Prop} (r:Hs G h L) (i:Ob G b c) (g:(c.drop (o+j)).take n=l) (t:l.length=n) (hb:o+j<=c.length) (q:k (.agg ⟨l⟩)):aK (sW h n (pt b o j)) k:=by
 obtain⟨e,s,x,m⟩:=i.get;have:=congrArg List.length g;simp at this;exact⟨.agg ⟨l⟩,by simp[sW,pt,aT,r.wP i.lt,m,g];omega,q⟩
def kR:List Value->Nat->List Value->List Value
 |c,0,[]=>c
 |[],0,_::_=>[]
 |_::c,0,v::g=>v::kR c 0 g
 |[],_+1,_=>[]
 |x::c,j+1,g=>x::kR c j g
theorem gX:∀(c:List Value) (j:Nat) (vs:List Value),j+vs.length<=c.length->aQ c j vs=kR c j vs
 |c,0,[],_=>by cases c<;>simp[aQ,kR]
 |[],0,_::_,h=>by simp at h
 |x::c,0,v::vs,h=>by
  have:=gX c 0 vs (by simp at h ⊢;omega);simp only[kR];rw[<-this];simp[aQ]
 |[],j+1,vs,h=>by simp at h
 |x::c,j+1,vs,h=>by
  have:=gX c j vs (by simp at h ⊢;omega);simp only[kR];rw[<-this];simp only[aQ,List.take_succ_cons,List.cons_append];grind
theorem ki {b o j n:Nat} {c vs:List Value} {v:Value} {k:AH->Prop} (w:Hs G h L) [m:Has (aM b o) L c L'] (z:dS v=some vs) (u:vs.length=n) (q:Nat.ble (j+n) c.length=true) (hb:vs.all cT=true) (r:Nat.ble 1 c.length=true)
  (t:∀g,Hs G g (aM b o (kR c j vs)::L')->k g):aK (vI h n (pt b o j) v) k:=by
 have q:=Nat.le_of_ble_eq_true q
 obtain⟨g,s,i⟩:=(m.of w).write (j:=j) (vs:=vs) (by omega) hb (Nat.le_of_ble_eq_true r)
 rw[gX _ _ _ (by omega)] at i
 exact⟨g,by simp[vI,pt,z,u,s],t _ i⟩
theorem eN {cs:List Value} {e:TypeId} {k:Nat->AH->Prop} (j:Hs G h L) (i:∀p g,Hs G g (aM p 0 cs::L)->k p g):tX h (.cells cs e (0,0) true) k:=
 i _ _ (let t:=j.new (c:=cs) (e:=e) (x:=true);(t.perm (List.Perm.swap _ _ _)).tail)
theorem kj {cs:List Value} {e:TypeId} {v:Value} {k:Nat->AH->Prop} (i:Hs G h L) (j:dS v=some cs) (g:∀p c,Hs G c (aM p 0 cs::L)->k p c):aK (hQ e v) fun b=>tX h b k:=
 ⟨.cells cs e (0,0) true,by simp[hQ,j],eN i g⟩
def Sr (r:Nat) (x:Nat×List Nat):HP:=il r x.1 x.2
theorem W3 {n:Nat} {k:Nat->AH->Prop} (c:Hs G h L) (C:∀r u,Hs G u (Sr r (n,[])::L)->k r u):oB h n k:=by
 refine C _ _ ?_;obtain⟨r,A,j⟩:=c.res;have w:∀i,({h with next:=h.next+n}:AH).get i=h.get i:=fun i=>rfl;refine⟨c.base,c.old,Nat.le_trans c.wf (Nat.le_add_right _ _),fun i B=>by rw[w];exact c.fr i (Nat.le_trans (Nat.le_add_right _ _) B),_,⟨_,r,rfl,A,?_,rfl⟩,(aU.dA ?_).2 ⟨?_,?_⟩⟩;rotate_right;exact j.of rfl (Nat.le_add_right _ _) fun _ _=>rfl;have s:∀b,h.next<=b->r.tok b=none:=fun b q=>by
  cases ht:r.tok b with
  |none=>rfl
  |some t=>
   cases t with
   |free=>have:=(j.free _ ht).2.1;omega
   |mt z D n=>obtain⟨_,_,g,_⟩:=j.mt _ _ _ _ ht;rw[c.fr b q] at g;cases g
   |vG o=>obtain⟨_,g,_⟩:=j.vG _ _ ht;rw[c.fr b q] at g;cases g
 refine⟨fun _ _=> .inl rfl,fun b=>?_⟩;grind;have s:∀b,h.next<=b->r.tok b=none:=fun b q=>by
  cases ht:r.tok b with
  |none=>rfl
  |some t=>
   cases t with
   |free=>have:=(j.free _ ht).2.1;omega
   |mt z D n=>obtain⟨_,_,g,_⟩:=j.mt _ _ _ _ ht;rw[c.fr b q] at g;cases g
   |vG o=>obtain⟨_,g,_⟩:=j.vG _ _ ht;rw[c.fr b q] at g;cases g
 refine⟨fun _ _=> .inl rfl,fun b=>?_⟩;grind;refine⟨fun _ _ _ m=>(by cases m),fun b m=>?_,fun b e x n m=>?_,fun b o m=>?_⟩;simp only at m;split at m;rename_i v;have:=c.wf;exact⟨by grind,v.2.1,by rw[w];exact c.fr b v.1⟩;cases m;grind;grind
def O5 (c:Bool) (g:List Nat) (op:BinOp) (a b:Value) (q:Value->Prop):Prop:=c=true/\aK (Jd g op a b) q
def Q2 (c:Bool) (h:AH) (n:Nat) (k:Nat->AH->Prop):Prop:=c=true/\oB h n k
theorem dW {c:Bool} {n:Nat} {k:Nat->AH->Prop} (m:Hs G h L) (j:∀r g,Hs G g (Sr r (n,[])::L)->k r g) (i:c=true:=by kernel_rfl):Q2 c h n k:=⟨i,W3 m j⟩
theorem Vd {r n i:Nat} {D:List Nat} (c:i<n) (hD:i∉D):star [fun q=>q=(⟨fun _ _=>none,fun b=>if b=r+i then some .free else none⟩:aU),il r n (i::D)] ⟨fun _ _=>none,fun b=>if r<=b/\b<r+n/\(b - r)∉D then some .free else none⟩:=by
 refine⟨_,_,rfl,⟨_,aU.emp,rfl,rfl,aU.bM.symm,rfl⟩,?_,?_⟩;rw[aU.add_comm (s:=aU.emp) aU.bM.symm,aU.dC];refine⟨fun _ _=> .inl rfl,fun b=>?_⟩;grind;rw[aU.add_comm (s:=aU.emp) aU.bM.symm,aU.dC];refine aU.ext' (fun _ _=>rfl) (fun b=>?_);simp only[aU.add];grind
theorem Hs.newAt {r n i:Nat} {D:List Nat} {c:List Value} {e:TypeId} {x:Bool} (w:Hs G h (il r n D::L)) (X:i<n) (hD:i∉D):
  Hs G (h.set (r+i) (some (.cells c e (0,0) x))) (aM (r+i) 0 c::mt (r+i) (e,x,c.length)::il r n (i::D)::L):=by
 obtain⟨q,⟨r1,Q,S,T,F,U⟩,V⟩:=w.res
 cases S
 subst U
 obtain⟨i1,i2⟩:=(aU.dA F).1 V
 obtain⟨q1,q2,I,⟨q3,q4,J,N,Y,C⟩,W,O⟩:=Vd (r:=r) X hD
 cases I;cases N
 rw[aU.add_comm (s:=aU.emp) aU.bM.symm,aU.dC] at C
 subst C
 cases J
 rw[O] at i1 F
 obtain⟨i3,i4⟩:=(aU.dA W).1 i1
 obtain⟨fb,fn,R⟩:=i3.free (r+i) (by simp)
 obtain⟨d1,d2⟩:=aU.dZ.1 F.symm
 have t:∀j,(h.set (r+i) (some (.cells c e (0,0) x))).get j=if j=r+i then some (.cells c e (0,0) x) else h.get j:=fun j=>AH.dO (Nat.le_trans w.le fb)
 have m:=(aU.dA d2.symm).2 ⟨i4,i2⟩
 have A:((⟨fun _ _=>none,fun b=>if r<=b/\b<r+n/\(b - r)∉(i::D) then some .free else none⟩:aU).add Q).tok (r+i)=none:=by
  simp only[aU.add];rw[tt (by grind)];rcases d1.tok (r+i) with h|h;simpa using h;simp at h
 have B:(eZ (r+i) c (some (.mt e x c.length))).mV ((⟨fun _ _=>none,fun b=>if r<=b/\b<r+n/\(b - r)∉(i::D) then some .free else none⟩:aU).add Q):=O6 m R A
 refine⟨by simp;exact w.base,fun j E=>by rw[t,aab];exact w.old j E,by simp;exact w.wf,fun j E=>by simp at E;rw[t,aab];exact w.fr j E,
    _,(dP (L:=[aM (r+i) 0 c,mt (r+i) (e,x,c.length)])).2 ⟨_,_,jD,⟨_,Q,rfl,T,d2.symm,rfl⟩,B,rfl⟩,(aU.dA B).2 ⟨?_,?_⟩⟩
 .refine⟨fun b o v u=>?_,fun b u=>?_,fun b Z x' n u=>?_,fun b o u=>?_⟩
  .simp only[eZ] at u;simp_all
  .simp only[eZ] at u;grind
  .simp only[eZ] at u;simp_all
  .simp only[eZ] at u;grind
 .refine m.of (by simp) (by simp) fun b z=>?_;rw[t,tt];intro H;subst H;rcases z with z|⟨o,z⟩
  .exact z A
  .apply z;cases hc:aU.cell _ (r+i) o with
   |none=>rfl
   |some v=>obtain⟨_,_,_,_,g,_⟩:=m.cell _ o v hc;rw[R] at g;cases g
theorem j5 {A B:HP} (c:Hs G h (A::B::L)):Hs G h (A::L):=(c.perm (List.Perm.swap _ _ _)).tail
theorem Yw {r i n:Nat} {D:List Nat} {cs:List Value} {e:TypeId} {k:Nat->AH->Prop} (j:Hs G h L) [m:Has (Sr r) L (n,D) L'] (o:Nat.blt i n=true) (hD:D.contains i=false)
  (g:∀p c,Hs G c (aM p 0 cs::Sr r (n,i::D)::L')->k p c):iM h (r+i) (.cells cs e (0,0) true) k:=
 g _ _ (j5 (Hs.newAt (show Hs G h (il r n D::L') from m.of j) (by simp_all) (by simpa using hD)))
theorem Zm {r i n:Nat} {D:List Nat} {cs:List Value} {v:Value} {e:TypeId} {k:Nat->AH->Prop} (o:Hs G h L) [m:Has (Sr r) L (n,D) L'] (q:dS v=some cs) (g:Nat.blt i n=true) (hD:D.contains i=false)
  (j:∀p c,Hs G c (aM p 0 cs::Sr r (n,i::D)::L')->k p c):aK (hQ e v) fun b=>iM h (r+i) b k:=
 ⟨.cells cs e (0,0) true,by simp[hQ,q],Yw o g hD j⟩
theorem Hs.de {o:hZ} (H:I7 o=true) (q:Hs G h L):Hs G (h.alloc o) (ot h.next o::L):=by
 obtain⟨r,F,w⟩:=q.res;have c:h.get h.next=none:=q.fr _ (Nat.le_refl _)
 have z:r.tok h.next=none:=by
  cases ht:r.tok h.next with
  |none=>rfl
  |some t=>
   cases t with
   |free=>have:=(w.free _ ht).2.1;omega
   |mt E I n=>obtain⟨_,_,g,_⟩:=w.mt _ _ _ _ ht;rw[c] at g;cases g
   |vG o=>obtain⟨_,g,_⟩:=w.vG _ _ ht;rw[c] at g;cases g
 have C:(⟨fun _ _=>none,fun D=>if D=h.next then some (.vG o) else none⟩:aU).mV r:=by
  refine⟨fun _ _=> .inl rfl,fun b=>?_⟩;by_cases s:b=h.next
  right;rw[s];exact z;grind
 have m:∀j,(h.alloc o).get j=if j=h.next then some o else h.get j:=fun j=>AH.nI (Nat.le_trans q.le q.wf)
 refine⟨q.base,fun i B=>(by rw[m,tt (by have:=q.wf;omega)];exact q.old i B),Nat.le_succ_of_le q.wf,fun i B=>by simp at B;rw[m,aab];exact q.fr i (by omega),_,⟨_,r,rfl,F,C,rfl⟩,(aU.dA C).2 ⟨?_,?_⟩⟩;refine⟨fun _ _ _ u=>(by cases u),fun b u=>?_,fun b E I n u=>?_,fun b J u=>?_⟩;grind;grind;simp only at u;split at u;rename_i s;subst s;cases u;exact⟨q.wf,by rw[m,tu rfl],H⟩;cases u;refine w.of rfl (by simp) fun b s=>?_;rw[m,tt];intro A;subst A;rcases s with s|⟨o,s⟩;exact s z;apply s;cases hc:r.cell h.next o with
 |none=>rfl
 |some v=>obtain⟨_,_,_,_,g,_⟩:=w.cell _ o v hc;rw[c] at g;cases g
theorem Hs.Tj {b:Nat} {o o':hZ} (Q:I7 o'=true) (i:Hs G h (ot b o::L)):h.get b=some o/\h.base<=b/\Hs G (h.set b (some o')) (ot b o'::L):=by
 obtain⟨q,⟨R,u,s,F,C,H⟩,I⟩:=i.res;cases s;subst H;obtain⟨i1,i2⟩:=(aU.dA C).1 I;obtain⟨gb,w,r⟩:=i1.vG b o (by simp);have c:∀j,(h.set b (some o')).get j=if j=b then some o' else h.get j:=fun j=>AH.dO (Nat.le_trans i.le gb)
 have J:b<h.next:=by
  rcases Nat.lt_or_ge b h.next with s|s
  exact s;rw[i.fr b s] at w;cases w
 have B:u.tok b=none:=by rcases C.tok b with h|h;simp at h;exact h
 have N:∀t,u.cell b t=none:=fun t=>by
  cases hc:u.cell b t with
  |none=>rfl
  |some v=>
   obtain⟨_,_,_,_,g,_⟩:=i2.cell _ t v hc;rw[w] at g;cases g;simp[I7] at r
 have E:(⟨fun _ _=>none,fun m=>if m=b then some (.vG o') else none⟩:aU).mV u:=by
  refine⟨fun _ _=> .inl rfl,fun m=>?_⟩;by_cases D:m=b;right;rw[D];exact B;grind
 refine⟨w,Nat.le_trans i.le gb,by simp;exact i.base,fun j z=>by rw[c,aab];exact i.old j z,by simp;exact i.wf,fun j z=>by simp at z;rw[c,aab];exact i.fr j z,_,⟨_,u,rfl,F,E,rfl⟩,(aU.dA E).2 ⟨?_,?_⟩⟩;refine⟨fun _ _ _ A=>(by cases A),fun b A=>?_,fun b O S n A=>?_,fun m t A=>?_⟩;grind;grind;simp_all;refine i2.of (by simp) (by simp) fun m D=>?_;grind
def Aq (P:Program) (f:FuncId) (p:List Nat) (n:Nat) (e:Nat->Value) (d l:Nat) (x:LoopState×Option Code):HP:=ot l (lp P f p n e d x.1 x.2)
def mk (d:Nat) (_:Unit):HP:=ot d (.marks true)
theorem Fa {k:Nat->AH->Prop} (i:Hs G h L) (g:∀d c,Hs G c (mk d ()::L)->k d c):tX h (.marks true) k:=g _ _ (i.de rfl)
theorem Lt {f:FuncId} {p:List Nat} {n:Nat} {e:Nat->Value} {d:Nat} {st:LoopState} {pd:Option Code} {k:Nat->AH->Prop} (i:Hs G h L) (g:∀l c,Hs G c (Aq P f p n e d l (st,pd)::L)->k l c):tX h (lp P f p n e d st pd) k:=g _ _ (i.de rfl)
theorem xD {k:AH->Prop} (c:k h):aK (aR [] h) k:=⟨h,rfl,c⟩
theorem Kb {d:Nat} {g:List Nat} {k:AH->Prop} (t:Hs G h L) [m:Has (mk d) L () L'] (s:∀c,Hs G c L'->aK (aR g c) k):aK (aR (d::g) h) k:=by
 obtain⟨i,j,o⟩:=Hs.Tj (o':= .marks false) rfl (show Hs G h (ot d (.marks true)::L') from m.of t);obtain⟨c,q,r⟩:=s _ o.tail;exact⟨c,by simp only[aR,i,tu j];exact q,r⟩
theorem j7 {f:FuncId} {p:List Nat} {n:Nat} {e:Nat->Value} {d l:Nat} {st st':LoopState} {pd pd':Option Code} {k:AH->Prop} (q:Hs G h L) [m:Has (Aq P f p n e d l) L (st,pd) L'] (o:∀c,Hs G c (Aq P f p n e d l (st',pd')::L')->k c):
  aK (aY h l st' (some pd')) k:=by
 obtain⟨g,i,j⟩:=Hs.Tj (o':=lp P f p n e d st' pd') rfl (show Hs G h (ot l (lp P f p n e d st pd)::L') from m.of q)
 exact⟨_,by simp only[aY,g,lp];rw[tu i];rfl,o _ j⟩
theorem Xp {f:FuncId} {p:List Nat} {n:Nat} {e:Nat->Value} {d l:Nat} {pd:Option Code} {k:AH->Prop} (q:Hs G h L) [m:Has (Aq P f p n e d l) L (.ready,pd) L'] (o:∀c,Hs G c (Aq P f p n e d l (.busy,pd)::L')->k c):
  aK (fP h l) k:=by
 obtain⟨g,i,j⟩:=Hs.Tj (o':=lp P f p n e d .busy pd) rfl (show Hs G h (ot l (lp P f p n e d .ready pd)::L') from m.of q)
 exact⟨_,by simp only[fP,aY,g,lp];rw[tu i];rfl,o _ j⟩
theorem ar {f:FuncId} {p:List Nat} {n:Nat} {e:Nat->Value} {d l:Nat} {st:LoopState} {pd:Option Code} {k:Option Code->AH->Prop} (s:Hs G h L) [m:Has (Aq P f p n e d l) L (st,pd) L'] (c:st≠.busy) (q:∀g,Hs G g L'->k pd g):
  aK (mZ h l) fun r=>k r.1 r.2:=by
 obtain⟨i,j,o⟩:=Hs.Tj (o':=lp P f p n e d .exhausted pd) rfl (show Hs G h (ot l (lp P f p n e d st pd)::L') from m.of s)
 refine⟨(pd,_),?_,q _ o.tail⟩
 simp only[mZ,i,lp]
 rw[tt c]
 simp only[aY,i,lp]
 rw[tu j];rfl
theorem nj {f:FuncId} {p:List Nat} {n:Nat} {e:Nat->Value} {d l:Nat} {st:LoopState} {pd:Option Code} (c:Hs G h L) [m:Has (Aq P f p n e d l) L (st,pd) L']:h.get l=some (lp P f p n e d st pd):=
 (Hs.Tj (o':= .marks true) rfl (show Hs G h (ot l (lp P f p n e d st pd)::L') from m.of c)).1
end Go.Ab
end
section
namespace Go.Ab
variable {P:Program} {K:FuncId->List Value->Option dU} {G:Bg} {h:AH} {L L' M:List HP}
def cB (W:Nat) (e:TypeId) (a:Option Addr) (cap:Nat) (x:Nat×List Value):HP:=fun r=>
 x.2.length=x.1*W/\x.2.all cT=true/\
 ((x.1=0/\r=aU.emp/\cap=0/\(a=none\/∃b o,a=some ⟨b,o,some 1⟩))\/
  (x.1=0/\cap=0/\∃b o i,a=some ⟨b,o,some 2⟩/\o<=i.length/\r=eZ b i (some (.mt e false i.length)))\/
  (x.1<=cap/\∃b g c ex,a=some ⟨b,g.length,none⟩/\g.length+cap*W<=(g++x.2++c).length/\r=eZ b (g++x.2++c) (some (.mt e ex (g++x.2++c).length))))
theorem eU {W:Nat} {e:TypeId} (g:Hs G h L):Hs G h (cB W e none 0 (0,[])::L):=by
 refine Hs.join (A:=[]) g fun r c=>?_;exact⟨by simp,rfl,.inl ⟨rfl,c,rfl,.inl rfl⟩⟩
theorem kX {b:Nat} {c:List Value} {e:TypeId} {x:Bool} {r:aU} (h:star [aM b 0 c,mt b (e,x,c.length)] r):r=eZ b c (some (.mt e x c.length)):=by
 obtain⟨A,B,g,⟨r3,C,j,m,s,t⟩,o,q⟩:=h;obtain⟨u,v,g1,⟨w,z,g5,g6,g7,g8⟩,g3,g4⟩:=jD (i:=b) (c:=c) (e:=e) (x:=x);cases g;cases j;cases m;cases g1;cases g5;cases g6;grind
theorem fS {W:Nat} {e:TypeId} {l:List Value} {n c:Nat} {k:Value->AH->Prop} (q:Hs G h L) (i:l.length=c*W) (m:n=c) (hb:l.all cT=true)
  (j:∀a g,Hs G g (cB W e (some a) c (n,l)::L)->k (.slice (some a) n c) g):tM h W e l n c k:=by
 subst m
 refine j _ _ ?_
 have:=q.new (c:=l) (e:=e) (x:=true)
 refine Hs.join (A:=[_,_]) this fun r o=>?_
 have:=kX o
 exact⟨i,hb,.inr (.inr ⟨Nat.le_refl _,h.next,[],[],true,rfl,by simp[i],by simpa using this⟩)⟩
theorem qN {W r i N:Nat} {D:List Nat} {e:TypeId} {l:List Value} {n c:Nat} {k:Value->AH->Prop} (u:Hs G h L) [m:Has (Sr r) L (N,D) L'] (v:Nat.blt i N=true) (hD:D.contains i=false) (j:l.length=c*W) (s:n=c) (hb:l.all cT=true)
  (o:∀a g,Hs G g (cB W e (some a) c (n,l)::Sr r (N,i::D)::L')->k (.slice (some a) n c) g):gT h (r+i) W e l n c k:=by
 subst s
 refine o _ _ ?_
 have:=Hs.newAt (i:=i) (c:=l) (e:=e) (x:=true) (show Hs G h (il r N D::L') from m.of u) (by simp_all) (by simpa using hD)
 refine Hs.join (A:=[_,_]) this fun q t=>?_
 have:=kX t
 exact⟨j,hb,.inr (.inr ⟨Nat.le_refl _,r+i,[],[],true,rfl,by simp[j],by simpa using this⟩)⟩
theorem Hs.fst {A:HP} (m:Hs G h (A::L)):∃r c,A r/\star L c/\r.mV c/\r.In G.base h/\c.In G.base h:=by
 obtain⟨q,⟨t,c,o,s,g,i⟩,j⟩:=m.res;subst i;obtain⟨i1,i2⟩:=(aU.dA g).1 j;grind
theorem Hs.Bq {W:Nat} {e:TypeId} {a:Option Addr} {cap:Nat} {x:Nat×List Value} (g:Hs G h (cB W e a cap x::L)):x.2.length=x.1*W:=by
 obtain⟨r,_,c,_⟩:=g.fst;exact c.1
theorem Hs.zI {W:Nat} {e:TypeId} {a:Option Addr} {cap:Nat} {x:Nat×List Value} (g:Hs G h (cB W e a cap x::L)):x.2.all cT=true:=by
 obtain⟨r,_,c,_⟩:=g.fst;exact c.2.1
theorem Hs.F5 {W:Nat} {e:TypeId} {a:Option Addr} {cap n:Nat} {cs:List Value} (I:Hs G h (cB W e a cap (n,cs)::L)) (h0:0<n):
  ∃b o,a=some ⟨b,o,none⟩/\∃H:HP,Hs G h (aM b o cs::H::L)/\∀Q m M,m.length=cs.length->m.all cT=true->Hs G Q (aM b o m::H::M)->Hs G Q (cB W e a cap (n,m)::M):=by
 have J:∀b (j g:List Value) ex,∀m:List Value,m.length=cs.length->∀r,star [aM b j.length m,fun r=>star [aM b 0 j,aM b (j.length+cs.length) g,mt b (e,ex,(j++cs++g).length)] r] r↔r=eZ b (j++m++g) (some (.mt e ex (j++m++g).length)):=by
  intro b j g ex m N r;have e1:(j++cs++g).length=(j++m++g).length:=by simp[N]
  have Z:∀q,star [aM b 0 (j++m++g),mt b (e,ex,(j++m++g).length)] q->star [aM b j.length m,fun r=>star [aM b 0 j,aM b (j.length+cs.length) g,mt b (e,ex,(j++cs++g).length)] r] q:=by
   intro q F;obtain⟨r1,z,R,h2,C,T⟩:=F;have S:=(rM r1).1 R;obtain⟨s1,s2,g1,⟨s3,s4,g2,g3,g4,g5⟩,g6,g7⟩:=S;have O:=(rM s1).1 g1;cases g3;rw[aU.add_comm (s:=aU.emp) aU.bM.symm,aU.dC] at g5;subst g5;have D:star ([aM b 0 j,aM b (0+j.length) m]++([aM b (0+(j++m).length) g]++[mt b (e,ex,(j++m++g).length)])) q:=by
    refine dP.2 ⟨s1,s2.add z,O,dP.2 ⟨s2,z,⟨s2,aU.emp,g2,rfl,aU.bM.symm,by rw[aU.add_comm (s:=aU.emp) aU.bM.symm,aU.dC]⟩,h2,?_,rfl⟩,?_,?_⟩;rw[g7] at C;exact(aU.dZ.1 C.symm).2.symm;rw[g7] at C;exact aU.dZ.2 ⟨g6,(aU.dZ.1 C.symm).1.symm⟩;rw[T,g7,aU.add_assoc]
   have hp:star ([aM b (0+j.length) m]++[aM b 0 j,aM b (0+(j++m).length) g,mt b (e,ex,(j++m++g).length)]) q:=vK (List.Perm.swap _ _ _) q D;obtain⟨u1,u2,w1,w2,w3,w4⟩:=dP.1 hp;rw[Nat.zero_add] at w1;obtain⟨v1,v2,x1,x2,x3,x4⟩:=w1;cases x2;rw[aU.add_comm (s:=aU.emp) aU.bM.symm,aU.dC] at x4;subst x4;refine⟨u1,u2,x1,⟨u2,aU.emp,?_,rfl,aU.bM.symm,by rw[aU.add_comm (s:=aU.emp) aU.bM.symm,aU.dC]⟩,w3,w4⟩;grind
  constructor;intro v;have hb:=Z _ (jD (i:=b) (c:=j++m++g) (e:=e) (x:=ex));obtain⟨r1,z,R,⟨r3,r4,h5,h6,h7,h8⟩,C,T⟩:=v;obtain⟨q1,q2,g1,⟨q3,q4,g5,g6,g7,g8⟩,g3,g4⟩:=hb;cases R;cases g1;cases h6;cases g6;rw[aU.add_comm (s:=aU.emp) aU.bM.symm,aU.dC] at h8 g8;subst h8;subst g8;have:z=q2:=by
   obtain⟨a1,a2,b1,⟨a3,a4,b2,⟨a5,a6,b3,b4,b5,b6⟩,b7,b8⟩,b9,α⟩:=h5;obtain⟨c1,c2,d1,⟨c3,c4,d2,⟨c5,c6,d3,d4,d5,d6⟩,d7,d8⟩,d9,d10⟩:=g5;cases b1;cases b2;cases b3;cases b4;cases d1;cases d2;cases d3;cases d4;grind
  rw[T,g4,this];intro v;subst v;exact Z _ jD
 obtain⟨r,z,v,V,hd,hi,U⟩:=I.fst
 obtain⟨N,hc,v⟩:=v
 simp only at N hc
 rcases v with⟨Y,_⟩|⟨Y,_⟩|⟨E,b,j,g,ex,rfl,hle,X⟩
 .simp at Y;omega
 .simp at Y;omega
 .refine⟨b,j.length,rfl,fun r=>star [aM b 0 j,aM b (j.length+cs.length) g,mt b (e,ex,(j++cs++g).length)] r,?_,?_⟩
  .have w:Hs G h ((fun r=>r=eZ b (j++cs++g) (some (.mt e ex (j++cs++g).length)))::L):=⟨I.base,I.old,I.wf,I.fr,_,⟨r,z,X,V,hd,rfl⟩,(aU.dA hd).2 ⟨hi,U⟩⟩;exact w.imp (B:=[_,_]) fun q F=>(J b j g ex cs rfl q).2 F
  .intro Q m M u t w;refine Hs.join (A:=[_,_]) w fun q F=>?_;have:=(J b j g ex m u q).1 F;refine⟨by rw[u];exact N,t,.inr (.inr ⟨E,b,j,g,ex,rfl,?_,this⟩)⟩;grind
theorem lL {b B:Nat} {c:List Value} {e:TypeId} {x:Bool} {r:aU} (i:(eZ b c (some (.mt e x c.length))).In B h) (_g:r.In B h):B<=b/\h.get b=some (.cells c e (0,0) x):=by
 obtain⟨o,s,q,u⟩:=i.mt b e x c.length (by simp[eZ]);refine⟨o,?_⟩;rw[q];congr 2;refine List.ext_getElem? fun j=>?_;rcases Nat.lt_or_ge j c.length with m|m;obtain⟨_,c2,t,v,g1,g2⟩:=i.cell b j c[j] (by simp[eZ,m]);grind;grind
theorem Hs.kill {b:Nat} {c c2:List Value} {e e2:TypeId} {x x2:Bool} (s:Hs G h ((fun r=>r=eZ b c (some (.mt e x c.length)))::L)):Hs G ((h.set b none).alloc (.cells c2 e2 (0,0) x2)) ((fun r=>r=eZ h.next c2 (some (.mt e2 x2 c2.length)))::L):=by
 obtain⟨r,u,B,C,E,q,m⟩:=s.fst;subst B;obtain⟨w,N⟩:=lL q m;have H:=Nat.le_trans s.le w;have g:∀j,(h.set b none).get j=if j=b then none else h.get j:=fun j=>AH.dO H
 have I:∀j,(u.tok j≠none\/∃o,u.cell j o≠none)->j≠b:=by
  intro j F z;subst z;rcases F with t|⟨o,t⟩;rcases E.tok j with h|h;simp[eZ] at h;exact t h;rcases E.cell j o with h|h;simp only[eZ,if_true] at h;cases hc:u.cell j o with
  |none=>exact t hc
  |some v=>
   obtain⟨_,J,_,_,g1,g2⟩:=m.cell j o v hc;grind
  exact t h
 have D:Hs G (h.set b none) L:=by
  refine⟨by simp;exact s.base,fun i q=>by rw[g,aab];exact s.old i q,by simp;exact s.wf,fun i q=>by simp at q;rw[g];split;rfl;exact s.fr i q,u,C,?_⟩;exact m.of (by simp) (by simp) fun j F=>by grind
 have:=D.new (c:=c2) (e:=e2) (x:=x2);rw[AH.Vf] at this;exact Hs.join (A:=[_,_]) this fun r B=>kX B
theorem iC {a:Option Addr} {n c:Nat}:pT (.slice a n c)=some n:=rfl
theorem Sz {W bytes:Nat} {e:TypeId} {a:Option Addr} {c n m:Nat} {cs ns:List Value} {src:Value} {k:Value->AH->Prop} (C:Hs G h L) [mm:Has (cB W e a c) L (n,cs) L']
  (v:pT src=some m) (z:dM h W m src=some ns) (η:ns.all cT=true) (ξ:ns.length=m*W) (S:(n+m)*(bytes+1)<=2^46)
  (hk:∀a' c' h',Hs G h' (cB W e a' c' (n+m,cs++ns)::L')->k (.slice a' (n+m) c') h'):aK (gF W bytes e h (.slice a n c) src) fun r=>k r.1 r.2:=by
 have γ:=mm.of C
 obtain⟨r,r2,hr,U,X,N,F⟩:=γ.fst
 obtain⟨hl,hc,hr⟩:=hr
 simp only at hl hc hr
 have w:(!ns.all cT||ns.length !=m*W)=false:=by simp[η,ξ]
 have I:(cs++ns).all cT=true:=by grind
 have O:(cs++ns).length=(n+m)*W:=by grind
 have E:∀{h1:AH},Hs G h1 ((fun r=>r=eZ h.next (cs++ns) (some (.mt e false (cs++ns).length)))::L')->Hs G h1 (cB W e (some ⟨h.next,0,none⟩) (n+m) (n+m,cs++ns)::L'):=by
  intro h1 hh;refine Hs.join (A:=[_]) hh fun q Q=>?_;obtain⟨q1,q2,e1,e2,e3,e4⟩:=Q;cases e1;cases e2;rw[aU.add_comm (s:=aU.emp) aU.bM.symm,aU.dC] at e4;exact⟨O,I,.inr (.inr ⟨Nat.le_refl _,h.next,[],[],false,rfl,by grind,by simpa using e4⟩)⟩
 by_cases hm:m=0
 .subst hm;have:ns=[]:=List.eq_nil_of_length_eq_zero (by omega);subst this;have T:=hk a c h (by simpa using γ);rcases hr with⟨rfl,π,rfl,ha⟩|⟨rfl,rfl,b,o,Z,rfl,_⟩|⟨J,b,g,t,ex,rfl,hle,V⟩
  .rcases ha with rfl|⟨b,o,rfl⟩
   .exact⟨(.slice none 0 0,h),by simp[gF,v,z],by simpa using T⟩
   .exact⟨(.slice _ 0 0,h),by simp[gF,v,z];rfl,by simpa using T⟩
  .exact⟨(.slice _ 0 0,h),by simp[gF,v,z];rfl,by simpa using T⟩
  .exact⟨(.slice _ n c,h),by simp[gF,v,z,J];rfl,by simpa using T⟩
 .have Y:Hs G h L':=γ.tail;rcases hr with⟨rfl,π,rfl,ha⟩|⟨rfl,rfl,b,o,Z,rfl,ho,V⟩|⟨J,b,g,t,ex,rfl,hle,V⟩
  .have β:cs=[]:=List.eq_nil_of_length_eq_zero (by simpa using hl);subst β;have θ:=Y.new (c:=ns) (e:=e) (x:=false);have H:=E (Hs.join (A:=[_,_]) θ fun q Q=>kX Q);have u:¬(0+m<=0):=by omega
   rcases ha with rfl|⟨b,o,rfl⟩
   .refine⟨(.slice (some ⟨h.next,0,none⟩) m m,h.alloc (.cells ns e (0,0) false)),?_,by grind⟩;simp only[gF,v,z,w,Bool.false_eq_true,if_false,u,S,if_true]
   .refine⟨(.slice (some ⟨h.next,0,none⟩) m m,h.alloc (.cells ns e (0,0) false)),?_,by grind⟩;simp only[gF,v,z,w,Bool.false_eq_true,if_false,u,S,if_true]
  .have β:cs=[]:=List.eq_nil_of_length_eq_zero (by simpa using hl);subst β;subst V;obtain⟨α,hg⟩:=lL N F;have hb:=Nat.le_trans C.le α;have R:Hs G h ((fun r=>r=eZ b Z (some (.mt e false Z.length)))::L'):=⟨C.base,C.old,C.wf,C.fr,_,⟨_,r2,rfl,U,X,rfl⟩,(aU.dA X).2 ⟨N,F⟩⟩;have H:=E (R.kill (c2:=ns) (e2:=e) (x2:=false));have u:¬(0+m<=0):=by omega
   refine⟨(.slice (some ⟨h.next,0,none⟩) m m,(h.set b none).alloc (.cells ns e (0,0) false)),?_,by simpa using hk _ _ _ H⟩
   have μ:¬(some 2=some 1):=by simp
   simp only[gF,v,z,w,Bool.false_eq_true,if_false,u,S,if_true,μ,hg,hb,ho,and_self]
  .subst V;obtain⟨α,hg⟩:=lL N F;have hb:=Nat.le_trans C.le α;by_cases u:n+m<=c
   .have hW:(n+m)*W<=c*W:=Nat.mul_le_mul_right _ u;rw[Nat.add_mul] at hW;have R:Hs G h ((fun r=>r=eZ b (g++cs++t) (some (.mt e ex (g++cs++t).length)))::L'):=⟨C.base,C.old,C.wf,C.fr,_,⟨_,r2,rfl,U,X,rfl⟩,(aU.dA X).2 ⟨N,F⟩⟩;have ρ:Hs G h (aM b 0 (g++cs++t)::mt b (e,ex,(g++cs++t).length)::L'):=R.imp (B:=[_,_]) fun q Q=>by subst Q;exact jD
    have ο:g.length+cs.length+ns.length<=(g++cs++t).length:=by grind
    by_cases ν:ns.length=0
    .have ι:ns=[]:=List.eq_nil_of_length_eq_zero ν;subst ι;refine⟨(.slice (some ⟨b,g.length,none⟩) (n+m) c,h.set b (some (.cells (aQ (g++cs++t) (g.length+n*W) []) e (0,0) ex))),?_,?_⟩
     .simp only[gF,v,z,w,Bool.false_eq_true,if_false,u,if_true,hm,Option.isSome_none,cF];simp only[bL,Option.isSome_none,Bool.false_or,List.all_nil,Bool.not_true,Bool.or_false,hg];grind
     .have ε:aQ (g++cs++t) (g.length+n*W) []=g++cs++t:=by simp only[aQ,List.append_nil,List.length_nil,Nat.add_zero,List.take_append_drop]
      rw[ε]
      refine hk _ _ _ ?_
      have:Hs G (h.set b (some (.cells (g++cs++t) e (0,0) ex))) ((fun r=>r=eZ b (g++cs++t) (some (.mt e ex (g++cs++t).length)))::L'):=by
       have D:∀j,(h.set b (some (.cells (g++cs++t) e (0,0) ex))).get j=h.get j:=fun j=>by
        rw[AH.dO hb];grind
       refine⟨by simp;exact C.base,fun i N=>by rw[D];exact C.old i N,by simp;exact C.wf,fun i N=>by simp at N;rw[D];exact C.fr i N,_,⟨_,r2,rfl,U,X,rfl⟩,(aU.dA X).2 ⟨?_,?_⟩⟩;exact N.of (by simp) (by simp) fun j _=>D j;exact F.of (by simp) (by simp) fun j _=>D j
      refine Hs.join (A:=[_]) this fun q Q=>?_
      obtain⟨q1,q2,e1,e2,e3,e4⟩:=Q
      cases e1;cases e2
      rw[aU.add_comm (s:=aU.emp) aU.bM.symm,aU.dC] at e4
      refine⟨O,I,.inr (.inr ⟨u,b,g,t,ex,rfl,?_,by simpa using e4⟩)⟩
      grind
    .obtain⟨h',κ,δ⟩:=ρ.write (j:=g.length+cs.length) (vs:=ns) ο η (by omega);rw[Nat.zero_add] at κ;refine⟨(.slice (some ⟨b,g.length,none⟩) (n+m) c,h'),?_,?_⟩
     .simp only[gF,v,z,w,Bool.false_eq_true,if_false,u,if_true,hm,Option.isSome_none,cF];rw[<-hl,κ];rfl
     .refine hk _ _ _ ?_;have ε:aQ (g++cs++t) (g.length+cs.length) ns=g++(cs++ns)++t.drop ns.length:=by
       unfold aQ;rw[List.take_append_of_le_length (by simp),List.take_of_length_le (by simp),List.drop_append];have:(g++cs).drop (g.length+cs.length+ns.length)=[]:=List.drop_eq_nil_of_le (by simp);rw[this];simp only[List.length_append,List.nil_append,List.append_assoc];rw[show g.length+cs.length+ns.length - (g.length+cs.length)=ns.length by omega]
      rw[ε] at δ
      have ζ:(g++cs++t).length=(g++(cs++ns)++t.drop ns.length).length:=by grind
      rw[ζ] at δ
      refine Hs.join (A:=[_,_]) δ fun q Q=>?_
      exact⟨O,I,.inr (.inr ⟨u,b,g,t.drop ns.length,ex,rfl,by rw[<-ζ];exact hle,kX Q⟩)⟩
   .have R:Hs G h ((fun r=>r=eZ b (g++cs++t) (some (.mt e ex (g++cs++t).length)))::L'):=⟨C.base,C.old,C.wf,C.fr,_,⟨_,r2,rfl,U,X,rfl⟩,(aU.dA X).2 ⟨N,F⟩⟩;have σ:n*W<=c*W:=Nat.mul_le_mul_right _ J;have hold:aT h ⟨b,g.length,none⟩ (n*W)=some cs:=by
     simp only[aT,Option.isSome_none,Bool.false_eq_true,if_false,hg];rw[aae];simp only[Option.some.injEq];grind
    have h1:¬((none:Option Nat)=some 1):=by simp
    have h2:¬((none:Option Nat)=some 2):=by simp
    cases ex with
    |true=>
     have H:=E (Hs.join (A:=[_,_]) (Y.new (c:=cs++ns) (e:=e) (x:=false)) fun q Q=>kX Q)
     refine⟨(.slice (some ⟨h.next,0,none⟩) (n+m) (n+m),h.alloc (.cells (cs++ns) e (0,0) false)),?_,hk _ _ _ H⟩
     simp only[gF,v,z,w,Bool.false_eq_true,if_false,u,S,if_true,h1,h2,hold,hg,hc,Bool.not_true]
    |false=>
     have H:=E (R.kill (c2:=cs++ns) (e2:=e) (x2:=false))
     refine⟨(.slice (some ⟨h.next,0,none⟩) (n+m) (n+m),(h.set b none).alloc (.cells (cs++ns) e (0,0) false)),?_,hk _ _ _ H⟩
     simp only[gF,v,z,w,Bool.false_eq_true,if_false,u,S,if_true,h1,h2,hold,hg,hc,Bool.not_true,hb,hle,and_self]
end Go.Ab
end
section
namespace Go.Ab
variable {P:Program} {K:FuncId->List Value->Option dU} {G:Bg} {h:AH} {L L' M:List HP}
abbrev wr (x:Int):Int:=IntKind.i64.wrap x
theorem Ot {x:Int} (h: -9223372036854775808<=x/\x<=9223372036854775807):wr x=x:=IntWalk.i64_in _ (by omega)
section
variable {k:Value->Prop} {a b:Int} {x y:Value}
theorem aB {b o j n:Nat} (c:k (pt b o (j+n))):aK (qF n (pt b o j)) k:=⟨_,by simp[qF,pt,cF,Nat.add_assoc],c⟩
theorem bI {b o j:Nat} (c:k (pt b o j)):aK (uH (pt b o j)) k:=⟨_,rfl,c⟩
theorem aE {i:Nat} {vs:List Value} {v:Value} (g:vs[i]?=some v) (c:k v):aK (sB i (.tuple ⟨vs⟩)) k:=⟨v,g,c⟩
theorem cM {a:Option Addr} {n c:Nat} (g:k (I n)):aK (eO (.slice a n c)) k:=⟨_,rfl,g⟩
theorem bB (h: -9223372036854775808<=a+b/\a+b<=9223372036854775807) (c:k (I (a+b))):aK (vM .add (I a) (I b)) k:=⟨_,by show some (Value.int .i64 (wr (a+b)))=_;rw[Ot h],c⟩
theorem aac (c:k (I (a+b)))(h: -9223372036854775808<=a+b/\a+b<=9223372036854775807:=by omega):aK (vM .add (I a) (I b)) k:=⟨_,by show some (Value.int .i64 (wr (a+b)))=_;rw[Ot h],c⟩
theorem K2 (h: -9223372036854775808<=a - b/\a - b<=9223372036854775807) (c:k (I (a - b))):aK (vM .sub (I a) (I b)) k:=⟨_,by show some (Value.int .i64 (wr (a - b)))=_;rw[Ot h],c⟩
theorem Vc (h: -9223372036854775808<=a*b/\a*b<=9223372036854775807) (c:k (I (a*b))):aK (vM .mul (I a) (I b)) k:=⟨_,by show some (Value.int .i64 (wr (a*b)))=_;rw[Ot h],c⟩
theorem bg (c:0<=a) (hb:0<b) (h:a<=9223372036854775807) (g:k (I (a/b))):aK (vM .quo (I a) (I b)) k:=by
 refine⟨_,?_,g⟩;show Jo .quo .i64 a b=_;simp only[Jo];rw[aab,Int.tdiv_eq_ediv_of_nonneg c];have i:0<=a/b:=Int.ediv_nonneg c (by omega);have j:a/b<=a:=Int.ediv_le_self b c;rw[show IntKind.i64.wrap (a/b)=a/b from Ot (by omega)]
theorem T4 (g:0<=a) (hb:0<b) (c:k (I (a % b))):aK (vM .rem (I a) (I b)) k:=by
 refine⟨_,?_,c⟩;show Jo .rem .i64 a b=_;simp only[Jo];grind
theorem dH (c:k (.bool (decide (a=b)))):aK (vM .eql (I a) (I b)) k:=⟨_,by show some (Value.bool (a==b))=_;rfl,c⟩
theorem bC (c:k (.bool (decide (a≠b)))):aK (vM .neq (I a) (I b)) k:=⟨_,by show some (Value.bool (a !=b))=_;grind,c⟩
theorem aI (c:k (.bool (decide (a<b)))):aK (vM .lss (I a) (I b)) k:=⟨_,rfl,c⟩
theorem mC (c:k (.bool (decide (a<=b)))):aK (vM .leq (I a) (I b)) k:=⟨_,rfl,c⟩
theorem fY (c:k (.bool (decide (b<a)))):aK (vM .gtr (I a) (I b)) k:=⟨_,rfl,c⟩
theorem gJ (c:k (.bool (decide (b<=a)))):aK (vM .geq (I a) (I b)) k:=⟨_,rfl,c⟩
theorem Nv {b o j:Nat} (c:k (.bool false)):aK (K8 .eql (pt b o j) (.pointer none)) k:=⟨_,rfl,c⟩
theorem cC {b:Bool} (c:k (.bool !b)):aK (Kq .not (.bool b)) k:=⟨_,rfl,c⟩
theorem gB {b o n c g i:Nat} (j:i<n) (m:k (pt b (o+i*g) 0)):aK (kK g (.slice (some ⟨b,o,none⟩) n c) (I i)) k:=⟨_,by simp[kK,j,cF,pt],m⟩
theorem U4 {b o j n c:Nat} (g:0<=a) (i:a<n) (m:k (pt b o (j+a.toNat*c))):aK (oK n c (pt b o j) (I a)) k:=⟨_,by simp[oK,g,i,cF,pt,Nat.add_assoc],m⟩
theorem bV {c:Prop} [Decidable c] {p q:Prop} (h:c) (i:p):Br (.bool (decide c)) p q:=⟨_,rfl,fun _=>i,fun g=>absurd h (by simpa using g)⟩
theorem aad {c:Prop} [Decidable c] {p q:Prop} (i:p)(h:c:=by omega):Br (.bool (decide c)) p q:=⟨_,rfl,fun _=>i,fun g=>absurd h (by simpa using g)⟩
theorem aG {c:Prop} [Decidable c] {p q:Prop} (h:¬c) (i:q):Br (.bool (decide c)) p q:=⟨_,rfl,fun g=>absurd (by simpa using g) h,fun _=>i⟩
theorem aaa {c:Prop} [Decidable c] {p q:Prop} (i:q)(h:¬c:=by omega):Br (.bool (decide c)) p q:=⟨_,rfl,fun g=>absurd (by simpa using g) h,fun _=>i⟩
theorem bK {c:Prop} [Decidable c] {p q:Prop} (i:c->p) (j:¬c->q):Br (.bool (decide c)) p q:=⟨_,rfl,fun g=>i (by simpa using g),fun g=>j (by simpa using g)⟩
theorem fO {p q:Prop} (c:p):Br (.bool true) p q:=Zg.2 c
theorem dK {p q:Prop} (c:q):Br (.bool false) p q:=T1.2 c
theorem xC {b:Bool} {p q:Prop} (c:b=true->p) (g:b=false->q):Br (.bool b) p q:=⟨_,rfl,c,g⟩
theorem xA {b:Bool} {p q:Prop} (h:Br (.bool b) q p):Br (.bool !b) p q:=by obtain⟨c,i,j,g⟩:=h;cases i;cases b;exact⟨_,rfl,fun _=>g rfl,fun h=>(by cases h)⟩;simp_all
end
theorem bG {z c:List Value} {ps:List (Nat×Nat×Value)} {k:List Value->Prop} (i:jS z ps=some c) (g:k c):aK (jS z ps) k:=⟨c,i,g⟩
theorem nN {p q:Prop} (c:p) (g:q):p/\q:=⟨c,g⟩
theorem C6 {a:Int}:mA (I a) (I a)=true:=by simp[mA]
theorem xR {b o j:Nat}:mA (pt b o j) (pt b o j)=true:=by simp[mA,pt]
theorem Tv {a:Option Addr} {n c:Nat}:mA (.slice a n c) (.slice a n c)=true:=by simp[mA]
theorem Tp {g:FuncId} {first captured:Array Value} {l:Nat} {q:Value->AH->Prop} (c:eA P g=true) (i:Cl P K g (first.toList++[.func (.yield l) #[] #[]]++captured.toList) h q):Lu P K (.func (.func g) first captured) l h q:=⟨c,i⟩
end Go.Ab
end
section
namespace Go.Ab
variable {P:Program} {K:FuncId->List Value->Option dU} {G:Bg} {h:AH} {L L' M:List HP}
def sp (A:List HP):HP:=fun r=>star A r
theorem Hs.pack {A:List HP} (c:Hs G h (A++L)):Hs G h (sp A::L):=c.join fun _ h=>h
theorem Hs.unpack {A:List HP} (c:Hs G h (sp A::L)):Hs G h (A++L):=c.imp fun _ h=>h
def B9 {α:Type} (A:α->HP):HP:=fun r=>∃x,A x r
theorem Hs.B8 {α:Type} {A:α->HP} (x:α) (m:Hs G h (A x::L)):Hs G h (B9 A::L):=Hs.join (A:=[A x]) m fun r j=>by
 obtain⟨o,q,g,i,_,c⟩:=j;cases i;rw[aU.add_comm (s:=aU.emp) aU.bM.symm,aU.dC] at c;subst c;exact⟨x,g⟩
theorem Ht {A:HP} {r:aU}:star [A] r↔A r:=by
 constructor;intro⟨m,o,g,i,_,c⟩;cases i;rw[aU.add_comm (s:=aU.emp) aU.bM.symm,aU.dC] at c;subst c;exact g;intro j;exact⟨r,aU.emp,j,rfl,aU.bM.symm,by rw[aU.add_comm (s:=aU.emp) aU.bM.symm,aU.dC]⟩
theorem Hs.Wd {α:Type} {A:α->HP} (c:Hs G h (B9 A::L)):∃x,Hs G h (A x::L):=by
 obtain⟨r,q,⟨x,o⟩,i,g,j,m⟩:=c.fst;exact⟨x,c.base,c.old,c.wf,c.fr,_,⟨r,q,o,i,g,rfl⟩,(aU.dA g).2 ⟨j,m⟩⟩
def Kw (p:Prop):HP:=fun r=>p/\r=aU.emp
theorem Hs.nk {p:Prop} (c:p) (i:Hs G h L):Hs G h (Kw p::L):=Hs.join (A:=[]) i fun _ g=>⟨c,g⟩
theorem Hs.so {p:Prop} (c:Hs G h (Kw p::L)):p/\Hs G h L:=by
 obtain⟨r,_,⟨g,_⟩,_⟩:=c.fst;exact⟨g,c.tail⟩
def iT (n:Nat) (f:Nat->HP):HP:=sp ((List.range n).map f)
theorem Jb {n i:Nat} {f:Nat->HP} (c:i<n):((List.range n).map f).Perm (f i::((List.range n).erase i).map f):=by
 have:(List.range n).Perm (i::(List.range n).erase i):=List.perm_cons_erase (List.mem_range.2 c);exact this.map f
theorem Hs.Ga {n:Nat} {f:Nat->HP} (m:Hs G h (iT n f::L)) (i:Nat) (j:i<n):Hs G h (f i::sp (((List.range n).erase i).map f)::L):=by
 have c:=m.unpack.perm ((Jb j).append_right L);have g:Hs G h (((List.range n).erase i).map f++f i::L):=c.perm (by simpa using List.perm_middle.symm);exact(g.pack).perm (List.Perm.swap _ _ _)
theorem wO {n:Nat} {f g:Nat->HP} (c:∀j,j<n->g j=f j) (m:Hs G h (iT n f::L)):Hs G h (iT n g::L):=by
 have:(List.range n).map f=(List.range n).map g:=List.map_congr_left fun j i=>(c j (List.mem_range.1 i)).symm;unfold iT at m ⊢;grind
theorem Hs.Yz {f:Nat->HP} (c:Hs G h L):Hs G h (iT 0 f::L):=Hs.pack (A:=[]) c
theorem Hs.Xg {n:Nat} {f:Nat->HP} (g:Hs G h (f n::iT n f::L)):Hs G h (iT (n+1) f::L):=by
 have c:=(g.perm (List.Perm.swap _ _ _)).unpack;refine Hs.pack (A:=(List.range (n+1)).map f) (c.perm ?_);rw[List.range_succ,List.map_append];simp
theorem yC.mono {f:Value} {args:List Value} {Q c:Value->AH->Prop} (k:yC P K f args h Q) (i:∀v g,Q v g->c v g):yC P K f args h c:=by
 unfold yC at k ⊢;split at k;exact⟨k.1,Ok.mono k.2 fun _ _=>i _ _⟩;exact Ok.mono k fun _ _=>i _ _;cases k
theorem Rq {l:Nat} {args:List Value} {Q:Value->AH->Prop} (k:Ok P K (.round l args) h fun o c=>Q o.v c):yC P K (.func (.yield l) #[] #[]) args h Q:=by
 simpa [yC] using k
def mo (P:Program) (K:FuncId->List Value->Option dU) (G:Bg) (f:FuncId) (first captured:List Value) (A:HP) (xs:List (List Value)):Prop:=
 ∀(I:List (List Value)->HP) (J:HP) (y:Value) (L:List HP) (h:AH) (Q:Value->AH->Prop),Hs G h (A::I xs::L)->
  (∀x rest h M,Hs G h (I (x::rest)::M)->yC P K y x h fun v c=>(v= .bool true/\Hs G c (I rest::M))\/(v= .bool false/\Hs G c (J::M)))->
  (∀v c,Hs G c (A::I []::L)->Q v c)->(∀v c,Hs G c (A::J::L)->Q v c)->Cl P K f (first++[y]++captured) h Q
class dJ (A:HP) (L:List HP) (L':outParam (List HP)):Prop where
 perm:L.Perm (A::L')
instance (priority:=low) dJ.there {A B:HP} [k:dJ A L L']:dJ A (B::L) (B::L'):=⟨(k.perm.cons B).trans (List.Perm.swap _ _ _)⟩
instance (priority:=high) dJ.here {A:HP}:dJ A (A::L) L:=⟨List.Perm.refl _⟩
instance (priority:=high) dJ.app {A B:HP} {c g:List HP} [k:dJ A (B::(c++g)) L']:dJ A ((B::c)++g) L':=k
instance (priority:=high) dJ.fx {A:HP} {c:List HP} [k:dJ A c L']:dJ A ([]++c) L':=k
class Sub (L M:List HP):Prop where
 to:∀r,star L r->∃r1 r2,star M r1/\r1.mV r2/\r=r1.add r2
theorem X5 {r:aU}:r.add aU.emp=r:=by rw[aU.add_comm aU.bM.symm,aU.dC]
instance (priority:=low) Sub.skip {A:HP} [k:Sub L M]:Sub (A::L) M:=⟨fun r ⟨j,m,o,c,g,i⟩=>by
 obtain⟨s1,s2,g1,g2,g3⟩:=k.to m c;subst g3;obtain⟨d1,d2⟩:=aU.dZ.1 g;exact⟨s1,j.add s2,g1,aU.dZ.2 ⟨d1.symm,g2⟩,by rw[i,<-aU.add_assoc,<-aU.add_assoc,aU.add_comm d1]⟩⟩
instance Sub.take {A:HP} [k:dJ A L L'] [q:Sub L' M]:Sub L (A::M):=⟨fun r o=>by
 obtain⟨c,s,g,i,j,m⟩:=vK k.perm r o;obtain⟨s1,s2,g1,g2,g3⟩:=q.to s i;subst g3;obtain⟨d1,d2⟩:=aU.dZ.1 j;exact⟨c.add s1,s2,⟨c,s1,g,g1,d1,rfl⟩,(aU.dZ.2 ⟨d2.symm,g2.symm⟩).symm,by rw[m,aU.add_assoc]⟩⟩
instance (priority:=high) Sub.refl:Sub L L:=⟨fun r c=>⟨r,aU.emp,c,aU.bM.symm,X5.symm⟩⟩
instance (priority:=high) Sub.app {A:HP} {c g:List HP} [k:Sub L (A::(c++g))]:Sub L ((A::c)++g):=k
instance (priority:=high) Sub.fx {c:List HP} [k:Sub L c]:Sub L ([]++c):=k
instance (priority:=high) Sub.tk {A:HP} {c g:List HP} [k:Sub (A::(c++g)) M]:Sub ((A::c)++g) M:=k
instance (priority:=high) Sub.ru {c:List HP} [k:Sub c M]:Sub ([]++c) M:=k
instance (priority:=high) Sub.sp {A:List HP} [k:Sub L (A++M)]:Sub L (sp A::M):=⟨fun r m=>by
 obtain⟨s1,s2,g1,g2,g3⟩:=k.to r m;obtain⟨o,q,c,g,i,j⟩:=dP.1 g1;exact⟨s1,s2,⟨o,q,c,g,i,j⟩,g2,g3⟩⟩
theorem Hs.to (c:Hs G h L) [k:Sub L M]:Hs G h M:=⟨c.base,c.old,c.wf,c.fr,by
 obtain⟨r,g,i⟩:=c.res;obtain⟨j,m,g1,g2,g3⟩:=k.to r g;subst g3;exact⟨j,g1,((aU.dA g2).1 i).1⟩⟩
theorem Hs.pS {A B:HP} (c:Hs G h (B::A::L)):Hs G h (A::B::L):=c.perm (List.Perm.swap _ _ _)
theorem mN {p:Prop} {A:List HP} (c:p) (g:Hs G h (sp A::L)):Hs G h (sp (Kw p::A)::L):=Hs.pack (A:=Kw p::A) (Hs.nk c g.unpack)
theorem iQ {p:Prop} {A:List HP} (c:Hs G h (sp (Kw p::A)::L)):p/\Hs G h (sp A::L):=let⟨a,b⟩:=Hs.so c.unpack;⟨a,b.pack⟩
theorem Li {a b:Prop} {c:List (Nat×Prop)} (g:a):nO none a b c:=g
theorem La {a b q:Prop} {c:List (Nat×Prop)} {id:Nat} (i:c.lookup id=some q) (g:q):nO (some (.exit id)) a b c:=by simp only[nO,i];exact g
end Go.Ab
end
section
namespace Go.Ab
variable {P:Program} {K:FuncId->List Value->Option dU} {G:Bg} {h:AH} {L L' M:List HP}
class Cv (v:Value) (cs:outParam (List Value)):Prop where
 eq:dS v=some cs
instance {a:Int}:Cv (I a) [I a]:=⟨rfl⟩
instance {a:Bool}:Cv (.bool a) [.bool a]:=⟨rfl⟩
instance {b o j:Nat}:Cv (pt b o j) [pt b o j]:=⟨rfl⟩
instance {a:Option Addr} {n c:Nat}:Cv (.slice a n c) [.slice a n c]:=⟨rfl⟩
instance {s:ByteArray}:Cv (.string s) [.string s]:=⟨rfl⟩
instance {l:List Value}:Cv (.agg ⟨l⟩) l:=⟨rfl⟩
theorem fK {cs:List Value} {e:TypeId} {v:Value} {k:Nat->AH->Prop} (i:Hs G h L) [j:Cv v cs] (g:∀p c,Hs G c (aM p 0 cs::L)->k p c):aK (hQ e v) fun b=>tX h b k:=kj i j.eq g
theorem No {r i n:Nat} {D:List Nat} {cs:List Value} {v:Value} {e:TypeId} {k:Nat->AH->Prop} (o:Hs G h L) [m:Has (Sr r) L (n,D) L'] [q:Cv v cs] (g:Nat.blt i n=true) (hD:D.contains i=false)
  (j:∀p c,Hs G c (aM p 0 cs::Sr r (n,i::D)::L')->k p c):aK (hQ e v) fun b=>iM h (r+i) b k:=Zm o q.eq g hD j
theorem dL {b o j n:Nat} {c vs:List Value} {v:Value} {k:AH->Prop} (t:Hs G h L) [m:Has (aM b o) L c L'] [u:Cv v vs] (s:vs.length=n) (r:Nat.ble (j+n) c.length=true) (hb:vs.all cT=true) (i:Nat.ble 1 c.length=true)
  (q:∀g,Hs G g (aM b o (kR c j vs)::L')->k g):aK (vI h n (pt b o j) v) k:=ki t u.eq s r hb i q
theorem ay {b o j n:Nat} {c vs:List Value} {v:Value} {k:AH->Prop} (t:Hs G h L) [m:Has (aM b o) L c L'] [u:Cv v vs] (q:∀g,Hs G g (aM b o (kR c j vs)::L')->k g) (s:vs.length=n:=by exact rfl) (r:Nat.ble (j+n) c.length=true:=by exact rfl) (hb:vs.all cT=true:=by exact rfl) (i:Nat.ble 1 c.length=true:=by exact rfl):aK (vI h n (pt b o j) v) k:=dL t s r hb i q
theorem Jm:∀(c vs:List Value),c.length=vs.length->kR c 0 vs=vs
 |[],[],_=>rfl
 |_::c,v::vs,h=>by simp only[kR];rw[Jm c vs (by simpa using h)]
theorem cY {b o n:Nat} {c vs:List Value} {v:Value} {k:AH->Prop} (s:Hs G h L) [m:Has (aM b o) L c L'] [t:Cv v vs] (g:Nat.beq c.length n=true) (j:Nat.ble 1 n=true) (r:vs.length=n) (hb:vs.all cT=true)
  (q:∀i,Hs G i (aM b o vs::L')->k i):aK (vI h n (pt b o 0) v) k:=by
 have g:=Nat.eq_of_beq_eq_true g
 refine ki s t.eq r (by rw[g];simp) hb (by rw[g];exact j) ?_
 rw[Jm c vs (by omega)];exact q
theorem ax {b o n:Nat} {c vs:List Value} {v:Value} {k:AH->Prop} (s:Hs G h L) [m:Has (aM b o) L c L'] [t:Cv v vs] (q:∀i,Hs G i (aM b o vs::L')->k i) (g:Nat.beq c.length n=true:=by exact rfl) (j:Nat.ble 1 n=true:=by exact rfl) (r:vs.length=n:=by exact rfl) (hb:vs.all cT=true:=by exact rfl):aK (vI h n (pt b o 0) v) k:=cY s g j r hb q
structure l9 where
 P:Program
 f:FuncId
 p:List Nat
 n:Nat
 e:Nat->Value
 d:Nat
 st:LoopState
 pd:Option Code
class iV (l:Nat) (L:List HP) (x:outParam l9) (L':outParam (List HP)):Prop where
 perm:L.Perm (Aq x.P x.f x.p x.n x.e x.d l (x.st,x.pd)::L')
instance (priority:=low) iV.there {l:Nat} {A:HP} {x:l9} [k:iV l L x L']:iV l (A::L) x (A::L'):=⟨(k.perm.cons A).trans (List.Perm.swap _ _ _)⟩
instance (priority:=high) iV.here {l:Nat} {f:FuncId} {p:List Nat} {n:Nat} {e:Nat->Value} {d:Nat} {st:LoopState} {pd:Option Code}:iV l (Aq P f p n e d l (st,pd)::L) ⟨P,f,p,n,e,d,st,pd⟩ L:=⟨List.Perm.refl _⟩
instance (priority:=high) iV.app {l:Nat} {A:HP} {c g:List HP} {x:l9} [k:iV l (A::(c++g)) x L']:iV l ((A::c)++g) x L':=k
instance (priority:=high) iV.fx {l:Nat} {c:List HP} {x:l9} [k:iV l c x L']:iV l ([]++c) x L':=k
theorem iV.of {l:Nat} {x:l9} [k:iV l L x L'] (c:Hs G h L):Hs G h (Aq x.P x.f x.p x.n x.e x.d l (x.st,x.pd)::L'):=c.perm k.perm
section
variable {f:FuncId} {p:List Nat} {n:Nat} {e:Nat->Value} {d l:Nat} {st st':LoopState} {pd pd':Option Code}
theorem wS {k:AH->Prop} (i:Hs G h L) [m:iV l L ⟨P,f,p,n,e,d,st,pd⟩ L'] (g:∀c,Hs G c (Aq P f p n e d l (st',pd')::L')->k c):aK (aY h l st' (some pd')) k:=j7 (show Hs G h (Aq P f p n e d l (st,pd)::L') from m.of i) g
theorem B1 {k:AH->Prop} (i:Hs G h L) [m:iV l L ⟨P,f,p,n,e,d,.ready,pd⟩ L'] (g:∀c,Hs G c (Aq P f p n e d l (.busy,pd)::L')->k c):aK (fP h l) k:=Xp (show Hs G h (Aq P f p n e d l (.ready,pd)::L') from m.of i) g
theorem Mk {k:Option Code×AH->Prop} (i:Hs G h L) [m:iV l L ⟨P,f,p,n,e,d,.ready,pd⟩ L'] (g:∀c,Hs G c L'->k (pd,c)):aK (mZ h l) k:=
 ar (P:=P) (f:=f) (p:=p) (n:=n) (e:=e) (d:=d) (st:= .ready) (pd:=pd) (k:=fun a b=>k (a,b)) (show Hs G h (Aq P f p n e d l (.ready,pd)::L') from m.of i) (by decide) g
theorem Tm (c:Hs G h L) [m:iV l L ⟨P,f,p,n,e,d,st,pd⟩ L']:h.get l=some (lp P f p n e d st pd):=nj (show Hs G h (Aq P f p n e d l (st,pd)::L') from m.of c)
end
theorem Oh {W:Nat} {e:TypeId} {a:Option Addr} {c n:Nat} {cs:List Value} (s:Hs G h (cB W e a c (n,cs)::L)):dM h W n (.slice a n c)=some cs:=by
 have E:=s.Bq;simp only at E;by_cases v:n=0;subst v;have:cs=[]:=List.eq_nil_of_length_eq_zero (by omega);subst this;cases a<;>simp[dM];obtain⟨b,o,rfl,H,t,_⟩:=s.F5 (by omega);simp only[dM,tt v,Nat.le_refl,if_true];by_cases hW:n*W=0;have:cs=[]:=List.eq_nil_of_length_eq_zero (by omega);subst this;obtain⟨r,R,m,F,Q,D,i⟩:=s.fst;obtain⟨_,_,m⟩:=m;rcases m with⟨u,_⟩|⟨u,_⟩|⟨z,J,I,A,ex,B,hle,q⟩;simp at u;omega;simp at u;omega;cases B;subst q;obtain⟨C,g⟩:=lL D i;simp only[aT,Option.isSome_none,Bool.false_eq_true,if_false,g,hW];grind;obtain⟨C,N,O,S,g,hle,w⟩:=t.cells (by omega);simp only[aT,Option.isSome_none,Bool.false_eq_true,if_false,g];rw[aae];congr 1;refine List.ext_getElem? fun j=>?_;grind
theorem pA {W bytes:Nat} {e:TypeId} {a a2:Option Addr} {c c2 n m:Nat} {cs ns:List Value} {k:Value×AH->Prop} (r:Hs G h L) [t:Has (cB W e a c) L (n,cs) L'] [u:Has (cB W e a2 c2) L' (m,ns) M] (i:(n+m)*(bytes+1)<=2^46)
  (s:∀j o q,Hs G q (cB W e j o (n+m,cs++ns)::L')->k (.slice j (n+m) o,q)):aK (gF W bytes e h (.slice a n c) (.slice a2 m c2)) k:=by
 have g:=u.of (t.of r).tail
 exact Sz (k:=fun x y=>k (x,y)) r iC (Oh g) g.zI g.Bq i s
theorem Hs.front (A:HP) (c:Hs G h L) [k:dJ A L L']:Hs G h (A::L'):=c.perm k.perm
theorem Hs.lT (A B:HP) (c:Hs G h L) [k:dJ A L L'] [g:dJ B L' M]:Hs G h (A::B::M):=c.perm (k.perm.trans (g.perm.cons A))
end Go.Ab
end
section
namespace Go.Ab
variable {P:Program} {K:FuncId->List Value->Option dU} {G:Bg} {h:AH} {L L' M:List HP}
structure V9 (G:Bg) (W:Nat) (e:TypeId) (a:Option Addr) (cap n b o:Nat) where
 p:HP
 back:∀(h':AH) (cs':List Value) (M:List HP),cs'.length=n*W->cs'.all cT=true->Hs G h' (aM b o cs'::p::M)->Hs G h' (cB W e a cap (n,cs')::M)
def hole (G:Bg) (W:Nat) (e:TypeId) (a:Option Addr) (cap n b o:Nat):HP:=B9 fun H:V9 G W e a cap n b o=>H.p
theorem Hs.iD {W:Nat} {e:TypeId} {a:Option Addr} {cap n:Nat} {cs:List Value} (j:Hs G h (cB W e a cap (n,cs)::L)) (q:0<n):
  ∃b o,a=some ⟨b,o,none⟩/\Hs G h (aM b o cs::hole G W e a cap n b o::L):=by
 have i:=j.Bq
 simp only at i
 obtain⟨b,o,u,H,g,v⟩:=j.F5 q
 exact⟨b,o,u,Hs.pS (Hs.B8 (A:=fun H:V9 G W e a cap n b o=>H.p) ⟨H,fun m c M r s t=>v m c M (r.trans i.symm) s t⟩ g.pS)⟩
theorem Hs.wM {W:Nat} {e:TypeId} {a:Option Addr} {cap n b o:Nat} {cs:List Value} (c:Hs G h (aM b o cs::hole G W e a cap n b o::L)) (j:cs.length=n*W) (i:cs.all cT=true):Hs G h (cB W e a cap (n,cs)::L):=by
 obtain⟨⟨H,g⟩,c⟩:=Hs.Wd (A:=fun H:V9 G W e a cap n b o=>H.p) c.pS;exact g _ _ _ j i c.pS
theorem Wv {b o W:Nat} {c:Nat->List Value} (s:∀i,(c i).length=W):∀(n:Nat) (L:List HP),Hs G h (aM b o ((List.range n).flatMap c)::L)->Hs G h (iT n (fun i=>aM b (o+i*W) (c i))::L):=by
 intro n;induction n with
 |zero=>intro L g;exact Hs.Yz g.tail
 |succ n r=>
  intro L g;rw[List.range_succ,List.flatMap_append] at g;have q:∀m,((List.range m).flatMap c).length=m*W:=fun m=>by
   induction m with
   |zero=>simp
   |succ m j=>rw[List.range_succ,List.flatMap_append,List.length_append,j];grind
  have g:=g.split;simp only[List.flatMap_cons,List.flatMap_nil,List.append_nil,q] at g;exact Hs.Xg (Hs.pS (r _ g))
theorem Hs.Lg {f g:Nat->HP}:∀(n:Nat) (L:List HP),(∀i,i<n->∀h L,Hs G h (f i::L)->Hs G h (g i::L))->Hs G h (iT n f::L)->Hs G h (iT n g::L):=by
 intro n;induction n with
 |zero=>intro L _ c;exact Hs.Yz c.tail
 |succ n m=>
  intro L j c;have c:=c.unpack;rw[List.range_succ,List.map_append,List.append_assoc] at c;have c:Hs G h (iT n f::f n::L):=Hs.pack c;exact Hs.Xg (j n (Nat.lt_succ_self n) _ _ (m _ (fun i o=>j i (by omega)) c).pS)
theorem Pd {n i:Nat} {l:List Value} {v:Value} {k:Value->Prop} (c:i<n) (j:l[i]?=some v) (g:k v):aK (Ku n 1 (.agg ⟨l⟩) (I i)) k:=⟨v,by simp[Ku,c,j],g⟩
theorem mO {b o j n c i:Nat} {k:Value->Prop} (g:i<n) (m:k (pt b o (j+i*c))):aK (oK n c (pt b o j) (I i)) k:=⟨_,by simp[oK,g,cF,pt,Nat.add_assoc],m⟩
theorem Z9 {bytes n:Nat} {k:Nat×Nat->Prop} (g:n<=2^40) (hb:bytes*n<=2^47) (c:k (n,n)):aK (yK bytes (I n) (I n)) k:=⟨_,by simp only[yK];grind,c⟩
theorem kN {b o j n:Nat} {c l:List Value} {k:Value->Prop} (s:Hs G h L) [m:Has (aM b o) L c L'] (r:0<n) (g:(c.drop j).take n=l) (q:l.length=n) (i:k (.agg ⟨l⟩)):aK (sW h n (pt b o j)) k:=bE s r g q i
theorem b0 {b n:Nat} {c:List Value} {k:Value->Prop} (q:Hs G h L) (m:Ob G b c) (g:c.length=n) (i:k (.agg ⟨c⟩)):aK (sW h n (.pointer (some ⟨b,0,none⟩))) k:=
 Tg (o:=0) (j:=0) q m (by rw[<-g];simp) g (by simp) i
def eG {α:Type} (f:Nat->α) (i:Nat) (v:α):Nat->α:=fun j=>if j=i then v else f j
theorem rT {α:Type} {f:Nat->α} {i:Nat} {v:α}:eG f i v i=v:=by simp[eG]
theorem uR {α:Type} {f:Nat->α} {i j:Nat} {v:α} (h:j≠i):eG f i v j=f j:=by simp[eG,h]
theorem oJ {W:Nat} {c:Nat->List Value} (j:∀i,(c i).length=W) (m:Nat):((List.range m).flatMap c).length=m*W:=by
 induction m with
 |zero=>simp
 |succ m g=>rw[List.range_succ,List.flatMap_append,List.length_append,g];grind
theorem X3 {W:Nat} {c:Nat->List Value} (t:∀i,(c i).length=W) {i:Nat}:∀(n:Nat),i<n->∃m g,(List.range n).flatMap c=m++(c i++g)/\m.length=i*W/\∀x,(List.range n).flatMap (eG c i x)=m++(x++g):=by
 intro n;induction n with
 |zero=>intro h;omega
 |succ n u=>
  intro h;by_cases o:i=n;subst o;refine⟨(List.range i).flatMap c,[],?_,oJ t i,fun x=>?_⟩;rw[List.range_succ,List.flatMap_append];simp;rw[List.range_succ,List.flatMap_append];congr 1;rw[List.flatMap_def,List.flatMap_def];congr 1;exact List.map_congr_left fun j v=>uR (by grind);simp[rT];obtain⟨m,g,q,r,s⟩:=u (by omega);refine⟨m,g++c n,?_,r,fun x=>?_⟩;rw[List.range_succ,List.flatMap_append,q];simp;rw[List.range_succ,List.flatMap_append,s];simp[uR (Ne.symm o)]
theorem Hs.l8 {W:Nat} {e:TypeId} {a:Option Addr} {cap n i:Nat} {c:Nat->List Value} (u:∀i,(c i).length=W) (B:i<n) (g:Hs G h (cB W e a cap (n,(List.range n).flatMap c)::L)):
  ∃b o,a=some ⟨b,o,none⟩/\∃H:HP,Hs G h (aM b (o+i*W) (c i)::H::L)/\∀s x M,x.length=W->x.all cT=true->Hs G s (aM b (o+i*W) x::H::M)->Hs G s (cB W e a cap (n,(List.range n).flatMap (eG c i x))::M):=by
 have m:=g.zI
 simp only at m
 obtain⟨b,o,z,g⟩:=g.iD (by omega)
 obtain⟨r,q,v,t,w⟩:=X3 u n B
 rw[v] at g m
 have g:=g.split.pS.split
 rw[t] at g
 refine⟨b,o,z,sp [aM b o r,aM b (o+i*W+(c i).length) q,hole G W e a cap n b o],?_,?_⟩
 .exact(Hs.pack (A:=[aM b o r,aM b (o+i*W+(c i).length) q,hole G W e a cap n b o]) g.to).pS
 .intro s x M C D g;have g:Hs G s (aM b (o+i*W) x::aM b (o+i*W+(c i).length) q::aM b o r::hole G W e a cap n b o::M):=(g.pS.unpack).to;have g:=Hs.O9 g (by rw[C,u]);have g:=Hs.O9 g.pS (by rw[t]);refine Hs.wM (by rw[w];exact g) (oJ (fun j=>by unfold eG;grind) n) ?_;grind
theorem Hs.sg {b o:Nat} {c c':List Value} (i:Hs G h L) [m:Has (aM b o) L c' L'] (g:c'=c):Hs G h (aM b o c::L'):=by subst g;exact m.of i
theorem Hs.Gv {n i:Nat} (f g:Nat->HP) (o:i<n) (s:∀j,j<n->j≠i->g j=f j) (c:Hs G h L) [k:dJ (g i) L L'] [t:dJ (sp (((List.range n).erase i).map f)) L' M]:Hs G h (iT n g::M):=by
 have c:=c.lT (g i) (sp (((List.range n).erase i).map f));have m:=(c.perm (List.Perm.swap _ _ _)).unpack;have r:((List.range n).erase i).map f=((List.range n).erase i).map g:=List.map_congr_left fun j q=>by
  have:j≠i:=by
   intro e;subst e;exact List.Nodup.not_mem_erase List.nodup_range q
  grind
 rw[r] at m;refine(m.perm ?_).pack;exact(List.perm_middle.trans ((Jb o).symm.append_right M))
theorem G4 {bytes:Nat} {a:Int} {k:Nat×Nat->Prop} (g:0<=a) (i:a<=2^40) (hb:bytes*a<=2^47) (c:k (a.toNat,a.toNat)):aK (yK bytes (I a) (I a)) k:=⟨_,by simp only[yK];grind,c⟩
theorem eB (z:List Value) (n:Nat):cS z n=(List.range n).flatMap fun _=>z:=by
 induction n with
 |zero=>rfl
 |succ n c=>rw[List.range_succ,List.flatMap_append,<-c];simp[cS,List.replicate_succ']
theorem pK {c:Nat->List Value} (g:∀i,(c i).all cT=true) (n:Nat):((List.range n).flatMap c).all cT=true:=by
 grind
theorem Hs.G1 {W:Nat} {e:TypeId} {z:List Value} {a:Option Addr} {cap n:Nat} (m:z.length=W) (g:0<n) (c:Hs G h (cB W e a cap (n,cS z n)::L)):∃b o,a=some ⟨b,o,none⟩/\Hs G h (iT n (fun i=>aM b (o+i*W) z)::hole G W e a cap n b o::L):=by
 obtain⟨b,o,j,c⟩:=c.iD g;rw[eB] at c;exact⟨b,o,j,Wv (fun _=>m) n _ c⟩
theorem Hs.N0 {c g i:List HP} (A B C:HP) (j:Hs G h L) [k:dJ A L c] [m:dJ B c g] [o:dJ C g i]:Hs G h (A::B::C::i):=j.perm (k.perm.trans ((m.perm.trans (o.perm.cons B)).cons A))
theorem ae {b o i j:Nat} {c:List Value} {v:Value} {k:Value->Prop} (r:Hs G h L) [m:Has (aM b o) L c L'] (g:c[i+j]?=some v) (q:k v):aK (vH h (pt b (o+i) j)) k:=by
 have:pt b (o+i) j=pt b o (i+j):=by simp only[pt];rw[Nat.add_assoc]
 rw[this];exact aL r g q
theorem O1:∀(l:List Value),(∀v∈l,mA v v=true)->Fh l l=true
 |[],_=>by simp[Fh]
 |a::l,h=>by simp only[Fh,h a List.mem_cons_self,Bool.true_and];exact O1 l fun v c=>h v (List.mem_cons_of_mem _ c)
theorem Ol {l:List Value} (h:∀v∈l,mA v v=true):mA (.agg ⟨l⟩) (.agg ⟨l⟩)=true:=by
 simp only[mA,Ng];exact O1 l h
end Go.Ab
end
section
namespace Go.Ab
variable {P:Program} {K:FuncId->List Value->Option dU} {G:Bg} {h:AH} {L L' M:List HP}
theorem Pw {W:Nat} {e:TypeId} {a:Option Addr} {cap:Nat} {x:Nat×List Value} {r:aU} (i:Hs G h ((fun q=>q=r)::L)) (g:cB W e a cap x r):Hs G h (cB W e a cap x::L):=
 Hs.join (A:=[_]) i fun q c=>by
  rw[Ht] at c;subst c;exact g
theorem I2 {W n c:Nat} {e:TypeId} {a:Option Addr} {cs:List Value} {k:Value->Prop} (j:Hs G h L) [m:Has (cB W e a c) L (n+1,cs) L'] (J:∀Q R,Hs G h (cB W e Q R (n,cs.drop W)::L')->k (.slice Q n R)):aK (sL W h (.slice a (n+1) c) (some (I 1)) none none) k:=by
 have j:=m.of j;obtain⟨r,V,⟨Y,U,hr⟩,w,B,H,s⟩:=j.fst;simp only at Y U;have F:(cs.drop W).all cT=true:=List.all_eq_true.2 fun v hv=>List.all_eq_true.1 U v (List.mem_of_mem_drop hv);have N:(cs.drop W).length=n*W:=by grind
 rcases hr with⟨O,_⟩|⟨O,_⟩|⟨o,b,g,i,ex,rfl,hle,z⟩;simp at O;simp at O;simp only at o hle z;subst z;obtain⟨hb,X⟩:=lL H s;have D:lY (some (I 1)) 0 (n+1)=some 1:=by simp only[lY];grind
 have C:lY none c c=some c:=rfl;have E:lY none (n+1) c=some (n+1):=rfl;by_cases t:c=1;have hn:n=0:=by omega
 subst t;subst hn;have hex:fX h b=some ex:=by simp only[fX,X]
 have u:cs.drop W=[]:=List.eq_nil_of_length_eq_zero (by omega);cases ex with
 |true=>
  refine⟨kC,by simp only[sL,C,D,Option.isNone_none,Option.isSome_none,Bool.and_false,Bool.false_eq_true,if_false,hex];simp,J _ _ ?_⟩;rw[u];refine Hs.join (A:=[]) j.tail fun q hq=>⟨by simp,rfl,.inl ⟨rfl,hq,rfl,.inr ⟨0,0,rfl⟩⟩⟩
 |false=>
  refine⟨rC ⟨b,g.length+1*W,none⟩,by simp only[sL,C,D,Option.isNone_none,Option.isSome_none,Bool.and_false,Bool.false_eq_true,if_false,hex,cF];simp,J _ _ ?_⟩;rw[u];refine Pw (r:=eZ b (g++cs++i) (some (.mt e false (g++cs++i).length))) ⟨j.base,j.old,j.wf,j.fr,_,⟨_,V,rfl,w,B,rfl⟩,(aU.dA B).2 ⟨H,s⟩⟩ ?_;refine⟨by simp,rfl,.inr (.inl ⟨rfl,rfl,b,g.length+1*W,g++cs++i,rfl,?_,rfl⟩)⟩;grind
 refine⟨.slice (some ⟨b,g.length+1*W,none⟩) n (c - 1),?_,J _ _ ?_⟩;have Z:¬c=1:=t;simp only[sL,C,D,E,Option.isNone_none,Option.isSome_none,Bool.and_false,Bool.false_eq_true,if_false,Z,cF];rw[tu o];rfl;have S:g++cs++i=(g++cs.take W)++cs.drop W++i:=by simp
 have T:(g++cs.take W).length=g.length+1*W:=by
  grind
 refine Pw (r:=eZ b (g++cs++i) (some (.mt e ex (g++cs++i).length))) ⟨j.base,j.old,j.wf,j.fr,_,⟨_,V,rfl,w,B,rfl⟩,(aU.dA B).2 ⟨H,s⟩⟩ ?_;refine⟨N,F,.inr (.inr ⟨by simp only;omega,b,g++cs.take W,i,ex,by rw[T],?_,by rw[<-S]⟩)⟩;simp only;rw[<-S,T];have:c*W=(c - 1)*W+W:=by rw[<-Nat.succ_mul];congr 1;omega
 omega
end Go.Ab
end
section
namespace Go.Ab
variable {P:Program} {K:FuncId->List Value->Option dU} {h:AH}
end Go.Ab
end
section
namespace Go.Ab
variable {P:Program} {K:FuncId->List Value->Option dU} {G:Bg} {h:AH} {L L' M:List HP}
end Go.Ab
end
