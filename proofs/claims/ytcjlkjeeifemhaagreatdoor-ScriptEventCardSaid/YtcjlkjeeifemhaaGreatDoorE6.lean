/- A part of the proof. -/
import Derived.Test.YtcjlkjeeifemhaaGreatDoorE4
import Derived.IntWalk
import Derived.KernelRfl
namespace Go.Ab
open Go.RowKit
section
inductive Tok where
 |free
 |mt (e:TypeId) (x:Bool) (n:Nat)
 |vI (b:dQ)
structure aI where
 cell:Nat->Nat->Option Value
 tok:Nat->Option Tok
def Ej:dQ->Bool
 |.cells ..=>false
 |_=>true
structure aI.In (r:aI) (h:AH):Prop where
 cell:∀b o v,r.cell b o=some v->h.base<=b/\∃c e x,h.get b=some (.cells c e (0,0) x)/\c[o]?=some v
 free:∀b,r.tok b=some .free->h.base<=b/\b<h.next/\h.get b=none
 mt:∀b e x n,r.tok b=some (.mt e x n)->h.base<=b/\∃c,h.get b=some (.cells c e (0,0) x)/\c.length=n
 vI:∀b o,r.tok b=some (.vI o)->h.base<=b/\h.get b=some o/\Ej o=true
structure aI.hU (r s:aI):Prop where
 cell:∀b o,r.cell b o=none\/s.cell b o=none
 tok:∀b,r.tok b=none\/s.tok b=none
def aI.add (r s:aI):aI:=⟨fun b o=>(r.cell b o).or (s.cell b o),fun b=>(r.tok b).or (s.tok b)⟩
def aI.emp:aI:=⟨fun _ _=>none,fun _=>none⟩
theorem aI.ext' {r s:aI} (c:∀b o,r.cell b o=s.cell b o) (g:∀b,r.tok b=s.tok b):r=s:=by
 cases r;cases s;simp only[aI.mk.injEq];grind
theorem oS {α:Type} {a b:Option α} (h:a=none\/b=none):a.or b=b.or a:=by
 rcases h with h|h<;>subst h<;>simp
theorem or_none {α:Type} {a b:Option α} (h:a.or b=none):a=none/\b=none:=by cases a<;>simp_all
theorem aI.hU.symm {r s:aI} (d:r.hU s):s.hU r:=⟨fun b o=>(d.cell b o).symm,fun b=>(d.tok b).symm⟩
theorem aI.add_comm {r s:aI} (d:r.hU s):r.add s=s.add r:=aI.ext' (fun b o=>oS (d.cell b o)) (fun b=>oS (d.tok b))
theorem aI.add_assoc {r s t:aI}:(r.add s).add t=r.add (s.add t):=aI.ext' (fun b o=>by simp[aI.add,Option.or_assoc]) (fun b=>by simp[aI.add,Option.or_assoc])
theorem aI.bT {r s t:aI}:r.hU (s.add t)↔r.hU s/\r.hU t:=by
 constructor;intro d;refine⟨⟨fun b o=>?_,fun b=>?_⟩,⟨fun b o=>?_,fun b=>?_⟩⟩;rcases d.cell b o with h|h;exact .inl h;exact .inr (or_none h).1;rcases d.tok b with h|h;exact .inl h;exact .inr (or_none h).1;rcases d.cell b o with h|h;exact .inl h;exact .inr (or_none h).2;rcases d.tok b with h|h;exact .inl h;exact .inr (or_none h).2;intro⟨d1,d2⟩;refine⟨fun b o=>?_,fun b=>?_⟩;rcases d1.cell b o with h|h;exact .inl h;rcases d2.cell b o with c|c;exact .inl c;exact .inr (by simp[aI.add,h,c]);rcases d1.tok b with h|h;exact .inl h;rcases d2.tok b with c|c;exact .inl c;exact .inr (by simp[aI.add,h,c])
theorem aI.bL {r:aI}:aI.emp.add r=r:=aI.ext' (fun _ _=>by simp[aI.add,aI.emp]) (fun _=>by simp[aI.add,aI.emp])
theorem aI.aU {r:aI}:aI.emp.hU r:=⟨fun _ _=> .inl rfl,fun _=> .inl rfl⟩
theorem aI.cR {r s:aI} {h:AH} (d:r.hU s):(r.add s).In h↔r.In h/\s.In h:=by
 have g:∀b o v,r.cell b o=some v->(r.add s).cell b o=some v:=fun b o v c=>by simp[aI.add,c]
 have m:∀b o v,s.cell b o=some v->(r.add s).cell b o=some v:=fun b o v c=>by
  rcases d.cell b o with h|h;simp[aI.add,h,c];grind
 have t1:∀b v,r.tok b=some v->(r.add s).tok b=some v:=fun b v c=>by simp[aI.add,c]
 have t2:∀b v,s.tok b=some v->(r.add s).tok b=some v:=fun b v c=>by
  rcases d.tok b with h|h;simp[aI.add,h,c];grind
 have q:∀b o v,(r.add s).cell b o=some v->r.cell b o=some v\/s.cell b o=some v:=fun b o v c=>by
  simp only[aI.add] at c;cases hr:r.cell b o with
  |none=>grind
  |some u=>grind
 have t3:∀b v,(r.add s).tok b=some v->r.tok b=some v\/s.tok b=some v:=fun b v c=>by
  simp only[aI.add] at c;cases hr:r.tok b with
  |none=>grind
  |some u=>grind
 constructor;intro i;exact⟨⟨fun b o v c=>i.cell b o v (g _ _ _ c),fun b c=>i.free b (t1 _ _ c),fun b e x n c=>i.mt b e x n (t1 _ _ c),fun b o c=>i.vI b o (t1 _ _ c)⟩,
     ⟨fun b o v c=>i.cell b o v (m _ _ _ c),fun b c=>i.free b (t2 _ _ c),fun b e x n c=>i.mt b e x n (t2 _ _ c),fun b o c=>i.vI b o (t2 _ _ c)⟩⟩
 intro⟨i,j⟩;refine⟨fun b o v c=>?_,fun b c=>?_,fun b e x n c=>?_,fun b o c=>?_⟩;rcases q _ _ _ c with h|h;exact i.cell b o v h;exact j.cell b o v h;rcases t3 _ _ c with h|h;exact i.free b h;exact j.free b h;rcases t3 _ _ c with h|h;exact i.mt b e x n h;exact j.mt b e x n h;rcases t3 _ _ c with h|h;exact i.vI b o h;exact j.vI b o h
abbrev HP:=aI->Prop
def star:List HP->aI->Prop
 |[],r=>r=aI.emp
 |A::L,r=>∃c g,A c/\star L g/\c.hU g/\r=c.add g
theorem lH {L L':List HP} (p:L.Perm L'):∀r,star L r->star L' r:=by
 induction p with
 |nil=>exact fun _ h=>h
 |cons A _ w=>exact fun r ⟨c,m,g,q,i,j⟩=>⟨c,m,g,w _ q,i,j⟩
 |swap A B L=>
  intro r ⟨c,m,g,⟨r3,o,s,t,u,v⟩,i,j⟩;subst v;subst j;obtain⟨d1,d2⟩:=aI.bT.1 i;refine⟨r3,c.add o,s,⟨c,o,g,t,d2,rfl⟩,aI.bT.2 ⟨d1.symm,u⟩,?_⟩;rw[<-aI.add_assoc,<-aI.add_assoc,aI.add_comm d1]
 |trans _ _ z C=>grind
theorem cF {L M:List HP}:∀{r},star (L++M) r↔∃c g,star L c/\star M g/\c.hU g/\r=c.add g:=by
 induction L with
 |nil=>intro r;exact⟨fun h=>⟨aI.emp,r,rfl,h,aI.aU,aI.bL.symm⟩,fun⟨c,g,j,m,o,i⟩=>by cases j;rw[aI.bL] at i;subst i;exact m⟩
 |cons A L v=>
  intro r;constructor;intro⟨c,g,j,m,o,i⟩;obtain⟨r3,q,s,t,u,w⟩:=v.1 m;subst w;obtain⟨d1,d2⟩:=aI.bT.1 o;exact⟨c.add r3,q,⟨c,r3,j,s,d1,rfl⟩,t,(aI.bT.2 ⟨d2.symm,u.symm⟩).symm,by rw[i,aI.add_assoc]⟩;intro⟨c,g,⟨r3,q,j,m,o,i⟩,s,t,u⟩;subst i;obtain⟨d1,d2⟩:=aI.bT.1 t.symm;exact⟨r3,q.add g,j,v.2 ⟨q,g,m,s,d2.symm,rfl⟩,aI.bT.2 ⟨o,d1.symm⟩,by rw[u,aI.add_assoc]⟩
structure Bg where
 base:Nat
 old:Nat->Option dQ
structure Hs (G:Bg) (h:AH) (L:List HP):Prop where
 base:h.base=G.base
 old:h.old=G.old
 wf:h.base<=h.next
 fr:∀i,h.next<=i->h.get i=none
 res:∃r,star L r/\r.In h
variable {P:Program} {K:FuncId->List Value->Option bZ} {G:Bg} {h:AH} {L L' M:List HP}
theorem Hs.perm (c:Hs G h L) (p:L.Perm L'):Hs G h L':=⟨c.base,c.old,c.wf,c.fr,let⟨r,g,i⟩:=c.res;⟨r,lH p r g,i⟩⟩
theorem Hs.tail {A:HP} (c:Hs G h (A::L)):Hs G h L:=⟨c.base,c.old,c.wf,c.fr,let⟨_,⟨_,o,_,g,i,j⟩,m⟩:=c.res;⟨o,g,((aI.cR i).1 (j▸m)).2⟩⟩
theorem Hs.imp {A:HP} {B:List HP} (c:Hs G h (A::L)) (k:∀r,A r->star B r):Hs G h (B++L):=⟨c.base,c.old,c.wf,c.fr,let⟨r,⟨g,s,i,j,m,o⟩,q⟩:=c.res;⟨r,cF.2 ⟨g,s,k g i,j,m,o⟩,q⟩⟩
theorem Hs.join {A:List HP} {B:HP} (c:Hs G h (A++L)) (k:∀r,star A r->B r):Hs G h (B::L):=⟨c.base,c.old,c.wf,c.fr,let⟨r,g,q⟩:=c.res;let⟨i,s,g,j,m,o⟩:=cF.1 g;⟨r,⟨i,s,k i g,j,m,o⟩,q⟩⟩
class Has {α:Type} (R:α->HP) (L:List HP) (a:outParam α) (L':outParam (List HP)):Prop where
 perm:L.Perm (R a::L')
instance (priority:=low) Has.there {α:Type} {R:α->HP} {A:HP} {a:α} [k:Has R L a L']:Has R (A::L) a (A::L'):=⟨(k.perm.cons A).trans (List.Perm.swap _ _ _)⟩
instance (priority:=high) Has.here {α:Type} {R:α->HP} {a:α}:Has R (R a::L) a L:=⟨List.Perm.refl _⟩
def kG (b o:Nat) (c:List Value):aI:=⟨fun i g=>if i=b/\o<=g then c[g - o]? else none,fun _=>none⟩
def fL (b o:Nat) (c:List Value):HP:=fun r=>r=kG b o c
def mt (b:Nat) (m:TypeId×Bool×Nat):HP:=fun r=>r=⟨fun _ _=>none,fun c=>if c=b then some (.mt m.1 m.2.1 m.2.2) else none⟩
def ot (b:Nat) (o:dQ):HP:=fun r=>r=⟨fun _ _=>none,fun c=>if c=b then some (.vI o) else none⟩
def G1 (c n:Nat) (D:List Nat):HP:=fun r=>r=⟨fun _ _=>none,fun b=>if c<=b/\b<c+n/\(b - c)∉D then some .free else none⟩
theorem eS {b o:Nat} {c:List Value} {g o':Nat}:(kG b o c).cell g o'=if g=b/\o<=o' then c[o' - o]? else none:=rfl
theorem mF {b o:Nat} {c d:List Value}:kG b o (c++d)=(kG b o c).add (kG b (o+c.length) d):=by
 refine aI.ext' (fun g i=>?_) (fun _=>rfl);simp only[aI.add,eS];grind
theorem yU {b o:Nat} {c d:List Value}:(kG b o c).hU (kG b (o+c.length) d):=by
 refine⟨fun g i=>?_,fun _=> .inl rfl⟩;simp only[eS];grind
theorem lO {b o:Nat} {c d:List Value} (r:aI):fL b o (c++d) r↔star [fL b o c,fL b (o+c.length) d] r:=by
 constructor;intro t;cases t;exact⟨_,_,rfl,⟨_,aI.emp,rfl,rfl,aI.aU.symm,rfl⟩,by rw[aI.add_comm aI.aU.symm,aI.bL];exact yU,by rw[aI.add_comm (s:=aI.emp) aI.aU.symm,aI.bL,mF]⟩;intro⟨w,z,i,⟨r3,A,j,m,v,q⟩,u,g⟩;cases i;cases j;cases m;subst q;rw[aI.add_comm (s:=aI.emp) aI.aU.symm,aI.bL] at g;rw[<-mF] at g;exact g
theorem Hs.split {b o:Nat} {c d:List Value} (g:Hs G h (fL b o (c++d)::L)):Hs G h (fL b o c::fL b (o+c.length) d::L):=g.imp (B:=[_,_]) fun r=>(lO r).1
theorem Hs.cellAt {b o j:Nat} {c:List Value} {v:Value} (i:Hs G h (fL b o c::L)) (u:c[j]?=some v):
  G.base<=b/\∃g e x,h.get b=some (.cells g e (0,0) x)/\g[o+j]?=some v:=by
 obtain⟨_,⟨w,z,m,t,q,r⟩,s⟩:=i.res
 cases m
 subst r
 have:=((aI.cR q).1 s).1.cell b (o+j) v (by rw[eS,Kx ⟨rfl,by omega⟩];grind)
 rw[i.base] at this
 exact this
theorem Hs.cells {b o:Nat} {c:List Value} (q:Hs G h (fL b o c::L)) (m:0<c.length):
  G.base<=b/\∃i e x,h.get b=some (.cells i e (0,0) x)/\o+c.length<=i.length/\∀j,j<c.length->i[o+j]?=c[j]?:=by
 obtain⟨r,i,e,x,s,z⟩:=q.cellAt (j:=0) (List.getElem?_eq_getElem m)
 have g:∀j,j<c.length->i[o+j]?=c[j]?:=fun j u=>by
  obtain⟨_,v,w,C,t,B⟩:=q.cellAt (j:=j) (List.getElem?_eq_getElem u);grind
 refine⟨r,i,e,x,s,?_,g⟩
 have A:=g (c.length - 1) (by omega)
 grind
theorem aI.In.of {r:aI} {h h':AH} (i:r.In h) (s:h'.base=h.base) (u:h.next<=h'.next) (t:∀b,(r.tok b≠none\/∃o,r.cell b o≠none)->h'.get b=h.get b):r.In h' where
 cell:=fun b o v g=>by
  obtain⟨j,c,e,x,m,q⟩:=i.cell b o v g;grind
 free:=fun b g=>by
  obtain⟨j,m,q⟩:=i.free b g;grind
 mt:=fun b e x n g=>by
  obtain⟨j,c,m,q⟩:=i.mt b e x n g;grind
 vI:=fun b o g=>by
  obtain⟨j,m,q⟩:=i.vI b o g;grind
theorem AH.nD {h:AH} {i:Nat} {o:Option dQ}:(h.set i o).old=h.old:=by rw[AH.lP];split<;>rfl
theorem Hs.write {b o j:Nat} {c vs:List Value} (u:Hs G h (fL b o c::L)) (hl:j+vs.length<=c.length) (hv:vs.all cZ=true) (H:0<c.length):
  ∃O,aO h ⟨b,o+j,none⟩ vs=some O/\Hs G O (fL b o (aF c j vs)::L):=by
 obtain⟨Z,z,e,x,B,T,A⟩:=u.cells H
 have t:h.base<=b:=by rw[u.base];exact Z
 refine⟨h.set b (some (.cells (aF z (o+j) vs) e (0,0) x)),?_,?_⟩
 .simp only[aO,Option.isSome_none,Bool.false_or,hv,Bool.not_true,Bool.or_false,B];grind
 .obtain⟨_,⟨r1,N,w,D,E,X⟩,Y⟩:=u.res;cases w;subst X;obtain⟨i1,i2⟩:=(aI.cR E).1 Y;have r:∀i,(h.set b (some (.cells (aF z (o+j) vs) e (0,0) x))).get i=if i=b then some (.cells (aF z (o+j) vs) e (0,0) x) else h.get i:=fun i=>AH.bU t
  have J:∀k,(aF z (o+j) vs)[k]?=if o+j<=k/\k<o+j+vs.length then vs[k - (o+j)]? else z[k]?:=fun k=>by
   unfold aF;by_cases w:k<o+j;grind;by_cases D:k<o+j+vs.length;grind;rw[aaa,List.getElem?_append_right (by simp;omega)];simp only[List.length_append,List.length_take,List.getElem?_drop];congr 1;omega
  have I:∀k,(aF c j vs)[k]?=if j<=k/\k<j+vs.length then vs[k - j]? else c[k]?:=fun k=>by
   unfold aF;by_cases w:k<j;grind;by_cases D:k<j+vs.length;grind;rw[aaa,List.getElem?_append_right (by simp;omega)];simp only[List.length_append,List.length_take,List.getElem?_drop];congr 1;omega
  have U:(aF c j vs).length=c.length:=by simp[aF];omega
  have Q:(kG b o (aF c j vs)).hU N:=by
   refine⟨fun m q=>?_,fun _=> .inl rfl⟩;rcases E.cell m q with h|h;left;rw[eS] at h ⊢;grind;exact .inr h
  have α:b<h.next:=by
   rcases Nat.lt_or_ge b h.next with w|w
   exact w;rw[u.fr b w] at B;cases B
  refine⟨by simp;exact u.base,by rw[AH.nD];exact u.old,by simp;exact u.wf,fun i R=>by simp at R;rw[r,aaa];exact u.fr i R,_,⟨_,N,rfl,D,Q,rfl⟩,(aI.cR Q).2 ⟨?_,?_⟩⟩
  .refine⟨fun m q v g=>?_,fun _ C=>by simp[kG] at C,fun _ _ _ _ C=>by simp[kG] at C,fun _ _ C=>by simp[kG] at C⟩;rw[eS] at g;split at g
   .rename_i hc;obtain⟨rfl,ho⟩:=hc;refine⟨by simp;exact t,_,e,x,by rw[r,Kx rfl],?_⟩;rw[J];rw[I] at g;split at g
    .rename_i S;rw[Kx (by omega),show q - (o+j)=q - o - j by omega];exact g
    .rename_i S;rw[aaa];have F:q - o<c.length:=(List.getElem?_eq_some_iff.1 g).1;have:=A (q - o) F;rw[show o+(q - o)=q by omega] at this;rw[this];exact g
   .cases g
  .have β:∀m q v,N.cell m q=some v->m=b->¬(o+j<=q/\q<o+j+vs.length):=by
    intro m q v g s S;subst s;rcases E.cell m q with h|h;rw[eS,Kx ⟨rfl,by omega⟩,List.getElem?_eq_none_iff] at h;omega;grind
   refine⟨fun m q v g=>?_,fun m g=>?_,fun m W x' n g=>?_,fun m ob g=>?_⟩
   .obtain⟨g1,V,e2,x2,g2,g3⟩:=i2.cell m q v g;refine⟨by simp;exact g1,?_⟩;grind
   .obtain⟨g1,g2,g3⟩:=i2.free m g;refine⟨by simp;exact g1,by simp;exact g2,?_⟩;grind
   .obtain⟨g1,V,g2,g3⟩:=i2.mt m W x' n g;refine⟨by simp;exact g1,?_⟩;rw[r];by_cases s:m=b
    .rw[Kx s];rw[s,B] at g2;cases g2;exact⟨_,rfl,by simp[aF];omega⟩
    grind
   .obtain⟨g1,g2,g3⟩:=i2.vI m ob g;refine⟨by simp;exact g1,?_,g3⟩;rw[r,Kw (by intro s;subst s;rw[B] at g2;cases g2;simp[Ej] at g3)];exact g2
theorem yK {r:aI} {h:AH} {i:Nat} (q:r.In h) (m:h.get i=none) (s:r.tok i=none) {c:List Value} {t:Option Tok}:
  (⟨fun b o=>if b=i then c[o]? else none,fun b=>if b=i then t else none⟩:aI).hU r:=by
 refine⟨fun b o=>?_,fun b=>?_⟩
 .by_cases j:b=i
  .right;subst j;cases hc:r.cell b o with
   |none=>rfl
   |some v=>obtain⟨_,_,_,_,g,_⟩:=q.cell b o v hc;rw[m] at g;cases g
  .left;simp[j]
 grind
def dD (i:Nat) (c:List Value) (t:Option Tok):aI:=⟨fun b o=>if b=i then c[o]? else none,fun b=>if b=i then t else none⟩
theorem dU {i:Nat} {c:List Value} {e:TypeId} {x:Bool}:star [fL i 0 c,mt i (e,x,c.length)] (dD i c (some (.mt e x c.length))):=by
 refine⟨kG i 0 c,_,rfl,⟨_,aI.emp,rfl,rfl,aI.aU.symm,rfl⟩,?_,?_⟩;rw[aI.add_comm (s:=aI.emp) aI.aU.symm,aI.bL];exact⟨fun _ _=> .inr rfl,fun _=> .inl rfl⟩;rw[aI.add_comm (s:=aI.emp) aI.aU.symm,aI.bL];refine aI.ext' (fun b o=>?_) (fun b=>?_);simp[dD,aI.add,kG];simp[dD,aI.add,kG]
theorem Hs.new {c:List Value} {e:TypeId} {x:Bool} (u:Hs G h L):Hs G (h.alloc (.cells c e (0,0) x)) (fL h.next 0 c::mt h.next (e,x,c.length)::L):=by
 obtain⟨r,E,z⟩:=u.res;have w:h.get h.next=none:=u.fr _ (Nat.le_refl _)
 have A:r.tok h.next=none:=by
  cases ht:r.tok h.next with
  |none=>rfl
  |some t=>
   cases t with
   |free=>have:=(z.free _ ht).2.1;omega
   |mt D H n=>obtain⟨_,_,g,_⟩:=z.mt _ _ _ _ ht;grind
   |vI o=>obtain⟨_,g,_⟩:=z.vI _ _ ht;grind
 have C:(dD h.next c (some (.mt e x c.length))).hU r:=yK z w A;have m:∀j,(h.alloc (.cells c e (0,0) x)).get j=if j=h.next then some (.cells c e (0,0) x) else h.get j:=fun j=>AH.lR u.wf
 refine⟨u.base,u.old,Nat.le_succ_of_le u.wf,fun i F=>by simp at F;rw[m,aaa];exact u.fr i (by omega),(dD h.next c (some (.mt e x c.length))).add r,(cF (L:=[fL h.next 0 c,mt h.next (e,x,c.length)])).2 ⟨_,r,dU,E,C,rfl⟩,(aI.cR C).2 ⟨?_,?_⟩⟩;refine⟨fun b o v q=>?_,fun b q=>?_,fun b D H n q=>?_,fun b o q=>?_⟩;simp only[dD] at q;split at q;rename_i s;subst s;exact⟨by simp;exact u.wf,c,e,x,by rw[m,Kx rfl],q⟩;cases q;simp only[dD] at q;grind;simp only[dD] at q;split at q;rename_i s;subst s;cases q;exact⟨by simp;exact u.wf,c,by rw[m,Kx rfl],rfl⟩;cases q;simp only[dD] at q;grind;refine z.of rfl (by simp) fun b s=>?_;rw[m,Kw];intro B;subst B;rcases s with s|⟨o,s⟩;exact s A;apply s;cases hc:r.cell h.next o with
 |none=>rfl
 |some v=>obtain⟨_,_,_,_,g,_⟩:=z.cell _ o v hc;grind
end
end Go.Ab
section
namespace Go.Ab
variable {P:Program} {K:FuncId->List Value->Option bZ} {G:Bg} {h:AH} {L L' M:List HP}
theorem Has.of {α:Type} {R:α->HP} {a:α} (m:Has R L a L') (c:Hs G h L):Hs G h (R a::L'):=c.perm m.perm
def Fz (h:AH) (_i:Nat) (e:TypeId) (l:List Value) (n c:Nat) (k:Value->AH->Prop):Prop:=zX h (.cells l e (0,0) true) fun p g=>k (.slice (some ⟨p,0,none⟩) n c) g
def oD (h:AH) (r:Nat) (_i:Nat) (e:TypeId) (l:List Value) (n c:Nat) (k:Value->AH->Prop):Prop:=qW h r (.cells l e (0,0) true) fun p g=>k (.slice (some ⟨p,0,none⟩) n c) g
def lp (P:Program) (f:FuncId) (p:List Nat) (n:Nat) (e:Nat->Value) (d:Nat) (st:LoopState) (pd:Option Code):dQ:=
 .loop st pd f ((List.range n).map e) (Im (cd P f p)).2.1 (Im (cd P f p)).2.2.1 (Im (cd P f p)).2.2.2 d
theorem fO {b o j:Nat} {c:List Value} {v:Value} {k:Value->Prop} (s:Hs G h L) [m:Has (fL b o) L c L'] (i:c[j]?=some v) (r:k v):aQ (Cq h (pt b o j)) k:=by
 obtain⟨_,t,e,x,q,g⟩:=(m.of s).cellAt i;exact⟨v,by simp[Cq,pt,q,g],r⟩
theorem aa (b:Nat) {j:Nat} {c:List Value} {v:Value} {k:Value->Prop} (s:Hs G h L) [m:Has (fL b 0) L c L'] (i:c[j]?=some v) (r:k v):aQ (Cq h (pt b 0 j)) k:=fO (b:=b) (o:=0) s i r
theorem tL {b o j n:Nat} {c l:List Value} {k:Value->Prop} (t:Hs G h L) [m:Has (fL b o) L c L'] (A:0<n) (q:(c.drop j).take n=l) (z:l.length=n) (s:k (.agg ⟨l⟩)):aQ (Co h n (pt b o j)) k:=by
 have g:j+n<=c.length:=by
  grind
 obtain⟨_,u,e,x,r,v,w⟩:=(m.of t).cells (by omega);refine⟨.agg ⟨l⟩,?_,s⟩;simp only[Co,pt,aG,Option.isSome_none,Bool.false_eq_true,if_false,r];rw[Kx (by omega)];simp only[Option.map_some,Option.some.injEq,Value.agg.injEq,Array.mk.injEq];rw[<-q];refine List.ext_getElem? fun i=>?_;grind
theorem ac (b:Nat) {j n:Nat} {c l:List Value} {k:Value->Prop} (t:Hs G h L) [m:Has (fL b 0) L c L'] (q:(c.drop j).take n=l) (z:l.length=n) (s:k (.agg ⟨l⟩)) (A:0<n:=by decide):aQ (Co h n (pt b 0 j)) k:=tL (b:=b) (o:=0) t A q z s
theorem Hr {cs:List Value} {e:TypeId} {k:Nat->AH->Prop} (j:Hs G h L) (i:∀p g,Hs G g (fL p 0 cs::L)->k p g):zX h (.cells cs e (0,0) true) k:=
 i _ _ (let t:=j.new (c:=cs) (e:=e) (x:=true);(t.perm (List.Perm.swap _ _ _)).tail)
theorem Ie {cs:List Value} {e:TypeId} {v:Value} {k:Nat->AH->Prop} (i:Hs G h L) (j:cL v=some cs) (g:∀p c,Hs G c (fL p 0 cs::L)->k p c):aQ (oH e v) fun b=>zX h b k:=
 ⟨.cells cs e (0,0) true,by simp[oH,j],Hr i g⟩
def Ip (r:Nat) (x:Nat×List Nat):HP:=G1 r x.1 x.2
theorem De {n:Nat} {k:Nat->AH->Prop} (c:Hs G h L) (C:∀r u,Hs G u (Ip r (n,[])::L)->k r u):fR h n k:=by
 refine C _ _ ?_;obtain⟨r,A,j⟩:=c.res;have w:∀i,({h with next:=h.next+n}:AH).get i=h.get i:=fun i=>rfl;refine⟨c.base,c.old,Nat.le_trans c.wf (Nat.le_add_right _ _),fun i B=>by rw[w];exact c.fr i (Nat.le_trans (Nat.le_add_right _ _) B),_,⟨_,r,rfl,A,?_,rfl⟩,(aI.cR ?_).2 ⟨?_,?_⟩⟩;rotate_right;exact j.of rfl (Nat.le_add_right _ _) fun _ _=>rfl;have s:∀b,h.next<=b->r.tok b=none:=fun b q=>by
  cases ht:r.tok b with
  |none=>rfl
  |some t=>
   cases t with
   |free=>have:=(j.free _ ht).2.1;omega
   |mt z D n=>obtain⟨_,_,g,_⟩:=j.mt _ _ _ _ ht;rw[c.fr b q] at g;cases g
   |vI o=>obtain⟨_,g,_⟩:=j.vI _ _ ht;rw[c.fr b q] at g;cases g
 refine⟨fun _ _=> .inl rfl,fun b=>?_⟩;grind;have s:∀b,h.next<=b->r.tok b=none:=fun b q=>by
  cases ht:r.tok b with
  |none=>rfl
  |some t=>
   cases t with
   |free=>have:=(j.free _ ht).2.1;omega
   |mt z D n=>obtain⟨_,_,g,_⟩:=j.mt _ _ _ _ ht;rw[c.fr b q] at g;cases g
   |vI o=>obtain⟨_,g,_⟩:=j.vI _ _ ht;rw[c.fr b q] at g;cases g
 refine⟨fun _ _=> .inl rfl,fun b=>?_⟩;grind;refine⟨fun _ _ _ m=>(by cases m),fun b m=>?_,fun b e x n m=>?_,fun b o m=>?_⟩;simp only at m;split at m;rename_i v;have:=c.wf;exact⟨by grind,v.2.1,by rw[w];exact c.fr b v.1⟩;cases m;grind;grind
def Ji (c:Bool) (g:List Nat) (op:BinOp) (a b:Value) (q:Value->Prop):Prop:=c=true/\aQ (Gu g op a b) q
def Jl (c:Bool) (h:AH) (n:Nat) (k:Nat->AH->Prop):Prop:=c=true/\fR h n k
theorem Fj {c:Bool} {n:Nat} {k:Nat->AH->Prop} (m:Hs G h L) (j:∀r g,Hs G g (Ip r (n,[])::L)->k r g) (i:c=true:=by kernel_rfl):Jl c h n k:=⟨i,De m j⟩
theorem Ch {r n i:Nat} {D:List Nat} (c:i<n) (hD:i∉D):star [fun q=>q=(⟨fun _ _=>none,fun b=>if b=r+i then some .free else none⟩:aI),G1 r n (i::D)] ⟨fun _ _=>none,fun b=>if r<=b/\b<r+n/\(b - r)∉D then some .free else none⟩:=by
 refine⟨_,_,rfl,⟨_,aI.emp,rfl,rfl,aI.aU.symm,rfl⟩,?_,?_⟩;rw[aI.add_comm (s:=aI.emp) aI.aU.symm,aI.bL];refine⟨fun _ _=> .inl rfl,fun b=>?_⟩;grind;rw[aI.add_comm (s:=aI.emp) aI.aU.symm,aI.bL];refine aI.ext' (fun _ _=>rfl) (fun b=>?_);simp only[aI.add];grind
theorem Hs.newAt {r n i:Nat} {D:List Nat} {c:List Value} {e:TypeId} {x:Bool} (C:Hs G h (G1 r n D::L)) (Y:i<n) (hD:i∉D):
  Hs G (h.set (r+i) (some (.cells c e (0,0) x))) (fL (r+i) 0 c::mt (r+i) (e,x,c.length)::G1 r n (i::D)::L):=by
 obtain⟨q,⟨r1,O,T,U,E,V⟩,W⟩:=C.res
 cases T
 subst V
 obtain⟨i1,i2⟩:=(aI.cR E).1 W
 obtain⟨q1,q2,H,⟨q3,q4,I,J,Z,B⟩,X,N⟩:=Ch (r:=r) Y hD
 cases H;cases J
 rw[aI.add_comm (s:=aI.emp) aI.aU.symm,aI.bL] at B
 subst B
 cases I
 rw[N] at i1 E
 obtain⟨i3,i4⟩:=(aI.cR X).1 i1
 obtain⟨S,fn,Q⟩:=i3.free (r+i) (by simp)
 obtain⟨d1,d2⟩:=aI.bT.1 E.symm
 have t:∀j,(h.set (r+i) (some (.cells c e (0,0) x))).get j=if j=r+i then some (.cells c e (0,0) x) else h.get j:=fun j=>AH.bU S
 have m:=(aI.cR d2.symm).2 ⟨i4,i2⟩
 have z:((⟨fun _ _=>none,fun b=>if r<=b/\b<r+n/\(b - r)∉(i::D) then some .free else none⟩:aI).add O).tok (r+i)=none:=by
  simp only[aI.add];rw[Kw (by grind)];rcases d1.tok (r+i) with h|h;simpa using h;simp at h
 have A:(dD (r+i) c (some (.mt e x c.length))).hU ((⟨fun _ _=>none,fun b=>if r<=b/\b<r+n/\(b - r)∉(i::D) then some .free else none⟩:aI).add O):=yK m Q z
 refine⟨by simp;exact C.base,by rw[AH.nD];exact C.old,by simp;exact C.wf,fun j R=>by simp at R;rw[t,aaa];exact C.fr j R,
    _,(cF (L:=[fL (r+i) 0 c,mt (r+i) (e,x,c.length)])).2 ⟨_,_,dU,⟨_,O,rfl,U,d2.symm,rfl⟩,A,rfl⟩,(aI.cR A).2 ⟨?_,?_⟩⟩
 .refine⟨fun b o v u=>?_,fun b u=>?_,fun b e' x' n u=>?_,fun b o u=>?_⟩
  .simp only[dD] at u;simp_all
  .simp only[dD] at u;grind
  .simp only[dD] at u;simp_all
  .simp only[dD] at u;grind
 .refine m.of (by simp) (by simp) fun b w=>?_;rw[t,Kw];intro F;subst F;rcases w with w|⟨o,w⟩
  .exact w z
  .apply w;cases hc:aI.cell _ (r+i) o with
   |none=>rfl
   |some v=>obtain⟨_,_,_,_,g,_⟩:=m.cell _ o v hc;rw[Q] at g;cases g
def Ka (P:Program) (f:FuncId) (p:List Nat) (n:Nat) (e:Nat->Value) (d l:Nat) (x:LoopState×Option Code):HP:=ot l (lp P f p n e d x.1 x.2)
def mk (d:Nat) (_:Unit):HP:=ot d (.marks true)
end Go.Ab
end
section
namespace Go.Ab
variable {P:Program} {K:FuncId->List Value->Option bZ} {G:Bg} {h:AH} {L L' M:List HP}
def mN (W:Nat) (e:TypeId) (a:Option Addr) (i:Nat) (x:Nat×List Value):HP:=fun r=>
 x.2.length=x.1*W/\x.2.all cZ=true/\
 ((x.1=0/\r=aI.emp/\i=0/\(a=none\/∃b o,a=some ⟨b,o,some 1⟩))\/
  (x.1=0/\i=0/\∃b o j,a=some ⟨b,o,some 2⟩/\o<=j.length/\r=dD b j (some (.mt e false j.length)))\/
  (x.1<=i/\∃b g c ex,a=some ⟨b,g.length,none⟩/\g.length+i*W<=(g++x.2++c).length/\r=dD b (g++x.2++c) (some (.mt e ex (g++x.2++c).length))))
theorem C7 {W:Nat} {e:TypeId} (g:Hs G h L):Hs G h (mN W e none 0 (0,[])::L):=by
 refine Hs.join (A:=[]) g fun r c=>?_;exact⟨by simp,rfl,.inl ⟨rfl,c,rfl,.inl rfl⟩⟩
theorem fZ {b:Nat} {c:List Value} {e:TypeId} {x:Bool} {r:aI} (h:star [fL b 0 c,mt b (e,x,c.length)] r):r=dD b c (some (.mt e x c.length)):=by
 obtain⟨A,B,g,⟨r3,C,j,m,s,t⟩,o,q⟩:=h;obtain⟨u,v,g1,⟨w,z,g5,g6,g7,g8⟩,g3,g4⟩:=dU (i:=b) (c:=c) (e:=e) (x:=x);cases g;cases j;cases m;cases g1;cases g5;cases g6;grind
theorem xF {W:Nat} {e:TypeId} {l:List Value} {n c:Nat} {k:Value->AH->Prop} (s:Hs G h L) (i:l.length=c*W) (o:n=c) (j:l.all cZ=true)
  (m:∀a g,Hs G g (mN W e (some a) c (n,l)::L)->k (.slice (some a) n c) g):Fz h W e l n c k:=by
 subst o
 refine m _ _ ?_
 have:=s.new (c:=l) (e:=e) (x:=true)
 refine Hs.join (A:=[_,_]) this fun r q=>?_
 have:=fZ q
 exact⟨i,j,.inr (.inr ⟨Nat.le_refl _,h.next,[],[],true,rfl,by simp[i],by simpa using this⟩)⟩
theorem A8 {W r i N:Nat} {D:List Nat} {e:TypeId} {l:List Value} {n c:Nat} {k:Value->AH->Prop} (v:Hs G h L) [m:Has (Ip r) L (N,D) L'] (w:Nat.blt i N=true) (hD:D.contains i=false) (j:l.length=c*W) (t:n=c) (o:l.all cZ=true)
  (s:∀a g,Hs G g (mN W e (some a) c (n,l)::Ip r (N,i::D)::L')->k (.slice (some a) n c) g):oD h (r+i) W e l n c k:=by
 subst t
 refine s _ _ ?_
 have:=Hs.newAt (i:=i) (c:=l) (e:=e) (x:=true) (show Hs G h (G1 r N D::L') from m.of v) (by simp_all) (by simpa using hD)
 refine Hs.join (A:=[_,_]) this fun q u=>?_
 have:=fZ u
 exact⟨j,o,.inr (.inr ⟨Nat.le_refl _,r+i,[],[],true,rfl,by simp[j],by simpa using this⟩)⟩
theorem Hs.fst {A:HP} (m:Hs G h (A::L)):∃r c,A r/\star L c/\r.hU c/\r.In h/\c.In h:=by
 obtain⟨q,⟨t,c,o,s,g,i⟩,j⟩:=m.res;subst i;obtain⟨i1,i2⟩:=(aI.cR g).1 j;grind
theorem Hs.sB {W:Nat} {e:TypeId} {a:Option Addr} {c:Nat} {x:Nat×List Value} (i:Hs G h (mN W e a c x::L)):x.2.length=x.1*W:=by
 obtain⟨r,_,g,_⟩:=i.fst;exact g.1
theorem Hs.Bs {W:Nat} {e:TypeId} {a:Option Addr} {c:Nat} {x:Nat×List Value} (i:Hs G h (mN W e a c x::L)):x.2.all cZ=true:=by
 obtain⟨r,_,g,_⟩:=i.fst;exact g.2.1
theorem Hs.yL {W:Nat} {e:TypeId} {a:Option Addr} {C n:Nat} {cs:List Value} (J:Hs G h (mN W e a C (n,cs)::L)) (h0:0<n):
  ∃b o,a=some ⟨b,o,none⟩/\∃H:HP,Hs G h (fL b o cs::H::L)/\∀R m M,m.length=cs.length->m.all cZ=true->Hs G R (fL b o m::H::M)->Hs G R (mN W e a C (n,m)::M):=by
 have N:∀b (j g:List Value) ex,∀m:List Value,m.length=cs.length->∀r,star [fL b j.length m,fun r=>star [fL b 0 j,fL b (j.length+cs.length) g,mt b (e,ex,(j++cs++g).length)] r] r↔r=dD b (j++m++g) (some (.mt e ex (j++m++g).length)):=by
  intro b j g ex m O r;have e1:(j++cs++g).length=(j++m++g).length:=by simp[O]
  have e2:∀q,star [fL b 0 (j++m++g),mt b (e,ex,(j++m++g).length)] q->star [fL b j.length m,fun r=>star [fL b 0 j,fL b (j.length+cs.length) g,mt b (e,ex,(j++cs++g).length)] r] q:=by
   intro q I;obtain⟨r1,z,S,h2,D,U⟩:=I;have T:=(lO r1).1 S;obtain⟨s1,s2,g1,⟨s3,s4,g2,g3,g4,g5⟩,g6,g7⟩:=T;have Q:=(lO s1).1 g1;cases g3;rw[aI.add_comm (s:=aI.emp) aI.aU.symm,aI.bL] at g5;subst g5;have E:star ([fL b 0 j,fL b (0+j.length) m]++([fL b (0+(j++m).length) g]++[mt b (e,ex,(j++m++g).length)])) q:=by
    refine cF.2 ⟨s1,s2.add z,Q,cF.2 ⟨s2,z,⟨s2,aI.emp,g2,rfl,aI.aU.symm,by rw[aI.add_comm (s:=aI.emp) aI.aU.symm,aI.bL]⟩,h2,?_,rfl⟩,?_,?_⟩;rw[g7] at D;exact(aI.bT.1 D.symm).2.symm;rw[g7] at D;exact aI.bT.2 ⟨g6,(aI.bT.1 D.symm).1.symm⟩;rw[U,g7,aI.add_assoc]
   have hp:star ([fL b (0+j.length) m]++[fL b 0 j,fL b (0+(j++m).length) g,mt b (e,ex,(j++m++g).length)]) q:=lH (List.Perm.swap _ _ _) q E;obtain⟨u1,u2,w1,w2,w3,w4⟩:=cF.1 hp;rw[Nat.zero_add] at w1;obtain⟨v1,v2,x1,x2,x3,x4⟩:=w1;cases x2;rw[aI.add_comm (s:=aI.emp) aI.aU.symm,aI.bL] at x4;subst x4;refine⟨u1,u2,x1,⟨u2,aI.emp,?_,rfl,aI.aU.symm,by rw[aI.add_comm (s:=aI.emp) aI.aU.symm,aI.bL]⟩,w3,w4⟩;grind
  constructor;intro v;have hb:=e2 _ (dU (i:=b) (c:=j++m++g) (e:=e) (x:=ex));obtain⟨r1,z,S,⟨r3,r4,h5,h6,h7,h8⟩,D,U⟩:=v;obtain⟨q1,q2,g1,⟨q3,q4,g5,g6,g7,g8⟩,g3,g4⟩:=hb;cases S;cases g1;cases h6;cases g6;rw[aI.add_comm (s:=aI.emp) aI.aU.symm,aI.bL] at h8 g8;subst h8;subst g8;have:z=q2:=by
   obtain⟨a1,a2,b1,⟨a3,a4,b2,⟨a5,a6,b3,b4,b5,b6⟩,b7,b8⟩,b9,α⟩:=h5;obtain⟨c1,c2,d1,⟨c3,c4,d2,⟨c5,c6,d3,d4,d5,d6⟩,d7,d8⟩,d9,d10⟩:=g5;cases b1;cases b2;cases b3;cases b4;cases d1;cases d2;cases d3;cases d4;grind
  rw[U,g4,this];intro v;subst v;exact e2 _ dU
 obtain⟨r,z,v,X,hd,hi,V⟩:=J.fst
 obtain⟨O,hc,v⟩:=v
 simp only at O hc
 rcases v with⟨Z,_⟩|⟨Z,_⟩|⟨F,b,j,g,ex,rfl,hle,Y⟩
 .simp at Z;omega
 .simp at Z;omega
 .refine⟨b,j.length,rfl,fun r=>star [fL b 0 j,fL b (j.length+cs.length) g,mt b (e,ex,(j++cs++g).length)] r,?_,?_⟩
  .have w:Hs G h ((fun r=>r=dD b (j++cs++g) (some (.mt e ex (j++cs++g).length)))::L):=⟨J.base,J.old,J.wf,J.fr,_,⟨r,z,Y,X,hd,rfl⟩,(aI.cR hd).2 ⟨hi,V⟩⟩;exact w.imp (B:=[_,_]) fun q I=>(N b j g ex cs rfl q).2 I
  .intro R m M u t w;refine Hs.join (A:=[_,_]) w fun q I=>?_;have:=(N b j g ex m u q).1 I;refine⟨by rw[u];exact O,t,.inr (.inr ⟨F,b,j,g,ex,rfl,?_,this⟩)⟩;grind
theorem sM {b:Nat} {c:List Value} {e:TypeId} {x:Bool} {r:aI} (i:(dD b c (some (.mt e x c.length))).In h) (_g:r.In h):h.base<=b/\h.get b=some (.cells c e (0,0) x):=by
 obtain⟨o,s,q,v⟩:=i.mt b e x c.length (by simp[dD]);refine⟨o,?_⟩;rw[q];congr 2;refine List.ext_getElem? fun j=>?_;rcases Nat.lt_or_ge j c.length with m|m;obtain⟨_,t,u,w,g1,g2⟩:=i.cell b j c[j] (by simp[dD,m]);grind;grind
theorem Hs.kill {b:Nat} {c c2:List Value} {e e2:TypeId} {x x2:Bool} (q:Hs G h ((fun r=>r=dD b c (some (.mt e x c.length)))::L)):Hs G ((h.set b none).alloc (.cells c2 e2 (0,0) x2)) ((fun r=>r=dD h.next c2 (some (.mt e2 x2 c2.length)))::L):=by
 obtain⟨r,u,z,B,D,t,g⟩:=q.fst;subst z;obtain⟨F,J⟩:=sM t g;have m:∀j,(h.set b none).get j=if j=b then none else h.get j:=fun j=>AH.bU F
 have H:∀j,(u.tok j≠none\/∃o,u.cell j o≠none)->j≠b:=by
  intro j E w;subst w;rcases E with s|⟨o,s⟩;rcases D.tok j with h|h;simp[dD] at h;exact s h;rcases D.cell j o with h|h;simp only[dD,if_true] at h;cases hc:u.cell j o with
  |none=>exact s hc
  |some v=>
   obtain⟨_,I,_,_,g1,g2⟩:=g.cell j o v hc;grind
  exact s h
 have C:Hs G (h.set b none) L:=by
  refine⟨by simp;exact q.base,by rw[AH.nD];exact q.old,by simp;exact q.wf,fun i t=>by simp at t;rw[m];split;rfl;exact q.fr i t,u,B,?_⟩;exact g.of (by simp) (by simp) fun j E=>by grind
 have:=C.new (c:=c2) (e:=e2) (x:=x2);rw[AH.Ci] at this;exact Hs.join (A:=[_,_]) this fun r z=>fZ z
theorem dN {a:Option Addr} {n c:Nat}:iK (.slice a n c)=some n:=rfl
theorem G3 {W bytes:Nat} {e:TypeId} {a:Option Addr} {c n m:Nat} {cs ns:List Value} {src:Value} {k:Value->AH->Prop} (C:Hs G h L) [mm:Has (mN W e a c) L (n,cs) L']
  (v:iK src=some m) (z:cH h W m src=some ns) (ζ:ns.all cZ=true) (ν:ns.length=m*W) (R:(n+m)*(bytes+1)<=2^46)
  (hk:∀a' c' h',Hs G h' (mN W e a' c' (n+m,cs++ns)::L')->k (.slice a' (n+m) c') h'):aQ (iH W bytes e h (.slice a n c) src) fun r=>k r.1 r.2:=by
 have β:=mm.of C
 obtain⟨r,r2,hr,U,X,S,E⟩:=β.fst
 obtain⟨hl,hc,hr⟩:=hr
 simp only at hl hc hr
 have w:(!ns.all cZ||ns.length !=m*W)=false:=by simp[ζ,ν]
 have H:(cs++ns).all cZ=true:=by grind
 have N:(cs++ns).length=(n+m)*W:=by grind
 have D:∀{h1:AH},Hs G h1 ((fun r=>r=dD h.next (cs++ns) (some (.mt e false (cs++ns).length)))::L')->Hs G h1 (mN W e (some ⟨h.next,0,none⟩) (n+m) (n+m,cs++ns)::L'):=by
  intro h1 hh;refine Hs.join (A:=[_]) hh fun q O=>?_;obtain⟨q1,q2,e1,e2,e3,e4⟩:=O;cases e1;cases e2;rw[aI.add_comm (s:=aI.emp) aI.aU.symm,aI.bL] at e4;exact⟨N,H,.inr (.inr ⟨Nat.le_refl _,h.next,[],[],false,rfl,by grind,by simpa using e4⟩)⟩
 by_cases hm:m=0
 .subst hm;have:ns=[]:=List.eq_nil_of_length_eq_zero (by omega);subst this;have T:=hk a c h (by simpa using β);rcases hr with⟨rfl,ο,rfl,ha⟩|⟨rfl,rfl,b,o,Z,rfl,_⟩|⟨I,b,g,t,ex,rfl,hle,V⟩
  .rcases ha with rfl|⟨b,o,rfl⟩
   .exact⟨(.slice none 0 0,h),by simp[iH,v,z],by simpa using T⟩
   .exact⟨(.slice _ 0 0,h),by simp[iH,v,z];rfl,by simpa using T⟩
  .exact⟨(.slice _ 0 0,h),by simp[iH,v,z];rfl,by simpa using T⟩
  .exact⟨(.slice _ n c,h),by simp[iH,v,z,I];rfl,by simpa using T⟩
 .have Y:Hs G h L':=β.tail;rcases hr with⟨rfl,ο,rfl,ha⟩|⟨rfl,rfl,b,o,Z,rfl,ho,V⟩|⟨I,b,g,t,ex,rfl,hle,V⟩
  .have α:cs=[]:=List.eq_nil_of_length_eq_zero (by simpa using hl);subst α;have η:=Y.new (c:=ns) (e:=e) (x:=false);have F:=D (Hs.join (A:=[_,_]) η fun q O=>fZ O);have u:¬(0+m<=0):=by omega
   rcases ha with rfl|⟨b,o,rfl⟩
   .refine⟨(.slice (some ⟨h.next,0,none⟩) m m,h.alloc (.cells ns e (0,0) false)),?_,by grind⟩;simp only[iH,v,z,w,Bool.false_eq_true,if_false,u,R,if_true]
   .refine⟨(.slice (some ⟨h.next,0,none⟩) m m,h.alloc (.cells ns e (0,0) false)),?_,by grind⟩;simp only[iH,v,z,w,Bool.false_eq_true,if_false,u,R,if_true]
  .have α:cs=[]:=List.eq_nil_of_length_eq_zero (by simpa using hl);subst α;subst V;obtain⟨hb,hg⟩:=sM S E;have Q:Hs G h ((fun r=>r=dD b Z (some (.mt e false Z.length)))::L'):=⟨C.base,C.old,C.wf,C.fr,_,⟨_,r2,rfl,U,X,rfl⟩,(aI.cR X).2 ⟨S,E⟩⟩;have F:=D (Q.kill (c2:=ns) (e2:=e) (x2:=false));have u:¬(0+m<=0):=by omega
   refine⟨(.slice (some ⟨h.next,0,none⟩) m m,(h.set b none).alloc (.cells ns e (0,0) false)),?_,by simpa using hk _ _ _ F⟩
   have κ:¬(some 2=some 1):=by simp
   simp only[iH,v,z,w,Bool.false_eq_true,if_false,u,R,if_true,κ,hg,hb,ho,and_self]
  .subst V;obtain⟨hb,hg⟩:=sM S E;by_cases u:n+m<=c
   .have hW:(n+m)*W<=c*W:=Nat.mul_le_mul_right _ u;rw[Nat.add_mul] at hW;have Q:Hs G h ((fun r=>r=dD b (g++cs++t) (some (.mt e ex (g++cs++t).length)))::L'):=⟨C.base,C.old,C.wf,C.fr,_,⟨_,r2,rfl,U,X,rfl⟩,(aI.cR X).2 ⟨S,E⟩⟩;have π:Hs G h (fL b 0 (g++cs++t)::mt b (e,ex,(g++cs++t).length)::L'):=Q.imp (B:=[_,_]) fun q O=>by subst O;exact dU
    have ξ:g.length+cs.length+ns.length<=(g++cs++t).length:=by grind
    by_cases μ:ns.length=0
    .have θ:ns=[]:=List.eq_nil_of_length_eq_zero μ;subst θ;refine⟨(.slice (some ⟨b,g.length,none⟩) (n+m) c,h.set b (some (.cells (aF (g++cs++t) (g.length+n*W) []) e (0,0) ex))),?_,?_⟩
     .simp only[iH,v,z,w,Bool.false_eq_true,if_false,u,if_true,hm,Option.isSome_none,bG];simp only[aO,Option.isSome_none,Bool.false_or,List.all_nil,Bool.not_true,Bool.or_false,hg];grind
     .have δ:aF (g++cs++t) (g.length+n*W) []=g++cs++t:=by simp only[aF,List.append_nil,List.length_nil,Nat.add_zero,List.take_append_drop]
      rw[δ]
      refine hk _ _ _ ?_
      have:Hs G (h.set b (some (.cells (g++cs++t) e (0,0) ex))) ((fun r=>r=dD b (g++cs++t) (some (.mt e ex (g++cs++t).length)))::L'):=by
       have J:∀j,(h.set b (some (.cells (g++cs++t) e (0,0) ex))).get j=h.get j:=fun j=>by
        rw[AH.bU hb];grind
       refine⟨by simp;exact C.base,by rw[AH.nD];exact C.old,by simp;exact C.wf,fun i S=>by simp at S;rw[J];exact C.fr i S,_,⟨_,r2,rfl,U,X,rfl⟩,(aI.cR X).2 ⟨?_,?_⟩⟩;exact S.of (by simp) (by simp) fun j _=>J j;exact E.of (by simp) (by simp) fun j _=>J j
      refine Hs.join (A:=[_]) this fun q O=>?_
      obtain⟨q1,q2,e1,e2,e3,e4⟩:=O
      cases e1;cases e2
      rw[aI.add_comm (s:=aI.emp) aI.aU.symm,aI.bL] at e4
      refine⟨N,H,.inr (.inr ⟨u,b,g,t,ex,rfl,?_,by simpa using e4⟩)⟩
      grind
    .obtain⟨h',ι,γ⟩:=π.write (j:=g.length+cs.length) (vs:=ns) ξ ζ (by omega);rw[Nat.zero_add] at ι;refine⟨(.slice (some ⟨b,g.length,none⟩) (n+m) c,h'),?_,?_⟩
     .simp only[iH,v,z,w,Bool.false_eq_true,if_false,u,if_true,hm,Option.isSome_none,bG];rw[<-hl,ι];rfl
     .refine hk _ _ _ ?_;have δ:aF (g++cs++t) (g.length+cs.length) ns=g++(cs++ns)++t.drop ns.length:=by
       unfold aF;rw[List.take_append_of_le_length (by simp),List.take_of_length_le (by simp),List.drop_append];have:(g++cs).drop (g.length+cs.length+ns.length)=[]:=List.drop_eq_nil_of_le (by simp);rw[this];simp only[List.length_append,List.nil_append,List.append_assoc];rw[show g.length+cs.length+ns.length - (g.length+cs.length)=ns.length by omega]
      rw[δ] at γ
      have ε:(g++cs++t).length=(g++(cs++ns)++t.drop ns.length).length:=by grind
      rw[ε] at γ
      refine Hs.join (A:=[_,_]) γ fun q O=>?_
      exact⟨N,H,.inr (.inr ⟨u,b,g,t.drop ns.length,ex,rfl,by rw[<-ε];exact hle,fZ O⟩)⟩
   .have Q:Hs G h ((fun r=>r=dD b (g++cs++t) (some (.mt e ex (g++cs++t).length)))::L'):=⟨C.base,C.old,C.wf,C.fr,_,⟨_,r2,rfl,U,X,rfl⟩,(aI.cR X).2 ⟨S,E⟩⟩;have ρ:n*W<=c*W:=Nat.mul_le_mul_right _ I;have hold:aG h ⟨b,g.length,none⟩ (n*W)=some cs:=by
     simp only[aG,Option.isSome_none,Bool.false_eq_true,if_false,hg];rw[Kx (by omega)];simp only[Option.some.injEq];grind
    have h1:¬((none:Option Nat)=some 1):=by simp
    have h2:¬((none:Option Nat)=some 2):=by simp
    cases ex with
    |true=>
     have F:=D (Hs.join (A:=[_,_]) (Y.new (c:=cs++ns) (e:=e) (x:=false)) fun q O=>fZ O)
     refine⟨(.slice (some ⟨h.next,0,none⟩) (n+m) (n+m),h.alloc (.cells (cs++ns) e (0,0) false)),?_,hk _ _ _ F⟩
     simp only[iH,v,z,w,Bool.false_eq_true,if_false,u,R,if_true,h1,h2,hold,hg,hc,Bool.not_true]
    |false=>
     have F:=D (Q.kill (c2:=cs++ns) (e2:=e) (x2:=false))
     refine⟨(.slice (some ⟨h.next,0,none⟩) (n+m) (n+m),(h.set b none).alloc (.cells (cs++ns) e (0,0) false)),?_,hk _ _ _ F⟩
     simp only[iH,v,z,w,Bool.false_eq_true,if_false,u,R,if_true,h1,h2,hold,hg,hc,Bool.not_true,hb,hle,and_self]
end Go.Ab
end
section
namespace Go.Ab
variable {P:Program} {K:FuncId->List Value->Option bZ} {G:Bg} {h:AH} {L L' M:List HP}
abbrev wr (x:Int):Int:=IntKind.i64.wrap x
theorem yE {x:Int} (h: -9223372036854775808<=x/\x<=9223372036854775807):wr x=x:=IntWalk.i64_in _ (by omega)
section
variable {k:Value->Prop} {a b:Int} {x y:Value}
theorem cE {b o j n:Nat} (c:k (pt b o (j+n))):aQ (zF n (pt b o j)) k:=⟨_,by simp[zF,pt,bG,Nat.add_assoc],c⟩
theorem vM {a:Option Addr} {n c:Nat} (g:k (I n)):aQ (zD (.slice a n c)) k:=⟨_,rfl,g⟩
theorem xJ (h: -9223372036854775808<=a+b/\a+b<=9223372036854775807) (c:k (I (a+b))):aQ (Bi .add (I a) (I b)) k:=⟨_,by show some (Value.int .i64 (wr (a+b)))=_;rw[yE h],c⟩
theorem Hw (c:0<=a) (m:0<b) (h:a<=9223372036854775807) (g:k (I (a/b))):aQ (Bi .quo (I a) (I b)) k:=by
 refine⟨_,?_,g⟩;show mS .quo .i64 a b=_;simp only[mS];rw[aaa,Int.tdiv_eq_ediv_of_nonneg c];have i:0<=a/b:=Int.ediv_nonneg c (by omega);have j:a/b<=a:=Int.ediv_le_self b c;rw[show IntKind.i64.wrap (a/b)=a/b from yE (by omega)]
theorem Ii (g:0<=a) (i:0<b) (c:k (I (a % b))):aQ (Bi .rem (I a) (I b)) k:=by
 refine⟨_,?_,c⟩;show mS .rem .i64 a b=_;simp only[mS];grind
theorem qQ (c:k (.bool (decide (a<b)))):aQ (Bi .lss (I a) (I b)) k:=⟨_,rfl,c⟩
theorem E0 (c:k (.bool (decide (b<a)))):aQ (Bi .gtr (I a) (I b)) k:=⟨_,rfl,c⟩
theorem Ax (h: -9223372036854775808<=0 - a/\0 - a<=9223372036854775807) (c:k (I (0 - a))):aQ (Il .neg (I a)) k:=⟨_,by show some (Value.int .i64 (wr (0 - a)))=_;rw[yE h],c⟩
theorem Fw {b o n c g i:Nat} (j:i<n) (m:k (pt b (o+i*g) 0)):aQ (wN g (.slice (some ⟨b,o,none⟩) n c) (I i)) k:=⟨_,by simp[wN,j,bG,pt],m⟩
theorem yC {c:Prop} [Decidable c] {p q:Prop} (h:c) (i:p):Br (.bool (decide c)) p q:=⟨_,rfl,fun _=>i,fun g=>absurd h (by simpa using g)⟩
theorem B4 {c:Prop} [Decidable c] {p q:Prop} (h:¬c) (i:q):Br (.bool (decide c)) p q:=⟨_,rfl,fun g=>absurd (by simpa using g) h,fun _=>i⟩
theorem Hg {c:Prop} [Decidable c] {p q:Prop} (i:c->p) (j:¬c->q):Br (.bool (decide c)) p q:=⟨_,rfl,fun g=>i (by simpa using g),fun g=>j (by simpa using g)⟩
theorem Hp {p q:Prop} (c:p):Br (.bool true) p q:=C0.2 c
end
theorem rU {z c:List Value} {g:List (Nat×Nat×Value)} {k:List Value->Prop} (j:iF z g=some c) (i:k c):aQ (iF z g) k:=⟨c,j,i⟩
theorem kI {p q:Prop} (c:p) (g:q):p/\q:=⟨c,g⟩
theorem qI {a:Int}:iC (I a) (I a)=true:=by simp[iC]
theorem qH {b o j:Nat}:iC (pt b o j) (pt b o j)=true:=by simp[iC,pt]
end Go.Ab
end
section
namespace Go.Ab
variable {P:Program} {K:FuncId->List Value->Option bZ} {G:Bg} {h:AH} {L L' M:List HP}
def sp (A:List HP):HP:=fun r=>star A r
def Kc {α:Type} (A:α->HP):HP:=fun r=>∃x,A x r
theorem Hs.Kp {α:Type} {A:α->HP} (x:α) (m:Hs G h (A x::L)):Hs G h (Kc A::L):=Hs.join (A:=[A x]) m fun r j=>by
 obtain⟨o,q,g,i,_,c⟩:=j;cases i;rw[aI.add_comm (s:=aI.emp) aI.aU.symm,aI.bL] at c;subst c;exact⟨x,g⟩
theorem Dj.mono {f:Value} {args:List Value} {Q c:Value->AH->Prop} (k:Dj P K f args h Q) (i:∀v g,Q v g->c v g):Dj P K f args h c:=by
 unfold Dj at k ⊢;split at k;exact⟨k.1,Ok.mono k.2 fun _ _=>i _ _⟩;exact Ok.mono k fun _ _=>i _ _;cases k
class zM (A:HP) (L:List HP) (L':outParam (List HP)):Prop where
 perm:L.Perm (A::L')
instance (priority:=low) zM.there {A B:HP} [k:zM A L L']:zM A (B::L) (B::L'):=⟨(k.perm.cons B).trans (List.Perm.swap _ _ _)⟩
instance (priority:=high) zM.here {A:HP}:zM A (A::L) L:=⟨List.Perm.refl _⟩
class Sub (L M:List HP):Prop where
 to:∀r,star L r->∃r1 r2,star M r1/\r1.hU r2/\r=r1.add r2
theorem D6 {r:aI}:r.add aI.emp=r:=by rw[aI.add_comm aI.aU.symm,aI.bL]
instance (priority:=low) Sub.skip {A:HP} [k:Sub L M]:Sub (A::L) M:=⟨fun r ⟨j,m,o,c,g,i⟩=>by
 obtain⟨s1,s2,g1,g2,g3⟩:=k.to m c;subst g3;obtain⟨d1,d2⟩:=aI.bT.1 g;exact⟨s1,j.add s2,g1,aI.bT.2 ⟨d1.symm,g2⟩,by rw[i,<-aI.add_assoc,<-aI.add_assoc,aI.add_comm d1]⟩⟩
instance Sub.take {A:HP} [k:zM A L L'] [q:Sub L' M]:Sub L (A::M):=⟨fun r o=>by
 obtain⟨c,s,g,i,j,m⟩:=lH k.perm r o;obtain⟨s1,s2,g1,g2,g3⟩:=q.to s i;subst g3;obtain⟨d1,d2⟩:=aI.bT.1 j;exact⟨c.add s1,s2,⟨c,s1,g,g1,d1,rfl⟩,(aI.bT.2 ⟨d2.symm,g2.symm⟩).symm,by rw[m,aI.add_assoc]⟩⟩
instance (priority:=high) Sub.refl:Sub L L:=⟨fun r c=>⟨r,aI.emp,c,aI.aU.symm,D6.symm⟩⟩
instance (priority:=high) Sub.sp {A:List HP} [k:Sub L (A++M)]:Sub L (sp A::M):=⟨fun r m=>by
 obtain⟨s1,s2,g1,g2,g3⟩:=k.to r m;obtain⟨o,q,c,g,i,j⟩:=cF.1 g1;exact⟨s1,s2,⟨o,q,c,g,i,j⟩,g2,g3⟩⟩
theorem Hs.to (c:Hs G h L) [k:Sub L M]:Hs G h M:=⟨c.base,c.old,c.wf,c.fr,by
 obtain⟨r,g,i⟩:=c.res;obtain⟨j,m,g1,g2,g3⟩:=k.to r g;subst g3;exact⟨j,g1,((aI.cR g2).1 i).1⟩⟩
theorem Hs.Kd {A B:HP} (c:Hs G h (B::A::L)):Hs G h (A::B::L):=c.perm (List.Perm.swap _ _ _)
end Go.Ab
end
section
namespace Go.Ab
variable {P:Program} {K:FuncId->List Value->Option bZ} {G:Bg} {h:AH} {L L' M:List HP}
class Cv (v:Value) (cs:outParam (List Value)):Prop where
 eq:cL v=some cs
instance {l:List Value}:Cv (.agg ⟨l⟩) l:=⟨rfl⟩
theorem Fb {cs:List Value} {e:TypeId} {v:Value} {k:Nat->AH->Prop} (i:Hs G h L) [j:Cv v cs] (g:∀p c,Hs G c (fL p 0 cs::L)->k p c):aQ (oH e v) fun b=>zX h b k:=Ie i j.eq g
structure Jt where
 P:Program
 f:FuncId
 p:List Nat
 n:Nat
 e:Nat->Value
 d:Nat
 st:LoopState
 pd:Option Code
class pG (l:Nat) (L:List HP) (x:outParam Jt) (L':outParam (List HP)):Prop where
 perm:L.Perm (Ka x.P x.f x.p x.n x.e x.d l (x.st,x.pd)::L')
instance (priority:=low) pG.there {l:Nat} {A:HP} {x:Jt} [k:pG l L x L']:pG l (A::L) x (A::L'):=⟨(k.perm.cons A).trans (List.Perm.swap _ _ _)⟩
instance (priority:=high) pG.here {l:Nat} {f:FuncId} {p:List Nat} {n:Nat} {e:Nat->Value} {d:Nat} {st:LoopState} {pd:Option Code}:pG l (Ka P f p n e d l (st,pd)::L) ⟨P,f,p,n,e,d,st,pd⟩ L:=⟨List.Perm.refl _⟩
theorem pG.of {l:Nat} {x:Jt} [k:pG l L x L'] (c:Hs G h L):Hs G h (Ka x.P x.f x.p x.n x.e x.d l (x.st,x.pd)::L'):=c.perm k.perm
section
variable {f:FuncId} {p:List Nat} {n:Nat} {e:Nat->Value} {d l:Nat} {st st':LoopState} {pd pd':Option Code}
end
theorem yJ {W:Nat} {e:TypeId} {a:Option Addr} {c n:Nat} {cs:List Value} (s:Hs G h (mN W e a c (n,cs)::L)):cH h W n (.slice a n c)=some cs:=by
 have F:=s.sB;simp only at F;by_cases v:n=0;subst v;have:cs=[]:=List.eq_nil_of_length_eq_zero (by omega);subst this;cases a<;>simp[cH];obtain⟨b,o,rfl,H,t,_⟩:=s.yL (by omega);simp only[cH,Kw v,Nat.le_refl,if_true];by_cases B:n*W=0;have:cs=[]:=List.eq_nil_of_length_eq_zero (by omega);subst this;obtain⟨r,S,m,I,R,E,i⟩:=s.fst;obtain⟨_,_,m⟩:=m;rcases m with⟨u,_⟩|⟨u,_⟩|⟨z,N,J,A,ex,C,hle,q⟩;simp at u;omega;simp at u;omega;cases C;subst q;obtain⟨D,g⟩:=sM E i;simp only[aG,Option.isSome_none,Bool.false_eq_true,if_false,g,B];grind;obtain⟨D,O,Q,T,g,hle,w⟩:=t.cells (by omega);simp only[aG,Option.isSome_none,Bool.false_eq_true,if_false,g];rw[Kx (by omega)];congr 1;refine List.ext_getElem? fun j=>?_;grind
theorem Gj {W bytes:Nat} {e:TypeId} {a a2:Option Addr} {c c2 n m:Nat} {cs ns:List Value} {k:Value×AH->Prop} (r:Hs G h L) [t:Has (mN W e a c) L (n,cs) L'] [u:Has (mN W e a2 c2) L' (m,ns) M] (i:(n+m)*(bytes+1)<=2^46)
  (s:∀j o q,Hs G q (mN W e j o (n+m,cs++ns)::L')->k (.slice j (n+m) o,q)):aQ (iH W bytes e h (.slice a n c) (.slice a2 m c2)) k:=by
 have g:=u.of (t.of r).tail
 exact G3 (k:=fun x y=>k (x,y)) r dN (yJ g) g.Bs g.sB i s
end Go.Ab
end
section
namespace Go.Ab
variable {P:Program} {K:FuncId->List Value->Option bZ} {G:Bg} {h:AH} {L L' M:List HP}
structure Ew (G:Bg) (W:Nat) (e:TypeId) (a:Option Addr) (cap n b o:Nat) where
 p:HP
 back:∀(h':AH) (cs':List Value) (M:List HP),cs'.length=n*W->cs'.all cZ=true->Hs G h' (fL b o cs'::p::M)->Hs G h' (mN W e a cap (n,cs')::M)
def hole (G:Bg) (W:Nat) (e:TypeId) (a:Option Addr) (c n b o:Nat):HP:=Kc fun H:Ew G W e a c n b o=>H.p
theorem Hs.vA {W:Nat} {e:TypeId} {a:Option Addr} {c n:Nat} {cs:List Value} (m:Hs G h (mN W e a c (n,cs)::L)) (r:0<n):
  ∃b o,a=some ⟨b,o,none⟩/\Hs G h (fL b o cs::hole G W e a c n b o::L):=by
 have j:=m.sB
 simp only at j
 obtain⟨b,o,v,H,i,w⟩:=m.yL r
 exact⟨b,o,v,Hs.Kd (Hs.Kp (A:=fun H:Ew G W e a c n b o=>H.p) ⟨H,fun q g M s t u=>w q g M (s.trans j.symm) t u⟩ i.Kd)⟩
theorem Hs.sg {b o:Nat} {c c':List Value} (i:Hs G h L) [m:Has (fL b o) L c' L'] (g:c'=c):Hs G h (fL b o c::L'):=by subst g;exact m.of i
end Go.Ab
end
section
namespace Go.Ab
variable {P:Program} {K:FuncId->List Value->Option bZ} {G:Bg} {h:AH} {L L' M:List HP}
end Go.Ab
end
section
namespace Go.Ab
variable {P:Program} {K:FuncId->List Value->Option bZ} {h:AH}
end Go.Ab
end
section
namespace Go.Ab
variable {P:Program} {K:FuncId->List Value->Option bZ} {G:Bg} {h:AH} {L L' M:List HP}
end Go.Ab
end
