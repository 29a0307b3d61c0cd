/- A part of the proof. -/
import Derived.Test.YtgfankkobgfhnaaGreatDoorG3
import Derived.IntWalk
import Derived.KernelRfl
import Derived.Test.YtgfankkobgfhnaaGreatDoorG6
import Derived.ChangeSlices
import Derived.LaidLaws
import Derived.MakeChecks
import Derived.WalkKit
import Derived.ProofKit
import Derived.ChangeOld
import Derived.ChangeSame
import Derived.ChangeVars
import Derived.JoinedOf
import Derived.Carry
import Derived.LaidHandle
import Derived.Stop.Joined
set_option linter.all false
open Go Go.Ab
variable {B b i j o:Nat} {P:Program} {c d vs:EU} {v:Value} {e:TypeId}
namespace Go.Ab
open Go.RowKit
inductive Tok where
 |kW
 |mt (e:TypeId) (x:Bool) (n:Nat)
 |Ni (b:vQ)
structure eJ where
 gL:Nat->Nat->EY
 A2:Nat->Option Tok
def Sf:vQ->Bool
 |.cells ..=>false
 |_=>true
structure eJ.In (r:eJ) (B:Nat) (h:AH):Prop where
 gL:∀b o v,r.gL b o=some v->B<=b/\∃c e x,h.get b=some (.cells c e (0,0) x)/\c[o]?=some v
 kW:∀b,r.A2 b=some .kW->B<=b/\b<h.next/\h.get b=none
 mt:∀b e x n,r.A2 b=some (.mt e x n)->B<=b/\∃c,h.get b=some (.cells c e (0,0) x)/\c.length=n
 Ni:∀b o,r.A2 b=some (.Ni o)->B<=b/\h.get b=some o/\Sf o=true
structure eJ.A8 (r s:eJ):Prop where
 gL:∀b o,r.gL b o=none\/s.gL b o=none
 A2:∀b,r.A2 b=none\/s.A2 b=none
def eJ.add (r s:eJ):eJ:=⟨fun b o=>(r.gL b o).or<|s.gL b o,fun b=>(r.A2 b).or<|s.A2 b⟩
def eJ.Ro:eJ:=⟨fun _ _=>none,fun _=>none⟩
variable {r s:eJ}
theorem eJ.V0 (c:∀b o,r.gL b o=s.gL b o) (g:∀b,r.A2 b=s.A2 b):r=s:=by
 cases r;cases s;grind[eJ.mk.injEq]
variable {α:Type}
theorem Tq {a b:Option α} (h:a=none\/b=none):a.or b=b.or a:=by
 grind
theorem or_none {a b:Option α} (h:a.or b=none):a=none/\b=none:=FB
theorem eJ.A8.symm (d:r.A8 s):s.A8 r:=⟨fun b o=>(d.gL b o).symm,fun b=>(d.A2 b).symm⟩
theorem eJ.add_comm (d:r.A8 s):r.add s=s.add r:=eJ.V0 (fun b o=>Tq<|d.gL b o) fun b=>Tq<|d.A2 b
theorem eJ.pA {t:eJ}:(r.add s).add t=r.add (s.add t):=eJ.V0 (fun b o=>by simp[eJ.add,Option.or_assoc]) fun b=>by simp[eJ.add,Option.or_assoc]
theorem eJ.mN {t:eJ}:r.A8 (s.add t)↔r.A8 s/\r.A8 t:=by
 constructor;intro d;refine⟨⟨fun b o=>?_,fun b=>?_⟩,⟨fun b o=>?_,fun b=>?_⟩⟩;rcases d.gL b o with h|h;exact .inl h;exact .inr (or_none h).1;rcases d.A2 b with h|h;exact .inl h;exact .inr (or_none h).1;rcases d.gL b o with h|h;exact .inl h;exact .inr (or_none h).2;rcases d.A2 b with h|h;exact .inl h;exact .inr (or_none h).2;intro⟨d1,d2⟩;refine⟨fun b o=>?_,fun b=>?_⟩;rcases d1.gL b o with h|h;exact .inl h;rcases d2.gL b o with c|c;grind;grind[eJ.add];rcases d1.A2 b with h|h;exact .inl h;rcases d2.A2 b with c|c;grind;grind[eJ.add]
theorem eJ.kE:eJ.Ro.add r=r:=eJ.V0 (fun _ _=>by simp[eJ.add,eJ.Ro]) fun _=>by simp[eJ.add,eJ.Ro]
def eJ.kX:eJ.Ro.A8 r:=⟨fun _ _=> .inl rfl,fun _=> .inl rfl⟩
theorem eJ.jC {h:AH} (d:r.A8 s):(r.add s).In B h↔r.In B h/\s.In B h:=by
 have g:∀b o v,r.gL b o=some v->(r.add s).gL b o=some v:=fun b o v c=>by simp[eJ.add,c]
 have c2:∀b o v,s.gL b o=some v->(r.add s).gL b o=some v:=fun b o v c=>by
  rcases d.gL b o with h|h;grind[eJ.add];grind
 have t1:∀b v,r.A2 b=some v->(r.add s).A2 b=some v:=fun b v c=>by simp[eJ.add,c]
 have t2:∀b v,s.A2 b=some v->(r.add s).A2 b=some v:=fun b v c=>by
  rcases d.A2 b with h|h;grind[eJ.add];grind
 have c3:∀b o v,(r.add s).gL b o=some v->r.gL b o=some v\/s.gL b o=some v:=fun b o v c=>by
  simp only[eJ.add] at c;cases hr:r.gL b o with
  |none=>grind
  |some u=>grind
 have t3:∀b v,(r.add s).A2 b=some v->r.A2 b=some v\/s.A2 b=some v:=fun b v c=>by
  simp only[eJ.add] at c;cases hr:r.A2 b with
  |none=>grind
  |some u=>grind
 constructor;intro i;exact⟨⟨fun b o v c=>i.gL b o v<|g _ _ _ c,fun b c=>i.kW b<|t1 _ _ c,fun b e x n c=>i.mt b e x n<|t1 _ _ c,fun b o c=>i.Ni b o<|t1 _ _ c⟩,
     ⟨fun b o v c=>i.gL b o v<|c2 _ _ _ c,fun b c=>i.kW b<|t2 _ _ c,fun b e x n c=>i.mt b e x n<|t2 _ _ c,fun b o c=>i.Ni b o<|t2 _ _ c⟩⟩
 intro⟨i,j⟩;refine⟨fun b o v c=>?_,fun b c=>?_,fun b e x n c=>?_,fun b o c=>?_⟩;rcases c3 _ _ _ c with h|h;exact i.gL b o v h;exact j.gL b o v h;rcases t3 _ _ c with h|h;exact i.kW b h;exact j.kW b h;rcases t3 _ _ c with h|h;exact i.mt b e x n h;exact j.mt b e x n h;rcases t3 _ _ c with h|h;exact i.Ni b o h;exact j.Ni b o h
abbrev HP:=eJ->Prop
abbrev IB:=List HP
def xG:IB->eJ->Prop
 |[],r=>r=eJ.Ro
 |A::L,r=>∃c g,A c/\xG L g/\c.A8 g/\r=c.add g
variable {L L':IB}
theorem Nz (p:L.Perm L'):∀r,xG L r->xG L' r:=by
 induction p with
 |nil=>grind
 |cons A _ v=>exact fun r ⟨i,m,c,o,g,j⟩=>⟨i,m,c,v _ o,g,j⟩
 |swap A B L=>
  intro r ⟨i,m,c,⟨r3,D,q,s,t,u⟩,g,j⟩;subst u;obtain⟨d1,d2⟩:=eJ.mN.1 g;refine⟨r3,_,q,⟨i,D,c,s,d2,rfl⟩,eJ.mN.2 ⟨d1.symm,t⟩,?_⟩;grind[eJ.pA,eJ.add_comm]
 |trans _ _ z C=>grind
theorem mF {M:IB}:∀{r},xG (L++M) r↔∃c g,xG L c/\xG M g/\c.A8 g/\r=c.add g:=by
 induction L with
 |nil=>intro r;exact⟨fun h=>⟨_,r,rfl,h,eJ.kX,eJ.kE.symm⟩,fun⟨c,g,i,j,m,o⟩=>by cases i;grind[eJ.kE]⟩
 |cons A L v=>
  intro r;constructor;intro⟨c,g,i,j,m,o⟩;obtain⟨r3,u,q,s,t,z⟩:=v.1 j;subst z;obtain⟨d1,d2⟩:=eJ.mN.1 m;exact⟨_,u,⟨c,r3,i,q,d1,rfl⟩,s,(eJ.mN.2 ⟨d2.symm,t.symm⟩).symm,by rw[o,eJ.pA]⟩;intro⟨c,g,⟨r3,u,i,j,m,o⟩,q,s,t⟩;subst o;obtain⟨d1,d2⟩:=eJ.mN.1 s.symm;exact⟨r3,_,i,v.2 ⟨u,g,j,q,d2.symm,rfl⟩,eJ.mN.2 ⟨m,d1.symm⟩,by rw[t,eJ.pA]⟩
structure Bg where
 base:Nat
 old:Nat->II
 hb:Nat
structure Hs (G:Bg) (h:AH) (L:IB):Prop where
 base:h.base=G.hb/\G.hb<=G.base
 old:∀i,i<G.base->h.get i=G.old i
 wf:G.base<=h.next
 fr:∀i,h.next<=i->h.get i=none
 V2:∃r,xG L r/\r.In G.base h
variable {K:FuncId->EU->IE} {G:Bg} {h:AH} {M:IB}
def Hs.le (c:Hs G h L):h.base<=G.base:=by rw[c.base.1];exact c.base.2
def Hs.cH (c:Hs G h L) (p:L.Perm L'):Hs G h L':=⟨c.base,c.old,c.wf,c.fr,let⟨r,g,i⟩:=c.V2;⟨r,Nz p r g,i⟩⟩
def Hs.tail {A:HP} (c:Hs G h (A::L)):Hs G h L:=⟨c.base,c.old,c.wf,c.fr,let⟨_,⟨_,o,_,g,i,j⟩,m⟩:=c.V2;⟨o,g,((eJ.jC i).1<|j▸m).2⟩⟩
theorem Hs.dj {A:HP} {B:IB} (c:Hs G h (A::L)) (k:∀r,A r->xG B r):Hs G h (B++L):=⟨c.base,c.old,c.wf,c.fr,let⟨r,⟨q,s,i,j,m,o⟩,g⟩:=c.V2;⟨r,mF.2 FB,g⟩⟩
def Hs.Dl {A:IB} {B:HP} (c:Hs G h (A++L)) (k:∀r,xG A r->B r):Hs G h (B::L):=⟨c.base,c.old,c.wf,c.fr,let⟨r,g,q⟩:=c.V2;let⟨i,s,g,j,m,o⟩:=mF.1 g;⟨r,⟨i,s,k i g,j,m,o⟩,q⟩⟩
class eB {α:Type} (R:α->HP) (L:IB) (a:outParam α) (L':outParam (IB)):Prop where
 cH:L.Perm (R a::L')
instance (priority:=low) eB.A3 {α:Type} {R:α->HP} {A:HP} {a:α} [k:eB R L a L']:eB R (A::L) a (A::L'):=⟨(k.cH.cons A).trans<|List.Perm.swap _ _ _⟩
instance (priority:=high) eB.aL0 {α:Type} {R:α->HP} {a:α}:eB R (R a::L) a L:=⟨BQ _⟩
instance (priority:=high) eB.app {α:Type} {R:α->HP} {A:HP} {c L2:IB} {a:α} [k:eB R (A::(c++L2)) a L']:eB R ((A::c)++L2) a L':=k
instance (priority:=high) eB.aTj {α:Type} {R:α->HP} {L2:IB} {a:α} [k:eB R L2 a L']:eB R ([]++L2) a L':=k
def N6 (b o:Nat) (c:EU):eJ:=⟨fun i g=>if i=b/\o<=g then c[g - o]? else none,fun _=>none⟩
def aN (b o:Nat) (c:EU):HP:=fun r=>r=N6 b o c
def mt (b:Nat) (m:TypeId×Bool×Nat):HP:=fun r=>r=⟨fun _ _=>none,fun c=>if c=b then some (.mt m.1 m.2.1 m.2.2) else none⟩
def ot (b:Nat) (o:vQ):HP:=fun r=>r=⟨fun _ _=>none,fun c=>if c=b then some (.Ni o) else none⟩
def frs (c n:Nat) (D:EW):HP:=fun r=>r=⟨fun _ _=>none,fun b=>if c<=b/\b<c+n/\(b - c)∉D then some .kW else none⟩
variable {o':Nat}
theorem xD {g:Nat}:(N6 b o c).gL g o'=if g=b/\o<=o' then c[o' - o]? else none:=rfl
theorem Pd:N6 b o (c++d)=(N6 b o c).add (N6 b (o+c.length) d):=by
 refine eJ.V0 (fun g i=>?_) fun _=>rfl;grind[eJ.add,xD]
theorem aCr:(N6 b o c).A8 (N6 b (o+c.length) d):=by
 refine⟨fun g i=>?_,fun _=> .inl rfl⟩;grind[xD]
def H8 (r:eJ):aN b o (c++d) r↔xG [aN b o c,aN b (o+c.length) d] r:=by
 constructor;intro t;cases t;exact⟨_,_,rfl,⟨_,_,rfl,rfl,eJ.kX.symm,rfl⟩,by rw[eJ.add_comm eJ.kX.symm,eJ.kE];exact aCr,by rw[eJ.add_comm (s:=eJ.Ro) eJ.kX.symm,eJ.kE,Pd]⟩;intro⟨z,A,i,⟨r3,B,j,m,v,q⟩,u,g⟩;cases i;cases j;cases m;subst q;rw[eJ.add_comm eJ.kX.symm,eJ.kE] at g;rw[<-Pd] at g;exact g
def Hs.split (g:Hs G h (aN b o (c++d)::L)):Hs G h (aN b o c::aN b (o+c.length) d::L):=g.dj (B:=[_,_]) fun r=>(H8 r).1
theorem Hs.Qw (i:Hs G h (aN b o c::aN b o' d::L)) (g:o'=o+c.length):Hs G h (aN b o (c++d)::L):=by
 subst g;exact Hs.Dl i fun r=>(H8 r).2
theorem Hs.xg (s:Hs G h (aN b o c::L)) (hc:c[j]?=some v):
  G.base<=b/\∃g e x,h.get b=some (.cells g e (0,0) x)/\g[o+j]?=some v:=by
 obtain⟨_,⟨u,z,i,t,m,q⟩,r⟩:=s.V2
 cases i
 subst q
 exact(((eJ.jC m).1 r).1.gL b (o+j) v<|by simp_all[xD,bA1])
theorem Hs.cells (q:Hs G h (aN b o c::L)) (m:0<c.length):
  G.base<=b/\∃i e x,h.get b=some (.cells i e (0,0) x)/\o+c.length<=i.length/\∀j,j<c.length->i[o+j]?=c[j]?:=by
 obtain⟨r,i,e,x,s,v⟩:=q.xg<|bj m
 have g:∀j,j<c.length->i[o+j]?=c[j]?:=fun j u=>by
  obtain⟨_,c2,e2,B,t,A⟩:=q.xg<|bj u;grind
 refine⟨r,i,e,x,s,?_,g⟩
 have z:=g (c.length - 1) FA
 grind
theorem eJ.In.of {h j:AH} (i:r.In B h) (t:j.base=h.base) (z:h.next<=j.next) (u:∀b,(r.A2 b≠none\/∃o,r.gL b o≠none)->j.get b=h.get b):r.In B j where
 gL:=fun b o v g=>by
  obtain⟨m,c,e,x,q,s⟩:=i.gL b o v g;grind
 kW:=fun b g=>by
  obtain⟨m,q,s⟩:=i.kW b g;grind
 mt:=fun b e x n g=>by
  obtain⟨m,c,q,s⟩:=i.mt b e x n g;grind
 Ni:=fun b o g=>by
  obtain⟨m,q,s⟩:=i.Ni b o g;grind
theorem Hs.iS (t:Hs G h (aN b o c::L)) (hl:j+vs.length<=c.length) (hv:vs.all gM=true) (I:0<c.length):
  ∃N,iU h ⟨b,o+j,none⟩ vs=some N/\Hs G N (aN b o (dU c j vs)::L):=by
 obtain⟨W,B,e,x,C,R,O⟩:=t.cells I
 have z:h.base<=b:=cO t.le W
 refine⟨h.set b<|some<|.cells (dU B (o+j) vs) e (0,0) x,?_,?_⟩
 .simp only[iU,dn,Bool.false_or,hv,CD,Bool.or_false,C];grind
 .obtain⟨_,⟨r1,J,u,E,F,U⟩,V⟩:=t.V2;cases u;subst U;obtain⟨i1,i2⟩:=(eJ.jC F).1 V;have q:∀i,(h.set b _).get i=if i=b then some (.cells (dU B (o+j) vs) e (0,0) x) else h.get i:=fun i=>AH.oF z
  have α:∀k,(dU B (o+j) vs)[k]?=if o+j<=k/\k<o+j+vs.length then vs[k - (o+j)]? else B[k]?:=fun k=>by
   unfold dU;by_cases u:k<o+j;grind;by_cases E:k<o+j+vs.length;grind;rw[aaa,oX FG];simp only[cV,l4,BV];grind
  have Z:∀k,(dU c j vs)[k]?=if j<=k/\k<j+vs.length then vs[k - j]? else c[k]?:=fun k=>by
   unfold dU;by_cases u:k<j;grind;by_cases E:k<j+vs.length;grind;rw[aaa,oX FG];grind
  have S:(dU c j vs).length=c.length:=by simp[dU];omega
  have Q:(N6 b o<|dU c j vs).A8 J:=by
   refine⟨fun m r=>?_,fun _=> .inl rfl⟩;rcases F.gL m r with h|h;grind[xD];exact .inr h
  have X:b<h.next:=by
   rcases ql b h.next with u|u
   exact u;rw[t.fr b u] at C;cases C
  refine⟨by simp;exact t.base,fun i D=>by rw[q,aaa];exact t.old i D,by simp;exact t.wf,fun i D=>by simp at D;rw[q,aaa];exact t.fr i D,_,⟨_,J,rfl,E,Q,rfl⟩,(eJ.jC Q).2 ⟨?_,?_⟩⟩
  .refine⟨fun m r v g=>?_,fun _ A=>by simp[N6] at A,fun _ _ _ _ A=>by simp[N6] at A,fun _ _ A=>by simp[N6] at A⟩;rw[xD] at g;grind
  .have Y:∀m r v,J.gL m r=some v->m=b->¬(o+j<=r/\r<o+j+vs.length):=by
    intro m r v g s hk;subst s;rcases F.gL m r with h|h;rw[xD,aac,List.getElem?_eq_none_iff] at h;omega;grind
   refine⟨fun m r v g=>?_,fun m g=>?_,fun m T x' n g=>?_,fun m ob g=>?_⟩
   .obtain⟨g1,c2,e2,x2,g2,g3⟩:=i2.gL m r v g;grind
   .obtain⟨g1,g2,g3⟩:=i2.kW m g;refine⟨g1,by simp;exact g2,?_⟩;grind
   .obtain⟨g1,c2,g2,g3⟩:=i2.mt m T x' n g;refine⟨g1,?_⟩;rw[q];by_cases s:m=b
    .rw[bA1 s];rw[s,C] at g2;cases g2;exact⟨_,rfl,by simp[dU];omega⟩
    grind
   .obtain⟨g1,g2,g3⟩:=i2.Ni m ob g;refine⟨g1,?_,g3⟩;rw[q,bA0<|by grind[Sf]];exact g2
theorem aAj {h:AH} (j:r.In B h) (s:h.get i=none) (q:r.A2 i=none) {t:Option Tok}:
  (⟨fun b o=>if b=i then c[o]? else none,fun b=>if b=i then t else none⟩:eJ).A8 r:=by
 refine⟨fun b o=>?_,fun b=>?_⟩
 .by_cases m:b=i
  .right;cases hc:r.gL b o with
   |none=>rfl
   |some v=>obtain⟨_,_,_,_,g,_⟩:=j.gL b o v hc;grind
  grind
 grind
def uE (i:Nat) (c:EU) (t:Option Tok):eJ:=⟨fun b o=>if b=i then c[o]? else none,fun b=>if b=i then t else none⟩
theorem wK {x:Bool}:xG [aN i 0 c,mt i (e,x,c.length)] (uE i c<|some<|.mt e x c.length):=by
 refine⟨_,_,rfl,⟨_,_,rfl,rfl,eJ.kX.symm,rfl⟩,?_,?_⟩;rw[eJ.add_comm eJ.kX.symm,eJ.kE];exact⟨FB,fun _=> .inl rfl⟩;rw[eJ.add_comm eJ.kX.symm,eJ.kE];refine eJ.V0 (fun b o=>?_) fun b=>?_;simp[uE,eJ.add,N6];simp[uE,eJ.add,N6]
theorem Hs.kD {x:Bool} (q:Hs G h L):Hs G (h.alloc<|.cells c e (0,0) x) (aN h.next 0 c::mt h.next (e,x,c.length)::L):=by
 obtain⟨r,I,A⟩:=q.V2;have z:h.get h.next=none:=q.fr _<|b0 _
 have B:r.A2 h.next=none:=by
  cases ht:r.A2 h.next with
  |none=>rfl
  |some t=>
   cases t with
   |kW=>have:=(A.kW _ ht).2.1;omega
   |mt F J n=>obtain⟨_,_,g,_⟩:=A.mt _ _ _ _ ht;grind
   |Ni o=>obtain⟨_,g,_⟩:=A.Ni _ _ ht;grind
 have E:(uE h.next c<|some<|.mt e x c.length).A8 r:=aAj A z B;have m:∀j,(h.alloc _).get j=if j=h.next then some (.cells c e (0,0) x) else h.get j:=fun j=>AH.Cu<|cO q.le q.wf
 refine⟨q.base,fun i D=>(by rw[m,bA0<|by have:=q.wf;omega];exact q.old i D),ts q.wf,fun i D=>by simp at D;rw[m,aaa];exact q.fr i FA,_,(mF).2 ⟨_,r,wK,I,E,rfl⟩,(eJ.jC E).2 ⟨?_,?_⟩⟩;refine⟨fun b o v s=>?_,fun b s=>?_,fun b F J n s=>?_,fun b o s=>?_⟩;simp only[uE] at s;split at s;rename_i u;subst u;exact⟨q.wf,c,e,x,FB,s⟩;cases s;grind[uE];simp only[uE] at s;split at s;rename_i u;subst u;cases s;exact⟨q.wf,c,FB,rfl⟩;cases s;grind[uE];refine A.of rfl FF fun b u=>?_;rw[m,bA0];intro C;subst C;rcases u with u|⟨o,u⟩;exact u B;apply u;cases hc:r.gL h.next o with
 |none=>rfl
 |some v=>obtain⟨_,_,_,_,g,_⟩:=A.gL _ o v hc;grind
end Go.Ab
variable {x:Nat×EU} {k:Value->Prop} {W cap n:Nat} {cs l ns z:EU} {f:FuncId} {p:EW} {a:EX} {q:Prop} {ps:List (Nat×Nat×Value)} {Q:Value->AH->Prop}
namespace Go.Ab
variable {K:FuncId->EU->IE} {G:Bg} {h:AH} {L L' M:IB}
variable {α:Type}
def eB.of {R:α->HP} {a:α} (m:eB R L a L') (c:Hs G h L):Hs G h (R a::L'):=c.cH m.cH
def D9 (h:AH) (i:Nat) (e:TypeId) (l:EU) (n c:Nat) (k:Value->AH->Prop):Prop:=K1 h (.cells l e (0,0) true) fun p g=>k (.slice (some ⟨p,0,none⟩) n c) g
def sF (h:AH) (r:Nat) (i:Nat) (e:TypeId) (l:EU) (n c:Nat) (k:Value->AH->Prop):Prop:=sO h r (.cells l e (0,0) true) fun p g=>k (.slice (some ⟨p,0,none⟩) n c) g
def lp (P:Program) (f:FuncId) (p:EW) (n:Nat) (e:Nat->Value) (d:Nat) (st:LoopState) (pd:Option Code):vQ:=
 .loop st pd f ((List.range n).map e) (rgF<|cd P f p).2.1 (rgF<|cd P f p).2.2.1 (rgF<|cd P f p).2.2.2 d
def Hs.ve (c:Hs G h L) (hb:b<G.base):h.get b=G.old b:=by
 exact c.old b hb
structure Ob (G:Bg) (b:Nat) (c:EU):Prop where
 lt:b<G.base
 get:∃e fz x,G.old b=some (.cells c e fz x)
theorem aE (g:Hs G h L) [m:eB (aN b o) L c L'] (hc:c[j]?=some v) (s:k v):cE (xE h<|pt b o j) k:=by
 obtain⟨_,i,e,x,r,q⟩:=(m.of g).xg hc;simp_all[xE,pt]
def am (b:Nat) (g:Hs G h L) [m:eB (aN b 0) L c L'] (hc:c[j]?=some v) (s:k v):cE (xE h<|pt b 0 j) k:=aE (b:=b) (o:=0) g hc s
theorem Gr (q:Hs G h L) (g:Ob G b c) (hc:c[o+j]?=some v) (m:k v):cE (xE h<|pt b o j) k:=by
 obtain⟨e,r,x,i⟩:=g.get;exact⟨v,by simp[xE,pt,q.ve g.lt,i,hc],m⟩
theorem bB (s:Hs G h L) [m:eB (aN b o) L c L'] (A:0<n) (hc:(c.drop j).take n=l) (z:l.length=n) (r:k (.agg ⟨l⟩)):cE (zJ h n<|pt b o j) k:=by
 have g:j+n<=c.length:=by
  grind
 obtain⟨_,t,e,x,q,u,v⟩:=(m.of s).cells FA;refine⟨_,?_,r⟩;simp only[zJ,pt,eE,dn,aO,dd,q];rw[aac];simp only[rk,Option.some.injEq,Value.agg.injEq,Array.mk.injEq];refine q6 fun i=>?_;grind
def an (b:Nat) (s:Hs G h L) [m:eB (aN b 0) L c L'] (hc:(c.drop j).take n=l) (z:l.length=n) (r:k (.agg ⟨l⟩)) (A:0<n:=by decide):cE (zJ h n<|pt b 0 j) k:=bB (b:=b) (o:=0) s A hc z r
theorem qw (q:Hs G h L) (g:Ob G b c) (hc:(c.drop<|o+j).take n=l) (s:l.length=n) (hb:o+j<=c.length) (m:k (.agg ⟨l⟩)):cE (zJ h n<|pt b o j) k:=by
 obtain⟨e,r,x,i⟩:=g.get;have:=l6 List.length hc;simp at this;exact⟨_,by simp[zJ,pt,eE,q.ve g.lt,i,hc];omega,m⟩
def bM:EU->Nat->EU->EU
 |c,0,[]=>c
 |[],0,_::_=>[]
 |_::c,0,v::g=>v::bM c 0 g
 |[],_+1,_=>[]
 |x::c,j+1,g=>x::bM c j g
theorem tS:∀(c:EU) (j:Nat) (vs:EU),j+vs.length<=c.length->dU c j vs=bM c j vs
 |c,0,[],_=>by grind[dU,bM]
 |[],0,_::_,h=>by simp at h
 |x::c,0,v::vs,h=>by
  have:=tS c 0 vs FB;grind[bM,dU]
 |[],j+1,vs,h=>by simp at h
 |x::c,j+1,vs,h=>by
  have:=tS c j vs FB;grind[bM,dU]
theorem aWh {k:AH->Prop} (r:Hs G h L) [m:eB (aN b o) L c L'] (A:nG v=some vs) (z:vs.length=n) (i:Nat.ble (j+n) c.length=true) (hb:vs.all gM=true) (q:Nat.ble 1 c.length=true)
  (u:∀g,Hs G g (aN b o (bM c j vs)::L')->k g):cE (Ba h n (pt b o j) v) k:=by
 have i:=o0 i
 obtain⟨g,s,t⟩:=(m.of r).iS (j:=j) FA hb<|o0 q
 simp_all[tS,Ba,pt]
def cK {k:Nat->AH->Prop} (j:Hs G h L) (i:∀p g,Hs G g (aN p 0 cs::L)->k p g):K1 h (.cells cs e (0,0) true) k:=
 i _ _ (let t:=j.kD (c:=cs) (e:=e) (x:=true);(t.cH<|List.Perm.swap _ _ _).tail)
def aW8 {k:Nat->AH->Prop} (i:Hs G h L) (j:nG v=some cs) (g:∀p c,Hs G c (aN p 0 cs::L)->k p c):cE (rE e v) fun b=>K1 h b k:=
 ⟨.cells cs e (0,0) true,by simp[rE,j],cK i g⟩
def xr (r:Nat) (x:Nat×EW):HP:=frs r x.1 x.2
theorem aM5 {k:Nat->AH->Prop} (c:Hs G h L) (B:∀r u,Hs G u (xr r (n,[])::L)->k r u):Cy h n k:=by
 refine B _ _ ?_;obtain⟨r,A,j⟩:=c.V2;have D:∀i,({h with next:=h.next+n}:AH).get i=h.get i:=fun i=>rfl;refine⟨c.base,c.old,cO c.wf FB,fun i E=>by exact c.fr i FB,_,⟨_,r,rfl,A,?_,rfl⟩,(eJ.jC ?_).2 ⟨?_,?_⟩⟩;rotate_right;exact j.of rfl FB fun _ _=>rfl;have s:∀b,h.next<=b->r.A2 b=none:=fun b m=>by
  cases ht:r.A2 b with
  |none=>rfl
  |some t=>
   cases t with
   |kW=>have:=(j.kW _ ht).2.1;omega
   |mt z C n=>obtain⟨_,_,g,_⟩:=j.mt _ _ _ _ ht;rw[c.fr b m] at g;cases g
   |Ni o=>obtain⟨_,g,_⟩:=j.Ni _ _ ht;rw[c.fr b m] at g;cases g
 refine⟨FB,fun b=>?_⟩;grind;have s:∀b,h.next<=b->r.A2 b=none:=fun b m=>by
  cases ht:r.A2 b with
  |none=>rfl
  |some t=>
   cases t with
   |kW=>have:=(j.kW _ ht).2.1;omega
   |mt z C n=>obtain⟨_,_,g,_⟩:=j.mt _ _ _ _ ht;rw[c.fr b m] at g;cases g
   |Ni o=>obtain⟨_,g,_⟩:=j.Ni _ _ ht;rw[c.fr b m] at g;cases g
 refine⟨FB,fun b=>?_⟩;grind;refine⟨FB,fun b q=>?_,fun b e x n q=>?_,fun b o q=>?_⟩;simp only at q;split at q;rename_i v;have:=c.wf;exact⟨FB,v.2.1,by exact c.fr b v.1⟩;cases q;grind;grind
def bu (c:Bool) (g:EW) (op:BinOp) (a b:Value) (q:Value->Prop):Prop:=c=true/\cE (Xy g op a b) q
def na (c:Bool) (h:AH) (n:Nat) (k:Nat->AH->Prop):Prop:=c=true/\Cy h n k
def bI {c:Bool} {k:Nat->AH->Prop} (j:Hs G h L) (i:∀r g,Hs G g (xr r (n,[])::L)->k r g) (hc:c=true:=by kernel_rfl):na c h n k:=⟨hc,aM5 j i⟩
variable {r:Nat}
theorem dv {D:EW} (c:i<n) (hD:i∉D):xG [fun q=>q=(⟨fun _ _=>none,fun b=>if b=r+i then some .kW else none⟩:eJ),frs r n (i::D)] ⟨fun _ _=>none,fun b=>if r<=b/\b<r+n/\(b - r)∉D then some .kW else none⟩:=by
 refine⟨_,_,rfl,⟨_,_,rfl,rfl,eJ.kX.symm,rfl⟩,?_,?_⟩;rw[eJ.add_comm eJ.kX.symm,eJ.kE];refine⟨FB,fun b=>?_⟩;grind;rw[eJ.add_comm eJ.kX.symm,eJ.kE];refine eJ.V0 (fun _ _=>rfl) fun b=>?_;simp only[eJ.add];grind
theorem Hs.aQk {D:EW} {x:Bool} (t:Hs G h (frs r n D::L)) (Y:i<n) (hD:i∉D):
  Hs G (h.set (r+i)<|some<|.cells c e (0,0) x) (aN (r+i) 0 c::mt (r+i) (e,x,c.length)::frs r n (i::D)::L):=by
 obtain⟨q,⟨r1,R,T,U,E,V⟩,W⟩:=t.V2
 cases T
 subst V
 obtain⟨i1,i2⟩:=(eJ.jC E).1 W
 obtain⟨q1,q2,I,⟨q3,q4,J,N,Z,B⟩,X,O⟩:=dv (r:=r) Y hD
 cases I;cases N
 rw[eJ.add_comm FA,eJ.kE] at B
 subst B
 cases J
 rw[O] at i1 E
 obtain⟨i3,i4⟩:=(eJ.jC X).1 i1
 obtain⟨fb,fn,S⟩:=i3.kW (r+i) FF
 obtain⟨d1,d2⟩:=eJ.mN.1 E.symm
 have s:∀j,(h.set _ _).get j=if j=r+i then some (.cells c e (0,0) x) else h.get j:=fun j=>AH.oF<|cO t.le fb
 have m:=(eJ.jC d2.symm).2 ⟨i4,i2⟩
 have z:((⟨fun _ _=>none,fun b=>if r<=b/\b<r+n/\(b - r)∉(i::D) then some .kW else none⟩:eJ).add R).A2 (r+i)=none:=by
  simp only[eJ.add];rw[bA0 FB];rcases d1.A2 (r+i) with h|h;grind;simp at h
 have A:(uE _ c<|some<|.mt e x c.length).A8 _:=aAj m S z
 refine⟨by simp;exact t.base,fun j C=>by rw[s,aaa];exact t.old j C,by simp;exact t.wf,fun j C=>by simp at C;rw[s,aaa];exact t.fr j C,
    _,(mF (L:=[aN _ 0 c,mt _ (e,x,c.length)])).2 ⟨_,_,wK,⟨_,R,rfl,U,d2.symm,rfl⟩,A,rfl⟩,(eJ.jC A).2 ⟨?_,?_⟩⟩
 .refine⟨fun b o v Q=>?_,fun b Q=>?_,fun b e' x' n Q=>?_,fun b o Q=>?_⟩
  .grind[uE]
  .grind[uE]
  .simp_all[uE]
  grind[uE]
 .refine m.of FF FF fun b u=>?_;rw[s,bA0];intro F;subst F;rcases u with u|⟨o,u⟩
  .exact u z
  .apply u;cases hc:eJ.gL _ _ o with
   |none=>rfl
   |some v=>obtain⟨_,_,_,_,g,_⟩:=m.gL _ o v hc;grind
def aX4 {A B:HP} (c:Hs G h (A::B::L)):Hs G h (A::L):=(c.cH<|List.Perm.swap _ _ _).tail
theorem nJ {D:EW} {k:Nat->AH->Prop} (j:Hs G h L) [m:eB (xr r) L (n,D) L'] (o:Nat.blt i n=true) (hD:D.contains i=false)
  (g:∀p c,Hs G c (aN p 0 cs::xr r (n,i::D)::L')->k p c):sO h (r+i) (.cells cs e (0,0) true) k:=
 g _ _ (aX4<|Hs.aQk (show Hs G h (frs r n D::L') from m.of j) GK FB)
def aM1 {D:EW} {k:Nat->AH->Prop} (o:Hs G h L) [m:eB (xr r) L (n,D) L'] (q:nG v=some cs) (g:Nat.blt i n=true) (hD:D.contains i=false)
  (j:∀p c,Hs G c (aN p 0 cs::xr r (n,i::D)::L')->k p c):cE (rE e v) fun b=>sO h (r+i) b k:=
 ⟨.cells cs e (0,0) true,by simp[rE,q],nJ o g hD j⟩
theorem Hs.aRl {o:vQ} (J:Sf o=true) (m:Hs G h L):Hs G (h.alloc o) (ot h.next o::L):=by
 obtain⟨r,I,u⟩:=m.V2;have C:h.get h.next=none:=m.fr _<|b0 _
 have A:r.A2 h.next=none:=by
  cases ht:r.A2 h.next with
  |none=>rfl
  |some t=>
   cases t with
   |kW=>have:=(u.kW _ ht).2.1;omega
   |mt F N n=>obtain⟨_,_,g,_⟩:=u.mt _ _ _ _ ht;grind
   |Ni o=>obtain⟨_,g,_⟩:=u.Ni _ _ ht;grind
 have D:(⟨fun _ _=>none,fun E=>if E=h.next then some (.Ni o) else none⟩:eJ).A8 r:=by
  refine⟨FB,fun b=>?_⟩;by_cases q:b=h.next
  grind;grind
 have c:∀j,(h.alloc o).get j=if j=h.next then some o else h.get j:=fun j=>AH.Cu<|cO m.le m.wf
 refine⟨m.base,fun i B=>(by rw[c,bA0<|by have:=m.wf;omega];exact m.old i B),ts m.wf,fun i B=>by simp at B;rw[c,aaa];exact m.fr i FA,_,⟨_,r,rfl,I,D,rfl⟩,(eJ.jC D).2 ⟨?_,?_⟩⟩;refine⟨FB,fun b s=>?_,fun b F N n s=>?_,fun b O s=>?_⟩;grind;grind;simp only at s;split at s;rename_i q;subst q;cases s;exact⟨m.wf,FB,J⟩;cases s;refine u.of rfl FF fun b q=>?_;rw[c,bA0];intro z;subst z;rcases q with q|⟨o,q⟩;exact q A;apply q;cases hc:r.gL h.next o with
 |none=>rfl
 |some v=>obtain⟨_,_,_,_,g,_⟩:=u.gL _ o v hc;grind
theorem Hs.G4 {o o':vQ} (S:Sf o'=true) (i:Hs G h (ot b o::L)):h.get b=some o/\h.base<=b/\Hs G (h.set b<|some o') (ot b o'::L):=by
 obtain⟨q,⟨T,t,r,E,B,F⟩,I⟩:=i.V2;cases r;subst F;obtain⟨i1,i2⟩:=(eJ.jC B).1 I;obtain⟨gb,z,A⟩:=i1.Ni b o FF;have c:∀j,(h.set b _).get j=if j=b then some o' else h.get j:=fun j=>AH.oF<|cO i.le gb
 have N:b<h.next:=by
  rcases ql b h.next with r|r
  exact r;rw[i.fr b r] at z;cases z
 have Q:t.A2 b=none:=by rcases B.A2 b with h|h;simp at h;exact h
 have O:∀s,t.gL b s=none:=fun s=>by
  cases hc:t.gL b s with
  |none=>rfl
  |some v=>
   obtain⟨_,_,_,_,g,_⟩:=i2.gL _ s v hc;grind[Sf]
 have C:(⟨fun _ _=>none,fun m=>if m=b then some (.Ni o') else none⟩:eJ).A8 t:=by
  refine⟨FB,fun m=>?_⟩;by_cases J:m=b;grind;grind
 refine⟨z,cO i.le gb,by simp;exact i.base,fun j u=>by rw[c,aaa];exact i.old j u,by simp;exact i.wf,fun j u=>by simp at u;rw[c,aaa];exact i.fr j u,_,⟨_,t,rfl,E,C,rfl⟩,(eJ.jC C).2 ⟨?_,?_⟩⟩;refine⟨FB,fun b D=>?_,fun b R U n D=>?_,fun m s D=>?_⟩;grind;grind;simp_all;refine i2.of FF FF fun m J=>?_;grind
def pG (P:Program) (f:FuncId) (p:EW) (n:Nat) (e:Nat->Value) (d l:Nat) (x:LoopState×Option Code):HP:=ot l<|lp P f p n e d x.1 x.2
def mk (d:Nat) (_:Unit):HP:=ot d<|.A1 true
def oE {k:Nat->AH->Prop} (i:Hs G h L) (g:∀d c,Hs G c (mk d ()::L)->k d c):K1 h (.A1 true) k:=g _ _<|i.aRl rfl
variable {st:LoopState}
def rI {e:Nat->Value} {d:Nat} {pd:Option Code} {k:Nat->AH->Prop} (i:Hs G h L) (g:∀l c,Hs G c (pG P f p n e d l (st,pd)::L)->k l c):K1 h (lp P f p n e d st pd) k:=g _ _<|i.aRl rfl
def oA {k:AH->Prop} (c:k h):cE (dX [] h) k:=⟨h,rfl,c⟩
theorem qP {d:Nat} {g:EW} {k:AH->Prop} (o:Hs G h L) [m:eB (mk d) L () L'] (j:∀c,Hs G c L'->cE (dX g c) k):cE (dX (d::g) h) k:=by
 obtain⟨q,r,i⟩:=Hs.G4 (o':= .A1 false) rfl<|show Hs G h _ from m.of o;obtain⟨c,s,t⟩:=j _ i.tail;simp_all[dX,bA1]
variable {st':LoopState} {pd':Option Code}
theorem aUl {e:Nat->Value} {d l:Nat} {pd:Option Code} {k:AH->Prop} (j:Hs G h L) [m:eB (pG P f p n e d l) L (st,pd) L'] (i:∀c,Hs G c (pG P f p n e d l (st',pd')::L')->k c):
  cE (fJ h l st'<|some pd') k:=by
 obtain⟨o,q,g⟩:=Hs.G4 (o':=lp P f p n e d st' pd') rfl<|show Hs G h (ot l (lp P f p n e d st pd)::L') from m.of j
 exact⟨_,by simp_all[fJ,lp,bA1],i _ g⟩
theorem aMw {e:Nat->Value} {d l:Nat} {pd:Option Code} {k:AH->Prop} (o:Hs G h L) [m:eB (pG P f p n e d l) L (.ready,pd) L'] (j:∀c,Hs G c (pG P f p n e d l (.busy,pd)::L')->k c):
  cE (qJ h l) k:=by
 obtain⟨g,q,i⟩:=Hs.G4 (o':=lp P f p n e d .busy pd) rfl<|show Hs G h (ot l (lp P f p n e d .ready pd)::L') from m.of o
 exact⟨_,by simp only[qJ,fJ,g,lp];grind,j _ i⟩
def aHs {e:Nat->Value} {d l:Nat} {pd:Option Code} {k:Option Code->AH->Prop} (s:Hs G h L) [m:eB (pG P f p n e d l) L (st,pd) L'] (c:st≠.busy) (q:∀g,Hs G g L'->k pd g):
  cE (zV h l) fun r=>k r.1 r.2:=by
 obtain⟨i,j,o⟩:=Hs.G4 (o':=lp P f p n e d .exhausted pd) rfl<|show Hs G h (ot l (lp P f p n e d st pd)::L') from m.of s
 refine⟨(pd,_),?_,q _ o.tail⟩
 simp only[zV,i,lp]
 rw[bA0 c]
 simp only[fJ,i,lp]
 rw[bA1 j];rfl
theorem aIx {e:Nat->Value} {d l:Nat} {pd:Option Code} {k:Nat->Prop} (c:Hs G h L) [m:eB (pG P f p n e d l) L (st,pd) L'] (i:k d):cE (kI h l) k:=by
 obtain⟨g,_,_⟩:=Hs.G4 (o':= .A1 true) rfl<|show Hs G h (ot l (lp P f p n e d st pd)::L') from m.of c;simp_all[kI,lp]
def aYa {e:Nat->Value} {d l:Nat} {pd:Option Code} (c:Hs G h L) [m:eB (pG P f p n e d l) L (st,pd) L']:h.get l=some (lp P f p n e d st pd):=
 (Hs.G4 (o':= .A1 true) rfl<|show Hs G h (ot l (lp P f p n e d st pd)::L') from m.of c).1
def dY (W:Nat) (e:TypeId) (a:EX) (cap:Nat) (x:Nat×EU):HP:=fun r=>
 x.2.length=x.1*W/\x.2.all gM=true/\
 ((x.1=0/\r=eJ.Ro/\cap=0/\(a=none\/∃b o,a=some ⟨b,o,some 1⟩))\/
  (x.1=0/\cap=0/\∃b o i,a=some ⟨b,o,some 2⟩/\o<=i.length/\r=uE b i (some<|.mt e false i.length))\/
  (x.1<=cap/\∃b g c ex,a=some ⟨b,g.length,none⟩/\g.length+cap*W<=(g++x.2++c).length/\r=uE b (g++x.2++c) (some<|.mt e ex (g++x.2++c).length)))
theorem jO (g:Hs G h L):Hs G h (dY W e none 0 (0,[])::L):=by
 exact Hs.Dl (A:=[]) g fun r c=>(⟨FF,rfl,.inl ⟨rfl,c,rfl,.inl rfl⟩⟩)
theorem Ae {x:Bool} {r:eJ} (h:xG [aN b 0 c,mt b (e,x,c.length)] r):r=uE b c (some<|.mt e x c.length):=by
 obtain⟨F,I,m,⟨r3,J,o,q,A,B⟩,v,z⟩:=h;obtain⟨C,q2,g1,⟨D,E,g,j,t,u⟩,g3,s⟩:=wK (i:=b) (c:=c) (e:=e) (x:=x);cases m;cases o;cases q;cases g1;cases g;cases j;grind
theorem dV {c:Nat} {k:Value->AH->Prop} (o:Hs G h L) (i:l.length=c*W) (m:n=c) (hb:l.all gM=true)
  (j:∀a g,Hs G g (dY W e (some a) c (n,l)::L)->k (.slice (some a) n c) g):D9 h W e l n c k:=by
 subst m
 refine j _ _ ?_
 refine Hs.Dl (A:=[_,_]) (o.kD (c:=l) (e:=e) (x:=true)) fun r q=>?_
 exact⟨i,hb,.inr<|.inr ⟨b0 _,_,[],[],true,rfl,by simp[i],by grind[Ae]⟩⟩
theorem oS {N:Nat} {D:EW} {c:Nat} {k:Value->AH->Prop} (t:Hs G h L) [m:eB (xr r) L (N,D) L'] (u:Nat.blt i N=true) (hD:D.contains i=false) (j:l.length=c*W) (s:n=c) (hb:l.all gM=true)
  (o:∀a g,Hs G g (dY W e (some a) c (n,l)::xr r (N,i::D)::L')->k (.slice (some a) n c) g):sF h (r+i) W e l n c k:=by
 subst s
 refine o _ _ ?_
 refine Hs.Dl (A:=[_,_]) (Hs.aQk (i:=i) (c:=l) (e:=e) (x:=true) (show Hs G h (frs r N D::L') from m.of t) GK FB) fun q v=>?_
 exact⟨j,hb,.inr<|.inr ⟨b0 _,_,[],[],true,rfl,by simp[j],by grind[Ae]⟩⟩
theorem Hs.fst {A:HP} (g:Hs G h (A::L)):∃r c,A r/\xG L c/\r.A8 c/\r.In G.base h/\c.In G.base h:=by
 obtain⟨q,⟨t,c,i,j,m,o⟩,s⟩:=g.V2;grind[eJ.jC]
def Hs.Hk (g:Hs G h (dY W e a cap x::L)):x.2.length=x.1*W:=by
 obtain⟨r,_,c,_⟩:=g.fst;exact c.1
def Hs.Gv (g:Hs G h (dY W e a cap x::L)):x.2.all gM=true:=by
 obtain⟨r,_,c,_⟩:=g.fst;exact c.2.1
theorem Hs.uZ (D:Hs G h (dY W e a cap (n,cs)::L)) (h0:0<n):
  ∃b o,a=some ⟨b,o,none⟩/\∃H:HP,Hs G h (aN b o cs::H::L)/\∀{G:Bg} Q i M,i.length=cs.length->i.all gM=true->Hs G Q (aN b o i::H::M)->Hs G Q (dY W e a cap (n,i)::M):=by
 have E:∀b (g c:EU) ex,∀i:EU,i.length=cs.length->∀r,xG [aN b g.length i,fun r=>xG [aN b 0 g,aN b (g.length+cs.length) c,mt b (e,ex,(g++cs++c).length)] r] r↔r=uE b (g++i++c) (some<|.mt e ex (g++i++c).length):=by
  intro b g c ex i U r;have e1:(g++cs++c).length=(g++i++c).length:=by simp[U]
  have e2:∀q,xG [aN b 0<|g++i++c,mt b (e,ex,(g++i++c).length)] q->xG [aN b g.length i,fun r=>xG [aN b 0 g,aN b (g.length+cs.length) c,mt b (e,ex,(g++cs++c).length)] r] q:=by
   intro q B;obtain⟨Z,F,R,h2,t,h4⟩:=B;have S:=(H8 Z).1 R;obtain⟨s1,s2,g1,⟨s3,s4,g2,g3,g4,I⟩,N,O⟩:=S;have J:=(H8 s1).1 g1;cases g3;rw[eJ.add_comm FA,eJ.kE] at I;subst I;have u:xG ([aN b 0 g,aN b (0+g.length) i]++([aN b (0+(g++i).length) c]++[mt b (e,ex,(g++i++c).length)])) q:=by
    refine mF.2 ⟨s1,_,J,mF.2 ⟨s2,F,⟨s2,_,g2,rfl,FA,by grind[eJ.add_comm,eJ.Ro,eJ.kE]⟩,h2,?_,rfl⟩,?_,?_⟩;rw[O] at t;exact(eJ.mN.1 t.symm).2.symm;rw[O] at t;exact eJ.mN.2 ⟨N,(eJ.mN.1 t.symm).1.symm⟩;grind[eJ.pA]
   have hp:xG ([aN b _ i]++[aN b 0 g,aN b _ c,mt b (e,ex,(g++i++c).length)]) q:=Nz (List.Perm.swap _ _ _) q u;obtain⟨u1,u2,w1,w2,w3,w4⟩:=mF.1 hp;rw[AB] at w1;obtain⟨v1,v2,x1,x2,x3,x4⟩:=w1;cases x2;rw[eJ.add_comm FA,eJ.kE] at x4;subst x4;refine⟨u1,u2,x1,⟨u2,_,?_,rfl,eJ.kX.symm,by rw[eJ.add_comm (s:=eJ.Ro) eJ.kX.symm,eJ.kE]⟩,w3,w4⟩;grind
  constructor;intro C;obtain⟨Z,F,R,⟨r3,r4,h5,h6,h7,h8⟩,t,h4⟩:=C;obtain⟨q1,q2,g1,⟨q3,q4,I,N,O,g8⟩,g3,g4⟩:=e2 _<|wK;cases R;cases g1;cases h6;cases N;rw[eJ.add_comm FA,eJ.kE] at h8 g8;have:F=q2:=by
   obtain⟨a1,a2,b1,⟨a3,a4,b2,⟨a5,a6,b3,b4,b5,b6⟩,b7,b8⟩,b9,α⟩:=h5;obtain⟨c1,c2,d1,⟨c3,c4,d2,⟨c5,c6,d3,d4,d5,d6⟩,d7,d8⟩,d9,d10⟩:=I;cases b1;cases b2;cases b3;cases b4;cases d1;cases d2;cases d3;cases d4;grind
  grind;grind[wK]
 obtain⟨r,F,C,V,Y,hi,T⟩:=D.fst
 obtain⟨U,hc,C⟩:=C
 simp only at U hc
 rcases C with⟨hz,_⟩|⟨hz,_⟩|⟨v,b,g,c,ex,rfl,hle,X⟩
 .grind
 .grind
 .refine⟨b,_,rfl,fun r=>xG [aN b 0 g,aN b (g.length+cs.length) c,mt b (e,ex,(g++cs++c).length)] r,?_,?_⟩
  .have m:Hs G h ((fun r=>r=uE b (g++cs++c) (some<|.mt e ex (g++cs++c).length))::L):=⟨D.base,D.old,D.wf,D.fr,_,⟨r,F,X,V,Y,rfl⟩,(eJ.jC Y).2 ⟨hi,T⟩⟩;exact m.dj fun q B=>(E b g c ex cs rfl q).2 B
  .intro G Q i M z j m;refine Hs.Dl (A:=[_,_]) m fun q B=>?_;refine⟨FB,j,.inr<|.inr ⟨v,b,g,c,ex,rfl,?_,(E b g c ex i z q).1 B⟩⟩;grind
theorem O4 {x:Bool} {r:eJ} (i:(uE b c<|some<|.mt e x c.length).In B h) (g:r.In B h):B<=b/\h.get b=some (.cells c e (0,0) x):=by
 obtain⟨o,s,q,t⟩:=i.mt b e x c.length (by simp[uE]);refine⟨o,?_⟩;rw[q];congr 2;refine q6 fun j=>?_;rcases ql j c.length with m|m;obtain⟨_,c2,e2,u,g1,g2⟩:=i.gL b j c[j] (by simp[uE,m]);grind;grind
variable {c2:EU}
theorem Hs.aX7 {e2:TypeId} {x E:Bool} (s:Hs G h ((fun r=>r=uE b c (some<|.mt e x c.length))::L)):Hs G ((h.set b none).alloc<|.cells c2 e2 (0,0) E) ((fun r=>r=uE h.next c2 (some<|.mt e2 E c2.length))::L):=by
 obtain⟨r,u,B,C,F,q,m⟩:=s.fst;subst B;obtain⟨z,O⟩:=O4 q m;have g:∀j,(h.set b none).get j=if j=b then none else h.get j:=fun j=>AH.oF<|cO s.le z
 have J:∀j,(u.A2 j≠none\/∃o,u.gL j o≠none)->j≠b:=by
  intro j I A;subst A;rcases I with t|⟨o,t⟩;rcases F.A2 j with h|h;simp[uE] at h;exact t h;rcases F.gL j o with h|h;simp only[uE,ew] at h;cases hc:u.gL j o with
  |none=>exact t hc
  |some v=>
   obtain⟨_,N,_,_,g1,g2⟩:=m.gL j o v hc;grind
  exact t h
 have D:Hs G (h.set b none) L:=by
  refine⟨by simp;exact s.base,fun i q=>by rw[g,aaa];exact s.old i q,by simp;exact s.wf,fun i q=>by simp at q;rw[g];split;rfl;exact s.fr i q,u,C,?_⟩;exact m.of FF FF FB
 have:=D.kD (c:=c2) (e:=e2) (x:=E);rw[AH.aHh] at this;exact Hs.Dl this fun r B=>Ae B
theorem vE {c:Nat}:Gf (.slice a n c)=some n:=rfl
variable {m:Nat}
theorem aPw {bytes:Nat} {c:Nat} {src:Value} {k:Value->AH->Prop} (z:Hs G h L) [mm:eB (dY W e a c) L (n,cs) L']
  (v:Gf src=some m) (B:nE h W m src=some ns) (γ:ns.all gM=true) (η:ns.length=m*W) (O:(n+m)*(bytes+1)<=2^46)
  (hk:∀a' c' h',Hs G h' (dY W e a' c' (n+m,cs++ns)::L')->k (.slice a' (n+m) c') h'):cE (oL W bytes e h (.slice a n c) src) fun r=>k r.1 r.2:=by
 have δ:=mm.of z
 obtain⟨r,r2,hr,Q,T,F,D⟩:=δ.fst
 obtain⟨hl,hc,hr⟩:=hr
 simp only at hl hc hr
 have u:(!ns.all gM||ns.length !=m*W)=false:=by simp[γ,η]
 have E:(cs++ns).all gM=true:=FB
 have I:(cs++ns).length=(n+m)*W:=FB
 have C:∀{h1:AH},Hs G h1 ((fun r=>r=uE h.next (cs++ns) (some<|.mt e false (cs++ns).length))::L')->Hs G h1 (dY W e (some ⟨h.next,0,none⟩) (n+m) (n+m,cs++ns)::L'):=by
  intro h1 hh;refine Hs.Dl (A:=[_]) hh fun q J=>?_;obtain⟨q1,q2,e1,e2,e3,e4⟩:=J;cases e1;cases e2;rw[eJ.add_comm FA,eJ.kE] at e4;exact⟨I,E,.inr<|.inr ⟨b0 _,_,[],[],_,rfl,FB,by simpa using e4⟩⟩
 by_cases hm:m=0
 .subst hm;have:ns=[]:=FB;subst this;rcases hr with⟨rfl,ι,rfl,ha⟩|⟨rfl,rfl,b,o,β,rfl,_⟩|⟨S,b,g,s,ex,rfl,hle,R⟩
  .rcases ha with rfl|⟨b,o,rfl⟩
   .simp_all[none,oL,vE]
   simp_all[oL,vE]
  .simp_all[oL,vE]
  simp_all[oL,vE]
 .have V:Hs G h L':=δ.tail;rcases hr with⟨rfl,ι,rfl,ha⟩|⟨rfl,rfl,b,o,β,rfl,ho,R⟩|⟨S,b,g,s,ex,rfl,hle,R⟩
  .have Y:cs=[]:=g6 FB;subst Y;have ξ:=C<|Hs.Dl (V.kD (c:=ns) (e:=e) (x:=false)) fun q J=>Ae J;have t:¬(0+m<=0):=FA
   rcases ha with rfl|⟨b,o,rfl⟩
   .refine⟨(.slice (some ⟨h.next,0,none⟩) m m,h.alloc<|.cells ns e (0,0) false),?_,FB⟩;simp only[oL,v,B,u,aO,dd,t,O,ew]
   .refine⟨(.slice (some ⟨h.next,0,none⟩) m m,h.alloc<|.cells ns e (0,0) false),?_,FB⟩;simp only[oL,v,B,u,aO,dd,t,O,ew]
  .have Y:cs=[]:=g6 FB;subst Y;subst R;obtain⟨X,hg⟩:=O4 F D;have N:Hs G h ((fun r=>r=uE b β _)::L'):=⟨z.base,z.old,z.wf,z.fr,_,⟨_,r2,rfl,Q,T,rfl⟩,(eJ.jC T).2 ⟨F,D⟩⟩;have t:¬(0+m<=0):=FA
   refine⟨(.slice _ m m,(h.set b none).alloc _),?_,by simpa using hk _ _ _<|C<|N.aX7 (c2:=ns)⟩
   have ε:¬(some 2=some 1):=FF
   simp only[oL,v,B,u,aO,dd,t,O,ew,ε,hg,cO z.le X,ho,DI]
  .subst R;obtain⟨X,hg⟩:=O4 F D;have hb:=cO z.le X;by_cases t:n+m<=c
   .have hW:(n+m)*W<=c*W:=og _ t;rw[DZ] at hW;have N:Hs G h ((fun r=>r=uE b _ _)::L'):=⟨z.base,z.old,z.wf,z.fr,_,⟨_,r2,rfl,Q,T,rfl⟩,(eJ.jC T).2 ⟨F,D⟩⟩;have κ:Hs G h (aN b 0 _::mt b (e,ex,(g++cs++s).length)::L'):=N.dj fun q J=>by subst J;exact wK
    have θ:g.length+cs.length+ns.length<=(g++cs++s).length:=FB
    by_cases ν:ns.length=0
    .have μ:ns=[]:=FB;refine⟨(.slice (some ⟨b,g.length,none⟩) (n+m) c,h.set b<|some<|.cells (dU (g++cs++s) (g.length+n*W) []) e (0,0) ex),?_,?_⟩
     .simp only[oL,v,B,u,aO,dd,t,ew,hm,dn,fA];simp only[iU,dn,Bool.false_or,List.all_nil,CD,Bool.or_false,hg];grind
     .have α:dU (g++cs++s) (g.length+n*W) []=g++cs++s:=by simp only[dU,g7,AQ,BE,ta]
      rw[α]
      refine hk _ _ _ ?_
      have:Hs G (h.set b<|some<|.cells (g++cs++s) e (0,0) ex) ((fun r=>r=uE b (g++cs++s) (some<|.mt e ex (g++cs++s).length))::L'):=by
       have U:∀j,(h.set b<|some<|.cells (g++cs++s) e (0,0) ex).get j=h.get j:=fun j=>by
        grind[AH.oF]
       refine⟨by simp;exact z.base,fun i F=>by rw[U];exact z.old i F,by simp;exact z.wf,fun i F=>by simp at F;rw[U];exact z.fr i F,_,⟨_,r2,rfl,Q,T,rfl⟩,(eJ.jC T).2 ⟨?_,?_⟩⟩;exact F.of FF FF FB;exact D.of FF FF FB
      refine Hs.Dl (A:=[_]) this fun q J=>?_
      obtain⟨q1,q2,e1,e2,e3,e4⟩:=J
      cases e1;cases e2
      rw[eJ.add_comm FA,eJ.kE] at e4
      refine⟨I,E,.inr<|.inr ⟨t,b,g,s,ex,rfl,?_,FB⟩⟩
      grind
    .obtain⟨h',π,Z⟩:=κ.iS θ γ FA;refine⟨(.slice (some ⟨b,g.length,none⟩) (n+m) c,h'),?_,?_⟩
     .simp only[oL,v,B,u,aO,dd,t,ew,hm,dn,fA];grind
     .refine hk _ _ _ ?_;have α:dU (g++cs++s) (g.length+cs.length) ns=g++(cs++ns)++s.drop ns.length:=by
       unfold dU;rw[x0 FF,e6 FF,CZ];have:(g++cs).drop (g.length+cs.length+ns.length)=[]:=AT FF;rw[this];simp only[cV,gk,ef];rw[show g.length+cs.length+ns.length - (g.length+cs.length)=ns.length by omega]
      rw[α] at Z
      have ζ:(g++cs++s).length=(g++(cs++ns)++s.drop ns.length).length:=FB
      rw[ζ] at Z
      exact Hs.Dl (A:=[_,_]) Z fun q J=>(⟨I,E,.inr<|.inr ⟨t,b,g,_,ex,rfl,FB,Ae J⟩⟩)
   .have N:Hs G h ((fun r=>r=uE b _ _)::L'):=⟨z.base,z.old,z.wf,z.fr,_,⟨_,r2,rfl,Q,T,rfl⟩,(eJ.jC T).2 ⟨F,D⟩⟩;have ο:n*W<=c*W:=og _ S;have hold:eE h ⟨b,g.length,none⟩ (n*W)=some cs:=by
     simp only[eE,dn,aO,dd,hg];rw[aac];simp only[Option.some.injEq];grind
    have h1:¬((none:Option Nat)=some 1):=FF
    have h2:¬((none:Option Nat)=some 2):=FF
    cases ex with
    |true=>
     refine⟨(.slice _ _ _,h.alloc _),?_,hk _ _ _<|C<|Hs.Dl (V.kD) fun q J=>Ae J⟩
     simp only[oL,v,B,u,aO,dd,t,O,ew,h1,h2,hold,hg,hc,CD]
    |false=>
     refine⟨(.slice _ _ _,(h.set b none).alloc _),?_,hk _ _ _<|C<|N.aX7⟩
     simp only[oL,v,B,u,aO,dd,t,O,ew,h1,h2,hold,hg,hc,CD,hb,hle,DI]
abbrev wr (x:Int):Int:=IntKind.i64.wrap x
theorem za {x:Int} (h: -9223372036854775808<=x/\x<=9223372036854775807):wr x=x:=IntWalk.i64_in _ FA
section
variable {a b:Int} {x y:Value}
theorem qy {o:Option α} {v:α} {k:α->Prop} (g:o=some v) (c:k v):cE o k:=⟨v,g,c⟩
def aA {b:Nat} (c:k (pt b o<|j+n)):cE (mC n<|pt b o j) k:=⟨_,by simp[mC,pt,fA,DD],c⟩
def aC {b:Nat} (c:k (pt b o j)):cE (tH<|pt b o j) k:=⟨_,rfl,c⟩
def aQ (g:vs[i]?=some v) (c:k v):cE (yM i<|.tuple ⟨vs⟩) k:=⟨v,g,c⟩
def xi (g:l[j]?=some v) (c:k v):cE (yV j<|.agg ⟨l⟩) k:=⟨v,g,c⟩
theorem Rc {m:EU} (i:Nat.ble (j+n) l.length=true) (g:(l.drop j).take n=m) (c:k (.agg ⟨m⟩)):cE (yE j n<|.agg ⟨l⟩) k:=
 ⟨_,by grind[Nat.le_of_ble_eq_true,yE],c⟩
def dB {a:EX} {c:Nat} (g:k (I n)):cE (pR<|.slice a n c) k:=⟨_,rfl,g⟩
def bX (h: -9223372036854775808<=a+b/\a+b<=9223372036854775807) (c:k (I<|a+b)):cE (Be .add (I a)<|I b) k:=⟨_,FM,c⟩
def aad (c:k (I<|a+b))(h: -9223372036854775808<=a+b/\a+b<=9223372036854775807:=by omega):cE (Be .add (I a)<|I b) k:=⟨_,FM,c⟩
def Aa (h: -9223372036854775808<=a - b/\a - b<=9223372036854775807) (c:k (I<|a - b)):cE (Be .sub (I a)<|I b) k:=⟨_,FM,c⟩
def Hc (h: -9223372036854775808<=a*b/\a*b<=9223372036854775807) (c:k (I<|a*b)):cE (Be .mul (I a)<|I b) k:=⟨_,FM,c⟩
def cv (c:k (I<|wr<|a+b)):cE (Be .add (I a)<|I b) k:=⟨_,rfl,c⟩
theorem Ms (c:0<=a) (hb:0<b) (h:a<=9223372036854775807) (g:k (I<|a/b)):cE (Be .quo (I a)<|I b) k:=by
 refine⟨_,?_,g⟩;show Vp .quo .i64 a b=_;simp only[Vp];have i:0<=a/b:=Int.ediv_nonneg c FA;have j:a/b<=a:=Int.ediv_le_self b c;grind[za]
theorem eu (g:0<=a) (hb:0<b) (c:k (I<|a % b)):cE (Be .rem (I a)<|I b) k:=by
 refine⟨_,?_,c⟩;show Vp .rem .i64 a b=_;grind[Vp]
theorem aT9 (hb:b≠0) (c:k (I<|a.tmod b)):cE (Be .rem (I a)<|I b) k:=by
 refine⟨_,?_,c⟩;show Vp .rem .i64 a b=_;simp_all[Vp,bA0]
def cC (c:k (.bool<|decide<|a=b)):cE (Be .eql (I a)<|I b) k:=⟨_,HN,c⟩
theorem bU (c:k (.bool<|decide<|a≠b)):cE (Be .neq (I a)<|I b) k:=⟨_,by show some _=_;grind,c⟩
def bE (c:k (.bool<|decide<|a<b)):cE (Be .lss (I a)<|I b) k:=⟨_,rfl,c⟩
def Ak (c:k (.bool<|decide<|a<=b)):cE (Be .leq (I a)<|I b) k:=⟨_,rfl,c⟩
def oT (c:k (.bool<|decide<|b<a)):cE (Be .gtr (I a)<|I b) k:=⟨_,rfl,c⟩
def fX (c:k (.bool<|decide<|b<=a)):cE (Be .geq (I a)<|I b) k:=⟨_,rfl,c⟩
def cu {b:Nat} (c:k (.bool true)):cE (dr .neq (pt b o j)<|.pointer none) k:=⟨_,rfl,c⟩
def dM {b:Nat} (c:k (.bool false)):cE (dr .eql (pt b o j)<|.pointer none) k:=⟨_,rfl,c⟩
def cX {b:Bool} (c:k (.bool !b)):cE (py .not<|.bool b) k:=⟨_,rfl,c⟩
theorem fD {b c g:Nat} (m:i<n) (j:k (pt b (o+i*g) 0)):cE (qY g (.slice (some ⟨b,o,none⟩) n c)<|I i) k:=⟨_,by grind[qY,fA,pt],j⟩
theorem gK {b c:Nat} (i:0<=a) (m:a<n) (g:k (pt b o<|j+a.toNat*c)):cE (vS n c (pt b o j)<|I a) k:=⟨_,by grind[vS,fA,pt,Nat.add_assoc],g⟩
theorem cI {c:Prop} [Decidable c] {p:Prop} (h:c) (g:p):Br (.bool<|decide c) p q:=⟨_,rfl,fun _=>g,fun i=>absurd h FB⟩
theorem aae {c:Prop} [Decidable c] {p:Prop} (g:p)(h:c:=by omega):Br (.bool<|decide c) p q:=⟨_,rfl,fun _=>g,fun i=>absurd h FB⟩
theorem bC {c:Prop} [Decidable c] {p:Prop} (h:¬c) (g:q):Br (.bool<|decide c) p q:=⟨_,rfl,fun i=>absurd FB h,fun _=>g⟩
theorem aab {c:Prop} [Decidable c] {p:Prop} (g:q)(h:¬c:=by omega):Br (.bool<|decide c) p q:=⟨_,rfl,fun i=>absurd FB h,fun _=>g⟩
theorem bG {c:Prop} [Decidable c] {p:Prop} (i:c->p) (j:¬c->q):Br (.bool<|decide c) p q:=⟨_,rfl,fun g=>i FB,fun g=>j FB⟩
def gF {p:Prop} (c:p):Br (.bool true) p q:=aOs.2 c
def cS {p:Prop} (c:q):Br (.bool false) p q:=aK3.2 c
def eA {b:Bool} {p:Prop} (c:b=true->p) (g:b=false->q):Br (.bool b) p q:=⟨_,rfl,c,g⟩
theorem fM {b:Bool} {p:Prop} (h:Br (.bool b) q p):Br (.bool !b) p q:=by obtain⟨c,i,j,g⟩:=h;cases i;cases b;exact⟨_,rfl,fun _=>g rfl,FB⟩;simp_all
end
def aZ {k:EU->Prop} (i:tQ z ps=some c) (g:k c):cE (tQ z ps) k:=⟨c,i,g⟩
def cR {p:Prop} (c:p) (g:q):p/\q:=⟨c,g⟩
def jF {a:Int}:uG (I a) (I a)=true:=by simp[uG]
def aWm {a:Bool}:uG (.bool a) (.bool a)=true:=by simp[uG]
def dG:uG (pt b o j) (pt b o j)=true:=by simp[uG,pt]
def Ls {c:Nat}:uG (.slice a n c) (.slice a n c)=true:=by simp[uG]
def xQ {g:FuncId} {first captured:EZ} {l:Nat} {q:Value->AH->Prop} (hc:lU P g=true) (c:Cl P K g (first.toList++[.func (.yield l) #[] #[]]++captured.toList) h q):pw P K (.func (.func g) first captured) l h q:=⟨hc,c⟩
def qB {g:FuncId} {first captured:EZ} {args:EU} {q:Value->AH->Prop} (hc:lU P g=true) (c:Cl P K g (first.toList++args++captured.toList) h q):E5 P K (.func (.func g) first captured) args h q:=⟨hc,c⟩
def sp (A:IB):HP:=fun r=>xG A r
variable {A:IB}
def Hs.nY (c:Hs G h (A++L)):Hs G h (sp A::L):=c.Dl fun _ h=>h
def Hs.fQ (c:Hs G h (sp A::L)):Hs G h (A++L):=c.dj fun _ h=>h
def A5 {α:Type} (A:α->HP):HP:=fun r=>∃x,A x r
def Hs.Cn {A:α->HP} (x:α) (m:Hs G h (A x::L)):Hs G h (A5 A::L):=Hs.Dl (A:=[A x]) m fun r j=>by
 obtain⟨o,q,g,i,_,c⟩:=j;cases i;rw[eJ.add_comm FA,eJ.kE] at c;subst c;exact⟨x,g⟩
theorem gf {A:HP} {r:eJ}:xG [A] r↔A r:=by
 constructor;intro⟨m,o,i,c,_,j⟩;cases c;grind[eJ.add_comm,eJ.kE];intro g;exact⟨r,_,g,rfl,eJ.kX.symm,by rw[eJ.add_comm (s:=eJ.Ro) eJ.kX.symm,eJ.kE]⟩
def Hs.Fl {A:α->HP} (c:Hs G h (A5 A::L)):∃x,Hs G h (A x::L):=by
 obtain⟨r,q,⟨x,o⟩,i,g,j,m⟩:=c.fst;exact⟨x,c.base,c.old,c.wf,c.fr,_,⟨r,q,o,i,g,rfl⟩,(eJ.jC g).2 ⟨j,m⟩⟩
def Dm (p:Prop):HP:=fun r=>p/\r=eJ.Ro
def Hs.bh {p:Prop} (c:p) (i:Hs G h L):Hs G h (Dm p::L):=Hs.Dl (A:=[]) i fun _ g=>⟨c,g⟩
def Hs.yv {p:Prop} (c:Hs G h (Dm p::L)):p/\Hs G h L:=by
 obtain⟨r,_,⟨g,_⟩,_⟩:=c.fst;exact⟨g,c.tail⟩
def eP (n:Nat) (f:Nat->HP):HP:=sp<|(List.range n).map f
theorem To {f:Nat->HP} (c:i<n):((List.range n).map f).Perm (f i::((List.range n).erase i).map f):=by
 grind[List.range,List.perm_cons_erase]
def Hs.oI {f:Nat->HP} (j:Hs G h (eP n f::L)) (i:Nat) (g:i<n):Hs G h (f i::sp (((List.range n).erase i).map f)::L):=by
 have c:=j.fQ.cH<|(To g).append_right L;exact((c.cH<|by simpa using DA.symm).nY).cH (List.Perm.swap _ _ _)
theorem Hs.aFm {f g:Nat->HP} (m:i<n) (r:∀j,j≠i->g j=f j) (q:Hs G h (g i::sp (((List.range n).erase i).map f)::L)):Hs G h (eP n g::L):=by
 have c:=(q.cH<|List.Perm.swap _ _ _).fQ;have o:((List.range n).erase i).map f=((List.range n).erase i).map g:=sz fun j s=>by
  grind[List.Nodup.not_mem_erase,List.nodup_range]
 rw[o] at c;exact(c.cH<|(DA.trans<|(To m).symm.append_right L)).nY
theorem wI {f g:Nat->HP} (c:∀j,j<n->g j=f j) (i:Hs G h (eP n f::L)):Hs G h (eP n g::L):=by
 have:(List.range n).map f=(List.range n).map g:=sz FB;grind[eP]
def Hs.jc {f:Nat->HP} (c:Hs G h L):Hs G h (eP 0 f::L):=Hs.nY (A:=[]) c
theorem Hs.gq {f:Nat->HP} (c:Hs G h (f n::eP n f::L)):Hs G h (eP (n+1) f::L):=by
 refine Hs.nY<|((c.cH<|List.Perm.swap _ _ _).fQ).cH ?_;rw[dx,kt];simp
theorem E5.mono {f:Value} {args:EU} {c:Value->AH->Prop} (k:E5 P K f args h Q) (i:∀v g,Q v g->c v g):E5 P K f args h c:=by
 unfold E5 at k ⊢;grind[Ok.mono]
def aEi {l:Nat} {args:EU} (k:Ok P K (.round l args) h fun o c=>Q o.v c):E5 P K (.func (.yield l) #[] #[]) args h Q:=by
 simpa [E5] using k
def yy (P:Program) (K:FuncId->EU->IE) (G:Bg) (f:FuncId) (first captured:EU) (A:HP) (xs:IJ):Prop:=
 ∀(I:IJ->HP) (J:HP) (y:Value) (L:IB) (h:AH) (Q:Value->AH->Prop),Hs G h (A::I xs::L)->
  (∀x rest h M,Hs G h (I (x::rest)::M)->E5 P K y x h fun v c=>(v= .bool true/\Hs G c (I rest::M))\/(v= .bool false/\Hs G c (J::M)))->
  (∀v c,Hs G c (A::I []::L)->Q v c)->(∀v c,Hs G c (A::J::L)->Q v c)->Cl P K f (first++[y]++captured) h Q
class fU (A:HP) (L:IB) (L':outParam (IB)):Prop where
 cH:L.Perm (A::L')
instance (priority:=low) fU.A3 {A B:HP} [k:fU A L L']:fU A (B::L) (B::L'):=⟨(k.cH.cons B).trans<|List.Perm.swap _ _ _⟩
instance (priority:=high) fU.aL0 {A:HP}:fU A (A::L) L:=⟨BQ _⟩
instance (priority:=high) fU.app {A B:HP} {c L2:IB} [k:fU A (B::(c++L2)) L']:fU A ((B::c)++L2) L':=k
instance (priority:=high) fU.aTj {A:HP} {L2:IB} [k:fU A L2 L']:fU A ([]++L2) L':=k
class F2 (L M:IB):Prop where
 to:∀r,xG L r->∃r1 r2,xG M r1/\r1.A8 r2/\r=r1.add r2
def aLj {r:eJ}:r.add eJ.Ro=r:=by rw[eJ.add_comm eJ.kX.symm,eJ.kE]
instance (priority:=low) F2.skip {A:HP} [k:F2 L M]:F2 (A::L) M:=⟨fun r ⟨o,i,j,c,g,m⟩=>by
 obtain⟨s1,s2,g1,g2,g3⟩:=k.to i c;subst g3;obtain⟨d1,d2⟩:=eJ.mN.1 g;exact⟨s1,_,g1,eJ.mN.2 ⟨d1.symm,g2⟩,by grind[eJ.pA,eJ.add_comm]⟩⟩
instance F2.take {A:HP} [k:fU A L L'] [o:F2 L' M]:F2 L (A::M):=⟨fun r m=>by
 obtain⟨q,s,c,g,i,j⟩:=Nz k.cH r m;obtain⟨s1,s2,g1,g2,g3⟩:=o.to s g;subst g3;obtain⟨d1,d2⟩:=eJ.mN.1 i;exact⟨_,s2,⟨q,s1,c,g1,d1,rfl⟩,(eJ.mN.2 ⟨d2.symm,g2.symm⟩).symm,by rw[j,eJ.pA]⟩⟩
instance (priority:=high) F2.refl:F2 L L:=⟨fun r c=>⟨r,eJ.Ro,c,eJ.kX.symm,aLj.symm⟩⟩
instance (priority:=high) F2.app {A:HP} {c L2:IB} [k:F2 L (A::(c++L2))]:F2 L ((A::c)++L2):=k
instance (priority:=high) F2.aTj {L2:IB} [k:F2 L L2]:F2 L ([]++L2):=k
instance (priority:=high) F2.aZg {A:HP} {c L2:IB} [k:F2 (A::(c++L2)) M]:F2 ((A::c)++L2) M:=k
instance (priority:=high) F2.sp {A:IB} [k:F2 L (A++M)]:F2 L (sp A::M):=⟨fun r j=>by
 obtain⟨s1,s2,g1,g2,g3⟩:=k.to r j;obtain⟨m,q2,c,e2,g,i⟩:=mF.1 g1;exact⟨s1,s2,⟨m,q2,c,e2,g,i⟩,g2,g3⟩⟩
theorem Hs.to (c:Hs G h L) [k:F2 L M]:Hs G h M:=⟨c.base,c.old,c.wf,c.fr,by
 obtain⟨r,g,i⟩:=c.V2;obtain⟨j,m,g1,g2,g3⟩:=k.to r g;grind[eJ.jC]⟩
theorem Hs.pS {A B:HP} (c:Hs G h (B::A::L)):Hs G h (A::B::L):=c.cH<|List.Perm.swap _ _ _
def Ft {p:Prop} (c:p) (g:Hs G h (sp A::L)):Hs G h (sp (Dm p::A)::L):=Hs.nY (A:=Dm p::A)<|Hs.bh c g.fQ
def kL {p:Prop} (c:Hs G h (sp (Dm p::A)::L)):p/\Hs G h (sp A::L):=let⟨a,b⟩:=Hs.yv c.fQ;⟨a,b.nY⟩
def rC {a b:Prop} {c:List (Nat×Prop)} (g:a):A9 none a b c:=g
def aK0 {a b:Prop} {c:List (Nat×Prop)} (g:b):A9 (some .ret) a b c:=g
theorem N8 {a b:Prop} {c:List (Nat×Prop)} {id:Nat} (i:c.lookup id=some q) (g:q):A9 (some<|.exit id) a b c:=by grind[A9]
theorem aVm (h:m<=j):pt b o j=pt b (o+m) (j - m):=by grind[pt]
class Cv (v:Value) (cs:outParam EU):Prop where
 eq:nG v=some cs
instance {a:Int}:Cv (I a) [I a]:=⟨rfl⟩
instance {a:Bool}:Cv (.bool a) [.bool a]:=⟨rfl⟩
instance {b o j:Nat}:Cv (pt b o j) [pt b o j]:=⟨rfl⟩
instance {a:EX}:Cv (.pointer a) [.pointer a]:=⟨rfl⟩
instance {a:EX} {n c:Nat}:Cv (.slice a n c) [.slice a n c]:=⟨rfl⟩
instance {l:EU}:Cv (.agg ⟨l⟩) l:=⟨rfl⟩
instance {f:Fn} {a b:EZ}:Cv (.func f a b) [.func f a b]:=⟨rfl⟩
def eT {k:Nat->AH->Prop} (i:Hs G h L) [j:Cv v cs] (g:∀p c,Hs G c (aN p 0 cs::L)->k p c):cE (rE e v) fun b=>K1 h b k:=aW8 i j.eq g
def D6 {D:EW} {k:Nat->AH->Prop} (o:Hs G h L) [m:eB (xr r) L (n,D) L'] [q:Cv v cs] (g:Nat.blt i n=true) (hD:D.contains i=false)
  (j:∀p c,Hs G c (aN p 0 cs::xr r (n,i::D)::L')->k p c):cE (rE e v) fun b=>sO h (r+i) b k:=aM1 o q.eq g hD j
def cF {k:AH->Prop} (t:Hs G h L) [m:eB (aN b o) L c L'] [u:Cv v vs] (s:vs.length=n) (r:Nat.ble (j+n) c.length=true) (hb:vs.all gM=true) (i:Nat.ble 1 c.length=true)
  (q:∀g,Hs G g (aN b o (bM c j vs)::L')->k g):cE (Ba h n (pt b o j) v) k:=aWh t u.eq s r hb i q
def ay {k:AH->Prop} (t:Hs G h L) [m:eB (aN b o) L c L'] [u:Cv v vs] (q:∀g,Hs G g (aN b o (bM c j vs)::L')->k g) (s:vs.length=n:=by exact rfl) (r:Nat.ble (j+n) c.length=true:=by exact rfl) (hb:vs.all gM=true:=by exact rfl) (i:Nat.ble 1 c.length=true:=by exact rfl):cE (Ba h n (pt b o j) v) k:=cF t s r hb i q
theorem fp:∀(c vs:EU),c.length=vs.length->bM c 0 vs=vs
 |[],[],_=>rfl
 |_::c,v::vs,h=>by simp only[bM];rw[fp c vs FB]
theorem bK {k:AH->Prop} (q:Hs G h L) [m:eB (aN b o) L c L'] [r:Cv v vs] (g:Nat.beq c.length n=true) (s:Nat.ble 1 n=true) (j:vs.length=n) (hb:vs.all gM=true)
  (t:∀i,Hs G i (aN b o vs::L')->k i):cE (Ba h n (pt b o 0) v) k:=by
 have g:=ri g
 refine aWh q r.eq j (by rw[g];simp) hb FB ?_
 grind[fp]
def ax {k:AH->Prop} (q:Hs G h L) [m:eB (aN b o) L c L'] [r:Cv v vs] (t:∀i,Hs G i (aN b o vs::L')->k i) (g:Nat.beq c.length n=true:=by exact rfl) (s:Nat.ble 1 n=true:=by exact rfl) (j:vs.length=n:=by exact rfl) (hb:vs.all gM=true:=by exact rfl):cE (Ba h n (pt b o 0) v) k:=bK q g s j hb t
structure LpX where
 P:Program
 f:FuncId
 p:EW
 n:Nat
 e:Nat->Value
 d:Nat
 st:LoopState
 pd:Option Code
class tN (l:Nat) (L:IB) (x:outParam LpX) (L':outParam (IB)):Prop where
 cH:L.Perm (pG x.P x.f x.p x.n x.e x.d l (x.st,x.pd)::L')
instance (priority:=low) tN.A3 {l:Nat} {A:HP} {x:LpX} [k:tN l L x L']:tN l (A::L) x (A::L'):=⟨(k.cH.cons A).trans<|List.Perm.swap _ _ _⟩
instance (priority:=high) tN.aL0 {l:Nat} {f:FuncId} {p:EW} {n:Nat} {e:Nat->Value} {d:Nat} {st:LoopState} {pd:Option Code}:tN l (pG P f p n e d l (st,pd)::L) ⟨P,f,p,n,e,d,st,pd⟩ L:=⟨BQ _⟩
instance (priority:=high) tN.app {l:Nat} {A:HP} {c L2:IB} {x:LpX} [k:tN l (A::(c++L2)) x L']:tN l ((A::c)++L2) x L':=k
instance (priority:=high) tN.aTj {l:Nat} {L2:IB} {x:LpX} [k:tN l L2 x L']:tN l ([]++L2) x L':=k
def tN.of {l:Nat} {x:LpX} [k:tN l L x L'] (c:Hs G h L):Hs G h (pG x.P x.f x.p x.n x.e x.d l (x.st,x.pd)::L'):=c.cH k.cH
section
variable {e:Nat->Value} {d l:Nat} {pd:Option Code}
def lJ {k:AH->Prop} (i:Hs G h L) [m:tN l L ⟨P,f,p,n,e,d,st,pd⟩ L'] (g:∀c,Hs G c (pG P f p n e d l (st',pd')::L')->k c):cE (fJ h l st'<|some pd') k:=aUl (show Hs G h (pG P f p n e d l (st,pd)::L') from m.of i) g
def kY {k:AH->Prop} (i:Hs G h L) [m:tN l L ⟨P,f,p,n,e,d,.ready,pd⟩ L'] (g:∀c,Hs G c (pG P f p n e d l (.busy,pd)::L')->k c):cE (qJ h l) k:=aMw (show Hs G h (pG P f p n e d l (.ready,pd)::L') from m.of i) g
def qZ {k:Option Code×AH->Prop} (i:Hs G h L) [m:tN l L ⟨P,f,p,n,e,d,.ready,pd⟩ L'] (g:∀c,Hs G c L'->k (pd,c)):cE (zV h l) k:=
 aHs (P:=P) (f:=f) (p:=p) (n:=n) (e:=e) (d:=d) (st:= .ready) (pd:=pd) (k:=fun a b=>k (a,b)) (show Hs G h (pG P f p n e d l (.ready,pd)::L') from m.of i) FC g
def aB6 {k:Nat->Prop} (g:Hs G h L) [m:tN l L ⟨P,f,p,n,e,d,st,pd⟩ L'] (c:k d):cE (kI h l) k:=aIx (P:=P) (f:=f) (p:=p) (n:=n) (e:=e) (d:=d) (st:=st) (pd:=pd) (show Hs G h (pG P f p n e d l (st,pd)::L') from m.of g) c
def yH (c:Hs G h L) [m:tN l L ⟨P,f,p,n,e,d,st,pd⟩ L']:h.get l=some (lp P f p n e d st pd):=aYa<|show Hs G h (pG P f p n e d l (st,pd)::L') from m.of c
end
theorem zd {c:Nat} (q:Hs G h (dY W e a c (n,cs)::L)):nE h W n (.slice a n c)=some cs:=by
 have E:=q.Hk;simp only at E;by_cases t:n=0;subst t;have:cs=[]:=FB;subst this;cases a<;>simp[nE];obtain⟨b,o,rfl,H,s,_⟩:=q.uZ FA;simp only[nE,bA0 t,b0,ew];by_cases A:n*W=0;have:cs=[]:=FB;obtain⟨r,T,F,I,S,D,i⟩:=q.fst;rcases F.2.2 with⟨J,_⟩|⟨J,_⟩|⟨v,O,N,z,ex,B,hle,m⟩;grind;grind;cases B;subst m;obtain⟨C,g⟩:=O4 D i;simp only[eE,dn,aO,dd,g,A];grind;obtain⟨C,Q,R,U,g,hle,u⟩:=s.cells FA;simp only[eE,dn,aO,dd,g];rw[aac];congr 1;refine q6 fun j=>?_;grind
variable {a2:EX}
theorem tG {bytes:Nat} {c c2:Nat} {k:Value×AH->Prop} (r:Hs G h L) [t:eB (dY W e a c) L (n,cs) L'] [u:eB (dY W e a2 c2) L' (m,ns) M] (i:(n+m)*(bytes+1)<=2^46)
  (s:∀j o q,Hs G q (dY W e j o (n+m,cs++ns)::L')->k (.slice j (n+m) o,q)):cE (oL W bytes e h (.slice a n c)<|.slice a2 m c2) k:=by
 have g:=u.of (t.of r).tail
 exact aPw (k:=fun x y=>k (x,y)) r vE (zd g) g.Gv g.Hk i s
def Hs.bF (A:HP) (c:Hs G h L) [k:fU A L L']:Hs G h (A::L'):=c.cH k.cH
def Hs.dC (A B:HP) (c:Hs G h L) [k:fU A L L'] [g:fU B L' M]:Hs G h (A::B::M):=c.cH<|k.cH.trans<|g.cH.cons A
structure aVw (W:Nat) (e:TypeId) (a:EX) (cap n b o:Nat) where
 p:HP
 vL:∀{G:Bg} (h':AH) (cs':EU) (M:IB),cs'.length=n*W->cs'.all gM=true->Hs G h' (aN b o cs'::p::M)->Hs G h' (dY W e a cap (n,cs')::M)
def gJ (_:Bg) (W:Nat) (e:TypeId) (a:EX) (cap n b o:Nat):HP:=A5 fun H:aVw W e a cap n b o=>H.p
theorem Hs.jV (g:Hs G h (dY W e a cap (n,cs)::L)) (i:0<n):
  ∃b o,a=some ⟨b,o,none⟩/\Hs G h (aN b o cs::gJ G W e a cap n b o::L):=by
 have q:=g.Hk
 obtain⟨b,o,j,H,c,m⟩:=g.uZ i
 exact⟨b,o,j,Hs.pS<|Hs.Cn ⟨H,FB⟩ c.pS⟩
theorem Hs.rQ (c:Hs G h (aN b o cs::gJ G W e a cap n b o::L)) (i:cs.length=n*W) (hc:cs.all gM=true):Hs G h (dY W e a cap (n,cs)::L):=by
 obtain⟨⟨H,g⟩,c⟩:=Hs.Fl c.pS;exact g _ _ _ i hc c.pS
theorem yn {c:Nat->EU} (hc:∀i,(c i).length=W):∀(n:Nat) (L:IB),Hs G h (aN b o ((List.range n).flatMap c)::L)->Hs G h (eP n (fun i=>aN b (o+i*W)<|c i)::L):=by
 intro n;induction n with
 |zero=>intro L g;exact Hs.jc g.tail
 |succ n r=>
  intro L g;rw[dx,l9] at g;have q:∀m,((List.range m).flatMap c).length=m*W:=fun m=>by
   induction m with
   |zero=>simp
   |succ m j=>grind[List.range_succ,List.length_append]
  have g:=g.split;grind[Hs.gq,Hs.pS]
theorem aOg {c:Nat->EU} (hc:∀i,(c i).length=W) (_:0<W):∀(n:Nat) (L:IB),0<n->Hs G h (eP n (fun i=>aN b (o+i*W)<|c i)::L)->Hs G h (aN b o ((List.range n).flatMap c)::L):=by
 intro n;have q:∀m,((List.range m).flatMap c).length=m*W:=fun m=>by
  induction m with
  |zero=>simp
  |succ m j=>grind[List.range_succ,List.length_append]
 induction n with
 |zero=>grind
 |succ n r=>
  intro L _ g;have g:=g.fQ;rw[dx,kt,ef] at g;have g:Hs G h (eP n _::aN b _ _::L):=Hs.nY g;rw[dx,l9];grind[Nat.eq_zero_or_pos,Hs.Qw]
theorem Hs.S2 {f g:Nat->HP}:∀(n:Nat) (L:IB),(∀i,i<n->∀h L,Hs G h (f i::L)->Hs G h (g i::L))->Hs G h (eP n f::L)->Hs G h (eP n g::L):=by
 intro n;induction n with
 |zero=>intro L _ c;exact Hs.jc c.tail
 |succ n m=>
  intro L j c;have c:=c.fQ;rw[dx,kt,ef] at c;exact Hs.gq<|j n FA _ _ (m _ FB<|Hs.nY c).pS
theorem Hs.aRo {f g k:Nat->HP} (j:∀i h L,Hs G h (f i::g i::L)->Hs G h (k i::L)):∀(n:Nat) (L:IB),Hs G h (eP n f::eP n g::L)->Hs G h (eP n k::L):=by
 intro n;induction n with
 |zero=>intro L c;exact Hs.jc c.tail.tail
 |succ n m=>
  intro L c;have c:=c.fQ;rw[dx,kt,ef] at c;have c:Hs G h (eP n f::f n::eP _ g::L):=Hs.nY c;have c:Hs G h (eP (n+1) g::f n::eP n f::L):=c.to;have c:=c.fQ;rw[dx,kt,ef] at c;have c:Hs G h (eP n g::g n::f n::eP n f::L):=Hs.nY c;have c:Hs G h (eP n f::eP n g::f n::g n::L):=c.to;exact Hs.gq<|j n _ _<|(m _ c).to
def ze (c:i<n) (j:l[i]?=some v) (g:k v):cE (Xn n 1 (.agg ⟨l⟩)<|I i) k:=⟨v,by simp[Xn,c,j],g⟩
theorem kS {c:Nat} (m:i<n) (g:k (pt b o<|j+i*c)):cE (vS n c (pt b o j)<|I i) k:=⟨_,by grind[vS,fA,pt,Nat.add_assoc],g⟩
theorem aHk {bytes:Nat} {k:Nat×Nat->Prop} (g:n<=2^40) (hb:bytes*n<=2^47) (c:k (n,n)):cE (Qe bytes (I n)<|I n) k:=⟨_,by grind[Qe],c⟩
def kR (r:Hs G h L) [m:eB (aN b o) L c L'] (q:0<n) (hc:(c.drop j).take n=l) (i:l.length=n) (g:k (.agg ⟨l⟩)):cE (zJ h n<|pt b o j) k:=bB r q hc i g
theorem aTq (q:Hs G h L) (m:Ob G b c) (i:c.length=n) (g:k (.agg ⟨c⟩)):cE (zJ h n<|.pointer<|some ⟨b,0,none⟩) k:=
 qw (o:=0) (j:=0) q m FB i FF g
def bD {α:Type} (f:Nat->α) (i:Nat) (v:α):Nat->α:=fun j=>if j=i then v else f j
theorem dJ {f:Nat->α} {v:α}:bD f i v i=v:=by simp[bD]
theorem bO {f:Nat->α} {v:α} (h:j≠i):bD f i v j=f j:=by simp[bD,h]
theorem xO {c:Nat->EU} (hc:∀i,(c i).length=W) (m:Nat):((List.range m).flatMap c).length=m*W:=by
 induction m with
 |zero=>simp
 |succ m g=>grind[List.range_succ,List.length_append]
theorem aMh {c:Nat->EU} (hc:∀i,(c i).length=W):∀(n:Nat),i<n->∃j g,(List.range n).flatMap c=j++(c i++g)/\j.length=i*W/\∀x,(List.range n).flatMap (bD c i x)=j++(x++g):=by
 intro n;induction n with
 |zero=>grind
 |succ n r=>
  intro h;by_cases q:i=n;refine⟨_,[],?_,xO hc i,fun x=>?_⟩;grind[List.range_succ];grind[List.range_succ,List.map_congr_left,bO,dJ];obtain⟨j,g,s,m,o⟩:=r FA;refine⟨j,g++c n,?_,m,fun x=>?_⟩;grind[List.range_succ];rw[dx,l9,o];simp[bO<|Ne.symm q]
theorem Hs.aGn {c:Nat->EU} (hc:∀i,(c i).length=W) (v:i<n) (g:Hs G h (dY W e a cap (n,(List.range n).flatMap c)::L)):
  ∃b o,a=some ⟨b,o,none⟩/\∃H:HP,Hs G h (aN b (o+i*W) (c i)::H::L)/\∀r x M,x.length=W->x.all gM=true->Hs G r (aN b (o+i*W) x::H::M)->Hs G r (dY W e a cap (n,(List.range n).flatMap<|bD c i x)::M):=by
 have m:=g.Gv
 obtain⟨b,o,u,g⟩:=g.jV FA
 obtain⟨q,j,t,s,C⟩:=aMh hc n v
 rw[t] at g m
 have g:=g.split.pS.split
 rw[s] at g
 refine⟨b,o,u,sp [aN b o q,aN b (o+i*W+(c i).length) j,gJ G W e a cap n b o],?_,?_⟩
 .exact(Hs.nY (A:=[aN b o q,aN b (o+i*W+(c i).length) j,gJ G W e a cap n b o]) g.to).pS
 .intro r x M z B g;have g:Hs G r (aN b (o+i*W) x::aN b (o+i*W+(c i).length) j::aN b o q::gJ G W e a cap n b o::M):=(g.pS.fQ).to;have g:=Hs.Qw g (by rw[z,hc]);have g:=Hs.Qw g.pS (by rw[s]);grind[Hs.rQ,xO,bD]
variable {c':EU}
def Hs.sg (g:Hs G h L) [m:eB (aN b o) L c' L'] (hc:c'=c):Hs G h (aN b o c::L'):=by subst hc;exact m.of g
theorem Hs.qN (f g:Nat->HP) (m:i<n) (r:∀j,j<n->j≠i->g j=f j) (q:Hs G h L) [k:fU (g i) L L'] [t:fU (sp<|((List.range n).erase i).map f) L' M]:Hs G h (eP n g::M):=by
 have c:=((q.dC (g i)<|sp<|((List.range n).erase i).map f).cH<|List.Perm.swap _ _ _).fQ;have o:((List.range n).erase i).map f=((List.range n).erase i).map g:=sz fun j s=>by
  grind[List.Nodup.not_mem_erase,List.nodup_range]
 rw[o] at c;exact(c.cH<|(DA.trans<|(To m).symm.append_right M)).nY
theorem Yi {bytes:Nat} {a:Int} {k:Nat×Nat->Prop} (g:0<=a) (i:a<=2^40) (hb:bytes*a<=2^47) (c:k (a.toNat,a.toNat)):cE (Qe bytes (I a)<|I a) k:=⟨_,by grind[Qe],c⟩
theorem lB (z:EU) (n:Nat):iE z n=(List.range n).flatMap fun _=>z:=by
 induction n with
 |zero=>rfl
 |succ n c=>grind[List.range_succ,iE,List.replicate_succ']
theorem zT {c:Nat->EU} (hc:∀i,(c i).all gM=true) (n:Nat):((List.range n).flatMap c).all gM=true:=by
 grind
def Hs.T3 (m:z.length=W) (g:0<n) (c:Hs G h (dY W e a cap (n,iE z n)::L)):∃b o,a=some ⟨b,o,none⟩/\Hs G h (eP n (fun i=>aN b (o+i*W) z)::gJ G W e a cap n b o::L):=by
 obtain⟨b,o,j,c⟩:=c.jV g;rw[lB] at c;exact⟨b,o,j,yn (fun _=>m) n _ c⟩
def Hs.dR {c L2 g:IB} (A B C:HP) (i:Hs G h L) [k:fU A L c] [j:fU B c L2] [m:fU C L2 g]:Hs G h (A::B::C::g):=i.cH<|k.cH.trans<|(j.cH.trans<|m.cH.cons B).cons A
theorem aQ4 (q:Hs G h L) [m:eB (aN b o) L c L'] (hc:c[i+j]?=some v) (g:k v):cE (xE h<|pt b (o+i) j) k:=by
 have:pt b (o+i) j=pt b o (i+j):=by simp only[pt];rw[DD]
 grind[aE]
def aHf {a b c d:Bool} (i:k (.bool<|a||b||c||d)) {g:Bool} (hc:g=true:=by kernel_rfl):bu g [1,1,1,1] .neq (.agg ⟨[.bool a,.bool b,.bool c,.bool d]⟩) (.agg ⟨[.bool false,.bool false,.bool false,.bool false]⟩) k:=
 ⟨hc,_,by cases a<;>cases b<;>cases c<;>cases d<;>rfl,i⟩
theorem Ag {f:Nat->α} {v w:α}:bD (bD f i v) i w=bD f i w:=by grind[bD]
theorem zg:∀(l:EU),(∀v∈l,uG v v=true)->S7 l l=true
 |[],_=>by simp[S7]
 |a::l,h=>by simp only[S7,h a FB,AK];exact zg l FB
theorem uW (h:∀v∈l,uG v v=true):uG (.agg ⟨l⟩) (.agg ⟨l⟩)=true:=by
 grind[uG,bq,zg]
theorem Yg {r:eJ} (c:Hs G h ((fun q=>q=r)::L)) (i:dY W e a cap x r):Hs G h (dY W e a cap x::L):=
 Hs.Dl (A:=[_]) c fun q g=>by
  grind[gf]
theorem aFr {c:Nat} (i:Hs G h L) [m:eB (dY W e a c) L (n+1,cs) L'] (J:∀O Q,Hs G h (dY W e O Q (n,cs.drop W)::L')->k (.slice O n Q)):cE (Fs W h (.slice a (n+1) c) (some<|I 1) none none) k:=by
 have i:=m.of i;obtain⟨r,S,⟨hl,Z,X⟩,v,B,F,o⟩:=i.fst;rcases X with⟨N,_⟩|⟨N,_⟩|⟨t,b,g,j,ex,rfl,hle,z⟩;simp at N;simp at N;simp only at t hle z;subst z;obtain⟨Y,T⟩:=O4 F o;have D:sW (some<|I 1) 0 (n+1)=some 1:=by simp only[sW];grind
 have C:sW none c c=some c:=rfl;have E:sW none (n+1) c=some _:=rfl;by_cases s:c=1;have U:n=0:=FA
 subst s;subst U;have hex:xI h b=some ex:=by simp only[xI,T]
 have u:cs.drop W=[]:=FB;cases ex with
 |true=>
  refine⟨zR,by simp only[Fs,C,D,E,AA,dn,p9,aO,dd,hex];simp,J _ _ ?_⟩;rw[u];refine Hs.Dl (A:=[]) i.tail fun q V=>⟨FF,rfl,.inl ⟨rfl,V,rfl,FB⟩⟩
 |false=>
  refine⟨Hw ⟨b,g.length+1*W,none⟩,by simp only[Fs,C,D,E,AA,dn,p9,aO,dd,hex,fA];simp,J _ _ ?_⟩;rw[u];refine Yg ⟨i.base,i.old,i.wf,i.fr,_,⟨_,S,rfl,v,B,rfl⟩,(eJ.jC B).2 ⟨F,o⟩⟩<|⟨FF,rfl,.inr<|.inl ⟨rfl,rfl,b,g.length+1*W,_,rfl,?_,rfl⟩⟩;grind
 refine⟨.slice (some ⟨b,g.length+1*W,none⟩) n<|c - 1,?_,J _ _ ?_⟩;simp only[Fs,C,D,E,AA,dn,p9,aO,dd,s,fA];grind;have R:g++cs++j=(g++cs.take W)++cs.drop W++j:=FF
 have e2:(g++cs.take W).length=g.length+1*W:=by
  grind
 refine Yg ⟨i.base,i.old,i.wf,i.fr,_,⟨_,S,rfl,v,B,rfl⟩,(eJ.jC B).2 ⟨F,o⟩⟩ (⟨FB,FB,.inr<|.inr ⟨FB,b,_,j,ex,by rw[e2],?_,by rw[<-R]⟩⟩);rw[<-R,e2];have:c*W=(c - 1)*W+W:=by rw[<-ux];congr 1;omega
 omega
theorem R6 (s:Hs G h L) [m:eB (aN b o) L c L'] (r:0<n) (hc:(c.drop<|i+j).take n=l) (q:l.length=n) (g:k (.agg ⟨l⟩)):cE (zJ h n<|pt b (o+i) j) k:=by
 have:pt b (o+i) j=pt b o (i+j):=by simp only[pt];rw[DD]
 grind[bB]
end Go.Ab
namespace Go.Ab
variable {K:FuncId->EU->IE} {h:AH}
theorem aRw {g:FuncId} {args:EU} (r:K f args=some (.fwd g c)) (q:Cl P K g c h fun v i=>Wt v=true/\Q v i):Cl P K f args h Q:=by
 obtain⟨n,⟨o,j⟩,t,s,m⟩:=q;exact⟨n+1,(⟨.vV,[],[],o.v⟩,j),by show sU _ _ _ _ _ _=_;simp_all[sU,ew],m⟩
end Go.Ab
variable {t:TypeId} {g:List (Option IntKind)} {w:World} {base:Nat} {spare:Nat->Bool} {held:Bool} {gl old:Nat->II}
namespace Go.Ab
open Go.RowKit
variable {H:Type}
section
def san:Value->Value
 |.int k n=> .int k n
 |.bool b=> .bool b
 |_=>top
def y9 {ρ:nL}:∀l:EU,bV ρ (l.map san) l
 |[]=>rfl
 |v::l=>by
  refine bV.cons ?_<|y9 l;cases v<;>simp[san,top,aR]
def S3:∀{g:List (Option IntKind)} {l:EU},rL g l->l.map san=l
 |[],[],_=>rfl
 |none::g,v::l,h=>by
  obtain⟨⟨b,rfl⟩,c⟩:=h;simp[san,S3 c]
 |some k::g,v::l,h=>by
  obtain⟨⟨b,rfl,_⟩,c⟩:=h;simp[san,S3 c]
def oD (c:List (Option IntKind)) (w:World) (a:EX) (len cap:Nat):Prop:=
 (a=none/\len=0/\cap=0)\/(∃x,a=some x/\len=0)\/
 ∃x cc e g,a=some x/\0<len/\x.spot=none/\len<=cap/\w.heap[x.block]?=some (.cells cc e g)/\x.off+len*c.length<=cc.size/\
  ∀i,i<len->rL c ((cc.toList.drop<|x.off+i*c.length).take c.length)
def um {x:Addr} (h:x.spot=none):x.add i=⟨x.block,x.off+i,none⟩:=by
 unfold Addr.add;split;rename_i c;subst c;cases x;subst h;rfl;rfl
variable {enc:TypeId×Value->H}
def N3 {fuel:Nat} {x:DataW H×List MemPlace} (Z:P.underlying t=some (.slice e)) (V:yY P n e=some g) (hc:P.cellsOf e=g.length) (U:0<g.length)
  (h:DataW.trod enc P w base spare held fuel t cs=some x):∃a len s,cs=[.slice a len s]/\oD g w a len s:=by
 rcases EH Z h with⟨rfl,_⟩|⟨a,len,s,elems,rest,m,_,rfl,_,D,X,hm,S,O,_,_⟩
 .exact⟨none,0,0,rfl,.inl ⟨rfl,rfl,rfl⟩⟩
 refine⟨some a,len,s,rfl,?_⟩
 rcases AY len with J|J
 .exact .inr (.inl ⟨a,rfl,J⟩)
 refine .inr<|.inr ?_
 have each:∀i,i<len->∃c:EU,rL g c/\c.length=g.length/\∀j,j<g.length->w.cell? ((a.add<|i*g.length).add j)=c[j]?:=by
  intro i E;have R:=O i E;rw[bj FA,hc,BP] at R;obtain⟨c,q,hy⟩:=R;refine⟨c,Wc n V hy,?_,fun j z=>?_⟩;unfold World.cells? at q;split at q;simpa using(mapM_some_length q);cases q;unfold World.cells? at q;split at q;exact mapM_some_get q j j (by simp[z]);cases q
 obtain⟨c0,W,Y,N⟩:=each 0 J
 have r:=N 0 U
 rw[bj FA] at r
 obtain⟨cc,T,B,D,I⟩:∃cc e B,w.heap[a.block]?=some (.cells cc e B)/\a.spot=none:=by
  have Q:(a.add<|0*g.length).add 0=a:=by rw[DP];rfl
  rw[Q] at r;unfold World.cell? at r;split at r;rename_i c e B D;split at r;cases r;rename_i I;exact⟨c,e,B,D,by simpa using I⟩;cases r
 have u:∀o,w.cell? ⟨a.block,o,none⟩=cc[o]?:=by
  intro o;unfold World.cell?;rw[D];simp
 have C:∀i,i<len->∃c:EU,rL g c/\c.length=g.length/\∀j,j<g.length->cc[a.off+i*g.length+j]?=c[j]?:=by
  intro i E;obtain⟨c,F,v,z⟩:=each i E;refine⟨c,F,v,fun j A=>?_⟩;rw[<-z j A,um I,um rfl];exact(u _).symm
 refine⟨a,cc,T,B,rfl,J,I,X,D,?_,?_⟩
 .obtain⟨c,F,v,z⟩:=C (len - 1) FA;have:=z (g.length - 1) FA;rw[bj FA] at this;have h2:=(hY.1 this).1;have:len*g.length=(len - 1)*g.length+g.length:=by
   conv=>lhs;rw[show len=(len - 1)+1 by omega,ux]
  omega
 .intro i E;obtain⟨c,F,v,z⟩:=C i E;have:(cc.toList.drop<|a.off+i*g.length).take g.length=c:=by
   apply q6;intro j;rw[List.getElem?_take];split;rename_i A;rw[BV,BA,z j A];rw[z1 FA]
  rw[this];exact F
def zE (G:Bg) (W:Nat) (v:Value) (n:Nat) (at':Nat->EU):Prop:=∃a c,v= .slice a n c/\∀i,i<n->∃b o cells,a=some ⟨b,o,none⟩/\Ob G b cells/\(cells.drop<|o+i*W).take W=at' i/\o+i*W<=cells.length
abbrev OB:=II×Option (Nat×(Nat×Nat))
abbrev IS:=List OB
def aBk (P:Program) (w:World) (r:OB):Prop:=
 (∀o,r.1=some o->∀b s,r.2=some (b,s)->∃c,w.heap[b]?=some c/\∀ρ,Ca P ρ s o c)/\(∀b s,r.2=some (b,s)->b<w.heap.size)
def Ph (g:Nat) (gl:Nat->II) (rs:IS):Nat->II:=fun i=>if i<g then gl i else(rs[i - g]?).bind (·.1)
def Jn (g:Nat) (rs:IS):nL:=fun i=>if i<g then some (i,(0,0)) else(rs[i - g]?).bind (·.2)
def aUr (P:Program) (g:Nat) (gl:Nat->II) (w:World):Prop:=∀i o,i<g->gl i=some o->∃c,w.heap[i]?=some c/\∀ρ,Ca P ρ (0,0) o c
def aHz {g:Nat} {rs:IS} {r:OB} (h:rs[i]?=some r):Ph g gl rs (g+i)=r.1:=by unfold Ph;rw[aaa,show g+i - g=i by omega,h];rfl
def Am {g:Nat} {rs:IS} {r:OB} (h:rs[i]?=some r):Jn g rs (g+i)=r.2:=by unfold Jn;rw[aaa,show g+i - g=i by omega,h];rfl
def aKa {g:Nat} {rs:IS} (h:i<g):Ph g gl rs i=gl i:=by unfold Ph;rw[bA1 h]
def aH4 {base:Nat}:Hs ⟨base,old,base⟩ (Go.Ab.Bz base old) [] where
 base:=⟨rfl,b0 _⟩
 old:=fun i c=>by rw[AH.O6];exact bA1 c
 wf:=b0 _
 fr:=fun i c=>by rw[Dj,bA0<|ET.2<|show base<=i from c]
 V2:=⟨eJ.Ro,rfl,⟨fun b o v h=>FY,fun b h=>FY,fun b e x n h=>FY,fun b o h=>FY⟩⟩
end
def Gg (f:DataW H->IN) (w:Nat):List (DataW H)->IN
 |[]=>some []
 |d::g=>match f d with
  |some c=>if c.length=w then(Gg f w g).map (c++·) else none
  |none=>none
def Er (f:TypeId->DataW H->IN) (w:TypeId->Nat):List Field->List (DataW H)->Nat->IN
 |[],[],_=>some []
 |x::i,d::g,o=>match f x.type d with
  |some c=>if x.offset=o/\c.length=w x.type then(Er f w i g<|o+c.length).map (c++·) else none
  |none=>none
 |_,_,_=>none
def Ub (P:Program):Nat->TypeId->DataW H->IN
 |0,_,_=>none
 |n+1,t,d=>match P.underlying t,d with
  |some (.int _),.lit (.int k m)=>some [.int k m]
  |some .bool,.lit (.bool b)=>some [.bool b]
  |some .string,.lit (.string s)=>some [.string ⟨s.toArray⟩]
  |some (.array _ e),.agg c=>match Gg (Ub P n e) (P.cellsOf e) c with
   |some l=>if l.length=P.cellsOf t then some l else none
   |none=>none
  |some (.struct g),.agg c=>match Er (Ub P n) P.cellsOf g.toList c 0 with
   |some l=>if l.length=P.cellsOf t then some l else none
   |none=>none
  |_,_=>none
def S4 {f:DataW H->IN} {w:Nat}:∀{c:List (DataW H)} {l:EU},Gg f w c=some l->l.length=c.length*w
 |[],l,h=>by simp[Gg] at h;subst h;simp
 |d::c,l,h=>by
  unfold Gg at h;split at h;split at h;rename_i g;simp only[cg] at h;obtain⟨r,i,rfl⟩:=h;simp[S4 i,g,ux];omega;cases h;cases h
def X6 {f:DataW H->IN} {w:Nat} {T:EU->Option (DataW H×List MemPlace)} (o:∀c x l,T c=some x->f x.1=some l->c=l):∀(xs:List (DataW H×List MemPlace)) (cs l:EU),
    Gg f w (xs.map (·.1))=some l->cs.length=xs.length*w->(∀i,i<xs.length->T ((cs.drop<|i*w).take w)=xs[i]?)->cs=l
 |[],cs,l,h,g,_=>by simp[Gg] at h;subst h;exact g6 HO
 |x::xs,cs,l,h,g,m=>by
  simp only[kd,Gg] at h;split at h;rename_i c s;split at h;simp only[cg] at h;obtain⟨r,t,rfl⟩:=h;have j:=m 0 FF;simp only[DP,l5,r5] at j;have q:=X6 o xs (cs.drop w) r t (by rw[oH,g,hK,ux];omega) fun i u=>by
   have:=m (i+1) FG;rw[AO] at this;rw[sl,<-this,ux,DQ]
  rw[<-ta w cs,o _ _ _ j s,q];cases h;cases h
def Ux {f:TypeId->DataW H->IN} {w:TypeId->Nat} {T:TypeId->EU->Option (DataW H×List MemPlace)} (q:∀t c x l,T t c=some x->f t x.1=some l->c=l) {cs:EU}:∀(fs:List Field) (xs:List (DataW H×List MemPlace)) (o:Nat) (l:EU),
    Er f w fs (xs.map (·.1)) o=some l->(∀(i:Nat) (x:Field),fs[i]?=some x->T x.type ((cs.drop x.offset).take<|w x.type)=xs[i]?)->(cs.drop o).take l.length=l
 |[],[],o,l,h,_=>by simp[Er] at h;subst h;simp
 |[],_::_,_,_,h,_=>by simp[Er] at h
 |_::_,[],_,_,h,_=>by simp[Er] at h
 |y::fs,x::xs,o,l,h,m=>by
  simp only[kd,Er] at h;split at h;rename_i c s;split at h;rename_i g;simp only[cg] at h;obtain⟨r,u,rfl⟩:=h;have j:=q _ _ _ _ (m 0 y rfl) s;rw[g.1,<-g.2] at j;rw[cV,List.take_add,sl,j,(Ux q fs xs (o+c.length) r u fun i z v=>m (i+1) z v)];cases h;cases h
variable {enc:TypeId×Value->H}
def td:∀(n:Nat) {t:TypeId} {cs l:EU} {x:DataW H×List MemPlace} {fuel:Nat},DataW.trod enc P w base spare held fuel t cs=some x->Ub P n t x.1=some l->cs=l:=by
 intro n;induction n with
 |zero=>intro t cs l x fuel _ h;cases h
 |succ n E=>
  intro t cs l x fuel s h;unfold Ub at h;split at h;rename_i j g;obtain⟨m,rfl,o,_⟩:=DataW.trod_int j s;rw[o] at g;cases g;cases h;rfl;rename_i j g;obtain⟨m,rfl,o⟩:=DataW.trod_bool j s;rw[o] at g;cases g;cases h;rfl;rename_i j g;obtain⟨m,rfl,o,_⟩:=DataW.trod_string j s;rw[o] at g;cases g;cases h;rfl;rename_i j g;obtain⟨C,m,_,o,D,B,q⟩:=DataW.trod_array j s;rw[o] at g;cases g;split at h;rename_i r u;split at h;rename_i A;cases h;have:=S4 u;rw[js] at this;exact X6 (T:=DataW.trod enc P w base spare held m _) (fun c y l v z=>E v z) C cs l u (by rw[D,<-A,this]) fun i I=>q i FA;cases h;cases h;rename_i j g;obtain⟨C,m,_,o,D,B,q⟩:=CE j s;rw[o] at g;cases g;split at h;rename_i r u;split at h;cases h;have:=Ux (w:=P.cellsOf) (T:=fun t c=>DataW.trod enc P w base spare held m t c) (fun t c y l v z=>E v z) (cs:=cs) _ C 0 l u fun i y F=>q i y (by rw[<-F,BA]);rw[l5,e6 FA] at this;exact this;cases h;cases h;cases h
def Mf {n:String} {d:DataW Unit}:∀{laid:List (String×DataW Unit)} {ps:List MemPlace},DataW.LaidVars P w laid ps->(n,d)∈laid->
  ∃g t c fuel p,P.globalNamed n=some g/\(P.globals[g]?).map (·.type)=some t/\w.var? P n=some c/\DataW.trod (fun _=>()) P w 0 (fun _=>true) false fuel t c.toList=some (d,p)
 |[],_,_,i=>by cases i
 |(z,v)::r,ps,h,i=>by
  obtain⟨g,t,c,fuel,p,q,j,m,o,s,u,_⟩:=h;rcases eD.1 i with e|e;cases e;exact⟨g,t,c,fuel,p,j,m,o,s⟩;exact Mf u e
def El {laid:List (String×DataW Unit)} {n:String} {d:DataW Unit} {g:Nat} (fuel:Nat) (z:(laid.all fun x=>x.2.handleName?.isNone)=true) (h:laidMetH P laid w) (v:(n,d)∈laid)
  (m:P.globalNamed n=some g) (A:(P.globals[g]?).map (·.type)=some t) (hc:Ub P fuel t d=some l):∃e j,w.heap[g]?=some (.cells ⟨l⟩ e j):=by
 rw[Go.MakeChecks.laidMetH_plain _ _ _ z] at h
 obtain⟨D,B,_⟩:=h
 obtain⟨C,E,o,f,p,q,r,i,s⟩:=Mf B v
 obtain rfl:=Option.some.inj<|m.symm.trans q
 obtain rfl:=Option.some.inj<|A.symm.trans r
 have:=td fuel s hc
 simp only[World.var?,m,u4] at i
 split at i
 .rename_i c e j u;cases i;refine⟨e,j,?_⟩;rw[u];cases o;subst this;rfl
 .cases i
end Go.Ab
namespace Go.Ab
open Go.RowKit Go.ChangeShapes Go.WideShapes Go.ChangeAt
variable {H:Type} {enc:TypeId×Value->H}
def r6 (P:Program) (c:List TypeId):Bool:=c.all fun t=>P.readableRec t&&decide (t<P.types.size)
def Wn {P:Program} (r:laidOutB P=true) {W j:World} (hb:Below W.heap.size W j):∀(c:List TypeId) {vs:EU} {g:List (DataW H)} {ps:List MemPlace},r6 P c=true->
  DataW.TrodAll enc P W 0 (fun _=>true) true c vs g ps->DataW.TrodAll enc P j 0 (fun b=>decide<|b<W.heap.size) true c vs g ps
 |[],vs,g,ps,_,h=>by
  obtain⟨rfl,rfl,rfl⟩:=trodAll_nil h;exact trodAll_mk0
 |t::c,vs,g,ps,i,h=>by
  obtain⟨v,A,d,s,p,q,rfl,rfl,rfl,o,u⟩:=trodAll_cons h;simp only[r6,EE,ep,y0] at i;exact trodAll_cons_mk (Below.trod r i.1.1 i.1.2 o hb<|by obtain⟨m,z⟩:=o;exact DataW.trod_lt m _ _ _ z)<|Wn r hb c i.2 u
def aAe {P:Program} {w:World} {base:Nat} {spare:Nat->Bool} {held:Bool}:∀(g:List TypeId) {vs:EU} {c:List (DataW H)} {ps:List MemPlace},
    DataW.TrodAll enc P w base spare held g vs c ps->c.length=g.length
 |[],vs,c,ps,h=>by obtain⟨rfl,rfl,rfl⟩:=trodAll_nil h;rfl
 |t::g,vs,c,ps,h=>by
  obtain⟨v,m,d,i,p,q,rfl,rfl,rfl,o,j⟩:=trodAll_cons h;simp[aAe g j]
variable {s:ChangeSpec}
def uy {C:Checked} {os:Os} (started:os.Started) {c:Func} {laid:List (String×DataW Unit)} {R:TypeId} {iT handsOn:Bool}
  (Ve:ownKnob C.prog.godebug=none) (o:C.prog.inits.idxOf? f=none) (E:C.prog.funcs[f]?=some c) (F:laidOutB C.prog=true) (I:r6 C.prog c.params.toList=true)
  (A:c.resultTypes= #[R]) (J:C.prog.underlying R=some .bool) (g:s.vars=[])
  (u:∀m:List (DataW H),m.length=c.params.size->s.fn H m={results:=[.lit<|.bool true],args:=m})
  (witness:∃(w:World) (tape:Tape) (i:Input),w.os=os/\(w.forCall tape i).Shaped C.prog/\i.vars=[]/\Input.okWide C.prog (w.forCall tape i) .any w.heap.size f i/\
   ((s.pre enc C.prog c [] false (w.forCall tape i).memory i.args/\laidMetH C.prog laid (w.forCall tape i).memory)/\sizedMet enc C.prog c (OpenSpec.ofChange s) false (w.forCall tape i).memory i.args)/\({}:Assume).holds C.prog (lone (Frame.enter C.prog f i.args .normal) []<|w.forCall tape i))
  (Cm:∀(W:World) (base:Nat) (args:EU) (m:List (DataW H)) (ps:List MemPlace),DataW.TrodAll enc C.prog W 0 (fun _=>true) true c.params.toList args m ps->
   (∀(j:Nat) t v,c.params[j]?=some t->args[j]?=some v->Value.okWide C.prog W .any base t v)->laidMetH C.prog laid W->Calls C.prog f ⟨args⟩ W fun e N=>e= .returned (.bool true)/\Below W.heap.size W N):
  ReturnsInHanded {} C os f .any (fun w args=>(s.pre enc C.prog c [] false w args/\laidMetH C.prog laid w)/\sizedMet enc C.prog c (OpenSpec.ofChange s) false w args) (s.post enc C.prog c false iT handsOn false):=by
 refine returnsInHanded_of_change_and (C:=C) (X:=fun w _=>laidMetH C.prog laid w) (fun _ _ _ Z h=>h.of_heap Z) Ve started o E witness ?_
 intro W base args m gs before B Q _ _ U _
 have D:=Q
 obtain⟨p,q,hA,O,rfl,Y,α⟩:=Q
 rw[g] at O
 obtain⟨rfl,rfl⟩:=trodVars_none O
 have r:=u m (by rw[aAe _ hA];simp)
 obtain⟨args⟩:=args
 refine(Cm W base args m p hA (fun j t v S T=>B j t v S<|by simpa using T) U).mono fun e N ⟨V,z⟩=>?_
 subst V
 refine⟨_,rfl,m,[],_,[],p,[],D,?_,?_,?_,z.frame _,fun h=>FH⟩
 .rw[g7,r,A];exact trodAll_mk1<|shut_bool J _
 .rw[g7,r];exact Wn F z _ I hA
 .rw[g7,r,g];rfl
def lQ {k:IntKind} {c:List (Option IntKind)} (h:rL (some k::c) l):∃(n:Int) (l':EU),l= .int k n::l'/\rL c l':=by
 cases l with
 |nil=>exact h.elim
 |cons v l=>obtain⟨⟨n,rfl,_⟩,h⟩:=h;exact⟨n,l,rfl,h⟩
def Mt (h:rL [] l):l=[]:=by
 cases l with
 |nil=>rfl
 |cons v l=>exact h.elim
def aC7 {W:World} {base:Nat} {d:DataW H} {p:List MemPlace} (o:P.underlying t=some (.slice e)) (s:yY P n e=some g) (hc:P.cellsOf e=g.length) (r:0<g.length)
  (j:Value.okWide P W .any base t v) (h:DataW.Trod enc P W 0 (fun _=>true) true t v d p):∃a len c,v= .slice a len c/\oD g W a len c:=by
 obtain⟨a,len,c,rfl⟩:=okWide_slice o j
 obtain⟨fuel,u⟩:=h
 obtain⟨A,q,m,i,z⟩:=N3 o s hc r u
 obtain⟨rfl,rfl,rfl⟩:=i
 exact⟨_,_,_,rfl,z⟩
end Go.Ab
