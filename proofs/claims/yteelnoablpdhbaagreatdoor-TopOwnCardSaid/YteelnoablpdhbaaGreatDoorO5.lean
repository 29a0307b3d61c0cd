/- A part of the proof. -/
import Derived.Test.YteelnoablpdhbaaGreatDoorO3
import Derived.IntWalk
import Derived.KernelRfl
set_option linter.all false
open Go Go.Ab
variable {B b i j o:Nat} {P:Program} {c d vs:EK} {v:Value} {e:TypeId}
namespace Go.Ab
open Go.RowKit
inductive Tok where
 |iW
 |mt (e:TypeId) (x:Bool) (n:Nat)
 |Eg (b:oU)
structure dQ where
 fK:Nat->Nat->EO
 sB:Nat->Option Tok
def Oz:oU->Bool
 |.cells ..=>false
 |_=>true
structure dQ.In (r:dQ) (B:Nat) (h:AH):Prop where
 fK:∀b o v,r.fK b o=some v->B<=b/\∃c e x,h.get b=some (.cells c e (0,0) x)/\c[o]?=some v
 iW:∀b,r.sB b=some .iW->B<=b/\b<h.next/\h.get b=none
 mt:∀b e x n,r.sB b=some (.mt e x n)->B<=b/\∃c,h.get b=some (.cells c e (0,0) x)/\c.length=n
 Eg:∀b o,r.sB b=some (.Eg o)->B<=b/\h.get b=some o/\Oz o=true
structure dQ.yS (r s:dQ):Prop where
 fK:∀b o,r.fK b o=none\/s.fK b o=none
 sB:∀b,r.sB b=none\/s.sB b=none
def dQ.add (r s:dQ):dQ:=⟨fun b o=>(r.fK b o).or<|s.fK b o,fun b=>(r.sB b).or<|s.sB b⟩
def dQ.N7:dQ:=⟨fun _ _=>none,fun _=>none⟩
variable {r s:dQ}
theorem dQ.X2 (c:∀b o,r.fK b o=s.fK b o) (g:∀b,r.sB b=s.sB b):r=s:=by
 cases r;cases s;grind[dQ.mk.injEq]
variable {α:Type}
theorem P3 {a b:Option α} (h:a=none\/b=none):a.or b=b.or a:=by
 grind
theorem or_none {a b:Option α} (h:a.or b=none):a=none/\b=none:=ES
theorem dQ.yS.symm (d:r.yS s):s.yS r:=⟨fun b o=>(d.fK b o).symm,fun b=>(d.sB b).symm⟩
theorem dQ.add_comm (d:r.yS s):r.add s=s.add r:=dQ.X2 (fun b o=>P3<|d.fK b o) fun b=>P3<|d.sB b
theorem dQ.lC {t:dQ}:(r.add s).add t=r.add (s.add t):=dQ.X2 (fun b o=>by simp[dQ.add,Option.or_assoc]) fun b=>by simp[dQ.add,Option.or_assoc]
theorem dQ.kG {t:dQ}:r.yS (s.add t)↔r.yS s/\r.yS t:=by
 constructor;intro d;refine⟨⟨fun b o=>?_,fun b=>?_⟩,⟨fun b o=>?_,fun b=>?_⟩⟩;rcases d.fK b o with h|h;exact .inl h;exact .inr (or_none h).1;rcases d.sB b with h|h;exact .inl h;exact .inr (or_none h).1;rcases d.fK b o with h|h;exact .inl h;exact .inr (or_none h).2;rcases d.sB b with h|h;exact .inl h;exact .inr (or_none h).2;intro⟨d1,d2⟩;refine⟨fun b o=>?_,fun b=>?_⟩;rcases d1.fK b o with h|h;exact .inl h;rcases d2.fK b o with c|c;grind;grind[dQ.add];rcases d1.sB b with h|h;exact .inl h;rcases d2.sB b with c|c;grind;grind[dQ.add]
theorem dQ.jA:dQ.N7.add r=r:=dQ.X2 (fun _ _=>by simp[dQ.add,dQ.N7]) fun _=>by simp[dQ.add,dQ.N7]
def dQ.jC:dQ.N7.yS r:=⟨fun _ _=> .inl rfl,fun _=> .inl rfl⟩
theorem dQ.gQ {h:AH} (d:r.yS s):(r.add s).In B h↔r.In B h/\s.In B h:=by
 have g:∀b o v,r.fK b o=some v->(r.add s).fK b o=some v:=fun b o v c=>by simp[dQ.add,c]
 have c2:∀b o v,s.fK b o=some v->(r.add s).fK b o=some v:=fun b o v c=>by
  rcases d.fK b o with h|h;grind[dQ.add];grind
 have t1:∀b v,r.sB b=some v->(r.add s).sB b=some v:=fun b v c=>by simp[dQ.add,c]
 have t2:∀b v,s.sB b=some v->(r.add s).sB b=some v:=fun b v c=>by
  rcases d.sB b with h|h;grind[dQ.add];grind
 have c3:∀b o v,(r.add s).fK b o=some v->r.fK b o=some v\/s.fK b o=some v:=fun b o v c=>by
  simp only[dQ.add] at c;cases hr:r.fK b o with
  |none=>grind
  |some u=>grind
 have t3:∀b v,(r.add s).sB b=some v->r.sB b=some v\/s.sB b=some v:=fun b v c=>by
  simp only[dQ.add] at c;cases hr:r.sB b with
  |none=>grind
  |some u=>grind
 constructor;intro i;exact⟨⟨fun b o v c=>i.fK b o v<|g _ _ _ c,fun b c=>i.iW b<|t1 _ _ c,fun b e x n c=>i.mt b e x n<|t1 _ _ c,fun b o c=>i.Eg b o<|t1 _ _ c⟩,
     ⟨fun b o v c=>i.fK b o v<|c2 _ _ _ c,fun b c=>i.iW b<|t2 _ _ c,fun b e x n c=>i.mt b e x n<|t2 _ _ c,fun b o c=>i.Eg b o<|t2 _ _ c⟩⟩
 intro⟨i,j⟩;refine⟨fun b o v c=>?_,fun b c=>?_,fun b e x n c=>?_,fun b o c=>?_⟩;rcases c3 _ _ _ c with h|h;exact i.fK b o v h;exact j.fK b o v h;rcases t3 _ _ c with h|h;exact i.iW b h;exact j.iW b h;rcases t3 _ _ c with h|h;exact i.mt b e x n h;exact j.mt b e x n h;rcases t3 _ _ c with h|h;exact i.Eg b o h;exact j.Eg b o h
abbrev HP:=dQ->Prop
abbrev HL:=List HP
def uE:HL->dQ->Prop
 |[],r=>r=dQ.N7
 |A::L,r=>∃c g,A c/\uE L g/\c.yS g/\r=c.add g
variable {L L':HL}
theorem J9 (p:L.Perm L'):∀r,uE L r->uE L' r:=by
 induction p with
 |nil=>grind
 |cons A _ v=>exact fun r ⟨i,m,c,o,g,j⟩=>⟨i,m,c,v _ o,g,j⟩
 |swap A B L=>
  intro r ⟨i,m,c,⟨r3,C,q,s,t,u⟩,g,j⟩;subst u;obtain⟨d1,d2⟩:=dQ.kG.1 g;refine⟨r3,_,q,⟨i,C,c,s,d2,rfl⟩,dQ.kG.2 ⟨d1.symm,t⟩,?_⟩;grind[dQ.lC,dQ.add_comm]
 |trans _ _ w z=>grind
theorem kA {M:HL}:∀{r},uE (L++M) r↔∃c g,uE L c/\uE M g/\c.yS g/\r=c.add g:=by
 induction L with
 |nil=>intro r;exact⟨fun h=>⟨_,r,rfl,h,dQ.jC,dQ.jA.symm⟩,fun⟨c,g,i,j,m,o⟩=>by cases i;grind[dQ.jA]⟩
 |cons A L v=>
  intro r;constructor;intro⟨c,g,i,j,m,o⟩;obtain⟨r3,u,q,s,t,w⟩:=v.1 j;subst w;obtain⟨d1,d2⟩:=dQ.kG.1 m;exact⟨_,u,⟨c,r3,i,q,d1,rfl⟩,s,(dQ.kG.2 ⟨d2.symm,t.symm⟩).symm,by rw[o,dQ.lC]⟩;intro⟨c,g,⟨r3,u,i,j,m,o⟩,q,s,t⟩;subst o;obtain⟨d1,d2⟩:=dQ.kG.1 s.symm;exact⟨r3,_,i,v.2 ⟨u,g,j,q,d2.symm,rfl⟩,dQ.kG.2 ⟨m,d1.symm⟩,by rw[t,dQ.lC]⟩
structure Bg where
 base:Nat
 old:Nat->HW
 hb:Nat
structure Hs (G:Bg) (h:AH) (L:HL):Prop where
 base:h.base=G.hb/\G.hb<=G.base
 old:∀i,i<G.base->h.get i=G.old i
 wf:G.base<=h.next
 fr:∀i,h.next<=i->h.get i=none
 R3:∃r,uE L r/\r.In G.base h
variable {K:FuncId->EK->HQ} {G:Bg} {h:AH} {M:HL}
def Hs.le (c:Hs G h L):h.base<=G.base:=by rw[c.base.1];exact c.base.2
def Hs.cR (c:Hs G h L) (p:L.Perm L'):Hs G h L':=⟨c.base,c.old,c.wf,c.fr,let⟨r,g,i⟩:=c.R3;⟨r,J9 p r g,i⟩⟩
def Hs.tail {A:HP} (c:Hs G h (A::L)):Hs G h L:=⟨c.base,c.old,c.wf,c.fr,let⟨_,⟨_,o,_,g,i,j⟩,m⟩:=c.R3;⟨o,g,((dQ.gQ i).1<|j▸m).2⟩⟩
theorem Hs.imp {A:HP} {B:HL} (c:Hs G h (A::L)) (k:∀r,A r->uE B r):Hs G h (B++L):=⟨c.base,c.old,c.wf,c.fr,let⟨r,⟨q,s,i,j,m,o⟩,g⟩:=c.R3;⟨r,kA.2 ES,g⟩⟩
def Hs.join {A:HL} {B:HP} (c:Hs G h (A++L)) (k:∀r,uE A r->B r):Hs G h (B::L):=⟨c.base,c.old,c.wf,c.fr,let⟨r,g,q⟩:=c.R3;let⟨i,s,g,j,m,o⟩:=kA.1 g;⟨r,⟨i,s,k i g,j,m,o⟩,q⟩⟩
class dH {α:Type} (R:α->HP) (L:HL) (a:outParam α) (L':outParam (HL)):Prop where
 cR:L.Perm (R a::L')
instance (priority:=low) dH.Rw {α:Type} {R:α->HP} {A:HP} {a:α} [k:dH R L a L']:dH R (A::L) a (A::L'):=⟨(k.cR.cons A).trans<|List.Perm.swap _ _ _⟩
instance (priority:=high) dH.aI4 {α:Type} {R:α->HP} {a:α}:dH R (R a::L) a L:=⟨AB _⟩
instance (priority:=high) dH.app {α:Type} {R:α->HP} {A:HP} {c L2:HL} {a:α} [k:dH R (A::(c++L2)) a L']:dH R ((A::c)++L2) a L':=k
instance (priority:=high) dH.aQ3 {α:Type} {R:α->HP} {L2:HL} {a:α} [k:dH R L2 a L']:dH R ([]++L2) a L':=k
def Kh (b o:Nat) (c:EK):dQ:=⟨fun i g=>if i=b/\o<=g then c[g - o]? else none,fun _=>none⟩
def aG (b o:Nat) (c:EK):HP:=fun r=>r=Kh b o c
def mt (b:Nat) (m:TypeId×Bool×Nat):HP:=fun r=>r=⟨fun _ _=>none,fun c=>if c=b then some (.mt m.1 m.2.1 m.2.2) else none⟩
def ot (b:Nat) (o:oU):HP:=fun r=>r=⟨fun _ _=>none,fun c=>if c=b then some (.Eg o) else none⟩
def frs (c n:Nat) (D:EM):HP:=fun r=>r=⟨fun _ _=>none,fun b=>if c<=b/\b<c+n/\(b - c)∉D then some .iW else none⟩
variable {o':Nat}
theorem uC {g:Nat}:(Kh b o c).fK g o'=if g=b/\o<=o' then c[o' - o]? else none:=rfl
theorem Lp:Kh b o (c++d)=(Kh b o c).add (Kh b (o+c.length) d):=by
 refine dQ.X2 (fun g i=>?_) fun _=>rfl;grind[dQ.add,uC]
theorem zi:(Kh b o c).yS (Kh b (o+c.length) d):=by
 refine⟨fun g i=>?_,fun _=> .inl rfl⟩;grind[uC]
def E1 (r:dQ):aG b o (c++d) r↔uE [aG b o c,aG b (o+c.length) d] r:=by
 constructor;intro t;cases t;exact⟨_,_,rfl,⟨_,_,rfl,rfl,dQ.jC.symm,rfl⟩,by rw[dQ.add_comm dQ.jC.symm,dQ.jA];exact zi,by rw[dQ.add_comm (s:=dQ.N7) dQ.jC.symm,dQ.jA,Lp]⟩;intro⟨w,z,i,⟨r3,A,j,m,v,q⟩,u,g⟩;cases i;cases j;cases m;subst q;rw[dQ.add_comm dQ.jC.symm,dQ.jA] at g;rw[<-Lp] at g;exact g
def Hs.split (g:Hs G h (aG b o (c++d)::L)):Hs G h (aG b o c::aG b (o+c.length) d::L):=g.imp (B:=[_,_]) fun r=>(E1 r).1
theorem Hs.Nn (i:Hs G h (aG b o c::aG b o' d::L)) (g:o'=o+c.length):Hs G h (aG b o (c++d)::L):=by
 subst g;exact Hs.join i fun r=>(E1 r).2
theorem Hs.qx (s:Hs G h (aG b o c::L)) (hc:c[j]?=some v):
  G.base<=b/\∃g e x,h.get b=some (.cells g e (0,0) x)/\g[o+j]?=some v:=by
 obtain⟨_,⟨u,w,i,t,m,q⟩,r⟩:=s.R3
 cases i
 subst q
 exact(((dQ.gQ m).1 r).1.fK b (o+j) v<|by simp_all[uC,aXg])
theorem Hs.cells (q:Hs G h (aG b o c::L)) (m:0<c.length):
  G.base<=b/\∃i e x,h.get b=some (.cells i e (0,0) x)/\o+c.length<=i.length/\∀j,j<c.length->i[o+j]?=c[j]?:=by
 obtain⟨r,i,e,x,s,w⟩:=q.qx<|aL m
 have g:∀j,j<c.length->i[o+j]?=c[j]?:=fun j u=>by
  obtain⟨_,c2,v,B,t,A⟩:=q.qx<|aL u;grind
 refine⟨r,i,e,x,s,?_,g⟩
 have z:=g (c.length - 1) ER
 grind
theorem dQ.In.of {h h':AH} (i:r.In B h) (s:h'.base=h.base) (u:h.next<=h'.next) (t:∀b,(r.sB b≠none\/∃o,r.fK b o≠none)->h'.get b=h.get b):r.In B h' where
 fK:=fun b o v g=>by
  obtain⟨j,c,e,x,m,q⟩:=i.fK b o v g;grind
 iW:=fun b g=>by
  obtain⟨j,m,q⟩:=i.iW b g;grind
 mt:=fun b e x n g=>by
  obtain⟨j,c,m,q⟩:=i.mt b e x n g;grind
 Eg:=fun b o g=>by
  obtain⟨j,m,q⟩:=i.Eg b o g;grind
theorem Hs.dX (t:Hs G h (aG b o c::L)) (hl:j+vs.length<=c.length) (X:vs.all gA=true) (E:0<c.length):
  ∃H,fL h ⟨b,o+j,none⟩ vs=some H/\Hs G H (aG b o (dK c j vs)::L):=by
 obtain⟨S,z,e,x,A,N,I⟩:=t.cells E
 have u:h.base<=b:=hI t.le S
 refine⟨h.set b<|some<|.cells (dK z (o+j) vs) e (0,0) x,?_,?_⟩
 .simp only[fL,dd,Bool.false_or,X,BE,Bool.or_false,A];grind
 .obtain⟨_,⟨r1,F,h1,C,D,Q⟩,R⟩:=t.R3;cases h1;subst Q;obtain⟨i1,i2⟩:=(dQ.gQ D).1 R;have q:∀i,(h.set b _).get i=if i=b then some (.cells (dK z (o+j) vs) e (0,0) x) else h.get i:=fun i=>AH.kP u
  have W:∀k,(dK z (o+j) vs)[k]?=if o+j<=k/\k<o+j+vs.length then vs[k - (o+j)]? else z[k]?:=fun k=>by
   unfold dK;by_cases h1:k<o+j;grind;by_cases C:k<o+j+vs.length;grind;rw[aab,l9 EW];simp only[bj,ll,x4];grind
  have V:∀k,(dK c j vs)[k]?=if j<=k/\k<j+vs.length then vs[k - j]? else c[k]?:=fun k=>by
   unfold dK;by_cases h1:k<j;grind;by_cases C:k<j+vs.length;grind;rw[aab,l9 EW];grind
  have J:(Kh b o<|dK c j vs).yS F:=by
   refine⟨fun m r=>?_,fun _=> .inl rfl⟩;rcases D.fK m r with h|h;grind[uC];exact .inr h
  have T:b<h.next:=by
   rcases ts b h.next with h1|h1
   exact h1;rw[t.fr b h1] at A;cases A
  refine⟨by simp;exact t.base,fun i B=>by rw[q,aab];exact t.old i B,by simp;exact t.wf,fun i B=>by simp at B;rw[q,aab];exact t.fr i B,_,⟨_,F,rfl,C,J,rfl⟩,(dQ.gQ J).2 ⟨?_,?_⟩⟩
  .refine⟨fun m r v g=>?_,fun _ w=>by simp[Kh] at w,fun _ _ _ _ w=>by simp[Kh] at w,fun _ _ w=>by simp[Kh] at w⟩;rw[uC] at g;grind
  .have U:∀m r v,F.fK m r=some v->m=b->¬(o+j<=r/\r<o+j+vs.length):=by
    intro m r v g s hk;subst s;rcases D.fK m r with h|h;rw[uC,aae,CA] at h;omega;grind
   refine⟨fun m r v g=>?_,fun m g=>?_,fun m O Z n g=>?_,fun m Y g=>?_⟩
   .obtain⟨g1,c2,e2,x2,g2,g3⟩:=i2.fK m r v g;grind
   .obtain⟨g1,g2,g3⟩:=i2.iW m g;refine⟨g1,by simp;exact g2,?_⟩;grind
   .obtain⟨g1,c2,g2,g3⟩:=i2.mt m O Z n g;refine⟨g1,?_⟩;rw[q];by_cases s:m=b
    .rw[aXg s];rw[s,A] at g2;cases g2;exact⟨_,rfl,by simp[dK];omega⟩
    grind
   .obtain⟨g1,g2,g3⟩:=i2.Eg m Y g;refine⟨g1,?_,g3⟩;rw[q,aXf<|by grind[Oz]];exact g2
variable {t:Option Tok}
theorem vy {h:AH} (j:r.In B h) (s:h.get i=none) (q:r.sB i=none):
  (⟨fun b o=>if b=i then c[o]? else none,fun b=>if b=i then t else none⟩:dQ).yS r:=by
 refine⟨fun b o=>?_,fun b=>?_⟩
 .by_cases m:b=i
  .right;cases hc:r.fK b o with
   |none=>rfl
   |some v=>obtain⟨_,_,_,_,g,_⟩:=j.fK b o v hc;grind
  grind
 grind
def rY (i:Nat) (c:EK) (t:Option Tok):dQ:=⟨fun b o=>if b=i then c[o]? else none,fun b=>if b=i then t else none⟩
theorem tR {x:Bool}:uE [aG i 0 c,mt i (e,x,c.length)] (rY i c<|some<|.mt e x c.length):=by
 refine⟨_,_,rfl,⟨_,_,rfl,rfl,dQ.jC.symm,rfl⟩,?_,?_⟩;rw[dQ.add_comm dQ.jC.symm,dQ.jA];exact⟨ES,fun _=> .inl rfl⟩;rw[dQ.add_comm dQ.jC.symm,dQ.jA];refine dQ.X2 (fun b o=>?_) fun b=>?_;simp[rY,dQ.add,Kh];simp[rY,dQ.add,Kh]
theorem Hs.lK {x:Bool} (q:Hs G h L):Hs G (h.alloc<|.cells c e (0,0) x) (aG h.next 0 c::mt h.next (e,x,c.length)::L):=by
 obtain⟨r,F,z⟩:=q.R3;have w:=q.fr _<|ba _;have A:r.sB h.next=none:=by
  cases ht:r.sB h.next with
  |none=>rfl
  |some t=>
   cases t with
   |iW=>have:=(z.iW _ ht).2.1;omega
   |mt E H n=>obtain⟨_,_,g,_⟩:=z.mt _ _ _ _ ht;grind
   |Eg o=>obtain⟨_,g,_⟩:=z.Eg _ _ ht;grind
 have D:(rY h.next c<|some<|.mt e x c.length).yS r:=vy z w A;have m:∀j,(h.alloc _).get j=if j=h.next then some (.cells c e (0,0) x) else h.get j:=fun j=>AH.tQ<|hI q.le q.wf
 refine⟨q.base,fun i C=>(by rw[m,aXf<|by have:=q.wf;omega];exact q.old i C),tb q.wf,fun i C=>by simp at C;rw[m,aab];exact q.fr i ER,_,(kA).2 ⟨_,r,tR,F,D,rfl⟩,(dQ.gQ D).2 ⟨?_,?_⟩⟩;refine⟨fun b o v s=>?_,fun b s=>?_,fun b E H n s=>?_,fun b o s=>?_⟩;simp only[rY] at s;split at s;rename_i u;subst u;exact⟨q.wf,c,e,x,ES,s⟩;cases s;grind[rY];simp only[rY] at s;split at s;rename_i u;subst u;cases s;exact⟨q.wf,c,ES,rfl⟩;cases s;grind[rY];refine z.of rfl EV fun b u=>?_;rw[m,aXf];intro B;subst B;rcases u with u|⟨o,u⟩;exact u A;apply u;cases hc:r.fK h.next o with
 |none=>rfl
 |some v=>obtain⟨_,_,_,_,g,_⟩:=z.fK _ o v hc;grind
end Go.Ab
variable {f g:FuncId} {x:Nat×EK} {k:Value->Prop} {W cap m n:Nat} {cs l ns z:EK} {p:EM} {a:EN} {q:Prop} {ps:List (Nat×Nat×Value)} {Q:Value->AH->Prop}
namespace Go.Ab
variable {K:FuncId->EK->HQ} {G:Bg} {h:AH} {L L' M:HL}
variable {α:Type}
def dH.of {R:α->HP} {a:α} (m:dH R L a L') (c:Hs G h L):Hs G h (R a::L'):=c.cR m.cR
def yQ (h:AH) (i:Nat) (e:TypeId) (l:EK) (n c:Nat) (k:Value->AH->Prop):Prop:=F4 h (.cells l e (0,0) true) fun p g=>k (.slice (some ⟨p,0,none⟩) n c) g
def nJ (h:AH) (r:Nat) (i:Nat) (e:TypeId) (l:EK) (n c:Nat) (k:Value->AH->Prop):Prop:=pC h r (.cells l e (0,0) true) fun p g=>k (.slice (some ⟨p,0,none⟩) n c) g
def lp (P:Program) (f:FuncId) (p:EM) (n:Nat) (e:Nat->Value) (d:Nat) (st:LoopState) (pd:Option Code):oU:=
 .loop st pd f ((List.range n).map e) (rgF<|cd P f p).2.1 (rgF<|cd P f p).2.2.1 (rgF<|cd P f p).2.2.2 d
def Hs.W6 (c:Hs G h L) (hb:b<G.base):h.get b=G.old b:=by
 exact c.old b hb
structure Ob (G:Bg) (b:Nat) (c:EK):Prop where
 lt:b<G.base
 get:∃e fz x,G.old b=some (.cells c e fz x)
theorem aD (g:Hs G h L) [m:dH (aG b o) L c L'] (hc:c[j]?=some v) (s:k v):bQ (sA h<|pt b o j) k:=by
 obtain⟨_,i,e,x,r,q⟩:=(m.of g).qx hc;simp_all[sA,pt]
def ai (b:Nat) (g:Hs G h L) [m:dH (aG b 0) L c L'] (hc:c[j]?=some v) (s:k v):bQ (sA h<|pt b 0 j) k:=aD (b:=b) (o:=0) g hc s
theorem Cp (q:Hs G h L) (g:Ob G b c) (hc:c[o+j]?=some v) (m:k v):bQ (sA h<|pt b o j) k:=by
 obtain⟨e,r,x,i⟩:=g.get;exact⟨v,by simp[sA,pt,q.W6 g.lt,i,hc],m⟩
theorem aX (s:Hs G h L) [m:dH (aG b o) L c L'] (z:0<n) (hc:(c.drop j).take n=l) (w:l.length=n) (r:k (.agg ⟨l⟩)):bQ (vD h n<|pt b o j) k:=by
 have g:j+n<=c.length:=by
  grind
 obtain⟨_,t,e,x,q,u,v⟩:=(m.of s).cells ER;refine⟨_,?_,r⟩;simp only[vD,pt,dE,dd,aO,c9,q];rw[aae];simp only[l4,Option.some.injEq,Value.agg.injEq,Array.mk.injEq];refine mn fun i=>?_;grind
def am (b:Nat) (s:Hs G h L) [m:dH (aG b 0) L c L'] (hc:(c.drop j).take n=l) (w:l.length=n) (r:k (.agg ⟨l⟩)) (z:0<n:=by decide):bQ (vD h n<|pt b 0 j) k:=aX (b:=b) (o:=0) s z hc w r
theorem jc (q:Hs G h L) (g:Ob G b c) (hc:(c.drop<|o+j).take n=l) (s:l.length=n) (hb:o+j<=c.length) (m:k (.agg ⟨l⟩)):bQ (vD h n<|pt b o j) k:=by
 obtain⟨e,r,x,i⟩:=g.get;have:=eb List.length hc;simp at this;exact⟨_,by simp[vD,pt,dE,q.W6 g.lt,i,hc];omega,m⟩
def dU:EK->Nat->EK->EK
 |c,0,[]=>c
 |[],0,_::_=>[]
 |_::c,0,v::g=>v::dU c 0 g
 |[],_+1,_=>[]
 |x::c,j+1,g=>x::dU c j g
theorem rO:∀(c:EK) (j:Nat) (vs:EK),j+vs.length<=c.length->dK c j vs=dU c j vs
 |c,0,[],_=>by grind[dK,dU]
 |[],0,_::_,h=>by simp at h
 |x::c,0,v::vs,h=>by
  have:=rO c 0 vs ES;grind[dU,dK]
 |[],j+1,vs,h=>by simp at h
 |x::c,j+1,vs,h=>by
  have:=rO c j vs ES;grind[dU,dK]
theorem aT0 {k:AH->Prop} (r:Hs G h L) [m:dH (aG b o) L c L'] (z:kD v=some vs) (w:vs.length=n) (i:Nat.ble (j+n) c.length=true) (hb:vs.all gA=true) (q:Nat.ble 1 c.length=true)
  (u:∀g,Hs G g (aG b o (dU c j vs)::L')->k g):bQ (vT h n (pt b o j) v) k:=by
 have i:=l7 i
 obtain⟨g,s,t⟩:=(m.of r).dX (j:=j) ER hb<|l7 q
 simp_all[rO,vT,pt]
def bX {k:Nat->AH->Prop} (j:Hs G h L) (i:∀p g,Hs G g (aG p 0 cs::L)->k p g):F4 h (.cells cs e (0,0) true) k:=
 i _ _ (let t:=j.lK (c:=cs) (e:=e) (x:=true);(t.cR<|List.Perm.swap _ _ _).tail)
def aSp {k:Nat->AH->Prop} (i:Hs G h L) (j:kD v=some cs) (g:∀p c,Hs G c (aG p 0 cs::L)->k p c):bQ (nA e v) fun b=>F4 h b k:=
 ⟨.cells cs e (0,0) true,by simp[nA,j],bX i g⟩
def ra (r:Nat) (x:Nat×EM):HP:=frs r x.1 x.2
theorem aJ9 {k:Nat->AH->Prop} (c:Hs G h L) (A:∀r u,Hs G u (ra r (n,[])::L)->k r u):Be h n k:=by
 refine A _ _ ?_;obtain⟨r,z,j⟩:=c.R3;have C:∀i,({h with next:=h.next+n}:AH).get i=h.get i:=fun i=>rfl;refine⟨c.base,c.old,hI c.wf ES,fun i D=>by exact c.fr i ES,_,⟨_,r,rfl,z,?_,rfl⟩,(dQ.gQ ?_).2 ⟨?_,?_⟩⟩;rotate_right;exact j.of rfl ES fun _ _=>rfl;have s:∀b,h.next<=b->r.sB b=none:=fun b m=>by
  cases ht:r.sB b with
  |none=>rfl
  |some t=>
   cases t with
   |iW=>have:=(j.iW _ ht).2.1;omega
   |mt w B n=>obtain⟨_,_,g,_⟩:=j.mt _ _ _ _ ht;rw[c.fr b m] at g;cases g
   |Eg o=>obtain⟨_,g,_⟩:=j.Eg _ _ ht;rw[c.fr b m] at g;cases g
 refine⟨ES,fun b=>?_⟩;grind;have s:∀b,h.next<=b->r.sB b=none:=fun b m=>by
  cases ht:r.sB b with
  |none=>rfl
  |some t=>
   cases t with
   |iW=>have:=(j.iW _ ht).2.1;omega
   |mt w B n=>obtain⟨_,_,g,_⟩:=j.mt _ _ _ _ ht;rw[c.fr b m] at g;cases g
   |Eg o=>obtain⟨_,g,_⟩:=j.Eg _ _ ht;rw[c.fr b m] at g;cases g
 refine⟨ES,fun b=>?_⟩;grind;refine⟨ES,fun b q=>?_,fun b e x n q=>?_,fun b o q=>?_⟩;simp only at q;split at q;rename_i v;have:=c.wf;exact⟨ES,v.2.1,by exact c.fr b v.1⟩;cases q;grind;grind
def R0 (c:Bool) (g:EM) (op:BinOp) (a b:Value) (q:Value->Prop):Prop:=c=true/\bQ (Rz g op a b) q
def Uh (c:Bool) (h:AH) (n:Nat) (k:Nat->AH->Prop):Prop:=c=true/\Be h n k
def bD {c:Bool} {k:Nat->AH->Prop} (j:Hs G h L) (i:∀r g,Hs G g (ra r (n,[])::L)->k r g) (hc:c=true:=by kernel_rfl):Uh c h n k:=⟨hc,aJ9 j i⟩
variable {r:Nat}
theorem Yd {D:EM} (c:i<n) (hD:i∉D):uE [fun q=>q=(⟨fun _ _=>none,fun b=>if b=r+i then some .iW else none⟩:dQ),frs r n (i::D)] ⟨fun _ _=>none,fun b=>if r<=b/\b<r+n/\(b - r)∉D then some .iW else none⟩:=by
 refine⟨_,_,rfl,⟨_,_,rfl,rfl,dQ.jC.symm,rfl⟩,?_,?_⟩;rw[dQ.add_comm dQ.jC.symm,dQ.jA];refine⟨ES,fun b=>?_⟩;grind;rw[dQ.add_comm dQ.jC.symm,dQ.jA];refine dQ.X2 (fun _ _=>rfl) fun b=>?_;simp only[dQ.add];grind
theorem Hs.Mt {D:EM} {x:Bool} (t:Hs G h (frs r n D::L)) (W:i<n) (hD:i∉D):
  Hs G (h.set (r+i)<|some<|.cells c e (0,0) x) (aG (r+i) 0 c::mt (r+i) (e,x,c.length)::frs r n (i::D)::L):=by
 obtain⟨q,⟨r1,O,R,S,C,T⟩,U⟩:=t.R3
 cases R
 subst T
 obtain⟨i1,i2⟩:=(dQ.gQ C).1 U
 obtain⟨q1,q2,F,⟨q3,q4,H,I,X,A⟩,V,J⟩:=Yd (r:=r) W hD
 cases F;cases I
 rw[dQ.add_comm ER,dQ.jA] at A
 subst A
 cases H
 rw[J] at i1 C
 obtain⟨i3,i4⟩:=(dQ.gQ V).1 i1
 obtain⟨fb,Z,Q⟩:=i3.iW (r+i) EV
 obtain⟨d1,d2⟩:=dQ.kG.1 C.symm
 have s:∀j,(h.set _ _).get j=if j=r+i then some (.cells c e (0,0) x) else h.get j:=fun j=>AH.kP<|hI t.le fb
 have m:=(dQ.gQ d2.symm).2 ⟨i4,i2⟩
 have w:((⟨fun _ _=>none,fun b=>if r<=b/\b<r+n/\(b - r)∉(i::D) then some .iW else none⟩:dQ).add O).sB (r+i)=none:=by
  simp only[dQ.add];rw[aXf ES];rcases d1.sB (r+i) with h|h;grind;simp at h
 have z:(rY _ c<|some<|.mt e x c.length).yS _:=vy m Q w
 refine⟨by simp;exact t.base,fun j B=>by rw[s,aab];exact t.old j B,by simp;exact t.wf,fun j B=>by simp at B;rw[s,aab];exact t.fr j B,
    _,(kA (L:=[aG _ 0 c,mt _ (e,x,c.length)])).2 ⟨_,_,tR,⟨_,O,rfl,S,d2.symm,rfl⟩,z,rfl⟩,(dQ.gQ z).2 ⟨?_,?_⟩⟩
 .refine⟨fun b o v N=>?_,fun b N=>?_,fun b Y x' n N=>?_,fun b o N=>?_⟩
  .grind[rY]
  .grind[rY]
  .simp_all[rY]
  grind[rY]
 .refine m.of EV EV fun b u=>?_;rw[s,aXf];intro E;subst E;rcases u with u|⟨o,u⟩
  .exact u w
  .apply u;cases hc:dQ.fK _ _ o with
   |none=>rfl
   |some v=>obtain⟨_,_,_,_,g,_⟩:=m.fK _ o v hc;grind
def aTq {A B:HP} (c:Hs G h (A::B::L)):Hs G h (A::L):=(c.cR<|List.Perm.swap _ _ _).tail
theorem lF {D:EM} {k:Nat->AH->Prop} (j:Hs G h L) [m:dH (ra r) L (n,D) L'] (o:Nat.blt i n=true) (hD:D.contains i=false)
  (g:∀p c,Hs G c (aG p 0 cs::ra r (n,i::D)::L')->k p c):pC h (r+i) (.cells cs e (0,0) true) k:=
 g _ _ (aTq<|Hs.Mt (show Hs G h (frs r n D::L') from m.of j) FY ES)
def aJ7 {D:EM} {k:Nat->AH->Prop} (o:Hs G h L) [m:dH (ra r) L (n,D) L'] (q:kD v=some cs) (g:Nat.blt i n=true) (hD:D.contains i=false)
  (j:∀p c,Hs G c (aG p 0 cs::ra r (n,i::D)::L')->k p c):bQ (nA e v) fun b=>pC h (r+i) b k:=
 ⟨.cells cs e (0,0) true,by simp[nA,q],lF o g hD j⟩
theorem Hs.aO5 {o:oU} (H:Oz o=true) (m:Hs G h L):Hs G (h.alloc o) (ot h.next o::L):=by
 obtain⟨r,F,u⟩:=m.R3;have B:h.get h.next=none:=m.fr _<|ba _
 have z:r.sB h.next=none:=by
  cases ht:r.sB h.next with
  |none=>rfl
  |some t=>
   cases t with
   |iW=>have:=(u.iW _ ht).2.1;omega
   |mt E I n=>obtain⟨_,_,g,_⟩:=u.mt _ _ _ _ ht;grind
   |Eg o=>obtain⟨_,g,_⟩:=u.Eg _ _ ht;grind
 have C:(⟨fun _ _=>none,fun D=>if D=h.next then some (.Eg o) else none⟩:dQ).yS r:=by
  refine⟨ES,fun b=>?_⟩;by_cases q:b=h.next
  grind;grind
 have c:∀j,(h.alloc o).get j=if j=h.next then some o else h.get j:=fun j=>AH.tQ<|hI m.le m.wf
 refine⟨m.base,fun i A=>(by rw[c,aXf<|by have:=m.wf;omega];exact m.old i A),tb m.wf,fun i A=>by simp at A;rw[c,aab];exact m.fr i ER,_,⟨_,r,rfl,F,C,rfl⟩,(dQ.gQ C).2 ⟨?_,?_⟩⟩;refine⟨ES,fun b s=>?_,fun b E I n s=>?_,fun b J s=>?_⟩;grind;grind;simp only at s;split at s;rename_i q;subst q;cases s;exact⟨m.wf,ES,H⟩;cases s;refine u.of rfl EV fun b q=>?_;rw[c,aXf];intro w;subst w;rcases q with q|⟨o,q⟩;exact q z;apply q;cases hc:r.fK h.next o with
 |none=>rfl
 |some v=>obtain⟨_,_,_,_,g,_⟩:=u.fK _ o v hc;grind
theorem Hs.Dz {o o':oU} (O:Oz o'=true) (i:Hs G h (ot b o::L)):h.get b=some o/\h.base<=b/\Hs G (h.set b<|some o') (ot b o'::L):=by
 obtain⟨q,⟨Q,s,h1,C,z,D⟩,E⟩:=i.R3;cases h1;subst D;obtain⟨i1,i2⟩:=(dQ.gQ z).1 E;obtain⟨gb,u,w⟩:=i1.Eg b o EV;have c:∀j,(h.set b _).get j=if j=b then some o' else h.get j:=fun j=>AH.kP<|hI i.le gb
 have H:b<h.next:=by
  rcases ts b h.next with h1|h1
  exact h1;rw[i.fr b h1] at u;cases u
 have J:s.sB b=none:=by rcases z.sB b with h|h;simp at h;exact h
 have I:∀r,s.fK b r=none:=fun r=>by
  cases hc:s.fK b r with
  |none=>rfl
  |some v=>
   obtain⟨_,_,_,_,g,_⟩:=i2.fK _ r v hc;grind[Oz]
 have A:(⟨fun _ _=>none,fun m=>if m=b then some (.Eg o') else none⟩:dQ).yS s:=by
  refine⟨ES,fun m=>?_⟩;by_cases F:m=b;grind;grind
 refine⟨u,hI i.le gb,by simp;exact i.base,fun j t=>by rw[c,aab];exact i.old j t,by simp;exact i.wf,fun j t=>by simp at t;rw[c,aab];exact i.fr j t,_,⟨_,s,rfl,C,A,rfl⟩,(dQ.gQ A).2 ⟨?_,?_⟩⟩;refine⟨ES,fun b B=>?_,fun b N R n B=>?_,fun m r B=>?_⟩;grind;grind;simp_all;refine i2.of EV EV fun m F=>?_;grind
def iI (P:Program) (f:FuncId) (p:EM) (n:Nat) (e:Nat->Value) (d l:Nat) (x:LoopState×Option Code):HP:=ot l<|lp P f p n e d x.1 x.2
def mk (d:Nat) (_:Unit):HP:=ot d<|.vA true
def jM {k:Nat->AH->Prop} (i:Hs G h L) (g:∀d c,Hs G c (mk d ()::L)->k d c):F4 h (.vA true) k:=g _ _<|i.aO5 rfl
variable {st:LoopState} {pd:Option Code}
def kY {e:Nat->Value} {d:Nat} {k:Nat->AH->Prop} (i:Hs G h L) (g:∀l c,Hs G c (iI P f p n e d l (st,pd)::L)->k l c):F4 h (lp P f p n e d st pd) k:=g _ _<|i.aO5 rfl
def kS {k:AH->Prop} (c:k h):bQ (cQ [] h) k:=⟨h,rfl,c⟩
theorem mH {d:Nat} {g:EM} {k:AH->Prop} (o:Hs G h L) [m:dH (mk d) L () L'] (j:∀c,Hs G c L'->bQ (cQ g c) k):bQ (cQ (d::g) h) k:=by
 obtain⟨q,r,i⟩:=Hs.Dz (o':= .vA false) rfl<|show Hs G h _ from m.of o;obtain⟨c,s,t⟩:=j _ i.tail;simp_all[cQ,aXg]
variable {st':LoopState} {pd':Option Code}
theorem aR9 {e:Nat->Value} {d l:Nat} {k:AH->Prop} (j:Hs G h L) [m:dH (iI P f p n e d l) L (st,pd) L'] (i:∀c,Hs G c (iI P f p n e d l (st',pd')::L')->k c):
  bQ (dD h l st'<|some pd') k:=by
 obtain⟨o,q,g⟩:=Hs.Dz (o':=lp P f p n e d st' pd') rfl<|show Hs G h (ot l (lp P f p n e d st pd)::L') from m.of j
 exact⟨_,by simp_all[dD,lp,aXg],i _ g⟩
theorem aJz {e:Nat->Value} {d l:Nat} {k:AH->Prop} (o:Hs G h L) [m:dH (iI P f p n e d l) L (.ready,pd) L'] (j:∀c,Hs G c (iI P f p n e d l (.busy,pd)::L')->k c):
  bQ (mK h l) k:=by
 obtain⟨g,q,i⟩:=Hs.Dz (o':=lp P f p n e d .busy pd) rfl<|show Hs G h (ot l (lp P f p n e d .ready pd)::L') from m.of o
 exact⟨_,by simp only[mK,dD,g,lp];grind,j _ i⟩
def aEn {e:Nat->Value} {d l:Nat} {k:Option Code->AH->Prop} (s:Hs G h L) [m:dH (iI P f p n e d l) L (st,pd) L'] (c:st≠.busy) (q:∀g,Hs G g L'->k pd g):
  bQ (uP h l) fun r=>k r.1 r.2:=by
 obtain⟨i,j,o⟩:=Hs.Dz (o':=lp P f p n e d .exhausted pd) rfl<|show Hs G h (ot l (lp P f p n e d st pd)::L') from m.of s
 refine⟨(pd,_),?_,q _ o.tail⟩
 simp only[uP,i,lp]
 rw[aXf c]
 simp only[dD,i,lp]
 rw[aXg j];rfl
theorem aG8 {e:Nat->Value} {d l:Nat} {k:Nat->Prop} (c:Hs G h L) [m:dH (iI P f p n e d l) L (st,pd) L'] (i:k d):bQ (gY h l) k:=by
 obtain⟨g,_,_⟩:=Hs.Dz (o':= .vA true) rfl<|show Hs G h (ot l (lp P f p n e d st pd)::L') from m.of c;simp_all[gY,lp]
def aV7 {e:Nat->Value} {d l:Nat} (c:Hs G h L) [m:dH (iI P f p n e d l) L (st,pd) L']:h.get l=some (lp P f p n e d st pd):=
 (Hs.Dz (o':= .vA true) rfl<|show Hs G h (ot l (lp P f p n e d st pd)::L') from m.of c).1
def dJ (W:Nat) (e:TypeId) (a:EN) (cap:Nat) (x:Nat×EK):HP:=fun r=>
 x.2.length=x.1*W/\x.2.all gA=true/\
 ((x.1=0/\r=dQ.N7/\cap=0/\(a=none\/∃b o,a=some ⟨b,o,some 1⟩))\/
  (x.1=0/\cap=0/\∃b o i,a=some ⟨b,o,some 2⟩/\o<=i.length/\r=rY b i (some<|.mt e false i.length))\/
  (x.1<=cap/\∃b g c ex,a=some ⟨b,g.length,none⟩/\g.length+cap*W<=(g++x.2++c).length/\r=rY b (g++x.2++c) (some<|.mt e ex (g++x.2++c).length)))
theorem iY (g:Hs G h L):Hs G h (dJ W e none 0 (0,[])::L):=by
 exact Hs.join (A:=[]) g fun r c=>(⟨EV,rfl,.inl ⟨rfl,c,rfl,.inl rfl⟩⟩)
theorem sL {x:Bool} {r:dQ} (h:uE [aG b 0 c,mt b (e,x,c.length)] r):r=rY b c (some<|.mt e x c.length):=by
 obtain⟨A,B,g,⟨r3,C,j,m,s,t⟩,o,q⟩:=h;obtain⟨u,v,g1,⟨w,z,g5,g6,g7,g8⟩,g3,g4⟩:=tR (i:=b) (c:=c) (e:=e) (x:=x);cases g;cases j;cases m;cases g1;cases g5;cases g6;grind
theorem dC {c:Nat} {k:Value->AH->Prop} (o:Hs G h L) (i:l.length=c*W) (m:n=c) (hb:l.all gA=true)
  (j:∀a g,Hs G g (dJ W e (some a) c (n,l)::L)->k (.slice (some a) n c) g):yQ h W e l n c k:=by
 subst m
 refine j _ _ ?_
 refine Hs.join (A:=[_,_]) (o.lK (c:=l) (e:=e) (x:=true)) fun r q=>?_
 exact⟨i,hb,.inr<|.inr ⟨ba _,_,[],[],true,rfl,by simp[i],by grind[sL]⟩⟩
theorem mN {N:Nat} {D:EM} {c:Nat} {k:Value->AH->Prop} (t:Hs G h L) [m:dH (ra r) L (N,D) L'] (u:Nat.blt i N=true) (hD:D.contains i=false) (j:l.length=c*W) (s:n=c) (hb:l.all gA=true)
  (o:∀a g,Hs G g (dJ W e (some a) c (n,l)::ra r (N,i::D)::L')->k (.slice (some a) n c) g):nJ h (r+i) W e l n c k:=by
 subst s
 refine o _ _ ?_
 refine Hs.join (A:=[_,_]) (Hs.Mt (i:=i) (c:=l) (e:=e) (x:=true) (show Hs G h (frs r N D::L') from m.of t) FY ES) fun q v=>?_
 exact⟨j,hb,.inr<|.inr ⟨ba _,_,[],[],true,rfl,by simp[j],by grind[sL]⟩⟩
theorem Hs.fst {A:HP} (g:Hs G h (A::L)):∃r c,A r/\uE L c/\r.yS c/\r.In G.base h/\c.In G.base h:=by
 obtain⟨q,⟨t,c,i,j,m,o⟩,s⟩:=g.R3;grind[dQ.gQ]
def Hs.Eb (g:Hs G h (dJ W e a cap x::L)):x.2.length=x.1*W:=by
 obtain⟨r,_,c,_⟩:=g.fst;exact c.1
def Hs.Dn (g:Hs G h (dJ W e a cap x::L)):x.2.all gA=true:=by
 obtain⟨r,_,c,_⟩:=g.fst;exact c.2.1
theorem Hs.sQ (C:Hs G h (dJ W e a cap (n,cs)::L)) (h0:0<n):
  ∃b o,a=some ⟨b,o,none⟩/\∃H:HP,Hs G h (aG b o cs::H::L)/\∀{G:Bg} I i M,i.length=cs.length->i.all gA=true->Hs G I (aG b o i::H::M)->Hs G I (dJ W e a cap (n,i)::M):=by
 have D:∀b (g c:EK) ex,∀i:EK,i.length=cs.length->∀r,uE [aG b g.length i,fun r=>uE [aG b 0 g,aG b (g.length+cs.length) c,mt b (e,ex,(g++cs++c).length)] r] r↔r=rY b (g++i++c) (some<|.mt e ex (g++i++c).length):=by
  intro b g c ex i Q r;have e1:(g++cs++c).length=(g++i++c).length:=by simp[Q]
  have e2:∀q,uE [aG b 0<|g++i++c,mt b (e,ex,(g++i++c).length)] q->uE [aG b g.length i,fun r=>uE [aG b 0 g,aG b (g.length+cs.length) c,mt b (e,ex,(g++cs++c).length)] r] q:=by
   intro q z;obtain⟨U,E,J,h2,t,h4⟩:=z;have N:=(E1 U).1 J;obtain⟨s1,s2,g1,⟨s3,s4,g2,g3,g4,g5⟩,g6,g7⟩:=N;have F:=(E1 s1).1 g1;cases g3;rw[dQ.add_comm ER,dQ.jA] at g5;subst g5;have u:uE ([aG b 0 g,aG b (0+g.length) i]++([aG b (0+(g++i).length) c]++[mt b (e,ex,(g++i++c).length)])) q:=by
    refine kA.2 ⟨s1,_,F,kA.2 ⟨s2,E,⟨s2,_,g2,rfl,ER,by grind[dQ.add_comm,dQ.N7,dQ.jA]⟩,h2,?_,rfl⟩,?_,?_⟩;rw[g7] at t;exact(dQ.kG.1 t.symm).2.symm;rw[g7] at t;exact dQ.kG.2 ⟨g6,(dQ.kG.1 t.symm).1.symm⟩;grind[dQ.lC]
   have hp:uE ([aG b _ i]++[aG b 0 g,aG b _ c,mt b (e,ex,(g++i++c).length)]) q:=J9 (List.Perm.swap _ _ _) q u;obtain⟨u1,V,X,w2,w3,w4⟩:=kA.1 hp;rw[AQ] at X;obtain⟨v1,v2,x1,x2,x3,Y⟩:=X;cases x2;rw[dQ.add_comm ER,dQ.jA] at Y;subst Y;refine⟨u1,V,x1,⟨V,_,?_,rfl,dQ.jC.symm,by rw[dQ.add_comm (s:=dQ.N7) dQ.jC.symm,dQ.jA]⟩,w3,w4⟩;grind
  constructor;intro B;obtain⟨U,E,J,⟨r3,r4,h5,h6,h7,h8⟩,t,h4⟩:=B;obtain⟨q1,q2,g1,⟨q3,q4,g5,g6,g7,g8⟩,g3,g4⟩:=e2 _<|tR;cases J;cases g1;cases h6;cases g6;have:E=q2:=by
   obtain⟨a1,a2,Z,⟨a3,a4,b2,⟨a5,a6,b3,b4,b5,b6⟩,b7,b8⟩,b9,α⟩:=h5;obtain⟨c1,c2,d1,⟨c3,c4,d2,⟨c5,c6,d3,d4,d5,d6⟩,d7,d8⟩,d9,d10⟩:=g5;cases Z;cases b2;cases b3;cases b4;cases d1;cases d2;cases d3;cases d4;grind
  grind;grind[tR]
 obtain⟨r,E,B,R,T,hi,O⟩:=C.fst
 obtain⟨Q,hc,B⟩:=B
 simp only at Q hc
 rcases B with⟨hz,_⟩|⟨hz,_⟩|⟨v,b,g,c,ex,rfl,hle,S⟩
 .grind
 .grind
 .refine⟨b,_,rfl,fun r=>uE [aG b 0 g,aG b (g.length+cs.length) c,mt b (e,ex,(g++cs++c).length)] r,?_,?_⟩
  .have m:Hs G h ((fun r=>r=rY b (g++cs++c) (some<|.mt e ex (g++cs++c).length))::L):=⟨C.base,C.old,C.wf,C.fr,_,⟨r,E,S,R,T,rfl⟩,(dQ.gQ T).2 ⟨hi,O⟩⟩;exact m.imp fun q z=>(D b g c ex cs rfl q).2 z
  .intro G I i M w j m;refine Hs.join (A:=[_,_]) m fun q z=>?_;refine⟨ES,j,.inr<|.inr ⟨v,b,g,c,ex,rfl,?_,(D b g c ex i w q).1 z⟩⟩;grind
theorem Eo {x:Bool} {r:dQ} (i:(rY b c<|some<|.mt e x c.length).In B h) (g:r.In B h):B<=b/\h.get b=some (.cells c e (0,0) x):=by
 obtain⟨o,s,q,u⟩:=i.mt b e x c.length (by simp[rY]);refine⟨o,?_⟩;rw[q];congr 2;refine mn fun j=>?_;rcases ts j c.length with m|m;obtain⟨_,c2,t,v,g1,g2⟩:=i.fK b j c[j] (by simp[rY,m]);grind;grind
variable {c2:EK}
theorem Hs.aTv {e2:TypeId} {x D:Bool} (s:Hs G h ((fun r=>r=rY b c (some<|.mt e x c.length))::L)):Hs G ((h.set b none).alloc<|.cells c2 e2 (0,0) D) ((fun r=>r=rY h.next c2 (some<|.mt e2 D c2.length))::L):=by
 obtain⟨r,u,A,B,E,q,m⟩:=s.fst;subst A;obtain⟨w,J⟩:=Eo q m;have g:∀j,(h.set b none).get j=if j=b then none else h.get j:=fun j=>AH.kP<|hI s.le w
 have H:∀j,(u.sB j≠none\/∃o,u.fK j o≠none)->j≠b:=by
  intro j F z;subst z;rcases F with t|⟨o,t⟩;rcases E.sB j with h|h;simp[rY] at h;exact t h;rcases E.fK j o with h|h;simp only[rY,e9] at h;cases hc:u.fK j o with
  |none=>exact t hc
  |some v=>
   obtain⟨_,I,_,_,g1,g2⟩:=m.fK j o v hc;grind
  exact t h
 have C:Hs G (h.set b none) L:=by
  refine⟨by simp;exact s.base,fun i q=>by rw[g,aab];exact s.old i q,by simp;exact s.wf,fun i q=>by simp at q;rw[g];split;rfl;exact s.fr i q,u,B,?_⟩;exact m.of EV EV ES
 have:=C.lK (c:=c2) (e:=e2) (x:=D);rw[AH.aEf] at this;exact Hs.join this fun r A=>sL A
theorem sS {c:Nat}:C9 (.slice a n c)=some n:=rfl
theorem aMs {bytes:Nat} {c:Nat} {src:Value} {k:Value->AH->Prop} (w:Hs G h L) [mm:dH (dJ W e a c) L (n,cs) L']
  (v:C9 src=some m) (z:lE h W m src=some ns) (β:ns.all gA=true) (ζ:ns.length=m*W) (J:(n+m)*(bytes+1)<=2^46)
  (hk:∀a' c' h',Hs G h' (dJ W e a' c' (n+m,cs++ns)::L')->k (.slice a' (n+m) c') h'):bQ (kH W bytes e h (.slice a n c) src) fun r=>k r.1 r.2:=by
 have γ:=mm.of w
 obtain⟨r,r2,hr,N,R,E,C⟩:=γ.fst
 obtain⟨hl,hc,hr⟩:=hr
 simp only at hl hc hr
 have u:(!ns.all gA||ns.length !=m*W)=false:=by simp[β,ζ]
 have D:(cs++ns).all gA=true:=ES
 have F:(cs++ns).length=(n+m)*W:=ES
 have B:∀{Z:AH},Hs G Z ((fun r=>r=rY h.next (cs++ns) (some<|.mt e false (cs++ns).length))::L')->Hs G Z (dJ W e (some ⟨h.next,0,none⟩) (n+m) (n+m,cs++ns)::L'):=by
  intro Z hh;refine Hs.join (A:=[_]) hh fun q H=>?_;obtain⟨q1,q2,e1,e2,e3,e4⟩:=H;cases e1;cases e2;rw[dQ.add_comm ER,dQ.jA] at e4;exact⟨F,D,.inr<|.inr ⟨ba _,_,[],[],_,rfl,ES,by simpa using e4⟩⟩
 by_cases hm:m=0
 .subst hm;have:ns=[]:=ES;rcases hr with⟨rfl,θ,rfl,ha⟩|⟨rfl,rfl,b,o,α,rfl,_⟩|⟨Q,b,g,s,ex,rfl,hle,O⟩
  .rcases ha with rfl|⟨b,o,rfl⟩
   .simp_all[none,kH,sS]
   simp_all[kH,sS]
  .simp_all[kH,sS]
  simp_all[kH,sS]
 .have T:Hs G h L':=γ.tail;rcases hr with⟨rfl,θ,rfl,ha⟩|⟨rfl,rfl,b,o,α,rfl,ho,O⟩|⟨Q,b,g,s,ex,rfl,hle,O⟩
  .have V:cs=[]:=gg ES;subst V;have μ:=B<|Hs.join (T.lK (c:=ns) (e:=e) (x:=false)) fun q H=>sL H;have t:¬(0+m<=0):=ER
   rcases ha with rfl|⟨b,o,rfl⟩
   .refine⟨(.slice (some ⟨h.next,0,none⟩) m m,h.alloc<|.cells ns e (0,0) false),?_,ES⟩;simp only[kH,v,z,u,aO,c9,t,J,e9]
   .refine⟨(.slice (some ⟨h.next,0,none⟩) m m,h.alloc<|.cells ns e (0,0) false),?_,ES⟩;simp only[kH,v,z,u,aO,c9,t,J,e9]
  .have V:cs=[]:=gg ES;subst V;subst O;obtain⟨U,hg⟩:=Eo E C;have I:Hs G h ((fun r=>r=rY b α _)::L'):=⟨w.base,w.old,w.wf,w.fr,_,⟨_,r2,rfl,N,R,rfl⟩,(dQ.gQ R).2 ⟨E,C⟩⟩;have t:¬(0+m<=0):=ER
   refine⟨(.slice _ m m,(h.set b none).alloc _),?_,by simpa using hk _ _ _<|B<|I.aTv (c2:=ns)⟩
   have δ:¬(some 2=some 1):=EV
   simp only[kH,v,z,u,aO,c9,t,J,e9,δ,hg,hI w.le U,ho,CZ]
  .subst O;obtain⟨U,hg⟩:=Eo E C;have hb:=hI w.le U;by_cases t:n+m<=c
   .have hW:(n+m)*W<=c*W:=p9 _ t;rw[BV] at hW;have I:Hs G h ((fun r=>r=rY b _ _)::L'):=⟨w.base,w.old,w.wf,w.fr,_,⟨_,r2,rfl,N,R,rfl⟩,(dQ.gQ R).2 ⟨E,C⟩⟩;have ι:Hs G h (aG b 0 _::mt b (e,ex,(g++cs++s).length)::L'):=I.imp fun q H=>by subst H;exact tR
    have η:g.length+cs.length+ns.length<=(g++cs++s).length:=ES
    by_cases κ:ns.length=0
    .refine⟨(.slice (some ⟨b,g.length,none⟩) (n+m) c,h.set b<|some<|.cells (dK (g++cs++s) (g.length+n*W) []) e (0,0) ex),?_,?_⟩
     .simp only[kH,v,z,u,aO,c9,t,e9,hm,dd,dZ];simp only[fL,dd,Bool.false_or,List.all_nil,BE,Bool.or_false,hg];grind
     .have Y:dK (g++cs++s) (g.length+n*W) []=g++cs++s:=by simp only[dK,hX,q6,AI,wK]
      rw[Y]
      refine hk _ _ _ ?_
      have:Hs G (h.set b<|some<|.cells (g++cs++s) e (0,0) ex) ((fun r=>r=rY b (g++cs++s) (some<|.mt e ex (g++cs++s).length))::L'):=by
       have S:∀j,(h.set b<|some<|.cells (g++cs++s) e (0,0) ex).get j=h.get j:=fun j=>by
        grind[AH.kP]
       refine⟨by simp;exact w.base,fun i E=>by rw[S];exact w.old i E,by simp;exact w.wf,fun i E=>by simp at E;rw[S];exact w.fr i E,_,⟨_,r2,rfl,N,R,rfl⟩,(dQ.gQ R).2 ⟨?_,?_⟩⟩;exact E.of EV EV ES;exact C.of EV EV ES
      refine Hs.join (A:=[_]) this fun q H=>?_
      obtain⟨q1,q2,e1,e2,e3,e4⟩:=H
      cases e1;cases e2
      rw[dQ.add_comm ER,dQ.jA] at e4
      refine⟨F,D,.inr<|.inr ⟨t,b,g,s,ex,rfl,?_,ES⟩⟩
      grind
    .obtain⟨h',ξ,X⟩:=ι.dX η β ER;refine⟨(.slice (some ⟨b,g.length,none⟩) (n+m) c,h'),?_,?_⟩
     .simp only[kH,v,z,u,aO,c9,t,e9,hm,dd,dZ];grind
     .refine hk _ _ _ ?_;have Y:dK (g++cs++s) (g.length+cs.length) ns=g++(cs++ns)++s.drop ns.length:=by
       unfold dK;rw[xa EV,e8 EV,CR];have:(g++cs).drop (g.length+cs.length+ns.length)=[]:=AR EV;rw[this];simp only[bj,hZ,dx];rw[show g.length+cs.length+ns.length - (g.length+cs.length)=ns.length by omega]
      rw[Y] at X
      have ε:(g++cs++s).length=(g++(cs++ns)++s.drop ns.length).length:=ES
      rw[ε] at X
      exact Hs.join (A:=[_,_]) X fun q H=>(⟨F,D,.inr<|.inr ⟨t,b,g,_,ex,rfl,ES,sL H⟩⟩)
   .have I:Hs G h ((fun r=>r=rY b _ _)::L'):=⟨w.base,w.old,w.wf,w.fr,_,⟨_,r2,rfl,N,R,rfl⟩,(dQ.gQ R).2 ⟨E,C⟩⟩;have ν:n*W<=c*W:=p9 _ Q;have hold:dE h ⟨b,g.length,none⟩ (n*W)=some cs:=by
     simp only[dE,dd,aO,c9,hg];rw[aae];simp only[Option.some.injEq];grind
    have Z:¬((none:Option Nat)=some 1):=EV
    have h2:¬((none:Option Nat)=some 2):=EV
    cases ex with
    |true=>
     refine⟨(.slice _ _ _,h.alloc _),?_,hk _ _ _<|B<|Hs.join (T.lK) fun q H=>sL H⟩
     simp only[kH,v,z,u,aO,c9,t,J,e9,Z,h2,hold,hg,hc,BE]
    |false=>
     refine⟨(.slice _ _ _,(h.set b none).alloc _),?_,hk _ _ _<|B<|I.aTv⟩
     simp only[kH,v,z,u,aO,c9,t,J,e9,Z,h2,hold,hg,hc,BE,hb,hle,CZ]
abbrev wr (x:Int):Int:=IntKind.i64.wrap x
theorem ub {x:Int} (h: -9223372036854775808<=x/\x<=9223372036854775807):wr x=x:=DI _ ER
section
variable {a b:Int} {x y:Value}
theorem jh {o:Option α} {v:α} {k:α->Prop} (g:o=some v) (c:k v):bQ o k:=⟨v,g,c⟩
def aA {b:Nat} (c:k (pt b o<|j+n)):bQ (iZ n<|pt b o j) k:=⟨_,by simp[iZ,pt,dZ,CG],c⟩
def aB {b:Nat} (c:k (pt b o j)):bQ (pV<|pt b o j) k:=⟨_,rfl,c⟩
def aH (g:vs[i]?=some v) (c:k v):bQ (tD i<|.tuple ⟨vs⟩) k:=⟨v,g,c⟩
def qz (g:l[j]?=some v) (c:k v):bQ (sH j<|.agg ⟨l⟩) k:=⟨v,g,c⟩
theorem Nu {m:EK} (i:Nat.ble (j+n) l.length=true) (g:(l.drop j).take n=m) (c:k (.agg ⟨m⟩)):bQ (rQ j n<|.agg ⟨l⟩) k:=
 ⟨_,by grind[Nat.le_of_ble_eq_true,rQ],c⟩
def cE {a:EN} {c:Nat} (g:k (I n)):bQ (pG<|.slice a n c) k:=⟨_,rfl,g⟩
def bI (h: -9223372036854775808<=a+b/\a+b<=9223372036854775807) (c:k (I<|a+b)):bQ (vX .add (I a)<|I b) k:=⟨_,FD,c⟩
def aac (c:k (I<|a+b))(h: -9223372036854775808<=a+b/\a+b<=9223372036854775807:=by omega):bQ (vX .add (I a)<|I b) k:=⟨_,FD,c⟩
def zN (h: -9223372036854775808<=a - b/\a - b<=9223372036854775807) (c:k (I<|a - b)):bQ (vX .sub (I a)<|I b) k:=⟨_,FD,c⟩
def D8 (h: -9223372036854775808<=a*b/\a*b<=9223372036854775807) (c:k (I<|a*b)):bQ (vX .mul (I a)<|I b) k:=⟨_,FD,c⟩
def Xs (c:k (I<|wr<|a+b)):bQ (vX .add (I a)<|I b) k:=⟨_,rfl,c⟩
theorem D5 (c:0<=a) (hb:0<b) (h:a<=9223372036854775807) (g:k (I<|a/b)):bQ (vX .quo (I a)<|I b) k:=by
 refine⟨_,?_,g⟩;show Se .quo .i64 a b=_;simp only[Se];have i:0<=a/b:=Int.ediv_nonneg c ER;have j:a/b<=a:=Int.ediv_le_self b c;grind[ub]
theorem Sx (g:0<=a) (hb:0<b) (c:k (I<|a % b)):bQ (vX .rem (I a)<|I b) k:=by
 refine⟨_,?_,c⟩;show Se .rem .i64 a b=_;grind[Se]
theorem aPv (hb:b≠0) (c:k (I<|a.tmod b)):bQ (vX .rem (I a)<|I b) k:=by
 refine⟨_,?_,c⟩;show Se .rem .i64 a b=_;simp_all[Se,aXf]
def bM (c:k (.bool<|decide<|a=b)):bQ (vX .eql (I a)<|I b) k:=⟨_,GW,c⟩
theorem bK (c:k (.bool<|decide<|a≠b)):bQ (vX .neq (I a)<|I b) k:=⟨_,by show some _=_;grind,c⟩
def aQ (c:k (.bool<|decide<|a<b)):bQ (vX .lss (I a)<|I b) k:=⟨_,rfl,c⟩
def xY (c:k (.bool<|decide<|a<=b)):bQ (vX .leq (I a)<|I b) k:=⟨_,rfl,c⟩
def nU (c:k (.bool<|decide<|b<a)):bQ (vX .gtr (I a)<|I b) k:=⟨_,rfl,c⟩
def eQ (c:k (.bool<|decide<|b<=a)):bQ (vX .geq (I a)<|I b) k:=⟨_,rfl,c⟩
def Rj {b:Nat} (c:k (.bool true)):bQ (Sn .neq (pt b o j)<|.pointer none) k:=⟨_,rfl,c⟩
def cZ {b:Nat} (c:k (.bool false)):bQ (Sn .eql (pt b o j)<|.pointer none) k:=⟨_,rfl,c⟩
def cG {b:Bool} (c:k (.bool !b)):bQ (Xm .not<|.bool b) k:=⟨_,rfl,c⟩
theorem dR {b c g:Nat} (m:i<n) (j:k (pt b (o+i*g) 0)):bQ (mQ g (.slice (some ⟨b,o,none⟩) n c)<|I i) k:=⟨_,by grind[mQ,dZ,pt],j⟩
theorem fC {b c:Nat} (i:0<=a) (m:a<n) (g:k (pt b o<|j+a.toNat*c)):bQ (qJ n c (pt b o j)<|I a) k:=⟨_,by grind[qJ,dZ,pt,Nat.add_assoc],g⟩
theorem bU {c:Prop} [Decidable c] {p:Prop} (h:c) (g:p):Br (.bool<|decide c) p q:=⟨_,rfl,fun _=>g,fun i=>absurd h ES⟩
theorem aad {c:Prop} [Decidable c] {p:Prop} (g:p)(h:c:=by omega):Br (.bool<|decide c) p q:=⟨_,rfl,fun _=>g,fun i=>absurd h ES⟩
theorem aR {c:Prop} [Decidable c] {p:Prop} (h:¬c) (g:q):Br (.bool<|decide c) p q:=⟨_,rfl,fun i=>absurd ES h,fun _=>g⟩
theorem aaa {c:Prop} [Decidable c] {p:Prop} (g:q)(h:¬c:=by omega):Br (.bool<|decide c) p q:=⟨_,rfl,fun i=>absurd ES h,fun _=>g⟩
theorem bC {c:Prop} [Decidable c] {p:Prop} (i:c->p) (j:¬c->q):Br (.bool<|decide c) p q:=⟨_,rfl,fun g=>i ES,fun g=>j ES⟩
def eV {p:Prop} (c:p):Br (.bool true) p q:=aLy.2 c
def cF {p:Prop} (c:q):Br (.bool false) p q:=aHb.2 c
def dI {b:Bool} {p:Prop} (c:b=true->p) (g:b=false->q):Br (.bool b) p q:=⟨_,rfl,c,g⟩
theorem eI {b:Bool} {p:Prop} (h:Br (.bool b) q p):Br (.bool !b) p q:=by obtain⟨c,i,j,g⟩:=h;cases i;cases b;exact⟨_,rfl,fun _=>g rfl,ES⟩;simp_all
end
def aM {k:EK->Prop} (i:rL z ps=some c) (g:k c):bQ (rL z ps) k:=⟨c,i,g⟩
def dB {p:Prop} (c:p) (g:q):p/\q:=⟨c,g⟩
def jN {a:Int}:rZ (I a) (I a)=true:=by simp[rZ]
def aT7 {a:Bool}:rZ (.bool a) (.bool a)=true:=by simp[rZ]
def dP:rZ (pt b o j) (pt b o j)=true:=by simp[rZ,pt]
def Zi {c:Nat}:rZ (.slice a n c) (.slice a n c)=true:=by simp[rZ]
def pX {first captured:EP} {l:Nat} {q:Value->AH->Prop} (hc:iR P g=true) (c:Cl P K g (first.toList++[.func (.yield l) #[] #[]]++captured.toList) h q):Xf P K (.func (.func g) first captured) l h q:=⟨hc,c⟩
def sR {first captured:EP} {args:EK} {q:Value->AH->Prop} (hc:iR P g=true) (c:Cl P K g (first.toList++args++captured.toList) h q):Cx P K (.func (.func g) first captured) args h q:=⟨hc,c⟩
def sp (A:HL):HP:=fun r=>uE A r
variable {A:HL}
def Hs.kC (c:Hs G h (A++L)):Hs G h (sp A::L):=c.join fun _ h=>h
def Hs.dT (c:Hs G h (sp A::L)):Hs G h (A++L):=c.imp fun _ h=>h
def xC {α:Type} (A:α->HP):HP:=fun r=>∃x,A x r
def Hs.tG {A:α->HP} (x:α) (m:Hs G h (A x::L)):Hs G h (xC A::L):=Hs.join (A:=[A x]) m fun r j=>by
 obtain⟨o,q,g,i,_,c⟩:=j;cases i;rw[dQ.add_comm ER,dQ.jA] at c;subst c;exact⟨x,g⟩
theorem Yy {A:HP} {r:dQ}:uE [A] r↔A r:=by
 constructor;intro⟨m,o,i,c,_,j⟩;cases c;grind[dQ.add_comm,dQ.jA];intro g;exact⟨r,_,g,rfl,dQ.jC.symm,by rw[dQ.add_comm (s:=dQ.N7) dQ.jC.symm,dQ.jA]⟩
def Hs.uI {A:α->HP} (c:Hs G h (xC A::L)):∃x,Hs G h (A x::L):=by
 obtain⟨r,q,⟨x,o⟩,i,g,j,m⟩:=c.fst;exact⟨x,c.base,c.old,c.wf,c.fr,_,⟨r,q,o,i,g,rfl⟩,(dQ.gQ g).2 ⟨j,m⟩⟩
def xG (p:Prop):HP:=fun r=>p/\r=dQ.N7
def Hs.Xg {p:Prop} (c:p) (i:Hs G h L):Hs G h (xG p::L):=Hs.join (A:=[]) i fun _ g=>⟨c,g⟩
def Hs.X6 {p:Prop} (c:Hs G h (xG p::L)):p/\Hs G h L:=by
 obtain⟨r,_,⟨g,_⟩,_⟩:=c.fst;exact⟨g,c.tail⟩
def dV (n:Nat) (f:Nat->HP):HP:=sp<|(List.range n).map f
theorem Pz {f:Nat->HP} (c:i<n):((List.range n).map f).Perm (f i::((List.range n).erase i).map f):=by
 grind[List.range,List.perm_cons_erase]
def Hs.kE {f:Nat->HP} (g:Hs G h (dV n f::L)) (i:Nat) (c:i<n):Hs G h (f i::sp (((List.range n).erase i).map f)::L):=by
 exact(((g.dT.cR<|(Pz c).append_right L).cR<|by simpa using CS.symm).kC).cR (List.Perm.swap _ _ _)
theorem Hs.aCm {f g:Nat->HP} (m:i<n) (r:∀j,j≠i->g j=f j) (q:Hs G h (g i::sp (((List.range n).erase i).map f)::L)):Hs G h (dV n g::L):=by
 have c:=(q.cR<|List.Perm.swap _ _ _).dT;have o:((List.range n).erase i).map f=((List.range n).erase i).map g:=sr fun j s=>by
  grind[List.Nodup.not_mem_erase,List.nodup_range]
 rw[o] at c;exact(c.cR<|(CS.trans<|(Pz m).symm.append_right L)).kC
theorem wV {f g:Nat->HP} (c:∀j,j<n->g j=f j) (i:Hs G h (dV n f::L)):Hs G h (dV n g::L):=by
 have:(List.range n).map f=(List.range n).map g:=sr ES;grind[dV]
def Hs.Zs {f:Nat->HP} (c:Hs G h L):Hs G h (dV 0 f::L):=Hs.kC (A:=[]) c
theorem Hs.Y4 {f:Nat->HP} (c:Hs G h (f n::dV n f::L)):Hs G h (dV (n+1) f::L):=by
 refine Hs.kC<|((c.cR<|List.Perm.swap _ _ _).dT).cR ?_;rw[er,k8];simp
theorem Cx.mono {f:Value} {args:EK} {c:Value->AH->Prop} (k:Cx P K f args h Q) (i:∀v g,Q v g->c v g):Cx P K f args h c:=by
 unfold Cx at k ⊢;grind[Ok.mono]
def aBc {l:Nat} {args:EK} (k:Ok P K (.round l args) h fun o c=>Q o.v c):Cx P K (.func (.yield l) #[] #[]) args h Q:=by
 simpa [Cx] using k
def lh (P:Program) (K:FuncId->EK->HQ) (G:Bg) (f:FuncId) (first captured:EK) (A:HP) (xs:HY):Prop:=
 ∀(I:HY->HP) (J:HP) (y:Value) (L:HL) (h:AH) (Q:Value->AH->Prop),Hs G h (A::I xs::L)->
  (∀x rest h M,Hs G h (I (x::rest)::M)->Cx P K y x h fun v c=>(v= .bool true/\Hs G c (I rest::M))\/(v= .bool false/\Hs G c (J::M)))->
  (∀v c,Hs G c (A::I []::L)->Q v c)->(∀v c,Hs G c (A::J::L)->Q v c)->Cl P K f (first++[y]++captured) h Q
class eR (A:HP) (L:HL) (L':outParam (HL)):Prop where
 cR:L.Perm (A::L')
instance (priority:=low) eR.Rw {A B:HP} [k:eR A L L']:eR A (B::L) (B::L'):=⟨(k.cR.cons B).trans<|List.Perm.swap _ _ _⟩
instance (priority:=high) eR.aI4 {A:HP}:eR A (A::L) L:=⟨AB _⟩
instance (priority:=high) eR.app {A B:HP} {c L2:HL} [k:eR A (B::(c++L2)) L']:eR A ((B::c)++L2) L':=k
instance (priority:=high) eR.aQ3 {A:HP} {L2:HL} [k:eR A L2 L']:eR A ([]++L2) L':=k
class C3 (L M:HL):Prop where
 to:∀r,uE L r->∃r1 r2,uE M r1/\r1.yS r2/\r=r1.add r2
def aIn {r:dQ}:r.add dQ.N7=r:=by rw[dQ.add_comm dQ.jC.symm,dQ.jA]
instance (priority:=low) C3.skip {A:HP} [k:C3 L M]:C3 (A::L) M:=⟨fun r ⟨o,i,j,c,g,m⟩=>by
 obtain⟨s1,s2,g1,g2,g3⟩:=k.to i c;subst g3;obtain⟨d1,d2⟩:=dQ.kG.1 g;exact⟨s1,_,g1,dQ.kG.2 ⟨d1.symm,g2⟩,by grind[dQ.lC,dQ.add_comm]⟩⟩
instance C3.take {A:HP} [k:eR A L L'] [o:C3 L' M]:C3 L (A::M):=⟨fun r m=>by
 obtain⟨q,s,c,g,i,j⟩:=J9 k.cR r m;obtain⟨s1,s2,g1,g2,g3⟩:=o.to s g;subst g3;obtain⟨d1,d2⟩:=dQ.kG.1 i;exact⟨_,s2,⟨q,s1,c,g1,d1,rfl⟩,(dQ.kG.2 ⟨d2.symm,g2.symm⟩).symm,by rw[j,dQ.lC]⟩⟩
instance (priority:=high) C3.refl:C3 L L:=⟨fun r c=>⟨r,dQ.N7,c,dQ.jC.symm,aIn.symm⟩⟩
instance (priority:=high) C3.app {A:HP} {c L2:HL} [k:C3 L (A::(c++L2))]:C3 L ((A::c)++L2):=k
instance (priority:=high) C3.aQ3 {L2:HL} [k:C3 L L2]:C3 L ([]++L2):=k
instance (priority:=high) C3.aWu {A:HP} {c L2:HL} [k:C3 (A::(c++L2)) M]:C3 ((A::c)++L2) M:=k
instance (priority:=high) C3.sp {A:HL} [k:C3 L (A++M)]:C3 L (sp A::M):=⟨fun r m=>by
 obtain⟨s1,s2,g1,g2,g3⟩:=k.to r m;obtain⟨o,q,c,g,i,j⟩:=kA.1 g1;exact⟨s1,s2,⟨o,q,c,g,i,j⟩,g2,g3⟩⟩
theorem Hs.to (c:Hs G h L) [k:C3 L M]:Hs G h M:=⟨c.base,c.old,c.wf,c.fr,by
 obtain⟨r,g,i⟩:=c.R3;obtain⟨j,m,g1,g2,g3⟩:=k.to r g;grind[dQ.gQ]⟩
theorem Hs.oN {A B:HP} (c:Hs G h (B::A::L)):Hs G h (A::B::L):=c.cR<|List.Perm.swap _ _ _
def Cu {p:Prop} (c:p) (g:Hs G h (sp A::L)):Hs G h (sp (xG p::A)::L):=Hs.kC (A:=xG p::A)<|Hs.Xg c g.dT
def iU {p:Prop} (c:Hs G h (sp (xG p::A)::L)):p/\Hs G h (sp A::L):=let⟨a,b⟩:=Hs.X6 c.dT;⟨a,b.kC⟩
def kW {a b:Prop} {c:List (Nat×Prop)} (g:a):xZ none a b c:=g
def aH8 {a b:Prop} {c:List (Nat×Prop)} (g:b):xZ (some .ret) a b c:=g
theorem Kk {a b:Prop} {c:List (Nat×Prop)} {id:Nat} (i:c.lookup id=some q) (g:q):xZ (some<|.exit id) a b c:=by grind[xZ]
theorem aS7 (h:m<=j):pt b o j=pt b (o+m) (j - m):=by grind[pt]
class Cv (v:Value) (cs:outParam EK):Prop where
 eq:kD v=some cs
instance {a:Int}:Cv (I a) [I a]:=⟨rfl⟩
instance {a:Bool}:Cv (.bool a) [.bool a]:=⟨rfl⟩
instance {b o j:Nat}:Cv (pt b o j) [pt b o j]:=⟨rfl⟩
instance {a:EN}:Cv (.pointer a) [.pointer a]:=⟨rfl⟩
instance {a:EN} {n c:Nat}:Cv (.slice a n c) [.slice a n c]:=⟨rfl⟩
instance {l:EK}:Cv (.agg ⟨l⟩) l:=⟨rfl⟩
instance {f:Fn} {a b:EP}:Cv (.func f a b) [.func f a b]:=⟨rfl⟩
def dY {k:Nat->AH->Prop} (i:Hs G h L) [j:Cv v cs] (g:∀p c,Hs G c (aG p 0 cs::L)->k p c):bQ (nA e v) fun b=>F4 h b k:=aSp i j.eq g
def Dj {D:EM} {k:Nat->AH->Prop} (o:Hs G h L) [m:dH (ra r) L (n,D) L'] [q:Cv v cs] (g:Nat.blt i n=true) (hD:D.contains i=false)
  (j:∀p c,Hs G c (aG p 0 cs::ra r (n,i::D)::L')->k p c):bQ (nA e v) fun b=>pC h (r+i) b k:=aJ7 o q.eq g hD j
def bS {k:AH->Prop} (t:Hs G h L) [m:dH (aG b o) L c L'] [u:Cv v vs] (s:vs.length=n) (r:Nat.ble (j+n) c.length=true) (hb:vs.all gA=true) (i:Nat.ble 1 c.length=true)
  (q:∀g,Hs G g (aG b o (dU c j vs)::L')->k g):bQ (vT h n (pt b o j) v) k:=aT0 t u.eq s r hb i q
def ax {k:AH->Prop} (t:Hs G h L) [m:dH (aG b o) L c L'] [u:Cv v vs] (q:∀g,Hs G g (aG b o (dU c j vs)::L')->k g) (s:vs.length=n:=by exact rfl) (r:Nat.ble (j+n) c.length=true:=by exact rfl) (hb:vs.all gA=true:=by exact rfl) (i:Nat.ble 1 c.length=true:=by exact rfl):bQ (vT h n (pt b o j) v) k:=bS t s r hb i q
theorem Yu:∀(c vs:EK),c.length=vs.length->dU c 0 vs=vs
 |[],[],_=>rfl
 |_::c,v::vs,h=>by simp only[dU];rw[Yu c vs ES]
theorem bE {k:AH->Prop} (q:Hs G h L) [m:dH (aG b o) L c L'] [r:Cv v vs] (g:Nat.beq c.length n=true) (s:Nat.ble 1 n=true) (j:vs.length=n) (hb:vs.all gA=true)
  (t:∀i,Hs G i (aG b o vs::L')->k i):bQ (vT h n (pt b o 0) v) k:=by
 have g:=pw g
 refine aT0 q r.eq j (by rw[g];simp) hb ES ?_
 grind[Yu]
def an {k:AH->Prop} (q:Hs G h L) [m:dH (aG b o) L c L'] [r:Cv v vs] (t:∀i,Hs G i (aG b o vs::L')->k i) (g:Nat.beq c.length n=true:=by exact rfl) (s:Nat.ble 1 n=true:=by exact rfl) (j:vs.length=n:=by exact rfl) (hb:vs.all gA=true:=by exact rfl):bQ (vT h n (pt b o 0) v) k:=bE q g s j hb t
structure LpX where
 P:Program
 f:FuncId
 p:EM
 n:Nat
 e:Nat->Value
 d:Nat
 st:LoopState
 pd:Option Code
class rJ (l:Nat) (L:HL) (x:outParam LpX) (L':outParam (HL)):Prop where
 cR:L.Perm (iI x.P x.f x.p x.n x.e x.d l (x.st,x.pd)::L')
instance (priority:=low) rJ.Rw {l:Nat} {A:HP} {x:LpX} [k:rJ l L x L']:rJ l (A::L) x (A::L'):=⟨(k.cR.cons A).trans<|List.Perm.swap _ _ _⟩
instance (priority:=high) rJ.aI4 {l:Nat} {f:FuncId} {p:EM} {n:Nat} {e:Nat->Value} {d:Nat} {st:LoopState} {pd:Option Code}:rJ l (iI P f p n e d l (st,pd)::L) ⟨P,f,p,n,e,d,st,pd⟩ L:=⟨AB _⟩
instance (priority:=high) rJ.app {l:Nat} {A:HP} {c L2:HL} {x:LpX} [k:rJ l (A::(c++L2)) x L']:rJ l ((A::c)++L2) x L':=k
instance (priority:=high) rJ.aQ3 {l:Nat} {L2:HL} {x:LpX} [k:rJ l L2 x L']:rJ l ([]++L2) x L':=k
def rJ.of {l:Nat} {x:LpX} [k:rJ l L x L'] (c:Hs G h L):Hs G h (iI x.P x.f x.p x.n x.e x.d l (x.st,x.pd)::L'):=c.cR k.cR
section
variable {e:Nat->Value} {d l:Nat}
def iE {k:AH->Prop} (i:Hs G h L) [m:rJ l L ⟨P,f,p,n,e,d,st,pd⟩ L'] (g:∀c,Hs G c (iI P f p n e d l (st',pd')::L')->k c):bQ (dD h l st'<|some pd') k:=aR9 (show Hs G h (iI P f p n e d l (st,pd)::L') from m.of i) g
def gD {k:AH->Prop} (i:Hs G h L) [m:rJ l L ⟨P,f,p,n,e,d,.ready,pd⟩ L'] (g:∀c,Hs G c (iI P f p n e d l (.busy,pd)::L')->k c):bQ (mK h l) k:=aJz (show Hs G h (iI P f p n e d l (.ready,pd)::L') from m.of i) g
def kU {k:Option Code×AH->Prop} (i:Hs G h L) [m:rJ l L ⟨P,f,p,n,e,d,.ready,pd⟩ L'] (g:∀c,Hs G c L'->k (pd,c)):bQ (uP h l) k:=
 aEn (P:=P) (f:=f) (p:=p) (n:=n) (e:=e) (d:=d) (st:= .ready) (pd:=pd) (k:=fun a b=>k (a,b)) (show Hs G h (iI P f p n e d l (.ready,pd)::L') from m.of i) ET g
def S4 {k:Nat->Prop} (g:Hs G h L) [m:rJ l L ⟨P,f,p,n,e,d,st,pd⟩ L'] (c:k d):bQ (gY h l) k:=aG8 (P:=P) (f:=f) (p:=p) (n:=n) (e:=e) (d:=d) (st:=st) (pd:=pd) (show Hs G h (iI P f p n e d l (st,pd)::L') from m.of g) c
def qC (c:Hs G h L) [m:rJ l L ⟨P,f,p,n,e,d,st,pd⟩ L']:h.get l=some (lp P f p n e d st pd):=aV7<|show Hs G h (iI P f p n e d l (st,pd)::L') from m.of c
end
theorem uf {c:Nat} (q:Hs G h (dJ W e a c (n,cs)::L)):lE h W n (.slice a n c)=some cs:=by
 have D:=q.Eb;simp only at D;by_cases t:n=0;subst t;have:cs=[]:=ES;subst this;cases a<;>simp[lE];obtain⟨b,o,rfl,H,s,_⟩:=q.sQ ER;simp only[lE,aXf t,ba,e9];by_cases z:n*W=0;obtain⟨r,S,E,F,R,C,i⟩:=q.fst;rcases E.2.2 with⟨I,_⟩|⟨I,_⟩|⟨v,N,J,w,ex,A,hle,m⟩;grind;grind;cases A;subst m;obtain⟨B,g⟩:=Eo C i;simp only[dE,dd,aO,c9,g,z];grind;obtain⟨B,O,Q,T,g,hle,u⟩:=s.cells ER;simp only[dE,dd,aO,c9,g];rw[aae];congr 1;refine mn fun j=>?_;grind
variable {a2:EN}
theorem vO {bytes:Nat} {c c2:Nat} {k:Value×AH->Prop} (r:Hs G h L) [t:dH (dJ W e a c) L (n,cs) L'] [u:dH (dJ W e a2 c2) L' (m,ns) M] (i:(n+m)*(bytes+1)<=2^46)
  (s:∀j o q,Hs G q (dJ W e j o (n+m,cs++ns)::L')->k (.slice j (n+m) o,q)):bQ (kH W bytes e h (.slice a n c)<|.slice a2 m c2) k:=by
 have g:=u.of (t.of r).tail
 exact aMs (k:=fun x y=>k (x,y)) r sS (uf g) g.Dn g.Eb i s
def Hs.aN (A:HP) (c:Hs G h L) [k:eR A L L']:Hs G h (A::L'):=c.cR k.cR
def Hs.bZ (A B:HP) (c:Hs G h L) [k:eR A L L'] [g:eR B L' M]:Hs G h (A::B::M):=c.cR<|k.cR.trans<|g.cR.cons A
structure aSe (W:Nat) (e:TypeId) (a:EN) (cap n b o:Nat) where
 p:HP
 yU:∀{G:Bg} (h':AH) (cs':EK) (M:HL),cs'.length=n*W->cs'.all gA=true->Hs G h' (aG b o cs'::p::M)->Hs G h' (dJ W e a cap (n,cs')::M)
def fJ (_:Bg) (W:Nat) (e:TypeId) (a:EN) (cap n b o:Nat):HP:=xC fun H:aSe W e a cap n b o=>H.p
theorem Hs.gF (g:Hs G h (dJ W e a cap (n,cs)::L)) (i:0<n):
  ∃b o,a=some ⟨b,o,none⟩/\Hs G h (aG b o cs::fJ G W e a cap n b o::L):=by
 have q:=g.Eb
 obtain⟨b,o,j,H,c,m⟩:=g.sQ i
 exact⟨b,o,j,Hs.oN<|Hs.tG ⟨H,ES⟩ c.oN⟩
theorem Hs.kZ (c:Hs G h (aG b o cs::fJ G W e a cap n b o::L)) (g:cs.length=n*W) (hc:cs.all gA=true):Hs G h (dJ W e a cap (n,cs)::L):=by
 obtain⟨⟨H,hH⟩,c⟩:=Hs.uI c.oN;exact hH _ _ _ g hc c.oN
theorem sy {c:Nat->EK} (hc:∀i,(c i).length=W):∀(n:Nat) (L:HL),Hs G h (aG b o ((List.range n).flatMap c)::L)->Hs G h (dV n (fun i=>aG b (o+i*W)<|c i)::L):=by
 intro n;induction n with
 |zero=>intro L g;exact Hs.Zs g.tail
 |succ n r=>
  intro L g;rw[er,u3] at g;have q:∀m,((List.range m).flatMap c).length=m*W:=fun m=>by
   induction m with
   |zero=>simp
   |succ m j=>grind[List.range_succ,List.length_append]
  have g:=g.split;grind[Hs.Y4,Hs.oN]
theorem aLm {c:Nat->EK} (hc:∀i,(c i).length=W) (_:0<W):∀(n:Nat) (L:HL),0<n->Hs G h (dV n (fun i=>aG b (o+i*W)<|c i)::L)->Hs G h (aG b o ((List.range n).flatMap c)::L):=by
 intro n;have q:∀m,((List.range m).flatMap c).length=m*W:=fun m=>by
  induction m with
  |zero=>simp
  |succ m j=>grind[List.range_succ,List.length_append]
 induction n with
 |zero=>grind
 |succ n r=>
  intro L _ g;have g:=g.dT;rw[er,k8,dx] at g;have g:Hs G h (dV n _::aG b _ _::L):=Hs.kC g;rw[er,u3];grind[Nat.eq_zero_or_pos,Hs.Nn]
theorem Hs.Pj {f g:Nat->HP}:∀(n:Nat) (L:HL),(∀i,i<n->∀h L,Hs G h (f i::L)->Hs G h (g i::L))->Hs G h (dV n f::L)->Hs G h (dV n g::L):=by
 intro n;induction n with
 |zero=>intro L _ c;exact Hs.Zs c.tail
 |succ n m=>
  intro L j c;have c:=c.dT;rw[er,k8,dx] at c;exact Hs.Y4<|j n ER _ _ (m _ ES<|Hs.kC c).oN
theorem Hs.aOa {f g k:Nat->HP} (j:∀i h L,Hs G h (f i::g i::L)->Hs G h (k i::L)):∀(n:Nat) (L:HL),Hs G h (dV n f::dV n g::L)->Hs G h (dV n k::L):=by
 intro n;induction n with
 |zero=>intro L c;exact Hs.Zs c.tail.tail
 |succ n m=>
  intro L c;have c:=c.dT;rw[er,k8,dx] at c;have c:Hs G h (dV n f::f n::dV _ g::L):=Hs.kC c;have c:Hs G h (dV (n+1) g::f n::dV n f::L):=c.to;have c:=c.dT;rw[er,k8,dx] at c;have c:Hs G h (dV n g::g n::f n::dV n f::L):=Hs.kC c;have c:Hs G h (dV n f::dV n g::f n::g n::L):=c.to;exact Hs.Y4<|j n _ _<|(m _ c).to
def uh (c:i<n) (j:l[i]?=some v) (g:k v):bQ (Qv n 1 (.agg ⟨l⟩)<|I i) k:=⟨v,by simp[Qv,c,j],g⟩
theorem iN {c:Nat} (m:i<n) (g:k (pt b o<|j+i*c)):bQ (qJ n c (pt b o j)<|I i) k:=⟨_,by grind[qJ,dZ,pt,Nat.add_assoc],g⟩
theorem tf {bytes:Nat} {k:Nat×Nat->Prop} (g:n<=2^40) (hb:bytes*n<=2^47) (c:k (n,n)):bQ (Jw bytes (I n)<|I n) k:=⟨_,by grind[Jw],c⟩
def lD (r:Hs G h L) [m:dH (aG b o) L c L'] (q:0<n) (hc:(c.drop j).take n=l) (i:l.length=n) (g:k (.agg ⟨l⟩)):bQ (vD h n<|pt b o j) k:=aX r q hc i g
theorem aQa (q:Hs G h L) (m:Ob G b c) (i:c.length=n) (g:k (.agg ⟨c⟩)):bQ (vD h n<|.pointer<|some ⟨b,0,none⟩) k:=
 jc (o:=0) (j:=0) q m ES i EV g
def bJ {α:Type} (f:Nat->α) (i:Nat) (v:α):Nat->α:=fun j=>if j=i then v else f j
theorem bR {f:Nat->α} {v:α}:bJ f i v i=v:=by simp[bJ]
theorem eA {f:Nat->α} {v:α} (h:j≠i):bJ f i v j=f j:=by simp[bJ,h]
theorem uR {c:Nat->EK} (hc:∀i,(c i).length=W) (m:Nat):((List.range m).flatMap c).length=m*W:=by
 induction m with
 |zero=>simp
 |succ m g=>grind[List.range_succ,List.length_append]
theorem aJl {c:Nat->EK} (hc:∀i,(c i).length=W):∀(n:Nat),i<n->∃j g,(List.range n).flatMap c=j++(c i++g)/\j.length=i*W/\∀x,(List.range n).flatMap (bJ c i x)=j++(x++g):=by
 intro n;induction n with
 |zero=>grind
 |succ n r=>
  intro h;by_cases q:i=n;refine⟨_,[],?_,uR hc i,fun x=>?_⟩;grind[List.range_succ];grind[List.range_succ,List.map_congr_left,eA,bR];obtain⟨j,g,s,m,o⟩:=r ER;refine⟨j,g++c n,?_,m,fun x=>?_⟩;grind[List.range_succ];rw[er,u3,o];simp[eA<|Ne.symm q]
theorem Hs.sb {c:Nat->EK} (hc:∀i,(c i).length=W) (v:i<n) (g:Hs G h (dJ W e a cap (n,(List.range n).flatMap c)::L)):
  ∃b o,a=some ⟨b,o,none⟩/\∃H:HP,Hs G h (aG b (o+i*W) (c i)::H::L)/\∀r x M,x.length=W->x.all gA=true->Hs G r (aG b (o+i*W) x::H::M)->Hs G r (dJ W e a cap (n,(List.range n).flatMap<|bJ c i x)::M):=by
 have m:=g.Dn
 obtain⟨b,o,u,g⟩:=g.gF ER
 obtain⟨q,j,t,s,B⟩:=aJl hc n v
 rw[t] at g m
 have g:=g.split.oN.split
 rw[s] at g
 refine⟨b,o,u,sp [aG b o q,aG b (o+i*W+(c i).length) j,fJ G W e a cap n b o],?_,?_⟩
 .exact(Hs.kC (A:=[aG b o q,aG b (o+i*W+(c i).length) j,fJ G W e a cap n b o]) g.to).oN
 .intro r x M w z g;have g:Hs G r (aG b (o+i*W) x::aG b (o+i*W+(c i).length) j::aG b o q::fJ G W e a cap n b o::M):=(g.oN.dT).to;have g:=Hs.Nn g (by rw[w,hc]);have g:=Hs.Nn g.oN (by rw[s]);grind[Hs.kZ,uR,bJ]
variable {c':EK}
def Hs.sg (g:Hs G h L) [m:dH (aG b o) L c' L'] (hc:c'=c):Hs G h (aG b o c::L'):=by subst hc;exact m.of g
theorem Hs.oG (f g:Nat->HP) (m:i<n) (r:∀j,j<n->j≠i->g j=f j) (q:Hs G h L) [k:eR (g i) L L'] [t:eR (sp<|((List.range n).erase i).map f) L' M]:Hs G h (dV n g::M):=by
 have c:=((q.bZ (g i)<|sp<|((List.range n).erase i).map f).cR<|List.Perm.swap _ _ _).dT;have o:((List.range n).erase i).map f=((List.range n).erase i).map g:=sr fun j s=>by
  grind[List.Nodup.not_mem_erase,List.nodup_range]
 rw[o] at c;exact(c.cR<|(CS.trans<|(Pz m).symm.append_right M)).kC
theorem Vc {bytes:Nat} {a:Int} {k:Nat×Nat->Prop} (g:0<=a) (i:a<=2^40) (hb:bytes*a<=2^47) (c:k (a.toNat,a.toNat)):bQ (Jw bytes (I a)<|I a) k:=⟨_,by grind[Jw],c⟩
theorem jF (z:EK) (n:Nat):gB z n=(List.range n).flatMap fun _=>z:=by
 induction n with
 |zero=>rfl
 |succ n c=>grind[List.range_succ,gB,List.replicate_succ']
theorem xL {c:Nat->EK} (hc:∀i,(c i).all gA=true) (n:Nat):((List.range n).flatMap c).all gA=true:=by
 grind
def Hs.Ql (m:z.length=W) (g:0<n) (c:Hs G h (dJ W e a cap (n,gB z n)::L)):∃b o,a=some ⟨b,o,none⟩/\Hs G h (dV n (fun i=>aG b (o+i*W) z)::fJ G W e a cap n b o::L):=by
 obtain⟨b,o,j,c⟩:=c.gF g;rw[jF] at c;exact⟨b,o,j,sy (fun _=>m) n _ c⟩
def Hs.cT {c L2 g:HL} (A B C:HP) (i:Hs G h L) [k:eR A L c] [j:eR B c L2] [m:eR C L2 g]:Hs G h (A::B::C::g):=i.cR<|k.cR.trans<|(j.cR.trans<|m.cR.cons B).cons A
theorem aMz (q:Hs G h L) [m:dH (aG b o) L c L'] (hc:c[i+j]?=some v) (g:k v):bQ (sA h<|pt b (o+i) j) k:=by
 have:pt b (o+i) j=pt b o (i+j):=by simp only[pt];rw[CG]
 grind[aD]
def aEe {a b c d:Bool} (i:k (.bool<|a||b||c||d)) {g:Bool} (hc:g=true:=by kernel_rfl):R0 g [1,1,1,1] .neq (.agg ⟨[.bool a,.bool b,.bool c,.bool d]⟩) (.agg ⟨[.bool false,.bool false,.bool false,.bool false]⟩) k:=
 ⟨hc,_,by cases a<;>cases b<;>cases c<;>cases d<;>rfl,i⟩
theorem Bo {f:Nat->α} {v w:α}:bJ (bJ f i v) i w=bJ f i w:=by grind[bJ]
theorem uj:∀(l:EK),(∀v∈l,rZ v v=true)->Po l l=true
 |[],_=>by simp[Po]
 |a::l,h=>by simp only[Po,h a ES,AJ];exact uj l ES
theorem uG (h:∀v∈l,rZ v v=true):rZ (.agg ⟨l⟩) (.agg ⟨l⟩)=true:=by
 grind[rZ,aAp,uj]
theorem U8 {r:dQ} (c:Hs G h ((fun q=>q=r)::L)) (i:dJ W e a cap x r):Hs G h (dJ W e a cap x::L):=
 Hs.join (A:=[_]) c fun q g=>by
  grind[Yy]
theorem aCs {c:Nat} (i:Hs G h L) [m:dH (dJ W e a c) L (n+1,cs) L'] (F:∀J N,Hs G h (dJ W e J N (n,cs.drop W)::L')->k (.slice J n N)):bQ (Ao W h (.slice a (n+1) c) (some<|I 1) none none) k:=by
 have i:=m.of i;obtain⟨r,R,⟨Z,Y,V⟩,v,z,E,o⟩:=i.fst;rcases V with⟨H,_⟩|⟨H,_⟩|⟨t,b,g,j,ex,rfl,hle,w⟩;simp at H;simp at H;simp only at t hle w;subst w;obtain⟨X,S⟩:=Eo E o;have C:qI (some<|I 1) 0 (n+1)=some 1:=by simp only[qI];grind
 have B:qI none c c=some c:=rfl;have D:qI none (n+1) c=some _:=rfl;by_cases s:c=1;have T:n=0:=ER
 subst s;subst T;have hex:qU h b=some ex:=by simp only[qU,S]
 have u:cs.drop W=[]:=ES;cases ex with
 |true=>
  refine⟨xJ,by simp only[Ao,B,C,D,ya,dd,AL,aO,c9,hex];simp,F _ _ ?_⟩;rw[u];refine Hs.join (A:=[]) i.tail fun q U=>⟨EV,rfl,.inl ⟨rfl,U,rfl,ES⟩⟩
 |false=>
  refine⟨Em ⟨b,g.length+1*W,none⟩,by simp only[Ao,B,C,D,ya,dd,AL,aO,c9,hex,dZ];simp,F _ _ ?_⟩;rw[u];refine U8 ⟨i.base,i.old,i.wf,i.fr,_,⟨_,R,rfl,v,z,rfl⟩,(dQ.gQ z).2 ⟨E,o⟩⟩<|⟨EV,rfl,.inr<|.inl ⟨rfl,rfl,b,g.length+1*W,_,rfl,?_,rfl⟩⟩;grind
 refine⟨.slice (some ⟨b,g.length+1*W,none⟩) n<|c - 1,?_,F _ _ ?_⟩;simp only[Ao,B,C,D,ya,dd,AL,aO,c9,s,dZ];grind;have O:g++cs++j=(g++cs.take W)++cs.drop W++j:=EV
 have Q:(g++cs.take W).length=g.length+1*W:=by
  grind
 refine U8 ⟨i.base,i.old,i.wf,i.fr,_,⟨_,R,rfl,v,z,rfl⟩,(dQ.gQ z).2 ⟨E,o⟩⟩ (⟨ES,ES,.inr<|.inr ⟨ES,b,_,j,ex,by rw[Q],?_,by rw[<-O]⟩⟩);rw[<-O,Q];have:c*W=(c - 1)*W+W:=by rw[<-ux];congr 1;omega
 omega
theorem Oj (s:Hs G h L) [m:dH (aG b o) L c L'] (r:0<n) (hc:(c.drop<|i+j).take n=l) (q:l.length=n) (g:k (.agg ⟨l⟩)):bQ (vD h n<|pt b (o+i) j) k:=by
 have:pt b (o+i) j=pt b o (i+j):=by simp only[pt];rw[CG]
 grind[aX]
end Go.Ab
namespace Go.Ab
variable {K:FuncId->EK->HQ} {h:AH}
theorem aOj {args:EK} (r:K f args=some (.fwd g c)) (q:Cl P K g c h fun v i=>Pe v=true/\Q v i):Cl P K f args h Q:=by
 obtain⟨n,⟨o,j⟩,t,s,m⟩:=q;exact⟨n+1,(⟨.nI,[],[],o.v⟩,j),by show oK _ _ _ _ _ _=_;simp_all[oK,e9],m⟩
end Go.Ab
namespace Go.Ab
variable {K:FuncId->EK->HQ} {G:Bg} {h:AH} {L L' M:HL}
variable {t:EK}
theorem Oo {c:Nat} (I:m<=n) (F:0<n) (A:cs.length=m*W) (j:Hs G h (dJ W e a c (n,cs++t)::L)):Hs G h (dJ W e a c (m,cs)::L):=by
 obtain⟨r,E,⟨B,H,C⟩,q,v,z,o⟩:=j.fst;rcases C with⟨D,_⟩|⟨D,_⟩|⟨u,b,i,g,ex,rfl,hle,s⟩;grind;grind;subst s;refine U8 ⟨j.base,j.old,j.wf,j.fr,_,⟨_,E,rfl,q,v,rfl⟩,(dQ.gQ v).2 ⟨z,o⟩⟩ ?_;have w:i++(cs++t)++g=i++cs++(t++g):=EV
 refine⟨A,ES,.inr<|.inr ⟨ES,b,i,_,ex,rfl,?_,by rw[w]⟩⟩;grind
theorem aDs (r:Hs G h (aG b o c::L)) (i:0<c.length) (v:j+m<=c.length):dE h ⟨b,o+j,none⟩ m=some ((c.drop j).take m):=by
 obtain⟨u,s,t,w,q,hle,g⟩:=r.cells i;simp only[dE,dd,aO,c9,q];rw[aae];congr 1;refine mn fun k=>?_;grind
theorem fh {A B:EK} (c:A.length=j) (g:B.length=z.length):dK (A++B) j z=A++z:=by
 grind[dK,List.take_left,List.drop_eq_nil_of_le,List.length_append]
def Oa {α:Type} (l:List α) (i:Nat):l.take i++l.drop i=l:=wK i l
theorem aMn {bytes c:Nat} {k:Value->AH->Prop} (hW:0<W) (hz:z.length=W) (θ:z.all gA=true) (hi:i<n) (E:Hs G h L) [m:dH (dJ W e a c) L (n,cs) L']
  (hk:∀h',Hs G h' (dJ W e a c (n - 1,cs.take (i*W)++cs.drop ((i+1)*W))::L')->k (.slice a (n - 1) c) h'):
  bQ (Ao W h (.slice a n c) none (some<|I i) none) fun v3=>bQ (Ao W h (.slice a n c) (some<|I<|(i:Int)+1) none none) fun v4=>
   bQ (kH W bytes e h v3 v4) fun q=>bQ (pG q.1) fun T=>bQ (Ao W q.2 q.1 (some T) (some<|I n) none) fun v9=>bQ (jX z q.2 v9) fun g=>k q.1 g.2:=by
 have E:=m.of E
 have hl:=E.Eb
 have hc:=E.Dn
 simp only at hl hc
 have u:n<=c:=by
  obtain⟨r,r2,⟨_,_,hr⟩,_⟩:=E.fst;rcases hr with⟨hz,_⟩|⟨hz,_⟩|⟨u,_⟩;grind;grind;exact u
 obtain⟨b,o,rfl,H,s,close⟩:=E.sQ ER
 have κ:0<n*W:=Nat.mul_pos ER hW
 have w:0<cs.length:=ER
 have D:qI none c c=some c:=rfl
 have b2:qI (some<|I i) n c=some i:=FF
 have b3:qI none 0 i=some 0:=rfl
 have U:qI none n c=some n:=rfl
 have V:qI (some<|I<|(i:Int)+1) 0 n=some (i+1):=by simp only[qI];rw[aae];congr 1
 have b6:qI (some<|I ((n - 1:Nat):Int)) 0 n=some (n - 1):=by simp only[qI];grind
 have b7:qI (some<|I n) n c=some n:=by simp only[qI];grind
 have O:¬c=0:=ER
 refine⟨.slice (some ⟨b,o,none⟩) i c,?_,?_⟩
 .simp only[Ao,D,b2,b3,AX,u7,dd,aO,c9,O,dZ];grind
 have μ:(i+1)*W=i*W+W:=by rw[BV,Nat.one_mul]
 have ν:(i+1)*W<=n*W:=p9 W hi
 have ε:(n - (i+1))*W=n*W - (i+1)*W:=ES
 have ξ:(n - 1)*W=n*W - W:=by rw[Nat.sub_mul,Nat.one_mul]
 have vC:∀t,Hs G t (aG b o (cs.take (i*W)++cs.drop ((i+1)*W)++cs.drop ((n - 1)*W))::H::L')->
   bQ (pG<|.slice (some ⟨b,o,none⟩) (n - 1) c) fun T=>bQ (Ao W t (.slice (some ⟨b,o,none⟩) (n - 1) c) (some T) (some<|I n) none) fun v9=>bQ (jX z t v9) fun g=>k (.slice (some ⟨b,o,none⟩) (n - 1) c) g.2:=by
  intro t Q
  refine cE ?_
  have A:¬c=n - 1:=ER
  refine⟨.slice (some ⟨b,o+(n - 1)*W,none⟩) (n - (n - 1))<|c - (n - 1),?_,?_⟩
  .have X:qI (some<|I n) (n - 1) c=some n:=b7;simp only[Ao,D,X,b6,AX,u7,dd,aO,c9,A,dZ];grind
  have Y:n - (n - 1)=1:=ER
  rw[Y]
  have v:(cs.take (i*W)++cs.drop ((i+1)*W)).length=(n - 1)*W:=by
   grind
  have η:gB z 1=z:=by simp[gB]
  have J:(cs.take (i*W)++cs.drop ((i+1)*W)).all gA=true:=by
   grind
  obtain⟨F,B,R⟩:=Q.dX (j:=(n - 1)*W) ES θ ES
  refine⟨(.tuple #[],F),?_,?_⟩
  .simp only[jX,Nat.one_ne_zero,c9,η,B,l4]
  refine hk F ?_
  have ζ:dK (cs.take _++cs.drop _++cs.drop ((n - 1)*W)) _ z=cs.take _++cs.drop _++z:=fh v ES
  rw[ζ] at R
  refine Oo ER ER v<|close F _ _ ?_ ?_ R
  .grind
  .grind
 by_cases ι:i+1=n
 .have C:∀v4:Value,C9 v4=some 0->lE h W 0 v4=some []->bQ (kH W bytes e h (.slice (some ⟨b,o,none⟩) i c) v4) fun q=>bQ (pG q.1) fun T=>bQ (Ao W q.2 q.1 (some T) (some<|I n) none) fun v9=>bQ (jX z q.2 v9) fun g=>k q.1 g.2:=by
   intro v4 t F;refine⟨(.slice (some ⟨b,o,none⟩) i c,h),?_,?_⟩;simp only[kH,t,F,List.all_nil,BE,q6,D0,bne_self_eq_false,Bool.or_self,aO,c9,AI];grind;have β:i=n - 1:=ER
   have:=vC h (by
    rw[AR ES,hX,β,Oa];exact s)
   grind
  by_cases Z:c=i+1
  .obtain⟨hb,c',e',x',hg,hle,J⟩:=s.cells w;have hex:qU h b=some x':=by simp only[qU,hg]
   cases x' with
   |true=>
    refine⟨xJ,?_,C _ rfl rfl⟩
    simp only[Ao,D,U,V,ya,dd,AL,aO,c9,dZ,hex]
    grind
   |false=>
    refine⟨Em ⟨b,o+(i+1)*W,none⟩,?_,C _ rfl rfl⟩
    simp only[Ao,D,U,V,ya,dd,AL,aO,c9,dZ,hex]
    grind
  .refine⟨.slice (some ⟨b,o+(i+1)*W,none⟩) (n - (i+1))<|c - (i+1),?_,?_⟩
   .simp only[Ao,D,U,V,ya,dd,AL,aO,c9,dZ,Z];grind
   .have:n - (i+1)=0:=ER
    rw[this]
    exact C _ rfl (by simp[lE])
 .refine⟨.slice (some ⟨b,o+(i+1)*W,none⟩) (n - (i+1))<|c - (i+1),?_,?_⟩
  .simp only[Ao,D,U,V,ya,dd,AL,aO,c9,dZ,ER];grind
  have δ:¬n - (i+1)=0:=ER
  have γ:dE h ⟨b,o+(i+1)*W,none⟩ ((n - (i+1))*W)=some (cs.drop<|(i+1)*W):=by
   rw[aDs s w ER,e8 ES]
  have α:(cs.drop<|(i+1)*W).length=(n - (i+1))*W:=ES
  have N:(cs.drop<|(i+1)*W).all gA=true:=ES
  obtain⟨t,B,Q⟩:=s.dX (j:=i*W) ER N w
  have S:i+(n - (i+1))=n - 1:=ER
  refine⟨(.slice (some ⟨b,o,none⟩) (n - 1) c,t),?_,?_⟩
  .simp only[kH,C9,lE,aXf δ,ba,e9,γ,N,α,BE,bne_self_eq_false,Bool.or_self,aO,c9,dZ,B,l4,dd,S];grind
  grind[dK]
end Go.Ab
