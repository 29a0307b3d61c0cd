/- A part of the proof. -/
import Derived.Test.YtbcndiahccicpaaGreatDoorS3
import Derived.IntWalk
import Derived.KernelRfl
import Derived.Test.YtbcndiahccicpaaGreatDoorS6
import Derived.ChangeSlices
import Derived.LaidLaws
import Derived.MakeChecks
import Derived.WalkKit
import Derived.ProofKit
import Derived.ChangeOld
import Derived.ChangeSame
import Derived.ChangeVars
import Derived.JoinedOf
import Derived.Carry
import Derived.LaidHandle
import Derived.Stop.Joined
import Derived.Test.YtbcndiahccicpaaGreatDoorS2
set_option linter.all false
open Go Go.Ab
variable {B b i j o:Nat} {P:Program} {c d vs:FJ} {v:Value} {e:TypeId}
namespace Go.Ab
open Go.RowKit
inductive Tok where
 |lA
 |mt (e:TypeId) (x:Bool) (n:Nat)
 |Nu (b:qU)
structure eJ where
 gL:Nat->Nat->FN
 A4:Nat->Option Tok
def S1:qU->Bool
 |.cells ..=>false
 |_=>true
structure eJ.In (r:eJ) (B:Nat) (h:AH):Prop where
 gL:∀b o v,r.gL b o=some v->B<=b/\∃c e x,h.get b=some (.cells c e (0,0) x)/\c[o]?=some v
 lA:∀b,r.A4 b=some .lA->B<=b/\b<h.next/\h.get b=none
 mt:∀b e x n,r.A4 b=some (.mt e x n)->B<=b/\∃c,h.get b=some (.cells c e (0,0) x)/\c.length=n
 Nu:∀b o,r.A4 b=some (.Nu o)->B<=b/\h.get b=some o/\S1 o=true
structure eJ.Be (r s:eJ):Prop where
 gL:∀b o,r.gL b o=none\/s.gL b o=none
 A4:∀b,r.A4 b=none\/s.A4 b=none
def eJ.add (r s:eJ):eJ:=⟨fun b o=>(r.gL b o).or<|s.gL b o,fun b=>(r.A4 b).or<|s.A4 b⟩
def eJ.R4:eJ:=⟨fun _ _=>none,fun _=>none⟩
variable {r:eJ}
theorem eJ.fk {s:eJ} (h1:∀b o,r.gL b o=s.gL b o) (c:∀b,r.A4 b=s.A4 b):r=s:=by
 cases r;cases s;grind[eJ.mk.injEq]
variable {α:Type}
theorem Uc {a b:Option α} (h:a=none\/b=none):a.or b=b.or a:=by
 grind
theorem or_none {a b:Option α} (h:a.or b=none):a=none/\b=none:=FR
theorem eJ.Be.symm {s:eJ} (d:r.Be s):s.Be r:=⟨fun b o=>(d.gL b o).symm,fun b=>(d.A4 b).symm⟩
theorem eJ.add_comm {s:eJ} (d:r.Be s):r.add s=s.add r:=eJ.fk (fun b o=>Uc<|d.gL b o) fun b=>Uc<|d.A4 b
theorem eJ.oW {s t:eJ}:(r.add s).add t=r.add (s.add t):=eJ.fk (fun b o=>by simp[eJ.add,Option.or_assoc]) fun b=>by simp[eJ.add,Option.or_assoc]
theorem eJ.mL {s t:eJ}:r.Be (s.add t)↔r.Be s/\r.Be t:=by
 constructor;intro d;refine⟨⟨fun b o=>?_,fun b=>?_⟩,⟨fun b o=>?_,fun b=>?_⟩⟩;rcases d.gL b o with h|h;exact .inl h;exact .inr (or_none h).1;rcases d.A4 b with h|h;exact .inl h;exact .inr (or_none h).1;rcases d.gL b o with h|h;exact .inl h;exact .inr (or_none h).2;rcases d.A4 b with h|h;exact .inl h;exact .inr (or_none h).2;intro⟨d1,d2⟩;refine⟨fun b o=>?_,fun b=>?_⟩;rcases d1.gL b o with h|h;exact .inl h;rcases d2.gL b o with c|c;grind;grind[eJ.add];rcases d1.A4 b with h|h;exact .inl h;rcases d2.A4 b with c|c;grind;grind[eJ.add]
theorem eJ.kQ:eJ.R4.add r=r:=eJ.fk (fun _ _=>by simp[eJ.add,eJ.R4]) fun _=>by simp[eJ.add,eJ.R4]
def eJ.kU:eJ.R4.Be r:=⟨fun _ _=> .inl rfl,fun _=> .inl rfl⟩
theorem eJ.jB {s:eJ} {h:AH} (d:r.Be s):(r.add s).In B h↔r.In B h/\s.In B h:=by
 have m:∀b o v,r.gL b o=some v->(r.add s).gL b o=some v:=fun b o v c=>by simp[eJ.add,c]
 have c2:∀b o v,s.gL b o=some v->(r.add s).gL b o=some v:=fun b o v c=>by
  rcases d.gL b o with h|h;grind[eJ.add];grind
 have t1:∀b v,r.A4 b=some v->(r.add s).A4 b=some v:=fun b v c=>by simp[eJ.add,c]
 have t2:∀b v,s.A4 b=some v->(r.add s).A4 b=some v:=fun b v c=>by
  rcases d.A4 b with h|h;grind[eJ.add];grind
 have c3:∀b o v,(r.add s).gL b o=some v->r.gL b o=some v\/s.gL b o=some v:=fun b o v c=>by
  simp only[eJ.add] at c;cases hr:r.gL b o with
  |none=>grind
  |some u=>grind
 have t3:∀b v,(r.add s).A4 b=some v->r.A4 b=some v\/s.A4 b=some v:=fun b v c=>by
  simp only[eJ.add] at c;cases hr:r.A4 b with
  |none=>grind
  |some u=>grind
 constructor;intro i;exact⟨⟨fun b o v c=>i.gL b o v<|m _ _ _ c,fun b c=>i.lA b<|t1 _ _ c,fun b e x n c=>i.mt b e x n<|t1 _ _ c,fun b o c=>i.Nu b o<|t1 _ _ c⟩,
     ⟨fun b o v c=>i.gL b o v<|c2 _ _ _ c,fun b c=>i.lA b<|t2 _ _ c,fun b e x n c=>i.mt b e x n<|t2 _ _ c,fun b o c=>i.Nu b o<|t2 _ _ c⟩⟩
 intro⟨i,j⟩;refine⟨fun b o v c=>?_,fun b c=>?_,fun b e x n c=>?_,fun b o c=>?_⟩;rcases c3 _ _ _ c with h|h;exact i.gL b o v h;exact j.gL b o v h;rcases t3 _ _ c with h|h;exact i.lA b h;exact j.lA b h;rcases t3 _ _ c with h|h;exact i.mt b e x n h;exact j.mt b e x n h;rcases t3 _ _ c with h|h;exact i.Nu b o h;exact j.Nu b o h
abbrev HP:=eJ->Prop
abbrev IU:=List HP
def xJ:IU->eJ->Prop
 |[],r=>r=eJ.R4
 |A::L,r=>∃c i,A c/\xJ L i/\c.Be i/\r=c.add i
variable {L':IU}
theorem N7 {L:IU} (p:L.Perm L'):∀r,xJ L r->xJ L' r:=by
 induction p with
 |nil=>grind
 |cons A _ v=>exact fun r ⟨i,m,h1,o,c,j⟩=>⟨i,m,h1,v _ o,c,j⟩
 |swap A B L=>
  intro r ⟨i,m,h1,⟨r3,D,q,s,t,u⟩,c,j⟩;subst u;obtain⟨d1,d2⟩:=eJ.mL.1 c;refine⟨r3,_,q,⟨i,D,h1,s,d2,rfl⟩,eJ.mL.2 ⟨d1.symm,t⟩,?_⟩;grind[eJ.oW,eJ.add_comm]
 |trans _ _ z C=>grind
theorem mG {L M:IU}:∀{r},xJ (L++M) r↔∃c i,xJ L c/\xJ M i/\c.Be i/\r=c.add i:=by
 induction L with
 |nil=>intro r;exact⟨fun h=>⟨_,r,rfl,h,eJ.kU,eJ.kQ.symm⟩,fun⟨c,i,h1,j,m,o⟩=>by cases h1;grind[eJ.kQ]⟩
 |cons A L v=>
  intro r;constructor;intro⟨c,i,h1,j,m,o⟩;obtain⟨r3,u,q,s,t,z⟩:=v.1 j;subst z;obtain⟨d1,d2⟩:=eJ.mL.1 m;exact⟨_,u,⟨c,r3,h1,q,d1,rfl⟩,s,(eJ.mL.2 ⟨d2.symm,t.symm⟩).symm,by rw[o,eJ.oW]⟩;intro⟨c,i,⟨r3,u,h1,j,m,o⟩,q,s,t⟩;subst o;obtain⟨d1,d2⟩:=eJ.mL.1 s.symm;exact⟨r3,_,h1,v.2 ⟨u,i,j,q,d2.symm,rfl⟩,eJ.mL.2 ⟨m,d1.symm⟩,by rw[t,eJ.oW]⟩
structure Bg where
 base:Nat
 old:Nat->JC
 hb:Nat
structure Hs (G:Bg) (h:AH) (L:IU):Prop where
 base:h.base=G.hb/\G.hb<=G.base
 old:∀i,i<G.base->h.get i=G.old i
 wf:G.base<=h.next
 fr:∀i,h.next<=i->h.get i=none
 Wp:∃r,xJ L r/\r.In G.base h
variable {K:FuncId->FJ->IX} {G:Bg} {h:AH} {L M:IU}
def Hs.le (c:Hs G h L):h.base<=G.base:=by rw[c.base.1];exact c.base.2
def Hs.cI (c:Hs G h L) (p:L.Perm L'):Hs G h L':=⟨c.base,c.old,c.wf,c.fr,let⟨r,h1,i⟩:=c.Wp;⟨r,N7 p r h1,i⟩⟩
def Hs.tail {A:HP} (c:Hs G h (A::L)):Hs G h L:=⟨c.base,c.old,c.wf,c.fr,let⟨_,⟨_,q,_,i,j,m⟩,o⟩:=c.Wp;⟨q,i,((eJ.jB j).1<|m▸o).2⟩⟩
theorem Hs.fp {A:HP} {B:IU} (c:Hs G h (A::L)) (k:∀r,A r->xJ B r):Hs G h (B++L):=⟨c.base,c.old,c.wf,c.fr,let⟨r,⟨q,s,h1,j,m,o⟩,i⟩:=c.Wp;⟨r,mG.2 FR,i⟩⟩
def Hs.join {A:IU} {B:HP} (c:Hs G h (A++L)) (k:∀r,xJ A r->B r):Hs G h (B::L):=⟨c.base,c.old,c.wf,c.fr,let⟨r,h1,q⟩:=c.Wp;let⟨i,s,h1,j,m,o⟩:=mG.1 h1;⟨r,⟨i,s,k i h1,j,m,o⟩,q⟩⟩
class dZ {α:Type} (R:α->HP) (L:IU) (a:outParam α) (L':outParam (IU)):Prop where
 cI:L.Perm (R a::L')
instance (priority:=low) dZ.A5 {α:Type} {R:α->HP} {A:HP} {a:α} [k:dZ R L a L']:dZ R (A::L) a (A::L'):=⟨(k.cI.cons A).trans<|List.Perm.swap _ _ _⟩
instance (priority:=high) dZ.aMp {α:Type} {R:α->HP} {a:α}:dZ R (R a::L) a L:=⟨BU _⟩
instance (priority:=high) dZ.app {α:Type} {R:α->HP} {A:HP} {c L2:IU} {a:α} [k:dZ R (A::(c++L2)) a L']:dZ R ((A::c)++L2) a L':=k
instance (priority:=high) dZ.aVg {α:Type} {R:α->HP} {L2:IU} {a:α} [k:dZ R L2 a L']:dZ R ([]++L2) a L':=k
def Of (b o:Nat) (c:FJ):eJ:=⟨fun j i=>if j=b/\o<=i then c[i - o]? else none,fun _=>none⟩
def aK (b o:Nat) (c:FJ):HP:=fun r=>r=Of b o c
def mt (b:Nat) (m:TypeId×Bool×Nat):HP:=fun r=>r=⟨fun _ _=>none,fun c=>if c=b then some (.mt m.1 m.2.1 m.2.2) else none⟩
def ot (b:Nat) (o:qU):HP:=fun r=>r=⟨fun _ _=>none,fun c=>if c=b then some (.Nu o) else none⟩
def frs (c n:Nat) (D:FL):HP:=fun r=>r=⟨fun _ _=>none,fun b=>if c<=b/\b<c+n/\(b - c)∉D then some .lA else none⟩
variable {o':Nat}
theorem xH:(Of b o c).gL i o'=if i=b/\o<=o' then c[o' - o]? else none:=rfl
theorem Ps:Of b o (c++d)=(Of b o c).add (Of b (o+c.length) d):=by
 refine eJ.fk (fun i j=>?_) fun _=>rfl;grind[eJ.add,xH]
theorem aE0:(Of b o c).Be (Of b (o+c.length) d):=by
 refine⟨fun i j=>?_,fun _=> .inl rfl⟩;grind[xH]
def Ib (r:eJ):aK b o (c++d) r↔xJ [aK b o c,aK b (o+c.length) d] r:=by
 constructor;intro t;cases t;exact⟨_,_,rfl,⟨_,_,rfl,rfl,eJ.kU.symm,rfl⟩,by rw[eJ.add_comm eJ.kU.symm,eJ.kQ];exact aE0,by rw[eJ.add_comm (s:=eJ.R4) eJ.kU.symm,eJ.kQ,Ps]⟩;intro⟨z,A,h1,⟨r3,C,j,m,v,q⟩,u,i⟩;cases h1;cases j;cases m;subst q;rw[eJ.add_comm eJ.kU.symm,eJ.kQ] at i;rw[<-Ps] at i;exact i
def Hs.split (i:Hs G h (aK b o (c++d)::L)):Hs G h (aK b o c::aK b (o+c.length) d::L):=i.fp (B:=[_,_]) fun r=>(Ib r).1
theorem Hs.Ra (j:Hs G h (aK b o c::aK b o' d::L)) (i:o'=o+c.length):Hs G h (aK b o (c++d)::L):=by
 subst i;exact Hs.join j fun r=>(Ib r).2
theorem Hs.yp (s:Hs G h (aK b o c::L)) (hc:c[j]?=some v):
  G.base<=b/\∃i e x,h.get b=some (.cells i e (0,0) x)/\i[o+j]?=some v:=by
 obtain⟨_,⟨u,z,h1,t,m,q⟩,r⟩:=s.Wp
 cases h1
 subst q
 exact(((eJ.jB m).1 r).1.gL b (o+j) v<|by simp_all[xH,bD2])
theorem Hs.cells (r:Hs G h (aK b o c::L)) (q:0<c.length):
  G.base<=b/\∃m e x,h.get b=some (.cells m e (0,0) x)/\o+c.length<=m.length/\∀j,j<c.length->m[o+j]?=c[j]?:=by
 obtain⟨s,m,e,x,t,z⟩:=r.yp<|b0 q
 have i:∀j,j<c.length->m[o+j]?=c[j]?:=fun j v=>by
  obtain⟨_,c2,e2,C,u,A⟩:=r.yp<|b0 v;grind
 refine⟨s,m,e,x,t,?_,i⟩
 have h1:=i (c.length - 1) FQ
 grind
theorem eJ.In.of {h m:AH} (i:r.In B h) (t:m.base=h.base) (z:h.next<=m.next) (u:∀b,(r.A4 b≠none\/∃o,r.gL b o≠none)->m.get b=h.get b):r.In B m where
 gL:=fun b o v j=>by
  obtain⟨h1,c,e,x,q,s⟩:=i.gL b o v j;grind
 lA:=fun b j=>by
  obtain⟨h1,q,s⟩:=i.lA b j;grind
 mt:=fun b e x n j=>by
  obtain⟨h1,c,q,s⟩:=i.mt b e x n j;grind
 Nu:=fun b o j=>by
  obtain⟨h1,q,s⟩:=i.Nu b o j;grind
theorem Hs.iV (u:Hs G h (aK b o c::L)) (hl:j+vs.length<=c.length) (hv:vs.all gU=true) (N:0<c.length):
  ∃Q,jP h ⟨b,o+j,none⟩ vs=some Q/\Hs G Q (aK b o (eB c j vs)::L):=by
 obtain⟨X,C,e,x,D,T,R⟩:=u.cells N
 have z:h.base<=b:=cL u.le X
 refine⟨h.set b<|some<|.cells (eB C (o+j) vs) e (0,0) x,?_,?_⟩
 .simp only[jP,ef,Bool.false_or,hv,BQ,Bool.or_false,D];grind
 .obtain⟨_,⟨r1,O,h1,I,J,V⟩,W⟩:=u.Wp;cases h1;subst V;obtain⟨i1,i2⟩:=(eJ.jB J).1 W;have r:∀i,(h.set b _).get i=if i=b then some (.cells (eB C (o+j) vs) e (0,0) x) else h.get i:=fun i=>AH.oA z
  have γ:∀k,(eB C (o+j) vs)[k]?=if o+j<=k/\k<o+j+vs.length then vs[k - (o+j)]? else C[k]?:=fun k=>by
   unfold eB;by_cases h1:k<o+j;grind;by_cases I:k<o+j+vs.length;grind;rw[aaa,p4 FX];simp only[dd,oH,BJ];grind
  have β:∀k,(eB c j vs)[k]?=if j<=k/\k<j+vs.length then vs[k - j]? else c[k]?:=fun k=>by
   unfold eB;by_cases h1:k<j;grind;by_cases I:k<j+vs.length;grind;rw[aaa,p4 FX];grind
  have S:(Of b o<|eB c j vs).Be O:=by
   refine⟨fun q s=>?_,fun _=> .inl rfl⟩;rcases J.gL q s with h|h;grind[xH];exact .inr h
  have Y:b<h.next:=by
   rcases u4 b h.next with h1|h1
   exact h1;rw[u.fr b h1] at D;cases D
  refine⟨by simp;exact u.base,fun i F=>by rw[r,aaa];exact u.old i F,by simp;exact u.wf,fun i F=>by simp at F;rw[r,aaa];exact u.fr i F,_,⟨_,O,rfl,I,S,rfl⟩,(eJ.jB S).2 ⟨?_,?_⟩⟩
  .refine⟨fun q s v m=>?_,fun _ A=>by simp[Of] at A,fun _ _ _ _ A=>by simp[Of] at A,fun _ _ A=>by simp[Of] at A⟩;rw[xH] at m;grind
  .have α:∀q s v,O.gL q s=some v->q=b->¬(o+j<=s/\s<o+j+vs.length):=by
    intro q s v m t hk;subst t;rcases J.gL q s with h|h;rw[xH,aac,List.getElem?_eq_none_iff] at h;omega;grind
   refine⟨fun q s v m=>?_,fun q m=>?_,fun q U x' n m=>?_,fun q ob m=>?_⟩
   .obtain⟨g1,c2,e2,x2,g2,g3⟩:=i2.gL q s v m;grind
   .obtain⟨g1,g2,g3⟩:=i2.lA q m;refine⟨g1,by simp;exact g2,?_⟩;grind
   .obtain⟨g1,c2,g2,g3⟩:=i2.mt q U x' n m;refine⟨g1,?_⟩;rw[r];by_cases t:q=b
    .rw[bD2 t];rw[t,D] at g2;cases g2;exact⟨_,rfl,by simp[eB];omega⟩
    grind
   .obtain⟨g1,g2,g3⟩:=i2.Nu q ob m;refine⟨g1,?_,g3⟩;rw[r,bD1<|by grind[S1]];exact g2
theorem aBn {h:AH} (j:r.In B h) (s:h.get i=none) (q:r.A4 i=none) {t:Option Tok}:
  (⟨fun b o=>if b=i then c[o]? else none,fun b=>if b=i then t else none⟩:eJ).Be r:=by
 refine⟨fun b o=>?_,fun b=>?_⟩
 .by_cases m:b=i
  .right;cases hc:r.gL b o with
   |none=>rfl
   |some v=>obtain⟨_,_,_,_,g,_⟩:=j.gL b o v hc;grind
  grind
 grind
def uA (i:Nat) (c:FJ) (t:Option Tok):eJ:=⟨fun b o=>if b=i then c[o]? else none,fun b=>if b=i then t else none⟩
theorem wR {x:Bool}:xJ [aK i 0 c,mt i (e,x,c.length)] (uA i c<|some<|.mt e x c.length):=by
 refine⟨_,_,rfl,⟨_,_,rfl,rfl,eJ.kU.symm,rfl⟩,?_,?_⟩;rw[eJ.add_comm eJ.kU.symm,eJ.kQ];exact⟨FR,fun _=> .inl rfl⟩;rw[eJ.add_comm eJ.kU.symm,eJ.kQ];refine eJ.fk (fun b o=>?_) fun b=>?_;simp[uA,eJ.add,Of];simp[uA,eJ.add,Of]
theorem Hs.kT {x:Bool} (q:Hs G h L):Hs G (h.alloc<|.cells c e (0,0) x) (aK h.next 0 c::mt h.next (e,x,c.length)::L):=by
 obtain⟨r,h1,A⟩:=q.Wp;have z:=q.fr _<|bb _;have C:r.A4 h.next=none:=by
  cases ht:r.A4 h.next with
  |none=>rfl
  |some t=>
   cases t with
   |lA=>have:=(A.lA _ ht).2.1;omega
   |mt J N n=>obtain⟨_,_,g,_⟩:=A.mt _ _ _ _ ht;grind
   |Nu o=>obtain⟨_,g,_⟩:=A.Nu _ _ ht;grind
 have I:(uA h.next c<|some<|.mt e x c.length).Be r:=aBn A z C;have m:∀j,(h.alloc _).get j=if j=h.next then some (.cells c e (0,0) x) else h.get j:=fun j=>AH.wQ<|cL q.le q.wf
 refine⟨q.base,fun i F=>(by rw[m,bD1<|by have:=q.wf;omega];exact q.old i F),u3 q.wf,fun i F=>by simp at F;rw[m,aaa];exact q.fr i FQ,_,(mG).2 ⟨_,r,wR,h1,I,rfl⟩,(eJ.jB I).2 ⟨?_,?_⟩⟩;refine⟨fun b o v s=>?_,fun b s=>?_,fun b J N n s=>?_,fun b o s=>?_⟩;simp only[uA] at s;split at s;rename_i u;subst u;exact⟨q.wf,c,e,x,FR,s⟩;cases s;grind[uA];simp only[uA] at s;split at s;rename_i u;subst u;cases s;exact⟨q.wf,c,FR,rfl⟩;cases s;grind[uA];refine A.of rfl FW fun b u=>?_;rw[m,bD1];intro D;subst D;rcases u with u|⟨o,u⟩;exact u C;apply u;cases hc:r.gL h.next o with
 |none=>rfl
 |some v=>obtain⟨_,_,_,_,g,_⟩:=A.gL _ o v hc;grind
end Go.Ab
variable {x:Nat×FJ} {k:Value->Prop} {W cap n:Nat} {cs l ns z:FJ} {f:FuncId} {p:FL} {a:FM} {q:Prop} {ps:List (Nat×Nat×Value)} {Q:Value->AH->Prop}
namespace Go.Ab
variable {K:FuncId->FJ->IX} {G:Bg} {h:AH} {L L' M:IU}
variable {α:Type}
def dZ.of {R:α->HP} {a:α} (m:dZ R L a L') (c:Hs G h L):Hs G h (R a::L'):=c.cI m.cI
def Ce (h:AH) (j:Nat) (e:TypeId) (l:FJ) (n c:Nat) (k:Value->AH->Prop):Prop:=Jj h (.cells l e (0,0) true) fun p i=>k (.slice (some ⟨p,0,none⟩) n c) i
def qL (h:AH) (r:Nat) (j:Nat) (e:TypeId) (l:FJ) (n c:Nat) (k:Value->AH->Prop):Prop:=rJ h r (.cells l e (0,0) true) fun p i=>k (.slice (some ⟨p,0,none⟩) n c) i
def lp (P:Program) (f:FuncId) (p:FL) (n:Nat) (e:Nat->Value) (d:Nat) (st:LoopState) (pd:Option Code):qU:=
 .loop st pd f ((List.range n).map e) (rgF<|cd P f p).2.1 (rgF<|cd P f p).2.2.1 (rgF<|cd P f p).2.2.2 d
def Hs.cv (c:Hs G h L) (hb:b<G.base):h.get b=G.old b:=by
 exact c.old b hb
structure Ob (G:Bg) (b:Nat) (c:FJ):Prop where
 lt:b<G.base
 get:∃e fz x,G.old b=some (.cells c e fz x)
theorem aE (i:Hs G h L) [m:dZ (aK b o) L c L'] (hc:c[j]?=some v) (s:k v):cC (vZ h<|pt b o j) k:=by
 obtain⟨_,q,e,x,r,h1⟩:=(m.of i).yp hc;simp_all[vZ,pt]
def ai (b:Nat) (i:Hs G h L) [m:dZ (aK b 0) L c L'] (hc:c[j]?=some v) (s:k v):cC (vZ h<|pt b 0 j) k:=aE (b:=b) (o:=0) i hc s
theorem Gt (r:Hs G h L) (i:Ob G b c) (hc:c[o+j]?=some v) (q:k v):cC (vZ h<|pt b o j) k:=by
 obtain⟨e,s,x,m⟩:=i.get;exact⟨v,by simp[vZ,pt,r.cv i.lt,m,hc],q⟩
theorem bC (t:Hs G h L) [m:dZ (aK b o) L c L'] (A:0<n) (hc:(c.drop j).take n=l) (z:l.length=n) (s:k (.agg ⟨l⟩)):cC (yU h n<|pt b o j) k:=by
 have q:j+n<=c.length:=by
  grind
 obtain⟨_,u,e,x,r,h1,v⟩:=(m.of t).cells FQ;refine⟨_,?_,s⟩;simp only[yU,pt,eN,ef,aO,dx,r];rw[aac];simp only[xa,Option.some.injEq,Value.agg.injEq,Array.mk.injEq];refine ri fun i=>?_;grind
def am (b:Nat) (t:Hs G h L) [m:dZ (aK b 0) L c L'] (hc:(c.drop j).take n=l) (z:l.length=n) (s:k (.agg ⟨l⟩)) (A:0<n:=by decide):cC (yU h n<|pt b 0 j) k:=bC (b:=b) (o:=0) t A hc z s
theorem tj (r:Hs G h L) (i:Ob G b c) (hc:(c.drop<|o+j).take n=l) (t:l.length=n) (hb:o+j<=c.length) (q:k (.agg ⟨l⟩)):cC (yU h n<|pt b o j) k:=by
 obtain⟨e,s,x,m⟩:=i.get;have:=eV List.length hc;simp at this;exact⟨_,by simp[yU,pt,eN,r.cv i.lt,m,hc];omega,q⟩
def bM:FJ->Nat->FJ->FJ
 |c,0,[]=>c
 |[],0,_::_=>[]
 |_::c,0,v::i=>v::bM c 0 i
 |[],_+1,_=>[]
 |x::c,j+1,i=>x::bM c j i
theorem tP:∀(c:FJ) (j:Nat) (vs:FJ),j+vs.length<=c.length->eB c j vs=bM c j vs
 |c,0,[],_=>by grind[eB,bM]
 |[],0,_::_,h=>by simp at h
 |x::c,0,v::vs,h=>by
  have:=tP c 0 vs FR;grind[bM,eB]
 |[],j+1,vs,h=>by simp at h
 |x::c,j+1,vs,h=>by
  have:=tP c j vs FR;grind[bM,eB]
theorem aYi {k:AH->Prop} (s:Hs G h L) [m:dZ (aK b o) L c L'] (A:nF v=some vs) (z:vs.length=n) (q:Nat.ble (j+n) c.length=true) (hb:vs.all gU=true) (r:Nat.ble 1 c.length=true)
  (u:∀i,Hs G i (aK b o (bM c j vs)::L')->k i):cC (Ar h n (pt b o j) v) k:=by
 have q:=oV q
 obtain⟨i,h1,t⟩:=(m.of s).iV (j:=j) FQ hb<|oV r
 simp_all[tP,Ar,pt]
def cT {k:Nat->AH->Prop} (m:Hs G h L) (j:∀p i,Hs G i (aK p 0 cs::L)->k p i):Jj h (.cells cs e (0,0) true) k:=
 j _ _ (let t:=m.kT (c:=cs) (e:=e) (x:=true);(t.cI<|List.Perm.swap _ _ _).tail)
def aY9 {k:Nat->AH->Prop} (j:Hs G h L) (m:nF v=some cs) (i:∀p c,Hs G c (aK p 0 cs::L)->k p c):cC (pX e v) fun b=>Jj h b k:=
 ⟨.cells cs e (0,0) true,by simp[pX,m],cT j i⟩
def y4 (r:Nat) (x:Nat×FL):HP:=frs r x.1 x.2
theorem aNx {k:Nat->AH->Prop} (c:Hs G h L) (z:∀r u,Hs G u (y4 r (n,[])::L)->k r u):C0 h n k:=by
 refine z _ _ ?_;obtain⟨r,h1,j⟩:=c.Wp;have C:∀i,({h with next:=h.next+n}:AH).get i=h.get i:=fun i=>rfl;refine⟨c.base,c.old,cL c.wf FR,fun i D=>by exact c.fr i FR,_,⟨_,r,rfl,h1,?_,rfl⟩,(eJ.jB ?_).2 ⟨?_,?_⟩⟩;rotate_right;exact j.of rfl FR fun _ _=>rfl;have s:∀b,h.next<=b->r.A4 b=none:=fun b m=>by
  cases ht:r.A4 b with
  |none=>rfl
  |some t=>
   cases t with
   |lA=>have:=(j.lA _ ht).2.1;omega
   |mt v A n=>obtain⟨_,_,g,_⟩:=j.mt _ _ _ _ ht;rw[c.fr b m] at g;cases g
   |Nu o=>obtain⟨_,g,_⟩:=j.Nu _ _ ht;rw[c.fr b m] at g;cases g
 refine⟨FR,fun b=>?_⟩;grind;have s:∀b,h.next<=b->r.A4 b=none:=fun b m=>by
  cases ht:r.A4 b with
  |none=>rfl
  |some t=>
   cases t with
   |lA=>have:=(j.lA _ ht).2.1;omega
   |mt v A n=>obtain⟨_,_,g,_⟩:=j.mt _ _ _ _ ht;rw[c.fr b m] at g;cases g
   |Nu o=>obtain⟨_,g,_⟩:=j.Nu _ _ ht;rw[c.fr b m] at g;cases g
 refine⟨FR,fun b=>?_⟩;grind;refine⟨FR,fun b q=>?_,fun b e x n q=>?_,fun b o q=>?_⟩;simp only at q;split at q;rename_i hc;have:=c.wf;exact⟨FR,hc.2.1,by exact c.fr b hc.1⟩;cases q;grind;grind
def Wj (c:Bool) (i:FL) (op:BinOp) (a b:Value) (q:Value->Prop):Prop:=c=true/\cC (Wi i op a b) q
def dj (c:Bool) (h:AH) (n:Nat) (k:Nat->AH->Prop):Prop:=c=true/\C0 h n k
def bI {c:Bool} {k:Nat->AH->Prop} (m:Hs G h L) (j:∀r i,Hs G i (y4 r (n,[])::L)->k r i) (hc:c=true:=by kernel_rfl):dj c h n k:=⟨hc,aNx m j⟩
variable {r:Nat}
theorem gh {D:FL} (c:i<n) (hD:i∉D):xJ [fun q=>q=(⟨fun _ _=>none,fun b=>if b=r+i then some .lA else none⟩:eJ),frs r n (i::D)] ⟨fun _ _=>none,fun b=>if r<=b/\b<r+n/\(b - r)∉D then some .lA else none⟩:=by
 refine⟨_,_,rfl,⟨_,_,rfl,rfl,eJ.kU.symm,rfl⟩,?_,?_⟩;rw[eJ.add_comm eJ.kU.symm,eJ.kQ];refine⟨FR,fun b=>?_⟩;grind;rw[eJ.add_comm eJ.kU.symm,eJ.kQ];refine eJ.fk (fun _ _=>rfl) fun b=>?_;simp only[eJ.add];grind
theorem Hs.Qe {D:FL} {x:Bool} (t:Hs G h (frs r n D::L)) (hi:i<n) (hD:i∉D):
  Hs G (h.set (r+i)<|some<|.cells c e (0,0) x) (aK (r+i) 0 c::mt (r+i) (e,x,c.length)::frs r n (i::D)::L):=by
 obtain⟨q,⟨r1,T,h1,V,I,W⟩,X⟩:=t.Wp
 cases h1
 subst W
 obtain⟨i1,i2⟩:=(eJ.jB I).1 X
 obtain⟨q1,q2,N,⟨q3,q4,O,Q,α,C⟩,Y,R⟩:=gh (r:=r) hi hD
 cases N;cases Q
 rw[eJ.add_comm FQ,eJ.kQ] at C
 subst C
 cases O
 rw[R] at i1 I
 obtain⟨i3,i4⟩:=(eJ.jB Y).1 i1
 obtain⟨fb,fn,U⟩:=i3.lA (r+i) FW
 obtain⟨d1,d2⟩:=eJ.mL.1 I.symm
 have s:∀j,(h.set _ _).get j=if j=r+i then some (.cells c e (0,0) x) else h.get j:=fun j=>AH.oA<|cL t.le fb
 have m:=(eJ.jB d2.symm).2 ⟨i4,i2⟩
 have z:((⟨fun _ _=>none,fun b=>if r<=b/\b<r+n/\(b - r)∉(i::D) then some .lA else none⟩:eJ).add T).A4 (r+i)=none:=by
  simp only[eJ.add];rw[bD1 FR];rcases d1.A4 (r+i) with h|h;grind;simp at h
 have A:(uA _ c<|some<|.mt e x c.length).Be _:=aBn m U z
 refine⟨by simp;exact t.base,fun j F=>by rw[s,aaa];exact t.old j F,by simp;exact t.wf,fun j F=>by simp at F;rw[s,aaa];exact t.fr j F,
    _,(mG (L:=[aK _ 0 c,mt _ (e,x,c.length)])).2 ⟨_,_,wR,⟨_,T,rfl,V,d2.symm,rfl⟩,A,rfl⟩,(eJ.jB A).2 ⟨?_,?_⟩⟩
 .refine⟨fun b o v S=>?_,fun b S=>?_,fun b e' x' n S=>?_,fun b o S=>?_⟩
  .grind[uA]
  .grind[uA]
  .simp_all[uA]
  grind[uA]
 .refine m.of FW FW fun b u=>?_;rw[s,bD1];intro J;subst J;rcases u with u|⟨o,u⟩
  .exact u z
  .apply u;cases hc:eJ.gL _ _ o with
   |none=>rfl
   |some v=>obtain⟨_,_,_,_,g,_⟩:=m.gL _ o v hc;grind
def aZc {A B:HP} (c:Hs G h (A::B::L)):Hs G h (A::L):=(c.cI<|List.Perm.swap _ _ _).tail
theorem nI {D:FL} {k:Nat->AH->Prop} (o:Hs G h L) [m:dZ (y4 r) L (n,D) L'] (q:Nat.blt i n=true) (hD:D.contains i=false)
  (j:∀p c,Hs G c (aK p 0 cs::y4 r (n,i::D)::L')->k p c):rJ h (r+i) (.cells cs e (0,0) true) k:=
 j _ _ (aZc<|Hs.Qe (show Hs G h (frs r n D::L') from m.of o) HB FR)
def aNt {D:FL} {k:Nat->AH->Prop} (q:Hs G h L) [m:dZ (y4 r) L (n,D) L'] (s:nF v=some cs) (j:Nat.blt i n=true) (hD:D.contains i=false)
  (o:∀p c,Hs G c (aK p 0 cs::y4 r (n,i::D)::L')->k p c):cC (pX e v) fun b=>rJ h (r+i) b k:=
 ⟨.cells cs e (0,0) true,by simp[pX,s],nI q j hD o⟩
theorem Hs.aTe {o:qU} (N:S1 o=true) (m:Hs G h L):Hs G (h.alloc o) (ot h.next o::L):=by
 obtain⟨r,h1,u⟩:=m.Wp;have D:h.get h.next=none:=m.fr _<|bb _
 have A:r.A4 h.next=none:=by
  cases ht:r.A4 h.next with
  |none=>rfl
  |some t=>
   cases t with
   |lA=>have:=(u.lA _ ht).2.1;omega
   |mt J O n=>obtain⟨_,_,g,_⟩:=u.mt _ _ _ _ ht;grind
   |Nu o=>obtain⟨_,g,_⟩:=u.Nu _ _ ht;grind
 have F:(⟨fun _ _=>none,fun I=>if I=h.next then some (.Nu o) else none⟩:eJ).Be r:=by
  refine⟨FR,fun b=>?_⟩;by_cases q:b=h.next
  grind;grind
 have c:∀j,(h.alloc o).get j=if j=h.next then some o else h.get j:=fun j=>AH.wQ<|cL m.le m.wf
 refine⟨m.base,fun i C=>(by rw[c,bD1<|by have:=m.wf;omega];exact m.old i C),u3 m.wf,fun i C=>by simp at C;rw[c,aaa];exact m.fr i FQ,_,⟨_,r,rfl,h1,F,rfl⟩,(eJ.jB F).2 ⟨?_,?_⟩⟩;refine⟨FR,fun b s=>?_,fun b J O n s=>?_,fun b Q s=>?_⟩;grind;grind;simp only at s;split at s;rename_i q;subst q;cases s;exact⟨m.wf,FR,N⟩;cases s;refine u.of rfl FW fun b q=>?_;rw[c,bD1];intro z;subst z;rcases q with q|⟨o,q⟩;exact q A;apply q;cases hc:r.gL h.next o with
 |none=>rfl
 |some v=>obtain⟨_,_,_,_,g,_⟩:=u.gL _ o v hc;grind
theorem Hs.G9 {o o':qU} (T:S1 o'=true) (i:Hs G h (ot b o::L)):h.get b=some o/\h.base<=b/\Hs G (h.set b<|some o') (ot b o'::L):=by
 obtain⟨q,⟨U,s,h1,F,A,I⟩,J⟩:=i.Wp;cases h1;subst I;obtain⟨i1,i2⟩:=(eJ.jB A).1 J;obtain⟨gb,u,z⟩:=i1.Nu b o FW;have c:∀j,(h.set b _).get j=if j=b then some o' else h.get j:=fun j=>AH.oA<|cL i.le gb
 have O:b<h.next:=by
  rcases u4 b h.next with h1|h1
  exact h1;rw[i.fr b h1] at u;cases u
 have R:s.A4 b=none:=by rcases A.A4 b with h|h;simp at h;exact h
 have Q:∀r,s.gL b r=none:=fun r=>by
  cases hc:s.gL b r with
  |none=>rfl
  |some v=>
   obtain⟨_,_,_,_,g,_⟩:=i2.gL _ r v hc;grind[S1]
 have C:(⟨fun _ _=>none,fun m=>if m=b then some (.Nu o') else none⟩:eJ).Be s:=by
  refine⟨FR,fun m=>?_⟩;by_cases N:m=b;grind;grind
 refine⟨u,cL i.le gb,by simp;exact i.base,fun j t=>by rw[c,aaa];exact i.old j t,by simp;exact i.wf,fun j t=>by simp at t;rw[c,aaa];exact i.fr j t,_,⟨_,s,rfl,F,C,rfl⟩,(eJ.jB C).2 ⟨?_,?_⟩⟩;refine⟨FR,fun b D=>?_,fun b S V n D=>?_,fun m r D=>?_⟩;grind;grind;simp_all;refine i2.of FW FW fun m N=>?_;grind
def pD (P:Program) (f:FuncId) (p:FL) (n:Nat) (e:Nat->Value) (d l:Nat) (x:LoopState×Option Code):HP:=ot l<|lp P f p n e d x.1 x.2
def mk (d:Nat) (_:Unit):HP:=ot d<|.wO true
def nY {k:Nat->AH->Prop} (j:Hs G h L) (i:∀d c,Hs G c (mk d ()::L)->k d c):Jj h (.wO true) k:=i _ _<|j.aTe rfl
variable {st:LoopState}
def rK {e:Nat->Value} {d:Nat} {pd:Option Code} {k:Nat->AH->Prop} (j:Hs G h L) (i:∀l c,Hs G c (pD P f p n e d l (st,pd)::L)->k l c):Jj h (lp P f p n e d st pd) k:=i _ _<|j.aTe rfl
def nU {k:AH->Prop} (c:k h):cC (dO [] h) k:=⟨h,rfl,c⟩
theorem qQ {d:Nat} {i:FL} {k:AH->Prop} (q:Hs G h L) [m:dZ (mk d) L () L'] (o:∀c,Hs G c L'->cC (dO i c) k):cC (dO (d::i) h) k:=by
 obtain⟨h1,r,j⟩:=Hs.G9 (o':= .wO false) rfl<|show Hs G h _ from m.of q;obtain⟨c,s,t⟩:=o _ j.tail;simp_all[dO,bD2]
variable {st':LoopState} {pd':Option Code}
theorem aWm {e:Nat->Value} {d l:Nat} {pd:Option Code} {k:AH->Prop} (o:Hs G h L) [m:dZ (pD P f p n e d l) L (st,pd) L'] (j:∀c,Hs G c (pD P f p n e d l (st',pd')::L')->k c):
  cC (eX h l st'<|some pd') k:=by
 obtain⟨h1,q,i⟩:=Hs.G9 (o':=lp P f p n e d st' pd') rfl<|show Hs G h (ot l (lp P f p n e d st pd)::L') from m.of o
 exact⟨_,by simp_all[eX,lp,bD2],j _ i⟩
theorem aOp {e:Nat->Value} {d l:Nat} {pd:Option Code} {k:AH->Prop} (o:Hs G h L) [m:dZ (pD P f p n e d l) L (.ready,pd) L'] (j:∀c,Hs G c (pD P f p n e d l (.busy,pd)::L')->k c):
  cC (oI h l) k:=by
 obtain⟨h1,q,i⟩:=Hs.G9 (o':=lp P f p n e d .busy pd) rfl<|show Hs G h (ot l (lp P f p n e d .ready pd)::L') from m.of o
 exact⟨_,by simp only[oI,eX,h1,lp];grind,j _ i⟩
def aJ9 {e:Nat->Value} {d l:Nat} {pd:Option Code} {k:Option Code->AH->Prop} (s:Hs G h L) [m:dZ (pD P f p n e d l) L (st,pd) L'] (c:st≠.busy) (q:∀i,Hs G i L'->k pd i):
  cC (yL h l) fun r=>k r.1 r.2:=by
 obtain⟨h1,j,o⟩:=Hs.G9 (o':=lp P f p n e d .exhausted pd) rfl<|show Hs G h (ot l (lp P f p n e d st pd)::L') from m.of s
 refine⟨(pd,_),?_,q _ o.tail⟩
 simp only[yL,h1,lp]
 rw[bD1 c]
 simp only[eX,h1,lp]
 rw[bD2 j];rfl
theorem aKj {e:Nat->Value} {d l:Nat} {pd:Option Code} {k:Nat->Prop} (c:Hs G h L) [m:dZ (pD P f p n e d l) L (st,pd) L'] (i:k d):cC (jF h l) k:=by
 obtain⟨h1,_,_⟩:=Hs.G9 (o':= .wO true) rfl<|show Hs G h (ot l (lp P f p n e d st pd)::L') from m.of c;simp_all[jF,lp]
def bAv {e:Nat->Value} {d l:Nat} {pd:Option Code} (c:Hs G h L) [m:dZ (pD P f p n e d l) L (st,pd) L']:h.get l=some (lp P f p n e d st pd):=
 (Hs.G9 (o':= .wO true) rfl<|show Hs G h (ot l (lp P f p n e d st pd)::L') from m.of c).1
def eC (W:Nat) (e:TypeId) (a:FM) (cap:Nat) (x:Nat×FJ):HP:=fun r=>
 x.2.length=x.1*W/\x.2.all gU=true/\
 ((x.1=0/\r=eJ.R4/\cap=0/\(a=none\/∃b o,a=some ⟨b,o,some 1⟩))\/
  (x.1=0/\cap=0/\∃b o j,a=some ⟨b,o,some 2⟩/\o<=j.length/\r=uA b j (some<|.mt e false j.length))\/
  (x.1<=cap/\∃b i c ex,a=some ⟨b,i.length,none⟩/\i.length+cap*W<=(i++x.2++c).length/\r=uA b (i++x.2++c) (some<|.mt e ex (i++x.2++c).length)))
theorem lF (i:Hs G h L):Hs G h (eC W e none 0 (0,[])::L):=by
 exact Hs.join (A:=[]) i fun r c=>(⟨FW,rfl,.inl ⟨rfl,c,rfl,.inl rfl⟩⟩)
theorem xY {x:Bool} {r:eJ} (h:xJ [aK b 0 c,mt b (e,x,c.length)] r):r=uA b c (some<|.mt e x c.length):=by
 obtain⟨A,C,h1,⟨r3,D,j,m,s,t⟩,o,q⟩:=h;obtain⟨u,q2,g1,⟨v,z,g5,g6,g7,g8⟩,g3,g4⟩:=wR (i:=b) (c:=c) (e:=e) (x:=x);cases h1;cases j;cases m;cases g1;cases g5;cases g6;grind
theorem eA {c:Nat} {k:Value->AH->Prop} (q:Hs G h L) (j:l.length=c*W) (o:n=c) (hb:l.all gU=true)
  (m:∀a i,Hs G i (eC W e (some a) c (n,l)::L)->k (.slice (some a) n c) i):Ce h W e l n c k:=by
 subst o
 refine m _ _ ?_
 refine Hs.join (A:=[_,_]) (q.kT (c:=l) (e:=e) (x:=true)) fun r s=>?_
 exact⟨j,hb,.inr<|.inr ⟨bb _,_,[],[],true,rfl,by simp[j],by grind[xY]⟩⟩
theorem oR {N:Nat} {D:FL} {c:Nat} {k:Value->AH->Prop} (u:Hs G h L) [m:dZ (y4 r) L (N,D) L'] (v:Nat.blt i N=true) (hD:D.contains i=false) (o:l.length=c*W) (t:n=c) (hb:l.all gU=true)
  (s:∀a j,Hs G j (eC W e (some a) c (n,l)::y4 r (N,i::D)::L')->k (.slice (some a) n c) j):qL h (r+i) W e l n c k:=by
 subst t
 refine s _ _ ?_
 refine Hs.join (A:=[_,_]) (Hs.Qe (i:=i) (c:=l) (e:=e) (x:=true) (show Hs G h (frs r N D::L') from m.of u) HB FR) fun q z=>?_
 exact⟨o,hb,.inr<|.inr ⟨bb _,_,[],[],true,rfl,by simp[o],by grind[xY]⟩⟩
theorem Hs.fst {A:HP} (i:Hs G h (A::L)):∃r c,A r/\xJ L c/\r.Be c/\r.In G.base h/\c.In G.base h:=by
 obtain⟨q,⟨t,c,h1,j,m,o⟩,s⟩:=i.Wp;grind[eJ.jB]
def Hs.Ho (i:Hs G h (eC W e a cap x::L)):x.2.length=x.1*W:=by
 obtain⟨r,_,c,_⟩:=i.fst;exact c.1
def Hs.Gz (i:Hs G h (eC W e a cap x::L)):x.2.all gU=true:=by
 obtain⟨r,_,c,_⟩:=i.fst;exact c.2.1
theorem Hs.vA (I:Hs G h (eC W e a cap (n,cs)::L)) (h0:0<n):
  ∃b o,a=some ⟨b,o,none⟩/\∃H:HP,Hs G h (aK b o cs::H::L)/\∀{G:Bg} Q j M,j.length=cs.length->j.all gU=true->Hs G Q (aK b o j::H::M)->Hs G Q (eC W e a cap (n,j)::M):=by
 have J:∀b (i c:FJ) ex,∀j:FJ,j.length=cs.length->∀r,xJ [aK b i.length j,fun r=>xJ [aK b 0 i,aK b (i.length+cs.length) c,mt b (e,ex,(i++cs++c).length)] r] r↔r=uA b (i++j++c) (some<|.mt e ex (i++j++c).length):=by
  intro b i c ex j T r;have e1:(i++cs++c).length=(i++j++c).length:=by simp[T]
  have e2:∀q,xJ [aK b 0<|i++j++c,mt b (e,ex,(i++j++c).length)] q->xJ [aK b i.length j,fun r=>xJ [aK b 0 i,aK b (i.length+cs.length) c,mt b (e,ex,(i++cs++c).length)] r] q:=by
   intro q D;obtain⟨Y,N,h1,h2,u,h4⟩:=D;have R:=(Ib Y).1 h1;obtain⟨s1,s2,g1,⟨s3,s4,g2,g3,g4,g5⟩,g6,g7⟩:=R;have O:=(Ib s1).1 g1;cases g3;rw[eJ.add_comm FQ,eJ.kQ] at g5;subst g5;have v:xJ ([aK b 0 i,aK b (0+i.length) j]++([aK b (0+(i++j).length) c]++[mt b (e,ex,(i++j++c).length)])) q:=by
    refine mG.2 ⟨s1,_,O,mG.2 ⟨s2,N,⟨s2,_,g2,rfl,FQ,by grind[eJ.add_comm,eJ.R4,eJ.kQ]⟩,h2,?_,rfl⟩,?_,?_⟩;rw[g7] at u;exact(eJ.mL.1 u.symm).2.symm;rw[g7] at u;exact eJ.mL.2 ⟨g6,(eJ.mL.1 u.symm).1.symm⟩;grind[eJ.oW]
   have hp:xJ ([aK b _ j]++[aK b 0 i,aK b _ c,mt b (e,ex,(i++j++c).length)]) q:=N7 (List.Perm.swap _ _ _) q v;obtain⟨u1,u2,w1,w2,w3,w4⟩:=mG.1 hp;rw[AD] at w1;obtain⟨v1,v2,x1,x2,x3,x4⟩:=w1;cases x2;rw[eJ.add_comm FQ,eJ.kQ] at x4;subst x4;refine⟨u1,u2,x1,⟨u2,_,?_,rfl,eJ.kU.symm,by rw[eJ.add_comm (s:=eJ.R4) eJ.kU.symm,eJ.kQ]⟩,w3,w4⟩;grind
  constructor;intro F;obtain⟨Y,N,h1,⟨r3,r4,h5,h6,h7,h8⟩,u,h4⟩:=F;obtain⟨q1,q2,g1,⟨q3,q4,g5,g6,g7,g8⟩,g3,g4⟩:=e2 _<|wR;cases h1;cases g1;cases h6;cases g6;have:N=q2:=by
   obtain⟨a1,a2,b1,⟨a3,a4,b2,⟨a5,a6,b3,b4,b5,b6⟩,b7,b8⟩,b9,α⟩:=h5;obtain⟨c1,c2,d1,⟨c3,c4,d2,⟨c5,c6,d3,d4,d5,d6⟩,d7,d8⟩,d9,d10⟩:=g5;cases b1;cases b2;cases b3;cases b4;cases d1;cases d2;cases d3;cases d4;grind
  grind;grind[wR]
 obtain⟨r,N,F,U,X,hi,S⟩:=I.fst
 obtain⟨T,hc,F⟩:=F
 simp only at T hc
 rcases F with⟨hz,_⟩|⟨hz,_⟩|⟨z,b,i,c,ex,rfl,hle,V⟩
 .grind
 .grind
 .refine⟨b,_,rfl,fun r=>xJ [aK b 0 i,aK b (i.length+cs.length) c,mt b (e,ex,(i++cs++c).length)] r,?_,?_⟩
  .have t:Hs G h ((fun r=>r=uA b (i++cs++c) (some<|.mt e ex (i++cs++c).length))::L):=⟨I.base,I.old,I.wf,I.fr,_,⟨r,N,V,U,X,rfl⟩,(eJ.jB X).2 ⟨hi,S⟩⟩;exact t.fp fun q D=>(J b i c ex cs rfl q).2 D
  .intro G Q j M C m t;refine Hs.join (A:=[_,_]) t fun q D=>?_;refine⟨FR,m,.inr<|.inr ⟨z,b,i,c,ex,rfl,?_,(J b i c ex j C q).1 D⟩⟩;grind
theorem K5 {x:Bool} {r:eJ} (m:(uA b c<|some<|.mt e x c.length).In B h) (i:r.In B h):B<=b/\h.get b=some (.cells c e (0,0) x):=by
 obtain⟨h1,s,q,t⟩:=m.mt b e x c.length (by simp[uA]);refine⟨h1,?_⟩;rw[q];congr 2;refine ri fun j=>?_;rcases u4 j c.length with o|o;obtain⟨_,c2,e2,u,g1,g2⟩:=m.gL b j c[j] (by simp[uA,o]);grind;grind
variable {c2:FJ}
theorem Hs.aZg {e2:TypeId} {x I:Bool} (t:Hs G h ((fun r=>r=uA b c (some<|.mt e x c.length))::L)):Hs G ((h.set b none).alloc<|.cells c2 e2 (0,0) I) ((fun r=>r=uA h.next c2 (some<|.mt e2 I c2.length))::L):=by
 obtain⟨r,u,C,D,J,s,q⟩:=t.fst;subst C;obtain⟨z,R⟩:=K5 s q;have m:∀j,(h.set b none).get j=if j=b then none else h.get j:=fun j=>AH.oA<|cL t.le z
 have O:∀j,(u.A4 j≠none\/∃o,u.gL j o≠none)->j≠b:=by
  intro j N A;subst A;rcases N with h1|⟨o,h1⟩;rcases J.A4 j with h|h;simp[uA] at h;exact h1 h;rcases J.gL j o with h|h;simp only[uA,eD] at h;cases hc:u.gL j o with
  |none=>exact h1 hc
  |some v=>
   obtain⟨_,Q,_,_,g1,g2⟩:=q.gL j o v hc;grind
  exact h1 h
 have F:Hs G (h.set b none) L:=by
  refine⟨by simp;exact t.base,fun i s=>by rw[m,aaa];exact t.old i s,by simp;exact t.wf,fun i s=>by simp at s;rw[m];split;rfl;exact t.fr i s,u,D,?_⟩;exact q.of FW FW FR
 have:=F.kT (c:=c2) (e:=e2) (x:=I);rw[AH.aIw] at this;exact Hs.join this fun r C=>xY C
theorem vH {c:Nat}:J8 (.slice a n c)=some n:=rfl
variable {m:Nat}
theorem aRt {bytes:Nat} {c:Nat} {src:Value} {k:Value->AH->Prop} (C:Hs G h L) [mm:dZ (eC W e a c) L (n,cs) L']
  (z:J8 src=some m) (D:oB h W m src=some ns) (η:ns.all gU=true) (μ:ns.length=m*W) (S:(n+m)*(bytes+1)<=2^46)
  (hk:∀a' c' h',Hs G h' (eC W e a' c' (n+m,cs++ns)::L')->k (.slice a' (n+m) c') h'):cC (nJ W bytes e h (.slice a n c) src) fun r=>k r.1 r.2:=by
 have θ:=mm.of C
 obtain⟨r,r2,hr,T,X,N,I⟩:=θ.fst
 obtain⟨hl,hc,hr⟩:=hr
 simp only at hl hc hr
 have v:(!ns.all gU||ns.length !=m*W)=false:=by simp[η,μ]
 have J:(cs++ns).all gU=true:=FR
 have O:(cs++ns).length=(n+m)*W:=FR
 have F:∀{h1:AH},Hs G h1 ((fun r=>r=uA h.next (cs++ns) (some<|.mt e false (cs++ns).length))::L')->Hs G h1 (eC W e (some ⟨h.next,0,none⟩) (n+m) (n+m,cs++ns)::L'):=by
  intro h1 hh;refine Hs.join (A:=[_]) hh fun q Q=>?_;obtain⟨q1,q2,e1,e2,e3,e4⟩:=Q;cases e1;cases e2;rw[eJ.add_comm FQ,eJ.kQ] at e4;exact⟨O,J,.inr<|.inr ⟨bb _,_,[],[],_,rfl,FR,by simpa using e4⟩⟩
 by_cases hm:m=0
 .subst hm;have:ns=[]:=FR;rcases hr with⟨rfl,ξ,rfl,ha⟩|⟨rfl,rfl,b,o,ζ,rfl,_⟩|⟨V,b,s,t,ex,rfl,hle,U⟩
  .rcases ha with rfl|⟨b,o,rfl⟩
   .simp_all[none,nJ,vH]
   simp_all[nJ,vH]
  .simp_all[nJ,vH]
  simp_all[nJ,vH]
 .have α:Hs G h L':=θ.tail;rcases hr with⟨rfl,ξ,rfl,ha⟩|⟨rfl,rfl,b,o,ζ,rfl,ho,U⟩|⟨V,b,s,t,ex,rfl,hle,U⟩
  .have γ:cs=[]:=hY FR;subst γ;have τ:=F<|Hs.join (α.kT (c:=ns) (e:=e) (x:=false)) fun q Q=>xY Q;have u:¬(0+m<=0):=FQ
   rcases ha with rfl|⟨b,o,rfl⟩
   .refine⟨(.slice (some ⟨h.next,0,none⟩) m m,h.alloc<|.cells ns e (0,0) false),?_,FR⟩;simp only[nJ,z,D,v,aO,dx,u,S,eD]
   .refine⟨(.slice (some ⟨h.next,0,none⟩) m m,h.alloc<|.cells ns e (0,0) false),?_,FR⟩;simp only[nJ,z,D,v,aO,dx,u,S,eD]
  .have γ:cs=[]:=hY FR;subst γ;subst U;obtain⟨β,hg⟩:=K5 N I;have R:Hs G h ((fun r=>r=uA b ζ _)::L'):=⟨C.base,C.old,C.wf,C.fr,_,⟨_,r2,rfl,T,X,rfl⟩,(eJ.jB X).2 ⟨N,I⟩⟩;have u:¬(0+m<=0):=FQ
   refine⟨(.slice _ m m,(h.set b none).alloc _),?_,by simpa using hk _ _ _<|F<|R.aZg (c2:=ns)⟩
   have ι:¬(some 2=some 1):=FW
   simp only[nJ,z,D,v,aO,dx,u,S,eD,ι,hg,cL C.le β,ho,DU]
  .subst U;obtain⟨β,hg⟩:=K5 N I;have hb:=cL C.le β;by_cases u:n+m<=c
   .have hW:(n+m)*W<=c*W:=o0 _ u;rw[CK] at hW;have R:Hs G h ((fun r=>r=uA b _ _)::L'):=⟨C.base,C.old,C.wf,C.fr,_,⟨_,r2,rfl,T,X,rfl⟩,(eJ.jB X).2 ⟨N,I⟩⟩;have ο:Hs G h (aK b 0 _::mt b (e,ex,(s++cs++t).length)::L'):=R.fp fun q Q=>by subst Q;exact wR
    have ν:s.length+cs.length+ns.length<=(s++cs++t).length:=FR
    by_cases π:ns.length=0
    .refine⟨(.slice (some ⟨b,s.length,none⟩) (n+m) c,h.set b<|some<|.cells (eB (s++cs++t) (s.length+n*W) []) e (0,0) ex),?_,?_⟩
     .simp only[nJ,z,D,v,aO,dx,u,eD,hm,ef,fD];simp only[jP,ef,Bool.false_or,List.all_nil,BQ,Bool.or_false,hg];grind
     .have ε:eB (s++cs++t) (s.length+n*W) []=s++cs++t:=by simp only[eB,kx,AY,BY,z1]
      rw[ε]
      refine hk _ _ _ ?_
      have:Hs G (h.set b<|some<|.cells (s++cs++t) e (0,0) ex) ((fun r=>r=uA b (s++cs++t) (some<|.mt e ex (s++cs++t).length))::L'):=by
       have Y:∀j,(h.set b<|some<|.cells (s++cs++t) e (0,0) ex).get j=h.get j:=fun j=>by
        grind[AH.oA]
       refine⟨by simp;exact C.base,fun i N=>by rw[Y];exact C.old i N,by simp;exact C.wf,fun i N=>by simp at N;rw[Y];exact C.fr i N,_,⟨_,r2,rfl,T,X,rfl⟩,(eJ.jB X).2 ⟨?_,?_⟩⟩;exact N.of FW FW FR;exact I.of FW FW FR
      refine Hs.join (A:=[_]) this fun q Q=>?_
      obtain⟨q1,q2,e1,e2,e3,e4⟩:=Q
      cases e1;cases e2
      rw[eJ.add_comm FQ,eJ.kQ] at e4
      refine⟨O,J,.inr<|.inr ⟨u,b,s,t,ex,rfl,?_,FR⟩⟩
      grind
    .obtain⟨h',φ,δ⟩:=ο.iV ν η FQ;refine⟨(.slice (some ⟨b,s.length,none⟩) (n+m) c,h'),?_,?_⟩
     .simp only[nJ,z,D,v,aO,dx,u,eD,hm,ef,fD];grind
     .refine hk _ _ _ ?_;have ε:eB (s++cs++t) (s.length+cs.length) ns=s++(cs++ns)++t.drop ns.length:=by
       unfold eB;rw[AF FW,fm FW,DM];have:(s++cs).drop (s.length+cs.length+ns.length)=[]:=BD FW;rw[this];simp only[dd,hT,eh];rw[show s.length+cs.length+ns.length - (s.length+cs.length)=ns.length by omega]
      rw[ε] at δ
      have κ:(s++cs++t).length=(s++(cs++ns)++t.drop ns.length).length:=FR
      rw[κ] at δ
      exact Hs.join (A:=[_,_]) δ fun q Q=>(⟨O,J,.inr<|.inr ⟨u,b,s,_,ex,rfl,FR,xY Q⟩⟩)
   .have R:Hs G h ((fun r=>r=uA b _ _)::L'):=⟨C.base,C.old,C.wf,C.fr,_,⟨_,r2,rfl,T,X,rfl⟩,(eJ.jB X).2 ⟨N,I⟩⟩;have υ:n*W<=c*W:=o0 _ V;have hold:eN h ⟨b,s.length,none⟩ (n*W)=some cs:=by
     simp only[eN,ef,aO,dx,hg];rw[aac];simp only[Option.some.injEq];grind
    have h1:¬((none:Option Nat)=some 1):=FW
    have h2:¬((none:Option Nat)=some 2):=FW
    cases ex with
    |true=>
     refine⟨(.slice _ _ _,h.alloc _),?_,hk _ _ _<|F<|Hs.join (α.kT) fun q Q=>xY Q⟩
     simp only[nJ,z,D,v,aO,dx,u,S,eD,h1,h2,hold,hg,hc,BQ]
    |false=>
     refine⟨(.slice _ _ _,(h.set b none).alloc _),?_,hk _ _ _<|F<|R.aZg⟩
     simp only[nJ,z,D,v,aO,dx,u,S,eD,h1,h2,hold,hg,hc,BQ,hb,hle,DU]
abbrev wr (x:Int):Int:=IntKind.i64.wrap x
theorem aAb {x:Int} (h: -9223372036854775808<=x/\x<=9223372036854775807):wr x=x:=ED _ FQ
section
variable {a b:Int} {x y:Value}
theorem tn {o:Option α} {v:α} {k:α->Prop} (i:o=some v) (c:k v):cC o k:=⟨v,i,c⟩
def aA {b:Nat} (c:k (pt b o<|j+n)):cC (lQ n<|pt b o j) k:=⟨_,by simp[lQ,pt,fD,DQ],c⟩
def aC {b:Nat} (c:k (pt b o j)):cC (sJ<|pt b o j) k:=⟨_,rfl,c⟩
def aN (j:vs[i]?=some v) (c:k v):cC (wV i<|.tuple ⟨vs⟩) k:=⟨v,j,c⟩
def yr (i:l[j]?=some v) (c:k v):cC (wJ j<|.agg ⟨l⟩) k:=⟨v,i,c⟩
theorem Rt {m:FJ} (o:Nat.ble (j+n) l.length=true) (i:(l.drop j).take n=m) (c:k (.agg ⟨m⟩)):cC (vF j n<|.agg ⟨l⟩) k:=
 ⟨_,by grind[Nat.le_of_ble_eq_true,vF],c⟩
def dB {a:FM} {c:Nat} (i:k (I n)):cC (rB<|.slice a n c) k:=⟨_,rfl,i⟩
def cE (h: -9223372036854775808<=a+b/\a+b<=9223372036854775807) (c:k (I<|a+b)):cC (A6 .add (I a)<|I b) k:=⟨_,GF,c⟩
def aad (c:k (I<|a+b))(h: -9223372036854775808<=a+b/\a+b<=9223372036854775807:=by omega):cC (A6 .add (I a)<|I b) k:=⟨_,GF,c⟩
def Ec (h: -9223372036854775808<=a - b/\a - b<=9223372036854775807) (c:k (I<|a - b)):cC (A6 .sub (I a)<|I b) k:=⟨_,GF,c⟩
def Hh (h: -9223372036854775808<=a*b/\a*b<=9223372036854775807) (c:k (I<|a*b)):cC (A6 .mul (I a)<|I b) k:=⟨_,GF,c⟩
def dw (c:k (I<|wr<|a+b)):cC (A6 .add (I a)<|I b) k:=⟨_,rfl,c⟩
theorem M4 (ha:0<=a) (hb:0<b) (h:a<=9223372036854775807) (c:k (I<|a/b)):cC (A6 .quo (I a)<|I b) k:=by
 refine⟨_,?_,c⟩;show Wd .quo .i64 a b=_;simp only[Wd];have h1:0<=a/b:=Int.ediv_nonneg ha FQ;have i:a/b<=a:=Int.ediv_le_self b ha;grind[aAb]
theorem gq (ha:0<=a) (hb:0<b) (c:k (I<|a % b)):cC (A6 .rem (I a)<|I b) k:=by
 refine⟨_,?_,c⟩;show Wd .rem .i64 a b=_;grind[Wd]
theorem aV7 (hb:b≠0) (c:k (I<|a.tmod b)):cC (A6 .rem (I a)<|I b) k:=by
 refine⟨_,?_,c⟩;show Wd .rem .i64 a b=_;simp_all[Wd,bD1]
def cF (c:k (.bool<|decide<|a=b)):cC (A6 .eql (I a)<|I b) k:=⟨_,HR,c⟩
theorem bZ (c:k (.bool<|decide<|a≠b)):cC (A6 .neq (I a)<|I b) k:=⟨_,by show some _=_;grind,c⟩
def bF (c:k (.bool<|decide<|a<b)):cC (A6 .lss (I a)<|I b) k:=⟨_,rfl,c⟩
def Ap (c:k (.bool<|decide<|a<=b)):cC (A6 .leq (I a)<|I b) k:=⟨_,rfl,c⟩
def qA (c:k (.bool<|decide<|b<a)):cC (A6 .gtr (I a)<|I b) k:=⟨_,rfl,c⟩
def fV (c:k (.bool<|decide<|b<=a)):cC (A6 .geq (I a)<|I b) k:=⟨_,rfl,c⟩
def x6 {b:Nat} (c:k (.bool true)):cC (Yn .neq (pt b o j)<|.pointer none) k:=⟨_,rfl,c⟩
def dN {b:Nat} (c:k (.bool false)):cC (Yn .eql (pt b o j)<|.pointer none) k:=⟨_,rfl,c⟩
def cZ {b:Bool} (c:k (.bool !b)):cC (gf .not<|.bool b) k:=⟨_,rfl,c⟩
theorem fK {b c:Nat} (h1:i<n) (m:k (pt b (o+i*j) 0)):cC (qN j (.slice (some ⟨b,o,none⟩) n c)<|I i) k:=⟨_,by grind[qN,fD,pt],m⟩
theorem fQ {b c:Nat} (m:0<=a) (h1:a<n) (i:k (pt b o<|j+a.toNat*c)):cC (tZ n c (pt b o j)<|I a) k:=⟨_,by grind[tZ,fD,pt,Nat.add_assoc],i⟩
theorem cS {c:Prop} [Decidable c] {p:Prop} (h:c) (i:p):Br (.bool<|decide c) p q:=⟨_,rfl,fun _=>i,fun j=>absurd h FR⟩
theorem aae {c:Prop} [Decidable c] {p:Prop} (i:p)(h:c:=by omega):Br (.bool<|decide c) p q:=⟨_,rfl,fun _=>i,fun j=>absurd h FR⟩
theorem bD {c:Prop} [Decidable c] {p:Prop} (h:¬c) (i:q):Br (.bool<|decide c) p q:=⟨_,rfl,fun j=>absurd FR h,fun _=>i⟩
theorem aab {c:Prop} [Decidable c] {p:Prop} (i:q)(h:¬c:=by omega):Br (.bool<|decide c) p q:=⟨_,rfl,fun j=>absurd FR h,fun _=>i⟩
theorem bG {c:Prop} [Decidable c] {p:Prop} (j:c->p) (m:¬c->q):Br (.bool<|decide c) p q:=⟨_,rfl,fun i=>j FR,fun i=>m FR⟩
def gA {p:Prop} (c:p):Br (.bool true) p q:=aQs.2 c
def cY {p:Prop} (c:q):Br (.bool false) p q:=aLr.2 c
def dX {b:Bool} {p:Prop} (c:b=true->p) (i:b=false->q):Br (.bool b) p q:=⟨_,rfl,c,i⟩
theorem fR {b:Bool} {p:Prop} (h:Br (.bool b) q p):Br (.bool !b) p q:=by obtain⟨c,hc,h1,i⟩:=h;cases hc;cases b;exact⟨_,rfl,fun _=>i rfl,FR⟩;simp_all
end
def aZ {k:FJ->Prop} (j:tM z ps=some c) (i:k c):cC (tM z ps) k:=⟨c,j,i⟩
def dT {p:Prop} (c:p) (i:q):p/\q:=⟨c,i⟩
def lG {a:Int}:wM (I a) (I a)=true:=by simp[wM]
def aYp {a:Bool}:wM (.bool a) (.bool a)=true:=by simp[wM]
def eG:wM (pt b o j) (pt b o j)=true:=by simp[wM,pt]
def j0 {c:Nat}:wM (.slice a n c) (.slice a n c)=true:=by simp[wM]
def xU {g:FuncId} {first captured:FO} {l:Nat} {q:Value->AH->Prop} (hc:lX P g=true) (c:Cl P K g (first.toList++[.func (.yield l) #[] #[]]++captured.toList) h q):ga P K (.func (.func g) first captured) l h q:=⟨hc,c⟩
def vB {g:FuncId} {first captured:FO} {args:FJ} {q:Value->AH->Prop} (hc:lX P g=true) (c:Cl P K g (first.toList++args++captured.toList) h q):F3 P K (.func (.func g) first captured) args h q:=⟨hc,c⟩
def sp (A:IU):HP:=fun r=>xJ A r
variable {A:IU}
def Hs.nS (c:Hs G h (A++L)):Hs G h (sp A::L):=c.join fun _ h=>h
def Hs.fL (c:Hs G h (sp A::L)):Hs G h (A++L):=c.fp fun _ h=>h
def Cr {α:Type} (A:α->HP):HP:=fun r=>∃x,A x r
def Hs.Cq {A:α->HP} (x:α) (m:Hs G h (A x::L)):Hs G h (Cr A::L):=Hs.join (A:=[A x]) m fun r j=>by
 obtain⟨o,q,h1,i,_,c⟩:=j;cases i;rw[eJ.add_comm FQ,eJ.kQ] at c;subst c;exact⟨x,h1⟩
theorem jd {A:HP} {r:eJ}:xJ [A] r↔A r:=by
 constructor;intro⟨m,o,h1,c,_,j⟩;cases c;grind[eJ.add_comm,eJ.kQ];intro i;exact⟨r,_,i,rfl,eJ.kU.symm,by rw[eJ.add_comm (s:=eJ.R4) eJ.kU.symm,eJ.kQ]⟩
def Hs.Cc {A:α->HP} (c:Hs G h (Cr A::L)):∃x,Hs G h (A x::L):=by
 obtain⟨r,s,⟨x,q⟩,j,i,m,o⟩:=c.fst;exact⟨x,c.base,c.old,c.wf,c.fr,_,⟨r,s,q,j,i,rfl⟩,(eJ.jB i).2 ⟨m,o⟩⟩
def Dw (p:Prop):HP:=fun r=>p/\r=eJ.R4
def Hs.dm {p:Prop} (c:p) (j:Hs G h L):Hs G h (Dw p::L):=Hs.join (A:=[]) j fun _ i=>⟨c,i⟩
def Hs.z7 {p:Prop} (c:Hs G h (Dw p::L)):p/\Hs G h L:=by
 obtain⟨r,_,⟨i,_⟩,_⟩:=c.fst;exact⟨i,c.tail⟩
def fH (n:Nat) (f:Nat->HP):HP:=sp<|(List.range n).map f
theorem T9 {f:Nat->HP} (c:i<n):((List.range n).map f).Perm (f i::((List.range n).erase i).map f):=by
 grind[List.range,List.perm_cons_erase]
def Hs.pI {f:Nat->HP} (j:Hs G h (fH n f::L)) (i:Nat) (c:i<n):Hs G h (f i::sp (((List.range n).erase i).map f)::L):=by
 exact(((j.fL.cI<|(T9 c).append_right L).cI<|by simpa using DN.symm).nS).cI (List.Perm.swap _ _ _)
theorem Hs.aH0 {f g:Nat->HP} (c:i<n) (q:∀j,j≠i->g j=f j) (o:Hs G h (g i::sp (((List.range n).erase i).map f)::L)):Hs G h (fH n g::L):=by
 have h1:=(o.cI<|List.Perm.swap _ _ _).fL;have m:((List.range n).erase i).map f=((List.range n).erase i).map g:=v7 fun j r=>by
  grind[List.Nodup.not_mem_erase,List.nodup_range]
 rw[m] at h1;exact(h1.cI<|(DN.trans<|(T9 c).symm.append_right L)).nS
theorem zN {f g:Nat->HP} (c:∀j,j<n->g j=f j) (i:Hs G h (fH n f::L)):Hs G h (fH n g::L):=by
 have:(List.range n).map f=(List.range n).map g:=v7 FR;grind[fH]
def Hs.kh {f:Nat->HP} (c:Hs G h L):Hs G h (fH 0 f::L):=Hs.nS (A:=[]) c
theorem Hs.jh {f:Nat->HP} (c:Hs G h (f n::fH n f::L)):Hs G h (fH (n+1) f::L):=by
 refine Hs.nS<|((c.cI<|List.Perm.swap _ _ _).fL).cI ?_;rw[ep,l4];simp
theorem F3.mono {f:Value} {args:FJ} {c:Value->AH->Prop} (k:F3 P K f args h Q) (j:∀v i,Q v i->c v i):F3 P K f args h c:=by
 unfold F3 at k ⊢;grind[Ok.mono]
def aFw {l:Nat} {args:FJ} (k:Ok P K (.round l args) h fun o c=>Q o.v c):F3 P K (.func (.yield l) #[] #[]) args h Q:=by
 simpa [F3] using k
def Yds (P:Program) (K:FuncId->FJ->IX) (G:Bg) (f:FuncId) (first captured:FJ) (A:HP) (xs:JF):Prop:=
 ∀(I:JF->HP) (J:HP) (y:Value) (L:IU) (h:AH) (Q:Value->AH->Prop),Hs G h (A::I xs::L)->
  (∀x rest h M,Hs G h (I (x::rest)::M)->F3 P K y x h fun v c=>(v= .bool true/\Hs G c (I rest::M))\/(v= .bool false/\Hs G c (J::M)))->
  (∀v c,Hs G c (A::I []::L)->Q v c)->(∀v c,Hs G c (A::J::L)->Q v c)->Cl P K f (first++[y]++captured) h Q
class fZ (A:HP) (L:IU) (L':outParam (IU)):Prop where
 cI:L.Perm (A::L')
instance (priority:=low) fZ.A5 {A B:HP} [k:fZ A L L']:fZ A (B::L) (B::L'):=⟨(k.cI.cons B).trans<|List.Perm.swap _ _ _⟩
instance (priority:=high) fZ.aMp {A:HP}:fZ A (A::L) L:=⟨BU _⟩
instance (priority:=high) fZ.app {A B:HP} {c L2:IU} [k:fZ A (B::(c++L2)) L']:fZ A ((B::c)++L2) L':=k
instance (priority:=high) fZ.aVg {A:HP} {L2:IU} [k:fZ A L2 L']:fZ A ([]++L2) L':=k
class F5 (L M:IU):Prop where
 to:∀r,xJ L r->∃r1 r2,xJ M r1/\r1.Be r2/\r=r1.add r2
def aNb {r:eJ}:r.add eJ.R4=r:=by rw[eJ.add_comm eJ.kU.symm,eJ.kQ]
instance (priority:=low) F5.skip {A:HP} [k:F5 L M]:F5 (A::L) M:=⟨fun r ⟨o,j,h1,c,i,m⟩=>by
 obtain⟨s1,s2,g1,g2,g3⟩:=k.to j c;subst g3;obtain⟨d1,d2⟩:=eJ.mL.1 i;exact⟨s1,_,g1,eJ.mL.2 ⟨d1.symm,g2⟩,by grind[eJ.oW,eJ.add_comm]⟩⟩
instance F5.take {A:HP} [k:fZ A L L'] [o:F5 L' M]:F5 L (A::M):=⟨fun r m=>by
 obtain⟨q,s,h1,c,i,j⟩:=N7 k.cI r m;obtain⟨s1,s2,g1,g2,g3⟩:=o.to s c;subst g3;obtain⟨d1,d2⟩:=eJ.mL.1 i;exact⟨_,s2,⟨q,s1,h1,g1,d1,rfl⟩,(eJ.mL.2 ⟨d2.symm,g2.symm⟩).symm,by rw[j,eJ.oW]⟩⟩
instance (priority:=high) F5.refl:F5 L L:=⟨fun r c=>⟨r,eJ.R4,c,eJ.kU.symm,aNb.symm⟩⟩
instance (priority:=high) F5.app {A:HP} {c L2:IU} [k:F5 L (A::(c++L2))]:F5 L ((A::c)++L2):=k
instance (priority:=high) F5.aVg {L2:IU} [k:F5 L L2]:F5 L ([]++L2):=k
instance (priority:=high) F5.bCg {A:HP} {c L2:IU} [k:F5 (A::(c++L2)) M]:F5 ((A::c)++L2) M:=k
instance (priority:=high) F5.sp {A:IU} [k:F5 L (A++M)]:F5 L (sp A::M):=⟨fun r m=>by
 obtain⟨s1,s2,g1,g2,g3⟩:=k.to r m;obtain⟨o,q2,c,e2,i,j⟩:=mG.1 g1;exact⟨s1,s2,⟨o,q2,c,e2,i,j⟩,g2,g3⟩⟩
theorem Hs.to (c:Hs G h L) [k:F5 L M]:Hs G h M:=⟨c.base,c.old,c.wf,c.fr,by
 obtain⟨r,h1,i⟩:=c.Wp;obtain⟨j,m,g1,g2,g3⟩:=k.to r h1;grind[eJ.jB]⟩
theorem Hs.qS {A B:HP} (c:Hs G h (B::A::L)):Hs G h (A::B::L):=c.cI<|List.Perm.swap _ _ _
def Fy {p:Prop} (c:p) (i:Hs G h (sp A::L)):Hs G h (sp (Dw p::A)::L):=Hs.nS (A:=Dw p::A)<|Hs.dm c i.fL
def kK {p:Prop} (c:Hs G h (sp (Dw p::A)::L)):p/\Hs G h (sp A::L):=let⟨a,b⟩:=Hs.z7 c.fL;⟨a,b.nS⟩
def rF {a b:Prop} {c:List (Nat×Prop)} (i:a):zF none a b c:=i
def aLo {a b:Prop} {c:List (Nat×Prop)} (i:b):zF (some .ret) a b c:=i
theorem Oh {a b:Prop} {c:List (Nat×Prop)} {id:Nat} (j:c.lookup id=some q) (i:q):zF (some<|.exit id) a b c:=by grind[zF]
theorem aXq (h:m<=j):pt b o j=pt b (o+m) (j - m):=by grind[pt]
class Cv (v:Value) (cs:outParam FJ):Prop where
 eq:nF v=some cs
instance {a:Int}:Cv (I a) [I a]:=⟨rfl⟩
instance {a:Bool}:Cv (.bool a) [.bool a]:=⟨rfl⟩
instance {b o j:Nat}:Cv (pt b o j) [pt b o j]:=⟨rfl⟩
instance {a:FM}:Cv (.pointer a) [.pointer a]:=⟨rfl⟩
instance {a:FM} {n c:Nat}:Cv (.slice a n c) [.slice a n c]:=⟨rfl⟩
instance {l:FJ}:Cv (.agg ⟨l⟩) l:=⟨rfl⟩
instance {f:Fn} {a b:FO}:Cv (.func f a b) [.func f a b]:=⟨rfl⟩
def fB {k:Nat->AH->Prop} (j:Hs G h L) [m:Cv v cs] (i:∀p c,Hs G c (aK p 0 cs::L)->k p c):cC (pX e v) fun b=>Jj h b k:=aY9 j m.eq i
def Gw {D:FL} {k:Nat->AH->Prop} (q:Hs G h L) [m:dZ (y4 r) L (n,D) L'] [s:Cv v cs] (j:Nat.blt i n=true) (hD:D.contains i=false)
  (o:∀p c,Hs G c (aK p 0 cs::y4 r (n,i::D)::L')->k p c):cC (pX e v) fun b=>rJ h (r+i) b k:=aNt q s.eq j hD o
def cG {k:AH->Prop} (u:Hs G h L) [m:dZ (aK b o) L c L'] [z:Cv v vs] (t:vs.length=n) (s:Nat.ble (j+n) c.length=true) (hb:vs.all gU=true) (q:Nat.ble 1 c.length=true)
  (r:∀i,Hs G i (aK b o (bM c j vs)::L')->k i):cC (Ar h n (pt b o j) v) k:=aYi u z.eq t s hb q r
def ax {k:AH->Prop} (u:Hs G h L) [m:dZ (aK b o) L c L'] [z:Cv v vs] (r:∀i,Hs G i (aK b o (bM c j vs)::L')->k i) (t:vs.length=n:=by exact rfl) (s:Nat.ble (j+n) c.length=true:=by exact rfl) (hb:vs.all gU=true:=by exact rfl) (q:Nat.ble 1 c.length=true:=by exact rfl):cC (Ar h n (pt b o j) v) k:=cG u t s hb q r
theorem im:∀(c vs:FJ),c.length=vs.length->bM c 0 vs=vs
 |[],[],_=>rfl
 |_::c,v::vs,h=>by simp only[bM];rw[im c vs FR]
theorem bN {k:AH->Prop} (r:Hs G h L) [m:dZ (aK b o) L c L'] [s:Cv v vs] (i:Nat.beq c.length n=true) (t:Nat.ble 1 n=true) (q:vs.length=n) (hb:vs.all gU=true)
  (u:∀j,Hs G j (aK b o vs::L')->k j):cC (Ar h n (pt b o 0) v) k:=by
 have i:=ql i
 refine aYi r s.eq q (by rw[i];simp) hb FR ?_
 grind[im]
def an {k:AH->Prop} (r:Hs G h L) [m:dZ (aK b o) L c L'] [s:Cv v vs] (u:∀j,Hs G j (aK b o vs::L')->k j) (i:Nat.beq c.length n=true:=by exact rfl) (t:Nat.ble 1 n=true:=by exact rfl) (q:vs.length=n:=by exact rfl) (hb:vs.all gU=true:=by exact rfl):cC (Ar h n (pt b o 0) v) k:=bN r i t q hb u
structure LpX where
 P:Program
 f:FuncId
 p:FL
 n:Nat
 e:Nat->Value
 d:Nat
 st:LoopState
 pd:Option Code
class tL (l:Nat) (L:IU) (x:outParam LpX) (L':outParam (IU)):Prop where
 cI:L.Perm (pD x.P x.f x.p x.n x.e x.d l (x.st,x.pd)::L')
instance (priority:=low) tL.A5 {l:Nat} {A:HP} {x:LpX} [k:tL l L x L']:tL l (A::L) x (A::L'):=⟨(k.cI.cons A).trans<|List.Perm.swap _ _ _⟩
instance (priority:=high) tL.aMp {l:Nat} {f:FuncId} {p:FL} {n:Nat} {e:Nat->Value} {d:Nat} {st:LoopState} {pd:Option Code}:tL l (pD P f p n e d l (st,pd)::L) ⟨P,f,p,n,e,d,st,pd⟩ L:=⟨BU _⟩
instance (priority:=high) tL.app {l:Nat} {A:HP} {c L2:IU} {x:LpX} [k:tL l (A::(c++L2)) x L']:tL l ((A::c)++L2) x L':=k
instance (priority:=high) tL.aVg {l:Nat} {L2:IU} {x:LpX} [k:tL l L2 x L']:tL l ([]++L2) x L':=k
def tL.of {l:Nat} {x:LpX} [k:tL l L x L'] (c:Hs G h L):Hs G h (pD x.P x.f x.p x.n x.e x.d l (x.st,x.pd)::L'):=c.cI k.cI
section
variable {e:Nat->Value} {d l:Nat} {pd:Option Code}
def lM {k:AH->Prop} (j:Hs G h L) [m:tL l L ⟨P,f,p,n,e,d,st,pd⟩ L'] (i:∀c,Hs G c (pD P f p n e d l (st',pd')::L')->k c):cC (eX h l st'<|some pd') k:=aWm (show Hs G h (pD P f p n e d l (st,pd)::L') from m.of j) i
def kV {k:AH->Prop} (j:Hs G h L) [m:tL l L ⟨P,f,p,n,e,d,.ready,pd⟩ L'] (i:∀c,Hs G c (pD P f p n e d l (.busy,pd)::L')->k c):cC (oI h l) k:=aOp (show Hs G h (pD P f p n e d l (.ready,pd)::L') from m.of j) i
def rD {k:Option Code×AH->Prop} (j:Hs G h L) [m:tL l L ⟨P,f,p,n,e,d,.ready,pd⟩ L'] (i:∀c,Hs G c L'->k (pd,c)):cC (yL h l) k:=
 aJ9 (P:=P) (f:=f) (p:=p) (n:=n) (e:=e) (d:=d) (st:= .ready) (pd:=pd) (k:=fun a b=>k (a,b)) (show Hs G h (pD P f p n e d l (.ready,pd)::L') from m.of j) FV i
def aCb {k:Nat->Prop} (i:Hs G h L) [m:tL l L ⟨P,f,p,n,e,d,st,pd⟩ L'] (c:k d):cC (jF h l) k:=aKj (P:=P) (f:=f) (p:=p) (n:=n) (e:=e) (d:=d) (st:=st) (pd:=pd) (show Hs G h (pD P f p n e d l (st,pd)::L') from m.of i) c
def yJ (c:Hs G h L) [m:tL l L ⟨P,f,p,n,e,d,st,pd⟩ L']:h.get l=some (lp P f p n e d st pd):=bAv<|show Hs G h (pD P f p n e d l (st,pd)::L') from m.of c
end
theorem aAe {c:Nat} (s:Hs G h (eC W e a c (n,cs)::L)):oB h W n (.slice a n c)=some cs:=by
 have J:=s.Ho;simp only at J;by_cases u:n=0;subst u;have:cs=[]:=FR;subst this;cases a<;>simp[oB];obtain⟨b,o,rfl,H,t,_⟩:=s.vA FQ;simp only[oB,bD1 u,bb,eD];by_cases C:n*W=0;obtain⟨r,X,N,O,V,I,m⟩:=s.fst;rcases N.2.2 with⟨Q,_⟩|⟨Q,_⟩|⟨z,S,R,A,ex,D,hle,q⟩;grind;grind;cases D;subst q;obtain⟨F,i⟩:=K5 I m;simp only[eN,ef,aO,dx,i,C];grind;obtain⟨F,T,U,Y,i,hle,v⟩:=t.cells FQ;simp only[eN,ef,aO,dx,i];rw[aac];congr 1;refine ri fun j=>?_;grind
variable {a2:FM}
theorem yR {bytes:Nat} {c c2:Nat} {k:Value×AH->Prop} (s:Hs G h L) [u:dZ (eC W e a c) L (n,cs) L'] [v:dZ (eC W e a2 c2) L' (m,ns) M] (j:(n+m)*(bytes+1)<=2^46)
  (t:∀o q r,Hs G r (eC W e o q (n+m,cs++ns)::L')->k (.slice o (n+m) q,r)):cC (nJ W bytes e h (.slice a n c)<|.slice a2 m c2) k:=by
 have i:=v.of (u.of s).tail
 exact aRt (k:=fun x y=>k (x,y)) s vH (aAe i) i.Gz i.Ho j t
def Hs.bE (A:HP) (c:Hs G h L) [k:fZ A L L']:Hs G h (A::L'):=c.cI k.cI
def Hs.dC (A B:HP) (c:Hs G h L) [k:fZ A L L'] [i:fZ B L' M]:Hs G h (A::B::M):=c.cI<|k.cI.trans<|i.cI.cons A
structure aXz (W:Nat) (e:TypeId) (a:FM) (cap n b o:Nat) where
 p:HP
 vO:∀{G:Bg} (h':AH) (cs':FJ) (M:IU),cs'.length=n*W->cs'.all gU=true->Hs G h' (aK b o cs'::p::M)->Hs G h' (eC W e a cap (n,cs')::M)
def gQ (_:Bg) (W:Nat) (e:TypeId) (a:FM) (cap n b o:Nat):HP:=Cr fun H:aXz W e a cap n b o=>H.p
theorem Hs.jW (i:Hs G h (eC W e a cap (n,cs)::L)) (j:0<n):
  ∃b o,a=some ⟨b,o,none⟩/\Hs G h (aK b o cs::gQ G W e a cap n b o::L):=by
 have q:=i.Ho
 obtain⟨b,o,m,H,c,hc⟩:=i.vA j
 exact⟨b,o,m,Hs.qS<|Hs.Cq ⟨H,FR⟩ c.qS⟩
theorem Hs.oG (c:Hs G h (aK b o cs::gQ G W e a cap n b o::L)) (j:cs.length=n*W) (hc:cs.all gU=true):Hs G h (eC W e a cap (n,cs)::L):=by
 obtain⟨⟨H,i⟩,c⟩:=Hs.Cc c.qS;exact i _ _ _ j hc c.qS
theorem zu {c:Nat->FJ} (hc:∀i,(c i).length=W):∀(n:Nat) (L:IU),Hs G h (aK b o ((List.range n).flatMap c)::L)->Hs G h (fH n (fun i=>aK b (o+i*W)<|c i)::L):=by
 intro n;induction n with
 |zero=>intro L j;exact Hs.kh j.tail
 |succ n s=>
  intro L j;rw[ep,oX] at j;have r:∀m,((List.range m).flatMap c).length=m*W:=fun m=>by
   induction m with
   |zero=>simp
   |succ m q=>grind[List.range_succ,List.length_append]
  have j:=j.split;grind[Hs.jh,Hs.qS]
theorem aQg {c:Nat->FJ} (hc:∀i,(c i).length=W) (_:0<W):∀(n:Nat) (L:IU),0<n->Hs G h (fH n (fun i=>aK b (o+i*W)<|c i)::L)->Hs G h (aK b o ((List.range n).flatMap c)::L):=by
 intro n;have r:∀m,((List.range m).flatMap c).length=m*W:=fun m=>by
  induction m with
  |zero=>simp
  |succ m q=>grind[List.range_succ,List.length_append]
 induction n with
 |zero=>grind
 |succ n s=>
  intro L _ j;have j:=j.fL;rw[ep,l4,eh] at j;have j:Hs G h (fH n _::aK b _ _::L):=Hs.nS j;rw[ep,oX];grind[Nat.eq_zero_or_pos,Hs.Ra]
theorem Hs.To {f g:Nat->HP}:∀(n:Nat) (L:IU),(∀i,i<n->∀h L,Hs G h (f i::L)->Hs G h (g i::L))->Hs G h (fH n f::L)->Hs G h (fH n g::L):=by
 intro n;induction n with
 |zero=>intro L _ c;exact Hs.kh c.tail
 |succ n m=>
  intro L j c;have c:=c.fL;rw[ep,l4,eh] at c;exact Hs.jh<|j n FQ _ _ (m _ FR<|Hs.nS c).qS
theorem Hs.aTk {f g k:Nat->HP} (j:∀i h L,Hs G h (f i::g i::L)->Hs G h (k i::L)):∀(n:Nat) (L:IU),Hs G h (fH n f::fH n g::L)->Hs G h (fH n k::L):=by
 intro n;induction n with
 |zero=>intro L c;exact Hs.kh c.tail.tail
 |succ n m=>
  intro L c;have c:=c.fL;rw[ep,l4,eh] at c;have c:Hs G h (fH n f::f n::fH _ g::L):=Hs.nS c;have c:Hs G h (fH (n+1) g::f n::fH n f::L):=c.to;have c:=c.fL;rw[ep,l4,eh] at c;have c:Hs G h (fH n g::g n::f n::fH n f::L):=Hs.nS c;have c:Hs G h (fH n f::fH n g::f n::g n::L):=c.to;exact Hs.jh<|j n _ _<|(m _ c).to
def aAf (c:i<n) (m:l[i]?=some v) (j:k v):cC (Vx n 1 (.agg ⟨l⟩)<|I i) k:=⟨v,by simp[Vx,c,m],j⟩
theorem kP {c:Nat} (q:i<n) (m:k (pt b o<|j+i*c)):cC (tZ n c (pt b o j)<|I i) k:=⟨_,by grind[tZ,fD,pt,Nat.add_assoc],m⟩
theorem aIz {bytes:Nat} {k:Nat×Nat->Prop} (i:n<=2^40) (hb:bytes*n<=2^47) (c:k (n,n)):cC (O9 bytes (I n)<|I n) k:=⟨_,by grind[O9],c⟩
def nD (s:Hs G h L) [m:dZ (aK b o) L c L'] (r:0<n) (hc:(c.drop j).take n=l) (q:l.length=n) (i:k (.agg ⟨l⟩)):cC (yU h n<|pt b o j) k:=bC s r hc q i
theorem aVn (r:Hs G h L) (q:Ob G b c) (m:c.length=n) (i:k (.agg ⟨c⟩)):cC (yU h n<|.pointer<|some ⟨b,0,none⟩) k:=
 tj (o:=0) (j:=0) r q FR m FW i
def bA {α:Type} (f:Nat->α) (i:Nat) (v:α):Nat->α:=fun j=>if j=i then v else f j
theorem dI {f:Nat->α} {v:α}:bA f i v i=v:=by simp[bA]
theorem bO {f:Nat->α} {v:α} (h:j≠i):bA f i v j=f j:=by simp[bA,h]
theorem xS {c:Nat->FJ} (hc:∀i,(c i).length=W) (m:Nat):((List.range m).flatMap c).length=m*W:=by
 induction m with
 |zero=>simp
 |succ m j=>grind[List.range_succ,List.length_append]
theorem aOa {c:Nat->FJ} (hc:∀i,(c i).length=W):∀(n:Nat),i<n->∃m j,(List.range n).flatMap c=m++(c i++j)/\m.length=i*W/\∀x,(List.range n).flatMap (bA c i x)=m++(x++j):=by
 intro n;induction n with
 |zero=>grind
 |succ n s=>
  intro h;by_cases r:i=n;refine⟨_,[],?_,xS hc i,fun x=>?_⟩;grind[List.range_succ];grind[List.range_succ,List.map_congr_left,bO,dI];obtain⟨m,j,h1,o,q⟩:=s FQ;refine⟨m,j++c n,?_,o,fun x=>?_⟩;grind[List.range_succ];rw[ep,oX,q];simp[bO<|Ne.symm r]
theorem Hs.aI1 {c:Nat->FJ} (hc:∀i,(c i).length=W) (v:i<n) (j:Hs G h (eC W e a cap (n,(List.range n).flatMap c)::L)):
  ∃b o,a=some ⟨b,o,none⟩/\∃H:HP,Hs G h (aK b (o+i*W) (c i)::H::L)/\∀s x M,x.length=W->x.all gU=true->Hs G s (aK b (o+i*W) x::H::M)->Hs G s (eC W e a cap (n,(List.range n).flatMap<|bA c i x)::M):=by
 have q:=j.Gz
 obtain⟨b,o,u,j⟩:=j.jW FQ
 obtain⟨r,m,h1,t,D⟩:=aOa hc n v
 rw[h1] at j q
 have j:=j.split.qS.split
 rw[t] at j
 refine⟨b,o,u,sp [aK b o r,aK b (o+i*W+(c i).length) m,gQ G W e a cap n b o],?_,?_⟩
 .exact(Hs.nS (A:=[aK b o r,aK b (o+i*W+(c i).length) m,gQ G W e a cap n b o]) j.to).qS
 .intro s x M z C j;have j:Hs G s (aK b (o+i*W) x::aK b (o+i*W+(c i).length) m::aK b o r::gQ G W e a cap n b o::M):=(j.qS.fL).to;have j:=Hs.Ra j (by rw[z,hc]);have j:=Hs.Ra j.qS (by rw[t]);grind[Hs.oG,xS,bA]
variable {c':FJ}
def Hs.sg (i:Hs G h L) [m:dZ (aK b o) L c' L'] (hc:c'=c):Hs G h (aK b o c::L'):=by subst hc;exact m.of i
theorem Hs.tG (f g:Nat->HP) (c:i<n) (q:∀j,j<n->j≠i->g j=f j) (o:Hs G h L) [k:fZ (g i) L L'] [s:fZ (sp<|((List.range n).erase i).map f) L' M]:Hs G h (fH n g::M):=by
 have h1:=((o.dC (g i)<|sp<|((List.range n).erase i).map f).cI<|List.Perm.swap _ _ _).fL;have m:((List.range n).erase i).map f=((List.range n).erase i).map g:=v7 fun j r=>by
  grind[List.Nodup.not_mem_erase,List.nodup_range]
 rw[m] at h1;exact(h1.cI<|(DN.trans<|(T9 c).symm.append_right M)).nS
theorem Y6 {bytes:Nat} {a:Int} {k:Nat×Nat->Prop} (i:0<=a) (j:a<=2^40) (hb:bytes*a<=2^47) (c:k (a.toNat,a.toNat)):cC (O9 bytes (I a)<|I a) k:=⟨_,by grind[O9],c⟩
theorem kZ (z:FJ) (n:Nat):iP z n=(List.range n).flatMap fun _=>z:=by
 induction n with
 |zero=>rfl
 |succ n c=>grind[List.range_succ,iP,List.replicate_succ']
theorem zZ {c:Nat->FJ} (hc:∀i,(c i).all gU=true) (n:Nat):((List.range n).flatMap c).all gU=true:=by
 grind
def Hs.Uo (q:z.length=W) (j:0<n) (c:Hs G h (eC W e a cap (n,iP z n)::L)):∃b o,a=some ⟨b,o,none⟩/\Hs G h (fH n (fun i=>aK b (o+i*W) z)::gQ G W e a cap n b o::L):=by
 obtain⟨b,o,m,c⟩:=c.jW j;rw[kZ] at c;exact⟨b,o,m,zu (fun _=>q) n _ c⟩
def Hs.dV {c L2 i:IU} (A B C:HP) (j:Hs G h L) [k:fZ A L c] [m:fZ B c L2] [o:fZ C L2 i]:Hs G h (A::B::C::i):=j.cI<|k.cI.trans<|(m.cI.trans<|o.cI.cons B).cons A
theorem aS1 (r:Hs G h L) [m:dZ (aK b o) L c L'] (hc:c[i+j]?=some v) (q:k v):cC (vZ h<|pt b (o+i) j) k:=by
 have:pt b (o+i) j=pt b o (i+j):=by simp only[pt];rw[DQ]
 grind[aE]
def aIu {a b c d:Bool} (j:k (.bool<|a||b||c||d)) {i:Bool} (hc:i=true:=by kernel_rfl):Wj i [1,1,1,1] .neq (.agg ⟨[.bool a,.bool b,.bool c,.bool d]⟩) (.agg ⟨[.bool false,.bool false,.bool false,.bool false]⟩) k:=
 ⟨hc,_,by cases a<;>cases b<;>cases c<;>cases d<;>rfl,j⟩
theorem Al {f:Nat->α} {v w:α}:bA (bA f i v) i w=bA f i w:=by grind[bA]
theorem aAh:∀(l:FJ),(∀v∈l,wM v v=true)->Tw l l=true
 |[],_=>by simp[Tw]
 |a::l,h=>by simp only[Tw,h a FR,AU];exact aAh l FR
theorem xL (h:∀v∈l,wM v v=true):wM (.agg ⟨l⟩) (.agg ⟨l⟩)=true:=by
 grind[wM,aF1,aAh]
theorem Y4 {r:eJ} (c:Hs G h ((fun q=>q=r)::L)) (j:eC W e a cap x r):Hs G h (eC W e a cap x::L):=
 Hs.join (A:=[_]) c fun q i=>by
  grind[jd]
theorem aH5 {c:Nat} (j:Hs G h L) [m:dZ (eC W e a c) L (n+1,cs) L'] (O:∀R S,Hs G h (eC W e R S (n,cs.drop W)::L')->k (.slice R n S)):cC (Dv W h (.slice a (n+1) c) (some<|I 1) none none) k:=by
 have j:=m.of j;obtain⟨r,U,⟨hl,hc,hr⟩,z,D,N,s⟩:=j.fst;rcases hr with⟨Q,_⟩|⟨Q,_⟩|⟨u,b,i,o,ex,rfl,hle,C⟩;simp at Q;simp at Q;simp only at u hle C;subst C;obtain⟨hb,V⟩:=K5 N s;have h1:sM (some<|I 1) 0 (n+1)=some 1:=by simp only[sM];grind
 have F:sM none c c=some c:=rfl;have J:sM none (n+1) c=some _:=rfl;by_cases t:c=1;have X:n=0:=FQ
 subst t;subst X;have hex:xK h b=some ex:=by simp only[xK,V]
 have v:cs.drop W=[]:=FR;cases ex with
 |true=>
  refine⟨zY,by simp only[Dv,F,h1,J,AJ,ef,r5,aO,dx,hex];simp,O _ _ ?_⟩;rw[v];refine Hs.join (A:=[]) j.tail fun q Y=>⟨FW,rfl,.inl ⟨rfl,Y,rfl,FR⟩⟩
 |false=>
  refine⟨Hz ⟨b,i.length+1*W,none⟩,by simp only[Dv,F,h1,J,AJ,ef,r5,aO,dx,hex,fD];simp,O _ _ ?_⟩;rw[v];refine Y4 ⟨j.base,j.old,j.wf,j.fr,_,⟨_,U,rfl,z,D,rfl⟩,(eJ.jB D).2 ⟨N,s⟩⟩<|⟨FW,rfl,.inr<|.inl ⟨rfl,rfl,b,i.length+1*W,_,rfl,?_,rfl⟩⟩;grind
 refine⟨.slice (some ⟨b,i.length+1*W,none⟩) n<|c - 1,?_,O _ _ ?_⟩;simp only[Dv,F,h1,J,AJ,ef,r5,aO,dx,t,fD];grind;have T:i++cs++o=(i++cs.take W)++cs.drop W++o:=FW
 have e2:(i++cs.take W).length=i.length+1*W:=by
  grind
 refine Y4 ⟨j.base,j.old,j.wf,j.fr,_,⟨_,U,rfl,z,D,rfl⟩,(eJ.jB D).2 ⟨N,s⟩⟩ (⟨FR,FR,.inr<|.inr ⟨FR,b,_,o,ex,by rw[e2],?_,by rw[<-T]⟩⟩);rw[<-T,e2];have:c*W=(c - 1)*W+W:=by rw[<-AB];congr 1;omega
 omega
theorem Sq (t:Hs G h L) [m:dZ (aK b o) L c L'] (s:0<n) (hc:(c.drop<|i+j).take n=l) (r:l.length=n) (q:k (.agg ⟨l⟩)):cC (yU h n<|pt b (o+i) j) k:=by
 have:pt b (o+i) j=pt b o (i+j):=by simp only[pt];rw[DQ]
 grind[bC]
end Go.Ab
namespace Go.Ab
variable {K:FuncId->FJ->IX} {h:AH}
theorem aTt {g:FuncId} {args:FJ} (q:K f args=some (.yn g c)) (m:Cl P K g c h fun v i=>Xg v=true/\Q v i):Cl P K f args h Q:=by
 obtain⟨n,⟨o,h1⟩,s,r,j⟩:=m;exact⟨n+1,(⟨.vY,[],[],o.v⟩,h1),by show sW _ _ _ _ _ _=_;simp_all[sW,eD],j⟩
end Go.Ab
variable {t:TypeId} {base g:Nat} {w:World} {spare:Nat->Bool} {held:Bool} {gl old:Nat->JC}
namespace Go.Ab
open Go.RowKit
variable {H:Type}
section
def san:Value->Value
 |.int k n=> .int k n
 |.bool b=> .bool b
 |_=>sb
def aAa {ρ:kX}:∀l:FJ,bP ρ (l.map san) l
 |[]=>rfl
 |v::l=>by
  refine bP.cons ?_<|aAa l;cases v<;>simp[san,sb,bB]
def Tp:∀{i:List (Option IntKind)} {l:FJ},rC i l->l.map san=l
 |[],[],_=>rfl
 |none::i,v::l,h=>by
  obtain⟨⟨b,rfl⟩,c⟩:=h;simp[san,Tp c]
 |some k::i,v::l,h=>by
  obtain⟨⟨b,rfl,_⟩,c⟩:=h;simp[san,Tp c]
def qO (c:List (Option IntKind)) (w:World) (a:FM) (len cap:Nat):Prop:=
 (a=none/\len=0/\cap=0)\/(∃x,a=some x/\len=0)\/
 ∃x cc e j,a=some x/\0<len/\x.spot=none/\len<=cap/\w.heap[x.block]?=some (.cells cc e j)/\x.off+len*c.length<=cc.size/\
  ∀i,i<len->rC c ((cc.toList.drop<|x.off+i*c.length).take c.length)
def vz {x:Addr} (h:x.spot=none):x.add i=⟨x.block,x.off+i,none⟩:=by
 unfold Addr.add;split;rename_i c;subst c;cases x;subst h;rfl;rfl
variable {enc:TypeId×Value->H}
def Oa {fuel:Nat} {q:List (Option IntKind)} {x:DataW H×List MemPlace} (ht:P.underlying t=some (.slice e)) (X:yH P n e=some q) (hc:P.cellsOf e=q.length) (W:0<q.length)
  (h:DataW.trod enc P w base spare held fuel t cs=some x):∃a len u,cs=[.slice a len u]/\qO q w a len u:=by
 rcases ER ht h with⟨rfl,_⟩|⟨a,len,u,elems,rest,m,_,rfl,_,I,hl,hm,U,S,_,_⟩
 .exact⟨none,0,0,rfl,.inl ⟨rfl,rfl,rfl⟩⟩
 refine⟨some a,len,u,rfl,?_⟩
 rcases BK len with Q|Q
 .exact .inr (.inl ⟨a,rfl,Q⟩)
 refine .inr<|.inr ?_
 have each:∀i,i<len->∃c:FJ,rC q c/\c.length=q.length/\∀j,j<q.length->w.cell? ((a.add<|i*q.length).add j)=c[j]?:=by
  intro i J;have h1:=S i J;rw[b0 FQ,hc,BT] at h1;obtain⟨c,r,hy⟩:=h1;refine⟨c,Ny n X hy,?_,fun j A=>?_⟩;unfold World.cells? at r;split at r;simpa using(mapM_some_length r);cases r;unfold World.cells? at r;split at r;exact mapM_some_get r j j (by simp[A]);cases r
 obtain⟨c0,Y,α,R⟩:=each 0 Q
 have s:=R 0 W
 rw[b0 FQ] at s
 obtain⟨cc,V,D,I,O⟩:∃cc e D,w.heap[a.block]?=some (.cells cc e D)/\a.spot=none:=by
  have T:(a.add<|0*q.length).add 0=a:=by rw[EV];rfl
  rw[T] at s;unfold World.cell? at s;split at s;rename_i c e D I;split at s;cases s;rename_i O;exact⟨c,e,D,I,by simpa using O⟩;cases s
 have v:∀o,w.cell? ⟨a.block,o,none⟩=cc[o]?:=by
  intro o;unfold World.cell?;rw[I];simp
 have F:∀i,i<len->∃c:FJ,rC q c/\c.length=q.length/\∀j,j<q.length->cc[a.off+i*q.length+j]?=c[j]?:=by
  intro i J;obtain⟨c,N,z,A⟩:=each i J;refine⟨c,N,z,fun j C=>?_⟩;rw[<-A j C,vz O,vz rfl];exact(v _).symm
 refine⟨a,cc,V,D,rfl,Q,O,hl,I,?_,?_⟩
 .obtain⟨c,N,z,A⟩:=F (len - 1) FQ;have:=A (q.length - 1) FQ;rw[b0 FQ] at this;have h2:=(hX.1 this).1;have:len*q.length=(len - 1)*q.length+q.length:=by
   conv=>lhs;rw[show len=(len - 1)+1 by omega,AB]
  omega
 .intro i J;obtain⟨c,N,z,A⟩:=F i J;have:(cc.toList.drop<|a.off+i*q.length).take q.length=c:=by
   apply ri;intro j;rw[List.getElem?_take];split;rename_i C;rw[BJ,BM,A j C];rw[sr FQ]
  rw[this];exact N
def zE (G:Bg) (W:Nat) (v:Value) (n:Nat) (at':Nat->FJ):Prop:=∃a c,v= .slice a n c/\∀i,i<n->∃b o cells,a=some ⟨b,o,none⟩/\Ob G b cells/\(cells.drop<|o+i*W).take W=at' i/\o+i*W<=cells.length
abbrev OB:=JC×Option (Nat×(Nat×Nat))
abbrev JJ:=List OB
def aCq (P:Program) (w:World) (r:OB):Prop:=
 (∀o,r.1=some o->∀b s,r.2=some (b,s)->∃c,w.heap[b]?=some c/\∀ρ,zG P ρ s o c)/\(∀b s,r.2=some (b,s)->b<w.heap.size)
def Px (g:Nat) (gl:Nat->JC) (rs:JJ):Nat->JC:=fun i=>if i<g then gl i else(rs[i - g]?).bind (·.1)
def Ju (g:Nat) (rs:JJ):kX:=fun i=>if i<g then some (i,(0,0)) else(rs[i - g]?).bind (·.2)
def aWs (P:Program) (g:Nat) (gl:Nat->JC) (w:World):Prop:=∀i o,i<g->gl i=some o->∃c,w.heap[i]?=some c/\∀ρ,zG P ρ (0,0) o c
def aJh {rs:JJ} {r:OB} (h:rs[i]?=some r):Px g gl rs (g+i)=r.1:=by unfold Px;rw[aaa,show g+i - g=i by omega,h];rfl
def Dc {rs:JJ} {r:OB} (h:rs[i]?=some r):Ju g rs (g+i)=r.2:=by unfold Ju;rw[aaa,show g+i - g=i by omega,h];rfl
def aLx {rs:JJ} (h:i<g):Px g gl rs i=gl i:=by unfold Px;rw[bD2 h]
def aIi {base:Nat}:Hs ⟨base,old,base⟩ (Go.Ab.A3 base old) [] where
 base:=⟨rfl,bb _⟩
 old:=fun i c=>by rw[AH.Pk];exact bD2 c
 wf:=bb _
 fr:=fun i c=>by rw[Dq,bD1<|FI.2<|show base<=i from c]
 Wp:=⟨eJ.R4,rfl,⟨fun b o v h=>GS,fun b h=>GS,fun b e x n h=>GS,fun b o h=>GS⟩⟩
end
def Gi (f:DataW H->JA) (w:Nat):List (DataW H)->JA
 |[]=>some []
 |d::i=>match f d with
  |some c=>if c.length=w then(Gi f w i).map (c++·) else none
  |none=>none
def E1 (f:TypeId->DataW H->JA) (w:TypeId->Nat):List Field->List (DataW H)->Nat->JA
 |[],[],_=>some []
 |x::j,d::i,o=>match f x.type d with
  |some c=>if x.offset=o/\c.length=w x.type then(E1 f w j i<|o+c.length).map (c++·) else none
  |none=>none
 |_,_,_=>none
def O1 (P:Program):Nat->TypeId->DataW H->JA
 |0,_,_=>none
 |n+1,t,d=>match P.underlying t,d with
  |some (.int _),.lit (.int k m)=>some [.int k m]
  |some .bool,.lit (.bool b)=>some [.bool b]
  |some .string,.lit (.string s)=>some [.string ⟨s.toArray⟩]
  |some (.array _ e),.agg c=>match Gi (O1 P n e) (P.cellsOf e) c with
   |some l=>if l.length=P.cellsOf t then some l else none
   |none=>none
  |some (.struct i),.agg c=>match E1 (O1 P n) P.cellsOf i.toList c 0 with
   |some l=>if l.length=P.cellsOf t then some l else none
   |none=>none
  |_,_=>none
def Tt {f:DataW H->JA} {w:Nat}:∀{c:List (DataW H)} {l:FJ},Gi f w c=some l->l.length=c.length*w
 |[],l,h=>by simp[Gi] at h;subst h;simp
 |d::c,l,h=>by
  unfold Gi at h;split at h;split at h;rename_i i;simp only[ba] at h;obtain⟨r,j,rfl⟩:=h;simp[Tt j,i,AB];omega;cases h;cases h
def Yt {f:DataW H->JA} {w:Nat} {T:FJ->Option (DataW H×List MemPlace)} (q:∀c x l,T c=some x->f x.1=some l->c=l):∀(xs:List (DataW H×List MemPlace)) (cs l:FJ),
    Gi f w (xs.map (·.1))=some l->cs.length=xs.length*w->(∀i,i<xs.length->T ((cs.drop<|i*w).take w)=xs[i]?)->cs=l
 |[],cs,l,h,j,_=>by simp[Gi] at h;subst h;exact hY (by simpa using j)
 |x::xs,cs,l,h,j,o=>by
  simp only[k7,Gi] at h;split at h;rename_i c hc;split at h;simp only[ba] at h;obtain⟨r,t,rfl⟩:=h;have m:=o 0 FW;simp only[EV,ll,sz] at m;have s:=Yt q xs (cs.drop w) r t (by rw[q6,j,js,AB];omega) fun i u=>by
   have:=o (i+1) FX;rw[AL] at this;rw[x0,<-this,AB,D0]
  rw[<-z1 w cs,q _ _ _ m hc,s];cases h;cases h
def Vk {f:TypeId->DataW H->JA} {w:TypeId->Nat} {T:TypeId->FJ->Option (DataW H×List MemPlace)} (s:∀t c x l,T t c=some x->f t x.1=some l->c=l) {cs:FJ}:∀(fs:List Field) (xs:List (DataW H×List MemPlace)) (o:Nat) (l:FJ),
    E1 f w fs (xs.map (·.1)) o=some l->(∀(i:Nat) (x:Field),fs[i]?=some x->T x.type ((cs.drop x.offset).take<|w x.type)=xs[i]?)->(cs.drop o).take l.length=l
 |[],[],o,l,h,_=>by simp[E1] at h;subst h;simp
 |[],_::_,_,_,h,_=>by simp[E1] at h
 |_::_,[],_,_,h,_=>by simp[E1] at h
 |y::fs,x::xs,o,l,h,q=>by
  simp only[k7,E1] at h;split at h;rename_i c hc;split at h;rename_i j;simp only[ba] at h;obtain⟨r,u,rfl⟩:=h;have m:=s _ _ _ _ (q 0 y rfl) hc;rw[j.1,<-j.2] at m;rw[dd,List.take_add,x0,m,(Vk s fs xs (o+c.length) r u fun i z v=>q (i+1) z v)];cases h;cases h
variable {enc:TypeId×Value->H}
def va:∀(n:Nat) {t:TypeId} {cs l:FJ} {x:DataW H×List MemPlace} {fuel:Nat},DataW.trod enc P w base spare held fuel t cs=some x->O1 P n t x.1=some l->cs=l:=by
 intro n;induction n with
 |zero=>intro t cs l x fuel _ h;cases h
 |succ n I=>
  intro t cs l x fuel u h;unfold O1 at h;split at h;rename_i o j;obtain⟨m,rfl,q,_⟩:=DataW.trod_int o u;rw[q] at j;cases j;cases h;rfl;rename_i o j;obtain⟨m,rfl,q⟩:=DataW.trod_bool o u;rw[q] at j;cases j;cases h;rfl;rename_i o j;obtain⟨m,rfl,q,_⟩:=DataW.trod_string o u;rw[q] at j;cases j;cases h;rfl;rename_i o j;obtain⟨D,m,_,q,F,C,s⟩:=DataW.trod_array o u;rw[q] at j;cases j;split at h;rename_i r v;split at h;rename_i A;cases h;have:=Tt v;rw[k6] at this;exact Yt (T:=DataW.trod enc P w base spare held m _) (fun c y l h1 z=>I h1 z) D cs l v (by rw[F,<-A,this]) fun i N=>s i FQ;cases h;cases h;rename_i o j;obtain⟨D,m,_,q,F,C,s⟩:=CI o u;rw[q] at j;cases j;split at h;rename_i r v;split at h;cases h;have:=Vk (w:=P.cellsOf) (T:=fun t c=>DataW.trod enc P w base spare held m t c) (fun t c y l h1 z=>I h1 z) (cs:=cs) _ D 0 l v fun i y J=>s i y (by rw[<-J,BM]);rw[ll,fm FQ] at this;exact this;cases h;cases h;cases h
def Mn {n:String} {d:DataW Unit}:∀{laid:List (String×DataW Unit)} {ps:List MemPlace},DataW.LaidVars P w laid ps->(n,d)∈laid->
  ∃g t c fuel p,P.globalNamed n=some g/\(P.globals[g]?).map (·.type)=some t/\w.var? P n=some c/\DataW.trod (fun _=>()) P w 0 (fun _=>true) false fuel t c.toList=some (d,p)
 |[],_,_,i=>IN
 |(v,u)::r,ps,h,i=>by
  obtain⟨g,t,c,fuel,p,q,h1,j,m,o,s,_⟩:=h;rcases e6.1 i with e|e;cases e;exact⟨g,t,c,fuel,p,h1,j,m,o⟩;exact Mn s e
def Aq {laid:List (String×DataW Unit)} {n:String} {d:DataW Unit} (fuel:Nat) (v:(laid.all fun x=>x.2.handleName?.isNone)=true) (h:laidMetH P laid w) (u:(n,d)∈laid)
  (m:P.globalNamed n=some g) (z:(P.globals[g]?).map (·.type)=some t) (hc:O1 P fuel t d=some l):∃e j,w.heap[g]?=some (.cells ⟨l⟩ e j):=by
 rw[Go.MakeChecks.laidMetH_plain _ _ _ v] at h
 obtain⟨D,A,_⟩:=h
 obtain⟨C,F,o,f,p,h1,q,i,r⟩:=Mn A u
 obtain rfl:=Option.some.inj<|m.symm.trans h1
 obtain rfl:=Option.some.inj<|z.symm.trans q
 have:=va fuel r hc
 simp only[World.var?,m,AS] at i
 split at i
 .rename_i c e j s;cases i;refine⟨e,j,?_⟩;rw[s];cases o;subst this;rfl
 .cases i
end Go.Ab
namespace Go.Ab
open Go.RowKit Go.ChangeShapes Go.WideShapes Go.ChangeAt
variable {H:Type} {enc:TypeId×Value->H}
def ui (P:Program) (c:List TypeId):Bool:=c.all fun t=>P.readableRec t&&decide (t<P.types.size)
def Xa {P:Program} (r:laidOutB P=true) {W o:World} (hb:Below W.heap.size W o):∀(c:List TypeId) {vs:FJ} {i:List (DataW H)} {ps:List MemPlace},ui P c=true->
  DataW.TrodAll enc P W 0 (fun _=>true) true c vs i ps->DataW.TrodAll enc P o 0 (fun b=>decide<|b<W.heap.size) true c vs i ps
 |[],vs,i,ps,_,h=>by
  obtain⟨rfl,rfl,rfl⟩:=trodAll_nil h;exact trodAll_mk0
 |t::c,vs,i,ps,j,h=>by
  obtain⟨v,A,d,s,p,q,rfl,rfl,rfl,h1,u⟩:=trodAll_cons h;simp only[ui,CG,dn,AG] at j;exact trodAll_cons_mk (Below.trod r j.1.1 j.1.2 h1 hb<|by obtain⟨m,z⟩:=h1;exact DataW.trod_lt m _ _ _ z)<|Xa r hb c j.2 u
def aBk {P:Program} {w:World} {base:Nat} {spare:Nat->Bool} {held:Bool}:∀(i:List TypeId) {vs:FJ} {c:List (DataW H)} {ps:List MemPlace},
    DataW.TrodAll enc P w base spare held i vs c ps->c.length=i.length
 |[],vs,c,ps,h=>by obtain⟨rfl,rfl,rfl⟩:=trodAll_nil h;rfl
 |t::i,vs,c,ps,h=>by
  obtain⟨v,o,d,j,p,q,rfl,rfl,rfl,h1,m⟩:=trodAll_cons h;simp[aBk i m]
def wk {C:Checked} {os:Os} (started:os.Started) {c:Func} {s:ChangeSpec} {laid:List (String×DataW Unit)} {U:TypeId} {iD handsOn:Bool}
  (V0:ownKnob C.prog.godebug=none) (r:C.prog.inits.idxOf? f=none) (J:C.prog.funcs[f]?=some c) (N:laidOutB C.prog=true) (O:ui C.prog c.params.toList=true)
  (D:c.resultTypes= #[U]) (Q:C.prog.underlying U=some .bool) (m:s.vars=[])
  (z:∀o:List (DataW H),o.length=c.params.size->s.fn H o={results:=[.lit<|.bool true],args:=o})
  (witness:∃(w:World) (tape:Tape) (i:Input),w.os=os/\(w.forCall tape i).Shaped C.prog/\i.vars=[]/\Input.okWide C.prog (w.forCall tape i) .any w.heap.size f i/\
   ((s.pre enc C.prog c [] false (w.forCall tape i).memory i.args/\laidMetH C.prog laid (w.forCall tape i).memory)/\sizedMet enc C.prog c (OpenSpec.ofChange s) false (w.forCall tape i).memory i.args)/\({}:Assume).holds C.prog (lone (Frame.enter C.prog f i.args .normal) []<|w.forCall tape i))
  (Bk:∀(W:World) (base:Nat) (args:FJ) (o:List (DataW H)) (ps:List MemPlace),DataW.TrodAll enc C.prog W 0 (fun _=>true) true c.params.toList args o ps->
   (∀(j:Nat) t v,c.params[j]?=some t->args[j]?=some v->Value.okWide C.prog W .any base t v)->laidMetH C.prog laid W->Calls C.prog f ⟨args⟩ W fun e R=>e= .returned (.bool true)/\Below W.heap.size W R):
  ReturnsInHanded {} C os f .any (fun w args=>(s.pre enc C.prog c [] false w args/\laidMetH C.prog laid w)/\sizedMet enc C.prog c (OpenSpec.ofChange s) false w args) (s.post enc C.prog c false iD handsOn false):=by
 refine returnsInHanded_of_change_and (C:=C) (X:=fun w _=>laidMetH C.prog laid w) (fun _ _ _ hh h=>h.of_heap hh) V0 started r J witness ?_
 intro W base args o gs before F T _ _ Y _
 have I:=T
 obtain⟨p,q,hA,S,rfl,α,β⟩:=T
 rw[m] at S
 obtain⟨rfl,rfl⟩:=trodVars_none S
 have u:=z o (by rw[aBk _ hA];simp)
 obtain⟨args⟩:=args
 refine(Bk W base args o p hA (fun j t v h1 V=>F j t v h1<|by simpa using V) Y).mono fun e R ⟨he,A⟩=>?_
 subst he
 refine⟨_,rfl,o,[],_,[],p,[],I,?_,?_,?_,A.frame _,fun h=>FZ⟩
 .rw[kx,u,D];exact trodAll_mk1<|shut_bool Q _
 .rw[kx,u];exact Xa N A _ O hA
 .rw[kx,u,m];rfl
def iQ {k:IntKind} {c:List (Option IntKind)} (h:rC (some k::c) l):∃(n:Int) (l':FJ),l= .int k n::l'/\rC c l':=by
 cases l with
 |nil=>exact h.elim
 |cons v l=>obtain⟨⟨n,rfl,_⟩,h⟩:=h;exact⟨n,l,rfl,h⟩
def Hf (h:rC [] l):l=[]:=by
 cases l with
 |nil=>rfl
 |cons v l=>exact h.elim
def aDh {W:World} {base:Nat} {d:DataW H} {p:List MemPlace} {i:List (Option IntKind)} (q:P.underlying t=some (.slice e)) (u:yH P n e=some i) (hc:P.cellsOf e=i.length) (s:0<i.length)
  (m:Value.okWide P W .any base t v) (h:DataW.Trod enc P W 0 (fun _=>true) true t v d p):∃a len c,v= .slice a len c/\qO i W a len c:=by
 obtain⟨a,len,c,rfl⟩:=okWide_slice q m
 obtain⟨fuel,z⟩:=h
 obtain⟨C,r,o,j,A⟩:=Oa q u hc s z
 obtain⟨rfl,rfl,rfl⟩:=j
 exact⟨_,_,_,rfl,A⟩
end Go.Ab
variable {s:Nat×Nat} {L:List (JA)} {ρ:kX} {T:Nat->Bool} {E:Nat->TypeId} {Z:Nat->Nat×Nat}
namespace Go.Ab
variable {l':FJ}
noncomputable section
variable {h hc:AH}
abbrev Sg:=Nat->Nat×Nat×Nat
def rn (σ:Sg):Value->Value
 |.pointer (some a)=> .pointer (some ⟨(σ a.block).1,(σ a.block).2.1+a.off,a.spot⟩)
 |.slice (some ⟨i,o,none⟩) l c=> .slice (some ⟨(σ i).1,(σ i).2.1+o,none⟩) l ((σ i).2.2+c)
 |v=>v
def Rc (σ:Sg):Value->Value->Prop
 |.chan _,_=>True
 |.slice (some ⟨_,_,some _⟩) _ _,w=>∃a c,w= .slice (some a) 0 c
 |v,w=>rn σ v=w
def Rcs (σ:Sg):FJ->FJ->Prop
 |[],[]=>True
 |v::l,w::t=>Rc σ v w/\Rcs σ l t
 |_,_=>False
def okV (T:Nat->Bool):Value->Bool
 |.func _ _ _|.agg _|.tuple _|.iface _ _|.map _|.chan (some _)=>false
 |.pointer (some a)=>T a.block
 |.slice (some ⟨i,_,none⟩) _ _=>T i
 |.slice (some ⟨_,_,some x⟩) l c=>Nat.beq x 0&&(Nat.beq l 0&&Nat.beq c 0)
 |_=>true
def J4 (σ:Sg) (T:Nat->Bool) (ρ:kX):kX:=fun i=>if T i then(ρ (σ i).1).map fun x=>(x.1,(x.2.1+(σ i).2.2,x.2.2+(σ i).2.1)) else none
def aAu {σ:Sg} (c:T i=true) (h:ρ (σ i).1=some (b,s)):J4 σ T ρ i=some (b,(s.1+(σ i).2.2,s.2+(σ i).2.1)):=by
 unfold J4;rw[bD2 c,h];rfl
def aJ4 {σ:Sg}:∀{v u q:Value},okV T v=true->Rc σ v u->bB ρ u q->bB (J4 σ T ρ) v q
 |.pointer none,_,_,_,e,k=>GM
 |.pointer (some _),_,_,i,e,k=>by
  cases e;obtain⟨b,s,m,e⟩:=k;exact⟨b,_,aAu i m,by rw[e];show Value.pointer (some ⟨b,_+_+s.2,_⟩)= .pointer (some ⟨b,_+(s.2+_),_⟩);rw[show∀x y z:Nat,x+y+z=y+(z+x) by omega]⟩
 |.slice none _ _,_,_,_,e,k=>GM
 |.slice (some ⟨_,_,some _⟩) _ _,_,_,i,⟨a,c,e⟩,k=>by
  cases e;simp only[okV,dn,Nat.beq_eq] at i;obtain⟨rfl,rfl,rfl⟩:=i;obtain⟨b,o,x⟩:=a;cases x with
  |none=>obtain⟨b,s,j,_,_,_,e⟩:=k;exact⟨rfl,rfl,_,_,nofun,nofun,e⟩
  |some x=>obtain⟨_,_,r,j,_,_,e⟩:=k;exact⟨rfl,rfl,_,_,nofun,nofun,e⟩
 |.slice (some ⟨_,_,none⟩) _ _,_,_,i,e,k=>by
  cases e;obtain⟨b,s,j,m,h1,t,e⟩:=k;exact⟨b,_,j,aAu i m,FQ,by show _<=_+(s.1+_);omega,by rw[e];show Value.slice (some ⟨b,_+_+s.2,_⟩) _ _= .slice (some ⟨b,_+(s.2+_),_⟩) _ _;rw[show∀x y z:Nat,x+y+z=y+(z+x) by omega]⟩
 |.bool _,_,_,_,e,k=>GM
 |.int _ _,_,_,_,e,k=>GM
 |.float _ _,_,_,_,e,k=>GM
 |.complex _ _ _,_,_,_,e,k=>GM
 |.string _,_,_,_,e,k=>GM
 |.nilFunc,_,_,_,e,k=>GM
 |.nilIface,_,_,_,e,k=>GM
 |.chan none,_,_,_,_,_=>trivial
 |.chan (some _),_,_,i,_,_=>IN
 |.map _,_,_,i,_,_=>IN
 |.func _ _ _,_,_,i,_,_=>IN
 |.agg _,_,_,i,_,_=>IN
 |.tuple _,_,_,i,_,_=>IN
 |.iface _ _,_,_,i,_,_=>IN
def Z2 {σ:Sg} {T:Nat->Bool}:∀{l u l':FJ},l.all (okV T)=true->Rcs σ l u->bP ρ u l'->bP (J4 σ T ρ) l l'
 |[],[],_,_,_,k=>k
 |v::l,_::_,_,c,⟨h1,i⟩,k=>by
  obtain⟨q,o,j,m,rfl⟩:=k;rw[CG,dn] at c;exact⟨q,o,aJ4 c.1 h1 j,Z2 c.2 i m,rfl⟩
 |[],_::_,_,_,e,_=>e.elim
 |_::_,[],_,_,e,_=>e.elim
def aJg (k:bP ρ l l'):∀(a b:Nat),bP ρ ((l.drop a).take b) ((l'.drop a).take b):=by
 have m:∀(b:Nat) {l l':FJ},bP ρ l l'->bP ρ (l.take b) (l'.take b):=fun b=>by
  induction b with
  |zero=>intro _ _ _;exact rfl
  |succ b c=>
   intro l l' k;cases l with
   |nil=>cases k;exact rfl
   |cons v l=>obtain⟨j,q,o,i,rfl⟩:=k;exact⟨j,_,o,c i,rfl⟩
 intro a b;refine m b ?_;induction a generalizing l l' with
 |zero=>exact k
 |succ a c=>
  cases l with
  |nil=>cases k;exact rfl
  |cons v l=>obtain⟨j,q,_,i,rfl⟩:=k;exact c i
def aJx (L:List (JA)) (E:Nat->TypeId) (Z:Nat->Nat×Nat):Nat->JC:=fun i=>(L[i]?.join).map fun c=> .cells c (E i) (Z i) false
abbrev isT (g:Nat) (L:List (JA)) (i:Nat):Bool:=Nat.blt i g||(L[i]?.join).isSome
structure K9 (P:Program) (g:Nat) (σ:Sg) (L:List (JA)) (E:Nat->TypeId) (Z:Nat->Nat×Nat) (h:AH):Prop where
 uE:∀i c,L[i]?.join=some c->∃ch x,h.get (σ i).1=some (.cells ch (E i) (Z i) x)/\Rcs σ c ((ch.drop (σ i).2.1).take c.length)/\(σ i).2.1+c.length+(σ i).2.2*P.cellsOf (E i)<=ch.length
 ok:(L.all fun x=>(x.getD []).all<|okV<|isT g L)=true
 rR:P.globals.size<=g/\g<=L.length
 gs:∀i,i<g->σ i=(i,0,0)
variable {σ:Sg}
def K9.oks (j:K9 P g σ L E Z h) (e:L[i]?.join=some c):c.all (okV<|isT g L)=true:=by
 cases k:L[i]? with
 |none=>rw[k] at e;cases e
 |some x=>
  rw[k] at e;have:=ux.1 j.ok x<|kt k;cases x with
  |none=>cases e
  |some y=>cases e;exact this
def nj (I:fT P B ρ h w) (t:K9 P g σ L E Z h) {o:qU} (j:aJx L E Z i=some o) (m:J4 σ (isT g L) ρ i=some (b,s)):
  ∃q,w.heap[b]?=some q/\zG P (J4 σ (isT g L) ρ) s o q:=by
 unfold aJx at j
 cases hL:L[i]?.join with
 |none=>rw[hL] at j;cases j
 |some c=>
  rw[hL] at j;cases j
  unfold J4 at m
  split at m
  .obtain⟨⟨J,u⟩,F,e⟩:=ba.1 m;cases e;obtain⟨N,x,h1,z,O⟩:=t.uE i c hL;obtain⟨q,A,v,C,D,Q,_⟩:=I.uE _ _ h1 _ _ F;have r:=aJg D (σ i).2.1 c.length;refine⟨q,A,v,C,?_,?_,nofun⟩
   .rw[DD,x0,List.take_take,EX FQ] at r;exact Z2 (t.oks hL) z r
   .show u.2+_+_+(u.1+_)*_<=_;rw[CK];omega
  .cases m
def aIk (t:fT P B ρ h w) (q:K9 P g σ L E Z h) (u:g<=w.heap.size) (r:∀i,i<g->ρ i=some (i,(0,0))) (j:J4 σ (isT g L) ρ i=some (b,s)):b<w.heap.size:=by
 cases hL:L[i]?.join with
 |none=>
  unfold J4 isT at j;rw[hL] at j;split at j;rename_i m;have m:i<g:=by simpa using m
  rw[q.gs i m,r i m] at j;cases j;omega;cases j
 |some c=>
  have⟨_,h1,_⟩:=nj t q (o:= .cells c (E i) (Z i) false) (by unfold aJx;rw[hL];rfl) j;exact(hX.1 h1).1
end
noncomputable section
open Go.RowKit
variable {h:AH} {K:FuncId->FJ->IX} {σ:Sg}
abbrev Xx (L:List (JA)) (E:Nat->TypeId) (Z:Nat->Nat×Nat):AH:=A3 L.length<|aJx L E Z
def R6 (m:P.globals.size=g) (u:g<=w.heap.size) (c:fT P B ρ h w) (j:K9 P g σ L E Z h):Y1 P L.length (aJx L E Z) (J4 σ (isT g L) ρ) w where
 uE:=fun _ _ _ t _ _ q=>nj c j t q
 low:=fun i b s _ q=>aIk c j u (fun i h=>c.rR i<|m▸h) q
 none:=fun i r=>bD1 (by
  have:=j.rR.2;simp only[isT,AZ,FG,not_or];exact⟨FQ,by rw[sr r];exact nofun⟩)
 rR:=fun i o=>by
  unfold J4;rw[bD2<|by simp[<-m,o],j.gs i<|m▸o,c.rR i o];rfl
def ju (C:Pj P w.heap.size K) (D:C.G w) (u:P.globals.size=g) (I:g<=w.heap.size) (m:fT P B ρ h w) (F:K9 P g σ L E Z h) {args:FJ}
  (ha:bP (J4 σ (isT g L) ρ) args c) (q:((run P K n (.call f args)<|Xx L E Z).any fun r=>wM r.1.v v)=true) (s:jJ v=true):
  Calls P f ⟨c⟩ w fun e w'=>∃ρ' i,e= .returned i/\bB ρ' v i/\pT P B ρ h w ρ' h w':=by
 rw[EF] at q
 obtain⟨⟨o,h1⟩,t,j⟩:=q
 exact(U1 C D (R6 u I m F) ha (Q:=fun o _=>o.v=v) ⟨n,_,t,U8 _ _ j⟩).mono fun e w' ⟨ρ',o,J,i,h1,j,z,_,A⟩=>⟨ρ,i,h1,by rw[zR v i s<|z▸j];exact gY v s,uH m A⟩
end
end Go.Ab
variable {w':World}
namespace Go.Ab
open Go.RowKit
variable {ρ1:kX} {h h1:AH}
theorem aKx (e:pT P B ρ h w ρ1 h1 w') {o:qU} {o':Obj} (hb:zG P (A8 ρ1 h1.next (g,s)) s o o') (Y:w'.heap[g]?=some o') (hB:B<=g) (S:w.heap.size<=g)
  (C:∀i V,h1.base<=i->(h1.get i).isSome->ρ1 i≠some (g,V)):pT P B ρ h w (A8 ρ1 h1.next (g,s)) (h1.alloc o) w':=by
 have r:=e.inv
 have u:Du ρ1 (A8 ρ1 h1.next (g,s)):=Du.A8<|r.iD _<|bb _
 have c:∀j,(h1.alloc o).get j=if j=h1.next then some o else h1.get j:=fun j=>AH.wQ r.bn
 have T:=e.next
 refine {ext:=e.ext.trans u,inv:=?_,un:=?_,rO:=?_,stay:=?_,frame:=e.frame,range:=?_,base:=e.base,Bc:=?_,next:=u3 e.next,size:=e.size,os:=e.os,out:=e.out,tape:=e.tape}
 .refine {uE:=?_,inj:=?_,low:=?_,old:=?_,iD:=?_,kW:=?_,rR:=fun R J=>u _ _<|r.rR R J,size:=r.size,bn:=u3 r.bn}
  .intro i U A b s1 z;rw[c] at A;by_cases e:i=h1.next
   .simp_all [cK]
   .rw[bD1 e] at A;rw[cM e] at z;have⟨o2,O,Q⟩:=r.uE i U A b s1 z;exact⟨o2,O,Q.mono u⟩
  .intro i j b W X m I gi F q D;rw[c] at gi F;by_cases e:i=h1.next
   .by_cases t:j=h1.next
    .rw[e,t]
    .rw[bD1 t] at F;rw[cM t] at D;subst e;rw[cK] at q;cases q;exact absurd D<|C j _ I F
   .rw[bD1 e] at gi;rw[cM e] at q;by_cases t:j=h1.next
    .subst t;rw[cK] at D;cases D;exact absurd q<|C i _ m gi
    .rw[bD1 t] at F;rw[cM t] at D;exact r.inj i j b W X m I gi F q D
  .intro i b s1 m gi q;rw[c] at gi;by_cases e:i=h1.next
   .subst e;rw[cK] at q;cases q;exact hB
   .rw[bD1 e] at gi;rw[cM e] at q;exact r.low i b s1 m gi q
  .intro i b s1 m q;rw[cM fun e=>by have:=r.bn;simp at m;omega] at q;exact r.old i b s1 m q
  .intro i C;simp at C;rw[cM FQ];exact r.iD i FQ
  .intro i C;simp at C;rw[c,aaa];exact r.kW i FQ
 .intro i v z;rw[cM FQ];exact e.un i v z
 .intro i v z;rw[c,aaa];exact e.rO i v z
 .intro i v z;rw[c,aaa];exact e.stay i v z
 .intro i b s1 m gi q N;rw[c] at gi;by_cases t:i=h1.next
  .subst t;rw[cK] at q;cases q;omega
  .rw[bD1 t] at gi;rw[cM t] at q;exact e.range i b s1 m gi q N
 .intro i hb;have O:=r.bn;have Q:=e.base;rw[c,aaa];exact e.Bc i hb
end Go.Ab
namespace Go.Ab
noncomputable section
open Go.RowKit
variable {ρ1:kX} {h h1:AH}
def okN (l:FL):Value->Bool
 |.int _ _|.bool _|.slice none _ _=>true
 |.slice (some ⟨i,_,none⟩) _ _=>l.contains i
 |_=>false
def ia {ρ2:kX}:∀{l l':FJ},l.all (okN [])=true->bP ρ l l'->bP ρ2 l l'
 |[],_,_,k=>k
 |v::o,_,c,⟨m,j,h1,i,e⟩=>by
  rw[CG,dn] at c;refine⟨m,j,?_,ia c.2 i,e⟩;have c:=c.1;unfold okN at c;split at c;exact h1;exact h1;exact h1;cases c;cases c
def okB:qU->Bool
 |.cells c _ _ _=>c.all (okN [])
 |_=>false
def aQe {ρ2:kX} {o:qU} {o':Obj} (i:okB o=true) (k:zG P ρ s o o'):zG P ρ2 s o o':=by
 cases o with
 |cells c e t x=>obtain⟨j,m,h1,q,r⟩:=k;exact⟨j,m,ia i h1,q,r⟩
 |_=>cases i
def Cz (c h:AH):FL->AH
 |[]=>h
 |j::l=>(Cz c h l).alloc<|(c.get j).getD<|.wO true
def ft (ρ2 ρ':kX) (n:Nat):FL->Prop
 |[]=>True
 |j::l=>ρ2 (n+l.length)=ρ' j/\ft ρ2 ρ' n l
def ft.ext {ρ2 ρ3 ρ':kX} {n:Nat} (i:Du ρ2 ρ3):∀{l:FL},(∀j∈l,(ρ' j).isSome)->ft ρ2 ρ' n l->ft ρ3 ρ' n l
 |[],_,_=>trivial
 |j::l,c,⟨e,k⟩=>by
  have⟨x,hx2⟩:=c7.1<|c j eg;exact⟨by rw[hx2];exact i _ _<|e.trans hx2,ft.ext i (fun j m=>c j<|aW _ m) k⟩
def qg (I:fT P B ρ h w) (v:Below w.heap.size w w') {ρ':kX} {c:AH} (t:fT P w.heap.size ρ' c w'):∀{l:FL},l.Nodup->(∀j∈l,c.base<=j/\∃o,c.get j=some o/\okB o=true/\(ρ' j).isSome)->
  ∃ρ2,pT P B ρ h w ρ2 (Cz c h l) w'/\ft ρ2 ρ' h.next l/\(Cz c h l).next=h.next+l.length/\
   ∀i g C,(Cz c h l).base<=i->((Cz c h l).get i).isSome->ρ2 i=some (g,C)->g<w.heap.size\/∃j∈l,∃s2,ρ' j=some (g,s2)
 |[],_,_=>⟨ρ,uH I v,trivial,rfl,fun i g C _ S A=> .inl (by
   have⟨o,ho⟩:=c7.1 S;have⟨o',h1,_⟩:=I.uE i o ho g C A;exact(hX.1 h1).1)⟩
 |j::l,Q,J=>by
  rw[BA] at Q;have⟨ρ2,e,ht,hn,hin⟩:=qg I v t Q.2 fun j R=>J j<|aW _ R;have⟨hbj,o,ho,hok,hs⟩:=J j eg;have⟨⟨b,s⟩,A⟩:=c7.1 hs;have⟨o',h1,h2⟩:=t.uE j o ho b s A;have F:=t.low j b s hbj (by rw[ho];rfl) A;have T:Du ρ2 (A8 ρ2 (Cz c h l).next (b,s)):=Du.A8<|e.inv.iD _<|bb _;have q:=aKx e (o:=o) (s:=s) (aQe hok h2) h1 (cL I.size F) F fun i C z r m=>by
   rcases hin i b C z r m with D|⟨N,u,s2,D⟩;omega;have⟨hb2,o2,ho2,_⟩:=J N<|aW _ u;have:=t.inj j N b s s2 hbj hb2 (by rw[ho];rfl) (by rw[ho2];rfl) A D;exact Q.1<|this▸u
  have eq:Cz c h (j::l)=(Cz c h l).alloc o:=by
   show(Cz c h l).alloc ((c.get j).getD _)=_;rw[ho];rfl
  rw[eq];refine⟨_,q,⟨by rw[<-hn,cK,A],ft.ext T (fun j R=>(J j<|aW _ R).2.elim fun _ k=>k.2.2) ht⟩,by show(Cz c h l).next+1=_;rw[hn];rfl,fun i g C z r m=>?_⟩;rw[AH.wQ e.inv.bn] at r;by_cases O:i=(Cz c h l).next
  subst O;rw[cK] at m;cases m;exact .inr ⟨j,eg,s,A⟩;rw[bD1 O] at r;rw[cM O] at m;rcases hin i g C z r m with D|⟨N,u,D⟩;exact .inl D;exact .inr ⟨N,aW _ u,D⟩
end
noncomputable section
open Go.RowKit
variable {h:AH} {K:FuncId->FJ->IX}
def nw (p:Nat->Nat):Value->Value
 |.slice (some ⟨i,o,x⟩) l c=> .slice (some ⟨p i,o,x⟩) l c
 |v=>v
def Qe (n:Nat):FL->Nat->Nat
 |[],i=>i
 |j::l,i=>if i=j then n+l.length else Qe n l i
def zr {ρ2 ρ':kX} {n:Nat}:∀{l:FL} {i:Nat},ft ρ2 ρ' n l->l.contains i=true->ρ2 (n+Qe 0 l i)=ρ' i
 |[],_,_,m=>by cases m
 |j::l,i,⟨e,k⟩,m=>by
  unfold Qe;split;rename_i c;rw[c,AD];exact e;rename_i c;exact zr k (by simpa [c] using m)
def aI9 {l:FL} {n:Nat} {ρ' ρ2:kX} (m:ft ρ2 ρ' n l):∀{cs j:FJ},cs.all (okN l)=true->bP ρ' cs j->bP ρ2 (cs.map<|nw fun i=>n+Qe 0 l i) j
 |[],_,_,k=>k
 |v::cs,_,c,⟨u,t,h1,q,e⟩=>by
  cases e;rw[CG,dn] at c;refine⟨u,t,?_,aI9 m c.2 q,rfl⟩;have c:=c.1;unfold okN at c;split at c;exact h1;exact h1;exact h1;obtain⟨b,s,o,r,k⟩:=h1;exact⟨b,s,o,(zr m c).trans r,k⟩;cases c
def sE (h:AH):List qU->AH
 |[]=>h
 |o::l=>(sE h l).alloc o
def aVa:JC->qU->Bool
 |some (.cells c e z x),.cells j m i y=>Tw c j&&(Nat.beq e m&&(Nat.beq z.1 i.1&&(Nat.beq z.2 i.2&&(bif x then y else !y))))
 |_,_=>false
theorem aPj:∀{o:JC} {o':qU},aVa o o'=true->o=some o'
 |some (.cells c e z x),.cells r s q y,h=>by
  simp only[aVa,dn,Nat.beq_eq] at h;obtain⟨h1,i,j,m,t⟩:=h;rw[Q7 _ _ h1,i,Prod.ext (x:=z) (y:=q) j m];cases x<;>cases y<;>simp_all
 |none,_,h=>FZ
 |some (.loop ..),_,h=>FZ
 |some (.wO _),_,h=>FZ
 |some (.map ..),_,h=>FZ
 |some (.mapIter ..),_,h=>FZ
 |some (.R1 ..),_,h=>FZ
 |some (.cells ..),.loop ..,h=>FZ
 |some (.cells ..),.wO _,h=>FZ
 |some (.cells ..),.map ..,h=>FZ
 |some (.cells ..),.mapIter ..,h=>FZ
 |some (.cells ..),.R1 ..,h=>FZ
def aPh (c:AH):FL->List qU->Bool
 |[],[]=>true
 |j::l,o::i=>aVa (c.get j) o&&(okB o&&(!(l.contains j)&&aPh c l i))
 |_,_=>false
def zf {m:AH} (h:AH):∀{l:FL} {c:List qU},aPh m l c=true->Cz m h l=sE h c/\l.Nodup/\∀j∈l,∃o,m.get j=some o/\okB o=true
 |[],[],_=>⟨rfl,DF,fun _ h=>FZ⟩
 |j::l,o::c,r=>by
  simp only[aPh,dn] at r;obtain⟨h1,s,t,u⟩:=r;have⟨k1,k2,k3⟩:=zf h u;have e:=aPj h1;exact⟨by show(Cz m _ l).alloc _=(sE _ c).alloc o;rw[k1,e];rfl,BA.2 ⟨by simpa using t,k2⟩,fun i q=>by
   rcases e6.1 q with rfl|q;exact⟨o,e,s⟩;exact k3 i q⟩
 |[],_::_,h=>FZ
 |_::_,[],h=>FZ
def aVz (j:Nat):Value->Bool
 |.slice (some ⟨i,_,none⟩) _ _=>Nat.beq i j
 |_=>false
def Yv {ρ':kX} {j:Nat}:∀{cs c:FJ},cs.any (aVz j)=true->bP ρ' cs c->(ρ' j).isSome=true
 |[],_,h,_=>FZ
 |v::cs,_,h,⟨r,q,h1,i,e⟩=>by
  rw[List.any_cons,AZ] at h;rcases h with h|h;unfold aVz at h;split at h;obtain⟨b,s,o,m,_⟩:=h1;rw[<-ql h,m];rfl;cases h;exact Yv h i
def aJ0 (base:Nat) (cs A:FJ) (m:List qU) (l:FL) (c:AH):Bool:=
 Tw (cs.map<|nw fun i=>Qe 0 l i) A&&(cs.all (okN l)&&(aPh c l m&&(l.all (fun j=>Nat.ble base j&&cs.any (aVz j))&&Nat.beq c.base base)))
def aYl {p q:Nat->Nat}:(cs.map<|nw p).map (nw q)=cs.map (nw fun i=>q<|p i):=by
 rw[CB];refine v7 fun v _=>?_;cases v with
 |slice a _ _=>cases a<;>rfl
 |_=>rfl
def zd (J:fT P B ρ h w) (i:Below w.heap.size w w') {ρ':kX} {s:AH} (q:fT P w.heap.size ρ' s w') {base:Nat} {A:FJ} {r:List qU} {l:FL} (u:aJ0 base cs A r l s=true) (v:bP ρ' cs c):
  ∃ρ2,bP ρ2 (A.map<|nw (h.next+·)) c/\pT P B ρ h w ρ2 (sE h r) w':=by
 simp only[aJ0,dn] at u
 obtain⟨h1,z,C,D,F⟩:=u
 have⟨k1,k2,k3⟩:=zf h C
 have I:=ql F
 have⟨ρ2,q1,q2,_⟩:=qg J i q k2 fun j t=>by
  have⟨o,ho,hk⟩:=k3 j t;have m:=ux.1 D j t;rw[dn] at m;exact⟨by rw[I];exact oV m.1,o,ho,hk,Yv m.2 v⟩
 rw[k1] at q1
 refine⟨ρ2,?_,q1⟩
 rw[<-Q7 _ _ h1,aYl]
 exact aI9 q2 z v
def unB (b:Bool):Value->JA
 |.agg ⟨l⟩=>bif b then none else some l
 |.tuple ⟨l⟩=>bif b then some l else none
 |_=>none
def mkB (b:Bool) (l:FJ):Value:=bif b then .tuple ⟨l⟩ else .agg ⟨l⟩
def aSp {b:Bool} (h:unB b v=some l):v=mkB b l:=by
 cases v with
 |agg c=>cases b<;>cases h;rfl
 |tuple c=>cases b<;>cases h;rfl
 |_=>cases h
def aMg:FJ->FL
 |[]=>[]
 |.slice (some a) _ _::l=>aMg l++[a.block]
 |_::l=>aMg l
def nf {σ:Sg} (b:Bool) (C:Pj P w.heap.size K) (U:C.G w) (T:P.globals.size=g) (W:g<=w.heap.size) (q:fT P B ρ h w) (V:K9 P g σ L E Z h) {args A:FJ} {v:List qU}
  (ha:bP (J4 σ (isT g L) ρ) args c) (I:((run P K n (.call f args)<|Xx L E Z).any fun r=>(unB b r.1.v).any fun m=>aJ0 L.length m A v (aMg m) r.2)=true):
  Calls P f ⟨c⟩ w fun e w'=>∃ρ2 j,e= .returned j/\bB ρ2 (mkB b<|A.map<|nw (h.next+·)) j/\pT P B ρ h w ρ2 (sE h v) w':=by
 rw[EF] at I
 obtain⟨⟨o,h1⟩,S,D⟩:=I
 rw[EF] at D
 obtain⟨m,e2,F⟩:=D
 refine(U1 C U (R6 T W q V) ha (Q:=fun R z=>R=o/\z=h1) ⟨n,_,S,rfl,rfl⟩).mono fun e w' ⟨ρ',R,z,j,J,s,⟨X,Y⟩,N,O⟩=>?_
 subst X Y
 rw[aSp e2] at s
 cases b with
 |false=>
  obtain⟨i,t,u⟩:=s
  have⟨ρ2,q1,q2⟩:=zd q O N F t
  exact⟨ρ2,j,J,⟨i,q1,u⟩,q2⟩
 |true=>
  obtain⟨i,t,u⟩:=s
  have⟨ρ2,q1,q2⟩:=zd q O N F t
  exact⟨ρ2,j,J,⟨i,q1,u⟩,q2⟩
end
noncomputable section
open Go.RowKit
variable {K:FuncId->FJ->IX}
def orK (F K:FuncId->FJ->IX):FuncId->FJ->IX:=fun f c=>match F f c with
 |some a=>some a
 |none=>K f c
def Pj.or (C:Pj P B K) (F:FuncId->FJ->IX) (u:∀f c v w,F f c=some (.val v)->C.G w->tB c=true/\Calls P f ⟨c⟩ w fun e w'=>(∃m,e= .returned m/\∀ρ,bB ρ v m)/\Below w.heap.size w w')
  (s:∀f c g o,F f c≠some (.yn g o)) (t:∀f c H,F f c=some (.K7 H)->∀(h:AH) (v:Value) (q:AH),H h=some (v,q)->∀(ρ:kX) (w:World) (j:FJ),fT P B ρ h w->C.G w->bP ρ c j->
   Calls P f ⟨j⟩ w fun e w'=>∃ρ' m,e= .returned m/\bB ρ' v m/\pT P B ρ h w ρ' q w'):Pj P B (orK F K) where
 G:=C.G
 Sv:=C.Sv
 call:=fun f c v w i r=>by
  unfold orK at i;split at i;rename_i hF;rw[i] at hF;exact u f c v w hF r;exact C.call f c v w i r
 yn:=fun f c g o i=>by
  unfold orK at i;split at i;rename_i hF;rw[i] at hF;exact absurd hF<|s f c g o;exact C.yn f c g o i
 K7:=fun f c H i=>by
  unfold orK at i;split at i;rename_i hF;rw[i] at hF;exact t f c H hF;exact C.K7 f c H i
end
end Go.Ab
