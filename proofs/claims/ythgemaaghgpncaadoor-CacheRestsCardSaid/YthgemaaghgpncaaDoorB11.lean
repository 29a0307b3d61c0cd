/- A part of the proof. -/
import Derived.Test.YthgemaaghgpncaaDoorB10
import Derived.Test.YthgemaaghgpncaaDoorB7
import Derived.Test.YthgemaaghgpncaaDoorB9
import Derived.Lib.ItoaNum
import Derived.Lib.Bytes
section
open Go Go.Ab
attribute [local irreducible] aN Br wO yS Jx F5 qD Hu rP Ua qH sH tP Aa Ax vU Hh xJ Wu Y3 Ta X6 Xa S7 S8 Wa Wo vA sI C4 jK copyV mJ uA Yn Xd He oB P6 Yr Ys sU Ai I5 H3 Cl Dm V2 Ak vZ nL mE bP bQ
section
namespace Go.Proofs.YthgemaaghgpncaaDoor
open Go Go.Ab Go.Hm
set_option maxRecDepth 100000
variable {G:Bg} {h:AH} {L L':List HP}
theorem Kg {C:bJ} {p:Nat} {Q:Value→AH→Prop} (hs:Hs G h (aO p 0 C.enc::L)):∀(f i:Nat),i+f=7→Q (I (C.S9 f i)) h→Dd 33 1 [] Q [(pt p 0 0),(I 0),(.agg ⟨eJ⟩),(I i)] h:=by
 intro f
 induction f with
 |zero=>
  intro i hi hq
  exact bW (bC (aY (by omega) hq))
 |succ f ih=>
  intro i hi hq
  have h7:i<7:=by omega
  refine bW (bC (cM (by omega) (bW ?_)))
  have hc:C.enc[0+i*1]?=some (I (C.list.getD i 0)):=by
   have:i=0∨i=1∨i=2∨i=3∨i=4∨i=5∨i=6:=by omega
   rcases this with rfl|rfl|rfl|rfl|rfl|rfl|rfl<;>rfl
  have hl:eJ[i]?=some (I (Wv.getD i 0)):=by
   have:i=0∨i=1∨i=2∨i=3∨i=4∨i=5∨i=6:=by omega
   rcases this with rfl|rfl|rfl|rfl|rfl|rfl|rfl<;>rfl
  rw[bJ.S9] at hq
  refine cf h7 hl (nB h7 (aE hs hc (bC (bE (fun h1=>?_) (fun h1=>nB h7 (aE hs hc (qE (bE (fun h2=>bW ?_) (fun h2=>bW (cL (by omega) (ih (i+1) (by omega) ?_)))))))))))
  ·rw[if_pos (.inl h1)] at hq;exact hq
  ·rw[if_pos (.inr h2)] at hq;exact hq
  ·rw[if_neg (by omega)] at hq;exact hq
theorem rO {C:bJ} {Q:Value→AH→Prop} (hl:Ob G 0 eJ) (hs:Hs G h L) (hk:∀h',Hs G h' L→Q (I (if C.Ok then 0 else 10)) h'):Cl Pr K 33 [.agg ⟨C.enc⟩] h Q:=by
 refine cW ?_
 refine iA hs ?_
 intro p h hs
 iterate 7 refine aA (aE hs rfl ?_)
 refine aR (c:=C.enc) rfl (gP hs ?_)
 intro p h hs
 refine dR hs rfl rfl rfl rfl ?_
 intro h hs
 refine X9 hs hl rfl ?_
 refine Kg (C:=C) hs 7 0 rfl ?_
 show Q _ _
 rw[bJ.c8]
 exact hk _ hs.tail.tail
theorem uQ {C:bJ} (hC:C.Ok) {Q:Value→AH→Prop} (hl:Ob G 0 eJ) (hs:Hs G h L) (hk:∀h',Hs G h' L→Q (I C.lines) h'):Cl Pr K 45 [.agg ⟨C.enc⟩] h Q:=by
 refine cW ?_
 refine iA hs ?_
 intro p h hs
 refine aP hs (by decide) (l:=C.enc) rfl rfl (rO hl hs fun h hs=>?_)
 rw[if_pos hC]
 have hb:=bJ.qU hC
 refine bL (aY (by omega) ?_)
 refine aA (aE hs rfl (Ry (by unfold bJ.Ok at hC;omega) ?_))
 show Q _ _
 rw[show C.eN*2=(C.lines:Int) from hb.1.symm]
 exact hk _ hs.tail
theorem Om {C:bJ} (hC:C.Ok) {l:Int} {Q:Value→AH→Prop} (hl:Ob G 0 eJ) (hs:Hs G h L) (hk:∀h',Hs G h' L→Q (if 0≤l∧l<C.lines then .tuple ⟨[I (l % C.aK),I 0]⟩ else .tuple ⟨[I 0,I 10]⟩) h'):Cl Pr K 61 [.agg ⟨C.enc⟩,I l] h Q:=by
 refine cW ?_
 refine iA hs ?_
 intro p h hs
 refine bC (bE (fun h1=>?_) (fun h1=>?_))
 ·have:=hk _ hs.tail
  rw[if_neg (by omega)] at this;exact this
 ·refine aP hs (by decide) (l:=C.enc) rfl rfl (uQ hC hl hs fun h hs=>?_)
  refine lI (bE (fun h2=>?_) (fun h2=>?_))
  ·have:=hk _ hs.tail
   rw[if_neg (by omega)] at this;exact this
  ·have:=hk _ hs.tail
   rw[if_pos (by omega)] at this
   refine aA (aE hs rfl (Pj (by omega) (by unfold bJ.Ok at hC;omega) ?_))
   exact this
end Go.Proofs.YthgemaaghgpncaaDoor
end
section
namespace Go.Proofs.YthgemaaghgpncaaDoor.H
open Go Go.Ab Go.Hm
set_option maxRecDepth 100000
variable {G:Bg} {h:AH} {L L':List HP}
def dU (b o:Nat) (r:Row):HP:=fun q=>∃a c,star [aO b o (r.enc a c),dP 9 77 a c (r.waits.length,cT r.waits)] q
theorem bU {b o:Nat} {r:Row} (hs:Hs G h (dU b o r::L)):∃a c,Hs G h (aO b o (r.enc a c)::dP 9 77 a c (r.waits.length,cT r.waits)::L):=by
 obtain⟨q,q2,⟨a,c,hq⟩,h2,h3,h4,h5⟩:=hs.fst
 exact⟨a,c,hs.base,hs.old,hs.wf,hs.fr,_,(fG (L:=[_,_])).2 ⟨q,q2,hq,h2,h3,rfl⟩,(bA.eG h3).2 ⟨h4,h5⟩⟩
theorem iV {b o:Nat} (r:Row) {a:Option Addr} {c:Nat} (hs:Hs G h (aO b o (r.enc a c)::dP 9 77 a c (r.waits.length,cT r.waits)::L)):Hs G h (dU b o r::L):=
 Hs.join (A:=[_,_]) hs fun _ hq=>⟨a,c,hq⟩
theorem qV {x:Int} {Q:Value→AH→Prop} (hk:Q (.bool (decide (0≤x∧x<5))) h):Cl Pr K 54 [I x] h Q:=by
 refine cW ?_
 refine lI (bE (fun h1=>bC ?_) (fun h1=>?_))
 ·show Q _ _;rw[show decide (x<5)=decide (0≤x∧x<5) from decide_eq_decide.2 (by omega)];exact hk
 ·show Q _ _;rw[show false=decide (0≤x∧x<5) from(decide_eq_false (by omega)).symm];exact hk
theorem Rg {x:Int} {Q:Value→AH→Prop} (hk:Q (.bool (valid x)) h):Cl Pr K 55 [I x] h Q:=by
 refine cW (qV (bE (fun h1=>bL ?_) (fun h1=>?_)))
 ·show Q _ _;rw[show decide (x≠0)=valid x from by simp only[valid,decide_eq_true h1,Bool.true_and]];exact hk
 ·show Q _ _;rw[show false=valid x from by simp only[valid,decide_eq_false h1,Bool.false_and]];exact hk
theorem Nb {b o:Nat} {r:Row} {Q:Value→AH→Prop} (hs:Hs G h L) [m:Has (dU b o) L r L'] (hk:∀h',Hs G h' (dU b o r.free::L')→Q (.tuple ⟨[]⟩) h'):Cl Pr K 58 [pt b o 0] h Q:=by
 obtain⟨a,c,hs⟩:=bU (m.of hs)
 refine cW ?_
 repeat' first
  |refine aA ?_
  |refine aC ?_
  |(refine bM hs rfl rfl rfl rfl ?_;intro h hs)
  |refine aR rfl ?_
 exact hk _ (iV r.free (a:=a) (c:=c) hs)
theorem Qm {r:Row} {x:Int} (h:r.owner=x):r.leave x={r with sh:=eP r.sh x false,owner:= -1}:=by simp only[Row.leave,if_pos h]
theorem Sa {r:Row} {x:Int} (h:¬r.owner=x):r.leave x={r with sh:=eP r.sh x false}:=by simp only[Row.leave,if_neg h]
theorem vS {b o:Nat} {r:Row} {x:Int} {Q:Value→AH→Prop} (hs:Hs G h L) [m:Has (dU b o) L r L'] (hx:0≤x∧x<4) (hk:∀h',Hs G h' (dU b o (r.leave x)::L')→Q (.tuple ⟨[]⟩) h'):Cl Pr K 47 [pt b o 0,I x] h Q:=by
 obtain⟨a,c,hs⟩:=bU (m.of hs)
 refine cW ?_
 have hx4:x=0∨x=1∨x=2∨x=3:=by omega
 rcases hx4 with rfl|rfl|rfl|rfl
 all_goals
  refine aC (aA (fT (by decide) (by decide) ?_))
  repeat' first
   |refine aA ?_
   |refine aC ?_
   |refine bH ?_
   |refine aE hs rfl ?_
   |(refine bM hs rfl rfl rfl rfl ?_;intro h hs)
   |(refine bE (fun hc=>?_) (fun hc=>?_))
  ·rw[Qm hc] at hk
   exact hk _ (iV _ (a:=a) (c:=c) hs)
  ·rw[Sa hc] at hk
   exact hk _ (iV _ (a:=a) (c:=c) hs)
theorem ig {f:Nat→Bool} {i:Nat} (hi:i<4) {k:Value→Prop} (hk:k (.bool (f i))):aN (P6 4 1 (.agg ⟨[.bool (f 0),.bool (f 1),.bool (f 2),.bool (f 3)]⟩) (I i)) k:=by
 refine J5 ?_ hk
 have:i=0∨i=1∨i=2∨i=3:=by omega
 rcases this with rfl|rfl|rfl|rfl<;>simp[P6]
theorem Lf {b o:Nat} {r:Row} {x:Int} {a:Option Addr} {c:Nat} {Q:Value→AH→Prop} (hs:Hs G h (aO b o (r.enc a c)::L)):∀(f i:Nat) (t:Value),i+f=4→Q (I (r.pK x f i)) h→
  Dd 50 1 [] Q [(pt b o 0),(I x),(I (-1)),(.agg ⟨[.bool (r.sh 0),.bool (r.sh 1),.bool (r.sh 2),.bool (r.sh 3)]⟩),(I i),t] h:=by
 intro f
 induction f with
 |zero=>
  intro i t hi hq
  refine bW (bC (aY (by omega) ?_))
  exact hq
 |succ f ih=>
  intro i t hi hq
  refine bW (bC (cM (by omega) (bW (ig (by omega) ?_))))
  have next:∀t,r.holds x i=false→Dd 50 3 [] Q [(pt b o 0),(I x),(I (-1)),(I i),(.agg ⟨[.bool (r.sh 0),.bool (r.sh 1),.bool (r.sh 2),.bool (r.sh 3)]⟩),(I i),t] h:=fun t hh=>by
   refine bW (cL (by omega) (ih (i+1) _ (by omega) ?_))
   simpa [Row.pK,hh] using hq
  refine bH (bE (fun hc=>next _ ?_) (fun hc=>bW (cS (fun h1=>bW ?_) (fun h1=>bW ?_))))
  ·exact Mt hc
  ·rw[h1]
   refine mV (bW ?_)
   have:r.holds x i=true:=J1 hc h1
   rw[Row.pK,if_pos this] at hq;exact hq
  ·repeat' first
    |refine aA ?_
    |refine aC ?_
    |refine bH ?_
    |refine aE hs rfl ?_
   refine bE (fun h2=>bW ?_) (fun h2=>next _ ?_)
   ·have:r.holds x i=true:=J9 hc h2
    rw[Row.pK,if_pos this] at hq;exact hq
   ·exact Lu h1 h2
theorem Az {b o:Nat} {r:Row} {x:Int} {Q:Value→AH→Prop} (hs:Hs G h L) [m:Has (dU b o) L r L'] (hk:Hs G h (dU b o r::L')→Q (I (r.first x)) h):Cl Pr K 50 [pt b o 0,I x] h Q:=by
 have hk:=hk (m.of hs)
 obtain⟨a,c,hs⟩:=bU (m.of hs)
 refine cW ?_
 repeat' first
  |refine aA ?_
  |refine aC ?_
  |refine aP hs (by decide) rfl rfl ?_
 exact Lf hs 4 0 _ rfl hk
def Nl (b o:Nat) (r:Row):HP:=aO b o r.K8
def zI (b o:Nat) (r:Row):HP:=Nm fun x:Option Addr×Nat=>sp [aO b (o+5) (r.Ay x.1 x.2),dP 9 77 x.1 x.2 (r.waits.length,cT r.waits)]
theorem Bz {b o:Nat} {r:Row} (hs:Hs G h (dU b o r::L)):Hs G h (Nl b o r::zI b o r::L):=by
 obtain⟨a,c,hs⟩:=bU hs
 have hs1:Hs G h (aO b (o+5) (r.Ay a c)::dP 9 77 a c (r.waits.length,cT r.waits)::aO b o r.K8::L):=(hs.split (c:=r.K8) (d:=r.Ay a c)).perm (by
  exact(List.Perm.swap _ _ _).trans ((List.Perm.swap _ _ _).cons _))
 exact(Hs.Pb (A:=fun x:Option Addr×Nat=>sp [aO b (o+5) (r.Ay x.1 x.2),dP 9 77 x.1 x.2 (r.waits.length,cT r.waits)]) (a,c) (Hs.pack (A:=[_,_]) hs1)).perm (List.Perm.swap _ _ _)
theorem Dl {b o:Nat} {r:Row} (hs:Hs G h (zI b o r::L)):∃a c,Hs G h (aO b (o+5) (r.Ay a c)::dP 9 77 a c (r.waits.length,cT r.waits)::L):=by
 obtain⟨⟨a,c⟩,hs⟩:=hs.Pm
 exact⟨a,c,hs.unpack⟩
theorem Kk {b o:Nat} (r:Row) {a:Option Addr} {c:Nat} (hs:Hs G h (aO b (o+5) (r.Ay a c)::dP 9 77 a c (r.waits.length,cT r.waits)::L)):Hs G h (zI b o r::L):=
 Hs.Pb (A:=fun x:Option Addr×Nat=>sp [aO b (o+5) (r.Ay x.1 x.2),dP 9 77 x.1 x.2 (r.waits.length,cT r.waits)]) (a,c) (Hs.pack (A:=[_,_]) hs)
theorem D4 {b o:Nat} {r:Row} (hs:Hs G h (Nl b o r::zI b o r::L)):Hs G h (dU b o r::L):=by
 obtain⟨a,c,hs⟩:=Dl (hs.perm (List.Perm.swap _ _ _))
 refine iV r (a:=a) (c:=c) ?_
 rw[Row.Oi]
 exact Hs.Fu (c:=r.K8) (hs.perm ((List.Perm.swap _ _ _).cons _|>.trans (List.Perm.swap _ _ _))) rfl
def vB (b o p q:Nat) (x:Int) (r:Row):HP:=sp [Nl b o r,aO p 0 [pt b o 0],aO q 0 [I x]]
theorem K2 {b o:Nat} {x:Int} {Q:Value→AH→Prop} (hs:Hs G h L) (hk:∀p q h',Hs G h' (aO p 0 [pt b o 0]::aO q 0 [I x]::L)→Q (.func (.func 72) #[] #[pt p 0 0,pt q 0 0]) h'):Cl Pr K 52 [pt b o 0,I x] h Q:=by
 refine cW ?_
 repeat' first
  |(refine iA hs ?_;intro p h hs)
 exact hk _ _ _ (hs.perm (List.Perm.swap _ _ _))
theorem F4 {b o p q:Nat} {r:Row} {x:Int} {I':List (List Value)→HP} {J:HP} {y:Value} {Q:Value→AH→Prop}
  (hy:∀z rest h M,Hs G h (I' (z::rest)::M)→Dm Pr K y z h fun v h'=>(v= .bool true∧Hs G h' (I' rest::M))∨(v= .bool false∧Hs G h' (J::M)))
  (h1:∀v h',Hs G h' (vB b o p q x r::I' []::L)→Q v h') (h2:∀v h',Hs G h' (vB b o p q x r::J::L)→Q v h'):
  ∀(f i:Nat) (h:AH),i+f=4→Hs G h (vB b o p q x r::I' ((r.eF x f i).map fun(c:Nat)=>[I c])::L)→
   Dd 72 1 [] Q [y,(pt p 0 0),(pt q 0 0),(.agg ⟨[.bool (r.sh 0),.bool (r.sh 1),.bool (r.sh 2),.bool (r.sh 3)]⟩),(I i)] h:=by
 intro f
 induction f with
 |zero=>
  intro i h hi hs
  refine bW (bC (aY (by omega) ?_))
  exact h1 _ _ hs
 |succ f ih=>
  intro i h hi hs
  refine bW (bC (cM (by omega) (bW (ig (by omega) ?_))))
  have hs0:=hs
  have hs:=hs.unpack
  have yes:r.holds x i=true→Dm Pr K y [I i] h fun v h'=>(v= .bool true∧Hs G h' (vB b o p q x r::I' ((r.eF x f (i+1)).map fun(c:Nat)=>[I c])::L))∨(v= .bool false∧Hs G h' (vB b o p q x r::J::L)):=fun hh=>by
   rw[Row.eF,if_pos hh] at hs0
   refine(hy _ _ h _ (hs0.perm (List.Perm.swap _ _ _))).mono fun v h' hv=>?_
   exact hv.imp (fun e=>⟨e.1,e.2.perm (List.Perm.swap _ _ _)⟩) (fun e=>⟨e.1,e.2.perm (List.Perm.swap _ _ _)⟩)
  have no:r.holds x i=false→Hs G h (vB b o p q x r::I' ((r.eF x f (i+1)).map fun(c:Nat)=>[I c])::L):=fun hh=>by
   simpa only[Row.eF,hh,Bool.false_eq_true,if_false] using hs0
  refine aE hs rfl (bH (bE (fun hc=>cL (by omega) (ih (i+1) h (by omega) (no (Mt hc)))) (fun hc=>dY (gU (cS (fun h3=>?_) (fun h3=>?_))))))
  ·refine(yes (J1 hc h3)).mono fun v h' hv=>?_
   rcases hv with⟨rfl,hs'⟩|⟨rfl,hs'⟩
   ·exact dY (eS (bW (cL (by omega) (ih (i+1) h' (by omega) hs'))))
   ·exact dY (mV (h2 _ _ hs'))
  ·have hsr:Hs G h (aO b o r.K8::_):=hs
   refine aE hs rfl (aC (aA (aE hsr rfl (bL (bE (fun h4=>?_) (fun h4=>?_))))))
   ·exact bW (cL (by omega) (ih (i+1) h (by omega) (no (Lu h3 h4))))
   ·refine bW ((yes (J9 hc (by simpa using h4))).mono fun v h' hv=>?_)
    rcases hv with⟨rfl,hs'⟩|⟨rfl,hs'⟩
    ·exact dY (eS (bW (cL (by omega) (ih (i+1) h' (by omega) hs'))))
    ·exact dY (mV (h2 _ _ hs'))
theorem N2 {b o p q:Nat} {r:Row} {x:Int}:en Pr K G 72 [] [pt p 0 0,pt q 0 0] (vB b o p q x r) ((r.dB x).map fun(c:Nat)=>[I c]):=by
 intro I' J y L h Q hs hy h1 h2
 refine cW ?_
 have hs2:=hs.unpack
 have hsr:Hs G h (aO b o r.K8::_):=hs2
 refine aE hs2 rfl (aC (aA (aP hsr (by decide) rfl rfl ?_)))
 exact F4 hy h1 h2 4 0 h rfl hs
end Go.Proofs.YthgemaaghgpncaaDoor.H
end
section
namespace Go.Proofs.YthgemaaghgpncaaDoor.H
open Go Go.Ab Go.Hm
set_option maxRecDepth 100000
variable {G:Bg} {h:AH} {L L':List HP}
def dH (v:Value) (l:List aF):HP:=Nm fun x:Option Addr×Nat=>sp [Pd (v= .slice x.1 l.length x.2),dP 9 77 x.1 x.2 (l.length,cT l)]
theorem Lj {a:Option Addr} {c n:Nat} {l:List aF} {cs:List Value} (hn:n=l.length) (hc:cs=cT l) (hs:Hs G h (dP 9 77 a c (n,cs)::L)):Hs G h (dH (.slice a n c) l::L):=by
 subst hn;subst hc
 exact Hs.Pb (A:=fun x:Option Addr×Nat=>sp [Pd (Value.slice a l.length c=Value.slice x.1 l.length x.2),dP 9 77 x.1 x.2 (l.length,cT l)]) (a,c) (Hs.pack (A:=[_,_]) (Hs.eg rfl hs))
theorem Qk {v:Value} {l:List aF} (hs:Hs G h (dH v l::L)):∃a c,v= .slice a l.length c∧Hs G h (dP 9 77 a c (l.length,cT l)::L):=by
 obtain⟨⟨a,c⟩,hs⟩:=hs.Pm
 obtain⟨hv,hs⟩:=Hs.ei hs.unpack
 exact⟨a,c,hv,hs⟩
theorem Ik {line state:Int} {l:List Nat} {i:Nat}:cQ line state (l++[i])=cQ line state l++[⟨11,i,line,0,state,0,0,false,0⟩]:=by simp[cQ,aF.zero]
theorem Xh {f:Nat→Bool} {i j:Nat} {v:Bool}:eP f i v j=if j=i then v else f j:=by
 simp only[eP,Int.ofNat_inj]
theorem Gm {r:Row} {l:List Nat} {i:Nat}:r.dT (l++[i])={r.dT l with asked:=eP (r.dT l).asked i true}:=by
 simp only[Row.dT,Row.mk.injEq,true_and,and_true]
 funext j
 simp only[Xh,List.contains_append]
 by_cases h:j=i
 ·subst h;simp
 ·simp[h]
theorem Vb {b o i:Nat} {r:Row} {a:Option Addr} {c:Nat} {v:Bool} {k:AH→Prop} (hs:Hs G h L) [m:Has (aO b (o+5)) L (r.Ay a c) L'] (hi:i<4) (hk:∀h',Hs G h' (aO b (o+5) (({r with asked:=eP r.asked i v}:Row).Ay a c)::L')→k h'):aN (Jx h 1 (pt b o (17+(i:Int).toNat*1)) (.bool v)) k:=by
 have hs:=m.of hs
 rw[bx (m:=5) (by omega)]
 have:i=0∨i=1∨i=2∨i=3:=by omega
 rcases this with rfl|rfl|rfl|rfl
 all_goals
  refine bM hs rfl rfl rfl rfl ?_
  exact hk
def dr (b o p2 p5 p8 p10:Nat) (line state:Int) (r:Row) (xs:List Nat) (e:Nat→Value) (d l:Nat) (rest:List (List Value)) (done:List Nat) (a:Option Addr) (c:Nat):List HP:=
 [Pd (rest=(xs.drop done.length).map fun(c:Nat)=>[I c]),Pd (xs.take done.length=done),
    Gg Pr 51 (Cp 58) 26 e d l (.ready,none),aO p2 0 [pt b o 0],aO p5 0 [I line],aO p8 0 [I state],zI b o (r.dT done),
    aO p10 0 [.slice a done.length c],dP 9 77 a c (done.length,cT (cQ line state done))]
def gv (b o p2 p5 p8 p10:Nat) (line state:Int) (r:Row) (xs:List Nat) (e:Nat→Value) (d l:Nat) (rest:List (List Value)):HP:=
 Nm fun x:List Nat×Option Addr×Nat=>sp (dr b o p2 p5 p8 p10 line state r xs e d l rest x.1 x.2.1 x.2.2)
theorem Zp {b o p2 p5 p8 p10:Nat} {line state:Int} {r:Row} {xs:List Nat} {e:Nat→Value} {d l:Nat} {rest:List (List Value)} (done:List Nat) (a:Option Addr) (c:Nat) (h1:rest=(xs.drop done.length).map fun(c:Nat)=>[I c]) (h2:xs.take done.length=done)
  (hs:Hs G h (sp ((dr b o p2 p5 p8 p10 line state r xs e d l rest done a c).drop 2)::L)):Hs G h (gv b o p2 p5 p8 p10 line state r xs e d l rest::L):=
 Hs.Pb (done,a,c) (Vu h1 (Vu h2 hs))
theorem Wg {b o p2 p5 p8 p10:Nat} {line state:Int} {r:Row} {xs:List Nat} {e:Nat→Value} {d l:Nat} {rest:List (List Value)} (hs:Hs G h (gv b o p2 p5 p8 p10 line state r xs e d l rest::L)):∃done a c,(rest=(xs.drop done.length).map fun(c:Nat)=>[I c])∧xs.take done.length=done∧
  Hs G h (Gg Pr 51 (Cp 58) 26 e d l (.ready,none)::aO p2 0 [pt b o 0]::aO p5 0 [I line]::aO p8 0 [I state]::zI b o (r.dT done)::aO p10 0 [.slice a done.length c]::dP 9 77 a c (done.length,cT (cQ line state done))::L):=by
 obtain⟨⟨done,a,c⟩,hs⟩:=Hs.Pm hs
 obtain⟨h1,hs⟩:=Q7 hs
 obtain⟨h2,hs⟩:=Q7 hs
 exact⟨done,a,c,h1,h2,hs.unpack⟩
theorem vO {b o:Nat} {line state:Int} {r:Row} {g:FuncId} {caps:List Value} {A:HP} {xs:List Nat} {Q:Value→AH→Prop} (hy:en Pr K G g [] caps A (xs.map fun(c:Nat)=>[I c])) (hx:∀c∈xs,c<4) (hxl:xs.length≤4) (hg:dS Pr g=true)
  (hs:Hs G h (A::zI b o r::L)) (hk:∀v h',Hs G h' (dH v (cQ line state xs)::A::zI b o (r.dT xs)::L)→Q v h'):
  Cl Pr K 51 [pt b o 0,I line,I state,.func (.func g) #[] ⟨caps⟩] h Q:=by
 refine cW ?_
 refine iA hs fun p2 h hs=>iA hs fun p5 h hs=>iA hs fun p8 h hs=>gP hs fun p10 h hs=>Um hs fun d h hs=>?_
 intro e he
 refine Xc hs fun l h hs=>?_
 refine br hg ?_
 have hs:=gH (W:=9) (e:=77) hs
 have e0:r.dT []=r:=by simp[Row.dT]
 have hst:Hs G h (A::gv b o p2 p5 p8 p10 line state r xs e d l (xs.map fun(c:Nat)=>[I c])::mk d ()::L):=by
  refine Hs.tE (Zp [] none 0 rfl rfl ?_)
  rw[←e0] at hs
  simp only[dr,List.drop_succ_cons,List.drop_zero,List.length_nil,cQ,List.map_nil,D0]
  exact hs.to
 refine hy _ (Pd False) _ _ h _ hst ?_ ?_ ?_
 ·intro x rest h M hs
  obtain⟨done,a,c,h1,h2,hq⟩:=Wg hs
  clear hs
  cases hx2:xs.drop done.length with
  |nil=>rw[hx2] at h1;cases h1
  |cons i xs'=>
   rw[hx2] at h1
   simp only[List.map_cons,List.cons.injEq] at h1
   obtain⟨rfl,rfl⟩:=h1
   have hi4:i<4:=hx i (List.mem_of_mem_drop (by rw[hx2];exact List.mem_cons_self))
   have hdl:done.length<xs.length:=by
    rcases Nat.lt_or_ge done.length xs.length with h|h
    ·exact h
    ·rw[List.drop_eq_nil_of_le h] at hx2;cases hx2
   obtain⟨a2,c2,hs⟩:=Dl (hq.perm (fO.perm (A:=zI b o (r.dT done))))
   refine rW (ck hs) he ?_
   refine Sb hs fun h hs=>aE hs rfl (aC (aA (fT (by omega) (by omega) ?_)))
   rw[Nat.zero_add]
   refine Vb hs hi4 fun h hs=>aE hs rfl (aE hs rfl (aE hs rfl (aR (c:=aF.enc ⟨11,i,line,0,state,0,0,false,0⟩) rfl (aR (c:=aF.enc ⟨11,i,line,0,state,0,0,false,0⟩) rfl ?_))))
   refine fB hs rfl rfl rfl ?_
   intro a3 h hs
   refine oW hs (by omega) ?_
   intro a4 c4 h hs
   dsimp only
   refine dR hs rfl rfl rfl rfl ?_
   intro h hs
   refine Xe hs ?_
   intro h hs
   refine .inl ⟨rfl,?_⟩
   rw[←Gm] at hs
   have hs:=Kk (r.dT (done++[i])) (hs.wU (aO b (o+5) ((r.dT (done++[i])).Ay a2 c2)) (dP 9 77 a2 c2 ((r.dT done).waits.length,cT (r.dT done).waits)))
   have hl:(done++[i]).length=done.length+1:=by simp
   have hxs:xs=done++i::xs':=by have:=List.take_append_drop done.length xs;rw[h2,hx2] at this;exact this.symm
   refine Zp (done++[i]) a4 c4 ?_ ?_ ?_
   ·have:xs=(done++[i])++xs':=by simp[hxs]
    rw[this,List.drop_left]
   ·have:xs=(done++[i])++xs':=by simp[hxs]
    rw[this,List.take_left]
   ·simp only[dr,List.drop_succ_cons,List.drop_zero,hl,Ik,pW,zO,D0,List.append_nil]
    exact hs.to
 ·intro v h' hs
  obtain⟨done,a,c,h1,h2,hs⟩:=Wg hs.tE
  have hd:xs=done:=by
   have:xs.drop done.length=[]:=by simpa using h1.symm
   rw[←h2,List.take_of_length_le (by simpa using this)]
  subst hd
  refine W6 hs fun h' hs=>X7 ?_
  refine aE hs rfl (Zx hs fun h' hs=>df ?_)
  refine hk _ _ ?_
  have e1:(cQ line state xs).length=xs.length:=by simp[cQ]
  have hs:=Lj (l:=cQ line state xs) e1.symm rfl (hs.perm (fO.perm (A:=dP 9 77 a c (xs.length,cT (cQ line state xs)))))
  exact hs.to
 ·intro v h' hs
  exact(Hs.ei (hs.tE)).1.elim
end Go.Proofs.YthgemaaghgpncaaDoor.H
end
section
namespace Go.Proofs.YthgemaaghgpncaaDoor
open Go Go.Ab Go.Hm
set_option maxRecDepth 100000
variable {G:Bg} {h:AH} {L L':List HP}
structure ic where
 r:Int
 w:Int
 a:Option Addr
 cap:Nat
def jH (n B b o i:Nat) (mem:Nat→Ln):HP:=Nm fun x:ic=>
 sp [aO b o [I x.r,I x.w,.slice x.a (iT n B i) x.cap],dP 2 35 x.a x.cap (iT n B i,(List.range (iT n B i)).flatMap (H7 B i mem))]
theorem wS {n B b o i:Nat} {mem:Nat→Ln} (hs:Hs G h (jH n B b o i mem::L)):∃r w a cap,Hs G h (aO b o [I r,I w,.slice a (iT n B i) cap]::dP 2 35 a cap (iT n B i,(List.range (iT n B i)).flatMap (H7 B i mem))::L):=by
 obtain⟨⟨r,w,a,cap⟩,hs⟩:=hs.Pm
 exact⟨r,w,a,cap,hs.unpack⟩
theorem pT {n B b o i:Nat} {mem:Nat→Ln} {r w:Int} {a:Option Addr} {cap:Nat} (hs:Hs G h (aO b o [I r,I w,.slice a (iT n B i) cap]::dP 2 35 a cap (iT n B i,(List.range (iT n B i)).flatMap (H7 B i mem))::L)):Hs G h (jH n B b o i mem::L):=
 Hs.Pb (A:=fun x:ic=>sp [aO b o [I x.r,I x.w,.slice x.a (iT n B i) x.cap],dP 2 35 x.a x.cap (iT n B i,(List.range (iT n B i)).flatMap (H7 B i mem))]) ⟨r,w,a,cap⟩ (Hs.pack (A:=[_,_]) hs)
structure ib where
 b:Nat
 o:Nat
 cap:Nat
def iI (G:Bg) (n mb:Nat) (C:bJ) (mem:Nat→Ln):HP:=Nm fun x:ib=>
 sp [aO mb 0 (C.enc++[.slice (some ⟨x.b,x.o,none⟩) C.aK.toNat x.cap]),hole G 3 105 (some ⟨x.b,x.o,none⟩) x.cap C.aK.toNat x.b x.o,mU C.aK.toNat fun i=>jH n C.aK.toNat x.b (x.o+i*3) i mem]
theorem zL {n mb:Nat} {C:bJ} {mem:Nat→Ln} (hs:Hs G h (iI G n mb C mem::L)):∃b o cap,Hs G h (aO mb 0 (C.enc++[.slice (some ⟨b,o,none⟩) C.aK.toNat cap])::hole G 3 105 (some ⟨b,o,none⟩) cap C.aK.toNat b o::mU C.aK.toNat (fun i=>jH n C.aK.toNat b (o+i*3) i mem)::L):=by
 obtain⟨⟨b,o,cap⟩,hs⟩:=hs.Pm
 exact⟨b,o,cap,hs.unpack⟩
theorem wM {n mb:Nat} {C:bJ} {mem:Nat→Ln} {b o cap:Nat} (hs:Hs G h (aO mb 0 (C.enc++[.slice (some ⟨b,o,none⟩) C.aK.toNat cap])::hole G 3 105 (some ⟨b,o,none⟩) cap C.aK.toNat b o::mU C.aK.toNat (fun i=>jH n C.aK.toNat b (o+i*3) i mem)::L)):Hs G h (iI G n mb C mem::L):=
 Hs.Pb (A:=fun x:ib=>sp [aO mb 0 (C.enc++[.slice (some ⟨x.b,x.o,none⟩) C.aK.toNat x.cap]),hole G 3 105 (some ⟨x.b,x.o,none⟩) x.cap C.aK.toNat x.b x.o,mU C.aK.toNat fun i=>jH n C.aK.toNat x.b (x.o+i*3) i mem]) ⟨b,o,cap⟩ (Hs.pack (A:=[_,_,_]) hs)
theorem Jh {L1 L2 L3:List HP} (n mb:Nat) (C:bJ) (mem:Nat→Ln) (b o cap:Nat) (hs:Hs G h L) [k:fO (aO mb 0 (C.enc++[.slice (some ⟨b,o,none⟩) C.aK.toNat cap])) L L1] [k2:fO (hole G 3 105 (some ⟨b,o,none⟩) cap C.aK.toNat b o) L1 L2] [k3:fO (mU C.aK.toNat (fun i=>jH n C.aK.toNat b (o+i*3) i mem)) L2 L3]:Hs G h (iI G n mb C mem::L3):=
 wM (b:=b) (o:=o) (cap:=cap) (hs.perm (k.perm.trans ((k2.perm.trans (k3.perm.cons _)).cons _)))
theorem pO {C:bJ} (hC:C.Ok) {mb b o cap l:Nat} {Q:Value→AH→Prop} (hl:Ob G 0 eJ) (hs:Hs G h L) [m:Has (aO mb 0) L (C.enc++[.slice (some ⟨b,o,none⟩) C.aK.toNat cap]) L'] (h0:l<C.lines)
  (hk:∀h',Hs G h' L→Q (.tuple ⟨[pt b (o+(l % C.aK.toNat)*3) 0,I (l/C.aK.toNat:Nat),I 0]⟩) h'):Cl Pr K 32 [pt mb 0 0,I l] h Q:=by
 have hb:=bJ.bk hC
 refine cW (iJ (eS (bW ?_)))
 refine aC (aA (aP hs (by decide) (l:=C.enc) rfl rfl (Om hC hl hs fun h hs=>?_)))
 rw[if_pos (by omega)]
 refine aL rfl (aL rfl (bL (aY (by omega) ?_)))
 refine aZ hs ?_
 intro r h hs
 refine aC (aA (aE hs rfl ?_))
 have e1:(l:Int) % C.aK=((l % C.aK.toNat:Nat):Int):=by rw[←hb.1];simp
 have e2:(l:Int)/C.aK=((l/C.aK.toNat:Nat):Int):=by rw[←hb.1];simp
 rw[e1]
 refine dW (Nat.mod_lt _ hb.2.1) (aC (aA (aA (aE hs rfl (Zo (by omega) (by omega) (by have:=(bJ.qU hC).2;omega) ?_)))))
 show Q _ _
 rw[e2]
 exact hk _ hs.tail
theorem Eh {C:bJ} (hC:C.Ok) {mb l:Nat} {mem:Nat→Ln} {Q:Value→AH→Prop} (hl:Ob G 0 eJ) (hs:Hs G h L) [m:Has (iI G C.lines mb C) L mem L'] (h0:l<C.lines)
  (hk:∀h',Hs G h' (iI G C.lines mb C mem::L')→Q (.tuple ⟨[.agg ⟨Jj (mem l)⟩,I 0]⟩) h'):Cl Pr K 15 [pt mb 0 0,I l] h Q:=by
 have hb:=bJ.bk hC
 have hs:=m.of hs
 obtain⟨b,o,cap,hs⟩:=zL hs
 refine cW (gP hs ?_)
 intro p h hs
 refine pO hC hl hs h0 fun h hs=>?_
 refine aL rfl (aL rfl (aL rfl (bL (aY (by omega) (bW ?_)))))
 have hs:=(hs.front (mU C.aK.toNat fun i=>jH C.lines C.aK.toNat b (o+i*3) i mem)).tX (l % C.aK.toNat) (Nat.mod_lt _ hb.2.1)
 obtain⟨r,w,a,cp,hs⟩:=wS hs
 refine aC (aA (aA (aE hs rfl (K3 (aC (aA (aA (bM hs rfl rfl rfl rfl ?_))))))))
 intro h hs
 refine aC (aA (aE hs rfl ?_))
 have hat:=M1 hb.2.1 h0
 obtain⟨b2,o2,rfl,H,hs,hback⟩:=Hs.Wb (Lv (B:=C.aK.toNat) (i:=l % C.aK.toNat) (mem:=mem)) hat (hs.front (dP 2 35 a cp (iT C.lines C.aK.toNat (l % C.aK.toNat),(List.range (iT C.lines C.aK.toNat (l % C.aK.toNat))).flatMap (H7 C.aK.toNat (l % C.aK.toNat) mem))))
 rw[W0 hb.2.1] at hs
 refine dW hat (aP hs (by decide) (l:=Jj (mem l)) rfl rfl ?_)
 refine dR hs rfl rfl rfl rfl ?_
 intro h hs
 refine aP hs (by decide) rfl rfl ?_
 refine hk _ ?_
 have hs:=hback _ _ _ rfl rfl (hs.wU (aO b2 (o2+l/C.aK.toNat*2) (Jj (mem l))) H)
 rw[Md hb.2.1,gR] at hs
 have hs:=pT (hs.sg (b:=b) (o:=o+l % C.aK.toNat*3) (c:=[I (wr (r+1)),I w,.slice (some ⟨b2,o2,none⟩) (iT C.lines C.aK.toNat (l % C.aK.toNat)) cp]) rfl)
 exact wM (b:=b) (o:=o) (cap:=cap) ((hs.Cb (n:=C.aK.toNat) (i:=l % C.aK.toNat) (fun i=>jH C.lines C.aK.toNat b (o+i*3) i mem) (fun i=>jH C.lines C.aK.toNat b (o+i*3) i mem) (Nat.mod_lt _ hb.2.1) (fun _ _ _=>rfl)).to)
theorem Bi {C:bJ} (hC:C.Ok) {mb l:Nat} {mem:Nat→Ln} {v:Ln} {Q:Value→AH→Prop} (hl:Ob G 0 eJ) (hs:Hs G h L) [m:Has (iI G C.lines mb C) L mem L'] (h0:l<C.lines)
  (hk:∀h',Hs G h' (iI G C.lines mb C (aJ mem l v)::L')→Q (I 0) h'):Cl Pr K 46 [pt mb 0 0,I l,.agg ⟨Jj v⟩] h Q:=by
 have hb:=bJ.bk hC
 have hs:=m.of hs
 obtain⟨b,o,cap,hs⟩:=zL hs
 refine cW (iA hs ?_)
 intro p h hs
 refine pO hC hl hs h0 fun h hs=>?_
 refine aL rfl (aL rfl (aL rfl (bL (aY (by omega) (bW ?_)))))
 have hs:=(hs.front (mU C.aK.toNat fun i=>jH C.lines C.aK.toNat b (o+i*3) i mem)).tX (l % C.aK.toNat) (Nat.mod_lt _ hb.2.1)
 obtain⟨r,w,a,cp,hs⟩:=wS hs
 refine aC (aA (aA (aE hs rfl (K3 (aC (aA (aA (bM hs rfl rfl rfl rfl ?_))))))))
 intro h hs
 refine aZ hs ?_
 intro rv h hs
 refine aC (aA (aE hs rfl (aP hs (by decide) rfl rfl ?_)))
 have hat:=M1 hb.2.1 h0
 obtain⟨b2,o2,rfl,H,hs,hback⟩:=Hs.Wb (Lv (B:=C.aK.toNat) (i:=l % C.aK.toNat) (mem:=mem)) hat (hs.front (dP 2 35 a cp (iT C.lines C.aK.toNat (l % C.aK.toNat),(List.range (iT C.lines C.aK.toNat (l % C.aK.toNat))).flatMap (H7 C.aK.toNat (l % C.aK.toNat) mem))))
 refine dW hat (dR hs rfl rfl rfl rfl ?_)
 intro h hs
 refine hk _ ?_
 have hs:=hback _ _ _ rfl rfl ((hs.sg (b:=b2) (o:=o2+l/C.aK.toNat*2) (c:=Jj v) rfl).wU (aO b2 (o2+l/C.aK.toNat*2) (Jj v)) H)
 rw[Md hb.2.1] at hs
 have hs:=pT (hs.sg (b:=b) (o:=o+l % C.aK.toNat*3) (c:=[I r,I (wr (w+1)),.slice (some ⟨b2,o2,none⟩) (iT C.lines C.aK.toNat (l % C.aK.toNat)) cp]) rfl)
 exact wM (b:=b) (o:=o) (cap:=cap) ((hs.Cb (n:=C.aK.toNat) (i:=l % C.aK.toNat) (fun i=>jH C.lines C.aK.toNat b (o+i*3) i mem) (fun i=>jH C.lines C.aK.toNat b (o+i*3) i (aJ mem l v)) (Nat.mod_lt _ hb.2.1) (fun i hi hne=>by simp only[jH,X1 hi hne])).to)
theorem Hk {C:bJ} (hC:C.Ok) {p mb:Nat} {Q:Value→AH→Prop} (hk:∀h',Hs G h' (iI G C.lines mb C sL::L)→Q (.tuple ⟨[pt mb 0 0,I 0]⟩) h'):∀(f n:Nat) (h:AH) (g:HP),n+f=C.lines→Hs G h (iI G n mb C sL::aO p 0 C.enc::g::L)→
  Dd 44 2 [] Q [(pt p 0 0),(pt mb 0 0),(I C.lines),(I n)] h:=by
 have hb:=bJ.bk hC
 have hln:=bJ.qU hC
 intro f
 induction f with
 |zero=>
  intro n h g hn hs
  have:n=C.lines:=by omega
  subst this
  exact bW (bC (aY (by omega) (hk _ hs.to)))
 |succ f ih=>
  intro n h g hn hs
  refine bW (bC (cM (by omega) (bW ?_)))
  refine aZ hs ?_
  intro rv h hs
  obtain⟨b,o,cap,hs⟩:=zL (hs.front (iI G n mb C sL))
  refine aC (aA (aE hs rfl (aA (aE hs rfl ?_))))
  have e1:(n:Int) % C.aK=((n % C.aK.toNat:Nat):Int):=by rw[←hb.1];simp
  refine Pj (by omega) (by omega) ?_
  rw[e1]
  have hi:=Nat.mod_lt n hb.2.1
  refine dW hi ?_
  have hs:=(hs.front (mU C.aK.toNat fun i=>jH n C.aK.toNat b (o+i*3) i sL)).tX (n % C.aK.toNat) hi
  obtain⟨r,w,a,cp,hs⟩:=wS hs
  refine aC (aA (aE hs rfl (aR (c:=Jj (0,0)) rfl (aR (c:=Jj (0,0)) rfl ?_))))
  refine fB hs rfl rfl rfl ?_
  intro a3 h hs
  have hcl:=Ue (n:=n) (B:=C.aK.toNat) (i:=n % C.aK.toNat) hb.2.1
  refine oW hs (by omega) ?_
  intro a4 c4 h hs
  dsimp only
  refine aC (aA (bM hs rfl rfl rfl rfl ?_))
  intro h hs
  refine cL (by omega) ?_
  refine ih (n+1) h (sp [dP 2 35 (some a3) 1 (1,Jj (0,0)),O9 rv (10,[]),g]) (by omega) ?_
  have ec:iT (n+1) C.aK.toNat (n % C.aK.toNat)=iT n C.aK.toNat (n % C.aK.toNat)+1:=by rw[Dp hi,if_pos rfl]
  have ef:(List.range (iT n C.aK.toNat (n % C.aK.toNat))).flatMap (H7 C.aK.toNat (n % C.aK.toNat) sL)++Jj (0,0)=(List.range (iT (n+1) C.aK.toNat (n % C.aK.toNat))).flatMap (H7 C.aK.toNat (n % C.aK.toNat) sL):=by
   rw[ec,List.range_succ,List.flatMap_append];rfl
  rw[ef,←ec] at hs
  have hs:=pT (n:=n+1) (r:=r) (w:=w) (a:=a4) (cap:=c4) (b:=b) (o:=o+n % C.aK.toNat*3) hs
  exact(Jh (n+1) mb C sL b o cap (hs.Cb (n:=C.aK.toNat) (i:=n % C.aK.toNat) (fun i=>jH n C.aK.toNat b (o+i*3) i sL) (fun i=>jH (n+1) C.aK.toNat b (o+i*3) i sL) hi (fun j hj hne=>by simp only[jH,Dp hj,if_neg hne]))).to
theorem Np {C:bJ} (hC:C.Ok) {Q:Value→AH→Prop} (hl:Ob G 0 eJ) (hs:Hs G h L) (hk:∀mb h',Hs G h' (iI G C.lines mb C sL::L)→Q (.tuple ⟨[pt mb 0 0,I 0]⟩) h'):Cl Pr K 44 [.agg ⟨C.enc⟩] h Q:=by
 have hb:=bJ.bk hC
 refine cW (iA hs ?_)
 intro p h hs
 refine aP hs (by decide) (l:=C.enc) rfl rfl (rO hl hs fun h hs=>?_)
 rw[if_pos hC]
 refine bL (aY (by omega) (bW (aZ hs ?_)))
 intro rv h hs
 refine aP hs (by decide) (l:=C.enc) rfl rfl (aA (aE hs rfl (P8 (by omega) (by omega) (by omega) ?_)))
 dsimp only
 refine oI hs rfl rfl ?_ rfl ?_ ?_
 ·rw[gY,qW (W:=3) (fun _=>rfl)]
 ·rw[gY];exact tQ (fun _=>rfl) _
 intro a h hs
 obtain⟨b,o,ha,hs⟩:=Hs.Kx (W:=3) rfl hb.2.1 hs
 cases ha
 refine aR (c:=C.enc++[.slice (some ⟨b,o,none⟩) C.aK.toNat C.aK.toNat]) rfl ?_
 refine Rh hs rfl rfl ?_
 intro mb h hs
 refine aP hs (by decide) (l:=C.enc) rfl rfl (uQ hC hl hs fun h hs=>?_)
 have hs:=(Hs.Ko (g:=fun i=>jH 0 C.aK.toNat b (o+i*3) i sL) C.aK.toNat _ (fun i hi h L hs=>?_) (hs.front (mU C.aK.toNat fun i=>aO b (o+i*3) [I 0,I 0,.slice none 0 0])))
 ·have hs:=Jh 0 mb C sL b o C.aK.toNat hs
  exact Hk hC (hk mb) C.lines 0 h _ (by omega) (hs.to (M:=[iI G 0 mb C sL,aO p 0 C.enc,sp []]++L))
 ·refine pT (r:=0) (w:=0) (a:=none) (cap:=0) ?_
  rw[Nx hi]
  exact(gH hs).tE
end Go.Proofs.YthgemaaghgpncaaDoor
end
section
namespace Go.Proofs.YthgemaaghgpncaaDoor.H
open Go Go.Ab Go.Hm
set_option maxRecDepth 100000
variable {G:Bg} {h:AH} {L L':List HP}
theorem Lk {b o:Nat} {x:Int} {c':List Value} {a:Option Addr} {c:Nat} {v:Bool} {k:AH→Prop} (r:Row) (hs:Hs G h L) [m:Has (aO b o) L c' L'] (hc:c'=r.enc a c) (hx:0≤x∧x<4) (hk:∀h',Hs G h' (aO b o (({r with sh:=eP r.sh x v}:Row).enc a c)::L')→k h'):aN (Jx h 1 (pt b o (0+1+x.toNat*1)) (.bool v)) k:=by
 subst hc
 have:x=0∨x=1∨x=2∨x=3:=by omega
 rcases this with rfl|rfl|rfl|rfl
 all_goals
  refine bM hs rfl rfl rfl rfl ?_
  exact hk
theorem Wz {b o:Nat} {x:Int} {c':List Value} {a:Option Addr} {c:Nat} {v:Bool} {k:AH→Prop} (r:Row) (hs:Hs G h L) [m:Has (aO b o) L c' L'] (hc:c'=r.enc a c) (hx:0≤x∧x<4) (hk:∀h',Hs G h' (aO b o (({r with asked:=eP r.asked x v}:Row).enc a c)::L')→k h'):aN (Jx h 1 (pt b o (0+17+x.toNat*1)) (.bool v)) k:=by
 subst hc
 have:x=0∨x=1∨x=2∨x=3:=by omega
 rcases this with rfl|rfl|rfl|rfl
 all_goals
  refine bM hs rfl rfl rfl rfl ?_
  exact hk
def mH (mb:Nat) (C:bJ) (b o cap:Nat):List Value:=[pt mb 0 0,I C.bT,I C.eN,I C.aD,I C.ways,I C.depth,I C.entries,I C.aK,.slice (some ⟨b,o,none⟩) C.lines cap]
structure ij where
 mb:Nat
 b:Nat
 o:Nat
 cap:Nat
def Yj (G:Bg) (hb:Nat) (C:bJ) (H:iQ) (x:ij):List HP:=
 [aO hb 0 (mH x.mb C x.b x.o x.cap),iI G C.lines x.mb C (fun i=>(H i).2),hole G 25 90 (some ⟨x.b,x.o,none⟩) x.cap C.lines x.b x.o,mU C.lines fun i=>dU x.b (x.o+i*25) (H i).1]
def eK (G:Bg) (hb:Nat) (C:bJ) (H:iQ):HP:=Nm fun x:ij=>sp (Yj G hb C H x)
def rA (b o n:Nat) (H:iQ) (l:Nat):HP:=sp (((List.range n).erase l).map fun i=>dU b (o+i*25) (H i).1)
theorem kY {hb:Nat} {C:bJ} {H:iQ} (hs:Hs G h (eK G hb C H::L)):∃mb b o cap,Hs G h (aO hb 0 (mH mb C b o cap)::iI G C.lines mb C (fun i=>(H i).2)::hole G 25 90 (some ⟨b,o,none⟩) cap C.lines b o::mU C.lines (fun i=>dU b (o+i*25) (H i).1)::L):=by
 obtain⟨⟨mb,b,o,cap⟩,hs⟩:=hs.Pm
 exact⟨mb,b,o,cap,hs.unpack⟩
theorem uD {hb l:Nat} {C:bJ} {H:iQ} (hl:l<C.lines) (hs:Hs G h (eK G hb C H::L)):∃mb b o cap,Hs G h (dU b (o+l*25) (H l).1::aO hb 0 (mH mb C b o cap)::iI G C.lines mb C (fun i=>(H i).2)::hole G 25 90 (some ⟨b,o,none⟩) cap C.lines b o::rA b o C.lines H l::L):=by
 obtain⟨mb,b,o,cap,hs⟩:=kY hs
 have hs:=(hs.front (mU C.lines fun i=>dU b (o+i*25) (H i).1)).tX l hl
 exact⟨mb,b,o,cap,(show Hs G h (dU b (o+l*25) (H l).1::rA b o C.lines H l::_) from hs).to⟩
theorem D2 {hb:Nat} {C:bJ} {H:iQ} {mb b o cap:Nat} (hs:Hs G h (aO hb 0 (mH mb C b o cap)::iI G C.lines mb C (fun i=>(H i).2)::hole G 25 90 (some ⟨b,o,none⟩) cap C.lines b o::mU C.lines (fun i=>dU b (o+i*25) (H i).1)::L)):Hs G h (eK G hb C H::L):=
 Hs.Pb (A:=fun x=>sp (Yj G hb C H x)) ⟨mb,b,o,cap⟩ (Hs.pack (A:=Yj G hb C H ⟨mb,b,o,cap⟩) hs)
theorem mem_of {H:iQ} {l:Nat} {x:eU}:(fun i=>(aJ H l x i).2)=aJ (fun i=>(H i).2) l x.2:=by
 funext i;unfold aJ;split<;>rfl
theorem cN {L1 L2 L3 L4 L5:List HP} (hb:Nat) (C:bJ) (H:iQ) (l:Nat) (r:Row) (m:Ln) (mem:Nat→Ln) (mb b o cap:Nat) (hl:l<C.lines) (hm:mem=aJ (fun i=>(H i).2) l m) (hs:Hs G h L) [k1:fO (dU b (o+l*25) r) L L1] [k2:fO (aO hb 0 (mH mb C b o cap)) L1 L2] [k3:fO (iI G C.lines mb C mem) L2 L3]
  [k4:fO (hole G 25 90 (some ⟨b,o,none⟩) cap C.lines b o) L3 L4] [k5:fO (rA b o C.lines H l) L4 L5]:Hs G h (eK G hb C (aJ H l (r,m))::L5):=by
 subst hm
 have hs:Hs G h (dU b (o+l*25) r::rA b o C.lines H l::aO hb 0 (mH mb C b o cap)::iI G C.lines mb C (aJ (fun i=>(H i).2) l m)::hole G 25 90 (some ⟨b,o,none⟩) cap C.lines b o::L5):=
  (hs.perm (k1.perm.trans ((k2.perm.trans ((k3.perm.trans ((k4.perm.trans (k5.perm.cons _)).cons _)).cons _)).cons _))).to
 have e0:(fun i=>dU b (o+i*25) (aJ H l (r,m) i).1) l=dU b (o+l*25) r:=by simp only[cP]
 rw[←e0] at hs
 unfold rA at hs
 have hs:=hs.Cb (n:=C.lines) (i:=l) (fun i=>dU b (o+i*25) (H i).1) (fun i=>dU b (o+i*25) (aJ H l (r,m) i).1) hl (fun j _ hne=>by simp only[bK hne])
 rw[←mem_of (x:=(r,m))] at hs
 exact D2 (mb:=mb) (b:=b) (o:=o) (cap:=cap) hs.to
theorem tL {a:Addr} {n:aF} {cs:List Value} (hc:cs=n.enc) (hs:Hs G h (dP 9 77 (some a) 1 (1,cs)::L)):Hs G h (dH (.slice (some a) 1 1) [n]::L):=Lj rfl (by rw[hc];simp) hs
theorem lG (hs:Hs G h L):Hs G h (dH (.slice none 0 0) []::L):=Lj rfl rfl (gH hs)
section
variable {b o p:Nat} {r:Row} {wa:Option Addr} {wc:Nat} {line:Int} {d:Ln} {Q:Value→AH→Prop}
theorem cE (b o:Nat) (r:Row) (a:Option Addr) (c:Nat) {c':List Value} {n:Nat} {cs:List Value} {L1 L2:List HP} (hs:Hs G h L) [m:Has (aO b o) L c' L1] (hc:c'=r.enc a c) [m2:Has (dP 9 77 a c) L1 (n,cs) L2] (hn:n=r.waits.length) (hcs:cs=cT r.waits):Hs G h (dU b o r::L2):=by
 subst hc;subst hn;subst hcs
 exact iV r (hs.perm (m.perm.trans (m2.perm.cons _)))
theorem Ul (hkd:r.served.kind=2) (hs:Hs G h (aO p 0 (r.gG line 0 d).enc::aO b o (r.enc wa wc)::dP 9 77 wa wc (r.waits.length,cT r.waits)::L)) (hk:∀v h',Hs G h' (dH v (r.cI line d).2::dU b o (r.cI line d).1::L)→Q v h'):
  Dd 70 3 [] Q [(pt b o 0),(I r.served.core),(pt p 0 0)] h:=by
 simp only[Row.cI,if_pos hkd] at hk
 refine bW ?_
 repeat' first
  |refine aA ?_
  |refine aC ?_
  |refine aP hs (by decide) rfl rfl ?_
  |(refine bM hs rfl rfl rfl rfl ?_;intro h hs)
  |(refine fB hs rfl rfl rfl ?_;intro a h hs)
  |refine aR rfl ?_
 refine hk _ _ ?_
 have hs:=tL (n:=r.gG line 4 d) rfl hs
 exact(cE b o {r with owner:=r.served.core,sh:=fun _=>false,granted:=true} wa wc hs rfl rfl rfl).to
theorem Ub (hkd:r.served.kind≠2) (hc:0≤r.served.core∧r.served.core<4) (hs:Hs G h (aO p 0 (r.gG line 0 d).enc::aO b o (r.enc wa wc)::dP 9 77 wa wc (r.waits.length,cT r.waits)::L)) (hk:∀v h',Hs G h' (dH v (r.cI line d).2::dU b o (r.cI line d).1::L)→Q v h'):
  Dd 70 4 [] Q [(pt b o 0),(I r.served.core),(pt p 0 0)] h:=by
 simp only[Row.cI,if_neg hkd] at hk
 have hs:=cE b o r wa wc hs rfl rfl rfl
 refine bW (Az hs fun hs=>?_)
 obtain⟨wa,wc,hs⟩:=bU hs
 refine bH (bE (fun h1=>?_) (fun h1=>?_))
 ·rw[if_pos h1] at hk
  refine bW (aA (bM hs rfl rfl rfl rfl ?_))
  intro h hs
  refine aC (aA (bM hs rfl rfl rfl rfl ?_))
  intro h hs
  refine aC (aA (fT hc.1 hc.2 (Lk {r with owner:=r.served.core} hs rfl hc ?_)))
  intro h hs
  repeat' first
   |refine aA ?_
   |refine aC ?_
   |refine aP hs (by decide) rfl rfl ?_
   |(refine bM hs rfl rfl rfl rfl ?_;intro h hs)
   |(refine fB hs rfl rfl rfl ?_;intro a h hs)
   |refine aR rfl ?_
  refine hk _ _ ?_
  have hs:=tL (n:=r.gG line 2 d) rfl hs
  exact(cE b o {r with owner:=r.served.core,sh:=eP r.sh r.served.core false,granted:=true} wa wc hs rfl rfl rfl).to
 ·rw[if_neg h1] at hk
  refine bW (aA (bM hs rfl rfl rfl rfl ?_))
  intro h hs
  refine aC (aA (fT hc.1 hc.2 (Lk r hs rfl hc ?_)))
  intro h hs
  repeat' first
   |refine aA ?_
   |refine aC ?_
   |refine aP hs (by decide) rfl rfl ?_
   |(refine bM hs rfl rfl rfl rfl ?_;intro h hs)
   |(refine fB hs rfl rfl rfl ?_;intro a h hs)
   |refine aR rfl ?_
  refine hk _ _ ?_
  have hs:=tL (n:=r.gG line 1 d) rfl hs
  exact(cE b o {r with sh:=eP r.sh r.served.core true,granted:=true} wa wc hs rfl rfl rfl).to
end
theorem cU {H:iQ} {l:Nat}:aJ (fun i=>(H i).2) l (H l).2=fun i=>(H i).2:=gR
theorem uG {C:bJ} (hC:C.Ok) {hb l:Nat} {H:iQ} {Q:Value→AH→Prop} (hlim:Ob G 0 eJ) (hs:Hs G h L) [m:Has (eK G hb C) L H L'] (hl:l<C.lines) (hc:0≤(H l).1.served.core∧(H l).1.served.core<4)
  (hk:∀v h',Hs G h' (dH v ((H l).1.cI l ((H l).1.lR (H l).2)).2::eK G hb C (aJ H l (((H l).1.cI l ((H l).1.lR (H l).2)).1,(H l).2))::L')→Q v h'):
  Cl Pr K 70 [pt hb 0 0,I l] h Q:=by
 obtain⟨mb,b,o,cap,hs⟩:=uD hl (m.of hs)
 refine cW ?_
 have key:∀d,d=(H l).1.lR (H l).2→∀p wa wc h,Hs G h (aO p 0 ((H l).1.gG l 0 d).enc::aO b (o+l*25) ((H l).1.enc wa wc)::dP 9 77 wa wc ((H l).1.waits.length,cT (H l).1.waits)::aO hb 0 (mH mb C b o cap)::iI G C.lines mb C (fun i=>(H i).2)::hole G 25 90 (some ⟨b,o,none⟩) cap C.lines b o::rA b o C.lines H l::L')→
   (((H l).1.served.kind=2→Dd 70 3 [] Q [(pt b (o+l*25) 0),(I (H l).1.served.core),(pt p 0 0)] h)∧((H l).1.served.kind≠2→Dd 70 4 [] Q [(pt b (o+l*25) 0),(I (H l).1.served.core),(pt p 0 0)] h)):=by
  intro d hd p wa wc h hs
  subst hd
  have hk':∀v h',Hs G h' (dH v ((H l).1.cI l ((H l).1.lR (H l).2)).2::dU b (o+l*25) ((H l).1.cI l ((H l).1.lR (H l).2)).1::aO hb 0 (mH mb C b o cap)::iI G C.lines mb C (fun i=>(H i).2)::hole G 25 90 (some ⟨b,o,none⟩) cap C.lines b o::rA b o C.lines H l::L')→Q v h':=fun v h' hs=>
   hk v h' (cN hb C H l ((H l).1.cI l ((H l).1.lR (H l).2)).1 (H l).2 (fun i=>(H i).2) mb b o cap hl cU.symm hs).to
  exact⟨fun hkd=>Ul hkd hs hk',fun hkd=>Ub hkd hc hs hk'⟩
 obtain⟨wa,wc,hs⟩:=bU hs
 refine aC (aA (aE hs rfl (dW hl (aC (aA (aA (aE hs rfl ?_)))))))
 refine aZ hs ?_
 intro rv h hs
 refine aC (aA (aE hs rfl (aC (aA (aP hs (by decide) (l:=[I (H l).1.d0,I (H l).1.d1]) rfl rfl (aR (c:=((H l).1.gG l 0 ((H l).1.d0,(H l).1.d1)).enc) rfl ?_))))))
 refine uV hs rfl rfl ?_
 intro p h hs
 refine dR hs rfl rfl rfl rfl ?_
 intro h hs
 refine aC (aA (aE hs rfl (dY (gU (cS (fun ht=>?_) (fun ht=>?_))))))
 ·refine bW (aC (aA (aA (aE hs rfl (bH ?_)))))
  have:=key ((H l).1.d0,(H l).1.d1) (by simp[Row.lR,ht]) p wa wc h hs.to
  exact bE this.1 this.2
 ·refine bW (aC (aA (aE hs rfl (Eh hC hlim hs hl fun h hs=>?_))))
  refine aL rfl (aL rfl (aA (bM hs rfl rfl rfl rfl ?_)))
  intro h hs
  refine aC (aA (aA (aE hs rfl (bH ?_))))
  have:=key (H l).2 (by simp[Row.lR,ht]) p wa wc h (hs.sg (b:=p) (o:=0) (c:=((H l).1.gG l 0 (H l).2).enc) rfl).to
  exact bE this.1 this.2
end Go.Proofs.YthgemaaghgpncaaDoor.H
end
section
namespace Go.Proofs.YthgemaaghgpncaaDoor.H
open Go Go.Ab Go.Hm
set_option maxRecDepth 100000
variable {G:Bg} {h:AH} {L L':List HP}
def Qz (e:TypeId) (p:Nat) (a:Option Addr) (c:Nat) (xs:List Int):HP:=sp [aO p 0 [.slice a xs.length c],dP 1 e a c (xs.length,xs.map I)]
theorem Nr {e:TypeId} {a:Option Addr} {c n:Nat} {xs:List Int} {Q:Value→AH→Prop} (hn:n=xs.length) (hs:Hs G h L) [m:Has (dP 1 e a c) L (n,xs.map I) L'] (hk:∀p h',Hs G h' (Qz e p a c xs::L')→Q (.func (.func 74) #[] #[pt p 0 0]) h'):Cl Pr K 71 [.slice a n c] h Q:=by
 subst hn
 have hs:=m.of hs
 refine cW (iA hs ?_)
 intro p h hs
 exact hk p _ (Hs.pack (A:=[_,_]) hs)
theorem Ro {e:TypeId} {p:Nat} {a:Option Addr} {c:Nat} {xs:List Int} (hx:xs.length<2^62):en Pr K G 74 [] [pt p 0 0] (Qz e p a c xs) (xs.map fun x=>[I x]):=by
 intro I' J y L h Q hs hy h1 h2
 refine cW ?_
 refine aE hs.unpack rfl (eV ?_)
 have loop:∀(f i:Nat) (h:AH),i+f=xs.length→Hs G h (Qz e p a c xs::I' ((xs.drop i).map fun x=>[I x])::L)→Dd 74 1 [] Q [y,(.slice a xs.length c),(I xs.length),(I i)] h:=by
  intro f
  induction f with
  |zero=>
   intro i h hi hs
   refine bW (bC (aY (by omega) ?_))
   rw[List.drop_eq_nil_of_le (by omega)] at hs
   exact h1 _ _ hs
  |succ f ih=>
   intro i h hi hs
   have hlt:i<xs.length:=by omega
   refine bW (bC (cM (by omega) (bW ?_)))
   obtain⟨b,o,rfl,H,hs2,_⟩:=(hs.unpack.front (dP 1 e a c (xs.length,xs.map I))).nC (by omega)
   refine dW hlt (Sw hs2 (v:=I xs[i]) (by simp[hlt]) ?_)
   rw[List.drop_eq_getElem_cons hlt] at hs
   refine(hy _ _ h _ hs.tE).mono fun v h' hv=>?_
   rcases hv with⟨rfl,hs⟩|⟨rfl,hs⟩
   ·exact dY (eS (bW (cL (by omega) (ih (i+1) h' (by omega) hs.tE))))
   ·exact dY (mV (h2 _ _ hs.tE))
 exact loop xs.length 0 h (by omega) hs
section
variable {hb p mb b o cap l:Nat} {C:bJ} {H:iQ} {n:aF} {r:Row} {m:Ln} {Q:Value→AH→Prop}
def kZ (G:Bg) (hb p mb b o cap l:Nat) (C:bJ) (H:iQ) (n:aF) (r:Row) (m:Ln):List HP:=
 [dU b (o+l*25) r,aO p 0 n.enc,aO hb 0 (mH mb C b o cap),iI G C.lines mb C (aJ (fun i=>(H i).2) l m),hole G 25 90 (some ⟨b,o,none⟩) cap C.lines b o,rA b o C.lines H l]
theorem Lm (hC:C.Ok) (hlim:Ob G 0 eJ) (hl:l<C.lines) (hnl:n.line=l) (hc:0≤r.served.core∧r.served.core<4) (hq:r.quiet=true) (hs:Hs G h (kZ G hb p mb b o cap l C H n r m++L))
  (hk:∀v h',Hs G h' (dH v (r.rest l m).2::eK G hb C (aJ H l ((r.rest l m).1,m))::L)→Q v h'):Dd 59 7 [] Q [(pt hb 0 0),(pt p 0 0),(pt b (o+l*25) 0)] h:=by
 simp only[kZ,List.cons_append,List.nil_append] at hs
 simp only[Row.rest,if_pos hq] at hk
 have hs0:=hs
 obtain⟨wa,wc,hs⟩:=bU (show Hs G h (dU b (o+l*25) r::_) from hs)
 refine bW (aC (aA (aA (aE hs rfl (bH (bE (fun h1=>?_) (fun h1=>?_)))))))
 ·rw[if_pos h1] at hk
  refine bW (Nb hs0 fun h hs=>hk _ _ ?_)
  exact(lG (cN hb C H l r.free m _ mb b o cap hl rfl hs)).to
 ·rw[if_neg h1] at hk
  refine aA (aE hs rfl ?_)
  rw[hnl]
  have hs:=cN hb C H l r m _ mb b o cap hl rfl hs0
  refine uG hC hlim hs hl (by simp only[cP];exact hc) fun v h hs=>hk _ _ ?_
  simp only[cP,tJ] at hs
  exact hs.to
theorem Lp (hC:C.Ok) (hlim:Ob G 0 eJ) (hl:l<C.lines) (hnl:n.line=l) (hc:0≤r.served.core∧r.served.core<4) (hs:Hs G h (kZ G hb p mb b o cap l C H n r m++L))
  (hk:∀v h',Hs G h' (dH v (r.rest l m).2::eK G hb C (aJ H l ((r.rest l m).1,m))::L)→Q v h'):Dd 59 4 [] Q [(pt hb 0 0),(pt p 0 0),(pt b (o+l*25) 0)] h:=by
 have hs00:=hs
 simp only[kZ,List.cons_append,List.nil_append] at hs
 have hs0:=hs
 obtain⟨wa,wc,hs⟩:=bU (show Hs G h (dU b (o+l*25) r::_) from hs)
 refine bW (aC (aA (aP hs (by decide) (l:=[.bool (r.asked 0),.bool (r.asked 1),.bool (r.asked 2),.bool (r.asked 3)]) rfl rfl (aR (c:=[.bool false,.bool false,.bool false,.bool false]) rfl (P1 (cS (fun hq=>?_) (fun hq=>?_)))))))
 ·have hq:r.quiet=false:=by unfold Row.quiet;rw[hq];rfl
  simp only[Row.rest,hq,Bool.false_eq_true,if_false] at hk
  refine hk _ _ ?_
  exact(lG (cN hb C H l r m _ mb b o cap hl rfl (show Hs G h (dU b (o+l*25) r::_) from hs0))).to
 ·have hq:r.quiet=true:=by unfold Row.quiet;rw[hq];rfl
  exact Lm hC hlim hl hnl hc hq hs00 hk
end
end Go.Proofs.YthgemaaghgpncaaDoor.H
end
section
namespace Go.Proofs.YthgemaaghgpncaaDoor.H
open Go Go.Ab Go.Hm
set_option maxRecDepth 100000
variable {G:Bg} {h:AH} {L L':List HP}
section
variable {hb p mb b o cap l:Nat} {C:bJ} {H:iQ} {n:aF} {r:Row} {m:Ln} {Q:Value→AH→Prop}
theorem Qs (hC:C.Ok) (hlim:Ob G 0 eJ) (hl:l<C.lines) (hnl:n.line=l) (hc:0≤r.served.core∧r.served.core<4) (hs:Hs G h (kZ G hb p mb b o cap l C H n r m++L))
  (hk:∀v h',Hs G h' (dH v ((r.gT n).rest l m).2::eK G hb C (aJ H l (((r.gT n).rest l m).1,m))::L)→Q v h'):Dd 59 8 [] Q [(pt hb 0 0),(pt p 0 0),(pt b (o+l*25) 0)] h:=by
 simp only[kZ,List.cons_append,List.nil_append] at hs
 obtain⟨wa,wc,hs⟩:=bU hs
 refine bW (aZ hs ?_)
 intro rv h hs
 refine aA (aP hs (by decide) (l:=[I n.d0,I n.d1]) rfl rfl (aC (aA (bM hs rfl rfl rfl rfl ?_))))
 intro h hs
 have hs1:=hs
 refine aC (aA (bM hs rfl rfl rfl rfl ?_))
 intro h hs
 refine hZ iN (hZ (aA iN) (hZ (aP hs1 (by decide) (l:=[I n.d0,I n.d1]) rfl rfl (rQ (by simp[mL]))) ?_))
 have hs:=cE b (o+l*25) (r.gT n) wa wc hs rfl rfl rfl
 have hs:Hs G h (kZ G hb p mb b o cap l C H n (r.gT n) m++L):=by
  simp only[kZ,List.cons_append,List.nil_append]
  exact hs.to
 have hs00:=hs
 simp only[kZ,List.cons_append,List.nil_append] at hs
 have hs0:=hs
 obtain⟨wa,wc,hs⟩:=bU hs
 refine(aC (aA (aP hs (by decide) (l:=[.bool (r.asked 0),.bool (r.asked 1),.bool (r.asked 2),.bool (r.asked 3)]) rfl rfl (aR (c:=[.bool false,.bool false,.bool false,.bool false]) rfl (P1 (cS (fun hq=>?_) (fun hq=>?_)))))))
 ·have hq:(r.gT n).quiet=false:=by unfold Row.quiet;rw[show(r.gT n).asked=r.asked from rfl,hq];rfl
  simp only[Row.rest,hq,Bool.false_eq_true,if_false] at hk
  exact hk _ _ (lG (cN hb C H l (r.gT n) m _ mb b o cap hl rfl hs0)).to
 ·exact Lm (r:=r.gT n) hC hlim hl hnl hc (by unfold Row.quiet;rw[show(r.gT n).asked=r.asked from rfl,hq];rfl) hs00 hk
end
theorem Pp {C:bJ} (hC:C.Ok) {hb l:Nat} {H:iQ} {n:aF} {Q:Value→AH→Prop} (hlim:Ob G 0 eJ) (hs:Hs G h L) [m:Has (eK G hb C) L H L'] (hl:l<C.lines) (hnl:n.line=l) (hnc:0≤n.core∧n.core<4) (hc:0≤(H l).1.served.core∧(H l).1.served.core<4)
  (hk:∀v h',Hs G h' (dH v (eU.fX (H l) l n).2::eK G hb C (aJ H l (eU.fX (H l) l n).1)::L')→Q v h'):
  Cl Pr K 59 [pt hb 0 0,.agg ⟨n.enc⟩] h Q:=by
 have hs:=m.of hs
 simp only[eU.fX] at hk
 refine cW (iA hs ?_)
 intro p h hs
 refine aZ hs ?_
 intro rv h hs
 obtain⟨mb,b,o,cap,hs⟩:=uD hl (hs.front (eK G hb C H))
 obtain⟨wa,wc,hs⟩:=bU hs
 refine aC (aA (aE hs rfl (aA (aE hs rfl ?_))))
 rw[hnl]
 refine dW hl (aZ hs ?_)
 intro rv2 h hs
 refine aA (aE hs rfl (aC (aA (fT hnc.1 hnc.2 (Wz (H l).1 hs rfl hnc ?_)))))
 intro h hs
 have hs0:=cE b (o+l*25) ((H l).1.cO n) wa wc hs rfl rfl rfl
 refine aC (aA (aA (aE hs rfl (bL (bE (fun h1=>bW ?_) (fun h1=>bW ?_))))))
 ·
  simp only[Row.heard,if_pos h1] at hk
  unfold Row.nI at hk
  refine aA (aE hs0 rfl (vS hs0 hnc fun h hs=>?_))
  refine aA (aE hs rfl (cS (fun h2=>bW ?_) (fun h2=>?_)))
  ·rw[if_pos ⟨h1,h2⟩] at hk
   refine aZ hs ?_
   intro rv3 h hs
   refine aC (aA (aE hs rfl (aA (aE hs rfl ?_))))
   rw[hnl]
   refine aA (aP hs (by decide) (l:=Jj (n.d0,n.d1)) rfl rfl (Bi hC hlim hs hl fun h hs=>?_))
   generalize hr:((H l).1.cO n).leave n.core=r2 at hs hk
   have hc2:0≤r2.served.core∧r2.served.core<4:=by rw[←hr];exact hc
   have hs:Hs G h (kZ G hb p mb b o cap l C H n r2 (n.d0,n.d1)++L'):=by
    simp only[kZ,List.cons_append,List.nil_append]
    exact hs.to
   have hs00:=hs
   simp only[kZ,List.cons_append,List.nil_append] at hs
   have hs0:=hs
   obtain⟨wa,wc,hs⟩:=bU hs
   refine(aC (aA (aP hs (by decide) (l:=[.bool (r2.asked 0),.bool (r2.asked 1),.bool (r2.asked 2),.bool (r2.asked 3)]) rfl rfl (aR (c:=[.bool false,.bool false,.bool false,.bool false]) rfl (P1 (cS (fun hq=>?_) (fun hq=>?_)))))))
   ·have hq:r2.quiet=false:=by unfold Row.quiet;rw[hq];rfl
    simp only[Row.rest,hq,Bool.false_eq_true,if_false] at hk
    exact hk _ _ (lG (cN hb C H l r2 (n.d0,n.d1) _ mb b o cap hl rfl hs0)).to
   ·exact Lm hC hlim hl hnl hc2 (by unfold Row.quiet;rw[hq];rfl) hs00 hk
  ·rw[if_neg (by rw[h2];simp)] at hk
   generalize hr:((H l).1.cO n).leave n.core=r2 at hs hk
   have hc2:0≤r2.served.core∧r2.served.core<4:=by rw[←hr];exact hc
   refine Lp hC hlim hl hnl hc2 (m:=(H l).2) (H:=H) (mb:=mb) (b:=b) (o:=o) (cap:=cap) (L:=L') ?_ hk
   simp only[kZ,List.cons_append,List.nil_append,cU]
   exact hs.to
 ·have hm:(H l).1.nI (H l).2 n=(H l).2:=by unfold Row.nI;rw[if_neg (fun e=>h1 e.1)]
  simp only[Row.heard,if_neg h1,hm] at hk
  refine aA (aE hs rfl (bL (bE (fun h2=>bW ?_) (fun h2=>bW ?_))))
  ·simp only[if_pos h2] at hk
   refine aC (aA (bM hs rfl rfl rfl rfl ?_))
   intro h hs
   refine aZ hs ?_
   intro rv3 h hs
   refine aA (aE hs rfl (aA (aE hs rfl (Rg ?_))))
   have hs1:=hs
   refine aC (aA (fT hnc.1 hnc.2 (Lk {(H l).1.cO n with owner:= -1} hs rfl hnc ?_)))
   intro h hs
   refine hZ iN (hZ (aA iN) (hZ (aE hs1 rfl uM) (hZ (aC iN) (hZ (aA iN) ?_))))
   have hs0:=cE b (o+l*25) (((H l).1.cO n).tU n) wa wc hs rfl rfl rfl
   refine aA (aE hs rfl (cS (fun h3=>?_) (fun h3=>?_)))
   ·simp only[h3,if_true] at hk
    refine Qs (r:=((H l).1.cO n).tU n) hC hlim hl hnl hc (m:=(H l).2) (H:=H) (mb:=mb) (b:=b) (o:=o) (cap:=cap) (L:=L') ?_ hk
    simp only[kZ,List.cons_append,List.nil_append,cU]
    exact hs0.to
   ·simp only[h3,Bool.false_eq_true,if_false] at hk
    refine Lp (r:=((H l).1.cO n).tU n) hC hlim hl hnl hc (m:=(H l).2) (H:=H) (mb:=mb) (b:=b) (o:=o) (cap:=cap) (L:=L') ?_ hk
    simp only[kZ,List.cons_append,List.nil_append,cU]
    exact hs0.to
  ·simp only[if_neg h2] at hk
   refine aA (aE hs rfl (cS (fun h3=>?_) (fun h3=>?_)))
   ·simp only[h3,if_true] at hk
    refine Qs (r:=(H l).1.cO n) hC hlim hl hnl hc (m:=(H l).2) (H:=H) (mb:=mb) (b:=b) (o:=o) (cap:=cap) (L:=L') ?_ hk
    simp only[kZ,List.cons_append,List.nil_append,cU]
    exact hs0.to
   ·simp only[h3,Bool.false_eq_true,if_false] at hk
    refine Lp (r:=(H l).1.cO n) hC hlim hl hnl hc (m:=(H l).2) (H:=H) (mb:=mb) (b:=b) (o:=o) (cap:=cap) (L:=L') ?_ hk
    simp only[kZ,List.cons_append,List.nil_append,cU]
    exact hs0.to
end Go.Proofs.YthgemaaghgpncaaDoor.H
end
section
namespace Go.Proofs.YthgemaaghgpncaaDoor.H
open Go Go.Ab Go.Hm
set_option maxRecDepth 100000
variable {G:Bg} {h:AH} {L L':List HP}
theorem C6 {b o:Nat} {line state x:Int} {r:Row} {Q:Value→AH→Prop} (hs:Hs G h L) [m:Has (dU b o) L r L'] (hk:∀v h',Hs G h' (dH v (cQ line state (r.dB x))::dU b o (r.dT (r.dB x))::L')→Q v h'):
  Cl Pr K 52 [pt b o 0,I x] h fun v h'=>Cl Pr K 51 [pt b o 0,I line,I state,v] h' Q:=by
 refine K2 (m.of hs) fun p q h hs=>?_
 have hs:=Bz (hs.front (dU b o r))
 refine vO (G:=G) (r:=r) (A:=vB b o p q x r) (L:=L') N2 Kq qT (by kernel_rfl) ?_ fun v h hs=>hk v h ?_
 ·simp only[vB]
  exact hs.to
 ·have hs:=hs.tE.unpack
  have hs:Hs G h (Nl b o r::zI b o (r.dT (r.dB x))::dH v (cQ line state (r.dB x))::L'):=hs.to
  exact(D4 (r:=r.dT (r.dB x)) hs).tE
theorem Nv {b o:Nat} {line state:Int} {e:TypeId} {a:Option Addr} {c:Nat} {r:Row} {x:Int} {cs:List Value} {Q:Value→AH→Prop} (hx:0≤x∧x<4) (hs:Hs G h L) [m:Has (dP 1 e a c) L (1,cs) L'] (hcs:cs=[I x]) {M:List HP} [m2:Has (dU b o) L' r M] (hk:∀v h',Hs G h' (dH v (cQ line state [x.toNat])::dU b o (r.dT [x.toNat])::M)→Q v h'):
  Cl Pr K 71 [.slice a 1 c] h fun v h'=>Cl Pr K 51 [pt b o 0,I line,I state,v] h' Q:=by
 subst hcs
 have hs:Hs G h (dP 1 e a c (1,[x].map I)::dU b o r::M):=hs.perm (m.perm.trans (m2.perm.cons _))
 refine Nr (e:=e) (xs:=[x]) rfl hs fun p h hs=>?_
 have hs:=Bz (hs.front (dU b o r))
 have hy:en Pr K G 74 [] [pt p 0 0] (Qz e p a c [x]) ([x.toNat].map fun(c:Nat)=>[I c]):=by
  have:=Ro (G:=G) (e:=e) (p:=p) (a:=a) (c:=c) (xs:=[x]) (by simp)
  simp only[List.map_cons,List.map_nil,Int.toNat_of_nonneg hx.1] at this ⊢
  exact this
 refine vO (G:=G) (r:=r) (A:=Qz e p a c [x]) (L:=Nl b o r::M) hy (fun c hc=>by simp at hc;omega) (by simp) (by kernel_rfl) ?_ fun v h hs=>hk v h ?_
 ·exact hs.to
 ·have hs:Hs G h (Nl b o r::zI b o (r.dT [x.toNat])::dH v (cQ line state [x.toNat])::M):=hs.to
  exact(D4 (r:=r.dT [x.toNat]) hs).tE
end Go.Proofs.YthgemaaghgpncaaDoor.H
end
section
namespace Go.Proofs.YthgemaaghgpncaaDoor.H
open Go Go.Ab Go.Hm
set_option maxRecDepth 100000
variable {G:Bg} {h:AH} {L L':List HP}
set_option maxHeartbeats 2000000 in
theorem Em {C:bJ} (hC:C.Ok) {hb l:Nat} {H:iQ} {n:aF} {world:Int} {Q:Value→AH→Prop} (hlim:Ob G 0 eJ) (hs:Hs G h L) [m:Has (eK G hb C) L H L'] (hl:l<C.lines) (hnc:0≤n.core∧n.core<4) (how: -1≤(H l).1.owner∧(H l).1.owner<4)
  (hk:∀v h',Hs G h' (dH v ((H l).1.get l (H l).2 n world).2::eK G hb C (aJ H l (((H l).1.get l (H l).2 n world).1,(H l).2))::L')→Q v h'):
  Cl Pr K 49 [pt hb 0 0,I l,I world,.agg ⟨n.enc⟩] h Q:=by
 have hs:=m.of hs
 simp only[Row.get] at hk
 refine cW (iA hs ?_)
 intro p h hs
 obtain⟨mb,b,o,cap,hs⟩:=uD hl (hs.front (eK G hb C H))
 obtain⟨wa,wc,hs⟩:=bU hs
 refine aC (aA (aE hs rfl (dW hl (aZ hs ?_))))
 intro rv h hs
 refine aP hs (by decide) (l:=n.enc) rfl rfl (aC (aA (bM hs rfl rfl rfl rfl ?_)))
 intro h hs
 have hs1:=hs
 refine aC (aA (bM hs rfl rfl rfl rfl ?_))
 intro h hs
 refine aC (aA (bM hs rfl rfl rfl rfl ?_))
 intro h hs
 refine hZ iN (hZ iN (hZ iN (hZ (aP hs1 (by decide) (l:=n.enc) rfl rfl (rQ (by simp[mL,aF.enc]))) (hZ uM (hZ uM ?_)))))
 refine aA (aE hs rfl (bH ?_))
 have hs:=cE b (o+l*25) ((H l).1.serve n world) wa wc hs rfl rfl rfl
 have hsc:((H l).1.serve n world).served.core=n.core:=rfl
 have how: -1≤((H l).1.serve n world).owner∧((H l).1.serve n world).owner<4:=how
 generalize hr:(H l).1.serve n world=r at hs hk hsc how
 have cI:∀(r2:Row),r2.served.core=n.core→∀h,Hs G h (dU b (o+l*25) r2::aO hb 0 (mH mb C b o cap)::iI G C.lines mb C (fun i=>(H i).2)::hole G 25 90 (some ⟨b,o,none⟩) cap C.lines b o::rA b o C.lines H l::L')→
   (∀v h',Hs G h' (dH v (r2.cI l (r2.lR (H l).2)).2::eK G hb C (aJ H l ((r2.cI l (r2.lR (H l).2)).1,(H l).2))::L')→Q v h')→Cl Pr K 70 [pt hb 0 0,I l] h Q:=fun r2 hc2 h hs hk=>by
  have hs:=cN hb C H l r2 (H l).2 _ mb b o cap hl cU.symm hs
  refine uG hC hlim hs hl (by simp only[cP,hc2];exact hnc) fun v h hs=>hk _ _ ?_
  simp only[cP,tJ] at hs
  exact hs.to
 have probe:∀(r2:Row) (N:List aF) v h,Hs G h (dH v N::dU b (o+l*25) r2::aO hb 0 (mH mb C b o cap)::iI G C.lines mb C (fun i=>(H i).2)::hole G 25 90 (some ⟨b,o,none⟩) cap C.lines b o::rA b o C.lines H l::L')→Hs G h (dH v N::eK G hb C (aJ H l (r2,(H l).2))::L'):=fun r2 N v h hs=>
  (cN hb C H l r2 (H l).2 _ mb b o cap hl cU.symm hs).to
 refine bE (fun h1=>?_) (fun h1=>?_)
 ·simp only[if_pos h1,Row.getM,hsc] at hk
  refine bW (aA (aE hs rfl (Az hs fun hs=>bL (bE (fun h2=>?_) (fun h2=>?_)))))
  ·rw[if_pos h2] at hk
   refine aA (aE hs rfl (C6 hs fun v h hs=>hk _ _ ?_))
   exact probe _ _ _ _ hs.to
  ·rw[if_neg h2] at hk
   exact cI r hsc _ hs.to hk
 ·simp only[if_neg h1,Row.Jb] at hk
  refine bW (aZ hs ?_)
  intro rv2 h hs
  obtain⟨wa,wc,hs⟩:=bU (hs.front (dU b (o+l*25) r))
  refine aC (aA (aE hs rfl (aA (aE hs rfl (bH (bE (fun h2=>bW ?_) (fun h2=>bW ?_)))))))
  ·have hu:r.jX={r with owner:= -1}:=by unfold Row.jX;rw[if_pos (by rw[hsc];exact h2)]
   rw[hu] at hk
   simp only[ne_eq,not_true_eq_false,if_false] at hk
   refine aC (aA (bM hs rfl rfl rfl rfl ?_))
   intro h hs
   refine aC (aA (aE hs rfl (bL (aY (by simp) ?_))))
   have hs:=cE b (o+l*25) {r with owner:= -1} wa wc hs rfl rfl rfl
   exact cI {r with owner:= -1} hsc _ hs.to hk
  ·have hu:r.jX=r:=by unfold Row.jX;rw[if_neg (by rw[hsc];exact h2)]
   rw[hu] at hk
   refine aC (aA (aE hs rfl (bL (bE (fun h3=>?_) (fun h3=>?_)))))
   ·rw[if_pos h3] at hk
    refine aC (aA (aE hs rfl (aR (c:=[I r.owner]) rfl (fB hs rfl rfl rfl ?_))))
    intro a h hs
    have hs:=cE b (o+l*25) r wa wc hs rfl rfl rfl
    refine Nv (e:=3) (by omega) hs rfl fun v h hs=>hk _ _ ?_
    exact probe _ _ _ _ hs.to
   ·rw[if_neg h3] at hk
    have hs:=cE b (o+l*25) r wa wc hs rfl rfl rfl
    exact cI r hsc _ hs.to hk
end Go.Proofs.YthgemaaghgpncaaDoor.H
end
section
namespace Go.Proofs.YthgemaaghgpncaaDoor.H
open Go Go.Ab Go.Hm
set_option maxRecDepth 100000
variable {G:Bg} {h:AH} {L L':List HP}
theorem mC {C:bJ} {hb mb b o cap:Nat} {x:Int} {Q:Value→AH→Prop} (hs:Hs G h L) [m:Has (aO hb 0) L (mH mb C b o cap) L'] (hk:Q (.bool (decide (C.has x))) h):Cl Pr K 30 [pt hb 0 0,I x] h Q:=by
 refine cW (Y4 (mV (lI (bE (fun h1=>?_) (fun h1=>?_)))))
 ·refine aC (aA (aE hs rfl (eV (bC ?_))))
  show Q _ _
  rw[show decide (x<(C.lines:Int))=decide (C.has x) from decide_eq_decide.2 ⟨fun h=>⟨h1,h⟩,fun h=>h.2⟩]
  exact hk
 ·show Q _ _
  rw[show false=decide (C.has x) from(decide_eq_false (fun h=>h1 h.1)).symm]
  exact hk
theorem uL {C:bJ} {H:iQ} {b o l:Nat} (hl:l<C.lines) (hs:Hs G h L) [k:fO (mU C.lines fun i=>dU b (o+i*25) (H i).1) L L']:Hs G h (dU b (o+l*25) (H l).1::rA b o C.lines H l::L'):=
 (hs.front (mU C.lines fun i=>dU b (o+i*25) (H i).1)).tX l hl
theorem pP (C:bJ) (H:iQ) (hb mb b o cap:Nat) {L1 L2 L3 L4:List HP} (hs:Hs G h L) [k2:fO (aO hb 0 (mH mb C b o cap)) L L1] [k3:fO (iI G C.lines mb C (fun i=>(H i).2)) L1 L2]
  [k4:fO (hole G 25 90 (some ⟨b,o,none⟩) cap C.lines b o) L2 L3] [k5:fO (mU C.lines fun i=>dU b (o+i*25) (H i).1) L3 L4]:Hs G h (eK G hb C H::L4):=
 D2 (mb:=mb) (b:=b) (o:=o) (cap:=cap) (hs.perm (k2.perm.trans ((k3.perm.trans ((k4.perm.trans (k5.perm.cons _)).cons _)).cons _)))
section
variable {C:bJ} {hb mb b o cap p l:Nat} {H:iQ} {n:aF} {Q:Value→AH→Prop}
theorem W7 (hC:C.Ok) (hlim:Ob G 0 eJ) (hl:l<C.lines) (hnl:n.line=l) (hnc:0≤n.core∧n.core<4) (hi:(H l).1.Inv) (hw:(H l).1.waits.length<2^30)
  (hs:Hs G h (aO p 0 n.enc::aO hb 0 (mH mb C b o cap)::iI G C.lines mb C (fun i=>(H i).2)::hole G 25 90 (some ⟨b,o,none⟩) cap C.lines b o::mU C.lines (fun i=>dU b (o+i*25) (H i).1)::L))
  (hk:∀v h',Hs G h' (dH v (eU.take (H l) l n).2.1::eK G hb C (aJ H l (eU.take (H l) l n).1)::L)→Q (.tuple ⟨[v,I (eU.take (H l) l n).2.2]⟩) h'):
  Dd 29 6 [] Q [(pt hb 0 0),(pt p 0 0)] h:=by
 unfold eU.take at hk
 refine bW (aZ hs ?_)
 intro rv h hs
 have hs:=uL (H:=H) (b:=b) (o:=o) hl hs
 have same:∀h,Hs G h (dU b (o+l*25) (H l).1::rA b o C.lines H l::aO p 0 n.enc::aO hb 0 (mH mb C b o cap)::iI G C.lines mb C (fun i=>(H i).2)::hole G 25 90 (some ⟨b,o,none⟩) cap C.lines b o::L)→Hs G h (dH (.slice none 0 0) []::eK G hb C (aJ H l (H l))::L):=fun h hs=>
  lG ((cN hb C H l (H l).1 (H l).2 _ mb b o cap hl cU.symm hs).to)
 have hs0:Hs G h (dU b (o+l*25) (H l).1::rA b o C.lines H l::aO p 0 n.enc::aO hb 0 (mH mb C b o cap)::iI G C.lines mb C (fun i=>(H i).2)::hole G 25 90 (some ⟨b,o,none⟩) cap C.lines b o::L):=hs.to
 obtain⟨wa,wc,hs⟩:=bU hs
 refine aC (aA (aE hs rfl (aA (aE hs rfl ?_))))
 rw[hnl]
 refine dW hl (aA (aE hs rfl (bH (bE (fun h1=>bW ?_) (fun h1=>bW ?_)))))
 ·rw[if_pos h1] at hk
  refine aZ hs ?_
  intro rv2 h hs
  refine aC (aA (aE hs rfl (dY (gU (cS (fun h2=>?_) (fun h2=>?_))))))
  ·refine aC (aA (aA (aE hs rfl (aA (aE hs rfl (bL (bE (fun h3=>?_) (fun h3=>bW ?_))))))))
   ·rw[if_pos (.inr h3)] at hk
    exact hk _ _ (same _ (cE b (o+l*25) (H l).1 wa wc hs rfl rfl rfl).to)
   ·rw[if_neg (by rw[h2];simpa using h3)] at hk
    have hs:=cE b (o+l*25) (H l).1 wa wc hs rfl rfl rfl
    refine Nb hs fun h hs=>hk _ _ ?_
    exact lG ((cN hb C H l (H l).1.free (H l).2 _ mb b o cap hl cU.symm hs).to)
  ·rw[if_pos (.inl h2)] at hk
   exact hk _ _ (same _ (cE b (o+l*25) (H l).1 wa wc hs rfl rfl rfl).to)
 ·rw[if_neg h1] at hk
  refine bH (bE (fun h2=>bW ?_) (fun h2=>bW ?_))
  ·rw[if_pos h2] at hk
   refine aZ hs ?_
   intro rv2 h hs
   refine aA (aE hs rfl (aC (aA (fT hnc.1 hnc.2 (aE hs (v:= .bool ((H l).1.asked n.core.toNat)) ?_ (dY (gU (cS (fun h3=>?_) (fun h3=>?_)))))))))
   ·have:n.core.toNat=0∨n.core.toNat=1∨n.core.toNat=2∨n.core.toNat=3:=by omega
    rcases this with e|e|e|e<;>rw[e]<;>rfl
   ·rw[if_neg (by rw[h3];simp)] at hk
    refine aP hs (by decide) (l:=n.enc) rfl rfl ?_
    have hs:=cE b (o+l*25) (H l).1 wa wc hs rfl rfl rfl
    have hs:=cN hb C H l (H l).1 (H l).2 _ mb b o cap hl cU.symm hs
    rw[show aJ H l ((H l).1,(H l).2)=H from gR] at hs
    exact Pp hC hlim hs hl hnl hnc hi.core fun v h hs=>hk _ _ hs.to
   ·rw[if_pos h3] at hk
    exact hk _ _ (same _ (cE b (o+l*25) (H l).1 wa wc hs rfl rfl rfl).to)
  ·rw[if_neg h2] at hk
   refine aZ hs ?_
   intro rv2 h hs
   refine aC (aA (aE hs rfl (aP hs (by decide) (l:=n.enc) rfl rfl (aR (c:=n.enc) rfl ?_))))
   refine oI hs rfl rfl rfl rfl rfl ?_
   intro a h hs
   refine oW hs (by omega) ?_
   intro a4 c4 h hs
   dsimp only
   refine aC (aA (bM hs rfl rfl rfl rfl ?_))
   intro h hs
   refine hZ iN (hk _ _ ?_)
   have hs:=cE b (o+l*25) ((H l).1.wait n) a4 c4 hs (by simp[Row.enc,pJ,Row.wait]) (by simp[Row.wait]) (by simp[pW,Row.wait])
   exact lG ((cN hb C H l ((H l).1.wait n) (H l).2 _ mb b o cap hl cU.symm hs).to)
end
end Go.Proofs.YthgemaaghgpncaaDoor.H
end
section
namespace Go.Proofs.YthgemaaghgpncaaDoor.H
open Go Go.Ab Go.Hm
set_option maxRecDepth 100000
variable {G:Bg} {h:AH} {L L':List HP}
section
variable {C:bJ} {hb mb b o cap p l:Nat} {H:iQ} {n:aF} {Q:Value→AH→Prop}
theorem Ww (hC:C.Ok) (hlim:Ob G 0 eJ) (hi:Jy C H (2^30 - 1)) {t:Value}
  (hs:Hs G h (aO p 0 n.enc::aO hb 0 (mH mb C b o cap)::iI G C.lines mb C (fun i=>(H i).2)::hole G 25 90 (some ⟨b,o,none⟩) cap C.lines b o::mU C.lines (fun i=>dU b (o+i*25) (H i).1)::L)) (hkd:fK n.kind)
  (hk:∀v h',Hs G h' (dH v (bY C H n).2.1::eK G hb C (bY C H n).1::L)→Q (.tuple ⟨[v,I (bY C H n).2.2]⟩) h'):Dd 29 4 [] Q [(pt hb 0 0),(pt p 0 0),t] h:=by
 unfold bY at hk
 rw[if_neg (by simpa using hkd)] at hk
 have hc4:C.bT≤4:=hC.1.2
 have no:¬((0≤n.core∧n.core<C.bT)∧C.has n.line)→∀h,Hs G h (aO p 0 n.enc::aO hb 0 (mH mb C b o cap)::iI G C.lines mb C (fun i=>(H i).2)::hole G 25 90 (some ⟨b,o,none⟩) cap C.lines b o::mU C.lines (fun i=>dU b (o+i*25) (H i).1)::L)→Q (.tuple ⟨[.slice none 0 0,I 10]⟩) h:=fun hn h hs=>by
  rw[if_neg hn] at hk
  exact hk _ _ (lG (pP C H hb mb b o cap hs)).to
 refine bW (aZ hs ?_)
 intro rv h hs
 refine aA (aE hs rfl (bC (bE (fun h1=>no (by omega) _ hs.to) (fun h1=>?_))))
 refine aA (aE hs rfl (aC (aA (aA (aE hs rfl (lI (bE (fun h2=>no (by omega) _ hs.to) (fun h2=>?_))))))))
 refine aA (aE hs rfl (mC hs (dY (gU (bE (fun h3=>?_) (fun h3=>no (fun e=>h3 e.2) _ hs.to))))))
 rw[if_pos ⟨by omega,h3⟩] at hk
 obtain⟨l,hnl⟩:=Int.eq_ofNat_of_zero_le h3.1
 have hll:l<C.lines:=by have:=h3.2;omega
 have e:n.line.toNat=l:=by omega
 rw[e] at hk
 rw[hnl] at hk
 dsimp only at hk
 exact W7 (mb:=mb) (b:=b) (o:=o) (cap:=cap) hC hlim hll hnl (by omega) (hi l hll).1 (by have:=(hi l hll).2;omega) hs.to hk
end
theorem Ga {C:bJ} (hC:C.Ok) {hb:Nat} {H:iQ} {n:aF} {Q:Value→AH→Prop} (hlim:Ob G 0 eJ) (hi:Jy C H (2^30 - 1)) (hs:Hs G h L) [m:Has (eK G hb C) L H L']
  (hk:∀v h',Hs G h' (dH v (bY C H n).2.1::eK G hb C (bY C H n).1::L')→Q (.tuple ⟨[v,I (bY C H n).2.2]⟩) h'):Cl Pr K 29 [pt hb 0 0,.agg ⟨n.enc⟩] h Q:=by
 refine cW (iA (m.of hs) ?_)
 intro p h hs
 obtain⟨mb,b,o,cap,hs⟩:=kY hs.tE
 have key:∀t,fK n.kind→Dd 29 4 [] Q [(pt hb 0 0),(pt p 0 0),t] h:=fun t hkd=>Ww (mb:=mb) (b:=b) (o:=o) (cap:=cap) hC hlim hi hs.to hkd hk
 have no:¬fK n.kind→Q (.tuple ⟨[.slice none 0 0,I 15]⟩) h:=fun hn=>by
  unfold bY at hk
  rw[if_pos hn] at hk
  exact hk _ _ (lG (pP C H hb mb b o cap hs)).to
 refine iJ (eS (bW (aA (aE hs rfl (bH (bE (fun h1=>bW (cM h1 (key _ (by unfold fK;omega)))) (fun h1=>bW (bH (bE (fun h2=>bW (cM h2 (key _ (by unfold fK;omega)))) (fun h2=>bW ?_))))))))))
 refine bH (bE (fun h3=>bW (cM h3 (key _ (by unfold fK;omega)))) (fun h3=>bW ?_))
 refine bH (bE (fun h4=>bW (cM h4 (key _ (by unfold fK;omega)))) (fun h4=>bW ?_))
 exact bH (bE (fun h5=>key _ (by unfold fK;omega)) (fun h5=>no (by unfold fK;omega)))
theorem Hw {C:bJ} {hb:Nat} {H:iQ} {x:Int} {Q:Value→AH→Prop} (hi:Jy C H (2^30 - 1)) (hs:Hs G h L) [m:Has (eK G hb C) L H L']
  (hk:∀h',Hs G h' (eK G hb C (dI C H x).1::L')→Q (I (dI C H x).2) h'):Cl Pr K 13 [pt hb 0 0,I x] h Q:=by
 obtain⟨mb,b,o,cap,hs⟩:=kY (m.of hs)
 unfold dI at hk
 refine cW (iJ (eS (bW (mC hs (dY (gU (bE (fun h3=>bW ?_) (fun h3=>?_))))))))
 ·rw[if_pos h3] at hk
  obtain⟨l,rfl⟩:=Int.eq_ofNat_of_zero_le h3.1
  simp only[eU.vJ,Int.toNat_natCast] at hk
  have hl:l<C.lines:=by have:=h3.2;omega
  have hs:=uL (H:=H) (b:=b) (o:=o) hl hs
  obtain⟨wa,wc,hs⟩:=bU hs
  have hw:=(hi l hl).2
  refine aC (aA (aE hs rfl (dW hl (aC (aA (aE hs rfl (aR (c:=(iW l).enc) rfl (aR (c:=(iW l).enc) rfl ?_))))))))
  refine fB hs rfl rfl rfl ?_
  intro a h hs
  refine oW hs (by omega) ?_
  intro a4 c4 h hs
  dsimp only
  refine aC (aA (bM hs rfl rfl rfl rfl ?_))
  intro h hs
  refine hk _ ?_
  have hs:=cE b (o+l*25) ((H l).1.wait (iW l)) a4 c4 hs (by simp[Row.enc,pJ,Row.wait]) (by simp[Row.wait]) (by simp[pW,Row.wait])
  exact(cN hb C H l ((H l).1.wait (iW l)) (H l).2 _ mb b o cap hl cU.symm hs).to
 ·rw[if_neg h3] at hk
  exact hk _ (pP C H hb mb b o cap hs).to
structure Kb (G:Bg) (A:HP) (jv:Value) (j:Int→Int→Int×Bool):Prop where
 ne:∀k:Value→Prop,k (.bool false)→aN (S7 true .eql jv .nilIface) k
 may:∀(h:AH) (L M:List HP) (w l:Int) (Q:Value→AH→Prop),L.Perm (A::M)→Hs G h L→(∀h',Hs G h' L→Q (.tuple ⟨[I (j w l).1,.bool (j w l).2]⟩) h')→Cl Pr K 48 [jv,I w,I l] h Q
section
variable {C:bJ} {hb mb b o cap p l:Nat} {H:iQ} {n:aF} {r:Row} {Q:Value→AH→Prop} {j:Int→Int→Int×Bool} {jv:Value}
def A2 (G:Bg) (hb p mb b o cap l:Nat) (C:bJ) (H:iQ) (n:aF) (r:Row):List HP:=
 [dU b (o+l*25) r,aO p 0 n.enc,aO hb 0 (mH mb C b o cap),iI G C.lines mb C (fun i=>(H i).2),hole G 25 90 (some ⟨b,o,none⟩) cap C.lines b o,rA b o C.lines H l]
theorem R7 (hl:l<C.lines) (hkd:n.kind≠3∧n.kind≠1∧n.kind≠2) (hs:Hs G h (A2 G hb p mb b o cap l C H n r++L)) {t:Value}
  (hk:∀v h',Hs G h' (dH v (r.begun l (H l).2 n (fun w=>j w l)).2::eK G hb C (aJ H l (r.begun l (H l).2 n (fun w=>j w l)).1)::L)→Q (.tuple ⟨[v,I 0]⟩) h'):Dd 25 13 [] Q [(pt hb 0 0),(I l),jv,(pt b (o+l*25) 0),(pt p 0 0),t] h:=by
 unfold Row.begun at hk
 rw[if_neg hkd.1,if_neg (by omega)] at hk
 simp only[A2,List.cons_append,List.nil_append] at hs
 refine bW (Az hs fun hs=>bH (bE (fun h1=>?_) (fun h1=>bW (aZ hs ?_))))
 ·rw[if_pos h1] at hk
  exact hk _ _ (lG ((cN hb C H l r (H l).2 _ mb b o cap hl cU.symm hs).to))
 ·rw[if_neg h1] at hk
  intro rv h hs
  refine aP hs (by decide) (l:=n.enc) rfl rfl ?_
  obtain⟨wa,wc,hs⟩:=bU (hs.front (dU b (o+l*25) r))
  refine aC (aA (bM hs rfl rfl rfl rfl ?_))
  intro h hs
  have hs1:=hs
  refine aC (aA (bM hs rfl rfl rfl rfl ?_))
  intro h hs
  refine hZ iN (hZ (aP hs1 (by decide) (l:=n.enc) rfl rfl (rQ (by simp[mL,aF.enc]))) ?_)
  have hs:=cE b (o+l*25) (r.F1 n) wa wc hs rfl rfl rfl
  have e:(r.F1 n).dB (-1)=r.dB (-1):=rfl
  refine C6 hs fun v h hs=>hk _ _ ?_
  rw[e] at hs
  exact(cN hb C H l ((r.F1 n).dT (r.dB (-1))) (H l).2 _ mb b o cap hl cU.symm hs).to
theorem G7 (hC:C.Ok) (hlim:Ob G 0 eJ) {A:HP} {M0:List HP} (hj:Kb G A jv j) (hA:L.Perm (A::M0)) (hl:l<C.lines) (hnc:0≤n.core∧n.core<4) (how: -1≤r.owner∧r.owner<4) (hkd:n.kind=1∨n.kind=2) (hs:Hs G h (A2 G hb p mb b o cap l C H n r++L))
  (hk:∀v h',Hs G h' (dH v (r.begun l (H l).2 n (fun w=>j w l)).2::eK G hb C (aJ H l (r.begun l (H l).2 n (fun w=>j w l)).1)::L)→Q (.tuple ⟨[v,I 0]⟩) h'):Dd 25 12 [] Q [(pt hb 0 0),(I l),jv,(pt p 0 0)] h:=by
 unfold Row.begun at hk
 rw[if_neg (by omega),if_pos hkd] at hk
 simp only[A2,List.cons_append,List.nil_append] at hs
 refine bW (aA (aE hs rfl (hj.may _ _ _ _ _ _ ((hA.append_left (A2 G hb p mb b o cap l C H n r)).trans List.perm_middle) hs fun h hs=>?_)))
 simp only[A2,List.cons_append,List.nil_append] at hs
 refine aL rfl (aL rfl (dY (gU (cS (fun h1=>?_) (fun h1=>?_)))))
 ·rw[if_pos h1] at hk
  refine aP hs (by decide) (l:=n.enc) rfl rfl ?_
  have hs:=cN hb C H l r (H l).2 _ mb b o cap hl cU.symm hs
  refine Em hC hlim hs hl hnc (by simp only[cP];exact how) fun v h hs=>hk _ _ ?_
  simp only[cP,tJ] at hs
  exact hs.to
 ·rw[if_neg (by rw[h1];simp)] at hk
  refine aA (aE hs rfl (aR (c:=(iL 9 n.core l).enc) rfl (aR (c:=(iL 9 n.core l).enc) rfl (fB hs rfl rfl rfl ?_))))
  intro a h hs
  refine hk _ _ ?_
  have hs:=tL (n:=iL 9 n.core l) rfl hs
  exact(cN hb C H l r (H l).2 _ mb b o cap hl cU.symm hs).to
theorem U7 (hC:C.Ok) (hlim:Ob G 0 eJ) (hl:l<C.lines) (hnc:0≤n.core∧n.core<4) (hkd:n.kind=3) (hs:Hs G h (A2 G hb p mb b o cap l C H n r++L))
  (hk:∀v h',Hs G h' (dH v (r.begun l (H l).2 n (fun w=>j w l)).2::eK G hb C (aJ H l (r.begun l (H l).2 n (fun w=>j w l)).1)::L)→Q (.tuple ⟨[v,I 0]⟩) h'):Dd 25 6 [] Q [(pt hb 0 0),(I l),(pt b (o+l*25) 0),(pt p 0 0)] h:=by
 unfold Row.begun at hk
 rw[if_pos hkd] at hk
 simp only[A2,List.cons_append,List.nil_append] at hs
 refine bW (aZ hs ?_)
 intro rv h hs
 obtain⟨wa,wc,hs⟩:=bU (hs.front (dU b (o+l*25) r))
 refine aC (aA (aE hs rfl (aA (aE hs rfl (bH (bE (fun h1=>?_) (fun h1=>?_)))))))
 ·have hs:=cE b (o+l*25) r wa wc hs rfl rfl rfl
  refine aA (aE hs rfl (cS (fun h2=>bW (aZ hs ?_)) (fun h2=>bW ?_)))
  ·rw[if_pos ⟨h1,h2⟩] at hk
   intro rv h hs
   refine aC (aA (aE hs rfl (aA (aP hs (by decide) (l:=Jj (n.d0,n.d1)) rfl rfl (Bi hC hlim hs hl fun h hs=>?_)))))
   refine aA (aE hs rfl (vS hs hnc fun h hs=>?_))
   refine aA (aE hs rfl (aR (c:=(iL 10 n.core l).enc) rfl (aR (c:=(iL 10 n.core l).enc) rfl (fB hs rfl rfl rfl ?_))))
   intro a h hs
   refine hk _ _ ?_
   have hs:=tL (n:=iL 10 n.core l) rfl hs
   exact(cN hb C H l (r.leave n.core) (n.d0,n.d1) _ mb b o cap hl rfl hs).to
  ·rw[if_neg (by rw[h2];simp)] at hk
   refine aA (aE hs rfl (vS hs hnc fun h hs=>?_))
   refine aA (aE hs rfl (aR (c:=(iL 10 n.core l).enc) rfl (aR (c:=(iL 10 n.core l).enc) rfl (fB hs rfl rfl rfl ?_))))
   intro a h hs
   refine hk _ _ ?_
   have hs:=tL (n:=iL 10 n.core l) rfl hs
   exact(cN hb C H l (r.leave n.core) (H l).2 _ mb b o cap hl cU.symm hs).to
 ·rw[if_neg (fun e=>h1 e.1)] at hk
  have hs:=cE b (o+l*25) r wa wc hs rfl rfl rfl
  refine aA (aE hs rfl (vS hs hnc fun h hs=>?_))
  refine aA (aE hs rfl (aR (c:=(iL 10 n.core l).enc) rfl (aR (c:=(iL 10 n.core l).enc) rfl (fB hs rfl rfl rfl ?_))))
  intro a h hs
  refine hk _ _ ?_
  have hs:=tL (n:=iL 10 n.core l) rfl hs
  exact(cN hb C H l (r.leave n.core) (H l).2 _ mb b o cap hl cU.symm hs).to
end
theorem Pu {C:bJ} (hC:C.Ok) {hb:Nat} {H:iQ} {x:Int} {jv:Value} {j:Int→Int→Int×Bool} {N:Nat} {Q:Value→AH→Prop} (hlim:Ob G 0 eJ) {A:HP} {M0:List HP} (hj:Kb G A jv j) (hi:Jy C H N) (hs:Hs G h L) [m:Has (eK G hb C) L H L'] (hA:L'.Perm (A::M0))
  (hk:∀v h',Hs G h' (dH v (dL C H x (fun w=>j w x)).2.1::eK G hb C (dL C H x (fun w=>j w x)).1::L')→Q (.tuple ⟨[v,I (dL C H x (fun w=>j w x)).2.2]⟩) h'):Cl Pr K 25 [pt hb 0 0,I x,jv] h Q:=by
 obtain⟨mb,b,o,cap,hs⟩:=kY (m.of hs)
 unfold dL at hk
 refine cW (iJ (eS (bW (mC hs (dY (gU (bE (fun h3=>bW (hj.ne _ (eS (bW ?_)))) (fun h3=>?_))))))))
 rotate_left
 ·rw[if_neg h3] at hk
  exact hk _ _ (lG (pP C H hb mb b o cap hs)).to
 rw[if_pos h3] at hk
 obtain⟨l,rfl⟩:=Int.eq_ofNat_of_zero_le h3.1
 have hl:l<C.lines:=by have:=h3.2;omega
 simp only[Int.toNat_natCast] at hk
 have hs:=uL (H:=H) (b:=b) (o:=o) hl hs
 obtain⟨wa,wc,hs⟩:=bU hs
 have same:∀h,Hs G h (dU b (o+l*25) (H l).1::rA b o C.lines H l::aO hb 0 (mH mb C b o cap)::iI G C.lines mb C (fun i=>(H i).2)::hole G 25 90 (some ⟨b,o,none⟩) cap C.lines b o::L')→Hs G h (dH (.slice none 0 0) []::eK G hb C (aJ H l (H l))::L'):=fun h hs=>
  lG ((cN hb C H l (H l).1 (H l).2 _ mb b o cap hl cU.symm hs).to)
 unfold eU.begin at hk
 refine aC (aA (aE hs rfl (dW hl (aC (aA (aE hs rfl (cS (fun h4=>?_) (fun h4=>bW ?_))))))))
 ·rw[if_pos h4] at hk
  exact hk _ _ (same _ (cE b (o+l*25) (H l).1 wa wc hs rfl rfl rfl).to)
 rw[if_neg (by rw[h4];simp)] at hk
 refine aC (aA (aE hs rfl (eV (bH (bE (fun h5=>?_) (fun h5=>bW ?_))))))
 ·have hw:(H l).1.waits=[]:=List.eq_nil_of_length_eq_zero (by omega)
  rw[hw] at hk
  exact hk _ _ (same _ (cE b (o+l*25) (H l).1 wa wc hs rfl rfl rfl).to)
 ·cases hw:(H l).1.waits with
  |nil=>rw[hw] at h5;simp at h5
  |cons n w=>
   rw[hw] at hk
   dsimp only at hk
   have hin:=(hi l hl).1
   have hnc:=hin.waits n (by rw[hw];exact List.mem_cons_self)
   have hslc:=hs.front (dP 9 77 wa wc ((H l).1.waits.length,cT (H l).1.waits))
   rw[hw] at hslc
   simp only[List.length_cons,zO] at hslc
   obtain⟨b2,o2,rfl,HH,hs2,_⟩:=hslc.nC (by omega)
   refine aC (aA (aE hs rfl ?_))
   rw[hw]
   refine dW (i:=0) (by simp) (Bf hs2 (by decide) (l:=n.enc) (by simp[aF.enc]) rfl ?_)
   clear hs2
   refine gP hslc ?_
   intro p h hs
   refine dR hs rfl rfl rfl rfl ?_
   intro h hs
   refine aC (aA (aE hs rfl ?_))
   rw[hw]
   refine Qn (e:=77) hs ?_
   intro a' c' hs
   refine aC (aA (bM hs rfl rfl rfl rfl ?_))
   intro h hs
   have hs:=cE b (o+l*25) ((H l).1.next w) a' c' hs rfl rfl (by simp[Row.next,aF.enc])
   have hs:Hs G h (A2 G hb p mb b o cap l C H n ((H l).1.next w)++L'):=by
    simp only[A2,List.cons_append,List.nil_append]
    exact hs.to
   have hs0:=hs
   simp only[A2,List.cons_append,List.nil_append] at hs0
   refine aA (aE hs0 rfl (bH (bE (fun k1=>U7 (j:=j) hC hlim hl hnc k1 hs hk) (fun k1=>bW (bH (bE (fun k2=>bW (cM k2 (G7 (r:=(H l).1.next w) hC hlim hj hA hl hnc hin.owner (.inl k2) hs hk))) (fun k2=>bW (bH (bE (fun k3=>G7 (r:=(H l).1.next w) hC hlim hj hA hl hnc hin.owner (.inr k3) hs hk) (fun k3=>R7 hl ⟨k1,k2,k3⟩ hs hk))))))))))
end Go.Proofs.YthgemaaghgpncaaDoor.H
end
section
namespace Go.Proofs.YthgemaaghgpncaaDoor.H
open Go Go.Ab Go.Hm
set_option maxRecDepth 100000
variable {G:Bg} {h:AH} {L L':List HP}
theorem Sd {C:bJ} {hb:Nat} {H:iQ} {x:Int} {Q:Value→AH→Prop} (hs:Hs G h L) [m:Has (eK G hb C) L H L'] (hk:Hs G h (eK G hb C H::L')→Q (I (Cc C H x)) h):Cl Pr K 10 [pt hb 0 0,I x] h Q:=by
 have hk:=hk (m.of hs)
 obtain⟨mb,b,o,cap,hs⟩:=kY (m.of hs)
 unfold Cc at hk
 refine cW (mC hs (dY (gU (bE (fun h3=>?_) (fun h3=>?_)))))
 ·obtain⟨l,rfl⟩:=Int.eq_ofNat_of_zero_le h3.1
  have hl:l<C.lines:=by have:=h3.2;omega
  obtain⟨wa,wc,hs⟩:=bU (uL (H:=H) (b:=b) (o:=o) hl hs)
  rw[if_pos h3,Int.toNat_natCast] at hk
  exact aC (aA (aE hs rfl (dW hl (aA (aE hs rfl (eV hk))))))
 ·rw[if_neg h3] at hk;exact hk
end Go.Proofs.YthgemaaghgpncaaDoor.H
end
section
namespace Go.Proofs.YthgemaaghgpncaaDoor.H
open Go Go.Ab Go.Hm
set_option maxRecDepth 100000
variable {G:Bg} {h:AH} {L L':List HP}
theorem Sk (n:Nat):(fun i=>(mM n i).2)=sL:=by funext i;unfold mM sL;split<;>rfl
theorem Qf {C:bJ} (hC:C.Ok) {hb:Nat} {Q:Value→AH→Prop} (hk:∀h',Hs G h' (eK G hb C (mM C.lines)::L)→Q (.tuple ⟨[pt hb 0 0,I 0]⟩) h'):∀(f n:Nat) (h:AH),n+f=C.lines→Hs G h (eK G hb C (mM n)::L)→Dd 23 3 [] Q [(pt hb 0 0),(I C.lines),(I n)] h:=by
 have hln:=bJ.qU hC
 intro f
 induction f with
 |zero=>
  intro n h hn hs
  have:n=C.lines:=by omega
  subst this
  exact bW (bC (aY (by omega) (hk _ hs)))
 |succ f ih=>
  intro n h hn hs
  have hl:n<C.lines:=by omega
  refine bW (bC (cM (by omega) (bW ?_)))
  obtain⟨mb,b,o,cap,hs⟩:=uD hl hs
  obtain⟨wa,wc,hs⟩:=bU hs
  refine aC (aA (aE hs rfl (dW hl (aA (bM hs rfl rfl rfl rfl ?_)))))
  intro h hs
  refine cL (by omega) (ih (n+1) h (by omega) ?_)
  have e1:(mM n n).1={qK with owner:=0}:=by unfold mM;rw[if_neg (by omega)]
  have e2:(mM n n).2=(0,0):=by unfold mM;rw[if_neg (by omega)]
  rw[e1] at hs
  have hs:=cE b (o+n*25) qK wa wc hs rfl rfl rfl
  have hs:=cN hb C (mM n) n qK (0,0) (fun i=>(mM n i).2) mb b o cap hl (by rw[←e2];exact cU.symm) hs
  rw[Od] at hs
  exact hs
theorem Km {C:bJ} (hC:C.Ok) {Q:Value→AH→Prop} (hlim:Ob G 0 eJ) (hs:Hs G h L) (hk:∀hb h',Hs G h' (eK G hb C (mM C.lines)::L)→Q (.tuple ⟨[pt hb 0 0,I 0]⟩) h'):Cl Pr K 23 [.agg ⟨C.enc⟩] h Q:=by
 have hln:=bJ.qU hC
 refine cW (iA hs ?_)
 intro p h hs
 refine aP hs (by decide) (l:=C.enc) rfl rfl (rO hlim hs fun h hs=>?_)
 rw[if_pos hC]
 refine bL (aY (by omega) (bW (aP hs (by decide) (l:=C.enc) rfl rfl (Np hC hlim hs fun mb h hs=>?_))))
 refine aL rfl (aL rfl (bL (aY (by omega) (bW (aZ hs ?_)))))
 intro rv h hs
 refine aP hs (by decide) (l:=C.enc) rfl rfl (aP hs (by decide) (l:=C.enc) rfl rfl (uQ hC hlim hs fun h hs=>Zz (by omega) (by omega) ?_))
 dsimp only
 refine oI hs rfl rfl ?_ rfl ?_ ?_
 ·rw[gY,qW (W:=25) (fun _=>rfl)]
 ·rw[gY];exact tQ (fun _=>rfl) _
 intro a h hs
 obtain⟨b,o,ha,hs⟩:=Hs.Kx (W:=25) rfl (by omega) hs
 cases ha
 refine aR (c:=mH mb C b o C.lines) rfl (Rh hs rfl rfl ?_)
 intro hb h hs
 refine hZ iN (hZ (aP hs (by decide) (l:=C.enc) rfl rfl (rQ (by simp[mL,bJ.enc]))) (aC (aA (aE hs rfl (eV ?_)))))
 refine Qf hC (hk hb) C.lines 0 h (by omega) ?_
 have hs:=(hs.front (mU C.lines fun i=>aO b (o+i*25) [I 0,.bool false,.bool false,.bool false,.bool false,.slice none 0 0,.bool false,I 0,I 0,I 0,I 0,I 0,I 0,I 0,.bool false,I 0,I 0,.bool false,.bool false,.bool false,.bool false,.bool false,.bool false,I 0,I 0]))
 have hs:=Hs.Ko (g:=fun i=>dU b (o+i*25) (mM 0 i).1) C.lines _ (fun i hi h L hs=>iV {qK with owner:=0} (a:=none) (c:=0) (gH hs).tE) hs
 rw[←Sk 0] at hs
 exact(pP C (mM 0) hb mb b o C.lines hs).to
end Go.Proofs.YthgemaaghgpncaaDoor.H
end
end
section
namespace Go.Ab
variable {G:Bg} {h:AH} {L L':List HP}
end Go.Ab
end
section
namespace Go.Is
open Go Go.Ab
def opsL:List (List UInt8×List Int):=[([],[0,0,0]),([115,101,116],[1,2,0]),([97,100,100],[1,1,1]),([108,111,97,100],[1,1,0]),([115,116,111,114,101],[1,1,0]),([115,119,97,112],[1,1,0]),([102,101,110,99,101],[0,0,0]),
  ([119,111,114,108,100],[3,0,0]),([99,97,108,108],[4,1,1]),([106,117,109,112],[5,0,0]),([122,101,114,111],[1,5,0]),([104,97,108,116],[0,0,0])]
structure Ch where
 op:Int
 a:Int
 b:Int
 c:Int
 deriving DecidableEq
def Ch.enc (x:Ch):List Value:=[I x.op,I x.a,I x.b,I x.c]
def Zk (o:Nat):List Int:=(opsL.getD o ([],[])).2
def jg (x:Int):Bool:=decide (1≤x∧x<12)
def ak (mF v many:Int):Bool:=
 if mF=1 then decide (0≤v∧v<4) else if mF=2 then true else if mF=3 then decide (1≤v∧v≤3) else if mF=4 then decide (1≤v∧v≤4) else if mF=5 then decide (0≤v∧v≤many) else decide (v=0)
def Ch.Ye (x:Ch):List Int:=[x.a,x.b,x.c]
def Ch.cy (x:Ch):List (Int×Int):=(Zk x.op.toNat).zip x.Ye
def yK (x:Ch) (many:Int):Int:=if jg x.op then(if(x.cy.all fun p=>ak p.1 p.2 many) then 0 else 10) else 15
def S9 (many:Int):List Ch→Nat→Int×Int
 |[],_=>(0,0)
 |x::l,i=>if yK x many≠0 then((i:Int)+1,yK x many) else S9 many l (i+1)
def F6 (p:List Ch):Int×Int:=if 32<p.length then(0,11) else S9 p.length p 0
theorem Sf {many:Int}:∀(l:List Ch) (i:Nat),(S9 many l i).2=0→∀x∈l,yK x many=0
 |[],_,_,x,hx=>by simp at hx
 |y::l,i,h,x,hx=>by
  rw[S9] at h
  split at h
  ·rename_i hn;exact absurd h hn
  ·rename_i hn
   rcases List.mem_cons.1 hx with rfl|hx
   ·omega
   ·exact Sf l (i+1) h x hx
theorem rO {p:List Ch} (h:(F6 p).2=0):p.length≤32∧∀x∈p,yK x p.length=0:=by
 unfold F6 at h
 split at h
 ·cases h
 ·exact⟨by omega,Sf p 0 h⟩
end Go.Is
end
section
namespace Go.At
open Go Go.Ab Go.Hm Go.Is
structure Ev where
 core:Int
 at':Int
 op:Int
 world:Int
 word:Int
 value:Int
 code:Int
 deriving DecidableEq
def Ev.enc (x:Ev):List Value:=[I x.core,I x.at',I x.op,I x.world,I x.word,I x.value,I x.code]
def a7:Ev:=⟨0,0,0,0,0,0,0⟩
structure dZ where
 eT:Nat→Int
 at':Int
 world:Int
 over:Bool
 prog:List Ch
def dZ.core (s:dZ):List Value:=[I (s.eT 0),I (s.eT 1),I (s.eT 2),I (s.eT 3),I s.at',I s.world,.bool s.over]
def Xy (p:List Ch) (a:Int):Ch:=p.getD a.toNat ⟨0,0,0,0⟩
def Q5 (p:List Ch) (a:Int):Bool:=if(p.length:Int)≤a then true else decide ((Xy p a).op=11)
def dZ.turn (s:dZ) (a:Int):dZ:={s with at':=a,over:=Q5 s.prog a}
def dZ.fV (s:dZ) (i v:Int):dZ:={s with eT:=aJ s.eT i.toNat v}
def dZ.Z0 (s:dZ) (v:Int):dZ:={s with world:=v}
def M6 (mem:Nat→Ln) (w:Nat):Int:=if w % 2=0 then(mem (w/2)).1 else(mem (w/2)).2
def Q6 (mem:Nat→Ln) (w:Nat) (v:Int):Nat→Ln:=aJ mem (w/2) (if w % 2=0 then(v,(mem (w/2)).2) else((mem (w/2)).1,v))
def Ly (mem:Nat→Ln) (g:Nat):Nat→Ln:=aJ (aJ mem (g*2) (0,0)) (g*2+1) (0,0)
structure AM where
 cfg:bJ
 bI:Nat→dZ
 lD:List Int
 mem:Nat→Ln
def AM.Cz (m:AM) (i:Nat) (s:dZ):AM:={m with bI:=aJ m.bI i s}
def AM.D9 (m:AM) (mem:Nat→Ln):AM:={m with mem:=mem}
def AM.Ka (m:AM) (o:List Int):AM:={m with lD:=o}
def Xx (world owner:Int):Bool:=if 0≤world∧world≤3∧0≤owner∧owner≤4 then decide (world=0∨owner=world∨owner=4) else false
def AM.may (m:AM) (world word:Int):Bool:=if 0≤word∧word<m.cfg.lines*2 then Xx world (m.lD.getD (word.toNat/4) 0) else false
def AM.access (m:AM) (i:Nat) (x:Ch):AM×Int×Int:=
 if m.may (m.bI i).world ((m.bI i).eT x.b.toNat) then
  if x.op=3 then(m.Cz i ((m.bI i).fV x.a (M6 m.mem ((m.bI i).eT x.b.toNat).toNat)),M6 m.mem ((m.bI i).eT x.b.toNat).toNat,0)
  else if x.op=4 then(m.D9 (Q6 m.mem ((m.bI i).eT x.b.toNat).toNat ((m.bI i).eT x.a.toNat)),(m.bI i).eT x.a.toNat,0)
  else((m.D9 (Q6 m.mem ((m.bI i).eT x.b.toNat).toNat ((m.bI i).eT x.a.toNat))).Cz i ((m.bI i).fV x.a (M6 m.mem ((m.bI i).eT x.b.toNat).toNat)),M6 m.mem ((m.bI i).eT x.b.toNat).toNat,0)
 else(m,0,19)
def Ba (call world owner to:Int):Int×Bool×Int:=
 if ¬((0≤world∧world≤3)∧(0≤owner∧owner≤4)) then(0,false,10)
 else if call=1 then(if world≠0 then(0,false,18) else if owner≠0 then(0,false,16) else if ¬(1≤to∧to≤3) then(0,false,1) else(to,true,0))
 else if call=2 then(if owner=0 then(0,false,16) else if world≠0∧world≠owner then(0,false,18) else(0,true,0))
 else if call=3 then(if world=0∨world≠owner then(0,false,18) else if ¬(1≤to∧to≤3)∨to=owner then(0,false,1) else(to,true,0))
 else if call=4 then(if owner=4 then(0,false,16) else if world≠owner then(0,false,18) else(4,false,0))
 else(0,false,15)
def AM.call (m:AM) (call world granule to:Int) (busy:Bool):AM×Int:=
 if ¬(0≤granule∧granule<m.lD.length) then(m,10)
 else if busy then(m,17)
 else if(Ba call world (m.lD.getD granule.toNat 0) to).2.2≠0 then(m,(Ba call world (m.lD.getD granule.toNat 0) to).2.2)
 else((m.Ka (m.lD.set granule.toNat (Ba call world (m.lD.getD granule.toNat 0) to).1)).D9 (if(Ba call world (m.lD.getD granule.toNat 0) to).2.1 then Ly m.mem granule.toNat else m.mem),0)
def AM.turn (m:AM) (i:Nat) (a:Int):AM:=m.Cz i ((m.bI i).turn a)
def AM.Yb (m:AM) (i:Nat) (x:Ch) (busy:Bool):AM×Int×Int×Int×Int:=
 if x.op=1 then(m.Cz i ((m.bI i).fV x.a x.b),0,x.b,0,(m.bI i).at'+1)
 else if x.op=2 then(m.Cz i ((m.bI i).fV x.a (wr ((m.bI i).eT x.b.toNat+(m.bI i).eT x.c.toNat))),0,wr ((m.bI i).eT x.b.toNat+(m.bI i).eT x.c.toNat),0,(m.bI i).at'+1)
 else if x.op=3∨x.op=4∨x.op=5 then((m.access i x).1,(m.bI i).eT x.b.toNat,(m.access i x).2.1,(m.access i x).2.2,(m.bI i).at'+1)
 else if x.op=7 then(if(m.bI i).world=0 then(m.Cz i ((m.bI i).Z0 x.a),0,x.a,0,(m.bI i).at'+1) else(m,0,x.a,18,(m.bI i).at'+1))
 else if x.op=8 then((m.call x.a (m.bI i).world ((m.bI i).eT x.b.toNat) ((m.bI i).eT x.c.toNat) busy).1.Cz i ((m.bI i).fV x.b (m.call x.a (m.bI i).world ((m.bI i).eT x.b.toNat) ((m.bI i).eT x.c.toNat) busy).2),(m.bI i).eT x.b.toNat,(m.bI i).eT x.c.toNat,(m.call x.a (m.bI i).world ((m.bI i).eT x.b.toNat) ((m.bI i).eT x.c.toNat) busy).2,(m.bI i).at'+1)
 else if x.op=9 then(m,0,x.a,0,x.a)
 else if x.op=10 then(m,0,(m.bI i).eT x.a.toNat,0,if(m.bI i).eT x.a.toNat=0 then x.b else(m.bI i).at'+1)
 else(m,0,0,0,(m.bI i).at'+1)
def AM.step (m:AM) (core:Int) (busy:Bool):AM×Ev×Int:=
 if ¬(0≤core∧core<m.cfg.bT) then(m,a7,10)
 else if(m.bI core.toNat).over then(m,a7,20)
 else
  let s:=m.bI core.toNat
  let x:=Xy s.prog s.at'
  let r:=m.Yb core.toNat x busy
  (r.1.turn core.toNat r.2.2.2.2,⟨core,s.at',x.op,s.world,r.2.1,r.2.2.1,r.2.2.2.1⟩,0)
def dZ.Ok (s:dZ):Prop:=0≤s.at'∧s.at'≤32∧s.over=Q5 s.prog s.at'∧s.prog.length≤32∧∀x∈s.prog,yK x s.prog.length=0
structure AM.Ok (m:AM):Prop where
 cfg:m.cfg.Ok
 bI:∀i:Nat,(i:Int)<m.cfg.bT→(m.bI i).Ok
 lD:(m.lD.length:Int)=m.cfg.eN
def Qe:List (List Ch)→Int
 |[]=>0
 |p::l=>if(F6 p).2≠0 then(F6 p).2 else Qe l
def words (mem:Nat→Ln):List Int→Nat→Nat→Ln
 |[],_=>mem
 |v::l,i=>words (Q6 mem i v) l (i+1)
def cw (p:List Ch) (w:Int):dZ:={eT:=fun _=>0,at':=0,world:=w,over:=Q5 p 0,prog:=p}
end Go.At
end
section
open Go Go.Ab
attribute [local irreducible] aN Br wO yS Jx F5 qD Hu rP Ua qH sH tP Aa Ax vU Hh xJ Wu Y3 Ta X6 Xa S7 S8 Wa Wo vA sI C4 jK copyV mJ uA Yn Xd He oB P6 Yr Ys sU Ai I5 H3 Cl Dm V2 Ak vZ nL mE bP bQ
section
namespace Go.Proofs.YthgemaaghgpncaaDoor
open Go Go.Ab Go.Hm Go.At
set_option maxRecDepth 100000
variable {G:Bg} {h:AH} {L L':List HP} {Q:Value→AH→Prop}
end Go.Proofs.YthgemaaghgpncaaDoor
end
end
section
namespace Go.Proofs.YthgemaaghgpncaaDoor.C
open Go Go.Ab Go.Hm Go.Ct
theorem mW {g n sz:Nat} {i:Int} {k:Value→Prop} (h0:0≤i) (hi:i<n) (hk:k (pt g (i.toNat*sz) 0)):aN (sI n sz (.pointer (some ⟨g,0,none⟩)) (I i)) k:=
 fT (b:=g) (o:=0) (j:=0) h0 hi (by simpa [pt] using hk)
theorem kA {s:Int} (h:0≤s∧s<5):cK[s.toNat*8+1]?=some (.bool (mT s))∧cK[s.toNat*8+2]?=some (.bool (iU s))∧cK[s.toNat*8+3]?=some (.bool (fQ s))∧cK[s.toNat*8+4]?=some (.bool (jG s))
  ∧cK[s.toNat*8+5]?=some (I (if iU s then 4 else 0))∧cK[s.toNat*8+6]?=some (I (zG s))∧cK[s.toNat*8+7]?=some (I 0):=by
 have:s=0∨s=1∨s=2∨s=3∨s=4:=by omega
 rcases this with rfl|rfl|rfl|rfl|rfl<;>exact⟨rfl,rfl,rfl,rfl,rfl,rfl,rfl⟩
set_option maxRecDepth 100000
attribute [local irreducible] aN Br wO yS Jx F5 qD Hu rP Ua qH sH tP Aa Ax vU Hh xJ Wu Y3 Ta X6 Xa S7 S8 Wa Wo vA sI C4 jK copyV mJ uA Yn Xd He oB P6 Yr Ys sU Ai I5 H3 Cl Dm V2 Ak vZ nL mE bP bQ
variable {G:Bg} {h:AH} {L L':List HP}
theorem qV {x:Int} {Q:Value→AH→Prop} (hk:Q (.bool (Oj x)) h):Cl Pr K 54 [I x] h Q:=by
 refine cW ?_
 refine lI (bE (fun h1=>bC ?_) (fun h1=>?_))
 ·show Q _ _;rw[show decide (x<5)=Oj x from decide_eq_decide.2 (by omega)];exact hk
 ·show Q _ _;rw[show false=Oj x from(decide_eq_false (by omega)).symm];exact hk
theorem B7 {x:Int} (h:Oj x=true):0≤x∧x<5:=of_decide_eq_true h
theorem xD {x:Int} (h:Oj x=false):mT x=false∧iU x=false∧fQ x=false∧jG x=false:=by
 have:=of_decide_eq_false h
 refine⟨decide_eq_false ?_,decide_eq_false ?_,decide_eq_false ?_,decide_eq_false ?_⟩<;>omega
theorem Nn {x:Int} {Q:Value→AH→Prop} (hk:Q (.bool (mT x)) h):Cl Pr K 55 [I x] h Q:=by
 refine cW (qV (cS (fun h1=>bL ?_) (fun h1=>?_)))
 ·have:=B7 h1
  show Q _ _;rw[show decide (x≠0)=mT x from decide_eq_decide.2 (by omega)];exact hk
 ·rw[(xD h1).1] at hk;exact hk
theorem Tp {x:Int} {Q:Value→AH→Prop} (ho:Ob G 1 cK) (hs:Hs G h L) (hk:Q (.bool (mT x)) h):Cl Pr K 62 [I x] h Q:=by
 refine cW (qV (cS (fun h1=>?_) (fun h1=>?_)))
 ·have h2:=B7 h1
  exact mW h2.1 h2.2 (aA (yD hs ho (o:=x.toNat*8) (j:=1) (kA h2).1 hk))
 ·rw[(xD h1).1] at hk;exact hk
theorem vQ {x:Int} {Q:Value→AH→Prop} (ho:Ob G 1 cK) (hs:Hs G h L) (hk:Q (.bool (iU x)) h):Cl Pr K 57 [I x] h Q:=by
 refine cW (qV (cS (fun h1=>?_) (fun h1=>?_)))
 ·have h2:=B7 h1
  exact mW h2.1 h2.2 (aA (yD hs ho (o:=x.toNat*8) (j:=2) (kA h2).2.1 hk))
 ·rw[(xD h1).2.1] at hk;exact hk
theorem Ao {x:Int} {Q:Value→AH→Prop} (ho:Ob G 1 cK) (hs:Hs G h L) (hk:Q (.bool (fQ x)) h):Cl Pr K 39 [I x] h Q:=by
 refine cW (qV (cS (fun h1=>?_) (fun h1=>?_)))
 ·have h2:=B7 h1
  exact mW h2.1 h2.2 (aA (yD hs ho (o:=x.toNat*8) (j:=3) (kA h2).2.2.1 hk))
 ·rw[(xD h1).2.2.1] at hk;exact hk
theorem uY {x:Int} {Q:Value→AH→Prop} (ho:Ob G 1 cK) (hs:Hs G h L) (hk:Q (.bool (jG x)) h):Cl Pr K 56 [I x] h Q:=by
 refine cW (qV (cS (fun h1=>?_) (fun h1=>?_)))
 ·have h2:=B7 h1
  exact mW h2.1 h2.2 (aA (yD hs ho (o:=x.toNat*8) (j:=4) (kA h2).2.2.2.1 hk))
 ·rw[(xD h1).2.2.2] at hk;exact hk
theorem Gs {x:Int} {Q:Value→AH→Prop} (ho:Ob G 1 cK) (hs:Hs G h L) (hx:iU x=true) (hk:Q (.tuple ⟨[I 4,I 0]⟩) h):Cl Pr K 42 [I x] h Q:=by
 have h2:0≤x∧x<5:=by have:=of_decide_eq_true hx;omega
 refine cW (qV ?_)
 rw[show Oj x=true from decide_eq_true h2]
 refine dY (eS (bW (vQ ho hs ?_)))
 rw[hx]
 have:=(kA h2).2.2.2.2.1
 rw[if_pos hx] at this
 exact dY (eS (mW h2.1 h2.2 (aA (yD hs ho (o:=x.toNat*8) (j:=5) this hk))))
theorem C3 {x to:Int} {Q:Value→AH→Prop} (ho:Ob G 1 cK) (hs:Hs G h L) (h2:0≤x∧x<5) (ht:to=0∨to=1) (hk:Q (.tuple ⟨[I (dN x to),.bool (jG x),.bool (fQ x),I 0]⟩) h):Cl Pr K 73 [I x,I to] h Q:=by
 refine cW (qV ?_)
 rw[show Oj x=true from decide_eq_true h2]
 refine dY (eS ?_)
 have c6:=(kA h2).2.2.2.2.2.1
 have c7:=(kA h2).2.2.2.2.2.2
 rcases ht with rfl|rfl
 ·exact bL (cM (by omega) (bL (aY (by omega) (bW (mW h2.1 h2.2 (aA (yD hs ho (o:=x.toNat*8) (j:=7) c7 (bH (aY (by omega) (uY ho hs (Ao ho hs hk)))))))))))
 ·exact bL (aY (by omega) (mW h2.1 h2.2 (aA (yD hs ho (o:=x.toNat*8) (j:=7) c7 (bH (cM rfl (bW (mW h2.1 h2.2 (aA (yD hs ho (o:=x.toNat*8) (j:=6) c6 (uY ho hs (Ao ho hs hk))))))))))))
theorem Dg {x:jW} {w:Bool} {Q:Value→AH→Prop} (ho:Ob G 1 cK) (hs:Hs G h L) (hk:∀h',Hs G h' L→Q (.bool (iE x.st w)) h'):Cl Pr K 36 [.agg ⟨x.enc⟩,.bool w] h Q:=by
 refine cW (iA hs ?_)
 intro p h hs
 cases w
 ·exact eS (aA (aE hs rfl (Tp ho hs (hk _ hs.tail))))
 ·exact mV (aA (aE hs rfl (vQ ho hs (hk _ hs.tail))))
end Go.Proofs.YthgemaaghgpncaaDoor.C
end
section
open Go Go.Ab
attribute [local irreducible] aN Br wO yS Jx F5 qD Hu rP Ua qH sH tP Aa Ax vU Hh xJ Wu Y3 Ta X6 Xa S7 S8 Wa Wo vA sI C4 jK copyV mJ uA Yn Xd He oB P6 Yr Ys sU Ai I5 H3 Cl Dm V2 Ak vZ nL mE bP bQ
section
namespace Go.Proofs.YthgemaaghgpncaaDoor.C
open Go Go.Ab Go.Hm Go.Ct
set_option maxRecDepth 100000
variable {G:Bg} {h:AH} {L L' M:List HP}
def fV (b o:Nat) (l:List Th):HP:=Nm fun x:Option Addr×Nat=>sp [aO b o [.slice x.1 l.length x.2],dP 5 96 x.1 x.2 (l.length,cZ l)]
theorem rC {b o:Nat} {l:List Th} (hs:Hs G h (fV b o l::L)):∃a c,Hs G h (aO b o [.slice a l.length c]::dP 5 96 a c (l.length,cZ l)::L):=by
 obtain⟨⟨a,c⟩,hs⟩:=hs.Pm
 exact⟨a,c,hs.unpack⟩
theorem hY (b o:Nat) (l:List Th) {a:Option Addr} {c n:Nat} {cs:List Value} {L1 L2:List HP} (hs:Hs G h L) [m:Has (aO b o) L [.slice a n c] L1] [m2:Has (dP 5 96 a c) L1 (n,cs) L2] (hn:n=l.length) (hcs:cs=cZ l):Hs G h (fV b o l::L2):=by
 subst hn;subst hcs
 exact Hs.Pb (A:=fun x:Option Addr×Nat=>sp [aO b o [.slice x.1 l.length x.2],dP 5 96 x.1 x.2 (l.length,cZ l)]) (a,c) (Hs.pack (A:=[_,_]) (hs.perm (m.perm.trans (m2.perm.cons _))))
structure ia where
 b:Nat
 o:Nat
 cap:Nat
def qJ (ways n b o cap:Nat):List Value:=[I ways,.slice (some ⟨b,o,none⟩) n cap]
def fA (G:Bg) (t ways n:Nat) (S:Nat→List Th):HP:=Nm fun x:ia=>
 sp [aO t 0 (qJ ways n x.b x.o x.cap),hole G 1 97 (some ⟨x.b,x.o,none⟩) x.cap n x.b x.o,mU n fun i=>fV x.b (x.o+i*1) (S i)]
theorem Pk {t ways n:Nat} {S:Nat→List Th} (hs:Hs G h (fA G t ways n S::L)):∃b o cap,Hs G h (aO t 0 (qJ ways n b o cap)::hole G 1 97 (some ⟨b,o,none⟩) cap n b o::mU n (fun i=>fV b (o+i*1) (S i))::L):=by
 obtain⟨⟨b,o,cap⟩,hs⟩:=hs.Pm
 exact⟨b,o,cap,hs.unpack⟩
theorem D5 {t ways n:Nat} {S:Nat→List Th} {b o cap:Nat} (hs:Hs G h (aO t 0 (qJ ways n b o cap)::hole G 1 97 (some ⟨b,o,none⟩) cap n b o::mU n (fun i=>fV b (o+i*1) (S i))::L)):Hs G h (fA G t ways n S::L):=
 Hs.Pb (A:=fun x:ia=>sp [aO t 0 (qJ ways n x.b x.o x.cap),hole G 1 97 (some ⟨x.b,x.o,none⟩) x.cap n x.b x.o,mU n fun i=>fV x.b (x.o+i*1) (S i)]) ⟨b,o,cap⟩ (Hs.pack (A:=[_,_,_]) hs)
def G9 (b o n:Nat) (S:Nat→List Th) (l:Nat):HP:=sp (((List.range n).erase l).map fun i=>fV b (o+i*1) (S i))
theorem yQ {t ways n l:Nat} {S:Nat→List Th} (hl:l<n) (hs:Hs G h (fA G t ways n S::L)):∃b o cap,Hs G h (fV b (o+l*1) (S l)::aO t 0 (qJ ways n b o cap)::hole G 1 97 (some ⟨b,o,none⟩) cap n b o::G9 b o n S l::L):=by
 obtain⟨b,o,cap,hs⟩:=Pk hs
 have hs:=(hs.front (mU n fun i=>fV b (o+i*1) (S i))).tX l hl
 exact⟨b,o,cap,(show Hs G h (fV b (o+l*1) (S l)::G9 b o n S l::_) from hs).to⟩
theorem mG {L1 L2 L3 L4:List HP} (t ways n:Nat) (S:Nat→List Th) (l:Nat) (x:List Th) (b o cap:Nat) (hl:l<n) (hs:Hs G h L) [k1:fO (fV b (o+l*1) x) L L1] [k2:fO (aO t 0 (qJ ways n b o cap)) L1 L2]
  [k4:fO (hole G 1 97 (some ⟨b,o,none⟩) cap n b o) L2 L3] [k5:fO (G9 b o n S l) L3 L4]:Hs G h (fA G t ways n (aJ S l x)::L4):=by
 have hs:Hs G h (fV b (o+l*1) x::G9 b o n S l::aO t 0 (qJ ways n b o cap)::hole G 1 97 (some ⟨b,o,none⟩) cap n b o::L4):=
  (hs.perm (k1.perm.trans ((k2.perm.trans ((k4.perm.trans (k5.perm.cons _)).cons _)).cons _))).to
 have e0:(fun i=>fV b (o+i*1) (aJ S l x i)) l=fV b (o+l*1) x:=by simp only[cP]
 rw[←e0] at hs
 unfold G9 at hs
 have hs:=hs.Cb (n:=n) (i:=l) (fun i=>fV b (o+i*1) (S i)) (fun i=>fV b (o+i*1) (aJ S l x i)) hl (fun j _ hne=>by simp only[bK hne])
 exact D5 (b:=b) (o:=o) (cap:=cap) hs.to
theorem Ve {α:Type} {f:Nat→α} {i:Nat}:aJ f i (f i)=f:=by
 funext j;unfold aJ;split
 ·rename_i e;rw[e]
 ·rfl
theorem Oy {no:Int} {b o a2 o2 cp p:Nat} {l:List Th} {Q:Value→AH→Prop} (hb:l.length≤4):∀(r i:Nat) (h:AH) (L:List HP),i+r=l.length→ix no (l.take i)=none→Hs G h (aO p 0 [I no]::dP 5 96 (some ⟨a2,o2,none⟩) cp (l.length,cZ l)::L)→
  (∀h',Hs G h' (aO p 0 [I no]::dP 5 96 (some ⟨a2,o2,none⟩) cp (l.length,cZ l)::L)→Q (.tuple ⟨[pt b o 0,I (Pf no l),I 0]⟩) h')→
  Dd 31 3 [] Q [(pt b o 0),(I (-1)),(.func (.func 60) #[] #[pt p 0 0]),(.slice (some ⟨a2,o2,none⟩) l.length cp),(I l.length),(I i)] h:=by
 have key:∀(i:Nat) (l:List Th) (t:Th),ix no (l.take i)=none→l[i]?=some t→ix no (l.take (i+1))=if t.1=no then some i else none:=by
  intro i
  induction i with
  |zero=>
   intro l t _ ht
   cases l with
   |nil=>cases ht
   |cons a l=>cases ht;simp[ix]
  |succ i ih=>
   intro l t h1 ht
   cases l with
   |nil=>cases ht
   |cons a l=>
    simp only[List.take_succ_cons,ix] at h1 ⊢
    by_cases hc:a.1=no
    ·rw[if_pos hc] at h1;cases h1
    ·rw[if_neg hc] at h1 ⊢
     rw[ih l t (by simpa using h1) (by simpa using ht)]
     split<;>rfl
 have pref:∀(l:List Th) (i j:Nat),ix no (l.take i)=some j→ix no l=some j:=by
  intro l
  induction l with
  |nil=>intro i j h;simp[ix] at h
  |cons a l ih=>
   intro i j h
   cases i with
   |zero=>simp[ix] at h
   |succ i=>
    simp only[List.take_succ_cons,ix] at h ⊢
    by_cases hc:a.1=no
    ·rw[if_pos hc] at h ⊢;exact h
    ·rw[if_neg hc] at h ⊢
     cases hx:ix no (l.take i) with
     |none=>rw[hx] at h;cases h
     |some k=>rw[hx] at h;rw[ih i k hx];exact h
 intro r
 induction r with
 |zero=>
  intro i h L hi hn hs hk
  rw[List.take_of_length_le (by omega)] at hn
  simp only[Pf,hn] at hk
  exact bW (bC (aY (by omega) (hk _ hs)))
 |succ r ih=>
  intro i h L hi hn hs hk
  have hil:i<l.length:=by omega
  obtain⟨t,ht⟩:∃t,l[i]?=some t:=⟨_,List.getElem?_eq_getElem hil⟩
  refine bW (bC (cM (by omega) (bW (dW hil ?_))))
  obtain⟨b1,o1,ha,hs1⟩:=(hs.front (dP 5 96 (some ⟨a2,o2,none⟩) cp (l.length,cZ l))).hM (by omega)
  cases ha
  refine Bf hs1 (by decide) (l:=Q0 t) (by rw[Nat.add_zero];exact G0 ht) rfl ?_
  have hs1:=hs1.nY (rX l) (oT l)
  refine gP hs1 ?_
  intro q h hs
  refine dR hs rfl rfl rfl rfl ?_
  intro h hs
  refine aP hs (by decide) (l:=Q0 t) rfl rfl ?_
  refine We (by kernel_rfl) (cW ?_)
  refine iA hs ?_
  intro q2 h hs
  have hk1:=key i l t hn ht
  refine aA (aE hs rfl (aE (b:=p) (o:=0) hs rfl (bH (bE (fun hc=>?_) (fun hc=>?_)))))
  ·rw[if_pos hc] at hk1
   have:=pref _ _ _ hk1
   simp only[Pf,this] at hk
   exact bW (hk _ hs.to)
  ·rw[if_neg hc] at hk1
   exact bW (cL (by omega) (ih (i+1) h L (by omega) hk1 hs.to hk))
theorem Hl {t:Nat} {no:Int} {Q:Value→AH→Prop} (h0:no<0) (hs:Hs G h L) (hk:∀h',Hs G h' L→Q (.tuple ⟨[.pointer none,I 0,I 10]⟩) h'):Cl Pr K 31 [pt t 0 0,I no] h Q:=by
 refine cW (iA hs ?_)
 intro p h hs
 exact iJ (eS (bW (aE hs rfl (bC (cM h0 (hk _ hs.tail))))))
theorem gK {n:Nat} {no:Int} (hn:0<n):aI n no<n:=by
 unfold aI
 have:=Int.emod_lt_of_pos no (show(0:Int)<n by omega)
 have:=Int.emod_nonneg no (show(n:Int)≠0 by omega)
 omega
theorem pO {t ways n b o cap:Nat} {no:Int} {l:List Th} {Q:Value→AH→Prop} (hn:0<n) (h0:0≤no) (hb:l.length≤4) (hs:Hs G h L) [m:Has (aO t 0) L (qJ ways n b o cap) L'] [m2:Has (fV b (o+aI n no*1)) L' l M]
  (hk:∀h',Hs G h' (aO t 0 (qJ ways n b o cap)::fV b (o+aI n no*1) l::M)→Q (.tuple ⟨[pt b (o+aI n no*1) 0,I (Pf no l),I 0]⟩) h'):Cl Pr K 31 [pt t 0 0,I no] h Q:=by
 have hs:Hs G h (aO t 0 (qJ ways n b o cap)::fV b (o+aI n no*1) l::M):=hs.perm (m.perm.trans (m2.perm.cons _))
 obtain⟨a,c,hs⟩:=rC hs.tE
 refine cW (iA hs ?_)
 intro p h hs
 refine iJ (eS (bW (aE hs rfl (bC (aY (by omega) (bW ?_))))))
 refine aZ hs ?_
 intro r h hs
 have ht:Hs G h (aO t 0 (qJ ways n b o cap)::_):=hs.front (aO t 0 (qJ ways n b o cap))
 have e1:no % (n:Int)=((aI n no:Nat):Int):=by
  unfold aI
  have:=Int.emod_nonneg no (show(n:Int)≠0 by omega)
  omega
 refine aC (aA (aE (b:=t) (o:=0) ht rfl (aE (b:=p) (o:=0) ht rfl (aC (aA (aE (b:=t) (o:=0) ht rfl (eV (Pj h0 (by omega) ?_))))))))
 rw[e1]
 refine dW (gK hn) (aC ?_)
 have hset:Hs G h (aO b (o+aI n no*1) [.slice a l.length c]::_):=ht.front (aO b (o+aI n no*1) [.slice a l.length c])
 refine aE hset rfl (eV ?_)
 by_cases hl0:l.length=0
 ·have hln:l=[]:=List.eq_nil_of_length_eq_zero hl0
  subst hln
  refine bW (bC (aY (by simp) (hk _ ?_)))
  exact(hY b (o+aI n no*1) [] (a:=a) (c:=c) hset rfl rfl).to
 ·have hslc:=hset.front (dP 5 96 a c (l.length,cZ l))
  obtain⟨b2,o2,ha,_⟩:=hslc.nC (by omega)
  subst ha
  refine Oy (no:=no) (p:=p) hb l.length 0 h (aO t 0 (qJ ways n b o cap)::aO b (o+aI n no*1) [.slice (some ⟨b2,o2,none⟩) l.length c]::M) (by omega) rfl hset.to ?_
  intro h' hs
  refine hk _ ?_
  exact(hY b (o+aI n no*1) l (a:=some ⟨b2,o2,none⟩) (c:=c) hs rfl rfl).to
end Go.Proofs.YthgemaaghgpncaaDoor.C
end
section
namespace Go.Proofs.YthgemaaghgpncaaDoor.C
open Go Go.Ab Go.Hm Go.Ct
theorem rM {n:Nat} {S:Nat→List Th} {no:Int}:aJ S (aI n no) (S (aI n no))=S:=Ve
theorem W3 {l:List Th} (h:0<l.length):(cZ l)[0*5+(0+0)]?=some (I (l[0]).1):=by
 cases l with
 |nil=>simp at h
 |cons y l=>rfl
theorem Mh {no:Int} {l:List Th} {i:Nat} {x:jW} (h:l[i]?=some (no,x)):((cZ l).drop (i*5+1)).take 4=x.enc:=by
 have:=G0 h
 rw[←List.drop_drop]
 have h2:(((cZ l).drop (i*5)).take 5).drop 1=x.enc:=by rw[this];rfl
 rw[List.drop_take] at h2
 exact h2
set_option maxRecDepth 100000
variable {G:Bg} {h:AH} {L L' M:List HP}
theorem mP {t ways n:Nat} {no:Int} {S:Nat→List Th} {Q:Value→AH→Prop} (hn:0<n) (hb:∀i,(S i).length≤4) (hs:Hs G h L) [m:Has (fA G t ways n) L S L']
  (hk:∀h',Hs G h' (fA G t ways n S::L')→Q (.tuple ⟨[.agg ⟨(aG n S no).1.enc⟩,I (aG n S no).2]⟩) h'):Cl Pr K 14 [pt t 0 0,I no] h Q:=by
 have hs:=m.of hs
 refine cW (gP hs ?_)
 intro p h hs
 unfold aG at hk
 by_cases h0:no<0
 ·rw[if_pos h0] at hk
  refine Hl h0 hs fun h hs=>aL rfl (aL rfl (aL rfl (bL (cM (by omega) (aP hs (by decide) (l:=jW.zero.enc) rfl rfl ?_)))))
  refine dR hs rfl rfl rfl rfl ?_
  intro h hs
  exact aP hs (by decide) (l:=jW.zero.enc) rfl rfl (hk _ hs.tail)
 ·rw[if_neg h0] at hk
  obtain⟨b,o,cap,hs⟩:=yQ (gK (no:=no) hn) (hs.front (fA G t ways n S))
  refine pO (t:=t) (ways:=ways) (n:=n) (b:=b) (o:=o) (cap:=cap) (l:=S (aI n no)) hn (by omega) (hb _) hs fun h hs=>aL rfl (aL rfl (aL rfl (bL (aY (by omega) ?_))))
  refine bW ?_
  cases hx:ix no (S (aI n no)) with
  |none=>
   rw[(sE hx).1] at hk
   simp only[Pf,hx]
   refine bC (cM (by omega) (aP (b:=p) (o:=0) hs (by decide) (l:=jW.zero.enc) rfl rfl ?_))
   refine dR (b:=p) (o:=0) hs rfl rfl rfl rfl ?_
   intro h hs
   refine aP hs (by decide) (l:=jW.zero.enc) rfl rfl (hk _ ?_)
   have:=mG t ways n S (aI n no) (S (aI n no)) b o cap (gK hn) hs
   rw[rM] at this
   exact this.to
  |some i=>
   obtain⟨x,h1,h2,h3,h4⟩:=oZ hx
   rw[h2] at hk
   simp only[Pf,hx]
   obtain⟨a,c,hs⟩:=rC (hs.front (fV b (o+aI n no*1) (S (aI n no))))
   obtain⟨b2,o2,ha,hs1⟩:=(hs.front (dP 5 96 a c ((S (aI n no)).length,cZ (S (aI n no))))).hM (by omega)
   subst ha
   refine bC (aY (by omega) (aC (aE (b:=b) (o:=o+aI n no*1) hs1 rfl (dW h4 (aA (Bf (b:=b2) (o:=o2) hs1 (by decide) (l:=x.enc) (by rw[Nat.zero_add];exact Mh h1) rfl ?_))))))
   have hs1:=hs1.nY (rX _) (oT _)
   refine dR (b:=p) (o:=0) hs1 rfl rfl rfl rfl ?_
   intro h hs
   refine aP hs (by decide) (l:=x.enc) rfl rfl (hk _ ?_)
   have hs:=hY b (o+aI n no*1) (S (aI n no)) (a:=some ⟨b2,o2,none⟩) (c:=c) hs rfl rfl
   have:=mG t ways n S (aI n no) (S (aI n no)) b o cap (gK hn) hs
   rw[rM] at this
   exact this.to
theorem Ow {t ways n:Nat} {no:Int} {S:Nat→List Th} {Q:Value→AH→Prop} (hw:0<ways) (hn:0<n) (h0:0≤no) (hb:∀i,(S i).length≤4) (hs:Hs G h L) [m:Has (fA G t ways n) L S L']
  (hk:∀h',Hs G h' (fA G t ways n S::L')→Q (match pY n ways S no with|some v=> .tuple ⟨[I v.1,.bool true,I 0]⟩|none=> .tuple ⟨[I 0,.bool false,I 0]⟩) h'):Cl Pr K 37 [pt t 0 0,I no] h Q:=by
 have hs:=m.of hs
 unfold pY at hk
 refine cW ?_
 obtain⟨b,o,cap,hs⟩:=yQ (gK (no:=no) hn) (hs.front (fA G t ways n S))
 refine pO (t:=t) (ways:=ways) (n:=n) (b:=b) (o:=o) (cap:=cap) (l:=S (aI n no)) hn (by omega) (hb _) hs fun h hs=>aL rfl (aL rfl (aL rfl (bL (aY (by omega) ?_))))
 refine bW (aZ hs ?_)
 intro r h hs
 have back:∀{h:AH},Hs G h (O9 r (13,[])::aO t 0 (qJ ways n b o cap)::fV b (o+aI n no*1) (S (aI n no))::hole G 1 97 (some ⟨b,o,none⟩) cap n b o::G9 b o n S (aI n no)::L')→Hs G h (fA G t ways n S::L'):=fun hs=>by
  have:=mG t ways n S (aI n no) (S (aI n no)) b o cap (gK hn) hs
  rw[rM] at this
  exact this.to
 cases hx:ix no (S (aI n no)) with
 |some i=>
  obtain⟨x,h1,h2,h3,h4⟩:=oZ hx
  rw[h2] at hk
  simp only[Pf,hx]
  exact lI (cM (by omega) (hk _ (back hs)))
 |none=>
  rw[(sE hx).1] at hk
  simp only[Pf,hx]
  obtain⟨a,c,hs⟩:=rC (hs.front (fV b (o+aI n no*1) (S (aI n no))))
  refine lI (aY (by omega) (aC (aE (b:=b) (o:=o+aI n no*1) hs rfl (eV (aC (aA (aE (b:=t) (o:=0) hs rfl (bC (bE (fun hc=>?_) (fun hc=>?_))))))))))
  ·simp only[if_pos (show(S (aI n no)).length<ways by omega)] at hk
   refine hk _ (back ?_)
   exact(hY b (o+aI n no*1) (S (aI n no)) (a:=a) (c:=c) hs rfl rfl).to
  ·have hl:0<(S (aI n no)).length:=by omega
   simp only[if_neg (show ¬(S (aI n no)).length<ways by omega),List.getElem?_eq_getElem hl] at hk
   obtain⟨b2,o2,ha,hs1⟩:=(hs.front (dP 5 96 a c ((S (aI n no)).length,cZ (S (aI n no))))).hM hl
   subst ha
   refine aC (aE (b:=b) (o:=o+aI n no*1) hs1 rfl (dW (i:=0) hl (aA (Sw (b:=b2) (o:=o2) (i:=0*5) (j:=0+0) hs1 (v:=I ((S (aI n no))[0]).1) ?_ (hk _ ?_)))))
   ·exact W3 hl
   ·have hs1:=hs1.nY (rX _) (oT _)
    refine back ?_
    exact(hY b (o+aI n no*1) (S (aI n no)) (a:=some ⟨b2,o2,none⟩) (c:=c) hs1 rfl rfl).to
theorem Ds {l:List Th} {i c:Nat} {a:Option Addr} {Q:Value→AH→Prop} (hi:i<l.length) (hb:l.length≤4) (hs:Hs G h L) [m:Has (dP 5 96 a c) L (l.length,cZ l) L']
  (hk:∀h',Hs G h' (dP 5 96 a c (l.length - 1,cZ (l.take i++l.drop (i+1)))::L')→Q (.slice a (l.length - 1) c) h'):Cl Pr K 63 [.slice a l.length c,I i,I ((i:Int)+1)] h Q:=by
 have hs:=m.of hs
 have hcap:l.length≤c:=by
  obtain⟨r,r2,⟨_,_,hr⟩,_⟩:=hs.fst
  rcases hr with⟨hz,_⟩|⟨hz,_⟩|⟨hcap,_⟩
  ·simp only at hz;omega
  ·simp only at hz;omega
  ·exact hcap
 obtain⟨b,o,ha,_⟩:=hs.nC (by omega)
 refine cW (eV ?_)
 refine J5 (v:= .slice (some ⟨b,o+i*5,none⟩) (i+1 - i) (l.length - i)) ?_ ?_
 ·subst ha
  have b1:iX (some (I l.length)) c c=some l.length:=by simp only[iX];rw[if_pos (by omega)];simp
  have b2:iX (some (I ((i:Int)+1))) l.length l.length=some (i+1):=by simp only[iX];rw[if_pos (by omega)];congr 1
  have b3:iX (some (I i)) 0 (i+1)=some i:=by simp only[iX];rw[if_pos (by omega)];simp
  have hne:¬l.length=i:=by omega
  simp only[uA,b1,b2,b3,Option.isNone_some,Bool.false_and,Option.isSome_none,Bool.false_eq_true,if_false,hne,bG]
  rw[if_pos (by omega)]
 refine bH (aY (by omega) (bW (eV (aZ hs ?_))))
 intro r h hs
 refine b0 (i:=i) (by decide) rfl rfl hi hs ?_
 intro h hs
 refine hk _ ?_
 rw[No,←La,←B5]
 exact hs.to
theorem Ic {no:Int} {l:List Th} {i:Nat} (h:ix no l=some i):rem no l=l.take i++l.drop (i+1):=by obtain⟨_,_,_,h3,_⟩:=oZ h;exact h3
theorem Ji {no:Int} {l:List Th} {i:Nat} (h:ix no l=some i):l.length - 1=(rem no l).length:=by
 obtain⟨x,h1,h2,h3,h4⟩:=oZ h
 rw[zF,h2];rfl
theorem Ej {t ways n:Nat} {no:Int} {S:Nat→List Th} {Q:Value→AH→Prop} (hn:0<n) (hb:∀i,(S i).length≤4) (hs:Hs G h L) [m:Has (fA G t ways n) L S L']
  (hk:∀h',Hs G h' (fA G t ways n (dM n S no)::L')→Q (.tuple ⟨[.agg ⟨(aG n S no).1.enc⟩,I (aG n S no).2]⟩) h'):Cl Pr K 38 [pt t 0 0,I no] h Q:=by
 have hs:=m.of hs
 refine cW (gP hs ?_)
 intro p h hs
 unfold aG dM at hk
 by_cases h0:no<0
 ·rw[if_pos h0,if_pos h0] at hk
  refine Hl h0 hs fun h hs=>aL rfl (aL rfl (aL rfl (bL (cM (by omega) (aP hs (by decide) (l:=jW.zero.enc) rfl rfl ?_)))))
  refine dR hs rfl rfl rfl rfl ?_
  intro h hs
  exact aP hs (by decide) (l:=jW.zero.enc) rfl rfl (hk _ hs.tail)
 ·rw[if_neg h0,if_neg h0] at hk
  obtain⟨b,o,cap,hs⟩:=yQ (gK (no:=no) hn) (hs.front (fA G t ways n S))
  refine pO (t:=t) (ways:=ways) (n:=n) (b:=b) (o:=o) (cap:=cap) (l:=S (aI n no)) hn (by omega) (hb _) hs fun h hs=>aL rfl (aL rfl (aL rfl (bL (aY (by omega) ?_))))
  refine bW ?_
  cases hx:ix no (S (aI n no)) with
  |none=>
   rw[(sE hx).1,(sE hx).2,rM] at hk
   simp only[Pf,hx]
   refine bC (cM (by omega) (aP (b:=p) (o:=0) hs (by decide) (l:=jW.zero.enc) rfl rfl ?_))
   refine dR (b:=p) (o:=0) hs rfl rfl rfl rfl ?_
   intro h hs
   refine aP hs (by decide) (l:=jW.zero.enc) rfl rfl (hk _ ?_)
   have:=mG t ways n S (aI n no) (S (aI n no)) b o cap (gK hn) hs
   rw[rM] at this
   exact this.to
  |some i=>
   obtain⟨x,h1,h2,h3,h4⟩:=oZ hx
   rw[h2] at hk
   simp only[Pf,hx]
   obtain⟨a,c,hs⟩:=rC (hs.front (fV b (o+aI n no*1) (S (aI n no))))
   obtain⟨b2,o2,ha,hs1⟩:=(hs.front (dP 5 96 a c ((S (aI n no)).length,cZ (S (aI n no))))).hM (by omega)
   subst ha
   refine bC (aY (by omega) (bW (aC (aE (b:=b) (o:=o+aI n no*1) hs1 rfl (dW h4 (aA (Bf (b:=b2) (o:=o2) hs1 (by decide) (l:=x.enc) (by rw[Nat.zero_add];exact Mh h1) rfl ?_)))))))
   have hs1:=hs1.nY (rX _) (oT _)
   refine dR (b:=p) (o:=0) hs1 rfl rfl rfl rfl ?_
   intro h hs
   refine aC (aE (b:=b) (o:=o+aI n no*1) hs rfl (cL (by have:=hb (aI n no);omega) (Ds h4 (hb _) hs fun h hs=>?_)))
   refine aC (bM (b:=b) (o:=o+aI n no*1) hs rfl rfl rfl rfl ?_)
   intro h hs
   refine aP (b:=p) (o:=0) hs (by decide) (l:=x.enc) rfl rfl ?_
   refine dR (b:=p) (o:=0) hs rfl rfl rfl rfl ?_
   intro h hs
   refine aP hs (by decide) (l:=x.enc) rfl rfl (hk _ ?_)
   rw[Ji hx,←Ic hx] at hs
   have hs:=hY b (o+aI n no*1) (rem no (S (aI n no))) (a:=some ⟨b2,o2,none⟩) (c:=c) hs rfl rfl
   exact(mG t ways n S (aI n no) (rem no (S (aI n no))) b o cap (gK hn) hs).to
end Go.Proofs.YthgemaaghgpncaaDoor.C
end
section
namespace Go.Proofs.YthgemaaghgpncaaDoor.C
open Go Go.Ab Go.Hm Go.Ct
set_option maxRecDepth 100000
variable {G:Bg} {h:AH} {L L' M:List HP}
theorem Z8 {_t _ways n b o _cap p c:Nat} {no:Int} {x:jW} {l:List Th} {a:Option Addr} {Q:Value→AH→Prop} (hb:l.length≤4)
  (hs:Hs G h (aO p 0 x.enc::aO b (o+aI n no*1) [.slice a l.length c]::dP 5 96 a c (l.length,cZ l)::L))
  (hk:∀h',Hs G h' (fV b (o+aI n no*1) (l++[(no,x)])::L)→Q (I 0) h'):Dd 43 4 [] Q [(I no),(pt p 0 0),(pt b (o+aI n no*1) 0)] h:=by
 refine bW (aZ hs ?_)
 intro r h hs
 refine aC (aE (b:=b) (o:=o+aI n no*1) hs rfl (aP (b:=p) (o:=0) hs (by decide) (l:=x.enc) rfl rfl ?_))
 refine aR (c:=I no::x.enc) rfl (aR (c:=Q0 (no,x)) rfl ?_)
 refine oI (i:=7) (N:=11) (D:=[]) hs rfl rfl rfl rfl rfl ?_
 intro a2 h hs
 refine oW (a:=a) (c:=c) (n:=l.length) (cs:=cZ l) (a2:=some a2) (c2:=1) (m:=1) (ns:=Q0 (no,x)) hs (by omega) ?_
 intro a' c' h hs
 refine aC (bM (b:=b) (o:=o+aI n no*1) hs rfl rfl rfl rfl ?_)
 intro h hs
 refine hZ (show mL _ _=true by simp[mL,pt]) (hk _ ?_)
 have e1:cZ l++Q0 (no,x)=cZ (l++[(no,x)]):=by simp[cZ]
 have hs:=hY b (o+aI n no*1) (l++[(no,x)]) (a:=a') (c:=c') (n:=l.length+1) hs (by simp) e1
 exact hs.to
theorem Be {t ways n:Nat} {no:Int} {x:jW} {S:Nat→List Th} {Q:Value→AH→Prop} (h0:0≤no) (hn:0<n) (hb:∀i,(S i).length≤4) (hs:Hs G h L) [m:Has (fA G t ways n) L S L']
  (hk:∀h',Hs G h' (fA G t ways n (gA n ways S no x).1::L')→Q (I (gA n ways S no x).2) h'):Cl Pr K 43 [pt t 0 0,I no,.agg ⟨x.enc⟩] h Q:=by
 have hs:=m.of hs
 refine cW (iA hs ?_)
 intro p h hs
 obtain⟨b,o,cap,hs⟩:=yQ (gK (no:=no) hn) (hs.front (fA G t ways n S))
 refine pO (t:=t) (ways:=ways) (n:=n) (b:=b) (o:=o) (cap:=cap) (l:=S (aI n no)) hn (by omega) (hb _) hs fun h hs=>aL rfl (aL rfl (aL rfl (bL (aY (by omega) ?_))))
 obtain⟨a,c,hs⟩:=rC (hs.front (fV b (o+aI n no*1) (S (aI n no))))
 refine bW ?_
 have fin:∀{h:AH} {M:List HP},Hs G h (aO t 0 (qJ ways n b o cap)::aO p 0 x.enc::aO b (o+aI n no*1) [.slice a (rem no (S (aI n no))).length c]::dP 5 96 a c ((rem no (S (aI n no))).length,cZ (rem no (S (aI n no))))::
   hole G 1 97 (some ⟨b,o,none⟩) cap n b o::G9 b o n S (aI n no)::L')→
   (aN (sH (pt b (o+aI n no*1) 0)) fun v8=>aN (wO h v8) fun v9=>aN (vU v9) fun v10=>aN (sH (pt t 0 0)) fun v11=>aN (qH 0 v11) fun v12=>aN (wO h v12) fun v13=>aN (xJ .geq v10 v13) fun v14=>
    Br v14 (Q (I 11) h) (Dd 43 4 [] Q [(I no),(pt p 0 0),(pt b (o+aI n no*1) 0)] h)):=by
  intro h M hs
  have hlen:(rem no (S (aI n no))).length≤4:=by rw[zF];have:=hb (aI n no);split<;>omega
  unfold gA at hk
  refine aC (aE (b:=b) (o:=o+aI n no*1) hs rfl (eV (aC (aA (aE (b:=t) (o:=0) hs rfl (lI (bE (fun hc=>?_) (fun hc=>?_))))))))
  ·rw[if_pos (by omega)] at hk
   refine hk _ ?_
   have hs:=hY b (o+aI n no*1) (rem no (S (aI n no))) (a:=a) (c:=c) hs rfl rfl
   exact(mG t ways n S (aI n no) (rem no (S (aI n no))) b o cap (gK hn) hs).to
  ·rw[if_neg (by omega)] at hk
   refine Z8 (_t:=t) (_ways:=ways) (_cap:=cap) (l:=rem no (S (aI n no))) (a:=a) (c:=c) hlen (show Hs G h (aO p 0 x.enc::aO b (o+aI n no*1) [.slice a (rem no (S (aI n no))).length c]::dP 5 96 a c ((rem no (S (aI n no))).length,cZ (rem no (S (aI n no))))::aO t 0 (qJ ways n b o cap)::
    hole G 1 97 (some ⟨b,o,none⟩) cap n b o::G9 b o n S (aI n no)::L') from hs.to) ?_
   intro h hs
   exact hk _ (mG t ways n S (aI n no) (rem no (S (aI n no))++[(no,x)]) b o cap (gK hn) hs).to
 cases hx:ix no (S (aI n no)) with
 |none=>
  have e:=(sE hx).2
  simp only[Pf,hx]
  refine lI (aY (by omega) (bW (aZ hs ?_)))
  intro r h hs
  refine fin (M:=[]) ?_
  rw[e]
  exact hs.to
 |some i=>
  obtain⟨y,h1,h2,h3,h4⟩:=oZ hx
  simp only[Pf,hx]
  refine lI (cM (by omega) (bW ?_))
  refine aC (aE (b:=b) (o:=o+aI n no*1) hs rfl (cL (by have:=hb (aI n no);omega) (Ds h4 (hb _) hs fun h hs=>?_)))
  refine aC (bM (b:=b) (o:=o+aI n no*1) hs rfl rfl rfl rfl ?_)
  intro h hs
  refine aZ hs ?_
  intro r h hs
  refine fin (M:=[]) ?_
  rw[Ji hx,←Ic hx] at hs
  have hs:=hs.sg (b:=b) (o:=o+aI n no*1) (c:=[.slice a (rem no (S (aI n no))).length c]) rfl
  exact hs.to
end Go.Proofs.YthgemaaghgpncaaDoor.C
end
section
namespace Go.Proofs.YthgemaaghgpncaaDoor.C
open Go Go.Ab Go.Hm Go.Ct
set_option maxRecDepth 100000
variable {G:Bg} {h:AH} {L L' M:List HP}
theorem Em {t ways n:Nat} {no:Int} {S:Nat→List Th} {Q:Value→AH→Prop} (h0:0≤no) (hn:0<n) (hb:∀i,(S i).length≤4) (hs:Hs G h L) [m:Has (fA G t ways n) L S L']
  (hk:∀h',Hs G h' (fA G t ways n (oM n ways S no)::L')→Q (.tuple ⟨[.agg ⟨(aG n S no).1.enc⟩,I (Qi n ways S no)]⟩) h'):Cl Pr K 53 [pt t 0 0,I no] h Q:=by
 have hs:=m.of hs
 refine cW (gP hs ?_)
 intro p h hs
 refine Ej (t:=t) (ways:=ways) (n:=n) (S:=S) hn hb hs fun h hs=>aL rfl (aL rfl ?_)
 refine dR (b:=p) (o:=0) hs rfl rfl rfl rfl ?_
 intro h hs
 unfold oM Qi at hk
 refine bL (bE (fun hc=>?_) (fun hc=>?_))
 ·rw[if_neg hc,if_neg hc] at hk
  refine aP hs (by decide) (l:=(aG n S no).1.enc) rfl rfl ?_
  refine dR hs rfl rfl rfl rfl ?_
  intro h hs
  exact aP hs (by decide) (l:=(aG n S no).1.enc) rfl rfl (hk _ hs.tail)
 ·rw[if_pos (by omega),if_pos (by omega)] at hk
  refine aZ hs ?_
  intro r h hs
  refine aP (b:=p) (o:=0) hs (by decide) (l:=(aG n S no).1.enc) rfl rfl (aP (b:=p) (o:=0) hs (by decide) (l:=(aG n S no).1.enc) rfl rfl ?_)
  refine Be (t:=t) (ways:=ways) (n:=n) (S:=dM n S no) h0 hn (S1 hb) hs fun h hs=>?_
  refine dR (b:=p) (o:=0) hs rfl rfl rfl rfl ?_
  intro h2 hs2
  refine hZ ?_ ?_
  ·refine aP (b:=p) (o:=0) hs (by decide) (l:=(aG n S no).1.enc) rfl rfl ?_
   exact rQ (by simp[jW.enc,mL])
  ·exact aP (b:=p) (o:=0) hs2 (by decide) (l:=(aG n S no).1.enc) rfl rfl (hk _ hs2.to)
end Go.Proofs.YthgemaaghgpncaaDoor.C
end
section
namespace Go.Proofs.YthgemaaghgpncaaDoor.C
open Go Go.Ab Go.Hm Go.Ct
set_option maxRecDepth 100000
variable {G:Bg} {h:AH} {L L' M:List HP}
theorem Va {b o n:Nat} (hs:Hs G h (mU n (fun i=>aO b (o+i*1) [.slice none 0 0])::L)):Hs G h (mU n (fun i=>fV b (o+i*1) [])::L):=
 Hs.Ko (g:=fun i=>fV b (o+i*1) []) n _ (fun i _ _ _ hs=>(hY b (o+i*1) [] (a:=none) (c:=0) (n:=0) (cs:=[]) (gH (W:=5) (e:=96) hs).tE rfl rfl)) hs
theorem Ie {s w:Int} (hs1:1≤s∧s≤8) (hw:1≤w∧w≤4) {Q:Value→AH→Prop} (hs:Hs G h L) (hk:∀p h',Hs G h' (fA G p w.toNat s.toNat (fun _=>[])::L)→Q (.tuple ⟨[pt p 0 0,I 0]⟩) h'):Cl Pr K 34 [I s,I w] h Q:=by
 refine cW (bC (aY (by omega) (qE (aY (by omega) (bC (aY (by omega) (qE (aY (by omega) (P8 (by omega) (by omega) (by omega) ?_)))))))))
 dsimp only
 refine fB hs ?_ rfl ?_ ?_
 ·rw[gY,qW (W:=1) (fun _=>rfl)]
 ·rw[gY];exact tQ (fun _=>rfl) _
 intro a h hs
 obtain⟨b,o,ha,hs⟩:=Hs.Kx (W:=1) rfl (by omega) hs
 cases ha
 have hw':w=(w.toNat:Int):=by omega
 refine aR (c:=qJ w.toNat s.toNat b o s.toNat) (by unfold qJ;rw[←hw'];rfl) (iA hs ?_)
 intro p h hs
 refine hk p h ?_
 have hs:=Va (hs.front (mU s.toNat fun i=>aO b (o+i*1) [.slice none 0 0]))
 exact D5 (b:=b) (o:=o) (cap:=s.toNat) hs.to
end Go.Proofs.YthgemaaghgpncaaDoor.C
end
section
namespace Go.Proofs.YthgemaaghgpncaaDoor.C
open Go Go.Ab Go.Hm Go.Ct
def gI (t:Nat) (C:bJ) (core:Int) (s:eQ):List Value:=pt t 0 0::(C.enc++[I core,I s.al,.bool s.aw,.bool s.sB,I s.gl,I s.gc.st,I s.gc.w,I s.gc.d.1,I s.gc.d.2,.bool s.lA])
set_option maxRecDepth 100000
variable {G:Bg} {h:AH} {L L' M:List HP}
def dX (G:Bg) (c:Nat) (C:bJ) (core:Int) (s:eQ):HP:=Nm fun t:Nat=>sp [aO c 0 (gI t C core s),fA G t C.ways.toNat C.aD.toNat s.S]
theorem eW {c:Nat} {C:bJ} {core:Int} {s:eQ} (hs:Hs G h (dX G c C core s::L)):∃t,Hs G h (aO c 0 (gI t C core s)::fA G t C.ways.toNat C.aD.toNat s.S::L):=by
 obtain⟨t,hs⟩:=hs.Pm
 exact⟨t,hs.unpack⟩
theorem aV (c t:Nat) (C:bJ) (core:Int) (s:eQ) {cs:List Value} {S:Nat→List Th} {L1 L2:List HP} (hs:Hs G h L) [m:Has (aO c 0) L cs L1] [m2:Has (fA G t C.ways.toNat C.aD.toNat) L1 S L2] (h1:cs=gI t C core s) (h2:S=s.S):Hs G h (dX G c C core s::L2):=by
 subst h1;subst h2
 exact Hs.Pb (A:=fun t:Nat=>sp [aO c 0 (gI t C core s),fA G t C.ways.toNat C.aD.toNat s.S]) t (Hs.pack (A:=[_,_]) (hs.perm (m.perm.trans (m2.perm.cons _))))
variable {C:bJ} {core:Int} {c:Nat} {s:eQ}
theorem mC (hC:C.Ok) {l:Int} {Q:Value→AH→Prop} (hl:Ob G 0 eJ) (hs:Hs G h L) [m:Has (dX G c C core) L s L'] (hk:∀h',Hs G h' (dX G c C core s::L')→Q (.bool (lZ C l)) h'):Cl Pr K 35 [pt c 0 0,I l] h Q:=by
 obtain⟨t,hs⟩:=eW (m.of hs)
 refine cW (lI (bE (fun h1=>?_) (fun h1=>?_)))
 ·refine aC (aA (aP (b:=c) (o:=0) hs (by decide) (l:=C.enc) rfl rfl (uQ hC hl hs fun h hs=>bC ?_)))
  show Q _ _
  rw[show decide (l<(C.lines:Int))=lZ C l from decide_eq_decide.2 (by omega)]
  exact hk _ (aV c t C core s hs rfl rfl)
 ·rw[show lZ C l=false from decide_eq_false (by omega)] at hk
  exact hk _ (aV c t C core s hs rfl rfl)
theorem Ey (hC:C.Ok) (hb:Bd s) {l ow:Int} {w:Bool} {Q:Value→AH→Prop} (ho:Ob G 1 cK) (hs:Hs G h L) [m:Has (dX G c C core) L s L'] (hk:∀h',Hs G h' (dX G c C core s::L')→Q (.bool (yK C.aD.toNat s.S l ow w)) h'):Cl Pr K 68 [pt c 0 0,I l,I ow,.bool w] h Q:=by
 obtain⟨t,hs⟩:=eW (m.of hs)
 refine cW (iJ (eS (bW (aC (aA (aE (b:=c) (o:=0) hs rfl ?_))))))
 refine mP (t:=t) (ways:=C.ways.toNat) (n:=C.aD.toNat) (S:=s.S) (gO hC).1 hb hs fun h hs=>aL rfl (aL rfl (gP hs ?_))
 intro p h hs
 refine dR hs rfl rfl rfl rfl ?_
 intro h hs
 unfold yK at hk
 refine bH (bE (fun h1=>aA (aE hs rfl (bH (bE (fun h2=>?_) (fun h2=>?_))))) (fun h1=>?_))
 ·rw[decide_eq_true h1,decide_eq_true h2,Bool.true_and,Bool.true_and] at hk
  exact aP hs (by decide) (l:=(aG C.aD.toNat s.S l).1.enc) rfl rfl (Dg ho hs fun h hs=>hk _ (aV c t C core s hs rfl rfl).to)
 ·rw[decide_eq_false h2,Bool.and_false,Bool.false_and] at hk
  exact hk _ (aV c t C core s hs rfl rfl).to
 ·rw[decide_eq_false h1,Bool.false_and,Bool.false_and] at hk
  exact hk _ (aV c t C core s hs rfl rfl).to
theorem nZ (hC:C.Ok) (hb:Bd s) {l at' ow:Int} {w:Bool} {Q:Value→AH→Prop} (hl:Ob G 0 eJ) (ho:Ob G 1 cK) (hs:Hs G h L) [m:Has (dX G c C core) L s L'] (hk:∀h',Hs G h' (dX G c C core s::L')→Q (I (eZ C s.S l at' ow w)) h'):Cl Pr K 41 [pt c 0 0,I l,I at',I ow,.bool w] h Q:=by
 have hs:=m.of hs
 unfold eZ at hk
 refine cW (iJ (eS (bW (mC (c:=c) (core:=core) (s:=s) hC hl hs fun h hs=>dY (gU (cS (fun h1=>?_) (fun h1=>?_)))))))
 ·rw[h1] at hk
  simp only[Bool.true_eq_false,if_false] at hk
  refine bC (bE (fun h2=>?_) (fun h2=>lI (bE (fun h3=>?_) (fun h3=>bW (Ey (c:=c) (core:=core) (s:=s) hC hb ho hs fun h hs=>dY (gU (cS (fun h4=>?_) (fun h4=>?_))))))))
  ·rw[if_pos h2] at hk;exact hk _ hs
  ·rw[if_neg h2,if_pos h3] at hk;exact hk _ hs
  ·rw[if_neg h2,if_neg h3,if_neg (by rw[h4];simp)] at hk;exact hk _ hs
  ·rw[if_neg h2,if_neg h3,if_pos h4] at hk;exact hk _ hs
 ·rw[if_pos h1] at hk;exact hk _ hs
theorem Eh (hC:C.Ok) (hb:Bd s) {l at' ow:Int} {Q:Value→AH→Prop} (hl:Ob G 0 eJ) (ho:Ob G 1 cK) (hs:Hs G h L) [m:Has (dX G c C core) L s L'] (hk:∀v e h',Hs G h' (dX G c C core (jO C s l at' ow)::L')→Q (.tuple ⟨[I v,I e]⟩) h'):Cl Pr K 27 [pt c 0 0,I l,I at',I ow] h Q:=by
 have hs:=m.of hs
 unfold jO at hk
 refine cW (nZ (c:=c) (core:=core) (s:=s) hC hb hl ho hs fun h hs=>bL (bE (fun h1=>?_) (fun h1=>?_)))
 ·rw[if_neg h1] at hk;exact hk _ _ _ hs
 ·have h1:eZ C s.S l at' ow false=0:=by omega
  rw[if_pos h1] at hk
  obtain⟨hl1,ha,hp,_⟩:=jT h1
  obtain⟨t,hs⟩:=eW hs
  refine bW (aC (aA (aE (b:=c) (o:=0) hs rfl (Em (t:=t) (ways:=C.ways.toNat) (n:=C.aD.toNat) (S:=s.S) hl1.1 (gO hC).1 hb hs fun h hs=>aL rfl (aL rfl (gP hs ?_))))))
  intro p h hs
  refine dR hs rfl rfl rfl rfl ?_
  intro h hs
  have hs2:=fun {h:AH} hs=>(aV c t C core {s with S:=oM C.aD.toNat C.ways.toNat s.S l} (G:=G) (h:=h) (L:=aO p 0 (aG C.aD.toNat s.S l).1.enc::fA G t C.ways.toNat C.aD.toNat (oM C.aD.toNat C.ways.toNat s.S l)::aO c 0 (gI t C core s)::L') hs rfl rfl)
  refine bL (bE (fun h2=>hk _ _ _ (hs2 hs).to) (fun h2=>aA ?_))
  rcases ha with rfl|rfl
  ·exact fT (by decide) (by decide) (aE (b:=p) (o:=0) hs rfl (hk _ _ _ (hs2 hs).to))
  ·exact fT (by decide) (by decide) (aE (b:=p) (o:=0) hs rfl (hk _ _ _ (hs2 hs).to))
end Go.Proofs.YthgemaaghgpncaaDoor.C
end
end
