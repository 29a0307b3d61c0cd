/- A part of the proof. -/
import Derived.Test.YtajjljbmfdboaaaGreatDoorP11
import Derived.Test.YtajjljbmfdboaaaGreatDoorP10
import Derived.Test.YtajjljbmfdboaaaGreatDoorP9
section
open Go Go.Ab
attribute [local irreducible] aZ Br oM rI sQ Bi lE tH kU Qb gI lF pD pW oR kH zH tJ W2 Ut Qa Nn T3 P6 Km Lx T2 jR mX rV iO copyV iB vL Va Uo Fm kB Lu Sv Vn nF rH wK zB Cl wX T1 rM qX jI gS cI cA
section
namespace Go.Proofs.YtajjljbmfdboaaaGreatDoor.H
open Go Go.Ab Go.Hm
set_option maxRecDepth 100000
variable {G:Bg} {h:AH} {L L':List HP}
def eH (b o:Nat) (r:Row):HP:=fun q=>∃a c,star [aE b o (r.enc a c),dB 9 175 a c (r.waits.length,eF r.waits)] q
theorem dS {b o:Nat} {r:Row} (hs:Hs G h (eH b o r::L)):∃a c,Hs G h (aE b o (r.enc a c)::dB 9 175 a c (r.waits.length,eF r.waits)::L):=by
 obtain⟨q,q2,⟨a,c,hq⟩,h2,h3,h4,h5⟩:=hs.fst
 exact⟨a,c,hs.base,hs.old,hs.wf,hs.fr,_,(hU (L:=[_,_])).2 ⟨q,q2,hq,h2,h3,rfl⟩,(cE.eZ h3).2 ⟨h4,h5⟩⟩
theorem iR {b o:Nat} (r:Row) {a:Option Addr} {c:Nat} (hs:Hs G h (aE b o (r.enc a c)::dB 9 175 a c (r.waits.length,eF r.waits)::L)):Hs G h (eH b o r::L):=
 Hs.join (A:=[_,_]) hs fun _ hq=>⟨a,c,hq⟩
theorem xV {x:Int} {Q:Value→AH→Prop} (hk:Q (.bool (decide (0≤x∧x<5))) h):Cl Pr K 295 [I x] h Q:=by
 refine cW ?_
 refine dM (aS (fun h1=>aU ?_) (fun h1=>?_))
 ·show Q _ _;rw[show decide (x<5)=decide (0≤x∧x<5) from decide_eq_decide.2 (by omega)];exact hk
 ·show Q _ _;rw[show false=decide (0≤x∧x<5) from(decide_eq_false (by omega)).symm];exact hk
theorem pb {x:Int} {Q:Value→AH→Prop} (hk:Q (.bool (valid x)) h):Cl Pr K 297 [I x] h Q:=by
 refine cW (xV (aS (fun h1=>aX ?_) (fun h1=>?_)))
 ·show Q _ _;rw[show decide (x≠0)=valid x from by simp only[valid,decide_eq_true h1,Bool.true_and]];exact hk
 ·show Q _ _;rw[show false=valid x from by simp only[valid,decide_eq_false h1,Bool.false_and]];exact hk
theorem Yy {b o:Nat} {r:Row} {Q:Value→AH→Prop} (hs:Hs G h L) [m:Has (eH b o) L r L'] (hk:∀h',Hs G h' (eH b o r.free::L')→Q (.tuple ⟨[]⟩) h'):Cl Pr K 252 [pt b o 0] h Q:=by
 obtain⟨a,c,hs⟩:=dS (m.of hs)
 refine cW ?_
 repeat' first
  |refine aA ?_
  |refine aB ?_
  |(refine bE hs rfl rfl rfl rfl ?_;intro h hs)
  |refine aK rfl ?_
 exact hk _ (iR r.free (a:=a) (c:=c) hs)
theorem kr {r:Row} {x:Int} (h:r.owner=x):r.leave x={r with sh:=vA r.sh x false,owner:= -1}:=by simp only[Row.leave,if_pos h]
theorem qn {r:Row} {x:Int} (h:¬r.owner=x):r.leave x={r with sh:=vA r.sh x false}:=by simp only[Row.leave,if_neg h]
theorem Cn {b o:Nat} {r:Row} {x:Int} {Q:Value→AH→Prop} (hs:Hs G h L) [m:Has (eH b o) L r L'] (hx:0≤x∧x<4) (hk:∀h',Hs G h' (eH b o (r.leave x)::L')→Q (.tuple ⟨[]⟩) h'):Cl Pr K 218 [pt b o 0,I x] h Q:=by
 obtain⟨a,c,hs⟩:=dS (m.of hs)
 refine cW ?_
 have hx4:x=0∨x=1∨x=2∨x=3:=by omega
 rcases hx4 with rfl|rfl|rfl|rfl
 all_goals
  refine aB (aA (fA (by decide) (by decide) ?_))
  repeat' first
   |refine aA ?_
   |refine aB ?_
   |refine bC ?_
   |refine aC hs rfl ?_
   |(refine bE hs rfl rfl rfl rfl ?_;intro h hs)
   |(refine aS (fun hc=>?_) (fun hc=>?_))
  ·rw[kr hc] at hk
   exact hk _ (iR _ (a:=a) (c:=c) hs)
  ·rw[qn hc] at hk
   exact hk _ (iR _ (a:=a) (c:=c) hs)
theorem at4 {f:Nat→Bool} {i:Nat} (hi:i<4) {k:Value→Prop} (hk:k (.bool (f i))):aZ (Lu 4 1 (.agg ⟨[.bool (f 0),.bool (f 1),.bool (f 2),.bool (f 3)]⟩) (I i)) k:=by
 refine V5 ?_ hk
 have:i=0∨i=1∨i=2∨i=3:=by omega
 rcases this with rfl|rfl|rfl|rfl<;>simp[Lu]
theorem Vz {b o:Nat} {r:Row} {x:Int} {a:Option Addr} {c:Nat} {Q:Value→AH→Prop} (hs:Hs G h (aE b o (r.enc a c)::L)):∀(f i:Nat) (t:Value),i+f=4→Q (I (r.xG x f i)) h→
  Dd 221 1 [] Q [(pt b o 0),(I x),(I (-1)),(.agg ⟨[.bool (r.sh 0),.bool (r.sh 1),.bool (r.sh 2),.bool (r.sh 3)]⟩),(I i),t] h:=by
 intro f
 induction f with
 |zero=>
  intro i t hi hq
  refine bW (aU (aI (by omega) ?_))
  exact hq
 |succ f ih=>
  intro i t hi hq
  refine bW (aU (bM (by omega) (bW (at4 (by omega) ?_))))
  have next:∀t,r.holds x i=false→Dd 221 3 [] Q [(pt b o 0),(I x),(I (-1)),(I i),(.agg ⟨[.bool (r.sh 0),.bool (r.sh 1),.bool (r.sh 2),.bool (r.sh 3)]⟩),(I i),t] h:=fun t hh=>by
   refine bW (bI (by omega) (ih (i+1) _ (by omega) ?_))
   simpa [Row.xG,hh] using hq
  refine bC (aS (fun hc=>next _ ?_) (fun hc=>bW (dA (fun h1=>bW ?_) (fun h1=>bW ?_))))
  ·exact Yk hc
  ·rw[h1]
   refine dY (bW ?_)
   have:r.holds x i=true:=pe hc h1
   rw[Row.xG,if_pos this] at hq;exact hq
  ·repeat' first
    |refine aA ?_
    |refine aB ?_
    |refine bC ?_
    |refine aC hs rfl ?_
   refine aS (fun h2=>bW ?_) (fun h2=>next _ ?_)
   ·have:r.holds x i=true:=iz hc h2
    rw[Row.xG,if_pos this] at hq;exact hq
   ·exact Y6 h1 h2
theorem sZ {b o:Nat} {r:Row} {x:Int} {Q:Value→AH→Prop} (hs:Hs G h L) [m:Has (eH b o) L r L'] (hk:Hs G h (eH b o r::L')→Q (I (r.first x)) h):Cl Pr K 221 [pt b o 0,I x] h Q:=by
 have hk:=hk (m.of hs)
 obtain⟨a,c,hs⟩:=dS (m.of hs)
 refine cW ?_
 repeat' first
  |refine aA ?_
  |refine aB ?_
  |refine aN hs (by decide) rfl rfl ?_
 exact Vz hs 4 0 _ rfl hk
def ag (b o:Nat) (r:Row):HP:=aE b o r.V4
def Hw (b o:Nat) (r:Row):HP:=sS fun x:Option Addr×Nat=>sp [aE b (o+5) (r.Jb x.1 x.2),dB 9 175 x.1 x.2 (r.waits.length,eF r.waits)]
theorem Ix {b o:Nat} {r:Row} (hs:Hs G h (eH b o r::L)):Hs G h (ag b o r::Hw b o r::L):=by
 obtain⟨a,c,hs⟩:=dS hs
 have hs1:Hs G h (aE b (o+5) (r.Jb a c)::dB 9 175 a c (r.waits.length,eF r.waits)::aE b o r.V4::L):=(hs.split (c:=r.V4) (d:=r.Jb a c)).perm (by
  exact(List.Perm.swap _ _ _).trans ((List.Perm.swap _ _ _).cons _))
 exact(Hs.wM (A:=fun x:Option Addr×Nat=>sp [aE b (o+5) (r.Jb x.1 x.2),dB 9 175 x.1 x.2 (r.waits.length,eF r.waits)]) (a,c) (Hs.pack (A:=[_,_]) hs1)).perm (List.Perm.swap _ _ _)
theorem K2 {b o:Nat} {r:Row} (hs:Hs G h (Hw b o r::L)):∃a c,Hs G h (aE b (o+5) (r.Jb a c)::dB 9 175 a c (r.waits.length,eF r.waits)::L):=by
 obtain⟨⟨a,c⟩,hs⟩:=hs.Be
 exact⟨a,c,hs.unpack⟩
theorem Uh {b o:Nat} (r:Row) {a:Option Addr} {c:Nat} (hs:Hs G h (aE b (o+5) (r.Jb a c)::dB 9 175 a c (r.waits.length,eF r.waits)::L)):Hs G h (Hw b o r::L):=
 Hs.wM (A:=fun x:Option Addr×Nat=>sp [aE b (o+5) (r.Jb x.1 x.2),dB 9 175 x.1 x.2 (r.waits.length,eF r.waits)]) (a,c) (Hs.pack (A:=[_,_]) hs)
theorem K4 {b o:Nat} {r:Row} (hs:Hs G h (ag b o r::Hw b o r::L)):Hs G h (eH b o r::L):=by
 obtain⟨a,c,hs⟩:=K2 (hs.perm (List.Perm.swap _ _ _))
 refine iR r (a:=a) (c:=c) ?_
 rw[Row.Zo]
 exact Hs.Gm (c:=r.V4) (hs.perm ((List.Perm.swap _ _ _).cons _|>.trans (List.Perm.swap _ _ _))) rfl
def B5 (b o p q:Nat) (x:Int) (r:Row):HP:=sp [ag b o r,aE p 0 [pt b o 0],aE q 0 [I x]]
theorem Ug {b o:Nat} {x:Int} {Q:Value→AH→Prop} (hs:Hs G h L) (hk:∀p q h',Hs G h' (aE p 0 [pt b o 0]::aE q 0 [I x]::L)→Q (.func (.func 272) #[] #[pt p 0 0,pt q 0 0]) h'):Cl Pr K 223 [pt b o 0,I x] h Q:=by
 refine cW ?_
 repeat' first
  |(refine dJ hs ?_;intro p h hs)
 exact hk _ _ _ (hs.perm (List.Perm.swap _ _ _))
theorem N8 {b o p q:Nat} {r:Row} {x:Int} {I':List (List Value)→HP} {J:HP} {y:Value} {Q:Value→AH→Prop}
  (hy:∀z rest h M,Hs G h (I' (z::rest)::M)→wX Pr K y z h fun v h'=>(v= .bool true∧Hs G h' (I' rest::M))∨(v= .bool false∧Hs G h' (J::M)))
  (h1:∀v h',Hs G h' (B5 b o p q x r::I' []::L)→Q v h') (h2:∀v h',Hs G h' (B5 b o p q x r::J::L)→Q v h'):
  ∀(f i:Nat) (h:AH),i+f=4→Hs G h (B5 b o p q x r::I' ((r.fR x f i).map fun(c:Nat)=>[I c])::L)→
   Dd 272 1 [] Q [y,(pt p 0 0),(pt q 0 0),(.agg ⟨[.bool (r.sh 0),.bool (r.sh 1),.bool (r.sh 2),.bool (r.sh 3)]⟩),(I i)] h:=by
 intro f
 induction f with
 |zero=>
  intro i h hi hs
  refine bW (aU (aI (by omega) ?_))
  exact h1 _ _ hs
 |succ f ih=>
  intro i h hi hs
  refine bW (aU (bM (by omega) (bW (at4 (by omega) ?_))))
  have hs0:=hs
  have hs:=hs.unpack
  have yes:r.holds x i=true→wX Pr K y [I i] h fun v h'=>(v= .bool true∧Hs G h' (B5 b o p q x r::I' ((r.fR x f (i+1)).map fun(c:Nat)=>[I c])::L))∨(v= .bool false∧Hs G h' (B5 b o p q x r::J::L)):=fun hh=>by
   rw[Row.fR,if_pos hh] at hs0
   refine(hy _ _ h _ (hs0.perm (List.Perm.swap _ _ _))).mono fun v h' hv=>?_
   exact hv.imp (fun e=>⟨e.1,e.2.perm (List.Perm.swap _ _ _)⟩) (fun e=>⟨e.1,e.2.perm (List.Perm.swap _ _ _)⟩)
  have no:r.holds x i=false→Hs G h (B5 b o p q x r::I' ((r.fR x f (i+1)).map fun(c:Nat)=>[I c])::L):=fun hh=>by
   simpa only[Row.fR,hh,Bool.false_eq_true,if_false] using hs0
  refine aC hs rfl (bC (aS (fun hc=>bI (by omega) (ih (i+1) h (by omega) (no (Yk hc)))) (fun hc=>bU (dI (dA (fun h3=>?_) (fun h3=>?_))))))
  ·refine(yes (pe hc h3)).mono fun v h' hv=>?_
   rcases hv with⟨rfl,hs'⟩|⟨rfl,hs'⟩
   ·exact bU (bS (bW (bI (by omega) (ih (i+1) h' (by omega) hs'))))
   ·exact bU (dY (h2 _ _ hs'))
  ·have hsr:Hs G h (aE b o r.V4::_):=hs
   refine aC hs rfl (aB (aA (aC hsr rfl (aX (aS (fun h4=>?_) (fun h4=>?_))))))
   ·exact bW (bI (by omega) (ih (i+1) h (by omega) (no (Y6 h3 h4))))
   ·refine bW ((yes (iz hc (by simpa using h4))).mono fun v h' hv=>?_)
    rcases hv with⟨rfl,hs'⟩|⟨rfl,hs'⟩
    ·exact bU (bS (bW (bI (by omega) (ih (i+1) h' (by omega) hs'))))
    ·exact bU (dY (h2 _ _ hs'))
theorem df {b o p q:Nat} {r:Row} {x:Int}:qy Pr K G 272 [] [pt p 0 0,pt q 0 0] (B5 b o p q x r) ((r.iP x).map fun(c:Nat)=>[I c]):=by
 intro I' J y L h Q hs hy h1 h2
 refine cW ?_
 have hs2:=hs.unpack
 have hsr:Hs G h (aE b o r.V4::_):=hs2
 refine aC hs2 rfl (aB (aA (aN hsr (by decide) rfl rfl ?_)))
 exact N8 hy h1 h2 4 0 h rfl hs
end Go.Proofs.YtajjljbmfdboaaaGreatDoor.H
end
section
namespace Go.Proofs.YtajjljbmfdboaaaGreatDoor.H
open Go Go.Ab Go.Hm
set_option maxRecDepth 100000
variable {G:Bg} {h:AH} {L L':List HP}
def eK (v:Value) (l:List aQ):HP:=sS fun x:Option Addr×Nat=>sp [zD (v= .slice x.1 l.length x.2),dB 9 175 x.1 x.2 (l.length,eF l)]
theorem Em {a:Option Addr} {c n:Nat} {l:List aQ} {cs:List Value} (hn:n=l.length) (hc:cs=eF l) (hs:Hs G h (dB 9 175 a c (n,cs)::L)):Hs G h (eK (.slice a n c) l::L):=by
 subst hn;subst hc
 exact Hs.wM (A:=fun x:Option Addr×Nat=>sp [zD (Value.slice a l.length c=Value.slice x.1 l.length x.2),dB 9 175 x.1 x.2 (l.length,eF l)]) (a,c) (Hs.pack (A:=[_,_]) (Hs.Qt rfl hs))
theorem ir {v:Value} {l:List aQ} (hs:Hs G h (eK v l::L)):∃a c,v= .slice a l.length c∧Hs G h (dB 9 175 a c (l.length,eF l)::L):=by
 obtain⟨⟨a,c⟩,hs⟩:=hs.Be
 obtain⟨hv,hs⟩:=Hs.r7 hs.unpack
 exact⟨a,c,hv,hs⟩
theorem Ta {line state:Int} {l:List Nat} {i:Nat}:gG line state (l++[i])=gG line state l++[⟨11,i,line,0,state,0,0,false,0⟩]:=by simp[gG,aQ.zero]
theorem aAk {f:Nat→Bool} {i j:Nat} {v:Bool}:vA f i v j=if j=i then v else f j:=by
 simp only[vA,Int.ofNat_inj]
theorem Rt {r:Row} {l:List Nat} {i:Nat}:r.gB (l++[i])={r.gB l with asked:=vA (r.gB l).asked i true}:=by
 simp only[Row.gB,Row.mk.injEq,true_and,and_true]
 funext j
 simp only[aAk,List.contains_append]
 by_cases h:j=i
 ·subst h;simp
 ·simp[h]
theorem vr {b o i:Nat} {r:Row} {a:Option Addr} {c:Nat} {v:Bool} {k:AH→Prop} (hs:Hs G h L) [m:Has (aE b (o+5)) L (r.Jb a c) L'] (hi:i<4) (hk:∀h',Hs G h' (aE b (o+5) (({r with asked:=vA r.asked i v}:Row).Jb a c)::L')→k h'):aZ (sQ h 1 (pt b o (17+(i:Int).toNat*1)) (.bool v)) k:=by
 have hs:=m.of hs
 rw[aD8 (m:=5) (by omega)]
 have:i=0∨i=1∨i=2∨i=3:=by omega
 rcases this with rfl|rfl|rfl|rfl
 all_goals
  refine bE hs rfl rfl rfl rfl ?_
  exact hk
def prC (b o p2 p5 p8 p10:Nat) (line state:Int) (r:Row) (xs:List Nat) (e:Nat→Value) (d l:Nat) (rest:List (List Value)) (done:List Nat) (a:Option Addr) (c:Nat):List HP:=
 [zD (rest=(xs.drop done.length).map fun(c:Nat)=>[I c]),zD (xs.take done.length=done),
    nE Pr 222 (nB 58) 26 e d l (.ready,none),aE p2 0 [pt b o 0],aE p5 0 [I line],aE p8 0 [I state],Hw b o (r.gB done),
    aE p10 0 [.slice a done.length c],dB 9 175 a c (done.length,eF (gG line state done))]
def prI (b o p2 p5 p8 p10:Nat) (line state:Int) (r:Row) (xs:List Nat) (e:Nat→Value) (d l:Nat) (rest:List (List Value)):HP:=
 sS fun x:List Nat×Option Addr×Nat=>sp (prC b o p2 p5 p8 p10 line state r xs e d l rest x.1 x.2.1 x.2.2)
theorem aCh {b o p2 p5 p8 p10:Nat} {line state:Int} {r:Row} {xs:List Nat} {e:Nat→Value} {d l:Nat} {rest:List (List Value)} (done:List Nat) (a:Option Addr) (c:Nat) (h1:rest=(xs.drop done.length).map fun(c:Nat)=>[I c]) (h2:xs.take done.length=done)
  (hs:Hs G h (sp ((prC b o p2 p5 p8 p10 line state r xs e d l rest done a c).drop 2)::L)):Hs G h (prI b o p2 p5 p8 p10 line state r xs e d l rest::L):=
 Hs.wM (done,a,c) (vN h1 (vN h2 hs))
theorem x9 {b o p2 p5 p8 p10:Nat} {line state:Int} {r:Row} {xs:List Nat} {e:Nat→Value} {d l:Nat} {rest:List (List Value)} (hs:Hs G h (prI b o p2 p5 p8 p10 line state r xs e d l rest::L)):∃done a c,(rest=(xs.drop done.length).map fun(c:Nat)=>[I c])∧xs.take done.length=done∧
  Hs G h (nE Pr 222 (nB 58) 26 e d l (.ready,none)::aE p2 0 [pt b o 0]::aE p5 0 [I line]::aE p8 0 [I state]::Hw b o (r.gB done)::aE p10 0 [.slice a done.length c]::dB 9 175 a c (done.length,eF (gG line state done))::L):=by
 obtain⟨⟨done,a,c⟩,hs⟩:=Hs.Be hs
 obtain⟨h1,hs⟩:=gF hs
 obtain⟨h2,hs⟩:=gF hs
 exact⟨done,a,c,h1,h2,hs.unpack⟩
theorem C8 {b o:Nat} {line state:Int} {r:Row} {g:FuncId} {caps:List Value} {A:HP} {xs:List Nat} {Q:Value→AH→Prop} (hy:qy Pr K G g [] caps A (xs.map fun(c:Nat)=>[I c])) (hx:∀c∈xs,c<4) (hxl:xs.length≤4) (hg:fK Pr g=true)
  (hs:Hs G h (A::Hw b o r::L)) (hk:∀v h',Hs G h' (eK v (gG line state xs)::A::Hw b o (r.gB xs)::L)→Q v h'):
  Cl Pr K 222 [pt b o 0,I line,I state,.func (.func g) #[] ⟨caps⟩] h Q:=by
 refine cW ?_
 refine dJ hs fun p2 h hs=>dJ hs fun p5 h hs=>dJ hs fun p8 h hs=>bK hs fun p10 h hs=>mW hs fun d h hs=>?_
 intro e he
 refine qP hs fun l h hs=>?_
 refine vZ hg ?_
 have hs:=fY (W:=9) (e:=175) hs
 have e0:r.gB []=r:=by simp[Row.gB]
 have hst:Hs G h (A::prI b o p2 p5 p8 p10 line state r xs e d l (xs.map fun(c:Nat)=>[I c])::mk d ()::L):=by
  refine Hs.kI (aCh [] none 0 rfl rfl ?_)
  rw[←e0] at hs
  simp only[prC,List.drop_succ_cons,List.drop_zero,List.length_nil,gG,List.map_nil,Lw]
  exact hs.to
 refine hy _ (zD False) _ _ h _ hst ?_ ?_ ?_
 ·intro x rest h M hs
  obtain⟨done,a,c,h1,h2,hq⟩:=x9 hs
  clear hs
  cases hx2:xs.drop done.length with
  |nil=>rw[hx2] at h1;cases h1
  |cons i xs'=>
   rw[hx2] at h1
   simp only[List.map_cons,List.cons.injEq] at h1
   obtain⟨rfl,rfl⟩:=h1
   have hi4:i<4:=hx i (List.mem_of_mem_drop (by rw[hx2];exact List.mem_cons_self))
   have hdl:done.length<xs.length:=by
    rcases Nat.lt_or_ge done.length xs.length with h|h
    ·exact h
    ·rw[List.drop_eq_nil_of_le h] at hx2;cases hx2
   obtain⟨a2,c2,hs⟩:=K2 (hq.perm (dX.perm (A:=Hw b o (r.gB done))))
   refine rW (xD hs) he ?_
   refine kA hs fun h hs=>aC hs rfl (aB (aA (fA (by omega) (by omega) ?_)))
   rw[Nat.zero_add]
   refine vr hs hi4 fun h hs=>aC hs rfl (aC hs rfl (aC hs rfl (aK (c:=aQ.enc ⟨11,i,line,0,state,0,0,false,0⟩) rfl (aK (c:=aQ.enc ⟨11,i,line,0,state,0,0,false,0⟩) rfl ?_))))
   refine dP hs rfl rfl rfl ?_
   intro a3 h hs
   refine pL hs (by omega) ?_
   intro a4 c4 h hs
   dsimp only
   refine bA hs rfl rfl rfl rfl ?_
   intro h hs
   refine jS hs ?_
   intro h hs
   refine .inl ⟨rfl,?_⟩
   rw[←Rt] at hs
   have hs:=Uh (r.gB (done++[i])) (hs.cN (aE b (o+5) ((r.gB (done++[i])).Jb a2 c2)) (dB 9 175 a2 c2 ((r.gB done).waits.length,eF (r.gB done).waits)))
   have hl:(done++[i]).length=done.length+1:=by simp
   have hxs:xs=done++i::xs':=by have:=List.take_append_drop done.length xs;rw[h2,hx2] at this;exact this.symm
   refine aCh (done++[i]) a4 c4 ?_ ?_ ?_
   ·have:xs=(done++[i])++xs':=by simp[hxs]
    rw[this,List.drop_left]
   ·have:xs=(done++[i])++xs':=by simp[hxs]
    rw[this,List.take_left]
   ·simp only[prC,List.drop_succ_cons,List.drop_zero,hl,Ta,uR,Jn,Lw,List.append_nil]
    exact hs.to
 ·intro v h' hs
  obtain⟨done,a,c,h1,h2,hs⟩:=x9 hs.kI
  have hd:xs=done:=by
   have:xs.drop done.length=[]:=by simpa using h1.symm
   rw[←h2,List.take_of_length_le (by simpa using this)]
  subst hd
  refine qQ hs fun h' hs=>qL ?_
  refine aC hs rfl (mH hs fun h' hs=>jU ?_)
  refine hk _ _ ?_
  have e1:(gG line state xs).length=xs.length:=by simp[gG]
  have hs:=Em (l:=gG line state xs) e1.symm rfl (hs.perm (dX.perm (A:=dB 9 175 a c (xs.length,eF (gG line state xs)))))
  exact hs.to
 ·intro v h' hs
  exact(Hs.r7 (hs.kI)).1.elim
end Go.Proofs.YtajjljbmfdboaaaGreatDoor.H
end
section
namespace Go.Proofs.YtajjljbmfdboaaaGreatDoor.H
open Go Go.Ab Go.Hm
set_option maxRecDepth 100000
variable {G:Bg} {h:AH} {L L':List HP}
theorem We {b o:Nat} {x:Int} {c':List Value} {a:Option Addr} {c:Nat} {v:Bool} {k:AH→Prop} (r:Row) (hs:Hs G h L) [m:Has (aE b o) L c' L'] (hc:c'=r.enc a c) (hx:0≤x∧x<4) (hk:∀h',Hs G h' (aE b o (({r with sh:=vA r.sh x v}:Row).enc a c)::L')→k h'):aZ (sQ h 1 (pt b o (0+1+x.toNat*1)) (.bool v)) k:=by
 subst hc
 have:x=0∨x=1∨x=2∨x=3:=by omega
 rcases this with rfl|rfl|rfl|rfl
 all_goals
  refine bE hs rfl rfl rfl rfl ?_
  exact hk
theorem y1 {b o:Nat} {x:Int} {c':List Value} {a:Option Addr} {c:Nat} {v:Bool} {k:AH→Prop} (r:Row) (hs:Hs G h L) [m:Has (aE b o) L c' L'] (hc:c'=r.enc a c) (hx:0≤x∧x<4) (hk:∀h',Hs G h' (aE b o (({r with asked:=vA r.asked x v}:Row).enc a c)::L')→k h'):aZ (sQ h 1 (pt b o (0+17+x.toNat*1)) (.bool v)) k:=by
 subst hc
 have:x=0∨x=1∨x=2∨x=3:=by omega
 rcases this with rfl|rfl|rfl|rfl
 all_goals
  refine bE hs rfl rfl rfl rfl ?_
  exact hk
def kL (mb:Nat) (C:bQ) (b o cap:Nat):List Value:=[pt mb 0 0,I C.aF,I C.bP,I C.bH,I C.ways,I C.depth,I C.entries,I C.aJ,.slice (some ⟨b,o,none⟩) C.lines cap]
structure HmA where
 mb:Nat
 b:Nat
 o:Nat
 cap:Nat
def aA2 (G:Bg) (hb:Nat) (C:bQ) (H:jO) (x:HmA):List HP:=
 [aE hb 0 (kL x.mb C x.b x.o x.cap),eV G C.lines x.mb C (fun i=>(H i).2),hole G 25 247 (some ⟨x.b,x.o,none⟩) x.cap C.lines x.b x.o,dC C.lines fun i=>eH x.b (x.o+i*25) (H i).1]
def fN (G:Bg) (hb:Nat) (C:bQ) (H:jO):HP:=sS fun x:HmA=>sp (aA2 G hb C H x)
def wI (b o n:Nat) (H:jO) (l:Nat):HP:=sp (((List.range n).erase l).map fun i=>eH b (o+i*25) (H i).1)
theorem oQ {hb:Nat} {C:bQ} {H:jO} (hs:Hs G h (fN G hb C H::L)):∃mb b o cap,Hs G h (aE hb 0 (kL mb C b o cap)::eV G C.lines mb C (fun i=>(H i).2)::hole G 25 247 (some ⟨b,o,none⟩) cap C.lines b o::dC C.lines (fun i=>eH b (o+i*25) (H i).1)::L):=by
 obtain⟨⟨mb,b,o,cap⟩,hs⟩:=hs.Be
 exact⟨mb,b,o,cap,hs.unpack⟩
theorem Db {hb l:Nat} {C:bQ} {H:jO} (hl:l<C.lines) (hs:Hs G h (fN G hb C H::L)):∃mb b o cap,Hs G h (eH b (o+l*25) (H l).1::aE hb 0 (kL mb C b o cap)::eV G C.lines mb C (fun i=>(H i).2)::hole G 25 247 (some ⟨b,o,none⟩) cap C.lines b o::wI b o C.lines H l::L):=by
 obtain⟨mb,b,o,cap,hs⟩:=oQ hs
 have hs:=(hs.front (dC C.lines fun i=>eH b (o+i*25) (H i).1)).kR l hl
 exact⟨mb,b,o,cap,(show Hs G h (eH b (o+l*25) (H l).1::wI b o C.lines H l::_) from hs).to⟩
theorem qF {hb:Nat} {C:bQ} {H:jO} {mb b o cap:Nat} (hs:Hs G h (aE hb 0 (kL mb C b o cap)::eV G C.lines mb C (fun i=>(H i).2)::hole G 25 247 (some ⟨b,o,none⟩) cap C.lines b o::dC C.lines (fun i=>eH b (o+i*25) (H i).1)::L)):Hs G h (fN G hb C H::L):=
 Hs.wM (A:=fun x=>sp (aA2 G hb C H x)) ⟨mb,b,o,cap⟩ (Hs.pack (A:=aA2 G hb C H ⟨mb,b,o,cap⟩) hs)
theorem mem_of {H:jO} {l:Nat} {x:rD}:(fun i=>(bT H l x i).2)=bT (fun i=>(H i).2) l x.2:=by
 funext i;unfold bT;split<;>rfl
theorem eI {L1 L2 L3 L4 L5:List HP} (hb:Nat) (C:bQ) (H:jO) (l:Nat) (r:Row) (m:Ln) (mem:Nat→Ln) (mb b o cap:Nat) (hl:l<C.lines) (hm:mem=bT (fun i=>(H i).2) l m) (hs:Hs G h L) [k1:dX (eH b (o+l*25) r) L L1] [k2:dX (aE hb 0 (kL mb C b o cap)) L1 L2] [k3:dX (eV G C.lines mb C mem) L2 L3]
  [k4:dX (hole G 25 247 (some ⟨b,o,none⟩) cap C.lines b o) L3 L4] [k5:dX (wI b o C.lines H l) L4 L5]:Hs G h (fN G hb C (bT H l (r,m))::L5):=by
 subst hm
 have hs:Hs G h (eH b (o+l*25) r::wI b o C.lines H l::aE hb 0 (kL mb C b o cap)::eV G C.lines mb C (bT (fun i=>(H i).2) l m)::hole G 25 247 (some ⟨b,o,none⟩) cap C.lines b o::L5):=
  (hs.perm (k1.perm.trans ((k2.perm.trans ((k3.perm.trans ((k4.perm.trans (k5.perm.cons _)).cons _)).cons _)).cons _))).to
 have e0:(fun i=>eH b (o+i*25) (bT H l (r,m) i).1) l=eH b (o+l*25) r:=by simp only[gL]
 rw[←e0] at hs
 unfold wI at hs
 have hs:=hs.nG (n:=C.lines) (i:=l) (fun i=>eH b (o+i*25) (H i).1) (fun i=>eH b (o+i*25) (bT H l (r,m) i).1) hl (fun j _ hne=>by simp only[yF hne])
 rw[←mem_of (x:=(r,m))] at hs
 exact qF (mb:=mb) (b:=b) (o:=o) (cap:=cap) hs.to
theorem Ac {a:Addr} {n:aQ} {cs:List Value} (hc:cs=n.enc) (hs:Hs G h (dB 9 175 (some a) 1 (1,cs)::L)):Hs G h (eK (.slice (some a) 1 1) [n]::L):=Em rfl (by rw[hc];simp) hs
theorem nN (hs:Hs G h L):Hs G h (eK (.slice none 0 0) []::L):=Em rfl rfl (fY hs)
section
variable {b o p:Nat} {r:Row} {wa:Option Addr} {wc:Nat} {line:Int} {d:Ln} {Q:Value→AH→Prop}
theorem dZ (b o:Nat) (r:Row) (a:Option Addr) (c:Nat) {c':List Value} {n:Nat} {cs:List Value} {L1 L2:List HP} (hs:Hs G h L) [m:Has (aE b o) L c' L1] (hc:c'=r.enc a c) [m2:Has (dB 9 175 a c) L1 (n,cs) L2] (hn:n=r.waits.length) (hcs:cs=eF r.waits):Hs G h (eH b o r::L2):=by
 subst hc;subst hn;subst hcs
 exact iR r (hs.perm (m.perm.trans (m2.perm.cons _)))
theorem wi (hkd:r.served.kind=2) (hs:Hs G h (aE p 0 (r.pF line 0 d).enc::aE b o (r.enc wa wc)::dB 9 175 wa wc (r.waits.length,eF r.waits)::L)) (hk:∀v h',Hs G h' (eK v (r.gK line d).2::eH b o (r.gK line d).1::L)→Q v h'):
  Dd 271 3 [] Q [(pt b o 0),(I r.served.core),(pt p 0 0)] h:=by
 simp only[Row.gK,if_pos hkd] at hk
 refine bW ?_
 repeat' first
  |refine aA ?_
  |refine aB ?_
  |refine aN hs (by decide) rfl rfl ?_
  |(refine bE hs rfl rfl rfl rfl ?_;intro h hs)
  |(refine dP hs rfl rfl rfl ?_;intro a h hs)
  |refine aK rfl ?_
 refine hk _ _ ?_
 have hs:=Ac (n:=r.pF line 4 d) rfl hs
 exact(dZ b o {r with owner:=r.served.core,sh:=fun _=>false,granted:=true} wa wc hs rfl rfl rfl).to
theorem ti (hkd:r.served.kind≠2) (hc:0≤r.served.core∧r.served.core<4) (hs:Hs G h (aE p 0 (r.pF line 0 d).enc::aE b o (r.enc wa wc)::dB 9 175 wa wc (r.waits.length,eF r.waits)::L)) (hk:∀v h',Hs G h' (eK v (r.gK line d).2::eH b o (r.gK line d).1::L)→Q v h'):
  Dd 271 4 [] Q [(pt b o 0),(I r.served.core),(pt p 0 0)] h:=by
 simp only[Row.gK,if_neg hkd] at hk
 have hs:=dZ b o r wa wc hs rfl rfl rfl
 refine bW (sZ hs fun hs=>?_)
 obtain⟨wa,wc,hs⟩:=dS hs
 refine bC (aS (fun h1=>?_) (fun h1=>?_))
 ·rw[if_pos h1] at hk
  refine bW (aA (bE hs rfl rfl rfl rfl ?_))
  intro h hs
  refine aB (aA (bE hs rfl rfl rfl rfl ?_))
  intro h hs
  refine aB (aA (fA hc.1 hc.2 (We {r with owner:=r.served.core} hs rfl hc ?_)))
  intro h hs
  repeat' first
   |refine aA ?_
   |refine aB ?_
   |refine aN hs (by decide) rfl rfl ?_
   |(refine bE hs rfl rfl rfl rfl ?_;intro h hs)
   |(refine dP hs rfl rfl rfl ?_;intro a h hs)
   |refine aK rfl ?_
  refine hk _ _ ?_
  have hs:=Ac (n:=r.pF line 2 d) rfl hs
  exact(dZ b o {r with owner:=r.served.core,sh:=vA r.sh r.served.core false,granted:=true} wa wc hs rfl rfl rfl).to
 ·rw[if_neg h1] at hk
  refine bW (aA (bE hs rfl rfl rfl rfl ?_))
  intro h hs
  refine aB (aA (fA hc.1 hc.2 (We r hs rfl hc ?_)))
  intro h hs
  repeat' first
   |refine aA ?_
   |refine aB ?_
   |refine aN hs (by decide) rfl rfl ?_
   |(refine bE hs rfl rfl rfl rfl ?_;intro h hs)
   |(refine dP hs rfl rfl rfl ?_;intro a h hs)
   |refine aK rfl ?_
  refine hk _ _ ?_
  have hs:=Ac (n:=r.pF line 1 d) rfl hs
  exact(dZ b o {r with sh:=vA r.sh r.served.core true,granted:=true} wa wc hs rfl rfl rfl).to
end
theorem eO {H:jO} {l:Nat}:bT (fun i=>(H i).2) l (H l).2=fun i=>(H i).2:=tO
theorem Bo {C:bQ} (hC:C.Ok) {hb l:Nat} {H:jO} {Q:Value→AH→Prop} (hlim:Ob G 0 fB) (hs:Hs G h L) [m:Has (fN G hb C) L H L'] (hl:l<C.lines) (hc:0≤(H l).1.served.core∧(H l).1.served.core<4)
  (hk:∀v h',Hs G h' (eK v ((H l).1.gK l ((H l).1.gd (H l).2)).2::fN G hb C (bT H l (((H l).1.gK l ((H l).1.gd (H l).2)).1,(H l).2))::L')→Q v h'):
  Cl Pr K 271 [pt hb 0 0,I l] h Q:=by
 obtain⟨mb,b,o,cap,hs⟩:=Db hl (m.of hs)
 refine cW ?_
 have key:∀d,d=(H l).1.gd (H l).2→∀p wa wc h,Hs G h (aE p 0 ((H l).1.pF l 0 d).enc::aE b (o+l*25) ((H l).1.enc wa wc)::dB 9 175 wa wc ((H l).1.waits.length,eF (H l).1.waits)::aE hb 0 (kL mb C b o cap)::eV G C.lines mb C (fun i=>(H i).2)::hole G 25 247 (some ⟨b,o,none⟩) cap C.lines b o::wI b o C.lines H l::L')→
   (((H l).1.served.kind=2→Dd 271 3 [] Q [(pt b (o+l*25) 0),(I (H l).1.served.core),(pt p 0 0)] h)∧((H l).1.served.kind≠2→Dd 271 4 [] Q [(pt b (o+l*25) 0),(I (H l).1.served.core),(pt p 0 0)] h)):=by
  intro d hd p wa wc h hs
  subst hd
  have hk':∀v h',Hs G h' (eK v ((H l).1.gK l ((H l).1.gd (H l).2)).2::eH b (o+l*25) ((H l).1.gK l ((H l).1.gd (H l).2)).1::aE hb 0 (kL mb C b o cap)::eV G C.lines mb C (fun i=>(H i).2)::hole G 25 247 (some ⟨b,o,none⟩) cap C.lines b o::wI b o C.lines H l::L')→Q v h':=fun v h' hs=>
   hk v h' (eI hb C H l ((H l).1.gK l ((H l).1.gd (H l).2)).1 (H l).2 (fun i=>(H i).2) mb b o cap hl eO.symm hs).to
  exact⟨fun hkd=>wi hkd hs hk',fun hkd=>ti hkd hc hs hk'⟩
 obtain⟨wa,wc,hs⟩:=dS hs
 refine aB (aA (aC hs rfl (dU hl (aB (aA (aA (aC hs rfl ?_)))))))
 refine aR hs ?_
 intro rv h hs
 refine aB (aA (aC hs rfl (aB (aA (aN hs (by decide) (l:=[I (H l).1.d0,I (H l).1.d1]) rfl rfl (aK (c:=((H l).1.pF l 0 ((H l).1.d0,(H l).1.d1)).enc) rfl ?_))))))
 refine jN hs rfl rfl ?_
 intro p h hs
 refine bA hs rfl rfl rfl rfl ?_
 intro h hs
 refine aB (aA (aC hs rfl (bU (dI (dA (fun ht=>?_) (fun ht=>?_))))))
 ·refine bW (aB (aA (aA (aC hs rfl (bC ?_)))))
  have:=key ((H l).1.d0,(H l).1.d1) (by simp[Row.gd,ht]) p wa wc h hs.to
  exact aS this.1 this.2
 ·refine bW (aB (aA (aC hs rfl (Yw hC hlim hs hl fun h hs=>?_))))
  refine aG rfl (aG rfl (aA (bE hs rfl rfl rfl rfl ?_)))
  intro h hs
  refine aB (aA (aA (aC hs rfl (bC ?_))))
  have:=key (H l).2 (by simp[Row.gd,ht]) p wa wc h (hs.sg (b:=p) (o:=0) (c:=((H l).1.pF l 0 (H l).2).enc) rfl).to
  exact aS this.1 this.2
end Go.Proofs.YtajjljbmfdboaaaGreatDoor.H
end
section
namespace Go.Proofs.YtajjljbmfdboaaaGreatDoor.H
open Go Go.Ab Go.Hm
set_option maxRecDepth 100000
variable {G:Bg} {h:AH} {L L':List HP}
def Kh (e:TypeId) (p:Nat) (a:Option Addr) (c:Nat) (xs:List Int):HP:=sp [aE p 0 [.slice a xs.length c],dB 1 e a c (xs.length,xs.map I)]
theorem My {e:TypeId} {a:Option Addr} {c n:Nat} {xs:List Int} {Q:Value→AH→Prop} (hn:n=xs.length) (hs:Hs G h L) [m:Has (dB 1 e a c) L (n,xs.map I) L'] (hk:∀p h',Hs G h' (Kh e p a c xs::L')→Q (.func (.func 166) #[] #[pt p 0 0]) h'):Cl Pr K 118 [.slice a n c] h Q:=by
 subst hn
 have hs:=m.of hs
 refine cW (dJ hs ?_)
 intro p h hs
 exact hk p _ (Hs.pack (A:=[_,_]) hs)
theorem C7 {e:TypeId} {p:Nat} {a:Option Addr} {c:Nat} {xs:List Int} (hx:xs.length<2^62):qy Pr K G 166 [] [pt p 0 0] (Kh e p a c xs) (xs.map fun x=>[I x]):=by
 intro I' J y L h Q hs hy h1 h2
 refine cW ?_
 refine aC hs.unpack rfl (bZ ?_)
 have loop:∀(f i:Nat) (h:AH),i+f=xs.length→Hs G h (Kh e p a c xs::I' ((xs.drop i).map fun x=>[I x])::L)→Dd 166 1 [] Q [y,(.slice a xs.length c),(I xs.length),(I i)] h:=by
  intro f
  induction f with
  |zero=>
   intro i h hi hs
   refine bW (aU (aI (by omega) ?_))
   rw[List.drop_eq_nil_of_le (by omega)] at hs
   exact h1 _ _ hs
  |succ f ih=>
   intro i h hi hs
   have hlt:i<xs.length:=by omega
   refine bW (aU (bM (by omega) (bW ?_)))
   obtain⟨b,o,rfl,H,hs2,_⟩:=(hs.unpack.front (dB 1 e a c (xs.length,xs.map I))).mP (by omega)
   refine dU hlt (x6 hs2 (v:=I xs[i]) (by simp[hlt]) ?_)
   rw[List.drop_eq_getElem_cons hlt] at hs
   refine(hy _ _ h _ hs.kI).mono fun v h' hv=>?_
   rcases hv with⟨rfl,hs⟩|⟨rfl,hs⟩
   ·exact bU (bS (bW (bI (by omega) (ih (i+1) h' (by omega) hs.kI))))
   ·exact bU (dY (h2 _ _ hs.kI))
 exact loop xs.length 0 h (by omega) hs
section
variable {hb p mb b o cap l:Nat} {C:bQ} {H:jO} {n:aQ} {r:Row} {m:Ln} {Q:Value→AH→Prop}
def oU (G:Bg) (hb p mb b o cap l:Nat) (C:bQ) (H:jO) (n:aQ) (r:Row) (m:Ln):List HP:=
 [eH b (o+l*25) r,aE p 0 n.enc,aE hb 0 (kL mb C b o cap),eV G C.lines mb C (bT (fun i=>(H i).2) l m),hole G 25 247 (some ⟨b,o,none⟩) cap C.lines b o,wI b o C.lines H l]
theorem Vm (hC:C.Ok) (hlim:Ob G 0 fB) (hl:l<C.lines) (hnl:n.line=l) (hc:0≤r.served.core∧r.served.core<4) (hq:r.quiet=true) (hs:Hs G h (oU G hb p mb b o cap l C H n r m++L))
  (hk:∀v h',Hs G h' (eK v (r.rest l m).2::fN G hb C (bT H l ((r.rest l m).1,m))::L)→Q v h'):Dd 253 7 [] Q [(pt hb 0 0),(pt p 0 0),(pt b (o+l*25) 0)] h:=by
 simp only[oU,List.cons_append,List.nil_append] at hs
 simp only[Row.rest,if_pos hq] at hk
 have hs0:=hs
 obtain⟨wa,wc,hs⟩:=dS (show Hs G h (eH b (o+l*25) r::_) from hs)
 refine bW (aB (aA (aA (aC hs rfl (bC (aS (fun h1=>?_) (fun h1=>?_)))))))
 ·rw[if_pos h1] at hk
  refine bW (Yy hs0 fun h hs=>hk _ _ ?_)
  exact(nN (eI hb C H l r.free m _ mb b o cap hl rfl hs)).to
 ·rw[if_neg h1] at hk
  refine aA (aC hs rfl ?_)
  rw[hnl]
  have hs:=eI hb C H l r m _ mb b o cap hl rfl hs0
  refine Bo hC hlim hs hl (by simp only[gL];exact hc) fun v h hs=>hk _ _ ?_
  simp only[gL,Aj] at hs
  exact hs.to
theorem V2 (hC:C.Ok) (hlim:Ob G 0 fB) (hl:l<C.lines) (hnl:n.line=l) (hc:0≤r.served.core∧r.served.core<4) (hs:Hs G h (oU G hb p mb b o cap l C H n r m++L))
  (hk:∀v h',Hs G h' (eK v (r.rest l m).2::fN G hb C (bT H l ((r.rest l m).1,m))::L)→Q v h'):Dd 253 4 [] Q [(pt hb 0 0),(pt p 0 0),(pt b (o+l*25) 0)] h:=by
 have hs00:=hs
 simp only[oU,List.cons_append,List.nil_append] at hs
 have hs0:=hs
 obtain⟨wa,wc,hs⟩:=dS (show Hs G h (eH b (o+l*25) r::_) from hs)
 refine bW (aB (aA (aN hs (by decide) (l:=[.bool (r.asked 0),.bool (r.asked 1),.bool (r.asked 2),.bool (r.asked 3)]) rfl rfl (aK (c:=[.bool false,.bool false,.bool false,.bool false]) rfl (kz (dA (fun hq=>?_) (fun hq=>?_)))))))
 ·have hq:r.quiet=false:=by unfold Row.quiet;rw[hq];rfl
  simp only[Row.rest,hq,Bool.false_eq_true,if_false] at hk
  refine hk _ _ ?_
  exact(nN (eI hb C H l r m _ mb b o cap hl rfl (show Hs G h (eH b (o+l*25) r::_) from hs0))).to
 ·have hq:r.quiet=true:=by unfold Row.quiet;rw[hq];rfl
  exact Vm hC hlim hl hnl hc hq hs00 hk
end
end Go.Proofs.YtajjljbmfdboaaaGreatDoor.H
end
section
namespace Go.Proofs.YtajjljbmfdboaaaGreatDoor
open Go Go.Ab Go.Hm Go.At Go.Mc
def zG:Mc.iG:=⟨0,0,0,0,0,0,false,0,fun _=>false⟩
def wP (r:Mc.iG):List Value:=[I r.core,I r.world,I r.call,I r.cB,I r.to]
def lJ (r:Mc.iG):List Value:=[I r.core,I r.world,I r.call,I r.cB,I r.to,I r.then',.bool r.zL]
def fF (f:Nat→Option Mc.iG) (k:Nat):Option Value:=(f k).map fun r=> .agg ⟨r.enc⟩
theorem D8 {f:Nat→Option Mc.iG} {g:Nat} {x:Option Mc.iG}:Jt (fF f) g (x.map fun r=> .agg ⟨r.enc⟩)=fF (bT f g x):=by
 funext k
 unfold Jt fF bT
 split<;>rfl
theorem Zp {m:Mon}:zZ (fF m.runs)=m.running:=by
 unfold zZ Mon.running
 congr 1
 funext k
 unfold fF
 cases m.runs k<;>rfl
theorem ig {m:Mon} {g:Int}:(if 0≤g then fF m.runs g.toNat else none)=(m.run g).map fun r=>Value.agg ⟨r.enc⟩:=by
 unfold Mon.run fF
 split<;>rfl
set_option maxRecDepth 100000
variable {G:Bg} {h:AH} {L L' M:List HP} {Q:Value→AH→Prop} {C:bQ} {m:Mon} {p:Nat}
def fC (C:bQ) (p:Nat) (m:Mon):HP:=sS fun x:Nat×Nat=>sp [aE p 0 [pt x.1 0 0,I C.aF,fH x.2],fT x.1 m.fV,gT x.2 (fF m.runs)]
theorem iV (hs:Hs G h (fC C p m::L)):∃t b,Hs G h (aE p 0 [pt t 0 0,I C.aF,fH b]::fT t m.fV::gT b (fF m.runs)::L):=by
 obtain⟨⟨t,b⟩,hs⟩:=hs.Be
 exact⟨t,b,hs.Bk⟩
theorem dL {t b:Nat} (hs:Hs G h (aE p 0 [pt t 0 0,I C.aF,fH b]::fT t m.fV::gT b (fF m.runs)::L)):Hs G h (fC C p m::L):=
 Hs.wM (A:=fun x:Nat×Nat=>sp [aE p 0 [pt x.1 0 0,I C.aF,fH x.2],fT x.1 m.fV,gT x.2 (fF m.runs)]) (t,b) hs.T4
theorem Mw {b:Nat} {g:Int} {k:Value→Prop} (hs:Hs G h L) [mm:Has (gT b) L (fF m.runs) L'] (hk:k (.agg ⟨((m.run g).getD zG).enc⟩)):aZ (lkV (.agg ⟨[(I 0),(I 0),(I 0),(I 0),(I 0),(I 0),(.bool false),(I 0),(.bool false),(.bool false),(.bool false),(.bool false)]⟩) h (fH b) (I g) false) k:=by
 refine aF4 hs ?_
 rw[ig]
 cases hr:m.run g with
 |none=>rw[hr] at hk;exact hk
 |some r=>rw[hr] at hk;exact hk
theorem fh {g:Int}:((m.run g).getD zG).phase=m.phase g:=by
 unfold Mon.phase
 cases m.run g<;>rfl
theorem Gs {g:Int} (hs:Hs G h L) [mm:Has (fC C p) L m L'] (hk:∀h',Hs G h' (fC C p m::L')→Q (I (m.phase g)) h'):Cl Pr K 119 [pt p 0 0,I g] h Q:=by
 obtain⟨t,b,hs⟩:=iV (mm.of hs)
 refine cW (cS (bS (aB (aA (aC (b:=p) (o:=0) hs rfl (Mw (m:=m) hs (Xb rfl ?_)))))))
 show Q _ _
 rw[fh]
 exact hk _ (dL hs)
theorem aD3 {g:Int} (hs:Hs G h L) [mm:Has (fC C p) L m L'] (hk:∀l h',Hs G h' (fC C p m::L')→(m.phase g≠0→l=wP ((m.run g).getD zG))→l.length=5→l.all eE=true→Q (.tuple ⟨[.agg ⟨l⟩,.bool (decide (m.phase g≠0))]⟩) h'):Cl Pr K 59 [pt p 0 0,I g] h Q:=by
 refine cW (bK hs fun q h hs=>Gs (C:=C) (m:=m) hs fun h hs=>bC (aS (fun h1=>?_) (fun h1=>?_)))
 ·refine aK (c:=(wP zG)) rfl (bA (b:=q) hs rfl rfl rfl rfl fun h hs=>aN (b:=q) (o:=0) hs (by decide) (l:=(wP zG)) rfl rfl ?_)
  have:=hk (wP zG) h hs.to (fun e=>absurd h1 e) rfl rfl
  rw[decide_eq_false (by omega)] at this
  exact this
 ·obtain⟨t,b,hs⟩:=iV hs
  refine aB (aA (aC (b:=p) (o:=0) hs rfl (Mw (m:=m) hs (Ga (m:=lJ ((m.run g).getD zG)) rfl rfl (Ga (m:=wP ((m.run g).getD zG)) rfl rfl ?_)))))
  refine bA (b:=q) hs rfl rfl rfl rfl fun h hs=>aN (b:=q) (o:=0) hs (by decide) (l:=wP ((m.run g).getD zG)) rfl rfl ?_
  have:=hk _ h (dL (t:=t) (b:=b) hs.to) (fun _=>rfl) rfl rfl
  rw[decide_eq_true h1] at this
  exact this
theorem Av (hs:Hs G h L) [mm:Has (fC C p) L m L'] (hk:∀q a c h',Hs G h' (H.Kh 3 q a c (m.running.map fun k:Nat=>(k:Int))::fC C p m::L')→Q (.func (.func 166) #[] #[pt q 0 0]) h'):Cl Pr K 58 [pt p 0 0] h Q:=by
 obtain⟨t,b,hs⟩:=iV (mm.of hs)
 refine cW (cS (bS (aB (aA (aC (b:=p) (o:=0) hs rfl ?_)))))
 refine cW (aCr hs fun q h hs=>?_)
 have hs:Hs G h (aE q 0 [fH b]::mt q (170,true,1)::gT b (fF m.runs)::aE p 0 [pt t 0 0,I C.aF,fH b]::fT t m.fV::L'):=hs.to
 refine lx (e:=3) rfl hs fun a cp h hs=>?_
 rw[Zp (m:=m)] at hs ⊢
 have e:(m.running.map fun k:Nat=>I k)=(m.running.map fun k:Nat=>(k:Int)).map I:=by rw[List.map_map];rfl
 rw[e] at hs
 refine H.My (e:=3) (xs:=m.running.map fun k:Nat=>(k:Int)) (by simp) hs fun q2 h hs=>?_
 have hs:Hs G h (aE p 0 [pt t 0 0,I C.aF,fH b]::fT t m.fV::gT b (fF m.runs)::H.Kh 3 q2 a cp (m.running.map fun k:Nat=>(k:Int))::L'):=hs.to
 exact hk q2 a cp _ (dL hs).kI
end Go.Proofs.YtajjljbmfdboaaaGreatDoor
end
end
section
namespace Go.Ct
open Go Go.Ab Go.Hm
variable {n ways:Nat} {S:Nat→List Th} {no:Int} {x:pV}
theorem Of {l:List Th} (h:no∉l.map (·.1)):rem no l=l:=by
 induction l with
 |nil=>rfl
 |cons t l ih=>
  simp only[List.map_cons,List.mem_cons,not_or] at h
  unfold rem
  grind
theorem vt {l:List Th} (hn:(l.map (·.1)).Nodup):rem no (rem no l)=rem no l:=Of (M7 hn)
theorem po {l:List Th} (h:get no l=some x):(rem no l).length<l.length:=by
 rw[F6,h]
 have:=get_mem h
 grind
theorem Eo (hp:(bV n S no).2=0):get no (S (setOf n no))=some (bV n S no).1∧0≤no:=by
 unfold bV at hp ⊢
 grind
theorem ly (hg:∀i,nD ways (S i)) (hp:(bV n S no).2=0):(mC n ways S no x).2=0:=by
 obtain⟨h1,h2⟩:=Eo hp
 have:=po h1
 have:=(hg (setOf n no)).len
 unfold mC
 grind
theorem tz (h0:0≤no):kQ n S no (setOf n no)=rem no (S (setOf n no)):=by
 unfold kQ bT
 rw[if_neg (by omega),if_pos rfl]
theorem Tw (hg:∀i,nD ways (S i)) (hp:(bV n S no).2=0):ku n ways S no=0:=by
 obtain⟨h1,h2⟩:=Eo hp
 have:=po h1
 have:=(hg (setOf n no)).len
 unfold ku
 rw[if_pos hp]
 unfold mC
 rw[tz h2,vt (hg _).nd,if_neg (by omega)]
theorem qo (hg:∀i,nD ways (S i)) (h0:0≤no) (hf:(mC n ways S no x).2=0):bV n (mC n ways S no x).1 no=(x,0):=by
 unfold mC at hf ⊢
 split at hf
 ·cases hf
 ·rename_i hl
  rw[if_neg hl]
  unfold bV bT
  rw[if_neg (by omega)]
  dsimp only
  rw[if_pos rfl,nh (M7 (hg _).nd)]
theorem jw (hg:∀i,nD ways (S i)) (hp:(bV n S no).2=0):bV n (D6 n ways S no) no=bV n S no:=by
 obtain⟨h1,h2⟩:=Eo hp
 have e:=Tw hg hp
 unfold ku at e
 rw[if_pos hp] at e
 unfold D6
 rw[if_pos hp,qo (qA hg) h2 e]
 grind
theorem Ty {S:Nat→List Th} {l ow:Int} {w:Bool} (h:mO n S l ow w=true):mO n S l ow false=true:=by
 unfold mO at h ⊢
 unfold pX at h ⊢
 grind [tX,Rs]
end Go.Ct
end
section
namespace Go.Hm
open Go Go.Ab
structure nR (k:Nat) (r:Row):Prop where
 core:0≤r.served.core∧r.served.core<4
 owner: -1≤r.owner∧r.owner<4
 waits:∀n∈r.waits,n.line=k∧(0≤n.core∧n.core<4)∧(n.kind=0∨n.kind=1∨n.kind=2∨n.kind=3)
 apart:∀i:Nat,i<4→r.sh i=true→(i:Int)≠r.owner
 want:r.busy=true→r.granted=false→r.served.kind=0∨r.served.kind=2∨r.owner≠r.served.core
 still:r.granted=true∨r.busy=false→r.quiet=true
 gb:r.granted=true→r.busy=true
theorem nR.inv {k:Nat} {r:Row} (h:nR k r):r.Inv:=⟨h.core,h.owner,fun n hn=>(h.waits n hn).2.1⟩
theorem aDk (k:Nat):nR k Bv:=⟨by decide,by decide,by simp[Bv],by simp[Bv],by simp[Bv],fun _=>rfl,by simp[Bv]⟩
theorem quiet_of {r r':Row} (h:r'.asked=r.asked):r'.quiet=r.quiet:=by unfold Row.quiet;rw[h]
theorem E5 {k:Nat} {r:Row} {c:Int} (h:nR k r):nR k (r.leave c) where
 core:=h.core
 owner:=by unfold Row.leave;simp only;split;omega;exact h.owner
 waits:=h.waits
 apart:=fun i hi hs=>by
  unfold Row.leave vA at hs ⊢
  simp only at hs ⊢
  split at hs
  ·cases hs
  ·split
   ·omega
   ·exact h.apart i hi hs
 want:=fun h1 h2=>by
  rcases h.want h1 h2 with h|h|h3
  ·exact .inl h
  ·exact .inr (.inl h)
  ·refine .inr (.inr ?_)
   have:=h.core
   unfold Row.leave
   grind
 still:=fun h1=>(quiet_of (r':=r.leave c) rfl).trans (h.still h1)
 gb:=h.gb
theorem Ku {k:Nat} {r:Row} (h:nR k r) (hq:r.quiet=true):nR k r.free where
 core:=by show(0:Int)≤0∧(0:Int)<4;omega
 owner:=h.owner
 waits:=h.waits
 apart:=h.apart
 want:=fun h1=>by cases h1
 still:=fun _=>(quiet_of (r':=r.free) rfl).trans hq
 gb:=fun h1=>by cases h1
theorem Lk {k:Nat} {r:Row} {n:aQ} (h:nR k r) (h1:n.line=k) (h2:0≤n.core∧n.core<4) (h3:n.kind=0∨n.kind=1∨n.kind=2∨n.kind=3):nR k (r.wait n) where
 core:=h.core
 owner:=h.owner
 waits:=fun m hm=>by
  rcases List.mem_append.1 hm with hm|hm
  ·exact h.waits m hm
  grind
 apart:=h.apart
 want:=h.want
 still:=fun h1=>(quiet_of (r':=r.wait n) rfl).trans (h.still h1)
 gb:=h.gb
theorem Z5 {k:Nat} {r:Row} {n:aQ} {w:List aQ} (h:nR k r) (hw:r.waits=n::w):nR k (r.next w) where
 core:=h.core
 owner:=h.owner
 waits:=fun m hm=>h.waits m (by rw[hw];exact List.mem_cons_of_mem _ hm)
 apart:=h.apart
 want:=h.want
 still:=fun h1=>(quiet_of (r':=r.next w) rfl).trans (h.still h1)
 gb:=h.gb
structure Dz (k:Nat) (r:Row):Prop where
 core:0≤r.served.core∧r.served.core<4
 owner: -1≤r.owner∧r.owner<4
 waits:∀n∈r.waits,n.line=k∧(0≤n.core∧n.core<4)∧(n.kind=0∨n.kind=1∨n.kind=2∨n.kind=3)
 apart:∀i:Nat,i<4→r.sh i=true→(i:Int)≠r.owner
 want:r.served.kind=0∨r.served.kind=2∨r.owner≠r.served.core
 busy:r.busy=true
 gr:r.granted=false
theorem Dz.xc {k:Nat} {r:Row} (h:Dz k r):nR k r:=⟨h.core,h.owner,h.waits,h.apart,fun _ _=>h.want,fun h1=>by rw[h.busy,h.gr] at h1;simp at h1,fun h1=>by rw[h.gr] at h1;cases h1⟩
theorem A9 {k:Nat} {r:Row} {line:Int} {d:Ln} (h:Dz k r) (h0:r.served.kind≠0) (hq:r.quiet=true):nR k (r.gK line d).1:=by
 have hc:=h.core
 unfold Row.gK
 split
 ·exact⟨h.core,by simp only;omega,h.waits,fun i _ hs=>(by cases hs),fun _ h2=>(by cases h2),fun _=>hq,fun _=>h.busy⟩
 ·rename_i h2
  split
  ·refine⟨h.core,by simp only;omega,h.waits,fun i hi hs=>?_,fun _ h2=>(by cases h2),fun _=>hq,fun _=>h.busy⟩
   simp only[vA] at hs ⊢
   grind
  ·refine⟨h.core,h.owner,h.waits,fun i hi hs=>?_,fun _ h2=>(by cases h2),fun _=>hq,fun _=>h.busy⟩
   simp only[vA] at hs ⊢
   split at hs
   ·rename_i e
    rcases h.want with h|h|h
    ·exact absurd h h0
    ·exact absurd h h2
    grind
   ·exact h.apart i hi hs
theorem xL {k:Nat} {r:Row} {l:List Nat} (h:Dz k r):nR k (r.gB l):=Dz.xc ⟨h.core,h.owner,h.waits,h.apart,h.want,h.busy,h.gr⟩
theorem Zz {k:Nat} {r:Row} {line:Int} {m:Ln} (h:Dz k r):nR k (r.rest line m).1:=by
 unfold Row.rest
 split
 ·rename_i hq
  split
  ·exact Ku h.xc hq
  ·rename_i h0
   exact A9 h h0 hq
 ·exact h.xc
theorem Vx {k:Nat} {r:Row} {n:aQ} (h:nR k r) (hn:0≤n.core∧n.core<4) (ha:r.asked n.core.toNat=true):Dz k (r.heard n):=by
 have hnq:r.quiet=false:=by
  have:n.core.toNat=0∨n.core.toNat=1∨n.core.toNat=2∨n.core.toNat=3:=by omega
  unfold Row.quiet
  grind
 have hg:r.granted=false:=by
  cases hg:r.granted with
  |false=>rfl
  |true=>have:=h.still (.inl hg);grind
 have hb:r.busy=true:=by
  cases hb:r.busy with
  |true=>rfl
  |false=>have:=h.still (.inr hb);grind
 have h1:Dz k (r.kX n):=⟨h.core,h.owner,h.waits,h.apart,h.want hb hg,hb,hg⟩
 have h2:Dz k ((r.kX n).D4 n):=⟨h.core,by show -1≤(-1:Int)∧(-1:Int)<4;omega,h.waits,fun i hi _=>by show(i:Int)≠ -1;omega,by
  have:=h.core
  right;right
  show(-1:Int)≠r.served.core
  omega,hb,hg⟩
 have h3:∀{r:Row},Dz k r→Dz k (r.pI n):=fun h=>⟨h.core,h.owner,h.waits,h.apart,h.want,h.busy,h.gr⟩
 unfold Row.heard
 split
 ·have:=E5 (c:=n.core) h1.xc
  exact⟨this.core,this.owner,this.waits,this.apart,this.want hb hg,hb,hg⟩
 ·split
  ·split
   ·exact h3 h2
   ·exact h2
  ·split
   ·exact h3 h1
   ·exact h1
theorem af {k:Nat} {x:rD} {n:aQ} (h:nR k x.1) (ht:fX n.kind) (h1:n.line=k) (hn:0≤n.core∧n.core<4):nR k (rD.take x k n).1.1:=by
 unfold rD.take
 split
 ·split
  ·exact h
  ·rename_i h2
   have hg:x.1.granted=true:=by
    cases hg:x.1.granted with
    |true=>rfl
    |false=>exact absurd (.inl hg) h2
   exact Ku h (h.still (.inl hg))
 ·split
  ·split
   ·exact h
   ·rename_i ha
    exact Zz (Vx h hn (by simpa using ha))
  ·rename_i h4 h5
   exact Lk h h1 hn (by unfold fX at ht;omega)
theorem Fp {r:Row} {x:Int}:∀(f i:Nat),r.xG x f i≠ -1→r.fR x f i≠[]:=by
 intro f
 induction f with
 |zero=>intro i h;exact absurd rfl h
 |succ f ih=>
  intro i h
  unfold Row.xG at h
  unfold Row.fR
  grind
theorem Qm {r:Row} {x:Int}:∀(f i:Nat),∀c∈r.fR x f i,(c:Int)≠x:=by
 intro f
 induction f with
 |zero=>intro i c hc;simp[Row.fR] at hc
 |succ f ih=>
  intro i c hc
  unfold Row.fR at hc
  split at hc
  ·rename_i hh
   rcases List.mem_cons.1 hc with rfl|hc
   ·unfold Row.holds at hh;simp at hh;exact hh.1
   ·exact ih _ c hc
  ·exact ih _ c hc
def aQ.rK (n:aQ):aQ:=if n.kind=0 then {n with core:= -1} else n
theorem I5 {k:Nat} {r:Row} {d:Ln} {n:aQ} (hs:r.served.core=n.core) (hk:n.kind=1∨n.kind=2) (hl:n.line=k):(∀m∈(r.gK k d).2,m.fits n.rK (r.gK k d).2.length)∧(r.gK k d).2≠[]:=by
 have hf:n.rK=n:=by unfold aQ.rK;rw[if_neg (by omega)]
 rw[hf]
 unfold Row.gK
 split
 ·refine⟨fun m hm=>?_,by simp⟩
  rw[List.mem_singleton.1 hm]
  exact⟨hl.symm,rfl,.inl ⟨rfl,hs,rfl,hk⟩⟩
 ·split
  ·refine⟨fun m hm=>?_,by simp⟩
   rw[List.mem_singleton.1 hm]
   exact⟨hl.symm,rfl,.inl ⟨rfl,hs,rfl,hk⟩⟩
  ·refine⟨fun m hm=>?_,by simp⟩
   rw[List.mem_singleton.1 hm]
   exact⟨hl.symm,rfl,.inl ⟨rfl,hs,rfl,hk⟩⟩
theorem wN {k:Nat} {n:aQ} {st:Int} {l:List Nat} (hl:n.line=k) (hk:n.kind=1∨n.kind=2∨(n.kind=0∧st=0)) (hc:∀c∈l,(c:Int)≠n.rK.core) {len:Nat}:∀m∈gG k st l,m.fits n.rK len:=by
 intro m hm
 obtain⟨c,hcm,rfl⟩:=List.mem_map.1 hm
 have h1:n.rK.line=k:=by unfold aQ.rK;split<;>exact hl
 have h2:n.rK.kind=n.kind:=by unfold aQ.rK;split<;>rfl
 refine⟨h1.symm,rfl,.inr (.inr (.inr ⟨rfl,rfl,hc c hcm,?_⟩))⟩
 grind
theorem xg {k:Nat} {r:Row} {n:aQ} {w:Int} {m:Ln} (h:nR k r) (hb:r.busy=false) (hl:n.line=k) (hn:0≤n.core∧n.core<4) (hk:n.kind=1∨n.kind=2):
  nR k (r.get k m n w).1∧(∀x∈(r.get k m n w).2,x.fits n.rK (r.get k m n w).2.length)∧(r.get k m n w).2≠[]:=by
 have hq:=h.still (.inr hb)
 have hg:r.granted=false:=by
  cases hg:r.granted with
  |false=>rfl
  |true=>have:=h.gb hg;grind
 have hf:n.rK=n:=by unfold aQ.rK;rw[if_neg (by omega)]
 unfold Row.get
 simp only
 split
 ·rename_i h2
  have hs:Dz k (r.serve n w):=⟨hn,h.owner,h.waits,h.apart,.inr (.inl h2),rfl,hg⟩
  unfold Row.getM
  split
  ·rename_i h3
   refine⟨xL hs,?_,?_⟩
   ·exact wN hl (.inr (.inl h2)) (fun c hc=>by rw[hf];exact Qm 4 0 c hc)
   ·have:=Fp 4 0 h3
    intro e
    exact this (List.map_eq_nil_iff.1 e)
  ·exact⟨A9 hs (by show n.kind≠0;omega) hq,I5 rfl hk hl⟩
 ·rename_i h2
  have h1:n.kind=1:=by omega
  have hu:(r.serve n w).rU.served=n∧(r.serve n w).rU.asked=r.asked∧((r.serve n w).rU.owner= -1∨((r.serve n w).rU.owner=r.owner∧r.owner≠n.core))∧Dz k (r.serve n w).rU:=by
   unfold Row.rU
   split
   ·refine⟨rfl,rfl,.inl rfl,⟨hn,by grind,h.waits,fun i _ _=>by grind,.inr (.inr ?_),rfl,hg⟩⟩
    show(-1:Int)≠n.core
    omega
   ·rename_i h3
    exact⟨rfl,rfl,.inr ⟨rfl,h3⟩,⟨hn,h.owner,h.waits,h.apart,.inr (.inr h3),rfl,hg⟩⟩
  generalize(r.serve n w).rU=r2 at hu
  obtain⟨u1,u2,u3,u4⟩:=hu
  unfold Row.Z7
  split
  ·rename_i h3
   refine⟨xL u4,?_,by simp[gG]⟩
   refine wN hl (.inl h1) (fun c hc=>?_)
   rw[List.mem_singleton.1 hc,hf]
   have:=u4.owner
   omega
  ·exact⟨A9 u4 (by rw[u1];omega) (by rw[quiet_of u2];exact hq),I5 (by rw[u1]) hk hl⟩
theorem bp {k:Nat} {r:Row} {n:aQ} {m:Ln} {j:Int→Int×Bool} (h:nR k r) (hb:r.busy=false) (hl:n.line=k) (hn:0≤n.core∧n.core<4) (hk:n.kind=0∨n.kind=1∨n.kind=2∨n.kind=3):
  nR k (r.begun k m n j).1.1∧(∀x∈(r.begun k m n j).2,x.fits n.rK (r.begun k m n j).2.length)∧((r.begun k m n j).2≠[]∨n.rK.kind=0):=by
 have hq:=h.still (.inr hb)
 have hg:r.granted=false:=by
  cases hg:r.granted with
  |false=>rfl
  |true=>have:=h.gb hg;rw[hb] at this;cases this
 unfold Row.begun
 split
 ·rename_i h3
  have hf:n.rK=n:=by unfold aQ.rK;rw[if_neg (by omega)]
  refine⟨E5 h,fun x hx=>?_,.inl (by simp)⟩
  rw[List.mem_singleton.1 hx,hf]
  exact⟨hl.symm,rfl,.inr (.inr (.inl ⟨rfl,rfl,rfl,rfl,h3⟩))⟩
 ·rename_i h3
  split
  ·rename_i h12
   have hf:n.rK=n:=by unfold aQ.rK;rw[if_neg (by omega)]
   split
   ·obtain⟨a,b,c⟩:=xg (m:=m) (w:=(j n.world).1) h hb hl hn h12
    grind
   ·refine⟨h,fun x hx=>?_,.inl (by simp)⟩
    rw[List.mem_singleton.1 hx,hf]
    exact⟨hl.symm,rfl,.inr (.inl ⟨rfl,rfl,rfl,rfl,h12⟩)⟩
  ·rename_i h12
   have h0:n.kind=0:=by omega
   have hf:n.rK={n with core:= -1}:=by unfold aQ.rK;rw[if_pos h0]
   split
   ·grind
   ·refine⟨xL (r:=r.Gq n) ⟨hn,h.owner,h.waits,h.apart,.inl h0,rfl,hg⟩,?_,.inr (by rw[hf];exact h0)⟩
    exact wN hl (.inr (.inr ⟨h0,rfl⟩)) (fun c _=>by grind)
end Go.Hm
namespace Go.Hm
open Go Go.Ab
theorem xS {r:Row} {line:Int} {d:Ln}:(r.gK line d).1.waits=r.waits:=by
 unfold Row.gK
 grind
theorem T8 {r:Row} {line:Int} {m:Ln}:(r.rest line m).1.waits=r.waits:=by
 unfold Row.rest
 split
 ·split
  ·rfl
  ·exact xS
 ·rfl
theorem Rp {r:Row} {n:aQ}:(r.heard n).waits=r.waits:=by
 unfold Row.heard
 repeat' split
 all_goals rfl
theorem cz {r:Row} {line:Int} {m:Ln} {n:aQ} {w:Int}:(r.get line m n w).1.waits=r.waits:=by
 have hu:(r.serve n w).rU.waits=r.waits:=by unfold Row.rU;split<;>rfl
 unfold Row.get
 simp only
 split
 ·unfold Row.getM;split
  ·rfl
  ·exact xS
 ·unfold Row.Z7;split
  ·exact hu
  ·rw[xS];exact hu
theorem R4 {r:Row} {line:Int} {m:Ln} {n:aQ} {j:Int→Int×Bool}:(r.begun line m n j).1.1.waits=r.waits:=by
 unfold Row.begun
 split
 ·rfl
 ·split
  ·split
   ·exact cz
   ·rfl
  ·split<;>rfl
def C0:bQ:=⟨3,2,1,1,4,2,2⟩
def Ha (H:jO) (R:Nat→List aQ) (i:Nat):Prop:=∀k,k<4→nR k (H k).1∧R k=(H k).1.waits.map aQ.rK∧(H k).1.waits.length≤i
theorem Ha.h {H:jO} {R:Nat→List aQ} {i:Nat} (h:Ha H R i) (N:Nat) (hN:i≤N):vB C0 H N:=fun k hk=>⟨(h k hk).1.inv,Nat.le_trans (h k hk).2.2 hN⟩
theorem Ha.sA {H:jO} {R:Nat→List aQ} {i l:Nat} {x:rD} {w:List aQ} (h:Ha H R i) (h1:nR l x.1) (h2:w=x.1.waits.map aQ.rK) (h3:x.1.waits.length≤i+1):Ha (bT H l x) (bT R l w) (i+1):=by
 intro k hk
 unfold bT
 by_cases e:k=l
 ·grind
 ·simp only[if_neg e]
  obtain⟨a,b,c⟩:=h k hk
  grind
theorem Ha.same {H:jO} {R:Nat→List aQ} {i l:Nat} {x:rD} (h:Ha H R i) (hl:l<4) (h1:nR l x.1) (h2:x.1.waits=(H l).1.waits):Ha (bT H l x) R (i+1):=by
 have:=h.sA (x:=x) (w:=R l) h1 (by rw[h2];exact(h l hl).2.1) (by rw[h2];have:=(h l hl).2.2;omega)
 rwa [show bT R l (R l)=R from tO] at this
theorem Ha.up {H:jO} {R:Nat→List aQ} {i:Nat} (h:Ha H R i):Ha H R (i+1):=fun k hk=>⟨(h k hk).1,(h k hk).2.1,by have:=(h k hk).2.2;omega⟩
theorem Ep {r:Row} {line:Int} {d:Ln}:(r.gK line d).2.length≤4:=by
 unfold Row.gK
 grind
theorem Am {line st:Int} {l:List Nat}:(gG line st l).length=l.length:=by simp[gG]
theorem te {r:Row} {line:Int} {m:Ln} {n:aQ} {w:Int}:(r.get line m n w).2.length≤4:=by
 unfold Row.get
 simp only
 split
 ·unfold Row.getM;split
  ·rw[Am];exact rO
  ·exact Ep
 ·unfold Row.Z7;split
  ·simp[Am]
  ·exact Ep
theorem a8 {r:Row} {line:Int} {m:Ln} {n:aQ} {j:Int→Int×Bool}:(r.begun line m n j).2.length≤4:=by
 unfold Row.begun
 split
 ·simp
 ·split
  ·split
   ·exact te
   ·simp
  ·split
   ·simp
   ·rw[Am];exact rO
theorem Nq {C:bQ} {H:jO} {l:Int} {j:Int→Int×Bool}:(jE C H l j).2.1.length≤4:=by
 unfold jE
 split
 ·unfold rD.begin
  split
  ·simp
  ·split
   ·simp
   ·exact a8
 ·simp
end Go.Hm
end
section
namespace Go.Mc
open Go Go.Ab Go.Hm Go.At Go.Is Go.Ct Go.Nt
structure gD (C:bQ) (m:Mon):Prop where
 len:m.fV.length=C.bP.toNat
 own:∀x∈m.fV,0≤x.owner∧x.owner≤4
 run:∀g r,m.runs g=some r→(g:Int)<C.bP∧r.cB=g∧(r.phase=1∨r.phase=2)∧(0≤r.core∧r.core<C.aF)∧(0≤r.then'∧r.then'≤4)
def la (Cf:bQ) (F:gM):Prop:=∀c w,(F c w).length≤Cf.depth
theorem gD.zA {C:bQ} {m:Mon} (h:gD C m) {g:Int} (hg:m.has g):0≤(m.zA g).owner∧(m.zA g).owner≤4:=by
 refine h.own _ ?_
 unfold Mon.has at hg
 unfold Mon.zA
 grind
theorem gD.aCy {C:bQ} {m:Mon} (hC:C.Ok) (hm:gD C m):∀g r,m.runs g=some r→g<16:=by
 intro g r hr
 have:=(hm.run g r hr).1
 have:=hC.2.1
 omega
theorem la.Ws {Cf:bQ} {F:gM} (hC:Cf.Ok) (h:la Cf F):∀c w,(F c w).length≤500:=by
 intro c w
 have:=h c w
 have:=hC.2.2.2.2.1
 omega
structure ma (Cf:bQ) (M:cY) (i:Nat):Prop where
 dQ:gD Cf M.dQ
 yZ:(M.aH i).Ok
 Xa:lZ Cf (M.dK i)
 wW:(M.cR i).known.length≤100
 mI:la Cf M.mI
 log:M.log.length≤2^30
structure uQ (Cf:bQ) (M:cY) (n:aQ):Prop where
 core:0≤n.core∧n.core<Cf.aF
 dQ:gD Cf M.dQ
 home:vB Cf M.home (2^30 - 4)
 Xa:lZ Cf (M.dK n.core.toNat)
 wW:(M.cR n.core.toNat).known.length≤100
 cB:0≤(M.cR n.core.toNat).cB∧(M.cR n.core.toNat).cB<Cf.bP
 word:n.kind=12→0≤n.d0∧n.d0≤1000000
structure fq (C:bQ) (n:aQ):Prop where
 wW:wW C n=0
 word:n.kind=12→0≤n.d0∧n.d0≤1000000
def P5 (C:bQ) (N:Nat) (H:jO):Prop:=∀l,l<C.lines→nR l (H l).1∧(H l).1.waits.length≤N
structure I3 (C:bQ) (F:gM):Prop where
 len:la C F
 note:∀c w,∀n∈F c w,fq C n∧n.core.toNat=c∧fL n=w
def vK (C:bQ) (c:lQ):Prop:=(c.known.length:Int)≤C.entries∧0≤c.cB∧c.cB<C.bP
structure eN (C:bQ) (N:Nat) (M:cY):Prop where
 dQ:gD C M.dQ
 yZ:∀i:Nat,(i:Int)<C.aF→(M.aH i).Ok
 Xa:∀i:Nat,(i:Int)<C.aF→lZ C (M.dK i)
 wW:∀i:Nat,(i:Int)<C.aF→vK C (M.cR i)
 home:P5 C N M.home
 mI:I3 C M.mI
 log:M.log.length≤N
variable {C:bQ} {N:Nat} {M:cY}
theorem P5.h {H:jO} (h:P5 C N H) {K:Nat} (hn:N≤K):vB C H K:=fun l hl=>⟨(h l hl).1.inv,Nat.le_trans (h l hl).2 hn⟩
theorem vK.len (hC:C.Ok) {c:lQ} (h:vK C c):c.known.length≤100:=by
 have:=h.1
 have:C.entries≤8:=by unfold bQ.Ok at hC;omega
 omega
theorem eN.step (h:eN C N M) (hC:C.Ok) (hN:N≤2^29) {i:Nat} (hi:(i:Int)<C.aF):ma C M i:=⟨h.dQ,h.yZ i hi,h.Xa i hi,(h.wW i hi).len hC,h.mI.len,by have:=h.log;omega⟩
theorem Td {n:aQ} (h:wW C n=0):Nc n.kind∧0≤n.core∧n.core<C.aF:=by
 unfold Nt.wW at h
 split at h
 ·rename_i hk
  split at h
  ·split at h
   ·rename_i hw
    refine⟨hk,?_⟩
    have hw1:=hw.1
    unfold Nc at hk
    have:∃fs,Bs n.kind.toNat=1::fs:=by
     rcases k14 (k:=n.kind.toNat) (by omega) with e|e|e|e|e|e|e|e|e|e|e|e|e|e
     ·omega
     all_goals rw[e];exact⟨_,rfl⟩
    obtain⟨fs,hf⟩:=this
    rw[hf] at hw1
    unfold oV at hw1
    split at hw1
    ·rename_i hm
     exact hm
    ·cases hw1
   ·cases h
  ·cases h
 ·cases h
theorem bu {n:aQ} (h:wW C n=0) (h8:n.kind=8):n.state=1∨n.state=2∨n.state=4:=by
 unfold Nt.wW at h
 rw[h8] at h
 split at h
 ·split at h
  ·split at h
   ·rename_i hw
    have hw1:=hw.1
    rw[show Bs (8:Int).toNat=[1,2,4,6,8,9] from rfl] at hw1
    simp only[oV] at hw1
    split at hw1
    ·split at hw1
     ·split at hw1
      ·split at hw1
       ·rename_i hm
        exact hm
       ·cases hw1
      ·cases hw1
     ·cases hw1
    ·cases hw1
   ·cases h
  ·cases h
 ·cases h
theorem S3 {F:gM} {a b c:Int} (hF:I3 C F) (he:(F.take C a b c).2.2=0):fq C (F.take C a b c).2.1∧(F.take C a b c).2.1∈F a.toNat b.toNat:=by
 unfold gM.take at he ⊢
 by_cases h1:(0≤a∧a<C.aF)∧(0≤b∧b<4)
 ·rw[if_neg (fun h=>h h1)] at he ⊢
  dsimp only at he ⊢
  by_cases h2:F a.toNat b.toNat=[]
  ·grind
  ·rw[if_neg h2]
   have hp:0<(F a.toNat b.toNat).length:=List.length_pos_iff.2 h2
   have hb:(c % ((F a.toNat b.toNat).length:Int)).toNat<(F a.toNat b.toNat).length:=by
    have h3:=Int.emod_nonneg c (show((F a.toNat b.toNat).length:Int)≠0 by omega)
    have h4:=Int.emod_lt_of_pos c (show(0:Int)<((F a.toNat b.toNat).length:Int) by omega)
    omega
   have hm:(F a.toNat b.toNat).getD (c % ((F a.toNat b.toNat).length:Int)).toNat aQ.zero∈F a.toNat b.toNat:=by
    grind
   exact⟨(hF.note _ _ _ hm).1,hm⟩
 grind
theorem Sx {F:gM} {a b c:Int} (hF:I3 C F):I3 C (F.take C a b c).1:=by
 unfold gM.take
 split
 ·exact hF
 ·dsimp only
  split
  ·exact hF
  ·constructor
   ·intro x y
    unfold gM.set
    dsimp only
    split
    ·rename_i e
     have:=hF.len x y
     grind
    ·exact hF.len x y
   ·intro x y n hn
    unfold gM.set at hn
    dsimp only at hn
    split at hn
    ·rename_i e
     have:=hF.note _ _ n (List.mem_of_mem_eraseIdx hn)
     grind
    ·exact hF.note x y n hn
theorem wh {F:gM} {n:aQ} (hF:I3 C F) (hn:fq C n) (hl:((F n.core.toNat (fL n)).length:Int)<C.depth):I3 C (F.put n):=by
 constructor
 ·intro x y
  unfold gM.put gM.set
  split
  ·grind
  ·exact hF.len x y
 ·intro x y k hk
  unfold gM.put gM.set at hk
  split at hk
  ·rename_i e
   rcases List.mem_append.1 hk with hk|hk
   ·rw[e.1,e.2];exact hF.note _ _ k hk
   grind
  ·exact hF.note x y k hk
theorem l8:∀{l:List aQ} {F F':gM},I3 C F→(∀n∈l,fq C n)→gM.Fq C.depth F l=some F'→I3 C F':=by
 intro l
 induction l with
 |nil=>intro F F' hF _ h;cases h;exact hF
 |cons n l ih=>
  intro F F' hF hl h
  unfold gM.Fq at h
  split at h
  ·rename_i hd
   exact ih (wh hF (hl n List.mem_cons_self) hd) (fun k hk=>hl k (List.mem_cons_of_mem _ hk)) h
  ·cases h
theorem R0:∀{l:List aQ},cR C l=0→∀n∈l,Nt.wW C n=0
 |[],_,n,hn=>by cases hn
 |k::l,h,n,hn=>by
  unfold cR at h
  split at h
  ·grind
  ·rename_i hk
   rcases List.mem_cons.1 hn with rfl|hn
   ·simpa using hk
   ·exact R0 h n hn
theorem wS {F:gM} {l:List aQ} (hF:I3 C F) (hw:∀n∈l,n.kind=12→0≤n.d0∧n.d0≤1000000):I3 C (F.send C l).1:=by
 unfold gM.send
 split
 ·exact hF
 ·rename_i hc
  split
  ·rename_i F' hp
   exact l8 hF (fun n hn=>⟨R0 (by simpa using hc) n hn,hw n hn⟩) hp
  ·exact hF
theorem Ql {s:aY} (ho:s.Ok) (h:s.over=false):Fits (vU s.prog s.at') s.prog.length∧s.at'<s.prog.length:=by
 have h2:=ho.2.2.1
 rw[h] at h2
 have hl:=Po h2.symm
 exact⟨Tp (ho.2.2.2.2 _ (Q7 ho.1 hl)),hl⟩
theorem mT {s t:aY} {a:Int} (ho:s.Ok) (hp:t.prog=s.prog) (h0:0≤a) (h1:a≤s.prog.length):(t.nA a).Ok:=by
 unfold aY.Ok aY.nA
 dsimp only
 rw[hp]
 exact⟨h0,by have:=ho.2.2.2.1;omega,rfl,ho.2.2.2.1,ho.2.2.2.2⟩
theorem Qc {s:aY} {i:Nat} {r:aY×Ev} (ho:s.Ok) (h:aY.mU s i=some r):r.1.Ok:=by
 unfold aY.mU aY.next? at h
 cases hov:s.over with
 |true=>grind
 |false=>
  rw[hov] at h
  simp only[Bool.false_eq_true,if_false] at h
  obtain⟨hf,hl⟩:=Ql ho hov
  have h0:=ho.1
  split at h
  ·cases h;exact mT ho rfl (by omega) (by omega)
  ·split at h
   ·cases h;exact mT ho rfl (by omega) (by omega)
   ·split at h
    ·cases h;exact mT ho rfl (by omega) (by omega)
    ·split at h
     ·split at h
      ·cases h;exact mT ho rfl (by omega) (by omega)
      ·cases h;exact mT ho rfl (by omega) (by omega)
     ·split at h
      ·rename_i e
       have:=hf.p1 e
       cases h;exact mT ho rfl (by omega) (by omega)
      ·split at h
       ·rename_i e
        have:=hf.p2 e
        cases h
        refine mT ho rfl ?_ ?_
        ·split<;>omega
        ·split<;>omega
       ·cases h
theorem Lv {s:aY} {i:Nat} {v c:Int} (ho:s.Ok):(aY.cC s i v c).1.Ok:=by
 unfold aY.cC
 cases hn:aY.next? s with
 |none=>exact ho
 |some x=>
  have hov:s.over=false:=by
   unfold aY.next? at hn
   cases h:s.over with
   |false=>rfl
   |true=>rw[h] at hn;simp at hn
  obtain⟨hf,hl⟩:=Ql ho hov
  have h0:=ho.1
  dsimp only
  split
  ·exact mT ho rfl (by omega) (by omega)
  ·split
   ·split
    ·exact ho
    ·split
     ·exact mT ho rfl (by omega) (by omega)
     ·split
      ·exact mT ho rfl (by omega) (by omega)
      ·exact mT ho rfl (by omega) (by omega)
   ·exact ho
theorem ki (hC:C.Ok) {c:lQ} {f:Int×Int} (h:vK C c):vK C (c.Hh C f):=by
 have he:1≤C.entries:=by unfold bQ.Ok at hC;omega
 refine⟨?_,h.2⟩
 unfold lQ.Hh
 dsimp only
 have:=h.1
 grind
theorem au {c:lQ} {g:Int} (h:vK C c):vK C (c.begin C g).1:=by
 unfold lQ.begin
 split
 ·exact h
 ·rename_i hg
  split
  ·exact h
  ·split
   ·exact h
   ·refine⟨h.1,?_⟩
    show 0≤g∧g<C.bP
    simpa using hg
theorem ar (hC:C.Ok) {c:lQ} {a w:Int} (h:vK C c):vK C (c.walked C a w).1:=by
 have hg:1≤C.bP:=hC.2.1.1
 unfold lQ.walked
 split
 ·exact h
 ·split
  ·exact h
  ·split
   ·exact h
   ·dsimp only
    split
    ·exact h
    ·split
     ·exact h
     ·split
      ·exact h
      ·refine⟨(ki hC h).1,?_⟩
       show(0:Int)≤0∧(0:Int)<C.bP
       omega
theorem u5 {c:lQ} {g:Int} (h:vK C c):vK C (c.drop C g).1:=by
 unfold lQ.drop
 split
 ·exact h
 ·refine⟨?_,h.2⟩
  have:=List.length_filter_le (fun x:Int×Int=> !decide (g= -1∨x.1=g)) c.known
  have:=h.1
  dsimp only
  omega
end Go.Mc
end
section
namespace Go.Mc
open Go Go.Ab Go.Hm Go.At Go.Is Go.Ct Go.Nt
variable {C:bQ} {N:Nat} {M:cY}
theorem eN.mono {K:Nat} (h:eN C N M) (hn:N≤K):eN C K M:=⟨h.dQ,h.yZ,h.Xa,h.wW,fun l hl=>⟨(h.home l hl).1,Nat.le_trans (h.home l hl).2 hn⟩,h.mI,Nat.le_trans h.log hn⟩
theorem P1 {α:Type} {P:α→Prop} {s:Nat→α} {i:Nat} {t:α} {n:Int} (h:∀j:Nat,(j:Int)<n→P (s j)) (ht:P t):∀j:Nat,(j:Int)<n→P (bT s i t j):=by
 intro j hj
 unfold bT
 grind
theorem eN.dH (h:eN C N M) {F:gM} (hF:I3 C F):eN C N (M.dH F):={h with mI:=hF}
theorem eN.mG (h:eN C N M) {m:Mon} (hm:gD C m):eN C N (M.mG m):={h with dQ:=hm}
theorem eN.qJ (h:eN C N M) {H:jO} {K:Nat} (hK:N≤K) (hH:P5 C K H):eN C K (M.qJ H):={h.mono hK with home:=hH}
theorem eN.sE (h:eN C N M) {i:Nat} {c:iT} (hc:lZ C c):eN C N (M.sE i c):={h with Xa:=P1 h.Xa hc}
theorem eN.Bh (h:eN C N M) {i:Nat} {c:lQ} (hc:vK C c):eN C N (M.Bh i c):={h with wW:=P1 h.wW hc}
theorem eN.vT (h:eN C N M) {i:Nat} {c:aY} (hc:c.Ok):eN C N (M.vT i c):={h with yZ:=P1 h.yZ hc}
theorem eN.Sc (h:eN C N M) {v:Ev}:eN C (N+1) (M.Sc v):={h.mono (Nat.le_succ N) with log:=by show(M.log++[v]).length≤N+1;rw[List.length_append,List.length_singleton];have:=h.log;omega}
theorem vd {m:Mon} (h:gD C m) {g:Int} (hg:m.has g):0≤(m.zA g).owner∧(m.zA g).owner≤4:=by
 refine h.own _ ?_
 unfold Mon.has at hg
 unfold Mon.zA
 grind
theorem Yv {m:Mon} (h:gD C m) {g:Nat} {x:jP} (hx:0≤x.owner∧x.owner≤4):gD C (m.du g x):=
 ⟨by show(m.fV.set g x).length=_;rw[List.length_set];exact h.len,fun y hy=>by
  rcases List.mem_or_eq_of_mem_set hy with hy|rfl
  ·exact h.own y hy
  ·exact hx,h.run⟩
theorem N1 {m:Mon} (h:gD C m) {g:Nat} {x:Option Mc.iG} (hx:∀r,x=some r→(g:Int)<C.bP∧r.cB=g∧(r.phase=1∨r.phase=2)∧(0≤r.core∧r.core<C.aF)∧(0≤r.then'∧r.then'≤4)):gD C (m.dN g x):=
 ⟨h.len,h.own,fun k r hr=>by
  unfold Mon.dN bT at hr
  dsimp only at hr
  split at hr
  ·grind
  ·exact h.run k r hr⟩
theorem pq {c w o t:Int}:0≤(jG c w o t).1∧(jG c w o t).1≤4:=by
 unfold jG
 grind
theorem mv {m:Mon} (h:gD C m) {a:Mc.Ask}:gD C (m.call C.aF a).1:=by
 unfold Mon.call
 split
 ·exact h
 ·rename_i hc
  split
  ·exact h
  ·rename_i hg
   have hg:m.has a.cB:=Decidable.not_not.1 hg
   split
   ·exact h
   ·split
    ·exact h
    ·dsimp only
     split
     ·exact h
     ·have hl:=h.len
      have hg2:=hg
      unfold Mon.has at hg2
      refine N1 (Yv h (x:=⟨(m.zA a.cB).owner,true⟩) (vd h hg)) fun r hr=>?_
      cases hr
      refine⟨by omega,?_,.inl rfl,Decidable.not_not.1 hc,pq⟩
      show a.cB=_
      omega
theorem Ey {m:Mon} (h:gD C m) {g c:Int}:gD C (m.dropped C.aF g c).1:=by
 unfold Mon.dropped
 split
 ·exact h
 ·rename_i hg
  have hg:m.has g:=Decidable.not_not.1 hg
  split
  ·exact h
  ·rename_i r hr
   split
   ·exact h
   ·split
    ·exact h
    ·unfold Mon.run at hr
     split at hr
     ·refine N1 h fun r' hr'=>?_
      cases hr'
      obtain⟨a,b,c,d,e⟩:=h.run _ r hr
      refine⟨a,b,?_,d,e⟩
      unfold iG.kP iG.heard
      grind
     ·cases hr
theorem Ri {m:Mon} (h:gD C m) {g:Int}:gD C (m.over g).1∧∀u,(m.over g).2.1=some u→0≤u.core∧u.core<C.aF:=by
 unfold Mon.over
 split
 ·grind
 ·split
  ·grind
  ·rename_i r hr
   split
   ·grind
   ·unfold Mon.run at hr
    split at hr
    ·obtain⟨a,b,c,d,e⟩:=h.run _ r hr
     exact⟨N1 (Yv h e) (fun r hr=>by cases hr),(fun u hu=>by cases hu;exact d)⟩
    ·cases hr
theorem P5.sA {H:jO} (h:P5 C N H) {l:Nat} {x:rD} (h1:nR l x.1) (h2:x.1.waits.length≤N+1):P5 C (N+1) (bT H l x):=by
 intro k hk
 unfold bT
 split
 ·grind
 ·exact⟨(h k hk).1,Nat.le_succ_of_le (h k hk).2⟩
theorem P5.mono {H:jO} {K:Nat} (h:P5 C N H) (hn:N≤K):P5 C K H:=fun l hl=>⟨(h l hl).1,Nat.le_trans (h l hl).2 hn⟩
theorem Kw {H:jO} {l:Int} (h:P5 C N H):P5 C (N+1) (jZ C H l).1:=by
 unfold jZ
 split
 ·rename_i hl
  obtain⟨k,rfl⟩:=Int.eq_ofNat_of_zero_le hl.1
  have hk:k<C.lines:=by have:=hl.2;omega
  simp only[Int.toNat_natCast]
  obtain⟨h1,h2⟩:=h k hk
  refine h.sA (Lk h1 rfl (by show(0:Int)≤0∧(0:Int)<4;omega) (.inl rfl)) ?_
  show((H k).1.waits++[Ar k]).length≤N+1
  simp;omega
 ·exact h.mono (Nat.le_succ N)
theorem kc {H:jO} {n:aQ} (hC:C.Ok) (h:P5 C N H):P5 C (N+1) (fZ C H n).1:=by
 have hc4:=hC.1
 unfold fZ
 split
 ·exact h.mono (Nat.le_succ N)
 ·rename_i ht
  have ht:fX n.kind:=Decidable.not_not.1 ht
  split
  ·rename_i hr
   obtain⟨hc,hl⟩:=hr
   obtain⟨l,hnl⟩:=Int.eq_ofNat_of_zero_le hl.1
   have hk:l<C.lines:=by have:=hl.2;omega
   have e:n.line.toNat=l:=by omega
   simp only[e]
   obtain⟨h1,h2⟩:=h l hk
   have hI:=af (x:=H l) h1 ht hnl (by omega)
   rw[hnl]
   refine h.sA hI ?_
   by_cases h4:n.kind=4
   ·unfold rD.take
    rw[if_pos h4]
    split
    ·grind
    ·exact Nat.le_succ_of_le h2
   ·by_cases h5:n.kind=5
    ·unfold rD.take
     rw[if_neg h4,if_pos h5]
     split
     ·grind
     ·simp only[rD.Kx,T8,Rp];omega
    ·unfold rD.take
     rw[if_neg h4,if_neg h5]
     show((H l).1.waits++[n]).length≤N+1
     simp;omega
  ·exact h.mono (Nat.le_succ N)
theorem Z2 {H:jO} {l:Int} {j:Int→Int×Bool} (h:P5 C N H):P5 C (N+1) (jE C H l j).1:=by
 unfold jE
 split
 ·rename_i hl
  obtain⟨k,rfl⟩:=Int.eq_ofNat_of_zero_le hl.1
  have hk:k<C.lines:=by have:=hl.2;omega
  simp only[Int.toNat_natCast]
  obtain⟨h1,h2⟩:=h k hk
  unfold rD.begin
  split
  ·exact h.sA h1 (Nat.le_succ_of_le h2)
  ·rename_i hb
   cases hw:(H k).1.waits with
   |nil=>exact h.sA h1 (Nat.le_succ_of_le h2)
   |cons n w=>
    simp only
    have hn:=h1.waits n (by grind)
    obtain⟨a,b,c⟩:=bp (m:=(H k).2) (j:=j) (Z5 h1 hw) (show((H k).1.next w).busy=false from(by simpa using hb:(H k).1.busy=false)) hn.1 hn.2.1 hn.2.2
    refine h.sA a ?_
    rw[R4]
    show w.length≤N+1
    grind
 ·exact h.mono (Nat.le_succ N)
theorem cg {H:jO} {g:Int} (h:P5 C N H):P5 C N (xM H g):=by
 intro l hl
 unfold xM
 split
 ·exact h l hl
 ·exact h l hl
theorem aa {n g:Int} (hn:0≤n∧n≤16) (hg:0≤g∧g≤100):0≤nM n g∧nM n g≤1000:=by unfold nM;omega
theorem jf {es:List jP} (hl:es.length≤16) (ho:∀x∈es,0≤x.owner∧x.owner≤4) {a:Int}:0≤(tI es a).1∧(tI es a).1≤1000000:=by
 have hown:∀k,0≤(es.getD k jK).owner∧(es.getD k jK).owner≤4:=by
  intro k
  rw[List.getD_eq_getElem?_getD]
  cases hk:es[k]? with
  |none=>show(0:Int)≤0∧(0:Int)≤4;omega
  |some x=>grind
 have hall:∀w∈iK es,0≤w∧w≤1000000:=by
  intro w hw
  unfold iK at hw
  rcases List.mem_append.1 hw with hw|hw
  ·obtain⟨j,hj,rfl⟩:=List.mem_map.1 hw
   have hj:=List.mem_range.1 hj
   unfold R9
   split
   ·grind
   ·have:=aa (n:=es.length) (g:=((4*j:Nat):Int)) (by omega) (by omega)
    omega
  ·obtain⟨x,hx,rfl⟩:=List.mem_map.1 hw
   have:=ho x hx
   unfold fy
   split<;>omega
 unfold tI
 split
 ·simp_all
 grind
theorem xT (h:eN C N M) {i:Nat} {v c:Int} (hi:(i:Int)<C.aF):eN C (N+1) (M.cC i v c).1:=by
 unfold cY.cC
 dsimp only
 split
 ·exact h.mono (Nat.le_succ N)
 ·exact(h.vT (Lv (h.yZ i hi))).Sc
def KK (k:Int):Prop:=k=6∨k=7∨k=12∨k=13
theorem aAm {l:List aQ} (h:∀n∈l,n.kind≠12):∀n∈l,n.kind=12→0≤n.d0∧n.d0≤1000000:=fun n hn e=>absurd e (h n hn)
theorem noK {l:List aQ} (h:∀n∈l,¬KK n.kind):∀n∈l,n.kind=12→0≤n.d0∧n.d0≤1000000:=aAm fun n hn e=>h n hn (by unfold KK;omega)
theorem yq (h:eN C N M) {i:Nat} {a:Mc.Ask} (hi:(i:Int)<C.aF):eN C (N+1) (M.call C i a).1:=by
 unfold cY.call
 dsimp only
 split
 ·exact xT h hi
 ·split
  ·exact h.mono (Nat.le_succ N)
  ·refine((h.dH (wS h.mI (aAm ?_))).mG (mv h.dQ)).mono (Nat.le_succ N)
   intro n hn
   unfold Li at hn
   obtain⟨k,_,rfl⟩:=List.mem_map.1 hn
   show(13:Int)≠12
   omega
theorem aB0 (h:eN C N M) {i:Nat} {g:Int} (hi:(i:Int)<C.aF):eN C (N+1) (M.walk C i g).1:=by
 unfold cY.walk
 dsimp only
 split
 ·exact h.mono (Nat.le_succ N)
 ·split
  ·exact h.mono (Nat.le_succ N)
  ·refine((h.dH (wS h.mI (aAm ?_))).Bh (au (h.wW i hi))).mono (Nat.le_succ N)
   intro n hn
   rw[List.mem_singleton.1 hn]
   show(6:Int)≠12
   omega
theorem yz {core:Int} {s:iT} {l w:Int} {wr:Bool}:∀n∈(want C core s l w wr).2.1,¬KK n.kind:=by
 intro n hn
 unfold want at hn
 split at hn
 ·cases hn
 ·split at hn
  ·cases hn
  ·split at hn
   ·cases hn
   ·split at hn
    ·cases hn
    ·unfold zV at hn
     split at hn
     ·simp only[kO,List.nil_append,List.mem_singleton] at hn
      rw[hn];unfold KK;grind
     ·split at hn
      ·cases hn
      ·split at hn
       ·cases hn
       ·simp only[kO,List.mem_append,List.mem_singleton] at hn
        rcases hn with rfl|rfl
        ·unfold KK;dsimp only;omega
        ·unfold KK;grind
theorem aAx (h:eN C N M) {i:Nat} {l:Int} {wr:Bool} (hi:(i:Int)<C.aF):eN C (N+1) (M.want C i l wr).1:=by
 unfold cY.want
 dsimp only
 split
 ·exact h.mono (Nat.le_succ N)
 ·split
  ·exact h.mono (Nat.le_succ N)
  ·exact((h.dH (wS h.mI (noK yz))).sE (bz (h.Xa i hi))).mono (Nat.le_succ N)
theorem aAf (h:eN C N M) {i:Nat} {l a o:Int} {x:Acc} (hi:(i:Int)<C.aF):eN C (N+1) (M.Np C i l a o x).1:=by
 unfold cY.Np
 dsimp only
 refine xT (h.sE ?_) hi
 have h1:lZ C (if x.read=true then rT C (M.dK i) l a o else M.dK i):=by
  split
  ·exact Lt (h.Xa i hi)
  ·exact h.Xa i hi
 split
 ·exact Vy h1
 ·exact h1
theorem o7 (h:eN C N M) {i:Nat} {a:Acc} (hi:(i:Int)<C.aF):eN C (N+1) (M.access C i a).1:=by
 unfold cY.access
 split
 ·exact xT h hi
 ·dsimp only
  split
  ·exact h.mono (Nat.le_succ N)
  ·split
   ·exact aB0 h hi
   ·split
    ·exact xT h hi
    ·split
     ·exact aAx h hi
     ·exact aAf h hi
theorem zk (h:eN C N M) {a:Int}:eN C (N+1) (M.step C a).1:=by
 unfold cY.step
 split
 ·exact h.mono (Nat.le_succ N)
 ·rename_i ha
  have ha:0≤a∧a<C.aF:=Decidable.not_not.1 ha
  have hi:((a.toNat:Nat):Int)<C.aF:=by omega
  dsimp only
  split
  ·exact h.mono (Nat.le_succ N)
  ·split
   ·exact h.mono (Nat.le_succ N)
   ·split
    ·rename_i r hr
     exact(h.vT (Qc (h.yZ _ hi) hr)).Sc
    ·split
     ·exact yq h hi
     ·split
      ·exact o7 h hi
      ·exact h.mono (Nat.le_succ N)
theorem Nm {r:Row} {line:Int} {d:Ln}:∀n∈(r.gK line d).2,¬KK n.kind:=by
 intro n hn
 unfold Row.gK at hn
 have e:∀s,(r.pF line s d).kind=8:=fun _=>rfl
 unfold KK
 grind
theorem I2 {line st:Int} {l:List Nat}:∀n∈gG line st l,¬KK n.kind:=by
 intro n hn
 unfold gG at hn
 obtain⟨k,_,rfl⟩:=List.mem_map.1 hn
 show ¬KK 11
 unfold KK;omega
theorem ym {r:Row} {line:Int} {m:Ln}:∀n∈(r.rest line m).2,¬KK n.kind:=by
 intro n hn
 unfold Row.rest at hn
 have hg:= @Nm
 grind
theorem ch {H:jO} {n:aQ}:∀x∈(fZ C H n).2.1,¬KK x.kind:=by
 intro x hx
 unfold fZ at hx
 split at hx
 ·cases hx
 ·split at hx
  ·unfold rD.take at hx
   split at hx
   ·split at hx<;>cases hx
   ·split at hx
    ·split at hx
     ·cases hx
     ·exact ym x hx
    ·cases hx
  ·cases hx
theorem aCp {r:Row} {line:Int} {m:Ln} {n:aQ} {w:Int}:∀x∈(r.get line m n w).2,¬KK x.kind:=by
 intro x hx
 unfold Row.get at hx
 dsimp only at hx
 split at hx
 ·unfold Row.getM at hx
  split at hx
  ·exact I2 x hx
  ·exact Nm x hx
 ·unfold Row.Z7 at hx
  split at hx
  ·exact I2 x hx
  ·exact Nm x hx
theorem Vo {H:jO} {l:Int} {j:Int→Int×Bool}:∀x∈(jE C H l j).2.1,¬KK x.kind:=by
 intro x hx
 unfold jE at hx
 split at hx
 ·unfold rD.begin at hx
  split at hx
  ·cases hx
  ·split at hx
   ·cases hx
   ·dsimp only at hx
    unfold Row.begun at hx
    split at hx
    ·rw[List.mem_singleton.1 hx];show ¬KK 10;unfold KK;omega
    ·split at hx
     ·split at hx
      ·exact aCp x hx
      ·rw[List.mem_singleton.1 hx];show ¬KK 9;unfold KK;omega
     ·split at hx
      ·cases hx
      ·exact I2 x hx
 ·cases hx
theorem vh {core:Int} {s:iT} {n:aQ}:∀x∈(hJ C core s n).2.1,¬KK x.kind:=by
 intro x hx
 have e:∀y,(lS core n y).kind=5:=fun y=>by unfold lS;split<;>rfl
 unfold hJ uL E7 rS nJ at hx
 repeat' split at hx
 all_goals (unfold KK;grind)
theorem eN.take (h:eN C N M) (hC:C.Ok) (hN:N≤2^29) {n:aQ} (hn:fq C n):uQ C M n:=by
 obtain⟨h1,h2⟩:=Td hn.wW
 have hi:((n.core.toNat:Nat):Int)<C.aF:=by omega
 exact⟨h2,h.dQ,h.home.h (by omega),h.Xa _ hi,(h.wW _ hi).len hC,(h.wW _ hi).2,hn.word⟩
theorem vc (h:eN C N M) (hC:C.Ok) {n:aQ} (hn:fq C n):eN C (N+2) (M.fX C n).1∧∀x∈(M.fX C n).2.1,x.kind=12→0≤x.d0∧x.d0≤1000000:=by
 obtain⟨h1,h2⟩:=Td hn.wW
 have hi:((n.core.toNat:Nat):Int)<C.aF:=by omega
 have hl:=h.dQ.len
 have hgr:=hC.2.1
 unfold cY.fX
 split
 ·exact⟨(h.qJ (Nat.le_succ N) (kc hC h.home)).mono (Nat.le_succ _),noK ch⟩
 ·split
  ·refine⟨(h.sE (ff ?_ (h.Xa _ hi))).mono (by omega),noK vh⟩
   intro h8
   have:=bu hn.wW h8
   omega
  ·split
   ·refine⟨h.mono (by omega),fun x hx _=>?_⟩
    rw[List.mem_singleton.1 hx]
    exact jf (by omega) h.dQ.own
   ·split
    ·refine⟨(h.Bh (ar hC (h.wW _ hi))).mono (by omega),fun x hx e=>?_⟩
     dsimp only at hx
     split at hx
     ·cases hx
     ·rw[List.mem_singleton.1 hx] at e
      exact absurd e (by show(6:Int)≠12;omega)
    ·split
     ·refine⟨(h.Bh (u5 (h.wW _ hi))).mono (by omega),fun x hx e=>?_⟩
      rw[List.mem_singleton.1 hx] at e
      exact absurd e (by show(7:Int)≠12;omega)
     ·split
      ·refine⟨?_,fun x hx _=>by cases hx⟩
       dsimp only
       split
       ·exact(h.mG (Ey h.dQ)).qJ (by omega) (Kw (Kw h.home))
       ·exact(h.mG (Ey h.dQ)).mono (by omega)
      ·exact⟨h.mono (by omega),fun x hx _=>by cases hx⟩
theorem dk (h:eN C N M) (hC:C.Ok) {a b c:Int}:eN C (N+2) (M.vF C a b c).1:=by
 unfold cY.vF
 dsimp only
 split
 ·exact h.mono (by omega)
 ·rename_i he
  obtain⟨h1,h2⟩:=vc h hC (S3 (a:=a) (b:=b) (c:=c) h.mI (Decidable.not_not.1 he)).1
  split
  ·exact h.mono (by omega)
  ·split
   ·exact h.mono (by omega)
   ·exact h1.dH (wS (Sx h.mI) h2)
theorem vj (h:eN C N M) {a:Int}:eN C (N+2) (M.begin C a).1:=by
 unfold cY.begin
 dsimp only
 split
 ·exact h.mono (by omega)
 ·split
  ·exact h.mono (by omega)
  ·exact((h.dH (wS h.mI (noK Vo))).qJ (Nat.le_succ N) (Z2 h.home)).mono (by omega)
theorem mo (h:eN C N M) {a:Int}:eN C (N+2) (M.finish C a).1:=by
 obtain⟨h1,h2⟩:=Ri (g:=a) h.dQ
 unfold cY.finish
 split
 ·exact h.mono (by omega)
 ·split
  ·exact h.mono (by omega)
  ·dsimp only
   split
   ·exact h.mono (by omega)
   ·rename_i u hu
    have hc:=h2 u hu
    refine(xT (N:=N) ?_ (by omega)).mono (by omega)
    split
    ·exact(h.mG h1).qJ (Nat.le_refl N) (cg h.home)
    ·exact h.mG h1
theorem xo (h:eN C N M) (hC:C.Ok) {d:Do}:eN C (N+2) (M.Fj C d).1:=by
 unfold cY.Fj
 split
 ·exact(zk h).mono (by omega)
 ·split
  ·exact dk h hC
  ·split
   ·exact vj h
   ·split
    ·exact mo h
    ·exact h.mono (by omega)
end Go.Mc
end
section
open Go Go.Ab
attribute [local irreducible] aZ Br oM rI sQ Bi lE tH kU Qb gI lF pD pW oR kH zH tJ W2 Ut Qa Nn T3 P6 Km Lx T2 jR mX rV iO copyV iB vL Va Uo Fm kB Lu Sv Vn nF rH wK zB Cl wX T1 rM qX jI gS cI cA
section
namespace Go.Proofs.YtajjljbmfdboaaaGreatDoor
open Go Go.Ab Go.Hm Go.At
set_option maxRecDepth 100000
variable {G:Bg} {h:AH} {L L':List HP} {Q:Value→AH→Prop}
theorem q8 {C:bQ} (hC:C.Ok) {mb l:Nat} {mem:Nat→Ln} (h0:l<C.lines) (hs:Hs G h (eV G C.lines mb C mem::L)):
  ∃(b o cap:Nat) (r w:Int) (b2 o2 cp:Nat) (H:HP),Hs G h (aE mb 0 (C.enc++[.slice (some ⟨b,o,none⟩) C.aJ.toNat cap])::aE b (o+(l % C.aJ.toNat)*3) [I r,I w,.slice (some ⟨b2,o2,none⟩) (gH C.lines C.aJ.toNat (l % C.aJ.toNat)) cp]::aE b2 (o2+l/C.aJ.toNat*2) (J9 (mem l))::H::L)∧
   ∀v h' M,Hs G h' (aE mb 0 (C.enc++[.slice (some ⟨b,o,none⟩) C.aJ.toNat cap])::aE b (o+(l % C.aJ.toNat)*3) [I r,I w,.slice (some ⟨b2,o2,none⟩) (gH C.lines C.aJ.toNat (l % C.aJ.toNat)) cp]::aE b2 (o2+l/C.aJ.toNat*2) (J9 v)::H::M)→Hs G h' (eV G C.lines mb C (bT mem l v)::M):=by
 have hb:=bQ.bk hC
 obtain⟨b,o,cap,hs⟩:=tW hs
 have hs:=(hs.front (dC C.aJ.toNat fun i=>fE C.lines C.aJ.toNat b (o+i*3) i mem)).kR (l % C.aJ.toNat) (Nat.mod_lt _ hb.2.1)
 obtain⟨r,w,a,cp,hs⟩:=yH hs
 have hat:=F3 hb.2.1 h0
 obtain⟨b2,o2,rfl,H,hs,hback⟩:=Hs.j2 (M8 (B:=C.aJ.toNat) (i:=l % C.aJ.toNat) (mem:=mem)) hat (hs.front (dB 2 155 a cp (gH C.lines C.aJ.toNat (l % C.aJ.toNat),(List.range (gH C.lines C.aJ.toNat (l % C.aJ.toNat))).flatMap (Ka C.aJ.toNat (l % C.aJ.toNat) mem))))
 rw[jd hb.2.1] at hs
 refine⟨b,o,cap,r,w,b2,o2,cp,sp [H,sp (((List.range C.aJ.toNat).erase (l % C.aJ.toNat)).map fun i=>fE C.lines C.aJ.toNat b (o+i*3) i mem),hole G 3 297 (some ⟨b,o,none⟩) cap C.aJ.toNat b o],hs.to,?_⟩
 intro v h' M hs
 have hs:=(hs.front (sp [H,sp (((List.range C.aJ.toNat).erase (l % C.aJ.toNat)).map fun i=>fE C.lines C.aJ.toNat b (o+i*3) i mem),hole G 3 297 (some ⟨b,o,none⟩) cap C.aJ.toNat b o])).Bk
 have hs:=hback _ _ _ rfl rfl (hs.cN (aE b2 (o2+l/C.aJ.toNat*2) (J9 v)) H)
 rw[Pj hb.2.1] at hs
 have hs:=nU (hs.sg (b:=b) (o:=o+l % C.aJ.toNat*3) (c:=[I r,I w,.slice (some ⟨b2,o2,none⟩) (gH C.lines C.aJ.toNat (l % C.aJ.toNat)) cp]) rfl)
 exact qE (b:=b) (o:=o) (cap:=cap) ((hs.nG (n:=C.aJ.toNat) (i:=l % C.aJ.toNat) (fun i=>fE C.lines C.aJ.toNat b (o+i*3) i mem) (fun i=>fE C.lines C.aJ.toNat b (o+i*3) i (bT mem l v)) (Nat.mod_lt _ hb.2.1) (fun i hi hne=>by simp only[fE,pg hi hne])).to)
theorem Yz {C:bQ} (hC:C.Ok) {mb w:Nat} {mem:Nat→Ln} (hl:Ob G 0 fB) (hs:Hs G h (eV G C.lines mb C mem::L)) (h0:w<C.lines*2)
  (hk:∀(b2 o2:Nat) (H:HP) h',Hs G h' (aE b2 o2 (J9 (mem (w/2)))::H::L)→(∀v h' M,Hs G h' (aE b2 o2 (J9 v)::H::M)→Hs G h' (eV G C.lines mb C (bT mem (w/2) v)::M))→Q (.tuple ⟨[pt b2 o2 (0+w % 2*1),I 0]⟩) h'):Cl Pr K 144 [pt mb 0 0,I w] h Q:=by
 have hb:=bQ.bk hC
 have h1:w/2<C.lines:=by omega
 obtain⟨b,o,cap,r,w0,b2,o2,cp,H,hs,hback⟩:=q8 hC h1 hs
 refine cW (cS (bS (bW (aB (aA (aN (b:=mb) (o:=0) hs (by decide) (l:=C.enc) rfl rfl (Dq hC hl hs fun h hs=>?_)))))))
 rw[if_pos (by omega)]
 refine aG rfl (aG rfl (aG rfl (aX (aI (by omega) (bW ?_)))))
 rw[Int.toNat_natCast]
 refine rZ hC hl hs h1 fun h hs=>aG rfl (aG rfl (aG rfl (aX (aI (by omega) (aB (aA (aC (b:=b) (o:=o+(w/2) % C.aJ.toNat*3) hs rfl ?_)))))))
 have hat:=F3 hb.2.1 h1
 refine dU hat (dF (by omega) ?_)
 refine hk _ _ (sp [aE mb 0 (C.enc++[.slice (some ⟨b,o,none⟩) C.aJ.toNat cap]),aE b (o+(w/2 % C.aJ.toNat)*3) [I r,I w0,.slice (some ⟨b2,o2,none⟩) (gH C.lines C.aJ.toNat (w/2 % C.aJ.toNat)) cp],H]) _ hs.to fun v h' M hs=>?_
 have hs:=(hs.front (sp [aE mb 0 (C.enc++[.slice (some ⟨b,o,none⟩) C.aJ.toNat cap]),aE b (o+(w/2 % C.aJ.toNat)*3) [I r,I w0,.slice (some ⟨b2,o2,none⟩) (gH C.lines C.aJ.toNat (w/2 % C.aJ.toNat)) cp],H])).Bk
 exact hback v h' M hs.to
theorem aC2 (l:Ln) (w:Nat):(J9 l)[0+w % 2*1]?=some (I (if w % 2=0 then l.1 else l.2)):=by
 have:w % 2=0∨w % 2=1:=by omega
 rcases this with h|h<;>rw[h]<;>rfl
theorem bh {C:bQ} (hC:C.Ok) {mb w:Nat} {mem:Nat→Ln} (hl:Ob G 0 fB) (hs:Hs G h L) [m:Has (eV G C.lines mb C) L mem L'] (h0:w<C.lines*2)
  (hk:∀h',Hs G h' (eV G C.lines mb C mem::L')→Q (.tuple ⟨[I (Mb mem w),I 0]⟩) h'):Cl Pr K 152 [pt mb 0 0,I w] h Q:=by
 refine cW (Yz hC hl (m.of hs) h0 fun b2 o2 H h hs hback=>aG rfl (aG rfl (aX (aI (by omega) (aB (aC (b:=b2) (o:=o2) hs (aC2 _ w) ?_))))))
 have hs:=hback _ _ _ hs
 rw[tO] at hs
 have:=hk _ hs
 unfold Mb at this
 split at this
 ·rename_i e;rw[if_pos e];exact this
 ·rename_i e;rw[if_neg e];exact this
theorem D1 {C:bQ} (hC:C.Ok) {mb w:Nat} {v:Int} {mem:Nat→Ln} (hl:Ob G 0 fB) (hs:Hs G h L) [m:Has (eV G C.lines mb C) L mem L'] (h0:w<C.lines*2)
  (hk:∀h',Hs G h' (eV G C.lines mb C (Le mem w v)::L')→Q (I 0) h'):Cl Pr K 86 [pt mb 0 0,I w,I v] h Q:=by
 refine cW (Yz hC hl (m.of hs) h0 fun b2 o2 H h hs hback=>aG rfl (aG rfl (aX (aI (by omega) (bW (aB ?_))))))
 have e:w % 2=0∨w % 2=1:=by omega
 rcases e with e|e
 ·rw[e]
  refine bE (b:=b2) (o:=o2) hs rfl rfl rfl rfl fun h hs=>?_
  have hs:=hback (v,(mem (w/2)).2) _ _ hs
  have:=hk _ (by unfold Le;rw[if_pos e];exact hs)
  exact this
 ·rw[e]
  refine bE (b:=b2) (o:=o2) hs rfl rfl rfl rfl fun h hs=>?_
  have hs:=hback ((mem (w/2)).1,v) _ _ hs
  have:=hk _ (by unfold Le;rw[if_neg (by omega)];exact hs)
  exact this
end Go.Proofs.YtajjljbmfdboaaaGreatDoor
end
section
namespace Go.Proofs.YtajjljbmfdboaaaGreatDoor.A
open Go Go.Ab Go.Hm Go.At Go.Is
set_option maxRecDepth 100000
variable {G:Bg} {h:AH} {L L':List HP} {Q:Value→AH→Prop}
theorem Q9 {v:Value} {a b:Int} {l:List Int} {e:TypeId} (hl:l.length<1000) (hk:∀h',Hs G h' (wY G 1 e v (l.map fun x=>[I x])::L)→Q (.bool (within a b l)) h'):
  ∀(f i:Nat) (h:AH),i+f=l.length→within a b l=within a b (l.drop i)→Hs G h (wY G 1 e v (l.map fun x=>[I x])::L)→Dd 92 1 [] Q [(I a),(I b),v,(I l.length),(I i)] h:=by
 intro f
 induction f with
 |zero=>
  intro i h hi he hs
  rw[List.drop_of_length_le (by omega)] at he
  refine bW (aU (aI (by omega) ?_))
  have:=hk _ hs
  rw[he] at this
  exact this
 |succ f ih=>
  intro i h hi he hs
  obtain⟨x,hx,hd⟩:=lU (l:=l) (i:=i) (by omega)
  rw[hd] at he
  have e1:within a b (x::l.drop (i+1))=(decide (a≤x∧x≤b)&&within a b (l.drop (i+1))):=rfl
  rw[e1] at he
  refine bW (aU (bM (by omega) (bW (tV hs (x:=[I x]) (by simp[hx]) rfl (aU (aS (fun c=>?_) (fun c=>kG (aS (fun d=>?_) (fun d=>?_)))))))))
  ·have:=hk _ hs
   rw[he,decide_eq_false (by omega)] at this
   exact this
  ·have:=hk _ hs
   rw[he,decide_eq_false (by omega)] at this
   exact this
  ·rw[decide_eq_true (by omega),Bool.true_and] at he
   exact bW (bI (by omega) (ih (i+1) h (by omega) he hs))
theorem Dt {v:Value} {a b:Int} {l:List Int} {e:TypeId} (hl:l.length<1000) (hs:Hs G h (wY G 1 e v (l.map fun x=>[I x])::L)) (hk:∀h',Hs G h' (wY G 1 e v (l.map fun x=>[I x])::L)→Q (.bool (within a b l)) h'):Cl Pr K 92 [I a,I b,v] h Q:=by
 obtain⟨ta,tc,ht⟩:=sW hs
 refine cW ?_
 have h0:=Q9 (L:=L) (a:=a) (b:=b) hl hk l.length 0 h (by omega) rfl hs
 rw[ht] at h0 ⊢
 simp only[List.length_map] at h0 ⊢
 exact bZ h0
theorem uA {ad:Addr} {a b x:Int} {e:TypeId} (hs:Hs G h (dB 1 e (some ad) 1 (1,[I x])::L)) (hk:∀h',Hs G h' L→Q (.bool (decide (a≤x∧x≤b))) h'):Cl Pr K 92 [I a,I b,.slice (some ad) 1 1] h Q:=by
 have hs:=j9 (l:=[x].map fun x=>[I x]) (by simp) rfl rfl hs
 refine Dt (l:=[x]) (by simp) hs fun h' hs=>?_
 have:=hk _ hs.tail
 rw[show within a b [x]=decide (a≤x∧x≤b) by simp[within]]
 exact this
end Go.Proofs.YtajjljbmfdboaaaGreatDoor.A
end
section
namespace Go.Proofs.YtajjljbmfdboaaaGreatDoor.A
open Go Go.Ab Go.Hm Go.At Go.Is
set_option maxRecDepth 100000
variable {G:Bg} {h:AH} {L L':List HP} {Q:Value→AH→Prop}
theorem qi {c w o t:Int} (hs:Hs G h L) (hk:∀h',Hs G h' L→Q (.tuple ⟨[I (jG c w o t).1,.bool (jG c w o t).2.1,I (jG c w o t).2.2]⟩) h'):Cl Pr K 241 [I c,I w,I o,I t] h Q:=by
 refine cW (aK (c:=[I w]) rfl (dP hs rfl rfl rfl fun a h hs=>uA hs fun h hs=>bU (dI (aS (fun h1=>?_) (fun h1=>?_)))))
 rotate_left
 ·have:=hk _ hs
  unfold jG at this
  rw[if_pos (by omega)] at this
  exact this
 refine aK (c:=[I o]) rfl (dP hs rfl rfl rfl fun a h hs=>uA hs fun h hs=>bU (dI (aS (fun h2=>?_) (fun h2=>?_))))
 rotate_left
 ·have:=hk _ hs
  unfold jG at this
  rw[if_pos (by omega)] at this
  exact this
 unfold jG at hk
 rw[if_neg (by omega)] at hk
 refine bW (bC (aS (fun c1=>?_) (fun n1=>bW (bC (aS (fun c1=>?_) (fun n2=>bW (bC (aS (fun c1=>?_) (fun n3=>bW (bC (aS (fun c1=>?_) (fun n4=>?_))))))))))))
 ·rw[if_pos c1] at hk
  refine bW (aX (aS (fun g1=>?_) (fun g1=>?_)))
  ·rw[if_pos g1] at hk;exact hk _ hs
  rw[if_neg g1] at hk
  refine bW (aX (aS (fun g2=>?_) (fun g2=>?_)))
  ·rw[if_pos g2] at hk;exact hk _ hs
  rw[if_neg g2] at hk
  refine bW (aK (c:=[I t]) rfl (dP hs rfl rfl rfl fun a h hs=>uA hs fun h hs=>bU (dI (aS (fun g3=>?_) (fun g3=>?_)))))
  ·rw[if_neg (by omega)] at hk;exact hk _ hs
  ·rw[if_pos (by omega)] at hk;exact hk _ hs
 ·rw[if_neg n1,if_pos c1] at hk
  refine bW (bC (aS (fun g1=>?_) (fun g1=>?_)))
  ·rw[if_pos g1] at hk;exact hk _ hs
  rw[if_neg g1] at hk
  refine bW (aX (aS (fun g2=>aX (aS (fun g3=>?_) (fun g3=>?_))) (fun g2=>?_)))
  ·rw[if_pos (by omega)] at hk;exact hk _ hs
  ·rw[if_neg (by omega)] at hk;exact hk _ hs
  ·rw[if_neg (by omega)] at hk;exact hk _ hs
 ·rw[if_neg n1,if_neg n2,if_pos c1] at hk
  refine bW (bC (aS (fun g1=>?_) (fun g1=>aX (aS (fun g2=>?_) (fun g2=>?_)))))
  ·rw[if_pos (by omega)] at hk;exact hk _ hs
  ·rw[if_pos (by omega)] at hk;exact hk _ hs
  rw[if_neg (by omega)] at hk
  refine bW (aK (c:=[I t]) rfl (dP hs rfl rfl rfl fun a h hs=>uA hs fun h hs=>bU (dI (aS (fun g3=>bC (aS (fun g4=>?_) (fun g4=>?_))) (fun g3=>?_)))))
  ·rw[if_pos (by omega)] at hk;exact hk _ hs
  ·rw[if_neg (by omega)] at hk;exact hk _ hs
  ·rw[if_pos (by omega)] at hk;exact hk _ hs
 ·rw[if_neg n1,if_neg n2,if_neg n3,if_pos c1] at hk
  refine bW (bC (aS (fun g1=>?_) (fun g1=>?_)))
  ·rw[if_pos g1] at hk;exact hk _ hs
  rw[if_neg g1] at hk
  refine bW (aX (aS (fun g2=>?_) (fun g2=>?_)))
  ·rw[if_pos g2] at hk;exact hk _ hs
  ·rw[if_neg g2] at hk;exact hk _ hs
 ·rw[if_neg n1,if_neg n2,if_neg n3,if_neg n4] at hk;exact hk _ hs
def xQ (p:List Ins):List Value:=p.flatMap Ins.enc
theorem uj {p:List Ins} {i:Nat} (hi:i<p.length):((xQ p).drop (i*4)).take 4=(p.getD i ⟨0,0,0,0⟩).enc:=by
 have h1:=(uN (W:=4) (l:=p.map Ins.enc) (i:=i) (x:=(p.getD i ⟨0,0,0,0⟩).enc) (by simp[Ins.enc]) (by simp[List.getD_eq_getElem?_getD,List.getElem?_eq_getElem hi])).1
 rw[←h1]
 rfl
theorem tj {p:List Ins} {i:Nat} (hi:i<p.length):(xQ p)[i*4+0]?=some (I (p.getD i ⟨0,0,0,0⟩).op):=by
 have h1:=uj hi
 have h2:(((xQ p).drop (i*4)).take 4)[0]?=some (I (p.getD i ⟨0,0,0,0⟩).op):=by rw[h1];rfl
 rw[List.getElem?_take_of_lt (by omega),List.getElem?_drop] at h2
 exact h2
theorem Hf {s:aY} {v:Value} {r:Int} (h0:0≤r) (h4:r<4):(s.core++[v])[0+0+0+r.toNat*1]?=some (I (s.cX r.toNat)):=by
 have:r=0∨r=1∨r=2∨r=3:=by omega
 rcases this with rfl|rfl|rfl|rfl<;>rfl
theorem I6 {s:aY} {v:Value} {r x:Int} (h0:0≤r) (h4:r<4):dH (s.core++[v]) (0+0+0+r.toNat*1) [I x]=(s.dN r x).core++[v]:=by
 have:r=0∨r=1∨r=2∨r=3:=by omega
 rcases this with rfl|rfl|rfl|rfl<;>rfl
theorem Ai {s:aY} {v:Value} {b q:Nat} {r x:Int} {k:AH→Prop} (hs:Hs G h L) [m:Has (aE b q) L (s.core++[v]) L'] (h0:0≤r) (h4:r<4) (hk:∀h',Hs G h' (aE b q ((s.dN r x).core++[v])::L')→k h'):aZ (sQ h 1 (pt b q (0+0+0+r.toNat*1)) (I x)) k:=by
 refine bE (b:=b) (o:=q) hs rfl ?_ rfl rfl fun h hs=>hk h ?_
 ·have:r=0∨r=1∨r=2∨r=3:=by omega
  rcases this with rfl|rfl|rfl|rfl<;>rfl
 ·rw[I6 h0 h4] at hs
  exact hs
theorem F2 {s:aY} {b q c:Nat} {a:Option Addr} {at':Int} (h0:0≤at') (hs:Hs G h (aE b q (s.core++[.slice a s.prog.length c])::dB 4 86 a c (s.prog.length,xQ s.prog)::L))
  (hk:∀h',Hs G h' (aE b q ((s.nA at').core++[.slice a s.prog.length c])::dB 4 86 a c (s.prog.length,xQ s.prog)::L)→Q (.tuple ⟨[]⟩) h'):Cl Pr K 96 [pt b q 0,I at'] h Q:=by
 refine cW (aB (aA (aA (bE hs rfl rfl rfl rfl fun h hs=>aB (aA (aC (b:=b) (o:=q) hs rfl (bZ (dM (aS (fun c1=>?_) (fun c1=>?_))))))))))
 ·refine aB (aA (aA (bE (b:=b) (o:=q) hs rfl rfl rfl rfl fun h hs=>?_)))
  refine hk _ ?_
  have e:s.nA at'={s with at':=at',over:=true}:=by unfold aY.nA Cs;rw[if_pos c1]
  rw[e]
  exact hs
 ·obtain⟨n,rfl⟩:∃n:Nat,at'=n:=⟨at'.toNat,by omega⟩
  refine aB (aA (aC (b:=b) (o:=q) hs rfl (gy (W:=4) (e:=86) (cs:=xQ s.prog) hs (by omega) (tj (by omega)) (bC (aB (aA (aA (bE (b:=b) (o:=q) hs rfl rfl rfl rfl fun h hs=>?_))))))))
  refine hk _ ?_
  have e:s.nA n={s with at':=n,over:=decide ((s.prog.getD n ⟨0,0,0,0⟩).op=11)}:=by unfold aY.nA Cs;rw[if_neg c1];rfl
  rw[e]
  exact hs
end Go.Proofs.YtajjljbmfdboaaaGreatDoor.A
end
section
namespace Go.Proofs.YtajjljbmfdboaaaGreatDoor
open Go Go.Ab Go.Hm Go.At Go.Mc
theorem oO {m:Mon} {g:Nat}:g∈m.running↔g<16∧(m.runs g).isSome:=by unfold Mon.running;simp[List.mem_filter]
set_option maxRecDepth 100000
variable {G:Bg} {h:AH} {L L' M:List HP} {Q:Value→AH→Prop} {C:bQ} {m:Mon} {p:Nat}
theorem yP {t:Nat} {g:Int} (hs:Hs G h L) [mm:Has (fT t) L m.fV L'] (hk:∀h',Hs G h' (fT t m.fV::L')→Q (if m.has g then .tuple ⟨[.agg ⟨(m.zA g).enc⟩,I 0]⟩ else .tuple ⟨[.agg ⟨jK.enc⟩,I 10]⟩) h'):Cl Pr K 72 [pt t 0 0,I g] h Q:=
 dy hs hk
abbrev iy (C:bQ) (m:Mon) (p p2 p3 p4 p5:Nat) (a:Mc.Ask) (e:Nat→Value) (d l:Nat) (st:LoopState×Option Code) (b:Bool) (er:Int) (pr:Prop):HP:=
 sp [zD pr,nE Pr 190 (nB 1018) 113 e d l st,sp [aE p2 0 [pt p 0 0],aE p3 0 a.enc,aE p4 0 [.bool b],aE p5 0 [I er]],fC C p m]
theorem Uj {a:Mc.Ask} (hC:C.Ok) (hm:gD C m) (hs:Hs G h L) [mm:Has (fC C p) L m L'] (hk:∀h',Hs G h' (fC C p (m.call C.aF a).1::L')→Q (.tuple ⟨[.bool (m.call C.aF a).2.1,I (m.call C.aF a).2.2]⟩) h'):Cl Pr K 190 [pt p 0 0,.agg ⟨a.enc⟩] h Q:=by
 have hc:=hC.1
 have hgr:=hC.2.1
 have hlen:=hm.len
 have hs:=mm.of hs
 unfold Mon.call at hk
 refine cW (dJ hs fun p2 h hs=>dJ hs fun p3 h hs=>bK hs fun p4 h hs=>bK hs fun p5 h hs=>aC (b:=p2) (o:=0) hs rfl (cS (bS ?_)))
 have bad:∀{h:AH} {M:List HP} (e:Int),[Sub M (fC C p m::L')]→Hs G h (aE p4 0 [.bool false]::aE p5 0 [I 0]::M)→(∀h',Hs G h' (fC C p m::L')→Q (.tuple ⟨[.bool false,I e]⟩) h')→
   aZ (sQ h 1 (pt p4 0 0) (.bool false)) fun h5=>aZ (sQ h5 1 (pt p5 0 0) (I e)) fun h6=>aZ (cA [] h6) fun h7=>aZ (oM h7 (pt p4 0 0)) fun v8=>aZ (oM h7 (pt p5 0 0)) fun v9=>Q (.tuple ⟨[v8,v9]⟩) h7:=by
  intro h M e _ hs hq
  exact bA (b:=p4) hs rfl rfl rfl rfl fun h hs=>bA (b:=p5) hs rfl rfl rfl rfl fun h hs=>jU (aC (b:=p4) (o:=0) hs rfl (aC (b:=p5) (o:=0) hs rfl (hq _ hs.to)))
 obtain⟨t,b,hs⟩:=iV (hs.front (fC C p m))
 have shut:∀{h:AH} {M:List HP},Hs G h (aE p 0 [pt t 0 0,I C.aF,fH b]::fT t m.fV::gT b (fF m.runs)::M)→Hs G h (fC C p m::M):=fun hs=>dL hs
 refine bW (aR hs fun r1 h hs=>aA (aC (b:=p3) (o:=0) hs rfl (aU (aS (fun h1=>?_) (fun h1=>?_)))))
 ·rw[if_pos (by omega)] at hk
  have hs:=shut (hs.cU (aE p 0 [pt t 0 0,I C.aF,fH b]) (fT t m.fV) (gT b (fF m.runs)))
  exact bad (M:=fC C p m::L') 1 hs.to hk
 refine aA (aC (b:=p3) (o:=0) hs rfl (aC (b:=p2) (o:=0) hs rfl (aB (aA (aC (b:=p) (o:=0) hs rfl (dM (aS (fun h2=>?_) (fun h2=>?_))))))))
 ·rw[if_pos (by omega)] at hk
  have hs:=shut (hs.cU (aE p 0 [pt t 0 0,I C.aF,fH b]) (fT t m.fV) (gT b (fF m.runs)))
  exact bad (M:=fC C p m::L') 1 hs.to hk
 rw[if_neg (by omega)] at hk
 refine bW (aR hs fun r2 h hs=>aC (b:=p2) (o:=0) hs rfl (aB (aA (aC (b:=p) (o:=0) hs rfl (aA (aC (b:=p3) (o:=0) hs rfl (yP (m:=m) hs fun h hs=>?_)))))))
 by_cases hh:m.has a.cB
 rotate_left
 ·rw[if_neg hh]
  rw[if_pos hh] at hk
  refine aG rfl (aG rfl (jN (r:=r2) (i:=10) (n:=13) (D:=[]) hs rfl rfl fun p12 h hs=>bA (b:=p12) hs rfl rfl rfl rfl fun h hs=>cJ (aG rfl gW) (aX (bM (by omega) ?_))))
  have hs:=shut (hs.cU (aE p 0 [pt t 0 0,I C.aF,fH b]) (fT t m.fV) (gT b (fF m.runs)))
  exact bad (M:=fC C p m::L') 10 hs.to hk
 rw[if_pos hh]
 rw[if_neg (by simpa using hh)] at hk
 have how:=hm.zA hh
 have hgn:0≤a.cB∧a.cB<C.bP:=by unfold Mon.has at hh;omega
 refine aG rfl (aG rfl (jN (r:=r2) (i:=10) (n:=13) (D:=[]) hs rfl rfl fun p12 h hs=>bA (b:=p12) hs rfl rfl rfl rfl fun h hs=>cJ (aG rfl gW) (aX (aI (by omega) ?_))))
 have hs:=shut (hs.cU (aE p 0 [pt t 0 0,I C.aF,fH b]) (fT t m.fV) (gT b (fF m.runs)))
 refine bW (aC (b:=p2) (o:=0) hs rfl (aA (aC (b:=p3) (o:=0) hs rfl (Gs (C:=C) (m:=m) hs fun h hs=>aX (aS (fun h3=>?_) (fun h3=>?_))))))
 ·rw[if_pos h3] at hk
  exact bad (M:=fC C p m::L') 17 hs.to hk
 rw[if_neg h3] at hk
 refine bW (aC (b:=p2) (o:=0) hs rfl (Av (C:=C) (m:=m) hs fun q qa qc h hs=>mW hs fun d h hs=>?_))
 intro e he
 refine qP hs fun l h hs=>vZ rfl ?_
 have hs:Hs G h (H.Kh 3 q qa qc (m.running.map fun k:Nat=>(k:Int))::iy C m p p2 p3 p4 p5 a e d l (.ready,none) false 0 (∀g∈([]:List Int),m.jQ a.core g.toNat=false)::sp [mk d (),aE p12 0 (m.zA a.cB).enc]::L'):=by
  have hs:=(hs.cN (mk d ()) (aE p12 0 (m.zA a.cB).enc)).Ex
  have hs:=(hs.kV (aE p2 0 [pt p 0 0]) (aE p3 0 a.enc) (aE p4 0 [.bool false]) (aE p5 0 [I 0])).J8
  have hs:=hs.cU (nE Pr 190 (nB 1018) 113 e d l (.ready,none)) (sp [aE p2 0 [pt p 0 0],aE p3 0 a.enc,aE p4 0 [.bool false],aE p5 0 [I 0]]) (fC C p m)
  have hs:=Hs.J8 (Hs.Qt (p:=∀g∈([]:List Int),m.jQ a.core g.toNat=false) (by simp) hs)
  exact hs.to
 refine(H.C7 (e:=3) (p:=q) (a:=qa) (c:=qc) (xs:=m.running.map fun k:Nat=>(k:Int)) (by have:=List.length_filter_le (fun g=>(m.runs g).isSome) (List.range 16);simp[Mon.running] at this ⊢;omega)).fold
  (X:=fun done=>iy C m p p2 p3 p4 p5 a e d l (.ready,none) false 0 (∀g∈done,m.jQ a.core g.toNat=false)) (Z:=fun _ x=>iy C m p p2 p3 p4 p5 a e d l (.done,some .ret) false 13 (x∈(m.running.map fun k:Nat=>(k:Int))∧m.jQ a.core x.toNat=true)) hs ?_ ?_ ?_
 ·intro done x h M hp hs
  obtain⟨hd,hs⟩:=gF hs
  have hs:=hs.Bk
  obtain⟨k,hkr,rfl⟩:∃k∈m.running,(k:Int)=x:=by
   obtain⟨ys,hys⟩:=hp
   have:x∈m.running.map fun k:Nat=>(k:Int):=by rw[←hys];simp
   obtain⟨k,h1,h2⟩:=List.mem_map.1 this
   exact⟨k,h1,h2⟩
  obtain⟨r,hr⟩:=Option.isSome_iff_exists.1 (oO.1 hkr).2
  have hrr:m.run (k:Int)=some r:=by unfold Mon.run;rw[if_pos (by omega)];exact hr
  have hs:=(hs.front (sp [aE p2 0 [pt p 0 0],aE p3 0 a.enc,aE p4 0 [.bool false],aE p5 0 [I 0]])).wy
  refine rW (xD hs) he (kA hs fun h hs=>aR hs fun rr h hs=>?_)
  obtain⟨t,b,hs⟩:=iV (hs.front (fC C p m))
  refine aC (b:=p2) (o:=0) hs rfl (aB (aA (aC (b:=p) (o:=0) hs rfl (Mw (m:=m) hs ?_))))
  rw[hrr]
  refine Ga (m:=lJ r) rfl rfl (Ga (m:=wP r) rfl rfl (Xb rfl (aA (aC (b:=p3) (o:=0) hs rfl (bC (aS (fun c1=>?_) (fun c1=>?_)))))))
  ·refine bA (b:=p4) hs rfl rfl rfl rfl fun h hs=>bA (b:=p5) hs rfl rfl rfl rfl fun h hs=>jS hs fun h hs=> .inr ⟨rfl,?_⟩
   have hs:=dL (hs.cU (aE p 0 [pt t 0 0,I C.aF,fH b]) (fT t m.fV) (gT b (fF m.runs)))
   have hs:=(hs.kV (aE p2 0 [pt p 0 0]) (aE p3 0 a.enc) (aE p4 0 [.bool false]) (aE p5 0 [I 13])).J8
   have hs:=hs.cU (nE Pr 190 (nB 1018) 113 e d l (.done,some .ret)) (sp [aE p2 0 [pt p 0 0],aE p3 0 a.enc,aE p4 0 [.bool false],aE p5 0 [I 13]]) (fC C p m)
   refine(Hs.J8 (Hs.Qt (p:=((k:Int)∈(m.running.map fun k:Nat=>(k:Int))∧m.jQ a.core ((k:Int)).toNat=true)) ⟨List.mem_map.2 ⟨k,hkr,rfl⟩,?_⟩ hs)).to
   unfold Mon.jQ;rw[Int.toNat_natCast,hr];exact decide_eq_true c1
  ·refine jS hs fun h hs=> .inl ⟨rfl,?_⟩
   have hs:=dL (hs.cU (aE p 0 [pt t 0 0,I C.aF,fH b]) (fT t m.fV) (gT b (fF m.runs)))
   have hs:=(hs.kV (aE p2 0 [pt p 0 0]) (aE p3 0 a.enc) (aE p4 0 [.bool false]) (aE p5 0 [I 0])).J8
   have hs:=hs.cU (nE Pr 190 (nB 1018) 113 e d l (.ready,none)) (sp [aE p2 0 [pt p 0 0],aE p3 0 a.enc,aE p4 0 [.bool false],aE p5 0 [I 0]]) (fC C p m)
   refine(Hs.J8 (Hs.Qt (p:=∀g∈done++[((k:Nat):Int)],m.jQ a.core g.toNat=false) ?_ hs)).to
   intro g hg
   rcases List.mem_append.1 hg with hg|hg
   ·exact hd g hg
   ·rw[List.mem_singleton.1 hg,Int.toNat_natCast];unfold Mon.jQ;rw[hr];exact decide_eq_false c1
 ·intro v h hs
  obtain⟨hd,hs⟩:=gF (hs.front (iy C m p p2 p3 p4 p5 a e d l (.ready,none) false 0 (∀g∈m.running.map (fun k:Nat=>(k:Int)),m.jQ a.core g.toNat=false)))
  have hs:=hs.Bk
  have hno:m.calls a.core=false:=by
   unfold Mon.calls
   rw[List.any_eq_false]
   intro g hg
   have:=hd g (List.mem_map.2 ⟨g,hg,rfl⟩)
   rw[Int.toNat_natCast] at this
   rw[this];simp
  rw[if_neg (by rw[hno];simp)] at hk
  have hs:=(hs.front (sp [aE p2 0 [pt p 0 0],aE p3 0 a.enc,aE p4 0 [.bool false],aE p5 0 [I 0]])).wy
  have hs:=(hs.front (sp [mk d (),aE p12 0 (m.zA a.cB).enc])).D2
  refine qQ hs fun h hs=>qL ?_
  refine aA (aC (b:=p3) (o:=0) hs rfl (aA (aC (b:=p3) (o:=0) hs rfl (aA (aC (b:=p12) (o:=0) hs rfl (aA (aC (b:=p3) (o:=0) hs rfl (A.qi hs fun h hs=>?_))))))))
  dsimp only at hk
  have hjr:0≤(jG a.call a.world (m.zA a.cB).owner a.to).1∧(jG a.call a.world (m.zA a.cB).owner a.to).1≤4:=by
   unfold jG
   repeat' split
   all_goals first|omega|(simp only[];omega)
  generalize jG a.call a.world (m.zA a.cB).owner a.to=jj at hk hjr ⊢
  refine aG rfl (aG rfl (aG rfl (aX (aS (fun h5=>?_) (fun h5=>?_)))))
  ·rw[if_pos h5] at hk
   refine bA (b:=p4) hs rfl rfl rfl rfl fun h hs=>bA (b:=p5) hs rfl rfl rfl rfl fun h hs=>mH hs fun h hs=>jU (aC (b:=p4) (o:=0) hs rfl (aC (b:=p5) (o:=0) hs rfl (hk _ hs.to)))
  rw[if_neg h5] at hk
  obtain⟨t,b,hs⟩:=iV (hs.front (fC C p m))
  refine bW (aR hs fun rr h hs=>aC (b:=p2) (o:=0) hs rfl (aB (aA (aC (b:=p) (o:=0) hs rfl (aA (aC (b:=p3) (o:=0) hs rfl (aA (aC (b:=p12) (o:=0) hs rfl (aK (c:=(⟨(m.zA a.cB).owner,true⟩:jP).enc) rfl ?_)))))))))
  refine Dx (x:=⟨(m.zA a.cB).owner,true⟩) hs fun h hs=>?_
  have hcond:(0≤a.cB∧a.cB<m.fV.length)∧(0≤(m.zA a.cB).owner∧(m.zA a.cB).owner≤4):=⟨hh,how⟩
  rw[if_pos hcond] at hs
  rw[if_pos hcond]
  refine aX (aI (by omega) (bW (aN (b:=p3) (o:=0) hs (by decide) (l:=a.enc) rfl rfl (aK (c:=[I a.core,I a.world,I a.call,I a.cB,I a.to,I jj.1,.bool jj.2.1]) rfl (aK (c:=(⟨a.core,a.world,a.call,a.cB,a.to,jj.1,jj.2.1,1,fun _=>false⟩:Mc.iG).enc) rfl (bK hs fun pr h hs=>bA (b:=pr) hs rfl rfl rfl rfl fun h hs=>aC (b:=p2) (o:=0) hs rfl (aB (aA (aC (b:=p) (o:=0) hs rfl ?_)))))))))
  have loop:∀(k i:Nat) (h:AH),i+k=C.aF.toNat→Hs G h (aE pr 0 (⟨a.core,a.world,a.call,a.cB,a.to,jj.1,jj.2.1,1,fun j=>decide (j<i)⟩:Mc.iG).enc::aE p 0 [pt t 0 0,I C.aF,fH b]::fT t (m.fV.set a.cB.toNat ⟨(m.zA a.cB).owner,true⟩)::gT b (fF m.runs)::aE p2 0 [pt p 0 0]::aE p3 0 a.enc::aE p4 0 [.bool false]::aE p5 0 [I 0]::mk d ()::L')→
    Dd 190 8 [d] Q [(pt p2 0 0),(pt p3 0 0),(pt p4 0 0),(pt p5 0 0),(pt pr 0 0),(I C.aF),(I i)] h:=by
   intro k
   induction k with
   |zero=>
    intro i h hi hs
    refine bW (aU (aI (by omega) (bW (aR hs fun rr h hs=>aC (b:=p2) (o:=0) hs rfl (aB (aA (aC (b:=p) (o:=0) hs rfl (aA (aC (b:=p3) (o:=0) hs rfl (aN (b:=pr) (o:=0) hs (by decide) (l:=(⟨a.core,a.world,a.call,a.cB,a.to,jj.1,jj.2.1,1,fun j=>decide (j<i)⟩:Mc.iG).enc) rfl rfl ?_))))))))))
    obtain⟨g,hg⟩:=Int.eq_ofNat_of_zero_le hgn.1
    rw[show(a.cB)=((g:Nat):Int) from hg]
    refine O5 hs (by omega) fun h hs=>?_
    rw[←hg] at hs
    refine bA (b:=p4) hs rfl rfl rfl rfl fun h hs=>bA (b:=p5) hs rfl rfl rfl rfl fun h hs=>mH hs fun h hs=>jU (aC (b:=p4) (o:=0) hs rfl (aC (b:=p5) (o:=0) hs rfl (hk _ ?_)))
    have hw:(⟨a.core,a.world,a.call,a.cB,a.to,jj.1,jj.2.1,1,fun j=>decide (j<i)⟩:Mc.iG)=a.run C.aF jj:=by
     unfold Ask.run
     congr 1
     funext j
     exact decide_eq_decide.2 (by omega)
    have e1:=D8 (f:=m.runs) (g:=g) (x:=some (a.run C.aF jj))
    rw[Option.map_some] at e1
    have hs:=hs.cU (aE p 0 [pt t 0 0,I C.aF,fH b]) (fT t (m.fV.set a.cB.toNat ⟨(m.zA a.cB).owner,true⟩)) (gT b (Jt (fF m.runs) g (some (.agg ⟨(⟨a.core,a.world,a.call,a.cB,a.to,jj.1,jj.2.1,1,fun j=>decide (j<i)⟩:Mc.iG).enc⟩))))
    rw[hw,e1] at hs
    have hgt:g=a.cB.toNat:=by omega
    rw[hgt] at hs
    exact(dL (m:=(m.du a.cB.toNat ⟨(m.zA a.cB).owner,true⟩).dN a.cB.toNat (some (a.run C.aF jj))) hs).to
   |succ k ih=>
    intro i h hi hs
    refine bW (aU (bM (by omega) (bW (aA (dF (by omega) ?_)))))
    have hl:(⟨a.core,a.world,a.call,a.cB,a.to,jj.1,jj.2.1,1,fun j=>decide (j<i)⟩:Mc.iG).enc.length=12:=rfl
    refine bE (b:=pr) (o:=0) hs rfl (by rw[hl];exact Nat.ble_eq_true_of_le (by simp;omega)) rfl rfl fun h hs=>bI (by omega) (ih (i+1) h (by omega) ?_)
    have e:dH (⟨a.core,a.world,a.call,a.cB,a.to,jj.1,jj.2.1,1,fun j=>decide (j<i)⟩:Mc.iG).enc (0+8+i*1) [.bool true]=(⟨a.core,a.world,a.call,a.cB,a.to,jj.1,jj.2.1,1,fun j=>decide (j<i+1)⟩:Mc.iG).enc:=by
     have:i=0∨i=1∨i=2∨i=3:=by omega
     rcases this with rfl|rfl|rfl|rfl<;>rfl
    rw[e] at hs
    exact hs.to
  refine loop C.aF.toNat 0 h (by omega) ?_
  have e:(⟨a.core,a.world,a.call,a.cB,a.to,jj.1,jj.2.1,1,fun _=>false⟩:Mc.iG).enc=(⟨a.core,a.world,a.call,a.cB,a.to,jj.1,jj.2.1,1,fun j=>decide (j<0)⟩:Mc.iG).enc:=rfl
  rw[e] at hs
  exact hs.to
 ·intro done x v h hp hs
  obtain⟨hd,hs⟩:=gF (hs.front (iy C m p p2 p3 p4 p5 a e d l (.done,some .ret) false 13 (x∈(m.running.map fun k:Nat=>(k:Int))∧m.jQ a.core x.toNat=true)))
  have hs:=hs.Bk
  have hyes:m.calls a.core=true:=by
   unfold Mon.calls
   rw[List.any_eq_true]
   obtain⟨k,hk1,hk2⟩:=List.mem_map.1 hd.1
   refine⟨k,hk1,?_⟩
   have:=hd.2
   rw[←hk2,Int.toNat_natCast] at this
   exact this
  rw[if_pos hyes] at hk
  have hs:=(hs.front (sp [aE p2 0 [pt p 0 0],aE p3 0 a.enc,aE p4 0 [.bool false],aE p5 0 [I 13]])).wy
  have hs:=(hs.front (sp [mk d (),aE p12 0 (m.zA a.cB).enc])).D2
  refine I9 hs fun h hs=>np (mH hs fun h hs=>jU (aC (b:=p4) (o:=0) hs rfl (aC (b:=p5) (o:=0) hs rfl (hk _ hs.to))))
end Go.Proofs.YtajjljbmfdboaaaGreatDoor
end
section
namespace Go.Proofs.YtajjljbmfdboaaaGreatDoor.A
open Go Go.Ab Go.Hm Go.At Go.Is
set_option maxRecDepth 100000
variable {G:Bg} {h:AH} {L L':List HP} {Q:Value→AH→Prop}
def ka (mem:Nat→Ln) (done:List Nat):Nat→Ln:=done.foldl (fun m l=>bT m l (0,0)) mem
abbrev scX (G:Bg) (C:bQ) (mb p2:Nat) (mem:Nat→Ln) (e:Nat→Value) (d l:Nat) (done:List Nat):HP:=sp [nE Pr 160 (nB 122) 34 e d l (.ready,none),aE p2 0 [pt mb 0 0],eV G C.lines mb C (ka mem done)]
theorem jl {C:bQ} (hC:C.Ok) {mb g:Nat} {mem:Nat→Ln} (hl:Ob G 0 fB) (hs:Hs G h L) [m:Has (eV G C.lines mb C) L mem L'] (h0:(g:Int)<C.bP)
  (hk:∀v h',Hs G h' (eV G C.lines mb C (zL mem g)::L')→Q v h'):Cl Pr K 160 [pt mb 0 0,I g] h Q:=by
 have hb:C.bP≤16:=hC.2.1.2
 have hln:=bQ.fJ hC
 have hs:=m.of hs
 refine cW (dJ hs fun p2 h hs=>bK hs fun p4 h hs=>aC (b:=p2) (o:=0) hs rfl (cS (bS (bW (aU (aI (by omega) ?_))))))
 obtain⟨b,o,cap,hs⟩:=tW (hs.front (eV G C.lines mb C mem))
 refine aC (b:=p2) (o:=0) hs rfl (aB (aA (aA (aC (b:=mb) (o:=0) hs rfl (dM (aI (by omega) (bW ?_)))))))
 refine aC (b:=p2) (o:=0) hs rfl (aB (aA (aN (b:=mb) (o:=0) hs (by decide) (l:=C.enc) rfl rfl (A5 hs fun p q h hs=>mW hs fun d h hs=>?_))))
 have hs:=Jq C.lines mb C mem b o cap hs
 intro e he
 refine qP hs fun l h hs=>vZ rfl ?_
 have hs:Hs G h (sp [aE p 0 C.enc,aE q 0 [I g]]::scX G C mb p2 mem e d l []::sp [aE p4 0 [I 0],mk d ()]::L'):=by
  have hs:=hs.cU (nE Pr 160 (nB 122) 34 e d l (.ready,none)) (aE p2 0 [pt mb 0 0]) (eV G C.lines mb C mem)
  have hs:Hs G h (scX G C mb p2 mem e d l []::_):=hs.T4
  have hs:=(hs.cN (aE p4 0 [I 0]) (mk d ())).Ex
  exact hs.cU (sp [aE p 0 C.enc,aE q 0 [I g]]) (scX G C mb p2 mem e d l []) (sp [aE p4 0 [I 0],mk d ()])
 refine(Dm (p:=p) (q:=q) hC h0 hl).fold (X:=scX G C mb p2 mem e d l) (Z:=fun _ _=>zD False) hs ?_ ?_ ?_
 ·intro done y h M hp hs
  have hy:y<C.lines:=by
   obtain⟨ys,hys⟩:=hp
   have:y∈[g*2,g*2+1]:=by rw[←hys];simp
   simp at this
   omega
  have hs:=hs.Bk
  refine rW (xD hs) he (kA hs fun h hs=>aC (b:=p2) (o:=0) hs rfl (aK (c:=J9 (0,0)) rfl (Ci hC hl hs hy fun h hs=>aX (aI (by omega) ?_))))
  refine jS hs fun h hs=> .inl ⟨rfl,Hs.T4 ?_⟩
  have e1:ka mem (done++[y])=bT (ka mem done) y (0,0):=by unfold ka;rw[List.foldl_append];rfl
  rw[e1]
  exact hs.to
 ·intro v h hs
  have hs:=(hs.front (scX G C mb p2 mem e d l [g*2,g*2+1])).Bk
  refine qQ hs fun h hs=>qL ?_
  have hs:=(hs.front (sp [aE p4 0 [I 0],mk d ()])).D2
  refine bA (b:=p4) (o:=0) hs rfl rfl rfl rfl fun h hs=>mH hs fun h hs=>jU (aC (b:=p4) (o:=0) hs rfl (hk _ _ ?_))
  have e2:ka mem [g*2,g*2+1]=zL mem g:=rfl
  rw[e2] at hs
  exact hs.to
 ·intro done y v h hp hs
  exact(hs.front (zD False)).r7.1.elim
abbrev m8 (pm:Nat) (C:bQ) (v:Value) (a:Option Addr) (n c mb:Nat):HP:=aE pm 0 (C.enc++[v,.slice a n c,pt mb 0 0])
theorem y5 {o:List Int} {g:Nat} (h:g<o.length):(o.map I)[g]?=some (I (o.getD g 0)):=by
 simp[List.getD_eq_getElem?_getD,List.getElem?_eq_getElem h]
theorem xf {m:AM} (hC:m.cfg.Ok) (ho:(m.eA.length:Int)=m.cfg.bP) {pm mb c:Nat} {a:Option Addr} {v:Value} {w x:Int} (hl:Ob G 0 fB)
  (hs:Hs G h (m8 pm m.cfg v a m.eA.length c mb::dB 1 3 a c (m.eA.length,m.eA.map I)::L))
  (hk:∀h',Hs G h' (m8 pm m.cfg v a m.eA.length c mb::dB 1 3 a c (m.eA.length,m.eA.map I)::L)→Q (.bool (m.may w x)) h'):Cl Pr K 240 [pt pm 0 0,I w,I x] h Q:=by
 have hln:=bQ.fJ hC
 unfold AM.may at hk
 refine cW (aB (aA (aN (b:=pm) (o:=0) hs (by decide) (l:=m.cfg.enc) rfl rfl (Dq hC hl hs fun h hs=>?_))))
 by_cases c1:0≤x∧x<m.cfg.lines*2
 ·rw[if_pos c1] at hk ⊢
  refine aG rfl (aG rfl (aG rfl (aX (aI (by omega) (bW (aB (aA (aN (b:=pm) (o:=0) hs (by decide) (l:=m.cfg.enc) rfl rfl (Wg hC (by omega) hl hs fun h hs=>?_)))))))))
  refine aG rfl (aG rfl (bC (bM (by omega) (aB (aA (aC (b:=pm) (o:=0) hs rfl (ib (e:=3) (cs:=m.eA.map I) hs (y5 (by omega)) (Pa ?_))))))))
  have:=hk _ hs
  rw[show x.toNat/4=x.toNat/2/2 by omega] at this
  exact this
 ·rw[if_neg c1] at hk ⊢
  exact aG rfl (aG rfl (aG rfl (aX (bM (by omega) (hk _ hs)))))
end Go.Proofs.YtajjljbmfdboaaaGreatDoor.A
end
section
namespace Go.Proofs.YtajjljbmfdboaaaGreatDoor.A
open Go Go.Ab Go.Hm Go.At Go.Is
set_option maxRecDepth 100000
variable {G:Bg} {h:AH} {L L':List HP} {Q:Value→AH→Prop}
theorem Z1 {m:AM} {w x:Int} (h:m.may w x=true):0≤x∧x<m.cfg.lines*2:=by
 unfold AM.may at h
 split at h
 ·assumption
 ·cases h
theorem Ml {m:AM} (hC:m.cfg.Ok) (ho:(m.eA.length:Int)=m.cfg.bP) {pm mb c b q i:Nat} {a:Option Addr} {v pv:Value} {x:Ins} (hx:x.op=3∨x.op=4∨x.op=5) (ha:0≤x.a∧x.a<4) (hb:0≤x.b∧x.b<4) (hl:Ob G 0 fB)
  (hs:Hs G h (m8 pm m.cfg v a m.eA.length c mb::dB 1 3 a c (m.eA.length,m.eA.map I)::eV G m.cfg.lines mb m.cfg m.mem::aE b q ((m.aH i).core++[pv])::L))
  (hk:∀h',Hs G h' (m8 pm m.cfg v a m.eA.length c mb::dB 1 3 a c (m.eA.length,m.eA.map I)::eV G m.cfg.lines mb m.cfg (m.access i x).1.mem::aE b q (((m.access i x).1.aH i).core++[pv])::L)→Q (.tuple ⟨[I (m.access i x).2.1,I (m.access i x).2.2]⟩) h'):Cl Pr K 188 [pt pm 0 0,pt b q 0,.agg ⟨x.enc⟩] h Q:=by
 refine cW (dJ hs fun p2 h hs=>aR hs fun rv h hs=>?_)
 refine aA (aC (b:=p2) (o:=0) hs rfl (aB (aA (aA (fA hb.1 hb.2 (aC (b:=b) (o:=q) hs (Hf hb.1 hb.2) (aA (aC (b:=p2) (o:=0) hs rfl (bC ?_)))))))))
 have go:Dd 188 3 [] Q [(pt pm 0 0),(pt b q 0),(pt p2 0 0),(I ((m.aH i).cX x.b.toNat))] h:=by
  unfold AM.access at hk
  refine bW (aB (aA (aA (aC (b:=b) (o:=q) hs rfl ?_))))
  refine xf (a:=a) (c:=c) (mb:=mb) (v:=v) hC ho hl (hs.cN (m8 pm m.cfg v a m.eA.length c mb) (dB 1 3 a c (m.eA.length,m.eA.map I))) fun h hs=>bU (dI (dA (fun h1=>?_) (fun h1=>?_)))
  rotate_left
  ·rw[if_neg (by simp[h1])] at hk
   exact hk _ hs.to
  rw[if_pos h1] at hk
  have hw:=Z1 h1
  generalize hW:(m.aH i).cX x.b.toNat=W at*
  obtain⟨w,rfl⟩:∃w:Nat,W=w:=⟨W.toNat,by omega⟩
  simp only[Int.toNat_natCast] at hk
  refine bW (aB (aA (aC (b:=pm) (o:=0) hs rfl ?_)))
  refine bh hC hl hs (by omega) fun h hs=>aG rfl (aG rfl (aX (aI (by omega) (bW (aA (aC (b:=p2) (o:=0) hs rfl (aX (aS (fun c1=>?_) (fun c1=>?_)))))))))
  ·rw[if_neg c1] at hk
   refine bW (aR hs fun rv h hs=>aB (aA (aC (b:=pm) (o:=0) hs rfl (aA (aC (b:=p2) (o:=0) hs rfl (aB (aA (aA (fA ha.1 ha.2 (aC (b:=b) (o:=q) hs (Hf ha.1 ha.2) ?_))))))))))
   refine D1 hC hl hs (by omega) fun h hs=>aA (aC (b:=p2) (o:=0) hs rfl (bC (aS (fun c2=>?_) (fun c2=>?_))))
   ·rw[if_pos c2] at hk
    refine bW (aR hs fun rv h hs=>aA (aC (b:=p2) (o:=0) hs rfl (aB (aA (aA (fA ha.1 ha.2 (aC (b:=b) (o:=q) hs (Hf ha.1 ha.2) (hk _ ?_))))))))
    simp only[AM.mG]
    exact hs.to
   ·rw[if_neg c2] at hk
    refine bW (aR hs fun rv h hs=>aA (aC (b:=p2) (o:=0) hs rfl (aB (aA (aA (fA ha.1 ha.2 (Ai hs ha.1 ha.2 fun h hs=>?_)))))))
    refine hk _ ?_
    simp only[AM.mG,AM.vT,gL]
    exact hs.to
  ·rw[if_pos (by omega)] at hk
   refine bW (aA (aC (b:=p2) (o:=0) hs rfl (bC (aI (by omega) ?_))))
   refine bW (aR hs fun rv h hs=>aA (aC (b:=p2) (o:=0) hs rfl (aB (aA (aA (fA ha.1 ha.2 (Ai hs ha.1 ha.2 fun h hs=>?_)))))))
   refine hk _ ?_
   simp only[AM.vT,gL]
   exact hs.to
 rcases hx with e|e|e
 ·refine bM (by omega) (bW ?_)
  rw[decide_eq_true (by omega)]
  exact dY go
 ·refine aI (by omega) (bW (bC (bM (by omega) (bW ?_))))
  rw[decide_eq_true (by omega)]
  exact dY go
 ·exact aI (by omega) (bW (bC (aI (by omega) (bW (bC (bM (by omega) go))))))
end Go.Proofs.YtajjljbmfdboaaaGreatDoor.A
end
section
namespace Go.Proofs.YtajjljbmfdboaaaGreatDoor.A
open Go Go.Ab Go.Hm Go.At Go.Is
set_option maxRecDepth 100000
variable {G:Bg} {h:AH} {L L':List HP} {Q:Value→AH→Prop}
def vO (b o:Nat) (s:aY):HP:=sS fun x:Option Addr×Nat=>sp [aE b o (s.core++[.slice x.1 s.prog.length x.2]),dB 4 86 x.1 x.2 (s.prog.length,xQ s.prog)]
theorem Ww {b o c:Nat} {a:Option Addr} {s:aY} (hs:Hs G h (aE b o (s.core++[.slice a s.prog.length c])::dB 4 86 a c (s.prog.length,xQ s.prog)::L)):Hs G h (vO b o s::L):=
 Hs.wM (A:=fun x:Option Addr×Nat=>sp [aE b o (s.core++[.slice x.1 s.prog.length x.2]),dB 4 86 x.1 x.2 (s.prog.length,xQ s.prog)]) (a,c) (Hs.pack (A:=[_,_]) hs)
structure AtA where
 b:Nat
 o:Nat
 cap:Nat
 a:Option Addr
 c:Nat
 mb:Nat
def atL (G:Bg) (pm:Nat) (m:AM) (x:AtA):List HP:=[m8 pm m.cfg (.slice (some ⟨x.b,x.o,none⟩) m.cfg.aF.toNat x.cap) x.a m.eA.length x.c x.mb,dB 1 3 x.a x.c (m.eA.length,m.eA.map I),eV G m.cfg.lines x.mb m.cfg m.mem,
  hole G 8 213 (some ⟨x.b,x.o,none⟩) x.cap m.cfg.aF.toNat x.b x.o,dC m.cfg.aF.toNat fun i=>vO x.b (x.o+i*8) (m.aH i)]
def aDg (G:Bg) (pm:Nat) (m:AM):HP:=sS fun x:AtA=>sp (atL G pm m x)
theorem bx {pm:Nat} {m:AM} {b o cap c mb:Nat} {a:Option Addr} (hs:Hs G h (m8 pm m.cfg (.slice (some ⟨b,o,none⟩) m.cfg.aF.toNat cap) a m.eA.length c mb::dB 1 3 a c (m.eA.length,m.eA.map I)::eV G m.cfg.lines mb m.cfg m.mem::
  hole G 8 213 (some ⟨b,o,none⟩) cap m.cfg.aF.toNat b o::dC m.cfg.aF.toNat (fun i=>vO b (o+i*8) (m.aH i))::L)):Hs G h (aDg G pm m::L):=
 Hs.wM (A:=fun x:AtA=>sp (atL G pm m x)) ⟨b,o,cap,a,c,mb⟩ (Hs.pack (A:=atL G pm m ⟨b,o,cap,a,c,mb⟩) hs)
end Go.Proofs.YtajjljbmfdboaaaGreatDoor.A
end
section
namespace Go.Proofs.YtajjljbmfdboaaaGreatDoor.A
open Go Go.Ab Go.Hm Go.At Go.Is
set_option maxRecDepth 100000
variable {G:Bg} {h:AH} {L L':List HP} {Q:Value→AH→Prop}
end Go.Proofs.YtajjljbmfdboaaaGreatDoor.A
end
section
namespace Go.Proofs.YtajjljbmfdboaaaGreatDoor.A
open Go Go.Ab Go.Hm Go.At Go.Is
set_option maxRecDepth 100000
variable {G:Bg} {h:AH} {L L':List HP} {Q:Value→AH→Prop}
theorem aB9 {n c:Nat} {a:Option Addr} {cs:List Value} (hn:n≤100) (hs:Hs G h L) [m:Has (dB 2 155 a c) L (n,cs) L'] (hk:∀a' c' h',Hs G h' (dB 2 155 a' c' (n,cs)::dB 2 155 a c (n,cs)::L')→Q (.slice a' n c') h'):Cl Pr K 179 [.slice a n c] h Q:=
 cW (yL (bytes:=16) hs (by omega) hk)
theorem y2 {n c:Nat} {a:Option Addr} {cs:List Value} (hn:n≤100) (hs:Hs G h L) [m:Has (dB 3 297 a c) L (n,cs) L'] (hk:∀a' c' h',Hs G h' (dB 3 297 a' c' (n,cs)::dB 3 297 a c (n,cs)::L')→Q (.slice a' n c') h'):Cl Pr K 178 [.slice a n c] h Q:=
 cW (yL (bytes:=40) hs (by omega) hk)
theorem va {v:Value} {l:List (List Value)} {e:TypeId} (hn:l.length≤100) (hc:l.flatten.all eE=true) (hs:Hs G h (wY G 1 e v l::L)) (hk:∀a' c' h',Hs G h' (dB 1 3 a' c' (l.length,l.flatten)::wY G 1 e v l::L)→Q (.slice a' l.length c') h'):Cl Pr K 94 [v] h Q:=
 cW (Iq (bytes:=8) hs (by decide) rfl hc (by omega) hk)
theorem wq {v:Value} {l:List (List Value)} {e:TypeId} (hn:l.length≤100) (hc:l.flatten.all eE=true) (hs:Hs G h (wY G 4 e v l::L)) (hk:∀a' c' h',Hs G h' (dB 4 86 a' c' (l.length,l.flatten)::wY G 4 e v l::L)→Q (.slice a' l.length c') h'):Cl Pr K 95 [v] h Q:=
 cW (Iq (bytes:=32) hs (by decide) rfl hc (by omega) hk)
def Ee (n B:Nat) (i:Nat) (x:BkA):List Value:=[I x.r,I x.w,.slice x.a (gH n B i) x.cap]
def Zg (n B:Nat) (mem:Nat→Ln) (i:Nat) (x:BkA):HP:=dB 2 155 x.a x.cap (gH n B i,(List.range (gH n B i)).flatMap (Ka B i mem))
theorem Vk {n B p b o cap:Nat} {C:bQ} {mem:Nat→Ln} {f:Nat→BkA} (hB:B≤4) (hn:n≤32) (hk:∀h',Hs G h' (aE p 0 (C.enc++[.slice (some ⟨b,o,none⟩) B cap])::dC B (fun i=>fE n B b (o+i*3) i mem)::dC B (fun i=>Zg n B mem i (f i))::L)→Q (pt p 0 0) h'):
  ∀(r i:Nat) (h:AH) (_M:List HP),i+r=B→Hs G h (aE p 0 (C.enc++[.slice (some ⟨b,o,none⟩) B cap])::dC B (fun j=>if j<i then fE n B b (o+j*3) j mem else aE b (o+j*3) (Ee n B j (f j)))::dC B (fun i=>Zg n B mem i (f i))::L)→
  Dd 137 2 [] Q [(pt p 0 0),(I B),(I i)] h:=by
 intro r
 induction r with
 |zero=>
  intro i h M hi hs
  obtain rfl:i=B:=by omega
  refine bW (aU (aI (by omega) (hk _ ?_)))
  have hs:=hs.front (dC i fun j=>if j<i then fE n i b (o+j*3) j mem else aE b (o+j*3) (Ee n i j (f j)))
  have hs:=qB (g:=fun j=>fE n i b (o+j*3) j mem) (fun j hj=>by rw[if_pos hj]) hs
  exact hs.cU (aE p 0 (C.enc++[.slice (some ⟨b,o,none⟩) i cap])) (dC i fun j=>fE n i b (o+j*3) j mem) (dC i fun j=>Zg n i mem j (f j))
 |succ r ih=>
  intro i h M hi hs
  have hib:i<B:=by omega
  have hcl:=Yb (n:=n) (B:=B) (i:=i) (by omega)
  refine bW (aU (bM (by omega) (bW (aR hs fun rv h hs=>?_))))
  have hs:=(hs.front (dC B fun j=>if j<i then fE n B b (o+j*3) j mem else aE b (o+j*3) (Ee n B j (f j)))).kR i hib
  simp only[Nat.lt_irrefl,if_false] at hs
  have hs:=(hs.front (dC B fun j=>Zg n B mem j (f j))).kR i hib
  refine aB (aA (aC (b:=p) (o:=0) hs rfl (aB (aA (aC (b:=p) (o:=0) hs rfl (dU hib (aA (aC (b:=b) (o:=o+i*3) hs rfl ?_))))))))
  have hs:Hs G h (dB 2 155 (f i).a (f i).cap (gH n B i,(List.range (gH n B i)).flatMap (Ka B i mem))::_):=hs
  refine aB9 (by omega) hs fun a' c' h hs=>?_
  refine dU hib (aA (bE (b:=b) (o:=o+i*3) hs rfl rfl rfl rfl fun h2 hs2=>?_))
  refine cJ cZ (cJ (aB cZ) (cJ (aA cZ) (cJ (aC (b:=p) (o:=0) hs rfl Tj) (cJ gW (bI (by omega) ?_)))))
  refine ih (i+1) h2 [] (by omega) ?_
  have hs2:=hs2.sg (b:=b) (o:=o+i*3) (c:=[I (f i).r,I (f i).w,.slice a' (gH n B i) c']) rfl
  have hs3:=nU (b:=b) (o:=o+i*3) (hs2.cN (aE b (o+i*3) [I (f i).r,I (f i).w,.slice a' (gH n B i) c']) (dB 2 155 a' c' (gH n B i,(List.range (gH n B i)).flatMap (Ka B i mem))))
  have e0:fE n B b (o+i*3) i mem=(fun j=>if j<i+1 then fE n B b (o+j*3) j mem else aE b (o+j*3) (Ee n B j (f j))) i:=by simp only[Nat.lt_succ_self,if_true]
  rw[e0] at hs3
  have hs3:=hs3.nG (n:=B) (i:=i) (fun j=>if j<i then fE n B b (o+j*3) j mem else aE b (o+j*3) (Ee n B j (f j))) (fun j=>if j<i+1 then fE n B b (o+j*3) j mem else aE b (o+j*3) (Ee n B j (f j))) hib (fun j _ hne=>by
   have:(j<i+1)=(j<i):=propext ⟨fun h=>by omega,fun h=>by omega⟩
   simp only[this])
  have e1:(dB 2 155 (f i).a (f i).cap (gH n B i,(List.range (gH n B i)).flatMap (Ka B i mem)))=(fun j=>Zg n B mem j (f j)) i:=rfl
  rw[e1] at hs3
  have hs3:=hs3.nG (n:=B) (i:=i) (fun j=>Zg n B mem j (f j)) (fun j=>Zg n B mem j (f j)) hib (fun _ _ _=>rfl)
  exact hs3.to
theorem Ud {C:bQ} (hC:C.Ok) {mb:Nat} {mem:Nat→Ln} (hs:Hs G h L) [m:Has (eV G C.lines mb C) L mem L'] (hk:∀mb2 h',Hs G h' (eV G C.lines mb2 C mem::eV G C.lines mb C mem::L')→Q (pt mb2 0 0) h'):Cl Pr K 137 [pt mb 0 0] h Q:=by
 have hb:=bQ.bk hC
 have hln:=bQ.fJ hC
 obtain⟨b,o,cap,hs⟩:=tW (m.of hs)
 refine cW (cS (bS (bW (aR hs fun rv h hs=>?_))))
 have hs0:Hs G h (dC C.aJ.toNat (fun i=>sS fun x=>sp [aE b (o+i*3) (Ee C.lines C.aJ.toNat i x),Zg C.lines C.aJ.toNat mem i x])::hole G 3 297 (some ⟨b,o,none⟩) cap C.aJ.toNat b o::_):=hs.cN (dC C.aJ.toNat fun i=>fE C.lines C.aJ.toNat b (o+i*3) i mem) (hole G 3 297 (some ⟨b,o,none⟩) cap C.aJ.toNat b o)
 obtain⟨f,hs⟩:=Hs.X3 (W:=3) (c:=Ee C.lines C.aJ.toNat) (d:=Zg C.lines C.aJ.toNat mem) (⟨0,0,none,0⟩:BkA) (fun _ _=>rfl) (fun _ _=>rfl) (by decide) hb.2.1 hs0
 clear hs0
 refine aB (aA (aN (b:=mb) (o:=0) hs (by decide) (l:=C.enc) rfl rfl (aB (aA (aC (b:=mb) (o:=0) hs rfl ?_)))))
 refine y2 (by omega) hs fun a' c' h hs=>?_
 obtain⟨b2,o2,rfl,hs⟩:=Hs.Vt (W:=3) (c:=fun i=>Ee C.lines C.aJ.toNat i (f i)) (fun _=>rfl) hb.2.1 hs
 refine aK (c:=C.enc++[.slice (some ⟨b2,o2,none⟩) C.aJ.toNat c']) rfl (xP hs rfl rfl fun p h hs=>?_)
 refine cJ cZ (cJ (aB cZ) (cJ (aA cZ) (cJ (aN (b:=mb) (o:=0) hs (by decide) (l:=C.enc) rfl rfl (oJ (by simp[bQ.enc,gW]))) ?_)))
 refine aB (aA (aC (b:=p) (o:=0) hs rfl (bZ ?_)))
 have hs:=hs.cU (aE p 0 (C.enc++[.slice (some ⟨b2,o2,none⟩) C.aJ.toNat c'])) (dC C.aJ.toNat fun i=>aE b2 (o2+i*3) (Ee C.lines C.aJ.toNat i (f i))) (dC C.aJ.toNat fun i=>Zg C.lines C.aJ.toNat mem i (f i))
 have hs:=(hs.kI).cU (aE p 0 (C.enc++[.slice (some ⟨b2,o2,none⟩) C.aJ.toNat c'])) (dC C.aJ.toNat fun i=>aE b2 (o2+i*3) (Ee C.lines C.aJ.toNat i (f i))) (dC C.aJ.toNat fun i=>Zg C.lines C.aJ.toNat mem i (f i))
 refine Vk (n:=C.lines) (B:=C.aJ.toNat) (b:=b2) (o:=o2) (cap:=c') (C:=C) (mem:=mem) (f:=f) hb.2.2 hln.2.2 ?_ C.aJ.toNat 0 h [] (by omega) (by simpa using hs)
 intro h hs
 refine hk p _ ?_
 have hs:=qE (b:=b2) (o:=o2) (cap:=c') (hs.cU (aE p 0 (C.enc++[.slice (some ⟨b2,o2,none⟩) C.aJ.toNat c'])) (hole G 3 297 (some ⟨b2,o2,none⟩) c' C.aJ.toNat b2 o2) (dC C.aJ.toNat fun i=>fE C.lines C.aJ.toNat b2 (o2+i*3) i mem))
 have hs:=hs.cN (dB 3 297 (some ⟨b,o,none⟩) cap (C.aJ.toNat,(List.range C.aJ.toNat).flatMap fun i=>Ee C.lines C.aJ.toNat i (f i))) (dC C.aJ.toNat fun i=>Zg C.lines C.aJ.toNat mem i (f i))
 have hs:Hs G h (dC C.aJ.toNat (fun i=>fE C.lines C.aJ.toNat b (o+i*3) i mem)::hole G 3 297 (some ⟨b,o,none⟩) cap C.aJ.toNat b o::_):=Hs.mj (W:=3) (c:=Ee C.lines C.aJ.toNat) (d:=Zg C.lines C.aJ.toNat mem) f (fun _ _=>rfl) hb.2.1 hs
 have hs:=qE (b:=b) (o:=o) (cap:=cap) (hs.cU (aE mb 0 (C.enc++[.slice (some ⟨b,o,none⟩) C.aJ.toNat cap])) (hole G 3 297 (some ⟨b,o,none⟩) cap C.aJ.toNat b o) (dC C.aJ.toNat fun i=>fE C.lines C.aJ.toNat b (o+i*3) i mem))
 exact hs.to
end Go.Proofs.YtajjljbmfdboaaaGreatDoor.A
end
section
namespace Go.Proofs.YtajjljbmfdboaaaGreatDoor.A
open Go Go.Ab Go.Hm Go.At Go.Is
set_option maxRecDepth 100000
variable {G:Bg} {h:AH} {L L':List HP} {Q:Value→AH→Prop}
end Go.Proofs.YtajjljbmfdboaaaGreatDoor.A
end
section
namespace Go.Proofs.YtajjljbmfdboaaaGreatDoor.A
open Go Go.Ab Go.Hm Go.At Go.Is
set_option maxRecDepth 100000
variable {G:Bg} {h:AH} {L L':List HP} {Q:Value→AH→Prop}
def Af (l:List Int):List (List Value):=l.map fun x=>[I x]
theorem qS (l:List Int):(Af l).length=l.length:=by simp[Af]
theorem Lr (l:List Int):(Af l).flatten=l.map I:=by
 unfold Af
 induction l with
 |nil=>rfl
 |cons x l ih=>rw[List.map_cons,List.flatten_cons,ih];rfl
theorem Vh (l:List Int):(l.map I).all eE=true:=by
 induction l with
 |nil=>rfl
 |cons x l ih=>rw[List.map_cons,List.all_cons,ih];rfl
def Qi (p:List Ins):List (List Value):=p.map Ins.enc
theorem G7 (p:List Ins):(Qi p).length=p.length:=by simp[Qi]
theorem La (p:List Ins):(Qi p).flatten=xQ p:=by
 unfold Qi xQ
 rw[List.flatMap_def]
theorem W1 (p:List Ins):(xQ p).all eE=true:=by
 unfold xQ
 induction p with
 |nil=>rfl
 |cons x l ih=>rw[List.flatMap_cons,List.all_append,ih];rfl
def F0 (G:Bg) (v:Value) (l:List Int):Prop:=rL G 1 v (Af l).length (fun i=>(Af l).getD i [])
def S9 (G:Bg) (v:Value) (p:List Ins):Prop:=rL G 4 v (Qi p).length (fun i=>(Qi p).getD i [])
structure Vu (G:Bg) (pv wv ov vv:Value) (ps:List (List Ins)) (ws os vs:List Int):Prop where
 ps:∃vi:List Value,vi.length=ps.length∧rL G 1 pv (vi.map fun x=>[x]).length (fun i=>(vi.map fun x=>[x]).getD i [])∧∀(i:Nat) (v:Value) (p:List Ins),vi[i]?=some v→ps[i]?=some p→S9 G v p
 ws:F0 G wv ws
 os:F0 G ov os
 vs:F0 G vv vs
theorem oF {v:Value} {l:List Int} (ho:F0 G v l) (hs:Hs G h L):Hs G h (wY G 1 3 v (Af l)::L):=xO (by simp[Af]) ho hs
theorem F4 {v:Value} {p:List Ins} (ho:S9 G v p) (hs:Hs G h L):Hs G h (wY G 4 86 v (Qi p)::L):=xO (by simp[Qi,Ins.enc]) ho hs
theorem rY {W n:Nat} {v:Value} {at':Nat→List Value} {k:Value→Prop} (ho:rL G W v n at') (hk:k (I n)):aZ (kH v) k:=by
 obtain⟨a,c,rfl,_⟩:=ho
 exact bZ hk
theorem Wx {_C:bQ} {pv:Value} {t2 t3 t4 t5:Value} {vi:List Value} {ps:List (List Ins)} (hv:vi.length=ps.length) (ho:rL G 1 pv (vi.map fun x=>[x]).length (fun i=>(vi.map fun x=>[x]).getD i []))
  (hi:∀(i:Nat) (v:Value) (p:List Ins),vi[i]?=some v→ps[i]?=some p→S9 G v p) (hg:Ob G 1 sF) (hn:ps.length≤1000)
  (k1:qN ps≠0→∀h',Hs G h' L→Q (.tuple ⟨[.pointer none,I (qN ps)]⟩) h') (k2:qN ps=0→∀h',Hs G h' L→Dd 32 5 [] Q [pv,t2,t3,t4,t5] h'):
  ∀(f i:Nat) (h:AH),i+f=ps.length→qN ps=qN (ps.drop i)→Hs G h L→Dd 32 3 [] Q [pv,t2,t3,t4,t5,pv,(I ps.length),(I i)] h:=by
 intro f
 induction f with
 |zero=>
  intro i h hl he hs
  rw[List.drop_of_length_le (by omega)] at he
  exact bW (aU (aI (by omega) (k2 he _ hs)))
 |succ f ih=>
  intro i h hl he hs
  obtain⟨p,hp,hd⟩:=lU (l:=ps) (i:=i) (by omega)
  obtain⟨v,hvi,_⟩:=lU (l:=vi) (i:=i) (by omega)
  rw[hd,qN] at he
  have hs:=xO (e:=3) (by simp) ho hs
  refine bW (aU (bM (by omega) (bW (tV hs (x:=[v]) (by simp[hvi]) rfl (Cp (p:=p) hg (F4 (hi i v p hvi hp) hs.tail) fun h hs=>aG rfl (aG rfl (aX (aS (fun c=>?_) (fun c=>?_)))))))))
  ·rw[if_pos c] at he
   rw[←he]
   exact k1 (by rw[he];exact c) _ hs.tail
  ·rw[if_neg c] at he
   exact bW (bI (by omega) (ih (i+1) h (by omega) he hs.tail))
theorem U5 {C:bQ} (hC:C.Ok) {t1 t2 t3 t5 vv:Value} {mb:Nat} {vs:List Int} (ho:F0 G vv vs) (hl:Ob G 0 fB) (hn:vs.length=C.lines*2)
  (k:∀h',Hs G h' (eV G C.lines mb C (words mY vs 0)::L)→Dd 32 11 [] Q [t1,t2,t3,t5,(pt mb 0 0)] h'):
  ∀(f i:Nat) (mem:Nat→Ln) (h:AH),i+f=vs.length→words mY vs 0=words mem (vs.drop i) i→Hs G h (eV G C.lines mb C mem::L)→Dd 32 9 [] Q [t1,t2,t3,t5,(pt mb 0 0),vv,(I vs.length),(I i)] h:=by
 have hln:=bQ.fJ hC
 intro f
 induction f with
 |zero=>
  intro i mem h hi he hs
  rw[List.drop_of_length_le (by omega),words] at he
  rw[he] at k
  exact bW (aU (aI (by omega) (k _ hs)))
 |succ f ih=>
  intro i mem h hi he hs
  obtain⟨x,hx,hd⟩:=lU (l:=vs) (i:=i) (by omega)
  rw[hd,words] at he
  have hs:=oF ho hs
  refine bW (aU (bM (by omega) (bW (tV hs (x:=[I x]) (by simp[Af,hx]) rfl (D1 hC hl hs.tail (by omega) fun h hs=>aX (aI (by omega) (bW (bI (by omega) (ih (i+1) _ h (by omega) he hs)))))))))
end Go.Proofs.YtajjljbmfdboaaaGreatDoor.A
end
section
namespace Go.Proofs.YtajjljbmfdboaaaGreatDoor.H
open Go Go.Ab Go.Hm
set_option maxRecDepth 100000
variable {G:Bg} {h:AH} {L L':List HP}
section
variable {hb p mb b o cap l:Nat} {C:bQ} {H:jO} {n:aQ} {r:Row} {m:Ln} {Q:Value→AH→Prop}
theorem iv (hC:C.Ok) (hlim:Ob G 0 fB) (hl:l<C.lines) (hnl:n.line=l) (hc:0≤r.served.core∧r.served.core<4) (hs:Hs G h (oU G hb p mb b o cap l C H n r m++L))
  (hk:∀v h',Hs G h' (eK v ((r.pI n).rest l m).2::fN G hb C (bT H l (((r.pI n).rest l m).1,m))::L)→Q v h'):Dd 253 8 [] Q [(pt hb 0 0),(pt p 0 0),(pt b (o+l*25) 0)] h:=by
 simp only[oU,List.cons_append,List.nil_append] at hs
 obtain⟨wa,wc,hs⟩:=dS hs
 refine bW (aR hs ?_)
 intro rv h hs
 refine aA (aN hs (by decide) (l:=[I n.d0,I n.d1]) rfl rfl (aB (aA (bE hs rfl rfl rfl rfl ?_))))
 intro h hs
 have hs1:=hs
 refine aB (aA (bE hs rfl rfl rfl rfl ?_))
 intro h hs
 refine cJ cZ (cJ (aA cZ) (cJ (aN hs1 (by decide) (l:=[I n.d0,I n.d1]) rfl rfl (oJ (by simp[mB]))) ?_))
 have hs:=dZ b (o+l*25) (r.pI n) wa wc hs rfl rfl rfl
 have hs:Hs G h (oU G hb p mb b o cap l C H n (r.pI n) m++L):=by
  simp only[oU,List.cons_append,List.nil_append]
  exact hs.to
 have hs00:=hs
 simp only[oU,List.cons_append,List.nil_append] at hs
 have hs0:=hs
 obtain⟨wa,wc,hs⟩:=dS hs
 refine(aB (aA (aN hs (by decide) (l:=[.bool (r.asked 0),.bool (r.asked 1),.bool (r.asked 2),.bool (r.asked 3)]) rfl rfl (aK (c:=[.bool false,.bool false,.bool false,.bool false]) rfl (kz (dA (fun hq=>?_) (fun hq=>?_)))))))
 ·have hq:(r.pI n).quiet=false:=by unfold Row.quiet;rw[show(r.pI n).asked=r.asked from rfl,hq];rfl
  simp only[Row.rest,hq,Bool.false_eq_true,if_false] at hk
  exact hk _ _ (nN (eI hb C H l (r.pI n) m _ mb b o cap hl rfl hs0)).to
 ·exact Vm (r:=r.pI n) hC hlim hl hnl hc (by unfold Row.quiet;rw[show(r.pI n).asked=r.asked from rfl,hq];rfl) hs00 hk
end
theorem ml {C:bQ} (hC:C.Ok) {hb l:Nat} {H:jO} {n:aQ} {Q:Value→AH→Prop} (hlim:Ob G 0 fB) (hs:Hs G h L) [m:Has (fN G hb C) L H L'] (hl:l<C.lines) (hnl:n.line=l) (hnc:0≤n.core∧n.core<4) (hc:0≤(H l).1.served.core∧(H l).1.served.core<4)
  (hk:∀v h',Hs G h' (eK v (rD.Kx (H l) l n).2::fN G hb C (bT H l (rD.Kx (H l) l n).1)::L')→Q v h'):
  Cl Pr K 253 [pt hb 0 0,.agg ⟨n.enc⟩] h Q:=by
 have hs:=m.of hs
 simp only[rD.Kx] at hk
 refine cW (dJ hs ?_)
 intro p h hs
 refine aR hs ?_
 intro rv h hs
 obtain⟨mb,b,o,cap,hs⟩:=Db hl (hs.front (fN G hb C H))
 obtain⟨wa,wc,hs⟩:=dS hs
 refine aB (aA (aC hs rfl (aA (aC hs rfl ?_))))
 rw[hnl]
 refine dU hl (aR hs ?_)
 intro rv2 h hs
 refine aA (aC hs rfl (aB (aA (fA hnc.1 hnc.2 (y1 (H l).1 hs rfl hnc ?_)))))
 intro h hs
 have hs0:=dZ b (o+l*25) ((H l).1.kX n) wa wc hs rfl rfl rfl
 refine aB (aA (aA (aC hs rfl (aX (aS (fun h1=>bW ?_) (fun h1=>bW ?_))))))
 ·
  simp only[Row.heard,if_pos h1] at hk
  unfold Row.N9 at hk
  refine aA (aC hs0 rfl (Cn hs0 hnc fun h hs=>?_))
  refine aA (aC hs rfl (dA (fun h2=>bW ?_) (fun h2=>?_)))
  ·rw[if_pos ⟨h1,h2⟩] at hk
   refine aR hs ?_
   intro rv3 h hs
   refine aB (aA (aC hs rfl (aA (aC hs rfl ?_))))
   rw[hnl]
   refine aA (aN hs (by decide) (l:=J9 (n.d0,n.d1)) rfl rfl (Ci hC hlim hs hl fun h hs=>?_))
   generalize hr:((H l).1.kX n).leave n.core=r2 at hs hk
   have hc2:0≤r2.served.core∧r2.served.core<4:=by rw[←hr];exact hc
   have hs:Hs G h (oU G hb p mb b o cap l C H n r2 (n.d0,n.d1)++L'):=by
    simp only[oU,List.cons_append,List.nil_append]
    exact hs.to
   have hs00:=hs
   simp only[oU,List.cons_append,List.nil_append] at hs
   have hs0:=hs
   obtain⟨wa,wc,hs⟩:=dS hs
   refine(aB (aA (aN hs (by decide) (l:=[.bool (r2.asked 0),.bool (r2.asked 1),.bool (r2.asked 2),.bool (r2.asked 3)]) rfl rfl (aK (c:=[.bool false,.bool false,.bool false,.bool false]) rfl (kz (dA (fun hq=>?_) (fun hq=>?_)))))))
   ·have hq:r2.quiet=false:=by unfold Row.quiet;rw[hq];rfl
    simp only[Row.rest,hq,Bool.false_eq_true,if_false] at hk
    exact hk _ _ (nN (eI hb C H l r2 (n.d0,n.d1) _ mb b o cap hl rfl hs0)).to
   ·exact Vm hC hlim hl hnl hc2 (by unfold Row.quiet;rw[hq];rfl) hs00 hk
  ·rw[if_neg (by rw[h2];simp)] at hk
   generalize hr:((H l).1.kX n).leave n.core=r2 at hs hk
   have hc2:0≤r2.served.core∧r2.served.core<4:=by rw[←hr];exact hc
   refine V2 hC hlim hl hnl hc2 (m:=(H l).2) (H:=H) (mb:=mb) (b:=b) (o:=o) (cap:=cap) (L:=L') ?_ hk
   simp only[oU,List.cons_append,List.nil_append,eO]
   exact hs.to
 ·have hm:(H l).1.N9 (H l).2 n=(H l).2:=by unfold Row.N9;rw[if_neg (fun e=>h1 e.1)]
  simp only[Row.heard,if_neg h1,hm] at hk
  refine aA (aC hs rfl (aX (aS (fun h2=>bW ?_) (fun h2=>bW ?_))))
  ·simp only[if_pos h2] at hk
   refine aB (aA (bE hs rfl rfl rfl rfl ?_))
   intro h hs
   refine aR hs ?_
   intro rv3 h hs
   refine aA (aC hs rfl (aA (aC hs rfl (pb ?_))))
   have hs1:=hs
   refine aB (aA (fA hnc.1 hnc.2 (We {(H l).1.kX n with owner:= -1} hs rfl hnc ?_)))
   intro h hs
   refine cJ cZ (cJ (aA cZ) (cJ (aC hs1 rfl gW) (cJ (aB cZ) (cJ (aA cZ) ?_))))
   have hs0:=dZ b (o+l*25) (((H l).1.kX n).D4 n) wa wc hs rfl rfl rfl
   refine aA (aC hs rfl (dA (fun h3=>?_) (fun h3=>?_)))
   ·simp only[h3,if_true] at hk
    refine iv (r:=((H l).1.kX n).D4 n) hC hlim hl hnl hc (m:=(H l).2) (H:=H) (mb:=mb) (b:=b) (o:=o) (cap:=cap) (L:=L') ?_ hk
    simp only[oU,List.cons_append,List.nil_append,eO]
    exact hs0.to
   ·simp only[h3,Bool.false_eq_true,if_false] at hk
    refine V2 (r:=((H l).1.kX n).D4 n) hC hlim hl hnl hc (m:=(H l).2) (H:=H) (mb:=mb) (b:=b) (o:=o) (cap:=cap) (L:=L') ?_ hk
    simp only[oU,List.cons_append,List.nil_append,eO]
    exact hs0.to
  ·simp only[if_neg h2] at hk
   refine aA (aC hs rfl (dA (fun h3=>?_) (fun h3=>?_)))
   ·simp only[h3,if_true] at hk
    refine iv (r:=(H l).1.kX n) hC hlim hl hnl hc (m:=(H l).2) (H:=H) (mb:=mb) (b:=b) (o:=o) (cap:=cap) (L:=L') ?_ hk
    simp only[oU,List.cons_append,List.nil_append,eO]
    exact hs0.to
   ·simp only[h3,Bool.false_eq_true,if_false] at hk
    refine V2 (r:=(H l).1.kX n) hC hlim hl hnl hc (m:=(H l).2) (H:=H) (mb:=mb) (b:=b) (o:=o) (cap:=cap) (L:=L') ?_ hk
    simp only[oU,List.cons_append,List.nil_append,eO]
    exact hs0.to
end Go.Proofs.YtajjljbmfdboaaaGreatDoor.H
end
section
namespace Go.Proofs.YtajjljbmfdboaaaGreatDoor.H
open Go Go.Ab Go.Hm
set_option maxRecDepth 100000
variable {G:Bg} {h:AH} {L L':List HP}
theorem Ly {b o:Nat} {line state x:Int} {r:Row} {Q:Value→AH→Prop} (hs:Hs G h L) [m:Has (eH b o) L r L'] (hk:∀v h',Hs G h' (eK v (gG line state (r.iP x))::eH b o (r.gB (r.iP x))::L')→Q v h'):
  Cl Pr K 223 [pt b o 0,I x] h fun v h'=>Cl Pr K 222 [pt b o 0,I line,I state,v] h' Q:=by
 refine Ug (m.of hs) fun p q h hs=>?_
 have hs:=Ix (hs.front (eH b o r))
 refine C8 (G:=G) (r:=r) (A:=B5 b o p q x r) (L:=L') df Ui rO (by kernel_rfl) ?_ fun v h hs=>hk v h ?_
 ·simp only[B5]
  exact hs.to
 ·have hs:=hs.kI.unpack
  have hs:Hs G h (ag b o r::Hw b o (r.gB (r.iP x))::eK v (gG line state (r.iP x))::L'):=hs.to
  exact(K4 (r:=r.gB (r.iP x)) hs).kI
theorem Zv {b o:Nat} {line state:Int} {e:TypeId} {a:Option Addr} {c:Nat} {r:Row} {x:Int} {cs:List Value} {Q:Value→AH→Prop} (hx:0≤x∧x<4) (hs:Hs G h L) [m:Has (dB 1 e a c) L (1,cs) L'] (hcs:cs=[I x]) {M:List HP} [m2:Has (eH b o) L' r M] (hk:∀v h',Hs G h' (eK v (gG line state [x.toNat])::eH b o (r.gB [x.toNat])::M)→Q v h'):
  Cl Pr K 118 [.slice a 1 c] h fun v h'=>Cl Pr K 222 [pt b o 0,I line,I state,v] h' Q:=by
 subst hcs
 have hs:Hs G h (dB 1 e a c (1,[x].map I)::eH b o r::M):=hs.perm (m.perm.trans (m2.perm.cons _))
 refine My (e:=e) (xs:=[x]) rfl hs fun p h hs=>?_
 have hs:=Ix (hs.front (eH b o r))
 have hy:qy Pr K G 166 [] [pt p 0 0] (Kh e p a c [x]) ([x.toNat].map fun(c:Nat)=>[I c]):=by
  have:=C7 (G:=G) (e:=e) (p:=p) (a:=a) (c:=c) (xs:=[x]) (by simp)
  simp only[List.map_cons,List.map_nil,Int.toNat_of_nonneg hx.1] at this ⊢
  exact this
 refine C8 (G:=G) (r:=r) (A:=Kh e p a c [x]) (L:=ag b o r::M) hy (fun c hc=>by simp at hc;omega) (by simp) (by kernel_rfl) ?_ fun v h hs=>hk v h ?_
 ·exact hs.to
 ·have hs:Hs G h (ag b o r::Hw b o (r.gB [x.toNat])::eK v (gG line state [x.toNat])::M):=hs.to
  exact(K4 (r:=r.gB [x.toNat]) hs).kI
end Go.Proofs.YtajjljbmfdboaaaGreatDoor.H
end
end
