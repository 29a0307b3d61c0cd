/- A part of the proof. -/
import Derived.Test.YtajjljbmfdboaaaGreatDoorR11
import Derived.Test.YtajjljbmfdboaaaGreatDoorR9
section
open Go Go.Ab
attribute [local irreducible] bG Br pK sD tZ Cq mN wW lR Rs gX mT rA rG pJ kU zA vE V9 V4 Ro Ps Vv Qm Jp Nb Vm lB oL tX jK copyV iQ xK V7 V8 Hn lG Nc Sp V2 oA rY yU Ao Cl yO Vx tE sC kJ hT setLoop cT
namespace Go.Proofs.YtajjljbmfdboaaaGreatDoor
open Go Go.Ab Go.Hm Go.At Go.Mc
section
set_option maxRecDepth 100000
variable {G:Bg} {h:AH} {L L':List HP} {Q:Value->AH->Prop}
theorem r8 {n g a w:Int} (v:(1<=n/\n<=16)/\(0<=g/\g<n)) (y:0<=w/\w<=1000000) (j:Hs G h L)
  (f:∀u,Hs G u L->Q (.tuple ⟨[I (iP n g a w).1,.agg ⟨(iP n g a w).2.1.enc⟩,.bool (iP n g a w).2.2.1,I (iP n g a w).2.2.2]⟩) u):Cl Pr K 258 [I n,I g,I a,I w] h Q:=by
 unfold iP at f
 rw[aaa] at f
 refine cW (bQ j fun p h j=>bA (aab (mC (aab (bA (aab (dW (aab (bW (E3 (by omega) (by omega) (by omega) (Ka (by omega) (by omega) (bH (aX (fun q=>?_) (fun q=>?_))))))))))))))
 rotate_left
 .refine bW (bH (aX (fun i=>?_) (fun i=>?_)))
  .refine bW (Fm (aX (fun k=>?_) (fun k=>?_)))
   .rw[aJ6 q,aJ7 i,aJ7 (show Al w=true from decide_eq_true k)] at f;exact aQ (c:=(⟨w,false⟩:hZ).enc) rfl (pA (z:=[I 0,.bool false]) j rfl f)
   .refine bW (dW (aX (fun s=>?_) (fun s=>?_)))
    .refine rL (by omega) (Fm (aX (fun t=>?_) (fun t=>?_)))
     .rw[aJ6 q,aJ7 i,aJ6 (show ¬Al w=true from fun e=>k (of_decide_eq_true e)),aJ7 ⟨s,decide_eq_true t⟩] at f;exact rL (by omega) (aQ (c:=(⟨w - 8,true⟩:hZ).enc) rfl (pA (z:=[I 0,.bool false]) j rfl f))
     .rw[aJ6 q,aJ7 i,aJ6 (show ¬Al w=true from fun e=>k (of_decide_eq_true e)),aJ6 (fun e=>t (of_decide_eq_true e.2))] at f;exact aQ (c:=iI.enc) rfl (pA (z:=[I 0,.bool false]) j rfl f)
    .rw[aJ6 q,aJ7 i,aJ6 (show ¬Al w=true from fun e=>k (of_decide_eq_true e)),aJ6 (fun e=>s e.1)] at f;exact aQ (c:=iI.enc) rfl (pA (z:=[I 0,.bool false]) j rfl f)
  .rw[aJ6 q,aJ6 i] at f;exact aQ (c:=iI.enc) rfl (pA (z:=[I 0,.bool false]) j rfl f)
 .rw[aJ7 q] at f;refine bW (Ds (by omega) (Ka (by omega) (by omega) ?_));refine Ds (by unfold iR;omega) (bN (by unfold iR;omega) (bH (aX (fun i=>?_) (fun i=>?_))));rotate_left;refine bW (Me (by omega) (by omega) (bH (aX (fun k=>?_) (fun k=>?_))));refine E3 (by omega) (by omega) (by omega) (Fm (aX (fun s=>?_) (fun s=>?_)));rotate_left 3
  .rw[aJ7 i] at f;exact aQ (c:=iI.enc) rfl (pA (z:=[I 0,.bool false]) j rfl f)
  .rw[aJ6 i,aJ7 ⟨k,decide_eq_true s⟩] at f;exact E3 (by omega) (by omega) (by omega) (aQ (c:=(⟨w/4,false⟩:hZ).enc) rfl (pA (z:=[I 0,.bool false]) j rfl f))
  .rw[aJ6 i,aJ6 (fun e=>s (of_decide_eq_true e.2))] at f;exact aQ (c:=iI.enc) rfl (pA (z:=[I 0,.bool false]) j rfl f)
  .rw[aJ6 i,aJ6 (fun e=>k e.1)] at f;exact aQ (c:=iI.enc) rfl (pA (z:=[I 0,.bool false]) j rfl f)
end
end Go.Proofs.YtajjljbmfdboaaaGreatDoor
end
namespace Go.Ct
open Go Go.Ab
section
def m9 (s:Array UInt8) (a b c d:Bool) (x y z:Int):List Value:=[.string ⟨s⟩,.bool a,.bool b,.bool c,.bool d,I x,I y,I z]
def jD:List Value:=m9 #[73] false false false false 0 0 0++m9 #[83] true false false false 0 1 0++m9 #[69] true true false true 4 1 0++m9 #[79] true false true true 0 3 0++m9 #[77] true true true true 4 3 0
end
end Go.Ct
section
open Go Go.Ab
attribute [local irreducible] bG Br pK sD tZ Cq mN wW lR Rs gX mT rA rG pJ kU zA vE V9 V4 Ro Ps Vv Qm Jp Nb Vm lB oL tX jK copyV iQ xK V7 V8 Hn lG Nc Sp V2 oA rY yU Ao Cl yO Vx tE sC kJ hT setLoop cT
namespace Go.Proofs.YtajjljbmfdboaaaGreatDoor.H
open Go Go.Ab Go.Hm
section
set_option maxRecDepth 100000
variable {G:Bg} {h:AH} {L L':List HP}
def eN (b o:Nat) (r:Row):HP:=fun q=>∃a c,star [aG b o (r.enc a c),cN 9 175 a c (r.waits.length,eM r.waits)] q
theorem dZ {b o:Nat} {r:Row} (e:Hs G h (eN b o r::L)):∃a c,Hs G h (aG b o (r.enc a c)::cN 9 175 a c (r.waits.length,eM r.waits)::L):=by
 obtain⟨q,s,⟨a,c,k⟩,g,f,i,j⟩:=e.fst;exact⟨a,c,e.base,e.old,e.wf,e.fr,_,(iV (L:=[_,_])).2 ⟨q,s,k,g,f,rfl⟩,(cS.fS f).2 ⟨i,j⟩⟩
theorem kC {b o:Nat} (r:Row) {a:Option Addr} {c:Nat} (f:Hs G h (aG b o (r.enc a c)::cN 9 175 a c (r.waits.length,eM r.waits)::L)):Hs G h (eN b o r::L):=
 Hs.join (A:=[_,_]) f fun _ e=>⟨a,c,e⟩
theorem zF {x:Int} {Q:Value->AH->Prop} (a:Q (.bool (decide (0<=x/\x<5))) h):Cl Pr K 295 [I x] h Q:=by
 refine cW ?_;refine dW (aX (fun c=>bA ?_) (fun c=>?_));show Q _ _;rw[show decide (x<5)=decide (0<=x/\x<5) from decide_eq_decide.2 (by omega)];exact a;show Q _ _;rw[show false=decide (0<=x/\x<5) from(decide_eq_false (by omega)).symm];exact a
theorem ug {x:Int} {Q:Value->AH->Prop} (c:Q (.bool (valid x)) h):Cl Pr K 297 [I x] h Q:=by
 refine cW (zF (aX (fun a=>bC ?_) (fun a=>?_)));show Q _ _;rw[show decide (x≠0)=valid x from by simp only[valid,decide_eq_true a,Bool.true_and]];exact c;show Q _ _;rw[show false=valid x from by simp only[valid,decide_eq_false a,Bool.false_and]];exact c
theorem Zb {b o:Nat} {r:Row} {Q:Value->AH->Prop} (e:Hs G h L) [m:Has (eN b o) L r L'] (g:∀f,Hs G f (eN b o r.free::L')->Q (.tuple ⟨[]⟩) f):Cl Pr K 252 [pt b o 0] h Q:=by
 obtain⟨a,c,e⟩:=dZ (m.of e);refine cW ?_;repeat' first
  |refine aA ?_
  |refine aB ?_
  |(refine ay e ?_;intro h e)
  |refine aQ rfl ?_
 exact g _ (kC r.free (a:=a) (c:=c) e)
theorem uj {r:Row} {x:Int} (h:r.owner=x):r.leave x={r with sh:=gO r.sh x false,owner:= -1}:=by simp only[Row.leave,aJ7 h]
theorem ur {r:Row} {x:Int} (h:¬r.owner=x):r.leave x={r with sh:=gO r.sh x false}:=by simp only[Row.leave,aJ6 h]
theorem Fv {b o:Nat} {r:Row} {x:Int} {Q:Value->AH->Prop} (e:Hs G h L) [m:Has (eN b o) L r L'] (k:0<=x/\x<4) (f:∀j,Hs G j (eN b o (r.leave x)::L')->Q (.tuple ⟨[]⟩) j):Cl Pr K 218 [pt b o 0,I x] h Q:=by
 obtain⟨a,c,e⟩:=dZ (m.of e);refine cW ?_;have i:x=0\/x=1\/x=2\/x=3:=by omega
 rcases i with rfl|rfl|rfl|rfl;all_goals
  refine aB (aA (dX (by decide) (by decide) ?_))
  repeat' first
   |refine aA ?_
   |refine aB ?_
   |refine bH ?_
   |refine aD e rfl ?_
   |(refine ay e ?_;intro h e)
   |(refine aX (fun g=>?_) (fun g=>?_))
  .rw[uj g] at f;exact f _ (kC _ (a:=a) (c:=c) e)
  .rw[ur g] at f;exact f _ (kC _ (a:=a) (c:=c) e)
theorem at4 {f:Nat->Bool} {i:Nat} (c:i<4) {k:Value->Prop} (a:k (.bool (f i))):bG (Nc 4 1 (.agg ⟨[.bool (f 0),.bool (f 1),.bool (f 2),.bool (f 3)]⟩) (I i)) k:=by
 refine Xb ?_ a;have:i=0\/i=1\/i=2\/i=3:=by omega
 rcases this with rfl|rfl|rfl|rfl<;>simp[Nc]
theorem Yk {b o:Nat} {r:Row} {x:Int} {a:Option Addr} {c:Nat} {Q:Value->AH->Prop} (u:Hs G h (aG b o (r.enc a c)::L)):∀(f i:Nat) (t:Value),i+f=4->Q (I (r.sW x f i)) h->
  Dd 221 1 [] Q [(pt b o 0),(I x),(I (-1)),(.agg ⟨[.bool (r.sh 0),.bool (r.sh 1),.bool (r.sh 2),.bool (r.sh 3)]⟩),(I i),t] h:=by
 intro f
 induction f with
 |zero=>
  intro i t s e
  refine bW (bA (aab ?_))
  exact e
 |succ f v=>
  intro i t s e
  refine bW (bA (aae (bW (at4 (by omega) ?_))))
  have next:∀t,r.holds x i=false->Dd 221 3 [] Q [(pt b o 0),(I x),(I (-1)),(I i),(.agg ⟨[.bool (r.sh 0),.bool (r.sh 1),.bool (r.sh 2),.bool (r.sh 3)]⟩),(I i),t] h:=fun t q=>by
   refine bW (aad (v (i+1) _ (by omega) ?_));simpa [Row.sW,q] using e
  refine bH (aX (fun j=>next _ ?_) (fun j=>bW (dI (fun g=>bW ?_) (fun g=>bW ?_))))
  .exact bz j
  .rw[g];refine eU (bW ?_);have:r.holds x i=true:=oe j g;rw[Row.sW,aJ7 this] at e;exact e
  .repeat' first
    |refine aA ?_
    |refine aB ?_
    |refine bH ?_
    |refine aD u rfl ?_
   refine aX (fun k=>bW ?_) (fun k=>next _ ?_)
   .have:r.holds x i=true:=qs j k;rw[Row.sW,aJ7 this] at e;exact e
   .exact Zl g k
theorem qX {b o:Nat} {r:Row} {x:Int} {Q:Value->AH->Prop} (e:Hs G h L) [m:Has (eN b o) L r L'] (f:Hs G h (eN b o r::L')->Q (I (r.first x)) h):Cl Pr K 221 [pt b o 0,I x] h Q:=by
 have f:=f (m.of e);obtain⟨a,c,e⟩:=dZ (m.of e);refine cW ?_;repeat' first
  |refine aA ?_
  |refine aB ?_
  |refine aR e (by decide) rfl rfl ?_
 exact Yk e 4 0 _ rfl f
def ff (b o:Nat) (r:Row):HP:=aG b o r.Wz
def Lg (b o:Nat) (r:Row):HP:=vD fun x:Option Addr×Nat=>sp [aG b (o+5) (r.Jy x.1 x.2),cN 9 175 x.1 x.2 (r.waits.length,eM r.waits)]
theorem Je {b o:Nat} {r:Row} (e:Hs G h (eN b o r::L)):Hs G h (ff b o r::Lg b o r::L):=by
 obtain⟨a,c,e⟩:=dZ e;have f:Hs G h (aG b (o+5) (r.Jy a c)::cN 9 175 a c (r.waits.length,eM r.waits)::aG b o r.Wz::L):=(e.split (c:=r.Wz) (d:=r.Jy a c)).perm (by
  exact(List.Perm.swap _ _ _).trans ((List.Perm.swap _ _ _).cons _))
 exact(Hs.zX (A:=fun x:Option Addr×Nat=>sp [aG b (o+5) (r.Jy x.1 x.2),cN 9 175 x.1 x.2 (r.waits.length,eM r.waits)]) (a,c) (Hs.pack (A:=[_,_]) f)).perm (List.Perm.swap _ _ _)
theorem N1 {b o:Nat} {r:Row} (e:Hs G h (Lg b o r::L)):∃a c,Hs G h (aG b (o+5) (r.Jy a c)::cN 9 175 a c (r.waits.length,eM r.waits)::L):=by
 obtain⟨⟨a,c⟩,e⟩:=e.B4;exact⟨a,c,e.unpack⟩
theorem X8 {b o:Nat} (r:Row) {a:Option Addr} {c:Nat} (e:Hs G h (aG b (o+5) (r.Jy a c)::cN 9 175 a c (r.waits.length,eM r.waits)::L)):Hs G h (Lg b o r::L):=
 Hs.zX (A:=fun x:Option Addr×Nat=>sp [aG b (o+5) (r.Jy x.1 x.2),cN 9 175 x.1 x.2 (r.waits.length,eM r.waits)]) (a,c) (Hs.pack (A:=[_,_]) e)
theorem Ow {b o:Nat} {r:Row} (e:Hs G h (ff b o r::Lg b o r::L)):Hs G h (eN b o r::L):=by
 obtain⟨a,c,e⟩:=N1 (e.perm (List.Perm.swap _ _ _));refine kC r (a:=a) (c:=c) ?_;rw[Row.kq];exact Hs.Ic (c:=r.Wz) (e.perm ((List.Perm.swap _ _ _).cons _|>.trans (List.Perm.swap _ _ _))) rfl
def Fk (b o p q:Nat) (x:Int) (r:Row):HP:=sp [ff b o r,aG p 0 [pt b o 0],aG q 0 [I x]]
theorem Xx {b o:Nat} {x:Int} {Q:Value->AH->Prop} (a:Hs G h L) (e:∀p q c,Hs G c (aG p 0 [pt b o 0]::aG q 0 [I x]::L)->Q (.func (.func 272) #[] #[pt p 0 0,pt q 0 0]) c):Cl Pr K 223 [pt b o 0,I x] h Q:=by
 refine cW ?_;repeat' first
  |(refine dR a ?_;intro p h a)
 exact e _ _ _ (a.perm (List.Perm.swap _ _ _))
theorem Sd {b o p q:Nat} {r:Row} {x:Int} {s:List (List Value)->HP} {J:HP} {y:Value} {Q:Value->AH->Prop}
  (R:∀z rest h M,Hs G h (s (z::rest)::M)->yO Pr K y z h fun v a=>(v= .bool true/\Hs G a (s rest::M))\/(v= .bool false/\Hs G a (J::M)))
  (O:∀v a,Hs G a (Fk b o p q x r::s []::L)->Q v a) (F:∀v a,Hs G a (Fk b o p q x r::J::L)->Q v a):
  ∀(f i:Nat) (h:AH),i+f=4->Hs G h (Fk b o p q x r::s ((r.fB x f i).map fun(c:Nat)=>[I c])::L)->
   Dd 272 1 [] Q [y,(pt p 0 0),(pt q 0 0),(.agg ⟨[.bool (r.sh 0),.bool (r.sh 1),.bool (r.sh 2),.bool (r.sh 3)]⟩),(I i)] h:=by
 intro f
 induction f with
 |zero=>
  intro i h P j
  refine bW (bA (aab ?_))
  exact O _ _ j
 |succ f w=>
  intro i h P j
  refine bW (bA (aae (bW (at4 (by omega) ?_))))
  have k:=j
  have j:=j.unpack
  have yes:r.holds x i=true->yO Pr K y [I i] h fun v a=>(v= .bool true/\Hs G a (Fk b o p q x r::s ((r.fB x f (i+1)).map fun(c:Nat)=>[I c])::L))\/(v= .bool false/\Hs G a (Fk b o p q x r::J::L)):=fun D=>by
   rw[Row.fB,aJ7 D] at k;refine(R _ _ h _ (k.perm (List.Perm.swap _ _ _))).mono fun v a t=>?_;exact t.imp (fun e=>⟨e.1,e.2.perm (List.Perm.swap _ _ _)⟩) (fun e=>⟨e.1,e.2.perm (List.Perm.swap _ _ _)⟩)
  have no:r.holds x i=false->Hs G h (Fk b o p q x r::s ((r.fB x f (i+1)).map fun(c:Nat)=>[I c])::L):=fun D=>by
   simpa only[Row.fB,D,Bool.false_eq_true,if_false] using k
  refine aD j rfl (bH (aX (fun u=>aad (w (i+1) h (by omega) (no (bz u)))) (fun u=>cH (eB (dI (fun A=>?_) (fun A=>?_))))))
  .refine(yes (oe u A)).mono fun v a t=>?_;rcases t with⟨rfl,g⟩|⟨rfl,g⟩
   .exact cH (cG (bW (aad (w (i+1) a (by omega) g))))
   .exact cH (eU (F _ _ g))
  .have E:Hs G h (aG b o r.Wz::_):=j;refine aD j rfl (aB (aA (aD E rfl (bC (aX (fun B=>?_) (fun B=>?_))))))
   .exact bW (aad (w (i+1) h (by omega) (no (Zl A B))))
   .refine bW ((yes (qs u (by simpa using B))).mono fun v a t=>?_);rcases t with⟨rfl,g⟩|⟨rfl,g⟩
    .exact cH (cG (bW (aad (w (i+1) a (by omega) g))))
    .exact cH (eU (F _ _ g))
theorem ka {b o p q:Nat} {r:Row} {x:Int}:uc Pr K G 272 [] [pt p 0 0,pt q 0 0] (Fk b o p q x r) ((r.gC x).map fun(c:Nat)=>[I c]):=by
 intro k J y L h Q f j g i;refine cW ?_;have a:=f.unpack;have e:Hs G h (aG b o r.Wz::_):=a;refine aD a rfl (aB (aA (aR e (by decide) rfl rfl ?_)));exact Sd j g i 4 0 h rfl f
end
section
set_option maxRecDepth 100000
variable {G:Bg} {h:AH} {L L':List HP}
def eP (v:Value) (l:List aJ):HP:=vD fun x:Option Addr×Nat=>sp [B6 (v= .slice x.1 l.length x.2),cN 9 175 x.1 x.2 (l.length,eM l)]
theorem G8 {a:Option Addr} {c n:Nat} {l:List aJ} {cs:List Value} (e:n=l.length) (hc:cs=eM l) (f:Hs G h (cN 9 175 a c (n,cs)::L)):Hs G h (eP (.slice a n c) l::L):=by
 subst e;subst hc;exact Hs.zX (A:=fun x:Option Addr×Nat=>sp [B6 (Value.slice a l.length c=Value.slice x.1 l.length x.2),cN 9 175 x.1 x.2 (l.length,eM l)]) (a,c) (Hs.pack (A:=[_,_]) (Hs.Sz rfl f))
theorem rh {v:Value} {l:List aJ} (e:Hs G h (eP v l::L)):∃a c,v= .slice a l.length c/\Hs G h (cN 9 175 a c (l.length,eM l)::L):=by
 obtain⟨⟨a,c⟩,e⟩:=e.B4;obtain⟨f,e⟩:=Hs.xw e.unpack;exact⟨a,c,f,e⟩
theorem Us {line state:Int} {l:List Nat} {i:Nat}:eG line state (l++[i])=eG line state l++[⟨11,i,line,0,state,0,0,false,0⟩]:=by simp[eG,aJ.zero]
theorem aDs {f:Nat->Bool} {i j:Nat} {v:Bool}:gO f i v j=if j=i then v else f j:=by
 simp only[gO,Int.ofNat_inj]
theorem Up {r:Row} {l:List Nat} {i:Nat}:r.hJ (l++[i])={r.hJ l with asked:=gO (r.hJ l).asked i true}:=by
 simp only[Row.hJ,Row.mk.injEq,true_and,and_true];funext j;simp only[aDs,List.contains_append];by_cases h:j=i;subst h;simp;simp[h]
theorem aA7 {b o i:Nat} {r:Row} {a:Option Addr} {c:Nat} {v:Bool} {k:AH->Prop} (e:Hs G h L) [m:Has (aG b (o+5)) L (r.Jy a c) L'] (j:i<4) (g:∀f,Hs G f (aG b (o+5) (({r with asked:=gO r.asked i v}:Row).Jy a c)::L')->k f):bG (tZ h 1 (pt b o (17+(i:Int).toNat*1)) (.bool v)) k:=by
 have e:=m.of e;rw[aFt (m:=5) (by omega)];have:i=0\/i=1\/i=2\/i=3:=by omega
 rcases this with rfl|rfl|rfl|rfl;all_goals
  refine ay e ?_
  exact g
def prC (b o p2 p5 g f:Nat) (line state:Int) (r:Row) (xs:List Nat) (e:Nat->Value) (d l:Nat) (rest:List (List Value)) (done:List Nat) (a:Option Addr) (c:Nat):List HP:=
 [B6 (rest=(xs.drop done.length).map fun(c:Nat)=>[I c]),B6 (xs.take done.length=done),
    pH Pr 222 (pD 58) 26 e d l (.ready,none),aG p2 0 [pt b o 0],aG p5 0 [I line],aG g 0 [I state],Lg b o (r.hJ done),
    aG f 0 [.slice a done.length c],cN 9 175 a c (done.length,eM (eG line state done))]
def prI (b o p2 p5 c a:Nat) (line state:Int) (r:Row) (xs:List Nat) (e:Nat->Value) (d l:Nat) (rest:List (List Value)):HP:=
 vD fun x:List Nat×Option Addr×Nat=>sp (prC b o p2 p5 c a line state r xs e d l rest x.1 x.2.1 x.2.2)
theorem aFi {b o p2 p5 g f:Nat} {line state:Int} {r:Row} {xs:List Nat} {e:Nat->Value} {d l:Nat} {rest:List (List Value)} (done:List Nat) (a:Option Addr) (c:Nat) (i:rest=(xs.drop done.length).map fun(c:Nat)=>[I c]) (j:xs.take done.length=done)
  (k:Hs G h (sp ((prC b o p2 p5 g f line state r xs e d l rest done a c).drop 2)::L)):Hs G h (prI b o p2 p5 g f line state r xs e d l rest::L):=
 Hs.zX (done,a,c) (yP i (yP j k))
theorem aB3 {b o p2 p5 i g:Nat} {line state:Int} {r:Row} {xs:List Nat} {e:Nat->Value} {d l:Nat} {rest:List (List Value)} (f:Hs G h (prI b o p2 p5 i g line state r xs e d l rest::L)):∃done a c,(rest=(xs.drop done.length).map fun(c:Nat)=>[I c])/\xs.take done.length=done/\
  Hs G h (pH Pr 222 (pD 58) 26 e d l (.ready,none)::aG p2 0 [pt b o 0]::aG p5 0 [I line]::aG i 0 [I state]::Lg b o (r.hJ done)::aG g 0 [.slice a done.length c]::cN 9 175 a c (done.length,eM (eG line state done))::L):=by
 obtain⟨⟨done,a,c⟩,f⟩:=Hs.B4 f
 obtain⟨j,f⟩:=iD f
 obtain⟨k,f⟩:=iD f
 exact⟨done,a,c,j,k,f.unpack⟩
theorem E6 {b o:Nat} {line state:Int} {r:Row} {g:FuncId} {j:List Value} {A:HP} {xs:List Nat} {Q:Value->AH->Prop} (Z:uc Pr K G g [] j A (xs.map fun(c:Nat)=>[I c])) (X:∀c∈xs,c<4) (Y:xs.length<=4) (R:callable Pr g=true)
  (f:Hs G h (A::Lg b o r::L)) (T:∀v s,Hs G s (eP v (eG line state xs)::A::Lg b o (r.hJ xs)::L)->Q v s):
  Cl Pr K 222 [pt b o 0,I line,I state,.func (.func g) #[] ⟨j⟩] h Q:=by
 refine cW ?_
 refine dR f fun p2 h f=>dR f fun p5 h f=>dR f fun p8 h f=>bQ f fun z h f=>oF f fun d h f=>?_
 intro e P
 refine sV f fun l h f=>?_
 refine Ah R ?_
 have f:=gK (W:=9) (e:=175) f
 have E:r.hJ []=r:=by simp[Row.hJ]
 have y:Hs G h (A::prI b o p2 p5 p8 z line state r xs e d l (xs.map fun(c:Nat)=>[I c])::mk d ()::L):=by
  refine Hs.lK (aFi [] none 0 rfl rfl ?_);rw[<-E] at f;simp only[prC,List.drop_succ_cons,List.drop_zero,List.length_nil,eG,List.map_nil,Pm];exact f.to
 refine Z _ (B6 False) _ _ h _ y ?_ ?_ ?_
 .intro x rest h M f;obtain⟨done,a,c,k,u,V⟩:=aB3 f;clear f;cases hx2:xs.drop done.length with
  |nil=>rw[hx2] at k;cases k
  |cons i q=>
   rw[hx2] at k
   simp only[List.map_cons,List.cons.injEq] at k
   obtain⟨rfl,rfl⟩:=k
   have w:i<4:=X i (List.mem_of_mem_drop (by rw[hx2];exact List.mem_cons_self))
   have O:done.length<xs.length:=by
    rcases Nat.lt_or_ge done.length xs.length with h|h;exact h;rw[List.drop_eq_nil_of_le h] at hx2;cases hx2
   obtain⟨B,c2,f⟩:=N1 (V.perm (dY.perm (A:=Lg b o (r.hJ done))))
   refine rW (Aa f) P ?_
   refine lT f fun h f=>aD f rfl (aB (aA (dX (by omega) (by omega) ?_)))
   rw[Nat.zero_add]
   refine aA7 f w fun h f=>aD f rfl (aD f rfl (aD f rfl (aQ (c:=aJ.enc ⟨11,i,line,0,state,0,0,false,0⟩) rfl (aQ (c:=aJ.enc ⟨11,i,line,0,state,0,0,false,0⟩) rfl ?_))))
   refine dL f rfl rfl rfl ?_
   intro a3 h f
   refine nY f (by omega) ?_
   intro a4 D h f
   dsimp only
   refine ax f ?_
   intro h f
   refine mD f ?_
   intro h f
   refine .inl ⟨rfl,?_⟩
   rw[<-Up] at f
   have f:=X8 (r.hJ (done++[i])) (f.cI (aG b (o+5) ((r.hJ (done++[i])).Jy B c2)) (cN 9 175 B c2 ((r.hJ done).waits.length,eM (r.hJ done).waits)))
   have U:(done++[i]).length=done.length+1:=by simp
   have t:xs=done++i::q:=by have:=List.take_append_drop done.length xs;rw[u,hx2] at this;exact this.symm
   refine aFi (done++[i]) a4 D ?_ ?_ ?_
   .have:xs=(done++[i])++q:=by simp[t]
    rw[this,List.drop_left]
   .have:xs=(done++[i])++q:=by simp[t]
    rw[this,List.take_left]
   .simp only[prC,List.drop_succ_cons,List.drop_zero,U,Us,xL,J4,Pm,List.append_nil];exact f.to
 .intro v s f;obtain⟨done,a,c,k,u,f⟩:=aB3 f.lK;have J:xs=done:=by
   have:xs.drop done.length=[]:=by simpa using k.symm
   rw[<-u,List.take_of_length_le (by simpa using this)]
  subst J
  refine tR f fun s f=>tA ?_
  refine aD f rfl (oT f fun s f=>mB ?_)
  refine T _ _ ?_
  have F:(eG line state xs).length=xs.length:=by simp[eG]
  have f:=G8 (l:=eG line state xs) F.symm rfl (f.perm (dY.perm (A:=cN 9 175 a c (xs.length,eM (eG line state xs)))))
  exact f.to
 .intro v s f;exact(Hs.xw (f.lK)).1.elim
end
section
set_option maxRecDepth 100000
variable {G:Bg} {h:AH} {L L':List HP}
theorem Wn {b o:Nat} {x:Int} {c':List Value} {a:Option Addr} {c:Nat} {v:Bool} {k:AH->Prop} (r:Row) (g:Hs G h L) [m:Has (aG b o) L c' L'] (hc:c'=r.enc a c) (i:0<=x/\x<4) (f:∀e,Hs G e (aG b o (({r with sh:=gO r.sh x v}:Row).enc a c)::L')->k e):bG (tZ h 1 (pt b o (0+1+x.toNat*1)) (.bool v)) k:=by
 subst hc;have:x=0\/x=1\/x=2\/x=3:=by omega
 rcases this with rfl|rfl|rfl|rfl;all_goals
  refine ay g ?_
  exact f
theorem aDu {b o:Nat} {x:Int} {c':List Value} {a:Option Addr} {c:Nat} {v:Bool} {k:AH->Prop} (r:Row) (g:Hs G h L) [m:Has (aG b o) L c' L'] (hc:c'=r.enc a c) (i:0<=x/\x<4) (f:∀e,Hs G e (aG b o (({r with asked:=gO r.asked x v}:Row).enc a c)::L')->k e):bG (tZ h 1 (pt b o (0+17+x.toNat*1)) (.bool v)) k:=by
 subst hc;have:x=0\/x=1\/x=2\/x=3:=by omega
 rcases this with rfl|rfl|rfl|rfl;all_goals
  refine ay g ?_
  exact f
def mK (mb:Nat) (C:bP) (b o cap:Nat):List Value:=[pt mb 0 0,I C.aE,I C.aN,I C.aI,I C.ways,I C.depth,I C.entries,I C.aT,.slice (some ⟨b,o,none⟩) C.lines cap]
structure HmA where
 mb:Nat
 b:Nat
 o:Nat
 cap:Nat
def aBz (G:Bg) (hb:Nat) (C:bP) (H:kK) (x:HmA):List HP:=
 [aG hb 0 (mK x.mb C x.b x.o x.cap),eO G C.lines x.mb C (fun i=>(H i).2),hole G 25 247 (some ⟨x.b,x.o,none⟩) x.cap C.lines x.b x.o,dF C.lines fun i=>eN x.b (x.o+i*25) (H i).1]
def gM (G:Bg) (hb:Nat) (C:bP) (H:kK):HP:=vD fun x:HmA=>sp (aBz G hb C H x)
def Ay (b o n:Nat) (H:kK) (l:Nat):HP:=sp (((List.range n).erase l).map fun i=>eN b (o+i*25) (H i).1)
theorem rC {hb:Nat} {C:bP} {H:kK} (a:Hs G h (gM G hb C H::L)):∃mb b o cap,Hs G h (aG hb 0 (mK mb C b o cap)::eO G C.lines mb C (fun i=>(H i).2)::hole G 25 247 (some ⟨b,o,none⟩) cap C.lines b o::dF C.lines (fun i=>eN b (o+i*25) (H i).1)::L):=by
 obtain⟨⟨mb,b,o,cap⟩,a⟩:=a.B4;exact⟨mb,b,o,cap,a.unpack⟩
theorem Em {hb l:Nat} {C:bP} {H:kK} (c:l<C.lines) (a:Hs G h (gM G hb C H::L)):∃mb b o cap,Hs G h (eN b (o+l*25) (H l).1::aG hb 0 (mK mb C b o cap)::eO G C.lines mb C (fun i=>(H i).2)::hole G 25 247 (some ⟨b,o,none⟩) cap C.lines b o::Ay b o C.lines H l::L):=by
 obtain⟨mb,b,o,cap,a⟩:=rC a;have a:=(a.front (dF C.lines fun i=>eN b (o+i*25) (H i).1)).jX l c;exact⟨mb,b,o,cap,(show Hs G h (eN b (o+l*25) (H l).1::Ay b o C.lines H l::_) from a).to⟩
theorem sQ {hb:Nat} {C:bP} {H:kK} {mb b o cap:Nat} (a:Hs G h (aG hb 0 (mK mb C b o cap)::eO G C.lines mb C (fun i=>(H i).2)::hole G 25 247 (some ⟨b,o,none⟩) cap C.lines b o::dF C.lines (fun i=>eN b (o+i*25) (H i).1)::L)):Hs G h (gM G hb C H::L):=
 Hs.zX (A:=fun x=>sp (aBz G hb C H x)) ⟨mb,b,o,cap⟩ (Hs.pack (A:=aBz G hb C H ⟨mb,b,o,cap⟩) a)
theorem mem_of {H:kK} {l:Nat} {x:mA}:(fun i=>(aS H l x i).2)=aS (fun i=>(H i).2) l x.2:=by
 funext i;unfold aS;split<;>rfl
theorem eQ {f L2 g k c:List HP} (hb:Nat) (C:bP) (H:kK) (l:Nat) (r:Row) (m:Ln) (mem:Nat->Ln) (mb b o cap:Nat) (s:l<C.lines) (t:mem=aS (fun i=>(H i).2) l m) (a:Hs G h L) [u:dY (eN b (o+l*25) r) L f] [v:dY (aG hb 0 (mK mb C b o cap)) f L2] [w:dY (eO G C.lines mb C mem) L2 g]
  [y:dY (hole G 25 247 (some ⟨b,o,none⟩) cap C.lines b o) g k] [z:dY (Ay b o C.lines H l) k c]:Hs G h (gM G hb C (aS H l (r,m))::c):=by
 subst t
 have a:Hs G h (eN b (o+l*25) r::Ay b o C.lines H l::aG hb 0 (mK mb C b o cap)::eO G C.lines mb C (aS (fun i=>(H i).2) l m)::hole G 25 247 (some ⟨b,o,none⟩) cap C.lines b o::c):=
  (a.perm (u.perm.trans ((v.perm.trans ((w.perm.trans ((y.perm.trans (z.perm.cons _)).cons _)).cons _)).cons _))).to
 have q:(fun i=>eN b (o+i*25) (aS H l (r,m) i).1) l=eN b (o+l*25) r:=by simp only[cJ]
 rw[<-q] at a
 unfold Ay at a
 have a:=a.lA (n:=C.lines) (i:=l) (fun i=>eN b (o+i*25) (H i).1) (fun i=>eN b (o+i*25) (aS H l (r,m) i).1) s (fun j _ e=>by simp only[cF e])
 rw[<-mem_of (x:=(r,m))] at a
 exact sQ (mb:=mb) (b:=b) (o:=o) (cap:=cap) a.to
theorem Dt {a:Addr} {n:aJ} {cs:List Value} (hc:cs=n.enc) (c:Hs G h (cN 9 175 (some a) 1 (1,cs)::L)):Hs G h (eP (.slice (some a) 1 1) [n]::L):=G8 rfl (by rw[hc];simp) c
theorem qI (a:Hs G h L):Hs G h (eP (.slice none 0 0) []::L):=G8 rfl rfl (gK a)
section
variable {b o p:Nat} {r:Row} {wa:Option Addr} {wc:Nat} {line:Int} {d:Ln} {Q:Value->AH->Prop}
theorem eC (b o:Nat) (r:Row) (a:Option Addr) (c:Nat) {c':List Value} {n:Nat} {cs:List Value} {f L2:List HP} (i:Hs G h L) [m:Has (aG b o) L c' f] (hc:c'=r.enc a c) [j:Has (cN 9 175 a c) f (n,cs) L2] (g:n=r.waits.length) (e:cs=eM r.waits):Hs G h (eN b o r::L2):=by
 subst hc;subst g;subst e;exact kC r (i.perm (m.perm.trans (j.perm.cons _)))
theorem aAk (e:r.served.kind=2) (c:Hs G h (aG p 0 (r.jW line 0 d).enc::aG b o (r.enc wa wc)::cN 9 175 wa wc (r.waits.length,eM r.waits)::L)) (g:∀v f,Hs G f (eP v (r.eE line d).2::eN b o (r.eE line d).1::L)->Q v f):
  Dd 271 3 [] Q [(pt b o 0),(I r.served.core),(pt p 0 0)] h:=by
 simp only[Row.eE,aJ7 e] at g
 refine bW ?_
 repeat' first
  |refine aA ?_
  |refine aB ?_
  |refine aR c (by decide) rfl rfl ?_
  |(refine ay c ?_;intro h c)
  |(refine dL c rfl rfl rfl ?_;intro a h c)
  |refine aQ rfl ?_
 refine g _ _ ?_
 have c:=Dt (n:=r.jW line 4 d) rfl c
 exact(eC b o {r with owner:=r.served.core,sh:=fun _=>false,granted:=true} wa wc c rfl rfl rfl).to
theorem zl (g:r.served.kind≠2) (hc:0<=r.served.core/\r.served.core<4) (c:Hs G h (aG p 0 (r.jW line 0 d).enc::aG b o (r.enc wa wc)::cN 9 175 wa wc (r.waits.length,eM r.waits)::L)) (e:∀v i,Hs G i (eP v (r.eE line d).2::eN b o (r.eE line d).1::L)->Q v i):
  Dd 271 4 [] Q [(pt b o 0),(I r.served.core),(pt p 0 0)] h:=by
 simp only[Row.eE,aJ6 g] at e
 have c:=eC b o r wa wc c rfl rfl rfl
 refine bW (qX c fun c=>?_)
 obtain⟨wa,wc,c⟩:=dZ c
 refine bH (aX (fun f=>?_) (fun f=>?_))
 .rw[aJ7 f] at e;refine bW (aA (ay c ?_));intro h c;refine aB (aA (ay c ?_));intro h c;refine aB (aA (dX hc.1 hc.2 (Wn {r with owner:=r.served.core} c rfl hc ?_)));intro h c;repeat' first
   |refine aA ?_
   |refine aB ?_
   |refine aR c (by decide) rfl rfl ?_
   |(refine ay c ?_;intro h c)
   |(refine dL c rfl rfl rfl ?_;intro a h c)
   |refine aQ rfl ?_
  refine e _ _ ?_
  have c:=Dt (n:=r.jW line 2 d) rfl c
  exact(eC b o {r with owner:=r.served.core,sh:=gO r.sh r.served.core false,granted:=true} wa wc c rfl rfl rfl).to
 .rw[aJ6 f] at e;refine bW (aA (ay c ?_));intro h c;refine aB (aA (dX hc.1 hc.2 (Wn r c rfl hc ?_)));intro h c;repeat' first
   |refine aA ?_
   |refine aB ?_
   |refine aR c (by decide) rfl rfl ?_
   |(refine ay c ?_;intro h c)
   |(refine dL c rfl rfl rfl ?_;intro a h c)
   |refine aQ rfl ?_
  refine e _ _ ?_
  have c:=Dt (n:=r.jW line 1 d) rfl c
  exact(eC b o {r with sh:=gO r.sh r.served.core true,granted:=true} wa wc c rfl rfl rfl).to
end
theorem fA {H:kK} {l:Nat}:aS (fun i=>(H i).2) l (H l).2=fun i=>(H i).2:=qF
theorem Es {C:bP} (hC:C.Ok) {hb l:Nat} {H:kK} {Q:Value->AH->Prop} (j:Ob G 0 eT) (a:Hs G h L) [m:Has (gM G hb C) L H L'] (q:l<C.lines) (hc:0<=(H l).1.served.core/\(H l).1.served.core<4)
  (u:∀v e,Hs G e (eP v ((H l).1.eE l ((H l).1.sP (H l).2)).2::gM G hb C (aS H l (((H l).1.eE l ((H l).1.sP (H l).2)).1,(H l).2))::L')->Q v e):
  Cl Pr K 271 [pt hb 0 0,I l] h Q:=by
 obtain⟨mb,b,o,cap,a⟩:=Em q (m.of a)
 refine cW ?_
 have k:∀d,d=(H l).1.sP (H l).2->∀p wa wc h,Hs G h (aG p 0 ((H l).1.jW l 0 d).enc::aG b (o+l*25) ((H l).1.enc wa wc)::cN 9 175 wa wc ((H l).1.waits.length,eM (H l).1.waits)::aG hb 0 (mK mb C b o cap)::eO G C.lines mb C (fun i=>(H i).2)::hole G 25 247 (some ⟨b,o,none⟩) cap C.lines b o::Ay b o C.lines H l::L')->
   (((H l).1.served.kind=2->Dd 271 3 [] Q [(pt b (o+l*25) 0),(I (H l).1.served.core),(pt p 0 0)] h)/\((H l).1.served.kind≠2->Dd 271 4 [] Q [(pt b (o+l*25) 0),(I (H l).1.served.core),(pt p 0 0)] h)):=by
  intro d t p wa wc h a
  subst t
  have g:∀v e,Hs G e (eP v ((H l).1.eE l ((H l).1.sP (H l).2)).2::eN b (o+l*25) ((H l).1.eE l ((H l).1.sP (H l).2)).1::aG hb 0 (mK mb C b o cap)::eO G C.lines mb C (fun i=>(H i).2)::hole G 25 247 (some ⟨b,o,none⟩) cap C.lines b o::Ay b o C.lines H l::L')->Q v e:=fun v e a=>
   u v e (eQ hb C H l ((H l).1.eE l ((H l).1.sP (H l).2)).1 (H l).2 (fun i=>(H i).2) mb b o cap q fA.symm a).to
  exact⟨fun f=>aAk f a g,fun f=>zl f hc a g⟩
 obtain⟨wa,wc,a⟩:=dZ a
 refine aB (aA (aD a rfl (dM q (aB (aA (aA (aD a rfl ?_)))))))
 refine aY a ?_
 intro w h a
 refine aB (aA (aD a rfl (aB (aA (aR a (by decide) (l:=[I (H l).1.d0,I (H l).1.d1]) rfl rfl (aQ (c:=((H l).1.jW l 0 ((H l).1.d0,(H l).1.d1)).enc) rfl ?_))))))
 refine jM a rfl rfl ?_
 intro p h a
 refine ax a ?_
 intro h a
 refine aB (aA (aD a rfl (cH (eB (dI (fun s=>?_) (fun s=>?_))))))
 .refine bW (aB (aA (aA (aD a rfl (bH ?_)))));have:=k ((H l).1.d0,(H l).1.d1) (by simp[Row.sP,s]) p wa wc h a.to;exact aX this.1 this.2
 .refine bW (aB (aA (aD a rfl (Zi hC j a q fun h a=>?_))));refine aH rfl (aH rfl (aA (ay a ?_)));intro h a;refine aB (aA (aA (aD a rfl (bH ?_))));have:=k (H l).2 (by simp[Row.sP,s]) p wa wc h (a.sg (b:=p) (o:=0) (c:=((H l).1.jW l 0 (H l).2).enc) rfl).to;exact aX this.1 this.2
end
section
set_option maxRecDepth 100000
variable {G:Bg} {h:AH} {L L':List HP}
def Ni (e:TypeId) (p:Nat) (a:Option Addr) (c:Nat) (xs:List Int):HP:=sp [aG p 0 [.slice a xs.length c],cN 1 e a c (xs.length,xs.map I)]
theorem Ot {e:TypeId} {a:Option Addr} {c n:Nat} {xs:List Int} {Q:Value->AH->Prop} (j:n=xs.length) (f:Hs G h L) [m:Has (cN 1 e a c) L (n,xs.map I) L'] (i:∀p g,Hs G g (Ni e p a c xs::L')->Q (.func (.func 166) #[] #[pt p 0 0]) g):Cl Pr K 118 [.slice a n c] h Q:=by
 subst j;have f:=m.of f;refine cW (dR f ?_);intro p h f;exact i p _ (Hs.pack (A:=[_,_]) f)
theorem Fy {e:TypeId} {p:Nat} {a:Option Addr} {c:Nat} {xs:List Int} (D:xs.length<2^62):uc Pr K G 166 [] [pt p 0 0] (Ni e p a c xs) (xs.map fun x=>[I x]):=by
 intro q J y L h Q g A t u;refine cW ?_;refine aD g.unpack rfl (bU ?_);have loop:∀(f i:Nat) (h:AH),i+f=xs.length->Hs G h (Ni e p a c xs::q ((xs.drop i).map fun x=>[I x])::L)->Dd 166 1 [] Q [y,(.slice a xs.length c),(I xs.length),(I i)] h:=by
  intro f;induction f with
  |zero=>
   intro i h w g;refine bW (bA (aab ?_));rw[List.drop_eq_nil_of_le (by omega)] at g;exact t _ _ g
  |succ f B=>
   intro i h w g;have j:i<xs.length:=by omega
   refine bW (bA (aae (bW ?_)));obtain⟨b,o,rfl,H,k,_⟩:=(g.unpack.front (cN 1 e a c (xs.length,xs.map I))).oG (by omega);refine dM j (aB4 k (v:=I xs[i]) (by simp[j]) ?_);rw[List.drop_eq_getElem_cons j] at g;refine(A _ _ h _ g.lK).mono fun v s z=>?_;rcases z with⟨rfl,g⟩|⟨rfl,g⟩;exact cH (cG (bW (aad (B (i+1) s (by omega) g.lK))));exact cH (eU (u _ _ g.lK))
 exact loop xs.length 0 h (by omega) g
section
variable {hb p mb b o cap l:Nat} {C:bP} {H:kK} {n:aJ} {r:Row} {m:Ln} {Q:Value->AH->Prop}
def qT (G:Bg) (hb p mb b o cap l:Nat) (C:bP) (H:kK) (n:aJ) (r:Row) (m:Ln):List HP:=
 [eN b (o+l*25) r,aG p 0 n.enc,aG hb 0 (mK mb C b o cap),eO G C.lines mb C (aS (fun i=>(H i).2) l m),hole G 25 247 (some ⟨b,o,none⟩) cap C.lines b o,Ay b o C.lines H l]
theorem Wa (hC:C.Ok) (e:Ob G 0 eT) (i:l<C.lines) (j:n.line=l) (hc:0<=r.served.core/\r.served.core<4) (q:r.quiet=true) (a:Hs G h (qT G hb p mb b o cap l C H n r m++L))
  (c:∀v k,Hs G k (eP v (r.rest l m).2::gM G hb C (aS H l ((r.rest l m).1,m))::L)->Q v k):Dd 253 7 [] Q [(pt hb 0 0),(pt p 0 0),(pt b (o+l*25) 0)] h:=by
 simp only[qT,List.cons_append,List.nil_append] at a
 simp only[Row.rest,aJ7 q] at c
 have f:=a
 obtain⟨wa,wc,a⟩:=dZ (show Hs G h (eN b (o+l*25) r::_) from a)
 refine bW (aB (aA (aA (aD a rfl (bH (aX (fun g=>?_) (fun g=>?_)))))))
 .rw[aJ7 g] at c;refine bW (Zb f fun h a=>c _ _ ?_);exact(qI (eQ hb C H l r.free m _ mb b o cap i rfl a)).to
 .rw[aJ6 g] at c;refine aA (aD a rfl ?_);rw[j];have a:=eQ hb C H l r m _ mb b o cap i rfl f;refine Es hC e a i (by simp only[cJ];exact hc) fun v h a=>c _ _ ?_;simp only[cJ,tV] at a;exact a.to
theorem Yl (hC:C.Ok) (f:Ob G 0 eT) (s:l<C.lines) (j:n.line=l) (hc:0<=r.served.core/\r.served.core<4) (e:Hs G h (qT G hb p mb b o cap l C H n r m++L))
  (i:∀v q,Hs G q (eP v (r.rest l m).2::gM G hb C (aS H l ((r.rest l m).1,m))::L)->Q v q):Dd 253 4 [] Q [(pt hb 0 0),(pt p 0 0),(pt b (o+l*25) 0)] h:=by
 have g:=e
 simp only[qT,List.cons_append,List.nil_append] at e
 have k:=e
 obtain⟨wa,wc,e⟩:=dZ (show Hs G h (eN b (o+l*25) r::_) from e)
 refine bW (aB (aA (aR e (by decide) (l:=[.bool (r.asked 0),.bool (r.asked 1),.bool (r.asked 2),.bool (r.asked 3)]) rfl rfl (aQ (c:=[.bool false,.bool false,.bool false,.bool false]) rfl (oa (dI (fun a=>?_) (fun a=>?_)))))))
 .have a:r.quiet=false:=by unfold Row.quiet;rw[a];rfl
  simp only[Row.rest,a,Bool.false_eq_true,if_false] at i
  refine i _ _ ?_
  exact(qI (eQ hb C H l r m _ mb b o cap s rfl (show Hs G h (eN b (o+l*25) r::_) from k))).to
 .have a:r.quiet=true:=by unfold Row.quiet;rw[a];rfl
  exact Wa hC f s j hc a g i
end
end
end Go.Proofs.YtajjljbmfdboaaaGreatDoor.H
namespace Go.Proofs.YtajjljbmfdboaaaGreatDoor
open Go Go.Ab Go.Hm Go.At Go.Mc
section
def B7:Mc.jE:=⟨0,0,0,0,0,0,false,0,fun _=>false⟩
def zG (r:Mc.jE):List Value:=[I r.core,I r.world,I r.call,I r.bK,I r.to]
def nD (r:Mc.jE):List Value:=[I r.core,I r.world,I r.call,I r.bK,I r.to,I r.then',.bool r.jZ]
def gB (f:Nat->Option Mc.jE) (k:Nat):Option Value:=(f k).map fun r=> .agg ⟨r.enc⟩
theorem Gs {f:Nat->Option Mc.jE} {g:Nat} {x:Option Mc.jE}:Jd (gB f) g (x.map fun r=> .agg ⟨r.enc⟩)=gB (aS f g x):=by
 funext k;unfold Jd gB aS;split<;>rfl
theorem iu {m:Mon}:Cd (gB m.runs)=m.running:=by
 unfold Cd Mon.running;congr 1;funext k;unfold gB;cases m.runs k<;>rfl
theorem nz {m:Mon} {g:Int}:(if 0<=g then gB m.runs g.toNat else none)=(m.run g).map fun r=>Value.agg ⟨r.enc⟩:=by
 unfold Mon.run gB;split<;>rfl
set_option maxRecDepth 100000
variable {G:Bg} {h:AH} {L L' M:List HP} {Q:Value->AH->Prop} {C:bP} {m:Mon} {p:Nat}
def fV (C:bP) (p:Nat) (m:Mon):HP:=vD fun x:Nat×Nat=>sp [aG p 0 [pt x.1 0 0,I C.aE,gH x.2],gW x.1 m.dQ,iJ x.2 (gB m.runs)]
theorem kV (a:Hs G h (fV C p m::L)):∃t b,Hs G h (aG p 0 [pt t 0 0,I C.aE,gH b]::gW t m.dQ::iJ b (gB m.runs)::L):=by
 obtain⟨⟨t,b⟩,a⟩:=a.B4;exact⟨t,b,a.D2⟩
theorem dU {t b:Nat} (a:Hs G h (aG p 0 [pt t 0 0,I C.aE,gH b]::gW t m.dQ::iJ b (gB m.runs)::L)):Hs G h (fV C p m::L):=
 Hs.zX (A:=fun x:Nat×Nat=>sp [aG p 0 [pt x.1 0 0,I C.aE,gH x.2],gW x.1 m.dQ,iJ x.2 (gB m.runs)]) (t,b) a.V5
theorem Ox {b:Nat} {g:Int} {k:Value->Prop} (c:Hs G h L) [e:Has (iJ b) L (gB m.runs) L'] (a:k (.agg ⟨((m.run g).getD B7).enc⟩)):bG (lkV (.agg ⟨[(I 0),(I 0),(I 0),(I 0),(I 0),(I 0),(.bool false),(I 0),(.bool false),(.bool false),(.bool false),(.bool false)]⟩) h (gH b) (I g) false) k:=by
 refine aHj c ?_;rw[nz];cases hr:m.run g with
 |none=>rw[hr] at a;exact a
 |some r=>rw[hr] at a;exact a
theorem lx {g:Int}:((m.run g).getD B7).phase=m.phase g:=by
 unfold Mon.phase;cases m.run g<;>rfl
theorem K7 {g:Int} (a:Hs G h L) [f:Has (fV C p) L m L'] (e:∀c,Hs G c (fV C p m::L')->Q (I (m.phase g)) c):Cl Pr K 119 [pt p 0 0,I g] h Q:=by
 obtain⟨t,b,a⟩:=kV (f.of a);refine cW (dD (cG (aB (aA (am p a rfl (Ox (m:=m) a (ct rfl ?_)))))));show Q _ _;rw[lx];exact e _ (dU a)
theorem aFh {g:Int} (a:Hs G h L) [k:Has (fV C p) L m L'] (j:∀l i,Hs G i (fV C p m::L')->(m.phase g≠0->l=zG ((m.run g).getD B7))->l.length=5->l.all eF=true->Q (.tuple ⟨[.agg ⟨l⟩,.bool (decide (m.phase g≠0))]⟩) i):Cl Pr K 59 [pt p 0 0,I g] h Q:=by
 refine cW (bQ a fun q h a=>K7 (C:=C) (m:=m) a fun h a=>bH (aX (fun f=>?_) (fun f=>?_)));refine aQ (c:=(zG B7)) rfl (ax (b:=q) a fun h a=>an q a (l:=(zG B7)) rfl rfl ?_);have:=j (zG B7) h a.to (fun e=>absurd f e) rfl rfl;rw[decide_eq_false (by omega)] at this;exact this;obtain⟨t,b,a⟩:=kV a;refine aB (aA (am p a rfl (Ox (m:=m) a (Ik (m:=nD ((m.run g).getD B7)) rfl rfl (Ik (m:=zG ((m.run g).getD B7)) rfl rfl ?_)))));refine ax (b:=q) a fun h a=>an q a (l:=zG ((m.run g).getD B7)) rfl rfl ?_;have:=j _ h (dU (t:=t) (b:=b) a.to) (fun _=>rfl) rfl rfl;rw[decide_eq_true f] at this;exact this
theorem Du (f:Hs G h L) [u:Has (fV C p) L m L'] (s:∀q a c i,Hs G i (H.Ni 3 q a c (m.running.map fun k:Nat=>(k:Int))::fV C p m::L')->Q (.func (.func 166) #[] #[pt q 0 0]) i):Cl Pr K 58 [pt p 0 0] h Q:=by
 obtain⟨t,b,f⟩:=kV (u.of f);refine cW (dD (cG (aB (aA (am p f rfl ?_)))));refine cW (aG7 f fun q h f=>?_);have f:Hs G h (aG q 0 [gH b]::mt q (170,true,1)::iJ b (gB m.runs)::aG p 0 [pt t 0 0,I C.aE,gH b]::gW t m.dQ::L'):=f.to;refine ud (e:=3) rfl f fun a g h f=>?_;rw[iu (m:=m)] at f ⊢;have e:(m.running.map fun k:Nat=>I k)=(m.running.map fun k:Nat=>(k:Int)).map I:=by rw[List.map_map];rfl
 rw[e] at f;refine H.Ot (e:=3) (xs:=m.running.map fun k:Nat=>(k:Int)) (by simp) f fun j h f=>?_;have f:Hs G h (aG p 0 [pt t 0 0,I C.aE,gH b]::gW t m.dQ::iJ b (gB m.runs)::H.Ni 3 j a g (m.running.map fun k:Nat=>(k:Int))::L'):=f.to;exact s j a g _ (dU f).lK
end
end Go.Proofs.YtajjljbmfdboaaaGreatDoor
end
namespace Go.Ct
open Go Go.Ab Go.Hm
section
variable {n ways:Nat} {S:Nat->List Th} {no:Int} {x:pI}
theorem Ri {l:List Th} (h:no∉l.map (·.1)):rem no l=l:=by
 induction l with
 |nil=>rfl
 |cons t l a=>
  simp only[List.map_cons,List.mem_cons,not_or] at h;unfold rem;grind
theorem Z7 {l:List Th} (a:(l.map (·.1)).Nodup):rem no (rem no l)=rem no l:=Ri (Iy a)
theorem J6 {l:List Th} (h:get no l=some x):(rem no l).length<l.length:=by
 rw[I3,h];have:=get_mem h;grind
theorem nO (a:(bB n S no).2=0):get no (S (setOf n no))=some (bB n S no).1/\0<=no:=by
 unfold bB at a ⊢;grind
theorem Aj (c:∀i,nR ways (S i)) (e:(bB n S no).2=0):(jY n ways S no x).2=0:=by
 obtain⟨a,f⟩:=nO e;have:=J6 a;have:=(c (setOf n no)).len;unfold jY;grind
theorem Rf (a:0<=no):gE n S no (setOf n no)=rem no (S (setOf n no)):=by
 unfold gE aS;rw[aaa,aJ7 rfl]
theorem Ve (a:∀i,nR ways (S i)) (c:(bB n S no).2=0):oh n ways S no=0:=by
 obtain⟨e,f⟩:=nO c;have:=J6 e;have:=(a (setOf n no)).len;unfold oh;rw[aJ7 c];unfold jY;rw[Rf f,Z7 (a _).nd,aaa]
theorem Az (c:∀i,nR ways (S i)) (f:0<=no) (a:(jY n ways S no x).2=0):bB n (jY n ways S no x).1 no=(x,0):=by
 unfold jY at a ⊢;split at a;cases a;rename_i e;rw[aJ6 e];unfold bB aS;rw[aaa];dsimp only;rw[aJ7 rfl,xf (Iy (c _).nd)]
theorem Ep (c:∀i,nR ways (S i)) (a:(bB n S no).2=0):bB n (vR n ways S no) no=bB n S no:=by
 obtain⟨g,f⟩:=nO a;have e:=Ve c a;unfold oh at e;rw[aJ7 a] at e;unfold vR;rw[aJ7 a,Az (pV c) f e];grind
theorem Le {S:Nat->List Th} {l a:Int} {w:Bool} (h:mH n S l a w=true):mH n S l a false=true:=by
 unfold mH at h ⊢;unfold lH at h ⊢;grind [tP,Ny]
end
end Go.Ct
section
namespace Go.Hm
open Go Go.Ab
structure oZ (k:Nat) (r:Row):Prop where
 core:0<=r.served.core/\r.served.core<4
 owner: -1<=r.owner/\r.owner<4
 waits:∀n∈r.waits,n.line=k/\(0<=n.core/\n.core<4)/\(n.kind=0\/n.kind=1\/n.kind=2\/n.kind=3)
 apart:∀i:Nat,i<4->r.sh i=true->(i:Int)≠r.owner
 want:r.busy=true->r.granted=false->r.served.kind=0\/r.served.kind=2\/r.owner≠r.served.core
 still:r.granted=true\/r.busy=false->r.quiet=true
 gb:r.granted=true->r.busy=true
theorem oZ.inv {k:Nat} {r:Row} (h:oZ k r):r.Inv:=⟨h.core,h.owner,fun n a=>(h.waits n a).2.1⟩
theorem aBr (k:Nat):oZ k wO:=⟨by decide,by decide,by simp[wO],by simp[wO],by simp[wO],fun _=>rfl,by simp[wO]⟩
theorem quiet_of {r r':Row} (h:r'.asked=r.asked):r'.quiet=r.quiet:=by unfold Row.quiet;rw[h]
theorem zL {k:Nat} {r:Row} {c:Int} (h:oZ k r):oZ k (r.leave c) where
 core:=h.core
 owner:=by unfold Row.leave;simp only;split;omega;exact h.owner
 waits:=h.waits
 apart:=fun i g a=>by
  unfold Row.leave gO at a ⊢;simp only at a ⊢;split at a;cases a;split;omega;exact h.apart i g a
 want:=fun e f=>by
  rcases h.want e f with h|h|j;exact .inl h;exact .inr (.inl h);refine .inr (.inr ?_);have:=h.core;unfold Row.leave;grind
 still:=fun e=>(quiet_of (r':=r.leave c) rfl).trans (h.still e)
 gb:=h.gb
theorem Bx {k:Nat} {r:Row} (h:oZ k r) (c:r.quiet=true):oZ k r.free where
 core:=by show(0:Int)<=0/\(0:Int)<4;omega
 owner:=h.owner
 waits:=h.waits
 apart:=h.apart
 want:=fun a=>by cases a
 still:=fun _=>(quiet_of (r':=r.free) rfl).trans c
 gb:=fun a=>by cases a
theorem By {k:Nat} {r:Row} {n:aJ} (h:oZ k r) (a:n.line=k) (c:0<=n.core/\n.core<4) (e:n.kind=0\/n.kind=1\/n.kind=2\/n.kind=3):oZ k (r.wait n) where
 core:=h.core
 owner:=h.owner
 waits:=fun m hm=>by
  rcases List.mem_append.1 hm with hm|hm;exact h.waits m hm;grind
 apart:=h.apart
 want:=h.want
 still:=fun a=>(quiet_of (r':=r.wait n) rfl).trans (h.still a)
 gb:=h.gb
theorem Bt {k:Nat} {r:Row} {n:aJ} {w:List aJ} (h:oZ k r) (e:r.waits=n::w):oZ k (r.next w) where
 core:=h.core
 owner:=h.owner
 waits:=fun m c=>h.waits m (by rw[e];exact List.mem_cons_of_mem _ c)
 apart:=h.apart
 want:=h.want
 still:=fun a=>(quiet_of (r':=r.next w) rfl).trans (h.still a)
 gb:=h.gb
structure A6 (k:Nat) (r:Row):Prop where
 core:0<=r.served.core/\r.served.core<4
 owner: -1<=r.owner/\r.owner<4
 waits:∀n∈r.waits,n.line=k/\(0<=n.core/\n.core<4)/\(n.kind=0\/n.kind=1\/n.kind=2\/n.kind=3)
 apart:∀i:Nat,i<4->r.sh i=true->(i:Int)≠r.owner
 want:r.served.kind=0\/r.served.kind=2\/r.owner≠r.served.core
 busy:r.busy=true
 gr:r.granted=false
theorem A6.jq {k:Nat} {r:Row} (h:A6 k r):oZ k r:=⟨h.core,h.owner,h.waits,h.apart,fun _ _=>h.want,fun a=>by rw[h.busy,h.gr] at a;simp at a,fun a=>by rw[h.gr] at a;cases a⟩
theorem xJ {k:Nat} {r:Row} {line:Int} {d:Ln} (h:A6 k r) (j:r.served.kind≠0) (f:r.quiet=true):oZ k (r.eE line d).1:=by
 have q:=h.core;unfold Row.eE;split;exact⟨h.core,by simp only;omega,h.waits,fun i _ c=>(by cases c),fun _ a=>(by cases a),fun _=>f,fun _=>h.busy⟩;rename_i a;split;refine⟨h.core,by simp only;omega,h.waits,fun i g c=>?_,fun _ a=>(by cases a),fun _=>f,fun _=>h.busy⟩;simp only[gO] at c ⊢;grind;refine⟨h.core,h.owner,h.waits,fun i g c=>?_,fun _ a=>(by cases a),fun _=>f,fun _=>h.busy⟩;simp only[gO] at c ⊢;split at c;rename_i e;rcases h.want with h|h|h;exact absurd h j;exact absurd h a;grind;exact h.apart i g c
theorem zD {k:Nat} {r:Row} {l:List Nat} (h:A6 k r):oZ k (r.hJ l):=A6.jq ⟨h.core,h.owner,h.waits,h.apart,h.want,h.busy,h.gr⟩
theorem kz {k:Nat} {r:Row} {line:Int} {m:Ln} (h:A6 k r):oZ k (r.rest line m).1:=by
 unfold Row.rest;split;rename_i a;split;exact Bx h.jq a;rename_i c;exact xJ h c a;exact h.jq
theorem Dk {k:Nat} {r:Row} {n:aJ} (h:oZ k r) (t:0<=n.core/\n.core<4) (q:r.asked n.core.toNat=true):A6 k (r.heard n):=by
 have j:r.quiet=false:=by
  have:n.core.toNat=0\/n.core.toNat=1\/n.core.toNat=2\/n.core.toNat=3:=by omega
  unfold Row.quiet;grind
 have a:r.granted=false:=by
  cases a:r.granted with
  |false=>rfl
  |true=>have:=h.still (.inl a);grind
 have hb:r.busy=true:=by
  cases hb:r.busy with
  |true=>rfl
  |false=>have:=h.still (.inr hb);grind
 have e:A6 k (r.eY n):=⟨h.core,h.owner,h.waits,h.apart,h.want hb a,hb,a⟩;have f:A6 k ((r.eY n).Dg n):=⟨h.core,by show -1<=(-1:Int)/\(-1:Int)<4;omega,h.waits,fun i s _=>by show(i:Int)≠ -1;omega,by
  have:=h.core;right;right;show(-1:Int)≠r.served.core;omega,hb,a⟩
 have g:∀{r:Row},A6 k r->A6 k (r.lC n):=fun h=>⟨h.core,h.owner,h.waits,h.apart,h.want,h.busy,h.gr⟩;unfold Row.heard;split;have:=zL (c:=n.core) e.jq;exact⟨this.core,this.owner,this.waits,this.apart,this.want hb a,hb,a⟩;split;split;exact g f;exact f;split;exact g e;exact e
theorem lu {k:Nat} {x:mA} {n:aJ} (h:oZ k x.1) (i:fI n.kind) (e:n.line=k) (c:0<=n.core/\n.core<4):oZ k (mA.take x k n).1.1:=by
 unfold mA.take;split;split;exact h;rename_i f;have a:x.1.granted=true:=by
  cases a:x.1.granted with
  |true=>rfl
  |false=>exact absurd (.inl a) f
 exact Bx h (h.still (.inl a));split;split;exact h;rename_i g;exact kz (Dk h c (by simpa using g));rename_i j q;exact By h e c (by unfold fI at i;omega)
theorem H7 {r:Row} {x:Int}:∀(f i:Nat),r.sW x f i≠ -1->r.fB x f i≠[]:=by
 intro f;induction f with
 |zero=>intro i h;exact absurd rfl h
 |succ f a=>
  intro i h;unfold Row.sW at h;unfold Row.fB;grind
theorem U8 {r:Row} {x:Int}:∀(f i:Nat),∀c∈r.fB x f i,(c:Int)≠x:=by
 intro f;induction f with
 |zero=>intro i c a;simp[Row.fB] at a
 |succ f g=>
  intro i c a;unfold Row.fB at a;split at a;rename_i e;rcases List.mem_cons.1 a with rfl|a;unfold Row.holds at e;simp at e;exact e.1;exact g _ c a;exact g _ c a
def aJ.uD (n:aJ):aJ:=if n.kind=0 then {n with core:= -1} else n
theorem Lm {k:Nat} {r:Row} {d:Ln} {n:aJ} (f:r.served.core=n.core) (c:n.kind=1\/n.kind=2) (e:n.line=k):(∀m∈(r.eE k d).2,m.fits n.uD (r.eE k d).2.length)/\(r.eE k d).2≠[]:=by
 have g:n.uD=n:=by unfold aJ.uD;rw[aaa]
 rw[g];unfold Row.eE;split;refine⟨fun m a=>?_,by simp⟩;rw[List.mem_singleton.1 a];exact⟨e.symm,rfl,.inl ⟨rfl,f,rfl,c⟩⟩;split;refine⟨fun m a=>?_,by simp⟩;rw[List.mem_singleton.1 a];exact⟨e.symm,rfl,.inl ⟨rfl,f,rfl,c⟩⟩;refine⟨fun m a=>?_,by simp⟩;rw[List.mem_singleton.1 a];exact⟨e.symm,rfl,.inl ⟨rfl,f,rfl,c⟩⟩
theorem Au {k:Nat} {n:aJ} {st:Int} {l:List Nat} (f:n.line=k) (j:n.kind=1\/n.kind=2\/(n.kind=0/\st=0)) (hc:∀c∈l,(c:Int)≠n.uD.core) {len:Nat}:∀m∈eG k st l,m.fits n.uD len:=by
 intro m g;obtain⟨c,a,rfl⟩:=List.mem_map.1 g;have e:n.uD.line=k:=by unfold aJ.uD;split<;>exact f
 have i:n.uD.kind=n.kind:=by unfold aJ.uD;split<;>rfl
 refine⟨e.symm,rfl,.inr (.inr (.inr ⟨rfl,rfl,hc c a,?_⟩))⟩;grind
theorem zf {k:Nat} {r:Row} {n:aJ} {w:Int} {m:Ln} (h:oZ k r) (hb:r.busy=false) (g:n.line=k) (s:0<=n.core/\n.core<4) (v:n.kind=1\/n.kind=2):
  oZ k (r.get k m n w).1/\(∀x∈(r.get k m n w).2,x.fits n.uD (r.get k m n w).2.length)/\(r.get k m n w).2≠[]:=by
 have y:=h.still (.inr hb)
 have f:r.granted=false:=by
  cases f:r.granted with
  |false=>rfl
  |true=>have:=h.gb f;grind
 have u:n.uD=n:=by unfold aJ.uD;rw[aaa]
 unfold Row.get
 simp only
 split
 .rename_i j;have z:A6 k (r.serve n w):=⟨s,h.owner,h.waits,h.apart,.inr (.inl j),rfl,f⟩;unfold Row.getM;split
  .rename_i a;refine⟨zD z,?_,?_⟩
   .exact Au g (.inr (.inl j)) (fun c q=>by rw[u];exact U8 4 0 c q)
   .have:=H7 4 0 a;intro e;exact this (List.map_eq_nil_iff.1 e)
  .exact⟨xJ z (by show n.kind≠0;omega) y,Lm rfl v g⟩
 .rename_i j;have D:n.kind=1:=by omega
  have A:(r.serve n w).nQ.served=n/\(r.serve n w).nQ.asked=r.asked/\((r.serve n w).nQ.owner= -1\/((r.serve n w).nQ.owner=r.owner/\r.owner≠n.core))/\A6 k (r.serve n w).nQ:=by
   unfold Row.nQ;split;refine⟨rfl,rfl,.inl rfl,⟨s,by grind,h.waits,fun i _ _=>by grind,.inr (.inr ?_),rfl,f⟩⟩;show(-1:Int)≠n.core;omega;rename_i a;exact⟨rfl,rfl,.inr ⟨rfl,a⟩,⟨s,h.owner,h.waits,h.apart,.inr (.inr a),rfl,f⟩⟩
  generalize(r.serve n w).nQ=r2 at A
  obtain⟨B,E,F,t⟩:=A
  unfold Row.Tq
  split
  .rename_i a;refine⟨zD t,?_,by simp[eG]⟩;refine Au g (.inl D) (fun c q=>?_);rw[List.mem_singleton.1 q,u];have:=t.owner;omega
  .exact⟨xJ t (by rw[B];omega) (by rw[quiet_of E];exact y),Lm (by rw[B]) v g⟩
theorem lg {k:Nat} {r:Row} {n:aJ} {m:Ln} {j:Int->Int×Bool} (h:oZ k r) (hb:r.busy=false) (i:n.line=k) (u:0<=n.core/\n.core<4) (v:n.kind=0\/n.kind=1\/n.kind=2\/n.kind=3):
  oZ k (r.begun k m n j).1.1/\(∀x∈(r.begun k m n j).2,x.fits n.uD (r.begun k m n j).2.length)/\((r.begun k m n j).2≠[]\/n.uD.kind=0):=by
 have y:=h.still (.inr hb)
 have q:r.granted=false:=by
  cases q:r.granted with
  |false=>rfl
  |true=>have:=h.gb q;rw[hb] at this;cases this
 unfold Row.begun
 split
 .rename_i t;have f:n.uD=n:=by unfold aJ.uD;rw[aaa]
  refine⟨zL h,fun x s=>?_,.inl (by simp)⟩
  rw[List.mem_singleton.1 s,f]
  exact⟨i.symm,rfl,.inr (.inr (.inl ⟨rfl,rfl,rfl,rfl,t⟩))⟩
 .rename_i t;split
  .rename_i e;have f:n.uD=n:=by unfold aJ.uD;rw[aaa]
   split
   .obtain⟨a,b,c⟩:=zf (m:=m) (w:=(j n.world).1) h hb i u e;grind
   .refine⟨h,fun x s=>?_,.inl (by simp)⟩;rw[List.mem_singleton.1 s,f];exact⟨i.symm,rfl,.inr (.inl ⟨rfl,rfl,rfl,rfl,e⟩)⟩
  .rename_i e;have g:n.kind=0:=by omega
   have f:n.uD={n with core:= -1}:=by unfold aJ.uD;rw[aJ7 g]
   split
   .grind
   .refine⟨zD (r:=r.Mn n) ⟨u,h.owner,h.waits,h.apart,.inl g,rfl,q⟩,?_,.inr (by rw[f];exact g)⟩;exact Au i (.inr (.inr ⟨g,rfl⟩)) (fun c _=>by grind)
end Go.Hm
namespace Go.Hm
open Go Go.Ab
theorem qV {r:Row} {line:Int} {d:Ln}:(r.eE line d).1.waits=r.waits:=by
 unfold Row.eE;grind
theorem Xi {r:Row} {line:Int} {m:Ln}:(r.rest line m).1.waits=r.waits:=by
 unfold Row.rest;split;split;rfl;exact qV;rfl
theorem qU {r:Row} {n:aJ}:(r.heard n).waits=r.waits:=by
 unfold Row.heard;repeat' split
 all_goals rfl
theorem jf {r:Row} {line:Int} {m:Ln} {n:aJ} {w:Int}:(r.get line m n w).1.waits=r.waits:=by
 have a:(r.serve n w).nQ.waits=r.waits:=by unfold Row.nQ;split<;>rfl
 unfold Row.get;simp only;split;unfold Row.getM;split;rfl;exact qV;unfold Row.Tq;split;exact a;rw[qV];exact a
theorem T4 {r:Row} {line:Int} {m:Ln} {n:aJ} {j:Int->Int×Bool}:(r.begun line m n j).1.1.waits=r.waits:=by
 unfold Row.begun;split;rfl;split;split;exact jf;rfl;split<;>rfl
def C0:bP:=⟨3,2,1,1,4,2,2⟩
def Mv (H:kK) (R:Nat->List aJ) (i:Nat):Prop:=∀k,k<4->oZ k (H k).1/\R k=(H k).1.waits.map aJ.uD/\(H k).1.waits.length<=i
theorem Mv.h {H:kK} {R:Nat->List aJ} {i:Nat} (h:Mv H R i) (N:Nat) (c:i<=N):yC C0 H N:=fun k a=>⟨(h k a).1.inv,Nat.le_trans (h k a).2.2 c⟩
theorem Mv.uL {H:kK} {R:Nat->List aJ} {i l:Nat} {x:mA} {w:List aJ} (h:Mv H R i) (g:oZ l x.1) (j:w=x.1.waits.map aJ.uD) (q:x.1.waits.length<=i+1):Mv (aS H l x) (aS R l w) (i+1):=by
 intro k f;unfold aS;by_cases e:k=l;grind;simp only[aJ6 e];obtain⟨a,b,c⟩:=h k f;grind
theorem Mv.same {H:kK} {R:Nat->List aJ} {i l:Nat} {x:mA} (h:Mv H R i) (c:l<4) (e:oZ l x.1) (a:x.1.waits=(H l).1.waits):Mv (aS H l x) R (i+1):=by
 have:=h.uL (x:=x) (w:=R l) e (by rw[a];exact(h l c).2.1) (by rw[a];have:=(h l c).2.2;omega);rwa [show aS R l (R l)=R from qF] at this
theorem Mv.up {H:kK} {R:Nat->List aJ} {i:Nat} (h:Mv H R i):Mv H R (i+1):=fun k a=>⟨(h k a).1,(h k a).2.1,by have:=(h k a).2.2;omega⟩
theorem F4 {r:Row} {line:Int} {d:Ln}:(r.eE line d).2.length<=4:=by
 unfold Row.eE;grind
theorem D1 {line st:Int} {l:List Nat}:(eG line st l).length=l.length:=by simp[eG]
theorem Rv {r:Row} {line:Int} {m:Ln} {n:aJ} {w:Int}:(r.get line m n w).2.length<=4:=by
 unfold Row.get;simp only;split;unfold Row.getM;split;rw[D1];exact uO;exact F4;unfold Row.Tq;split;simp[D1];exact F4
theorem g9 {r:Row} {line:Int} {m:Ln} {n:aJ} {j:Int->Int×Bool}:(r.begun line m n j).2.length<=4:=by
 unfold Row.begun;split;simp;split;split;exact Rv;simp;split;simp;rw[D1];exact uO
theorem Rw {C:bP} {H:kK} {l:Int} {j:Int->Int×Bool}:(hU C H l j).2.1.length<=4:=by
 unfold hU;split;unfold mA.begin;split;simp;split;simp;exact g9;simp
end Go.Hm
end
namespace Go.Mc
open Go Go.Ab Go.Hm Go.At Go.Is Go.Ct Go.Nt
section
structure iA (C:bP) (m:Mon):Prop where
 len:m.dQ.length=C.aN.toNat
 own:∀x∈m.dQ,0<=x.owner/\x.owner<=4
 run:∀g r,m.runs g=some r->(g:Int)<C.aN/\r.bK=g/\(r.phase=1\/r.phase=2)/\(0<=r.core/\r.core<C.aE)/\(0<=r.then'/\r.then'<=4)
def pg (Cf:bP) (F:gL):Prop:=∀c w,(F c w).length<=Cf.depth
theorem iA.kT {C:bP} {m:Mon} (h:iA C m) {g:Int} (a:m.has g):0<=(m.kT g).owner/\(m.kT g).owner<=4:=by
 refine h.own _ ?_;unfold Mon.has at a;unfold Mon.kT;grind
theorem iA.aGp {C:bP} {m:Mon} (hC:C.Ok) (a:iA C m):∀g r,m.runs g=some r->g<16:=by
 intro g r c;have:=(a.run g r c).1;have:=hC.2.1;omega
theorem pg.W3 {Cf:bP} {F:gL} (hC:Cf.Ok) (h:pg Cf F):∀c w,(F c w).length<=500:=by
 intro c w;have:=h c w;have:=hC.2.2.2.2.1;omega
structure qb (Cf:bP) (M:dB) (i:Nat):Prop where
 cE:iA Cf M.cE
 Gi:(M.aC i).Ok
 Zp:iG Cf (M.dG i)
 pG:(M.cQ i).known.length<=100
 kM:pg Cf M.kM
 log:M.log.length<=2^30
structure xS (Cf:bP) (M:dB) (n:aJ):Prop where
 core:0<=n.core/\n.core<Cf.aE
 cE:iA Cf M.cE
 home:yC Cf M.home (2^30 - 4)
 Zp:iG Cf (M.dG n.core.toNat)
 pG:(M.cQ n.core.toNat).known.length<=100
 bK:0<=(M.cQ n.core.toNat).bK/\(M.cQ n.core.toNat).bK<Cf.aN
 word:n.kind=12->0<=n.d0/\n.d0<=1000000
structure j6 (C:bP) (n:aJ):Prop where
 pG:pG C n=0
 word:n.kind=12->0<=n.d0/\n.d0<=1000000
def Sm (C:bP) (N:Nat) (H:kK):Prop:=∀l,l<C.lines->oZ l (H l).1/\(H l).1.waits.length<=N
structure Lr (C:bP) (F:gL):Prop where
 len:pg C F
 note:∀c w,∀n∈F c w,j6 C n/\n.core.toNat=c/\fX n=w
def yM (C:bP) (c:kE):Prop:=(c.known.length:Int)<=C.entries/\0<=c.bK/\c.bK<C.aN
structure eI (C:bP) (N:Nat) (M:dB):Prop where
 cE:iA C M.cE
 Gi:∀i:Nat,(i:Int)<C.aE->(M.aC i).Ok
 Zp:∀i:Nat,(i:Int)<C.aE->iG C (M.dG i)
 pG:∀i:Nat,(i:Int)<C.aE->yM C (M.cQ i)
 home:Sm C N M.home
 kM:Lr C M.kM
 log:M.log.length<=N
variable {C:bP} {N:Nat} {M:dB}
theorem Sm.h {H:kK} (h:Sm C N H) {K:Nat} (c:N<=K):yC C H K:=fun l a=>⟨(h l a).1.inv,Nat.le_trans (h l a).2 c⟩
theorem yM.len (hC:C.Ok) {c:kE} (h:yM C c):c.known.length<=100:=by
 have:=h.1;have:C.entries<=8:=by unfold bP.Ok at hC;omega
 omega
theorem eI.step (h:eI C N M) (hC:C.Ok) (c:N<=2^29) {i:Nat} (a:(i:Int)<C.aE):qb C M i:=⟨h.cE,h.Gi i a,h.Zp i a,(h.pG i a).len hC,h.kM.len,by have:=h.log;omega⟩
theorem Ey {n:aJ} (h:pG C n=0):Nu n.kind/\0<=n.core/\n.core<C.aE:=by
 unfold Nt.pG at h;split at h
 .rename_i f;split at h
  .split at h
   .rename_i j;refine⟨f,?_⟩;have a:=j.1;unfold Nu at f;have:∃c,C4 n.kind.toNat=1::c:=by
     rcases k14 (k:=n.kind.toNat) (by omega) with e|e|e|e|e|e|e|e|e|e|e|e|e|e;omega;all_goals rw[e];exact⟨_,rfl⟩
    obtain⟨c,g⟩:=this;rw[g] at a;unfold oJ at a;split at a;rename_i i;exact i;cases a
   cases h
  cases h
 cases h
theorem ir {n:aJ} (h:pG C n=0) (c:n.kind=8):n.state=1\/n.state=2\/n.state=4:=by
 unfold Nt.pG at h;rw[c] at h;split at h;split at h;split at h;rename_i f;have a:=f.1;rw[show C4 (8:Int).toNat=[1,2,4,6,8,9] from rfl] at a;simp only[oJ] at a;split at a;split at a;split at a;split at a;rename_i e;exact e;cases a;cases a;cases a;cases a;cases h;cases h;cases h
theorem Lb {F:gL} {a b c:Int} (hF:Lr C F) (e:(F.take C a b c).2.2=0):j6 C (F.take C a b c).2.1/\(F.take C a b c).2.1∈F a.toNat b.toNat:=by
 unfold gL.take at e ⊢;by_cases i:(0<=a/\a<C.aE)/\(0<=b/\b<4);rw[aJ6 (fun h=>h i)] at e ⊢;dsimp only at e ⊢;by_cases f:F a.toNat b.toNat=[];grind;rw[aJ6 f];have q:0<(F a.toNat b.toNat).length:=List.length_pos_iff.2 f;have hb:(c % ((F a.toNat b.toNat).length:Int)).toNat<(F a.toNat b.toNat).length:=by
  have j:=Int.emod_nonneg c (show((F a.toNat b.toNat).length:Int)≠0 by omega);have k:=Int.emod_lt_of_pos c (show(0:Int)<((F a.toNat b.toNat).length:Int) by omega);omega
 have g:(F a.toNat b.toNat).getD (c % ((F a.toNat b.toNat).length:Int)).toNat aJ.zero∈F a.toNat b.toNat:=by
  grind
 exact⟨(hF.note _ _ _ g).1,g⟩;grind
theorem Tl {F:gL} {a b c:Int} (hF:Lr C F):Lr C (F.take C a b c).1:=by
 unfold gL.take;split;exact hF;dsimp only;split;exact hF;constructor;intro x y;unfold gL.set;dsimp only;split;rename_i e;have:=hF.len x y;grind;exact hF.len x y;intro x y n f;unfold gL.set at f;dsimp only at f;split at f;rename_i e;have:=hF.note _ _ n (List.mem_of_mem_eraseIdx f);grind;exact hF.note x y n f
theorem aA2 {F:gL} {n:aJ} (hF:Lr C F) (f:j6 C n) (c:((F n.core.toNat (fX n)).length:Int)<C.depth):Lr C (F.put n):=by
 constructor;intro x y;unfold gL.put gL.set;split;grind;exact hF.len x y;intro x y k a;unfold gL.put gL.set at a;split at a;rename_i e;rcases List.mem_append.1 a with a|a;rw[e.1,e.2];exact hF.note _ _ k a;grind;exact hF.note x y k a
theorem ql:∀{l:List aJ} {F a:gL},Lr C F->(∀n∈l,j6 C n)->gL.yX C.depth F l=some a->Lr C a:=by
 intro l;induction l with
 |nil=>intro F a hF _ h;cases h;exact hF
 |cons n l g=>
  intro F a hF c h;unfold gL.yX at h;split at h;rename_i e;exact g (aA2 hF (c n List.mem_cons_self) e) (fun k f=>c k (List.mem_cons_of_mem _ f)) h;cases h
theorem Eh:∀{l:List aJ},cQ C l=0->∀n∈l,Nt.pG C n=0
 |[],_,n,a=>by cases a
 |k::l,h,n,a=>by
  unfold cQ at h;split at h;grind;rename_i c;rcases List.mem_cons.1 a with rfl|a;simpa using c;exact Eh h n a
theorem Ax {F:gL} {l:List aJ} (hF:Lr C F) (f:∀n∈l,n.kind=12->0<=n.d0/\n.d0<=1000000):Lr C (F.send C l).1:=by
 unfold gL.send;split;exact hF;rename_i c;split;rename_i g e;exact ql hF (fun n a=>⟨Eh (by simpa using c) n a,f n a⟩) e;exact hF
theorem Kw {s:aK} (a:s.Ok) (h:s.over=false):Fits (kI s.prog s.at') s.prog.length/\s.at'<s.prog.length:=by
 have c:=a.2.2.1;rw[h] at c;have e:=E0 c.symm;exact⟨D5 (a.2.2.2.2 _ (zP a.1 e)),e⟩
theorem oS {s t:aK} {a:Int} (c:s.Ok) (f:t.prog=s.prog) (e:0<=a) (g:a<=s.prog.length):(t.fM a).Ok:=by
 unfold aK.Ok aK.fM;dsimp only;rw[f];exact⟨e,by have:=c.2.2.2.1;omega,rfl,c.2.2.2.1,c.2.2.2.2⟩
theorem Tm {s:aK} {i:Nat} {r:aK×Ev} (a:s.Ok) (h:aK.gU s i=some r):r.1.Ok:=by
 unfold aK.gU aK.next? at h;cases hov:s.over with
 |true=>grind
 |false=>
  rw[hov] at h;simp only[Bool.false_eq_true,if_false] at h;obtain⟨c,g⟩:=Kw a hov;have f:=a.1;split at h;cases h;exact oS a rfl (by omega) (by omega);split at h;cases h;exact oS a rfl (by omega) (by omega);split at h;cases h;exact oS a rfl (by omega) (by omega);split at h;split at h;cases h;exact oS a rfl (by omega) (by omega);cases h;exact oS a rfl (by omega) (by omega);split at h;rename_i e;have:=c.p1 e;cases h;exact oS a rfl (by omega) (by omega);split at h;rename_i e;have:=c.p2 e;cases h;refine oS a rfl ?_ ?_;split<;>omega;split<;>omega;cases h
theorem Bb {s:aK} {i:Nat} {v c:Int} (a:s.Ok):(aK.bI s i v c).1.Ok:=by
 unfold aK.bI;cases hn:aK.next? s with
 |none=>exact a
 |some x=>
  have e:s.over=false:=by
   unfold aK.next? at hn;cases h:s.over with
   |false=>rfl
   |true=>rw[h] at hn;simp at hn
  obtain⟨g,j⟩:=Kw a e;have f:=a.1;dsimp only;split;exact oS a rfl (by omega) (by omega);split;split;exact a;split;exact oS a rfl (by omega) (by omega);split;exact oS a rfl (by omega) (by omega);exact oS a rfl (by omega) (by omega);exact a
theorem vb (hC:C.Ok) {c:kE} {f:Int×Int} (h:yM C c):yM C (c.A8 C f):=by
 have a:1<=C.entries:=by unfold bP.Ok at hC;omega
 refine⟨?_,h.2⟩;unfold kE.A8;dsimp only;have:=h.1;grind
theorem mj {c:kE} {g:Int} (h:yM C c):yM C (c.begin C g).1:=by
 unfold kE.begin;split;exact h;rename_i a;split;exact h;split;exact h;refine⟨h.1,?_⟩;show 0<=g/\g<C.aN;simpa using a
theorem jl (hC:C.Ok) {c:kE} {a w:Int} (h:yM C c):yM C (c.walked C a w).1:=by
 have e:1<=C.aN:=hC.2.1.1;unfold kE.walked;split;exact h;split;exact h;split;exact h;dsimp only;split;exact h;split;exact h;split;exact h;refine⟨(vb hC h).1,?_⟩;show(0:Int)<=0/\(0:Int)<C.aN;omega
theorem yw {c:kE} {g:Int} (h:yM C c):yM C (c.drop C g).1:=by
 unfold kE.drop;split;exact h;refine⟨?_,h.2⟩;have:=List.length_filter_le (fun x:Int×Int=> !decide (g= -1\/x.1=g)) c.known;have:=h.1;dsimp only;omega
end
section
variable {C:bP} {N:Nat} {M:dB}
theorem eI.mono {K:Nat} (h:eI C N M) (c:N<=K):eI C K M:=⟨h.cE,h.Gi,h.Zp,h.pG,fun l a=>⟨(h.home l a).1,Nat.le_trans (h.home l a).2 c⟩,h.kM,Nat.le_trans h.log c⟩
theorem Rn {α:Type} {P:α->Prop} {s:Nat->α} {i:Nat} {t:α} {n:Int} (h:∀j:Nat,(j:Int)<n->P (s j)) (c:P t):∀j:Nat,(j:Int)<n->P (aS s i t j):=by
 intro j a;unfold aS;grind
theorem eI.dN (h:eI C N M) {F:gL} (hF:Lr C F):eI C N (M.dN F):={h with kM:=hF}
theorem eI.iY (h:eI C N M) {m:Mon} (a:iA C m):eI C N (M.iY m):={h with cE:=a}
theorem eI.qH (h:eI C N M) {H:kK} {K:Nat} (c:N<=K) (a:Sm C K H):eI C K (M.qH H):={h.mono c with home:=a}
theorem eI.uG (h:eI C N M) {i:Nat} {c:gV} (hc:iG C c):eI C N (M.uG i c):={h with Zp:=Rn h.Zp hc}
theorem eI.Dy (h:eI C N M) {i:Nat} {c:kE} (hc:yM C c):eI C N (M.Dy i c):={h with pG:=Rn h.pG hc}
theorem eI.iZ (h:eI C N M) {i:Nat} {c:aK} (hc:c.Ok):eI C N (M.iZ i c):={h with Gi:=Rn h.Gi hc}
theorem eI.Rt (h:eI C N M) {v:Ev}:eI C (N+1) (M.Rt v):={h.mono (Nat.le_succ N) with log:=by show(M.log++[v]).length<=N+1;rw[List.length_append,List.length_singleton];have:=h.log;omega}
theorem aAv {m:Mon} (h:iA C m) {g:Int} (a:m.has g):0<=(m.kT g).owner/\(m.kT g).owner<=4:=by
 refine h.own _ ?_;unfold Mon.has at a;unfold Mon.kT;grind
theorem Ze {m:Mon} (h:iA C m) {g:Nat} {x:hZ} (c:0<=x.owner/\x.owner<=4):iA C (m.pZ g x):=
 ⟨by show(m.dQ.set g x).length=_;rw[List.length_set];exact h.len,fun y a=>by
  rcases List.mem_or_eq_of_mem_set a with a|rfl;exact h.own y a;exact c,h.run⟩
theorem Qk {m:Mon} (h:iA C m) {g:Nat} {x:Option Mc.jE} (c:∀r,x=some r->(g:Int)<C.aN/\r.bK=g/\(r.phase=1\/r.phase=2)/\(0<=r.core/\r.core<C.aE)/\(0<=r.then'/\r.then'<=4)):iA C (m.cR g x):=
 ⟨h.len,h.own,fun k r a=>by
  unfold Mon.cR aS at a;dsimp only at a;split at a;grind;exact h.run k r a⟩
theorem s9 {c w o t:Int}:0<=(fL c w o t).1/\(fL c w o t).1<=4:=by
 unfold fL;grind
theorem vu {m:Mon} (h:iA C m) {a:Mc.Ask}:iA C (m.call C.aE a).1:=by
 unfold Mon.call;split;exact h;rename_i f;split;exact h;rename_i c;have c:m.has a.bK:=Decidable.not_not.1 c;split;exact h;split;exact h;dsimp only;split;exact h;have i:=h.len;have e:=c;unfold Mon.has at e;refine Qk (Ze h (x:=⟨(m.kT a.bK).owner,true⟩) (aAv h c)) fun r g=>?_;cases g;refine⟨by omega,?_,.inl rfl,Decidable.not_not.1 f,s9⟩;show a.bK=_;omega
theorem Ht {m:Mon} (h:iA C m) {g c:Int}:iA C (m.dropped C.aE g c).1:=by
 unfold Mon.dropped;split;exact h;rename_i j;have j:m.has g:=Decidable.not_not.1 j;split;exact h;rename_i r f;split;exact h;split;exact h;unfold Mon.run at f;split at f;refine Qk h fun k i=>?_;cases i;obtain⟨a,b,c,d,e⟩:=h.run _ r f;refine⟨a,b,?_,d,e⟩;unfold jE.gZ jE.heard;grind;cases f
theorem Vr {m:Mon} (h:iA C m) {g:Int}:iA C (m.over g).1/\∀u,(m.over g).2.1=some u->0<=u.core/\u.core<C.aE:=by
 unfold Mon.over;split;grind;split;grind;rename_i r f;split;grind;unfold Mon.run at f;split at f;obtain⟨a,b,c,d,e⟩:=h.run _ r f;exact⟨Qk (Ze h e) (fun r f=>by cases f),(fun u i=>by cases i;exact d)⟩;cases f
theorem Sm.uL {H:kK} (h:Sm C N H) {l:Nat} {x:mA} (c:oZ l x.1) (e:x.1.waits.length<=N+1):Sm C (N+1) (aS H l x):=by
 intro k a;unfold aS;split;grind;exact⟨(h k a).1,Nat.le_succ_of_le (h k a).2⟩
theorem Sm.mono {H:kK} {K:Nat} (h:Sm C N H) (c:N<=K):Sm C K H:=fun l a=>⟨(h l a).1,Nat.le_trans (h l a).2 c⟩
theorem Od {H:kK} {l:Int} (h:Sm C N H):Sm C (N+1) (jA C H l).1:=by
 unfold jA;split;rename_i a;obtain⟨k,rfl⟩:=Int.eq_ofNat_of_zero_le a.1;have e:k<C.lines:=by have:=a.2;omega
 simp only[Int.toNat_natCast];obtain⟨c,f⟩:=h k e;refine h.uL (By c rfl (by show(0:Int)<=0/\(0:Int)<4;omega) (.inl rfl)) ?_;show((H k).1.waits++[mS k]).length<=N+1;simp;omega;exact h.mono (Nat.le_succ N)
theorem wb {H:kK} {n:aJ} (hC:C.Ok) (h:Sm C N H):Sm C (N+1) (fD C H n).1:=by
 have s:=hC.1;unfold fD;split;exact h.mono (Nat.le_succ N);rename_i f;have f:fI n.kind:=Decidable.not_not.1 f;split;rename_i u;obtain⟨v,i⟩:=u;obtain⟨l,a⟩:=Int.eq_ofNat_of_zero_le i.1;have t:l<C.lines:=by have:=i.2;omega
 have e:n.line.toNat=l:=by omega
 simp only[e];obtain⟨j,k⟩:=h l t;have q:=lu (x:=H l) j f a (by omega);rw[a];refine h.uL q ?_;by_cases c:n.kind=4;unfold mA.take;rw[aJ7 c];split;grind;exact Nat.le_succ_of_le k;by_cases g:n.kind=5;unfold mA.take;rw[aJ6 c,aJ7 g];split;grind;simp only[mA.mW,Xi,qU];omega;unfold mA.take;rw[aJ6 c,aJ6 g];show((H l).1.waits++[n]).length<=N+1;simp;omega;exact h.mono (Nat.le_succ N)
theorem ib {H:kK} {l:Int} {j:Int->Int×Bool} (h:Sm C N H):Sm C (N+1) (hU C H l j).1:=by
 unfold hU;split;rename_i i;obtain⟨k,rfl⟩:=Int.eq_ofNat_of_zero_le i.1;have q:k<C.lines:=by have:=i.2;omega
 simp only[Int.toNat_natCast];obtain⟨e,g⟩:=h k q;unfold mA.begin;split;exact h.uL e (Nat.le_succ_of_le g);rename_i hb;cases hw:(H k).1.waits with
 |nil=>exact h.uL e (Nat.le_succ_of_le g)
 |cons n w=>
  simp only;have f:=e.waits n (by grind);obtain⟨a,b,c⟩:=lg (m:=(H k).2) (j:=j) (Bt e hw) (show((H k).1.next w).busy=false from(by simpa using hb:(H k).1.busy=false)) f.1 f.2.1 f.2.2;refine h.uL a ?_;rw[T4];show w.length<=N+1;grind
 exact h.mono (Nat.le_succ N)
theorem j9 {H:kK} {g:Int} (h:Sm C N H):Sm C N (mR H g):=by
 intro l a;unfold mR;split;exact h l a;exact h l a
theorem fa {n g:Int} (c:0<=n/\n<=16) (a:0<=g/\g<=100):0<=iR n g/\iR n g<=1000:=by unfold iR;omega
theorem o7 {es:List hZ} (s:es.length<=16) (i:∀x∈es,0<=x.owner/\x.owner<=4) {a:Int}:0<=(iO es a).1/\(iO es a).1<=1000000:=by
 have f:∀k,0<=(es.getD k iI).owner/\(es.getD k iI).owner<=4:=by
  intro k;rw[List.getD_eq_getElem?_getD];cases hk:es[k]? with
  |none=>show(0:Int)<=0/\(0:Int)<=4;omega
  |some x=>grind
 have c:∀w∈iC es,0<=w/\w<=1000000:=by
  intro w hw;unfold iC at hw;rcases List.mem_append.1 hw with hw|hw;obtain⟨j,e,rfl⟩:=List.mem_map.1 hw;have e:=List.mem_range.1 e;unfold Nj;split;grind;have:=fa (n:=es.length) (g:=((4*j:Nat):Int)) (by omega) (by omega);omega;obtain⟨x,q,rfl⟩:=List.mem_map.1 hw;have:=i x q;unfold Qt;split<;>omega
 unfold iO;split;simp_all;grind
theorem Ad (h:eI C N M) {i:Nat} {v c:Int} (a:(i:Int)<C.aE):eI C (N+1) (M.bI i v c).1:=by
 unfold dB.bI;dsimp only;split;exact h.mono (Nat.le_succ N);exact(h.iZ (Bb (h.Gi i a))).Rt
def KK (k:Int):Prop:=k=6\/k=7\/k=12\/k=13
theorem aDr {l:List aJ} (h:∀n∈l,n.kind≠12):∀n∈l,n.kind=12->0<=n.d0/\n.d0<=1000000:=fun n a e=>absurd e (h n a)
theorem noK {l:List aJ} (h:∀n∈l,¬KK n.kind):∀n∈l,n.kind=12->0<=n.d0/\n.d0<=1000000:=aDr fun n a e=>h n a (by unfold KK;omega)
theorem aC3 (h:eI C N M) {i:Nat} {a:Mc.Ask} (e:(i:Int)<C.aE):eI C (N+1) (M.call C i a).1:=by
 unfold dB.call;dsimp only;split;exact Ad h e;split;exact h.mono (Nat.le_succ N);refine((h.dN (Ax h.kM (aDr ?_))).iY (vu h.cE)).mono (Nat.le_succ N);intro n c;unfold tL at c;obtain⟨k,_,rfl⟩:=List.mem_map.1 c;show(13:Int)≠12;omega
theorem aD0 (h:eI C N M) {i:Nat} {g:Int} (a:(i:Int)<C.aE):eI C (N+1) (M.walk C i g).1:=by
 unfold dB.walk;dsimp only;split;exact h.mono (Nat.le_succ N);split;exact h.mono (Nat.le_succ N);refine((h.dN (Ax h.kM (aDr ?_))).Dy (mj (h.pG i a))).mono (Nat.le_succ N);intro n c;rw[List.mem_singleton.1 c];show(6:Int)≠12;omega
theorem u6 {core:Int} {s:gV} {l w:Int} {wr:Bool}:∀n∈(want C core s l w wr).2.1,¬KK n.kind:=by
 intro n a;unfold want at a;split at a;cases a;split at a;cases a;split at a;cases a;split at a;cases a;unfold A5 at a;split at a;simp only[mO,List.nil_append,List.mem_singleton] at a;rw[a];unfold KK;grind;split at a;cases a;split at a;cases a;simp only[mO,List.mem_append,List.mem_singleton] at a;rcases a with rfl|rfl;unfold KK;dsimp only;omega;unfold KK;grind
theorem aEa (h:eI C N M) {i:Nat} {l:Int} {wr:Bool} (a:(i:Int)<C.aE):eI C (N+1) (M.want C i l wr).1:=by
 unfold dB.want;dsimp only;split;exact h.mono (Nat.le_succ N);split;exact h.mono (Nat.le_succ N);exact((h.dN (Ax h.kM (noK u6))).uG (ky (h.Zp i a))).mono (Nat.le_succ N)
theorem aEi (h:eI C N M) {i:Nat} {l a o:Int} {x:Acc} (c:(i:Int)<C.aE):eI C (N+1) (M.gI C i l a o x).1:=by
 unfold dB.gI;dsimp only;refine Ad (h.uG ?_) c;have e:iG C (if x.read=true then mL C (M.dG i) l a o else M.dG i):=by
  split;exact G9 (h.Zp i c);exact h.Zp i c
 split;exact Mt e;exact e
theorem ua (h:eI C N M) {i:Nat} {a:Acc} (c:(i:Int)<C.aE):eI C (N+1) (M.access C i a).1:=by
 unfold dB.access;split;exact Ad h c;dsimp only;split;exact h.mono (Nat.le_succ N);split;exact aD0 h c;split;exact Ad h c;split;exact aEa h c;exact aEi h c
theorem aCl (h:eI C N M) {a:Int}:eI C (N+1) (M.step C a).1:=by
 unfold dB.step;split;exact h.mono (Nat.le_succ N);rename_i e;have e:0<=a/\a<C.aE:=Decidable.not_not.1 e;have c:((a.toNat:Nat):Int)<C.aE:=by omega
 dsimp only;split;exact h.mono (Nat.le_succ N);split;exact h.mono (Nat.le_succ N);split;rename_i r f;exact(h.iZ (Tm (h.Gi _ c) f)).Rt;split;exact aC3 h c;split;exact ua h c;exact h.mono (Nat.le_succ N)
theorem Ry {r:Row} {line:Int} {d:Ln}:∀n∈(r.eE line d).2,¬KK n.kind:=by
 intro n a;unfold Row.eE at a;have e:∀s,(r.jW line s d).kind=8:=fun _=>rfl;unfold KK;grind
theorem Ju {line st:Int} {l:List Nat}:∀n∈eG line st l,¬KK n.kind:=by
 intro n a;unfold eG at a;obtain⟨k,_,rfl⟩:=List.mem_map.1 a;show ¬KK 11;unfold KK;omega
theorem aCq {r:Row} {line:Int} {m:Ln}:∀n∈(r.rest line m).2,¬KK n.kind:=by
 intro n a;unfold Row.rest at a;have c:= @Ry;grind
theorem O5 {H:kK} {n:aJ}:∀x∈(fD C H n).2.1,¬KK x.kind:=by
 intro x a;unfold fD at a;split at a;cases a;split at a;unfold mA.take at a;split at a;split at a<;>cases a;split at a;split at a;cases a;exact aCq x a;cases a;cases a
theorem aG4 {r:Row} {line:Int} {m:Ln} {n:aJ} {w:Int}:∀x∈(r.get line m n w).2,¬KK x.kind:=by
 intro x a;unfold Row.get at a;dsimp only at a;split at a;unfold Row.getM at a;split at a;exact Ju x a;exact Ry x a;unfold Row.Tq at a;split at a;exact Ju x a;exact Ry x a
theorem Ll {H:kK} {l:Int} {j:Int->Int×Bool}:∀x∈(hU C H l j).2.1,¬KK x.kind:=by
 intro x a;unfold hU at a;split at a;unfold mA.begin at a;split at a;cases a;split at a;cases a;dsimp only at a;unfold Row.begun at a;split at a;rw[List.mem_singleton.1 a];show ¬KK 10;unfold KK;omega;split at a;split at a;exact aG4 x a;rw[List.mem_singleton.1 a];show ¬KK 9;unfold KK;omega;split at a;cases a;exact Ju x a;cases a
theorem bh {core:Int} {s:gV} {n:aJ}:∀x∈(fT C core s n).2.1,¬KK x.kind:=by
 intro x a;have e:∀y,(gR core n y).kind=5:=fun y=>by unfold gR;split<;>rfl
 unfold fT vB Ex sA nJ at a;repeat' split at a
 all_goals (unfold KK;grind)
theorem eI.take (h:eI C N M) (hC:C.Ok) (g:N<=2^29) {n:aJ} (c:j6 C n):xS C M n:=by
 obtain⟨f,e⟩:=Ey c.pG;have a:((n.core.toNat:Nat):Int)<C.aE:=by omega
 exact⟨e,h.cE,h.home.h (by omega),h.Zp _ a,(h.pG _ a).len hC,(h.pG _ a).2,c.word⟩
theorem zx (h:eI C N M) (hC:C.Ok) {n:aJ} (f:j6 C n):eI C (N+2) (M.fI C n).1/\∀x∈(M.fI C n).2.1,x.kind=12->0<=x.d0/\x.d0<=1000000:=by
 obtain⟨j,k⟩:=Ey f.pG;have c:((n.core.toNat:Nat):Int)<C.aE:=by omega
 have q:=h.cE.len;have i:=hC.2.1;unfold dB.fI;split;exact⟨(h.qH (Nat.le_succ N) (wb hC h.home)).mono (Nat.le_succ _),noK O5⟩;split;refine⟨(h.uG (Py ?_ (h.Zp _ c))).mono (by omega),noK bh⟩;intro g;have:=ir f.pG g;omega;split;refine⟨h.mono (by omega),fun x a _=>?_⟩;rw[List.mem_singleton.1 a];exact o7 (by omega) h.cE.own;split;refine⟨(h.Dy (jl hC (h.pG _ c))).mono (by omega),fun x a e=>?_⟩;dsimp only at a;split at a;cases a;rw[List.mem_singleton.1 a] at e;exact absurd e (by show(6:Int)≠12;omega);split;refine⟨(h.Dy (yw (h.pG _ c))).mono (by omega),fun x a e=>?_⟩;rw[List.mem_singleton.1 a] at e;exact absurd e (by show(7:Int)≠12;omega);split;refine⟨?_,fun x a _=>by cases a⟩;dsimp only;split;exact(h.iY (Ht h.cE)).qH (by omega) (Od (Od h.home));exact(h.iY (Ht h.cE)).mono (by omega);exact⟨h.mono (by omega),fun x a _=>by cases a⟩
theorem du (h:eI C N M) (hC:C.Ok) {a b c:Int}:eI C (N+2) (M.sB C a b c).1:=by
 unfold dB.sB;dsimp only;split;exact h.mono (by omega);rename_i g;obtain⟨e,f⟩:=zx h hC (Lb (a:=a) (b:=b) (c:=c) h.kM (Decidable.not_not.1 g)).1;split;exact h.mono (by omega);split;exact h.mono (by omega);exact e.dN (Ax (Tl h.kM) f)
theorem y0 (h:eI C N M) {a:Int}:eI C (N+2) (M.begin C a).1:=by
 unfold dB.begin;dsimp only;split;exact h.mono (by omega);split;exact h.mono (by omega);exact((h.dN (Ax h.kM (noK Ll))).qH (Nat.le_succ N) (ib h.home)).mono (by omega)
theorem th (h:eI C N M) {a:Int}:eI C (N+2) (M.finish C a).1:=by
 obtain⟨c,e⟩:=Vr (g:=a) h.cE;unfold dB.finish;split;exact h.mono (by omega);split;exact h.mono (by omega);dsimp only;split;exact h.mono (by omega);rename_i u f;have i:=e u f;refine(Ad (N:=N) ?_ (by omega)).mono (by omega);split;exact(h.iY c).qH (Nat.le_refl N) (j9 h.home);exact h.iY c
theorem aBg (h:eI C N M) (hC:C.Ok) {d:Do}:eI C (N+2) (M.C9 C d).1:=by
 unfold dB.C9;split;exact(aCl h).mono (by omega);split;exact du h hC;split;exact y0 h;split;exact th h;exact h.mono (by omega)
end
end Go.Mc
section
open Go Go.Ab
attribute [local irreducible] bG Br pK sD tZ Cq mN wW lR Rs gX mT rA rG pJ kU zA vE V9 V4 Ro Ps Vv Qm Jp Nb Vm lB oL tX jK copyV iQ xK V7 V8 Hn lG Nc Sp V2 oA rY yU Ao Cl yO Vx tE sC kJ hT setLoop cT
namespace Go.Proofs.YtajjljbmfdboaaaGreatDoor
open Go Go.Ab Go.Hm Go.At
section
set_option maxRecDepth 100000
variable {G:Bg} {h:AH} {L L':List HP} {Q:Value->AH->Prop}
theorem uy {C:bP} (hC:C.Ok) {mb l:Nat} {mem:Nat->Ln} (q:l<C.lines) (e:Hs G h (eO G C.lines mb C mem::L)):
  ∃(b o cap:Nat) (r w:Int) (b2 o2 cp:Nat) (H:HP),Hs G h (aG mb 0 (C.enc++[.slice (some ⟨b,o,none⟩) C.aT.toNat cap])::aG b (o+(l % C.aT.toNat)*3) [I r,I w,.slice (some ⟨b2,o2,none⟩) (iB C.lines C.aT.toNat (l % C.aT.toNat)) cp]::aG b2 (o2+l/C.aT.toNat*2) (M6 (mem l))::H::L)/\
   ∀v g M,Hs G g (aG mb 0 (C.enc++[.slice (some ⟨b,o,none⟩) C.aT.toNat cap])::aG b (o+(l % C.aT.toNat)*3) [I r,I w,.slice (some ⟨b2,o2,none⟩) (iB C.lines C.aT.toNat (l % C.aT.toNat)) cp]::aG b2 (o2+l/C.aT.toNat*2) (M6 v)::H::M)->Hs G g (eO G C.lines mb C (aS mem l v)::M):=by
 have hb:=bP.bk hC
 obtain⟨b,o,cap,e⟩:=wJ e
 have e:=(e.front (dF C.aT.toNat fun i=>fY C.lines C.aT.toNat b (o+i*3) i mem)).jX (l % C.aT.toNat) (Nat.mod_lt _ hb.2.1)
 obtain⟨r,w,a,cp,e⟩:=Bv e
 have j:=Iv hb.2.1 q
 obtain⟨b2,o2,rfl,H,e,f⟩:=Hs.py (Q5 (B:=C.aT.toNat) (i:=l % C.aT.toNat) (mem:=mem)) j (e.front (cN 2 155 a cp (iB C.lines C.aT.toNat (l % C.aT.toNat),(List.range (iB C.lines C.aT.toNat (l % C.aT.toNat))).flatMap (M9 C.aT.toNat (l % C.aT.toNat) mem))))
 rw[sv hb.2.1] at e
 refine⟨b,o,cap,r,w,b2,o2,cp,sp [H,sp (((List.range C.aT.toNat).erase (l % C.aT.toNat)).map fun i=>fY C.lines C.aT.toNat b (o+i*3) i mem),hole G 3 297 (some ⟨b,o,none⟩) cap C.aT.toNat b o],e.to,?_⟩
 intro v g M e
 have e:=(e.front (sp [H,sp (((List.range C.aT.toNat).erase (l % C.aT.toNat)).map fun i=>fY C.lines C.aT.toNat b (o+i*3) i mem),hole G 3 297 (some ⟨b,o,none⟩) cap C.aT.toNat b o])).D2
 have e:=f _ _ _ rfl rfl (e.cI (aG b2 (o2+l/C.aT.toNat*2) (M6 v)) H)
 rw[R2 hb.2.1] at e
 have e:=pM (e.sg (b:=b) (o:=o+l % C.aT.toNat*3) (c:=[I r,I w,.slice (some ⟨b2,o2,none⟩) (iB C.lines C.aT.toNat (l % C.aT.toNat)) cp]) rfl)
 exact sN (b:=b) (o:=o) (cap:=cap) ((e.lA (n:=C.aT.toNat) (i:=l % C.aT.toNat) (fun i=>fY C.lines C.aT.toNat b (o+i*3) i mem) (fun i=>fY C.lines C.aT.toNat b (o+i*3) i (aS mem l v)) (Nat.mod_lt _ hb.2.1) (fun i s k=>by simp only[fY,w6 s k])).to)
theorem au {C:bP} (hC:C.Ok) {mb w:Nat} {mem:Nat->Ln} (j:Ob G 0 eT) (a:Hs G h (eO G C.lines mb C mem::L)) (s:w<C.lines*2)
  (q:∀(b2 o2:Nat) (H:HP) c,Hs G c (aG b2 o2 (M6 (mem (w/2)))::H::L)->(∀v c M,Hs G c (aG b2 o2 (M6 v)::H::M)->Hs G c (eO G C.lines mb C (aS mem (w/2) v)::M))->Q (.tuple ⟨[pt b2 o2 (0+w % 2*1),I 0]⟩) c):Cl Pr K 144 [pt mb 0 0,I w] h Q:=by
 have hb:=bP.bk hC
 have f:w/2<C.lines:=by omega
 obtain⟨b,o,cap,r,k,b2,o2,i,H,a,e⟩:=uy hC f a
 refine cW (dD (cG (bW (aB (aA (an mb a (l:=C.enc) rfl rfl (Gx hC j a fun h a=>?_)))))))
 rw[aac]
 refine aH rfl (aH rfl (aH rfl (bC (aab (bW ?_)))))
 rw[Int.toNat_natCast]
 refine uU hC j a f fun h a=>aH rfl (aH rfl (aH rfl (bC (aab (aB (aA (aD (b:=b) (o:=o+(w/2) % C.aT.toNat*3) a rfl ?_)))))))
 have g:=Iv hb.2.1 f
 refine dM g (fQ (by omega) ?_)
 refine q _ _ (sp [aG mb 0 (C.enc++[.slice (some ⟨b,o,none⟩) C.aT.toNat cap]),aG b (o+(w/2 % C.aT.toNat)*3) [I r,I k,.slice (some ⟨b2,o2,none⟩) (iB C.lines C.aT.toNat (w/2 % C.aT.toNat)) i],H]) _ a.to fun v c M a=>?_
 have a:=(a.front (sp [aG mb 0 (C.enc++[.slice (some ⟨b,o,none⟩) C.aT.toNat cap]),aG b (o+(w/2 % C.aT.toNat)*3) [I r,I k,.slice (some ⟨b2,o2,none⟩) (iB C.lines C.aT.toNat (w/2 % C.aT.toNat)) i],H])).D2
 exact e v c M a.to
theorem aG6 (l:Ln) (w:Nat):(M6 l)[0+w % 2*1]?=some (I (if w % 2=0 then l.1 else l.2)):=by
 have:w % 2=0\/w % 2=1:=by omega
 rcases this with h|h<;>rw[h]<;>rfl
theorem Pf {C:bP} (hC:C.Ok) {mb w:Nat} {mem:Nat->Ln} (k:Ob G 0 eT) (c:Hs G h L) [m:Has (eO G C.lines mb C) L mem L'] (i:w<C.lines*2)
  (j:∀f,Hs G f (eO G C.lines mb C mem::L')->Q (.tuple ⟨[I (rU mem w),I 0]⟩) f):Cl Pr K 152 [pt mb 0 0,I w] h Q:=by
 refine cW (au hC k (m.of c) i fun g q H h c a=>aH rfl (aH rfl (bC (aab (aB (aD (b:=g) (o:=q) c (aG6 _ w) ?_))))))
 have c:=a _ _ _ c
 rw[qF] at c
 have:=j _ c
 unfold rU at this
 split at this
 .rename_i e;rw[aJ7 e];exact this
 .rename_i e;rw[aJ6 e];exact this
theorem Gf {C:bP} (hC:C.Ok) {mb w:Nat} {v:Int} {mem:Nat->Ln} (q:Ob G 0 eT) (a:Hs G h L) [m:Has (eO G C.lines mb C) L mem L'] (k:w<C.lines*2)
  (i:∀g,Hs G g (eO G C.lines mb C (vW mem w v)::L')->Q (I 0) g):Cl Pr K 86 [pt mb 0 0,I w,I v] h Q:=by
 refine cW (au hC q (m.of a) k fun f j H h a c=>aH rfl (aH rfl (bC (aab (bW (aB ?_))))))
 have e:w % 2=0\/w % 2=1:=by omega
 rcases e with e|e
 .rw[e];refine ay (b:=f) (o:=j) a fun h a=>?_;have a:=c (v,(mem (w/2)).2) _ _ a;have:=i _ (by unfold vW;rw[aJ7 e];exact a);exact this
 .rw[e];refine ay (b:=f) (o:=j) a fun h a=>?_;have a:=c ((mem (w/2)).1,v) _ _ a;have:=i _ (by unfold vW;rw[aaa];exact a);exact this
end
end Go.Proofs.YtajjljbmfdboaaaGreatDoor
namespace Go.Proofs.YtajjljbmfdboaaaGreatDoor.A
open Go Go.Ab Go.Hm Go.At Go.Is
section
set_option maxRecDepth 100000
variable {G:Bg} {h:AH} {L L':List HP} {Q:Value->AH->Prop}
theorem Tt {v:Value} {a b:Int} {l:List Int} {e:TypeId} (z:l.length<1000) (k:∀q,Hs G q (Ae G 1 e v (l.map fun x=>[I x])::L)->Q (.bool (within a b l)) q):
  ∀(f i:Nat) (h:AH),i+f=l.length->within a b l=within a b (l.drop i)->Hs G h (Ae G 1 e v (l.map fun x=>[I x])::L)->Dd 92 1 [] Q [(I a),(I b),v,(I l.length),(I i)] h:=by
 intro f
 induction f with
 |zero=>
  intro i h u g j
  rw[List.drop_of_length_le (by omega)] at g
  refine bW (bA (aab ?_))
  have:=k _ j
  rw[g] at this
  exact this
 |succ f y=>
  intro i h u g j
  obtain⟨x,w,t⟩:=nA (l:=l) (i:=i) (by omega)
  rw[t] at g
  have s:within a b (x::l.drop (i+1))=(decide (a<=x/\x<=b)&&within a b (l.drop (i+1))):=rfl
  rw[s] at g
  refine bW (bA (aae (bW (zR j (x:=[I x]) (by simp[w]) rfl (bA (aX (fun c=>?_) (fun c=>mC (aX (fun d=>?_) (fun d=>?_)))))))))
  .have:=k _ j;rw[g,decide_eq_false (by omega)] at this;exact this
  .have:=k _ j;rw[g,decide_eq_false (by omega)] at this;exact this
  .rw[decide_eq_true (by omega),Bool.true_and] at g;exact bW (aad (y (i+1) h (by omega) g j))
theorem Gu {v:Value} {a b:Int} {l:List Int} {e:TypeId} (j:l.length<1000) (g:Hs G h (Ae G 1 e v (l.map fun x=>[I x])::L)) (i:∀f,Hs G f (Ae G 1 e v (l.map fun x=>[I x])::L)->Q (.bool (within a b l)) f):Cl Pr K 92 [I a,I b,v] h Q:=by
 obtain⟨q,s,k⟩:=wM g;refine cW ?_;have c:=Tt (L:=L) (a:=a) (b:=b) j i l.length 0 h (by omega) rfl g;rw[k] at c ⊢;simp only[List.length_map] at c ⊢;exact bU c
theorem lU {g:Addr} {a b x:Int} {e:TypeId} (c:Hs G h (cN 1 e (some g) 1 (1,[I x])::L)) (i:∀f,Hs G f L->Q (.bool (decide (a<=x/\x<=b))) f):Cl Pr K 92 [I a,I b,.slice (some g) 1 1] h Q:=by
 have c:=sn (l:=[x].map fun x=>[I x]) (by simp) rfl rfl c;refine Gu (l:=[x]) (by simp) c fun f c=>?_;have:=i _ c.tail;rw[show within a b [x]=decide (a<=x/\x<=b) by simp[within]];exact this
end
section
set_option maxRecDepth 100000
variable {G:Bg} {h:AH} {L L':List HP} {Q:Value->AH->Prop}
theorem Ux {c w o t:Int} (f:Hs G h L) (e:∀k,Hs G k L->Q (.tuple ⟨[I (fL c w o t).1,.bool (fL c w o t).2.1,I (fL c w o t).2.2]⟩) k):Cl Pr K 241 [I c,I w,I o,I t] h Q:=by
 refine cW (aQ (c:=[I w]) rfl (dL f rfl rfl rfl fun a h f=>lU f fun h f=>cH (eB (aX (fun u=>?_) (fun u=>?_)))));rotate_left;have:=e _ f;unfold fL at this;rw[aac] at this;exact this;refine aQ (c:=[I o]) rfl (dL f rfl rfl rfl fun a h f=>lU f fun h f=>cH (eB (aX (fun v=>?_) (fun v=>?_))));rotate_left;have:=e _ f;unfold fL at this;rw[aac] at this;exact this;unfold fL at e;rw[aaa] at e;refine bW (bH (aX (fun g=>?_) (fun i=>bW (bH (aX (fun g=>?_) (fun j=>bW (bH (aX (fun g=>?_) (fun q=>bW (bH (aX (fun g=>?_) (fun y=>?_))))))))))));rw[aJ7 g] at e;refine bW (bC (aX (fun g1=>?_) (fun g1=>?_)));rw[aJ7 g1] at e;exact e _ f;rw[aJ6 g1] at e;refine bW (bC (aX (fun g2=>?_) (fun g2=>?_)));rw[aJ7 g2] at e;exact e _ f;rw[aJ6 g2] at e;refine bW (aQ (c:=[I t]) rfl (dL f rfl rfl rfl fun a h f=>lU f fun h f=>cH (eB (aX (fun g3=>?_) (fun g3=>?_)))));rw[aaa] at e;exact e _ f;rw[aac] at e;exact e _ f;rw[aJ6 i,aJ7 g] at e;refine bW (bH (aX (fun g1=>?_) (fun g1=>?_)));rw[aJ7 g1] at e;exact e _ f;rw[aJ6 g1] at e;refine bW (bC (aX (fun g2=>bC (aX (fun g3=>?_) (fun g3=>?_))) (fun g2=>?_)));rw[aac] at e;exact e _ f;rw[aaa] at e;exact e _ f;rw[aaa] at e;exact e _ f;rw[aJ6 i,aJ6 j,aJ7 g] at e;refine bW (bH (aX (fun g1=>?_) (fun g1=>bC (aX (fun g2=>?_) (fun g2=>?_)))));rw[aac] at e;exact e _ f;rw[aac] at e;exact e _ f;rw[aaa] at e;refine bW (aQ (c:=[I t]) rfl (dL f rfl rfl rfl fun a h f=>lU f fun h f=>cH (eB (aX (fun g3=>bH (aX (fun s=>?_) (fun s=>?_))) (fun g3=>?_)))));rw[aac] at e;exact e _ f;rw[aaa] at e;exact e _ f;rw[aac] at e;exact e _ f;rw[aJ6 i,aJ6 j,aJ6 q,aJ7 g] at e;refine bW (bH (aX (fun g1=>?_) (fun g1=>?_)));rw[aJ7 g1] at e;exact e _ f;rw[aJ6 g1] at e;refine bW (bC (aX (fun g2=>?_) (fun g2=>?_)));rw[aJ7 g2] at e;exact e _ f;rw[aJ6 g2] at e;exact e _ f;rw[aJ6 i,aJ6 j,aJ6 q,aJ6 y] at e;exact e _ f
def oR (p:List Ins):List Value:=p.flatMap Ins.enc
theorem Zw {p:List Ins} {i:Nat} (c:i<p.length):((oR p).drop (i*4)).take 4=(p.getD i ⟨0,0,0,0⟩).enc:=by
 have a:=(xQ (W:=4) (l:=p.map Ins.enc) (i:=i) (x:=(p.getD i ⟨0,0,0,0⟩).enc) (by simp[Ins.enc]) (by simp[List.getD_eq_getElem?_getD,List.getElem?_eq_getElem c])).1;rw[<-a];rfl
theorem y1 {p:List Ins} {i:Nat} (e:i<p.length):(oR p)[i*4+0]?=some (I (p.getD i ⟨0,0,0,0⟩).op):=by
 have c:=Zw e;have a:(((oR p).drop (i*4)).take 4)[0]?=some (I (p.getD i ⟨0,0,0,0⟩).op):=by rw[c];rfl
 rw[List.getElem?_take_of_lt (by omega),List.getElem?_drop] at a;exact a
theorem mU {s:aK} {v:Value} {r:Int} (a:0<=r) (c:r<4):(s.core++[v])[0+0+0+r.toNat*1]?=some (I (s.cB r.toNat)):=by
 have:r=0\/r=1\/r=2\/r=3:=by omega
 rcases this with rfl|rfl|rfl|rfl<;>rfl
theorem ou {s:aK} {v:Value} {r x:Int} (a:0<=r) (c:r<4):dN (s.core++[v]) (0+0+0+r.toNat*1) [I x]=(s.cR r x).core++[v]:=by
 have:r=0\/r=1\/r=2\/r=3:=by omega
 rcases this with rfl|rfl|rfl|rfl<;>rfl
theorem vK {s:aK} {v:Value} {b q:Nat} {r x:Int} {k:AH->Prop} (a:Hs G h L) [m:Has (aG b q) L (s.core++[v]) L'] (e:0<=r) (f:r<4) (g:∀c,Hs G c (aG b q ((s.cR r x).core++[v])::L')->k c):bG (tZ h 1 (pt b q (0+0+0+r.toNat*1)) (I x)) k:=by
 refine bJ (b:=b) (o:=q) a rfl ?_ rfl rfl fun h a=>g h ?_;have:r=0\/r=1\/r=2\/r=3:=by omega
 rcases this with rfl|rfl|rfl|rfl<;>rfl;rw[ou e f] at a;exact a
theorem Fb {s:aK} {b q c:Nat} {a:Option Addr} {at':Int} (k:0<=at') (f:Hs G h (aG b q (s.core++[.slice a s.prog.length c])::cN 4 86 a c (s.prog.length,oR s.prog)::L))
  (j:∀i,Hs G i (aG b q ((s.fM at').core++[.slice a s.prog.length c])::cN 4 86 a c (s.prog.length,oR s.prog)::L)->Q (.tuple ⟨[]⟩) i):Cl Pr K 96 [pt b q 0,I at'] h Q:=by
 refine cW (aB (aA (aA (ay f fun h f=>aB (aA (aD (b:=b) (o:=q) f rfl (bU (dW (aX (fun g=>?_) (fun g=>?_))))))))))
 .refine aB (aA (aA (ay (b:=b) (o:=q) f fun h f=>?_)));refine j _ ?_;have e:s.fM at'={s with at':=at',over:=true}:=by unfold aK.fM Cg;rw[aJ7 g]
  rw[e]
  exact f
 .obtain⟨n,rfl⟩:∃n:Nat,at'=n:=⟨at'.toNat,by omega⟩;refine aB (aA (aD (b:=b) (o:=q) f rfl (o8 (W:=4) (e:=86) (cs:=oR s.prog) f (by omega) (y1 (by omega)) (bH (aB (aA (aA (ay (b:=b) (o:=q) f fun h f=>?_))))))));refine j _ ?_;have e:s.fM n={s with at':=n,over:=decide ((s.prog.getD n ⟨0,0,0,0⟩).op=11)}:=by unfold aK.fM Cg;rw[aJ6 g];rfl
  rw[e]
  exact f
end
end Go.Proofs.YtajjljbmfdboaaaGreatDoor.A
namespace Go.Proofs.YtajjljbmfdboaaaGreatDoor
open Go Go.Ab Go.Hm Go.At Go.Mc
section
theorem qY {m:Mon} {g:Nat}:g∈m.running↔g<16/\(m.runs g).isSome:=by unfold Mon.running;simp[List.mem_filter]
set_option maxRecDepth 100000
variable {G:Bg} {h:AH} {L L' M:List HP} {Q:Value->AH->Prop} {C:bP} {m:Mon} {p:Nat}
theorem Bw {t:Nat} {g:Int} (e:Hs G h L) [f:Has (gW t) L m.dQ L'] (c:∀a,Hs G a (gW t m.dQ::L')->Q (if m.has g then .tuple ⟨[.agg ⟨(m.kT g).enc⟩,I 0]⟩ else .tuple ⟨[.agg ⟨iI.enc⟩,I 10]⟩) a):Cl Pr K 72 [pt t 0 0,I g] h Q:=
 gn e c
abbrev wy (C:bP) (m:Mon) (p p2 f g p5:Nat) (a:Mc.Ask) (e:Nat->Value) (d l:Nat) (st:LoopState×Option Code) (b:Bool) (c:Int) (pr:Prop):HP:=
 sp [B6 pr,pH Pr 190 (pD 1018) 113 e d l st,sp [aG p2 0 [pt p 0 0],aG f 0 a.enc,aG g 0 [.bool b],aG p5 0 [I c]],fV C p m]
theorem Wg {a:Mc.Ask} (hC:C.Ok) (hm:iA C m) (s:Hs G h L) [mm:Has (fV C p) L m L'] (B:∀T,Hs G T (fV C p (m.call C.aE a).1::L')->Q (.tuple ⟨[.bool (m.call C.aE a).2.1,I (m.call C.aE a).2.2]⟩) T):Cl Pr K 190 [pt p 0 0,.agg ⟨a.enc⟩] h Q:=by
 have hc:=hC.1;have μ:=hC.2.1;have κ:=hm.len;have s:=mm.of s;unfold Mon.call at B;refine cW (dR s fun z h s=>dR s fun u h s=>bQ s fun w h s=>bQ s fun y h s=>am z s rfl (dD (cG ?_)));have bad:∀{h:AH} {M:List HP} (e:Int),[Sub M (fV C p m::L')]->Hs G h (aG w 0 [.bool false]::aG y 0 [I 0]::M)->(∀T,Hs G T (fV C p m::L')->Q (.tuple ⟨[.bool false,I e]⟩) T)->
   bG (tZ h 1 (pt w 0 0) (.bool false)) fun U=>bG (tZ U 1 (pt y 0 0) (I e)) fun h6=>bG (cT [] h6) fun h7=>bG (pK h7 (pt w 0 0)) fun v8=>bG (pK h7 (pt y 0 0)) fun v9=>Q (.tuple ⟨[v8,v9]⟩) h7:=by
  intro h M e _ s hq
  exact ax (b:=w) s fun h s=>ax (b:=y) s fun h s=>mB (am w s rfl (am y s rfl (hq _ s.to)))
 obtain⟨t,b,s⟩:=kV (s.front (fV C p m));have F:∀{h:AH} {M:List HP},Hs G h (aG p 0 [pt t 0 0,I C.aE,gH b]::gW t m.dQ::iJ b (gB m.runs)::M)->Hs G h (fV C p m::M):=fun s=>dU s;refine bW (aY s fun r1 h s=>aA (am u s rfl (bA (aX (fun h1=>?_) (fun h1=>?_)))));rw[aac] at B;have s:=F (s.cZ (aG p 0 [pt t 0 0,I C.aE,gH b]) (gW t m.dQ) (iJ b (gB m.runs)));exact bad (M:=fV C p m::L') 1 s.to B;refine aA (am u s rfl (am z s rfl (aB (aA (am p s rfl (dW (aX (fun h2=>?_) (fun h2=>?_))))))));rw[aac] at B;have s:=F (s.cZ (aG p 0 [pt t 0 0,I C.aE,gH b]) (gW t m.dQ) (iJ b (gB m.runs)));exact bad (M:=fV C p m::L') 1 s.to B;rw[aaa] at B;refine bW (aY s fun r2 h s=>am z s rfl (aB (aA (am p s rfl (aA (am u s rfl (Bw (m:=m) s fun h s=>?_)))))));by_cases P:m.has a.bK;rotate_left;rw[aJ6 P];rw[aJ7 P] at B;refine aH rfl (aH rfl (jM (r:=r2) (i:=10) (n:=13) (D:=[]) s rfl rfl fun E h s=>ax (b:=E) s fun h s=>bT (aH rfl gF) (bC (aae ?_))));have s:=F (s.cZ (aG p 0 [pt t 0 0,I C.aE,gH b]) (gW t m.dQ) (iJ b (gB m.runs)));exact bad (M:=fV C p m::L') 10 s.to B;rw[aJ7 P];rw[aJ6 (by simpa using P)] at B;have η:=hm.kT P;have α:0<=a.bK/\a.bK<C.aN:=by unfold Mon.has at P;omega
 refine aH rfl (aH rfl (jM (r:=r2) (i:=10) (n:=13) (D:=[]) s rfl rfl fun E h s=>ax (b:=E) s fun h s=>bT (aH rfl gF) (bC (aab ?_))));have s:=F (s.cZ (aG p 0 [pt t 0 0,I C.aE,gH b]) (gW t m.dQ) (iJ b (gB m.runs)));refine bW (am z s rfl (aA (am u s rfl (K7 (C:=C) (m:=m) s fun h s=>bC (aX (fun h3=>?_) (fun h3=>?_))))));rw[aJ7 h3] at B;exact bad (M:=fV C p m::L') 17 s.to B;rw[aJ6 h3] at B;refine bW (am z s rfl (Du (C:=C) (m:=m) s fun q qa qc h s=>oF s fun d h s=>?_));intro e he;refine sV s fun l h s=>Ah rfl ?_;have s:Hs G h (H.Ni 3 q qa qc (m.running.map fun k:Nat=>(k:Int))::wy C m p z u w y a e d l (.ready,none) false 0 (∀g∈([]:List Int),m.lX a.core g.toNat=false)::sp [mk d (),aG E 0 (m.kT a.bK).enc]::L'):=by
  have s:=(s.cI (mk d ()) (aG E 0 (m.kT a.bK).enc)).Hu;have s:=(s.kG (aG z 0 [pt p 0 0]) (aG u 0 a.enc) (aG w 0 [.bool false]) (aG y 0 [I 0])).M8;have s:=s.cZ (pH Pr 190 (pD 1018) 113 e d l (.ready,none)) (sp [aG z 0 [pt p 0 0],aG u 0 a.enc,aG w 0 [.bool false],aG y 0 [I 0]]) (fV C p m);have s:=Hs.M8 (Hs.Sz (p:=∀g∈([]:List Int),m.lX a.core g.toNat=false) (by simp) s);exact s.to
 refine(H.Fy (e:=3) (p:=q) (a:=qa) (c:=qc) (xs:=m.running.map fun k:Nat=>(k:Int)) (by have:=List.length_filter_le (fun g=>(m.runs g).isSome) (List.range 16);simp[Mon.running] at this ⊢;omega)).fold
  (X:=fun done=>wy C m p z u w y a e d l (.ready,none) false 0 (∀g∈done,m.lX a.core g.toNat=false)) (Z:=fun _ x=>wy C m p z u w y a e d l (.done,some .ret) false 13 (x∈(m.running.map fun k:Nat=>(k:Int))/\m.lX a.core x.toNat=true)) s ?_ ?_ ?_
 .intro done x h M hp s;obtain⟨R,s⟩:=iD s;have s:=s.D2;obtain⟨k,V,rfl⟩:∃k∈m.running,(k:Int)=x:=by
   obtain⟨ys,ι⟩:=hp;have:x∈m.running.map fun k:Nat=>(k:Int):=by rw[<-ι];simp
   obtain⟨k,h1,h2⟩:=List.mem_map.1 this;exact⟨k,h1,h2⟩
  obtain⟨r,hr⟩:=Option.isSome_iff_exists.1 (qY.1 V).2;have θ:m.run (k:Int)=some r:=by unfold Mon.run;rw[aac];exact hr
  have s:=(s.front (sp [aG z 0 [pt p 0 0],aG u 0 a.enc,aG w 0 [.bool false],aG y 0 [I 0]])).zc;refine rW (Aa s) he (lT s fun h s=>aY s fun rr h s=>?_);obtain⟨t,b,s⟩:=kV (s.front (fV C p m));refine am z s rfl (aB (aA (am p s rfl (Ox (m:=m) s ?_))));rw[θ];refine Ik (m:=nD r) rfl rfl (Ik (m:=zG r) rfl rfl (ct rfl (aA (am u s rfl (bH (aX (fun c1=>?_) (fun c1=>?_)))))));refine ax (b:=w) s fun h s=>ax (b:=y) s fun h s=>mD s fun h s=> .inr ⟨rfl,?_⟩;have s:=dU (s.cZ (aG p 0 [pt t 0 0,I C.aE,gH b]) (gW t m.dQ) (iJ b (gB m.runs)));have s:=(s.kG (aG z 0 [pt p 0 0]) (aG u 0 a.enc) (aG w 0 [.bool false]) (aG y 0 [I 13])).M8;have s:=s.cZ (pH Pr 190 (pD 1018) 113 e d l (.done,some .ret)) (sp [aG z 0 [pt p 0 0],aG u 0 a.enc,aG w 0 [.bool false],aG y 0 [I 13]]) (fV C p m);refine(Hs.M8 (Hs.Sz (p:=((k:Int)∈(m.running.map fun k:Nat=>(k:Int))/\m.lX a.core ((k:Int)).toNat=true)) ⟨List.mem_map.2 ⟨k,V,rfl⟩,?_⟩ s)).to;unfold Mon.lX;rw[Int.toNat_natCast,hr];exact decide_eq_true c1
  .refine mD s fun h s=> .inl ⟨rfl,?_⟩;have s:=dU (s.cZ (aG p 0 [pt t 0 0,I C.aE,gH b]) (gW t m.dQ) (iJ b (gB m.runs)));have s:=(s.kG (aG z 0 [pt p 0 0]) (aG u 0 a.enc) (aG w 0 [.bool false]) (aG y 0 [I 0])).M8;have s:=s.cZ (pH Pr 190 (pD 1018) 113 e d l (.ready,none)) (sp [aG z 0 [pt p 0 0],aG u 0 a.enc,aG w 0 [.bool false],aG y 0 [I 0]]) (fV C p m);refine(Hs.M8 (Hs.Sz (p:=∀g∈done++[((k:Nat):Int)],m.lX a.core g.toNat=false) ?_ s)).to;intro g O;rcases List.mem_append.1 O with O|O;exact R g O;rw[List.mem_singleton.1 O,Int.toNat_natCast];unfold Mon.lX;rw[hr];exact decide_eq_false c1
 .intro v h s;obtain⟨R,s⟩:=iD (s.front (wy C m p z u w y a e d l (.ready,none) false 0 (∀g∈m.running.map (fun k:Nat=>(k:Int)),m.lX a.core g.toNat=false)));have s:=s.D2;have ζ:m.calls a.core=false:=by
   unfold Mon.calls;rw[List.any_eq_false];intro g O;have:=R g (List.mem_map.2 ⟨g,O,rfl⟩);rw[Int.toNat_natCast] at this;rw[this];simp
  rw[aJ6 (by rw[ζ];simp)] at B;have s:=(s.front (sp [aG z 0 [pt p 0 0],aG u 0 a.enc,aG w 0 [.bool false],aG y 0 [I 0]])).zc;have s:=(s.front (sp [mk d (),aG E 0 (m.kT a.bK).enc])).G5;refine tR s fun h s=>tA ?_;refine aA (am u s rfl (aA (am u s rfl (aA (am E s rfl (aA (am u s rfl (A.Ux s fun h s=>?_))))))));dsimp only at B;have γ:0<=(fL a.call a.world (m.kT a.bK).owner a.to).1/\(fL a.call a.world (m.kT a.bK).owner a.to).1<=4:=by
   unfold fL;repeat' split
   all_goals first|omega|(simp only[];omega)
  generalize fL a.call a.world (m.kT a.bK).owner a.to=jj at B γ ⊢;refine aH rfl (aH rfl (aH rfl (bC (aX (fun U=>?_) (fun U=>?_)))));rw[aJ7 U] at B;refine ax (b:=w) s fun h s=>ax (b:=y) s fun h s=>oT s fun h s=>mB (am w s rfl (am y s rfl (B _ s.to)));rw[aJ6 U] at B;obtain⟨t,b,s⟩:=kV (s.front (fV C p m));refine bW (aY s fun rr h s=>am z s rfl (aB (aA (am p s rfl (aA (am u s rfl (aA (am E s rfl (aQ (c:=(⟨(m.kT a.bK).owner,true⟩:hZ).enc) rfl ?_)))))))));refine F6 (x:=⟨(m.kT a.bK).owner,true⟩) s fun h s=>?_;have J:(0<=a.bK/\a.bK<m.dQ.length)/\(0<=(m.kT a.bK).owner/\(m.kT a.bK).owner<=4):=⟨P,η⟩;rw[aJ7 J] at s;rw[aJ7 J];refine bC (aab (bW (an u s (l:=a.enc) rfl rfl (aQ (c:=[I a.core,I a.world,I a.call,I a.bK,I a.to,I jj.1,.bool jj.2.1]) rfl (aQ (c:=(⟨a.core,a.world,a.call,a.bK,a.to,jj.1,jj.2.1,1,fun _=>false⟩:Mc.jE).enc) rfl (bQ s fun Y h s=>ax (b:=Y) s fun h s=>am z s rfl (aB (aA (am p s rfl ?_)))))))));have loop:∀(k i:Nat) (h:AH),i+k=C.aE.toNat->Hs G h (aG Y 0 (⟨a.core,a.world,a.call,a.bK,a.to,jj.1,jj.2.1,1,fun j=>decide (j<i)⟩:Mc.jE).enc::aG p 0 [pt t 0 0,I C.aE,gH b]::gW t (m.dQ.set a.bK.toNat ⟨(m.kT a.bK).owner,true⟩)::iJ b (gB m.runs)::aG z 0 [pt p 0 0]::aG u 0 a.enc::aG w 0 [.bool false]::aG y 0 [I 0]::mk d ()::L')->
    Dd 190 8 [d] Q [(pt z 0 0),(pt u 0 0),(pt w 0 0),(pt y 0 0),(pt Y 0 0),(I C.aE),(I i)] h:=by
   intro k
   induction k with
   |zero=>
    intro i h hi s
    refine bW (bA (aab (bW (aY s fun rr h s=>am z s rfl (aB (aA (am p s rfl (aA (am u s rfl (an Y s (l:=(⟨a.core,a.world,a.call,a.bK,a.to,jj.1,jj.2.1,1,fun j=>decide (j<i)⟩:Mc.jE).enc) rfl rfl ?_))))))))))
    obtain⟨g,O⟩:=Int.eq_ofNat_of_zero_le α.1
    rw[show(a.bK)=((g:Nat):Int) from O]
    refine Ra s (by omega) fun h s=>?_
    rw[<-O] at s
    refine ax (b:=w) s fun h s=>ax (b:=y) s fun h s=>oT s fun h s=>mB (am w s rfl (am y s rfl (B _ ?_)))
    have hw:(⟨a.core,a.world,a.call,a.bK,a.to,jj.1,jj.2.1,1,fun j=>decide (j<i)⟩:Mc.jE)=a.run C.aE jj:=by
     unfold Ask.run;congr 1;funext j;exact decide_eq_decide.2 (by omega)
    have e1:=Gs (f:=m.runs) (g:=g) (x:=some (a.run C.aE jj))
    rw[Option.map_some] at e1
    have s:=s.cZ (aG p 0 [pt t 0 0,I C.aE,gH b]) (gW t (m.dQ.set a.bK.toNat ⟨(m.kT a.bK).owner,true⟩)) (iJ b (Jd (gB m.runs) g (some (.agg ⟨(⟨a.core,a.world,a.call,a.bK,a.to,jj.1,jj.2.1,1,fun j=>decide (j<i)⟩:Mc.jE).enc⟩))))
    rw[hw,e1] at s
    have β:g=a.bK.toNat:=by omega
    rw[β] at s
    exact(dU (m:=(m.pZ a.bK.toNat ⟨(m.kT a.bK).owner,true⟩).cR a.bK.toNat (some (a.run C.aE jj))) s).to
   |succ k ih=>
    intro i h hi s
    refine bW (bA (aae (bW (aA (fQ (by omega) ?_)))))
    have hl:(⟨a.core,a.world,a.call,a.bK,a.to,jj.1,jj.2.1,1,fun j=>decide (j<i)⟩:Mc.jE).enc.length=12:=rfl
    refine bJ (b:=Y) (o:=0) s rfl (by rw[hl];exact Nat.ble_eq_true_of_le (by simp;omega)) rfl rfl fun h s=>aad (ih (i+1) h (by omega) ?_)
    have e:dN (⟨a.core,a.world,a.call,a.bK,a.to,jj.1,jj.2.1,1,fun j=>decide (j<i)⟩:Mc.jE).enc (0+8+i*1) [.bool true]=(⟨a.core,a.world,a.call,a.bK,a.to,jj.1,jj.2.1,1,fun j=>decide (j<i+1)⟩:Mc.jE).enc:=by
     have:i=0\/i=1\/i=2\/i=3:=by omega
     rcases this with rfl|rfl|rfl|rfl<;>rfl
    rw[e] at s
    exact s.to
  refine loop C.aE.toNat 0 h (by omega) ?_;have e:(⟨a.core,a.world,a.call,a.bK,a.to,jj.1,jj.2.1,1,fun _=>false⟩:Mc.jE).enc=(⟨a.core,a.world,a.call,a.bK,a.to,jj.1,jj.2.1,1,fun j=>decide (j<0)⟩:Mc.jE).enc:=rfl;rw[e] at s;exact s.to
 .intro done x v h hp s;obtain⟨R,s⟩:=iD (s.front (wy C m p z u w y a e d l (.done,some .ret) false 13 (x∈(m.running.map fun k:Nat=>(k:Int))/\m.lX a.core x.toNat=true)));have s:=s.D2;have W:m.calls a.core=true:=by
   unfold Mon.calls;rw[List.any_eq_true];obtain⟨k,δ,ε⟩:=List.mem_map.1 R.1;refine⟨k,δ,?_⟩;have:=R.2;rw[<-ε,Int.toNat_natCast] at this;exact this
  rw[aJ7 W] at B;have s:=(s.front (sp [aG z 0 [pt p 0 0],aG u 0 a.enc,aG w 0 [.bool false],aG y 0 [I 13]])).zc;have s:=(s.front (sp [mk d (),aG E 0 (m.kT a.bK).enc])).G5;refine Ml s fun h s=>su (oT s fun h s=>mB (am w s rfl (am y s rfl (B _ s.to))))
end
end Go.Proofs.YtajjljbmfdboaaaGreatDoor
namespace Go.Proofs.YtajjljbmfdboaaaGreatDoor.A
open Go Go.Ab Go.Hm Go.At Go.Is
section
set_option maxRecDepth 100000
variable {G:Bg} {h:AH} {L L':List HP} {Q:Value->AH->Prop}
def sx (mem:Nat->Ln) (done:List Nat):Nat->Ln:=done.foldl (fun m l=>aS m l (0,0)) mem
abbrev scX (G:Bg) (C:bP) (mb p2:Nat) (mem:Nat->Ln) (e:Nat->Value) (d l:Nat) (done:List Nat):HP:=sp [pH Pr 160 (pD 122) 34 e d l (.ready,none),aG p2 0 [pt mb 0 0],eO G C.lines mb C (sx mem done)]
theorem Vp {C:bP} (hC:C.Ok) {mb g:Nat} {mem:Nat->Ln} (s:Ob G 0 eT) (a:Hs G h L) [m:Has (eO G C.lines mb C) L mem L'] (z:(g:Int)<C.aN)
  (B:∀v k,Hs G k (eO G C.lines mb C (jZ mem g)::L')->Q v k):Cl Pr K 160 [pt mb 0 0,I g] h Q:=by
 have hb:C.aN<=16:=hC.2.1.2
 have D:=bP.fN hC
 have a:=m.of a
 refine cW (dR a fun f h a=>bQ a fun i h a=>am f a rfl (dD (cG (bW (bA (aab ?_))))))
 obtain⟨b,o,cap,a⟩:=wJ (a.front (eO G C.lines mb C mem))
 refine am f a rfl (aB (aA (aA (am mb a rfl (dW (aab (bW ?_)))))))
 refine am f a rfl (aB (aA (an mb a (l:=C.enc) rfl rfl (De a fun p q h a=>oF a fun d h a=>?_))))
 have a:=Jr C.lines mb C mem b o cap a
 intro e A
 refine sV a fun l h a=>Ah rfl ?_
 have a:Hs G h (sp [aG p 0 C.enc,aG q 0 [I g]]::scX G C mb f mem e d l []::sp [aG i 0 [I 0],mk d ()]::L'):=by
  have a:=a.cZ (pH Pr 160 (pD 122) 34 e d l (.ready,none)) (aG f 0 [pt mb 0 0]) (eO G C.lines mb C mem);have a:Hs G h (scX G C mb f mem e d l []::_):=a.V5;have a:=(a.cI (aG i 0 [I 0]) (mk d ())).Hu;exact a.cZ (sp [aG p 0 C.enc,aG q 0 [I g]]) (scX G C mb f mem e d l []) (sp [aG i 0 [I 0],mk d ()])
 refine(G2 (p:=p) (q:=q) hC z s).fold (X:=scX G C mb f mem e d l) (Z:=fun _ _=>B6 False) a ?_ ?_ ?_
 .intro done y h M t a;have E:y<C.lines:=by
   obtain⟨F,j⟩:=t;have:y∈[g*2,g*2+1]:=by rw[<-j];simp
   simp at this;omega
  have a:=a.D2
  refine rW (Aa a) A (lT a fun h a=>am f a rfl (aQ (c:=M6 (0,0)) rfl (Ej hC s a E fun h a=>bC (aab ?_))))
  refine mD a fun h a=> .inl ⟨rfl,Hs.V5 ?_⟩
  have u:sx mem (done++[y])=aS (sx mem done) y (0,0):=by unfold sx;rw[List.foldl_append];rfl
  rw[u]
  exact a.to
 .intro v h a;have a:=(a.front (scX G C mb f mem e d l [g*2,g*2+1])).D2;refine tR a fun h a=>tA ?_;have a:=(a.front (sp [aG i 0 [I 0],mk d ()])).G5;refine ax (b:=i) (o:=0) a fun h a=>oT a fun h a=>mB (am i a rfl (B _ _ ?_));have w:sx mem [g*2,g*2+1]=jZ mem g:=rfl;rw[w] at a;exact a.to
 .intro done y v h t a;exact(a.front (B6 False)).xw.1.elim
abbrev Ia (pm:Nat) (C:bP) (v:Value) (a:Option Addr) (n c mb:Nat):HP:=aG pm 0 (C.enc++[v,.slice a n c,pt mb 0 0])
theorem Xe {o:List Int} {g:Nat} (h:g<o.length):(o.map I)[g]?=some (I (o.getD g 0)):=by
 simp[List.getD_eq_getElem?_getD,List.getElem?_eq_getElem h]
theorem aAt {m:AM} (hC:m.cfg.Ok) (s:(m.bL.length:Int)=m.cfg.aN) {pm mb c:Nat} {a:Option Addr} {v:Value} {w x:Int} (k:Ob G 0 eT)
  (f:Hs G h (Ia pm m.cfg v a m.bL.length c mb::cN 1 3 a c (m.bL.length,m.bL.map I)::L))
  (g:∀j,Hs G j (Ia pm m.cfg v a m.bL.length c mb::cN 1 3 a c (m.bL.length,m.bL.map I)::L)->Q (.bool (m.may w x)) j):Cl Pr K 240 [pt pm 0 0,I w,I x] h Q:=by
 have q:=bP.fN hC
 unfold AM.may at g
 refine cW (aB (aA (an pm f (l:=m.cfg.enc) rfl rfl (Gx hC k f fun h f=>?_))))
 by_cases i:0<=x/\x<m.cfg.lines*2
 .rw[aJ7 i] at g ⊢;refine aH rfl (aH rfl (aH rfl (bC (aab (bW (aB (aA (an pm f (l:=m.cfg.enc) rfl rfl (Y2 hC (by omega) k f fun h f=>?_)))))))));refine aH rfl (aH rfl (bH (aae (aB (aA (am pm f rfl (Gd (e:=3) (cs:=m.bL.map I) f (Xe (by omega)) (Qg ?_))))))));have:=g _ f;rw[show x.toNat/4=x.toNat/2/2 by omega] at this;exact this
 .rw[aJ6 i] at g ⊢;exact aH rfl (aH rfl (aH rfl (bC (aae (g _ f)))))
end
section
set_option maxRecDepth 100000
variable {G:Bg} {h:AH} {L L':List HP} {Q:Value->AH->Prop}
theorem fx {m:AM} {w x:Int} (h:m.may w x=true):0<=x/\x<m.cfg.lines*2:=by
 unfold AM.may at h;split at h;assumption;cases h
theorem G1 {m:AM} (hC:m.cfg.Ok) (A:(m.bL.length:Int)=m.cfg.aN) {pm mb c b q i:Nat} {a:Option Addr} {v pv:Value} {x:Ins} (B:x.op=3\/x.op=4\/x.op=5) (g:0<=x.a/\x.a<4) (hb:0<=x.b/\x.b<4) (u:Ob G 0 eT)
  (f:Hs G h (Ia pm m.cfg v a m.bL.length c mb::cN 1 3 a c (m.bL.length,m.bL.map I)::eO G m.cfg.lines mb m.cfg m.mem::aG b q ((m.aC i).core++[pv])::L))
  (j:∀z,Hs G z (Ia pm m.cfg v a m.bL.length c mb::cN 1 3 a c (m.bL.length,m.bL.map I)::eO G m.cfg.lines mb m.cfg (m.access i x).1.mem::aG b q (((m.access i x).1.aC i).core++[pv])::L)->Q (.tuple ⟨[I (m.access i x).2.1,I (m.access i x).2.2]⟩) z):Cl Pr K 188 [pt pm 0 0,pt b q 0,.agg ⟨x.enc⟩] h Q:=by
 refine cW (dR f fun k h f=>aY f fun t h f=>?_)
 refine aA (am k f rfl (aB (aA (aA (dX hb.1 hb.2 (aD (b:=b) (o:=q) f (mU hb.1 hb.2) (aA (am k f rfl (bH ?_)))))))))
 have go:Dd 188 3 [] Q [(pt pm 0 0),(pt b q 0),(pt k 0 0),(I ((m.aC i).cB x.b.toNat))] h:=by
  unfold AM.access at j;refine bW (aB (aA (aA (aD (b:=b) (o:=q) f rfl ?_))));refine aAt (a:=a) (c:=c) (mb:=mb) (v:=v) hC A u (f.cI (Ia pm m.cfg v a m.bL.length c mb) (cN 1 3 a c (m.bL.length,m.bL.map I))) fun h f=>cH (eB (dI (fun s=>?_) (fun s=>?_)));rotate_left;rw[aJ6 (by simp[s])] at j;exact j _ f.to;rw[aJ7 s] at j;have E:=fx s;generalize D:(m.aC i).cB x.b.toNat=W at*;obtain⟨w,rfl⟩:∃w:Nat,W=w:=⟨W.toNat,by omega⟩;simp only[Int.toNat_natCast] at j;refine bW (aB (aA (am pm f rfl ?_)));refine Pf hC u f (by omega) fun h f=>aH rfl (aH rfl (bC (aab (bW (aA (am k f rfl (bC (aX (fun y=>?_) (fun y=>?_)))))))));rw[aJ6 y] at j;refine bW (aY f fun t h f=>aB (aA (am pm f rfl (aA (am k f rfl (aB (aA (aA (dX g.1 g.2 (aD (b:=b) (o:=q) f (mU g.1 g.2) ?_))))))))));refine Gf hC u f (by omega) fun h f=>aA (am k f rfl (bH (aX (fun c2=>?_) (fun c2=>?_))));rw[aJ7 c2] at j;refine bW (aY f fun t h f=>aA (am k f rfl (aB (aA (aA (dX g.1 g.2 (aD (b:=b) (o:=q) f (mU g.1 g.2) (j _ ?_))))))));simp only[AM.iY];exact f.to;rw[aJ6 c2] at j;refine bW (aY f fun t h f=>aA (am k f rfl (aB (aA (aA (dX g.1 g.2 (vK f g.1 g.2 fun h f=>?_)))))));refine j _ ?_;simp only[AM.iY,AM.iZ,cJ];exact f.to;rw[aac] at j;refine bW (aA (am k f rfl (bH (aab ?_))));refine bW (aY f fun t h f=>aA (am k f rfl (aB (aA (aA (dX g.1 g.2 (vK f g.1 g.2 fun h f=>?_)))))));refine j _ ?_;simp only[AM.iZ,cJ];exact f.to
 rcases B with e|e|e
 .refine aae (bW ?_);rw[decide_eq_true (by omega)];exact eU go
 .refine aab (bW (bH (aae (bW ?_))));rw[decide_eq_true (by omega)];exact eU go
 .exact aab (bW (bH (aab (bW (bH (aae go))))))
theorem yb {m:AM} (hC:m.cfg.Ok) (B:(m.bL.length:Int)=m.cfg.aN) {pm mb c:Nat} {a:Option Addr} {v:Value} {cl w g t:Int} {busy:Bool} (z:Ob G 0 eT)
  (f:Hs G h (Ia pm m.cfg v a m.bL.length c mb::cN 1 3 a c (m.bL.length,m.bL.map I)::eO G m.cfg.lines mb m.cfg m.mem::L))
  (i:∀u,Hs G u (Ia pm m.cfg v a m.bL.length c mb::cN 1 3 a c (m.bL.length,(m.call cl w g t busy).1.bL.map I)::eO G m.cfg.lines mb m.cfg (m.call cl w g t busy).1.mem::L)->Q (I (m.call cl w g t busy).2) u):Cl Pr K 189 [pt pm 0 0,I cl,I w,I g,I t,.bool busy] h Q:=by
 have hb:m.cfg.aN<=16:=hC.2.1.2
 unfold AM.call at i
 refine cW (aB (aA (am pm f rfl (bU (rL (by omega) (aQ (c:=[I g]) rfl (dL f rfl rfl rfl fun A h f=>?_)))))))
 refine lU f fun h j=>cH (eB (aX (fun y=>?_) (fun y=>?_)))
 rotate_left
 .rw[aac] at i;exact i _ j
 rw[aaa] at i
 clear f
 have f:=j
 clear j
 obtain⟨n,rfl⟩:∃n:Nat,g=n:=⟨g.toNat,by omega⟩
 simp only[Int.toNat_natCast] at i
 refine bW (dI (fun k=>?_) (fun k=>?_))
 .rw[aJ7 k] at i;exact i _ f
 rw[aJ6 (by simp[k])] at i
 refine bW (aB (aA (am pm f rfl (Gd (e:=3) (cs:=m.bL.map I) f (Xe (by omega)) (Ux f fun h f=>aH rfl (aH rfl (aH rfl (bC (aX (fun q=>?_) (fun q=>?_))))))))))
 .rw[aJ7 q] at i;exact i _ f
 rw[aJ6 q] at i
 refine bW (aB (aA (am pm f rfl (uz (e:=3) (cs:=m.bL.map I) f rfl (by omega) fun h f=>dI (fun s=>?_) (fun s=>?_)))))
 .rw[aJ7 s] at i;refine bW (aB (aA (am pm f rfl ?_)));refine Vp hC z f (by omega) fun _ h f=>i _ ?_;rw[<-List.map_set] at f;simp only[AM.iY,AM.B8];exact f.to
 .rw[aJ6 (by rw[s];decide)] at i;refine i _ ?_;rw[<-List.map_set] at f;simp only[AM.iY,AM.B8];exact f.to
end
section
set_option maxRecDepth 100000
variable {G:Bg} {h:AH} {L L':List HP} {Q:Value->AH->Prop}
def fU (b o:Nat) (s:aK):HP:=vD fun x:Option Addr×Nat=>sp [aG b o (s.core++[.slice x.1 s.prog.length x.2]),cN 4 86 x.1 x.2 (s.prog.length,oR s.prog)]
theorem Om {b o:Nat} {s:aK} (e:Hs G h (fU b o s::L)):∃a c,Hs G h (aG b o (s.core++[.slice a s.prog.length c])::cN 4 86 a c (s.prog.length,oR s.prog)::L):=by
 obtain⟨⟨a,c⟩,e⟩:=e.B4;exact⟨a,c,e.unpack⟩
theorem tU {b o c:Nat} {a:Option Addr} {s:aK} (e:Hs G h (aG b o (s.core++[.slice a s.prog.length c])::cN 4 86 a c (s.prog.length,oR s.prog)::L)):Hs G h (fU b o s::L):=
 Hs.zX (A:=fun x:Option Addr×Nat=>sp [aG b o (s.core++[.slice x.1 s.prog.length x.2]),cN 4 86 x.1 x.2 (s.prog.length,oR s.prog)]) (a,c) (Hs.pack (A:=[_,_]) e)
structure AtA where
 b:Nat
 o:Nat
 cap:Nat
 a:Option Addr
 c:Nat
 mb:Nat
def F0 (G:Bg) (pm:Nat) (m:AM) (x:AtA):List HP:=[Ia pm m.cfg (.slice (some ⟨x.b,x.o,none⟩) m.cfg.aE.toNat x.cap) x.a m.bL.length x.c x.mb,cN 1 3 x.a x.c (m.bL.length,m.bL.map I),eO G m.cfg.lines x.mb m.cfg m.mem,
  hole G 8 213 (some ⟨x.b,x.o,none⟩) x.cap m.cfg.aE.toNat x.b x.o,dF m.cfg.aE.toNat fun i=>fU x.b (x.o+i*8) (m.aC i)]
def nU (G:Bg) (pm:Nat) (m:AM):HP:=vD fun x:AtA=>sp (F0 G pm m x)
theorem zV {pm:Nat} {m:AM} (e:Hs G h (nU G pm m::L)):∃b o cap a c mb,Hs G h (Ia pm m.cfg (.slice (some ⟨b,o,none⟩) m.cfg.aE.toNat cap) a m.bL.length c mb::cN 1 3 a c (m.bL.length,m.bL.map I)::eO G m.cfg.lines mb m.cfg m.mem::
  hole G 8 213 (some ⟨b,o,none⟩) cap m.cfg.aE.toNat b o::dF m.cfg.aE.toNat (fun i=>fU b (o+i*8) (m.aC i))::L):=by
 obtain⟨⟨b,o,cap,a,c,mb⟩,e⟩:=e.B4
 exact⟨b,o,cap,a,c,mb,e.unpack⟩
theorem mJ {pm:Nat} {m:AM} {b o cap c mb:Nat} {a:Option Addr} (e:Hs G h (Ia pm m.cfg (.slice (some ⟨b,o,none⟩) m.cfg.aE.toNat cap) a m.bL.length c mb::cN 1 3 a c (m.bL.length,m.bL.map I)::eO G m.cfg.lines mb m.cfg m.mem::
  hole G 8 213 (some ⟨b,o,none⟩) cap m.cfg.aE.toNat b o::dF m.cfg.aE.toNat (fun i=>fU b (o+i*8) (m.aC i))::L)):Hs G h (nU G pm m::L):=
 Hs.zX (A:=fun x:AtA=>sp (F0 G pm m x)) ⟨b,o,cap,a,c,mb⟩ (Hs.pack (A:=F0 G pm m ⟨b,o,cap,a,c,mb⟩) e)
theorem qj {m r:AM} {i b o cap c mb pm f w k:Nat} {a g:Option Addr} {ev:Ev} {nx:Int} (J:r.cfg=m.cfg) (O:r.bL.length=m.bL.length) (P:∀j,j≠i->r.aC j=m.aC j) (R:(r.aC i).prog=(m.aC i).prog) (D:0<=nx) (E:i<m.cfg.aE.toNat)
  (e:Hs G h (Ia pm m.cfg (.slice (some ⟨b,o,none⟩) m.cfg.aE.toNat cap) a m.bL.length c mb::cN 1 3 a c (m.bL.length,r.bL.map I)::eO G m.cfg.lines mb m.cfg r.mem::
   hole G 8 213 (some ⟨b,o,none⟩) cap m.cfg.aE.toNat b o::sp (((List.range m.cfg.aE.toNat).erase i).map fun i=>fU b (o+i*8) (m.aC i))::aG b (o+i*8) ((r.aC i).core++[.slice g (m.aC i).prog.length k])::
   cN 4 86 g k ((m.aC i).prog.length,oR (m.aC i).prog)::aG f 0 ev.enc::aG w 0 [I 0,I 0,I 0,I 0,I 0,I 0,I 0]::L))
  (F:∀q,Hs G q (nU G pm (r.fM i nx)::L)->Q (.tuple ⟨[.agg ⟨ev.enc⟩,I 0]⟩) q):
  Cl Pr K 96 [pt b (o+i*8) 0,I nx] h fun _v q=>bG (sD q 7 (pt f 0 0)) fun y=>bG (tZ q 7 (pt w 0 0) y) fun t=>bG (sD t 7 (pt w 0 0)) fun z=>Q (.tuple ⟨[z,(I 0)]⟩) t:=by
 rw[<-R] at e
 refine Fb (s:=r.aC i) (a:=g) (c:=k) D (e.cI (aG b (o+i*8) ((r.aC i).core++[.slice g (r.aC i).prog.length k])) (cN 4 86 g k ((r.aC i).prog.length,oR (r.aC i).prog))) fun h e=>?_
 refine an f e (l:=ev.enc) rfl rfl (ax (b:=w) (o:=0) e fun h e=>an w e (l:=ev.enc) rfl rfl (F _ ?_))
 have e:=tU (s:=(r.aC i).fM nx) (e.cI (aG b (o+i*8) (((r.aC i).fM nx).core++[.slice g (r.aC i).prog.length k])) (cN 4 86 g k ((r.aC i).prog.length,oR (r.aC i).prog)))
 have A:fU b (o+i*8) ((r.aC i).fM nx)=(fun j=>fU b (o+j*8) ((r.fM i nx).aC j)) i:=by simp only[AM.fM,AM.iZ,cJ]
 rw[A] at e
 have e:=e.lA (n:=m.cfg.aE.toNat) (i:=i) (fun j=>fU b (o+j*8) (m.aC j)) (fun j=>fU b (o+j*8) ((r.fM i nx).aC j)) E (fun j _ u=>by
  have:(r.fM i nx).aC j=m.aC j:=by rw[<-P j u];exact cF u
  simp only[this])
 have B:(r.fM i nx).cfg=m.cfg:=J
 refine mJ (b:=b) (o:=o) (cap:=cap) (a:=a) (c:=c) (mb:=mb) ?_
 rw[B,show(r.fM i nx).bL=r.bL from rfl,O,show(r.fM i nx).mem=r.mem from rfl]
 exact e.to
end
section
set_option maxRecDepth 100000
variable {G:Bg} {h:AH} {L L':List HP} {Q:Value->AH->Prop}
theorem yp {m:AM} (T:m.Ok) {pm:Nat} {R:Int} {busy:Bool} (hl:Ob G 0 eT) (f:Hs G h L) [mm:Has (nU G pm) L m L']
  (B:∀Y,Hs G Y (nU G pm (m.step R busy).1::L')->Q (.tuple ⟨[.agg ⟨(m.step R busy).2.1.enc⟩,I (m.step R busy).2.2]⟩) Y):Cl Pr K 151 [pt pm 0 0,I R,.bool busy] h Q:=by
 have θ:m.cfg.aE<=4/\1<=m.cfg.aE:=⟨T.cfg.1.2,T.cfg.1.1⟩
 obtain⟨b,o,cap,a,c,mb,f⟩:=zV (mm.of f)
 refine cW (bQ f fun F h f=>dD (cG (bW ?_)))
 refine aB (aA (am pm f rfl (bU (rL (by omega) (aQ (c:=[I R]) rfl (dL f rfl rfl rfl fun ad h f=>?_))))))
 refine lU f fun h u=>cH (eB (aX (fun h1=>?_) (fun h1=>?_)))
 rotate_left
 .refine aQ (c:=[I 0,I 0,I 0,I 0,I 0,I 0,I 0]) rfl (ax (b:=F) (o:=0) u fun h f=>an F f (l:=[I 0,I 0,I 0,I 0,I 0,I 0,I 0]) rfl rfl ?_);unfold AM.step at B;rw[aac] at B;refine B _ (mJ (b:=b) (o:=o) (cap:=cap) (a:=a) (c:=c) (mb:=mb) f.to)
 clear f
 have f:=u
 clear u
 obtain⟨i,rfl⟩:∃i:Nat,R=i:=⟨R.toNat,by omega⟩
 have hi:i<m.cfg.aE.toNat:=by omega
 unfold AM.step at B
 rw[aaa] at B
 simp only[Int.toNat_natCast] at B
 have f:=(f.front (dF m.cfg.aE.toNat fun i=>fU b (o+i*8) (m.aC i))).jX i hi
 obtain⟨U,V,f⟩:=Om f
 refine bW (aB (aA (am pm f rfl (dM hi (aB (aA (aA (aD (b:=b) (o:=o+i*8) f rfl ?_))))))))
 refine dI (fun h2=>?_) (fun h2=>?_)
 .rw[aJ7 h2] at B;refine aQ (c:=[I 0,I 0,I 0,I 0,I 0,I 0,I 0]) rfl (ax (b:=F) (o:=0) f fun h f=>an F f (l:=[I 0,I 0,I 0,I 0,I 0,I 0,I 0]) rfl rfl ?_);refine B _ ?_;have f:=tU (f.cI (aG b (o+i*8) ((m.aC i).core++[.slice U (m.aC i).prog.length V])) (cN 4 86 U V ((m.aC i).prog.length,oR (m.aC i).prog)));have f:=f.lA (n:=m.cfg.aE.toNat) (i:=i) (fun j=>fU b (o+j*8) (m.aC j)) (fun j=>fU b (o+j*8) (m.aC j)) hi (fun _ _ _=>rfl);exact mJ (b:=b) (o:=o) (cap:=cap) (a:=a) (c:=c) (mb:=mb) f.to
 rw[aJ6 (by rw[h2];decide)] at B
 have A:=T.aC i (by omega)
 have α:=E0 (p:=(m.aC i).prog) (a:=(m.aC i).at') (by rw[<-A.2.2.1];exact h2)
 have D:=D5 (A.2.2.2.2 _ (zP A.1 α))
 have β:=Pb (m:=m) (i:=i) (b:=busy) D A.1 α
 obtain⟨k1,k2,k3,k4⟩:=sU (m:=m) (i:=i) (x:=kI (m.aC i).prog (m.aC i).at') (b:=busy)
 have γ:∃n:Nat,(m.aC i).at'=n:=⟨(m.aC i).at'.toNat,by have:=A.1;omega⟩
 obtain⟨n,hn⟩:=γ
 have δ:kI (m.aC i).prog (m.aC i).at'=(m.aC i).prog.getD n ⟨0,0,0,0⟩:=by rw[hn];rfl
 generalize hx:kI (m.aC i).prog (m.aC i).at'=x at*
 have η:=A.2.2.2.1
 refine bW (aY f fun P h f=>?_)
 refine aB (aA (aD (b:=b) (o:=o+i*8) f rfl (aB (aA (aA (aD (b:=b) (o:=o+i*8) f rfl ?_))))))
 rw[hn]
 refine Q0 (W:=4) (e:=86) (cs:=oR (m.aC i).prog) (x:=x.enc) f (by decide) (by omega) (by rw[δ];exact Zw (by omega)) rfl ?_
 refine jM f rfl rfl fun q h f=>ax (b:=q) (o:=0) f fun h f=>aY f fun ι h f=>?_
 refine aB (aA (aA (aD (b:=b) (o:=o+i*8) f rfl (aA (am q f rfl (aB (aA (aA (aD (b:=b) (o:=o+i*8) f rfl ?_)))))))))
 refine aQ (c:=[I i,I (m.aC i).at',I x.op,I (m.aC i).world,I 0,I 0,I 0]) rfl ?_
 refine jM f rfl rfl fun k h f=>ax (b:=k) (o:=0) f fun h f=>?_
 refine aB (aA (aA (aD (b:=b) (o:=o+i*8) f rfl (aad (aA (am q f rfl (bH ?_)))))))
 have fin:∀(r:AM) (w v c0 nx:Int) (h:AH),m.gI i x busy=(r,w,v,c0,nx)->
   Hs G h (Ia pm m.cfg (.slice (some ⟨b,o,none⟩) m.cfg.aE.toNat cap) a m.bL.length c mb::cN 1 3 a c (m.bL.length,r.bL.map I)::eO G m.cfg.lines mb m.cfg r.mem::
   hole G 8 213 (some ⟨b,o,none⟩) cap m.cfg.aE.toNat b o::sp (((List.range m.cfg.aE.toNat).erase i).map fun i=>fU b (o+i*8) (m.aC i))::aG b (o+i*8) ((r.aC i).core++[.slice U (m.aC i).prog.length V])::
   cN 4 86 U V ((m.aC i).prog.length,oR (m.aC i).prog)::aG k 0 [I i,I (m.aC i).at',I x.op,I (m.aC i).world,I w,I v,I c0]::aG F 0 [I 0,I 0,I 0,I 0,I 0,I 0,I 0]::L')->
   Cl Pr K 96 [pt b (o+i*8) 0,I nx] h fun v Y=>bG (sD Y 7 (pt k 0 0)) fun ε=>bG (tZ Y 7 (pt F 0 0) ε) fun Z=>bG (sD Z 7 (pt F 0 0)) fun ζ=>Q (.tuple ⟨[ζ,(I 0)]⟩) Z:=by
  intro r w v c0 nx h hd f
  rw[hd] at B k1 k2 k3 k4 β
  exact qj (ev:=⟨i,(m.aC i).at',x.op,(m.aC i).world,w,v,c0⟩) k1 k2 k3 k4 β.1 hi f B
 refine aX (fun s=>?_) (fun E=>bW (bH (aX (fun s=>?_) (fun J=>bW (bH ?_)))))
 .have y:=D.r1 (.inl s);refine bW (aA (am q f rfl (aA (ay (b:=k) (o:=0) f fun h f=>aY f fun P h f=>aA (am q f rfl (aA (am q f rfl (aB (aA (aA (dX y.1 y.2 (vK f y.1 y.2 fun h f=>?_))))))))))));refine fin (m.iZ i ((m.aC i).cR x.a x.b)) 0 x.b 0 _ h ?_ ?_
  .unfold AM.gI;rw[aJ7 s]
  .have f:=f.sg (b:=k) (o:=0) (c:=[I i,I (m.aC i).at',I x.op,I (m.aC i).world,I 0,I x.b,I 0]) rfl;simp only[AM.iZ,cJ];exact f.to
 .have y:=D.r1 (.inr (.inl s));have hb:=D.r2 (.inl s);have z:=D.r3 (.inl s);refine bW (aY f fun P h f=>aA (am q f rfl (aB (aA (aA (dX hb.1 hb.2 (aD (b:=b) (o:=o+i*8) f (mU hb.1 hb.2) (aA (am q f rfl (aB (aA (aA (dX z.1 z.2 (aD (b:=b) (o:=o+i*8) f (mU z.1 z.2) (Li (aA (ay (b:=k) (o:=0) f fun h f=>?_)))))))))))))))));refine aY f fun P h f=>aA (am q f rfl (aA (am k f rfl (aB (aA (aA (dX y.1 y.2 (vK f y.1 y.2 fun h f=>?_))))))));refine fin (m.iZ i ((m.aC i).cR x.a (wr ((m.aC i).cB x.b.toNat+(m.aC i).cB x.c.toNat)))) 0 (wr ((m.aC i).cB x.b.toNat+(m.aC i).cB x.c.toNat)) 0 _ h ?_ ?_
  .unfold AM.gI;rw[aJ6 E,aJ7 s]
  .have f:=f.sg (b:=k) (o:=0) (c:=[I i,I (m.aC i).at',I x.op,I (m.aC i).world,I 0,I (wr ((m.aC i).cB x.b.toNat+(m.aC i).cB x.c.toNat)),I 0]) rfl;simp only[AM.iZ,cJ];exact f.to
 have acc:x.op=3\/x.op=4\/x.op=5->Dd 151 10 [] Q [(pt pm 0 0),(pt F 0 0),(pt b (o+i*8) 0),(pt q 0 0),(pt k 0 0),(I ((m.aC i).at'+1))] h:=by
  intro ho;have y:=D.r1 (by omega);have hb:=D.r2 (by omega);refine bW (aY f fun P h f=>aA (am q f rfl (aB (aA (aA (dX hb.1 hb.2 (aD (b:=b) (o:=o+i*8) f (mU hb.1 hb.2) (aA (ay (b:=k) (o:=0) f fun h f=>an q f (l:=x.enc) rfl rfl ?_)))))))));obtain⟨e1,e2,e3,e4,e5⟩:=E7 (m:=m) (i:=i) (x:=x);refine G1 (m:=m) (i:=i) (pv:= .slice U (m.aC i).prog.length V) T.cfg T.bL ho y hb hl (f.kG (Ia pm m.cfg (.slice (some ⟨b,o,none⟩) m.cfg.aE.toNat cap) a m.bL.length c mb) (cN 1 3 a c (m.bL.length,m.bL.map I)) (eO G m.cfg.lines mb m.cfg m.mem) (aG b (o+i*8) ((m.aC i).core++[.slice U (m.aC i).prog.length V]))) fun h f=>?_;refine aH rfl (aH rfl (aA (ay (b:=k) (o:=0) f fun h f=>aA (ay (b:=k) (o:=0) f fun h f=>?_))));refine fin (m.access i x).1 ((m.aC i).cB x.b.toNat) (m.access i x).2.1 (m.access i x).2.2 _ h ?_ ?_;unfold AM.gI;rw[aJ6 E,aJ6 J,aJ7 ho];have f:=f.sg (b:=k) (o:=0) (c:=[I i,I (m.aC i).at',I x.op,I (m.aC i).world,I ((m.aC i).cB x.b.toNat),I (m.access i x).2.1,I (m.access i x).2.2]) rfl;rw[e2];exact f.to
 have rest:¬(x.op=3\/x.op=4\/x.op=5)->∀t114,Dd 151 11 [] Q [(pt pm 0 0),(.bool busy),(pt F 0 0),(pt b (o+i*8) 0),(pt q 0 0),(pt k 0 0),(I ((m.aC i).at'+1)),(I x.op),t114] h:=by
  intro O t114;refine bW (bH (aX (fun s=>?_) (fun X=>bW (bH (aX (fun s=>?_) (fun n5=>bW (bH (aX (fun s=>?_) (fun n6=>bW (bH (aX (fun s=>?_) (fun n7=>?_))))))))))));refine bW (aA (am q f rfl (aA (ay (b:=k) (o:=0) f fun h f=>aB (aA (aA (aD (b:=b) (o:=o+i*8) f rfl (bH (aX (fun c2=>?_) (fun c2=>?_))))))))));refine bW (aA (am q f rfl (aB (aA (aA (ay (b:=b) (o:=o+i*8) f fun h f=>?_))))));refine fin (m.iZ i ((m.aC i).Qv x.a)) 0 x.a 0 _ h ?_ ?_;unfold AM.gI;rw[aJ6 E,aJ6 J,aJ6 O,aJ7 s,aJ7 c2];have f:=f.sg (b:=b) (o:=o+i*8) (c:=((m.aC i).Qv x.a).core++[.slice U (m.aC i).prog.length V]) rfl;have f:=f.sg (b:=k) (o:=0) (c:=[I i,I (m.aC i).at',I x.op,I (m.aC i).world,I 0,I x.a,I 0]) rfl;simp only[AM.iZ,cJ];exact f.to;refine bW (aA (ay (b:=k) (o:=0) f fun h f=>?_));refine fin m 0 x.a 18 _ h ?_ ?_;unfold AM.gI;rw[aJ6 E,aJ6 J,aJ6 O,aJ7 s,aJ6 c2];have f:=f.sg (b:=k) (o:=0) (c:=[I i,I (m.aC i).at',I x.op,I (m.aC i).world,I 0,I x.a,I 18]) rfl;exact f.to;have hb:=D.r2 (by omega);have z:=D.r3 (by omega);refine bW (aY f fun P h f=>aA (am q f rfl (aB (aA (aA (dX hb.1 hb.2 (aD (b:=b) (o:=o+i*8) f (mU hb.1 hb.2) (aA (am q f rfl (aB (aA (aA (dX z.1 z.2 (aD (b:=b) (o:=o+i*8) f (mU z.1 z.2) ?_))))))))))))));refine aA (ay (b:=k) (o:=0) f fun h2 u=>aA (ay (b:=k) (o:=0) u fun h f=>?_));refine bT bZ (bT (aA bZ) (bT (am q u rfl gF) (bT (aB bZ) (bT (aA bZ) (bT (aA bZ) (bT (dX z.1 z.2 bZ) (bT (aD (b:=b) (o:=o+i*8) u (mU z.1 z.2) gF) ?_)))))));clear u;refine aY f fun P h f=>aA (am q f rfl (aB (aA (aA (aD (b:=b) (o:=o+i*8) f rfl (aA (am k f rfl (aA (am k f rfl ?_)))))))));obtain⟨e1,e2,e3⟩:=tI (m:=m) (c:=x.a) (w:=(m.aC i).world) (g:=(m.aC i).cB x.b.toNat) (t:=(m.aC i).cB x.c.toNat) (b:=busy);refine yb (m:=m) T.cfg T.bL hl (f.cZ (Ia pm m.cfg (.slice (some ⟨b,o,none⟩) m.cfg.aE.toNat cap) a m.bL.length c mb) (cN 1 3 a c (m.bL.length,m.bL.map I)) (eO G m.cfg.lines mb m.cfg m.mem)) fun h f=>?_;refine aA (ay (b:=k) (o:=0) f fun h f=>aY f fun P h f=>aA (am q f rfl (aA (am k f rfl (aB (aA (aA (dX hb.1 hb.2 (vK f hb.1 hb.2 fun h f=>?_)))))))));refine fin ((m.call x.a (m.aC i).world ((m.aC i).cB x.b.toNat) ((m.aC i).cB x.c.toNat) busy).1.iZ i ((m.aC i).cR x.b (m.call x.a (m.aC i).world ((m.aC i).cB x.b.toNat) ((m.aC i).cB x.c.toNat) busy).2)) ((m.aC i).cB x.b.toNat) ((m.aC i).cB x.c.toNat) (m.call x.a (m.aC i).world ((m.aC i).cB x.b.toNat) ((m.aC i).cB x.c.toNat) busy).2 _ h ?_ ?_;unfold AM.gI;rw[aJ6 E,aJ6 J,aJ6 O,aJ6 X,aJ7 s];have f:=f.sg (b:=k) (o:=0) (c:=[I i,I (m.aC i).at',I x.op,I (m.aC i).world,I ((m.aC i).cB x.b.toNat),I ((m.aC i).cB x.c.toNat),I (m.call x.a (m.aC i).world ((m.aC i).cB x.b.toNat) ((m.aC i).cB x.c.toNat) busy).2]) rfl;simp only[AM.iZ,cJ];exact f.to;refine bW (aA (am q f rfl (aA (ay (b:=k) (o:=0) f fun h f=>aA (am q f rfl ?_)))));refine fin m 0 x.a 0 _ h ?_ ?_;unfold AM.gI;rw[aJ6 E,aJ6 J,aJ6 O,aJ6 X,aJ6 n5,aJ7 s];have f:=f.sg (b:=k) (o:=0) (c:=[I i,I (m.aC i).at',I x.op,I (m.aC i).world,I 0,I x.a,I 0]) rfl;exact f.to;have y:=D.r1 (by omega);refine bW (aY f fun P h f=>aA (am q f rfl (aB (aA (aA (dX y.1 y.2 (aD (b:=b) (o:=o+i*8) f (mU y.1 y.2) (aA (ay (b:=k) (o:=0) f fun h f=>aA (am k f rfl (bH (aX (fun c2=>?_) (fun c2=>?_)))))))))))));refine bW (aA (am q f rfl ?_));refine fin m 0 ((m.aC i).cB x.a.toNat) 0 _ h ?_ ?_;unfold AM.gI;rw[aJ6 E,aJ6 J,aJ6 O,aJ6 X,aJ6 n5,aJ6 n6,aJ7 s,aJ7 c2];have f:=f.sg (b:=k) (o:=0) (c:=[I i,I (m.aC i).at',I x.op,I (m.aC i).world,I 0,I ((m.aC i).cB x.a.toNat),I 0]) rfl;exact f.to;refine bW ?_;refine fin m 0 ((m.aC i).cB x.a.toNat) 0 _ h ?_ ?_;unfold AM.gI;rw[aJ6 E,aJ6 J,aJ6 O,aJ6 X,aJ6 n5,aJ6 n6,aJ7 s,aJ6 c2];have f:=f.sg (b:=k) (o:=0) (c:=[I i,I (m.aC i).at',I x.op,I (m.aC i).world,I 0,I ((m.aC i).cB x.a.toNat),I 0]) rfl;exact f.to;refine bW ?_;refine fin m 0 0 0 _ h ?_ ?_;unfold AM.gI;rw[aJ6 E,aJ6 J,aJ6 O,aJ6 X,aJ6 n5,aJ6 n6,aJ6 n7];exact f.to
 refine aX (fun s=>bW ?_) (fun O=>bW (bH (aX (fun s=>bW ?_) (fun X=>bW (bH (aX (fun s=>acc (by omega)) (fun n5=>rest (by omega) _)))))))
 .rw[decide_eq_true s];exact eU (acc (by omega))
 .rw[decide_eq_true s];exact eU (acc (by omega))
end
end Go.Proofs.YtajjljbmfdboaaaGreatDoor.A
end
