/- A part of the proof. -/
import Derived.Test.YtajjljbmfdboaaaGreatDoorM11
import Derived.Test.YtajjljbmfdboaaaGreatDoorM9
section
open Go Go.Ab
attribute [local irreducible] bE Br rT vO vB Dv nP xS mZ Ti iN nG pU sP rF lJ Cy xP Ya Xx Tj R3 Xc Td Rx Ub U1 mF pL vA kI copyV jQ zM Xp Yw Iz mA Pp Wr X7 pT tO Ao Cx Cl Bc Xb uL uF lI iQ cS cB
namespace Go.Proofs.YtajjljbmfdboaaaGreatDoor.H
open Go Go.Ab Go.Hm
section
set_option maxRecDepth 100000
variable {G:Bg} {h:AH} {L L':List HP}
def eR (b o:Nat) (r:Row):HP:=fun q=>∃a c,star [aG b o (r.enc a c),dI 9 175 a c (r.waits.length,eP r.waits)] q
theorem dZ {b o:Nat} {r:Row} (e:Hs G h (eR b o r::L)):∃a c,Hs G h (aG b o (r.enc a c)::dI 9 175 a c (r.waits.length,eP r.waits)::L):=by
 obtain⟨q,s,⟨a,c,k⟩,g,f,i,j⟩:=e.fst;exact⟨a,c,e.base,e.old,e.wf,e.fr,_,(jL (L:=[_,_])).2 ⟨q,s,k,g,f,rfl⟩,(cI.fT f).2 ⟨i,j⟩⟩
theorem kM {b o:Nat} (r:Row) {a:Option Addr} {c:Nat} (f:Hs G h (aG b o (r.enc a c)::dI 9 175 a c (r.waits.length,eP r.waits)::L)):Hs G h (eR b o r::L):=
 Hs.join (A:=[_,_]) f fun _ e=>⟨a,c,e⟩
theorem Bq {x:Int} {Q:Value->AH->Prop} (a:Q (.bool (decide (0<=x/\x<5))) h):Cl Pr K 295 [I x] h Q:=by
 refine cW ?_;refine dO (aX (fun c=>aZ ?_) (fun c=>?_));show Q _ _;rw[show decide (x<5)=decide (0<=x/\x<5) from decide_eq_decide.2 (by omega)];exact a;show Q _ _;rw[show false=decide (0<=x/\x<5) from(decide_eq_false (by omega)).symm];exact a
theorem vj {x:Int} {Q:Value->AH->Prop} (c:Q (.bool (valid x)) h):Cl Pr K 297 [I x] h Q:=by
 refine cW (Bq (aX (fun a=>bC ?_) (fun a=>?_)));show Q _ _;rw[show decide (x≠0)=valid x from by simp only[valid,decide_eq_true a,Bool.true_and]];exact c;show Q _ _;rw[show false=valid x from by simp only[valid,decide_eq_false a,Bool.false_and]];exact c
theorem dj {b o:Nat} {r:Row} {Q:Value->AH->Prop} (e:Hs G h L) [m:Has (eR b o) L r L'] (g:∀f,Hs G f (eR b o r.free::L')->Q (.tuple ⟨[]⟩) f):Cl Pr K 252 [pt b o 0] h Q:=by
 obtain⟨a,c,e⟩:=dZ (m.of e);refine cW ?_;repeat' first
  |refine aA ?_
  |refine aB ?_
  |(refine bL e rfl rfl rfl rfl ?_;intro h e)
  |refine aQ rfl ?_
 exact g _ (kM r.free (a:=a) (c:=c) e)
theorem vx {r:Row} {x:Int} (h:r.owner=x):r.leave x={r with sh:=gW r.sh x false,owner:= -1}:=by simp only[Row.leave,aLb h]
theorem yx {r:Row} {x:Int} (h:¬r.owner=x):r.leave x={r with sh:=gW r.sh x false}:=by simp only[Row.leave,aLa h]
theorem F1 {b o:Nat} {r:Row} {x:Int} {Q:Value->AH->Prop} (e:Hs G h L) [m:Has (eR b o) L r L'] (k:0<=x/\x<4) (f:∀j,Hs G j (eR b o (r.leave x)::L')->Q (.tuple ⟨[]⟩) j):Cl Pr K 218 [pt b o 0,I x] h Q:=by
 obtain⟨a,c,e⟩:=dZ (m.of e);refine cW ?_;have i:x=0\/x=1\/x=2\/x=3:=by omega
 rcases i with rfl|rfl|rfl|rfl;all_goals
  refine aB (aA (fU (by decide) (by decide) ?_))
  repeat' first
   |refine aA ?_
   |refine aB ?_
   |refine bJ ?_
   |refine aC e rfl ?_
   |(refine bL e rfl rfl rfl rfl ?_;intro h e)
   |(refine aX (fun g=>?_) (fun g=>?_))
  .rw[vx g] at f;exact f _ (kM _ (a:=a) (c:=c) e)
  .rw[yx g] at f;exact f _ (kM _ (a:=a) (c:=c) e)
theorem at4 {f:Nat->Bool} {i:Nat} (c:i<4) {k:Value->Prop} (a:k (.bool (f i))):bE (Pp 4 1 (.agg ⟨[.bool (f 0),.bool (f 1),.bool (f 2),.bool (f 3)]⟩) (I i)) k:=by
 refine X3 ?_ a;have:i=0\/i=1\/i=2\/i=3:=by omega
 rcases this with rfl|rfl|rfl|rfl<;>simp[Pp]
theorem X1 {b o:Nat} {r:Row} {x:Int} {a:Option Addr} {c:Nat} {Q:Value->AH->Prop} (u:Hs G h (aG b o (r.enc a c)::L)):∀(f i:Nat) (t:Value),i+f=4->Q (I (r.tU x f i)) h->
  Dd 221 1 [] Q [(pt b o 0),(I x),(I (-1)),(.agg ⟨[.bool (r.sh 0),.bool (r.sh 1),.bool (r.sh 2),.bool (r.sh 3)]⟩),(I i),t] h:=by
 intro f
 induction f with
 |zero=>
  intro i t s e
  refine bW (aZ (aT (by omega) ?_))
  exact e
 |succ f v=>
  intro i t s e
  refine bW (aZ (bV (by omega) (bW (at4 (by omega) ?_))))
  have next:∀t,r.holds x i=false->Dd 221 3 [] Q [(pt b o 0),(I x),(I (-1)),(I i),(.agg ⟨[.bool (r.sh 0),.bool (r.sh 1),.bool (r.sh 2),.bool (r.sh 3)]⟩),(I i),t] h:=fun t q=>by
   refine bW (bQ (by omega) (v (i+1) _ (by omega) ?_));simpa [Row.tU,q] using e
  refine bJ (aX (fun j=>next _ ?_) (fun j=>bW (dH (fun g=>bW ?_) (fun g=>bW ?_))))
  .exact du j
  .rw[g];refine fK (bW ?_);have:r.holds x i=true:=xl j g;rw[Row.tU,aLb this] at e;exact e
  .repeat' first
    |refine aA ?_
    |refine aB ?_
    |refine bJ ?_
    |refine aC u rfl ?_
   refine aX (fun k=>bW ?_) (fun k=>next _ ?_)
   .have:r.holds x i=true:=vz j k;rw[Row.tU,aLb this] at e;exact e
   .exact fq g k
theorem wM {b o:Nat} {r:Row} {x:Int} {Q:Value->AH->Prop} (e:Hs G h L) [m:Has (eR b o) L r L'] (f:Hs G h (eR b o r::L')->Q (I (r.first x)) h):Cl Pr K 221 [pt b o 0,I x] h Q:=by
 have f:=f (m.of e);obtain⟨a,c,e⟩:=dZ (m.of e);refine cW ?_;repeat' first
  |refine aA ?_
  |refine aB ?_
  |refine aU e (by decide) rfl rfl ?_
 exact X1 e 4 0 _ rfl f
def o9 (b o:Nat) (r:Row):HP:=aG b o r.Z0
def Lz (b o:Nat) (r:Row):HP:=vW fun x:Option Addr×Nat=>sp [aG b (o+5) (r.K3 x.1 x.2),dI 9 175 x.1 x.2 (r.waits.length,eP r.waits)]
theorem K2 {b o:Nat} {r:Row} (e:Hs G h (eR b o r::L)):Hs G h (o9 b o r::Lz b o r::L):=by
 obtain⟨a,c,e⟩:=dZ e;have f:Hs G h (aG b (o+5) (r.K3 a c)::dI 9 175 a c (r.waits.length,eP r.waits)::aG b o r.Z0::L):=(e.split (c:=r.Z0) (d:=r.K3 a c)).perm (by
  exact(List.Perm.swap _ _ _).trans ((List.Perm.swap _ _ _).cons _))
 exact(Hs.Af (A:=fun x:Option Addr×Nat=>sp [aG b (o+5) (r.K3 x.1 x.2),dI 9 175 x.1 x.2 (r.waits.length,eP r.waits)]) (a,c) (Hs.pack (A:=[_,_]) f)).perm (List.Perm.swap _ _ _)
theorem O7 {b o:Nat} {r:Row} (e:Hs G h (Lz b o r::L)):∃a c,Hs G h (aG b (o+5) (r.K3 a c)::dI 9 175 a c (r.waits.length,eP r.waits)::L):=by
 obtain⟨⟨a,c⟩,e⟩:=e.Et;exact⟨a,c,e.unpack⟩
theorem Za {b o:Nat} (r:Row) {a:Option Addr} {c:Nat} (e:Hs G h (aG b (o+5) (r.K3 a c)::dI 9 175 a c (r.waits.length,eP r.waits)::L)):Hs G h (Lz b o r::L):=
 Hs.Af (A:=fun x:Option Addr×Nat=>sp [aG b (o+5) (r.K3 x.1 x.2),dI 9 175 x.1 x.2 (r.waits.length,eP r.waits)]) (a,c) (Hs.pack (A:=[_,_]) e)
theorem Pn {b o:Nat} {r:Row} (e:Hs G h (o9 b o r::Lz b o r::L)):Hs G h (eR b o r::L):=by
 obtain⟨a,c,e⟩:=O7 (e.perm (List.Perm.swap _ _ _));refine kM r (a:=a) (c:=c) ?_;rw[Row.iu];exact Hs.Jj (c:=r.Z0) (e.perm ((List.Perm.swap _ _ _).cons _|>.trans (List.Perm.swap _ _ _))) rfl
def Fz (b o p q:Nat) (x:Int) (r:Row):HP:=sp [o9 b o r,aG p 0 [pt b o 0],aG q 0 [I x]]
theorem Z9 {b o:Nat} {x:Int} {Q:Value->AH->Prop} (a:Hs G h L) (e:∀p q c,Hs G c (aG p 0 [pt b o 0]::aG q 0 [I x]::L)->Q (.func (.func 272) #[] #[pt p 0 0,pt q 0 0]) c):Cl Pr K 223 [pt b o 0,I x] h Q:=by
 refine cW ?_;repeat' first
  |(refine dS a ?_;intro p h a)
 exact e _ _ _ (a.perm (List.Perm.swap _ _ _))
theorem Sy {b o p q:Nat} {r:Row} {x:Int} {s:List (List Value)->HP} {J:HP} {y:Value} {Q:Value->AH->Prop}
  (R:∀z rest h M,Hs G h (s (z::rest)::M)->Bc Pr K y z h fun v a=>(v= .bool true/\Hs G a (s rest::M))\/(v= .bool false/\Hs G a (J::M)))
  (O:∀v a,Hs G a (Fz b o p q x r::s []::L)->Q v a) (F:∀v a,Hs G a (Fz b o p q x r::J::L)->Q v a):
  ∀(f i:Nat) (h:AH),i+f=4->Hs G h (Fz b o p q x r::s ((r.fD x f i).map fun(c:Nat)=>[I c])::L)->
   Dd 272 1 [] Q [y,(pt p 0 0),(pt q 0 0),(.agg ⟨[.bool (r.sh 0),.bool (r.sh 1),.bool (r.sh 2),.bool (r.sh 3)]⟩),(I i)] h:=by
 intro f
 induction f with
 |zero=>
  intro i h P j
  refine bW (aZ (aT (by omega) ?_))
  exact O _ _ j
 |succ f w=>
  intro i h P j
  refine bW (aZ (bV (by omega) (bW (at4 (by omega) ?_))))
  have k:=j
  have j:=j.unpack
  have yes:r.holds x i=true->Bc Pr K y [I i] h fun v a=>(v= .bool true/\Hs G a (Fz b o p q x r::s ((r.fD x f (i+1)).map fun(c:Nat)=>[I c])::L))\/(v= .bool false/\Hs G a (Fz b o p q x r::J::L)):=fun D=>by
   rw[Row.fD,aLb D] at k;refine(R _ _ h _ (k.perm (List.Perm.swap _ _ _))).mono fun v a t=>?_;exact t.imp (fun e=>⟨e.1,e.2.perm (List.Perm.swap _ _ _)⟩) (fun e=>⟨e.1,e.2.perm (List.Perm.swap _ _ _)⟩)
  have no:r.holds x i=false->Hs G h (Fz b o p q x r::s ((r.fD x f (i+1)).map fun(c:Nat)=>[I c])::L):=fun D=>by
   simpa only[Row.fD,D,Bool.false_eq_true,if_false] using k
  refine aC j rfl (bJ (aX (fun u=>bQ (by omega) (w (i+1) h (by omega) (no (du u)))) (fun u=>cE (eO (dH (fun A=>?_) (fun A=>?_))))))
  .refine(yes (xl u A)).mono fun v a t=>?_;rcases t with⟨rfl,g⟩|⟨rfl,g⟩
   .exact cE (bZ (bW (bQ (by omega) (w (i+1) a (by omega) g))))
   .exact cE (fK (F _ _ g))
  .have E:Hs G h (aG b o r.Z0::_):=j;refine aC j rfl (aB (aA (aC E rfl (bC (aX (fun B=>?_) (fun B=>?_))))))
   .exact bW (bQ (by omega) (w (i+1) h (by omega) (no (fq A B))))
   .refine bW ((yes (vz u (by simpa using B))).mono fun v a t=>?_);rcases t with⟨rfl,g⟩|⟨rfl,g⟩
    .exact cE (bZ (bW (bQ (by omega) (w (i+1) a (by omega) g))))
    .exact cE (fK (F _ _ g))
theorem jy {b o p q:Nat} {r:Row} {x:Int}:xi Pr K G 272 [] [pt p 0 0,pt q 0 0] (Fz b o p q x r) ((r.gA x).map fun(c:Nat)=>[I c]):=by
 intro k J y L h Q f j g i;refine cW ?_;have a:=f.unpack;have e:Hs G h (aG b o r.Z0::_):=a;refine aC a rfl (aB (aA (aU e (by decide) rfl rfl ?_)));exact Sy j g i 4 0 h rfl f
end
section
set_option maxRecDepth 100000
variable {G:Bg} {h:AH} {L L':List HP}
def eT (v:Value) (l:List aJ):HP:=vW fun x:Option Addr×Nat=>sp [Cz (v= .slice x.1 l.length x.2),dI 9 175 x.1 x.2 (l.length,eP l)]
theorem H6 {a:Option Addr} {c n:Nat} {l:List aJ} {cs:List Value} (e:n=l.length) (hc:cs=eP l) (f:Hs G h (dI 9 175 a c (n,cs)::L)):Hs G h (eT (.slice a n c) l::L):=by
 subst e;subst hc;exact Hs.Af (A:=fun x:Option Addr×Nat=>sp [Cz (Value.slice a l.length c=Value.slice x.1 l.length x.2),dI 9 175 x.1 x.2 (l.length,eP l)]) (a,c) (Hs.pack (A:=[_,_]) (Hs.To rfl f))
theorem uu {v:Value} {l:List aJ} (e:Hs G h (eT v l::L)):∃a c,v= .slice a l.length c/\Hs G h (dI 9 175 a c (l.length,eP l)::L):=by
 obtain⟨⟨a,c⟩,e⟩:=e.Et;obtain⟨f,e⟩:=Hs.y7 e.unpack;exact⟨a,c,f,e⟩
theorem W4 {line state:Int} {l:List Nat} {i:Nat}:eF line state (l++[i])=eF line state l++[⟨11,i,line,0,state,0,0,false,0⟩]:=by simp[eF,aJ.zero]
theorem aEi {f:Nat->Bool} {i j:Nat} {v:Bool}:gW f i v j=if j=i then v else f j:=by
 simp only[gW,Int.ofNat_inj]
theorem Wq {r:Row} {l:List Nat} {i:Nat}:r.iA (l++[i])={r.iA l with asked:=gW (r.iA l).asked i true}:=by
 simp only[Row.iA,Row.mk.injEq,true_and,and_true];funext j;simp only[aEi,List.contains_append];by_cases h:j=i;subst h;simp;simp[h]
theorem aBy {b o i:Nat} {r:Row} {a:Option Addr} {c:Nat} {v:Bool} {k:AH->Prop} (e:Hs G h L) [m:Has (aG b (o+5)) L (r.K3 a c) L'] (j:i<4) (g:∀f,Hs G f (aG b (o+5) (({r with asked:=gW r.asked i v}:Row).K3 a c)::L')->k f):bE (vB h 1 (pt b o (17+(i:Int).toNat*1)) (.bool v)) k:=by
 have e:=m.of e;rw[aI5 (m:=5) (by omega)];have:i=0\/i=1\/i=2\/i=3:=by omega
 rcases this with rfl|rfl|rfl|rfl;all_goals
  refine bL e rfl rfl rfl rfl ?_
  exact g
def prC (b o p2 p5 g f:Nat) (line state:Int) (r:Row) (xs:List Nat) (e:Nat->Value) (d l:Nat) (rest:List (List Value)) (done:List Nat) (a:Option Addr) (c:Nat):List HP:=
 [Cz (rest=(xs.drop done.length).map fun(c:Nat)=>[I c]),Cz (xs.take done.length=done),
    pP Pr 222 (pM 58) 26 e d l (.ready,none),aG p2 0 [pt b o 0],aG p5 0 [I line],aG g 0 [I state],Lz b o (r.iA done),
    aG f 0 [.slice a done.length c],dI 9 175 a c (done.length,eP (eF line state done))]
def prI (b o p2 p5 c a:Nat) (line state:Int) (r:Row) (xs:List Nat) (e:Nat->Value) (d l:Nat) (rest:List (List Value)):HP:=
 vW fun x:List Nat×Option Addr×Nat=>sp (prC b o p2 p5 c a line state r xs e d l rest x.1 x.2.1 x.2.2)
theorem aHp {b o p2 p5 g f:Nat} {line state:Int} {r:Row} {xs:List Nat} {e:Nat->Value} {d l:Nat} {rest:List (List Value)} (done:List Nat) (a:Option Addr) (c:Nat) (i:rest=(xs.drop done.length).map fun(c:Nat)=>[I c]) (j:xs.take done.length=done)
  (k:Hs G h (sp ((prC b o p2 p5 g f line state r xs e d l rest done a c).drop 2)::L)):Hs G h (prI b o p2 p5 g f line state r xs e d l rest::L):=
 Hs.Af (done,a,c) (zL i (zL j k))
theorem aCx {b o p2 p5 i g:Nat} {line state:Int} {r:Row} {xs:List Nat} {e:Nat->Value} {d l:Nat} {rest:List (List Value)} (f:Hs G h (prI b o p2 p5 i g line state r xs e d l rest::L)):∃done a c,(rest=(xs.drop done.length).map fun(c:Nat)=>[I c])/\xs.take done.length=done/\
  Hs G h (pP Pr 222 (pM 58) 26 e d l (.ready,none)::aG p2 0 [pt b o 0]::aG p5 0 [I line]::aG i 0 [I state]::Lz b o (r.iA done)::aG g 0 [.slice a done.length c]::dI 9 175 a c (done.length,eP (eF line state done))::L):=by
 obtain⟨⟨done,a,c⟩,f⟩:=Hs.Et f
 obtain⟨j,f⟩:=iG f
 obtain⟨k,f⟩:=iG f
 exact⟨done,a,c,j,k,f.unpack⟩
theorem Fk {b o:Nat} {line state:Int} {r:Row} {g:FuncId} {j:List Value} {A:HP} {xs:List Nat} {Q:Value->AH->Prop} (Z:xi Pr K G g [] j A (xs.map fun(c:Nat)=>[I c])) (X:∀c∈xs,c<4) (Y:xs.length<=4) (R:gL Pr g=true)
  (f:Hs G h (A::Lz b o r::L)) (T:∀v s,Hs G s (eT v (eF line state xs)::A::Lz b o (r.iA xs)::L)->Q v s):
  Cl Pr K 222 [pt b o 0,I line,I state,.func (.func g) #[] ⟨j⟩] h Q:=by
 refine cW ?_
 refine dS f fun p2 h f=>dS f fun p5 h f=>dS f fun p8 h f=>bP f fun z h f=>oY f fun d h f=>?_
 intro e P
 refine tZ f fun l h f=>?_
 refine A8 R ?_
 have f:=gS (W:=9) (e:=175) f
 have E:r.iA []=r:=by simp[Row.iA]
 have y:Hs G h (A::prI b o p2 p5 p8 z line state r xs e d l (xs.map fun(c:Nat)=>[I c])::mk d ()::L):=by
  refine Hs.mK (aHp [] none 0 rfl rfl ?_);rw[<-E] at f;simp only[prC,List.drop_succ_cons,List.drop_zero,List.length_nil,eF,List.map_nil,Oq];exact f.to
 refine Z _ (Cz False) _ _ h _ y ?_ ?_ ?_
 .intro x rest h M f;obtain⟨done,a,c,k,u,V⟩:=aCx f;clear f;cases hx2:xs.drop done.length with
  |nil=>rw[hx2] at k;cases k
  |cons i q=>
   rw[hx2] at k
   simp only[List.map_cons,List.cons.injEq] at k
   obtain⟨rfl,rfl⟩:=k
   have w:i<4:=X i (List.mem_of_mem_drop (by rw[hx2];exact List.mem_cons_self))
   have O:done.length<xs.length:=by
    rcases Nat.lt_or_ge done.length xs.length with h|h;exact h;rw[List.drop_eq_nil_of_le h] at hx2;cases hx2
   obtain⟨B,c2,f⟩:=O7 (V.perm (dX.perm (A:=Lz b o (r.iA done))))
   refine rW (A7 f) P ?_
   refine lU f fun h f=>aC f rfl (aB (aA (fU (by omega) (by omega) ?_)))
   rw[Nat.zero_add]
   refine aBy f w fun h f=>aC f rfl (aC f rfl (aC f rfl (aQ (c:=aJ.enc ⟨11,i,line,0,state,0,0,false,0⟩) rfl (aQ (c:=aJ.enc ⟨11,i,line,0,state,0,0,false,0⟩) rfl ?_))))
   refine dW f rfl rfl rfl ?_
   intro a3 h f
   refine sI f (by omega) ?_
   intro a4 D h f
   dsimp only
   refine bH f rfl rfl rfl rfl ?_
   intro h f
   refine mB f ?_
   intro h f
   refine .inl ⟨rfl,?_⟩
   rw[<-Wq] at f
   have f:=Za (r.iA (done++[i])) (f.cX (aG b (o+5) ((r.iA (done++[i])).K3 B c2)) (dI 9 175 B c2 ((r.iA done).waits.length,eP (r.iA done).waits)))
   have U:(done++[i]).length=done.length+1:=by simp
   have t:xs=done++i::q:=by have:=List.take_append_drop done.length xs;rw[u,hx2] at this;exact this.symm
   refine aHp (done++[i]) a4 D ?_ ?_ ?_
   .have:xs=(done++[i])++q:=by simp[t]
    rw[this,List.drop_left]
   .have:xs=(done++[i])++q:=by simp[t]
    rw[this,List.take_left]
   .simp only[prC,List.drop_succ_cons,List.drop_zero,U,W4,zF,M5,Oq,List.append_nil];exact f.to
 .intro v s f;obtain⟨done,a,c,k,u,f⟩:=aCx f.mK;have J:xs=done:=by
   have:xs.drop done.length=[]:=by simpa using k.symm
   rw[<-u,List.take_of_length_le (by simpa using this)]
  subst J
  refine uG f fun s f=>uE ?_
  refine aC f rfl (oU f fun s f=>lZ ?_)
  refine T _ _ ?_
  have F:(eF line state xs).length=xs.length:=by simp[eF]
  have f:=H6 (l:=eF line state xs) F.symm rfl (f.perm (dX.perm (A:=dI 9 175 a c (xs.length,eP (eF line state xs)))))
  exact f.to
 .intro v s f;exact(Hs.y7 (f.mK)).1.elim
end
section
set_option maxRecDepth 100000
variable {G:Bg} {h:AH} {L L':List HP}
theorem X2 {b o:Nat} {x:Int} {c':List Value} {a:Option Addr} {c:Nat} {v:Bool} {k:AH->Prop} (r:Row) (g:Hs G h L) [m:Has (aG b o) L c' L'] (hc:c'=r.enc a c) (i:0<=x/\x<4) (f:∀e,Hs G e (aG b o (({r with sh:=gW r.sh x v}:Row).enc a c)::L')->k e):bE (vB h 1 (pt b o (0+1+x.toNat*1)) (.bool v)) k:=by
 subst hc;have:x=0\/x=1\/x=2\/x=3:=by omega
 rcases this with rfl|rfl|rfl|rfl;all_goals
  refine bL g rfl rfl rfl rfl ?_
  exact f
theorem aFt {b o:Nat} {x:Int} {c':List Value} {a:Option Addr} {c:Nat} {v:Bool} {k:AH->Prop} (r:Row) (g:Hs G h L) [m:Has (aG b o) L c' L'] (hc:c'=r.enc a c) (i:0<=x/\x<4) (f:∀e,Hs G e (aG b o (({r with asked:=gW r.asked x v}:Row).enc a c)::L')->k e):bE (vB h 1 (pt b o (0+17+x.toNat*1)) (.bool v)) k:=by
 subst hc;have:x=0\/x=1\/x=2\/x=3:=by omega
 rcases this with rfl|rfl|rfl|rfl;all_goals
  refine bL g rfl rfl rfl rfl ?_
  exact f
def mM (mb:Nat) (C:bM) (b o cap:Nat):List Value:=[pt mb 0 0,I C.aE,I C.aS,I C.aI,I C.ways,I C.depth,I C.entries,I C.aN,.slice (some ⟨b,o,none⟩) C.lines cap]
structure HmA where
 mb:Nat
 b:Nat
 o:Nat
 cap:Nat
def aG4 (G:Bg) (hb:Nat) (C:bM) (H:kN) (x:HmA):List HP:=
 [aG hb 0 (mM x.mb C x.b x.o x.cap),fP G C.lines x.mb C (fun i=>(H i).2),hole G 25 247 (some ⟨x.b,x.o,none⟩) x.cap C.lines x.b x.o,dK C.lines fun i=>eR x.b (x.o+i*25) (H i).1]
def gP (G:Bg) (hb:Nat) (C:bM) (H:kN):HP:=vW fun x:HmA=>sp (aG4 G hb C H x)
def A4 (b o n:Nat) (H:kN) (l:Nat):HP:=sp (((List.range n).erase l).map fun i=>eR b (o+i*25) (H i).1)
theorem rS {hb:Nat} {C:bM} {H:kN} (a:Hs G h (gP G hb C H::L)):∃mb b o cap,Hs G h (aG hb 0 (mM mb C b o cap)::fP G C.lines mb C (fun i=>(H i).2)::hole G 25 247 (some ⟨b,o,none⟩) cap C.lines b o::dK C.lines (fun i=>eR b (o+i*25) (H i).1)::L):=by
 obtain⟨⟨mb,b,o,cap⟩,a⟩:=a.Et;exact⟨mb,b,o,cap,a.unpack⟩
theorem Gr {hb l:Nat} {C:bM} {H:kN} (c:l<C.lines) (a:Hs G h (gP G hb C H::L)):∃mb b o cap,Hs G h (eR b (o+l*25) (H l).1::aG hb 0 (mM mb C b o cap)::fP G C.lines mb C (fun i=>(H i).2)::hole G 25 247 (some ⟨b,o,none⟩) cap C.lines b o::A4 b o C.lines H l::L):=by
 obtain⟨mb,b,o,cap,a⟩:=rS a;have a:=(a.front (dK C.lines fun i=>eR b (o+i*25) (H i).1)).mW l c;exact⟨mb,b,o,cap,(show Hs G h (eR b (o+l*25) (H l).1::A4 b o C.lines H l::_) from a).to⟩
theorem tD {hb:Nat} {C:bM} {H:kN} {mb b o cap:Nat} (a:Hs G h (aG hb 0 (mM mb C b o cap)::fP G C.lines mb C (fun i=>(H i).2)::hole G 25 247 (some ⟨b,o,none⟩) cap C.lines b o::dK C.lines (fun i=>eR b (o+i*25) (H i).1)::L)):Hs G h (gP G hb C H::L):=
 Hs.Af (A:=fun x=>sp (aG4 G hb C H x)) ⟨mb,b,o,cap⟩ (Hs.pack (A:=aG4 G hb C H ⟨mb,b,o,cap⟩) a)
theorem mem_of {H:kN} {l:Nat} {x:lX}:(fun i=>(aR H l x i).2)=aR (fun i=>(H i).2) l x.2:=by
 funext i;unfold aR;split<;>rfl
theorem eU {f L2 g k c:List HP} (hb:Nat) (C:bM) (H:kN) (l:Nat) (r:Row) (m:Ln) (mem:Nat->Ln) (mb b o cap:Nat) (s:l<C.lines) (t:mem=aR (fun i=>(H i).2) l m) (a:Hs G h L) [u:dX (eR b (o+l*25) r) L f] [v:dX (aG hb 0 (mM mb C b o cap)) f L2] [w:dX (fP G C.lines mb C mem) L2 g]
  [y:dX (hole G 25 247 (some ⟨b,o,none⟩) cap C.lines b o) g k] [z:dX (A4 b o C.lines H l) k c]:Hs G h (gP G hb C (aR H l (r,m))::c):=by
 subst t
 have a:Hs G h (eR b (o+l*25) r::A4 b o C.lines H l::aG hb 0 (mM mb C b o cap)::fP G C.lines mb C (aR (fun i=>(H i).2) l m)::hole G 25 247 (some ⟨b,o,none⟩) cap C.lines b o::c):=
  (a.perm (u.perm.trans ((v.perm.trans ((w.perm.trans ((y.perm.trans (z.perm.cons _)).cons _)).cons _)).cons _))).to
 have q:(fun i=>eR b (o+i*25) (aR H l (r,m) i).1) l=eR b (o+l*25) r:=by simp only[dC]
 rw[<-q] at a
 unfold A4 at a
 have a:=a.qA (n:=C.lines) (i:=l) (fun i=>eR b (o+i*25) (H i).1) (fun i=>eR b (o+i*25) (aR H l (r,m) i).1) s (fun j _ e=>by simp only[cH e])
 rw[<-mem_of (x:=(r,m))] at a
 exact tD (mb:=mb) (b:=b) (o:=o) (cap:=cap) a.to
theorem D8 {a:Addr} {n:aJ} {cs:List Value} (hc:cs=n.enc) (c:Hs G h (dI 9 175 (some a) 1 (1,cs)::L)):Hs G h (eT (.slice (some a) 1 1) [n]::L):=H6 rfl (by rw[hc];simp) c
theorem qQ (a:Hs G h L):Hs G h (eT (.slice none 0 0) []::L):=H6 rfl rfl (gS a)
section
variable {b o p:Nat} {r:Row} {wa:Option Addr} {wc:Nat} {line:Int} {d:Ln} {Q:Value->AH->Prop}
theorem eG (b o:Nat) (r:Row) (a:Option Addr) (c:Nat) {c':List Value} {n:Nat} {cs:List Value} {f L2:List HP} (i:Hs G h L) [m:Has (aG b o) L c' f] (hc:c'=r.enc a c) [j:Has (dI 9 175 a c) f (n,cs) L2] (g:n=r.waits.length) (e:cs=eP r.waits):Hs G h (eR b o r::L2):=by
 subst hc;subst g;subst e;exact kM r (i.perm (m.perm.trans (j.perm.cons _)))
theorem zy (e:r.served.kind=2) (c:Hs G h (aG p 0 (r.jY line 0 d).enc::aG b o (r.enc wa wc)::dI 9 175 wa wc (r.waits.length,eP r.waits)::L)) (g:∀v f,Hs G f (eT v (r.eE line d).2::eR b o (r.eE line d).1::L)->Q v f):
  Dd 271 3 [] Q [(pt b o 0),(I r.served.core),(pt p 0 0)] h:=by
 simp only[Row.eE,aLb e] at g
 refine bW ?_
 repeat' first
  |refine aA ?_
  |refine aB ?_
  |refine aU c (by decide) rfl rfl ?_
  |(refine bL c rfl rfl rfl rfl ?_;intro h c)
  |(refine dW c rfl rfl rfl ?_;intro a h c)
  |refine aQ rfl ?_
 refine g _ _ ?_
 have c:=D8 (n:=r.jY line 4 d) rfl c
 exact(eG b o {r with owner:=r.served.core,sh:=fun _=>false,granted:=true} wa wc c rfl rfl rfl).to
theorem zh (g:r.served.kind≠2) (hc:0<=r.served.core/\r.served.core<4) (c:Hs G h (aG p 0 (r.jY line 0 d).enc::aG b o (r.enc wa wc)::dI 9 175 wa wc (r.waits.length,eP r.waits)::L)) (e:∀v i,Hs G i (eT v (r.eE line d).2::eR b o (r.eE line d).1::L)->Q v i):
  Dd 271 4 [] Q [(pt b o 0),(I r.served.core),(pt p 0 0)] h:=by
 simp only[Row.eE,aLa g] at e
 have c:=eG b o r wa wc c rfl rfl rfl
 refine bW (wM c fun c=>?_)
 obtain⟨wa,wc,c⟩:=dZ c
 refine bJ (aX (fun f=>?_) (fun f=>?_))
 .rw[aLb f] at e;refine bW (aA (bL c rfl rfl rfl rfl ?_));intro h c;refine aB (aA (bL c rfl rfl rfl rfl ?_));intro h c;refine aB (aA (fU hc.1 hc.2 (X2 {r with owner:=r.served.core} c rfl hc ?_)));intro h c;repeat' first
   |refine aA ?_
   |refine aB ?_
   |refine aU c (by decide) rfl rfl ?_
   |(refine bL c rfl rfl rfl rfl ?_;intro h c)
   |(refine dW c rfl rfl rfl ?_;intro a h c)
   |refine aQ rfl ?_
  refine e _ _ ?_
  have c:=D8 (n:=r.jY line 2 d) rfl c
  exact(eG b o {r with owner:=r.served.core,sh:=gW r.sh r.served.core false,granted:=true} wa wc c rfl rfl rfl).to
 .rw[aLa f] at e;refine bW (aA (bL c rfl rfl rfl rfl ?_));intro h c;refine aB (aA (fU hc.1 hc.2 (X2 r c rfl hc ?_)));intro h c;repeat' first
   |refine aA ?_
   |refine aB ?_
   |refine aU c (by decide) rfl rfl ?_
   |(refine bL c rfl rfl rfl rfl ?_;intro h c)
   |(refine dW c rfl rfl rfl ?_;intro a h c)
   |refine aQ rfl ?_
  refine e _ _ ?_
  have c:=D8 (n:=r.jY line 1 d) rfl c
  exact(eG b o {r with sh:=gW r.sh r.served.core true,granted:=true} wa wc c rfl rfl rfl).to
end
theorem fC {H:kN} {l:Nat}:aR (fun i=>(H i).2) l (H l).2=fun i=>(H i).2:=qB
theorem Fh {C:bM} (hC:C.Ok) {hb l:Nat} {H:kN} {Q:Value->AH->Prop} (j:Ob G 0 fV) (a:Hs G h L) [m:Has (gP G hb C) L H L'] (q:l<C.lines) (hc:0<=(H l).1.served.core/\(H l).1.served.core<4)
  (u:∀v e,Hs G e (eT v ((H l).1.eE l ((H l).1.tJ (H l).2)).2::gP G hb C (aR H l (((H l).1.eE l ((H l).1.tJ (H l).2)).1,(H l).2))::L')->Q v e):
  Cl Pr K 271 [pt hb 0 0,I l] h Q:=by
 obtain⟨mb,b,o,cap,a⟩:=Gr q (m.of a)
 refine cW ?_
 have k:∀d,d=(H l).1.tJ (H l).2->∀p wa wc h,Hs G h (aG p 0 ((H l).1.jY l 0 d).enc::aG b (o+l*25) ((H l).1.enc wa wc)::dI 9 175 wa wc ((H l).1.waits.length,eP (H l).1.waits)::aG hb 0 (mM mb C b o cap)::fP G C.lines mb C (fun i=>(H i).2)::hole G 25 247 (some ⟨b,o,none⟩) cap C.lines b o::A4 b o C.lines H l::L')->
   (((H l).1.served.kind=2->Dd 271 3 [] Q [(pt b (o+l*25) 0),(I (H l).1.served.core),(pt p 0 0)] h)/\((H l).1.served.kind≠2->Dd 271 4 [] Q [(pt b (o+l*25) 0),(I (H l).1.served.core),(pt p 0 0)] h)):=by
  intro d t p wa wc h a
  subst t
  have g:∀v e,Hs G e (eT v ((H l).1.eE l ((H l).1.tJ (H l).2)).2::eR b (o+l*25) ((H l).1.eE l ((H l).1.tJ (H l).2)).1::aG hb 0 (mM mb C b o cap)::fP G C.lines mb C (fun i=>(H i).2)::hole G 25 247 (some ⟨b,o,none⟩) cap C.lines b o::A4 b o C.lines H l::L')->Q v e:=fun v e a=>
   u v e (eU hb C H l ((H l).1.eE l ((H l).1.tJ (H l).2)).1 (H l).2 (fun i=>(H i).2) mb b o cap q fC.symm a).to
  exact⟨fun f=>zy f a g,fun f=>zh f hc a g⟩
 obtain⟨wa,wc,a⟩:=dZ a
 refine aB (aA (aC a rfl (dV q (aB (aA (aA (aC a rfl ?_)))))))
 refine bB a ?_
 intro w h a
 refine aB (aA (aC a rfl (aB (aA (aU a (by decide) (l:=[I (H l).1.d0,I (H l).1.d1]) rfl rfl (aQ (c:=((H l).1.jY l 0 ((H l).1.d0,(H l).1.d1)).enc) rfl ?_))))))
 refine lN a rfl rfl ?_
 intro p h a
 refine bH a rfl rfl rfl rfl ?_
 intro h a
 refine aB (aA (aC a rfl (cE (eO (dH (fun s=>?_) (fun s=>?_))))))
 .refine bW (aB (aA (aA (aC a rfl (bJ ?_)))));have:=k ((H l).1.d0,(H l).1.d1) (by simp[Row.tJ,s]) p wa wc h a.to;exact aX this.1 this.2
 .refine bW (aB (aA (aC a rfl (dw hC j a q fun h a=>?_))));refine aH rfl (aH rfl (aA (bL a rfl rfl rfl rfl ?_)));intro h a;refine aB (aA (aA (aC a rfl (bJ ?_))));have:=k (H l).2 (by simp[Row.tJ,s]) p wa wc h (a.sg (b:=p) (o:=0) (c:=((H l).1.jY l 0 (H l).2).enc) rfl).to;exact aX this.1 this.2
end
section
set_option maxRecDepth 100000
variable {G:Bg} {h:AH} {L L':List HP}
def Ny (e:TypeId) (p:Nat) (a:Option Addr) (c:Nat) (xs:List Int):HP:=sp [aG p 0 [.slice a xs.length c],dI 1 e a c (xs.length,xs.map I)]
theorem Qi {e:TypeId} {a:Option Addr} {c n:Nat} {xs:List Int} {Q:Value->AH->Prop} (j:n=xs.length) (f:Hs G h L) [m:Has (dI 1 e a c) L (n,xs.map I) L'] (i:∀p g,Hs G g (Ny e p a c xs::L')->Q (.func (.func 166) #[] #[pt p 0 0]) g):Cl Pr K 118 [.slice a n c] h Q:=by
 subst j;have f:=m.of f;refine cW (dS f ?_);intro p h f;exact i p _ (Hs.pack (A:=[_,_]) f)
theorem Gd {e:TypeId} {p:Nat} {a:Option Addr} {c:Nat} {xs:List Int} (D:xs.length<2^62):xi Pr K G 166 [] [pt p 0 0] (Ny e p a c xs) (xs.map fun x=>[I x]):=by
 intro q J y L h Q g A t u;refine cW ?_;refine aC g.unpack rfl (cC ?_);have loop:∀(f i:Nat) (h:AH),i+f=xs.length->Hs G h (Ny e p a c xs::q ((xs.drop i).map fun x=>[I x])::L)->Dd 166 1 [] Q [y,(.slice a xs.length c),(I xs.length),(I i)] h:=by
  intro f;induction f with
  |zero=>
   intro i h w g;refine bW (aZ (aT (by omega) ?_));rw[List.drop_eq_nil_of_le (by omega)] at g;exact t _ _ g
  |succ f B=>
   intro i h w g;have j:i<xs.length:=by omega
   refine bW (aZ (bV (by omega) (bW ?_)));obtain⟨b,o,rfl,H,k,_⟩:=(g.unpack.front (dI 1 e a c (xs.length,xs.map I))).oW (by omega);refine dV j (aCj k (v:=I xs[i]) (by simp[j]) ?_);rw[List.drop_eq_getElem_cons j] at g;refine(A _ _ h _ g.mK).mono fun v s z=>?_;rcases z with⟨rfl,g⟩|⟨rfl,g⟩;exact cE (bZ (bW (bQ (by omega) (B (i+1) s (by omega) g.mK))));exact cE (fK (u _ _ g.mK))
 exact loop xs.length 0 h (by omega) g
section
variable {hb p mb b o cap l:Nat} {C:bM} {H:kN} {n:aJ} {r:Row} {m:Ln} {Q:Value->AH->Prop}
def rP (G:Bg) (hb p mb b o cap l:Nat) (C:bM) (H:kN) (n:aJ) (r:Row) (m:Ln):List HP:=
 [eR b (o+l*25) r,aG p 0 n.enc,aG hb 0 (mM mb C b o cap),fP G C.lines mb C (aR (fun i=>(H i).2) l m),hole G 25 247 (some ⟨b,o,none⟩) cap C.lines b o,A4 b o C.lines H l]
theorem Z3 (hC:C.Ok) (e:Ob G 0 fV) (i:l<C.lines) (j:n.line=l) (hc:0<=r.served.core/\r.served.core<4) (q:r.quiet=true) (a:Hs G h (rP G hb p mb b o cap l C H n r m++L))
  (c:∀v k,Hs G k (eT v (r.rest l m).2::gP G hb C (aR H l ((r.rest l m).1,m))::L)->Q v k):Dd 253 7 [] Q [(pt hb 0 0),(pt p 0 0),(pt b (o+l*25) 0)] h:=by
 simp only[rP,List.cons_append,List.nil_append] at a
 simp only[Row.rest,aLb q] at c
 have f:=a
 obtain⟨wa,wc,a⟩:=dZ (show Hs G h (eR b (o+l*25) r::_) from a)
 refine bW (aB (aA (aA (aC a rfl (bJ (aX (fun g=>?_) (fun g=>?_)))))))
 .rw[aLb g] at c;refine bW (dj f fun h a=>c _ _ ?_);exact(qQ (eU hb C H l r.free m _ mb b o cap i rfl a)).to
 .rw[aLa g] at c;refine aA (aC a rfl ?_);rw[j];have a:=eU hb C H l r m _ mb b o cap i rfl f;refine Fh hC e a i (by simp only[dC];exact hc) fun v h a=>c _ _ ?_;simp only[dC,tN] at a;exact a.to
theorem X0 (hC:C.Ok) (f:Ob G 0 fV) (s:l<C.lines) (j:n.line=l) (hc:0<=r.served.core/\r.served.core<4) (e:Hs G h (rP G hb p mb b o cap l C H n r m++L))
  (i:∀v q,Hs G q (eT v (r.rest l m).2::gP G hb C (aR H l ((r.rest l m).1,m))::L)->Q v q):Dd 253 4 [] Q [(pt hb 0 0),(pt p 0 0),(pt b (o+l*25) 0)] h:=by
 have g:=e
 simp only[rP,List.cons_append,List.nil_append] at e
 have k:=e
 obtain⟨wa,wc,e⟩:=dZ (show Hs G h (eR b (o+l*25) r::_) from e)
 refine bW (aB (aA (aU e (by decide) (l:=[.bool (r.asked 0),.bool (r.asked 1),.bool (r.asked 2),.bool (r.asked 3)]) rfl rfl (aQ (c:=[.bool false,.bool false,.bool false,.bool false]) rfl (uy (dH (fun a=>?_) (fun a=>?_)))))))
 .have a:r.quiet=false:=by unfold Row.quiet;rw[a];rfl
  simp only[Row.rest,a,Bool.false_eq_true,if_false] at i
  refine i _ _ ?_
  exact(qQ (eU hb C H l r m _ mb b o cap s rfl (show Hs G h (eR b (o+l*25) r::_) from k))).to
 .have a:r.quiet=true:=by unfold Row.quiet;rw[a];rfl
  exact Z3 hC f s j hc a g i
end
end
end Go.Proofs.YtajjljbmfdboaaaGreatDoor.H
namespace Go.Proofs.YtajjljbmfdboaaaGreatDoor
open Go Go.Ab Go.Hm Go.At Go.Mc
section
def Cu:Mc.jG:=⟨0,0,0,0,0,0,false,0,fun _=>false⟩
def Av (r:Mc.jG):List Value:=[I r.core,I r.world,I r.call,I r.bI,I r.to]
def nQ (r:Mc.jG):List Value:=[I r.core,I r.world,I r.call,I r.bI,I r.to,I r.then',.bool r.jO]
def gF (f:Nat->Option Mc.jG) (k:Nat):Option Value:=(f k).map fun r=> .agg ⟨r.enc⟩
theorem H4 {f:Nat->Option Mc.jG} {g:Nat} {x:Option Mc.jG}:Lo (gF f) g (x.map fun r=> .agg ⟨r.enc⟩)=gF (aR f g x):=by
 funext k;unfold Lo gF aR;split<;>rfl
theorem nz {m:Mon}:Dg (gF m.runs)=m.running:=by
 unfold Dg Mon.running;congr 1;funext k;unfold gF;cases m.runs k<;>rfl
theorem qk {m:Mon} {g:Int}:(if 0<=g then gF m.runs g.toNat else none)=(m.run g).map fun r=>Value.agg ⟨r.enc⟩:=by
 unfold Mon.run gF;split<;>rfl
set_option maxRecDepth 100000
variable {G:Bg} {h:AH} {L L' M:List HP} {Q:Value->AH->Prop} {C:bM} {m:Mon} {p:Nat}
def fY (C:bM) (p:Nat) (m:Mon):HP:=vW fun x:Nat×Nat=>sp [aG p 0 [pt x.1 0 0,I C.aE,gI x.2],hJ x.1 m.dN,iW x.2 (gF m.runs)]
theorem kT (a:Hs G h (fY C p m::L)):∃t b,Hs G h (aG p 0 [pt t 0 0,I C.aE,gI b]::hJ t m.dN::iW b (gF m.runs)::L):=by
 obtain⟨⟨t,b⟩,a⟩:=a.Et;exact⟨t,b,a.Ex⟩
theorem dT {t b:Nat} (a:Hs G h (aG p 0 [pt t 0 0,I C.aE,gI b]::hJ t m.dN::iW b (gF m.runs)::L)):Hs G h (fY C p m::L):=
 Hs.Af (A:=fun x:Nat×Nat=>sp [aG p 0 [pt x.1 0 0,I C.aE,gI x.2],hJ x.1 m.dN,iW x.2 (gF m.runs)]) (t,b) a.W8
theorem P4 {b:Nat} {g:Int} {k:Value->Prop} (c:Hs G h L) [e:Has (iW b) L (gF m.runs) L'] (a:k (.agg ⟨((m.run g).getD Cu).enc⟩)):bE (lkV (.agg ⟨[(I 0),(I 0),(I 0),(I 0),(I 0),(I 0),(.bool false),(I 0),(.bool false),(.bool false),(.bool false),(.bool false)]⟩) h (gI b) (I g) false) k:=by
 refine aJd c ?_;rw[qk];cases hr:m.run g with
 |none=>rw[hr] at a;exact a
 |some r=>rw[hr] at a;exact a
theorem j8 {g:Int}:((m.run g).getD Cu).phase=m.phase g:=by
 unfold Mon.phase;cases m.run g<;>rfl
theorem Mh {g:Int} (a:Hs G h L) [f:Has (fY C p) L m L'] (e:∀c,Hs G c (fY C p m::L')->Q (I (m.phase g)) c):Cl Pr K 119 [pt p 0 0,I g] h Q:=by
 obtain⟨t,b,a⟩:=kT (f.of a);refine cW (dG (bZ (aB (aA (aC (b:=p) (o:=0) a rfl (P4 (m:=m) a (dy rfl ?_)))))));show Q _ _;rw[j8];exact e _ (dT a)
theorem aI8 {g:Int} (a:Hs G h L) [k:Has (fY C p) L m L'] (j:∀l i,Hs G i (fY C p m::L')->(m.phase g≠0->l=Av ((m.run g).getD Cu))->l.length=5->l.all eJ=true->Q (.tuple ⟨[.agg ⟨l⟩,.bool (decide (m.phase g≠0))]⟩) i):Cl Pr K 59 [pt p 0 0,I g] h Q:=by
 refine cW (bP a fun q h a=>Mh (C:=C) (m:=m) a fun h a=>bJ (aX (fun f=>?_) (fun f=>?_)));refine aQ (c:=(Av Cu)) rfl (bH (b:=q) a rfl rfl rfl rfl fun h a=>aU (b:=q) (o:=0) a (by decide) (l:=(Av Cu)) rfl rfl ?_);have:=j (Av Cu) h a.to (fun e=>absurd f e) rfl rfl;rw[decide_eq_false (by omega)] at this;exact this;obtain⟨t,b,a⟩:=kT a;refine aB (aA (aC (b:=p) (o:=0) a rfl (P4 (m:=m) a (Jd (m:=nQ ((m.run g).getD Cu)) rfl rfl (Jd (m:=Av ((m.run g).getD Cu)) rfl rfl ?_)))));refine bH (b:=q) a rfl rfl rfl rfl fun h a=>aU (b:=q) (o:=0) a (by decide) (l:=Av ((m.run g).getD Cu)) rfl rfl ?_;have:=j _ h (dT (t:=t) (b:=b) a.to) (fun _=>rfl) rfl rfl;rw[decide_eq_true f] at this;exact this
theorem Du (f:Hs G h L) [u:Has (fY C p) L m L'] (s:∀q a c i,Hs G i (H.Ny 3 q a c (m.running.map fun k:Nat=>(k:Int))::fY C p m::L')->Q (.func (.func 166) #[] #[pt q 0 0]) i):Cl Pr K 58 [pt p 0 0] h Q:=by
 obtain⟨t,b,f⟩:=kT (u.of f);refine cW (dG (bZ (aB (aA (aC (b:=p) (o:=0) f rfl ?_)))));refine cW (aIb f fun q h f=>?_);have f:Hs G h (aG q 0 [gI b]::mt q (170,true,1)::iW b (gF m.runs)::aG p 0 [pt t 0 0,I C.aE,gI b]::hJ t m.dN::L'):=f.to;refine wo (e:=3) rfl f fun a g h f=>?_;rw[nz (m:=m)] at f ⊢;have e:(m.running.map fun k:Nat=>I k)=(m.running.map fun k:Nat=>(k:Int)).map I:=by rw[List.map_map];rfl
 rw[e] at f;refine H.Qi (e:=3) (xs:=m.running.map fun k:Nat=>(k:Int)) (by simp) f fun j h f=>?_;have f:Hs G h (aG p 0 [pt t 0 0,I C.aE,gI b]::hJ t m.dN::iW b (gF m.runs)::H.Ny 3 j a g (m.running.map fun k:Nat=>(k:Int))::L'):=f.to;exact s j a g _ (dT f).mK
end
end Go.Proofs.YtajjljbmfdboaaaGreatDoor
end
namespace Go.Ct
open Go Go.Ab Go.Hm
section
variable {n ways:Nat} {S:Nat->List Th} {no:Int} {x:pQ}
theorem Sa {l:List Th} (h:no∉l.map (·.1)):rem no l=l:=by
 induction l with
 |nil=>rfl
 |cons t l a=>
  simp only[List.map_cons,List.mem_cons,not_or] at h;unfold rem;grind
theorem dm {l:List Th} (a:(l.map (·.1)).Nodup):rem no (rem no l)=rem no l:=Sa (Jk a)
theorem Ki {l:List Th} (h:get no l=some x):(rem no l).length<l.length:=by
 rw[I7,h];have:=get_mem h;grind
theorem oG (a:(bA n S no).2=0):get no (S (setOf n no))=some (bA n S no).1/\0<=no:=by
 unfold bA at a ⊢;grind
theorem Ar (c:∀i,oA ways (S i)) (e:(bA n S no).2=0):(kJ n ways S no x).2=0:=by
 obtain⟨a,f⟩:=oG e;have:=Ki a;have:=(c (setOf n no)).len;unfold kJ;grind
theorem Q6 (a:0<=no):gG n S no (setOf n no)=rem no (S (setOf n no)):=by
 unfold gG aR;rw[aLa (by omega),aLb rfl]
theorem Vl (a:∀i,oA ways (S i)) (c:(bA n S no).2=0):w9 n ways S no=0:=by
 obtain⟨e,f⟩:=oG c;have:=Ki e;have:=(a (setOf n no)).len;unfold w9;rw[aLb c];unfold kJ;rw[Q6 f,dm (a _).nd,aLa (by omega)]
theorem Ay (c:∀i,oA ways (S i)) (f:0<=no) (a:(kJ n ways S no x).2=0):bA n (kJ n ways S no x).1 no=(x,0):=by
 unfold kJ at a ⊢;split at a;cases a;rename_i e;rw[aLa e];unfold bA aR;rw[aLa (by omega)];dsimp only;rw[aLb rfl,uo (Jk (c _).nd)]
theorem Ft (c:∀i,oA ways (S i)) (a:(bA n S no).2=0):bA n (wP n ways S no) no=bA n S no:=by
 obtain⟨g,f⟩:=oG a;have e:=Vl c a;unfold w9 at e;rw[aLb a] at e;unfold wP;rw[aLb a,Ay (pX c) f e];grind
theorem Kb {S:Nat->List Th} {l a:Int} {w:Bool} (h:mL n S l a w=true):mL n S l a false=true:=by
 unfold mL at h ⊢;unfold lS at h ⊢;grind [tL,Ql]
end
end Go.Ct
section
namespace Go.Hm
open Go Go.Ab
structure oP (k:Nat) (r:Row):Prop where
 core:0<=r.served.core/\r.served.core<4
 owner: -1<=r.owner/\r.owner<4
 waits:∀n∈r.waits,n.line=k/\(0<=n.core/\n.core<4)/\(n.kind=0\/n.kind=1\/n.kind=2\/n.kind=3)
 apart:∀i:Nat,i<4->r.sh i=true->(i:Int)≠r.owner
 want:r.busy=true->r.granted=false->r.served.kind=0\/r.served.kind=2\/r.owner≠r.served.core
 still:r.granted=true\/r.busy=false->r.quiet=true
 gb:r.granted=true->r.busy=true
theorem oP.inv {k:Nat} {r:Row} (h:oP k r):r.Inv:=⟨h.core,h.owner,fun n a=>(h.waits n a).2.1⟩
theorem aCn (k:Nat):oP k xN:=⟨by decide,by decide,by simp[xN],by simp[xN],by simp[xN],fun _=>rfl,by simp[xN]⟩
theorem quiet_of {r r':Row} (h:r'.asked=r.asked):r'.quiet=r.quiet:=by unfold Row.quiet;rw[h]
theorem Ae {k:Nat} {r:Row} {c:Int} (h:oP k r):oP k (r.leave c) where
 core:=h.core
 owner:=by unfold Row.leave;simp only;split;omega;exact h.owner
 waits:=h.waits
 apart:=fun i g a=>by
  unfold Row.leave gW at a ⊢;simp only at a ⊢;split at a;cases a;split;omega;exact h.apart i g a
 want:=fun e f=>by
  rcases h.want e f with h|h|j;exact .inl h;exact .inr (.inl h);refine .inr (.inr ?_);have:=h.core;unfold Row.leave;grind
 still:=fun e=>(quiet_of (r':=r.leave c) rfl).trans (h.still e)
 gb:=h.gb
theorem Ca {k:Nat} {r:Row} (h:oP k r) (c:r.quiet=true):oP k r.free where
 core:=by show(0:Int)<=0/\(0:Int)<4;omega
 owner:=h.owner
 waits:=h.waits
 apart:=h.apart
 want:=fun a=>by cases a
 still:=fun _=>(quiet_of (r':=r.free) rfl).trans c
 gb:=fun a=>by cases a
theorem Cs {k:Nat} {r:Row} {n:aJ} (h:oP k r) (a:n.line=k) (c:0<=n.core/\n.core<4) (e:n.kind=0\/n.kind=1\/n.kind=2\/n.kind=3):oP k (r.wait n) where
 core:=h.core
 owner:=h.owner
 waits:=fun m hm=>by
  rcases List.mem_append.1 hm with hm|hm;exact h.waits m hm;grind
 apart:=h.apart
 want:=h.want
 still:=fun a=>(quiet_of (r':=r.wait n) rfl).trans (h.still a)
 gb:=h.gb
theorem Ch {k:Nat} {r:Row} {n:aJ} {w:List aJ} (h:oP k r) (e:r.waits=n::w):oP k (r.next w) where
 core:=h.core
 owner:=h.owner
 waits:=fun m c=>h.waits m (by rw[e];exact List.mem_cons_of_mem _ c)
 apart:=h.apart
 want:=h.want
 still:=fun a=>(quiet_of (r':=r.next w) rfl).trans (h.still a)
 gb:=h.gb
structure Ai (k:Nat) (r:Row):Prop where
 core:0<=r.served.core/\r.served.core<4
 owner: -1<=r.owner/\r.owner<4
 waits:∀n∈r.waits,n.line=k/\(0<=n.core/\n.core<4)/\(n.kind=0\/n.kind=1\/n.kind=2\/n.kind=3)
 apart:∀i:Nat,i<4->r.sh i=true->(i:Int)≠r.owner
 want:r.served.kind=0\/r.served.kind=2\/r.owner≠r.served.core
 busy:r.busy=true
 gr:r.granted=false
theorem Ai.lz {k:Nat} {r:Row} (h:Ai k r):oP k r:=⟨h.core,h.owner,h.waits,h.apart,fun _ _=>h.want,fun a=>by rw[h.busy,h.gr] at a;simp at a,fun a=>by rw[h.gr] at a;cases a⟩
theorem yZ {k:Nat} {r:Row} {line:Int} {d:Ln} (h:Ai k r) (j:r.served.kind≠0) (f:r.quiet=true):oP k (r.eE line d).1:=by
 have q:=h.core;unfold Row.eE;split;exact⟨h.core,by simp only;omega,h.waits,fun i _ c=>(by cases c),fun _ a=>(by cases a),fun _=>f,fun _=>h.busy⟩;rename_i a;split;refine⟨h.core,by simp only;omega,h.waits,fun i g c=>?_,fun _ a=>(by cases a),fun _=>f,fun _=>h.busy⟩;simp only[gW] at c ⊢;grind;refine⟨h.core,h.owner,h.waits,fun i g c=>?_,fun _ a=>(by cases a),fun _=>f,fun _=>h.busy⟩;simp only[gW] at c ⊢;split at c;rename_i e;rcases h.want with h|h|h;exact absurd h j;exact absurd h a;grind;exact h.apart i g c
theorem Ba {k:Nat} {r:Row} {l:List Nat} (h:Ai k r):oP k (r.iA l):=Ai.lz ⟨h.core,h.owner,h.waits,h.apart,h.want,h.busy,h.gr⟩
theorem pg {k:Nat} {r:Row} {line:Int} {m:Ln} (h:Ai k r):oP k (r.rest line m).1:=by
 unfold Row.rest;split;rename_i a;split;exact Ca h.lz a;rename_i c;exact yZ h c a;exact h.lz
theorem D1 {k:Nat} {r:Row} {n:aJ} (h:oP k r) (t:0<=n.core/\n.core<4) (q:r.asked n.core.toNat=true):Ai k (r.heard n):=by
 have j:r.quiet=false:=by
  have:n.core.toNat=0\/n.core.toNat=1\/n.core.toNat=2\/n.core.toNat=3:=by omega
  unfold Row.quiet;grind
 have a:r.granted=false:=by
  cases a:r.granted with
  |false=>rfl
  |true=>have:=h.still (.inl a);grind
 have hb:r.busy=true:=by
  cases hb:r.busy with
  |true=>rfl
  |false=>have:=h.still (.inr hb);grind
 have e:Ai k (r.eZ n):=⟨h.core,h.owner,h.waits,h.apart,h.want hb a,hb,a⟩;have f:Ai k ((r.eZ n).Dq n):=⟨h.core,by show -1<=(-1:Int)/\(-1:Int)<4;omega,h.waits,fun i s _=>by show(i:Int)≠ -1;omega,by
  have:=h.core;right;right;show(-1:Int)≠r.served.core;omega,hb,a⟩
 have g:∀{r:Row},Ai k r->Ai k (r.lG n):=fun h=>⟨h.core,h.owner,h.waits,h.apart,h.want,h.busy,h.gr⟩;unfold Row.heard;split;have:=Ae (c:=n.core) e.lz;exact⟨this.core,this.owner,this.waits,this.apart,this.want hb a,hb,a⟩;split;split;exact g f;exact f;split;exact g e;exact e
theorem ou {k:Nat} {x:lX} {n:aJ} (h:oP k x.1) (i:fM n.kind) (e:n.line=k) (c:0<=n.core/\n.core<4):oP k (lX.take x k n).1.1:=by
 unfold lX.take;split;split;exact h;rename_i f;have a:x.1.granted=true:=by
  cases a:x.1.granted with
  |true=>rfl
  |false=>exact absurd (.inl a) f
 exact Ca h (h.still (.inl a));split;split;exact h;rename_i g;exact pg (D1 h c (by simpa using g));rename_i j q;exact Cs h e c (by unfold fM at i;omega)
theorem I1 {r:Row} {x:Int}:∀(f i:Nat),r.tU x f i≠ -1->r.fD x f i≠[]:=by
 intro f;induction f with
 |zero=>intro i h;exact absurd rfl h
 |succ f a=>
  intro i h;unfold Row.tU at h;unfold Row.fD;grind
theorem Wu {r:Row} {x:Int}:∀(f i:Nat),∀c∈r.fD x f i,(c:Int)≠x:=by
 intro f;induction f with
 |zero=>intro i c a;simp[Row.fD] at a
 |succ f g=>
  intro i c a;unfold Row.fD at a;split at a;rename_i e;rcases List.mem_cons.1 a with rfl|a;unfold Row.holds at e;simp at e;exact e.1;exact g _ c a;exact g _ c a
def aJ.uM (n:aJ):aJ:=if n.kind=0 then {n with core:= -1} else n
theorem Ns {k:Nat} {r:Row} {d:Ln} {n:aJ} (f:r.served.core=n.core) (c:n.kind=1\/n.kind=2) (e:n.line=k):(∀m∈(r.eE k d).2,m.fits n.uM (r.eE k d).2.length)/\(r.eE k d).2≠[]:=by
 have g:n.uM=n:=by unfold aJ.uM;rw[aLa (by omega)]
 rw[g];unfold Row.eE;split;refine⟨fun m a=>?_,by simp⟩;rw[List.mem_singleton.1 a];exact⟨e.symm,rfl,.inl ⟨rfl,f,rfl,c⟩⟩;split;refine⟨fun m a=>?_,by simp⟩;rw[List.mem_singleton.1 a];exact⟨e.symm,rfl,.inl ⟨rfl,f,rfl,c⟩⟩;refine⟨fun m a=>?_,by simp⟩;rw[List.mem_singleton.1 a];exact⟨e.symm,rfl,.inl ⟨rfl,f,rfl,c⟩⟩
theorem Au {k:Nat} {n:aJ} {st:Int} {l:List Nat} (f:n.line=k) (j:n.kind=1\/n.kind=2\/(n.kind=0/\st=0)) (hc:∀c∈l,(c:Int)≠n.uM.core) {len:Nat}:∀m∈eF k st l,m.fits n.uM len:=by
 intro m g;obtain⟨c,a,rfl⟩:=List.mem_map.1 g;have e:n.uM.line=k:=by unfold aJ.uM;split<;>exact f
 have i:n.uM.kind=n.kind:=by unfold aJ.uM;split<;>rfl
 refine⟨e.symm,rfl,.inr (.inr (.inr ⟨rfl,rfl,hc c a,?_⟩))⟩;grind
theorem aA1 {k:Nat} {r:Row} {n:aJ} {w:Int} {m:Ln} (h:oP k r) (hb:r.busy=false) (g:n.line=k) (s:0<=n.core/\n.core<4) (v:n.kind=1\/n.kind=2):
  oP k (r.get k m n w).1/\(∀x∈(r.get k m n w).2,x.fits n.uM (r.get k m n w).2.length)/\(r.get k m n w).2≠[]:=by
 have y:=h.still (.inr hb)
 have f:r.granted=false:=by
  cases f:r.granted with
  |false=>rfl
  |true=>have:=h.gb f;grind
 have u:n.uM=n:=by unfold aJ.uM;rw[aLa (by omega)]
 unfold Row.get
 simp only
 split
 .rename_i j;have z:Ai k (r.serve n w):=⟨s,h.owner,h.waits,h.apart,.inr (.inl j),rfl,f⟩;unfold Row.getM;split
  .rename_i a;refine⟨Ba z,?_,?_⟩
   .exact Au g (.inr (.inl j)) (fun c q=>by rw[u];exact Wu 4 0 c q)
   .have:=I1 4 0 a;intro e;exact this (List.map_eq_nil_iff.1 e)
  .exact⟨yZ z (by show n.kind≠0;omega) y,Ns rfl v g⟩
 .rename_i j;have D:n.kind=1:=by omega
  have A:(r.serve n w).nZ.served=n/\(r.serve n w).nZ.asked=r.asked/\((r.serve n w).nZ.owner= -1\/((r.serve n w).nZ.owner=r.owner/\r.owner≠n.core))/\Ai k (r.serve n w).nZ:=by
   unfold Row.nZ;split;refine⟨rfl,rfl,.inl rfl,⟨s,by grind,h.waits,fun i _ _=>by grind,.inr (.inr ?_),rfl,f⟩⟩;show(-1:Int)≠n.core;omega;rename_i a;exact⟨rfl,rfl,.inr ⟨rfl,a⟩,⟨s,h.owner,h.waits,h.apart,.inr (.inr a),rfl,f⟩⟩
  generalize(r.serve n w).nZ=r2 at A
  obtain⟨B,E,F,t⟩:=A
  unfold Row.Wb
  split
  .rename_i a;refine⟨Ba t,?_,by simp[eF]⟩;refine Au g (.inl D) (fun c q=>?_);rw[List.mem_singleton.1 q,u];have:=t.owner;omega
  .exact⟨yZ t (by rw[B];omega) (by rw[quiet_of E];exact y),Ns (by rw[B]) v g⟩
theorem nh {k:Nat} {r:Row} {n:aJ} {m:Ln} {j:Int->Int×Bool} (h:oP k r) (hb:r.busy=false) (i:n.line=k) (u:0<=n.core/\n.core<4) (v:n.kind=0\/n.kind=1\/n.kind=2\/n.kind=3):
  oP k (r.begun k m n j).1.1/\(∀x∈(r.begun k m n j).2,x.fits n.uM (r.begun k m n j).2.length)/\((r.begun k m n j).2≠[]\/n.uM.kind=0):=by
 have y:=h.still (.inr hb)
 have q:r.granted=false:=by
  cases q:r.granted with
  |false=>rfl
  |true=>have:=h.gb q;rw[hb] at this;cases this
 unfold Row.begun
 split
 .rename_i t;have f:n.uM=n:=by unfold aJ.uM;rw[aLa (by omega)]
  refine⟨Ae h,fun x s=>?_,.inl (by simp)⟩
  rw[List.mem_singleton.1 s,f]
  exact⟨i.symm,rfl,.inr (.inr (.inl ⟨rfl,rfl,rfl,rfl,t⟩))⟩
 .rename_i t;split
  .rename_i e;have f:n.uM=n:=by unfold aJ.uM;rw[aLa (by omega)]
   split
   .obtain⟨a,b,c⟩:=aA1 (m:=m) (w:=(j n.world).1) h hb i u e;grind
   .refine⟨h,fun x s=>?_,.inl (by simp)⟩;rw[List.mem_singleton.1 s,f];exact⟨i.symm,rfl,.inr (.inl ⟨rfl,rfl,rfl,rfl,e⟩)⟩
  .rename_i e;have g:n.kind=0:=by omega
   have f:n.uM={n with core:= -1}:=by unfold aJ.uM;rw[aLb g]
   split
   .grind
   .refine⟨Ba (r:=r.Nl n) ⟨u,h.owner,h.waits,h.apart,.inl g,rfl,q⟩,?_,.inr (by rw[f];exact g)⟩;exact Au i (.inr (.inr ⟨g,rfl⟩)) (fun c _=>by grind)
end Go.Hm
namespace Go.Hm
open Go Go.Ab
theorem rU {r:Row} {line:Int} {d:Ln}:(r.eE line d).1.waits=r.waits:=by
 unfold Row.eE;grind
theorem Zp {r:Row} {line:Int} {m:Ln}:(r.rest line m).1.waits=r.waits:=by
 unfold Row.rest;split;split;rfl;exact rU;rfl
theorem rY {r:Row} {n:aJ}:(r.heard n).waits=r.waits:=by
 unfold Row.heard;repeat' split
 all_goals rfl
theorem oz {r:Row} {line:Int} {m:Ln} {n:aJ} {w:Int}:(r.get line m n w).1.waits=r.waits:=by
 have a:(r.serve n w).nZ.waits=r.waits:=by unfold Row.nZ;split<;>rfl
 unfold Row.get;simp only;split;unfold Row.getM;split;rfl;exact rU;unfold Row.Wb;split;exact a;rw[rU];exact a
theorem Ws {r:Row} {line:Int} {m:Ln} {n:aJ} {j:Int->Int×Bool}:(r.begun line m n j).1.1.waits=r.waits:=by
 unfold Row.begun;split;rfl;split;split;exact oz;rfl;split<;>rfl
def C0:bM:=⟨3,2,1,1,4,2,2⟩
def Me (H:kN) (R:Nat->List aJ) (i:Nat):Prop:=∀k,k<4->oP k (H k).1/\R k=(H k).1.waits.map aJ.uM/\(H k).1.waits.length<=i
theorem Me.h {H:kN} {R:Nat->List aJ} {i:Nat} (h:Me H R i) (N:Nat) (c:i<=N):yD C0 H N:=fun k a=>⟨(h k a).1.inv,Nat.le_trans (h k a).2.2 c⟩
theorem Me.vD {H:kN} {R:Nat->List aJ} {i l:Nat} {x:lX} {w:List aJ} (h:Me H R i) (g:oP l x.1) (j:w=x.1.waits.map aJ.uM) (q:x.1.waits.length<=i+1):Me (aR H l x) (aR R l w) (i+1):=by
 intro k f;unfold aR;by_cases e:k=l;grind;simp only[aLa e];obtain⟨a,b,c⟩:=h k f;grind
theorem Me.same {H:kN} {R:Nat->List aJ} {i l:Nat} {x:lX} (h:Me H R i) (c:l<4) (e:oP l x.1) (a:x.1.waits=(H l).1.waits):Me (aR H l x) R (i+1):=by
 have:=h.vD (x:=x) (w:=R l) e (by rw[a];exact(h l c).2.1) (by rw[a];have:=(h l c).2.2;omega);rwa [show aR R l (R l)=R from qB] at this
theorem Me.up {H:kN} {R:Nat->List aJ} {i:Nat} (h:Me H R i):Me H R (i+1):=fun k a=>⟨(h k a).1,(h k a).2.1,by have:=(h k a).2.2;omega⟩
theorem H2 {r:Row} {line:Int} {d:Ln}:(r.eE line d).2.length<=4:=by
 unfold Row.eE;grind
theorem Dy {line st:Int} {l:List Nat}:(eF line st l).length=l.length:=by simp[eF]
theorem Rv {r:Row} {line:Int} {m:Ln} {n:aJ} {w:Int}:(r.get line m n w).2.length<=4:=by
 unfold Row.get;simp only;split;unfold Row.getM;split;rw[Dy];exact uW;exact H2;unfold Row.Wb;split;simp[Dy];exact H2
theorem ng {r:Row} {line:Int} {m:Ln} {n:aJ} {j:Int->Int×Bool}:(r.begun line m n j).2.length<=4:=by
 unfold Row.begun;split;simp;split;split;exact Rv;simp;split;simp;rw[Dy];exact uW
theorem S6 {C:bM} {H:kN} {l:Int} {j:Int->Int×Bool}:(iC C H l j).2.1.length<=4:=by
 unfold iC;split;unfold lX.begin;split;simp;split;simp;exact ng;simp
end Go.Hm
end
namespace Go.Mc
open Go Go.Ab Go.Hm Go.At Go.Is Go.Ct Go.Nt
section
structure iF (C:bM) (m:Mon):Prop where
 len:m.dN.length=C.aS.toNat
 own:∀x∈m.dN,0<=x.owner/\x.owner<=4
 run:∀g r,m.runs g=some r->(g:Int)<C.aS/\r.bI=g/\(r.phase=1\/r.phase=2)/\(0<=r.core/\r.core<C.aE)/\(0<=r.then'/\r.then'<=4)
def qn (Cf:bM) (F:gO):Prop:=∀c w,(F c w).length<=Cf.depth
theorem iF.kX {C:bM} {m:Mon} (h:iF C m) {g:Int} (a:m.has g):0<=(m.kX g).owner/\(m.kX g).owner<=4:=by
 refine h.own _ ?_;unfold Mon.has at a;unfold Mon.kX;grind
theorem iF.aIi {C:bM} {m:Mon} (hC:C.Ok) (a:iF C m):∀g r,m.runs g=some r->g<16:=by
 intro g r c;have:=(a.run g r c).1;have:=hC.2.1;omega
theorem qn.X6 {Cf:bM} {F:gO} (hC:Cf.Ok) (h:qn Cf F):∀c w,(F c w).length<=500:=by
 intro c w;have:=h c w;have:=hC.2.2.2.2.1;omega
structure yn (Cf:bM) (M:cT) (i:Nat):Prop where
 bY:iF Cf M.bY
 Ho:(M.aD i).Ok
 g9:iL Cf (M.dD i)
 pR:(M.cG i).known.length<=100
 kL:qn Cf M.kL
 log:M.log.length<=2^30
structure yA (Cf:bM) (M:cT) (n:aJ):Prop where
 core:0<=n.core/\n.core<Cf.aE
 bY:iF Cf M.bY
 home:yD Cf M.home (2^30 - 4)
 g9:iL Cf (M.dD n.core.toNat)
 pR:(M.cG n.core.toNat).known.length<=100
 bI:0<=(M.cG n.core.toNat).bI/\(M.cG n.core.toNat).bI<Cf.aS
 word:n.kind=12->0<=n.d0/\n.d0<=1000000
structure jx (C:bM) (n:aJ):Prop where
 pR:pR C n=0
 word:n.kind=12->0<=n.d0/\n.d0<=1000000
def Tg (C:bM) (N:Nat) (H:kN):Prop:=∀l,l<C.lines->oP l (H l).1/\(H l).1.waits.length<=N
structure Kz (C:bM) (F:gO):Prop where
 len:qn C F
 note:∀c w,∀n∈F c w,jx C n/\n.core.toNat=c/\gC n=w
def zP (C:bM) (c:kO):Prop:=(c.known.length:Int)<=C.entries/\0<=c.bI/\c.bI<C.aS
structure eI (C:bM) (N:Nat) (M:cT):Prop where
 bY:iF C M.bY
 Ho:∀i:Nat,(i:Int)<C.aE->(M.aD i).Ok
 g9:∀i:Nat,(i:Int)<C.aE->iL C (M.dD i)
 pR:∀i:Nat,(i:Int)<C.aE->zP C (M.cG i)
 home:Tg C N M.home
 kL:Kz C M.kL
 log:M.log.length<=N
variable {C:bM} {N:Nat} {M:cT}
theorem Tg.h {H:kN} (h:Tg C N H) {K:Nat} (c:N<=K):yD C H K:=fun l a=>⟨(h l a).1.inv,Nat.le_trans (h l a).2 c⟩
theorem zP.len (hC:C.Ok) {c:kO} (h:zP C c):c.known.length<=100:=by
 have:=h.1;have:C.entries<=8:=by unfold bM.Ok at hC;omega
 omega
theorem eI.step (h:eI C N M) (hC:C.Ok) (c:N<=2^29) {i:Nat} (a:(i:Int)<C.aE):yn C M i:=⟨h.bY,h.Ho i a,h.g9 i a,(h.pR i a).len hC,h.kL.len,by have:=h.log;omega⟩
theorem Ff {n:aJ} (h:pR C n=0):Od n.kind/\0<=n.core/\n.core<C.aE:=by
 unfold Nt.pR at h;split at h
 .rename_i f;split at h
  .split at h
   .rename_i j;refine⟨f,?_⟩;have a:=j.1;unfold Od at f;have:∃c,Dx n.kind.toNat=1::c:=by
     rcases k14 (k:=n.kind.toNat) (by omega) with e|e|e|e|e|e|e|e|e|e|e|e|e|e;omega;all_goals rw[e];exact⟨_,rfl⟩
    obtain⟨c,g⟩:=this;rw[g] at a;unfold oO at a;split at a;rename_i i;exact i;cases a
   cases h
  cases h
 cases h
theorem ju {n:aJ} (h:pR C n=0) (c:n.kind=8):n.state=1\/n.state=2\/n.state=4:=by
 unfold Nt.pR at h;rw[c] at h;split at h;split at h;split at h;rename_i f;have a:=f.1;rw[show Dx (8:Int).toNat=[1,2,4,6,8,9] from rfl] at a;simp only[oO] at a;split at a;split at a;split at a;split at a;rename_i e;exact e;cases a;cases a;cases a;cases a;cases h;cases h;cases h
theorem Nj {F:gO} {a b c:Int} (hF:Kz C F) (e:(F.take C a b c).2.2=0):jx C (F.take C a b c).2.1/\(F.take C a b c).2.1∈F a.toNat b.toNat:=by
 unfold gO.take at e ⊢;by_cases i:(0<=a/\a<C.aE)/\(0<=b/\b<4);rw[aLa (fun h=>h i)] at e ⊢;dsimp only at e ⊢;by_cases f:F a.toNat b.toNat=[];grind;rw[aLa f];have q:0<(F a.toNat b.toNat).length:=List.length_pos_iff.2 f;have hb:(c % ((F a.toNat b.toNat).length:Int)).toNat<(F a.toNat b.toNat).length:=by
  have j:=Int.emod_nonneg c (show((F a.toNat b.toNat).length:Int)≠0 by omega);have k:=Int.emod_lt_of_pos c (show(0:Int)<((F a.toNat b.toNat).length:Int) by omega);omega
 have g:(F a.toNat b.toNat).getD (c % ((F a.toNat b.toNat).length:Int)).toNat aJ.zero∈F a.toNat b.toNat:=by
  grind
 exact⟨(hF.note _ _ _ g).1,g⟩;grind
theorem Tw {F:gO} {a b c:Int} (hF:Kz C F):Kz C (F.take C a b c).1:=by
 unfold gO.take;split;exact hF;dsimp only;split;exact hF;constructor;intro x y;unfold gO.set;dsimp only;split;rename_i e;have:=hF.len x y;grind;exact hF.len x y;intro x y n f;unfold gO.set at f;dsimp only at f;split at f;rename_i e;have:=hF.note _ _ n (List.mem_of_mem_eraseIdx f);grind;exact hF.note x y n f
theorem zx {F:gO} {n:aJ} (hF:Kz C F) (f:jx C n) (c:((F n.core.toNat (gC n)).length:Int)<C.depth):Kz C (F.put n):=by
 constructor;intro x y;unfold gO.put gO.set;split;grind;exact hF.len x y;intro x y k a;unfold gO.put gO.set at a;split at a;rename_i e;rcases List.mem_append.1 a with a|a;rw[e.1,e.2];exact hF.note _ _ k a;grind;exact hF.note x y k a
theorem vb:∀{l:List aJ} {F a:gO},Kz C F->(∀n∈l,jx C n)->gO.zT C.depth F l=some a->Kz C a:=by
 intro l;induction l with
 |nil=>intro F a hF _ h;cases h;exact hF
 |cons n l g=>
  intro F a hF c h;unfold gO.zT at h;split at h;rename_i e;exact g (zx hF (c n List.mem_cons_self) e) (fun k f=>c k (List.mem_cons_of_mem _ f)) h;cases h
theorem E3:∀{l:List aJ},cG C l=0->∀n∈l,Nt.pR C n=0
 |[],_,n,a=>by cases a
 |k::l,h,n,a=>by
  unfold cG at h;split at h;grind;rename_i c;rcases List.mem_cons.1 a with rfl|a;simpa using c;exact E3 h n a
theorem Be {F:gO} {l:List aJ} (hF:Kz C F) (f:∀n∈l,n.kind=12->0<=n.d0/\n.d0<=1000000):Kz C (F.send C l).1:=by
 unfold gO.send;split;exact hF;rename_i c;split;rename_i g e;exact vb hF (fun n a=>⟨E3 (by simpa using c) n a,f n a⟩) e;exact hF
theorem M6 {s:aK} (a:s.Ok) (h:s.over=false):Fits (pW s.prog s.at') s.prog.length/\s.at'<s.prog.length:=by
 have c:=a.2.2.1;rw[h] at c;have e:=Qx c.symm;exact⟨Vg (a.2.2.2.2 _ (Jy a.1 e)),e⟩
theorem oS {s t:aK} {a:Int} (c:s.Ok) (f:t.prog=s.prog) (e:0<=a) (g:a<=s.prog.length):(t.iO a).Ok:=by
 unfold aK.Ok aK.iO;dsimp only;rw[f];exact⟨e,by have:=c.2.2.2.1;omega,rfl,c.2.2.2.1,c.2.2.2.2⟩
theorem Vh {s:aK} {i:Nat} {r:aK×Ev} (a:s.Ok) (h:aK.gX s i=some r):r.1.Ok:=by
 unfold aK.gX aK.next? at h;cases hov:s.over with
 |true=>grind
 |false=>
  rw[hov] at h;simp only[Bool.false_eq_true,if_false] at h;obtain⟨c,g⟩:=M6 a hov;have f:=a.1;split at h;cases h;exact oS a rfl (by omega) (by omega);split at h;cases h;exact oS a rfl (by omega) (by omega);split at h;cases h;exact oS a rfl (by omega) (by omega);split at h;split at h;cases h;exact oS a rfl (by omega) (by omega);cases h;exact oS a rfl (by omega) (by omega);split at h;rename_i e;have:=c.p1 e;cases h;exact oS a rfl (by omega) (by omega);split at h;rename_i e;have:=c.p2 e;cases h;refine oS a rfl ?_ ?_;split<;>omega;split<;>omega;cases h
theorem B3 {s:aK} {i:Nat} {v c:Int} (a:s.Ok):(aK.bG s i v c).1.Ok:=by
 unfold aK.bG;cases hn:aK.next? s with
 |none=>exact a
 |some x=>
  have e:s.over=false:=by
   unfold aK.next? at hn;cases h:s.over with
   |false=>rfl
   |true=>rw[h] at hn;simp at hn
  obtain⟨g,j⟩:=M6 a e;have f:=a.1;dsimp only;split;exact oS a rfl (by omega) (by omega);split;split;exact a;split;exact oS a rfl (by omega) (by omega);split;exact oS a rfl (by omega) (by omega);exact oS a rfl (by omega) (by omega);exact a
theorem uk (hC:C.Ok) {c:kO} {f:Int×Int} (h:zP C c):zP C (c.Ah C f):=by
 have a:1<=C.entries:=by unfold bM.Ok at hC;omega
 refine⟨?_,h.2⟩;unfold kO.Ah;dsimp only;have:=h.1;grind
theorem mc {c:kO} {g:Int} (h:zP C c):zP C (c.begin C g).1:=by
 unfold kO.begin;split;exact h;rename_i a;split;exact h;split;exact h;refine⟨h.1,?_⟩;show 0<=g/\g<C.aS;simpa using a
theorem mi (hC:C.Ok) {c:kO} {a w:Int} (h:zP C c):zP C (c.walked C a w).1:=by
 have e:1<=C.aS:=hC.2.1.1;unfold kO.walked;split;exact h;split;exact h;split;exact h;dsimp only;split;exact h;split;exact h;split;exact h;refine⟨(uk hC h).1,?_⟩;show(0:Int)<=0/\(0:Int)<C.aS;omega
theorem y9 {c:kO} {g:Int} (h:zP C c):zP C (c.drop C g).1:=by
 unfold kO.drop;split;exact h;refine⟨?_,h.2⟩;have:=List.length_filter_le (fun x:Int×Int=> !decide (g= -1\/x.1=g)) c.known;have:=h.1;dsimp only;omega
end
section
variable {C:bM} {N:Nat} {M:cT}
theorem eI.mono {K:Nat} (h:eI C N M) (c:N<=K):eI C K M:=⟨h.bY,h.Ho,h.g9,h.pR,fun l a=>⟨(h.home l a).1,Nat.le_trans (h.home l a).2 c⟩,h.kL,Nat.le_trans h.log c⟩
theorem R9 {α:Type} {P:α->Prop} {s:Nat->α} {i:Nat} {t:α} {n:Int} (h:∀j:Nat,(j:Int)<n->P (s j)) (c:P t):∀j:Nat,(j:Int)<n->P (aR s i t j):=by
 intro j a;unfold aR;grind
theorem eI.dR (h:eI C N M) {F:gO} (hF:Kz C F):eI C N (M.dR F):={h with kL:=hF}
theorem eI.kD (h:eI C N M) {m:Mon} (a:iF C m):eI C N (M.kD m):={h with bY:=a}
theorem eI.pZ (h:eI C N M) {H:kN} {K:Nat} (c:N<=K) (a:Tg C K H):eI C K (M.pZ H):={h.mono c with home:=a}
theorem eI.uQ (h:eI C N M) {i:Nat} {c:gZ} (hc:iL C c):eI C N (M.uQ i c):={h with g9:=R9 h.g9 hc}
theorem eI.Er (h:eI C N M) {i:Nat} {c:kO} (hc:zP C c):eI C N (M.Er i c):={h with pR:=R9 h.pR hc}
theorem eI.nT (h:eI C N M) {i:Nat} {c:aK} (hc:c.Ok):eI C N (M.nT i c):={h with Ho:=R9 h.Ho hc}
theorem eI.Sp (h:eI C N M) {v:Ev}:eI C (N+1) (M.Sp v):={h.mono (Nat.le_succ N) with log:=by show(M.log++[v]).length<=N+1;rw[List.length_append,List.length_singleton];have:=h.log;omega}
theorem aAa {m:Mon} (h:iF C m) {g:Int} (a:m.has g):0<=(m.kX g).owner/\(m.kX g).owner<=4:=by
 refine h.own _ ?_;unfold Mon.has at a;unfold Mon.kX;grind
theorem gn {m:Mon} (h:iF C m) {g:Nat} {x:iE} (c:0<=x.owner/\x.owner<=4):iF C (m.qD g x):=
 ⟨by show(m.dN.set g x).length=_;rw[List.length_set];exact h.len,fun y a=>by
  rcases List.mem_or_eq_of_mem_set a with a|rfl;exact h.own y a;exact c,h.run⟩
theorem S0 {m:Mon} (h:iF C m) {g:Nat} {x:Option Mc.jG} (c:∀r,x=some r->(g:Int)<C.aS/\r.bI=g/\(r.phase=1\/r.phase=2)/\(0<=r.core/\r.core<C.aE)/\(0<=r.then'/\r.then'<=4)):iF C (m.cK g x):=
 ⟨h.len,h.own,fun k r a=>by
  unfold Mon.cK aR at a;dsimp only at a;split at a;grind;exact h.run k r a⟩
theorem ql {c w o t:Int}:0<=(fN c w o t).1/\(fN c w o t).1<=4:=by
 unfold fN;grind
theorem r6 {m:Mon} (h:iF C m) {a:Mc.Ask}:iF C (m.call C.aE a).1:=by
 unfold Mon.call;split;exact h;rename_i f;split;exact h;rename_i c;have c:m.has a.bI:=Decidable.not_not.1 c;split;exact h;split;exact h;dsimp only;split;exact h;have i:=h.len;have e:=c;unfold Mon.has at e;refine S0 (gn h (x:=⟨(m.kX a.bI).owner,true⟩) (aAa h c)) fun r g=>?_;cases g;refine⟨by omega,?_,.inl rfl,Decidable.not_not.1 f,ql⟩;show a.bI=_;omega
theorem Ir {m:Mon} (h:iF C m) {g c:Int}:iF C (m.dropped C.aE g c).1:=by
 unfold Mon.dropped;split;exact h;rename_i j;have j:m.has g:=Decidable.not_not.1 j;split;exact h;rename_i r f;split;exact h;split;exact h;unfold Mon.run at f;split at f;refine S0 h fun k i=>?_;cases i;obtain⟨a,b,c,d,e⟩:=h.run _ r f;refine⟨a,b,?_,d,e⟩;unfold jG.hU jG.heard;grind;cases f
theorem Wa {m:Mon} (h:iF C m) {g:Int}:iF C (m.over g).1/\∀u,(m.over g).2.1=some u->0<=u.core/\u.core<C.aE:=by
 unfold Mon.over;split;grind;split;grind;rename_i r f;split;grind;unfold Mon.run at f;split at f;obtain⟨a,b,c,d,e⟩:=h.run _ r f;exact⟨S0 (gn h e) (fun r f=>by cases f),(fun u i=>by cases i;exact d)⟩;cases f
theorem Tg.vD {H:kN} (h:Tg C N H) {l:Nat} {x:lX} (c:oP l x.1) (e:x.1.waits.length<=N+1):Tg C (N+1) (aR H l x):=by
 intro k a;unfold aR;split;grind;exact⟨(h k a).1,Nat.le_succ_of_le (h k a).2⟩
theorem Tg.mono {H:kN} {K:Nat} (h:Tg C N H) (c:N<=K):Tg C K H:=fun l a=>⟨(h l a).1,Nat.le_trans (h l a).2 c⟩
theorem Oz {H:kN} {l:Int} (h:Tg C N H):Tg C (N+1) (jI C H l).1:=by
 unfold jI;split;rename_i a;obtain⟨k,rfl⟩:=Int.eq_ofNat_of_zero_le a.1;have e:k<C.lines:=by have:=a.2;omega
 simp only[Int.toNat_natCast];obtain⟨c,f⟩:=h k e;refine h.vD (Cs c rfl (by show(0:Int)<=0/\(0:Int)<4;omega) (.inl rfl)) ?_;show((H k).1.waits++[mX k]).length<=N+1;simp;omega;exact h.mono (Nat.le_succ N)
theorem q8 {H:kN} {n:aJ} (hC:C.Ok) (h:Tg C N H):Tg C (N+1) (fF C H n).1:=by
 have s:=hC.1;unfold fF;split;exact h.mono (Nat.le_succ N);rename_i f;have f:fM n.kind:=Decidable.not_not.1 f;split;rename_i u;obtain⟨v,i⟩:=u;obtain⟨l,a⟩:=Int.eq_ofNat_of_zero_le i.1;have t:l<C.lines:=by have:=i.2;omega
 have e:n.line.toNat=l:=by omega
 simp only[e];obtain⟨j,k⟩:=h l t;have q:=ou (x:=H l) j f a (by omega);rw[a];refine h.vD q ?_;by_cases c:n.kind=4;unfold lX.take;rw[aLb c];split;grind;exact Nat.le_succ_of_le k;by_cases g:n.kind=5;unfold lX.take;rw[aLa c,aLb g];split;grind;simp only[lX.nJ,Zp,rY];omega;unfold lX.take;rw[aLa c,aLa g];show((H l).1.waits++[n]).length<=N+1;simp;omega;exact h.mono (Nat.le_succ N)
theorem nk {H:kN} {l:Int} {j:Int->Int×Bool} (h:Tg C N H):Tg C (N+1) (iC C H l j).1:=by
 unfold iC;split;rename_i i;obtain⟨k,rfl⟩:=Int.eq_ofNat_of_zero_le i.1;have q:k<C.lines:=by have:=i.2;omega
 simp only[Int.toNat_natCast];obtain⟨e,g⟩:=h k q;unfold lX.begin;split;exact h.vD e (Nat.le_succ_of_le g);rename_i hb;cases hw:(H k).1.waits with
 |nil=>exact h.vD e (Nat.le_succ_of_le g)
 |cons n w=>
  simp only;have f:=e.waits n (by grind);obtain⟨a,b,c⟩:=nh (m:=(H k).2) (j:=j) (Ch e hw) (show((H k).1.next w).busy=false from(by simpa using hb:(H k).1.busy=false)) f.1 f.2.1 f.2.2;refine h.vD a ?_;rw[Ws];show w.length<=N+1;grind
 exact h.mono (Nat.le_succ N)
theorem na {H:kN} {g:Int} (h:Tg C N H):Tg C N (mY H g):=by
 intro l a;unfold mY;split;exact h l a;exact h l a
theorem ln {n g:Int} (c:0<=n/\n<=16) (a:0<=g/\g<=100):0<=jA n g/\jA n g<=1000:=by unfold jA;omega
theorem uf {es:List iE} (s:es.length<=16) (i:∀x∈es,0<=x.owner/\x.owner<=4) {a:Int}:0<=(iZ es a).1/\(iZ es a).1<=1000000:=by
 have f:∀k,0<=(es.getD k iM).owner/\(es.getD k iM).owner<=4:=by
  intro k;rw[List.getD_eq_getElem?_getD];cases hk:es[k]? with
  |none=>show(0:Int)<=0/\(0:Int)<=4;omega
  |some x=>grind
 have c:∀w∈iH es,0<=w/\w<=1000000:=by
  intro w hw;unfold iH at hw;rcases List.mem_append.1 hw with hw|hw;obtain⟨j,e,rfl⟩:=List.mem_map.1 hw;have e:=List.mem_range.1 e;unfold Oe;split;grind;have:=ln (n:=es.length) (g:=((4*j:Nat):Int)) (by omega) (by omega);omega;obtain⟨x,q,rfl⟩:=List.mem_map.1 hw;have:=i x q;unfold Rw;split<;>omega
 unfold iZ;split;simp_all;grind
theorem As (h:eI C N M) {i:Nat} {v c:Int} (a:(i:Int)<C.aE):eI C (N+1) (M.bG i v c).1:=by
 unfold cT.bG;dsimp only;split;exact h.mono (Nat.le_succ N);exact(h.nT (B3 (h.Ho i a))).Sp
def KK (k:Int):Prop:=k=6\/k=7\/k=12\/k=13
theorem aDe {l:List aJ} (h:∀n∈l,n.kind≠12):∀n∈l,n.kind=12->0<=n.d0/\n.d0<=1000000:=fun n a e=>absurd e (h n a)
theorem noK {l:List aJ} (h:∀n∈l,¬KK n.kind):∀n∈l,n.kind=12->0<=n.d0/\n.d0<=1000000:=aDe fun n a e=>h n a (by unfold KK;omega)
theorem aDg (h:eI C N M) {i:Nat} {a:Mc.Ask} (e:(i:Int)<C.aE):eI C (N+1) (M.call C i a).1:=by
 unfold cT.call;dsimp only;split;exact As h e;split;exact h.mono (Nat.le_succ N);refine((h.dR (Be h.kL (aDe ?_))).kD (r6 h.bY)).mono (Nat.le_succ N);intro n c;unfold tK at c;obtain⟨k,_,rfl⟩:=List.mem_map.1 c;show(13:Int)≠12;omega
theorem aFi (h:eI C N M) {i:Nat} {g:Int} (a:(i:Int)<C.aE):eI C (N+1) (M.walk C i g).1:=by
 unfold cT.walk;dsimp only;split;exact h.mono (Nat.le_succ N);split;exact h.mono (Nat.le_succ N);refine((h.dR (Be h.kL (aDe ?_))).Er (mc (h.pR i a))).mono (Nat.le_succ N);intro n c;rw[List.mem_singleton.1 c];show(6:Int)≠12;omega
theorem qs {core:Int} {s:gZ} {l w:Int} {wr:Bool}:∀n∈(want C core s l w wr).2.1,¬KK n.kind:=by
 intro n a;unfold want at a;split at a;cases a;split at a;cases a;split at a;cases a;split at a;cases a;unfold Bb at a;split at a;simp only[mU,List.nil_append,List.mem_singleton] at a;rw[a];unfold KK;grind;split at a;cases a;split at a;cases a;simp only[mU,List.mem_append,List.mem_singleton] at a;rcases a with rfl|rfl;unfold KK;dsimp only;omega;unfold KK;grind
theorem aFc (h:eI C N M) {i:Nat} {l:Int} {wr:Bool} (a:(i:Int)<C.aE):eI C (N+1) (M.want C i l wr).1:=by
 unfold cT.want;dsimp only;split;exact h.mono (Nat.le_succ N);split;exact h.mono (Nat.le_succ N);exact((h.dR (Be h.kL (noK qs))).uQ (je (h.g9 i a))).mono (Nat.le_succ N)
theorem aEq (h:eI C N M) {i:Nat} {l a o:Int} {x:Acc} (c:(i:Int)<C.aE):eI C (N+1) (M.pO C i l a o x).1:=by
 unfold cT.pO;dsimp only;refine As (h.uQ ?_) c;have e:iL C (if x.read=true then mV C (M.dD i) l a o else M.dD i):=by
  split;exact G7 (h.g9 i c);exact h.g9 i c
 split;exact Nh e;exact e
theorem wg (h:eI C N M) {i:Nat} {a:Acc} (c:(i:Int)<C.aE):eI C (N+1) (M.access C i a).1:=by
 unfold cT.access;split;exact As h c;dsimp only;split;exact h.mono (Nat.le_succ N);split;exact aFi h c;split;exact As h c;split;exact aFc h c;exact aEq h c
theorem aEd (h:eI C N M) {a:Int}:eI C (N+1) (M.step C a).1:=by
 unfold cT.step;split;exact h.mono (Nat.le_succ N);rename_i e;have e:0<=a/\a<C.aE:=Decidable.not_not.1 e;have c:((a.toNat:Nat):Int)<C.aE:=by omega
 dsimp only;split;exact h.mono (Nat.le_succ N);split;exact h.mono (Nat.le_succ N);split;rename_i r f;exact(h.nT (Vh (h.Ho _ c) f)).Sp;split;exact aDg h c;split;exact wg h c;exact h.mono (Nat.le_succ N)
theorem Ss {r:Row} {line:Int} {d:Ln}:∀n∈(r.eE line d).2,¬KK n.kind:=by
 intro n a;unfold Row.eE at a;have e:∀s,(r.jY line s d).kind=8:=fun _=>rfl;unfold KK;grind
theorem Mv {line st:Int} {l:List Nat}:∀n∈eF line st l,¬KK n.kind:=by
 intro n a;unfold eF at a;obtain⟨k,_,rfl⟩:=List.mem_map.1 a;show ¬KK 11;unfold KK;omega
theorem aFb {r:Row} {line:Int} {m:Ln}:∀n∈(r.rest line m).2,¬KK n.kind:=by
 intro n a;unfold Row.rest at a;have c:= @Ss;grind
theorem Pf {H:kN} {n:aJ}:∀x∈(fF C H n).2.1,¬KK x.kind:=by
 intro x a;unfold fF at a;split at a;cases a;split at a;unfold lX.take at a;split at a;split at a<;>cases a;split at a;split at a;cases a;exact aFb x a;cases a;cases a
theorem aGr {r:Row} {line:Int} {m:Ln} {n:aJ} {w:Int}:∀x∈(r.get line m n w).2,¬KK x.kind:=by
 intro x a;unfold Row.get at a;dsimp only at a;split at a;unfold Row.getM at a;split at a;exact Mv x a;exact Ss x a;unfold Row.Wb at a;split at a;exact Mv x a;exact Ss x a
theorem Kv {H:kN} {l:Int} {j:Int->Int×Bool}:∀x∈(iC C H l j).2.1,¬KK x.kind:=by
 intro x a;unfold iC at a;split at a;unfold lX.begin at a;split at a;cases a;split at a;cases a;dsimp only at a;unfold Row.begun at a;split at a;rw[List.mem_singleton.1 a];show ¬KK 10;unfold KK;omega;split at a;split at a;exact aGr x a;rw[List.mem_singleton.1 a];show ¬KK 9;unfold KK;omega;split at a;cases a;exact Mv x a;cases a
theorem dz {core:Int} {s:gZ} {n:aJ}:∀x∈(fX C core s n).2.1,¬KK x.kind:=by
 intro x a;have e:∀y,(gY core n y).kind=5:=fun y=>by unfold gY;split<;>rfl
 unfold fX vI Gj sW nV at a;repeat' split at a
 all_goals (unfold KK;grind)
theorem eI.take (h:eI C N M) (hC:C.Ok) (g:N<=2^29) {n:aJ} (c:jx C n):yA C M n:=by
 obtain⟨f,e⟩:=Ff c.pR;have a:((n.core.toNat:Nat):Int)<C.aE:=by omega
 exact⟨e,h.bY,h.home.h (by omega),h.g9 _ a,(h.pR _ a).len hC,(h.pR _ a).2,c.word⟩
theorem aBq (h:eI C N M) (hC:C.Ok) {n:aJ} (f:jx C n):eI C (N+2) (M.fM C n).1/\∀x∈(M.fM C n).2.1,x.kind=12->0<=x.d0/\x.d0<=1000000:=by
 obtain⟨j,k⟩:=Ff f.pR;have c:((n.core.toNat:Nat):Int)<C.aE:=by omega
 have q:=h.bY.len;have i:=hC.2.1;unfold cT.fM;split;exact⟨(h.pZ (Nat.le_succ N) (q8 hC h.home)).mono (Nat.le_succ _),noK Pf⟩;split;refine⟨(h.uQ (Qe ?_ (h.g9 _ c))).mono (by omega),noK dz⟩;intro g;have:=ju f.pR g;omega;split;refine⟨h.mono (by omega),fun x a _=>?_⟩;rw[List.mem_singleton.1 a];exact uf (by omega) h.bY.own;split;refine⟨(h.Er (mi hC (h.pR _ c))).mono (by omega),fun x a e=>?_⟩;dsimp only at a;split at a;cases a;rw[List.mem_singleton.1 a] at e;exact absurd e (by show(6:Int)≠12;omega);split;refine⟨(h.Er (y9 (h.pR _ c))).mono (by omega),fun x a e=>?_⟩;rw[List.mem_singleton.1 a] at e;exact absurd e (by show(7:Int)≠12;omega);split;refine⟨?_,fun x a _=>by cases a⟩;dsimp only;split;exact(h.kD (Ir h.bY)).pZ (by omega) (Oz (Oz h.home));exact(h.kD (Ir h.bY)).mono (by omega);exact⟨h.mono (by omega),fun x a _=>by cases a⟩
theorem mo (h:eI C N M) (hC:C.Ok) {a b c:Int}:eI C (N+2) (M.sU C a b c).1:=by
 unfold cT.sU;dsimp only;split;exact h.mono (by omega);rename_i g;obtain⟨e,f⟩:=aBq h hC (Nj (a:=a) (b:=b) (c:=c) h.kL (Decidable.not_not.1 g)).1;split;exact h.mono (by omega);split;exact h.mono (by omega);exact e.dR (Be (Tw h.kL) f)
theorem aC1 (h:eI C N M) {a:Int}:eI C (N+2) (M.begin C a).1:=by
 unfold cT.begin;dsimp only;split;exact h.mono (by omega);split;exact h.mono (by omega);exact((h.dR (Be h.kL (noK Kv))).pZ (Nat.le_succ N) (nk h.home)).mono (by omega)
theorem w6 (h:eI C N M) {a:Int}:eI C (N+2) (M.finish C a).1:=by
 obtain⟨c,e⟩:=Wa (g:=a) h.bY;unfold cT.finish;split;exact h.mono (by omega);split;exact h.mono (by omega);dsimp only;split;exact h.mono (by omega);rename_i u f;have i:=e u f;refine(As (N:=N) ?_ (by omega)).mono (by omega);split;exact(h.kD c).pZ (Nat.le_refl N) (na h.home);exact h.kD c
theorem aCm (h:eI C N M) (hC:C.Ok) {d:Do}:eI C (N+2) (M.Ey C d).1:=by
 unfold cT.Ey;split;exact(aEd h).mono (by omega);split;exact mo h hC;split;exact aC1 h;split;exact w6 h;exact h.mono (by omega)
end
end Go.Mc
section
open Go Go.Ab
attribute [local irreducible] bE Br rT vO vB Dv nP xS mZ Ti iN nG pU sP rF lJ Cy xP Ya Xx Tj R3 Xc Td Rx Ub U1 mF pL vA kI copyV jQ zM Xp Yw Iz mA Pp Wr X7 pT tO Ao Cx Cl Bc Xb uL uF lI iQ cS cB
namespace Go.Proofs.YtajjljbmfdboaaaGreatDoor
open Go Go.Ab Go.Hm Go.At
section
set_option maxRecDepth 100000
variable {G:Bg} {h:AH} {L L':List HP} {Q:Value->AH->Prop}
theorem r8 {C:bM} (hC:C.Ok) {mb l:Nat} {mem:Nat->Ln} (q:l<C.lines) (e:Hs G h (fP G C.lines mb C mem::L)):
  ∃(b o cap:Nat) (r w:Int) (b2 o2 cp:Nat) (H:HP),Hs G h (aG mb 0 (C.enc++[.slice (some ⟨b,o,none⟩) C.aN.toNat cap])::aG b (o+(l % C.aN.toNat)*3) [I r,I w,.slice (some ⟨b2,o2,none⟩) (iI C.lines C.aN.toNat (l % C.aN.toNat)) cp]::aG b2 (o2+l/C.aN.toNat*2) (Nu (mem l))::H::L)/\
   ∀v g M,Hs G g (aG mb 0 (C.enc++[.slice (some ⟨b,o,none⟩) C.aN.toNat cap])::aG b (o+(l % C.aN.toNat)*3) [I r,I w,.slice (some ⟨b2,o2,none⟩) (iI C.lines C.aN.toNat (l % C.aN.toNat)) cp]::aG b2 (o2+l/C.aN.toNat*2) (Nu v)::H::M)->Hs G g (fP G C.lines mb C (aR mem l v)::M):=by
 have hb:=bM.bk hC
 obtain⟨b,o,cap,e⟩:=wF e
 have e:=(e.front (dK C.aN.toNat fun i=>gB C.lines C.aN.toNat b (o+i*3) i mem)).mW (l % C.aN.toNat) (Nat.mod_lt _ hb.2.1)
 obtain⟨r,w,a,cp,e⟩:=B2 e
 have j:=Jo hb.2.1 q
 obtain⟨b2,o2,rfl,H,e,f⟩:=Hs.ui (Sd (B:=C.aN.toNat) (i:=l % C.aN.toNat) (mem:=mem)) j (e.front (dI 2 155 a cp (iI C.lines C.aN.toNat (l % C.aN.toNat),(List.range (iI C.lines C.aN.toNat (l % C.aN.toNat))).flatMap (Nw C.aN.toNat (l % C.aN.toNat) mem))))
 rw[xv hb.2.1] at e
 refine⟨b,o,cap,r,w,b2,o2,cp,sp [H,sp (((List.range C.aN.toNat).erase (l % C.aN.toNat)).map fun i=>gB C.lines C.aN.toNat b (o+i*3) i mem),hole G 3 297 (some ⟨b,o,none⟩) cap C.aN.toNat b o],e.to,?_⟩
 intro v g M e
 have e:=(e.front (sp [H,sp (((List.range C.aN.toNat).erase (l % C.aN.toNat)).map fun i=>gB C.lines C.aN.toNat b (o+i*3) i mem),hole G 3 297 (some ⟨b,o,none⟩) cap C.aN.toNat b o])).Ex
 have e:=f _ _ _ rfl rfl (e.cX (aG b2 (o2+l/C.aN.toNat*2) (Nu v)) H)
 rw[Sm hb.2.1] at e
 have e:=qG (e.sg (b:=b) (o:=o+l % C.aN.toNat*3) (c:=[I r,I w,.slice (some ⟨b2,o2,none⟩) (iI C.lines C.aN.toNat (l % C.aN.toNat)) cp]) rfl)
 exact tC (b:=b) (o:=o) (cap:=cap) ((e.qA (n:=C.aN.toNat) (i:=l % C.aN.toNat) (fun i=>gB C.lines C.aN.toNat b (o+i*3) i mem) (fun i=>gB C.lines C.aN.toNat b (o+i*3) i (aR mem l v)) (Nat.mod_lt _ hb.2.1) (fun i s k=>by simp only[gB,tz s k])).to)
theorem ey {C:bM} (hC:C.Ok) {mb w:Nat} {mem:Nat->Ln} (j:Ob G 0 fV) (a:Hs G h (fP G C.lines mb C mem::L)) (s:w<C.lines*2)
  (q:∀(b2 o2:Nat) (H:HP) c,Hs G c (aG b2 o2 (Nu (mem (w/2)))::H::L)->(∀v c M,Hs G c (aG b2 o2 (Nu v)::H::M)->Hs G c (fP G C.lines mb C (aR mem (w/2) v)::M))->Q (.tuple ⟨[pt b2 o2 (0+w % 2*1),I 0]⟩) c):Cl Pr K 144 [pt mb 0 0,I w] h Q:=by
 have hb:=bM.bk hC
 have f:w/2<C.lines:=by omega
 obtain⟨b,o,cap,r,k,b2,o2,i,H,a,e⟩:=r8 hC f a
 refine cW (dG (bZ (bW (aB (aA (aU (b:=mb) (o:=0) a (by decide) (l:=C.enc) rfl rfl (G1 hC j a fun h a=>?_)))))))
 rw[aLb (by omega)]
 refine aH rfl (aH rfl (aH rfl (bC (aT (by omega) (bW ?_)))))
 rw[Int.toNat_natCast]
 refine vH hC j a f fun h a=>aH rfl (aH rfl (aH rfl (bC (aT (by omega) (aB (aA (aC (b:=b) (o:=o+(w/2) % C.aN.toNat*3) a rfl ?_)))))))
 have g:=Jo hb.2.1 f
 refine dV g (gR (by omega) ?_)
 refine q _ _ (sp [aG mb 0 (C.enc++[.slice (some ⟨b,o,none⟩) C.aN.toNat cap]),aG b (o+(w/2 % C.aN.toNat)*3) [I r,I k,.slice (some ⟨b2,o2,none⟩) (iI C.lines C.aN.toNat (w/2 % C.aN.toNat)) i],H]) _ a.to fun v c M a=>?_
 have a:=(a.front (sp [aG mb 0 (C.enc++[.slice (some ⟨b,o,none⟩) C.aN.toNat cap]),aG b (o+(w/2 % C.aN.toNat)*3) [I r,I k,.slice (some ⟨b2,o2,none⟩) (iI C.lines C.aN.toNat (w/2 % C.aN.toNat)) i],H])).Ex
 exact e v c M a.to
theorem aH3 (l:Ln) (w:Nat):(Nu l)[0+w % 2*1]?=some (I (if w % 2=0 then l.1 else l.2)):=by
 have:w % 2=0\/w % 2=1:=by omega
 rcases this with h|h<;>rw[h]<;>rfl
theorem jq {C:bM} (hC:C.Ok) {mb w:Nat} {mem:Nat->Ln} (k:Ob G 0 fV) (c:Hs G h L) [m:Has (fP G C.lines mb C) L mem L'] (i:w<C.lines*2)
  (j:∀f,Hs G f (fP G C.lines mb C mem::L')->Q (.tuple ⟨[I (lQ mem w),I 0]⟩) f):Cl Pr K 152 [pt mb 0 0,I w] h Q:=by
 refine cW (ey hC k (m.of c) i fun g q H h c a=>aH rfl (aH rfl (bC (aT (by omega) (aB (aC (b:=g) (o:=q) c (aH3 _ w) ?_))))))
 have c:=a _ _ _ c
 rw[qB] at c
 have:=j _ c
 unfold lQ at this
 split at this
 .rename_i e;rw[aLb e];exact this
 .rename_i e;rw[aLa e];exact this
theorem G4 {C:bM} (hC:C.Ok) {mb w:Nat} {v:Int} {mem:Nat->Ln} (q:Ob G 0 fV) (a:Hs G h L) [m:Has (fP G C.lines mb C) L mem L'] (k:w<C.lines*2)
  (i:∀g,Hs G g (fP G C.lines mb C (pS mem w v)::L')->Q (I 0) g):Cl Pr K 86 [pt mb 0 0,I w,I v] h Q:=by
 refine cW (ey hC q (m.of a) k fun f j H h a c=>aH rfl (aH rfl (bC (aT (by omega) (bW (aB ?_))))))
 have e:w % 2=0\/w % 2=1:=by omega
 rcases e with e|e
 .rw[e];refine bL (b:=f) (o:=j) a rfl rfl rfl rfl fun h a=>?_;have a:=c (v,(mem (w/2)).2) _ _ a;have:=i _ (by unfold pS;rw[aLb e];exact a);exact this
 .rw[e];refine bL (b:=f) (o:=j) a rfl rfl rfl rfl fun h a=>?_;have a:=c ((mem (w/2)).1,v) _ _ a;have:=i _ (by unfold pS;rw[aLa (by omega)];exact a);exact this
end
end Go.Proofs.YtajjljbmfdboaaaGreatDoor
namespace Go.Proofs.YtajjljbmfdboaaaGreatDoor.A
open Go Go.Ab Go.Hm Go.At Go.Is
section
set_option maxRecDepth 100000
variable {G:Bg} {h:AH} {L L':List HP} {Q:Value->AH->Prop}
theorem Vm {v:Value} {a b:Int} {l:List Int} {e:TypeId} (z:l.length<1000) (k:∀q,Hs G q (zX G 1 e v (l.map fun x=>[I x])::L)->Q (.bool (within a b l)) q):
  ∀(f i:Nat) (h:AH),i+f=l.length->within a b l=within a b (l.drop i)->Hs G h (zX G 1 e v (l.map fun x=>[I x])::L)->Dd 92 1 [] Q [(I a),(I b),v,(I l.length),(I i)] h:=by
 intro f
 induction f with
 |zero=>
  intro i h u g j
  rw[List.drop_of_length_le (by omega)] at g
  refine bW (aZ (aT (by omega) ?_))
  have:=k _ j
  rw[g] at this
  exact this
 |succ f y=>
  intro i h u g j
  obtain⟨x,w,t⟩:=oD (l:=l) (i:=i) (by omega)
  rw[t] at g
  have s:within a b (x::l.drop (i+1))=(decide (a<=x/\x<=b)&&within a b (l.drop (i+1))):=rfl
  rw[s] at g
  refine bW (aZ (bV (by omega) (bW (vZ j (x:=[I x]) (by simp[w]) rfl (aZ (aX (fun c=>?_) (fun c=>mS (aX (fun d=>?_) (fun d=>?_)))))))))
  .have:=k _ j;rw[g,decide_eq_false (by omega)] at this;exact this
  .have:=k _ j;rw[g,decide_eq_false (by omega)] at this;exact this
  .rw[decide_eq_true (by omega),Bool.true_and] at g;exact bW (bQ (by omega) (y (i+1) h (by omega) g j))
theorem Hi {v:Value} {a b:Int} {l:List Int} {e:TypeId} (j:l.length<1000) (g:Hs G h (zX G 1 e v (l.map fun x=>[I x])::L)) (i:∀f,Hs G f (zX G 1 e v (l.map fun x=>[I x])::L)->Q (.bool (within a b l)) f):Cl Pr K 92 [I a,I b,v] h Q:=by
 obtain⟨q,s,k⟩:=vY g;refine cW ?_;have c:=Vm (L:=L) (a:=a) (b:=b) j i l.length 0 h (by omega) rfl g;rw[k] at c ⊢;simp only[List.length_map] at c ⊢;exact cC c
theorem yL {g:Addr} {a b x:Int} {e:TypeId} (c:Hs G h (dI 1 e (some g) 1 (1,[I x])::L)) (i:∀f,Hs G f L->Q (.bool (decide (a<=x/\x<=b))) f):Cl Pr K 92 [I a,I b,.slice (some g) 1 1] h Q:=by
 have c:=xn (l:=[x].map fun x=>[I x]) (by simp) rfl rfl c;refine Hi (l:=[x]) (by simp) c fun f c=>?_;have:=i _ c.tail;rw[show within a b [x]=decide (a<=x/\x<=b) by simp[within]];exact this
end
section
set_option maxRecDepth 100000
variable {G:Bg} {h:AH} {L L':List HP} {Q:Value->AH->Prop}
theorem wb {c w o t:Int} (f:Hs G h L) (e:∀k,Hs G k L->Q (.tuple ⟨[I (fN c w o t).1,.bool (fN c w o t).2.1,I (fN c w o t).2.2]⟩) k):Cl Pr K 241 [I c,I w,I o,I t] h Q:=by
 refine cW (aQ (c:=[I w]) rfl (dW f rfl rfl rfl fun a h f=>yL f fun h f=>cE (eO (aX (fun u=>?_) (fun u=>?_)))));rotate_left;have:=e _ f;unfold fN at this;rw[aLb (by omega)] at this;exact this;refine aQ (c:=[I o]) rfl (dW f rfl rfl rfl fun a h f=>yL f fun h f=>cE (eO (aX (fun v=>?_) (fun v=>?_))));rotate_left;have:=e _ f;unfold fN at this;rw[aLb (by omega)] at this;exact this;unfold fN at e;rw[aLa (by omega)] at e;refine bW (bJ (aX (fun g=>?_) (fun i=>bW (bJ (aX (fun g=>?_) (fun j=>bW (bJ (aX (fun g=>?_) (fun q=>bW (bJ (aX (fun g=>?_) (fun y=>?_))))))))))));rw[aLb g] at e;refine bW (bC (aX (fun g1=>?_) (fun g1=>?_)));rw[aLb g1] at e;exact e _ f;rw[aLa g1] at e;refine bW (bC (aX (fun g2=>?_) (fun g2=>?_)));rw[aLb g2] at e;exact e _ f;rw[aLa g2] at e;refine bW (aQ (c:=[I t]) rfl (dW f rfl rfl rfl fun a h f=>yL f fun h f=>cE (eO (aX (fun g3=>?_) (fun g3=>?_)))));rw[aLa (by omega)] at e;exact e _ f;rw[aLb (by omega)] at e;exact e _ f;rw[aLa i,aLb g] at e;refine bW (bJ (aX (fun g1=>?_) (fun g1=>?_)));rw[aLb g1] at e;exact e _ f;rw[aLa g1] at e;refine bW (bC (aX (fun g2=>bC (aX (fun g3=>?_) (fun g3=>?_))) (fun g2=>?_)));rw[aLb (by omega)] at e;exact e _ f;rw[aLa (by omega)] at e;exact e _ f;rw[aLa (by omega)] at e;exact e _ f;rw[aLa i,aLa j,aLb g] at e;refine bW (bJ (aX (fun g1=>?_) (fun g1=>bC (aX (fun g2=>?_) (fun g2=>?_)))));rw[aLb (by omega)] at e;exact e _ f;rw[aLb (by omega)] at e;exact e _ f;rw[aLa (by omega)] at e;refine bW (aQ (c:=[I t]) rfl (dW f rfl rfl rfl fun a h f=>yL f fun h f=>cE (eO (aX (fun g3=>bJ (aX (fun s=>?_) (fun s=>?_))) (fun g3=>?_)))));rw[aLb (by omega)] at e;exact e _ f;rw[aLa (by omega)] at e;exact e _ f;rw[aLb (by omega)] at e;exact e _ f;rw[aLa i,aLa j,aLa q,aLb g] at e;refine bW (bJ (aX (fun g1=>?_) (fun g1=>?_)));rw[aLb g1] at e;exact e _ f;rw[aLa g1] at e;refine bW (bC (aX (fun g2=>?_) (fun g2=>?_)));rw[aLb g2] at e;exact e _ f;rw[aLa g2] at e;exact e _ f;rw[aLa i,aLa j,aLa q,aLa y] at e;exact e _ f
def Al (p:List Ins):List Value:=p.flatMap Ins.enc
theorem aC2 {p:List Ins} {i:Nat} (c:i<p.length):((Al p).drop (i*4)).take 4=(p.getD i ⟨0,0,0,0⟩).enc:=by
 have a:=(zG (W:=4) (l:=p.map Ins.enc) (i:=i) (x:=(p.getD i ⟨0,0,0,0⟩).enc) (by simp[Ins.enc]) (by simp[List.getD_eq_getElem?_getD,List.getElem?_eq_getElem c])).1;rw[<-a];rfl
theorem aBk {p:List Ins} {i:Nat} (e:i<p.length):(Al p)[i*4+0]?=some (I (p.getD i ⟨0,0,0,0⟩).op):=by
 have c:=aC2 e;have a:(((Al p).drop (i*4)).take 4)[0]?=some (I (p.getD i ⟨0,0,0,0⟩).op):=by rw[c];rfl
 rw[List.getElem?_take_of_lt (by omega),List.getElem?_drop] at a;exact a
theorem Mi {s:aK} {v:Value} {r:Int} (a:0<=r) (c:r<4):(s.core++[v])[0+0+0+r.toNat*1]?=some (I (s.cJ r.toNat)):=by
 have:r=0\/r=1\/r=2\/r=3:=by omega
 rcases this with rfl|rfl|rfl|rfl<;>rfl
theorem wh {s:aK} {v:Value} {r x:Int} (a:0<=r) (c:r<4):dR (s.core++[v]) (0+0+0+r.toNat*1) [I x]=(s.cK r x).core++[v]:=by
 have:r=0\/r=1\/r=2\/r=3:=by omega
 rcases this with rfl|rfl|rfl|rfl<;>rfl
theorem Ej {s:aK} {v:Value} {b q:Nat} {r x:Int} {k:AH->Prop} (a:Hs G h L) [m:Has (aG b q) L (s.core++[v]) L'] (e:0<=r) (f:r<4) (g:∀c,Hs G c (aG b q ((s.cK r x).core++[v])::L')->k c):bE (vB h 1 (pt b q (0+0+0+r.toNat*1)) (I x)) k:=by
 refine bL (b:=b) (o:=q) a rfl ?_ rfl rfl fun h a=>g h ?_;have:r=0\/r=1\/r=2\/r=3:=by omega
 rcases this with rfl|rfl|rfl|rfl<;>rfl;rw[wh e f] at a;exact a
theorem Jp {s:aK} {b q c:Nat} {a:Option Addr} {at':Int} (k:0<=at') (f:Hs G h (aG b q (s.core++[.slice a s.prog.length c])::dI 4 86 a c (s.prog.length,Al s.prog)::L))
  (j:∀i,Hs G i (aG b q ((s.iO at').core++[.slice a s.prog.length c])::dI 4 86 a c (s.prog.length,Al s.prog)::L)->Q (.tuple ⟨[]⟩) i):Cl Pr K 96 [pt b q 0,I at'] h Q:=by
 refine cW (aB (aA (aA (bL f rfl rfl rfl rfl fun h f=>aB (aA (aC (b:=b) (o:=q) f rfl (cC (dO (aX (fun g=>?_) (fun g=>?_))))))))))
 .refine aB (aA (aA (bL (b:=b) (o:=q) f rfl rfl rfl rfl fun h f=>?_)));refine j _ ?_;have e:s.iO at'={s with at':=at',over:=true}:=by unfold aK.iO De;rw[aLb g]
  rw[e]
  exact f
 .obtain⟨n,rfl⟩:∃n:Nat,at'=n:=⟨at'.toNat,by omega⟩;refine aB (aA (aC (b:=b) (o:=q) f rfl (vy (W:=4) (e:=86) (cs:=Al s.prog) f (by omega) (aBk (by omega)) (bJ (aB (aA (aA (bL (b:=b) (o:=q) f rfl rfl rfl rfl fun h f=>?_))))))));refine j _ ?_;have e:s.iO n={s with at':=n,over:=decide ((s.prog.getD n ⟨0,0,0,0⟩).op=11)}:=by unfold aK.iO De;rw[aLa g];rfl
  rw[e]
  exact f
end
end Go.Proofs.YtajjljbmfdboaaaGreatDoor.A
namespace Go.Proofs.YtajjljbmfdboaaaGreatDoor
open Go Go.Ab Go.Hm Go.At Go.Mc
section
theorem rE {m:Mon} {g:Nat}:g∈m.running↔g<16/\(m.runs g).isSome:=by unfold Mon.running;simp[List.mem_filter]
set_option maxRecDepth 100000
variable {G:Bg} {h:AH} {L L' M:List HP} {Q:Value->AH->Prop} {C:bM} {m:Mon} {p:Nat}
theorem Ci {t:Nat} {g:Int} (e:Hs G h L) [f:Has (hJ t) L m.dN L'] (c:∀a,Hs G a (hJ t m.dN::L')->Q (if m.has g then .tuple ⟨[.agg ⟨(m.kX g).enc⟩,I 0]⟩ else .tuple ⟨[.agg ⟨iM.enc⟩,I 10]⟩) a):Cl Pr K 72 [pt t 0 0,I g] h Q:=
 iv e c
abbrev tf (C:bM) (m:Mon) (p p2 f g p5:Nat) (a:Mc.Ask) (e:Nat->Value) (d l:Nat) (st:LoopState×Option Code) (b:Bool) (c:Int) (pr:Prop):HP:=
 sp [Cz pr,pP Pr 190 (pM 1018) 113 e d l st,sp [aG p2 0 [pt p 0 0],aG f 0 a.enc,aG g 0 [.bool b],aG p5 0 [I c]],fY C p m]
theorem ba {a:Mc.Ask} (hC:C.Ok) (hm:iF C m) (s:Hs G h L) [mm:Has (fY C p) L m L'] (B:∀T,Hs G T (fY C p (m.call C.aE a).1::L')->Q (.tuple ⟨[.bool (m.call C.aE a).2.1,I (m.call C.aE a).2.2]⟩) T):Cl Pr K 190 [pt p 0 0,.agg ⟨a.enc⟩] h Q:=by
 have hc:=hC.1;have μ:=hC.2.1;have κ:=hm.len;have s:=mm.of s;unfold Mon.call at B;refine cW (dS s fun z h s=>dS s fun u h s=>bP s fun w h s=>bP s fun y h s=>aC (b:=z) (o:=0) s rfl (dG (bZ ?_)));have bad:∀{h:AH} {M:List HP} (e:Int),[Sub M (fY C p m::L')]->Hs G h (aG w 0 [.bool false]::aG y 0 [I 0]::M)->(∀T,Hs G T (fY C p m::L')->Q (.tuple ⟨[.bool false,I e]⟩) T)->
   bE (vB h 1 (pt w 0 0) (.bool false)) fun U=>bE (vB U 1 (pt y 0 0) (I e)) fun h6=>bE (cB [] h6) fun h7=>bE (rT h7 (pt w 0 0)) fun v8=>bE (rT h7 (pt y 0 0)) fun v9=>Q (.tuple ⟨[v8,v9]⟩) h7:=by
  intro h M e _ s hq
  exact bH (b:=w) s rfl rfl rfl rfl fun h s=>bH (b:=y) s rfl rfl rfl rfl fun h s=>lZ (aC (b:=w) (o:=0) s rfl (aC (b:=y) (o:=0) s rfl (hq _ s.to)))
 obtain⟨t,b,s⟩:=kT (s.front (fY C p m));have F:∀{h:AH} {M:List HP},Hs G h (aG p 0 [pt t 0 0,I C.aE,gI b]::hJ t m.dN::iW b (gF m.runs)::M)->Hs G h (fY C p m::M):=fun s=>dT s;refine bW (bB s fun r1 h s=>aA (aC (b:=u) (o:=0) s rfl (aZ (aX (fun h1=>?_) (fun h1=>?_)))));rw[aLb (by omega)] at B;have s:=F (s.dF (aG p 0 [pt t 0 0,I C.aE,gI b]) (hJ t m.dN) (iW b (gF m.runs)));exact bad (M:=fY C p m::L') 1 s.to B;refine aA (aC (b:=u) (o:=0) s rfl (aC (b:=z) (o:=0) s rfl (aB (aA (aC (b:=p) (o:=0) s rfl (dO (aX (fun h2=>?_) (fun h2=>?_))))))));rw[aLb (by omega)] at B;have s:=F (s.dF (aG p 0 [pt t 0 0,I C.aE,gI b]) (hJ t m.dN) (iW b (gF m.runs)));exact bad (M:=fY C p m::L') 1 s.to B;rw[aLa (by omega)] at B;refine bW (bB s fun r2 h s=>aC (b:=z) (o:=0) s rfl (aB (aA (aC (b:=p) (o:=0) s rfl (aA (aC (b:=u) (o:=0) s rfl (Ci (m:=m) s fun h s=>?_)))))));by_cases P:m.has a.bI;rotate_left;rw[aLa P];rw[aLb P] at B;refine aH rfl (aH rfl (lN (r:=r2) (i:=10) (n:=13) (D:=[]) s rfl rfl fun E h s=>bH (b:=E) s rfl rfl rfl rfl fun h s=>cY (aH rfl jH) (bC (bV (by omega) ?_))));have s:=F (s.dF (aG p 0 [pt t 0 0,I C.aE,gI b]) (hJ t m.dN) (iW b (gF m.runs)));exact bad (M:=fY C p m::L') 10 s.to B;rw[aLb P];rw[aLa (by simpa using P)] at B;have η:=hm.kX P;have α:0<=a.bI/\a.bI<C.aS:=by unfold Mon.has at P;omega
 refine aH rfl (aH rfl (lN (r:=r2) (i:=10) (n:=13) (D:=[]) s rfl rfl fun E h s=>bH (b:=E) s rfl rfl rfl rfl fun h s=>cY (aH rfl jH) (bC (aT (by omega) ?_))));have s:=F (s.dF (aG p 0 [pt t 0 0,I C.aE,gI b]) (hJ t m.dN) (iW b (gF m.runs)));refine bW (aC (b:=z) (o:=0) s rfl (aA (aC (b:=u) (o:=0) s rfl (Mh (C:=C) (m:=m) s fun h s=>bC (aX (fun h3=>?_) (fun h3=>?_))))));rw[aLb h3] at B;exact bad (M:=fY C p m::L') 17 s.to B;rw[aLa h3] at B;refine bW (aC (b:=z) (o:=0) s rfl (Du (C:=C) (m:=m) s fun q qa qc h s=>oY s fun d h s=>?_));intro e he;refine tZ s fun l h s=>A8 rfl ?_;have s:Hs G h (H.Ny 3 q qa qc (m.running.map fun k:Nat=>(k:Int))::tf C m p z u w y a e d l (.ready,none) false 0 (∀g∈([]:List Int),m.mI a.core g.toNat=false)::sp [mk d (),aG E 0 (m.kX a.bI).enc]::L'):=by
  have s:=(s.cX (mk d ()) (aG E 0 (m.kX a.bI).enc)).H9;have s:=(s.nA (aG z 0 [pt p 0 0]) (aG u 0 a.enc) (aG w 0 [.bool false]) (aG y 0 [I 0])).Nx;have s:=s.dF (pP Pr 190 (pM 1018) 113 e d l (.ready,none)) (sp [aG z 0 [pt p 0 0],aG u 0 a.enc,aG w 0 [.bool false],aG y 0 [I 0]]) (fY C p m);have s:=Hs.Nx (Hs.To (p:=∀g∈([]:List Int),m.mI a.core g.toNat=false) (by simp) s);exact s.to
 refine(H.Gd (e:=3) (p:=q) (a:=qa) (c:=qc) (xs:=m.running.map fun k:Nat=>(k:Int)) (by have:=List.length_filter_le (fun g=>(m.runs g).isSome) (List.range 16);simp[Mon.running] at this ⊢;omega)).fold
  (X:=fun done=>tf C m p z u w y a e d l (.ready,none) false 0 (∀g∈done,m.mI a.core g.toNat=false)) (Z:=fun _ x=>tf C m p z u w y a e d l (.done,some .ret) false 13 (x∈(m.running.map fun k:Nat=>(k:Int))/\m.mI a.core x.toNat=true)) s ?_ ?_ ?_
 .intro done x h M hp s;obtain⟨R,s⟩:=iG s;have s:=s.Ex;obtain⟨k,V,rfl⟩:∃k∈m.running,(k:Int)=x:=by
   obtain⟨ys,ι⟩:=hp;have:x∈m.running.map fun k:Nat=>(k:Int):=by rw[<-ι];simp
   obtain⟨k,h1,h2⟩:=List.mem_map.1 this;exact⟨k,h1,h2⟩
  obtain⟨r,hr⟩:=Option.isSome_iff_exists.1 (rE.1 V).2;have θ:m.run (k:Int)=some r:=by unfold Mon.run;rw[aLb (by omega)];exact hr
  have s:=(s.front (sp [aG z 0 [pt p 0 0],aG u 0 a.enc,aG w 0 [.bool false],aG y 0 [I 0]])).un4;refine rW (A7 s) he (lU s fun h s=>bB s fun rr h s=>?_);obtain⟨t,b,s⟩:=kT (s.front (fY C p m));refine aC (b:=z) (o:=0) s rfl (aB (aA (aC (b:=p) (o:=0) s rfl (P4 (m:=m) s ?_))));rw[θ];refine Jd (m:=nQ r) rfl rfl (Jd (m:=Av r) rfl rfl (dy rfl (aA (aC (b:=u) (o:=0) s rfl (bJ (aX (fun c1=>?_) (fun c1=>?_)))))));refine bH (b:=w) s rfl rfl rfl rfl fun h s=>bH (b:=y) s rfl rfl rfl rfl fun h s=>mB s fun h s=> .inr ⟨rfl,?_⟩;have s:=dT (s.dF (aG p 0 [pt t 0 0,I C.aE,gI b]) (hJ t m.dN) (iW b (gF m.runs)));have s:=(s.nA (aG z 0 [pt p 0 0]) (aG u 0 a.enc) (aG w 0 [.bool false]) (aG y 0 [I 13])).Nx;have s:=s.dF (pP Pr 190 (pM 1018) 113 e d l (.done,some .ret)) (sp [aG z 0 [pt p 0 0],aG u 0 a.enc,aG w 0 [.bool false],aG y 0 [I 13]]) (fY C p m);refine(Hs.Nx (Hs.To (p:=((k:Int)∈(m.running.map fun k:Nat=>(k:Int))/\m.mI a.core ((k:Int)).toNat=true)) ⟨List.mem_map.2 ⟨k,V,rfl⟩,?_⟩ s)).to;unfold Mon.mI;rw[Int.toNat_natCast,hr];exact decide_eq_true c1
  .refine mB s fun h s=> .inl ⟨rfl,?_⟩;have s:=dT (s.dF (aG p 0 [pt t 0 0,I C.aE,gI b]) (hJ t m.dN) (iW b (gF m.runs)));have s:=(s.nA (aG z 0 [pt p 0 0]) (aG u 0 a.enc) (aG w 0 [.bool false]) (aG y 0 [I 0])).Nx;have s:=s.dF (pP Pr 190 (pM 1018) 113 e d l (.ready,none)) (sp [aG z 0 [pt p 0 0],aG u 0 a.enc,aG w 0 [.bool false],aG y 0 [I 0]]) (fY C p m);refine(Hs.Nx (Hs.To (p:=∀g∈done++[((k:Nat):Int)],m.mI a.core g.toNat=false) ?_ s)).to;intro g O;rcases List.mem_append.1 O with O|O;exact R g O;rw[List.mem_singleton.1 O,Int.toNat_natCast];unfold Mon.mI;rw[hr];exact decide_eq_false c1
 .intro v h s;obtain⟨R,s⟩:=iG (s.front (tf C m p z u w y a e d l (.ready,none) false 0 (∀g∈m.running.map (fun k:Nat=>(k:Int)),m.mI a.core g.toNat=false)));have s:=s.Ex;have ζ:m.calls a.core=false:=by
   unfold Mon.calls;rw[List.any_eq_false];intro g O;have:=R g (List.mem_map.2 ⟨g,O,rfl⟩);rw[Int.toNat_natCast] at this;rw[this];simp
  rw[aLa (by rw[ζ];simp)] at B;have s:=(s.front (sp [aG z 0 [pt p 0 0],aG u 0 a.enc,aG w 0 [.bool false],aG y 0 [I 0]])).un4;have s:=(s.front (sp [mk d (),aG E 0 (m.kX a.bI).enc])).Hh;refine uG s fun h s=>uE ?_;refine aA (aC (b:=u) (o:=0) s rfl (aA (aC (b:=u) (o:=0) s rfl (aA (aC (b:=E) (o:=0) s rfl (aA (aC (b:=u) (o:=0) s rfl (A.wb s fun h s=>?_))))))));dsimp only at B;have γ:0<=(fN a.call a.world (m.kX a.bI).owner a.to).1/\(fN a.call a.world (m.kX a.bI).owner a.to).1<=4:=by
   unfold fN;repeat' split
   all_goals first|omega|(simp only[];omega)
  generalize fN a.call a.world (m.kX a.bI).owner a.to=jj at B γ ⊢;refine aH rfl (aH rfl (aH rfl (bC (aX (fun U=>?_) (fun U=>?_)))));rw[aLb U] at B;refine bH (b:=w) s rfl rfl rfl rfl fun h s=>bH (b:=y) s rfl rfl rfl rfl fun h s=>oU s fun h s=>lZ (aC (b:=w) (o:=0) s rfl (aC (b:=y) (o:=0) s rfl (B _ s.to)));rw[aLa U] at B;obtain⟨t,b,s⟩:=kT (s.front (fY C p m));refine bW (bB s fun rr h s=>aC (b:=z) (o:=0) s rfl (aB (aA (aC (b:=p) (o:=0) s rfl (aA (aC (b:=u) (o:=0) s rfl (aA (aC (b:=E) (o:=0) s rfl (aQ (c:=(⟨(m.kX a.bI).owner,true⟩:iE).enc) rfl ?_)))))))));refine Hp (x:=⟨(m.kX a.bI).owner,true⟩) s fun h s=>?_;have J:(0<=a.bI/\a.bI<m.dN.length)/\(0<=(m.kX a.bI).owner/\(m.kX a.bI).owner<=4):=⟨P,η⟩;rw[aLb J] at s;rw[aLb J];refine bC (aT (by omega) (bW (aU (b:=u) (o:=0) s (by decide) (l:=a.enc) rfl rfl (aQ (c:=[I a.core,I a.world,I a.call,I a.bI,I a.to,I jj.1,.bool jj.2.1]) rfl (aQ (c:=(⟨a.core,a.world,a.call,a.bI,a.to,jj.1,jj.2.1,1,fun _=>false⟩:Mc.jG).enc) rfl (bP s fun Y h s=>bH (b:=Y) s rfl rfl rfl rfl fun h s=>aC (b:=z) (o:=0) s rfl (aB (aA (aC (b:=p) (o:=0) s rfl ?_)))))))));have loop:∀(k i:Nat) (h:AH),i+k=C.aE.toNat->Hs G h (aG Y 0 (⟨a.core,a.world,a.call,a.bI,a.to,jj.1,jj.2.1,1,fun j=>decide (j<i)⟩:Mc.jG).enc::aG p 0 [pt t 0 0,I C.aE,gI b]::hJ t (m.dN.set a.bI.toNat ⟨(m.kX a.bI).owner,true⟩)::iW b (gF m.runs)::aG z 0 [pt p 0 0]::aG u 0 a.enc::aG w 0 [.bool false]::aG y 0 [I 0]::mk d ()::L')->
    Dd 190 8 [d] Q [(pt z 0 0),(pt u 0 0),(pt w 0 0),(pt y 0 0),(pt Y 0 0),(I C.aE),(I i)] h:=by
   intro k
   induction k with
   |zero=>
    intro i h hi s
    refine bW (aZ (aT (by omega) (bW (bB s fun rr h s=>aC (b:=z) (o:=0) s rfl (aB (aA (aC (b:=p) (o:=0) s rfl (aA (aC (b:=u) (o:=0) s rfl (aU (b:=Y) (o:=0) s (by decide) (l:=(⟨a.core,a.world,a.call,a.bI,a.to,jj.1,jj.2.1,1,fun j=>decide (j<i)⟩:Mc.jG).enc) rfl rfl ?_))))))))))
    obtain⟨g,O⟩:=Int.eq_ofNat_of_zero_le α.1
    rw[show(a.bI)=((g:Nat):Int) from O]
    refine Sw s (by omega) fun h s=>?_
    rw[<-O] at s
    refine bH (b:=w) s rfl rfl rfl rfl fun h s=>bH (b:=y) s rfl rfl rfl rfl fun h s=>oU s fun h s=>lZ (aC (b:=w) (o:=0) s rfl (aC (b:=y) (o:=0) s rfl (B _ ?_)))
    have hw:(⟨a.core,a.world,a.call,a.bI,a.to,jj.1,jj.2.1,1,fun j=>decide (j<i)⟩:Mc.jG)=a.run C.aE jj:=by
     unfold Ask.run;congr 1;funext j;exact decide_eq_decide.2 (by omega)
    have e1:=H4 (f:=m.runs) (g:=g) (x:=some (a.run C.aE jj))
    rw[Option.map_some] at e1
    have s:=s.dF (aG p 0 [pt t 0 0,I C.aE,gI b]) (hJ t (m.dN.set a.bI.toNat ⟨(m.kX a.bI).owner,true⟩)) (iW b (Lo (gF m.runs) g (some (.agg ⟨(⟨a.core,a.world,a.call,a.bI,a.to,jj.1,jj.2.1,1,fun j=>decide (j<i)⟩:Mc.jG).enc⟩))))
    rw[hw,e1] at s
    have β:g=a.bI.toNat:=by omega
    rw[β] at s
    exact(dT (m:=(m.qD a.bI.toNat ⟨(m.kX a.bI).owner,true⟩).cK a.bI.toNat (some (a.run C.aE jj))) s).to
   |succ k ih=>
    intro i h hi s
    refine bW (aZ (bV (by omega) (bW (aA (gR (by omega) ?_)))))
    have hl:(⟨a.core,a.world,a.call,a.bI,a.to,jj.1,jj.2.1,1,fun j=>decide (j<i)⟩:Mc.jG).enc.length=12:=rfl
    refine bL (b:=Y) (o:=0) s rfl (by rw[hl];exact Nat.ble_eq_true_of_le (by simp;omega)) rfl rfl fun h s=>bQ (by omega) (ih (i+1) h (by omega) ?_)
    have e:dR (⟨a.core,a.world,a.call,a.bI,a.to,jj.1,jj.2.1,1,fun j=>decide (j<i)⟩:Mc.jG).enc (0+8+i*1) [.bool true]=(⟨a.core,a.world,a.call,a.bI,a.to,jj.1,jj.2.1,1,fun j=>decide (j<i+1)⟩:Mc.jG).enc:=by
     have:i=0\/i=1\/i=2\/i=3:=by omega
     rcases this with rfl|rfl|rfl|rfl<;>rfl
    rw[e] at s
    exact s.to
  refine loop C.aE.toNat 0 h (by omega) ?_;have e:(⟨a.core,a.world,a.call,a.bI,a.to,jj.1,jj.2.1,1,fun _=>false⟩:Mc.jG).enc=(⟨a.core,a.world,a.call,a.bI,a.to,jj.1,jj.2.1,1,fun j=>decide (j<0)⟩:Mc.jG).enc:=rfl;rw[e] at s;exact s.to
 .intro done x v h hp s;obtain⟨R,s⟩:=iG (s.front (tf C m p z u w y a e d l (.done,some .ret) false 13 (x∈(m.running.map fun k:Nat=>(k:Int))/\m.mI a.core x.toNat=true)));have s:=s.Ex;have W:m.calls a.core=true:=by
   unfold Mon.calls;rw[List.any_eq_true];obtain⟨k,δ,ε⟩:=List.mem_map.1 R.1;refine⟨k,δ,?_⟩;have:=R.2;rw[<-ε,Int.toNat_natCast] at this;exact this
  rw[aLb W] at B;have s:=(s.front (sp [aG z 0 [pt p 0 0],aG u 0 a.enc,aG w 0 [.bool false],aG y 0 [I 13]])).un4;have s:=(s.front (sp [mk d (),aG E 0 (m.kX a.bI).enc])).Hh;refine Ml s fun h s=>xr (oU s fun h s=>lZ (aC (b:=w) (o:=0) s rfl (aC (b:=y) (o:=0) s rfl (B _ s.to))))
end
end Go.Proofs.YtajjljbmfdboaaaGreatDoor
namespace Go.Proofs.YtajjljbmfdboaaaGreatDoor.A
open Go Go.Ab Go.Hm Go.At Go.Is
section
set_option maxRecDepth 100000
variable {G:Bg} {h:AH} {L L':List HP} {Q:Value->AH->Prop}
def r7 (mem:Nat->Ln) (done:List Nat):Nat->Ln:=done.foldl (fun m l=>aR m l (0,0)) mem
abbrev scX (G:Bg) (C:bM) (mb p2:Nat) (mem:Nat->Ln) (e:Nat->Value) (d l:Nat) (done:List Nat):HP:=sp [pP Pr 160 (pM 122) 34 e d l (.ready,none),aG p2 0 [pt mb 0 0],fP G C.lines mb C (r7 mem done)]
theorem u6 {C:bM} (hC:C.Ok) {mb g:Nat} {mem:Nat->Ln} (s:Ob G 0 fV) (a:Hs G h L) [m:Has (fP G C.lines mb C) L mem L'] (z:(g:Int)<C.aS)
  (B:∀v k,Hs G k (fP G C.lines mb C (jO mem g)::L')->Q v k):Cl Pr K 160 [pt mb 0 0,I g] h Q:=by
 have hb:C.aS<=16:=hC.2.1.2
 have D:=bM.gK hC
 have a:=m.of a
 refine cW (dS a fun f h a=>bP a fun i h a=>aC (b:=f) (o:=0) a rfl (dG (bZ (bW (aZ (aT (by omega) ?_))))))
 obtain⟨b,o,cap,a⟩:=wF (a.front (fP G C.lines mb C mem))
 refine aC (b:=f) (o:=0) a rfl (aB (aA (aA (aC (b:=mb) (o:=0) a rfl (dO (aT (by omega) (bW ?_)))))))
 refine aC (b:=f) (o:=0) a rfl (aB (aA (aU (b:=mb) (o:=0) a (by decide) (l:=C.enc) rfl rfl (El a fun p q h a=>oY a fun d h a=>?_))))
 have a:=Ma C.lines mb C mem b o cap a
 intro e A
 refine tZ a fun l h a=>A8 rfl ?_
 have a:Hs G h (sp [aG p 0 C.enc,aG q 0 [I g]]::scX G C mb f mem e d l []::sp [aG i 0 [I 0],mk d ()]::L'):=by
  have a:=a.dF (pP Pr 160 (pM 122) 34 e d l (.ready,none)) (aG f 0 [pt mb 0 0]) (fP G C.lines mb C mem);have a:Hs G h (scX G C mb f mem e d l []::_):=a.W8;have a:=(a.cX (aG i 0 [I 0]) (mk d ())).H9;exact a.dF (sp [aG p 0 C.enc,aG q 0 [I g]]) (scX G C mb f mem e d l []) (sp [aG i 0 [I 0],mk d ()])
 refine(He (p:=p) (q:=q) hC z s).fold (X:=scX G C mb f mem e d l) (Z:=fun _ _=>Cz False) a ?_ ?_ ?_
 .intro done y h M t a;have E:y<C.lines:=by
   obtain⟨F,j⟩:=t;have:y∈[g*2,g*2+1]:=by rw[<-j];simp
   simp at this;omega
  have a:=a.Ex
  refine rW (A7 a) A (lU a fun h a=>aC (b:=f) (o:=0) a rfl (aQ (c:=Nu (0,0)) rfl (Gq hC s a E fun h a=>bC (aT (by omega) ?_))))
  refine mB a fun h a=> .inl ⟨rfl,Hs.W8 ?_⟩
  have u:r7 mem (done++[y])=aR (r7 mem done) y (0,0):=by unfold r7;rw[List.foldl_append];rfl
  rw[u]
  exact a.to
 .intro v h a;have a:=(a.front (scX G C mb f mem e d l [g*2,g*2+1])).Ex;refine uG a fun h a=>uE ?_;have a:=(a.front (sp [aG i 0 [I 0],mk d ()])).Hh;refine bH (b:=i) (o:=0) a rfl rfl rfl rfl fun h a=>oU a fun h a=>lZ (aC (b:=i) (o:=0) a rfl (B _ _ ?_));have w:r7 mem [g*2,g*2+1]=jO mem g:=rfl;rw[w] at a;exact a.to
 .intro done y v h t a;exact(a.front (Cz False)).y7.1.elim
abbrev ve (pm:Nat) (C:bM) (v:Value) (a:Option Addr) (n c mb:Nat):HP:=aG pm 0 (C.enc++[v,.slice a n c,pt mb 0 0])
theorem aEx {o:List Int} {g:Nat} (h:g<o.length):(o.map I)[g]?=some (I (o.getD g 0)):=by
 simp[List.getD_eq_getElem?_getD,List.getElem?_eq_getElem h]
theorem zw {m:AM} (hC:m.cfg.Ok) (s:(m.dA.length:Int)=m.cfg.aS) {pm mb c:Nat} {a:Option Addr} {v:Value} {w x:Int} (k:Ob G 0 fV)
  (f:Hs G h (ve pm m.cfg v a m.dA.length c mb::dI 1 3 a c (m.dA.length,m.dA.map I)::L))
  (g:∀j,Hs G j (ve pm m.cfg v a m.dA.length c mb::dI 1 3 a c (m.dA.length,m.dA.map I)::L)->Q (.bool (m.may w x)) j):Cl Pr K 240 [pt pm 0 0,I w,I x] h Q:=by
 have q:=bM.gK hC
 unfold AM.may at g
 refine cW (aB (aA (aU (b:=pm) (o:=0) f (by decide) (l:=m.cfg.enc) rfl rfl (G1 hC k f fun h f=>?_))))
 by_cases i:0<=x/\x<m.cfg.lines*2
 .rw[aLb i] at g ⊢;refine aH rfl (aH rfl (aH rfl (bC (aT (by omega) (bW (aB (aA (aU (b:=pm) (o:=0) f (by decide) (l:=m.cfg.enc) rfl rfl (Zq hC (by omega) k f fun h f=>?_)))))))));refine aH rfl (aH rfl (bJ (bV (by omega) (aB (aA (aC (b:=pm) (o:=0) f rfl (Zu (e:=3) (cs:=m.dA.map I) f (aEx (by omega)) (Rm ?_))))))));have:=g _ f;rw[show x.toNat/4=x.toNat/2/2 by omega] at this;exact this
 .rw[aLa i] at g ⊢;exact aH rfl (aH rfl (aH rfl (bC (bV (by omega) (g _ f)))))
end
section
set_option maxRecDepth 100000
variable {G:Bg} {h:AH} {L L':List HP} {Q:Value->AH->Prop}
theorem pj {m:AM} {w x:Int} (h:m.may w x=true):0<=x/\x<m.cfg.lines*2:=by
 unfold AM.may at h;split at h;assumption;cases h
theorem Ha {m:AM} (hC:m.cfg.Ok) (B:(m.dA.length:Int)=m.cfg.aS) {pm mb c b q i:Nat} {a:Option Addr} {v A:Value} {x:Ins} (D:x.op=3\/x.op=4\/x.op=5) (g:0<=x.a/\x.a<4) (hb:0<=x.b/\x.b<4) (u:Ob G 0 fV)
  (f:Hs G h (ve pm m.cfg v a m.dA.length c mb::dI 1 3 a c (m.dA.length,m.dA.map I)::fP G m.cfg.lines mb m.cfg m.mem::aG b q ((m.aD i).core++[A])::L))
  (j:∀z,Hs G z (ve pm m.cfg v a m.dA.length c mb::dI 1 3 a c (m.dA.length,m.dA.map I)::fP G m.cfg.lines mb m.cfg (m.access i x).1.mem::aG b q (((m.access i x).1.aD i).core++[A])::L)->Q (.tuple ⟨[I (m.access i x).2.1,I (m.access i x).2.2]⟩) z):Cl Pr K 188 [pt pm 0 0,pt b q 0,.agg ⟨x.enc⟩] h Q:=by
 refine cW (dS f fun k h f=>bB f fun t h f=>?_)
 refine aA (aC (b:=k) (o:=0) f rfl (aB (aA (aA (fU hb.1 hb.2 (aC (b:=b) (o:=q) f (Mi hb.1 hb.2) (aA (aC (b:=k) (o:=0) f rfl (bJ ?_)))))))))
 have go:Dd 188 3 [] Q [(pt pm 0 0),(pt b q 0),(pt k 0 0),(I ((m.aD i).cJ x.b.toNat))] h:=by
  unfold AM.access at j;refine bW (aB (aA (aA (aC (b:=b) (o:=q) f rfl ?_))));refine zw (a:=a) (c:=c) (mb:=mb) (v:=v) hC B u (f.cX (ve pm m.cfg v a m.dA.length c mb) (dI 1 3 a c (m.dA.length,m.dA.map I))) fun h f=>cE (eO (dH (fun s=>?_) (fun s=>?_)));rotate_left;rw[aLa (by simp[s])] at j;exact j _ f.to;rw[aLb s] at j;have F:=pj s;generalize E:(m.aD i).cJ x.b.toNat=W at*;obtain⟨w,rfl⟩:∃w:Nat,W=w:=⟨W.toNat,by omega⟩;simp only[Int.toNat_natCast] at j;refine bW (aB (aA (aC (b:=pm) (o:=0) f rfl ?_)));refine jq hC u f (by omega) fun h f=>aH rfl (aH rfl (bC (aT (by omega) (bW (aA (aC (b:=k) (o:=0) f rfl (bC (aX (fun y=>?_) (fun y=>?_)))))))));rw[aLa y] at j;refine bW (bB f fun t h f=>aB (aA (aC (b:=pm) (o:=0) f rfl (aA (aC (b:=k) (o:=0) f rfl (aB (aA (aA (fU g.1 g.2 (aC (b:=b) (o:=q) f (Mi g.1 g.2) ?_))))))))));refine G4 hC u f (by omega) fun h f=>aA (aC (b:=k) (o:=0) f rfl (bJ (aX (fun c2=>?_) (fun c2=>?_))));rw[aLb c2] at j;refine bW (bB f fun t h f=>aA (aC (b:=k) (o:=0) f rfl (aB (aA (aA (fU g.1 g.2 (aC (b:=b) (o:=q) f (Mi g.1 g.2) (j _ ?_))))))));simp only[AM.kD];exact f.to;rw[aLa c2] at j;refine bW (bB f fun t h f=>aA (aC (b:=k) (o:=0) f rfl (aB (aA (aA (fU g.1 g.2 (Ej f g.1 g.2 fun h f=>?_)))))));refine j _ ?_;simp only[AM.kD,AM.nT,dC];exact f.to;rw[aLb (by omega)] at j;refine bW (aA (aC (b:=k) (o:=0) f rfl (bJ (aT (by omega) ?_))));refine bW (bB f fun t h f=>aA (aC (b:=k) (o:=0) f rfl (aB (aA (aA (fU g.1 g.2 (Ej f g.1 g.2 fun h f=>?_)))))));refine j _ ?_;simp only[AM.nT,dC];exact f.to
 rcases D with e|e|e
 .refine bV (by omega) (bW ?_);rw[decide_eq_true (by omega)];exact fK go
 .refine aT (by omega) (bW (bJ (bV (by omega) (bW ?_))));rw[decide_eq_true (by omega)];exact fK go
 .exact aT (by omega) (bW (bJ (aT (by omega) (bW (bJ (bV (by omega) go))))))
end
section
set_option maxRecDepth 100000
variable {G:Bg} {h:AH} {L L':List HP} {Q:Value->AH->Prop}
def zI (b o:Nat) (s:aK):HP:=vW fun x:Option Addr×Nat=>sp [aG b o (s.core++[.slice x.1 s.prog.length x.2]),dI 4 86 x.1 x.2 (s.prog.length,Al s.prog)]
theorem Y0 {b o c:Nat} {a:Option Addr} {s:aK} (e:Hs G h (aG b o (s.core++[.slice a s.prog.length c])::dI 4 86 a c (s.prog.length,Al s.prog)::L)):Hs G h (zI b o s::L):=
 Hs.Af (A:=fun x:Option Addr×Nat=>sp [aG b o (s.core++[.slice x.1 s.prog.length x.2]),dI 4 86 x.1 x.2 (s.prog.length,Al s.prog)]) (a,c) (Hs.pack (A:=[_,_]) e)
structure AtA where
 b:Nat
 o:Nat
 cap:Nat
 a:Option Addr
 c:Nat
 mb:Nat
def Gu (G:Bg) (pm:Nat) (m:AM) (x:AtA):List HP:=[ve pm m.cfg (.slice (some ⟨x.b,x.o,none⟩) m.cfg.aE.toNat x.cap) x.a m.dA.length x.c x.mb,dI 1 3 x.a x.c (m.dA.length,m.dA.map I),fP G m.cfg.lines x.mb m.cfg m.mem,
  hole G 8 213 (some ⟨x.b,x.o,none⟩) x.cap m.cfg.aE.toNat x.b x.o,dK m.cfg.aE.toNat fun i=>zI x.b (x.o+i*8) (m.aD i)]
def aI6 (G:Bg) (pm:Nat) (m:AM):HP:=vW fun x:AtA=>sp (Gu G pm m x)
theorem mq {pm:Nat} {m:AM} {b o cap c mb:Nat} {a:Option Addr} (e:Hs G h (ve pm m.cfg (.slice (some ⟨b,o,none⟩) m.cfg.aE.toNat cap) a m.dA.length c mb::dI 1 3 a c (m.dA.length,m.dA.map I)::fP G m.cfg.lines mb m.cfg m.mem::
  hole G 8 213 (some ⟨b,o,none⟩) cap m.cfg.aE.toNat b o::dK m.cfg.aE.toNat (fun i=>zI b (o+i*8) (m.aD i))::L)):Hs G h (aI6 G pm m::L):=
 Hs.Af (A:=fun x:AtA=>sp (Gu G pm m x)) ⟨b,o,cap,a,c,mb⟩ (Hs.pack (A:=Gu G pm m ⟨b,o,cap,a,c,mb⟩) e)
end
section
set_option maxRecDepth 100000
variable {G:Bg} {h:AH} {L L':List HP} {Q:Value->AH->Prop}
end
section
set_option maxRecDepth 100000
variable {G:Bg} {h:AH} {L L':List HP} {Q:Value->AH->Prop}
theorem aFo {n c:Nat} {a:Option Addr} {cs:List Value} (k:n<=100) (j:Hs G h L) [m:Has (dI 2 155 a c) L (n,cs) L'] (i:∀e f g,Hs G g (dI 2 155 e f (n,cs)::dI 2 155 a c (n,cs)::L')->Q (.slice e n f) g):Cl Pr K 179 [.slice a n c] h Q:=
 cW (B1 (bytes:=16) j (by omega) i)
theorem aDb {n c:Nat} {a:Option Addr} {cs:List Value} (k:n<=100) (j:Hs G h L) [m:Has (dI 3 297 a c) L (n,cs) L'] (i:∀e f g,Hs G g (dI 3 297 e f (n,cs)::dI 3 297 a c (n,cs)::L')->Q (.slice e n f) g):Cl Pr K 178 [.slice a n c] h Q:=
 cW (B1 (bytes:=40) j (by omega) i)
theorem aC7 {v:Value} {l:List (List Value)} {e:TypeId} (j:l.length<=100) (hc:l.flatten.all eJ=true) (i:Hs G h (zX G 1 e v l::L)) (g:∀a c f,Hs G f (dI 1 3 a c (l.length,l.flatten)::zX G 1 e v l::L)->Q (.slice a l.length c) f):Cl Pr K 94 [v] h Q:=
 cW (Mg (bytes:=8) i (by decide) rfl hc (by omega) g)
theorem aBf {v:Value} {l:List (List Value)} {e:TypeId} (j:l.length<=100) (hc:l.flatten.all eJ=true) (i:Hs G h (zX G 4 e v l::L)) (g:∀a c f,Hs G f (dI 4 86 a c (l.length,l.flatten)::zX G 4 e v l::L)->Q (.slice a l.length c) f):Cl Pr K 95 [v] h Q:=
 cW (Mg (bytes:=32) i (by decide) rfl hc (by omega) g)
def Hy (n B:Nat) (i:Nat) (x:BkA):List Value:=[I x.r,I x.w,.slice x.a (iI n B i) x.cap]
def nj (n B:Nat) (mem:Nat->Ln) (i:Nat) (x:BkA):HP:=dI 2 155 x.a x.cap (iI n B i,(List.range (iI n B i)).flatMap (Nw B i mem))
theorem Xj {n B p b o cap:Nat} {C:bM} {mem:Nat->Ln} {f:Nat->BkA} (hB:B<=4) (K:n<=32) (E:∀u,Hs G u (aG p 0 (C.enc++[.slice (some ⟨b,o,none⟩) B cap])::dK B (fun i=>gB n B b (o+i*3) i mem)::dK B (fun i=>nj n B mem i (f i))::L)->Q (pt p 0 0) u):
  ∀(r i:Nat) (h:AH) (_M:List HP),i+r=B->Hs G h (aG p 0 (C.enc++[.slice (some ⟨b,o,none⟩) B cap])::dK B (fun j=>if j<i then gB n B b (o+j*3) j mem else aG b (o+j*3) (Hy n B j (f j)))::dK B (fun i=>nj n B mem i (f i))::L)->
  Dd 137 2 [] Q [(pt p 0 0),(I B),(I i)] h:=by
 intro r
 induction r with
 |zero=>
  intro i h M A a
  obtain rfl:i=B:=by omega
  refine bW (aZ (aT (by omega) (E _ ?_)))
  have a:=a.front (dK i fun j=>if j<i then gB n i b (o+j*3) j mem else aG b (o+j*3) (Hy n i j (f j)))
  have a:=tF (g:=fun j=>gB n i b (o+j*3) j mem) (fun j D=>by rw[aLb D]) a
  exact a.dF (aG p 0 (C.enc++[.slice (some ⟨b,o,none⟩) i cap])) (dK i fun j=>gB n i b (o+j*3) j mem) (dK i fun j=>nj n i mem j (f j))
 |succ r J=>
  intro i h M A a
  have k:i<B:=by omega
  have z:=dk (n:=n) (B:=B) (i:=i) (by omega)
  refine bW (aZ (bV (by omega) (bW (bB a fun O h a=>?_))))
  have a:=(a.front (dK B fun j=>if j<i then gB n B b (o+j*3) j mem else aG b (o+j*3) (Hy n B j (f j)))).mW i k
  simp only[Nat.lt_irrefl,if_false] at a
  have a:=(a.front (dK B fun j=>nj n B mem j (f j))).mW i k
  refine aB (aA (aC (b:=p) (o:=0) a rfl (aB (aA (aC (b:=p) (o:=0) a rfl (dV k (aA (aC (b:=b) (o:=o+i*3) a rfl ?_))))))))
  have a:Hs G h (dI 2 155 (f i).a (f i).cap (iI n B i,(List.range (iI n B i)).flatMap (Nw B i mem))::_):=a
  refine aFo (by omega) a fun s t h a=>?_
  refine dV k (aA (bL (b:=b) (o:=o+i*3) a rfl rfl rfl rfl fun y q=>?_))
  refine cY dJ (cY (aB dJ) (cY (aA dJ) (cY (aC (b:=p) (o:=0) a rfl Ww) (cY jH (bQ (by omega) ?_)))))
  refine J (i+1) y [] (by omega) ?_
  have q:=q.sg (b:=b) (o:=o+i*3) (c:=[I (f i).r,I (f i).w,.slice s (iI n B i) t]) rfl
  have e:=qG (b:=b) (o:=o+i*3) (q.cX (aG b (o+i*3) [I (f i).r,I (f i).w,.slice s (iI n B i) t]) (dI 2 155 s t (iI n B i,(List.range (iI n B i)).flatMap (Nw B i mem))))
  have v:gB n B b (o+i*3) i mem=(fun j=>if j<i+1 then gB n B b (o+j*3) j mem else aG b (o+j*3) (Hy n B j (f j))) i:=by simp only[Nat.lt_succ_self,if_true]
  rw[v] at e
  have e:=e.qA (n:=B) (i:=i) (fun j=>if j<i then gB n B b (o+j*3) j mem else aG b (o+j*3) (Hy n B j (f j))) (fun j=>if j<i+1 then gB n B b (o+j*3) j mem else aG b (o+j*3) (Hy n B j (f j))) k (fun j _ F=>by
   have:(j<i+1)=(j<i):=propext ⟨fun h=>by omega,fun h=>by omega⟩;simp only[this])
  have w:(dI 2 155 (f i).a (f i).cap (iI n B i,(List.range (iI n B i)).flatMap (Nw B i mem)))=(fun j=>nj n B mem j (f j)) i:=rfl
  rw[w] at e
  have e:=e.qA (n:=B) (i:=i) (fun j=>nj n B mem j (f j)) (fun j=>nj n B mem j (f j)) k (fun _ _ _=>rfl)
  exact e.to
theorem Xs {C:bM} (hC:C.Ok) {mb:Nat} {mem:Nat->Ln} (a:Hs G h L) [m:Has (fP G C.lines mb C) L mem L'] (u:∀q t,Hs G t (fP G C.lines q C mem::fP G C.lines mb C mem::L')->Q (pt q 0 0) t):Cl Pr K 137 [pt mb 0 0] h Q:=by
 have hb:=bM.bk hC;have s:=bM.gK hC;obtain⟨b,o,cap,a⟩:=wF (m.of a);refine cW (dG (bZ (bW (bB a fun w h a=>?_))));have k:Hs G h (dK C.aN.toNat (fun i=>vW fun x=>sp [aG b (o+i*3) (Hy C.lines C.aN.toNat i x),nj C.lines C.aN.toNat mem i x])::hole G 3 297 (some ⟨b,o,none⟩) cap C.aN.toNat b o::_):=a.cX (dK C.aN.toNat fun i=>gB C.lines C.aN.toNat b (o+i*3) i mem) (hole G 3 297 (some ⟨b,o,none⟩) cap C.aN.toNat b o);obtain⟨f,a⟩:=Hs.fc (W:=3) (c:=Hy C.lines C.aN.toNat) (d:=nj C.lines C.aN.toNat mem) (⟨0,0,none,0⟩:BkA) (fun _ _=>rfl) (fun _ _=>rfl) (by decide) hb.2.1 k;clear k;refine aB (aA (aU (b:=mb) (o:=0) a (by decide) (l:=C.enc) rfl rfl (aB (aA (aC (b:=mb) (o:=0) a rfl ?_)))));refine aDb (by omega) a fun v j h a=>?_;obtain⟨e,g,rfl,a⟩:=Hs.Yi (W:=3) (c:=fun i=>Hy C.lines C.aN.toNat i (f i)) (fun _=>rfl) hb.2.1 a;refine aQ (c:=C.enc++[.slice (some ⟨e,g,none⟩) C.aN.toNat j]) rfl (Am a rfl rfl fun p h a=>?_);refine cY dJ (cY (aB dJ) (cY (aA dJ) (cY (aU (b:=mb) (o:=0) a (by decide) (l:=C.enc) rfl rfl (qV (by simp[bM.enc,jH]))) ?_)));refine aB (aA (aC (b:=p) (o:=0) a rfl (cC ?_)));have a:=a.dF (aG p 0 (C.enc++[.slice (some ⟨e,g,none⟩) C.aN.toNat j])) (dK C.aN.toNat fun i=>aG e (g+i*3) (Hy C.lines C.aN.toNat i (f i))) (dK C.aN.toNat fun i=>nj C.lines C.aN.toNat mem i (f i));have a:=(a.mK).dF (aG p 0 (C.enc++[.slice (some ⟨e,g,none⟩) C.aN.toNat j])) (dK C.aN.toNat fun i=>aG e (g+i*3) (Hy C.lines C.aN.toNat i (f i))) (dK C.aN.toNat fun i=>nj C.lines C.aN.toNat mem i (f i));refine Xj (n:=C.lines) (B:=C.aN.toNat) (b:=e) (o:=g) (cap:=j) (C:=C) (mem:=mem) (f:=f) hb.2.2 s.2.2 ?_ C.aN.toNat 0 h [] (by omega) (by simpa using a);intro h a;refine u p _ ?_;have a:=tC (b:=e) (o:=g) (cap:=j) (a.dF (aG p 0 (C.enc++[.slice (some ⟨e,g,none⟩) C.aN.toNat j])) (hole G 3 297 (some ⟨e,g,none⟩) j C.aN.toNat e g) (dK C.aN.toNat fun i=>gB C.lines C.aN.toNat e (g+i*3) i mem));have a:=a.cX (dI 3 297 (some ⟨b,o,none⟩) cap (C.aN.toNat,(List.range C.aN.toNat).flatMap fun i=>Hy C.lines C.aN.toNat i (f i))) (dK C.aN.toNat fun i=>nj C.lines C.aN.toNat mem i (f i));have a:Hs G h (dK C.aN.toNat (fun i=>gB C.lines C.aN.toNat b (o+i*3) i mem)::hole G 3 297 (some ⟨b,o,none⟩) cap C.aN.toNat b o::_):=Hs.uv (W:=3) (c:=Hy C.lines C.aN.toNat) (d:=nj C.lines C.aN.toNat mem) f (fun _ _=>rfl) hb.2.1 a;have a:=tC (b:=b) (o:=o) (cap:=cap) (a.dF (aG mb 0 (C.enc++[.slice (some ⟨b,o,none⟩) C.aN.toNat cap])) (hole G 3 297 (some ⟨b,o,none⟩) cap C.aN.toNat b o) (dK C.aN.toNat fun i=>gB C.lines C.aN.toNat b (o+i*3) i mem));exact a.to
end
section
set_option maxRecDepth 100000
variable {G:Bg} {h:AH} {L L':List HP} {Q:Value->AH->Prop}
end
section
set_option maxRecDepth 100000
variable {G:Bg} {h:AH} {L L':List HP} {Q:Value->AH->Prop}
def yT (l:List Int):List (List Value):=l.map fun x=>[I x]
theorem rD (l:List Int):(yT l).length=l.length:=by simp[yT]
theorem wK (l:List Int):(yT l).flatten=l.map I:=by
 unfold yT;induction l with
 |nil=>rfl
 |cons x l a=>rw[List.map_cons,List.flatten_cons,a];rfl
theorem Lw (l:List Int):(l.map I).all eJ=true:=by
 induction l with
 |nil=>rfl
 |cons x l a=>rw[List.map_cons,List.all_cons,a];rfl
def V6 (p:List Ins):List (List Value):=p.map Ins.enc
theorem Mt (p:List Ins):(V6 p).length=p.length:=by simp[V6]
theorem O0 (p:List Ins):(V6 p).flatten=Al p:=by
 unfold V6 Al;rw[List.flatMap_def]
theorem Y9 (p:List Ins):(Al p).all eJ=true:=by
 unfold Al;induction p with
 |nil=>rfl
 |cons x l a=>rw[List.flatMap_cons,List.all_append,a];rfl
def I0 (G:Bg) (v:Value) (l:List Int):Prop:=uU G 1 v (yT l).length (fun i=>(yT l).getD i [])
def Vd (G:Bg) (v:Value) (p:List Ins):Prop:=uU G 4 v (V6 p).length (fun i=>(V6 p).getD i [])
structure jd (G:Bg) (pv wv ov vv:Value) (ps:List (List Ins)) (ws os vs:List Int):Prop where
 ps:∃vi:List Value,vi.length=ps.length/\uU G 1 pv (vi.map fun x=>[x]).length (fun i=>(vi.map fun x=>[x]).getD i [])/\∀(i:Nat) (v:Value) (p:List Ins),vi[i]?=some v->ps[i]?=some p->Vd G v p
 ws:I0 G wv ws
 os:I0 G ov os
 vs:I0 G vv vs
theorem oQ {v:Value} {l:List Int} (a:I0 G v l) (c:Hs G h L):Hs G h (zX G 1 3 v (yT l)::L):=Ak (by simp[yT]) a c
theorem I9 {v:Value} {p:List Ins} (a:Vd G v p) (c:Hs G h L):Hs G h (zX G 4 86 v (V6 p)::L):=Ak (by simp[V6,Ins.enc]) a c
theorem sY {W n:Nat} {v:Value} {at':Nat->List Value} {k:Value->Prop} (f:uU G W v n at') (e:k (I n)):bE (lJ v) k:=by
 obtain⟨a,c,rfl,_⟩:=f;exact cC e
theorem bf {_C:bM} {s:Value} {t2 t3 t4 t5:Value} {q:List Value} {ps:List (List Ins)} (J:q.length=ps.length) (z:uU G 1 s (q.map fun x=>[x]).length (fun i=>(q.map fun x=>[x]).getD i []))
  (w:∀(i:Nat) (v:Value) (p:List Ins),q[i]?=some v->ps[i]?=some p->Vd G v p) (u:Ob G 1 wR) (F:ps.length<=1000)
  (D:uC ps≠0->∀j,Hs G j L->Q (.tuple ⟨[.pointer none,I (uC ps)]⟩) j) (E:uC ps=0->∀j,Hs G j L->Dd 32 5 [] Q [s,t2,t3,t4,t5] j):
  ∀(f i:Nat) (h:AH),i+f=ps.length->uC ps=uC (ps.drop i)->Hs G h L->Dd 32 3 [] Q [s,t2,t3,t4,t5,s,(I ps.length),(I i)] h:=by
 intro f
 induction f with
 |zero=>
  intro i h y a g
  rw[List.drop_of_length_le (by omega)] at a
  exact bW (aZ (aT (by omega) (E a _ g)))
 |succ f B=>
  intro i h y a g
  obtain⟨p,A,t⟩:=oD (l:=ps) (i:=i) (by omega)
  obtain⟨v,k,_⟩:=oD (l:=q) (i:=i) (by omega)
  rw[t,uC] at a
  have g:=Ak (e:=3) (by simp) z g
  refine bW (aZ (bV (by omega) (bW (vZ g (x:=[v]) (by simp[k]) rfl (E8 (p:=p) u (I9 (w i v p k A) g.tail) fun h g=>aH rfl (aH rfl (bC (aX (fun c=>?_) (fun c=>?_)))))))))
  .rw[aLb c] at a;rw[<-a];exact D (by rw[a];exact c) _ g.tail
  .rw[aLa c] at a;exact bW (bQ (by omega) (B (i+1) h (by omega) a g.tail))
theorem Zf {C:bM} (hC:C.Ok) {t1 t2 t3 t5 vv:Value} {mb:Nat} {vs:List Int} (t:I0 G vv vs) (q:Ob G 0 fV) (w:vs.length=C.lines*2)
  (k:∀e,Hs G e (fP G C.lines mb C (words nE vs 0)::L)->Dd 32 11 [] Q [t1,t2,t3,t5,(pt mb 0 0)] e):
  ∀(f i:Nat) (mem:Nat->Ln) (h:AH),i+f=vs.length->words nE vs 0=words mem (vs.drop i) i->Hs G h (fP G C.lines mb C mem::L)->Dd 32 9 [] Q [t1,t2,t3,t5,(pt mb 0 0),vv,(I vs.length),(I i)] h:=by
 have s:=bM.gK hC
 intro f
 induction f with
 |zero=>
  intro i mem h j c a
  rw[List.drop_of_length_le (by omega),words] at c
  rw[c] at k
  exact bW (aZ (aT (by omega) (k _ a)))
 |succ f v=>
  intro i mem h j c a
  obtain⟨x,u,g⟩:=oD (l:=vs) (i:=i) (by omega)
  rw[g,words] at c
  have a:=oQ t a
  refine bW (aZ (bV (by omega) (bW (vZ a (x:=[I x]) (by simp[yT,u]) rfl (G4 hC q a.tail (by omega) fun h a=>bC (aT (by omega) (bW (bQ (by omega) (v (i+1) _ h (by omega) c a)))))))))
end
end Go.Proofs.YtajjljbmfdboaaaGreatDoor.A
namespace Go.Proofs.YtajjljbmfdboaaaGreatDoor.H
open Go Go.Ab Go.Hm
section
set_option maxRecDepth 100000
variable {G:Bg} {h:AH} {L L':List HP}
section
variable {hb p mb b o cap l:Nat} {C:bM} {H:kN} {n:aJ} {r:Row} {m:Ln} {Q:Value->AH->Prop}
theorem uc (hC:C.Ok) (e:Ob G 0 fV) (t:l<C.lines) (j:n.line=l) (hc:0<=r.served.core/\r.served.core<4) (a:Hs G h (rP G hb p mb b o cap l C H n r m++L))
  (i:∀v s,Hs G s (eT v ((r.lG n).rest l m).2::gP G hb C (aR H l (((r.lG n).rest l m).1,m))::L)->Q v s):Dd 253 8 [] Q [(pt hb 0 0),(pt p 0 0),(pt b (o+l*25) 0)] h:=by
 simp only[rP,List.cons_append,List.nil_append] at a
 obtain⟨wa,wc,a⟩:=dZ a
 refine bW (bB a ?_)
 intro u h a
 refine aA (aU a (by decide) (l:=[I n.d0,I n.d1]) rfl rfl (aB (aA (bL a rfl rfl rfl rfl ?_))))
 intro h a
 have q:=a
 refine aB (aA (bL a rfl rfl rfl rfl ?_))
 intro h a
 refine cY dJ (cY (aA dJ) (cY (aU q (by decide) (l:=[I n.d0,I n.d1]) rfl rfl (qV (by simp[oI]))) ?_))
 have a:=eG b (o+l*25) (r.lG n) wa wc a rfl rfl rfl
 have a:Hs G h (rP G hb p mb b o cap l C H n (r.lG n) m++L):=by
  simp only[rP,List.cons_append,List.nil_append];exact a.to
 have g:=a
 simp only[rP,List.cons_append,List.nil_append] at a
 have k:=a
 obtain⟨wa,wc,a⟩:=dZ a
 refine(aB (aA (aU a (by decide) (l:=[.bool (r.asked 0),.bool (r.asked 1),.bool (r.asked 2),.bool (r.asked 3)]) rfl rfl (aQ (c:=[.bool false,.bool false,.bool false,.bool false]) rfl (uy (dH (fun f=>?_) (fun f=>?_)))))))
 .have f:(r.lG n).quiet=false:=by unfold Row.quiet;rw[show(r.lG n).asked=r.asked from rfl,f];rfl
  simp only[Row.rest,f,Bool.false_eq_true,if_false] at i
  exact i _ _ (qQ (eU hb C H l (r.lG n) m _ mb b o cap t rfl k)).to
 .exact Z3 (r:=r.lG n) hC e t j hc (by unfold Row.quiet;rw[show(r.lG n).asked=r.asked from rfl,f];rfl) g i
end
theorem xj {C:bM} (hC:C.Ok) {hb l:Nat} {H:kN} {n:aJ} {Q:Value->AH->Prop} (f:Ob G 0 fV) (a:Hs G h L) [m:Has (gP G hb C) L H L'] (q:l<C.lines) (j:n.line=l) (k:0<=n.core/\n.core<4) (hc:0<=(H l).1.served.core/\(H l).1.served.core<4)
  (g:∀v E,Hs G E (eT v (lX.nJ (H l) l n).2::gP G hb C (aR H l (lX.nJ (H l) l n).1)::L')->Q v E):
  Cl Pr K 253 [pt hb 0 0,.agg ⟨n.enc⟩] h Q:=by
 have a:=m.of a
 simp only[lX.nJ] at g
 refine cW (dS a ?_)
 intro p h a
 refine bB a ?_
 intro J h a
 obtain⟨mb,b,o,cap,a⟩:=Gr q (a.front (gP G hb C H))
 obtain⟨wa,wc,a⟩:=dZ a
 refine aB (aA (aC a rfl (aA (aC a rfl ?_))))
 rw[j]
 refine dV q (bB a ?_)
 intro I h a
 refine aA (aC a rfl (aB (aA (fU k.1 k.2 (aFt (H l).1 a rfl k ?_)))))
 intro h a
 have i:=eG b (o+l*25) ((H l).1.eZ n) wa wc a rfl rfl rfl
 refine aB (aA (aA (aC a rfl (bC (aX (fun w=>bW ?_) (fun w=>bW ?_))))))
 .simp only[Row.heard,aLb w] at g;unfold Row.vK at g;refine aA (aC i rfl (F1 i k fun h a=>?_));refine aA (aC a rfl (dH (fun s=>bW ?_) (fun s=>?_)))
  .rw[aLb ⟨w,s⟩] at g;refine bB a ?_;intro D h a;refine aB (aA (aC a rfl (aA (aC a rfl ?_))));rw[j];refine aA (aU a (by decide) (l:=Nu (n.d0,n.d1)) rfl rfl (Gq hC f a q fun h a=>?_));generalize A:((H l).1.eZ n).leave n.core=r2 at a g;have u:0<=r2.served.core/\r2.served.core<4:=by rw[<-A];exact hc
   have a:Hs G h (rP G hb p mb b o cap l C H n r2 (n.d0,n.d1)++L'):=by
    simp only[rP,List.cons_append,List.nil_append];exact a.to
   have z:=a
   simp only[rP,List.cons_append,List.nil_append] at a
   have i:=a
   obtain⟨wa,wc,a⟩:=dZ a
   refine(aB (aA (aU a (by decide) (l:=[.bool (r2.asked 0),.bool (r2.asked 1),.bool (r2.asked 2),.bool (r2.asked 3)]) rfl rfl (aQ (c:=[.bool false,.bool false,.bool false,.bool false]) rfl (uy (dH (fun y=>?_) (fun y=>?_)))))))
   .have y:r2.quiet=false:=by unfold Row.quiet;rw[y];rfl
    simp only[Row.rest,y,Bool.false_eq_true,if_false] at g
    exact g _ _ (qQ (eU hb C H l r2 (n.d0,n.d1) _ mb b o cap q rfl i)).to
   .exact Z3 hC f q j u (by unfold Row.quiet;rw[y];rfl) z g
  .rw[aLa (by rw[s];simp)] at g;generalize A:((H l).1.eZ n).leave n.core=r2 at a g;have u:0<=r2.served.core/\r2.served.core<4:=by rw[<-A];exact hc
   refine X0 hC f q j u (m:=(H l).2) (H:=H) (mb:=mb) (b:=b) (o:=o) (cap:=cap) (L:=L') ?_ g
   simp only[rP,List.cons_append,List.nil_append,fC]
   exact a.to
 .have F:(H l).1.vK (H l).2 n=(H l).2:=by unfold Row.vK;rw[aLa (fun e=>w e.1)]
  simp only[Row.heard,aLa w,F] at g
  refine aA (aC a rfl (bC (aX (fun s=>bW ?_) (fun s=>bW ?_))))
  .simp only[aLb s] at g;refine aB (aA (bL a rfl rfl rfl rfl ?_));intro h a;refine bB a ?_;intro D h a;refine aA (aC a rfl (aA (aC a rfl (vj ?_))));have B:=a;refine aB (aA (fU k.1 k.2 (X2 {(H l).1.eZ n with owner:= -1} a rfl k ?_)));intro h a;refine cY dJ (cY (aA dJ) (cY (aC B rfl jH) (cY (aB dJ) (cY (aA dJ) ?_))));have i:=eG b (o+l*25) (((H l).1.eZ n).Dq n) wa wc a rfl rfl rfl;refine aA (aC a rfl (dH (fun t=>?_) (fun t=>?_)))
   .simp only[t,if_true] at g;refine uc (r:=((H l).1.eZ n).Dq n) hC f q j hc (m:=(H l).2) (H:=H) (mb:=mb) (b:=b) (o:=o) (cap:=cap) (L:=L') ?_ g;simp only[rP,List.cons_append,List.nil_append,fC];exact i.to
   .simp only[t,Bool.false_eq_true,if_false] at g;refine X0 (r:=((H l).1.eZ n).Dq n) hC f q j hc (m:=(H l).2) (H:=H) (mb:=mb) (b:=b) (o:=o) (cap:=cap) (L:=L') ?_ g;simp only[rP,List.cons_append,List.nil_append,fC];exact i.to
  .simp only[aLa s] at g;refine aA (aC a rfl (dH (fun t=>?_) (fun t=>?_)))
   .simp only[t,if_true] at g;refine uc (r:=(H l).1.eZ n) hC f q j hc (m:=(H l).2) (H:=H) (mb:=mb) (b:=b) (o:=o) (cap:=cap) (L:=L') ?_ g;simp only[rP,List.cons_append,List.nil_append,fC];exact i.to
   .simp only[t,Bool.false_eq_true,if_false] at g;refine X0 (r:=(H l).1.eZ n) hC f q j hc (m:=(H l).2) (H:=H) (mb:=mb) (b:=b) (o:=o) (cap:=cap) (L:=L') ?_ g;simp only[rP,List.cons_append,List.nil_append,fC];exact i.to
end
section
set_option maxRecDepth 100000
variable {G:Bg} {h:AH} {L L':List HP}
theorem O6 {b o:Nat} {line state x:Int} {r:Row} {Q:Value->AH->Prop} (a:Hs G h L) [m:Has (eR b o) L r L'] (e:∀v c,Hs G c (eT v (eF line state (r.gA x))::eR b o (r.iA (r.gA x))::L')->Q v c):
  Cl Pr K 223 [pt b o 0,I x] h fun v c=>Cl Pr K 222 [pt b o 0,I line,I state,v] c Q:=by
 refine Z9 (m.of a) fun p q h a=>?_
 have a:=K2 (a.front (eR b o r))
 refine Fk (G:=G) (r:=r) (A:=Fz b o p q x r) (L:=L') jy Z6 uW (by kernel_rfl) ?_ fun v h a=>e v h ?_
 .simp only[Fz];exact a.to
 .have a:=a.mK.unpack;have a:Hs G h (o9 b o r::Lz b o (r.iA (r.gA x))::eT v (eF line state (r.gA x))::L'):=a.to;exact(Pn (r:=r.iA (r.gA x)) a).mK
theorem nu {b o:Nat} {line state:Int} {e:TypeId} {a:Option Addr} {c:Nat} {r:Row} {x:Int} {cs:List Value} {Q:Value->AH->Prop} (q:0<=x/\x<4) (f:Hs G h L) [m:Has (dI 1 e a c) L (1,cs) L'] (i:cs=[I x]) {M:List HP} [t:Has (eR b o) L' r M] (k:∀v g,Hs G g (eT v (eF line state [x.toNat])::eR b o (r.iA [x.toNat])::M)->Q v g):
  Cl Pr K 118 [.slice a 1 c] h fun v g=>Cl Pr K 222 [pt b o 0,I line,I state,v] g Q:=by
 subst i
 have f:Hs G h (dI 1 e a c (1,[x].map I)::eR b o r::M):=f.perm (m.perm.trans (t.perm.cons _))
 refine Qi (e:=e) (xs:=[x]) rfl f fun p h f=>?_
 have f:=K2 (f.front (eR b o r))
 have s:xi Pr K G 166 [] [pt p 0 0] (Ny e p a c [x]) ([x.toNat].map fun(c:Nat)=>[I c]):=by
  have:=Gd (G:=G) (e:=e) (p:=p) (a:=a) (c:=c) (xs:=[x]) (by simp);simp only[List.map_cons,List.map_nil,Int.toNat_of_nonneg q.1] at this ⊢;exact this
 refine Fk (G:=G) (r:=r) (A:=Ny e p a c [x]) (L:=o9 b o r::M) s (fun c j=>by simp at j;omega) (by simp) (by kernel_rfl) ?_ fun v h f=>k v h ?_
 .exact f.to
 .have f:Hs G h (o9 b o r::Lz b o (r.iA [x.toNat])::eT v (eF line state [x.toNat])::M):=f.to;exact(Pn (r:=r.iA [x.toNat]) f).mK
end
section
set_option maxRecDepth 100000
variable {G:Bg} {h:AH} {L L':List HP}
set_option maxHeartbeats 2000000 in
theorem Hz {C:bM} (hC:C.Ok) {hb l:Nat} {H:kN} {n:aJ} {world:Int} {Q:Value->AH->Prop} (y:Ob G 0 fV) (f:Hs G h L) [m:Has (gP G hb C) L H L'] (w:l<C.lines) (D:0<=n.core/\n.core<4) (t: -1<=(H l).1.owner/\(H l).1.owner<4)
  (g:∀v u,Hs G u (eT v ((H l).1.get l (H l).2 n world).2::gP G hb C (aR H l (((H l).1.get l (H l).2 n world).1,(H l).2))::L')->Q v u):
  Cl Pr K 220 [pt hb 0 0,I l,I world,.agg ⟨n.enc⟩] h Q:=by
 have f:=m.of f
 simp only[Row.get] at g
 refine cW (dS f ?_)
 intro p h f
 obtain⟨mb,b,o,cap,f⟩:=Gr w (f.front (gP G hb C H))
 obtain⟨wa,wc,f⟩:=dZ f
 refine aB (aA (aC f rfl (dV w (bB f ?_))))
 intro P h f
 refine aU f (by decide) (l:=n.enc) rfl rfl (aB (aA (bL f rfl rfl rfl rfl ?_)))
 intro h f
 have E:=f
 refine aB (aA (bL f rfl rfl rfl rfl ?_))
 intro h f
 refine aB (aA (bL f rfl rfl rfl rfl ?_))
 intro h f
 refine cY dJ (cY dJ (cY dJ (cY (aU E (by decide) (l:=n.enc) rfl rfl (qV (by simp[oI,aJ.enc]))) (cY jH (cY jH ?_)))))
 refine aA (aC f rfl (bJ ?_))
 have f:=eG b (o+l*25) ((H l).1.serve n world) wa wc f rfl rfl rfl
 have j:((H l).1.serve n world).served.core=n.core:=rfl
 have t: -1<=((H l).1.serve n world).owner/\((H l).1.serve n world).owner<4:=t
 generalize O:(H l).1.serve n world=r at f g j t
 have eE:∀(k:Row),k.served.core=n.core->∀h,Hs G h (eR b (o+l*25) k::aG hb 0 (mM mb C b o cap)::fP G C.lines mb C (fun i=>(H i).2)::hole G 25 247 (some ⟨b,o,none⟩) cap C.lines b o::A4 b o C.lines H l::L')->
   (∀v u,Hs G u (eT v (k.eE l (k.tJ (H l).2)).2::gP G hb C (aR H l ((k.eE l (k.tJ (H l).2)).1,(H l).2))::L')->Q v u)->Cl Pr K 271 [pt hb 0 0,I l] h Q:=fun k B h f g=>by
  have f:=eU hb C H l k (H l).2 _ mb b o cap w fC.symm f
  refine Fh hC y f w (by simp only[dC,B];exact D) fun v h f=>g _ _ ?_
  simp only[dC,tN] at f
  exact f.to
 have q:∀(k:Row) (N:List aJ) v h,Hs G h (eT v N::eR b (o+l*25) k::aG hb 0 (mM mb C b o cap)::fP G C.lines mb C (fun i=>(H i).2)::hole G 25 247 (some ⟨b,o,none⟩) cap C.lines b o::A4 b o C.lines H l::L')->Hs G h (eT v N::gP G hb C (aR H l (k,(H l).2))::L'):=fun k N v h f=>
  (eU hb C H l k (H l).2 _ mb b o cap w fC.symm f).to
 refine aX (fun z=>?_) (fun z=>?_)
 .simp only[aLb z,Row.getM,j] at g;refine bW (aA (aC f rfl (wM f fun f=>bC (aX (fun s=>?_) (fun s=>?_)))))
  .rw[aLb s] at g;refine aA (aC f rfl (O6 f fun v h f=>g _ _ ?_));exact q _ _ _ _ f.to
  .rw[aLa s] at g;exact eE r j _ f.to g
 .simp only[aLa z,Row.Wb] at g;refine bW (bB f ?_);intro J h f;obtain⟨wa,wc,f⟩:=dZ (f.front (eR b (o+l*25) r));refine aB (aA (aC f rfl (aA (aC f rfl (bJ (aX (fun s=>bW ?_) (fun s=>bW ?_)))))))
  .have F:r.nZ={r with owner:= -1}:=by unfold Row.nZ;rw[aLb (by rw[j];exact s)]
   rw[F] at g
   simp only[ne_eq,not_true_eq_false,if_false] at g
   refine aB (aA (bL f rfl rfl rfl rfl ?_))
   intro h f
   refine aB (aA (aC f rfl (bC (aT (by simp) ?_))))
   have f:=eG b (o+l*25) {r with owner:= -1} wa wc f rfl rfl rfl
   exact eE {r with owner:= -1} j _ f.to g
  .have F:r.nZ=r:=by unfold Row.nZ;rw[aLa (by rw[j];exact s)]
   rw[F] at g
   refine aB (aA (aC f rfl (bC (aX (fun A=>?_) (fun A=>?_)))))
   .rw[aLb A] at g;refine aB (aA (aC f rfl (aQ (c:=[I r.owner]) rfl (dW f rfl rfl rfl ?_))));intro a h f;have f:=eG b (o+l*25) r wa wc f rfl rfl rfl;refine nu (e:=3) (by omega) f rfl fun v h f=>g _ _ ?_;exact q _ _ _ _ f.to
   .rw[aLa A] at g;have f:=eG b (o+l*25) r wa wc f rfl rfl rfl;exact eE r j _ f.to g
end
end Go.Proofs.YtajjljbmfdboaaaGreatDoor.H
end
