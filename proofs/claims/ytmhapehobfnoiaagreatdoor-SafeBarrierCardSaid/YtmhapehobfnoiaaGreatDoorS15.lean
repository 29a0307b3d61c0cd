/- A part of the proof. -/
import Derived.Test.YtmhapehobfnoiaaGreatDoorS14
import Derived.Test.YtmhapehobfnoiaaGreatDoorS10
import Derived.Test.YtmhapehobfnoiaaGreatDoorS11
section
open Go Go.Ab
attribute [local irreducible] bG Br ld1 uF uG B4 mA uX lK P3 hQ mY qG pZ pS lH zE uE Uh Ty Oa Mr Rk Ol Md Ny Rn lN oT sF iV copyV iJ wV Tu U3 Gk kX Mb Qq Sb nL rR xM zA Cl zB Ro sM sC jS fL setLoop cH
namespace Go.Proofs.YtmhapehobfnoiaaGreatDoor
open Go Go.Ab Go.Hm Go.At Go.Mc Go.Ct Go.Nt Go.Is
section
abbrev zG (a1:Option Addr) (b a:Nat) (a2:Option Addr) (d c2:Nat) (a3:Option Addr) (e c3:Nat) (a4:Option Addr) (n4 c4:Nat) (a5:Option Addr) (n5 c5:Nat):List Value:=[.slice a1 b a,.slice a2 d c2,.slice a3 e c3,.slice a4 n4 c4,.slice a5 n5 c5]
abbrev xU (a:Option Addr) (c:Nat) (l:List (Nat×Th)):HP:=ls cpE 6 70 a c l
abbrev Bz (a:Option Addr) (c:Nat) (l:List (Nat×(Int×Int))):HP:=ls z8 3 72 a c l
set_option maxRecDepth 100000
variable {G:Bg} {h:AH} {L L':List HP} {Q:Value->AH->Prop} {Cf:bN} {m:Nat} {M:cU}
abbrev caX (b f i d l:Nat) (e:Nat->Value) (pre:List (Nat×Th)) (a2:Option Addr) (a c2:Nat) (done:List Th):HP:=sB fun z:Option Addr×Nat=>sp [gF Pr 16 (gI 62666) 123 e d l (.ready,none),aE b 0 (zG z.1 (pre++tag i done).length z.2 a2 a c2 none 0 0 none 0 0 none 0 0),aE f 0 [I i],xU z.1 z.2 (pre++tag i done)]
abbrev chX (f g i d l:Nat) (e:Nat->Value) (pre:List (Nat×(Int×Int))) (a1:Option Addr) (b a:Nat) (done:List (Int×Int)):HP:=sB fun z:Option Addr×Nat=>sp [gF Pr 16 (gI 62670) 123 e d l (.ready,none),aE f 0 (zG a1 b a z.1 (pre++tag i done).length z.2 none 0 0 none 0 0 none 0 0),aE g 0 [I i],Bz z.1 z.2 (pre++tag i done)]
theorem qg {w g j i d l p k c2:Nat} {a1 a2:Option Addr} {e:Nat->Value} {T:List Th} {pre:List (Nat×Th)} {v5 v6:Value} {R:Value->AH->Prop} (P:T.length<=32) (F:pre.length<=200)
  (H:List.map e [3,4,36,37]=[pt g 0 0,pt j 0 0,v5,v6])
  (f:Hs G h (C.Xh w T::gF Pr 16 (gI 62666) 123 e d l (.ready,none)::aE g 0 (zG a1 pre.length p a2 k c2 none 0 0 none 0 0 none 0 0)::aE j 0 [I i]::xU a1 p pre::L))
  (O:∀v a c D,Hs G D (gF Pr 16 (gI 62666) 123 e d l (.ready,none)::aE g 0 (zG a (pre++tag i T).length c a2 k c2 none 0 0 none 0 0 none 0 0)::aE j 0 [I i]::xU a c (pre++tag i T)::L)->R v D):
  Cl Pr K 107 [.func (.yield l) #[] #[],pt w 0 0] h R:=by
 have f:Hs G h (C.Xh w T::caX g j i d l e pre a2 k c2 []::L):=by
  have f:=f.fX (gF Pr 16 (gI 62666) 123 e d l (.ready,none)) (aE g 0 (zG a1 pre.length p a2 k c2 none 0 0 none 0 0 none 0 0)) (aE j 0 [I i]) (xU a1 p pre);rw[show pre=pre++tag i ([]:List Th) by simp[tag]] at f;have f:=Hs.qU (A:=fun z:Option Addr×Nat=>sp [gF Pr 16 (gI 62666) 123 e d l (.ready,none),aE g 0 (zG z.1 (pre++tag i ([]:List Th)).length z.2 a2 k c2 none 0 0 none 0 0 none 0 0),aE j 0 [I i],xU z.1 z.2 (pre++tag i ([]:List Th))]) (a1,p) f.El;exact f.to
 refine(C.aGt (q:=w) (l:=T) (by omega)).fold (X:=caX g j i d l e pre a2 k c2) (Z:=fun _ _=>tX False) f ?_ ?_ ?_
 .intro done y h N E f;have B:=E.length_le;rw[List.length_append,List.length_singleton] at B;obtain⟨⟨a,c⟩,f⟩:=f.tW;have f:=f.Vg;refine rW (oW f) H (bM f fun q h f=>ax (b:=q) f fun h f=>fU f fun h f=>aA (am g f rfl (am j f rfl (aA (am q f rfl (aA (am q f rfl (aA (an q f (l:=oG y.2.d) rfl rfl ?_)))))))));refine aN (c:=cpE (i,y)) rfl (aN (c:=cpE (i,y)) rfl (dK (W:=6) (n:=1) (c:=1) f rfl rfl rfl fun a3 h f=>?_));have f:=nX (enc:=cpE) (x:=((i,y):Nat×Th)) f;refine kL (bytes:=48) (e:=70) (enc:=cpE) (l:=pre++tag i done) (l2:=[(i,y)]) (a:=a) (c:=c) (a2:=some a3) (c2:=1) (f.cC (xU a c (pre++tag i done)) (xU (some a3) 1 [(i,y)])) (by rw[List.length_append,Hx,List.length_singleton];omega) fun t u h f=>?_;rw[List.append_assoc,<-Yo] at f ⊢;refine aA (ay (b:=g) (o:=0) f fun h f=>?_);have f:Hs G h (aE g 0 (zG t (pre++tag i (done++[y])).length u a2 k c2 none 0 0 none 0 0 none 0 0)::_):=f;refine gM f fun h f=> .inl ⟨rfl,?_⟩;have f:=(f.fX (gF Pr 16 (gI 62666) 123 e d l (.ready,none)) (aE g 0 (zG t (pre++tag i (done++[y])).length u a2 k c2 none 0 0 none 0 0 none 0 0)) (aE j 0 [I i]) (xU t u (pre++tag i (done++[y])))).El;exact(Hs.qU (A:=fun z:Option Addr×Nat=>sp [gF Pr 16 (gI 62666) 123 e d l (.ready,none),aE g 0 (zG z.1 (pre++tag i (done++[y])).length z.2 a2 k c2 none 0 0 none 0 0 none 0 0),aE j 0 [I i],xU z.1 z.2 (pre++tag i (done++[y]))]) (t,u) f).to
 .intro v h f;obtain⟨⟨a,c⟩,f⟩:=(f.front (caX g j i d l e pre a2 k c2 T)).tW;exact O v a c h f.Vg.to
 .intro done y v h E f;obtain⟨J,f⟩:=(f.front (tX False)).Vd;exact J.elim
theorem mo {q g j i d l p k c2:Nat} {a1 a2:Option Addr} {e:Nat->Value} {T:List (Int×Int)} {pre:List (Nat×(Int×Int))} {v5 v6:Value} {R:Value->AH->Prop} (O:T.length<=100) (E:pre.length<=1000)
  (F:List.map e [3,4,60,61]=[pt g 0 0,pt j 0 0,v5,v6])
  (f:Hs G h (Cr q T::gF Pr 16 (gI 62670) 123 e d l (.ready,none)::aE g 0 (zG a1 p k a2 pre.length c2 none 0 0 none 0 0 none 0 0)::aE j 0 [I i]::Bz a2 c2 pre::L))
  (J:∀v a c B,Hs G B (gF Pr 16 (gI 62670) 123 e d l (.ready,none)::aE g 0 (zG a1 p k a (pre++tag i T).length c none 0 0 none 0 0 none 0 0)::aE j 0 [I i]::Bz a c (pre++tag i T)::L)->R v B):
  Cl Pr K 109 [.func (.yield l) #[] #[],pt q 0 0] h R:=by
 have f:Hs G h (Cr q T::chX g j i d l e pre a1 p k []::L):=by
  have f:=f.fX (gF Pr 16 (gI 62670) 123 e d l (.ready,none)) (aE g 0 (zG a1 p k a2 pre.length c2 none 0 0 none 0 0 none 0 0)) (aE j 0 [I i]) (Bz a2 c2 pre);rw[show pre=pre++tag i ([]:List (Int×Int)) by simp[tag]] at f;have f:=Hs.qU (A:=fun z:Option Addr×Nat=>sp [gF Pr 16 (gI 62670) 123 e d l (.ready,none),aE g 0 (zG a1 p k z.1 (pre++tag i ([]:List (Int×Int))).length z.2 none 0 0 none 0 0 none 0 0),aE j 0 [I i],Bz z.1 z.2 (pre++tag i ([]:List (Int×Int)))]) (a2,c2) f.El;exact f.to
 refine(Y6 (q:=q) (l:=T) (by omega)).fold (X:=chX g j i d l e pre a1 p k) (Z:=fun _ _=>tX False) f ?_ ?_ ?_
 .intro done y h N D f;have w:=D.length_le;rw[List.length_append,List.length_singleton] at w;obtain⟨⟨a,c⟩,f⟩:=f.tW;have f:=f.Vg;refine rW (oW f) F (fU f fun h f=>aA (am g f rfl (am j f rfl ?_)));refine aN (c:=z8 (i,y)) rfl (aN (c:=z8 (i,y)) rfl (dK (W:=3) (n:=1) (c:=1) f rfl rfl rfl fun a3 h f=>?_));have f:=nX (enc:=z8) (x:=((i,y):Nat×(Int×Int))) f;refine kL (bytes:=24) (e:=72) (enc:=z8) (l:=pre++tag i done) (l2:=[(i,y)]) (a:=a) (c:=c) (a2:=some a3) (c2:=1) (f.cC (Bz a c (pre++tag i done)) (Bz (some a3) 1 [(i,y)])) (by rw[List.length_append,Hx,List.length_singleton];omega) fun t u h f=>?_;rw[List.append_assoc,<-Yo] at f ⊢;refine aA (ay (b:=g) (o:=0) f fun h f=>?_);have f:Hs G h (aE g 0 (zG a1 p k t (pre++tag i (done++[y])).length u none 0 0 none 0 0 none 0 0)::_):=f;refine gM f fun h f=> .inl ⟨rfl,?_⟩;have f:=(f.fX (gF Pr 16 (gI 62670) 123 e d l (.ready,none)) (aE g 0 (zG a1 p k t (pre++tag i (done++[y])).length u none 0 0 none 0 0 none 0 0)) (aE j 0 [I i]) (Bz t u (pre++tag i (done++[y])))).El;exact(Hs.qU (A:=fun z:Option Addr×Nat=>sp [gF Pr 16 (gI 62670) 123 e d l (.ready,none),aE g 0 (zG a1 p k z.1 (pre++tag i (done++[y])).length z.2 none 0 0 none 0 0 none 0 0),aE j 0 [I i],Bz z.1 z.2 (pre++tag i (done++[y]))]) (t,u) f).to
 .intro v h f;obtain⟨⟨a,c⟩,f⟩:=(f.front (chX g j i d l e pre a1 p k T)).tW;exact J v a c h f.Vg.to
 .intro done y v h D f;obtain⟨H,f⟩:=(f.front (tX False)).Vd;exact H.elim
theorem Wk {x:MN} {p1 E:Nat} {t36 t37 t60 t61 t115:Value} (hC:Cf.Ok) (g:∀i:Nat,(i:Int)<Cf.aD->gU Cf (M.cG i)) (u:∀i:Nat,(i:Int)<Cf.aD->(M.cA i).known.length<=100)
  (hk:∀a1 d a2 c2 y O,Hs G O (xU a1 d (mS Cf.aG.toNat M.cG Cf.aD.toNat)::Bz a2 c2 (lQ M.cA Cf.aD.toNat)::Vc y::jC G Cf m x M::aE p1 0 yj::aE E 0 (zG a1 (mS Cf.aG.toNat M.cG Cf.aD.toNat).length d a2 (lQ M.cA Cf.aD.toNat).length c2 none 0 0 none 0 0 none 0 0)::L)->Dd 16 4 y Q [pt m 0 0,pt p1 0 0,pt E 0 0,t115] O):
  ∀(f i:Nat) (a1:Option Addr) (d:Nat) (a2:Option Addr) (c2:Nat) (y:List Nat) (h:AH),i+f=Cf.aD.toNat->Hs G h (xU a1 d (mS Cf.aG.toNat M.cG i)::Bz a2 c2 (lQ M.cA i)::Vc y::jC G Cf m x M::aE p1 0 yj::aE E 0 (zG a1 (mS Cf.aG.toNat M.cG i).length d a2 (lQ M.cA i).length c2 none 0 0 none 0 0 none 0 0)::L)->
   Dd 16 2 y Q [pt m 0 0,pt p1 0 0,pt E 0 0,I Cf.aD.toNat,I i,t36,t37,t60,t61,t115] h:=by
 have hc:=hC.1
 have A:Cf.aG.toNat<=8/\Cf.ways.toNat<=4:=by have:=hC;unfold bN.Ok at this;omega
 have P:∀i:Nat,(i:Int)<Cf.aD->(yX Cf.aG.toNat (M.cG i).S).length<=32:=fun i J=>by
  rw[Ja];have h1:=xJ (g i J).aG Cf.aG.toNat;have h2:=Nat.mul_le_mul A.1 A.2;omega
 intro f
 induction f with
 |zero=>
  intro i a1 d a2 c2 y h J a
  obtain rfl:i=Cf.aD.toNat:=by omega
  exact bW (aS (aaa (hk a1 d a2 c2 y h a)))
 |succ f ih=>
  intro i a1 d a2 c2 y h J a
  have w:(i:Int)<Cf.aD:=by omega
  have W:=Gq (n:=Cf.aG.toNat) (X:=M.cG) (b:=32) (k:=i) fun j hj=>P j (by omega)
  have Y:=Fs (X:=M.cA) (b:=100) (k:=i) fun j hj=>u j (by omega)
  obtain⟨K,a⟩:=kN (a.front (jC G Cf m x M))
  have B:i<x.lk.length:=by have:=K.2.1;omega
  have D:i<x.lq.length:=by have:=K.2.2;omega
  refine bW (aS (aae (bW (bM a fun F h a=>ax (b:=F) a fun h a=>bE a fun rr h a=>?_))))
  refine aB (aA (am m a rfl (am F a rfl (Ft a B ?_))))
  have a:=gV (R:=qC G Cf) (l:=x.lk) (s:=M.cG) B (a.front (mX (qC G Cf) x.lk M.cG))
  obtain⟨t,a⟩:=C.mJ a
  refine aB (aA (aC (b:=x.lk.getD i 0) (o:=0) a rfl ?_))
  refine C.aCv (t:=t) (ways:=Cf.ways.toNat) (n:=Cf.aG.toNat) (S:=(M.cG i).S) A.1 A.2 (g i w).aG (g i w).pl a fun pa h a=>?_
  refine iR a fun d1 h a=>?_
  intro e Z
  refine jI a fun l1 h a=>nF rfl ?_
  have a:=a.fX (gF Pr 16 (gI 62666) 123 e d1 l1 (.ready,none)) (aE E 0 (zG a1 (mS Cf.aG.toNat M.cG i).length d a2 (lQ M.cA i).length c2 none 0 0 none 0 0 none 0 0)) (aE F 0 [I i]) (xU a1 d (mS Cf.aG.toNat M.cG i))
  have a:=a.front (C.Xh pa (yX Cf.aG.toNat (M.cG i).S))
  refine qg (T:=yX Cf.aG.toNat (M.cG i).S) (pre:=mS Cf.aG.toNat M.cG i) (P i w) (by omega) Z a fun v a1 d h a=>?_
  rw[<-I5] at a
  refine jL a fun h a=>jK ?_
  have a:=C.cT (x.lk.getD i 0) t Cf i (M.cG i) a rfl rfl
  have a:=xY (G:=G) (Cf:=Cf) (l:=x.lk) (s:=M.cG) (i:=i) (t:=M.cG i) B a
  rw[py] at a
  refine bE a fun r2 h a=>aB (aA (am m a rfl (am F a rfl (Ga a D ?_))))
  have a:=gV (R:=pA Cf) (l:=x.lq) (s:=M.cA) D (a.front (mX (pA Cf) x.lq M.cA))
  refine Ow (C:=Cf) (p:=x.lq.getD i 0) (s:=M.cA i) (u i w) a fun q h a=>iR a fun d2 h a=>?_
  intro U H
  refine jI a fun l2 h a=>nF rfl ?_
  have a:=a.fX (gF Pr 16 (gI 62670) 123 U d2 l2 (.ready,none)) (aE E 0 (zG a1 (mS Cf.aG.toNat M.cG (i+1)).length d a2 (lQ M.cA i).length c2 none 0 0 none 0 0 none 0 0)) (aE F 0 [I i]) (Bz a2 c2 (lQ M.cA i))
  have a:=a.front (Cr q (M.cA i).known)
  refine mo (T:=(M.cA i).known) (pre:=lQ M.cA i) (u i w) (by omega) H a fun v a2 c2 h a=>?_
  rw[<-J2] at a
  refine jL a fun h a=>jK (aad ?_)
  have a:=uI (G:=G) (Cf:=Cf) (l:=x.lq) (s:=M.cA) (i:=i) (t:=M.cA i) D a
  rw[py] at a
  have a:=mG (G:=G) (Cf:=Cf) (m:=m) (x:=x) M K a
  have a:=a.cI (mk d2 ()) (mk d1 ()) (Vc y)
  exact ih (i+1) a1 d a2 c2 (d2::d1::y) h (by omega) (xw a).to
end
section
def Fj (F:fM) (n:Nat):List aH:=(List.range n).flatMap (dW F)
theorem Ug {F:fM} {n:Nat}:Fj F (n+1)=Fj F n++dW F n:=by simp[Fj,List.range_succ]
theorem Ik {F:fM} (a:∀c w,(F c w).length<=500):∀n,(Fj F n).length<=500*n
 |0=>by simp[Fj]
 |n+1=>by
  rw[Ug,List.length_append];have:=Ik a n;have:(dW F n).length<=500:=a _ _;omega
abbrev wU (a:Option Addr) (c:Nat) (l:List aH):HP:=ls aH.enc 9 162 a c l
set_option maxRecDepth 100000
variable {G:Bg} {h:AH} {L L':List HP} {Q:Value->AH->Prop} {C:bN}
abbrev cgX (p2 q l0 d0 d l:Nat) (a e:Nat->Value) (ql:List Nat) (F:fM) (n:Nat):HP:=sB fun z:Option Addr×Nat=>sp [gF Pr 112 (gI 54) 13 e d l (.ready,none),aE p2 0 [yF l0],mX Hk ql (dW F),gF Pr 110 (gI 26) 13 a d0 l0 (.ready,none),aE q 0 [.slice z.1 (Fj F n).length z.2],wU z.1 z.2 (Fj F n)]
abbrev cgY (p2 q l0 d0 d l l2:Nat) (b e e2:Nat->Value) (a:List aH):HP:=sB fun z:Option Addr×Nat=>sp [gF Pr 112 (gI 874) 13 e2 d l2 (.ready,none),gF Pr 112 (gI 54) 13 e d l (.busy,none),aE p2 0 [yF l0],gF Pr 110 (gI 26) 13 b d0 l0 (.ready,none),aE q 0 [.slice z.1 (a).length z.2],wU z.1 z.2 (a)]
theorem bu {p2 q l0 d0 d l l2 y _n:Nat} {i e e2:Nat->Value} {_F:fM} {T pre:List aH} {J u8:Value} {R:Value->AH->Prop} (O:T.length<=500) (D:pre.length<=9000)
  (t:List.map i [2,7]=[pt q 0 0,J]) (u:List.map e2 [2,8]=[pt p2 0 0,u8])
  (f:Hs G h (pz y T::cgY p2 q l0 d0 d l l2 i e e2 pre::L)) (I:∀v w,Hs G w (pz y T::cgY p2 q l0 d0 d l l2 i e e2 (pre++T)::L)->R v w):
  Cl Pr K 248 [.func (.yield l2) #[] #[],pt y 0 0] h R:=by
 rw[show pre=pre++[] by simp] at f
 refine(aIh (q:=y) (l:=T) (by omega)).fold (X:=fun g=>cgY p2 q l0 d0 d l l2 i e e2 (pre++g)) (Z:=fun _ _=>tX False) f ?_ ?_ ?_
 .intro g x h N B f;have p:=B.length_le;rw[List.length_append,List.length_singleton] at p;obtain⟨⟨a,c⟩,f⟩:=f.tW;have f:=f.un6;refine rW (oW f) u (bM f fun p1 h f=>ax (b:=p1) f fun h f=>fU f fun h f=>am p2 f rfl (an p1 f (l:=x.enc) rfl rfl ?_));refine rW (oW (l:=l0) f) t (bM f fun E h f=>ax (b:=E) f fun h f=>fU f fun h f=>am q f rfl (an E f (l:=x.enc) rfl rfl (aN (c:=x.enc) rfl (dK (W:=9) (n:=1) (c:=1) f rfl rfl rfl fun a3 h f=>?_))));have f:=nX (enc:=aH.enc) (x:=x) f;refine kL (bytes:=72) (e:=162) (enc:=aH.enc) (l:=pre++g) (l2:=[x]) (a:=a) (c:=c) (a2:=some a3) (c2:=1) (f.cC (wU a c (pre++g)) (wU (some a3) 1 [x])) (by rw[List.length_append,List.length_singleton];omega) fun j k h f=>?_;rw[List.append_assoc] at f ⊢;refine ax (b:=q) (o:=0) f fun h f=>gM (l:=l0) f fun h f=>bX (bV (gM (l:=l2) f fun h f=> .inl ⟨rfl,?_⟩));have f:=f.fX (gF Pr 110 (gI 26) 13 i d0 l0 (.ready,none)) (aE q 0 [.slice j (pre++(g++[x])).length k]) (wU j k (pre++(g++[x]))) (aE p2 0 [yF l0]);have f:=f.cI (gF Pr 112 (gI 874) 13 e2 d l2 (.ready,none)) (gF Pr 112 (gI 54) 13 e d l (.busy,none)) (aE p2 0 [yF l0]);have f:=Hs.qU (A:=fun z:Option Addr×Nat=>sp [gF Pr 112 (gI 874) 13 e2 d l2 (.ready,none),gF Pr 112 (gI 54) 13 e d l (.busy,none),aE p2 0 [yF l0],gF Pr 110 (gI 26) 13 i d0 l0 (.ready,none),aE q 0 [.slice z.1 (pre++(g++[x])).length z.2],wU z.1 z.2 (pre++(g++[x]))]) (j,k) f.pk6;exact f.to
 .intro v h f;exact I v h f
 .intro done y v h B f;obtain⟨H,f⟩:=(f.front (tX False)).Vd;exact H.elim
theorem y3 {z p:Nat} {ql:List Nat} {F:fM} (α:ql.length<=16) (B:∀c w,(F c w).length<=500) (f:Hs G h (aE p 0 [rwF z]::J4 z ql::mX Hk ql (dW F)::L))
  (hk:∀a c H,Hs G H (wU a c (Fj F ql.length)::L)->Q (.slice a (Fj F ql.length).length c) H):Cl Pr K 56 [.func (.func 112) #[] #[pt p 0 0]] h Q:=by
 have Y:=Ik B ql.length
 refine cW (cW (dF (cs:=[.slice none 0 0]) f fun q h f=>iR f fun d0 h f=>?_))
 intro k D
 refine jI f fun l0 h f=>nF rfl ?_
 refine cW (dF (cs:=[yF l0]) f fun g h f=>am p f rfl (iR f fun d h f=>?_))
 intro e U
 refine jI f fun l h f=>nF rfl ?_
 have f:=mF (enc:=aH.enc) (e:=162) f
 have f:Hs G h (J4 z ql::cgX g q l0 d0 d l k e ql F 0::mk d ()::mk d0 ()::L):=by
  have f:=f.cI (gF Pr 110 (gI 26) 13 k d0 l0 (.ready,none)) (aE q 0 [.slice none 0 0]) (wU none 0 []);have f:=f.cI (gF Pr 112 (gI 54) 13 e d l (.ready,none)) (aE g 0 [yF l0]) (mX Hk ql (dW F));have f:=Hs.qU (A:=fun z:Option Addr×Nat=>sp [gF Pr 112 (gI 54) 13 e d l (.ready,none),aE g 0 [yF l0],mX Hk ql (dW F),gF Pr 110 (gI 26) 13 k d0 l0 (.ready,none),aE q 0 [.slice z.1 (Fj F 0).length z.2],wU z.1 z.2 (Fj F 0)]) (none,0) f.pk6;exact f.to
 refine(aEo (z:=z) (l:=ql) (by omega)).fold (X:=fun done=>cgX g q l0 d0 d l k e ql F done.length) (Z:=fun _ _=>tX False) f ?_ ?_ ?_
 .intro done y h N I f;obtain⟨⟨a,c⟩,f⟩:=f.tW;have f:=f.un6;obtain⟨t,O⟩:=r6 I;have J:=Ik B done.length;have f:=gV (R:=Hk) (l:=ql) (s:=dW F) t (f.front (mX Hk ql (dW F)));rw[O] at f;refine rW (oW (l:=l) f) U (fU (l:=l) f fun h f=>Gg (l:=l) f ?_);intro u E;refine jI f fun l2 h f=>nF rfl ?_;have f:Hs G h (pz y (dW F done.length)::cgY g q l0 d0 d l l2 k e u (Fj F done.length)::Fq Hk ql (dW F) done.length::N):=by
   have f:=f.fX (gF Pr 110 (gI 26) 13 k d0 l0 (.ready,none)) (aE q 0 [.slice a (Fj F done.length).length c]) (wU a c (Fj F done.length)) (aE g 0 [yF l0]);have f:=f.cI (gF Pr 112 (gI 874) 13 u d l2 (.ready,none)) (gF Pr 112 (gI 54) 13 e d l (.busy,none)) (aE g 0 [yF l0]);have f:=Hs.qU (A:=fun z:Option Addr×Nat=>sp [gF Pr 112 (gI 874) 13 u d l2 (.ready,none),gF Pr 112 (gI 54) 13 e d l (.busy,none),aE g 0 [yF l0],gF Pr 110 (gI 26) 13 k d0 l0 (.ready,none),aE q 0 [.slice z.1 (Fj F done.length).length z.2],wU z.1 z.2 (Fj F done.length)]) (a,c) f.pk6;exact f.to
  refine bu (_n:=0) (_F:=F) (T:=dW F done.length) (pre:=Fj F done.length) (B _ _) (by omega) D E f fun v h f=>?_
  rw[<-Ug] at f
  obtain⟨⟨a,c⟩,f⟩:=(f.front (cgY g q l0 d0 d l l2 k e u (Fj F (done.length+1)))).tW
  have f:=f.un6
  refine jL (l:=l2) f fun h f=>jK (gM (l:=l) f fun h f=> .inl ⟨rfl,?_⟩)
  have S:pz y (dW F done.length)=Hk done.length (ql.getD done.length 0) (dW F done.length):=by rw[O]
  rw[S] at f
  have f:=D3 (R:=Hk) (l:=ql) (s:=dW F) (i:=done.length) (x:=dW F done.length) t (f.cC (Hk done.length (ql.getD done.length 0) (dW F done.length)) (Fq Hk ql (dW F) done.length))
  have P:(fun j=>if j=done.length then dW F done.length else dW F j)=dW F:=by funext j;split<;>simp_all
  rw[P] at f
  have f:=f.cI (gF Pr 110 (gI 26) 13 k d0 l0 (.ready,none)) (aE q 0 [.slice a (Fj F (done.length+1)).length c]) (wU a c (Fj F (done.length+1)))
  have f:=f.cI (gF Pr 112 (gI 54) 13 e d l (.ready,none)) (aE g 0 [yF l0]) (mX Hk ql (dW F))
  have f:=Hs.qU (A:=fun z:Option Addr×Nat=>sp [gF Pr 112 (gI 54) 13 e d l (.ready,none),aE g 0 [yF l0],mX Hk ql (dW F),gF Pr 110 (gI 26) 13 k d0 l0 (.ready,none),aE q 0 [.slice z.1 (Fj F (done.length+1)).length z.2],wU z.1 z.2 (Fj F (done.length+1))]) (a,c) f.pk6
  rw[List.length_append,List.length_singleton]
  exact f.to
 .intro v h f;obtain⟨⟨a,c⟩,f⟩:=(f.front (cgX g q l0 d0 d l k e ql F ql.length)).tW;have f:=f.un6;refine jL (l:=l) f fun h f=>jK (kG (f.front (mk d ())) fun h f=>iU ?_);exact jL (l:=l0) f fun h f=>jK (am q f rfl (kG (f.front (mk d0 ())) fun h f=>iU (hk a c h f.to)))
 .intro done y v h I f;obtain⟨W,f⟩:=(f.front (tX False)).Vd;exact W.elim
end
section
structure Sh where
 qV:List (Nat×Th)
 xQ:List (Nat×(Int×Int))
 cE:List gZ
 hJ:List aH
 mem:List Ln
def tD (C:bN) (M:cU):Sh:=⟨mS C.aG.toNat M.cG C.aD.toNat,lQ M.cA C.aD.toNat,M.bZ.cE,Fj M.iC (4*C.aD.toNat),(List.range C.lines).map fun i=>(M.home i).2⟩
structure Sz where
 a1:Option Addr
 c1:Nat
 a2:Option Addr
 c2:Nat
 a3:Option Addr
 c3:Nat
 a4:Option Addr
 c4:Nat
 a5:Option Addr
 c5:Nat
abbrev uS (z:Sz) (s:Sh):List Value:=zG z.a1 s.qV.length z.c1 z.a2 s.xQ.length z.c2 z.a3 s.cE.length z.c3 z.a4 s.hJ.length z.c4 z.a5 s.mem.length z.c5
set_option maxRecDepth 100000
abbrev Rj (a:Option Addr) (c:Nat) (l:List gZ):HP:=ls gZ.enc 2 52 a c l
abbrev Ma (a:Option Addr) (c:Nat) (l:List Ln):HP:=ls oG 2 68 a c l
abbrev shB (z:Sz) (s:Sh):List HP:=[xU z.a1 z.c1 s.qV,Bz z.a2 z.c2 s.xQ,Rj z.a3 z.c3 s.cE,wU z.a4 z.c4 s.hJ,Ma z.a5 z.c5 s.mem]
def shR (z:Sz) (s:Sh):HP:=sp (shB z s)
variable {G:Bg} {h:AH} {L L':List HP} {Q:Value->AH->Prop} {Cf:bN} {m:Nat} {M:cU}
theorem W0 {x:MN} {p1 u H A J c2:Nat} {a1 a2:Option Addr} {w:List Nat} {t115:Value} (hC:Cf.Ok) (Z:M.bZ.cE.length=Cf.aQ.toNat)
  (U:∀a c B,Hs G B (ls gZ.enc 2 52 a c M.bZ.cE::Vc w::jC G Cf m x M::aE p1 0 yj::aE u 0 (zG a1 H A a2 J c2 a M.bZ.cE.length c none 0 0 none 0 0)::L)->Dd 16 9 w Q [pt m 0 0,pt p1 0 0,pt u 0 0,t115] B):
  ∀(f i:Nat) (a:Option Addr) (c:Nat) (h:AH),i+f=Cf.aQ.toNat->Hs G h (ls gZ.enc 2 52 a c (M.bZ.cE.take i)::Vc w::jC G Cf m x M::aE p1 0 yj::aE u 0 (zG a1 H A a2 J c2 a i c none 0 0 none 0 0)::L)->Dd 16 7 w Q [pt m 0 0,pt p1 0 0,pt u 0 0,I Cf.aQ,I i,t115] h:=by
 have hg:=hC.2.1
 intro f
 induction f with
 |zero=>
  intro i a c h T d
  obtain rfl:i=M.bZ.cE.length:=by omega
  rw[List.take_length] at d
  exact bW (aS (aaa (U a c h d)))
 |succ f Y=>
  intro i a c h T d
  have E:i<M.bZ.cE.length:=by omega
  obtain⟨y,R,_⟩:=jY (l:=M.bZ.cE) (i:=i) E
  obtain⟨X,d⟩:=kN (d.front (jC G Cf m x M))
  refine bW (aS (aae (bW (aB (aA (am m d rfl ?_))))))
  obtain⟨t,b,d⟩:=kE (d.front (fO Cf x.mb M.bZ))
  refine aB (aA (aC (b:=x.mb) (o:=0) d rfl (M9 (t:=t) (es:=M.bZ.cE) (g:=i) d fun h d=>?_)))
  rw[aac,Int.toNat_natCast,show M.bZ.cE.getD i iO=y by rw[List.getD_eq_getElem?_getD,R];rfl]
  have d:=dO (C:=Cf) (p:=x.mb) (m:=M.bZ) (t:=t) (b:=b) (d.cI (aE x.mb 0 [pt t 0 0,I Cf.aD,gA b]) (gP t M.bZ.cE) (iG b (fS M.bZ.runs)))
  have d:=mG (G:=G) (Cf:=Cf) (m:=m) (x:=x) M X d
  have e:(M.bZ.cE.take i).length=i:=by rw[List.length_take];omega
  refine aI rfl (aI rfl (bM d fun p h d=>ax (b:=p) d fun h d=>aA (am u d rfl (an p d (l:=y.enc) rfl rfl (aN (c:=y.enc) rfl (dK (W:=2) (n:=1) (c:=1) d rfl rfl rfl fun a0 h d=>?_))))))
  have d:=nX (enc:=gZ.enc) (x:=y) d
  have:=kL (bytes:=16) (e:=52) (enc:=gZ.enc) (l:=M.bZ.cE.take i) (l2:=[y]) (a:=a) (c:=c) (a2:=some a0) (c2:=1) (h:=h) (k:=fun r=>bG (hQ 2 (pt u 0 0)) fun q=>bG (uG r.2 1 q r.1) fun D=>bG (uE .add (I i) (I 1)) fun v=>Dd 16 7 w Q [pt m 0 0,pt p1 0 0,pt u 0 0,I Cf.aQ,v,t115] D) (d.cC (ls gZ.enc 2 52 a c (M.bZ.cE.take i)) (ls gZ.enc 2 52 (some a0) 1 [y])) (by rw[e];simp;omega) fun K O B F=>?_
  .rw[e] at this;exact this
  .rw[List.length_append,e];refine aA (ay (b:=u) (o:=0) F fun P j=>aad ?_);have j:Hs G P (aE u 0 (zG a1 H A a2 J c2 K (i+1) O none 0 0 none 0 0)::_):=j;have S:M.bZ.cE.take i++[y]=M.bZ.cE.take (i+1):=by rw[List.take_add_one,R];rfl
   rw[S] at j
   exact Y (i+1) K O P (by omega) j.to
abbrev shY (i:Nat) (e:Nat->Value) (d l:Nat) (a1:Option Addr) (b a:Nat) (a2:Option Addr) (f c2:Nat) (a3:Option Addr) (g c3:Nat) (a4:Option Addr) (n4 c4:Nat) (done:List Ln):HP:=sB fun x:Option Addr×Nat=>sp [gF Pr 16 (gI 1018) 123 e d l (.ready,none),aE i 0 (zG a1 b a a2 f c2 a3 g c3 a4 n4 c4 x.1 done.length x.2),ls oG 2 68 x.1 x.2 done]
theorem cv {x:MN} {p1 g k j t c2 c3:Nat} {a1 a2 a3:Option Addr} {K:List Nat} {t115:Value} (hC:Cf.Ok) (B:Ob G 0 fJ) (hF:∀c w,(M.iC c w).length<=500)
  (f:Hs G h (ls gZ.enc 2 52 a3 c3 M.bZ.cE::Vc K::jC G Cf m x M::aE p1 0 yj::aE g 0 (zG a1 k j a2 t c2 a3 M.bZ.cE.length c3 none 0 0 none 0 0)::L))
  (hk:∀a4 c4 a5 c5 S,Hs G S (ls gZ.enc 2 52 a3 c3 M.bZ.cE::wU a4 c4 (Fj M.iC (4*Cf.aD.toNat))::ls oG 2 68 a5 c5 ((List.range Cf.lines).map fun i=>(M.home i).2)::jC G Cf m x M::L)->Q (.agg ⟨zG a1 k j a2 t c2 a3 M.bZ.cE.length c3 a4 (Fj M.iC (4*Cf.aD.toNat)).length c4 a5 Cf.lines c5⟩) S):
  Dd 16 9 K Q [pt m 0 0,pt p1 0 0,pt g 0 0,t115] h:=by
 have hc:=hC.1
 have γ:=bN.eE hC
 have β:=hC.2.1
 obtain⟨hl,f⟩:=kN (f.front (jC G Cf m x M))
 refine bW (aB (aA (am m f rfl ?_)))
 refine bq (C:=Cf) (F:=M.iC) hC hF f fun z P p h R f=>?_
 refine y3 (z:=z) (p:=p) (ql:=P) (F:=M.iC) (by omega) hF (f.cI (aE p 0 [rwF z]) (J4 z P) (mX Hk P (dW M.iC))) fun a4 c4 h f=>?_
 rw[R] at f ⊢
 obtain⟨n4,E⟩:∃n4,n4=(Fj M.iC (4*Cf.aD.toNat)).length:=⟨_,rfl⟩
 rw[<-E]
 refine aA (ay (b:=g) (o:=0) f fun h f=>?_)
 have f:Hs G h (aE g 0 (zG a1 k j a2 t c2 a3 M.bZ.cE.length c3 a4 n4 c4 none 0 0)::_):=f
 refine aB (aA (am m f rfl ?_))
 obtain⟨O,b,o,u,f⟩:=H.pT (f.front (H.gG G x.hb Cf M.home))
 refine aB (aA (aC (b:=x.hb) (o:=0) f rfl ?_))
 refine nu (mb:=O) (mem:=fun i=>(M.home i).2) hC B f fun Y h f=>?_
 have f:=f.cC (hole G 25 222 (some ⟨b,o,none⟩) u Cf.lines b o) (dE Cf.lines fun i=>H.eF b (o+i*25) (M.home i).1)
 have f:=f.cC (aE x.hb 0 (H.mH O Cf b o u)) (eW G Cf.lines O Cf fun i=>(M.home i).2)
 have f:=H.qO (H:=M.home) f
 have f:=mG (G:=G) (Cf:=Cf) (m:=m) (x:=x) M hl f
 refine iR f fun d h f=>?_
 intro e he
 refine jI f fun l h f=>nF rfl ?_
 have f:=mF (enc:=oG) (e:=68) f
 have f:Hs G h (xp Y ((List.range Cf.lines).map fun i=>(M.home i).2)::shY g e d l a1 k j a2 t c2 a3 M.bZ.cE.length c3 a4 n4 c4 []::mk d ()::ls gZ.enc 2 52 a3 c3 M.bZ.cE::wU a4 c4 (Fj M.iC (4*Cf.aD.toNat))::Vc K::jC G Cf m x M::aE p1 0 yj::L):=by
  have f:=(f.cI (gF Pr 16 (gI 1018) 123 e d l (.ready,none)) (aE g 0 (zG a1 k j a2 t c2 a3 M.bZ.cE.length c3 a4 n4 c4 none 0 0)) (ls oG 2 68 none 0 [])).Rp;have f:=Hs.qU (A:=fun x:Option Addr×Nat=>sp [gF Pr 16 (gI 1018) 123 e d l (.ready,none),aE g 0 (zG a1 k j a2 t c2 a3 M.bZ.cE.length c3 a4 n4 c4 x.1 ([]:List Ln).length x.2),ls oG 2 68 x.1 x.2 []]) (none,0) f;exact f.to
 have D:((List.range Cf.lines).map fun i=>(M.home i).2).length=Cf.lines:=by simp
 refine(aJb (p:=Y) (l:=(List.range Cf.lines).map fun i=>(M.home i).2) (by rw[D];omega)).fold (X:=fun done:List (Ln×Nat)=>shY g e d l a1 k j a2 t c2 a3 M.bZ.cE.length c3 a4 n4 c4 (Df done)) (Z:=fun _ _=>tX False) f ?_ ?_ ?_
 .intro done y h T U f;have α:done.length<Cf.lines:=by have:=U.length_le;simp at this;omega
  obtain⟨⟨a,c⟩,f⟩:=f.tW
  have f:=f.B5
  refine rW (oW f) he (bM f fun q h f=>ax (b:=q) f fun h f=>fU f fun h f=>aA (am g f rfl (an q f (l:=oG y.1) rfl rfl (aN (c:=oG y.1) rfl (dK (W:=2) (n:=1) (c:=1) f rfl rfl rfl fun a0 h f=>?_)))))
  have f:=nX (enc:=oG) (x:=y.1) f
  refine kL (bytes:=16) (e:=68) (enc:=oG) (l:=Df done) (l2:=[y.1]) (a:=a) (c:=c) (a2:=some a0) (c2:=1) (f.cC (ls oG 2 68 a c (Df done)) (ls oG 2 68 (some a0) 1 [y.1])) (by rw[tf];simp;omega) fun I J h f=>?_
  refine aA (ay (b:=g) (o:=0) f fun h f=>?_)
  have f:Hs G h (aE g 0 (zG a1 k j a2 t c2 a3 M.bZ.cE.length c3 a4 n4 c4 I (Df done++[y.1]).length J)::_):=f
  refine gM f fun h f=> .inl ⟨rfl,?_⟩
  have f:=(f.cI (gF Pr 16 (gI 1018) 123 e d l (.ready,none)) (aE g 0 (zG a1 k j a2 t c2 a3 M.bZ.cE.length c3 a4 n4 c4 I (Df done++[y.1]).length J)) (ls oG 2 68 I J (Df done++[y.1]))).Rp
  rw[nw] at f
  exact(Hs.qU (A:=fun x:Option Addr×Nat=>sp [gF Pr 16 (gI 1018) 123 e d l (.ready,none),aE g 0 (zG a1 k j a2 t c2 a3 M.bZ.cE.length c3 a4 n4 c4 x.1 (Df (done++[y])).length x.2),ls oG 2 68 x.1 x.2 (Df (done++[y]))]) (I,J) f).to
 .intro v h f;rw[oz] at f;obtain⟨⟨a,c⟩,f⟩:=(f.front (shY g e d l a1 k j a2 t c2 a3 M.bZ.cE.length c3 a4 n4 c4 ((List.range Cf.lines).map fun i=>(M.home i).2))).tW;have f:=f.B5;refine jL f fun h f=>jK (an g f (l:=zG a1 k j a2 t c2 a3 M.bZ.cE.length c3 a4 n4 c4 a ((List.range Cf.lines).map fun i=>(M.home i).2).length c) rfl rfl (ax (b:=p1) f fun h f=>kG f fun h f=>tz (f.front (Vc K)) fun h f=>an p1 f (l:=zG a1 k j a2 t c2 a3 M.bZ.cE.length c3 a4 n4 c4 a ((List.range Cf.lines).map fun i=>(M.home i).2).length c) rfl rfl ?_));have:=hk a4 c4 a c h f.to;rw[<-D,<-E] at this;exact this
 .intro done y v h U f;obtain⟨hf,f⟩:=(f.front (tX False)).Vd;exact hf.elim
structure Tq (C:bN) (M:cU):Prop where
 Mt:∀i:Nat,(i:Int)<C.aD->gU C (M.cG i)
 nC:∀i:Nat,(i:Int)<C.aD->(M.cA i).known.length<=100
 iC:∀c w,(M.iC c w).length<=500
 kJ:M.bZ.cE.length=C.aQ.toNat
theorem Tq.of {N:Nat} (hC:Cf.Ok) (h:dU Cf N M):Tq Cf M:=⟨h.Mt,fun i a=>(h.nC i a).len hC,lh.S1 hC h.iC.len,h.bZ.len⟩
theorem xo (hC:Cf.Ok) (j:Ob G 0 fJ) (k:Tq Cf M) (d:Hs G h L) [B:Has (bU G Cf m) L M L']
  (y:∀z t,Hs G t (shR z (tD Cf M)::bU G Cf m M::L')->Q (.agg ⟨uS z (tD Cf M)⟩) t):Cl Pr K 16 [pt m 0 0] h Q:=by
 have D:=hC.2.1
 obtain⟨x,d⟩:=Hs.tW (show Hs G h (bU G Cf m M::L') from B.of d)
 have d:Hs G h (jC G Cf m x M::L'):=d
 refine cW (bM d fun p1 h d=>bM d fun u h d=>dD (bV (bW ?_)))
 obtain⟨p,d⟩:=kN (d.front (jC G Cf m x M))
 refine aB (aA (am m d rfl (bP ?_)))
 rw[p.1]
 have d:=mG (G:=G) (Cf:=Cf) (m:=m) (x:=x) M p d
 have d:Hs G h (Vc []::jC G Cf m x M::aE p1 0 yj::aE u 0 yj::L'):=Hs.pack (A:=[]) d.to
 have d:=mF (enc:=cpE) (e:=70) (mF (enc:=z8) (e:=72) d)
 refine Wk (x:=x) hC k.Mt k.nC (fun a1 g f c2 w h d=>?_) Cf.aD.toNat 0 none 0 none 0 [] h (by omega) d
 obtain⟨p,d⟩:=kN (d.front (jC G Cf m x M))
 refine bW (aB (aA (aA (am m d (v:=I Cf.aQ) rfl ?_))))
 have d:=mG (G:=G) (Cf:=Cf) (m:=m) (x:=x) M p d
 have d:=mF (enc:=gZ.enc) (e:=52) d
 have d:Hs G h (ls gZ.enc 2 52 none 0 []::Vc w::jC G Cf m x M::aE p1 0 yj::aE u 0 (zG a1 (mS Cf.aG.toNat M.cG Cf.aD.toNat).length g f (lQ M.cA Cf.aD.toNat).length c2 none 0 0 none 0 0 none 0 0)::xU a1 g (mS Cf.aG.toNat M.cG Cf.aD.toNat)::Bz f c2 (lQ M.cA Cf.aD.toNat)::L'):=d.to
 refine W0 (x:=x) (L:=xU a1 g (mS Cf.aG.toNat M.cG Cf.aD.toNat)::Bz f c2 (lQ M.cA Cf.aD.toNat)::L') hC k.kJ (fun a c h d=>?_) Cf.aQ.toNat 0 none 0 h (by omega) (by rw[List.take_zero];exact d)
 refine cv (x:=x) hC j k.iC d fun a4 c4 a5 c5 h d=>?_
 have q:((List.range Cf.lines).map fun i=>(M.home i).2).length=Cf.lines:=by simp
 have:=y ⟨a1,g,f,c2,a,c,a4,c4,a5,c5⟩ h
 unfold tD uS at this
 simp only[q] at this
 refine this ?_
 have d:=d.front (jC G Cf m x M)
 have d:Hs G h (bU G Cf m M::_):=Hs.qU (A:=fun x:MN=>sp (Lw G Cf m M x)) x d
 refine Hs.pack (A:=shB ⟨a1,g,f,c2,a,c,a4,c4,a5,c5⟩ ⟨mS Cf.aG.toNat M.cG Cf.aD.toNat,lQ M.cA Cf.aD.toNat,M.bZ.cE,Fj M.iC (4*Cf.aD.toNat),(List.range Cf.lines).map fun i=>(M.home i).2⟩) ?_
 exact d.to
end
section
structure Fit (C:bN) (s:Sh):Prop where
 kJ:(s.cE.length:Int)=C.aQ
 mem:s.mem.length=C.lines
 qV:∀y∈s.qV,(y.1:Int)<C.aD/\0<=y.2.1/\y.2.1<C.lines
 xQ:∀y∈s.xQ,(y.1:Int)<C.aD/\0<=y.2.1/\y.2.1<C.aQ
 hJ:∀y∈s.hJ,(0<=y.core/\y.core<C.aD)/\0<=y.line/\y.line<C.lines
 l1:s.qV.length<=100000
 l2:s.xQ.length<=100000
 l3:s.hJ.length<=100000
set_option maxRecDepth 100000
variable {G:Bg} {h:AH} {L L':List HP} {Q:Value->AH->Prop} {C:bN} {s:Sh} {z:Sz}
theorem tQ {a b:Int} (d:0<=a/\a<b) (e:Q (.bool true) h):Cl Pr K 129 [I a,I b] h Q:=
 cW (dR (aae (aS (by rw[decide_eq_true d.2];exact e))))
theorem xv (hC:C.Ok) (hF:Fit C s) (j:Ob G 0 fJ) (d:Hs G h (xU z.a1 z.c1 s.qV::Bz z.a2 z.c2 s.xQ::Rj z.a3 z.c3 s.cE::wU z.a4 z.c4 s.hJ::Ma z.a5 z.c5 s.mem::L)) (F:∀B,Hs G B (xU z.a1 z.c1 s.qV::Bz z.a2 z.c2 s.xQ::Rj z.a3 z.c3 s.cE::wU z.a4 z.c4 s.hJ::Ma z.a5 z.c5 s.mem::L)->Q (I 0) B):Cl Pr K 127 [.agg ⟨C.enc⟩,.agg ⟨uS z s⟩] h Q:=by
 have H:=bN.eE hC;have E:=hC.2.1;refine cW (dF d fun p h d=>dF (cs:=uS z s) d fun q h d=>an p d (l:=C.enc) rfl rfl (nJ j d fun h d=>?_));rw[aKj hC];refine bA (aaa (bW (an p d (l:=C.enc) rfl rfl (pK hC j d fun h d=>?_))));refine aA (am q d rfl (bP (aA (am p d (v:=I C.aQ) rfl (bA (aJ (by have:=hF.kJ;omega) ?_))))));refine aA (am q d rfl (bP (bA (aJ (by have:=hF.mem;omega) (bW (aA (am q d rfl (bP ?_))))))));have w:∀(f i:Nat) (h:AH),i+f=s.hJ.length->Hs G h (wU z.a4 z.c4 s.hJ::aE p 0 C.enc::aE q 0 (uS z s)::xU z.a1 z.c1 s.qV::Bz z.a2 z.c2 s.xQ::Rj z.a3 z.c3 s.cE::Ma z.a5 z.c5 s.mem::L)->Dd 127 11 [] Q [pt p 0 0,I C.lines,.slice z.a4 s.hJ.length z.c4,I s.hJ.length,I i] h:=by
  have D:=hF.l3;intro f;induction f with
  |zero=>intro i h y d;exact bW (aS (aaa (F h d.to)))
  |succ f A=>
   intro i h y d;obtain⟨x,k,_⟩:=jY (l:=s.hJ) (i:=i) (by omega);have g:=hF.hJ x (List.mem_of_getElem? k);refine bW (aS (aae (bW (jV (l:=s.hJ) (a:=z.a4) (c:=z.c4) (enc:=aH.enc) (e:=162) d (by decide) (by omega) (by rw[Int.toNat_natCast];exact k) (bM d fun r h d=>ax (b:=r) d fun h d=>?_)))));refine aA (am r d rfl (aA (am p d (v:=I C.aD) rfl (tQ g.1 (bX (bV ?_))))));exact aA (am r d rfl (tQ g.2 (bX (bV (bW (aad (A (i+1) h (by omega) d.to)))))))
 have u:∀(f i:Nat) (h:AH),i+f=s.xQ.length->Hs G h (Bz z.a2 z.c2 s.xQ::aE p 0 C.enc::aE q 0 (uS z s)::xU z.a1 z.c1 s.qV::Rj z.a3 z.c3 s.cE::wU z.a4 z.c4 s.hJ::Ma z.a5 z.c5 s.mem::L)->Dd 127 7 [] Q [pt p 0 0,pt q 0 0,I C.lines,.slice z.a2 s.xQ.length z.c2,I s.xQ.length,I i] h:=by
  have D:=hF.l2;intro f;induction f with
  |zero=>intro i h y d;exact bW (aS (aaa (bW (aA (am q d rfl (bP (w s.hJ.length 0 h (by omega) d.to)))))))
  |succ f A=>
   intro i h y d;obtain⟨x,k,_⟩:=jY (l:=s.xQ) (i:=i) (by omega);have g:=hF.xQ x (List.mem_of_getElem? k);refine bW (aS (aae (bW (jV (l:=s.xQ) (a:=z.a2) (c:=z.c2) (enc:=z8) (e:=72) d (by decide) (by omega) (by rw[Int.toNat_natCast];exact k) (bM d fun r h d=>ax (b:=r) d fun h d=>?_)))));refine aA (am r d (v:=I x.1) rfl (aA (am p d (v:=I C.aD) rfl (tQ ⟨by omega,g.1⟩ (bX (bV ?_))))));exact aA (am r d (v:=I x.2.1) rfl (aA (am p d (v:=I C.aQ) rfl (tQ g.2 (bX (bV (bW (aad (A (i+1) h (by omega) d.to)))))))))
 have t:∀(f i:Nat) (h:AH),i+f=s.qV.length->Hs G h (xU z.a1 z.c1 s.qV::aE p 0 C.enc::aE q 0 (uS z s)::Bz z.a2 z.c2 s.xQ::Rj z.a3 z.c3 s.cE::wU z.a4 z.c4 s.hJ::Ma z.a5 z.c5 s.mem::L)->Dd 127 3 [] Q [pt p 0 0,pt q 0 0,I C.lines,.slice z.a1 s.qV.length z.c1,I s.qV.length,I i] h:=by
  have D:=hF.l1;intro f;induction f with
  |zero=>intro i h y d;exact bW (aS (aaa (bW (aA (am q d rfl (bP (u s.xQ.length 0 h (by omega) d.to)))))))
  |succ f A=>
   intro i h y d;obtain⟨x,k,_⟩:=jY (l:=s.qV) (i:=i) (by omega);have g:=hF.qV x (List.mem_of_getElem? k);refine bW (aS (aae (bW (jV (l:=s.qV) (a:=z.a1) (c:=z.c1) (enc:=cpE) (e:=70) d (by decide) (by omega) (by rw[Int.toNat_natCast];exact k) (bM d fun r h d=>ax (b:=r) d fun h d=>?_)))));refine aA (am r d (v:=I x.1) rfl (aA (am p d (v:=I C.aD) rfl (tQ ⟨by omega,g.1⟩ (bX (bV ?_))))));exact aA (am r d (v:=I x.2.1) rfl (tQ g.2 (bX (bV (bW (aad (A (i+1) h (by omega) d.to)))))))
 exact t s.qV.length 0 h (by omega) d.to
theorem M3 {g:Nat} (hC:C.Ok) (hF:Fit C s) (f:(g:Int)<C.aQ) (d:Ob G 0 fJ) (a:Hs G h (xU z.a1 z.c1 s.qV::Bz z.a2 z.c2 s.xQ::Rj z.a3 z.c3 s.cE::wU z.a4 z.c4 s.hJ::Ma z.a5 z.c5 s.mem::L)) (i:∀e,Hs G e (xU z.a1 z.c1 s.qV::Bz z.a2 z.c2 s.xQ::Rj z.a3 z.c3 s.cE::wU z.a4 z.c4 s.hJ::Ma z.a5 z.c5 s.mem::L)->Q (I 0) e):Cl Pr K 80 [.agg ⟨C.enc⟩,.agg ⟨uS z s⟩,I g] h Q:=by
 refine cW (dF a fun p h a=>dF (cs:=uS z s) a fun q h a=>an p a (l:=C.enc) rfl rfl (an q a (l:=uS z s) rfl rfl ?_));have a:Hs G h (xU z.a1 z.c1 s.qV::Bz z.a2 z.c2 s.xQ::Rj z.a3 z.c3 s.cE::wU z.a4 z.c4 s.hJ::Ma z.a5 z.c5 s.mem::aE p 0 C.enc::L):=a.to;refine xv hC hF d a fun h a=>bA (aaa (bW (aA (am p a (v:=I C.aQ) rfl (tQ ⟨by omega,f⟩ (bX (bV (i h a.to))))))))
theorem Vw {p q l0:Nat} {l:Nat} (B:s.qV.length<=100000) (w:∀y∈s.qV,y.2.1≠l) (d:Hs G h (aE p 0 (uS z s)::aE q 0 [I l]::xU z.a1 z.c1 s.qV::L)) (u:∀g,Hs G g (aE p 0 (uS z s)::aE q 0 [I l]::xU z.a1 z.c1 s.qV::L)->Q (.tuple ⟨[]⟩) g):Cl Pr K 131 [.func (.yield l0) #[] #[],pt p 0 0,pt q 0 0] h Q:=by
 have loop:∀(f i:Nat) (h:AH),i+f=s.qV.length->Hs G h (aE p 0 (uS z s)::aE q 0 [I l]::xU z.a1 z.c1 s.qV::L)->Dd 131 1 [] Q [.func (.yield l0) #[] #[],pt q 0 0,.slice z.a1 s.qV.length z.c1,I s.qV.length,I i] h:=by
  intro f;induction f with
  |zero=>intro i h t d;exact bW (aS (aaa (u h d)))
  |succ f A=>
   intro i h t d;obtain⟨x,j,_⟩:=jY (l:=s.qV) (i:=i) (by omega);have k:=w x (List.mem_of_getElem? j);refine bW (aS (aae (bW (jV (l:=s.qV) (a:=z.a1) (c:=z.c1) (enc:=cpE) (e:=70) d (by decide) (by omega) (by rw[Int.toNat_natCast];exact j) (bM d fun r h d=>ax (b:=r) d fun h d=>?_)))));exact aA (am r d (v:=I x.2.1) rfl (am q d rfl (bJ (aJ k (aad (A (i+1) h (by omega) d.to))))))
 exact cW (aA (am p d rfl (bP (loop s.qV.length 0 h (by omega) d))))
theorem Vz {p q l0:Nat} {l:Nat} (D:s.hJ.length<=100000) (B:∀y∈s.hJ,y.kind=8->y.line≠l) (d:Hs G h (aE p 0 (uS z s)::aE q 0 [I l]::wU z.a4 z.c4 s.hJ::L)) (A:∀j,Hs G j (aE p 0 (uS z s)::aE q 0 [I l]::wU z.a4 z.c4 s.hJ::L)->Q (.tuple ⟨[]⟩) j):Cl Pr K 132 [.func (.yield l0) #[] #[],pt p 0 0,pt q 0 0] h Q:=by
 have loop:∀(f i:Nat) (h:AH),i+f=s.hJ.length->Hs G h (aE p 0 (uS z s)::aE q 0 [I l]::wU z.a4 z.c4 s.hJ::L)->Dd 132 1 [] Q [.func (.yield l0) #[] #[],pt q 0 0,.slice z.a4 s.hJ.length z.c4,I s.hJ.length,I i] h:=by
  intro f;induction f with
  |zero=>intro i h w d;exact bW (aS (aaa (A h d)))
  |succ f t=>
   intro i h w d;obtain⟨x,k,_⟩:=jY (l:=s.hJ) (i:=i) (by omega);have u:=B x (List.mem_of_getElem? k);refine bW (aS (aae (bW (jV (l:=s.hJ) (a:=z.a4) (c:=z.c4) (enc:=aH.enc) (e:=162) d (by decide) (by omega) (by rw[Int.toNat_natCast];exact k) (bM d fun r h d=>ax (b:=r) d fun h d=>?_)))));refine aA (am r d (v:=I x.kind) rfl (bJ (aZ (fun g=>?_) (fun g=>?_))));exact aA (am r d (v:=I x.line) rfl (am q d rfl (bJ (aJ (u g) (aad (t (i+1) h (by omega) d.to))))));exact aad (t (i+1) h (by omega) d.to)
 exact cW (aA (am p d rfl (bP (loop s.hJ.length 0 h (by omega) d))))
end
end Go.Proofs.YtmhapehobfnoiaaGreatDoor
end
namespace Go.Proofs.YtmhapehobfnoiaaGreatDoor
open Go Go.Ab Go.Hm Go.At Go.Mc Go.Ct Go.Nt Go.Is
section
theorem aCb {x y:Ln} {k:Value->Prop} (f:k (.bool (decide (x≠y)))) {e:Bool} (hc:e=true:=by kernel_rfl):Ny e [0,0] .neq (.agg ⟨oG x⟩) (.agg ⟨oG y⟩) k:=by
 refine⟨hc,_,by simp only[Md,qF,T7,oG];rfl,?_⟩;have:(!((x.1==y.1)&&((x.2==y.2)&&true)))=decide (x≠y):=by
  obtain⟨a,b⟩:=x;obtain⟨c,d⟩:=y;by_cases g:a=c<;>by_cases i:b=d<;>simp[g,i]
 rw[<-this] at f;exact f
set_option maxRecDepth 100000
attribute [local irreducible] bG Br ld1 uF uG B4 mA uX lK P3 hQ mY qG pZ pS lH zE uE Uh Ty Oa Mr Rk Ol Md Ny Rn lN oT sF iV copyV iJ wV Tu U3 Gk kX Mb Qq Sb nL rR xM zA Cl zB Ro sM sC jS fL setLoop cH
variable {G:Bg} {h:AH} {L L':List HP} {Q:Value->AH->Prop} {C:bN} {s:Sh} {z:Sz}
abbrev goX (p5 a b d l:Nat) (e:Nat->Value) (s:Sh) (z:Sz):HP:=sp [gF Pr 26 (gI 58) 43 e d l (.ready,none),aE p5 0 (uS z s),sp [aE a 0 [.bool false],aE b 0 [I 0]],xU z.a1 z.c1 s.qV,wU z.a4 z.c4 s.hJ]
theorem Zj {g:Nat} (hC:C.Ok) (hF:Fit C s) (R:(g:Int)<C.aQ) (A:Ob G 0 fJ) (hc:∀y∈s.qV,y.2.1≠((g*2:Nat):Int)/\y.2.1≠((g*2+1:Nat):Int)) (hn:∀y∈s.hJ,y.kind=8->y.line≠((g*2:Nat):Int)/\y.line≠((g*2+1:Nat):Int)) (D:∀y∈s.xQ,y.2.1≠g)
  (j:Hs G h (xU z.a1 z.c1 s.qV::Bz z.a2 z.c2 s.xQ::Rj z.a3 z.c3 s.cE::wU z.a4 z.c4 s.hJ::Ma z.a5 z.c5 s.mem::L)) (hk:∀P,Hs G P (xU z.a1 z.c1 s.qV::Bz z.a2 z.c2 s.xQ::Rj z.a3 z.c3 s.cE::wU z.a4 z.c4 s.hJ::Ma z.a5 z.c5 s.mem::L)->Q (.tuple ⟨[.bool true,I 0]⟩) P):
  Cl Pr K 26 [.agg ⟨C.enc⟩,.agg ⟨uS z s⟩,I g] h Q:=by
 have γ:=hF.l2
 refine cW (dF j fun p h j=>dF (cs:=uS z s) j fun u h j=>bM j fun k h j=>bM j fun t h j=>an p j (l:=C.enc) rfl rfl (an u j (l:=uS z s) rfl rfl ?_))
 have j:Hs G h (xU z.a1 z.c1 s.qV::Bz z.a2 z.c2 s.xQ::Rj z.a3 z.c3 s.cE::wU z.a4 z.c4 s.hJ::Ma z.a5 z.c5 s.mem::aE p 0 C.enc::aE u 0 (uS z s)::aE k 0 [.bool false]::aE t 0 [I 0]::L):=j.to
 refine M3 hC hF R A j fun h j=>bA (aaa (bW (an p j (l:=C.enc) rfl rfl (tK j fun W Y h j=>iR j fun d h j=>?_))))
 intro e he
 refine jI j fun l h j=>nF rfl ?_
 have j:=(j.cC (aE k 0 [.bool false]) (aE t 0 [I 0])).yS
 have j:=(j.cI (gF Pr 26 (gI 58) 43 e d l (.ready,none)) (aE u 0 (uS z s)) (sp [aE k 0 [.bool false],aE t 0 [I 0]]))
 have j:=((j.fX (gF Pr 26 (gI 58) 43 e d l (.ready,none)) (aE u 0 (uS z s)) (sp [aE k 0 [.bool false],aE t 0 [I 0]]) (xU z.a1 z.c1 s.qV)).Yc (wU z.a4 z.c4 s.hJ)).pk5
 have j:Hs G h (goX u k t d l e s z::_):=j
 have j:=j.front (sp [aE W 0 C.enc,aE Y 0 [I g]])
 refine(vU (C:=C) hC R (p:=W) (q:=Y) A).fold (X:=fun _=>goX u k t d l e s z) (Z:=fun _ _=>tX False) j ?_ ?_ ?_
 .intro done y h N S j;have U:y=g*2\/y=g*2+1:=by have:=S.subset (List.mem_append.2 (.inr (List.mem_singleton.2 rfl)));simpa using this
  have j:=j.un5
  have j:=j.front (sp [aE k 0 [.bool false],aE t 0 [I 0]])
  refine rW (oW (l:=l) j) he (fU (l:=l) j fun h j=>an u j (l:=uS z s) rfl rfl ?_)
  refine cW (dF (cs:=uS z s) j fun F h j=>dF (cs:=[I (y:Nat)]) j fun H h j=>Gg (l:=l) j ?_)
  intro e2 α
  refine jI j fun l2 h j=>nF rfl ?_
  have j:=j.cI (aE F 0 (uS z s)) (aE H 0 [I (y:Nat)]) (xU z.a1 z.c1 s.qV)
  refine Vw (l:=y) (p:=F) (q:=H) (z:=z) (s:=s) hF.l1 (fun w E=>by have:=hc w E;rcases U with rfl|rfl<;>omega) j fun h j=>jL (l:=l2) j fun h j=>jK ?_
  refine an u j (l:=uS z s) rfl rfl (cW (dF (cs:=uS z s) j fun J h j=>dF (cs:=[I (y:Nat)]) j fun O h j=>Gg (l:=l) j ?_))
  intro e3 β
  refine jI j fun l3 h j=>nF rfl ?_
  have j:=j.cI (aE J 0 (uS z s)) (aE O 0 [I (y:Nat)]) (wU z.a4 z.c4 s.hJ)
  refine Vz (l:=y) (p:=J) (q:=O) (z:=z) (s:=s) hF.l3 (fun w E B=>by have:=hn w E B;rcases U with rfl|rfl<;>omega) j fun h j=>jL (l:=l3) j fun h j=>jK (gM (l:=l) j fun h j=> .inl ⟨rfl,?_⟩)
  have j:=((j.fX (gF Pr 26 (gI 58) 43 e d l (.ready,none)) (aE u 0 (uS z s)) (sp [aE k 0 [.bool false],aE t 0 [I 0]]) (xU z.a1 z.c1 s.qV)).Yc (wU z.a4 z.c4 s.hJ)).pk5
  have j:Hs G h (goX u k t d l e s z::_):=j
  exact j.to
 .intro v h j;have j:=(j.front (goX u k t d l e s z)).un5;have j:=(j.front (sp [aE k 0 [.bool false],aE t 0 [I 0]])).zH;refine jL (l:=l) j fun h j=>jK (aA (am u j rfl (bP ?_)));have loop:∀(f i:Nat) (h:AH),i+f=s.xQ.length->Hs G h (Bz z.a2 z.c2 s.xQ::aE k 0 [.bool false]::aE t 0 [I 0]::mk d ()::xU z.a1 z.c1 s.qV::Rj z.a3 z.c3 s.cE::wU z.a4 z.c4 s.hJ::Ma z.a5 z.c5 s.mem::L)->Dd 26 3 [d] Q [I g,pt k 0 0,pt t 0 0,.slice z.a2 s.xQ.length z.c2,I s.xQ.length,I i] h:=by
   intro f;induction f with
   |zero=>
    intro i h hi j;refine bW (aS (aaa (ax (b:=k) j fun h j=>ax (b:=t) j fun h j=>kG (j.front (mk d ())) fun h j=>iU (am k j rfl (am t j rfl (hk h j.to))))))
   |succ f ih=>
    intro i h hi j;obtain⟨x,T,_⟩:=jY (l:=s.xQ) (i:=i) (by omega);have hb:=D x (List.mem_of_getElem? T);refine bW (aS (aae (bW (jV (l:=s.xQ) (a:=z.a2) (c:=z.c2) (enc:=z8) (e:=72) j (by decide) (by omega) (by rw[Int.toNat_natCast];exact T) (bM j fun r h j=>ax (b:=r) j fun h j=>?_)))));exact aA (am r j (v:=I x.2.1) rfl (bJ (aJ hb (bW (aad (ih (i+1) h (by omega) j.to))))))
  exact loop s.xQ.length 0 h (by omega) j.to
 .intro done y v h S j;obtain⟨hf,j⟩:=(j.front (tX False)).Vd;exact hf.elim
abbrev zeX (p5 a b d l:Nat) (e:Nat->Value) (s:Sh) (z:Sz) (st:LoopState×Option Code) (P:Prop):HP:=sp [tX P,gF Pr 27 (gI 58) 28 e d l st,aE p5 0 (uS z s),sp [aE a 0 [.bool false],aE b 0 [I 0]],Ma z.a5 z.c5 s.mem]
theorem Zo {g:Nat} {x y:Ln} (hC:C.Ok) (hF:Fit C s) (P:(g:Int)<C.aQ) (B:Ob G 0 fJ) (T:s.mem[g*2]?=some x) (U:s.mem[g*2+1]?=some y)
  (f:Hs G h (xU z.a1 z.c1 s.qV::Bz z.a2 z.c2 s.xQ::Rj z.a3 z.c3 s.cE::wU z.a4 z.c4 s.hJ::Ma z.a5 z.c5 s.mem::L)) (D:∀O,Hs G O (xU z.a1 z.c1 s.qV::Bz z.a2 z.c2 s.xQ::Rj z.a3 z.c3 s.cE::wU z.a4 z.c4 s.hJ::Ma z.a5 z.c5 s.mem::L)->Q (.tuple ⟨[.bool (decide (x=(0,0)/\y=(0,0))),I 0]⟩) O):
  Cl Pr K 27 [.agg ⟨C.enc⟩,.agg ⟨uS z s⟩,I g] h Q:=by
 have α:=(bN.eE hC)
 have R:=hF.mem
 refine cW (dF f fun p h f=>dF (cs:=uS z s) f fun t h f=>bM f fun j h f=>bM f fun k h f=>an p f (l:=C.enc) rfl rfl (an t f (l:=uS z s) rfl rfl ?_))
 have f:Hs G h (xU z.a1 z.c1 s.qV::Bz z.a2 z.c2 s.xQ::Rj z.a3 z.c3 s.cE::wU z.a4 z.c4 s.hJ::Ma z.a5 z.c5 s.mem::aE p 0 C.enc::aE t 0 (uS z s)::aE j 0 [.bool false]::aE k 0 [I 0]::L):=f.to
 refine M3 hC hF P B f fun h f=>bA (aaa (bW (an p f (l:=C.enc) rfl rfl (tK f fun W Y h f=>iR f fun d h f=>?_))))
 intro e he
 refine jI f fun l h f=>nF rfl ?_
 have at':∀{w:Nat},w=g*2\/w=g*2+1->s.mem[w]?=some (s.mem.getD w (0,0)):=fun E=>by
  rcases E with rfl|rfl;rw[List.getD_eq_getElem?_getD,T];rfl;rw[List.getD_eq_getElem?_getD,U];rfl
 have ex:s.mem.getD (g*2) (0,0)=x:=by rw[List.getD_eq_getElem?_getD,T];rfl
 have J:s.mem.getD (g*2+1) (0,0)=y:=by rw[List.getD_eq_getElem?_getD,U];rfl
 have f:=(f.cC (aE j 0 [.bool false]) (aE k 0 [I 0])).yS
 have f:=(f.fX (gF Pr 27 (gI 58) 28 e d l (.ready,none)) (aE t 0 (uS z s)) (sp [aE j 0 [.bool false],aE k 0 [I 0]]) (Ma z.a5 z.c5 s.mem)).El
 have f:=tC (show∀w∈([]:List Nat),s.mem.getD w (0,0)=(0,0) from fun _ h=>by cases h) f
 have f:Hs G h (zeX t j k d l e s z (.ready,none) (∀w∈([]:List Nat),s.mem.getD w (0,0)=(0,0))::_):=f
 have f:=f.front (sp [aE W 0 C.enc,aE Y 0 [I g]])
 refine(vU (C:=C) hC P (p:=W) (q:=Y) B).fold (X:=fun done=>zeX t j k d l e s z (.ready,none) (∀w∈done,s.mem.getD w (0,0)=(0,0))) (Z:=fun _ w=>zeX t j k d l e s z (.done,some .ret) (s.mem.getD w (0,0)≠(0,0)/\(w=g*2\/w=g*2+1))) f ?_ ?_ ?_
 .intro done w h N S f;have E:w=g*2\/w=g*2+1:=by have:=S.subset (List.mem_append.2 (.inr (List.mem_singleton.2 rfl)));simpa using this
  obtain⟨A,f⟩:=gH f
  have f:=f.Vg
  refine rW (oW (l:=l) f) he (fU (l:=l) f fun h f=>aA (am t f rfl (jV (l:=s.mem) (a:=z.a5) (c:=z.c5) (i:=(w:Int)) (enc:=oG) (e:=68) f (by decide) (by omega) (by rw[Int.toNat_natCast];exact at' E) (aN (c:=oG (0,0)) rfl (aCb (dG (fun F=>?_) (fun F=>?_)))))))
  .have f:=(f.front (sp [aE j 0 [.bool false],aE k 0 [I 0]])).zH;refine ax (b:=j) f fun h f=>ax (b:=k) f fun h f=>gM (l:=l) f fun h f=> .inr ⟨rfl,?_⟩;have f:=(f.cC (aE j 0 [.bool false]) (aE k 0 [I 0])).yS;have f:=(f.fX (gF Pr 27 (gI 58) 28 e d l (.done,some .ret)) (aE t 0 (uS z s)) (sp [aE j 0 [.bool false],aE k 0 [I 0]]) (Ma z.a5 z.c5 s.mem)).El;have f:=tC (show s.mem.getD w (0,0)≠(0,0)/\(w=g*2\/w=g*2+1) from⟨of_decide_eq_true F,E⟩) f;have f:Hs G h (zeX t j k d l e s z (.done,some .ret) (s.mem.getD w (0,0)≠(0,0)/\(w=g*2\/w=g*2+1))::_):=f;exact f.to
  .refine gM (l:=l) f fun h f=> .inl ⟨rfl,?_⟩;have f:=(f.fX (gF Pr 27 (gI 58) 28 e d l (.ready,none)) (aE t 0 (uS z s)) (sp [aE j 0 [.bool false],aE k 0 [I 0]]) (Ma z.a5 z.c5 s.mem)).El;have f:=tC (show∀u∈done++[w],s.mem.getD u (0,0)=(0,0) from fun u hu=>by
    rcases List.mem_append.1 hu with h1|h1;exact A u h1;rw[List.mem_singleton.1 h1];exact Decidable.not_not.1 (of_decide_eq_false F)) f
   have f:Hs G h (zeX t j k d l e s z (.ready,none) (∀u∈done++[w],s.mem.getD u (0,0)=(0,0))::_):=f
   exact f.to
 .intro v h f;obtain⟨A,f⟩:=gH (f.front (zeX t j k d l e s z (.ready,none) (∀w∈[g*2,g*2+1],s.mem.getD w (0,0)=(0,0))));have f:=f.Vg;have f:=(f.front (sp [aE j 0 [.bool false],aE k 0 [I 0]])).zH;have H:decide (x=(0,0)/\y=(0,0))=true:=decide_eq_true ⟨by rw[<-ex];exact A _ (by simp),by rw[<-J];exact A _ (by simp)⟩;rw[H] at D;exact jL (l:=l) f fun h f=>jK (ax (b:=j) f fun h f=>ax (b:=k) f fun h f=>kG (f.front (mk d ())) fun h f=>iU (am j f rfl (am k f rfl (D h f.to))))
 .intro done w v h S f;obtain⟨A,f⟩:=gH (f.front (zeX t j k d l e s z (.done,some .ret) (s.mem.getD w (0,0)≠(0,0)/\(w=g*2\/w=g*2+1))));have f:=f.Vg;have f:=(f.front (sp [aE j 0 [.bool false],aE k 0 [I 0]])).zH;have H:decide (x=(0,0)/\y=(0,0))=false:=decide_eq_false fun⟨h1,h2⟩=>by
   rcases A.2 with rfl|rfl;exact A.1 (ex.trans h1);exact A.1 (J.trans h2)
  rw[H] at D
  exact F0 f fun h f=>Wg (kG (f.front (mk d ())) fun h f=>iU (am j f rfl (am k f rfl (D h f.to))))
end
end Go.Proofs.YtmhapehobfnoiaaGreatDoor
section
open Go Go.Ab
attribute [local irreducible] bG Br ld1 uF uG B4 mA uX lK P3 hQ mY qG pZ pS lH zE uE Uh Ty Oa Mr Rk Ol Md Ny Rn lN oT sF iV copyV iJ wV Tu U3 Gk kX Mb Qq Sb nL rR xM zA Cl zB Ro sM sC jS fL setLoop cH
namespace Go.Proofs.YtmhapehobfnoiaaGreatDoor
open Go Go.Ab Go.Hm Go.At Go.Mc Go.Ct Go.Nt
section
set_option maxRecDepth 100000
variable {G:Bg} {h:AH} {L L':List HP} {Q:Value->AH->Prop} {Cf:bN} {m N:Nat} {M:cU}
end
end Go.Proofs.YtmhapehobfnoiaaGreatDoor
namespace Go.Proofs.YtmhapehobfnoiaaGreatDoor
open Go Go.Ab Go.Hm Go.At Go.Mc Go.Ct Go.Nt Go.Is
section
set_option maxRecDepth 100000
variable {G:Bg} {h:AH} {L L':List HP} {Q:Value->AH->Prop} {Cf:bN} {m m2:Nat} {M:cU}
def aBc (s:Sh):Prop:=s.qV.length<=100000/\s.xQ.length<=100000/\s.cE.length<=100000/\s.hJ.length<=100000/\s.mem.length<=100000
theorem Kr (hC:Cf.Ok) (d:Tq Cf M):aBc (tD Cf M):=by
 have u:=hC.1;have v:=hC.2.1;have o:=bN.eE hC;have a:Cf.aG.toNat<=8/\Cf.ways.toNat<=4:=by have:=hC;unfold bN.Ok at this;omega
 have g:∀i:Nat,i<Cf.aD.toNat->(yX Cf.aG.toNat (M.cG i).S).length<=32:=fun i w=>by
  rw[Ja];have e:=xJ (d.Mt i (by omega)).aG Cf.aG.toNat;have f:=Nat.mul_le_mul a.1 a.2;omega
 have e:=Gq (n:=Cf.aG.toNat) (X:=M.cG) (b:=32) g;have f:=Fs (X:=M.cA) (b:=100) (k:=Cf.aD.toNat) fun j x=>d.nC j (by omega);have p:=Ik d.iC (4*Cf.aD.toNat);have q:=d.kJ;have t:((List.range Cf.lines).map fun i=>(M.home i).2).length=Cf.lines:=by simp
 unfold aBc tD;dsimp only;omega
end
end Go.Proofs.YtmhapehobfnoiaaGreatDoor
end
namespace Go.Pc
open Go Go.Ab Go.Hm Go.Ct
section
structure CL where
 st:Int
 d:Ln
 pL:Bool
 aw:Bool
 gi:Bool
 gs:Int
 gd:Ln
abbrev ui:=Nat->CL
def isN (k:Int) (i l:Nat) (n:aH):Bool:=decide (n.kind=k/\n.core=(i:Int)/\n.line=(l:Int))
def eQ (k:Int) (i l:Nat) (N:List aH):Nat:=N.countP (isN k i l)
theorem cR {k:Int} {i l:Nat} {n:aH} {N:List aH}:eQ k i l (n::N)=eQ k i l N+if n.kind=k/\n.core=(i:Int)/\n.line=(l:Int) then 1 else 0:=by
 unfold eQ isN;rw[List.countP_cons];simp only[decide_eq_true_eq]
theorem C7 {k:Int} {i l:Nat} {M N:List aH}:eQ k i l (M++N)=eQ k i l M+eQ k i l N:=List.countP_append
theorem Zv {k:Int} {i l:Nat}:eQ k i l []=0:=rfl
theorem vc {k:Int} {i l:Nat} {M N:List aH} (h:M.Perm N):eQ k i l M=eQ k i l N:=h.countP_eq _
theorem Hu {k:Int} {i l:Nat} {N:List aH} (h:0<eQ k i l N):∃n∈N,n.kind=k/\n.core=(i:Int)/\n.line=(l:Int):=by
 unfold eQ at h;obtain⟨n,b,a⟩:=List.countP_pos_iff.1 h;exact⟨n,b,of_decide_eq_true a⟩
theorem fN {k:Int} {i l:Nat} {N:List aH} {n:aH} (h:n∈N) (a:n.kind=k) (b:n.core=(i:Int)) (d:n.line=(l:Int)):0<eQ k i l N:=
 List.countP_pos_iff.2 ⟨n,h,decide_eq_true ⟨a,b,d⟩⟩
def tV (c:CL) (p:Nat):Int:=if c.st≠0 then c.st else if c.gi=true/\0<p then c.gs else 0
def sW (c:CL):Ln:=if c.st≠0 then c.d else c.gd
def pd (l:Nat) (r:Row) (N:List aH) (i:Nat):Nat:=eQ 3 i l N+eQ 3 i l r.waits
def HH (l:Nat) (r:Row) (c:ui) (N:List aH) (i:Nat):Int:=tV (c i) (pd l r N i)
def zR (r:Row) (i:Nat):Nat:=if r.busy=true/\r.granted=false/\r.served.kind≠0/\r.served.core=(i:Int) then 1 else 0
def vY (r:Row) (i:Nat):Nat:=if r.granted=true/\r.served.core=(i:Int) then 1 else 0
structure Inv (l:Nat) (r:Row) (m V:Ln) (c:ui) (N:List aH):Prop where
 row:rJ l r
 ks:r.busy=true->r.served.kind=0\/r.served.kind=1\/r.served.kind=2
 kg:r.granted=true->r.served.kind≠0
 told:r.told=true->r.granted=true
 nc:∀n∈N,n.line=l/\0<=n.core/\n.core<4
 ex:∀i,i<4->(c i).st≠0\/(c i).pL=true->(c i).gi=false
 uC:∀i,i<4->(0<=(c i).st/\(c i).st<=4)/\(0<=(c i).gs/\(c i).gs<=4)
 t1:∀i,i<4->eQ 1 i l N+eQ 2 i l N+eQ 1 i l r.waits+eQ 2 i l r.waits+zR r i+eQ 8 i l N+eQ 9 i l N=(c i).pL.toNat
 t2:∀i,i<4->eQ 3 i l N+eQ 3 i l r.waits+eQ 10 i l N=(c i).gi.toNat
 t3:∀i,i<4->eQ 11 i l N+eQ 5 i l N=(r.asked i).toNat
 t4:∀i,i<4->eQ 8 i l N+eQ 4 i l N=vY r i
 a1:∀i,i<4->(c i).pL=true->HH l r c N i≠2/\HH l r c N i≠4
 a2:∀i,i<4->(c i).pL=true->(c i).aw=false->HH l r c N i=0
 rq:∀n,n∈N\/n∈r.waits->n.kind=1\/n.kind=2->(n.kind=2↔(c n.core.toNat).aw=true)
 rs:r.busy=true->r.granted=false->r.served.kind≠0->(r.served.kind=2↔(c r.served.core.toNat).aw=true)
 c1:∀i,i<4->eQ 5 i l N=0->eQ 8 i l N=0->(HH l r c N i=1↔r.sh i=true)/\(2<=HH l r c N i↔r.owner=(i:Int))
 c2:∀i,i<4->HH l r c N i=2\/HH l r c N i=4->∀j,j<4->j≠i->HH l r c N j=0
 zW:∀i,i<4->HH l r c N i=2\/HH l r c N i=4->∀n∈N,n.kind=5->n.jX=false
 gN:∀n∈N,n.kind=8->(n.state=1\/n.state=2\/n.state=4)/\(n.state=4↔(c n.core.toNat).aw=true)/\
  (n.state=1->r.sh n.core.toNat=true/\HH l r c N n.core.toNat=0/\∀j,j<4->HH l r c N j≠2/\HH l r c N j≠4)/\
  (n.state≠1->r.owner=n.core/\∀j:Nat,j<4->r.sh j=false/\((j:Int)≠n.core->HH l r c N j=0))/\
  (n.state=2->HH l r c N n.core.toNat=0)/\(HH l r c N n.core.toNat=0->(n.d0,n.d1)=V)
 pN:∀n∈N,n.kind=11->n.state=(if r.served.kind=1 then 1 else 0)/\(r.sh n.core.toNat=true\/r.owner=n.core)/\(r.served.kind=1->r.owner=n.core)
 rN:∀n∈N,n.kind=5->(r.served.kind≠1->HH l r c N n.core.toNat=0)/\
  (r.served.kind=1->r.owner=n.core/\n.state=HH l r c N n.core.toNat/\((n.state=1/\n.jX=false)\/(n.state=3/\n.jX=true)))/\(n.jX=true->(n.d0,n.d1)=V)
 uN:∀n,n∈N\/n∈r.waits->n.kind=3->(n.d0,n.d1)=(c n.core.toNat).gd/\((c n.core.toNat).gs=3\/(c n.core.toNat).gs=4->n.jX=true)
 c3:∀i,i<4->HH l r c N i≠0->sW (c i)=V
 c5:(∀i,i<4->HH l r c N i≠3/\HH l r c N i≠4)->(∀n∈N,n.kind=5->n.jX=false)->m=V
 k2:r.busy=true->r.granted=false->r.served.kind≠1->∀j:Nat,j<4->(r.served.kind=2->(j:Int)≠r.served.core)->r.sh j=true\/r.owner=(j:Int)->r.asked j=true
variable {l:Nat} {r:Row} {m V:Ln} {c:ui} {N N':List aH}
theorem Inv.perm (h:Inv l r m V c N) (p:N.Perm N'):Inv l r m V c N':=by
 have e:∀k i,eQ k i l N'=eQ k i l N:=fun k i=>(vc p).symm;have a:∀i,HH l r c N' i=HH l r c N i:=fun i=>by unfold HH pd;rw[e]
 have em:∀n,n∈N'↔n∈N:=fun n=>p.symm.mem_iff;constructor;exact h.row;exact h.ks;exact h.kg;exact h.told;intro n d;exact h.nc n ((em n).1 d);exact h.ex;exact h.uC;intro i b;simp only[e];exact h.t1 i b;intro i b;simp only[e];exact h.t2 i b;intro i b;simp only[e];exact h.t3 i b;intro i b;simp only[e];exact h.t4 i b;simp only[a];exact h.a1;simp only[a];exact h.a2;simp only[em];exact h.rq;exact h.rs;simp only[e,a];exact h.c1;simp only[a];exact h.c2;simp only[a,em];exact h.zW;simp only[a,em];exact h.gN;simp only[em];exact h.pN;simp only[a,em];exact h.rN;simp only[em];exact h.uN;simp only[a];exact h.c3;simp only[a,em];exact h.c5;exact h.k2
end
section
variable {l:Nat} {r:Row} {m V:Ln} {c:ui} {N:List aH} {n:aH}
theorem fK (h:0<=n.core/\n.core<4):∃i:Nat,i<4/\n.core=(i:Int)/\n.core.toNat=i:=⟨n.core.toNat,by omega,by omega,rfl⟩
theorem Inv.aDc (h:Inv l r m V c (n::N)) (y:n.kind=1\/n.kind=2\/n.kind=3):Inv l (r.wait n) m V c N:=by
 have o:=h.nc n (by simp);have j:∀k i,eQ k i l (r.wait n).waits=eQ k i l r.waits+if n.kind=k/\n.core=(i:Int)/\n.line=(l:Int) then 1 else 0:=fun k i=>by
  show eQ k i l (r.waits++[n])=_;rw[C7,cR,Zv];omega
 have d:∀i,HH l (r.wait n) c N i=HH l r c (n::N) i:=fun i=>by
  unfold HH pd;rw[j,cR];congr 1;omega
 have e:∀k i,(k=4\/k=5\/k=8\/k=9\/k=10\/k=11)->eQ k i l (n::N)=eQ k i l N:=fun k i q=>by
  rw[cR,aab];omega
 have em:∀x,x∈N->x∈n::N:=fun x a=>List.mem_cons_of_mem _ a;have f:∀x,x∈(r.wait n).waits↔x∈r.waits\/x=n:=fun x=>by
  show x∈r.waits++[n]↔_;simp
 have t:∀i,zR (r.wait n) i=zR r i:=fun _=>rfl;have u:∀i,vY (r.wait n) i=vY r i:=fun _=>rfl;constructor;exact Bb h.row o.1 o.2 (by omega);exact h.ks;exact h.kg;exact h.told;intro x a;exact h.nc x (em x a);exact h.ex;exact h.uC;intro i b;have:=h.t1 i b;rw[e 8 i (by omega),e 9 i (by omega),cR (k:=1),cR (k:=2)] at this;grind;intro i b;have:=h.t2 i b;rw[e 10 i (by omega),cR (k:=3)] at this;rw[j];omega;intro i b;have:=h.t3 i b;rw[e 11 i (by omega),e 5 i (by omega)] at this;exact this;intro i b;have:=h.t4 i b;grind;simp only[d];exact h.a1;simp only[d];exact h.a2;intro x a;refine h.rq x ?_;rw[f] at a;grind;exact h.rs;intro i b w p;rw[d];exact h.c1 i b (by grind) (by rw[e 8 i (by omega)];exact p);simp only[d];exact h.c2;simp only[d];exact fun i b g x a=>h.zW i b g x (em x a);simp only[d];exact fun x a=>h.gN x (em x a);exact fun x a=>h.pN x (em x a);simp only[d];exact fun x a=>h.rN x (em x a);intro x a;refine h.uN x ?_;rw[f] at a;grind;simp only[d];exact h.c3;simp only[d];exact fun g v=>h.c5 g (fun x a=>by grind);exact h.k2
theorem Inv.wg (h:Inv l r m V c (n::N)) (K:n.kind=4):r.granted=true/\r.served.core=n.core/\Inv l r.free m V c N:=by
 have y:=h.nc n (by simp);obtain⟨i0,v,u,J⟩:=fK y.2;have A:vY r i0=1:=by
  have:=h.t4 i0 v;rw[cR (k:=4),aKj ⟨K,u,y.1⟩] at this;have:vY r i0<=1:=by unfold vY;split<;>omega
  omega
 have o:r.granted=true/\r.served.core=n.core:=by unfold vY at A;split at A<;>grind
 refine⟨o.1,o.2,?_⟩;have B:=h.row.still (.inl o.1);have I:∀i,i<4->r.asked i=false:=fun i f=>by
  unfold Row.quiet at B;grind
 have d:∀k i,k≠4->eQ k i l (n::N)=eQ k i l N:=fun k i O=>by
  rw[cR,aab];omega
 have p:∀i,HH l r.free c N i=HH l r c (n::N) i:=fun i=>by
  unfold HH pd;rw[d 3 i (by omega)];rfl
 have em:∀x,x∈N->x∈n::N:=fun x a=>List.mem_cons_of_mem _ a;have D:∀x∈N,x.kind≠5/\x.kind≠11:=fun x a=>by
  have b:=h.nc x (em x a);obtain⟨j,w,g,_⟩:=fK b.2;have t:=h.t3 j w;rw[I j w,d 11 j (by omega),d 5 j (by omega)] at t;refine⟨fun e=>?_,fun e=>?_⟩;have:=fN a e g b.1;simp at t;omega;have:=fN a e g b.1;simp at t;omega
 have E:∀i,i<4->eQ 8 i l N=0/\eQ 4 i l N=0:=fun i f=>by
  have:=h.t4 i f;rw[d 8 i (by omega),cR (k:=4)] at this;unfold vY at this;grind
 have F:∀x∈N,x.kind≠8:=fun x a e=>by
  have b:=h.nc x (em x a);obtain⟨j,w,g,_⟩:=fK b.2;have:=fN a e g b.1;grind
 constructor;exact A9 h.row B;intro e;cases e;intro e;cases e;intro e;cases e;intro x a;exact h.nc x (em x a);exact h.ex;exact h.uC;intro i f;have:=h.t1 i f;rw[d 1 i (by omega),d 2 i (by omega),d 8 i (by omega),d 9 i (by omega)] at this;have H:zR r i=0:=by unfold zR;rw[aKi (by rw[o.1];simp)]
 have q:zR r.free i=0:=by unfold zR Row.free;simp
 rw[H] at this;rw[q];exact this;intro i f;have:=h.t2 i f;rw[d 3 i (by omega),d 10 i (by omega)] at this;exact this;intro i f;have:=h.t3 i f;rw[d 11 i (by omega),d 5 i (by omega)] at this;exact this;intro i f;have:=E i f;unfold vY Row.free;simp;omega;simp only[p];exact h.a1;simp only[p];exact h.a2;intro x a;exact h.rq x (a.imp (em x) id);intro e;cases e;intro i f R S;rw[p];exact h.c1 i f (by grind) (by grind);simp only[p];exact h.c2;grind;grind;grind;exact fun x a e=>absurd e (D x a).1;intro x a;exact h.uN x (a.imp (em x) id);simp only[p];exact h.c3;simp only[p];exact fun q P=>h.c5 q (fun x a=>by grind);intro e;cases e
theorem Inv.aJh {i:Nat} (h:Inv l r m V c (n::N)) (K:n.kind=9) (y:i<4) (w:n.core=(i:Int)):(c i).pL=true/\Inv l r m V (aX c i {c i with pL:=false,aw:=false}) N:=by
 have J:=h.nc n (by simp);have has:(c i).pL=true:=by
  have:=h.t1 i y;rw[cR (k:=9),aKj ⟨K,w,J.1⟩] at this;cases D:(c i).pL with
  |true=>rfl
  |false=>grind
 refine⟨has,?_⟩;have em:∀x,x∈N->x∈n::N:=fun x a=>List.mem_cons_of_mem _ a;have q:∀k j,k≠9->eQ k j l (n::N)=eQ k j l N:=fun k j P=>by
  rw[cR,aab];omega
 have R:eQ 1 i l N=0/\eQ 2 i l N=0/\eQ 1 i l r.waits=0/\eQ 2 i l r.waits=0/\zR r i=0/\eQ 8 i l N=0/\eQ 9 i l N=0:=by
  have:=h.t1 i y;rw[q 1 i (by omega),q 2 i (by omega),q 8 i (by omega),cR (k:=9),aKj ⟨K,w,J.1⟩,has] at this;grind
 have o:∀j,HH l r (aX c i {c i with pL:=false,aw:=false}) N j=HH l r c (n::N) j:=fun j=>by
  unfold HH pd;rw[q 3 j (by omega)];unfold aX;split;rename_i e;subst e;rfl;rfl
 have t:∀j,(aX c i {c i with pL:=false,aw:=false}) j=if j=i then {c i with pL:=false,aw:=false} else c j:=fun j=>rfl
 have O:∀j,sW ((aX c i {c i with pL:=false,aw:=false}) j)=sW (c j):=fun j=>by rw[t];split<;>simp_all [sW]
 have f:∀j,((aX c i {c i with pL:=false,aw:=false}) j).gd=(c j).gd/\((aX c i {c i with pL:=false,aw:=false}) j).gs=(c j).gs/\((aX c i {c i with pL:=false,aw:=false}) j).gi=(c j).gi/\((aX c i {c i with pL:=false,aw:=false}) j).st=(c j).st:=fun j=>by grind
 have A:∀x,x∈N\/x∈r.waits->x.kind=1\/x.kind=2\/x.kind=8->x.core.toNat≠i:=by
  intro x a B e;have v:x.line=l/\0<=x.core/\x.core<4:=by
   rcases a with a|a;exact h.nc x (em x a);have:=h.row.waits x a;grind
  have u:x.core=(i:Int):=by omega
  rcases a with a|a;rcases B with p|p|p<;>(have:=fN a p u v.1;omega);have X:=(h.row.waits x a).2.2;rcases B with p|p|p;have:=fN a p u v.1;omega;have:=fN a p u v.1;omega;omega
 constructor;exact h.row;exact h.ks;exact h.kg;exact h.told;intro x a;exact h.nc x (em x a);intro j d a;rw[(f j).2.2.1];rw[(f j).2.2.2,t] at a;refine h.ex j d ?_;grind;intro j d;rw[(f j).2.2.2,(f j).2.1];exact h.uC j d;intro j d;have:=h.t1 j d;rw[q 1 j (by omega),q 2 j (by omega),q 8 j (by omega),cR (k:=9)] at this;grind;intro j d;have:=h.t2 j d;grind;intro j d;have:=h.t3 j d;grind;intro j d;have:=h.t4 j d;grind;intro j d D;rw[o];refine h.a1 j d ?_;rw[t] at D;grind;intro j d D v;rw[o];rw[t] at D v;refine h.a2 j d ?_ ?_<;>grind;intro x a F;rw[t,aKi (A x a (by omega))];exact h.rq x (a.imp (em x) id) F;intro b g S;have:=R.2.2.2.2.1;unfold zR at this;rw[t,aKi (fun e=>by have:=h.row.core;grind)];exact h.rs b g S;intro j d U W;rw[o];exact h.c1 j d (by grind) (by grind);simp only[o];exact h.c2;simp only[o];exact fun j d E x a=>h.zW j d E x (em x a);intro x a I;simp only[o];rw[t,aKi (A x (.inl a) (by omega))];exact h.gN x (em x a) I;exact fun x a=>h.pN x (em x a);simp only[o];exact fun x a=>h.rN x (em x a);intro x a H;rw[(f _).1,(f _).2.1];exact h.uN x (a.imp (em x) id) H;intro j d;rw[o,O];exact h.c3 j d;simp only[o];exact fun E T=>h.c5 E (fun x a=>by grind);exact h.k2
end
section
variable {l:Nat} {r:Row} {m V:Ln} {c:ui} {N:List aH} {n:aH}
theorem fB {α:Type} {f:Nat->α} {i:Nat} {x:α}:aX f i x i=x:=by unfold aX;rw[aKj rfl]
theorem cX {α:Type} {f:Nat->α} {i j:Nat} {x:α} (h:j≠i):aX f i x j=f j:=by unfold aX;rw[aKi h]
theorem Inv.aF2 {i:Nat} (h:Inv l r m V c (n::N)) (F:n.kind=10) (b:i<4) (t:n.core=(i:Int)) {gd':Ln} {gs':Int} (E:gs'=0):(c i).gi=true/\Inv l r m V (aX c i {c i with gi:=false,gs:=gs',gd:=gd'}) N:=by
 have D:=h.nc n (by simp);have o:∀k j,eQ k j l (n::N)=eQ k j l N+if k=10/\j=i then 1 else 0:=fun k j=>by
  rw[cR];grind
 have f:(c i).gi=true:=by have:=h.t2 i b;grind
 refine⟨f,?_⟩;have g:eQ 3 i l N=0/\eQ 3 i l r.waits=0:=by have:=h.t2 i b;grind
 have em:∀x,x∈N->x∈n::N:=fun x a=>List.mem_cons_of_mem _ a;have v:=h.ex i b;have d:∀j,HH l r (aX c i {c i with gi:=false,gs:=gs',gd:=gd'}) N j=HH l r c (n::N) j:=fun j=>by
  unfold HH pd;rw[o 3 j,aab];by_cases e:j=i;subst e;rw[fB,g.1,g.2];simp[tV];rw[cX e];rfl
 have y:∀j,HH l r c (n::N) j≠0->sW ((aX c i {c i with gi:=false,gs:=gs',gd:=gd'}) j)=sW (c j):=fun j u=>by
  by_cases e:j=i;subst e;rw[fB];unfold sW;simp only;split<;>try rfl
  rename_i p;exfalso;apply u;rw[<-d,HH,fB];simp[tV,p];rw[cX e]
 have B:∀x,x∈N\/x∈r.waits->x.kind=3->x.core.toNat≠i:=fun x a k e=>by
  rcases a with a|a;have:=h.nc x (em x a);have:=fN a k (i:=i) (by omega) this.1;omega;have:=h.row.waits x a;have:=fN a k (i:=i) (by omega) this.1;omega
 constructor;exact h.row;exact h.ks;exact h.kg;exact h.told;grind [h.nc];have:=h.ex;grind [aX];have:=h.uC;grind [aX];have:=h.t1;grind [aX];have:=h.t2;grind [aX];have:=h.t3;grind [aX];have:=h.t4;grind [aX];have:=h.a1;grind [aX];have:=h.a2;grind [aX];have:=h.rq;grind [aX];have:=h.rs;grind [aX];have:=h.c1;grind [aX];have:=h.c2;grind [aX];have:=h.zW;grind [aX];intro x a w;simp only[d];have:=h.gN x (em x a) w;grind [aX];have:=h.pN;grind [aX];have:=h.rN;grind [aX];have:=h.uN;grind [aX];have:=h.c3;grind;simp only[d];exact fun q A=>h.c5 q (by grind);have:=h.k2;grind [aX]
theorem fZ (h:r.quiet=true) {i:Nat} (a:i<4):r.asked i=false:=by
 unfold Row.quiet at h;grind
theorem Inv.bd (h:Inv l r m V c N) {x:aH} (a:x∈N\/x∈r.waits):x.line=l/\0<=x.core/\x.core<4:=by
 rcases a with a|a;exact h.nc x a;have:=h.row.waits x a;grind
theorem Inv.none (h:Inv l r m V c N) {k:Int} {i:Nat} (d:eQ k i l N=0) {x:aH} (a:x∈N) (b:x.kind=k):x.core≠(i:Int):=fun e=>by
 have:=fN a b e (h.nc x a).1;omega
theorem Inv.calm (h:Inv l r m V c N) (i:r.quiet=true) {x:aH} (f:x∈N):x.kind≠5/\x.kind≠11:=by
 have d:=h.nc x f;obtain⟨j,g,a,_⟩:=fK d.2;have b:=h.t3 j g;rw[fZ i g] at b;refine⟨fun e=>?_,fun e=>?_⟩;have:=fN f e a d.1;simp at b;omega;have:=fN f e a d.1;simp at b;omega
theorem Inv.no8 (h:Inv l r m V c N) {i:Nat} (a:i<4) (e:vY r i=0) {x:aH} (d:x∈N) (b:x.kind=8):x.core≠(i:Int):=
 h.none (by have:=h.t4 i a;omega) d b
theorem Inv.own (h:Inv l r m V c N) {i:Nat} (g:i<4) (f:2<=HH l r c N i):r.owner=(i:Int):=by
 by_cases b:eQ 5 i l N=0;by_cases d:eQ 8 i l N=0;exact((h.c1 i g b d).2).1 f;obtain⟨x,a,k,e,_⟩:=Hu (Nat.pos_of_ne_zero d);have:=h.gN x a k;grind;obtain⟨x,a,k,e,_⟩:=Hu (Nat.pos_of_ne_zero b);have:=h.rN x a k;grind
def yN (i:Int) (l:Nat):aH:=⟨4,i,l,0,0,0,0,false,0⟩
theorem Inv.granted {i:Nat} (h:Inv l r m V c (n::N)) (J:n.kind=8) (b:i<4) (D:n.core=(i:Int)) {d':Ln} (S:d'=if(c i).st≠0 then(c i).d else(n.d0,n.d1)):
  ((c i).pL=true/\(c i).gi=false/\(n.state=1\/n.state=2\/n.state=4))/\Inv l r m V (aX c i {c i with st:=n.state,d:=d',pL:=false,aw:=false}) (yN i l::N):=by
 have R:=h.nc n (by simp)
 have o:∀k j,eQ k j l (n::N)=eQ k j l N+if k=8/\j=i then 1 else 0:=fun k j=>by
  rw[cR];congr 1;simp only[J,D,R.1];grind
 have w:∀k j,eQ k j l (yN i l::N)=eQ k j l N+if k=4/\j=i then 1 else 0:=fun k j=>by
  rw[cR];congr 1;simp only[yN];grind
 have T:r.granted=true/\r.served.core=(i:Int):=by
  have:=h.t4 i b;rw[o,o] at this;simp at this;unfold vY at this;grind
 have has:(c i).pL=true:=by have:=h.t1 i b;rw[o 8] at this;cases a:(c i).pL<;>simp_all
 have p:=h.ex i b (.inr has)
 have H:=h.gN n (by simp) J
 refine⟨⟨has,p,H.1⟩,?_⟩
 have W:=h.row.still (.inl T.1)
 have B:=fun x a=>h.calm W (x:=x) a
 have hz:eQ 1 i l N=0/\eQ 2 i l N=0/\eQ 1 i l r.waits=0/\eQ 2 i l r.waits=0/\eQ 8 i l N=0/\eQ 4 i l N=0/\eQ 9 i l N=0:=by
  have:=h.t1 i b;have q:=h.t4 i b;simp only[o,has] at this q;unfold vY at q;simp at this q;split at q<;>omega
 have h3:eQ 3 i l N=0/\eQ 3 i l r.waits=0:=by have:=h.t2 i b;simp only[o,p] at this;simp at this;omega
 have em:∀x,x∈N->x∈n::N:=fun x a=>List.mem_cons_of_mem _ a
 have e8:∀x∈N,x.kind≠8:=fun x a k=>by
  have u:=h.nc x (em x a);obtain⟨j,g,E,_⟩:=fK u.2;have q:=h.t4 j g;have:=fN a k E u.1;simp only[o] at q;by_cases e:j=i;subst e;omega;have:vY r j=0:=by unfold vY;rw[aKi (fun Z=>e (by omega))]
  omega
 generalize hC:aX c i {c i with st:=n.state,d:=d',pL:=false,aw:=false}=c'
 have ci:c' i={c i with st:=n.state,d:=d',pL:=false,aw:=false}:=by rw[<-hC,fB]
 have v:∀j,j≠i->c' j=c j:=fun j e=>by rw[<-hC,cX e]
 have I:∀j,(c' j).gi=(c j).gi/\(c' j).gs=(c j).gs/\(c' j).gd=(c j).gd:=fun j=>by by_cases e:j=i<;>grind
 have y:HH l r c' (yN i l::N) i=n.state:=by
  unfold HH;rw[ci];unfold tV;rw[aKj (by simp only;omega)]
 have A:HH l r c (n::N) i=(c i).st:=by unfold HH tV;rw[p];simp;omega
 have K:∀j,j≠i->HH l r c' (yN i l::N) j=HH l r c (n::N) j:=fun j e=>by
  unfold HH pd;rw[o 3 j,w 3 j,aab,aab,v j e]
 have F:sW (c' i)=V:=by
  rw[ci];unfold sW;rw[aKj (by simp only;omega)];simp only[S];split;rename_i e;have:=h.c3 i b (by rw[A];exact e);unfold sW at this;grind;grind
 constructor
 case row=>exact h.row
 case ks=>exact h.ks
 case kg=>exact h.kg
 case told=>exact h.told
 case nc=>intro x a;rcases List.mem_cons.1 a with rfl|a;exact⟨rfl,by simp only[yN];omega⟩;exact h.nc x (em x a)
 case ex=>have:=h.ex;grind
 case uC=>have:=h.uC;grind
 case t1=>
  intro j g
  have O:=h.t1 j g
  grind
 case t2=>have:=h.t2;grind
 case t3=>have:=h.t3;grind
 case t4=>have:=h.t4;grind
 case a1=>have:=h.a1;grind
 case a2=>have:=h.a2;grind
 case rq=>
  intro x a t
  have f:x∈N\/x∈r.waits:=a.imp (fun h=>by rcases List.mem_cons.1 h with rfl|h;simp[yN] at t;exact h) id
  have u:=h.bd (f.imp (em x) id)
  have U:x.core≠(i:Int):=by
   rcases f with a|a<;>rcases t with t|t<;>(intro e;have:=fN a t e u.1;omega)
  rw[v _ (by omega)];exact h.rq x (f.imp (em x) id) t
 case rs=>grind
 case c1=>
  intro j g h5 h8
  by_cases e:j=i
  .subst e;rw[y];have:=h.row.apart j g;grind
  .rw[K j e];exact h.c1 j g (by grind) (by grind)
 case c2=>
  grind
 case zW=>intro j g P x a X;rcases List.mem_cons.1 a with rfl|a;simp[yN] at X;grind
 case gN=>intro x a Y;rcases List.mem_cons.1 a with rfl|a;simp[yN] at Y;grind
 case pN=>intro x a k;rcases List.mem_cons.1 a with rfl|a;simp[yN] at k;grind
 case rN=>intro x a k;rcases List.mem_cons.1 a with rfl|a;simp[yN] at k;grind
 case uN=>
  intro x a k
  have f:x∈N\/x∈r.waits:=a.imp (fun h=>by rcases List.mem_cons.1 h with rfl|h;simp[yN] at k;exact h) id
  rw[(I _).2.1,(I _).2.2];exact h.uN x (f.imp (em x) id) k
 case c3=>
  intro j g h0
  by_cases e:j=i
  .subst e;exact F
  .rw[v j e];exact h.c3 j g (by grind)
 case c5=>
  intro O P
  refine h.c5 (fun j g=>?_) (fun x a=>?_)
  .grind
  grind
 grind
end
section
variable {l:Nat} {r:Row} {m V:Ln} {c:ui} {N:List aH} {n:aH}
theorem Nk {c:CL} {p:Nat} (h:tV c p≠0) (a:c.st=0):c.gi=true/\0<p/\tV c p=c.gs:=by
 unfold tV at h ⊢;rw[aKi (by simpa using a)] at h ⊢;split at h;rename_i e;rw[aKj e];exact⟨e.1,e.2,rfl⟩;exact absurd rfl h
theorem Inv.found {i:Nat} (h:Inv l r m V c (n::N)) (j:n.kind=11) (a:i<4) (b:n.core=(i:Int)):
  r.asked i=true/\r.granted=false/\r.busy=true/\HH l r c (n::N) i≠0/\(n.state=0\/n.state=1)/\((c i).st≠0\/((c i).st=0/\(c i).gi=true)):=by
 have u:=h.nc n (by simp)
 have o:0<eQ 11 i l (n::N):=fN (by simp) j b u.1
 have t:r.asked i=true:=by have:=h.t3 i a;grind
 have g:r.granted=false:=by
  cases g:r.granted with
  |false=>rfl
  |true=>have:=fZ (h.row.still (.inl g)) a;grind
 have f:r.busy=true:=by
  cases f:r.busy with
  |true=>rfl
  |false=>have:=fZ (h.row.still (.inr f)) a;grind
 have k:HH l r c (n::N) i≠0:=by
  have p:eQ 5 i l (n::N)=0:=by have:=h.t3 i a;grind
  have q:eQ 8 i l (n::N)=0:=by have:=h.t4 i a;unfold vY at this;grind
  have:=h.c1 i a p q;have d:=(h.pN n (by simp) j).2.1;rw[b,Int.toNat_natCast] at d;rcases d with d|d;grind;grind
 refine⟨t,g,f,k,?_,?_⟩
 .have:=(h.pN n (by simp) j).1;grind
 .by_cases e:(c i).st=0
  .exact .inr ⟨e,(Nk k e).1⟩
  .exact .inl e
theorem Yu {x to:Int} (b:1<=x/\x<=4) (a:to=0\/to=1):(to=0->gC x to=0)/\(to=1->gC x to=1\/gC x to=3)/\(to=1->2<=x->x=2/\gC x to=1\/(x=3\/x=4)/\gC x to=3)/\(gC x to=3->x=3\/x=4):=by
 unfold gC Ie;grind
theorem Inv.aC9 {i:Nat} {a:CL} {y:aH} (h:Inv l r m V c (n::N)) (U:n.kind=11) (o:i<4) (I:n.core=(i:Int))
  (K:a.pL=(c i).pL/\a.aw=(c i).aw/\a.gi=(c i).gi/\a.gd=(c i).gd)
  (B:(c i).st≠0->a.st=gC (c i).st n.state/\(a.st≠0->a.d=(c i).d)/\a.gs=(c i).gs)
  (A:(c i).st=0->a.st=0/\a.gs=gC (c i).gs n.state)
  (P:y.kind=5/\y.core=(i:Int)/\y.line=l/\y.state=gC (HH l r c (n::N) i) n.state/\(y.jX=true↔HH l r c (n::N) i=3\/HH l r c (n::N) i=4)/\(y.jX=true->(y.d0,y.d1)=sW (c i))):
  Inv l r m V (aX c i a) (y::N):=by
 have hc:=h.nc n (by simp)
 obtain⟨ha,hg,H,t,D,hw⟩:=h.found U o I
 have X:∀k j,eQ k j l (n::N)=eQ k j l N+if k=11/\j=i then 1 else 0:=fun k j=>by
  rw[cR];grind
 have F:∀k j,eQ k j l (y::N)=eQ k j l N+if k=5/\j=i then 1 else 0:=fun k j=>by
  rw[cR];grind
 have em:∀x,x∈N->x∈n::N:=fun x b=>List.mem_cons_of_mem _ b
 have W:=h.uC i o
 have hex:=h.ex i o
 have α:sW (c i)=V:=h.c3 i o t
 have q:1<=HH l r c (n::N) i/\HH l r c (n::N) i<=4:=by
  unfold HH at t ⊢;by_cases e:(c i).st=0;have:=Nk t e;omega;unfold tV;rw[aKj e];omega
 have ε:=Yu q D
 have γ:=As (x:=HH l r c (n::N) i) (to:=n.state) (by omega)
 have e5:eQ 5 i l N=0:=by have:=h.t3 i o;grind
 have e8:∀x∈N,x.kind≠8:=fun x b k=>by
  have H:=h.nc x (em x b);obtain⟨j,d,J,_⟩:=fK H.2;exact h.no8 d (by unfold vY;rw[hg];simp) (em x b) k J
 generalize hC:aX c i a=c'
 have ci:c' i=a:=by rw[<-hC,fB]
 have R:∀j,j≠i->c' j=c j:=fun j e=>by rw[<-hC,cX e]
 have E:∀j,(c' j).pL=(c j).pL/\(c' j).aw=(c j).aw/\(c' j).gi=(c j).gi/\(c' j).gd=(c j).gd:=fun j=>by grind
 have w:HH l r c' (y::N) i=gC (HH l r c (n::N) i) n.state:=by
  unfold HH at t ⊢;have Y:pd l r (y::N) i=pd l r (n::N) i:=by unfold pd;rw[X,F];simp
  rw[Y];by_cases e:(c i).st=0;have g:=Nk t e;rw[g.2.2];unfold tV;grind;have S:tV (c i) (pd l r (n::N) i)=(c i).st:=by unfold tV;rw[aKj e]
  rw[S,<-(B e).1,ci];unfold tV;grind
 have T:∀j,j≠i->HH l r c' (y::N) j=HH l r c (n::N) j:=fun j e=>by
  unfold HH pd;grind
 have β:HH l r c' (y::N) i≠0->sW (c' i)=sW (c i):=fun v=>by
  rw[ci];unfold sW;by_cases e:(c i).st=0;grind;by_cases S:a.st=0;exfalso;apply v;rw[w];have:HH l r c (n::N) i=(c i).st:=by unfold HH tV;rw[aKj e]
  grind;grind
 have f:∀x,x∈y::N->x=y\/x∈n::N:=fun x b=>by grind
 constructor
 case row=>exact h.row
 case ks=>exact h.ks
 case kg=>exact h.kg
 case told=>exact h.told
 case nc=>intro x b;rcases f x b with rfl|b;exact⟨P.2.2.1,by omega⟩;exact h.nc x b
 case ex=>
  intro j d g
  rw[(E j).2.2.1]
  refine h.ex j d ?_
  grind
 case uC=>
  intro j d
  by_cases e:j=i
  .subst e;rw[ci];by_cases e:(c j).st=0
   .have:=As (x:=(c j).gs) (to:=n.state) (by omega);have:=A e;omega
   .have:=As (x:=(c j).st) (to:=n.state) (by omega);have:=B e;omega
  .rw[R j e];exact h.uC j d
 case t1=>intro j d;have g:=h.t1 j d;grind
 case t2=>intro j d;have g:=h.t2 j d;grind
 case t3=>intro j d;have g:=h.t3 j d;grind
 case t4=>intro j d;have g:=h.t4 j d;grind
 case a1=>intro j d g;have:=h.a1 j d;grind
 case a2=>intro j d g;have:=h.a2 j d;grind
 case rq=>intro x b k1;rw[(E _).2.1];exact h.rq x (b.imp (fun b=>(f x b).resolve_left (fun e=>by subst e;omega)) id) k1
 case rs=>rw[(E _).2.1];exact h.rs
 case c1=>
  intro j d h5 h8
  have e:j≠i:=fun e=>by grind
  rw[T j e];exact h.c1 j d (by grind) (by grind)
 case c2=>intro j d u;exfalso;have:=h.c2 j d;grind
 case zW=>intro j d u;exfalso;have:=h.c2 j d;grind
 case gN=>grind
 case pN=>intro x b k;rcases f x b with rfl|b;omega;exact h.pN x b k
 case rN=>
  intro x b k
  rcases List.mem_cons.1 b with rfl|b
  .rw[P.2.1,Int.toNat_natCast,w];have hp:=h.pN n (by simp) U;grind
  .have δ:x.core≠(i:Int):=fun e=>by have:=fN b k e (h.nc x (em x b)).1;omega
   have H:=h.nc x (em x b)
   rw[T _ (by omega)]
   exact h.rN x (em x b) k
 case uN=>
  intro x b k
  have O:x∈n::N\/x∈r.waits:=b.imp (fun b=>(f x b).resolve_left (fun e=>by subst e;omega)) id
  have g:=h.uN x O k
  rw[(E _).2.2.2]
  refine⟨g.1,fun u=>g.2 ?_⟩
  by_cases e:x.core.toNat=i
  .rw[e,ci] at u;rw[e];by_cases v:(c i).st=0
   .rw[(A v).2] at u;have:1<=(c i).gs/\(c i).gs<=4:=by
     have:=Nk (p:=pd l r (n::N) i) t v;unfold HH at q;omega
    have:=Yu this D
    grind
   grind
  grind
 case c3=>
  intro j d v
  by_cases e:j=i
  .grind
  .rw[R j e];exact h.c3 j d (by grind)
 case c5=>
  intro g u
  have ζ:=u y (by simp) P.1
  have Z:¬(HH l r c (n::N) i=3\/HH l r c (n::N) i=4):=fun e=>by grind
  refine h.c5 (fun j d=>?_) (fun x b k=>?_)
  .grind
  grind
 case k2=>exact h.k2
theorem Inv.asks {i:Nat} {y:aH} {wr:Bool} (h:Inv l r m V c N) (A:i<4) (X:(c i).pL=false) (w:(c i).gi=false) (R:if wr then(c i).st≠2/\(c i).st≠4 else(c i).st=0)
  (S:y.kind=(if wr then 2 else 1)/\y.core=(i:Int)/\y.line=l):
  Inv l r m V (aX c i {c i with pL:=true,aw:=wr}) (y::N):=by
 have u:∀k j,eQ k j l (y::N)=eQ k j l N+if k=(if wr then 2 else 1)/\j=i then 1 else 0:=fun k j=>by
  rw[cR];grind
 have H:y.kind=1\/y.kind=2:=by grind
 have T:eQ 1 i l N=0/\eQ 2 i l N=0/\eQ 1 i l r.waits=0/\eQ 2 i l r.waits=0/\zR r i=0/\eQ 8 i l N=0/\eQ 9 i l N=0:=by
  have:=h.t1 i A;grind
 generalize hC:aX c i {c i with pL:=true,aw:=wr}=c'
 have ci:c' i={c i with pL:=true,aw:=wr}:=by rw[<-hC,fB]
 have t:∀j,j≠i->c' j=c j:=fun j e=>by rw[<-hC,cX e]
 have E:∀j,(c' j).st=(c j).st/\(c' j).d=(c j).d/\(c' j).gi=(c j).gi/\(c' j).gs=(c j).gs/\(c' j).gd=(c j).gd:=fun j=>by by_cases e:j=i<;>grind
 have p:∀j,HH l r c' (y::N) j=HH l r c N j:=fun j=>by
  have W:eQ 3 j l (y::N)=eQ 3 j l N:=by grind
  unfold HH pd tV;grind
 have P:HH l r c N i=(c i).st:=by unfold HH tV;rw[w];simp;omega
 have I:∀j,sW (c' j)=sW (c j):=fun j=>by unfold sW;grind
 have d:∀x,x∈y::N->x=y\/x∈N:=fun x a=>List.mem_cons.1 a
 constructor
 case row=>exact h.row
 case ks=>exact h.ks
 case kg=>exact h.kg
 case told=>exact h.told
 case nc=>intro x a;rcases d x a with rfl|a;exact⟨S.2.2,by omega⟩;exact h.nc x a
 case ex=>have:=h.ex;grind
 case uC=>have:=h.uC;grind
 case t1=>
  intro j f
  have o:=h.t1 j f
  grind
 case t2=>intro j f;have o:=h.t2 j f;grind
 case t3=>intro j f;have o:=h.t3 j f;grind
 case t4=>intro j f;have o:=h.t4 j f;grind
 case a1=>intro j f o;have:=h.a1 j f;grind
 case a2=>intro j f o F;have:=h.a2 j f;grind
 case rq=>
  intro x a q
  have J:x=y\/(x∈N\/x∈r.waits):=by grind
  rcases J with rfl|a
  .grind
  .have v:=h.bd a;have B:x.core≠(i:Int):=by
    rcases a with a|a<;>rcases q with q|q<;>(intro e;have:=fN a q e v.1;omega)
   rw[t _ (by omega)];exact h.rq x a q
 case rs=>intro b g U;have:=T.2.2.2.2.1;unfold zR at this;rw[t _ (fun e=>by have:=h.row.core;grind)];exact h.rs b g U
 case c1=>intro j f K O;rw[p];rw[u] at K O;exact h.c1 j f (by omega) (by omega)
 case c2=>simp only[p];exact h.c2
 case zW=>simp only[p];intro j f o x a k;rcases d x a with rfl|a;omega;exact h.zW j f o x a k
 case gN=>
  intro x a k
  rcases d x a with rfl|a
  .omega
  .have v:=h.nc x a;have B:x.core≠(i:Int):=fun e=>by have:=fN a k e v.1;omega
   simp only[p]
   rw[t _ (by omega)];exact h.gN x a k
 case pN=>intro x a k;rcases d x a with rfl|a;omega;exact h.pN x a k
 case rN=>intro x a k;simp only[p];rcases d x a with rfl|a;omega;exact h.rN x a k
 case uN=>
  intro x a k
  have D:x∈N\/x∈r.waits:=a.imp (fun a=>(d x a).resolve_left (fun e=>by subst e;omega)) id
  rw[(E _).2.2.2.1,(E _).2.2.2.2];exact h.uN x D k
 case c3=>intro j f;rw[p,I];exact h.c3 j f
 case c5=>simp only[p];exact fun o F=>h.c5 o (fun x a=>F x (List.mem_cons_of_mem _ a))
 case k2=>exact h.k2
theorem Inv.zD {i:Nat} {y:aH} {d':Ln} (h:Inv l r m V c N) (t:i<4) (S:(c i).pL=false) (u:(c i).st≠0)
  (H:y.kind=3/\y.core=(i:Int)/\y.line=l/\(y.d0,y.d1)=(c i).d/\y.jX=jH (c i).st) {p:Bool} (T:p=(c i).aw\/True):
  Inv l r m V (aX c i ⟨0,d',false,p,true,(c i).st,(c i).d⟩) (y::N):=by
 have U:=h.ex i t (.inl u)
 have B:∀k j,eQ k j l (y::N)=eQ k j l N+if k=3/\j=i then 1 else 0:=fun k j=>by
  rw[cR];grind
 have X:eQ 1 i l N=0/\eQ 2 i l N=0/\eQ 1 i l r.waits=0/\eQ 2 i l r.waits=0/\zR r i=0/\eQ 8 i l N=0/\eQ 9 i l N=0:=by
  have:=h.t1 i t;grind
 have Y:eQ 3 i l N=0/\eQ 3 i l r.waits=0/\eQ 10 i l N=0:=by have:=h.t2 i t;grind
 generalize hC:aX c i ⟨0,d',false,p,true,(c i).st,(c i).d⟩=c'
 have ci:c' i=⟨0,d',false,p,true,(c i).st,(c i).d⟩:=by rw[<-hC,fB]
 have A:∀j,j≠i->c' j=c j:=fun j e=>by rw[<-hC,cX e]
 have J:∀j,(c' j).pL=(c j).pL:=fun j=>by by_cases e:j=i<;>grind
 have I:HH l r c N i=(c i).st:=by unfold HH tV;rw[aKj u]
 have q:∀j,HH l r c' (y::N) j=HH l r c N j:=fun j=>by
  by_cases e:j=i;subst e;rw[I];unfold HH pd;rw[B,ci];simp[tV];unfold HH pd;grind
 have K:∀j,sW (c' j)=sW (c j):=fun j=>by
  by_cases e:j=i;subst e;rw[ci];unfold sW;rw[aKj u];simp;rw[A j e]
 have d:∀x,x∈y::N->x=y\/x∈N:=fun x a=>List.mem_cons.1 a
 have D:∀x,(x∈N\/x∈r.waits)->(x.kind=1\/x.kind=2\/x.kind=3)->x.core≠(i:Int):=fun x a w e=>by
  have E:=h.bd a;rcases a with a|a<;>rcases w with w|w|w<;>(have:=fN a w e E.1;omega)
 constructor
 case row=>exact h.row
 case ks=>exact h.ks
 case kg=>exact h.kg
 case told=>exact h.told
 case nc=>intro x a;rcases d x a with rfl|a;exact⟨H.2.2.1,by omega⟩;exact h.nc x a
 case ex=>have:=h.ex;grind
 case uC=>have:=h.uC;grind
 case t1=>intro j f;have o:=h.t1 j f;grind
 case t2=>
  intro j f
  have o:=h.t2 j f
  grind
 case t3=>intro j f;have o:=h.t3 j f;grind
 case t4=>intro j f;have o:=h.t4 j f;grind
 case a1=>intro j f;rw[q,J];exact h.a1 j f
 case a2=>intro j f o F;rw[J] at o;rw[q];by_cases e:j=i;(subst e;rw[S] at o;cases o);(rw[A j e] at F;exact h.a2 j f o F)
 case rq=>
  intro x a w
  have v:x∈N\/x∈r.waits:=a.imp (fun a=>(d x a).resolve_left (fun e=>by subst e;omega)) id
  have:=D x v (by omega)
  have E:=h.bd v
  rw[A _ (by omega)];exact h.rq x v w
 case rs=>intro b g Z;have:=X.2.2.2.2.1;unfold zR at this;rw[A _ (fun e=>by have:=h.row.core;grind)];exact h.rs b g Z
 case c1=>intro j f P R;rw[q];rw[B] at P R;exact h.c1 j f (by omega) (by omega)
 case c2=>simp only[q];exact h.c2
 case zW=>simp only[q];intro j f o x a k;rcases d x a with rfl|a;omega;exact h.zW j f o x a k
 case gN=>
  intro x a k
  rcases d x a with rfl|a
  .omega
  .have E:=h.nc x a;have W:x.core≠(i:Int):=fun e=>by have:=fN a k e E.1;omega
   simp only[q]
   rw[A _ (by omega)];exact h.gN x a k
 case pN=>intro x a k;rcases d x a with rfl|a;omega;exact h.pN x a k
 case rN=>intro x a k;simp only[q];rcases d x a with rfl|a;omega;exact h.rN x a k
 case uN=>
  intro x a k
  have O:x=y\/(x∈N\/x∈r.waits):=by grind
  rcases O with rfl|a
  .rw[H.2.1,Int.toNat_natCast,ci];refine⟨H.2.2.2.1,fun o=>?_⟩;rw[H.2.2.2.2];unfold jH;simpa using o
  .have:=D x a (by omega);have E:=h.bd a;rw[A _ (by omega)];exact h.uN x a k
 case c3=>intro j f;rw[q,K];exact h.c3 j f
 case c5=>simp only[q];exact fun o F=>h.c5 o (fun x a=>F x (List.mem_cons_of_mem _ a))
 case k2=>exact h.k2
theorem Inv.wrote {i:Nat} {D:Ln} (h:Inv l r m V c N) (f:i<4) (w:(c i).st=2\/(c i).st=4):
  Inv l r m D (aX c i {c i with st:=4,d:=D}) N:=by
 have u:HH l r c N i=(c i).st:=by unfold HH tV;rw[aac]
 have o:HH l r c N i=2\/HH l r c N i=4:=by rw[u];exact w
 have K:=h.c2 i f o
 have A:∀j,j<4->HH l r c N j≠0->j=i:=fun j b e=>Classical.byContradiction fun t=>e (K j b t)
 have I:=h.zW i f o
 have has:(c i).pL=false:=by cases e:(c i).pL with|false=>rfl|true=>have:=h.a1 i f e;omega
 have R:∀x∈N,x.kind≠8:=fun x a k=>by
  have p:=h.nc x a;obtain⟨j,b,q,v⟩:=fK p.2;have J:=h.gN x a k;by_cases e:x.state=1;grind;have E:=(J.2.2.2.1 e).2 i f;by_cases t:j=i;subst t;have:=h.t1 j b;rw[has] at this;have:=fN a k q p.1;simp at*;omega;grind
 have P:∀x∈N,x.kind=5->r.served.kind≠1:=fun x a k e=>by
  have p:=h.nc x a;obtain⟨j,b,q,v⟩:=fK p.2;have T:=((h.rN x a k).2.1 e);grind
 generalize hC:aX c i {c i with st:=4,d:=D}=c'
 have ci:c' i={c i with st:=4,d:=D}:=by rw[<-hC,fB]
 have B:∀j,j≠i->c' j=c j:=fun j e=>by rw[<-hC,cX e]
 have g:∀j,(c' j).pL=(c j).pL/\(c' j).aw=(c j).aw/\(c' j).gi=(c j).gi/\(c' j).gs=(c j).gs/\(c' j).gd=(c j).gd:=fun j=>by grind
 have y:HH l r c' N i=4:=by unfold HH;rw[ci];simp[tV]
 have S:∀j,j≠i->HH l r c' N j=HH l r c N j:=fun j e=>by unfold HH;rw[B j e]
 constructor
 case row=>exact h.row
 case ks=>exact h.ks
 case kg=>exact h.kg
 case told=>exact h.told
 case nc=>exact h.nc
 case ex=>have:=h.ex;grind
 case uC=>have:=h.uC;grind
 case t1=>intro j b;rw[(g j).1];exact h.t1 j b
 case t2=>intro j b;rw[(g j).2.2.1];exact h.t2 j b
 case t3=>exact h.t3
 case t4=>exact h.t4
 case a1=>grind
 case a2=>grind
 case rq=>intro x a k;rw[(g _).2.1];exact h.rq x a k
 case rs=>rw[(g _).2.1];exact h.rs
 case c1=>intro j b F H;have:=h.c1 j b F H;grind
 case c2=>
  grind
 case zW=>grind
 case gN=>grind
 case pN=>exact h.pN
 case rN=>
  intro x a k
  have p:=h.nc x a
  have E:=h.rN x a k
  grind
 case uN=>intro x a k;rw[(g _).2.2.2.1,(g _).2.2.2.2];exact h.uN x a k
 case c3=>
  intro j b O
  by_cases e:j=i
  .subst e;rw[ci];unfold sW;simp
  grind
 case c5=>grind
 case k2=>exact h.k2
end
section
variable {l:Nat} {r:Row} {m V:Ln} {c:ui} {N:List aH} {n:aH}
theorem xO {r:Row} {x:Int}:∀(f i:Nat),(∀c,c∈r.eX x f i↔(i<=c/\c<i+f)/\r.holds x c=true)/\(r.eX x f i).Nodup/\(r.tR x f i= -1↔∀c,i<=c->c<i+f->r.holds x c=false):=by
 intro f;induction f with
 |zero=>intro i;refine⟨fun c=>?_,by simp[Row.eX],?_⟩;simp[Row.eX];omega;simp[Row.tR];omega
 |succ f a=>
  intro i;obtain⟨b,d,e⟩:=a (i+1);unfold Row.eX Row.tR;grind
theorem rD {r:Row} {x:Int} {c:Nat}:c∈r.fY x↔c<4/\r.holds x c=true:=by
 have:=(xO (r:=r) (x:=x) 4 0).1 c;unfold Row.fY;grind
theorem Kw {r:Row} {x:Int}:(r.fY x).Nodup:=(xO 4 0).2.1
theorem F3 {r:Row} {x:Int}:r.first x= -1↔∀c:Nat,c<4->(c:Int)≠x->r.sh c=false/\(c:Int)≠r.owner:=by
 have:=(xO (r:=r) (x:=x) 4 0).2.2;unfold Row.first
 rw[this];unfold Row.holds;grind
theorem Inv.Sj (h:Inv l r m V c N) (a:r.granted=false):r.told=false:=by
 cases e:r.told with
 |false=>rfl
 |true=>have:=h.told e;grind
def Row.say (r:Row) (b:Bool) (d:Ln):Row:={r with told:=b,d0:=d.1,d1:=d.2}
theorem Inv.say {b:Bool} {d:Ln} (h:Inv l r m V c N) (a:r.granted=true):Inv l (Row.say r b d) m V c N:=by
 constructor;exact⟨h.row.core,h.row.owner,h.row.waits,h.row.apart,h.row.want,h.row.still,h.row.gb⟩;exact h.ks;exact h.kg;intro _;exact a;exact h.nc;exact h.ex;exact h.uC;exact h.t1;exact h.t2;exact h.t3;exact h.t4;exact h.a1;exact h.a2;exact h.rq;exact h.rs;exact h.c1;exact h.c2;exact h.zW;exact h.gN;exact h.pN;exact h.rN;exact h.uN;exact h.c3;exact h.c5;exact h.k2
theorem Inv.aFs (h:Inv l r m V c N) (_hb:r.busy=true) (o:r.granted=false) (j:r.quiet=true) (p:r.served.kind=0):Inv l r.free m V c N:=by
 have a:=fun x b=>h.calm j (x:=x) b;have f:∀i,zR r i=0/\zR r.free i=0:=fun i=>by unfold zR Row.free;simp[p]
 have g:∀i,vY r i=0/\vY r.free i=0:=fun i=>by unfold vY Row.free;simp[o]
 constructor;exact A9 h.row j;intro e;cases e;intro e;cases e;intro e;cases e;exact h.nc;exact h.ex;exact h.uC;intro i d;have:=h.t1 i d;rw[(f i).1] at this;rw[(f i).2];exact this;exact h.t2;exact h.t3;intro i d;have:=h.t4 i d;rw[(g i).1] at this;rw[(g i).2];exact this;exact h.a1;exact h.a2;exact h.rq;intro e;cases e;exact h.c1;exact h.c2;exact h.zW;exact h.gN;exact fun x b k=>absurd k (a x b).2;exact fun x b k=>absurd k (a x b).1;exact h.uN;exact h.c3;exact h.c5;intro e;cases e
theorem Inv.eC {d:Ln} (h:Inv l r m V c N) (hb:r.busy=true) (y:r.granted=false) (I:r.quiet=true) (hk:r.served.kind=1\/r.served.kind=2)
  (hd:HH l r c N r.served.core.toNat=0->d=V) (u:r.served.kind=1->∀j,j<4->HH l r c N j≠2/\HH l r c N j≠4):
  Inv l (r.eC l d).1 m V c ((r.eC l d).2++N)/\(r.eC l d).1.granted=true:=by
 have R:=fun x f=>h.calm I (x:=x) f
 obtain⟨i,H,p,F⟩:∃i:Nat,i<4/\r.served.core=(i:Int)/\r.served.core.toNat=i:=⟨r.served.core.toNat,by have:=h.row.core;omega,by have:=h.row.core;omega,rfl⟩
 have a:=yD (line:=l) (d:=d) (A2.mk h.row.core h.row.owner h.row.waits h.row.apart (h.row.want hb y) hb y) (by omega) I
 have A:zR r i=1:=by unfold zR;rw[aKj ⟨hb,y,by omega,p⟩]
 have has:(c i).pL=true:=by have:=h.t1 i H;cases f:(c i).pL<;>simp_all
 have hz:eQ 8 i l N=0/\eQ 9 i l N=0/\eQ 4 i l N=0:=by
  have:=h.t1 i H;have O:=h.t4 i H;unfold vY at O;rw[y] at O;rw[A,has] at this;simp at this O;omega
 have g0:∀j,vY r j=0:=fun j=>by unfold vY;simp[y]
 have J:=h.rs hb y (by omega)
 rw[F] at J
 have e8:∀x∈N,x.kind≠8:=fun x f k=>by
  have hb:=h.nc x f;obtain⟨j,b,S,_⟩:=fK hb.2;exact h.no8 b (g0 j) f k S
 have P:∀j,j<4->(HH l r c N j=1↔r.sh j=true)/\(2<=HH l r c N j↔r.owner=(j:Int)):=fun j b=>h.c1 j b (by have:=h.t3 j b;rw[fZ I b] at this;simp at this;omega) (by have:=h.t4 j b;grind)
 have ε:∀j,0<=HH l r c N j->HH l r c N j≠0->HH l r c N j=1\/2<=HH l r c N j:=fun j _ _=>by omega
 have δ:∀j,j<4->0<=HH l r c N j:=fun j b=>by have:=h.uC j b;unfold HH tV;grind
 rw[F] at hd
 have main:∀(g:Row) (st:Int),g={r with owner:=g.owner,sh:=g.sh,granted:=true}->rJ l g->(st=1\/st=2\/st=4)->(st=4↔(c i).aw=true)->
   (st=1->g.sh i=true/\HH l r c N i=0/\∀j,j<4->HH l r c N j≠2/\HH l r c N j≠4)->
   (st≠1->g.owner=(i:Int)/\∀j:Nat,j<4->g.sh j=false/\((j:Int)≠(i:Int)->HH l r c N j=0))->(st=2->HH l r c N i=0)->
   (∀j:Nat,j<4->j≠i->(g.sh j=r.sh j)/\(g.owner=(j:Int)↔r.owner=(j:Int)))->
   Inv l g m V c (r.jZ l st d::N):=by
  intro g st er a Z q W X Y β
  have v:(r.jZ l st d).kind=8/\(r.jZ l st d).core=(i:Int)/\(r.jZ l st d).line=l:=⟨rfl,p,rfl⟩
  have B:∀k j,eQ k j l (r.jZ l st d::N)=eQ k j l N+if k=8/\j=i then 1 else 0:=fun k j=>by
   rw[cR];congr 1;simp only[v];grind
  have w:g.waits=r.waits/\g.busy=true/\g.granted=true/\g.asked=r.asked/\g.told=r.told/\g.served=r.served:=by grind
  have D:∀j,HH l g c (r.jZ l st d::N) j=HH l r c N j:=fun j=>by unfold HH pd;rw[B,aab,w.1];rfl
  have es:∀j,zR g j=0:=fun j=>by unfold zR;rw[w.2.2.1];simp
  have o:∀x,x∈r.jZ l st d::N->x=r.jZ l st d\/x∈N:=fun x f=>List.mem_cons.1 f
  constructor
  case row=>exact a
  case ks=>grind
  case kg=>grind
  case told=>grind
  case nc=>intro x f;rcases o x f with rfl|f;exact⟨v.2.2,by rw[v.2.1];omega⟩;exact h.nc x f
  case ex=>exact h.ex
  case uC=>exact h.uC
  case t1=>
   intro j b
   have u:=h.t1 j b
   simp only[B,es,w.1]
   by_cases e:j=i
   .subst e;rw[A] at u;simp only[and_self,if_true,Int.reduceEq,false_and,if_false];simp;omega
   .have:zR r j=0:=by unfold zR;rw[aab]
    simp[e];omega
  case t2=>intro j b;have u:=h.t2 j b;grind
  case t3=>intro j b;have u:=h.t3 j b;simp only[B,w.2.2.2.1];simp;exact u
  case t4=>
   intro j b
   have u:=h.t4 j b
   rw[g0] at u
   have ζ:vY g j=if j=i then 1 else 0:=by
    unfold vY;rw[w.2.2.1,w.2.2.2.2.2];by_cases e:j=i;grind;rw[aKi (fun K=>e (by omega)),aKi e]
   grind
  case a1=>simp only[D];exact h.a1
  case a2=>simp only[D];exact h.a2
  case rq=>rw[w.1];intro x f k1;exact h.rq x (f.imp (fun f=>(o x f).resolve_left (fun e=>by grind)) id) k1
  case rs=>grind
  case c1=>
   grind
  case c2=>grind
  case zW=>grind
  case gN=>
   intro x f k
   rcases o x f with rfl|f
   .simp only[D];rw[v.2.1,Int.toNat_natCast];exact⟨Z,q,W,X,Y,hd⟩
   grind
  case pN=>grind
  case rN=>grind
  case uN=>rw[w.1];intro x f k;exact h.uN x (f.imp (fun f=>(o x f).resolve_left (fun e=>by grind)) id) k
  case c3=>simp only[D];exact h.c3
  case c5=>simp only[D];exact fun u h2=>h.c5 u (fun x f=>h2 x (List.mem_cons_of_mem _ f))
  case k2=>grind
 unfold Row.eC at a ⊢
 by_cases k2:r.served.kind=2
 .rw[aKj k2] at a ⊢;refine⟨main _ 4 rfl a (by omega) (by grind) (by omega) ?_ (by omega) ?_,rfl⟩
  .intro _;refine⟨p,fun j b=>⟨rfl,fun e=>Classical.byContradiction fun e0=>?_⟩⟩;have t:=h.k2 hb y (by omega) j b (fun _=>by rw[p];exact e);rw[fZ I b] at t;grind
  .intro j b e;have t:=h.k2 hb y (by omega) j b (fun _=>by rw[p];omega);rw[fZ I b] at t;constructor
   .show false=r.sh j;cases f:r.sh j with
    |false=>rfl
    |true=>have:=t (.inl f);cases this
   .show r.served.core=(j:Int)↔r.owner=(j:Int);constructor
    .intro K;omega
    .intro K;have:=t (.inr K);cases this
 .rw[aKi k2] at a ⊢;have k1:r.served.kind=1:=by omega
  have q:(c i).aw=false:=by cases e:(c i).aw with|false=>rfl|true=>have:=J.2 e;omega
  have h0:=h.a2 i H has q
  have α:=P i H
  have γ:r.sh i=false:=by grind
  by_cases T:r.first r.served.core= -1
  .rw[aKj T] at a ⊢;have U:=F3.1 T;have E:∀j,j<4->HH l r c N j=0:=fun j b=>by
    grind
   refine⟨main _ 2 rfl a (by omega) (by rw[q];simp) (by omega) ?_ (fun _=>h0) ?_,rfl⟩
   .intro _;refine⟨p,fun j b=>⟨?_,fun _=>E j b⟩⟩;show gQ r.sh r.served.core false j=false;unfold gQ;grind
   .intro j b e;have:=U j b (by omega);constructor
    .show gQ r.sh r.served.core false j=r.sh j;unfold gQ;grind
    grind
  .rw[aKi T] at a ⊢;refine⟨main _ 1 rfl a (by omega) (by rw[q];simp) ?_ (fun e=>absurd rfl e) (by omega) ?_,rfl⟩
   .intro _;refine⟨?_,h0,u k1⟩;show gQ r.sh r.served.core true i=true;unfold gQ;grind
   .intro j b e;constructor
    .show gQ r.sh r.served.core true j=r.sh j;unfold gQ;grind
    .exact Iff.rfl
end
section
variable {l:Nat} {r:Row} {m V:Ln} {c:ui} {N:List aH} {n:aH}
theorem Inv.Yp {i:Nat} (h:Inv l r m V c (n::N)) (g:n.kind=5) (b:i<4) (a:n.core=(i:Int)):
  r.asked i=true/\r.granted=false/\r.busy=true/\eQ 5 i l N=0/\eQ 11 i l N=0:=by
 have e:=h.nc n (by simp)
 have j:r.asked i=true:=by
  have:=h.t3 i b;rw[cR (k:=5),aKj ⟨g,a,e.1⟩] at this;grind
 have f:r.granted=false:=by
  cases f:r.granted with
  |false=>rfl
  |true=>have:=fZ (h.row.still (.inl f)) b;grind
 have d:r.busy=true:=by
  cases d:r.busy with
  |true=>rfl
  |false=>have:=fZ (h.row.still (.inr d)) b;grind
 have:=h.t3 i b
 rw[cR (k:=5),aKj ⟨g,a,e.1⟩,cR (k:=11),aab,j] at this
 grind
theorem Inv.heard {r':Row} {H:Ln} {i:Nat} (h:Inv l r m V c (n::N)) (E:n.kind=5) (O:i<4) (u:n.core=(i:Int))
  (S:r'={r with owner:=r'.owner,sh:=r'.sh,asked:=gQ r.asked n.core false}) (w:A2 l r')
  (b:∀j:Nat,j<4->j≠i->(r'.sh j=r.sh j)/\(r'.owner=(j:Int)↔r.owner=(j:Int)))
  (g:(HH l r c (n::N) i=1↔r'.sh i=true)/\(2<=HH l r c (n::N) i↔r'.owner=(i:Int)))
  (P:(∀j,j<4->HH l r c (n::N) j≠3/\HH l r c (n::N) j≠4)->(∀x∈N,x.kind=5->x.jX=false)->H=V):Inv l r' H V c N:=by
 obtain⟨W,D,t,K,J⟩:=h.Yp E O u
 have X:=h.nc n (by simp)
 have I:∀k j,eQ k j l (n::N)=eQ k j l N+if k=5/\j=i then 1 else 0:=fun k j=>by
  rw[cR];grind
 have em:∀x,x∈N->x∈n::N:=fun x a=>List.mem_cons_of_mem _ a
 have f:r'.waits=r.waits/\r'.busy=true/\r'.granted=false/\r'.asked=gQ r.asked n.core false/\r'.told=r.told/\r'.served=r.served:=by grind
 have o:∀j,HH l r' c N j=HH l r c (n::N) j:=fun j=>by unfold HH pd;rw[I,aab,f.1];rfl
 have A:∀j,r'.asked j=if j=i then false else r.asked j:=fun j=>by rw[f.2.2.2.1];unfold gQ;grind
 have v:∀x∈N,x.kind=5\/x.kind=11->x.core≠(i:Int):=fun x a k e=>by
  rcases k with k|k<;>(have:=fN a k e (h.nc x (em x a)).1;omega)
 have g0:∀j,vY r j=0/\vY r' j=0:=fun j=>by unfold vY;grind
 have R:∀x∈N,x.kind≠8:=fun x a k=>by
  have t:=h.nc x (em x a);obtain⟨j,d,B,_⟩:=fK t.2;exact h.no8 d (g0 j).1 (em x a) k B
 have T:∀j,zR r' j=zR r j:=fun j=>by unfold zR;grind
 constructor
 case row=>exact w.jg
 case ks=>rw[f.2.2.2.2.2];exact fun _=>h.ks t
 case kg=>grind
 case told=>rw[f.2.2.2.2.1,h.Sj D];intro e;cases e
 case nc=>exact fun x a=>h.nc x (em x a)
 case ex=>exact h.ex
 case uC=>exact h.uC
 case t1=>intro j d;have q:=h.t1 j d;grind
 case t2=>intro j d;have q:=h.t2 j d;grind
 case t3=>
  intro j d
  have q:=h.t3 j d
  grind
 case t4=>intro j d;have q:=h.t4 j d;grind
 case a1=>simp only[o];exact h.a1
 case a2=>simp only[o];exact h.a2
 case rq=>rw[f.1];exact fun x a=>h.rq x (a.imp (em x) id)
 case rs=>rw[f.2.2.2.2.2];exact fun _ _=>h.rs t D
 case c1=>
  intro j d K U
  rw[o]
  by_cases e:j=i
  .subst e;exact g
  .rw[(b j d e).1,(b j d e).2];exact h.c1 j d (by grind) (by grind)
 case c2=>simp only[o];exact h.c2
 case zW=>simp only[o];exact fun j d p x a=>h.zW j d p x (em x a)
 case gN=>grind
 case pN=>
  intro x a k
  have t:=h.nc x (em x a)
  have q:=h.pN x (em x a) k
  have p:=b x.core.toNat (by omega) (fun e=>v x a (.inr k) (by omega))
  rw[f.2.2.2.2.2,p.1]
  have y:((x.core.toNat:Nat):Int)=x.core:=by omega
  rw[y] at p
  rw[p.2];exact q
 case rN=>
  intro x a k
  have t:=h.nc x (em x a)
  have q:=h.rN x (em x a) k
  have p:=b x.core.toNat (by omega) (fun e=>v x a (.inl k) (by omega))
  have y:((x.core.toNat:Nat):Int)=x.core:=by omega
  rw[y] at p
  rw[f.2.2.2.2.2,o,p.2];exact q
 case uN=>rw[f.1];exact fun x a=>h.uN x (a.imp (em x) id)
 case c3=>simp only[o];exact h.c3
 case c5=>simp only[o];exact P
 case k2=>
  rw[f.2.2.2.2.2]
  intro _ _ k j d a tV
  rw[A]
  by_cases e:j=i
  .subst e;exfalso;have F:=(h.rN n (by simp) E).1 k;rw[u,Int.toNat_natCast] at F;rw[F] at g;rcases tV with tV|tV
   .have:=g.1.2 tV;omega
   .have:=g.2.2 tV;omega
  .rw[aKi e];refine h.k2 t D k j d a ?_;rw[(b j d e).1,(b j d e).2] at tV;exact tV
theorem Inv.nI (h:Inv l r m V c (n::N)) (P:n.kind=5):
  r.asked n.core.toNat=true/\Inv l (mT.nI (r,m) l n).1.1 (mT.nI (r,m) l n).1.2 V c ((mT.nI (r,m) l n).2++N):=by
 have hc:=h.nc n (by simp)
 obtain⟨i,O,A,E⟩:=fK hc.2
 obtain⟨ha,I,H,h5,η⟩:=h.Yp P O A
 refine⟨by rw[E];exact ha,?_⟩
 have R:=C4 h.row hc.2 (by rw[E];exact ha)
 have ht:=h.Sj I
 have B:=h.rN n (by simp) P
 rw[E] at B
 have θ:∀j,j<4->0<=HH l r c (n::N) j:=fun j a=>by have:=h.uC j a;unfold HH tV;split<;>(try split)<;>omega
 have κ:∀(t:Row) (m1:Ln),Inv l t m1 V c N->t.busy=true->t.granted=false->t.quiet=true->t.served=r.served->(∀j,HH l t c N j=HH l r c (n::N) j)->
   ∀j,j<4->(HH l r c (n::N) j=1↔t.sh j=true)/\(2<=HH l r c (n::N) j↔t.owner=(j:Int)):=fun t m1 F b1 g1 q1 _ W j a=>by
  rw[<-W]
  exact F.c1 j a (by have:=F.t3 j a;rw[fZ q1 a] at this;simp at this;omega) (by have:=F.t4 j a;unfold vY at this;rw[g1] at this;simp at this;omega)
 unfold mT.nI
 simp only
 by_cases D:r.served.kind=1
 .have hr:=B.2.1 D;have hq:∀t:Row,t.asked=gQ r.asked n.core false->t.quiet=true:=fun t e=>by
   have T:∀j:Nat,j<4->t.asked j=false:=fun j a=>by
    rw[e];unfold gQ;by_cases ej:(j:Int)=n.core;rw[aKj ej];rw[aKi ej];cases w:r.asked j with
    |false=>rfl
    |true=>
     have J:=h.t3 j a;rw[w] at J;simp at J;exfalso;by_cases hp:eQ 11 j l (n::N)=0;obtain⟨x,w,k,ex,_⟩:=Hu (k:=5) (i:=j) (l:=l) (N:=n::N) (by omega);have:=((h.rN x w k).2.1 D).1;omega;obtain⟨x,w,k,ex,_⟩:=Hu (Nat.pos_of_ne_zero hp);have:=(h.pN x w k).2.2 D;omega
   unfold Row.quiet;rw[T 0 (by omega),T 1 (by omega),T 2 (by omega),T 3 (by omega)];rfl
  have γ:r.vD m n=m:=by unfold Row.vD;rw[aKi (fun e=>e.1 D)]
  rw[γ]
  rcases hr.2.2 with F|J
  .have f:r.heard n=(r.eT n).Dj n:=by unfold Row.heard;rw[aKi (fun e=>e D),aac,aKi (by rw[F.2];simp)]
   have p:HH l r c (n::N) i=1:=by grind
   have g:Inv l (r.heard n) m V c N:=by
    refine h.heard P O A (by rw[f];rfl) R (fun j a e=>?_) ?_ (fun y Y=>?_);rw[f];constructor;show gQ r.sh n.core (valid n.state) j=r.sh j;unfold gQ;grind;show(-1:Int)=(j:Int)↔r.owner=(j:Int);grind;rw[f,p];constructor;show _↔gQ r.sh n.core (valid n.state) i=true;unfold gQ;rw[aac,F.1];simp[valid];show _↔(-1:Int)=(i:Int);grind;exact h.c5 y (fun x w k=>by grind)
   have b:=hq (r.heard n) (by rw[f];rfl)
   have u:(r.heard n).busy=true:=by rw[f];exact H
   have q:(r.heard n).granted=false:=by rw[f];exact I
   have v:(r.heard n).served=r.served:=by rw[f];rfl
   have ι:(r.heard n).owner= -1:=by rw[f];rfl
   have δ:∀j,j<4->¬2<=HH l (r.heard n) c N j:=fun j a e=>by have:=g.own a e;grind
   unfold Row.rest
   rw[aKj b,v,aab]
   have o:(r.heard n).sW m=m:=by unfold Row.sW;rw[aKi];rw[g.Sj q];simp
   rw[o]
   exact(g.eC u q b (by grind) (fun _=>g.c5 (fun j a=>by grind) (fun x w k=>absurd k (g.calm b w).1)) (fun _ j a=>by have:=δ j a;omega)).1
  .have f:r.heard n=(r.eT n).lI n:=by unfold Row.heard;rw[aKi (fun e=>e D),aab,aKj J.2]
   have p:HH l r c (n::N) i=3:=by grind
   have ε:r.owner=(i:Int):=by omega
   have β:A2 l (r.eT n):=⟨h.row.core,h.row.owner,h.row.waits,h.row.apart,h.row.want H I,H,I⟩
   have g:Inv l (r.eT n) m V c N:=by
    refine h.heard P O A rfl β (fun j a e=>⟨rfl,Iff.rfl⟩) ?_ (fun y _=>by grind);rw[p];constructor;constructor;intro e;omega;intro e;have:=h.row.apart i O e;omega;exact⟨fun _=>ε,fun _=>by omega⟩
   have b:=hq (r.eT n) rfl
   have S:=hq (r.heard n) (by rw[f];rfl)
   have K:=g.eC (d:=(n.d0,n.d1)) H I b (.inl D) (fun _=>B.2.2 J.2) (fun _ j a=>by
    by_cases e:j=i;rw[e];unfold HH pd at p ⊢;rw[cR,aab] at p;show tV (c i) (eQ 3 i l N+eQ 3 i l r.waits)≠2/\tV (c i) (eQ 3 i l N+eQ 3 i l r.waits)≠4;grind;have:¬2<=HH l (r.eT n) c N j:=fun X=>by have:=g.own a X;have:r.owner=(j:Int):=this;omega
    omega)
   unfold Row.rest
   rw[aKj S,f,aKi (by show ¬r.served.kind=0;omega)]
   have o:((r.eT n).lI n).sW m=(n.d0,n.d1):=by rfl
   rw[o]
   have Z:((r.eT n).lI n).eC l (n.d0,n.d1)=(Row.say ((r.eT n).eC l (n.d0,n.d1)).1 true (n.d0,n.d1),((r.eT n).eC l (n.d0,n.d1)).2):=by
    unfold Row.eC;have W:((r.eT n).lI n).served.kind=(r.eT n).served.kind:=rfl;have X:((r.eT n).lI n).first ((r.eT n).lI n).served.core=(r.eT n).first (r.eT n).served.core:=rfl
    rw[W,X];split;rfl;split<;>rfl
   rw[Z]
   exact K.1.say K.2
 .have p:=B.1 D;have f:r.heard n=(r.eT n).leave n.core:=by unfold Row.heard;rw[aKj D]
  have g:Inv l (r.heard n) (r.vD m n) V c N:=by
   refine h.heard P O A (by rw[f];rfl) R (fun j a e=>?_) ?_ (fun y Y=>?_);rw[f];constructor;show gQ r.sh n.core false j=r.sh j;unfold gQ;grind;show(if r.owner=n.core then(-1:Int) else r.owner)=(j:Int)↔r.owner=(j:Int);grind;rw[f,p];constructor;show _↔gQ r.sh n.core false i=true;unfold gQ;grind;show _↔(if r.owner=n.core then(-1:Int) else r.owner)=(i:Int);grind;unfold Row.vD;by_cases hd:n.jX=true;grind;rw[aKi (fun e=>hd e.2)];exact h.c5 y (fun x w k=>by grind)
  have u:(r.heard n).busy=true:=by rw[f];exact H
  have q:(r.heard n).granted=false:=by rw[f];exact I
  have v:(r.heard n).served=r.served:=by rw[f];rfl
  have μ:=h.ks H
  unfold Row.rest
  by_cases b:(r.heard n).quiet=true
  .rw[aKj b];by_cases U:(r.heard n).served.kind=0
   .rw[aKj U];exact g.aFs u q b U
   .rw[aKi U];rw[v] at U;have k2:r.served.kind=2:=by omega
    have o:(r.heard n).sW (r.vD m n)=r.vD m n:=by unfold Row.sW;rw[aKi];rw[g.Sj q];simp
    rw[o]
    have ζ:=fun j a=>g.c1 j a (by have:=g.t3 j a;rw[fZ b a] at this;simp at this;omega) (by have:=g.t4 j a;unfold vY at this;grind)
    refine(g.eC u q b (by grind) (fun h0=>g.c5 (fun j a=>?_) (fun x w k=>absurd k (g.calm b w).1)) (fun e=>by rw[v] at e;omega)).1
    by_cases e:(j:Int)=(r.heard n).served.core
    .grind
    .have α:=g.k2 u q (by rw[v];omega) j a (fun _=>e);rw[fZ b a] at α;grind
  grind
end
section
variable {l:Nat} {r:Row} {m V:Ln} {c:ui} {N:List aH} {n:aH}
theorem X8 {S:List Nat} {st k:Int} {i:Nat} (h:S.Nodup):eQ k i l (eB l st S)=if k=11/\i∈S then 1 else 0:=by
 induction S with
 |nil=>simp[eB,eQ]
 |cons a S d=>
  have b:=List.nodup_cons.1 h;show eQ k i l (_::eB l st S)=_;rw[cR,d b.2];grind
theorem Inv.idle (h:Inv l r m V c N) (hb:r.busy=false):r.quiet=true/\r.granted=false/\r.told=false:=by
 have a:r.granted=false:=by cases e:r.granted with|false=>rfl|true=>have:=h.row.gb e;rw[hb] at this;cases this
 exact⟨h.row.still (.inr hb),a,h.Sj a⟩
theorem Inv.J7 {r':Row} {S:List Nat} {w:List aH} {st:Int} (h:Inv l r m V c N) (hb:r.busy=false) (I:r.waits=n::w) (hk:n.kind=0\/n.kind=1\/n.kind=2)
  (U:S.Nodup) (W:∀j∈S,j<4/\(r.sh j=true\/r.owner=(j:Int)))
  (K:n.kind≠1->∀j:Nat,j<4->(n.kind=2->(j:Int)≠n.core)->r.sh j=true\/r.owner=(j:Int)->j∈S)
  (d:n.kind=1->∀j∈S,r.owner=(j:Int)) (H:st=if n.kind=1 then 1 else 0)
  (e:r'.owner=r.owner/\r'.sh=r.sh/\r'.waits=w/\r'.busy=true/\r'.served=n/\r'.granted=false/\r'.told=false) (e2:∀j,j<4->r'.asked j=decide (j∈S)):
  Inv l r' m V c (eB l st S++N):=by
 obtain⟨E,hg,ht⟩:=h.idle hb
 have p:=h.row.waits n (by rw[I];simp)
 obtain⟨i,O,v,A⟩:=fK p.2.1
 have u:=fun x a=>h.calm E (x:=x) a
 have q:∀k j,eQ k j l r.waits=eQ k j l w+if n.kind=k/\j=i then 1 else 0:=fun k j=>by
  rw[I,cR];congr 1;simp only[v,p.1];grind
 have o:∀k j,eQ k j l (eB l st S++N)=(if k=11/\j∈S then 1 else 0)+eQ k j l N:=fun k j=>by rw[C7,X8 U]
 have g:∀j,HH l r' c (eB l st S++N) j=HH l r c N j:=fun j=>by
  unfold HH pd;rw[q,o,e.2.2.1,aab,aab];simp
 have D:∀x∈eB l st S,x.kind=11/\x.line=l/\x.state=st/\∃j∈S,x.core=(j:Int):=fun x a=>by
  unfold eB at a;grind
 have g0:∀j,vY r j=0/\vY r' j=0:=fun j=>by unfold vY;grind
 have e8:∀x∈N,x.kind≠8:=fun x a k=>by
  have hb:=h.nc x a;obtain⟨j,b,y,_⟩:=fK hb.2;exact h.no8 b (g0 j).1 a k y
 have Z:∀j,zR r j=0:=fun j=>by unfold zR;rw[hb];simp
 have s1:∀j,zR r' j=if n.kind≠0/\j=i then 1 else 0:=fun j=>by
  unfold zR;grind
 have f:∀x,x∈eB l st S++N->x∈eB l st S\/x∈N:=fun x a=>List.mem_append.1 a
 have B:∀x,x∈w->x∈r.waits:=fun x a=>by grind
 have X:∀j,j<4->(HH l r c N j=1↔r.sh j=true)/\(2<=HH l r c N j↔r.owner=(j:Int)):=fun j b=>h.c1 j b (by have:=h.t3 j b;rw[fZ E b] at this;simp at this;omega) (by have:=h.t4 j b;rw[(g0 j).1] at this;omega)
 have F:=h.rq n (.inr (by rw[I];simp))
 rw[A] at F
 have J:n.kind=0\/n.kind=2\/r.owner≠n.core:=by
  by_cases Y:n.kind=1;right;right;intro eo;have has:(c i).pL=true:=by
   have:=h.t1 i O;rw[q 1,aKj ⟨Y,rfl⟩] at this;cases a:(c i).pL<;>simp_all
  have t:(c i).aw=false:=by grind
  have:=h.a2 i O has t;grind;omega
 constructor
 case row=>
  refine A2.jg ⟨?_,?_,?_,?_,?_,e.2.2.2.1,e.2.2.2.2.2.1⟩
  .grind
  .rw[e.1];exact h.row.owner
  .rw[e.2.2.1];exact fun x a=>h.row.waits x (B x a)
  .grind
  grind
 case ks=>grind
 case kg=>grind
 case told=>grind
 case nc=>
  intro x a;rcases f x a with a|a
  .grind
  .exact h.nc x a
 case ex=>exact h.ex
 case uC=>exact h.uC
 case t1=>
  intro j b
  have d:=h.t1 j b
  simp only[q,Z] at d
  rw[s1,e.2.2.1]
  grind
 case t2=>intro j b;have d:=h.t2 j b;rw[q,aab] at d;grind
 case t3=>
  intro j b
  have d:=h.t3 j b
  rw[fZ E b] at d
  simp at d
  rw[e2 j b]
  simp only[o,d]
  grind
 case t4=>intro j b;have d:=h.t4 j b;grind
 case a1=>simp only[g];exact h.a1
 case a2=>simp only[g];exact h.a2
 case rq=>
  intro x a k
  refine h.rq x ?_ k
  grind
 case rs=>grind
 case c1=>grind
 case c2=>simp only[g];exact h.c2
 case zW=>grind
 case gN=>grind
 case pN=>
  intro x a k
  rcases f x a with a|a
  .obtain⟨_,_,R,j,b,T⟩:=D x a;rw[e.1,e.2.1,e.2.2.2.2.1,R,H,T,Int.toNat_natCast];grind
  grind
 case rN=>grind
 case uN=>
  intro x a k
  refine h.uN x ?_ k
  grind
 case c3=>simp only[g];exact h.c3
 case c5=>simp only[g];exact fun d P=>h.c5 d (fun x a=>P x (List.mem_append.2 (.inr a)))
 grind
theorem Inv.aFp {w:List aH} (h:Inv l r m V c N) (B:r.waits=n::w) (I:n.kind=1\/n.kind=2):Inv l (r.next w) m V c (nA 9 n.core l::N):=by
 have q:=h.row.waits n (by rw[B];simp);obtain⟨i,H,A,E⟩:=fK q.2.1;have t:∀k j,eQ k j l r.waits=eQ k j l w+if n.kind=k/\j=i then 1 else 0:=fun k j=>by
  rw[B,cR];grind
 have g:∀k j,eQ k j l (nA 9 n.core l::N)=eQ k j l N+if k=9/\j=i then 1 else 0:=fun k j=>by
  rw[cR];congr 1;simp only[nA,A];grind
 have f:∀j,HH l (r.next w) c (nA 9 n.core l::N) j=HH l r c N j:=fun j=>by
  unfold HH pd;rw[t,g,aab,aab];rfl
 have b:∀x,x∈nA 9 n.core l::N->x=nA 9 n.core l\/x∈N:=fun x a=>List.mem_cons.1 a;have p:∀x,x∈w->x∈r.waits:=fun x a=>by grind
 have F:∀x,x=nA 9 n.core l->x.kind=9:=fun x e=>by rw[e];rfl
 constructor;exact A6 h.row B;exact h.ks;exact h.kg;exact h.told;intro x a;rcases b x a with rfl|a;exact⟨rfl,q.2.1⟩;exact h.nc x a;exact h.ex;exact h.uC;intro j d;have o:=h.t1 j d;have D:zR (r.next w) j=zR r j:=rfl;rw[D];simp only[t,g] at o ⊢;rw[show(r.next w).waits=w from rfl];grind;intro j d;have o:=h.t2 j d;rw[t,aab] at o;rw[show(r.next w).waits=w from rfl];grind;intro j d;have o:_=((r.next w).asked j).toNat:=h.t3 j d;grind;intro j d;have o:_=vY (r.next w) j:=h.t4 j d;grind;simp only[f];exact h.a1;simp only[f];exact h.a2;intro x a k;exact h.rq x (a.elim (fun a=> .inl ((b x a).resolve_left (fun e=>by grind))) (fun a=> .inr (p x a))) k;exact h.rs;intro j d v y;rw[f];simp only[g] at v y;simp at v y;exact h.c1 j d v y;simp only[f];exact h.c2;simp only[f];intro j d u x a k;rcases b x a with rfl|a;cases k;exact h.zW j d u x a k;simp only[f];intro x a k;rcases b x a with rfl|a;cases k;exact h.gN x a k;intro x a k;rcases b x a with rfl|a;cases k;exact h.pN x a k;simp only[f];intro x a k;rcases b x a with rfl|a;cases k;exact h.rN x a k;intro x a k;exact h.uN x (a.elim (fun a=> .inl ((b x a).resolve_left (fun e=>by grind))) (fun a=> .inr (p x a))) k;simp only[f];exact h.c3;simp only[f];exact fun o u=>h.c5 o (fun x a=>u x (List.mem_cons_of_mem _ a));exact h.k2
theorem Inv.aGi {w:List aH} (h:Inv l r m V c N) (i:r.waits=n::w) (p:n.kind=0):Inv l (r.next w) m V c N:=by
 have e:∀k j,k≠0->eQ k j l r.waits=eQ k j l w:=fun k j o=>by
  rw[i,cR,aab];rfl
 have a:∀j,HH l (r.next w) c N j=HH l r c N j:=fun j=>by unfold HH pd;rw[e 3 j (by omega)];rfl
 have d:∀x,x∈w->x∈r.waits:=fun x f=>by grind
 constructor;exact A6 h.row i;exact h.ks;exact h.kg;exact h.told;exact h.nc;exact h.ex;exact h.uC;intro j g;have b:=h.t1 j g;rw[e 1 j (by omega),e 2 j (by omega)] at b;exact b;intro j g;have b:=h.t2 j g;rw[e 3 j (by omega)] at b;exact b;exact h.t3;exact h.t4;simp only[a];exact h.a1;simp only[a];exact h.a2;exact fun x f=>h.rq x (f.imp id (d x));exact h.rs;simp only[a];exact h.c1;simp only[a];exact h.c2;simp only[a];exact h.zW;simp only[a];exact h.gN;exact h.pN;simp only[a];exact h.rN;exact fun x f=>h.uN x (f.imp id (d x));simp only[a];exact h.c3;simp only[a];exact h.c5;exact h.k2
theorem Inv.yf (h:Inv l r m V c N):Inv l (r.wait (mW l)) m V c N:=by
 have f:∀k j,k≠0->eQ k j l (r.wait (mW l)).waits=eQ k j l r.waits:=fun k j i=>by
  show eQ k j l (r.waits++[mW l])=_;rw[C7,cR,Zv,aKi (by simp[mW,aH.zero];omega)];rfl
 have b:∀j,HH l (r.wait (mW l)) c N j=HH l r c N j:=fun j=>by unfold HH pd;grind
 have d:∀x,x∈(r.wait (mW l)).waits->x.kind≠0->x∈r.waits:=fun x a k=>by
  have a:x∈r.waits++[mW l]:=a;rcases List.mem_append.1 a with a|a;exact a;rw[List.mem_singleton.1 a] at k;exact absurd rfl k
 constructor;exact Bb h.row rfl ⟨by show(0:Int)<=0;omega,by show(0:Int)<4;omega⟩ (.inl rfl);exact h.ks;exact h.kg;exact h.told;exact h.nc;exact h.ex;exact h.uC;intro j e;have g:=h.t1 j e;rw[f 1 j (by omega),f 2 j (by omega)];exact g;intro j e;have g:=h.t2 j e;grind;exact h.t3;exact h.t4;simp only[b];exact h.a1;simp only[b];exact h.a2;exact fun x a k=>h.rq x (a.imp id (fun a=>d x a (by omega))) k;exact h.rs;simp only[b];exact h.c1;simp only[b];exact h.c2;simp only[b];exact h.zW;simp only[b];exact h.gN;exact h.pN;simp only[b];exact h.rN;exact fun x a k=>h.uN x (a.imp id (fun a=>d x a (by omega))) k;simp only[b];exact h.c3;simp only[b];exact h.c5;exact h.k2
theorem Inv.qm {w:List aH} (h:Inv l r m V c N) (hb:r.busy=false) (E:r.waits=n::w) (T:n.kind=3):
  Inv l ((r.next w).leave n.core) (if r.owner=n.core/\n.jX=true then(n.d0,n.d1) else m) V c (nA 10 n.core l::N):=by
 obtain⟨U,hg,ht⟩:=h.idle hb
 have q:=h.row.waits n (by rw[E];simp)
 obtain⟨i,D,v,K⟩:=fK q.2.1
 have f:=fun x a=>h.calm U (x:=x) a
 have t:∀k j,eQ k j l r.waits=eQ k j l w+if k=3/\j=i then 1 else 0:=fun k j=>by
  rw[E,cR];congr 1;simp only[v,q.1,T];grind
 have o:∀k j,eQ k j l (nA 10 n.core l::N)=eQ k j l N+if k=10/\j=i then 1 else 0:=fun k j=>by
  rw[cR];congr 1;simp only[nA,v];grind
 have g0:∀j,vY r j=0/\vY ((r.next w).leave n.core) j=0:=fun j=>⟨by unfold vY;rw[hg];simp,by unfold vY;rw[aKi];intro e;have:r.granted=true:=e.1;grind⟩
 have e8:∀x∈N,x.kind≠8:=fun x a k=>by
  have hb:=h.nc x a;obtain⟨j,d,J,_⟩:=fK hb.2;exact h.no8 d (g0 j).1 a k J
 have u:∀j,j<4->(HH l r c N j=1↔r.sh j=true)/\(2<=HH l r c N j↔r.owner=(j:Int)):=fun j d=>h.c1 j d (by have:=h.t3 j d;rw[fZ U d] at this;simp at this;omega) (by have:=h.t4 j d;grind)
 have W:(c i).gi=true/\eQ 3 i l N=0/\eQ 3 i l w=0/\eQ 10 i l N=0:=by
  have:=h.t2 i D;rw[t,aKj ⟨rfl,rfl⟩] at this;cases a:(c i).gi with
  |false=>grind
  |true=>grind
 have A:(c i).st=0/\(c i).pL=false:=by
  have:=h.ex i D;rw[W.1] at this;constructor;grind;grind
 have P:HH l r c N i=(c i).gs:=by
  unfold HH tV pd;rw[t,A.1,W.1];simp
 have H:HH l ((r.next w).leave n.core) c (nA 10 n.core l::N) i=0:=by
  unfold HH tV;have:pd l ((r.next w).leave n.core) (nA 10 n.core l::N) i=0:=by
   unfold pd;rw[o];show _+eQ 3 i l w=0;grind
  grind
 have Y:∀j,j≠i->HH l ((r.next w).leave n.core) c (nA 10 n.core l::N) j=HH l r c N j:=fun j e=>by
  unfold HH;have:pd l ((r.next w).leave n.core) (nA 10 n.core l::N) j=pd l r N j:=by
   unfold pd;rw[o,t];show _+eQ 3 j l w=_;simp[e]
  rw[this]
 have hle:∀j,j<4->HH l ((r.next w).leave n.core) c (nA 10 n.core l::N) j=HH l r c N j\/(j=i/\HH l ((r.next w).leave n.core) c (nA 10 n.core l::N) j=0):=fun j _=>by
  grind
 have g:∀x,x∈nA 10 n.core l::N->x=nA 10 n.core l\/x∈N:=fun x a=>List.mem_cons.1 a
 have y:∀x,x∈w->x∈r.waits:=fun x a=>by grind
 have γ:∀x,x=nA 10 n.core l->x.kind=10:=fun x e=>by rw[e];rfl
 have B:=h.uN n (.inr (by rw[E];simp)) T
 rw[K] at B
 constructor
 case row=>exact Aj (A6 h.row E)
 case ks=>exact h.ks
 case kg=>exact h.kg
 case told=>exact h.told
 case nc=>intro x a;rcases g x a with rfl|a;exact⟨rfl,q.2.1⟩;exact h.nc x a
 case ex=>exact h.ex
 case uC=>exact h.uC
 case t1=>
  intro j d
  have p:=h.t1 j d
  have X:zR ((r.next w).leave n.core) j=zR r j:=rfl
  rw[X]
  simp only[t,o] at p ⊢
  rw[show((r.next w).leave n.core).waits=w from rfl]
  grind
 case t2=>
  intro j d
  have p:=h.t2 j d
  simp only[t,o] at p ⊢
  show eQ 3 j l N+_+eQ 3 j l w+_=_
  grind
 case t3=>intro j d;have p:_=(((r.next w).leave n.core).asked j).toNat:=h.t3 j d;grind
 case t4=>intro j d;have p:=h.t4 j d;grind
 case a1=>intro j d I;have:=h.a1 j d I;grind
 case a2=>intro j d I hb;have:=h.a2 j d I hb;grind
 case rq=>intro x a k;exact h.rq x (a.elim (fun a=> .inl ((g x a).resolve_left (fun e=>by grind))) (fun a=> .inr (y x a))) k
 case rs=>exact h.rs
 case c1=>
  intro j d _ _
  by_cases e:j=i
  .rw[e,H];constructor
   .show _↔gQ r.sh n.core false i=true;unfold gQ;grind
   .show _↔(if r.owner=n.core then(-1:Int) else r.owner)=(i:Int);grind
  .rw[Y j e];have p:=u j d;constructor
   .show _↔gQ r.sh n.core false j=true;unfold gQ;grind
   .show _↔(if r.owner=n.core then(-1:Int) else r.owner)=(j:Int);grind
 case c2=>
  intro j d Z k β e
  have F:=h.c2 j d
  grind
 case zW=>grind
 case gN=>grind
 case pN=>grind
 case rN=>grind
 case uN=>intro x a k;exact h.uN x (a.elim (fun a=> .inl ((g x a).resolve_left (fun e=>by grind))) (fun a=> .inr (y x a))) k
 case c3=>
  intro j d F
  rcases hle j d with O|O
  .rw[O] at F;exact h.c3 j d F
  grind
 case c5=>
  intro p _
  by_cases ho:r.owner=n.core
  .have Z:=(u i D).2.2 (by omega);have R:=h.c3 i D (by omega);unfold sW at R;rw[aKi (by simpa using A.1)] at R;by_cases S:n.jX=true
   .grind
   .rw[aKi (fun e=>S e.2)];have α:¬((c i).gs=3\/(c i).gs=4):=fun e=>S (B.2 e);refine h.c5 (fun j d=>?_) (fun x a k=>absurd k (f x a).1);grind
  .rw[aKi (fun e=>ho e.1)];refine h.c5 (fun j d=>?_) (fun x a k=>absurd k (f x a).1);grind
 case k2=>intro b;rw[show((r.next w).leave n.core).busy=r.busy from rfl,hb] at b;cases b
theorem Inv.begun {w:List aH} {j:Int->Int×Bool} (h:Inv l r m V c N) (hb:r.busy=false) (f:r.waits=n::w):
  Inv l (Row.begun (r.next w) l m n j).1.1 (Row.begun (r.next w) l m n j).1.2 V c ((Row.begun (r.next w) l m n j).2++N):=by
 obtain⟨D,t,y⟩:=h.idle hb
 have O:=h.row.waits n (by rw[f];simp)
 obtain⟨i,hi,I,J⟩:=fK O.2.1
 have p:∀j,j<4->r.asked j=false:=fun j o=>fZ D o
 have U:∀j,j<4->(HH l r c N j=1↔r.sh j=true)/\(2<=HH l r c N j↔r.owner=(j:Int)):=fun j o=>h.c1 j o (by have:=h.t3 j o;rw[fZ D o] at this;simp at this;omega) (by have:=h.t4 j o;unfold vY at this;rw[t] at this;simp at this;omega)
 have β:=h.row.owner
 unfold Row.begun
 by_cases k3:n.kind=3
 .rw[aKj k3];exact h.qm hb f k3
 .rw[aKi k3];by_cases A:n.kind=1\/n.kind=2
  .rw[aKj A];by_cases o:(j n.world).2=true
   .rw[aKj o];have d:((r.next w).serve n (j n.world).1).served=n:=rfl;unfold Row.get;by_cases E:n.kind=2
    .simp only[aKj E];unfold Row.getM;by_cases B:((r.next w).serve n (j n.world).1).first n.core≠ -1
     .rw[aKj (by rw[d];exact B)];rw[d];have v:∀a,a∈((r.next w).serve n (j n.world).1).fY n.core->a<4/\(r.sh a=true\/r.owner=(a:Int)):=fun a b=>by
       have:=rD.1 b;have F:r.holds n.core a=true:=this.2;unfold Row.holds at F;grind
      refine h.J7 hb f (.inr (.inr E)) Kw v (fun _ a b u tV=>rD.2 ⟨b,?_⟩) (fun e=>by omega) (by grind) ⟨rfl,rfl,rfl,rfl,rfl,t,y⟩ (fun a b=>?_)
      .show r.holds n.core a=true;unfold Row.holds;grind
      .show(r.asked a||(((r.next w).serve n (j n.world).1).fY n.core).contains a)=_;grind
     .rw[aKi (by rw[d];exact B)];have W:((r.next w).serve n (j n.world).1).first n.core= -1:=Classical.not_not.1 B
      have K:=F3.1 W
      have R:=h.J7 (r':=(r.next w).serve n (j n.world).1) (S:=[]) (st:=0) hb f (.inr (.inr E)) List.nodup_nil (fun _ e=>by cases e)
       (fun _ a b u tV=>by
        have F:r.sh a=false/\(a:Int)≠r.owner:=K a b (u E);grind) (fun _ _ e=>by cases e) (by grind) ⟨rfl,rfl,rfl,rfl,rfl,t,y⟩ (fun a b=>by show r.asked a=_;grind)
      have g:((r.next w).serve n (j n.world).1).sW m=m:=by unfold Row.sW;rw[aKi];show ¬r.told=true;rw[y];simp
      rw[g]
      have H:∀a,HH l ((r.next w).serve n (j n.world).1) c (eB l 0 []++N) a=HH l r c N a:=fun a=>by
       unfold HH pd;show tV (c a) (eQ 3 a l N+eQ 3 a l w)=_;rw[f,cR,aab];rfl
      refine(R.eC rfl t D (.inr E) (fun h0=>?_) (fun e=>by grind)).1
      refine h.c5 (fun a b=>?_) (fun x u k=>absurd k (h.calm D u).1)
      by_cases e:a=i
      .rw[H,d,J] at h0;rw[e];omega
      .have F:r.sh a=false/\(a:Int)≠r.owner:=K a b (by rw[I];omega);have:¬2<=HH l r c N a:=fun e2=>by have:=(U a b).2.1 e2;omega
       omega
    .simp only[aKi E];have q:n.kind=1:=by omega
     have Y:=(h.rq n (.inr (by rw[f];simp)) (.inl q))
     rw[J] at Y
     have has:(c i).pL=true:=by
      have:=h.t1 i hi;rw[f,cR (k:=1),aKj ⟨q,I,O.1⟩] at this;cases u:(c i).pL<;>simp_all
     have T:(c i).aw=false:=by grind
     have h0:=h.a2 i hi has T
     have X:r.owner≠n.core:=fun e=>by grind
     have Z:((r.next w).serve n (j n.world).1).oF=(r.next w).serve n (j n.world).1:=by unfold Row.oF;exact aKi X
     rw[Z]
     unfold Row.S3
     by_cases P:r.owner≠ -1
     .rw[aKj (show((r.next w).serve n (j n.world).1).owner≠ -1 from P)];refine h.J7 hb f (.inr (.inl q)) (List.nodup_cons.2 ⟨by simp,List.nodup_nil⟩) (fun a b=>?_) (fun e=>absurd q e) (fun _ a b=>?_) (by rw[aKj q]) ⟨rfl,rfl,rfl,rfl,rfl,t,y⟩ (fun a b=>?_)
      .have b:a=((r.next w).serve n (j n.world).1).owner.toNat:=by simpa using b
       have b:a=r.owner.toNat:=b
       grind
      .have b:a=((r.next w).serve n (j n.world).1).owner.toNat:=by simpa using b
       have b:a=r.owner.toNat:=b
       omega
      .show(r.asked a||[r.owner.toNat].contains a)=_;rw[p a b];simp;rfl
     .rw[aKi (show ¬((r.next w).serve n (j n.world).1).owner≠ -1 from P)];have P:r.owner= -1:=Classical.not_not.1 P;have R:=h.J7 (r':=(r.next w).serve n (j n.world).1) (S:=[]) (st:=1) hb f (.inr (.inl q)) List.nodup_nil (fun _ e=>by cases e)
       (fun e=>absurd q e) (fun _ _ e=>by cases e) (by rw[aKj q]) ⟨rfl,rfl,rfl,rfl,rfl,t,y⟩ (fun a b=>by show r.asked a=_;grind)
      have g:((r.next w).serve n (j n.world).1).sW m=m:=by unfold Row.sW;rw[aKi];show ¬r.told=true;rw[y];simp
      rw[g]
      have H:∀a,HH l ((r.next w).serve n (j n.world).1) c (eB l 1 []++N) a=HH l r c N a:=fun a=>by
       unfold HH pd;show tV (c a) (eQ 3 a l N+eQ 3 a l w)=_;rw[f,cR,aab];rfl
      have α:∀a,a<4->¬2<=HH l r c N a:=fun a b e2=>by grind
      refine(R.eC rfl t D (.inl q) (fun _=>h.c5 (fun a b=>?_) (fun x u k=>absurd k (h.calm D u).1)) (fun _ a b=>?_)).1
      .grind
      grind
   .rw[aKi o];exact h.aFp f A
  .rw[aKi A];have k0:n.kind=0:=by grind
   by_cases B:(r.next w).first (-1)= -1
   .rw[aKj B];exact h.aGi f k0
   .rw[aKi B];have v:∀a,a∈(r.next w).fY (-1)->a<4/\(r.sh a=true\/r.owner=(a:Int)):=fun a b=>by
     have:=rD.1 b;have F:r.holds (-1) a=true:=this.2;unfold Row.holds at F;grind
    refine h.J7 hb f (.inl k0) Kw v (fun _ a b u tV=>rD.2 ⟨b,?_⟩) (fun e=>by omega) (by grind) ⟨rfl,rfl,rfl,rfl,rfl,t,y⟩ (fun a b=>?_)
    .show r.holds (-1) a=true;unfold Row.holds;grind
    .show(r.asked a||((r.next w).fY (-1)).contains a)=_;grind
theorem Inv.u5 {a:Ln} (h:Inv l r m V c N) (d:∀i,i<4->HH l r c N i=0) (f:∀x∈N,x.kind≠8/\(x.kind=5->x.jX=false)):Inv l r a a c N:=by
 constructor;exact h.row;exact h.ks;exact h.kg;exact h.told;exact h.nc;exact h.ex;exact h.uC;exact h.t1;exact h.t2;exact h.t3;exact h.t4;exact h.a1;exact h.a2;exact h.rq;exact h.rs;exact h.c1;exact h.c2;exact h.zW;grind;exact h.pN;exact fun x b k=>⟨(h.rN x b k).1,(h.rN x b k).2.1,fun e=>by grind⟩;exact h.uN;grind;exact fun _ _=>rfl;exact h.k2
theorem Inv.zero (l:Nat):Inv l vL (0,0) (0,0) (fun _=>⟨0,(0,0),false,false,false,0,(0,0)⟩) []:=by
 have hH:∀i,HH l vL (fun _=>⟨0,(0,0),false,false,false,0,(0,0)⟩) [] i=0:=fun i=>by unfold HH tV pd;simp
 constructor;exact aB8 l;intro e;cases e;intro e;cases e;intro e;cases e;intro x a;cases a;intro _ _ _;rfl;intro _ _;decide;intro _ _;rfl;intro _ _;rfl;intro _ _;rfl;intro _ _;rfl;intro _ _ e;cases e;intro _ _ e;cases e;intro x a;rcases a with a|a<;>cases a;intro e;cases e;intro i b _ _;rw[hH];simp[vL]<;>omega;grind;grind;intro x a;cases a;intro x a;cases a;intro x a;cases a;intro x a;rcases a with a|a<;>cases a;grind;intro _ _;rfl;intro e;cases e
end
end Go.Pc
