/- A part of the proof. -/
import Derived.Test.YtbcndiahccicpaaGreatDoorS18
import Derived.Test.YtbcndiahccicpaaGreatDoorS17
import Derived.Test.YtbcndiahccicpaaGreatDoorS9
import Derived.Test.YtbcndiahccicpaaGreatDoorS16
set_option linter.all false
set_option maxRecDepth 100000
open Go Go.Ab
variable {l:FL} {g x:Int} {L L' N:IU} {Q:Value->AH->Prop} {b c hb i m o p2 p3 q:Nat} {k:Value->Prop} {a:FM} {w:Bool} {J cs:FJ} {f:Nat->FM×Nat} {ov pv v vv:Value} {e:TypeId} {os vs:FK}
section
attribute [local irreducible] cC Br vZ yU Ar Jj rJ Ce qL dj lQ sJ wV wJ vF rB A6 Yn Wh W3 Wi Wj gf qN tZ nJ mM Dv O9 pX Vx cn E2 Cl F3 ga zF yL oI jF eX dO
namespace Go.Proofs.Z
open Go.Hm Go.At Go.Mc Go.Ct
def aEn {l done:List (Int×Int)} {y:Int×Int} (b:done++[y]<+:l) (a:∀z∈done,z.1≠g) (c:y.1=g):jC l g=some y.2:=by
 obtain⟨r,rfl⟩:=b;unfold jC;rw[eh,List.find?_append,EH.2 GR];simp[c]
def xu {l:List (Int×Int)} (a:∀z∈l,z.1≠g):jC l g=none:=by
 unfold jC;rw[EH.2 GR];rfl
variable {G:Bg} {h:AH} {Cf:bQ} {M:bU}
abbrev knX (G:Bg) (Cf:bQ) (m:Nat) (M:bU) (p2 a:Nat) (g v:Int) (e:Nat->Value) (d l:Nat) (st:LoopState×Option Code) (pr:Prop):HP:=
 sp [Dw pr,pD Pr 169 (qK 218) 25 e d l st,sp [aK p2 0 [I g],aK a 0 [I v]],bY G Cf m M]
def Bs {s:Nat->jO} {t:jO} (a:i<l.length) (b:Hs G h L) [k:fZ (oY (l.getD i 0) Cf t) L L'] [c:fZ (Ms (uL Cf) l s i) L' N]:Hs G h (uZ (uL Cf) l (bA s i t)::N):=H0 a<|b.dC (oY (l.getD i 0) Cf t)<|Ms (uL Cf) l s i
theorem cK {α:Type} {s:Nat->α}:bA s i (s i)=s:=by
 funext j;unfold bA;split;rename_i e;rw[e];rfl
def aC5 (H:(i:Int)<Cf.aB) (hb:(M.aT i).bL.length<=100) (a:Hs G h L) [F:dZ (bY G Cf m) L M L'] (r:∀A,Hs G A (bY G Cf m M::L')->Q (I<|M.bL i g) A):JL 169 [JM m,I i,I g] h Q:=by
 unfold bU.bL at r;refine cW<|fB (F.of a) fun f h a=>cT a fun c h a=>an (b:=c) a fun h a=>?_;obtain⟨x,B,a⟩:=dH<|a.bE<|bY G Cf m M;have j:i<x.lq.length:=by have:=B.2.2;omega
 refine aC<|aA<|ai m a rfl<|O5 a j ?_;have a:=jH (R:=uL Cf) (l:=x.lq) (s:=M.aT) j a;refine aF5 (C:=Cf) (p:=x.lq.getD i 0) (s:=M.aT i) hb a fun q h a=>?_;have a:=Bs (Cf:=Cf) (l:=x.lq) (s:=M.aT) (i:=i) (t:=M.aT i) j a;rw[cK] at a;have a:=cB (m:=m) (x:=x) M B a;refine nY a fun d h a=>?_;intro e E;refine rK a fun l h a=>xU rfl ?_;have a:Hs G h (Y7 q (M.aT i).bL::knX G Cf m M f c g 0 e d l (.ready,none) (∀z∈([]:List (Int×Int)),z.1≠g)::mk d ()::L'):=by
  have a:=(a.dC (aK f 0 [I g])<|aK c 0 [I 0]).F6;have a:=a.dV (pD Pr 169 (qK 218) 25 e d l (.ready,none)) (sp [aK f 0 [I g],aK c 0 [I 0]])<|bY G Cf m M;have a:=Hs.Rx<|Hs.dm (p:=∀z∈([]:List (Int×Int)),z.1≠g) FW a;exact a.to
 refine(aO4 (q:=q) (l:=(M.aT i).bL) FQ).No
  (X:=fun done=>knX G Cf m M f c g 0 e d l (.ready,none) (∀z∈done,z.1≠g)) (Z:=fun done y=>knX G Cf m M f c g y.2 e d l (.done,some<|.exit 0)<|jC (M.aT i).bL g=some y.2) a ?_ ?_ ?_
 .intro done y h N D a;obtain⟨k,a⟩:=kK a;have a:=a.Fc;have a:=(a.bE<|sp [aK f 0 [I g],aK c 0 [I 0]]).A7;refine rW (yJ a) E<|kV a fun h a=>ai f a rfl<|cF<|bG (fun w=>?_) fun w=>?_;refine an (b:=c) a fun h a=>lM a fun h a=> .inr ⟨rfl,?_⟩;have a:=(a.dC (aK f 0 [I g])<|aK c 0 [I y.2]).F6;exact(Hs.Rx<|Hs.dm (p:=jC (M.aT i).bL g=some y.2) (aEn D k w)<|a.dV (pD Pr 169 (qK 218) 25 e d l (.done,some<|.exit 0)) (sp [aK f 0 [I g],aK c 0 [I y.2]])<|bY G Cf m M).to
  .refine lM a fun h a=> .inl ⟨rfl,?_⟩;have a:=(a.dC (aK f 0 [I g])<|aK c 0 [I 0]).F6;refine(Hs.Rx<|Hs.dm (p:=∀z∈done++[y],z.1≠g) ?_<|a.dV (pD Pr 169 (qK 218) 25 e d l (.ready,none)) (sp [aK f 0 [I g],aK c 0 [I 0]])<|bY G Cf m M).to;intro z u;rcases cg.1 u with u|u;exact k z u;rw[aV.1 u];exact w
 intro v h a;obtain⟨k,a⟩:=kK<|a.bE<|knX G Cf m M f c g 0 e d l (.ready,none) (∀z∈(M.aT i).bL,z.1≠g);have a:=a.Fc;rw[xu k] at r;have a:=(a.bE<|sp [aK f 0 [I g],aK c 0 [I 0]]).A7;exact rD a fun h a=>rF<|ai c a rfl<|qQ a fun h a=>nU<|r _ a.to
 .intro done y v h D a;obtain⟨k,a⟩:=kK<|a.bE<|knX G Cf m M f c g y.2 e d l (.done,some<|.exit 0)<|jC (M.aT i).bL g=some y.2;have a:=a.Fc;rw[k] at r;have a:=(a.bE<|sp [aK f 0 [I g],aK c 0 [I y.2]]).A7;exact K4 a fun h a=>Oh rfl<|ai c a rfl<|qQ a fun h a=>nU<|r _ a.to
end Go.Proofs.Z
namespace Go.Proofs.Z
open Go.Hm Go.At Go.Mc Go.Ct Go.Nt Go.Is
variable {Cf:bQ} {M:bU}
section
instance:Fx aG.enc 9:=inferInstance
structure Gb (G:Bg):Prop where
 Nq:Ob G 0 iM
 kin:Ob G 3 El
 iU:Ob G 6 oO
variable {G:Bg} {h:AH}
def Mi {α:Type} {R:Nat->Nat->α->HP} {s:Nat->α} {t:α} (a:i<l.length) (b:Hs G h L) [k:fZ (R i q t) L L'] [c:fZ (Ms R l s i) L' N]:Hs G h (uZ R (l.set i q) (bA s i t)::N):=aGj a<|b.dC (R i q t)<|Ms R l s i
def Nb {F:eO} {l:IT} (h:(eO.gJ Cf F l).2≠0):(eO.gJ Cf F l).1=F:=by
 unfold eO.gJ at h ⊢;split;rfl;rename_i a;rw[bD1 a] at h;cases hp:eO.sE Cf.eR F l with
 |none=>rfl
 |some b=>rw[hp] at h;exact absurd rfl h
def aI0 (hC:Cf.Ok) (hG:Gb G) (A:(i:Int)<Cf.aB) (hb:(M.aT i).bL.length<=100) (y:vy Cf M.cD) (d:Hs G h L) [z:dZ (bY G Cf m) L M L'] (k:∀w,Hs G w (bY G Cf m (M.Bk Cf i g).1::L')->Q (I (M.Bk Cf i g).2) w):JL 168 [JM m,I i,I g] h Q:=by
 unfold bU.Bk at k;obtain⟨x,r,d⟩:=dH<|z.of d;have j:i<x.lq.length:=by have:=r.2.2;omega
 refine cW<|aC<|aA<|ai m d rfl<|O5 d j ?_;have d:=jH (R:=uL Cf) (l:=x.lq) (s:=M.aT) j d;refine Kc (C:=Cf) (p:=x.lq.getD i 0) (s:=M.aT i) hb d fun q h d=>?_;refine px (C:=Cf) (p:=q) (s:=M.aT i) hC hb d fun h d=>aN rfl<|aN rfl<|bZ<|bG (fun v=>?_) fun v=>?_;rw[bD2 v] at k;have d:=Bs (Cf:=Cf) (l:=x.lq) (s:=M.aT) (i:=i) (t:=M.aT i) j d;rw[cK] at d;exact k _ (cB (m:=m) (x:=x) M r d).to;rw[bD1 v] at k;refine bW<|aC<|aA<|ai m d rfl<|aZ (c:=(cN 6 i ((M.aT i).dJ Cf g).2.1).enc) rfl<|aZ (c:=(cN 6 i ((M.aT i).dJ Cf g).2.1).enc) rfl<|eA (W:=9) (n:=1) (c:=1) d rfl rfl rfl fun a h d=>?_;have d:=sG (enc:=aG.enc) (x:=cN 6 i ((M.aT i).dJ Cf g).2.1) d;refine xM (C:=Cf) (f:=x.fb) (F:=M.cD) (l:=[cN 6 i ((M.aT i).dJ Cf g).2.1]) (a:=some a) (c:=1) hC (y.V9 hC) FW hG.kin hG.Nq d fun h d=>bZ<|bG (fun u=>?_) fun u=>?_;dsimp only at k;rw[bD2 u] at k;rw[Nb u] at d;have d:=Bs (Cf:=Cf) (l:=x.lq) (s:=M.aT) (i:=i) (t:=M.aT i) j d;rw[cK] at d;exact k _ (cB (m:=m) (x:=x) M r d).to;dsimp only at k;rw[bD1 u] at k;refine bW<|aC<|aA<|ai m d rfl<|dc d j fun h d=>k _ ?_;have d:=Mi (R:=uL Cf) (l:=x.lq) (s:=M.aT) (i:=i) (q:=q) (t:=((M.aT i).dJ Cf g).1) j d;have e:gD Cf x M.eF.length=gD Cf {x with lq:=x.lq.set i q} M.eF.length:=HT
 rw[e] at d;exact(cB (m:=m) (x:={x with lq:=x.lq.set i q}) ((M.bM (eO.gJ Cf M.cD [cN 6 i ((M.aT i).dJ Cf g).2.1]).1).eP i ((M.aT i).dJ Cf g).1) ⟨r.1,r.2.1,by rw[rk];exact r.2.2⟩ d).to
end
section
variable {G:Bg} {h:AH}
def mz {S:Nat->aQ} (e:i<l.length) (d:Hs G h L) [g:dZ (uZ yP l) L S L'] (f:k (I (S i).aY)):cC (sJ<|JM<|l.getD i 0) fun v=>cC (lQ 0 v) fun v=>cC (lQ 5 v) fun v=>cC (vZ h v) k:=by
 have d:=jH (R:=yP) (l:=l) (s:=S) e d;obtain⟨a,c,d⟩:=vL d;exact aC<|aA<|aA<|aE (b:=l.getD i 0) (o:=0) d rfl f
def Ip {s:Nat->jR} {t:jR} (a:i<l.length) (b:Hs G h L) [k:fZ (C.lR G (l.getD i 0) Cf i t) L L'] [c:fZ (Ms (uO G Cf) l s i) L' N]:Hs G h (uZ (uO G Cf) l (bA s i t)::N):=H0 a<|b.dC (C.lR G (l.getD i 0) Cf i t)<|Ms (uO G Cf) l s i
theorem aGb {aI:Int} {wr:Bool} (hC:Cf.Ok) (hG:Gb G) (B:(i:Int)<Cf.aB) (hb:iH Cf (M.bR i)) (z:vy Cf M.cD) (d:Hs G h L) [A:dZ (bY G Cf m) L M L'] (j:∀y,Hs G y (bY G Cf m (M.fY Cf i aI wr).1::L')->Q (I (M.fY Cf i aI wr).2) y):JL 171 [JM m,I i,I aI,.bool wr] h Q:=by
 unfold bU.fY at j;have p:Bd (M.bR i):=hb.bd (sO hC).2.2.2;obtain⟨x,k,d⟩:=dH<|A.of d;have r:i<x.lc.length:=by have:=k.1;omega
 have g:i<x.lk.length:=by have:=k.2.1;omega
 refine cW<|aC<|aA<|ai m d rfl<|N2 d g ?_;have d:=jH (R:=uO G Cf) (l:=x.lk) (s:=M.bR) g d;refine C.zk (C:=Cf) (core:=(i:Int)) (c:=x.lk.getD i 0) (s:=M.bR i) hC p d fun q h d=>?_;refine aC<|aA<|ai m d rfl<|Kg d r<|mz (l:=x.lc) (S:=M.aD) r d ?_;refine C.cz (C:=Cf) (core:=(i:Int)) (c:=q) (s:=M.bR i) hC p hG.Nq hG.iU d fun a c h d=>aN rfl<|aN rfl<|bZ<|bG (fun v=>?_) fun v=>?_;rw[bD2 v] at j;have d:=Ip (Cf:=Cf) (l:=x.lk) (s:=M.bR) (i:=i) (t:=M.bR i) g d;rw[cK] at d;exact j _ (cB (m:=m) (x:=x) M k d).to;rw[bD1 v] at j;have d:Hs G h (zX a c (fY Cf i (M.bR i) aI (M.aD i).aY wr).2.1::_):=d;refine bW<|aC<|aA<|ai m d rfl ?_;refine xM (C:=Cf) (f:=x.fb) (F:=M.cD) (l:=(fY Cf i (M.bR i) aI (M.aD i).aY wr).2.1) (a:=a) (c:=c) hC (z.V9 hC) (by have:=aI5 (C:=Cf) (core:=(i:Int)) (s:=M.bR i) (l:=aI) (w:=(M.aD i).aY) (wr:=wr);omega) hG.kin hG.Nq d fun h d=>bZ<|bG (fun u=>?_) fun u=>?_;dsimp only at j;rw[bD2 u] at j;rw[Nb u] at d;have d:=Ip (Cf:=Cf) (l:=x.lk) (s:=M.bR) (i:=i) (t:=M.bR i) g d;rw[cK] at d;exact j _ (cB (m:=m) (x:=x) M k d).to;dsimp only at j;rw[bD1 u] at j;refine bW<|aC<|aA<|ai m d rfl<|aBi d g fun h d=>j _ ?_;have d:=Mi (R:=uO G Cf) (l:=x.lk) (s:=M.bR) (i:=i) (q:=q) (t:=(fY Cf i (M.bR i) aI (M.aD i).aY wr).1) g d;have e:gD Cf x M.eF.length=gD Cf {x with lk:=x.lk.set i q} M.eF.length:=HT
 rw[e] at d;exact(cB (m:=m) (x:={x with lk:=x.lk.set i q}) ((M.bM (eO.gJ Cf M.cD (fY Cf i (M.bR i) aI (M.aD i).aY wr).2.1).1).kC i (fY Cf i (M.bR i) aI (M.aD i).aY wr).1) ⟨k.1,by rw[rk];exact k.2.1,k.2.2⟩ d).to
end
def vj:(List.range<|i+1).map (fun i:Nat=>cN 13 i g)=(List.range i).map (fun i:Nat=>cN 13 i g)++[cN 13 i g]:=by
 rw[ep,l4];rfl
variable {G:Bg} {h:AH}
theorem aLj {a:Mc.Np} (hC:Cf.Ok) (hG:Gb G) (R:(i:Int)<Cf.aB) (J:jE Cf M.bH) (U:(M.aD i).Ok) (u:M.eF.length<=2^30) (O:vy Cf M.cD) (d:Hs G h L) [Y:dZ (bY G Cf m) L M L'] (g:∀s,Hs G s (bY G Cf m (M.call Cf i a).1::L')->Q (I (M.call Cf i a).2) s):JL 118 [JM m,I i,.agg ⟨a.enc⟩] h Q:=by
 unfold bU.call at g;have Z:=hC.1;refine cW<|fB (Y.of d) fun B h d=>?_;obtain⟨x,A,d⟩:=dH<|d.bE<|bY G Cf m M;refine aC<|aA<|ai m d rfl<|Up (C:=Cf) (m:=M.bH) hC J d fun q h d=>?_;have V:=d.tail;refine am B d (l:=a.enc) rfl rfl<|x8 (C:=Cf) (m:=M.bH) (p:=q) hC J d fun h d=>aN rfl<|aN rfl<|bZ<|bG (fun D=>?_) fun D=>?_;rw[bD2 D] at g;have d:=cB (m:=m) (x:=x) M A d;exact tE (Cf:=Cf) (M:=M) R U u d fun h d=>g _ d.to;rw[bD1 D] at g;generalize P:M.bH.call Cf.aB a=rc at g d;have loop:∀(f j:Nat) (h:AH) (b:FM) (c:Nat),j+f=Cf.aB.toNat->Hs G h (zX b c ((List.range j).map fun i:Nat=>cN 13 i a.aR)::jL Cf q rc.1::aK m 0 (gD Cf x M.eF.length)::ptc x.ac x.cc x.lc::r6 x.ak x.ck x.lk::rz x.aq x.cq x.lq::
   uZ yP x.lc M.aD::uZ (uO G Cf) x.lk M.bR::uZ (uL Cf) x.lq M.aT::H.jG G x.hb Cf M.aJ::jL Cf x.mb M.bH::sI Cf x.fb M.cD::Ij x.al x.cl M.eF::aK B 0 a.enc::L')->
   Dd 118 2 [] Q [JM m,JM B,JM q,.slice b j c,I Cf.aB,I j] h:=by
  intro f
  induction f with
  |zero=>
   intro j h b c S d
   have E:j=Cf.aB.toNat:=FQ
   have r:((List.range j).map fun i:Nat=>cN 13 i a.aR)=sB Cf.aB a.aR:=by rw[E];rfl
   rw[r] at d
   have t:(sB Cf.aB a.aR).length=j:=by rw[<-r];simp
   refine bW<|bF<|aab<|bW<|aC<|aA<|ai m d rfl ?_
   rw[<-t]
   refine xM (C:=Cf) (f:=x.fb) (F:=M.cD) (l:=sB Cf.aB a.aR) (a:=b) (c:=c) hC (O.V9 hC) FQ hG.kin hG.Nq d fun h d=>bZ<|bG (fun z=>?_) fun z=>?_
   .dsimp only at g;rw[bD2 z] at g;rw[Nb z] at d;exact g _ (cB (m:=m) (x:=x) M A d).to
   .dsimp only at g;rw[bD1 z] at g;refine bW<|aC<|aA<|ax (b:=m) (o:=0) d fun h d=>g _ ?_;have e:bM (gD Cf x M.eF.length) (0+11) [JM q]=gD Cf {x with mb:=q} M.eF.length:=rfl;rw[e] at d;exact(cB (m:=m) (x:={x with mb:=q}) ((M.bM (eO.gJ Cf M.cD<|sB Cf.aB a.aR).1).jI rc.1) A d).to
  |succ f X=>
   intro j h b c S d
   refine bW<|bF<|aae<|bW<|aA<|ai B d rfl<|aZ (c:=(cN 13 j a.aR).enc) rfl<|aZ (c:=(cN 13 j a.aR).enc) rfl<|eA (W:=9) (n:=1) (c:=1) d rfl rfl rfl fun w h d=>?_
   have d:=sG (enc:=aG.enc) (x:=cN 13 j a.aR) d
   have r:((List.range j).map fun i:Nat=>cN 13 i a.aR).length=j:=FW
   have ap:∀k:Value×AH->Prop,(∀v y s,Hs G s (zX v y ((List.range j).map (fun i:Nat=>cN 13 i a.aR)++[cN 13 j a.aR])::zX (some w) 1 [cN 13 j a.aR]::_)->k (.slice v ((List.range j).map (fun i:Nat=>cN 13 i a.aR)++[cN 13 j a.aR]).length y,s))->cC (nJ 9 72 174 h (.slice b ((List.range j).map fun i:Nat=>cN 13 i a.aR).length c)<|.slice (some w) [cN 13 j a.aR].length 1) k:=fun k g=>qV (enc:=aG.enc) (e:=174) (l:=(List.range j).map fun i:Nat=>cN 13 i a.aR) (l2:=[cN 13 j a.aR]) (a:=b) (c:=c) (a2:=some w) (c2:=1) d FX g
   rw[r] at ap
   refine ap _ fun v y h d=>aad ?_
   rw[<-vj] at d ⊢
   have:=X (j+1) h v y FQ d.to
   rw[show((List.range<|j+1).map fun i:Nat=>cN 13 i a.aR).length=j+1 by simp]
   exact this
 have T:x.lc.length=Cf.aB.toNat:=A.1;refine bW<|aC<|aA<|ai m d rfl<|dB ?_;have d:Hs G h (zX none 0 ((List.range 0).map fun i:Nat=>cN 13 i a.aR)::_):=vC (enc:=aG.enc) (e:=174) d;have e:(x.lc.length:Int)=Cf.aB:=FQ
 rw[e];exact loop Cf.aB.toNat 0 h none 0 FQ d.to
end Go.Proofs.Z
namespace Go.Proofs.Z
open Go.Hm Go.At Go.Mc Go.Ct Go.Nt
variable {S:Nat->IV} {Cf:bQ}
section
def Oi {C:bQ} {l at' a:Int} (b:0<=l/\l<C.aF) (d:0<=at'/\at'<2) (c:pK C.aU.toNat S l a w=true):tF C S l at' a w=0:=by
 unfold tF vK;rw[cj b,bD1 FW,aaa,aaa,bD1<|by rw[c];simp]
theorem aQn {C:bQ} {s:jR} (e:iH C s) {l b at':Int} (c:0<=l/\l<C.aF) (d:0<=at'/\at'<2) (a:pK C.aU.toNat s.S l b w=true):pK C.aU.toNat (pG C s l at' b).S l b w=true:=by
 rw[pG,bD2<|Oi c d<|S3 a];have f:(bJ C.aU.toNat s.S l).2=0:=by
  rw[pK] at a;grind
 rw[pK] at a ⊢;rwa [Hu e.aU f]
variable {G:Bg} {h:AH} {M:bU}
def aJy {a:vT} {aI at':Int} (hC:Cf.Ok) (hG:Gb G) (A:(i:Int)<Cf.aB) (hb:iH Cf (M.bR i)) (B:(M.aD i).Ok) (p:M.eF.length<=2^30) (y:0<=aI/\aI<Cf.aF) (z:0<=at'/\at'<2) (r:pK Cf.aU.toNat (M.bR i).S aI g a.iV=true)
  (d:Hs G h (bY G Cf m M::aK p2 0 (Ai a)::L)) (k:∀q,Hs G q (bY G Cf m (M.kD Cf i aI at' g a).1::L)->Q (I (M.kD Cf i aI at' g a).2) q):Dd 120 6 [] Q [JM m,I i,JM p2,I aI,I at',I g] h:=by
 unfold bU.kD at k
 have wr:∀(s:jR) (v:Int) (h:AH),iH Cf s->pK Cf.aU.toNat s.S aI g a.iV=true->Hs G h (bY G Cf m (M.kC i s)::aK p2 0 (Ai a)::L)->
   (∀q,Hs G q (bY G Cf m ((M.kC i<|if a.iV then mQ Cf s aI at' g a.value else s).bK i v 0).1::L)->Q (I ((M.kC i<|if a.iV then mQ Cf s aI at' g a.value else s).bK i v 0).2) q)->
   Dd 120 8 [] Q [JM m,I i,JM p2,I aI,I at',I g,I v] h:=by
  intro s v h hb r d k
  refine bW<|aA<|ai p2 d rfl<|dX (fun w=>?_) fun w=>?_
  .rw[w] at r;rw[bD2 w] at k;have⟨x,hl,d⟩:=dH d;have f:i<x.lk.length:=by have:=hl.2.1;omega
   refine bW<|bI d fun D h d=>aC<|aA<|ai m d rfl<|N2 d f<|aA<|ai p2 d rfl ?_
   have d:=jH (R:=uO G Cf) (l:=x.lk) (s:=bA M.bR i s) f d
   rw[show bA M.bR i s i=s by rw[bA,bD2 rfl]] at d
   refine C.aC4 (C:=Cf) (core:=(i:Int)) (c:=x.lk.getD i 0) (s:=s) hC hb (Oi y z r) hG.Nq hG.iU d fun h d=>bZ<|aab ?_
   have d:=Ip (Cf:=Cf) (l:=x.lk) (s:=bA M.bR i s) (i:=i) (t:=mQ Cf s aI at' g a.value) f d
   rw[show bA (bA M.bR i s) i (mQ Cf s aI at' g a.value)=bA M.bR i (mQ Cf s aI at' g a.value) by funext j;unfold bA;split<;>rfl] at d
   have d:=cB (m:=m) (x:=x) (M.kC i<|mQ Cf s aI at' g a.value) hl d
   exact tE (Cf:=Cf) (M:=M.kC i<|mQ Cf s aI at' g a.value) A B p d fun h d=>k _ d.to
  .rw[bD1<|by rw[w];simp] at k;exact tE (Cf:=Cf) (M:=M.kC i s) A B p d fun h d=>k _ d.to
 refine bW<|aA<|ai p2 d rfl<|dX (fun u=>?_) fun u=>?_
 .rw[bD2 u,bD2 u] at k;have⟨x,hl,d⟩:=dH d;have f:i<x.lk.length:=by have:=hl.2.1;omega
  refine bW<|aC<|aA<|ai m d rfl<|N2 d f ?_
  have d:=jH (R:=uO G Cf) (l:=x.lk) (s:=M.bR) f d
  refine C.aL1 (C:=Cf) (core:=(i:Int)) (c:=x.lk.getD i 0) (s:=M.bR i) hC hb (Oi y z<|S3 r) hG.Nq hG.iU d fun h d=>aN rfl<|aN rfl<|bZ<|aab ?_
  have d:=Ip (Cf:=Cf) (l:=x.lk) (s:=M.bR) (i:=i) (t:=pG Cf (M.bR i) aI at' g) f d
  have d:=cB (m:=m) (x:=x) (M.kC i<|pG Cf (M.bR i) aI at' g) hl d
  refine wr _ _ h (Iv hb) (aQn hb y z r) d.to fun q d=>?_
  exact k _ d
 .rw[bD1<|by rw[u];simp,bD1<|by rw[u];simp] at k;refine wr (M.bR i) 0 h hb r ?_ fun q d=>k _ d;have e:M.kC i (M.bR i)=M:=by rw[bU.kC];rw[cK]
  rw[e]
  exact d.to
def x9 {a:vT} (hC:Cf.Ok) (hG:Gb G) (r:(i:Int)<Cf.aB) (hb:iH Cf (M.bR i)) (E:(M.aD i).Ok) (q:(M.aT i).bL.length<=100) (O:vy Cf M.cD) (f:M.eF.length<=2^30) (d:Hs G h L) [V:dZ (bY G Cf m) L M L'] (e:∀J,Hs G J (bY G Cf m (M.eK Cf i a).1::L')->Q (I (M.eK Cf i a).2) J):JL 120 [JM m,I i,.agg ⟨Ai a⟩] h Q:=by
 rw[bU.eK] at e;have U:=(bQ.fF hC).2.2;refine cW<|fB (cs:=Ai a) (V.of d) fun F h d=>bI d fun X h d=>?_;obtain⟨x,g,d⟩:=dH<|d.bE<|bY G Cf m M;have P:∀{h:AH} {N:IU},Hs G h (aK m 0 (gD Cf x M.eF.length)::ptc x.ac x.cc x.lc::r6 x.ak x.ck x.lk::rz x.aq x.cq x.lq::
  uZ yP x.lc M.aD::uZ (uO G Cf) x.lk M.bR::uZ (uL Cf) x.lq M.aT::H.jG G x.hb Cf M.aJ::jL Cf x.mb M.bH::sI Cf x.fb M.cD::Ij x.al x.cl M.eF::N)->Hs G h (bY G Cf m M::N):=fun d=>Ee g d
 have k:i<x.lq.length:=by have:=g.2.2;omega
 have u:i<x.lc.length:=by have:=g.1;omega
 refine aC<|aA<|nD (b:=m) (o:=0) d FV (l:=Cf.enc) rfl rfl<|aA<|ai F d rfl<|On (C:=Cf) hC hG.Nq d fun h d=>?_;by_cases y:0<=a.dD/\a.dD<Cf.aF*2;rotate_left;rw[bD1 y];rw[bD2 y] at e;have d:=cB (m:=m) (x:=x) M g d;exact aN rfl<|aN rfl<|aN rfl<|bZ<|aae<|tE (Cf:=Cf) (M:=M) r E f d fun h d=>e _ d.to;rw[bD2 y];rw[bD1<|by simpa using y] at e;obtain⟨w,z⟩:=ay y.1;have T:((a.dD.toNat/2:Nat):Int)=a.dD/2:=by rw[z];simp
 have e2:((a.dD.toNat % 2:Nat):Int)=a.dD % 2:=by rw[z];simp
 rw[T,e2];have v:0<=a.dD/2/\a.dD/2<Cf.aF:=FQ
 refine aN rfl<|aN rfl<|aN rfl<|bZ<|aab<|bW<|aC<|aA<|nD (b:=m) (o:=0) d FV (l:=Cf.enc) rfl rfl<|P2 (C:=Cf) hC hG.Nq d fun h d=>?_;rw[bD2<|show Cf.kJ (a.dD/2) from v];refine aN rfl<|aN rfl<|bZ<|aab<|bW<|bI d fun W h d=>aC<|aA<|ai m d rfl<|O5 d k<|aC<|aA<|ai m d rfl<|Kg d u<|mz (l:=x.lc) (S:=M.aD) u d ?_;have d:=jH (R:=uL Cf) (l:=x.lq) (s:=M.aT) k d;refine aFh (C:=Cf) (p:=x.lq.getD i 0) (s:=M.aT i) q d fun h d=>?_;have d:=Bs (Cf:=Cf) (l:=x.lq) (s:=M.aT) (i:=i) (t:=M.aT i) k d;rw[cK] at d;have d:=cB (m:=m) (x:=x) M g d;dsimp only at e;refine aN rfl<|aN rfl<|bZ<|bG (fun A=>?_) fun A=>?_;rw[bD2 A] at e;exact e _ d.to;rw[bD1 A] at e;refine bW<|cF<|bG (fun B=>?_) fun B=>?_;rw[bD2 B] at e;exact aI0 (Cf:=Cf) (M:=M) hC hG r q O d fun h d=>e _ d.to;rw[bD1 B] at e;refine bW<|cF<|bG (fun D=>?_) fun D=>?_;rw[bD2 D] at e;exact tE (Cf:=Cf) (M:=M) r E f d fun h d=>e _ d.to;rw[bD1 D] at e;refine bW<|aC5 (Cf:=Cf) (M:=M) r q d fun h d=>bI d fun r3 h d=>?_;have⟨x,g,d⟩:=dH<|d.bE<|bY G Cf m M;have j:i<x.lk.length:=by have:=g.2.1;omega
 refine aC<|aA<|ai m d rfl<|N2 d j<|aA<|ai F d rfl ?_;have d:=jH (R:=uO G Cf) (l:=x.lk) (s:=M.bR) j d;refine C.Z9 (C:=Cf) (core:=(i:Int)) (c:=x.lk.getD i 0) (s:=M.bR i) hC (hb.bd (sO hC).2.2.2) hG.iU d fun h d=>?_;have d:=Ip (Cf:=Cf) (l:=x.lk) (s:=M.bR) (i:=i) (t:=M.bR i) j d;rw[cK] at d;have d:=cB (m:=m) (x:=x) M g d;cases hmy:pK Cf.aU.toNat (M.bR i).S (a.dD/2) (M.bL i<|a.dD/2/2) a.iV with
 |false=>
  rw[bD2 hmy] at e;exact cZ (fR<|cY<|aA<|ai F d rfl<|aGb (Cf:=Cf) (M:=M) hC hG r hb O d fun h d=>e _ d.to)
 |true=>
  rw[bD1<|by rw[hmy];simp] at e;exact cZ<|fR<|gA<|aJy (L:=L') (Cf:=Cf) (M:=M) hC hG r hb E f v FQ hmy d.to fun h d=>e _ d.to
end
variable {G:Bg} {h:AH} {M:bU}
def cf {S:Nat->aQ} (e:i<l.length) (d:Hs G h L) [g:dZ (uZ yP l) L S L'] (f:k (.bool (S i).over)):cC (sJ<|JM<|l.getD i 0) fun v=>cC (lQ 0 v) fun v=>cC (lQ 6 v) fun v=>cC (vZ h v) k:=by
 have d:=jH (R:=yP) (l:=l) (s:=S) e d;obtain⟨a,c,d⟩:=vL d;exact aC<|aA<|aA<|aE (b:=l.getD i 0) (o:=0) d rfl f
def aHp {d:Do} (hC:Cf.Ok) (hG:Gb G) (H:∀i:Nat,(i:Int)<Cf.aB->aKf Cf M i) (f:Hs G h L) [U:dZ (bY G Cf m) L M L'] (g:∀J,Hs G J (bY G Cf m (M.step Cf d.a).1::L')->Q (I (M.step Cf d.a).2) J):JL 59 [JM m,.agg ⟨d.enc⟩] h Q:=by
 unfold bU.step at g;have V:=hC.1;refine cW<|fB (cs:=d.enc) (U.of f) fun y h f=>bI f fun Y h f=>?_;obtain⟨x,f⟩:=xf<|f.bE<|bY G Cf m M;obtain⟨u,f⟩:=nR f;refine aA<|ai y f rfl<|bF<|bG (fun O=>?_) fun O=>?_;rw[aac] at g;exact g _ (cB (m:=m) (x:=x) M u f).to;have T:=u.1;refine aA<|ai y f rfl<|aC<|aA<|ai m f rfl<|dB<|fV<|bG (fun P=>?_) fun P=>?_;rw[aac] at g;exact g _ (cB (m:=m) (x:=x) M u f).to;rw[aaa] at g;obtain⟨w,a,b,c⟩:=d;dsimp only at O P g;obtain⟨i,rfl⟩:=ay (show 0<=a by omega);rw[aL] at g;have k:i<x.lc.length:=FQ
 have F:(i:Int)<Cf.aB:=FQ
 have j:=H i F;refine bW<|bI f fun X h f=>aC<|aA<|ai m f rfl<|aA<|ai y f rfl<|Kg f k<|cf (l:=x.lc) (S:=M.aD) k f<|dX (fun C=>?_) fun C=>?_;rw[bD2 C] at g;exact g _ (cB (m:=m) (x:=x) M u f).to;rw[bD1<|by rw[C];simp] at g;have f:=tH (m:=m) (x:=x) M u f;refine bW<|aA<|ai y f rfl<|Wy (x:=x) (M:=M) j.bH f fun h f=>dX (fun E=>?_) fun E=>?_;rw[bD2 E] at g;exact g _ (aHf f).to;rw[bD1<|by rw[E];simp] at g;obtain⟨u,f⟩:=nR<|f.bE<|vD G Cf m x M;have f:=jH (R:=yP) (l:=x.lc) (s:=M.aD) k f;refine bW<|aLl (i:=i) (p:=x.lc.getD i 0) (s:=M.aD i) j.B6 f fun h f=>?_;cases hlo:aQ.lI (M.aD i) i with
 |some r=>
  rw[hlo] at f g;dsimp only at f g;have f:=Lv (l:=x.lc) (s:=M.aD) (i:=i) (t:=r.1) k f;refine aN rfl<|aN rfl<|cT f fun q h f=>an (b:=q) f fun h f=>gA<|bW<|bI f fun r3 h f=>aC<|aA<|ai m f rfl<|am q f (l:=r.2.enc) rfl rfl<|aZ (c:=r.2.enc) rfl ?_;refine oR (r:=r3) (i:=6) (N:=11) (D:=[]) (W:=7) f rfl rfl rfl rfl rfl fun a h f=>?_;have f:=sG (enc:=Ev.enc) (x:=r.2) f;refine Rs (l:=M.eF) (v:=r.2) j.eF f fun A B h f=>aC<|aA<|ax (b:=m) (o:=0) f fun h f=>dT eG<|g _ ?_;have e:bM (gD Cf x M.eF.length) (0+13) [.slice A (M.eF++[r.2]).length B]=gD Cf {x with al:=A,cl:=B} (M.eF++[r.2]).length:=rfl;rw[e] at f;exact(cB (m:=m) (x:={x with al:=A,cl:=B}) ((M.oZ i r.1).Zv r.2) u f).to
 |none=>
  rw[hlo] at f g;dsimp only at f g;refine aN rfl<|aN rfl<|cT f fun q h f=>an (b:=q) f fun h f=>cY<|bW<|aUi (i:=i) (p:=x.lc.getD i 0) (s:=M.aD i) j.B6 f fun h f=>?_;cases kJ:aQ.xW (M.aD i) i with
  |some r=>
   rw[kJ] at g;dsimp only at g;have f:=Lv (l:=x.lc) (s:=M.aD) (i:=i) (t:=M.aD i) k f;rw[cK] at f;have f:=cB (m:=m) (x:=x) M u f;exact aN rfl (aN rfl<|cT f fun q2 h f=>an (b:=q2) f fun h f=>gA<|aA<|ai y f rfl<|am q2 f (l:=r.enc) rfl rfl<|aLj (Cf:=Cf) (M:=M) hC hG F j.bH j.B6 j.eF j.cD f fun h f=>g _ f.to)
  |none=>
   rw[kJ] at g;dsimp only at g;refine aN rfl<|aN rfl<|cT f fun q2 h f=>an (b:=q2) f fun h f=>cY<|bW<|Oo (i:=i) (p:=x.lc.getD i 0) (s:=M.aD i) j.B6 f fun h f=>?_;have f:=Lv (l:=x.lc) (s:=M.aD) (i:=i) (t:=M.aD i) k f;rw[cK] at f;have f:=cB (m:=m) (x:=x) M u f;cases hac:aQ.iG (M.aD i) with
   |some r=>
    rw[hac] at g;dsimp only at g;exact aN rfl (aN rfl<|cT f fun z h f=>an (b:=z) f fun h f=>cZ<|fR<|gA<|aA<|ai y f rfl<|am z f (l:=Ai r) rfl rfl<|x9 (Cf:=Cf) (M:=M) hC hG F j.Pp j.B6 j.gG j.cD j.eF f fun h f=>g _ f.to)
   |none=>
    rw[hac] at g;dsimp only at g;exact aN rfl<|aN rfl<|cT f fun z h f=>an (b:=z) f fun h f=>cZ<|fR<|cY<|g _ f.to
end Go.Proofs.Z
namespace Go.Proofs.Z.H
open Go.Hm
section
variable {G:Bg} {h:AH}
def aJa {C:bQ} {H:nC} (a:Hs G h L) [m:dZ (jG G hb C) L H L'] (c:Hs G h (jG G hb C H::L')->Q (I<|L0 C H x) h):JL 69 [JM hb,I x] h Q:=by
 have c:=c<|m.of a;have⟨mb,b,o,cap,a⟩:=rH<|m.of a;rw[L0] at c;refine cW<|Ca a<|cZ<|fR<|bG (fun d=>?_) fun d=>?_;obtain⟨l,rfl⟩:=ay d.1;have e:l<C.aF:=by have:=d.2;omega
 have⟨wa,wc,a⟩:=fN<|Lo (H:=H) (b:=b) (o:=o) e a;rw[bD2 d,aL] at c;exact aC<|aA<|aE a rfl<|fK e<|aA<|aE a rfl<|dB c;rwa [bD1 d] at c
def aKw (n:Nat):(fun i=>(sQ n i).2)=uB:=by funext i;unfold sQ uB;split<;>rfl
def Vj {C:bQ} (hC:C.Ok) (j:∀e,Hs G e (jG G hb C (sQ C.aF)::L)->Q (.tuple ⟨[JM hb,I 0]⟩) e):∀(f n:Nat) (h:AH),n+f=C.aF->Hs G h (jG G hb C (sQ n)::L)->Dd 44 3 [] Q [JM hb,I C.aF,I n] h:=by
 have k:=bQ.fF hC;intro f;induction f with
 |zero=>
  intro n h l a;have:n=C.aF:=FQ
  subst this;exact bW (bF<|aab<|j _ a)
 |succ f p=>
  intro n h l a;have d:n<C.aF:=FQ
  refine bW<|bF<|aae<|bW ?_;obtain⟨q,b,o,c,a⟩:=Mk d a;obtain⟨r,s,a⟩:=fN a;refine aC<|aA<|aE a rfl<|fK d<|aA<|ax a ?_;intro h a;refine aad<|p (n+1) h FQ ?_;have g:(sQ n n).1={Ep with owner:=0}:=by unfold sQ;rw[aaa]
  have e2:(sQ n n).2=(0,0):=by unfold sQ;rw[aaa]
  rw[g] at a;have a:=gF b (o+n*25) Ep r s a rfl rfl rfl;have a:=gV hb C (sQ n) n Ep (0,0) (fun i=>(sQ n i).2) q b o c d (by rw[<-e2];exact hJ.symm) a;rw[aE3] at a;exact a
theorem xv {C:bQ} (hC:C.Ok) (e:Ob G 0 iM) (d:Hs G h L) (r:∀f j,Hs G j (jG G f C (sQ C.aF)::L)->Q (.tuple ⟨[JM f,I 0]⟩) j):JL 44 [.agg ⟨C.enc⟩] h Q:=by
 have s:=bQ.fF hC;refine cW<|fB d ?_;intro p h d;refine bC d FV (l:=C.enc) rfl rfl<|uG e d fun h d=>?_;rw[bD2 hC];refine bZ<|aab<|bW<|bC d FV (l:=C.enc) rfl rfl<|X7 hC e d fun k h d=>?_;refine aN rfl<|aN rfl<|bZ<|aab<|bW<|bI d ?_;intro u h d;refine bC d FV (l:=C.enc) rfl rfl<|bC d FV (l:=C.enc) rfl rfl<|uS hC e d fun h d=>aIz FQ FQ ?_;dsimp only;refine oR d rfl rfl ?_ rfl ?_ ?_;rw[kZ,xS (W:=25) fun _=>rfl];rw[kZ];exact zZ (fun _=>rfl) _;intro a h d;obtain⟨b,o,q,d⟩:=Hs.Uo (W:=25) rfl FQ d;cases q;refine aZ (c:=mH k C b o C.aF) rfl<|Gw d rfl rfl ?_;intro f h d;refine dT eG (dT (bC d FV (l:=C.enc) rfl rfl<|xL<|by simp[wM,bQ.enc])<|aC<|aA<|aE d rfl<|dB ?_);refine Vj hC (r f) C.aF 0 h FQ ?_;have d:=(d.bE<|fH C.aF fun i=>aK b (o+i*25) [I 0,.bool false,.bool false,.bool false,.bool false,.slice none 0 0,.bool false,I 0,I 0,I 0,I 0,I 0,I 0,I 0,.bool false,I 0,I 0,.bool false,.bool false,.bool false,.bool false,.bool false,.bool false,I 0,I 0]);have d:=Hs.To (g:=fun i=>gI b (o+i*25) (sQ 0 i).1) C.aF _ (fun i t h L d=>nO {Ep with owner:=0} (a:=none) (c:=0) (lF d).qS) d;rw[<-aKw 0] at d;exact(Eb C (sQ 0) f k b o C.aF d).to
end
variable {G:Bg} {h:AH}
def r9 (H:nC) (i:Nat) (x:FM×Nat):FJ:=(H i).1.enc x.1 x.2
def u5 (H:nC) (i:Nat) (x:FM×Nat):HP:=zX x.1 x.2 (H i).1.aH
variable {n:Nat}
def aP5 {H:nC} (d:Hs G h (fH n (fun i=>gI b (o+i*25) (H i).1)::L)):Hs G h (fH n (fun i=>Cr fun x=>sp [aK b (o+i*25)<|r9 H i x,u5 H i x])::L):=
 Hs.To n L (fun i _ h L d=>by
  have⟨a,c,d⟩:=fN d;exact Hs.Cq (A:=fun x:FM×Nat=>sp [aK b (o+i*25)<|r9 H i x,u5 H i x]) (a,c) d.F6) d
def aPm {H:nC} (d:Hs G h (fH n (fun i=>Cr fun x=>sp [aK b (o+i*25)<|r9 H i x,u5 H i x])::L)):Hs G h (fH n (fun i=>gI b (o+i*25) (H i).1)::L):=
 Hs.To n L (fun i _ h L d=>by
  have⟨⟨a,c⟩,d⟩:=d.Cc;exact nO (H i).1 (a:=a) (c:=c) d.A7) d
def aDy (i:n<=100) (g:Hs G h L) [m:dZ (eC 25 240 a c) L (n,cs) L'] (f:∀b d e,Hs G e (eC 25 240 b d (n,cs)::eC 25 240 a c (n,cs)::L')->Q (.slice b n d) e):JL 197 [.slice a n c] h Q:=
 cW (H3 (bytes:=152) g FQ f)
theorem ub {B p cap mb:Nat} {C:bQ} {H:nC} (hB:B<=32) (z:C.aF=B) (J:∀i,i<B->(H i).1.aH.length<=2^30)
  (E:∀v,Hs G v (aK p 0 (mH mb C b o cap)::fH B (fun i=>gI b (o+i*25) (H i).1)::fH B (fun i=>u5 H i<|f i)::L)->Q (JM p) v):
  ∀(r i:Nat) (h:AH),i+r=B->Hs G h (aK p 0 (mH mb C b o cap)::fH B (fun j=>if j<i then gI b (o+j*25) (H j).1 else aK b (o+j*25) (r9 H j<|f j))::fH B (fun i=>u5 H i<|f i)::L)->
  Dd 125 2 [] Q [JM p,I B,I i] h:=by
 intro r
 induction r with
 |zero=>
  intro i h A d
  obtain rfl:i=B:=FQ
  refine bW<|bF<|aab<|E _ ?_
  have d:=d.bE<|fH i fun j=>if j<i then gI b (o+j*25) (H j).1 else aK b (o+j*25) (r9 H j<|f j)
  exact(zN (g:=fun j=>gI b (o+j*25) (H j).1) (fun j D=>by rw[bD2 D]) d).dV (aK p 0<|mH mb C b o cap) (fH i fun j=>gI b (o+j*25) (H j).1) (fH i fun j=>u5 H j<|f j)
 |succ r O=>
  intro i h A d
  have e:i<B:=FQ
  have s:i<C.aF:=FQ
  have K:=J i e
  refine bW<|bF<|aae<|bW<|bI d fun P h d=>?_
  have d:=(d.bE<|fH B fun j=>if j<i then gI b (o+j*25) (H j).1 else aK b (o+j*25) (r9 H j<|f j)).pI i e
  simp[EO,dx] at d
  have d:=(d.bE<|fH B fun j=>u5 H j<|f j).pI i e
  refine aC<|aA<|ai p d rfl<|aC<|aA<|ai p d rfl<|fK s<|aA<|aE (b:=b) (o:=o+i*25) d rfl ?_
  have d:Hs G h (zX (f i).1 (f i).2 (H i).1.aH::_):=d
  refine Ez (l:=(H i).1.aH) (a:=(f i).1) (c:=(f i).2) FQ d fun t u h d=>?_
  refine fK s<|aA<|ax (b:=b) (o:=o+i*25) d fun y q=>?_
  refine dT eG<|dT (aC eG)<|dT (aA eG)<|dT (ai p d rfl j0)<|dT lG<|aad ?_
  apply O (i+1) y FQ
  have q:=q.sg (b:=b) (o:=o+i*25) (c:=(H i).1.enc t u) rfl
  have k:=nO (b:=b) (o:=o+i*25) (H i).1 (a:=t) (c:=u)<|q.dC (aK b (o+i*25)<|(H i).1.enc t u)<|zX t u (H i).1.aH
  have w:gI b (o+i*25) (H i).1=(fun j=>if j<i+1 then gI b (o+j*25) (H j).1 else aK b (o+j*25) (r9 H j<|f j)) i:=by simp[CN,eD]
  rw[w] at k
  have k:=k.tG (n:=B) (i:=i) (fun j=>if j<i then gI b (o+j*25) (H j).1 else aK b (o+j*25) (r9 H j<|f j)) (fun j=>if j<i+1 then gI b (o+j*25) (H j).1 else aK b (o+j*25) (r9 H j<|f j)) e (fun j _ F=>by
   have:(j<i+1)=(j<i):=propext ⟨fun h=>FQ,fun h=>FQ⟩;simp[this])
  have x:zX (f i).1 (f i).2 (H i).1.aH=(fun j=>u5 H j<|f j) i:=rfl
  rw[x] at k
  exact(k.tG (n:=B) (i:=i) (fun j=>u5 H j<|f j) (fun j=>u5 H j<|f j) e fun _ _ _=>rfl).to
def Uy {C:bQ} {H:nC} (hC:C.Ok) (I:Bh C H (2^30)) (a:Hs G h L) [O:dZ (jG G hb C) L H L'] (J:∀p2 z,Hs G z (jG G p2 C H::jG G hb C H::L')->Q (JM p2) z):JL 125 [JM hb] h Q:=by
 have R:=(bQ.fF hC);have u:0<C.aF:=FQ
 have⟨mb,b,o,cap,a⟩:=rH<|O.of a;refine cW<|dN<|cY<|bW<|bI a fun S h a=>?_;have a:=aP5<|a.bE<|fH C.aF fun i=>gI b (o+i*25) (H i).1;have y:=a.dC (fH C.aF fun i=>Cr fun x=>sp [aK b (o+i*25)<|r9 H i x,u5 H i x])<|gQ G 25 240 (some ⟨b,o,none⟩) cap C.aF b o;obtain⟨f,a⟩:=Hs.aB6 (W:=25) (c:=r9 H) (d:=u5 H) (none,0) (fun _ _=>rfl) (fun _ _=>rfl) FV u y;refine aC<|aA<|ai hb a rfl<|A.wm hC a fun j P r=>?_;refine aC<|aA<|nD (b:=hb) (o:=0) r FV (l:=C.enc) rfl rfl<|aC<|aA<|ai hb r rfl ?_;refine aDy FQ r fun E s F e=>?_;obtain⟨k,q,rfl,e⟩:=Hs.tk (W:=25) (c:=fun i=>r9 H i<|f i) (fun _=>rfl) u<|e.bE<|eC 25 240 E s (C.aF,(List.range C.aF).flatMap fun i=>r9 H i<|f i);refine aZ (c:=mH j C k q s) rfl<|Gw (i:=15) (n:=17) (D:=[]) e rfl rfl fun p v g=>?_;have t:wM (.agg ⟨C.enc⟩) (.agg ⟨C.enc⟩)=true:=xL (by simp[bQ.enc,lG]);refine dT eG<|dT eG<|dT (aC eG)<|dT (aC eG)<|dT (aA eG)<|dT (aA eG) ?_;refine dT (nD (b:=hb) (o:=0) a FV (l:=C.enc) rfl rfl t)<|dT (nD (b:=hb) (o:=0) g FV (l:=C.enc) rfl rfl t) ?_;refine dT eG<|dT (aC eG)<|dT (aA eG)<|dT (ai hb a rfl j0) ?_;refine aC<|aA<|ai p g rfl<|dB ?_;have a:=g.dV (aK p 0<|mH j C k q s) (fH C.aF fun i=>aK k (q+i*25)<|r9 H i<|f i)<|fH C.aF fun i=>u5 H i<|f i;refine ub (B:=C.aF) (C:=C) (b:=k) (o:=q) (cap:=s) (mb:=j) (H:=H) (f:=f) FQ rfl (fun i w=>(I i w).2) ?_ C.aF 0 v FQ GR;intro h a;apply J p _;have a:=zP<|a.rL (aK p 0<|mH j C k q s) (gK G C.aF j C fun i=>(H i).2) (gQ G 25 240 (some ⟨k,q,none⟩) s C.aF k q)<|fH C.aF fun i=>gI k (q+i*25) (H i).1;have a:=a.dC (eC 25 240 (some ⟨b,o,none⟩) cap (C.aF,(List.range C.aF).flatMap fun i=>r9 H i<|f i))<|fH C.aF fun i=>u5 H i<|f i;have a:=Hs.aKp (W:=25) (c:=r9 H) (d:=u5 H) f (fun _ _=>rfl) u a;have a:=aPm a;exact(zP<|a.rL (aK hb 0<|mH mb C b o cap) (gK G C.aF mb C fun i=>(H i).2) (gQ G 25 240 (some ⟨b,o,none⟩) cap C.aF b o)<|fH C.aF fun i=>gI b (o+i*25) (H i).1).to
end Go.Proofs.Z.H
namespace Go.Proofs.Z.H
open Go.Hm Go.Mc
variable {G:Bg} {h:AH}
def aSl {α:Type} {l:List α} (h:i<l.length):∃x,l[i]?=some x/\l.drop i=x::l.drop (i+1):=⟨l[i],FW,l7 h⟩
def V2 (l:IT):Int:=((l.filter fun n=>decide<|n.kind=0).length:Int)
theorem aHr {l:IT} {n:aG} (h:l[i]?=some n):V2 (l.take<|i+1)=V2 (l.take i)+if n.kind=0 then 1 else 0:=by
 unfold V2;rw[AP,h];simp only[Option.toList_some,AT,DO,EZ];split<;>simp_all
def Gc {l:IT} {k:Int} (hb:l.length<=2^30) (w:0<=k/\k<=1) (v:∀p,Hs G p (zX a c l::L)->Q (I<|k+V2 l) p):
  ∀(f i:Nat) (h:AH),i+f=l.length->Hs G h (zX a c l::L)->Dd 206 4 [] Q [I<|k+V2 (l.take i),.slice a l.length c,I l.length,I i] h:=by
 intro f
 induction f with
 |zero=>
  intro i h u d
  rw[fm FQ]
  exact bW (bF<|aab<|v _ d)
 |succ f r=>
  intro i h u d
  obtain⟨n,q,x⟩:=aSl (l:=l) (i:=i) FQ
  have t:V2 (l.take i)<=2^30/\0<=V2 (l.take i):=by
   unfold V2;have:=ss (fun n:aG=>decide<|n.kind=0)<|l.take i;have:=List.length_take_le i l;omega
  have g:=aHr q
  refine bW<|bF<|aae<|bW<|yX (l:=l) (a:=a) (c:=c) (enc:=aG.enc) (e:=174) d FV FQ (by rw[aL];exact q)<|cT d fun s h d=>an (b:=s) d fun h d=>aA<|ai s d rfl<|cF<|bG (fun j=>?_) fun j=>?_
  .rw[bD2 j] at g;refine bW<|aad<|aad ?_;have:=r (i+1) h FQ d.to;rw[g] at this;rw[show k+V2 (l.take i)+1=k+(V2 (l.take i)+1) by omega];exact this
  .rw[bD1 j] at g;refine bW<|aad ?_;have:=r (i+1) h FQ d.to;rw[g,Int.add_zero] at this;exact this
theorem Zb {C:bQ} {H:nC} (z:Bh C H (2^30)) (d:Hs G h L) [A:dZ (jG G hb C) L H L'] (p:∀y,Hs G y (jG G hb C H::L')->Q (I<|gO C H x) y):JL 206 [JM hb,I x] h Q:=by
 have d:=A.of d;unfold gO at p;by_cases s:C.kJ x;rotate_left;rw[bD1 s] at p;obtain⟨r,b,o,f,d⟩:=rH d;refine cW<|Ca d<|cZ<|fR<|bD s<|p _ (Eb C H hb r b o f d).to;rw[bD2 s] at p;obtain⟨l,rfl⟩:=ay s.1;have u:l<C.aF:=by have:=s.2;omega
 rw[aL] at p;obtain⟨r,b,o,f,d⟩:=Mk u d;obtain⟨a,c,d⟩:=fN d;have q:=(z l u).2;have d:Hs G h (aK b (o+l*25) ((H l).1.enc a c)::zX a c (H l).1.aH::aK hb 0 (mH r C b o f)::gK G C.aF r C (fun i=>(H i).2)::gQ G 25 240 (some ⟨b,o,none⟩) f C.aF b o::E8 b o C.aF H l::L'):=d;have g:∀{h:AH},Hs G h (zX a c (H l).1.aH::aK b (o+l*25) ((H l).1.enc a c)::aK hb 0 (mH r C b o f)::gK G C.aF r C (fun i=>(H i).2)::gQ G 25 240 (some ⟨b,o,none⟩) f C.aF b o::E8 b o C.aF H l::L')->Hs G h (jG G hb C H::L'):=by
  intro h d;have d:=nO (H l).1 (a:=a) (c:=c) d.qS;have d:=gV hb C H l (H l).1 (H l).2 _ r b o f u hJ.symm d;have e:bA H l ((H l).1,(H l).2)=H:=by funext j;unfold bA;split<;>simp_all
  rw[e] at d;exact d
 refine cW<|Ca d<|cZ<|fR<|cS s<|bW<|aC<|aA<|ai hb d rfl<|fK u<|aC<|aA<|aE (b:=b) (o:=o+l*25) d rfl<|dX (fun v=>?_) fun v=>?_;refine aC<|aA<|aA<|aE (b:=b) (o:=o+l*25) d rfl<|cF<|bG (fun w=>?_) fun w=>?_;refine bW<|aad<|aC<|aA<|aE (b:=b) (o:=o+l*25) d rfl<|dB ?_;refine Gc (a:=a) (c:=c) (l:=(H l).1.aH) (k:=1) q FQ (fun h d=>?_) (H l).1.aH.length 0 h FQ d.qS;have:=p h<|g d;unfold bT.E5 at this;rw[bD2 ⟨v,w⟩] at this;exact this;refine bW<|aC<|aA<|aE (b:=b) (o:=o+l*25) d rfl<|dB ?_;refine Gc (a:=a) (c:=c) (l:=(H l).1.aH) (k:=0) q FQ (fun h d=>?_) (H l).1.aH.length 0 h FQ d.qS;have:=p h<|g d;unfold bT.E5 at this;rw[bD1 fun t=>w t.2] at this;exact this;refine aC<|aA<|aE (b:=b) (o:=o+l*25) d rfl<|dB ?_;refine Gc (a:=a) (c:=c) (l:=(H l).1.aH) (k:=0) q FQ (fun h d=>?_) (H l).1.aH.length 0 h FQ d.qS;have:=p h<|g d;unfold bT.E5 at this;rw[bD1 fun t=>by rw[v] at t;cases t.1] at this;exact this
end Go.Proofs.Z.H
namespace Go.Proofs.Z
open Go.Hm Go.At Go.Mc Go.Ct Go.Nt
variable {Cf:bQ} {M:bU}
section
def wX (C:bQ) (H:nC) (l:FL):nC:=l.foldl (fun H (l:Nat)=>(jT C H l).1) H
def vt {C:bQ} {H:nC} {k:Nat}:wX C H (l++[k])=(jT C (wX C H l) k).1:=by unfold wX;rw[DG];rfl
def wg {C:bQ} {H:nC} {N:Nat} {l:Int} (h:Bh C H N):Bh C (jT C H l).1 (N+1):=by
 intro k d;obtain⟨a,c⟩:=h k d;unfold jT;split;unfold bA;dsimp only;split;rename_i e;subst e;refine⟨⟨a.core,a.owner,?_⟩,?_⟩;intro n b;rcases cg.1 b with b|b;exact a.aH n b;rw[aV.1 b];show(0:Int)<=0/\(0:Int)<4;omega;show((H l.toNat).1.aH++[pQ l]).length<=N+1;rw[dd,AA];omega;exact⟨a,FQ⟩;exact⟨a,u3 c⟩
def pe {C:bQ} {N:Nat}:∀{l:FL} {H:nC},Bh C H N->Bh C (wX C H l) (N+l.length):=by
 intro l;induction l generalizing N with
 |nil=>intro H h;exact h
 |cons k l a=>
  intro H h;rw[js,show N+(l.length+1)=N+1+l.length by omega];exact a<|wg (l:=k) h
variable {G:Bg} {h:AH}
abbrev swX (G:Bg) (Cf:bQ) (m p2:Nat) (M:bU) (e:Nat->Value) (d l:Nat) (done:FL):HP:=sp [pD Pr 191 (qK 14) 18 e d l (.ready,none),aK p2 0 [JM m],bY G Cf m<|M.mJ<|wX Cf M.aJ done]
theorem aEu {g:Nat} (hC:Cf.Ok) (hG:Gb G) (w:(g:Int)<Cf.aM) (z:Bh Cf M.aJ (2^30 - 4)) (a:Hs G h L) [A:dZ (bY G Cf m) L M L'] (f:∀v j,Hs G j (bY G Cf m (M.mJ<|oE Cf M.aJ g)::L')->Q v j):JL 191 [JM m,I g] h Q:=by
 refine cW<|fB (A.of a) fun c h a=>?_;obtain⟨x,i,a⟩:=dH<|a.bE<|bY G Cf m M;refine ai c a rfl<|aC<|aA<|nD (b:=m) (o:=0) a FV (l:=Cf.enc) rfl rfl<|Kq (C:=Cf) a fun s q2 h a=>?_;have a:Hs G h (bY G Cf m (M.mJ<|wX Cf M.aJ [])::_):=cB (m:=m) (x:=x) M i a;refine nY a fun d h a=>?_;intro e u;refine rK a fun l h a=>xU rfl ?_;have a:Hs G h (sp [aK s 0 Cf.enc,aK q2 0 [I g]]::swX G Cf m c M e d l []::mk d ()::L'):=by
  have a:=(a.dV (pD Pr 191 (qK 14) 18 e d l (.ready,none)) (aK c 0 [JM m])<|bY G Cf m<|M.mJ<|wX Cf M.aJ []).Vy;exact a.to
 refine(Pe (C:=Cf) hC w (p:=s) (q:=q2) hG.Nq).No (X:=fun done=>swX G Cf m c M e d l done) (Z:=fun _ _=>Dw False) a ?_ ?_ ?_
 .intro done y h N r a;have a:=a.Fc;have t:done.length<=1:=HC
  obtain⟨x,i,a⟩:=dH<|a.bE<|bY G Cf m<|M.mJ<|wX Cf M.aJ done;refine rW (yJ a) u<|kV a fun h a=>ai c a rfl<|aC<|aA<|ai m a rfl ?_;refine H.aGt (C:=Cf) (H:=wX Cf M.aJ done) (fun k f=>by have:=pe (l:=done) z k f;exact⟨this.1,FQ⟩) a fun h a=>lM a fun h a=> .inl ⟨rfl,?_⟩;rw[<-vt] at a;have a:=cB (m:=m) (x:=x) (M.mJ<|wX Cf M.aJ<|done++[y]) i a;exact((a.dV (pD Pr 191 (qK 14) 18 e d l (.ready,none)) (aK c 0 [JM m])<|bY G Cf m<|M.mJ<|wX Cf M.aJ<|done++[y]).Vy).to
 intro v h a;have a:=(a.bE<|swX G Cf m c M e d l [g*2,g*2+1]).Fc;have e2:wX Cf M.aJ [g*2,g*2+1]=oE Cf M.aJ g:=by unfold wX oE;simp
 rw[e2] at a;exact rD a fun h a=>rF<|qQ a fun h a=>nU<|f _ _ a.to
 .intro done y v h r a;exact(((a.bE<|Dw False).z7).1).elim
end
variable {n:aG}
section
variable {G:Bg} {h:AH}
def aV9 (G:Bg) (Cf:bQ) (m:Nat) (Z:HP) (b:Value) (A B:bU):Prop:=∀(h:AH) (L:IU) (Q:Value->AH->Prop),Hs G h (Z::bY G Cf m A::L)->(∀v a,Hs G a (bY G Cf m B::L)->Q v a)->F3 Pr K b [] h Q
abbrev TK (G:Bg) (Cf:bQ) (m:Nat) (M:bU) (L:IU) (Q:Value->AH->Prop) (r:bU×IT×Int):Prop:=∀v a Z b,Hs G b (H.gW v r.2.1::Z::bY G Cf m M::L)->(r.2.2=0->∀F,aV9 G Cf m Z a (M.bM F)<|r.1.bM F)->Q (.tuple ⟨[v,a,I r.2.2]⟩) b
def Ou {C:bQ} {H:nC} {N N':Nat} (h:Bh C H N) (b:N<=N'):Bh C H N':=fun k a=>⟨(h k a).1,cL (h k a).2 b⟩
def aNd (hC:Cf.Ok) (hG:Gb G) (i:Ff Cf M n) (a:Hs G h (aK p2 0 [JM m]::aK p3 0 n.enc::bY G Cf m M::L)) (d:TK G Cf m M L Q (M.mJ (eW Cf M.aJ n).1,(eW Cf M.aJ n).2.1,(eW Cf M.aJ n).2.2)):Dd 123 3 [] Q [JM p2,JM p3] h:=by
 obtain⟨x,g,a⟩:=dH<|a.bE<|bY G Cf m M;refine bW<|ai p2 a rfl<|aC<|aA<|ai m a rfl<|H.Uy (C:=Cf) hC (Ou i.aJ FQ) a fun q h a=>cT a fun c h a=>an (b:=c) a fun h a=>ai c a rfl<|am p3 a (l:=n.enc) rfl rfl ?_;refine H.M7 (C:=Cf) (hb:=q) (H:=M.aJ) (n:=n) hC hG.Nq (Ou i.aJ FQ) a fun v h a=>aN rfl<|aN rfl ?_;have a:=cB (m:=m) (x:=x) M g a;have a:=(a.dV (aK c 0 [JM q]) (aK p2 0 [JM m])<|H.jG G q Cf (eW Cf M.aJ n).1).Vy;refine d v _ (sp [aK c 0 [JM q],aK p2 0 [JM m],H.jG G q Cf (eW Cf M.aJ n).1]) h a.to fun _ F=>?_;intro h L Q a d;have a:=a.Fc;obtain⟨x,g,a⟩:=dH<|a.bE<|bY G Cf m<|M.bM F;refine vB rfl<|cW (f:=178)<|ai p2 a rfl<|ai c a rfl<|aC<|aA<|ax (b:=m) (o:=0) a fun h a=>d _ _ ?_;have e:bM (gD Cf x M.eF.length) (0+10) [JM q]=gD Cf {x with hb:=q} M.eF.length:=rfl;rw[e] at a;exact(cB (m:=m) (x:={x with hb:=q}) ((M.mJ (eW Cf M.aJ n).1).bM F) g a).to
def aM7 (hC:Cf.Ok) (hG:Gb G) (w:Ff Cf M n) (d:Hs G h (aK p2 0 [JM m]::aK p3 0 n.enc::bY G Cf m M::L)) (v:TK G Cf m M L Q (M.kC n.core.toNat (fP Cf n.core (M.bR n.core.toNat) n).1,(fP Cf n.core (M.bR n.core.toNat) n).2.1,(fP Cf n.core (M.bR n.core.toNat) n).2.2)):Dd 123 9 [] Q [JM p2,JM p3] h:=by
 have k:Bd (M.bR n.core.toNat):=w.Pp.bd (sO hC).2.2.2;obtain⟨i,y⟩:=ay w.core.1;have B:(i:Int)<Cf.aB:=by have:=w.core.2;omega
 rw[y,aL] at v;have j:=w.Pp;rw[y,aL] at j k;obtain⟨x,p,d⟩:=dH<|d.bE<|bY G Cf m M;have g:i<x.lk.length:=by have:=p.2.1;omega
 have z:n.enc[0+1]?=some (I i):=by show some (I n.core)=_;rw[y]
 refine bW<|bI d fun A h d=>ai p2 d rfl<|aC<|aA<|ai m d rfl<|aA<|ai p3 d z<|N2 d g ?_;have d:=jH (R:=uO G Cf) (l:=x.lk) (s:=M.bR) g d;refine C.zk (C:=Cf) (core:=(i:Int)) (c:=x.lk.getD i 0) (s:=M.bR i) hC k d fun q h d=>nI (r:=A) (i:=9) (n:=11) (D:=[]) d rfl rfl fun u h d=>an (b:=u) d fun h d=>ai u d rfl<|am p3 d (l:=n.enc) rfl rfl ?_;refine C.M7 (C:=Cf) (core:=(i:Int)) (c:=q) (s:=M.bR i) (n:=n) hC k j.sts hG.Nq hG.iU d fun a c h d=>aN rfl<|aN rfl ?_;have d:=Ip (Cf:=Cf) (l:=x.lk) (s:=M.bR) (i:=i) (t:=M.bR i) g d;rw[cK] at d;have d:=cB (m:=m) (x:=x) M p d;have d:=(d.rL (aK u 0 [JM q]) (aK p2 0 [JM m]) (aK p3 0 n.enc)<|C.lR G q Cf i (fP Cf i (M.bR i) n).1).Rx;have d:=H.N4 (l:=(fP Cf i (M.bR i) n).2.1) rfl rfl<|d.bE<|eC 9 174 a c ((fP Cf i (M.bR i) n).2.1.length,iK (fP Cf i (M.bR i) n).2.1);refine v _ _ (sp [aK u 0 [JM q],aK p2 0 [JM m],aK p3 0 n.enc,C.lR G q Cf i (fP Cf i (M.bR i) n).1]) h d.to fun _ F=>?_;intro h L Q d v;have d:=d.un4;obtain⟨x,p,d⟩:=dH<|d.bE<|bY G Cf m<|M.bM F;have g:i<x.lk.length:=by have:=p.2.1;omega
 refine vB rfl<|cW (f:=181)<|bI d fun A h d=>ai p2 d rfl<|aC<|aA<|ai m d rfl<|aA<|ai p3 d z<|ai u d rfl<|aBi d g fun h d=>v _ _ ?_;have d:=jH (R:=uO G Cf) (l:=x.lk) (s:=M.bR) g d;have d:=Mi (R:=uO G Cf) (l:=x.lk) (s:=M.bR) (i:=i) (q:=q) (t:=(fP Cf i (M.bR i) n).1) g d;have e:gD Cf x M.eF.length=gD Cf {x with lk:=x.lk.set i q} M.eF.length:=HT
 rw[e] at d;exact(cB (m:=m) (x:={x with lk:=x.lk.set i q}) ((M.kC i (fP Cf i (M.bR i) n).1).bM F) ⟨p.1,by rw[rk];exact p.2.1,p.2.2⟩ d).to
end
variable {p6:Nat}
section
def kj {m:Mon} {c:Int} (h:(m.eE c g x).2.1=true):m.kJ g:=by
 rw[Mon.eE] at h;by_cases a:m.kJ g;exact a;rw[bD2 a] at h;cases h
variable {G:Bg} {h:AH}
def aH4 {l:IT} (a:Hs G h (H.gW v l::L)):Hs G h (H.gW v l::sp []::L):=(Hs.nS (A:=[]) a).qS
def Ww {a:Addr} {x:aG} (b:Hs G h (eC 9 174 (some a) c (1,x.enc)::L)):Hs G h (H.gW (.slice (some a) 1 c) [x]::L):=H.N4 (l:=[x]) rfl (by simp[iK]) b
def O3 (a:Hs G h L):Hs G h (H.gW (.slice none 0 0) []::L):=H.wU a
def aOt (hC:Cf.Ok) (i:Ff Cf M n) (d:Hs G h (aK p2 0 [JM m]::aK p3 0 n.enc::bY G Cf m M::L)) (e:TK G Cf m M L Q (M,[nZ n.core (kM M.bH.eU n.no).1 n.no],(kM M.bH.eU n.no).2)):Dd 123 13 [] Q [JM p2,JM p3] h:=by
 have g:=i.bH.len;have j:=hC.2.1;have⟨x,hl,d⟩:=dH<|d.bE<|bY G Cf m M;have⟨t,b,d⟩:=oM<|d.bE<|jL Cf x.mb M.bH;refine bW<|bI d fun k h d=>ai p2 d rfl<|aC<|aA<|ai m d rfl<|aC<|aA<|aE (b:=x.mb) (o:=0) d rfl<|aA<|ai p3 d rfl<|aGn (es:=M.bH.eU) FQ i.bH.V0 d fun h d=>?_;refine aN rfl<|aN rfl<|aA<|ai p3 d rfl<|aZ (c:=[I (kM M.bH.eU n.no).1,I 0]) rfl<|aA<|ai p3 d rfl<|aZ (c:=(nZ n.core (kM M.bH.eU n.no).1 n.no).enc) rfl<|aZ (c:=(nZ n.core (kM M.bH.eU n.no).1 n.no).enc) rfl<|eA (W:=9) (n:=1) (c:=1) d rfl rfl rfl fun a h d=>?_;have d:=fU<|d.dV (aK x.mb 0 [JM t,I Cf.aB,lC b]) (lZ t M.bH.eU)<|qX b<|oJ M.bH.eI;have d:=cB (m:=m) (x:=x) M hl d;have d:=Ww<|d.bE<|eC 9 174 (some a) 1 (1,(nZ n.core (kM M.bH.eU n.no).1 n.no).enc);refine e _ _ (sp []) h (aH4 d.to) fun _ F=>?_;intro h L Q d e;exact vB rfl<|cW (f:=183)<|e _ _ d.tail
def aG9 {t:jO} (hC:Cf.Ok) (d:n.enc[0+1]?=some (I i)) (g:(i:Int)<Cf.aB) (F:eO):aV9 G Cf m (sp [aK p6 0 [JM q],aK p2 0 [JM m],aK p3 0 n.enc,oY q Cf t]) (.func (.func 186) #[] #[JM p6,JM p2,JM p3]) (M.bM F) ((M.eP i t).bM F):=by
 intro h L Q a j;have a:=a.un4;have⟨x,hl,a⟩:=dH<|a.bE<|bY G Cf m<|M.bM F;have c:i<x.lq.length:=HZ
 refine vB rfl<|cW (f:=186)<|bI a fun k h a=>ai p2 a rfl<|aC<|aA<|ai m a rfl<|aA<|ai p3 a d<|ai p6 a rfl<|dc a c fun h a=>j _ _ ?_;have a:=jH (R:=uL Cf) (l:=x.lq) (s:=M.aT) c a;have a:=Mi (R:=uL Cf) (l:=x.lq) (s:=M.aT) (i:=i) (q:=q) (t:=t) c a;have e:gD Cf x M.eF.length=gD Cf {x with lq:=x.lq.set i q} M.eF.length:=HT
 rw[e] at a;exact(cB (m:=m) (x:={x with lq:=x.lq.set i q}) ((M.eP i t).bM F) ⟨hl.1,hl.2.1,by rw[rk];exact hl.2.2⟩ a).to
def aN8 {t:jO} (hC:Cf.Ok) (d:n.enc[0+1]?=some (I i)) (g:(i:Int)<Cf.aB) (F:eO):aV9 G Cf m (sp [aK p6 0 [JM q],aK p2 0 [JM m],aK p3 0 n.enc,oY q Cf t]) (.func (.func 188) #[] #[JM p6,JM p2,JM p3]) (M.bM F) ((M.eP i t).bM F):=by
 intro h L Q a j;have a:=a.un4;have⟨x,hl,a⟩:=dH<|a.bE<|bY G Cf m<|M.bM F;have c:i<x.lq.length:=HZ
 refine vB rfl<|cW (f:=188)<|bI a fun k h a=>ai p2 a rfl<|aC<|aA<|ai m a rfl<|aA<|ai p3 a d<|ai p6 a rfl<|dc a c fun h a=>j _ _ ?_;have a:=jH (R:=uL Cf) (l:=x.lq) (s:=M.aT) c a;have a:=Mi (R:=uL Cf) (l:=x.lq) (s:=M.aT) (i:=i) (q:=q) (t:=t) c a;have e:gD Cf x M.eF.length=gD Cf {x with lq:=x.lq.set i q} M.eF.length:=HT
 rw[e] at a;exact(cB (m:=m) (x:={x with lq:=x.lq.set i q}) ((M.eP i t).bM F) ⟨hl.1,hl.2.1,by rw[rk];exact hl.2.2⟩ a).to
def aBu (hC:Cf.Ok) (y:Ff Cf M n) (E:0<=n.d0/\n.d0<=1000000) (d:Hs G h (aK p2 0 [JM m]::aK p3 0 n.enc::bY G Cf m M::L))
  (v:TK G Cf m M L Q (M.eP n.core.toNat ((M.aT n.core.toNat).fM Cf n.no n.d0).1,if((M.aT n.core.toNat).fM Cf n.no n.d0).2.2.1 then [] else [cN 6 n.core ((M.aT n.core.toNat).fM Cf n.no n.d0).2.1],((M.aT n.core.toNat).fM Cf n.no n.d0).2.2.2)):Dd 123 16 [] Q [JM p2,JM p3] h:=by
 have⟨i,hi⟩:=ay y.core.1
 have u:(i:Int)<Cf.aB:=by have:=y.core.2;omega
 have g:=y.gG
 have k:=y.aR
 have w:n.enc[0+1]?=some (I i):=by show some (I n.core)=_;rw[hi]
 rw[hi,aL] at v g k
 have⟨x,hl,d⟩:=dH<|d.bE<|bY G Cf m M
 have f:i<x.lq.length:=HZ
 refine bW<|bI d fun J h d=>ai p2 d rfl<|aC<|aA<|ai m d rfl<|aA<|ai p3 d w<|O5 d f ?_
 have d:=jH (R:=uL Cf) (l:=x.lq) (s:=M.aT) f d
 refine Kc (C:=Cf) (p:=x.lq.getD i 0) (s:=M.aT i) g d fun q h d=>nI (r:=J) (i:=9) (n:=11) (D:=[]) d rfl rfl fun j h d=>an (b:=j) d fun h d=>ai j d rfl<|aA<|ai p3 d rfl<|aA<|fQ FV FV<|ai p3 d rfl ?_
 refine aF6 (C:=Cf) (p:=q) (s:=M.aT i) hC g k E d fun h d=>aN rfl<|aN rfl<|aN rfl<|cZ<|fR<|dX (fun z=>?_) fun z=>?_
 .rw[z,bD2 rfl] at v;have d:=Bs (Cf:=Cf) (l:=x.lq) (s:=M.aT) (i:=i) (t:=M.aT i) f d;rw[cK] at d;have d:=cB (m:=m) (x:=x) M hl d;exact v _ _ (sp [aK j 0 [JM q],aK p2 0 [JM m],aK p3 0 n.enc,oY q Cf ((M.aT i).fM Cf n.no n.d0).1]) h (O3 ((d.rL (aK j 0 [JM q]) (aK p2 0 [JM m]) (aK p3 0 n.enc)<|oY q Cf ((M.aT i).fM Cf n.no n.d0).1).Rx).to) fun _ F=>aG9 hC w u F
 .rw[z,bD1 FW] at v;have d:=vC (enc:=aG.enc) (e:=174) d;refine bW<|aA<|ai p3 d w<|aZ (c:=(cN 6 i ((M.aT i).fM Cf n.no n.d0).2.1).enc) rfl<|aZ (c:=(cN 6 i ((M.aT i).fM Cf n.no n.d0).2.1).enc) rfl<|eA (W:=9) (n:=1) (c:=1) d rfl rfl rfl fun a h d=>?_;have d:=sG (enc:=aG.enc) (x:=cN 6 i ((M.aT i).fM Cf n.no n.d0).2.1) d;refine qV (enc:=aG.enc) (e:=174) (l:=[]) (l2:=[cN 6 i ((M.aT i).fM Cf n.no n.d0).2.1]) (a:=none) (c:=0) (a2:=some a) (c2:=1) d FW fun A B h d=>?_;have d:=Bs (Cf:=Cf) (l:=x.lq) (s:=M.aT) (i:=i) (t:=M.aT i) f d;rw[cK] at d;have d:=cB (m:=m) (x:=x) M hl d;have d:=(d.rL (aK j 0 [JM q]) (aK p2 0 [JM m]) (aK p3 0 n.enc)<|oY q Cf ((M.aT i).fM Cf n.no n.d0).1).Rx;have d:=d.bE<|ls aG.enc 9 174 A B<|[]++[cN 6 i ((M.aT i).fM Cf n.no n.d0).2.1];exact v (.slice A [cN 6 i ((M.aT i).fM Cf n.no n.d0).2.1].length B) _ (sp [aK j 0 [JM q],aK p2 0 [JM m],aK p3 0 n.enc,oY q Cf ((M.aT i).fM Cf n.no n.d0).1]) h (H.N4 (l:=[cN 6 i ((M.aT i).fM Cf n.no n.d0).2.1]) rfl (by simp[eL,iK]) d).to fun _ F=>aG9 hC w u F
def aPy (hC:Cf.Ok) (u:Ff Cf M n) (d:Hs G h (aK p2 0 [JM m]::aK p3 0 n.enc::bY G Cf m M::L))
  (v:TK G Cf m M L Q (M.eP n.core.toNat ((M.aT n.core.toNat).drop Cf n.no).1,[cN 7 n.core n.no],((M.aT n.core.toNat).drop Cf n.no).2)):Dd 123 19 [] Q [JM p2,JM p3] h:=by
 have⟨i,hi⟩:=ay u.core.1
 have k:(i:Int)<Cf.aB:=by have:=u.core.2;omega
 have f:=u.gG
 have j:n.enc[0+1]?=some (I i):=by show some (I n.core)=_;rw[hi]
 rw[hi,aL] at v f
 have⟨x,hl,d⟩:=dH<|d.bE<|bY G Cf m M
 have e:i<x.lq.length:=HZ
 refine bW<|bI d fun w h d=>ai p2 d rfl<|aC<|aA<|ai m d rfl<|aA<|ai p3 d j<|O5 d e ?_
 have d:=jH (R:=uL Cf) (l:=x.lq) (s:=M.aT) e d
 refine Kc (C:=Cf) (p:=x.lq.getD i 0) (s:=M.aT i) f d fun q h d=>nI (r:=w) (i:=9) (n:=11) (D:=[]) d rfl rfl fun g h d=>an (b:=g) d fun h d=>ai g d rfl<|aA<|ai p3 d rfl ?_
 refine uc (C:=Cf) (p:=q) (s:=M.aT i) f d fun _ h d=>aN rfl<|aN rfl<|aA<|ai p3 d j<|aA<|ai p3 d rfl<|aZ (c:=(cN 7 i n.no).enc) rfl<|aZ (c:=(cN 7 i n.no).enc) rfl<|eA (W:=9) (n:=1) (c:=1) d rfl rfl rfl fun a h d=>?_
 have d:=Bs (Cf:=Cf) (l:=x.lq) (s:=M.aT) (i:=i) (t:=M.aT i) e d
 rw[cK] at d
 have d:=cB (m:=m) (x:=x) M hl d
 have d:=(d.rL (aK g 0 [JM q]) (aK p2 0 [JM m]) (aK p3 0 n.enc)<|oY q Cf ((M.aT i).drop Cf n.no).1).Rx
 exact v _ _ (sp [aK g 0 [JM q],aK p2 0 [JM m],aK p3 0 n.enc,oY q Cf ((M.aT i).drop Cf n.no).1]) h (Ww<|d.bE<|eC 9 174 (some a) 1 (1,(cN 7 i n.no).enc)).to fun _ F=>aN8 hC j k F
def uw (hC:Cf.Ok) (hG:Gb G) (i:Ff Cf M n) (a:Hs G h (aK p2 0 [JM m]::aK p3 0 n.enc::bY G Cf m M::L))
  (c:TK G Cf m M L Q (if(M.bH.eE Cf.aB n.no n.core).2.1 then(M.jI (M.bH.eE Cf.aB n.no n.core).1).mJ (oE Cf M.aJ n.no) else M.jI (M.bH.eE Cf.aB n.no n.core).1,[],(M.bH.eE Cf.aB n.no n.core).2.2)):Dd 123 21 [] Q [JM p2,JM p3] h:=by
 have⟨x,hl,a⟩:=dH<|a.bE<|bY G Cf m M
 refine bW<|ai p2 a rfl<|aC<|aA<|ai m a rfl<|Up (C:=Cf) (m:=M.bH) hC i.bH a fun q h a=>cT a fun j h a=>an (b:=j) a fun h a=>ai j a rfl<|aA<|ai p3 a rfl<|aA<|ai p3 a rfl ?_
 refine V3 (C:=Cf) (m:=M.bH) (p:=q) hC i.bH a fun h a=>aN rfl<|aN rfl<|cT a fun d h a=>an (b:=d) a fun h a=>?_
 have a:=cB (m:=m) (x:=x) M hl a
 have a:=(a.dC (aK d 0 [.bool (M.bH.eE Cf.aB n.no n.core).2.1])<|aK p3 0 n.enc).F6
 have a:=(a.rL (aK j 0 [JM q]) (aK p2 0 [JM m]) (sp [aK d 0 [.bool (M.bH.eE Cf.aB n.no n.core).2.1],aK p3 0 n.enc])<|jL Cf q (M.bH.eE Cf.aB n.no n.core).1).Rx
 refine c _ _ (sp [aK j 0 [JM q],aK p2 0 [JM m],sp [aK d 0 [.bool (M.bH.eE Cf.aB n.no n.core).2.1],aK p3 0 n.enc],jL Cf q (M.bH.eE Cf.aB n.no n.core).1]) h (O3 a.to) fun _ F=>?_
 intro h L Q a c
 have a:=a.un4
 have a:=(a.bE<|sp [aK d 0 [.bool (M.bH.eE Cf.aB n.no n.core).2.1],aK p3 0 n.enc]).A7
 have⟨x,hl,a⟩:=dH<|a.bE<|bY G Cf m<|M.bM F
 refine vB rfl<|cW (f:=190)<|ai p2 a rfl<|ai j a rfl<|aC<|aA<|ax (b:=m) (o:=0) a fun h a=>ai d a rfl<|dX (fun k=>?_) fun k=>?_
 .have⟨g,hg1,hg2,_⟩:=Zq i.bH hC<|kj k;have l:=i.bH.len;rw[bD2 k] at c;have e:bM (gD Cf x M.eF.length) (0+11) [JM q]=gD Cf {x with mb:=q} M.eF.length:=rfl;rw[e] at a;refine ai p2 a rfl (aA<|ai p3 a (by show some (I n.no)=_;rw[hg1]) ?_);have a:=cB (m:=m) (x:={x with mb:=q}) ((M.jI (M.bH.eE Cf.aB n.no n.core).1).bM F) hl a;rw[hg1] at c a;exact aEu (Cf:=Cf) (M:=(M.jI (M.bH.eE Cf.aB g n.core).1).bM F) hC hG FQ i.aJ a fun v h a=>c _ _ a.to
 .rw[bD1<|by rw[k];simp] at c;have e:bM (gD Cf x M.eF.length) (0+11) [JM q]=gD Cf {x with mb:=q} M.eF.length:=rfl;rw[e] at a;exact c _ _ (cB (m:=m) (x:={x with mb:=q}) ((M.jI (M.bH.eE Cf.aB n.no n.core).1).bM F) hl a).to
end
variable {d:Do}
section
variable {G:Bg} {h:AH}
def aIx (hC:Cf.Ok) (hG:Gb G) (f:Ff Cf M n) (c:Hs G h L) [A:dZ (bY G Cf m) L M L'] (a:TK G Cf m M L' Q (M.dF Cf n)):JL 123 [JM m,.agg ⟨n.enc⟩] h Q:=by
 refine cW<|fB (A.of c) fun r h c=>fB c fun j h c=>aA<|ai j c rfl ?_;have c:Hs G h (aK r 0 [JM m]::aK j 0 n.enc::bY G Cf m M::L'):=c.to;have aJ:(n.kind=1\/n.kind=2\/n.kind=3\/n.kind=4\/n.kind=5)->Dd 123 3 [] Q [JM r,JM j] h:=fun e=>by
  unfold bU.dF at a;rw[bD2 e] at a;exact aNd hC hG f c a
 have Vp:¬(n.kind=1\/n.kind=2\/n.kind=3\/n.kind=4\/n.kind=5)->(n.kind=8\/n.kind=9\/n.kind=10\/n.kind=11)->Dd 123 9 [] Q [JM r,JM j] h:=fun y e=>by
  unfold bU.dF at a;rw[bD1 y,bD2 e] at a;exact aM7 hC hG f c a
 refine cF<|bG (fun s=>bW<|cS s<|aJ FQ) fun s=>bW ?_;refine cF<|bG (fun t=>bW<|cS t<|aJ FQ) fun t=>bW ?_;refine cF<|bG (fun u=>bW<|cS u<|aJ FQ) fun u=>bW ?_;refine cF<|bG (fun v=>bW<|cS v<|aJ FQ) fun v=>bW ?_;refine cF<|bG (fun z=>aJ FQ) fun z=>bW ?_;refine cF<|bG (fun w=>bW<|cS w<|Vp FQ FQ) fun w=>bW ?_;refine cF<|bG (fun x=>bW<|cS x<|Vp FQ FQ) fun x=>bW ?_;refine cF<|bG (fun i=>bW<|cS i<|Vp FQ FQ) fun i=>bW ?_;refine cF<|bG (fun l=>Vp FQ FQ) fun l=>bW ?_;unfold bU.dF at a;rw[aaa,aaa] at a;refine cF<|bG (fun p=>?_) fun p=>bW ?_;rw[bD2 p] at a;exact aOt hC f c a;rw[bD1 p] at a;refine cF<|bG (fun d=>?_) fun d=>bW ?_;rw[bD2 d] at a;exact aBu hC f (f.dD d) c a;rw[bD1 d] at a;refine cF<|bG (fun g=>?_) fun g=>bW ?_;rw[bD2 g] at a;exact aPy hC f c a;rw[bD1 g] at a;refine cF<|bG (fun q=>?_) fun q=>?_;rw[bD2 q] at a;exact uw hC hG f c a;rw[bD1 q] at a;have c:Hs G h (bY G Cf m M::L'):=c.to;exact a _ _ (sp []) h (aH4<|O3 c) fun k=>absurd k (by show ¬(15:Int)=0;omega)
theorem aFe (hC:Cf.Ok):(M.dF Cf n).2.1.length<=100:=by
 unfold bU.dF;split;unfold eW;split;simp;split;unfold iN.take;split;split<;>simp;split;split;simp;unfold iN.nH;dsimp only;have a:= @Yo;have b:= @tW;grind [bT.rest];simp;simp
 .split;have:=aKt (C:=Cf) (core:=n.core) (s:=M.bR n.core.toNat) (nt:=n);dsimp only;omega
  .repeat' split
   all_goals simp
   all_goals split<;>simp
theorem j4 (hC:Cf.Ok) (hG:Gb G) (z:vy Cf M.cD) (D:∀n,(M.cD.take Cf d.a d.b d.c).2.2=0->(M.cD.take Cf d.a d.b d.c).2.1=n->Ff Cf M n) (j:vy Cf (M.cD.take Cf d.a d.b d.c).1) (g:Hs G h L) [J:dZ (bY G Cf m) L M L'] (i:∀y,Hs G y (bY G Cf m (M.dE Cf d.a d.b d.c).1::L')->Q (I (M.dE Cf d.a d.b d.c).2) y):JL 60 [JM m,.agg ⟨d.enc⟩] h Q:=by
 unfold bU.dE at i;refine cW<|fB (cs:=d.enc) (J.of g) fun w h g=>?_;obtain⟨x,r,g⟩:=dH<|g.bE<|bY G Cf m M;refine aC<|aA<|ai m g rfl<|vp (C:=Cf) (F:=M.cD) hC (z.V9 hC) g fun q h g=>?_;refine aA<|ai w g rfl<|aA<|ai w g rfl<|aA<|ai w g rfl ?_;refine su (C:=Cf) (f:=q) (F:=M.cD) hC (z.V9 hC) g fun h g=>aN rfl<|aN rfl<|cT g fun B h g=>an (b:=B) g fun h g=>bZ<|bG (fun p=>?_) fun p=>?_;rw[bD2 p] at i;exact i _ (cB (m:=m) (x:=x) M r g).to;rw[bD1 p] at i;have A:=D _ FQ rfl;generalize M.cD.take Cf d.a d.b d.c=tt at i g p A j;have g:=cB (m:=m) (x:=x) M r g;refine bW<|am B g (l:=tt.2.1.enc) rfl rfl<|aIx (Cf:=Cf) (M:=M) (n:=tt.2.1) hC hG A g ?_;intro v O Z h g k;refine aN rfl<|aN rfl<|aN rfl<|bZ<|bG (fun s=>?_) fun s=>?_;dsimp only at i;rw[bD2 s] at i;exact i _ g.to;dsimp only at i;rw[bD1 s] at i;obtain⟨a,c,E,u⟩:=H.aIr g;subst E;have g:Hs G h (zX a c (M.dF Cf tt.2.1).2.1::_):=u;refine bW ?_;refine xM (C:=Cf) (f:=q) (F:=tt.1) (l:=(M.dF Cf tt.2.1).2.1) (a:=a) (c:=c) hC (j.V9 hC) (aFe hC) hG.kin hG.Nq g fun h g=>bZ<|bG (fun t=>?_) fun t=>?_;rw[bD2 t] at i;exact i _ g.to;rw[bD1 t] at i;obtain⟨x,r,g⟩:=dH<|g.bE<|bY G Cf m M;refine bW<|aC<|aA<|ax (b:=m) (o:=0) g fun h g=>?_;have e:bM (gD Cf x M.eF.length) (0+12) [JM q]=gD Cf {x with fb:=q} M.eF.length:=rfl;rw[e] at g;have g:=cB (m:=m) (x:={x with fb:=q}) (M.bM (tt.1.gJ Cf (M.dF Cf tt.2.1).2.1).1) r g;exact k FQ _ h _ _ (g.dC Z<|bY G Cf m<|M.bM (tt.1.gJ Cf (M.dF Cf tt.2.1).2.1).1) fun v h g=>i _ g.to
theorem aEe (hC:Cf.Ok) (hG:Gb G) (E:jE Cf M.bH) (A:Bh Cf M.aJ (2^30 - 4)) (D:vy Cf M.cD) (g:Hs G h L) [J:dZ (bY G Cf m) L M L'] (i:∀z,Hs G z (bY G Cf m (M.dJ Cf d.a).1::L')->Q (I (M.dJ Cf d.a).2) z):JL 61 [JM m,.agg ⟨d.enc⟩] h Q:=by
 unfold bU.dJ at i;refine cW<|fB (cs:=d.enc) (J.of g) fun O h g=>?_;obtain⟨x,u,g⟩:=dH<|g.bE<|bY G Cf m M;refine aC<|aA<|ai m g rfl<|H.Uy (C:=Cf) hC (Ou A FQ) g fun q h g=>bI g fun P h g=>aA<|ai O g rfl ?_;refine aC<|aA<|nD (b:=m) (o:=0) g FV (l:=Cf.enc) rfl rfl<|aC<|aA<|ai m g rfl<|aZ (c:=Cf.enc++[JM x.mb]) rfl ?_;have g:=g.dC (H.jG G q Cf M.aJ)<|jL Cf x.mb M.bH;refine H.aMi (C:=Cf) (hb:=q) (H:=M.aJ) hC hG.Nq (br (p:=x.mb) hC E hG.Nq) A g (BU _) fun v h g=>aN rfl<|aN rfl ?_;have B:(fun w=>Ue Cf M.bH w d.a)=M.gE Cf d.a:=rfl;rw[B] at g ⊢;have t:=Y5 (C:=Cf) (H:=M.aJ) (l:=d.a) (j:=M.gE Cf d.a);generalize eQ Cf M.aJ d.a (M.gE Cf d.a)=r at i g t ⊢;refine bZ<|bG (fun s=>?_) fun s=>?_;rw[bD2 s] at i;exact i _ (cB (m:=m) (x:=x) M u g).to;rw[bD1 s] at i;obtain⟨a,c,rfl,y⟩:=H.aIr g;have g:Hs G h (zX a c r.2.1::_):=y;refine bW<|aC<|aA<|ai m g rfl ?_;refine xM (C:=Cf) (f:=x.fb) (F:=M.cD) (l:=r.2.1) (a:=a) (c:=c) hC (D.V9 hC) FQ hG.kin hG.Nq g fun h g=>bZ<|bG (fun k=>?_) fun k=>?_;rw[bD2 k] at i;rw[Nb k] at g;exact i _ (cB (m:=m) (x:=x) M u g).to;rw[bD1 k] at i;refine bW<|aC<|aA<|ax (b:=m) (o:=0) g fun h g=>i _ ?_;have e:bM (gD Cf x M.eF.length) (0+10) [JM q]=gD Cf {x with hb:=q} M.eF.length:=rfl;rw[e] at g;exact(cB (m:=m) (x:={x with hb:=q}) ((M.bM (eO.gJ Cf M.cD r.2.1).1).mJ r.1) u g).to
abbrev sdX (G:Bg) (Cf:bQ) (m p2 p3:Nat) (M:bU) (b:Bool) (e:Nat->Value) (d l:Nat) (st:LoopState×Option Code) (pr:Prop):HP:=sp [Dw pr,pD Pr 127 (qK 218) 29 e d l st,sp [aK p2 0 [JM m],aK p3 0 [.bool b]],bY G Cf m M]
def Xc {g:Nat} (hC:Cf.Ok) (hG:Gb G) (J:(g:Int)<Cf.aM) (O:Bh Cf M.aJ (2^30)) (a:Hs G h L) [R:dZ (bY G Cf m) L M L'] (j:∀u,Hs G u (bY G Cf m M::L')->Q (.bool<|M.gX Cf g) u):JL 127 [JM m,I g] h Q:=by
 refine cW<|fB (R.of a) fun f h a=>?_;obtain⟨x,r,a⟩:=dH<|a.bE<|bY G Cf m M;refine ai f a rfl<|aC<|aA<|ai m a rfl<|Vh (C:=Cf) (m:=M.bH) a fun h a=>cF<|cT a fun c h a=>an (b:=c) a fun h a=>?_;generalize E:decide (M.bH.phase g=2)=b at a;refine ai f a rfl<|aC<|aA<|nD (b:=m) (o:=0) a FV (l:=Cf.enc) rfl rfl<|Kq (C:=Cf) a fun D q2 h a=>?_;have a:=cB (m:=m) (x:=x) M r a;refine nY a fun d h a=>?_;intro e F;refine rK a fun l h a=>xU rfl ?_;have a:Hs G h (sp [aK D 0 Cf.enc,aK q2 0 [I g]]::sdX G Cf m f c M b e d l (.ready,none) (∀l∈([]:FL),¬gO Cf M.aJ l>0)::mk d ()::L'):=by
  have a:=(a.dC (aK f 0 [JM m])<|aK c 0 [.bool b]).F6;have a:=a.dV (pD Pr 127 (qK 218) 29 e d l (.ready,none)) (sp [aK f 0 [JM m],aK c 0 [.bool b]])<|bY G Cf m M;have a:=Hs.Rx<|Hs.dm (p:=∀l∈([]:FL),¬gO Cf M.aJ l>0) FW a;exact a.to
 refine(Pe (C:=Cf) hC J (p:=D) (q:=q2) hG.Nq).No (X:=fun done=>sdX G Cf m f c M b e d l (.ready,none) (∀l∈done,¬gO Cf M.aJ l>0)) (Z:=fun _ y=>sdX G Cf m f c M false e d l (.done,some<|.exit 0)<|gO Cf M.aJ y>0/\(y=g*2\/y=g*2+1)) a ?_ ?_ ?_
 .intro done y h N B a;have⟨hd,a⟩:=kK a;have a:=a.Fc;have P:y=g*2\/y=g*2+1:=by
   obtain⟨S,s⟩:=B;have:y∈[g*2,g*2+1]:=by rw[<-s];simp
   simpa using this
  have a:=(a.bE<|sp [aK f 0 [JM m],aK c 0 [.bool b]]).A7;have⟨x,r,a⟩:=dH<|a.bE<|bY G Cf m M;refine rW (yJ a) F<|kV a fun h a=>ai f a rfl<|aC<|aA<|ai m a rfl<|H.Zb (C:=Cf) (H:=M.aJ) O a fun h a=>?_;have a:=cB (m:=m) (x:=x) M r a;refine qA<|bG (fun t=>?_) fun t=>?_;refine an (b:=c) a fun h a=>lM a fun h a=> .inr ⟨rfl,?_⟩;have a:=(a.dC (aK f 0 [JM m])<|aK c 0 [.bool false]).F6;exact(Hs.Rx<|Hs.dm (p:=gO Cf M.aJ y>0/\(y=g*2\/y=g*2+1)) ⟨t,P⟩<|a.dV (pD Pr 127 (qK 218) 29 e d l (.done,some<|.exit 0)) (sp [aK f 0 [JM m],aK c 0 [.bool false]])<|bY G Cf m M).to
  .refine lM a fun h a=> .inl ⟨rfl,?_⟩;have a:=(a.dC (aK f 0 [JM m])<|aK c 0 [.bool b]).F6;refine(Hs.Rx<|Hs.dm (p:=∀l∈done++[y],¬gO Cf M.aJ l>0) ?_<|a.dV (pD Pr 127 (qK 218) 29 e d l (.ready,none)) (sp [aK f 0 [JM m],aK c 0 [.bool b]])<|bY G Cf m M).to;intro z i;rcases cg.1 i with i|i;exact hd z i;rwa [aV.1 i]
 intro v h a;have⟨hd,a⟩:=kK<|a.bE<|sdX G Cf m f c M b e d l (.ready,none) (∀l∈[g*2,g*2+1],¬gO Cf M.aJ l>0);have a:=a.Fc;have k:M.gX Cf g=b:=by
  have w:=hd (g*2) FW;have A:=hd (g*2+1) FW;rw[<-E];rw[bU.gX];simp only[Int.natCast_mul,Int.natCast_add] at w A;rw[cr (p:=gO Cf M.aJ (g*2)>0) w,cr (p:=gO Cf M.aJ (g*2+1)>0) A];simp
 rw[k] at j;have a:=(a.bE<|sp [aK f 0 [JM m],aK c 0 [.bool b]]).A7;exact rD a fun h a=>rF<|ai c a rfl<|qQ a fun h a=>nU<|j _ a.to
 .intro done y v h B a;have⟨hd,a⟩:=kK<|a.bE<|sdX G Cf m f c M false e d l (.done,some<|.exit 0)<|gO Cf M.aJ y>0/\(y=g*2\/y=g*2+1);have a:=a.Fc;have k:M.gX Cf g=false:=by
   rw[bU.gX];rcases hd.2 with e|e;have:=hd.1;rw[e] at this;rw[cj (p:=gO Cf M.aJ (g*2)>0) this];simp;have:=hd.1;rw[e] at this;rw[cj (p:=gO Cf M.aJ (g*2+1)>0) this];simp
  rw[k] at j;have a:=(a.bE<|sp [aK f 0 [JM m],aK c 0 [.bool false]]).A7;exact K4 a fun h a=>Oh rfl<|ai c a rfl<|qQ a fun h a=>nU<|j _ a.to
end
section
def uy {H:nC} {g:Nat}:nP H g=fun i=>((H i).1,oD (fun i=>(H i).2) g i):=by
 funext i;unfold nP oD bA;by_cases a:i=g*2+1;subst a;simp;by_cases b:i=g*2;subst b;simp;rw[aaa,bD1 a,bD1 b]
def Xn {m:Mon} {u:Mc.mP} (h:(m.over g).2.1=some u):m.run g=some u/\(m.over g).2.2=0/\m.kJ g:=by
 unfold Mon.over at h ⊢;by_cases a:m.kJ g;rw[bD1 GR] at h ⊢;cases hr:m.run g with
 |none=>rw[hr] at h;cases h
 |some r=>
  rw[hr] at h;dsimp only at h ⊢;split at h;cases h;rename_i b;cases h;rw[bD1 b];exact⟨rfl,rfl,a⟩
 rw[bD2 a] at h;cases h
def Yf {m:Mon} (h:(m.over g).2.1=none):(m.over g).1=m/\(m.over g).2.2≠0:=by
 unfold Mon.over at h ⊢;split;exact⟨rfl,GG⟩;rename_i a;rw[bD1 a] at h;split;exact⟨rfl,GG⟩;rename_i r c;rw[c] at h;dsimp only at h;split;exact⟨rfl,GG⟩;rename_i b;rw[bD1 b] at h;cases h
variable {G:Bg} {h:AH}
def td (hC:Cf.Ok) (hG:Gb G) (S:jE Cf M.bH) (V:Bh Cf M.aJ (2^30)) (t:∀i:Nat,(i:Int)<Cf.aB->(M.aD i).Ok) (l:M.eF.length<=2^30) (e:Hs G h L) [W:dZ (bY G Cf m) L M L'] (f:∀J,Hs G J (bY G Cf m (M.gH Cf d.a).1::L')->Q (I (M.gH Cf d.a).2) J):JL 62 [JM m,.agg ⟨d.enc⟩] h Q:=by
 unfold bU.gH at f;refine cW<|fB (cs:=d.enc) (W.of e) fun y h e=>bI e fun rr h e=>?_;obtain⟨x,q,e⟩:=dH<|e.bE<|bY G Cf m M;refine aA<|ai y e rfl<|bF<|bG (fun O=>?_) fun O=>?_;rw[aac] at f;exact f _ (cB (m:=m) (x:=x) M q e).to;refine aA<|ai y e rfl<|aC<|aA<|aA<|ai m e rfl<|fV<|bG (fun P=>?_) fun P=>?_;rw[aac] at f;exact f _ (cB (m:=m) (x:=x) M q e).to;rw[aaa] at f;obtain⟨w,a,b,c⟩:=d;dsimp only at O P f;obtain⟨g,rfl⟩:=ay (show 0<=a by omega);have e:=cB (m:=m) (x:=x) M q e;refine bW<|aA<|ai y e rfl<|Xc (Cf:=Cf) (M:=M) hC hG FQ V e fun h e=>cZ<|fR<|dX (fun z=>?_) fun z=>?_;rotate_left;rw[bD2 z] at f;exact f _ e.to;rw[bD1<|by rw[z];simp] at f;obtain⟨x,q,e⟩:=dH<|e.bE<|bY G Cf m M;refine bW<|bI e fun Y h e=>aC<|aA<|ai m e rfl<|aA<|ai y e rfl ?_;refine wy (C:=Cf) (m:=M.bH) (p:=x.mb) hC S e fun h e=>aN rfl<|aN rfl<|nI (r:=Y) (i:=10) (n:=13) (D:=[]) e rfl rfl fun v h e=>an (b:=v) e fun h e=>dT (aN rfl lG)<|bZ<|bG (fun B=>?_) fun B=>?_;cases hu:(M.bH.over (g:Int)).2.1 with
 |some u=>exact absurd (Xn hu).2.1 B
 |none=>
  rw[hu] at f;dsimp only at f;rw[(Yf hu).1] at e;exact f _ (cB (m:=m) (x:=x) M q e).to
 cases hu:(M.bH.over (g:Int)).2.1 with
 |none=>exact absurd (Yf hu).2 B
 |some u=>
 obtain⟨Z,_,u2⟩:=Xn hu;obtain⟨o1,T,o3,X,o5⟩:=S.run g u<|aHs Z;rw[hu] at f e;dsimp only at f;simp only[ts] at e;obtain⟨i,R⟩:=ay X.1;have k:(i:Int)<Cf.aB:=FQ
 have F:(zC u)[0+0+0]?=some (I i):=by show some (I u.core)=_;rw[R]
 have U:(zC u)[0+0+3]?=some (I g):=by show some (I u.aR)=_;rw[T]
 rw[show u.core.toNat=i by rw[R];rfl,T] at f;refine bW<|aA<|ai v e rfl<|dX (fun E=>?_) fun E=>?_;rw[bD2 E] at f;obtain⟨s,b,o,j,e⟩:=H.rH<|e.bE<|H.jG G x.hb Cf M.aJ;refine bW<|bI e fun r3 h e=>aC<|aA<|ai m e rfl<|aC<|aA<|aE (b:=x.hb) (o:=0) e rfl<|aA<|aA<|ai v e U ?_;refine A.kz (C:=Cf) (mb:=s) (g:=g) (mem:=fun i=>(M.aJ i).2) hC hG.Nq e FQ fun _ h e=>aA<|aA<|ai v e F ?_;have e:=H.zP (H:=nP M.aJ g) (hb:=x.hb) (C:=Cf) (mb:=s) (b:=b) (o:=o) (cap:=j) (by rw[uy];exact e.rL (aK x.hb 0<|H.mH s Cf b o j) (gK G Cf.aF s Cf<|oD (fun i=>(M.aJ i).2) g) (gQ G 25 240 (some ⟨b,o,none⟩) j Cf.aF b o)<|fH Cf.aF fun i=>H.gI b (o+i*25) (M.aJ i).1);have e:=cB (m:=m) (x:=x) ((M.jI (M.bH.over g).1).mJ<|nP M.aJ g) q e;exact tE (Cf:=Cf) (M:=(M.jI (M.bH.over g).1).mJ<|nP M.aJ g) k (t i k) l e fun h e=>f _ e.to;rw[bD1<|by rw[E];simp] at f;have e:=cB (m:=m) (x:=x) (M.jI (M.bH.over g).1) q e;exact aA<|aA<|ai v e F<|tE (Cf:=Cf) (M:=M.jI (M.bH.over g).1) k (t i k) l e fun h e=>f _ e.to
end
def Ku:FJ:=[.func (.func 59) #[] #[],.func (.func 60) #[] #[],.func (.func 61) #[] #[],.func (.func 62) #[] #[]]
variable {G:Bg} {h:AH} {N:Nat}
def aLi (a:Hs G h L) (e:∀d,Hs G d L->Q (.agg ⟨Ku⟩) d):JL 22 [] h Q:=
 cW (cT a fun p h a=>aZ (c:=Ku) rfl<|an (b:=p) a fun h a=>am p a (l:=Ku) rfl rfl<|e _ a.tail)
def aQc {f:Value} (hC:Cf.Ok) (hG:Gb G) (a:cX Cf N M) (j:N<=2^29) (o:0<=d.mI/\d.mI<=3) (k:Ku[d.mI.toNat]?=some f) (c:Hs G h L) [s:dZ (bY G Cf m) L M L'] (b:∀g,Hs G g (bY G Cf m (M.mC Cf d).1::L')->Q (I (M.mC Cf d).2) g):F3 Pr K f [JM m,.agg ⟨d.enc⟩] h Q:=by
 unfold bU.mC at b;have o:d.mI=0\/d.mI=1\/d.mI=2\/d.mI=3:=FQ
 have l:=a.eF;rcases o with e|e|e|e;all_goals
  rw[e] at k
  cases k
 rw[bD2 e] at b;exact vB rfl<|aHp hC hG (fun i q=>a.step hC j q) c b;rw[aaa,bD2 e] at b;exact vB rfl (j4 hC hG a.cD.len (fun n p r=>by rw[<-r];exact a.take hC j (M9 a.cD p).1) (Vl a.cD).len c b);rw[aaa,aaa,bD2 e] at b;exact vB rfl<|aEe hC hG a.bH (a.aJ.h FQ) a.cD.len c b;rw[aaa,aaa,aaa,bD2 e] at b;exact vB rfl<|td hC hG a.bH (a.aJ.h FQ) a.B6 FQ c b
def aLk {l:IY} (h:l[i]?=some d):(l.map Do.enc)[i]?=some d.enc:=by rw[k9,h];rfl
def aVc {l:IY} (hC:Cf.Ok) (hG:Gb G) (s:cX Cf N M) (A:N+2*l.length<=2^29) (g:Hs G h (Ge G 4 e v (l.map Do.enc)::bY G Cf m M::L)) (j:∀r,Hs G r (Ge G 4 e v (l.map Do.enc)::bY G Cf m (M.Au Cf l 0).1::L)->Q (.tuple ⟨[I (M.Au Cf l 0).2.1,I (M.Au Cf l 0).2.2]⟩) r):JL 7 [JM m,v] h Q:=by
 obtain⟨a,c,C⟩:=Dt g;rw[k6] at C;have q:∀{k:Value->Prop},k (I l.length)->cC (rB v) k:=fun j=>by rw[C];exact dB j
 refine cW<|dN<|cY<|bW<|aLi g fun h g=>cT g fun p h g=>an (b:=p) g fun h g=>q ?_;have loop:∀(f i N:Nat) (M:bU) (h:AH),i+f=l.length->cX Cf N M->N+2*f<=2^29->(∀r,Hs G r (Ge G 4 e v (l.map Do.enc)::bY G Cf m (M.Au Cf (l.drop i) i).1::L)->Q (.tuple ⟨[I (M.Au Cf (l.drop i) i).2.1,I (M.Au Cf (l.drop i) i).2.2]⟩) r)->
   Hs G h (Ge G 4 e v (l.map Do.enc)::aK p 0 Ku::bY G Cf m M::L)->Dd 7 2 [] Q [JM m,v,JM p,v,I l.length,I i] h:=by
  intro f
  induction f with
  |zero=>
   intro i N M h H s A j g
   rw[eo FQ] at j
   unfold bU.Au at j
   have z:i=l.length:=FQ
   subst z
   exact bW (bF<|aab<|q<|j _ g.to)
  |succ f J=>
   intro i N M h H s A j g
   obtain⟨d,F,y⟩:=qM (l:=l) (i:=i) FQ
   rw[y] at j
   unfold bU.Au at j
   refine bW<|bF<|aae<|bW<|aOc g FV (aLk F)<|cT g fun u h g=>an (b:=u) g fun h g=>aA<|ai u g rfl<|bF<|bG (fun D=>?_) fun D=>?_
   .have w:M.mC Cf d=(M,1):=by unfold bU.mC;rw[aaa,aaa,aaa,aaa]
    rw[w,bD2<|show(M,(1:Int)).2≠0 by show(1:Int)≠0;omega] at j
    exact j _ g.to
   refine aA<|ai u g rfl<|qA<|bG (fun E=>?_) fun E=>?_
   .have w:M.mC Cf d=(M,1):=by unfold bU.mC;rw[aaa,aaa,aaa,aaa]
    rw[w,bD2<|show(M,(1:Int)).2≠0 by show(1:Int)≠0;omega] at j
    exact j _ g.to
   have t:d.mI.toNat<4:=FQ
   have B:Ku[d.mI.toNat]?=some (Ku[d.mI.toNat]'t):=b0 t
   refine bW<|bI g fun O h g=>aA<|ai u g rfl<|fQ FQ FQ<|ai p g (by simpa using B)<|am u g (l:=d.enc) rfl rfl ?_
   refine aQc hC hG s FQ FQ B g fun h g=>bZ<|bG (fun x=>?_) fun x=>?_
   .rw[bD2 x] at j;exact j _ g.to
   .rw[bD1 x] at j;refine bW<|aad ?_;exact J (i+1) (N+2) _ h FQ (aRr s hC) FQ j g.to
 exact loop l.length 0 N M h FQ s FQ (by simpa using j) g.to
end Go.Proofs.Z
namespace Go.Proofs.Z.A
open Go.Hm Go.At Go.Is
variable {G:Bg} {h:AH}
abbrev zS:FJ:=[I 0,I 0,I 0,I 0,I 0,I 0,.bool false,.slice none 0 0]
variable {ps:List (IW)}
theorem xw {B p cap y mb:Nat} {C:bQ} {z:Value} {k:FJ} {ws:FK} (hB:B<=4) (R:ps.length=B) (T:ws.length=B) (O:∀p∈ps,p.length<=32)
  (V:k.length=ps.length) (K:zE G 1 pv (k.map fun x=>[x]).length fun i=>(k.map fun x=>[x]).getD i []) (D:∀(i:Nat) (v:Value) (p:IW),k[i]?=some v->ps[i]?=some p->Y8 G v p) (S:Qh G z ws)
  (H:∀u,Hs G u (qi p C (.slice (some ⟨b,o,none⟩) B cap) a y c mb::fH B (fun i=>sC b (o+i*8)<|As (ps.getD i [])<|ws.getD i 0)::L)->Q (.tuple ⟨[JM p,I 0]⟩) u):
  ∀(r i:Nat) (h:AH),i+r=B->Hs G h (qi p C (.slice (some ⟨b,o,none⟩) B cap) a y c mb::fH B (fun j=>if j<i then sC b (o+j*8) (As (ps.getD j [])<|ws.getD j 0) else aK b (o+j*8) zS)::L)->
  Dd 10 13 [] Q [pv,z,JM p,I B,I i] h:=by
 intro r
 induction r with
 |zero=>
  intro i h f d
  obtain rfl:i=B:=FQ
  refine bW<|bF<|aab<|H _ ?_
  exact(zN (g:=fun j=>sC b (o+j*8)<|As (ps.getD j [])<|ws.getD j 0) (fun j F=>by rw[bD2 F]) d.qS).qS
 |succ r U=>
  intro i h E d
  have f:i<B:=FQ
  have⟨pp,hpp,_⟩:=sR (l:=ps) (i:=i) FQ
  have⟨v,hvi,_⟩:=sR (l:=k) (i:=i) FQ
  have⟨w,hwi,_⟩:=sR (l:=ws) (i:=i) FQ
  have P:=O pp<|kt hpp
  have d:=(d.bE<|fH B fun j=>if j<i then sC b (o+j*8) (As (ps.getD j [])<|ws.getD j 0) else aK b (o+j*8) zS).pI i f
  simp only[EO,dx] at d
  refine bW<|bF<|aae<|bW<|aC<|aA<|ai p d rfl<|fK f ?_
  apply C1 (E6 (e:=3) FW K d) (x:=[v]) (by simp[hvi]) rfl
  refine aQy (by rw[G0];omega) (by exact uf _) (Rb (D i v pp hvi hpp) d) fun q t h d=>?_
  rw[G0,aFu] at d
  rw[G0]
  refine aC<|aA<|ax (b:=b) (o:=o+i*8) d fun h d=>?_
  apply C1 (zB S d) (x:=[I w]) (by simp[Lg,hwi]) rfl
  refine aC<|aA<|aA<|ax (b:=b) (o:=o+i*8) d fun h d=>?_
  have d:=d.sg (b:=b) (o:=o+i*8) (c:=(⟨fun _=>0,0,w,false,pp⟩:aQ).core++[.slice q pp.length t]) rfl
  refine Nf (s:=⟨fun _=>0,0,w,false,pp⟩) (a:=q) (c:=t) FQ (d.dC (aK b (o+i*8)<|(⟨fun _=>0,0,w,false,pp⟩:aQ).core++[.slice q pp.length t])<|eC 4 55 q t (pp.length,C7 pp)) fun h d=>aad ?_
  apply U (i+1) h FQ
  have d:=Kz (b:=b) (o:=o+i*8) (s:=(⟨fun _=>0,0,w,false,pp⟩:aQ).jA 0) d
  have e:(⟨fun _=>0,0,w,false,pp⟩:aQ).jA 0=As (ps.getD i []) (ws.getD i 0):=by
   rw[aP,aP,hpp,hwi];rfl
  rw[e] at d
  have A:sC b (o+i*8) (As (ps.getD i [])<|ws.getD i 0)=(fun j=>if j<i+1 then sC b (o+j*8) (As (ps.getD j [])<|ws.getD j 0) else aK b (o+j*8) zS) i:=by simp[CN,eD]
  rw[A] at d
  have d:=d.tG (n:=B) (i:=i) (fun j=>if j<i then sC b (o+j*8) (As (ps.getD j [])<|ws.getD j 0) else aK b (o+j*8) zS) (fun j=>if j<i+1 then sC b (o+j*8) (As (ps.getD j [])<|ws.getD j 0) else aK b (o+j*8) zS) f (fun j _ J=>by
   have:(j<i+1)=(j<i):=propext ⟨fun h=>FQ,fun h=>FQ⟩;simp[this])
  exact d.to
def An:∀{ps:List (IW)},Av ps=0->∀p∈ps,(rI p).2=0
 |[],_,p,a=>by simp at a
 |q::l,h,p,a=>by
  rw[Av] at h;split at h;rename_i b;exact absurd h b;rcases e6.1 a with rfl|a;omega;exact An h p a
def Cw {p:IW} (h:(rI p).2=0):p.length<=32:=by
 rw[rI] at h;split at h;cases h;omega
def aLa {C:bQ} {J:Value} {ws:FK} (F:ps.length<=1000000/\ws.length<1000000/\os.length<1000000) (E:Ob G 0 iM) (S:Ob G 1 vV) (V:Zy G pv J ov vv ps ws os vs) (d:Hs G h L)
  (j:Bf C ps ws os vs≠0->∀f,Hs G f L->Q (.tuple ⟨[.pointer none,I<|Bf C ps ws os vs]⟩) f)
  (w:Bf C ps ws os vs=0->∀p f,Hs G f (Wg G p (Ql C ps ws os vs)::L)->Q (.tuple ⟨[JM p,I 0]⟩) f):JL 10 [.agg ⟨C.enc⟩,pv,J,ov,vv] h Q:=by
 obtain⟨⟨vi,H,u,z⟩,v,t,A⟩:=V
 have lp:∀{k:Value->Prop},k (I ps.length)->cC (rB pv) k:=fun s=>sY u (by simpa [H] using s)
 have lw:∀{k:Value->Prop},k (I ws.length)->cC (rB J) k:=fun s=>sY v (by simpa [Ac] using s)
 have Y:∀{k:Value->Prop},k (I os.length)->cC (rB ov) k:=fun s=>sY t (by simpa [Ac] using s)
 have O:∀{k:Value->Prop},k (I vs.length)->cC (rB vv) k:=fun s=>sY A (by simpa [Ac] using s)
 rw[Bf] at j w
 refine cW<|fB d fun q h d=>bC d FV (l:=C.enc) rfl rfl<|uG E d fun h d=>?_
 by_cases hC:C.Ok
 rotate_left
 .rw[bD2 hC] at j;rw[bD1 hC];exact bZ<|aae<|j FQ _ d.tail
 rw[bD1<|by simpa using hC] at j w
 rw[bD2 hC]
 have U:=bQ.fF hC
 have D:=bQ.bk hC
 have R:C.aB<=4/\1<=C.aB:=⟨hC.1.2,hC.1.1⟩
 have T:=hC.2.1.2
 have bad:((ps.length:Int)≠C.aB\/(ws.length:Int)≠C.aB\/(os.length:Int)≠C.aM\/vs.length≠C.aF*2)->∀f,Hs G f (aK q 0 C.enc::L)->Q (.tuple ⟨[.pointer none,I 1]⟩) f:=fun D f d=>by
  rw[bD2 D] at j;exact j FQ _ d.tail
 refine bZ<|aab<|bW<|lp<|aA<|ai q d rfl<|bZ<|bG (fun g=>bad (.inl g) _ d) fun g1=>lw<|aA<|ai q d rfl<|bZ<|bG (fun g=>bad (.inr<|.inl g) _ d) fun g2=>Y<|aA<|ai q d rfl<|bZ<|bG (fun g=>bad (.inr<|.inr<|.inl g) _ d) fun g3=>O<|am q d (l:=C.enc) rfl rfl<|iu hC E d fun h d=>bZ<|bG (fun g=>bad (.inr<|.inr<|.inr FQ) _ d) fun g4=>?_
 clear bad
 rw[aaa] at j w
 refine bW<|lp<|xr (C:=C) H u z S F.1 (fun e h d=>?_) (fun e h d=>?_) ps.length 0 h FQ rfl d
 .rw[bD2 e] at j;exact j e _ d.tail
 rw[bD1 IH] at j w
 have r:¬(yT 0 3 ws=true/\yT 0 4 os=true)->∀f,Hs G f (aK q 0 C.enc::L)->Q (.tuple ⟨[.pointer none,I 10]⟩) f:=fun D f d=>by
  rw[bD2 D] at j;exact j FQ _ d.tail
 refine bW<|Nz (l:=ws) F.2.1 (zB v d) fun h d=>cZ<|fR<|dX (fun g1=>?_) fun g1=>r (by simp[g1]) _ d.tail
 refine Nz (l:=os) F.2.2 (zB t d.tail) fun h d=>cZ<|fR<|dX (fun g2=>?_) fun g2=>r (by simp[g2]) _ d.tail
 clear r
 rw[bD1<|by simp[g1,g2]] at j w
 have d:=d.tail
 refine bW<|am q d (l:=C.enc) rfl rfl<|X7 hC E d fun x h d=>aN rfl<|aN rfl<|bZ<|aab<|bW<|O ?_
 refine vr (L:=aK q 0 C.enc::L) hC A E FQ (fun h d=>?_) vs.length 0 uB h FQ rfl d
 refine bW<|bI d fun Z h d=>am q d (l:=C.enc) rfl rfl<|aA<|ai q d rfl<|Y6 FQ FQ FQ ?_
 dsimp only
 refine oR d rfl rfl ?_ rfl ?_ ?_
 .rw[kZ,xS (W:=8) fun _=>rfl]
 .rw[kZ];exact zZ (fun _=>rfl) _
 intro a h d
 obtain⟨b,o,P,d⟩:=Hs.Uo (W:=8) rfl FQ d
 cases P
 refine aP8 (by rw[Ac];omega) (by rw[W5];exact vk _) (zB t d) fun y c2 h d=>?_
 rw[Ac,W5] at d
 rw[Ac]
 refine aZ (c:=C.enc++[.slice (some ⟨b,o,none⟩) C.aB.toNat C.aB.toNat,.slice y os.length c2,JM x]) rfl<|Gw d rfl rfl fun p h d=>?_
 refine dT (am q d (l:=C.enc) rfl rfl<|xL<|by simp[bQ.enc,lG])<|dT (aA eG)<|dT (ai q d rfl lG)<|dT eG<|aC<|aA<|ai p d rfl<|dB ?_
 have d:=d.dC (qi p C (.slice (some ⟨b,o,none⟩) C.aB.toNat C.aB.toNat) y os.length c2 x)<|fH C.aB.toNat fun i=>aK b (o+i*8) zS
 refine xw (B:=C.aB.toNat) (b:=b) (o:=o) (C:=C) (ps:=ps) (ws:=ws) FQ FQ FQ (fun p X=>Cw<|An e p X) H u z v ?_ C.aB.toNat 0 h FQ HY
 intro h d
 apply w rfl p _
 have d:=H5 (b:=b) (o:=o) (cap:=C.aB.toNat) (a:=y) (c:=c2) (mb:=x) (m:=Ql C ps ws os vs)<|(d.rL (qi p C (.slice (some ⟨b,o,none⟩) C.aB.toNat C.aB.toNat) y os.length c2 x) (eC 1 3 y c2 (os.length,os.map I)) (gK G C.aF x C<|tY uB vs 0)<|gQ G 8 99 (some ⟨b,o,none⟩) C.aB.toNat C.aB.toNat b o).aTg<|fH C.aB.toNat fun i=>sC b (o+i*8)<|As (ps.getD i [])<|ws.getD i 0
 exact d.to
end Go.Proofs.Z.A
namespace Go.Proofs.Z
open Go.Hm Go.At Go.Mc Go.Ct Go.Nt Go.Is
variable {Cf:bQ} {a2:FM} {p5:Nat} {ps:List (IW)}
section
def Bw (C:bQ) (pv a ov vv:Value):FJ:=C.enc++[pv,a,ov,vv]
def iq (ps:List (IW)) (ws:FK) (i:Nat):aQ:=As (ps.getD i [])<|ws.getD i 0
variable {G:Bg} {h:AH} {N:Nat} {M:bU}
def mkE (C:bQ) (a1 a2 a3:FM) (n a c2 c3:Nat):FJ:=C.enc++[.slice a1 n a,.slice a2 n c2,.slice a3 n c3,.pointer none,.pointer none,.pointer none,.slice none 0 0]
def fe {c2:Nat} {k:Value×AH->Prop} {N:IU} (hb:l.length<=100) (b:Hs G h L) [p:dZ (ls pE 1 e a c) L l L'] [m2:fZ (eC 1 e a2 c2 (1,[JM q])) L' N]
  (o:∀d f j,Hs G j (ls pE 1 e d f (l++[q])::N)->k (.slice d (l.length+1) f,j)):cC (nJ 1 8 e h (.slice a l.length c)<|.slice a2 1 c2) k:=by
 have b:=p.of b
 have g:Hs G h (eC 1 e a2 c2 (1,[JM q])::ls pE 1 e a c l::N):=(b.cI<|m2.cI.cons _).qS
 have i:=(sG (enc:=pE) (x:=q) g).qS
 have:=qV (enc:=pE) (e:=e) (l:=l) (l2:=[q]) (a:=a) (c:=c) (a2:=a2) (c2:=c2) (bytes:=8) (k:=k) i FX fun d f h b=>by
  have:=o d f h b.qS.tail;rw[dd,AA];exact this
 exact this
def Vj {X:Value} {ws:FK} (hC:Cf.Ok) (hG:Gb G) (hg:Ob G 1 vV) (α:ps.length=Cf.aB.toNat) (β:ws.length=Cf.aB.toNat) (V:∀w∈ws,0<=w/\w<=3) (S:∀p∈ps,(rI p).2=0)
  (hv:J.length=ps.length) (ho:zE G 1 pv (J.map fun x=>[x]).length fun i=>(J.map fun x=>[x]).getD i []) (hi:∀(i:Nat) (v:Value) (p:IW),J[i]?=some v->ps[i]?=some p->A.Y8 G v p) (hw:A.Qh G X ws)
  (hk:∀lc lk lq a1 a2 a3 g c2 c3 Y,lc.length=Cf.aB.toNat->lk.length=Cf.aB.toNat->lq.length=Cf.aB.toNat->Hs G Y (aK p5 0 (mkE Cf a1 a2 a3 Cf.aB.toNat g c2 c3)::ptc a1 g lc::r6 a2 c2 lk::rz a3 c3 lq::uZ yP lc (iq ps ws)::uZ (uO G Cf) lk (fun _=>jR.kT)::uZ (uL Cf) lq (fun _=>Ov)::aK p2 0 (Bw Cf pv X ov vv)::L)->Dd 15 4 [] Q [JM p2,JM p5] Y):
  ∀(f i:Nat) (lc lk lq:FL) (a1 a2 a3:FM) (g c2 c3:Nat) (h:AH),i+f=Cf.aB.toNat->lc.length=i->lk.length=i->lq.length=i->Hs G h (aK p5 0 (mkE Cf a1 a2 a3 i g c2 c3)::ptc a1 g lc::r6 a2 c2 lk::rz a3 c3 lq::uZ yP lc (iq ps ws)::uZ (uO G Cf) lk (fun _=>jR.kT)::uZ (uL Cf) lq (fun _=>Ov)::aK p2 0 (Bw Cf pv X ov vv)::L)->
  Dd 15 2 [] Q [JM p2,JM p5,I Cf.aB,I i] h:=by
 have hc:=hC.1
 intro f
 induction f with
 |zero=>
  intro i lc lk lq a1 a2 a3 g c2 c3 h O K z D d
  obtain rfl:i=Cf.aB.toNat:=FQ
  exact bW (bF<|aab<|hk _ _ _ _ _ _ _ _ _ _ K z D d)
 |succ f ih=>
  intro i lc lk lq a1 a2 a3 g c2 c3 h O K z D d
  obtain⟨p,P,_⟩:=qM (l:=ps) (i:=i) FQ
  obtain⟨v,E,_⟩:=qM (l:=J) (i:=i) FQ
  obtain⟨w,B,_⟩:=qM (l:=ws) (i:=i) FQ
  have U:=V w<|kt B
  have T:=S p<|kt P
  have eS:iq ps ws i=As p w:=by unfold iq;rw[aP,aP,P,B];rfl
  refine bW<|bF<|aae<|bW<|bI d fun rr h d=>aA<|ai p2 d rfl ?_
  have d:=A.zB hw d
  refine C1 d (x:=[I w]) (by simp[A.Lg,B]) rfl ?_
  have d:=d.tail
  refine aA<|ai p2 d rfl ?_
  have d:=E6 (e:=3) FW ho d
  refine C1 d (x:=[v]) (by simp[E]) rfl ?_
  have d:=A.Rb (hi i v p E P) d.tail
  refine aBy (i:=i) (pr:=p) (w:=w) FQ U hg T d fun F h d=>aN rfl<|aN rfl<|bZ<|aab<|bW ?_
  rw[<-eS] at d
  refine aA<|nD (b:=p2) (o:=0) d FV (l:=Cf.enc) rfl rfl ?_
  refine C.dq (C:=Cf) (core:=(i:Int)) hC FQ hG.Nq d fun q2 h d=>aN rfl<|aN rfl<|bZ<|aab<|bW ?_
  refine aA<|aA<|ai p2 d rfl<|aA<|aA<|ai p2 d rfl ?_
  refine aF4 (C:=Cf) hC d fun H h d=>aN rfl<|aN rfl<|bZ<|aab<|bW ?_
  subst K
  refine aC<|aA<|ai p5 d rfl<|aZ (c:=[JM F]) rfl<|eA (W:=1) (n:=1) (c:=1) d rfl rfl rfl fun Z h d=>?_
  refine fe (l:=lc) (a:=a1) (c:=g) (e:=121) (q:=F) (a2:=some Z) (c2:=1) FQ d fun j t h d=>aC<|aA<|ax (b:=p5) (o:=0) d fun h d=>?_
  refine aC<|aA<|ai p5 d rfl<|aZ (c:=[JM q2]) rfl<|eA (W:=1) (n:=1) (c:=1) d rfl rfl rfl fun b2 h d=>?_
  rw[<-z]
  refine fe (l:=lk) (a:=a2) (c:=c2) (e:=124) (q:=q2) (a2:=some b2) (c2:=1) FQ d fun k u h d=>aC<|aA<|ax (b:=p5) (o:=0) d fun h d=>?_
  rw[z]
  refine aC<|aA<|ai p5 d rfl<|aZ (c:=[JM H]) rfl<|eA (W:=1) (n:=1) (c:=1) d rfl rfl rfl fun b3 h d=>?_
  rw[<-D]
  refine fe (l:=lq) (a:=a3) (c:=c3) (e:=127) (q:=H) (a2:=some b3) (c2:=1) FQ d fun r y h d=>aC<|aA<|ax (b:=p5) (o:=0) d fun h d=>?_
  have e5:bM (bM (bM (mkE Cf a1 a2 a3 lc.length g c2 c3) (0+7) [.slice j (lc.length+1) t]) (0+8) [.slice k (lk.length+1) u]) (0+9) [.slice r (lq.length+1) y]=mkE Cf j k r (lc.length+1) t u y:=by rw[z,D];rfl
  rw[e5] at d
  have d:=Q6 (R:=yP) (l:=lc) (q:=F) (s:=iq ps ws)<|d.dC (rA lc.length F<|iq ps ws lc.length)<|uZ yP lc<|iq ps ws
  rw[<-z] at d
  have d:=Q6 (R:=uO G Cf) (l:=lk) (q:=q2) (s:=fun _=>jR.kT)<|d.dC (C.lR G q2 Cf lk.length jR.kT)<|uZ (uO G Cf) lk fun _=>jR.kT
  have d:=Q6 (R:=uL Cf) (l:=lq) (q:=H) (s:=fun _=>Ov)<|d.dC (oY H Cf Ov)<|uZ (uL Cf) lq fun _=>Ov
  rw[z] at d
  rw[D]
  exact aad<|ih (lc.length+1) (lc++[F]) (lk++[q2]) (lq++[H]) j k r t u y h FQ FW FX FX d.to
end
section
def mkF (C:bQ) (a1 a2 a3:FM) (n a c2 c3:Nat) (x y z:Value):FJ:=C.enc++[.slice a1 n a,.slice a2 n c2,.slice a3 n c3,x,y,z,.slice none 0 0]
def S6 {a b:Int} {l:FK} (h:yT a b l=true):∀x∈l,a<=x/\x<=b:=by
 intro x c;exact c8<|ux.1 h x c
def Fa {C:bQ} {ws:FK} (h:Bf C ps ws os vs=0):C.Ok/\ps.length=C.aB.toNat/\ws.length=C.aB.toNat/\os.length=C.aM.toNat/\vs.length=C.aF*2/\Av ps=0/\(∀w∈ws,0<=w/\w<=3)/\∀o∈os,0<=o/\o<=4:=by
 rw[Bf] at h;split at h;cases h;rename_i hC;split at h;cases h;split at h;rename_i b;exact absurd h b;rename_i b;split at h;cases h;rename_i a;have a:=cb.1 a;exact⟨cb.1 hC,FQ,FQ,FQ,FQ,cb.1 b,S6 a.1,S6 a.2⟩
variable {G:Bg} {h:AH} {N:Nat} {M:bU}
def aBv {mb:Nat} {hE:FJ} {j:Value} {z:FJ} (hC:Cf.Ok) (hG:Gb G) (t:vs.length=Cf.aF*2) (q:A.Qh G vv vs) (r:z[10]?=some (JM hb)) (d:hE[0]?=some (JM mb))
  (g:∀e,Hs G e (gK G Cf.aF mb Cf (At.tY uB vs 0)::aK hb 0 hE::aK p5 0 z::aK p2 0 (Bw Cf pv j ov vv)::L)->Dd 15 11 [] Q [JM p2,JM p5] e):
  ∀(f i:Nat) (mem:Nat->Ln) (h:AH),i+f=vs.length->At.tY uB vs 0=At.tY mem (vs.drop i) i->Hs G h (gK G Cf.aF mb Cf mem::aK hb 0 hE::aK p5 0 z::aK p2 0 (Bw Cf pv j ov vv)::L)->
  Dd 15 8 [] Q [JM p2,JM p5,vv,I vs.length,I i] h:=by
 have p:=bQ.fF hC
 intro f
 induction f with
 |zero=>
  intro i mem h k c a
  rw[eo FQ,At.tY] at c
  rw[c] at g
  exact bW (bF<|aab<|g _ a)
 |succ f s=>
  intro i mem h k c a
  have⟨x,hx,hd⟩:=qM (l:=vs) (i:=i) FQ
  rw[hd,At.tY] at c
  have a:=A.zB q a
  refine bW<|bF<|aae<|bW<|C1 a (x:=[I x]) (by simp[A.Lg,hx]) rfl<|aC<|aA<|ai p5 a r<|aC<|aA<|ai hb a d ?_
  exact O8 (C:=Cf) (mb:=mb) (mem:=mem) (w:=i) (v:=x) hC hG.Nq a.tail FQ fun h a=>bZ<|aab<|bW<|aad<|s (i+1) _ h FQ c a
theorem zi {u:Value} {ws:FK} (X:ps.length<=1000000/\ws.length<1000000/\os.length<1000000) (hG:Gb G) (D:Ob G 1 vV) (E:A.Zy G pv u ov vv ps ws os vs) (a:Hs G h L)
  (Z:Bf Cf ps ws os vs≠0->∀p,Hs G p L->Q (.tuple ⟨[.pointer none,I<|Bf Cf ps ws os vs]⟩) p)
  (k2:Bf Cf ps ws os vs=0->∀m p,Hs G p (bY G Cf m (MC.kT ⟨Cf,ps,ws,os,vs⟩)::L)->Q (.tuple ⟨[JM m,I 0]⟩) p):JL 15 [.agg ⟨Bw Cf pv u ov vv⟩] h Q:=by
 refine cW<|fB a fun d h a=>aA<|nD (b:=d) (o:=0) a FV (l:=Cf.enc) rfl rfl<|aA<|ai d a rfl<|aA<|ai d a rfl<|aA<|ai d a rfl<|aA<|ai d a rfl ?_
 refine A.aLa (C:=Cf) X hG.Nq D E a (fun r h a=>aN rfl<|aN rfl<|bZ<|cS r<|Z r _ a.tail) fun r pa h a=>aN rfl<|aN rfl<|bZ<|aab ?_
 obtain⟨hC,J,e2,O,P,S,T,U⟩:=Fa r
 have a:Hs G h (aK d 0 (Bw Cf pv u ov vv)::L):=a.to
 have hc:=hC.1
 obtain⟨⟨vi,Y,y,w⟩,B,v,t⟩:=E
 refine bW<|aA<|nD (b:=d) (o:=0) a FV (l:=Cf.enc) rfl rfl<|aZ (c:=mkE Cf none none none 0 0 0 0) rfl<|fB a fun g h a=>aA<|aA<|ai d a rfl ?_
 have a:=Rw (R:=uL Cf) (s:=fun _=>Ov) a
 have a:=Rw (R:=uO G Cf) (s:=fun _=>jR.kT) a
 have a:=Rw (R:=yP) (s:=iq ps ws) a
 have a:=vC (enc:=pE) (e:=121) a
 have a:=vC (enc:=pE) (e:=124) a
 have a:=vC (enc:=pE) (e:=127) a
 refine Vj (L:=L) (ov:=ov) (vv:=vv) (Cf:=Cf) hC hG D J e2 T (A.An S) Y y w B ?_ Cf.aB.toNat 0 [] [] [] none none none 0 0 0 h FQ rfl rfl rfl a.to
 intro lc lk lq a1 j a3 k c2 c3 h l1 F l3 a
 refine bW<|aA<|nD (b:=d) (o:=0) a FV (l:=Cf.enc) rfl rfl ?_
 refine H.xv (C:=Cf) hC hG.Nq a fun f h a=>aN rfl<|aN rfl<|aC<|aA<|ax (b:=g) (o:=0) a fun h a=>bZ<|aab ?_
 have V:bM (mkE Cf a1 j a3 Cf.aB.toNat k c2 c3) (0+10) [JM f]=mkF Cf a1 j a3 Cf.aB.toNat k c2 c3 (JM f) (.pointer none) (.pointer none):=rfl
 rw[V] at a
 have⟨mb,b,o,cap,a⟩:=H.rH<|a.bE<|H.jG G f Cf<|sQ Cf.aF
 have em:(fun i=>(sQ Cf.aF i).2)=uB:=by
  funext i;unfold sQ uB;split<;>rfl
 rw[em] at a
 have a:=a.rL (gK G Cf.aF mb Cf uB) (aK f 0<|H.mH mb Cf b o cap) (aK g 0<|mkF Cf a1 j a3 Cf.aB.toNat k c2 c3 (JM f) (.pointer none)<|.pointer none)<|aK d 0<|Bw Cf pv u ov vv
 refine bW<|aA<|ai d a rfl<|av t ?_
 refine aBv (Cf:=Cf) (p2:=d) (p5:=g) (hb:=f) (mb:=mb) (hE:=H.mH mb Cf b o cap) (z:=mkF Cf a1 j a3 Cf.aB.toNat k c2 c3 (JM f) (.pointer none)<|.pointer none) hC hG P t rfl rfl ?_ vs.length 0 uB h FQ rfl a
 intro h a
 have a:=H.zP (H:=MC.aJ ⟨Cf,ps,ws,os,vs⟩) (hb:=f) (C:=Cf) (mb:=mb) (b:=b) (o:=o) (cap:=cap)<|a.rL (aK f 0<|H.mH mb Cf b o cap) (gK G Cf.aF mb Cf<|At.tY uB vs 0) (gQ G 25 240 (some ⟨b,o,none⟩) cap Cf.aF b o)<|fH Cf.aF fun i=>H.gI b (o+i*25) (sQ Cf.aF i).1
 refine bW<|aA<|aA<|ai d a rfl<|aA<|ai d a rfl ?_
 refine aCi (C:=Cf) hC v O U a fun q h a=>aN rfl<|aN rfl<|aC<|aA<|ax (b:=g) (o:=0) a fun h a=>bZ<|aab<|bW ?_
 refine aA<|nD (b:=d) (o:=0) a FV (l:=Cf.enc) rfl rfl ?_
 refine aC9 (C:=Cf) hC hG.Nq a fun fb h a=>aN rfl<|aN rfl<|aC<|aA<|ax (b:=g) (o:=0) a fun h a=>bZ<|aab<|k2 r _ _ ?_
 have a:=vC (enc:=Ev.enc) (e:=47) a
 have W:bM (bM (mkF Cf a1 j a3 Cf.aB.toNat k c2 c3 (JM f) (.pointer none)<|.pointer none) (0+11) [JM q]) (0+12) [JM fb]=gD Cf ⟨lc,lk,lq,a1,j,a3,none,k,c2,c3,0,f,q,fb⟩ 0:=by
  rw[gD];dsimp only;rw[l1,F,l3];rfl
 rw[W] at a
 have a:Hs G h (bY G Cf g (⟨iq ps ws,fun _=>jR.kT,fun _=>Ov,MC.aJ ⟨Cf,ps,ws,os,vs⟩,⟨B3 os,fun _=>none⟩,fun _ _=>[],[]⟩:bU)::L):=(cB (m:=g) (x:=⟨lc,lk,lq,a1,j,a3,none,k,c2,c3,0,f,q,fb⟩) (⟨iq ps ws,fun _=>jR.kT,fun _=>Ov,MC.aJ ⟨Cf,ps,ws,os,vs⟩,⟨B3 os,fun _=>none⟩,fun _ _=>[],[]⟩:bU) ⟨l1,F,l3⟩ a).to
 exact a
end
variable {G:Bg} {h:AH} {N:Nat} {M:bU}
def aUx {C:bQ} {r:Value} {ws:FK} (H:ps.length<=9223372036854775807) (z:A.Zy G pv r ov vv ps ws os vs) (a:Hs G h L)
  (E:ps.length<=6/\ws.length<=6/\os.length<=20/\vs.length<=80->∀g,Hs G g L->Q (.bool true) g) (q:∀g,Hs G g L->Q (.bool false) g):JL 21 [.agg ⟨Bw C pv r ov vv⟩] h Q:=by
 obtain⟨⟨F,B,j,t⟩,w,s,u⟩:=z
 have lp:∀{k:Value->Prop},k (I ps.length)->cC (rB pv) k:=fun d=>A.sY j (by simpa [B] using d)
 refine cW<|fB a fun c h a=>?_
 have loop:∀(f i:Nat) (h:AH),i+f=ps.length->Hs G h (aK c 0 (Bw C pv r ov vv)::L)->Dd 21 1 [] Q [JM c,I i] h:=by
  intro f;induction f with
  |zero=>
   intro i h y a;refine bW<|aA<|ai c a (v:=pv) rfl<|lp<|bF<|aab<|aA<|ai c a (v:=pv) rfl<|lp<|Ap<|bG (fun g1=>?_) fun g1=>q _ a.tail;refine aA<|ai c a (v:=r) rfl<|(fun d=>av w d)<|Ap<|bG (fun g2=>?_) fun g2=>q _ a.tail;refine aA<|ai c a (v:=ov) rfl<|(fun d=>av s d)<|Ap<|bG (fun g3=>?_) fun g3=>q _ a.tail;refine aA<|ai c a (v:=vv) rfl<|(fun d=>av u d)<|Ap ?_;by_cases g4:(vs.length:Int)<=80;rw[cj g4];exact E ⟨FQ,FQ,FQ,FQ⟩ _ a.tail;rw[cr g4];exact q _ a.tail
  |succ f D=>
   intro i h y a;have⟨p,hp,hd⟩:=qM (l:=ps) (i:=i) FQ;have⟨v,hvi,_⟩:=qM (l:=F) (i:=i) FQ;refine bW<|aA<|ai c a (v:=pv) rfl<|lp<|bF<|aae<|bW<|aA<|ai c a (v:=pv) rfl ?_;refine C1 (E6 (e:=3) FW j a) (x:=[v]) (by simp[hvi]) rfl<|A.sY (t i v p hvi hp)<|qA<|bG (fun _=>q _ a.tail) fun _=>bW<|aad<|D (i+1) h FQ a
 exact loop ps.length 0 h FQ a
def bU.core (Cf:bQ) (M:bU) (x:Int):FJ×Int:=if 0<=x/\x<Cf.aB then((M.aD x.toNat).core,0) else([I 0,I 0,I 0,I 0,I 0,I 0,.bool false],10)
def aGf (hC:Cf.Ok) (d:Hs G h L) [u:dZ (bY G Cf m) L M L'] (f:∀g,Hs G g (bY G Cf m M::L')->Q (.tuple ⟨[.agg ⟨(bU.core Cf M x).1⟩,I (bU.core Cf M x).2]⟩) g):JL 16 [JM m,I x] h Q:=by
 have w:=hC.1;rw[bU.core] at f;refine cW<|cT (cs:=[I 0,I 0,I 0,I 0,I 0,I 0,.bool false]) (u.of d) fun q h d=>dN<|cY<|bW ?_;have⟨y,hl,d⟩:=dH<|d.bE<|bY G Cf m M;have p:=hl.1;have bad:∀{h:AH},Hs G h (bY G Cf m M::aK q 0 [I 0,I 0,I 0,I 0,I 0,I 0,.bool false]::L')->(∀g,Hs G g (bY G Cf m M::L')->Q (.tuple ⟨[.agg ⟨[I 0,I 0,I 0,I 0,I 0,I 0,.bool false]⟩,I 10]⟩) g)->
   cC (tM [I 0,I 0,I 0,I 0,I 0,I 0,.bool false] []) fun c=>cC (Ar h 7 (JM q)<|.agg ⟨c⟩) fun h=>cC (yU h 7<|JM q) fun v=>Q (.tuple ⟨[v,I 10]⟩) h:=by
  intro h d r
  exact aZ (c:=[I 0,I 0,I 0,I 0,I 0,I 0,.bool false]) rfl<|an (b:=q) d fun h d=>am q d (l:=[I 0,I 0,I 0,I 0,I 0,I 0,.bool false]) rfl rfl<|r _ d.to
 refine bF<|bG (fun j=>?_) fun j=>?_;rw[aaa] at f;exact bad (cB (m:=m) (x:=y) M hl d).to f;refine aC<|aA<|ai m d rfl<|dB<|fV<|bG (fun k=>?_) fun k=>?_;rw[aaa] at f;exact bad (cB (m:=m) (x:=y) M hl d).to f;rw[aac] at f;obtain⟨i,rfl⟩:=ay (show 0<=x by omega);have e:i<y.lc.length:=FQ
 refine aC<|aA<|ai m d rfl<|Kg d e ?_;have d:=jH (R:=yP) (l:=y.lc) (s:=M.aD) e d;have⟨a,c,d⟩:=vL d;refine aC<|aA<|nD (b:=y.lc.getD i 0) (o:=0) d FV (l:=(M.aD i).core) rfl rfl<|an (b:=q) d fun h d=>am q d (l:=(M.aD i).core) rfl rfl<|f _ ?_;have d:=qE (y.lc.getD i 0) i (M.aD i) (a:=a) (c:=c) (d.dC (aK (y.lc.getD i 0) 0<|qI i (M.aD i) a c)<|dv a c (M.aD i).prog) rfl rfl;have d:=Lv (l:=y.lc) (s:=M.aD) (i:=i) (t:=M.aD i) e d;rw[cK] at d;exact(cB (m:=m) (x:=y) M hl d).to
def aN0 (a:Hs G h L) [e:dZ (bY G Cf m) L M L'] (d:∀c,Hs G c (bY G Cf m M::L')->Q (I M.eF.length) c):JL 19 [JM m] h Q:=by
 have⟨y,hl,a⟩:=dH<|e.of a;exact cW<|dN<|cY<|aC<|aA<|ai m a rfl<|dB<|d _ (cB (m:=m) (x:=y) M hl a).to
def veR (q:Nat) (a:FM) (c:Nat) (l:JG):HP:=sp [aK q 0 [.slice a l.length c],Ij a c l]
def bAg {l:JG} (hb:l.length<=100000):Yds Pr K G 138 [] [JM q] (veR q a c l) (l.map fun n=>[.agg ⟨n.enc⟩]):=by
 intro k J y L h Q d z s t;have d:=d.A7;have g:∀{h:AH} {M:IU},Hs G h (aK q 0 [.slice a l.length c]::Ij a c l::M)->Hs G h (veR q a c l::M):=fun d=>d.F6;refine cW<|ai q d rfl<|dB ?_;have loop:∀(f i:Nat) (h:AH),i+f=l.length->Hs G h (aK q 0 [.slice a l.length c]::Ij a c l::k ((l.drop i).map fun n=>[.agg ⟨n.enc⟩])::L)->Dd 138 1 [] Q [y,.slice a l.length c,I l.length,I i] h:=by
  intro f;induction f with
  |zero=>
   intro i h u d;rw[eo FQ] at d;exact bW (bF<|aab<|s _ _<|g d)
  |succ f A=>
   intro i h u d;have⟨x,hx,hd⟩:=qM (l:=l) (i:=i) FQ;rw[hd,k7] at d;refine bW<|bF<|aae<|bW<|yX (l:=l) (a:=a) (c:=c) (enc:=Ev.enc) (e:=47) d FV FQ HO<|cT d fun p h d=>an (b:=p) d fun h d=>am p d (l:=x.enc) rfl rfl ?_;refine(z _ _ h _<|d.bE<|k ([.agg ⟨x.enc⟩]::((l.drop<|i+1).map fun n=>[.agg ⟨n.enc⟩]))).mono fun v r w=>?_;rcases w with⟨rfl,j⟩|⟨rfl,j⟩;exact cZ<|cY<|bW<|aad<|A (i+1) r FQ j.to;exact cZ<|gA<|t _ _<|g j.to
 exact loop l.length 0 h FQ (by rwa [ll])
end Go.Proofs.Z
end
namespace Go.Proofs.Z
open Go.Hm Go.At Go.Mc Go.Ct Go.Nt Go.Is
variable {ps:List (IW)}
def aF0 {C:bQ} {ws:FK} (h:Bf C ps ws os vs=0):∀i:Nat,(i:Int)<C.aB->(iq ps ws i).Ok:=by
 obtain⟨hC,f,e2,g,j,b,k,l⟩:=Fa h;intro i o;have d:ps.getD i []∈ps:=by rw[aP,b0 FQ];exact AE _
 have a:=A.An b _ d;have c:=A.Cw a;refine⟨show(0:Int)<=0 by decide,show(0:Int)<=32 by decide,rfl,c,fun x e=>?_⟩;unfold rI at a;rw[aaa] at a;exact tu _ _ a x e
def aO8 {C:bQ} {ws:FK} (h:Bf C ps ws os vs=0):cX C 0 (MC.kT ⟨C,ps,ws,os,vs⟩):=by
 obtain⟨hC,s,e2,a,t,u,v,b⟩:=Fa h;refine⟨⟨?_,?_,fun g r p=>by cases p⟩,aF0 h,fun i d=>ik,fun i d=>⟨?_,?_⟩,fun l f=>?_,⟨fun c w=>?_,fun c w n j=>by cases j⟩,bb 0⟩;show(os.map fun o=>(⟨o,false⟩:mV)).length=_;rw[k6];exact a;intro x q;obtain⟨o,k,rfl⟩:=gk.1 q;exact b o k;show((0:Nat):Int)<=C.mU;have:1<=C.mU:=by unfold bQ.Ok at hC;omega
 omega;show(0:Int)<=0/\(0:Int)<C.aM;have:=hC.2.1.1;omega;have e:((MC.kT ⟨C,ps,ws,os,vs⟩).aJ l).1=Ep:=by
  show(sQ C.aF l).1=Ep;unfold sQ;rw[bD2 f]
 rw[e];exact⟨aRd l,og _⟩;show((0:Nat):Int)<=C.eR;have:1<=C.eR:=hC.2.2.2.2.1.1;omega
def zh {C:bQ} {ws:FK} (h:Bf C ps ws os vs=0):Mc.db C (iq ps ws) 0 (MC.kT ⟨C,ps,ws,os,vs⟩):=
 ⟨aO8 h,⟨(fun g c a=>by cases a),(fun g b c a=>by cases a)⟩,fun i d=>rfl⟩
attribute [local irreducible] cC Br vZ yU Ar Jj rJ Ce qL dj lQ sJ wV wJ vF rB A6 Yn Wh W3 Wi Wj gf qN tZ nJ mM Dv O9 pX Vx cn E2 Cl F3 ga zF yL oI jF eX dO
variable {G:Bg} {h:AH} {Cf:bQ} {N:Nat} {M:bU}
def aEs (G:Bg) (v:Value) (l:IY):Prop:=zE G 4 v (l.map Do.enc).length fun i=>(l.map Do.enc).getD i []
def aPo {l:IY} (a:aEs G v l) (b:Hs G h L):Hs G h (Ge G 4 38 v (l.map Do.enc)::L):=E6 (by simp[Do.enc]) a b
def aT1 {l:IY} (b:aEs G v l) (a:k (I l.length)):cC (rB v) k:=A.sY b (by rw[k6];exact a)
def vn {d:Do} {a:Addr} {k:Value->AH->Prop} (hC:Cf.Ok) (hG:Gb G) (f:cX Cf N M) (i:N<=2^28) (b:Hs G h (eC 4 38 (some a) c (1,d.enc)::bY G Cf m M::L))
  (g:∀e,Hs G e (bY G Cf m (M.mC Cf d).1::L)->k (.tuple ⟨[I (M.Au Cf [d] 0).2.1,I (M.Au Cf [d] 0).2.2]⟩) e):JL 7 [JM m,.slice (some a) 1 c] h k:=by
 have b:=aLe (l:=[d].map Do.enc) (n:=1) (cs:=d.enc) (by simp[Do.enc]) rfl FW b
 refine aVc (l:=[d]) (v:= .slice (some a) 1 c) hC hG f FX b fun h b=>g h ?_
 rw[aKq] at b
 exact b.tail
end Go.Proofs.Z
