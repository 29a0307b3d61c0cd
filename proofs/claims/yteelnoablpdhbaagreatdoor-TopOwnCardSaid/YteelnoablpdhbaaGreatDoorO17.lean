/- A part of the proof. -/
import Derived.Test.YteelnoablpdhbaaGreatDoorO16
import Derived.Test.YteelnoablpdhbaaGreatDoorO15
import Derived.Test.YteelnoablpdhbaaGreatDoorO9
import Derived.Test.YteelnoablpdhbaaGreatDoorO14
set_option linter.all false
set_option maxRecDepth 100000
open Go Go.Ab
variable {l:EM} {g x:Int} {L L' N:HL} {Q:Value->AH->Prop} {b c hb i m o p2 p3 q:Nat} {k:Value->Prop} {a:EN} {w:Bool} {cs:EK} {f:Nat->EN×Nat} {ov pv v vv:Value} {e:TypeId} {os vs:EL}
section
attribute [local irreducible] bQ Br sA vD vT F4 pC yQ nJ Uh iZ pV tD sH rQ pG vX Sn Rx R8 Rz R0 Xm mQ qJ kH jX Ao Jw nA Qv Ub B0 Cl Cx Xf xZ uP mK gY dD cQ
namespace Go.Proofs.Z
open Go.Hm Go.At Go.Mc Go.Ct
def aA6 {l done:List (Int×Int)} {y:Int×Int} (b:done++[y]<+:l) (a:∀z∈done,z.1≠g) (c:y.1=g):fS l g=some y.2:=by
 obtain⟨r,rfl⟩:=b;rw[fS,dx,List.find?_append,yg.2 Fe];simp[c]
def pz {l:List (Int×Int)} (a:∀z∈l,z.1≠g):fS l g=none:=by
 rw[fS,yg.2 Fe];rfl
variable {G:Bg} {h:AH} {Cf:bT} {M:cN}
abbrev knX (G:Bg) (Cf:bT) (m:Nat) (M:cN) (p2 a:Nat) (g v:Int) (e:Nat->Value) (d l:Nat) (st:LoopState×Option Code) (pr:Prop):HP:=
 sp [xG pr,iI Pr 169 (iM 218) 25 e d l st,sp [aG p2 0 [I g],aG a 0 [I v]],bO G Cf m M]
def vY {s:Nat->lX} {t:lX} (a:i<l.length) (b:Hs G h L) [k:eR (mV (l.getD i 0) Cf t) L L'] [c:eR (Fs (rV Cf) l s i) L' N]:Hs G h (qF (rV Cf) l (bJ s i t)::N):=Az a<|b.bZ (mV (l.getD i 0) Cf t)<|Fs (rV Cf) l s i
theorem bV {α:Type} {s:Nat->α}:bJ s i (s i)=s:=by
 funext j;rw[bJ];split;rename_i e;rw[e];rfl
def wy (F:(i:Int)<Cf.aE) (hb:(M.aU i).cC.length<=100) (a:Hs G h L) [E:dH (bO G Cf m) L M L'] (k:∀w,Hs G w (bO G Cf m M::L')->Q (I<|M.cC i g) w):ID 169 [IE m,I i,I g] h Q:=by
 rw[cN.cC] at k;refine cW<|dY (E.of a) fun f h a=>bX a fun c h a=>an (b:=c) a fun h a=>?_;obtain⟨x,A,a⟩:=cY<|a.aN<|bO G Cf m M;have j:i<x.lq.length:=by have:=A.2.2;omega
 refine aB<|aA<|ai m a rfl<|Hf a j ?_;have a:=gC (R:=rV Cf) (l:=x.lq) (s:=M.aU) j a;refine Um (C:=Cf) (p:=x.lq.getD i 0) (s:=M.aU i) hb a fun q h a=>?_;have a:=vY (Cf:=Cf) (l:=x.lq) (s:=M.aU) (i:=i) (t:=M.aU i) j a;rw[bV] at a;have a:=bP (m:=m) (x:=x) M A a;refine jM a fun d h a=>?_;intro e D;refine kY a fun l h a=>pX rfl ?_;have a:Hs G h (Gp q (M.aU i).cC::knX G Cf m M f c g 0 e d l (.ready,none) (∀z∈([]:List (Int×Int)),z.1≠g)::mk d ()::L'):=by
  have a:=(a.bZ (aG f 0 [I g])<|aG c 0 [I 0]).Bc;have a:=a.cT (iI Pr 169 (iM 218) 25 e d l (.ready,none)) (sp [aG f 0 [I g],aG c 0 [I 0]])<|bO G Cf m M;have a:=Hs.Jv<|Hs.Xg (p:=∀z∈([]:List (Int×Int)),z.1≠g) EV a;exact a.to
 refine(sf (q:=q) (l:=(M.aU i).cC) ER).C2
  (X:=fun done=>knX G Cf m M f c g 0 e d l (.ready,none) (∀z∈done,z.1≠g)) (Z:=fun done y=>knX G Cf m M f c g y.2 e d l (.done,some<|.exit 0)<|fS (M.aU i).cC g=some y.2) a ?_ ?_ ?_
 .intro done y h N B a;have⟨hd,a⟩:=iU a;have a:=a.B9;have a:=(a.aN<|sp [aG f 0 [I g],aG c 0 [I 0]]).yO;refine rW (qC a) D<|gD a fun h a=>ai f a rfl<|bM<|bC (fun u=>?_) fun u=>?_;refine an (b:=c) a fun h a=>iE a fun h a=> .inr ⟨rfl,?_⟩;exact(Hs.Jv<|Hs.Xg (p:=fS (M.aU i).cC g=some y.2) (aA6 B hd u)<|((a.bZ (aG f 0 [I g])<|aG c 0 [I y.2]).Bc).cT (iI Pr 169 (iM 218) 25 e d l (.done,some<|.exit 0)) (sp [aG f 0 [I g],aG c 0 [I y.2]])<|bO G Cf m M).to
  .refine iE a fun h a=> .inl ⟨rfl,?_⟩;refine(Hs.Jv<|Hs.Xg (p:=∀z∈done++[y],z.1≠g) ?_<|((a.bZ (aG f 0 [I g])<|aG c 0 [I 0]).Bc).cT (iI Pr 169 (iM 218) 25 e d l (.ready,none)) (sp [aG f 0 [I g],aG c 0 [I 0]])<|bO G Cf m M).to;intro z r;rcases cL.1 r with r|r;exact hd z r;rwa [c7.1 r]
 intro v h a;have⟨hd,a⟩:=iU<|a.aN<|knX G Cf m M f c g 0 e d l (.ready,none) (∀z∈(M.aU i).cC,z.1≠g);have a:=a.B9;rw[pz hd] at k;have a:=(a.aN<|sp [aG f 0 [I g],aG c 0 [I 0]]).yO;exact kU a fun h a=>kW<|ai c a rfl<|mH a fun h a=>kS<|k _ a.to
 .intro done y v h B a;have⟨hd,a⟩:=iU<|a.aN<|knX G Cf m M f c g y.2 e d l (.done,some<|.exit 0)<|fS (M.aU i).cC g=some y.2;have a:=a.B9;rw[hd] at k;have a:=(a.aN<|sp [aG f 0 [I g],aG c 0 [I y.2]]).yO;exact Hl a fun h a=>Kk rfl<|ai c a rfl<|mH a fun h a=>kS<|k _ a.to
end Go.Proofs.Z
namespace Go.Proofs.Z
open Go.Hm Go.At Go.Mc Go.Ct Go.Nt Go.Is
variable {Cf:bT} {M:cN}
section
instance:Fx aI.enc 9:=inferInstance
structure Gb (G:Bg):Prop where
 Gj:Ob G 0 fO
 kin:Ob G 3 Bp
 U0:Ob G 6 mL
variable {G:Bg} {h:AH}
def Ik {α:Type} {R:Nat->Nat->α->HP} {s:Nat->α} {t:α} (a:i<l.length) (b:Hs G h L) [k:eR (R i q t) L L'] [c:eR (Fs R l s i) L' N]:Hs G h (qF R (l.set i q) (bJ s i t)::N):=aC6 a<|b.bZ (R i q t)<|Fs R l s i
def Jh {F:fI} {l:HM} (h:(fI.mR Cf F l).2≠0):(fI.mR Cf F l).1=F:=by
 rw[fI.mR] at h ⊢;split;rfl;rename_i a;rw[aXf a] at h;cases hp:fI.xP Cf.eT F l with
 |none=>rfl
 |some b=>rw[hp] at h;exact absurd rfl h
def aDn (hC:Cf.Ok) (hG:Gb G) (z:(i:Int)<Cf.aE) (hb:(M.aU i).cC.length<=100) (w:gq Cf M.bN) (d:Hs G h L) [y:dH (bO G Cf m) L M L'] (k:∀v,Hs G v (bO G Cf m (M.Er Cf i g).1::L')->Q (I (M.Er Cf i g).2) v):ID 168 [IE m,I i,I g] h Q:=by
 unfold cN.Er at k;have⟨x,hl,d⟩:=cY<|y.of d;have j:i<x.lq.length:=GI
 refine cW<|aB<|aA<|ai m d rfl<|Hf d j ?_;have d:=gC (R:=rV Cf) (l:=x.lq) (s:=M.aU) j d;refine G1 (C:=Cf) (p:=x.lq.getD i 0) (s:=M.aU i) hb d fun q h d=>?_;refine dm (C:=Cf) (p:=q) (s:=M.aU i) hC hb d fun h d=>aH rfl<|aH rfl<|bK<|bC (fun u=>?_) fun u=>?_;rw[aXg u] at k;have d:=vY (Cf:=Cf) (l:=x.lq) (s:=M.aU) (i:=i) (t:=M.aU i) j d;rw[bV] at d;exact k _ (bP (m:=m) (x:=x) M hl d).to;rw[aXf u] at k;refine bW<|aB<|aA<|ai m d rfl<|aM (c:=(fH 6 i ((M.aU i).fX Cf g).2.1).enc) rfl<|aM (c:=(fH 6 i ((M.aU i).fX Cf g).2.1).enc) rfl<|dC (W:=9) (n:=1) (c:=1) d rfl rfl rfl fun a h d=>?_;have d:=nH (enc:=aI.enc) (x:=fH 6 i ((M.aU i).fX Cf g).2.1) d;refine zJ (C:=Cf) (f:=x.fb) (F:=M.bN) (l:=[fH 6 i ((M.aU i).fX Cf g).2.1]) (a:=some a) (c:=1) hC (w.O7 hC) EV hG.kin hG.Gj d fun h d=>bK<|bC (fun r=>?_) fun r=>?_;rw[aXg r] at k;rw[Jh r] at d;have d:=vY (Cf:=Cf) (l:=x.lq) (s:=M.aU) (i:=i) (t:=M.aU i) j d;rw[bV] at d;exact k _ (bP (m:=m) (x:=x) M hl d).to;rw[aXf r] at k;refine bW<|aB<|aA<|ai m d rfl<|Xb d j fun h d=>k _ ?_;have d:=Ik (R:=rV Cf) (l:=x.lq) (s:=M.aU) (i:=i) (q:=q) (t:=((M.aU i).fX Cf g).1) j d;have e:fD Cf x M.jW.length=fD Cf {x with lq:=x.lq.set i q} M.jW.length:=GP
 rw[e] at d;exact(bP (m:=m) (x:={x with lq:=x.lq.set i q}) ((M.dU (fI.mR Cf M.bN [fH 6 i ((M.aU i).fX Cf g).2.1]).1).Ag i ((M.aU i).fX Cf g).1) ⟨hl.1,hl.2.1,by rw[ri];exact hl.2.2⟩ d).to
end
section
variable {G:Bg} {h:AH}
def bf {S:Nat->aT} (e:i<l.length) (d:Hs G h L) [g:dH (qF wO l) L S L'] (f:k (I (S i).bG)):bQ (pV<|IE<|l.getD i 0) fun v=>bQ (iZ 0 v) fun v=>bQ (iZ 5 v) fun v=>bQ (sA h v) k:=by
 have d:=gC (R:=wO) (l:=l) (s:=S) e d;have⟨a,c,d⟩:=sY d;exact aB<|aA<|aA<|aD (b:=l.getD i 0) (o:=0) d rfl f
def Bm {s:Nat->iJ} {t:iJ} (a:i<l.length) (b:Hs G h L) [k:eR (C.jP G (l.getD i 0) Cf i t) L L'] [c:eR (Fs (rX G Cf) l s i) L' N]:Hs G h (qF (rX G Cf) l (bJ s i t)::N):=Az a<|b.bZ (C.jP G (l.getD i 0) Cf i t)<|Fs (rX G Cf) l s i
theorem aBv {bA:Int} {wr:Bool} (hC:Cf.Ok) (hG:Gb G) (A:(i:Int)<Cf.aE) (hb:kK Cf (M.aJ i)) (y:gq Cf M.bN) (d:Hs G h L) [z:dH (bO G Cf m) L M L'] (j:∀v,Hs G v (bO G Cf m (M.gM Cf i bA wr).1::L')->Q (I (M.gM Cf i bA wr).2) v):ID 171 [IE m,I i,I bA,.bool wr] h Q:=by
 unfold cN.gM at j;have k:=hb.bd (pW hC).2.2.2;have⟨x,hl,d⟩:=cY<|z.of d;have p:i<x.lc.length:=by have:=hl.1;omega
 have g:i<x.lk.length:=GJ
 refine cW<|aB<|aA<|ai m d rfl<|Gv d g ?_;have d:=gC (R:=rX G Cf) (l:=x.lk) (s:=M.aJ) g d;refine C.sc (C:=Cf) (core:=(i:Int)) (c:=x.lk.getD i 0) (s:=M.aJ i) hC k d fun q h d=>?_;refine aB<|aA<|ai m d rfl<|G4 d p<|bf (l:=x.lc) (S:=M.aC) p d ?_;refine C.W9 (C:=Cf) (core:=(i:Int)) (c:=q) (s:=M.aJ i) hC k hG.Gj hG.U0 d fun a c h d=>aH rfl<|aH rfl<|bK<|bC (fun u=>?_) fun u=>?_;rw[aXg u] at j;have d:=Bm (Cf:=Cf) (l:=x.lk) (s:=M.aJ) (i:=i) (t:=M.aJ i) g d;rw[bV] at d;exact j _ (bP (m:=m) (x:=x) M hl d).to;rw[aXf u] at j;have d:Hs G h (vV a c (gM Cf i (M.aJ i) bA (M.aC i).bG wr).2.1::_):=d;refine bW<|aB<|aA<|ai m d rfl ?_;refine zJ (C:=Cf) (f:=x.fb) (F:=M.bN) (l:=(gM Cf i (M.aJ i) bA (M.aC i).bG wr).2.1) (a:=a) (c:=c) hC (y.O7 hC) (by have:=aDq (C:=Cf) (core:=(i:Int)) (s:=M.aJ i) (l:=bA) (w:=(M.aC i).bG) (wr:=wr);omega) hG.kin hG.Gj d fun h d=>bK<|bC (fun r=>?_) fun r=>?_;rw[aXg r] at j;rw[Jh r] at d;have d:=Bm (Cf:=Cf) (l:=x.lk) (s:=M.aJ) (i:=i) (t:=M.aJ i) g d;rw[bV] at d;exact j _ (bP (m:=m) (x:=x) M hl d).to;rw[aXf r] at j;refine bW<|aB<|aA<|ai m d rfl<|vx d g fun h d=>j _ ?_;have d:=Ik (R:=rX G Cf) (l:=x.lk) (s:=M.aJ) (i:=i) (q:=q) (t:=(gM Cf i (M.aJ i) bA (M.aC i).bG wr).1) g d;have e:fD Cf x M.jW.length=fD Cf {x with lk:=x.lk.set i q} M.jW.length:=GP
 rw[e] at d;exact(bP (m:=m) (x:={x with lk:=x.lk.set i q}) ((M.dU (fI.mR Cf M.bN (gM Cf i (M.aJ i) bA (M.aC i).bG wr).2.1).1).rT i (gM Cf i (M.aJ i) bA (M.aC i).bG wr).1) ⟨hl.1,by rw[ri];exact hl.2.1,hl.2.2⟩ d).to
end
def lr:(List.range<|i+1).map (fun i:Nat=>fH 13 i g)=(List.range i).map (fun i:Nat=>fH 13 i g)++[fH 13 i g]:=by
 rw[er,k8];rfl
variable {G:Bg} {h:AH}
theorem aH3 {a:Mc.Yc} (hC:Cf.Ok) (hG:Gb G) (R:(i:Int)<Cf.aE) (J:jL Cf M.dS) (U:(M.aC i).Ok) (u:M.jW.length<=2^30) (O:gq Cf M.bN) (d:Hs G h L) [Y:dH (bO G Cf m) L M L'] (g:∀s,Hs G s (bO G Cf m (M.call Cf i a).1::L')->Q (I (M.call Cf i a).2) s):ID 118 [IE m,I i,.agg ⟨a.enc⟩] h Q:=by
 unfold cN.call at g;have Z:=hC.1;refine cW<|dY (Y.of d) fun B h d=>?_;obtain⟨x,A,d⟩:=cY<|d.aN<|bO G Cf m M;refine aB<|aA<|ai m d rfl<|Qm (C:=Cf) (m:=M.dS) hC J d fun q h d=>?_;have V:=d.tail;refine am B d (l:=a.enc) rfl rfl<|qm (C:=Cf) (m:=M.dS) (p:=q) hC J d fun h d=>aH rfl<|aH rfl<|bK<|bC (fun D=>?_) fun D=>?_;rw[aXg D] at g;have d:=bP (m:=m) (x:=x) M A d;exact rD (Cf:=Cf) (M:=M) R U u d fun h d=>g _ d.to;rw[aXf D] at g;generalize P:M.dS.call Cf.aE a=rc at g d;have loop:∀(f j:Nat) (h:AH) (b:EN) (c:Nat),j+f=Cf.aE.toNat->Hs G h (vV b c ((List.range j).map fun i:Nat=>fH 13 i a.cJ)::iD Cf q rc.1::aG m 0 (fD Cf x M.jW.length)::ptc x.ac x.cc x.lc::iw x.ak x.ck x.lk::gy x.aq x.cq x.lq::
   qF wO x.lc M.aC::qF (rX G Cf) x.lk M.aJ::qF (rV Cf) x.lq M.aU::H.hJ G x.hb Cf M.aK::iD Cf x.mb M.dS::pU Cf x.fb M.bN::evs x.al x.cl M.jW::aG B 0 a.enc::L')->
   Dd 118 2 [] Q [IE m,IE B,IE q,.slice b j c,I Cf.aE,I j] h:=by
  intro f
  induction f with
  |zero=>
   intro j h b c S d
   have E:j=Cf.aE.toNat:=ER
   have r:((List.range j).map fun i:Nat=>fH 13 i a.cJ)=br Cf.aE a.cJ:=by rw[E];rfl
   rw[r] at d
   have t:(br Cf.aE a.cJ).length=j:=by rw[<-r];simp
   refine bW<|aQ<|aaa<|bW<|aB<|aA<|ai m d rfl ?_
   rw[<-t]
   refine zJ (C:=Cf) (f:=x.fb) (F:=M.bN) (l:=br Cf.aE a.cJ) (a:=b) (c:=c) hC (O.O7 hC) ER hG.kin hG.Gj d fun h d=>bK<|bC (fun z=>?_) fun z=>?_
   .rw[aXg z] at g;rw[Jh z] at d;exact g _ (bP (m:=m) (x:=x) M A d).to
   .rw[aXf z] at g;refine bW<|aB<|aA<|ax (b:=m) (o:=0) d fun h d=>g _ ?_;have e:dU (fD Cf x M.jW.length) (0+11) [IE q]=fD Cf {x with mb:=q} M.jW.length:=rfl;rw[e] at d;exact(bP (m:=m) (x:={x with mb:=q}) ((M.dU (fI.mR Cf M.bN<|br Cf.aE a.cJ).1).oS rc.1) A d).to
  |succ f X=>
   intro j h b c S d
   refine bW<|aQ<|aad<|bW<|aA<|ai B d rfl<|aM (c:=(fH 13 j a.cJ).enc) rfl<|aM (c:=(fH 13 j a.cJ).enc) rfl<|dC (W:=9) (n:=1) (c:=1) d rfl rfl rfl fun w h d=>?_
   have d:=nH (enc:=aI.enc) (x:=fH 13 j a.cJ) d
   have r:((List.range j).map fun i:Nat=>fH 13 i a.cJ).length=j:=EV
   have ap:∀k:Value×AH->Prop,(∀v y s,Hs G s (vV v y ((List.range j).map (fun i:Nat=>fH 13 i a.cJ)++[fH 13 j a.cJ])::vV (some w) 1 [fH 13 j a.cJ]::_)->k (.slice v ((List.range j).map (fun i:Nat=>fH 13 i a.cJ)++[fH 13 j a.cJ]).length y,s))->bQ (kH 9 72 146 h (.slice b ((List.range j).map fun i:Nat=>fH 13 i a.cJ).length c)<|.slice (some w) [fH 13 j a.cJ].length 1) k:=fun k g=>jO (enc:=aI.enc) (e:=146) (l:=(List.range j).map fun i:Nat=>fH 13 i a.cJ) (l2:=[fH 13 j a.cJ]) (a:=b) (c:=c) (a2:=some w) (c2:=1) d EW g
   rw[r] at ap
   refine ap _ fun v y h d=>aac ?_
   rw[<-lr] at d ⊢
   have:=X (j+1) h v y ER d.to
   rwa [show((List.range<|j+1).map fun i:Nat=>fH 13 i a.cJ).length=j+1 by simp]
 have T:=A.1;refine bW<|aB<|aA<|ai m d rfl<|cE ?_;have d:Hs G h (vV none 0 ((List.range 0).map fun i:Nat=>fH 13 i a.cJ)::_):=oI (enc:=aI.enc) (e:=146) d;have e:(x.lc.length:Int)=Cf.aE:=ER
 rw[e];exact loop Cf.aE.toNat 0 h none 0 ER d.to
end Go.Proofs.Z
namespace Go.Proofs.Z
open Go.Hm Go.At Go.Mc Go.Ct Go.Nt
variable {S:Nat->HN} {Cf:bT}
section
def Kl {C:bT} {l at' a:Int} (b:0<=l/\l<C.aF) (d:0<=at'/\at'<2) (c:oD C.bL.toNat S l a w=true):sP C S l at' a w=0:=by
 unfold sP yJ;rw[c8 b,aXf EV,aab,aab,aXf<|by rw[c];simp]
theorem aLu {C:bT} {s:iJ} (e:kK C s) {l b at':Int} (c:0<=l/\l<C.aF) (d:0<=at'/\at'<2) (a:oD C.bL.toNat s.S l b w=true):oD C.bL.toNat (rR C s l at' b).S l b w=true:=by
 rw[rR,aXg<|Kl c d<|Y1 a];have f:(cI C.bL.toNat s.S l).2=0:=by
  rw[oD] at a;grind
 rw[oD] at a ⊢;rwa [eu e.bL f]
variable {G:Bg} {h:AH} {M:cN}
def aFi {a:U3} {bA at':Int} (hC:Cf.Ok) (hG:Gb G) (A:(i:Int)<Cf.aE) (hb:kK Cf (M.aJ i)) (B:(M.aC i).Ok) (p:M.jW.length<=2^30) (y:0<=bA/\bA<Cf.aF) (z:0<=at'/\at'<2) (r:oD Cf.bL.toNat (M.aJ i).S bA g a.dX=true)
  (d:Hs G h (bO G Cf m M::aG p2 0 (xT a)::L)) (k:∀q,Hs G q (bO G Cf m (M.jJ Cf i bA at' g a).1::L)->Q (I (M.jJ Cf i bA at' g a).2) q):Dd 120 6 [] Q [IE m,I i,IE p2,I bA,I at',I g] h:=by
 unfold cN.jJ at k
 have wr:∀(s:iJ) (v:Int) (h:AH),kK Cf s->oD Cf.bL.toNat s.S bA g a.dX=true->Hs G h (bO G Cf m (M.rT i s)::aG p2 0 (xT a)::L)->
   (∀q,Hs G q (bO G Cf m ((M.rT i<|if a.dX then jH Cf s bA at' g a.value else s).cM i v 0).1::L)->Q (I ((M.rT i<|if a.dX then jH Cf s bA at' g a.value else s).cM i v 0).2) q)->
   Dd 120 8 [] Q [IE m,I i,IE p2,I bA,I at',I g,I v] h:=by
  intro s v h hb r d k
  refine bW<|aA<|ai p2 d rfl<|dI (fun w=>?_) fun w=>?_
  .rw[w] at r;rw[aXg w] at k;have⟨x,hl,d⟩:=cY d;have f:i<x.lk.length:=GJ
   refine bW<|bD d fun D h d=>aB<|aA<|ai m d rfl<|Gv d f<|aA<|ai p2 d rfl ?_
   have d:=gC (R:=rX G Cf) (l:=x.lk) (s:=bJ M.aJ i s) f d
   rw[show bJ M.aJ i s i=s by rw[bJ,aXg rfl]] at d
   refine C.wx (C:=Cf) (core:=(i:Int)) (c:=x.lk.getD i 0) (s:=s) hC hb (Kl y z r) hG.Gj hG.U0 d fun h d=>bK<|aaa ?_
   have d:=Bm (Cf:=Cf) (l:=x.lk) (s:=bJ M.aJ i s) (i:=i) (t:=jH Cf s bA at' g a.value) f d
   rw[show bJ (bJ M.aJ i s) i (jH Cf s bA at' g a.value)=bJ M.aJ i (jH Cf s bA at' g a.value) by funext j;unfold bJ;split<;>rfl] at d
   have d:=bP (m:=m) (x:=x) (M.rT i<|jH Cf s bA at' g a.value) hl d
   exact rD (Cf:=Cf) (M:=M.rT i<|jH Cf s bA at' g a.value) A B p d fun h d=>k _ d.to
  .rw[aXf<|by rw[w];simp] at k;exact rD (Cf:=Cf) (M:=M.rT i s) A B p d fun h d=>k _ d.to
 refine bW<|aA<|ai p2 d rfl<|dI (fun u=>?_) fun u=>?_
 .rw[aXg u,aXg u] at k;have⟨x,hl,d⟩:=cY d;have f:i<x.lk.length:=GJ
  refine bW<|aB<|aA<|ai m d rfl<|Gv d f ?_
  have d:=gC (R:=rX G Cf) (l:=x.lk) (s:=M.aJ) f d
  refine C.aGq (C:=Cf) (core:=(i:Int)) (c:=x.lk.getD i 0) (s:=M.aJ i) hC hb (Kl y z<|Y1 r) hG.Gj hG.U0 d fun h d=>aH rfl<|aH rfl<|bK<|aaa ?_
  have d:=Bm (Cf:=Cf) (l:=x.lk) (s:=M.aJ) (i:=i) (t:=rR Cf (M.aJ i) bA at' g) f d
  have d:=bP (m:=m) (x:=x) (M.rT i<|rR Cf (M.aJ i) bA at' g) hl d
  refine wr _ _ h (Kr hb) (aLu hb y z r) d.to fun q d=>?_
  exact k _ d
 .rw[aXf<|by rw[u];simp,aXf<|by rw[u];simp] at k;refine wr (M.aJ i) 0 h hb r ?_ fun q d=>k _ d;have e:M.rT i (M.aJ i)=M:=by rw[cN.rT];rw[bV]
  rw[e]
  exact d.to
def qn {a:U3} (hC:Cf.Ok) (hG:Gb G) (r:(i:Int)<Cf.aE) (hb:kK Cf (M.aJ i)) (E:(M.aC i).Ok) (q:(M.aU i).cC.length<=100) (O:gq Cf M.bN) (f:M.jW.length<=2^30) (d:Hs G h L) [W:dH (bO G Cf m) L M L'] (e:∀J,Hs G J (bO G Cf m (M.fV Cf i a).1::L')->Q (I (M.fV Cf i a).2) J):ID 120 [IE m,I i,.agg ⟨xT a⟩] h Q:=by
 rw[cN.fV] at e;have V:=(bT.eJ hC).2.2;refine cW<|dY (cs:=xT a) (W.of d) fun F h d=>bD d fun Y h d=>?_;obtain⟨x,g,d⟩:=cY<|d.aN<|bO G Cf m M;have P:∀{h:AH} {N:HL},Hs G h (aG m 0 (fD Cf x M.jW.length)::ptc x.ac x.cc x.lc::iw x.ak x.ck x.lk::gy x.aq x.cq x.lq::
  qF wO x.lc M.aC::qF (rX G Cf) x.lk M.aJ::qF (rV Cf) x.lq M.aU::H.hJ G x.hb Cf M.aK::iD Cf x.mb M.dS::pU Cf x.fb M.bN::evs x.al x.cl M.jW::N)->Hs G h (bO G Cf m M::N):=fun d=>Bj g d
 have k:i<x.lq.length:=by have:=g.2.2;omega
 have u:i<x.lc.length:=by have:=g.1;omega
 refine aB<|aA<|lD (b:=m) (o:=0) d ET (l:=Cf.enc) rfl rfl<|aA<|ai F d rfl<|Kt (C:=Cf) hC hG.Gj d fun h d=>?_;by_cases y:0<=a.cS/\a.cS<Cf.aF*2;rotate_left;rw[aXf y];rw[aXg y] at e;have d:=bP (m:=m) (x:=x) M g d;exact aH rfl<|aH rfl<|aH rfl<|bK<|aad<|rD (Cf:=Cf) (M:=M) r E f d fun h d=>e _ d.to;rw[aXg y];rw[aXf<|by simpa using y] at e;obtain⟨w,z⟩:=cb y.1;have T:((a.cS.toNat/2:Nat):Int)=a.cS/2:=by rw[z];simp
 have U:((a.cS.toNat % 2:Nat):Int)=a.cS % 2:=by rw[z];simp
 rw[T,U];have v:0<=a.cS/2/\a.cS/2<Cf.aF:=ER
 refine aH rfl<|aH rfl<|aH rfl<|bK<|aaa<|bW<|aB<|aA<|lD (b:=m) (o:=0) d ET (l:=Cf.enc) rfl rfl<|Ma (C:=Cf) hC hG.Gj d fun h d=>?_;rw[aXg<|show Cf.fY (a.cS/2) from v];refine aH rfl<|aH rfl<|bK<|aaa<|bW<|bD d fun X h d=>aB<|aA<|ai m d rfl<|Hf d k<|aB<|aA<|ai m d rfl<|G4 d u<|bf (l:=x.lc) (S:=M.aC) u d ?_;have d:=gC (R:=rV Cf) (l:=x.lq) (s:=M.aU) k d;refine aAz (C:=Cf) (p:=x.lq.getD i 0) (s:=M.aU i) q d fun h d=>?_;have d:=vY (Cf:=Cf) (l:=x.lq) (s:=M.aU) (i:=i) (t:=M.aU i) k d;rw[bV] at d;have d:=bP (m:=m) (x:=x) M g d;dsimp only at e;refine aH rfl<|aH rfl<|bK<|bC (fun A=>?_) fun A=>?_;rw[aXg A] at e;exact e _ d.to;rw[aXf A] at e;refine bW<|bM<|bC (fun B=>?_) fun B=>?_;rw[aXg B] at e;exact aDn (Cf:=Cf) (M:=M) hC hG r q O d fun h d=>e _ d.to;rw[aXf B] at e;refine bW<|bM<|bC (fun D=>?_) fun D=>?_;rw[aXg D] at e;exact rD (Cf:=Cf) (M:=M) r E f d fun h d=>e _ d.to;rw[aXf D] at e;refine bW<|wy (Cf:=Cf) (M:=M) r q d fun h d=>bD d fun r3 h d=>?_;have⟨x,g,d⟩:=cY<|d.aN<|bO G Cf m M;have j:i<x.lk.length:=by have:=g.2.1;omega
 refine aB<|aA<|ai m d rfl<|Gv d j<|aA<|ai F d rfl ?_;have d:=gC (R:=rX G Cf) (l:=x.lk) (s:=M.aJ) j d;refine C.Wg (C:=Cf) (core:=(i:Int)) (c:=x.lk.getD i 0) (s:=M.aJ i) hC (hb.bd (pW hC).2.2.2) hG.U0 d fun h d=>?_;have d:=Bm (Cf:=Cf) (l:=x.lk) (s:=M.aJ) (i:=i) (t:=M.aJ i) j d;rw[bV] at d;have d:=bP (m:=m) (x:=x) M g d;cases hmy:oD Cf.bL.toNat (M.aJ i).S (a.cS/2) (M.cC i<|a.cS/2/2) a.dX with
 |false=>
  rw[aXg hmy] at e;exact cG (eI<|cF<|aA<|ai F d rfl<|aBv (Cf:=Cf) (M:=M) hC hG r hb O d fun h d=>e _ d.to)
 |true=>
  rw[aXf<|by rw[hmy];simp] at e;exact cG<|eI<|eV<|aFi (L:=L') (Cf:=Cf) (M:=M) hC hG r hb E f v ER hmy d.to fun h d=>e _ d.to
end
variable {G:Bg} {h:AH} {M:cN}
def W0 {S:Nat->aT} (e:i<l.length) (d:Hs G h L) [g:dH (qF wO l) L S L'] (f:k (.bool (S i).over)):bQ (pV<|IE<|l.getD i 0) fun v=>bQ (iZ 0 v) fun v=>bQ (iZ 6 v) fun v=>bQ (sA h v) k:=by
 have d:=gC (R:=wO) (l:=l) (s:=S) e d;have⟨a,c,d⟩:=sY d;exact aB<|aA<|aA<|aD (b:=l.getD i 0) (o:=0) d rfl f
def aDd {d:Do} (hC:Cf.Ok) (hG:Gb G) (J:∀i:Nat,(i:Int)<Cf.aE->aG4 Cf M i) (f:Hs G h L) [V:dH (bO G Cf m) L M L'] (g:∀O,Hs G O (bO G Cf m (M.step Cf d.a).1::L')->Q (I (M.step Cf d.a).2) O):ID 62 [IE m,.agg ⟨d.enc⟩] h Q:=by
 rw[cN.step] at g;have X:=hC.1;refine cW<|dY (cs:=d.enc) (V.of f) fun y h f=>bD f fun Z h f=>?_;obtain⟨x,f⟩:=o6<|f.aN<|bO G Cf m M;obtain⟨u,f⟩:=gT f;refine aA<|ai y f rfl<|aQ<|bC (fun P=>?_) fun P=>?_;rw[aae] at g;exact g _ (bP (m:=m) (x:=x) M u f).to;have U:=u.1;refine aA<|ai y f rfl<|aB<|aA<|ai m f rfl<|cE<|eQ<|bC (fun T=>?_) fun T=>?_;rw[aae] at g;exact g _ (bP (m:=m) (x:=x) M u f).to;rw[aab] at g;obtain⟨w,a,b,c⟩:=d;dsimp only at P T g;obtain⟨i,rfl⟩:=cb (show 0<=a by omega);rw[aP] at g;have k:i<x.lc.length:=ER
 have H:(i:Int)<Cf.aE:=ER
 have j:=J i H;refine bW<|bD f fun Y h f=>aB<|aA<|ai m f rfl<|aA<|ai y f rfl<|G4 f k<|W0 (l:=x.lc) (S:=M.aC) k f<|dI (fun E=>?_) fun E=>?_;rw[aXg E] at g;exact g _ (bP (m:=m) (x:=x) M u f).to;rw[aXf<|by rw[E];simp] at g;have f:=jR (m:=m) (x:=x) M u f;refine bW<|aA<|ai y f rfl<|S2 (x:=x) (M:=M) j.dS f fun h f=>dI (fun F=>?_) fun F=>?_;rw[aXg F] at g;exact g _ (aD4 f).to;rw[aXf<|by rw[F];simp] at g;have⟨u,f⟩:=gT<|f.aN<|jG G Cf m x M;have f:=gC (R:=wO) (l:=x.lc) (s:=M.aC) k f;refine bW<|aH5 (i:=i) (p:=x.lc.getD i 0) (s:=M.aC i) j.gP f fun h f=>?_;cases hlo:aT.lM (M.aC i) i with
 |some r=>
  rw[hlo] at f g;have f:=Ia (l:=x.lc) (s:=M.aC) (i:=i) (t:=r.1) k f;refine aH rfl<|aH rfl<|bX f fun q h f=>an (b:=q) f fun h f=>eV<|bW<|bD f fun r3 h f=>aB<|aA<|ai m f rfl<|am q f (l:=r.2.enc) rfl rfl<|aM (c:=r.2.enc) rfl ?_;refine mN (r:=r3) (i:=6) (N:=11) (D:=[]) (W:=7) f rfl rfl rfl rfl rfl fun a h f=>?_;have f:=nH (enc:=Ev.enc) (x:=r.2) f;refine uo (l:=M.jW) (v:=r.2) j.jW f fun B C h f=>aB<|aA<|ax (b:=m) (o:=0) f fun h f=>dB dP<|g _ ?_;have e:dU (fD Cf x M.jW.length) (0+13) [.slice B (M.jW++[r.2]).length C]=fD Cf {x with al:=B,cl:=C} (M.jW++[r.2]).length:=rfl;rw[e] at f;exact(bP (m:=m) (x:={x with al:=B,cl:=C}) ((M.kI i r.1).V2 r.2) u f).to
 |none=>
  rw[hlo] at f g;refine aH rfl<|aH rfl<|bX f fun q h f=>an (b:=q) f fun h f=>cF<|bW<|aP7 (i:=i) (p:=x.lc.getD i 0) (s:=M.aC i) j.gP f fun h f=>?_;cases fY:aT.Vw (M.aC i) i with
  |some r=>
   rw[fY] at g;have f:=Ia (l:=x.lc) (s:=M.aC) (i:=i) (t:=M.aC i) k f;rw[bV] at f;have f:=bP (m:=m) (x:=x) M u f;exact aH rfl (aH rfl<|bX f fun z h f=>an (b:=z) f fun h f=>eV<|aA<|ai y f rfl<|am z f (l:=r.enc) rfl rfl<|aH3 (Cf:=Cf) (M:=M) hC hG H j.dS j.gP j.jW j.bN f fun h f=>g _ f.to)
  |none=>
   rw[fY] at g;refine aH rfl<|aH rfl<|bX f fun z h f=>an (b:=z) f fun h f=>cF<|bW<|Ku (i:=i) (p:=x.lc.getD i 0) (s:=M.aC i) j.gP f fun h f=>?_;have f:=Ia (l:=x.lc) (s:=M.aC) (i:=i) (t:=M.aC i) k f;rw[bV] at f;have f:=bP (m:=m) (x:=x) M u f;cases hac:aT.iK (M.aC i) with
   |some r=>
    rw[hac] at g;exact aH rfl (aH rfl<|bX f fun A h f=>an (b:=A) f fun h f=>cG<|eI<|eV<|aA<|ai y f rfl<|am A f (l:=xT r) rfl rfl<|qn (Cf:=Cf) (M:=M) hC hG H j.Jt j.gP j.mZ j.bN j.jW f fun h f=>g _ f.to)
   |none=>
    rw[hac] at g;exact aH rfl<|aH rfl<|bX f fun A h f=>an (b:=A) f fun h f=>cG<|eI<|cF<|g _ f.to
end Go.Proofs.Z
namespace Go.Proofs.Z.H
open Go.Hm
section
variable {G:Bg} {h:AH}
def aEp {C:bT} {H:kQ} (a:Hs G h L) [m:dH (hJ G hb C) L H L'] (c:Hs G h (hJ G hb C H::L')->Q (I<|Ig C H x) h):ID 72 [IE hb,I x] h Q:=by
 have c:=c<|m.of a;have⟨mb,b,o,cap,a⟩:=nS<|m.of a;rw[Ig] at c;refine cW<|vJ a<|cG<|eI<|bC (fun d=>?_) fun d=>?_;obtain⟨l,rfl⟩:=cb d.1;have e:l<C.aF:=by have:=d.2;omega
 have⟨wa,wc,a⟩:=eH<|H3 (H:=H) (b:=b) (o:=o) e a;rw[aXg d,aP] at c;exact aB<|aA<|aD a rfl<|dR e<|aA<|aD a rfl<|cE c;rwa [aXf d] at c
def aGl (n:Nat):(fun i=>(vH n i).2)=sU:=by funext i;unfold vH sU;split<;>rfl
def Rn {C:bT} (hC:C.Ok) (j:∀d,Hs G d (hJ G hb C (vH C.aF)::L)->Q (.tuple ⟨[IE hb,I 0]⟩) d):∀(f n:Nat) (h:AH),n+f=C.aF->Hs G h (hJ G hb C (vH n)::L)->Dd 48 3 [] Q [IE hb,I C.aF,I n] h:=by
 have k:=bT.eJ hC;intro f;induction f with
 |zero=>
  intro n h l a;have:n=C.aF:=ER
  subst this;exact bW (aQ<|aaa<|j _ a)
 |succ f p=>
  intro n h l a;have c:n<C.aF:=ER
  refine bW<|aQ<|aad<|bW ?_;have⟨mb,b,o,cap,a⟩:=Im c a;have⟨wa,wc,a⟩:=eH a;refine aB<|aA<|aD a rfl<|dR c<|aA<|ax a ?_;intro h a;refine aac<|p (n+1) h ER ?_;have e:(vH n n).1={G9 with owner:=0}:=by rw[vH];rw[aab]
  have g:(vH n n).2=(0,0):=by rw[vH];rw[aab]
  rw[e] at a;have a:=fB b (o+n*25) G9 wa wc a rfl rfl rfl;have a:=fQ hb C (vH n) n G9 (0,0) (fun i=>(vH n i).2) mb b o cap c (by rw[<-g];exact gE.symm) a;rwa [zm] at a
theorem qd {C:bT} (hC:C.Ok) (e:Ob G 0 fO) (d:Hs G h L) (r:∀f j,Hs G j (hJ G f C (vH C.aF)::L)->Q (.tuple ⟨[IE f,I 0]⟩) j):ID 48 [.agg ⟨C.enc⟩] h Q:=by
 have s:=bT.eJ hC;refine cW<|dY d ?_;intro p h d;refine aX d ET (l:=C.enc) rfl rfl<|sD e d fun h d=>?_;rw[aXg hC];refine bK<|aaa<|bW<|aX d ET (l:=C.enc) rfl rfl<|T9 hC e d fun k h d=>?_;refine aH rfl<|aH rfl<|bK<|aaa<|bW<|bD d ?_;intro u h d;refine aX d ET (l:=C.enc) rfl rfl<|aX d ET (l:=C.enc) rfl rfl<|qK hC e d fun h d=>tf ER ER ?_;refine mN d rfl rfl ?_ rfl ?_ ?_;rw[jF,uR (W:=25) fun _=>rfl];rw[jF];exact xL (fun _=>rfl) _;intro a h d;obtain⟨b,o,q,d⟩:=Hs.Ql (W:=25) rfl ER d;cases q;refine aM (c:=kB k C b o C.aF) rfl<|Dj d rfl rfl ?_;intro f h d;refine dB dP (dB (aX d ET (l:=C.enc) rfl rfl<|uG<|by simp[rZ,bT.enc])<|aB<|aA<|aD d rfl<|cE ?_);apply Rn hC (r f) C.aF 0 h ER;have d:=(d.aN<|dV C.aF fun i=>aG b (o+i*25) [I 0,.bool false,.bool false,.bool false,.bool false,.slice none 0 0,.bool false,I 0,I 0,I 0,I 0,I 0,I 0,I 0,.bool false,I 0,I 0,.bool false,.bool false,.bool false,.bool false,.bool false,.bool false,I 0,I 0]);have d:=Hs.Pj (g:=fun i=>fG b (o+i*25) (vH 0 i).1) C.aF _ (fun i t h L d=>lN {G9 with owner:=0} (a:=none) (c:=0) (iY d).oN) d;rw[<-aGl 0] at d;exact(Bi C (vH 0) f k b o C.aF d).to
end
variable {G:Bg} {h:AH}
def gx (H:kQ) (i:Nat) (x:EN×Nat):EK:=(H i).1.enc x.1 x.2
def kg (H:kQ) (i:Nat) (x:EN×Nat):HP:=vV x.1 x.2 (H i).1.aY
variable {n:Nat}
def aKb {H:kQ} (d:Hs G h (dV n (fun i=>fG b (o+i*25) (H i).1)::L)):Hs G h (dV n (fun i=>xC fun x=>sp [aG b (o+i*25)<|gx H i x,kg H i x])::L):=
 Hs.Pj n L (fun i _ h L d=>by
  have⟨a,c,d⟩:=eH d;exact Hs.tG (A:=fun x:EN×Nat=>sp [aG b (o+i*25)<|gx H i x,kg H i x]) (a,c) d.Bc) d
def aKu {H:kQ} (d:Hs G h (dV n (fun i=>xC fun x=>sp [aG b (o+i*25)<|gx H i x,kg H i x])::L)):Hs G h (dV n (fun i=>fG b (o+i*25) (H i).1)::L):=
 Hs.Pj n L (fun i _ h L d=>by
  have⟨⟨a,c⟩,d⟩:=d.uI;exact lN (H i).1 (a:=a) (c:=c) d.yO) d
def zg (i:n<=100) (g:Hs G h L) [m:dH (dJ 25 244 a c) L (n,cs) L'] (f:∀b d e,Hs G e (dJ 25 244 b d (n,cs)::dJ 25 244 a c (n,cs)::L')->Q (.slice b n d) e):ID 197 [.slice a n c] h Q:=
 cW (Eu (bytes:=152) g ER f)
theorem jm {B p cap mb:Nat} {C:bT} {H:kQ} (hB:B<=32) (z:C.aF=B) (J:∀i,i<B->(H i).1.aY.length<=2^30)
  (E:∀v,Hs G v (aG p 0 (kB mb C b o cap)::dV B (fun i=>fG b (o+i*25) (H i).1)::dV B (fun i=>kg H i<|f i)::L)->Q (IE p) v):
  ∀(r i:Nat) (h:AH),i+r=B->Hs G h (aG p 0 (kB mb C b o cap)::dV B (fun j=>if j<i then fG b (o+j*25) (H j).1 else aG b (o+j*25) (gx H j<|f j))::dV B (fun i=>kg H i<|f i)::L)->
  Dd 125 2 [] Q [IE p,I B,I i] h:=by
 intro r
 induction r with
 |zero=>
  intro i h A d
  obtain rfl:i=B:=ER
  refine bW<|aQ<|aaa<|E _ ?_
  exact(wV (g:=fun j=>fG b (o+j*25) (H j).1) (fun j D=>by rw[aXg D])<|d.aN<|dV i fun j=>if j<i then fG b (o+j*25) (H j).1 else aG b (o+j*25) (gx H j<|f j)).cT (aG p 0<|kB mb C b o cap) (dV i fun j=>fG b (o+j*25) (H j).1) (dV i fun j=>kg H j<|f j)
 |succ r O=>
  intro i h A d
  have e:i<B:=ER
  have q:i<C.aF:=ER
  have K:=J i e
  refine bW<|aQ<|aad<|bW<|bD d fun P h d=>?_
  have d:=(d.aN<|dV B fun j=>if j<i then fG b (o+j*25) (H j).1 else aG b (o+j*25) (gx H j<|f j)).kE i e
  simp[Nat.lt_irrefl,c9] at d
  have d:=(d.aN<|dV B fun j=>kg H j<|f j).kE i e
  refine aB<|aA<|ai p d rfl<|aB<|aA<|ai p d rfl<|dR q<|aA<|aD (b:=b) (o:=o+i*25) d rfl ?_
  have d:Hs G h (vV (f i).1 (f i).2 (H i).1.aY::_):=d
  refine By (l:=(H i).1.aY) (a:=(f i).1) (c:=(f i).2) ER d fun s t h d=>?_
  refine dR q<|aA<|ax (b:=b) (o:=o+i*25) d fun y u=>?_
  refine dB dP<|dB (aB dP)<|dB (aA dP)<|dB (ai p d rfl Zi)<|dB jN<|aac ?_
  apply O (i+1) y ER
  have k:=lN (b:=b) (o:=o+i*25) (H i).1 (a:=s) (c:=t)<|(u.sg (b:=b) (o:=o+i*25) (c:=(H i).1.enc s t) rfl).bZ (aG b (o+i*25)<|(H i).1.enc s t)<|vV s t (H i).1.aY
  have w:fG b (o+i*25) (H i).1=(fun j=>if j<i+1 then fG b (o+j*25) (H j).1 else aG b (o+j*25) (gx H j<|f j)) i:=by simp[AS,e9]
  rw[w] at k
  have k:=k.oG (n:=B) (i:=i) (fun j=>if j<i then fG b (o+j*25) (H j).1 else aG b (o+j*25) (gx H j<|f j)) (fun j=>if j<i+1 then fG b (o+j*25) (H j).1 else aG b (o+j*25) (gx H j<|f j)) e (fun j _ F=>by
   have:(j<i+1)=(j<i):=propext ⟨fun h=>ER,fun h=>ER⟩;simp[this])
  have x:vV (f i).1 (f i).2 (H i).1.aY=(fun j=>kg H j<|f j) i:=rfl
  rw[x] at k
  exact(k.oG (n:=B) (i:=i) (fun j=>kg H j<|f j) (fun j=>kg H j<|f j) e fun _ _ _=>rfl).to
def Q0 {C:bT} {H:kQ} (hC:C.Ok) (F:yT C H (2^30)) (a:Hs G h L) [J:dH (hJ G hb C) L H L'] (I:∀p2 y,Hs G y (hJ G p2 C H::hJ G hb C H::L')->Q (IE p2) y):ID 125 [IE hb] h Q:=by
 have P:=(bT.eJ hC);have u:0<C.aF:=ER
 have⟨mb,b,o,cap,a⟩:=nS<|J.of a;refine cW<|cZ<|cF<|bW<|bD a fun R h a=>?_;have a:=aKb<|a.aN<|dV C.aF fun i=>fG b (o+i*25) (H i).1;obtain⟨f,a⟩:=Hs.vg (W:=25) (c:=gx H) (d:=kg H) (none,0) (fun _ _=>rfl) (fun _ _=>rfl) ET u<|a.bZ (dV C.aF fun i=>xC fun x=>sp [aG b (o+i*25)<|gx H i x,kg H i x])<|fJ G 25 244 (some ⟨b,o,none⟩) cap C.aF b o;refine aB<|aA<|ai hb a rfl<|A.nb hC a fun j O r=>?_;refine aB<|aA<|lD (b:=hb) (o:=0) r ET (l:=C.enc) rfl rfl<|aB<|aA<|ai hb r rfl ?_;refine zg ER r fun z s E e=>?_;obtain⟨k,q,rfl,e⟩:=Hs.je (W:=25) (c:=fun i=>gx H i<|f i) (fun _=>rfl) u<|e.aN<|dJ 25 244 z s (C.aF,(List.range C.aF).flatMap fun i=>gx H i<|f i);refine aM (c:=kB j C k q s) rfl<|Dj (i:=15) (n:=17) (D:=[]) e rfl rfl fun p v g=>?_;have t:rZ (.agg ⟨C.enc⟩) (.agg ⟨C.enc⟩)=true:=uG (by simp[bT.enc,jN]);refine dB dP<|dB dP<|dB (aB dP)<|dB (aB dP)<|dB (aA dP)<|dB (aA dP) ?_;refine dB (lD (b:=hb) (o:=0) a ET (l:=C.enc) rfl rfl t)<|dB (lD (b:=hb) (o:=0) g ET (l:=C.enc) rfl rfl t) ?_;refine dB dP<|dB (aB dP)<|dB (aA dP)<|dB (ai hb a rfl Zi) ?_;refine aB<|aA<|ai p g rfl<|cE ?_;have a:=g.cT (aG p 0<|kB j C k q s) (dV C.aF fun i=>aG k (q+i*25)<|gx H i<|f i)<|dV C.aF fun i=>kg H i<|f i;refine jm (B:=C.aF) (C:=C) (b:=k) (o:=q) (cap:=s) (mb:=j) (H:=H) (f:=f) ER rfl (fun i w=>(F i w).2) ?_ C.aF 0 v ER Fe;intro h a;apply I p _;have a:=tP<|a.jQ (aG p 0<|kB j C k q s) (eU G C.aF j C fun i=>(H i).2) (fJ G 25 244 (some ⟨k,q,none⟩) s C.aF k q)<|dV C.aF fun i=>fG k (q+i*25) (H i).1;have a:=a.bZ (dJ 25 244 (some ⟨b,o,none⟩) cap (C.aF,(List.range C.aF).flatMap fun i=>gx H i<|f i))<|dV C.aF fun i=>kg H i<|f i;have a:=Hs.aGd (W:=25) (c:=gx H) (d:=kg H) f (fun _ _=>rfl) u a;exact(tP<|(aKu a).jQ (aG hb 0<|kB mb C b o cap) (eU G C.aF mb C fun i=>(H i).2) (fJ G 25 244 (some ⟨b,o,none⟩) cap C.aF b o)<|dV C.aF fun i=>fG b (o+i*25) (H i).1).to
end Go.Proofs.Z.H
namespace Go.Proofs.Z.H
open Go.Hm Go.Mc
variable {G:Bg} {h:AH}
def aNf {α:Type} {l:List α} (h:i<l.length):∃x,l[i]?=some x/\l.drop i=x::l.drop (i+1):=⟨l[i],EV,k9 h⟩
def R4 (l:HM):Int:=((l.filter fun n=>decide<|n.kind=0).length:Int)
theorem aDf {l:HM} {n:aI} (h:l[i]?=some n):R4 (l.take<|i+1)=R4 (l.take i)+if n.kind=0 then 1 else 0:=by
 unfold R4;rw[x0,h];split<;>simp_all
def C7 {l:HM} {k:Int} (hb:l.length<=2^30) (v:0<=k/\k<=1) (u:∀p,Hs G p (vV a c l::L)->Q (I<|k+R4 l) p):
  ∀(f i:Nat) (h:AH),i+f=l.length->Hs G h (vV a c l::L)->Dd 206 4 [] Q [I<|k+R4 (l.take i),.slice a l.length c,I l.length,I i] h:=by
 intro f
 induction f with
 |zero=>
  intro i h t d
  rw[e8 ER]
  exact bW (aQ<|aaa<|u _ d)
 |succ f q=>
  intro i h t d
  have⟨n,hn,hd⟩:=aNf (l:=l) (i:=i) ER
  have s:R4 (l.take i)<=2^30/\0<=R4 (l.take i):=by
   rw[R4];have:=rk (fun n:aI=>decide<|n.kind=0)<|l.take i;have:=List.length_take_le i l;omega
  have g:=aDf hn
  refine bW<|aQ<|aad<|bW<|vS (l:=l) (a:=a) (c:=c) (enc:=aI.enc) (e:=146) d ET ER GC<|bX d fun r h d=>an (b:=r) d fun h d=>aA<|ai r d rfl<|bM<|bC (fun j=>?_) fun j=>?_
  .rw[aXg j] at g;refine bW<|aac<|aac ?_;have:=q (i+1) h ER d.to;rw[g] at this;rwa [show k+R4 (l.take i)+1=k+(R4 (l.take i)+1) by omega]
  .rw[aXf j] at g;refine bW<|aac ?_;have:=q (i+1) h ER d.to;rwa [g,Int.add_zero] at this
theorem Vg {C:bT} {H:kQ} (w:yT C H (2^30)) (d:Hs G h L) [y:dH (hJ G hb C) L H L'] (g:∀v,Hs G v (hJ G hb C H::L')->Q (I<|iL C H x) v):ID 206 [IE hb,I x] h Q:=by
 have d:=y.of d;rw[iL] at g;by_cases q:C.fY x;rotate_left;rw[aXf q] at g;have⟨mb,b,o,cap,d⟩:=nS d;refine cW<|vJ d<|cG<|eI<|aR q<|g _ (Bi C H hb mb b o cap d).to;rw[aXg q] at g;obtain⟨l,rfl⟩:=cb q.1;have s:l<C.aF:=by have:=q.2;omega
 rw[aP] at g;have⟨mb,b,o,cap,d⟩:=Im s d;have⟨a,c,d⟩:=eH d;have p:=(w l s).2;have d:=d;have f:∀{h:AH},Hs G h (vV a c (H l).1.aY::aG b (o+l*25) ((H l).1.enc a c)::aG hb 0 (kB mb C b o cap)::eU G C.aF mb C (fun i=>(H i).2)::fJ G 25 244 (some ⟨b,o,none⟩) cap C.aF b o::C1 b o C.aF H l::L')->Hs G h (hJ G hb C H::L'):=by
  intro h d;have d:=lN (H l).1 (a:=a) (c:=c) d.oN;have d:=fQ hb C H l (H l).1 (H l).2 _ mb b o cap s gE.symm d;have e:bJ H l ((H l).1,(H l).2)=H:=by funext j;rw[bJ];split<;>simp_all
  rw[e] at d;exact d
 refine cW<|vJ d<|cG<|eI<|bU q<|bW<|aB<|aA<|ai hb d rfl<|dR s<|aB<|aA<|aD (b:=b) (o:=o+l*25) d rfl<|dI (fun t=>?_) fun t=>?_;refine aB<|aA<|aA<|aD (b:=b) (o:=o+l*25) d rfl<|bM<|bC (fun u=>?_) fun u=>?_;refine bW<|aac<|aB<|aA<|aD (b:=b) (o:=o+l*25) d rfl<|cE ?_;refine C7 (a:=a) (c:=c) (l:=(H l).1.aY) (k:=1) p ER (fun h d=>?_) (H l).1.aY.length 0 h ER d.oN;have:=g h<|f d;rw[cU.Xe,aXg ⟨t,u⟩] at this;exact this;refine bW<|aB<|aA<|aD (b:=b) (o:=o+l*25) d rfl<|cE ?_;refine C7 (a:=a) (c:=c) (l:=(H l).1.aY) (k:=0) p ER (fun h d=>?_) (H l).1.aY.length 0 h ER d.oN;have:=g h<|f d;rw[cU.Xe,aXf fun r=>u r.2] at this;exact this;refine aB<|aA<|aD (b:=b) (o:=o+l*25) d rfl<|cE ?_;refine C7 (a:=a) (c:=c) (l:=(H l).1.aY) (k:=0) p ER (fun h d=>?_) (H l).1.aY.length 0 h ER d.oN;have:=g h<|f d;rw[cU.Xe,aXf fun r=>by rw[t] at r;cases r.1] at this;exact this
end Go.Proofs.Z.H
namespace Go.Proofs.Z
open Go.Hm Go.At Go.Mc Go.Ct Go.Nt
variable {Cf:bT} {M:cN}
section
def tV (C:bT) (H:kQ) (l:EM):kQ:=l.foldl (fun H (l:Nat)=>(oW C H l).1) H
def me {C:bT} {H:kQ} {k:Nat}:tV C H (l++[k])=(oW C (tV C H l) k).1:=by unfold tV;rw[DS];rfl
def mq {C:bT} {H:kQ} {N:Nat} {l:Int} (h:yT C H N):yT C (oW C H l).1 (N+1):=by
 intro k b;have⟨h1,h2⟩:=h k b;rw[oW];split;unfold bJ;dsimp only;split;rename_i e;subst e;refine⟨⟨h1.core,h1.owner,?_⟩,?_⟩;intro n a;rcases cL.1 a with a|a;exact h1.aY n a;rw[c7.1 a];show(0:Int)<=0/\(0:Int)<4;omega;show((H l.toNat).1.aY++[Hd l]).length<=N+1;rw[bj,kd];omega;exact⟨h1,ER⟩;exact⟨h1,tb h2⟩
def dc {C:bT} {N:Nat}:∀{l:EM} {H:kQ},yT C H N->yT C (tV C H l) (N+l.length):=by
 intro l;induction l generalizing N with
 |nil=>intro H h;exact h
 |cons k l a=>
  intro H h;rw[k5,show N+(l.length+1)=N+1+l.length by omega];exact a<|mq (l:=k) h
variable {G:Bg} {h:AH}
abbrev swX (G:Bg) (Cf:bT) (m p2:Nat) (M:cN) (e:Nat->Value) (d l:Nat) (done:EM):HP:=sp [iI Pr 191 (iM 14) 18 e d l (.ready,none),aG p2 0 [IE m],bO G Cf m<|M.rC<|tV Cf M.aK done]
theorem aAg {g:Nat} (hC:Cf.Ok) (hG:Gb G) (A:(g:Int)<Cf.bB) (B:yT Cf M.aK (2^30 - 4)) (a:Hs G h L) [D:dH (bO G Cf m) L M L'] (f:∀v j,Hs G j (bO G Cf m (M.rC<|Ov Cf M.aK g)::L')->Q v j):ID 191 [IE m,I g] h Q:=by
 refine cW<|dY (D.of a) fun c h a=>?_;obtain⟨x,i,a⟩:=cY<|a.aN<|bO G Cf m M;refine ai c a rfl<|aB<|aA<|lD (b:=m) (o:=0) a ET (l:=Cf.enc) rfl rfl<|Ha (C:=Cf) a fun s t h a=>?_;have a:Hs G h (bO G Cf m (M.rC<|tV Cf M.aK [])::_):=bP (m:=m) (x:=x) M i a;refine jM a fun d h a=>?_;intro e z;refine kY a fun l h a=>pX rfl ?_;have a:Hs G h (sp [aG s 0 Cf.enc,aG t 0 [I g]]::swX G Cf m c M e d l []::mk d ()::L'):=by
  have a:=(a.cT (iI Pr 191 (iM 14) 18 e d l (.ready,none)) (aG c 0 [IE m])<|bO G Cf m<|M.rC<|tV Cf M.aK []).Ry;exact a.to
 refine(K9 (C:=Cf) hC A (p:=s) (q:=t) hG.Gj).C2 (X:=fun done=>swX G Cf m c M e d l done) (Z:=fun _ _=>xG False) a ?_ ?_ ?_
 .intro done y h N r a;have a:=a.B9;have w:done.length<=1:=by have:=r.length_le;simp at this;omega
  have⟨x,i,a⟩:=cY<|a.aN<|bO G Cf m<|M.rC<|tV Cf M.aK done;refine rW (qC a) z<|gD a fun h a=>ai c a rfl<|aB<|aA<|ai m a rfl ?_;refine H.aCg (C:=Cf) (H:=tV Cf M.aK done) (fun k f=>by have:=dc (l:=done) B k f;exact⟨this.1,ER⟩) a fun h a=>iE a fun h a=> .inl ⟨rfl,?_⟩;rw[<-me] at a;exact(((bP (m:=m) (x:=x) (M.rC<|tV Cf M.aK<|done++[y]) i a).cT (iI Pr 191 (iM 14) 18 e d l (.ready,none)) (aG c 0 [IE m])<|bO G Cf m<|M.rC<|tV Cf M.aK<|done++[y]).Ry).to
 intro v h a;have a:=(a.aN<|swX G Cf m c M e d l [g*2,g*2+1]).B9;have u:tV Cf M.aK [g*2,g*2+1]=Ov Cf M.aK g:=by unfold tV Ov;simp
 rw[u] at a;exact kU a fun h a=>kW<|mH a fun h a=>kS<|f _ _ a.to
 .intro done y v h r a;exact(((a.aN<|xG False).X6).1).elim
end
variable {n:aI}
section
variable {G:Bg} {h:AH}
def aPw (G:Bg) (Cf:bT) (m:Nat) (Z:HP) (b:Value) (A B:cN):Prop:=∀(h:AH) (L:HL) (Q:Value->AH->Prop),Hs G h (Z::bO G Cf m A::L)->(∀v a,Hs G a (bO G Cf m B::L)->Q v a)->Cx Pr K b [] h Q
abbrev TK (G:Bg) (Cf:bT) (m:Nat) (M:cN) (L:HL) (Q:Value->AH->Prop) (r:cN×HM×Int):Prop:=∀v a Z b,Hs G b (H.fR v r.2.1::Z::bO G Cf m M::L)->(r.2.2=0->∀F,aPw G Cf m Z a (M.dU F)<|r.1.dU F)->Q (.tuple ⟨[v,a,I r.2.2]⟩) b
def Kx {C:bT} {H:kQ} {N a:Nat} (h:yT C H N) (c:N<=a):yT C H a:=fun k b=>⟨(h k b).1,hI (h k b).2 c⟩
def aIq (hC:Cf.Ok) (hG:Gb G) (g:Ca Cf M n) (a:Hs G h (aG p2 0 [IE m]::aG p3 0 n.enc::bO G Cf m M::L)) (d:TK G Cf m M L Q (M.rC (gJ Cf M.aK n).1,(gJ Cf M.aK n).2.1,(gJ Cf M.aK n).2.2)):Dd 123 3 [] Q [IE p2,IE p3] h:=by
 have⟨x,hl,a⟩:=cY<|a.aN<|bO G Cf m M;refine bW<|ai p2 a rfl<|aB<|aA<|ai m a rfl<|H.Q0 (C:=Cf) hC (Kx g.aK ER) a fun q h a=>bX a fun c h a=>an (b:=c) a fun h a=>ai c a rfl<|am p3 a (l:=n.enc) rfl rfl ?_;refine H.Jb (C:=Cf) (hb:=q) (H:=M.aK) (n:=n) hC hG.Gj (Kx g.aK ER) a fun v h a=>aH rfl<|aH rfl ?_;have a:=bP (m:=m) (x:=x) M hl a;have a:=(a.cT (aG c 0 [IE q]) (aG p2 0 [IE m])<|H.hJ G q Cf (gJ Cf M.aK n).1).Ry;refine d v _ (sp [aG c 0 [IE q],aG p2 0 [IE m],H.hJ G q Cf (gJ Cf M.aK n).1]) h a.to fun _ F=>?_;intro h L Q a d;have a:=a.B9;have⟨x,hl,a⟩:=cY<|a.aN<|bO G Cf m<|M.dU F;refine sR rfl<|cW (f:=178)<|ai p2 a rfl<|ai c a rfl<|aB<|aA<|ax (b:=m) (o:=0) a fun h a=>d _ _ ?_;have e:dU (fD Cf x M.jW.length) (0+10) [IE q]=fD Cf {x with hb:=q} M.jW.length:=rfl;rw[e] at a;exact(bP (m:=m) (x:={x with hb:=q}) ((M.rC (gJ Cf M.aK n).1).dU F) hl a).to
def aHu (hC:Cf.Ok) (hG:Gb G) (v:Ca Cf M n) (d:Hs G h (aG p2 0 [IE m]::aG p3 0 n.enc::bO G Cf m M::L)) (u:TK G Cf m M L Q (M.rT n.core.toNat (jU Cf n.core (M.aJ n.core.toNat) n).1,(jU Cf n.core (M.aJ n.core.toNat) n).2.1,(jU Cf n.core (M.aJ n.core.toNat) n).2.2)):Dd 123 9 [] Q [IE p2,IE p3] h:=by
 have k:=v.Jt.bd (pW hC).2.2.2;have⟨i,hi⟩:=cb v.core.1;have z:(i:Int)<Cf.aE:=by have:=v.core.2;omega
 rw[hi,aP] at u;have j:=v.Jt;rw[hi,aP] at j k;have⟨x,hl,d⟩:=cY<|d.aN<|bO G Cf m M;have g:i<x.lk.length:=GJ
 have w:n.enc[0+1]?=some (I i):=GM
 refine bW<|bD d fun y h d=>ai p2 d rfl<|aB<|aA<|ai m d rfl<|aA<|ai p3 d w<|Gv d g ?_;have d:=gC (R:=rX G Cf) (l:=x.lk) (s:=M.aJ) g d;refine C.sc (C:=Cf) (core:=(i:Int)) (c:=x.lk.getD i 0) (s:=M.aJ i) hC k d fun q h d=>lF (r:=y) (i:=9) (n:=11) (D:=[]) d rfl rfl fun p h d=>an (b:=p) d fun h d=>ai p d rfl<|am p3 d (l:=n.enc) rfl rfl ?_;refine C.Jb (C:=Cf) (core:=(i:Int)) (c:=q) (s:=M.aJ i) (n:=n) hC k j.sts hG.Gj hG.U0 d fun a c h d=>aH rfl<|aH rfl ?_;have d:=Bm (Cf:=Cf) (l:=x.lk) (s:=M.aJ) (i:=i) (t:=M.aJ i) g d;rw[bV] at d;have d:=bP (m:=m) (x:=x) M hl d;have d:=(d.jQ (aG p 0 [IE q]) (aG p2 0 [IE m]) (aG p3 0 n.enc)<|C.jP G q Cf i (jU Cf i (M.aJ i) n).1).Jv;have d:=H.J4 (l:=(jU Cf i (M.aJ i) n).2.1) rfl rfl<|d.aN<|dJ 9 146 a c ((jU Cf i (M.aJ i) n).2.1.length,gK (jU Cf i (M.aJ i) n).2.1);refine u _ _ (sp [aG p 0 [IE q],aG p2 0 [IE m],aG p3 0 n.enc,C.jP G q Cf i (jU Cf i (M.aJ i) n).1]) h d.to fun _ F=>?_;intro h L Q d u;have d:=d.xe;have⟨x,hl,d⟩:=cY<|d.aN<|bO G Cf m<|M.dU F;have g:i<x.lk.length:=GJ
 refine sR rfl<|cW (f:=181)<|bD d fun y h d=>ai p2 d rfl<|aB<|aA<|ai m d rfl<|aA<|ai p3 d w<|ai p d rfl<|vx d g fun h d=>u _ _ ?_;have d:=gC (R:=rX G Cf) (l:=x.lk) (s:=M.aJ) g d;have d:=Ik (R:=rX G Cf) (l:=x.lk) (s:=M.aJ) (i:=i) (q:=q) (t:=(jU Cf i (M.aJ i) n).1) g d;have e:fD Cf x M.jW.length=fD Cf {x with lk:=x.lk.set i q} M.jW.length:=GP
 rw[e] at d;exact(bP (m:=m) (x:={x with lk:=x.lk.set i q}) ((M.rT i (jU Cf i (M.aJ i) n).1).dU F) ⟨hl.1,by rw[ri];exact hl.2.1,hl.2.2⟩ d).to
end
variable {p6:Nat}
section
def Zu {m:gV} {c:Int} (h:(m.iC c g x).2.1=true):m.fY g:=by
 rw[gV.iC] at h;by_cases a:m.fY g;exact a;rw[aXg a] at h;cases h
variable {G:Bg} {h:AH}
def aCo {l:HM} (a:Hs G h (H.fR v l::L)):Hs G h (H.fR v l::sp []::L):=(Hs.kC (A:=[]) a).oN
def S1 {a:Addr} {x:aI} (b:Hs G h (dJ 9 146 (some a) c (1,x.enc)::L)):Hs G h (H.fR (.slice (some a) 1 c) [x]::L):=H.J4 (l:=[x]) rfl (by simp[gK]) b
def Kz (a:Hs G h L):Hs G h (H.fR (.slice none 0 0) []::L):=H.tS a
def aK4 (hC:Cf.Ok) (i:Ca Cf M n) (d:Hs G h (aG p2 0 [IE m]::aG p3 0 n.enc::bO G Cf m M::L)) (e:TK G Cf m M L Q (M,[uJ n.core (iG M.dS.eB n.no).1 n.no],(iG M.dS.eB n.no).2)):Dd 123 13 [] Q [IE p2,IE p3] h:=by
 have g:=i.dS.len;have j:=hC.2.1;have⟨x,hl,d⟩:=cY<|d.aN<|bO G Cf m M;have⟨t,b,d⟩:=lG<|d.aN<|iD Cf x.mb M.dS;refine bW<|bD d fun k h d=>ai p2 d rfl<|aB<|aA<|ai m d rfl<|aB<|aA<|aD (b:=x.mb) (o:=0) d rfl<|aA<|ai p3 d rfl<|aC9 (es:=M.dS.eB) ER i.dS.oA d fun h d=>?_;refine aH rfl<|aH rfl<|aA<|ai p3 d rfl<|aM (c:=[I (iG M.dS.eB n.no).1,I 0]) rfl<|aA<|ai p3 d rfl<|aM (c:=(uJ n.core (iG M.dS.eB n.no).1 n.no).enc) rfl<|aM (c:=(uJ n.core (iG M.dS.eB n.no).1 n.no).enc) rfl<|dC (W:=9) (n:=1) (c:=1) d rfl rfl rfl fun a h d=>?_;have d:=eF<|d.cT (aG x.mb 0 [IE t,I Cf.aE,jE b]) (jS t M.dS.eB)<|oB b<|lU M.dS.lS;have d:=bP (m:=m) (x:=x) M hl d;have d:=S1<|d.aN<|dJ 9 146 (some a) 1 (1,(uJ n.core (iG M.dS.eB n.no).1 n.no).enc);refine e _ _ (sp []) h (aCo d.to) fun _ F=>?_;intro h L Q d e;exact sR rfl<|cW (f:=183)<|e _ _ d.tail
def aBt {t:lX} (hC:Cf.Ok) (d:n.enc[0+1]?=some (I i)) (g:(i:Int)<Cf.aE) (F:fI):aPw G Cf m (sp [aG p6 0 [IE q],aG p2 0 [IE m],aG p3 0 n.enc,mV q Cf t]) (.func (.func 186) #[] #[IE p6,IE p2,IE p3]) (M.dU F) ((M.Ag i t).dU F):=by
 intro h L Q a j;have a:=a.xe;have⟨x,hl,a⟩:=cY<|a.aN<|bO G Cf m<|M.dU F;have c:i<x.lq.length:=GI
 refine sR rfl<|cW (f:=186)<|bD a fun k h a=>ai p2 a rfl<|aB<|aA<|ai m a rfl<|aA<|ai p3 a d<|ai p6 a rfl<|Xb a c fun h a=>j _ _ ?_;have a:=gC (R:=rV Cf) (l:=x.lq) (s:=M.aU) c a;have a:=Ik (R:=rV Cf) (l:=x.lq) (s:=M.aU) (i:=i) (q:=q) (t:=t) c a;have e:fD Cf x M.jW.length=fD Cf {x with lq:=x.lq.set i q} M.jW.length:=GP
 rw[e] at a;exact(bP (m:=m) (x:={x with lq:=x.lq.set i q}) ((M.Ag i t).dU F) ⟨hl.1,hl.2.1,by rw[ri];exact hl.2.2⟩ a).to
def aIk {t:lX} (hC:Cf.Ok) (d:n.enc[0+1]?=some (I i)) (g:(i:Int)<Cf.aE) (F:fI):aPw G Cf m (sp [aG p6 0 [IE q],aG p2 0 [IE m],aG p3 0 n.enc,mV q Cf t]) (.func (.func 188) #[] #[IE p6,IE p2,IE p3]) (M.dU F) ((M.Ag i t).dU F):=by
 intro h L Q a j;have a:=a.xe;have⟨x,hl,a⟩:=cY<|a.aN<|bO G Cf m<|M.dU F;have c:i<x.lq.length:=GI
 refine sR rfl<|cW (f:=188)<|bD a fun k h a=>ai p2 a rfl<|aB<|aA<|ai m a rfl<|aA<|ai p3 a d<|ai p6 a rfl<|Xb a c fun h a=>j _ _ ?_;have a:=gC (R:=rV Cf) (l:=x.lq) (s:=M.aU) c a;have a:=Ik (R:=rV Cf) (l:=x.lq) (s:=M.aU) (i:=i) (q:=q) (t:=t) c a;have e:fD Cf x M.jW.length=fD Cf {x with lq:=x.lq.set i q} M.jW.length:=GP
 rw[e] at a;exact(bP (m:=m) (x:={x with lq:=x.lq.set i q}) ((M.Ag i t).dU F) ⟨hl.1,hl.2.1,by rw[ri];exact hl.2.2⟩ a).to
def wg (hC:Cf.Ok) (y:Ca Cf M n) (E:0<=n.d0/\n.d0<=1000000) (d:Hs G h (aG p2 0 [IE m]::aG p3 0 n.enc::bO G Cf m M::L))
  (v:TK G Cf m M L Q (M.Ag n.core.toNat ((M.aU n.core.toNat).fN Cf n.no n.d0).1,if((M.aU n.core.toNat).fN Cf n.no n.d0).2.2.1 then [] else [fH 6 n.core ((M.aU n.core.toNat).fN Cf n.no n.d0).2.1],((M.aU n.core.toNat).fN Cf n.no n.d0).2.2.2)):Dd 123 16 [] Q [IE p2,IE p3] h:=by
 have⟨i,hi⟩:=cb y.core.1
 have u:(i:Int)<Cf.aE:=by have:=y.core.2;omega
 have g:=y.mZ
 have k:=y.cJ
 have w:n.enc[0+1]?=some (I i):=GM
 rw[hi,aP] at v g k
 have⟨x,hl,d⟩:=cY<|d.aN<|bO G Cf m M
 have f:i<x.lq.length:=GI
 refine bW<|bD d fun J h d=>ai p2 d rfl<|aB<|aA<|ai m d rfl<|aA<|ai p3 d w<|Hf d f ?_
 have d:=gC (R:=rV Cf) (l:=x.lq) (s:=M.aU) f d
 refine G1 (C:=Cf) (p:=x.lq.getD i 0) (s:=M.aU i) g d fun q h d=>lF (r:=J) (i:=9) (n:=11) (D:=[]) d rfl rfl fun j h d=>an (b:=j) d fun h d=>ai j d rfl<|aA<|ai p3 d rfl<|aA<|fC ET ET<|ai p3 d rfl ?_
 refine aAs (C:=Cf) (p:=q) (s:=M.aU i) hC g k E d fun h d=>aH rfl<|aH rfl<|aH rfl<|cG<|eI<|dI (fun z=>?_) fun z=>?_
 .rw[z,aXg rfl] at v;have d:=vY (Cf:=Cf) (l:=x.lq) (s:=M.aU) (i:=i) (t:=M.aU i) f d;rw[bV] at d;exact v _ _ (sp [aG j 0 [IE q],aG p2 0 [IE m],aG p3 0 n.enc,mV q Cf ((M.aU i).fN Cf n.no n.d0).1]) h (Kz (((bP (m:=m) (x:=x) M hl d).jQ (aG j 0 [IE q]) (aG p2 0 [IE m]) (aG p3 0 n.enc)<|mV q Cf ((M.aU i).fN Cf n.no n.d0).1).Jv).to) fun _ F=>aBt hC w u F
 .rw[z,aXf EV] at v;have d:=oI (enc:=aI.enc) (e:=146) d;refine bW<|aA<|ai p3 d w<|aM (c:=(fH 6 i ((M.aU i).fN Cf n.no n.d0).2.1).enc) rfl<|aM (c:=(fH 6 i ((M.aU i).fN Cf n.no n.d0).2.1).enc) rfl<|dC (W:=9) (n:=1) (c:=1) d rfl rfl rfl fun a h d=>?_;have d:=nH (enc:=aI.enc) (x:=fH 6 i ((M.aU i).fN Cf n.no n.d0).2.1) d;refine jO (enc:=aI.enc) (e:=146) (l:=[]) (l2:=[fH 6 i ((M.aU i).fN Cf n.no n.d0).2.1]) (a:=none) (c:=0) (a2:=some a) (c2:=1) d EV fun A B h d=>?_;have d:=vY (Cf:=Cf) (l:=x.lq) (s:=M.aU) (i:=i) (t:=M.aU i) f d;rw[bV] at d;have d:=bP (m:=m) (x:=x) M hl d;have d:=(d.jQ (aG j 0 [IE q]) (aG p2 0 [IE m]) (aG p3 0 n.enc)<|mV q Cf ((M.aU i).fN Cf n.no n.d0).1).Jv;exact v (.slice A [fH 6 i ((M.aU i).fN Cf n.no n.d0).2.1].length B) _ (sp [aG j 0 [IE q],aG p2 0 [IE m],aG p3 0 n.enc,mV q Cf ((M.aU i).fN Cf n.no n.d0).1]) h (H.J4 (l:=[fH 6 i ((M.aU i).fN Cf n.no n.d0).2.1]) rfl (by simp[eL,gK])<|d.aN<|ls aI.enc 9 146 A B<|[]++[fH 6 i ((M.aU i).fN Cf n.no n.d0).2.1]).to fun _ F=>aBt hC w u F
def aL7 (hC:Cf.Ok) (u:Ca Cf M n) (d:Hs G h (aG p2 0 [IE m]::aG p3 0 n.enc::bO G Cf m M::L))
  (v:TK G Cf m M L Q (M.Ag n.core.toNat ((M.aU n.core.toNat).drop Cf n.no).1,[fH 7 n.core n.no],((M.aU n.core.toNat).drop Cf n.no).2)):Dd 123 19 [] Q [IE p2,IE p3] h:=by
 have⟨i,hi⟩:=cb u.core.1
 have k:(i:Int)<Cf.aE:=by have:=u.core.2;omega
 have f:=u.mZ
 have j:n.enc[0+1]?=some (I i):=GM
 rw[hi,aP] at v f
 have⟨x,hl,d⟩:=cY<|d.aN<|bO G Cf m M
 have e:i<x.lq.length:=GI
 refine bW<|bD d fun w h d=>ai p2 d rfl<|aB<|aA<|ai m d rfl<|aA<|ai p3 d j<|Hf d e ?_
 have d:=gC (R:=rV Cf) (l:=x.lq) (s:=M.aU) e d
 refine G1 (C:=Cf) (p:=x.lq.getD i 0) (s:=M.aU i) f d fun q h d=>lF (r:=w) (i:=9) (n:=11) (D:=[]) d rfl rfl fun g h d=>an (b:=g) d fun h d=>ai g d rfl<|aA<|ai p3 d rfl ?_
 refine jn (C:=Cf) (p:=q) (s:=M.aU i) f d fun _ h d=>aH rfl<|aH rfl<|aA<|ai p3 d j<|aA<|ai p3 d rfl<|aM (c:=(fH 7 i n.no).enc) rfl<|aM (c:=(fH 7 i n.no).enc) rfl<|dC (W:=9) (n:=1) (c:=1) d rfl rfl rfl fun a h d=>?_
 have d:=vY (Cf:=Cf) (l:=x.lq) (s:=M.aU) (i:=i) (t:=M.aU i) e d
 rw[bV] at d
 have d:=bP (m:=m) (x:=x) M hl d
 exact v _ _ (sp [aG g 0 [IE q],aG p2 0 [IE m],aG p3 0 n.enc,mV q Cf ((M.aU i).drop Cf n.no).1]) h (S1<|((d.jQ (aG g 0 [IE q]) (aG p2 0 [IE m]) (aG p3 0 n.enc)<|mV q Cf ((M.aU i).drop Cf n.no).1).Jv).aN<|dJ 9 146 (some a) 1 (1,(fH 7 i n.no).enc)).to fun _ F=>aIk hC j k F
def j8 (hC:Cf.Ok) (hG:Gb G) (i:Ca Cf M n) (a:Hs G h (aG p2 0 [IE m]::aG p3 0 n.enc::bO G Cf m M::L))
  (c:TK G Cf m M L Q (if(M.dS.iC Cf.aE n.no n.core).2.1 then(M.oS (M.dS.iC Cf.aE n.no n.core).1).rC (Ov Cf M.aK n.no) else M.oS (M.dS.iC Cf.aE n.no n.core).1,[],(M.dS.iC Cf.aE n.no n.core).2.2)):Dd 123 21 [] Q [IE p2,IE p3] h:=by
 have⟨x,hl,a⟩:=cY<|a.aN<|bO G Cf m M
 refine bW<|ai p2 a rfl<|aB<|aA<|ai m a rfl<|Qm (C:=Cf) (m:=M.dS) hC i.dS a fun q h a=>bX a fun j h a=>an (b:=j) a fun h a=>ai j a rfl<|aA<|ai p3 a rfl<|aA<|ai p3 a rfl ?_
 refine R6 (C:=Cf) (m:=M.dS) (p:=q) hC i.dS a fun h a=>aH rfl<|aH rfl<|bX a fun d h a=>an (b:=d) a fun h a=>?_
 have a:=bP (m:=m) (x:=x) M hl a
 have a:=(a.bZ (aG d 0 [.bool (M.dS.iC Cf.aE n.no n.core).2.1])<|aG p3 0 n.enc).Bc
 have a:=(a.jQ (aG j 0 [IE q]) (aG p2 0 [IE m]) (sp [aG d 0 [.bool (M.dS.iC Cf.aE n.no n.core).2.1],aG p3 0 n.enc])<|iD Cf q (M.dS.iC Cf.aE n.no n.core).1).Jv
 refine c _ _ (sp [aG j 0 [IE q],aG p2 0 [IE m],sp [aG d 0 [.bool (M.dS.iC Cf.aE n.no n.core).2.1],aG p3 0 n.enc],iD Cf q (M.dS.iC Cf.aE n.no n.core).1]) h (Kz a.to) fun _ F=>?_
 intro h L Q a c
 have a:=a.xe
 have a:=(a.aN<|sp [aG d 0 [.bool (M.dS.iC Cf.aE n.no n.core).2.1],aG p3 0 n.enc]).yO
 have⟨x,hl,a⟩:=cY<|a.aN<|bO G Cf m<|M.dU F
 refine sR rfl<|cW (f:=190)<|ai p2 a rfl<|ai j a rfl<|aB<|aA<|ax (b:=m) (o:=0) a fun h a=>ai d a rfl<|dI (fun k=>?_) fun k=>?_
 .have⟨g,hg1,hg2,_⟩:=Vx i.dS hC<|Zu k;have l:=i.dS.len;rw[aXg k] at c;have e:dU (fD Cf x M.jW.length) (0+11) [IE q]=fD Cf {x with mb:=q} M.jW.length:=rfl;rw[e] at a;refine ai p2 a rfl (aA<|ai p3 a (by show some (I n.no)=_;rw[hg1]) ?_);have a:=bP (m:=m) (x:={x with mb:=q}) ((M.oS (M.dS.iC Cf.aE n.no n.core).1).dU F) hl a;rw[hg1] at c a;exact aAg (Cf:=Cf) (M:=(M.oS (M.dS.iC Cf.aE g n.core).1).dU F) hC hG ER i.aK a fun v h a=>c _ _ a.to
 .rw[aXf<|by rw[k];simp] at c;have e:dU (fD Cf x M.jW.length) (0+11) [IE q]=fD Cf {x with mb:=q} M.jW.length:=rfl;rw[e] at a;exact c _ _ (bP (m:=m) (x:={x with mb:=q}) ((M.oS (M.dS.iC Cf.aE n.no n.core).1).dU F) hl a).to
end
variable {d:Do}
section
variable {G:Bg} {h:AH}
def aEg (hC:Cf.Ok) (hG:Gb G) (f:Ca Cf M n) (c:Hs G h L) [A:dH (bO G Cf m) L M L'] (a:TK G Cf m M L' Q (M.dN Cf n)):ID 123 [IE m,.agg ⟨n.enc⟩] h Q:=by
 refine cW<|dY (A.of c) fun r h c=>dY c fun j h c=>aA<|ai j c rfl ?_;have c:Hs G h (aG r 0 [IE m]::aG j 0 n.enc::bO G Cf m M::L'):=c.to;have aK:(n.kind=1\/n.kind=2\/n.kind=3\/n.kind=4\/n.kind=5)->Dd 123 3 [] Q [IE r,IE j] h:=fun e=>by
  rw[cN.dN,aXg e] at a;exact aIq hC hG f c a
 have cache:¬(n.kind=1\/n.kind=2\/n.kind=3\/n.kind=4\/n.kind=5)->(n.kind=8\/n.kind=9\/n.kind=10\/n.kind=11)->Dd 123 9 [] Q [IE r,IE j] h:=fun y e=>by
  rw[cN.dN,aXf y,aXg e] at a;exact aHu hC hG f c a
 refine bM<|bC (fun s=>bW<|bU s<|aK ER) fun s=>bW ?_;refine bM<|bC (fun t=>bW<|bU t<|aK ER) fun t=>bW ?_;refine bM<|bC (fun u=>bW<|bU u<|aK ER) fun u=>bW ?_;refine bM<|bC (fun v=>bW<|bU v<|aK ER) fun v=>bW ?_;refine bM<|bC (fun z=>aK ER) fun z=>bW ?_;refine bM<|bC (fun w=>bW<|bU w<|cache ER ER) fun w=>bW ?_;refine bM<|bC (fun x=>bW<|bU x<|cache ER ER) fun x=>bW ?_;refine bM<|bC (fun i=>bW<|bU i<|cache ER ER) fun i=>bW ?_;refine bM<|bC (fun l=>cache ER ER) fun l=>bW ?_;rw[cN.dN,aab,aab] at a;refine bM<|bC (fun p=>?_) fun p=>bW ?_;rw[aXg p] at a;exact aK4 hC f c a;rw[aXf p] at a;refine bM<|bC (fun d=>?_) fun d=>bW ?_;rw[aXg d] at a;exact wg hC f (f.cS d) c a;rw[aXf d] at a;refine bM<|bC (fun g=>?_) fun g=>bW ?_;rw[aXg g] at a;exact aL7 hC f c a;rw[aXf g] at a;refine bM<|bC (fun q=>?_) fun q=>?_;rw[aXg q] at a;exact j8 hC hG f c a;rw[aXf q] at a;exact a _ _ (sp []) h (aCo<|Kz c.to) fun k=>absurd k (by show ¬(15:Int)=0;omega)
theorem aAx (hC:Cf.Ok):(M.dN Cf n).2.1.length<=100:=by
 rw[cN.dN];split;rw[gJ];split;simp;split;rw[rU.take];split;split<;>simp;split;split;simp;unfold rU.S6;have a:= @Uq;grind [cU.rest];simp;simp
 .split;have:=aGh (C:=Cf) (core:=n.core) (s:=M.aJ n.core.toNat) (nt:=n);dsimp only;omega
  .repeat' split
   all_goals simp
   all_goals split<;>simp
theorem Zl (hC:Cf.Ok) (hG:Gb G) (z:gq Cf M.bN) (D:∀n,(M.bN.take Cf d.a d.b d.c).2.2=0->(M.bN.take Cf d.a d.b d.c).2.1=n->Ca Cf M n) (j:gq Cf (M.bN.take Cf d.a d.b d.c).1) (g:Hs G h L) [E:dH (bO G Cf m) L M L'] (i:∀y,Hs G y (bO G Cf m (M.gH Cf d.a d.b d.c).1::L')->Q (I (M.gH Cf d.a d.b d.c).2) y):ID 63 [IE m,.agg ⟨d.enc⟩] h Q:=by
 unfold cN.gH at i;refine cW<|dY (cs:=d.enc) (E.of g) fun w h g=>?_;obtain⟨x,r,g⟩:=cY<|g.aN<|bO G Cf m M;refine aB<|aA<|ai m g rfl<|l8 (C:=Cf) (F:=M.bN) hC (z.O7 hC) g fun q h g=>?_;refine aA<|ai w g rfl<|aA<|ai w g rfl<|aA<|ai w g rfl ?_;refine ik (C:=Cf) (f:=q) (F:=M.bN) hC (z.O7 hC) g fun h g=>aH rfl<|aH rfl<|bX g fun B h g=>an (b:=B) g fun h g=>bK<|bC (fun p=>?_) fun p=>?_;rw[aXg p] at i;exact i _ (bP (m:=m) (x:=x) M r g).to;rw[aXf p] at i;have A:=D _ ER rfl;generalize M.bN.take Cf d.a d.b d.c=tt at i g p A j;have g:=bP (m:=m) (x:=x) M r g;refine bW<|am B g (l:=tt.2.1.enc) rfl rfl<|aEg (Cf:=Cf) (M:=M) (n:=tt.2.1) hC hG A g ?_;intro v J Z h g k;refine aH rfl<|aH rfl<|aH rfl<|bK<|bC (fun s=>?_) fun s=>?_;rw[aXg s] at i;exact i _ g.to;rw[aXf s] at i;obtain⟨a,c,rfl,u⟩:=H.aEc g;have g:Hs G h (vV a c (M.dN Cf tt.2.1).2.1::_):=u;apply bW;refine zJ (C:=Cf) (f:=q) (F:=tt.1) (l:=(M.dN Cf tt.2.1).2.1) (a:=a) (c:=c) hC (j.O7 hC) (aAx hC) hG.kin hG.Gj g fun h g=>bK<|bC (fun t=>?_) fun t=>?_;rw[aXg t] at i;exact i _ g.to;rw[aXf t] at i;have⟨x,r,g⟩:=cY<|g.aN<|bO G Cf m M;refine bW<|aB<|aA<|ax (b:=m) (o:=0) g fun h g=>?_;have e:dU (fD Cf x M.jW.length) (0+12) [IE q]=fD Cf {x with fb:=q} M.jW.length:=rfl;rw[e] at g;have g:=bP (m:=m) (x:={x with fb:=q}) (M.dU (tt.1.mR Cf (M.dN Cf tt.2.1).2.1).1) r g;exact k ER _ h _ _ (g.bZ Z<|bO G Cf m<|M.dU (tt.1.mR Cf (M.dN Cf tt.2.1).2.1).1) fun v h g=>i _ g.to
theorem zy (hC:Cf.Ok) (hG:Gb G) (E:jL Cf M.dS) (A:yT Cf M.aK (2^30 - 4)) (D:gq Cf M.bN) (g:Hs G h L) [J:dH (bO G Cf m) L M L'] (i:∀z,Hs G z (bO G Cf m (M.fX Cf d.a).1::L')->Q (I (M.fX Cf d.a).2) z):ID 64 [IE m,.agg ⟨d.enc⟩] h Q:=by
 unfold cN.fX at i;refine cW<|dY (cs:=d.enc) (J.of g) fun O h g=>?_;obtain⟨x,u,g⟩:=cY<|g.aN<|bO G Cf m M;refine aB<|aA<|ai m g rfl<|H.Q0 (C:=Cf) hC (Kx A ER) g fun q h g=>bD g fun P h g=>aA<|ai O g rfl ?_;refine aB<|aA<|lD (b:=m) (o:=0) g ET (l:=Cf.enc) rfl rfl<|aB<|aA<|ai m g rfl<|aM (c:=Cf.enc++[IE x.mb]) rfl ?_;have g:=g.bZ (H.hJ G q Cf M.aK)<|iD Cf x.mb M.dS;refine H.aI1 (C:=Cf) (hb:=q) (H:=M.aK) hC hG.Gj (Wx (p:=x.mb) hC E hG.Gj) A g (AB _) fun v h g=>aH rfl<|aH rfl ?_;have B:(fun w=>P4 Cf M.dS w d.a)=M.yY Cf d.a:=rfl;rw[B] at g ⊢;have t:=U9 (C:=Cf) (H:=M.aK) (l:=d.a) (j:=M.yY Cf d.a);generalize kJ Cf M.aK d.a (M.yY Cf d.a)=r at i g t ⊢;refine bK<|bC (fun s=>?_) fun s=>?_;rw[aXg s] at i;exact i _ (bP (m:=m) (x:=x) M u g).to;rw[aXf s] at i;obtain⟨a,c,rfl,y⟩:=H.aEc g;have g:Hs G h (vV a c r.2.1::_):=y;refine bW<|aB<|aA<|ai m g rfl ?_;refine zJ (C:=Cf) (f:=x.fb) (F:=M.bN) (l:=r.2.1) (a:=a) (c:=c) hC (D.O7 hC) ER hG.kin hG.Gj g fun h g=>bK<|bC (fun k=>?_) fun k=>?_;rw[aXg k] at i;rw[Jh k] at g;exact i _ (bP (m:=m) (x:=x) M u g).to;rw[aXf k] at i;refine bW<|aB<|aA<|ax (b:=m) (o:=0) g fun h g=>i _ ?_;have e:dU (fD Cf x M.jW.length) (0+10) [IE q]=fD Cf {x with hb:=q} M.jW.length:=rfl;rw[e] at g;exact(bP (m:=m) (x:={x with hb:=q}) ((M.dU (fI.mR Cf M.bN r.2.1).1).rC r.1) u g).to
abbrev sdX (G:Bg) (Cf:bT) (m p2 p3:Nat) (M:cN) (b:Bool) (e:Nat->Value) (d l:Nat) (st:LoopState×Option Code) (pr:Prop):HP:=sp [xG pr,iI Pr 127 (iM 218) 29 e d l st,sp [aG p2 0 [IE m],aG p3 0 [.bool b]],bO G Cf m M]
def Tj {g:Nat} (hC:Cf.Ok) (hG:Gb G) (O:(g:Int)<Cf.bB) (P:yT Cf M.aK (2^30)) (a:Hs G h L) [S:dH (bO G Cf m) L M L'] (j:∀u,Hs G u (bO G Cf m M::L')->Q (.bool<|M.mY Cf g) u):ID 127 [IE m,I g] h Q:=by
 refine cW<|dY (S.of a) fun f h a=>?_;obtain⟨x,r,a⟩:=cY<|a.aN<|bO G Cf m M;refine ai f a rfl<|aB<|aA<|ai m a rfl<|Rk (C:=Cf) (m:=M.dS) a fun h a=>bM<|bX a fun c h a=>an (b:=c) a fun h a=>?_;generalize F:decide (M.dS.phase g=2)=b at a;refine ai f a rfl<|aB<|aA<|lD (b:=m) (o:=0) a ET (l:=Cf.enc) rfl rfl<|Ha (C:=Cf) a fun D E h a=>?_;have a:=bP (m:=m) (x:=x) M r a;refine jM a fun d h a=>?_;intro e J;refine kY a fun l h a=>pX rfl ?_;have a:Hs G h (sp [aG D 0 Cf.enc,aG E 0 [I g]]::sdX G Cf m f c M b e d l (.ready,none) (∀l∈([]:EM),¬iL Cf M.aK l>0)::mk d ()::L'):=by
  have a:=(a.bZ (aG f 0 [IE m])<|aG c 0 [.bool b]).Bc;have a:=a.cT (iI Pr 127 (iM 218) 29 e d l (.ready,none)) (sp [aG f 0 [IE m],aG c 0 [.bool b]])<|bO G Cf m M;have a:=Hs.Jv<|Hs.Xg (p:=∀l∈([]:EM),¬iL Cf M.aK l>0) EV a;exact a.to
 refine(K9 (C:=Cf) hC O (p:=D) (q:=E) hG.Gj).C2 (X:=fun done=>sdX G Cf m f c M b e d l (.ready,none) (∀l∈done,¬iL Cf M.aK l>0)) (Z:=fun _ y=>sdX G Cf m f c M false e d l (.done,some<|.exit 0)<|iL Cf M.aK y>0/\(y=g*2\/y=g*2+1)) a ?_ ?_ ?_
 .intro done y h N B a;have⟨hd,a⟩:=iU a;have a:=a.B9;have R:y=g*2\/y=g*2+1:=by
   obtain⟨T,s⟩:=B;have:y∈[g*2,g*2+1]:=by rw[<-s];simp
   simpa using this
  have a:=(a.aN<|sp [aG f 0 [IE m],aG c 0 [.bool b]]).yO;have⟨x,r,a⟩:=cY<|a.aN<|bO G Cf m M;refine rW (qC a) J<|gD a fun h a=>ai f a rfl<|aB<|aA<|ai m a rfl<|H.Vg (C:=Cf) (H:=M.aK) P a fun h a=>?_;have a:=bP (m:=m) (x:=x) M r a;refine nU<|bC (fun t=>?_) fun t=>?_;refine an (b:=c) a fun h a=>iE a fun h a=> .inr ⟨rfl,?_⟩;exact(Hs.Jv<|Hs.Xg (p:=iL Cf M.aK y>0/\(y=g*2\/y=g*2+1)) ⟨t,R⟩<|((a.bZ (aG f 0 [IE m])<|aG c 0 [.bool false]).Bc).cT (iI Pr 127 (iM 218) 29 e d l (.done,some<|.exit 0)) (sp [aG f 0 [IE m],aG c 0 [.bool false]])<|bO G Cf m M).to
  .refine iE a fun h a=> .inl ⟨rfl,?_⟩;refine(Hs.Jv<|Hs.Xg (p:=∀l∈done++[y],¬iL Cf M.aK l>0) ?_<|((a.bZ (aG f 0 [IE m])<|aG c 0 [.bool b]).Bc).cT (iI Pr 127 (iM 218) 29 e d l (.ready,none)) (sp [aG f 0 [IE m],aG c 0 [.bool b]])<|bO G Cf m M).to;intro z i;rcases cL.1 i with i|i;exact hd z i;rwa [c7.1 i]
 intro v h a;have⟨hd,a⟩:=iU<|a.aN<|sdX G Cf m f c M b e d l (.ready,none) (∀l∈[g*2,g*2+1],¬iL Cf M.aK l>0);have a:=a.B9;have k:M.mY Cf g=b:=by
  have w:=hd (g*2) EV;have A:=hd (g*2+1) EV;rw[<-F];rw[cN.mY];simp only[Int.natCast_mul,Int.natCast_add] at w A;rw[ec (p:=iL Cf M.aK (g*2)>0) w,ec (p:=iL Cf M.aK (g*2+1)>0) A];simp
 rw[k] at j;have a:=(a.aN<|sp [aG f 0 [IE m],aG c 0 [.bool b]]).yO;exact kU a fun h a=>kW<|ai c a rfl<|mH a fun h a=>kS<|j _ a.to
 .intro done y v h B a;have⟨hd,a⟩:=iU<|a.aN<|sdX G Cf m f c M false e d l (.done,some<|.exit 0)<|iL Cf M.aK y>0/\(y=g*2\/y=g*2+1);have a:=a.B9;have k:M.mY Cf g=false:=by
   rw[cN.mY];rcases hd.2 with e|e;have:=hd.1;rw[e] at this;rw[c8 (p:=iL Cf M.aK (g*2)>0) this];simp;have:=hd.1;rw[e] at this;rw[c8 (p:=iL Cf M.aK (g*2+1)>0) this];simp
  rw[k] at j;have a:=(a.aN<|sp [aG f 0 [IE m],aG c 0 [.bool false]]).yO;exact Hl a fun h a=>Kk rfl<|ai c a rfl<|mH a fun h a=>kS<|j _ a.to
end
section
def j9 {H:kQ} {g:Nat}:Dk H g=fun i=>((H i).1,F3 (fun i=>(H i).2) g i):=by
 funext i;unfold Dk F3 bJ;by_cases a:i=g*2+1;subst a;simp;by_cases b:i=g*2;subst b;simp;rw[aab,aXf a,aXf b]
def Tw {m:gV} {u:Mc.mE} (h:(m.over g).2.1=some u):m.run g=some u/\(m.over g).2.2=0/\m.fY g:=by
 rw[gV.over] at h ⊢;by_cases a:m.fY g;rw[aXf Fe] at h ⊢;cases hr:m.run g with
 |none=>rw[hr] at h;cases h
 |some r=>
  rw[hr] at h;dsimp only at h ⊢;split at h;cases h;rename_i b;cases h;rw[aXf b];exact⟨rfl,rfl,a⟩
 rw[aXg a] at h;cases h
def Uj {m:gV} (h:(m.over g).2.1=none):(m.over g).1=m/\(m.over g).2.2≠0:=by
 rw[gV.over] at h ⊢;split;exact⟨rfl,FB⟩;rename_i a;rw[aXf a] at h;split;exact⟨rfl,FB⟩;rename_i r c;rw[c] at h;dsimp only at h;split;exact⟨rfl,FB⟩;rename_i b;rw[aXf b] at h;cases h
variable {G:Bg} {h:AH}
def iv (hC:Cf.Ok) (hG:Gb G) (J:jL Cf M.dS) (O:yT Cf M.aK (2^30)) (l:∀i:Nat,(i:Int)<Cf.aE->(M.aC i).Ok) (k:M.jW.length<=2^30) (e:Hs G h L) [P:dH (bO G Cf m) L M L'] (f:∀B,Hs G B (bO G Cf m (M.Ci Cf d.a).1::L')->Q (I (M.Ci Cf d.a).2) B):ID 65 [IE m,.agg ⟨d.enc⟩] h Q:=by
 rw[cN.Ci] at f;refine cW<|dY (cs:=d.enc) (P.of e) fun s h e=>bD e fun S h e=>?_;have⟨x,hl,e⟩:=cY<|e.aN<|bO G Cf m M;refine aA<|ai s e rfl<|aQ<|bC (fun E=>?_) fun E=>?_;rw[aae] at f;exact f _ (bP (m:=m) (x:=x) M hl e).to;refine aA<|ai s e rfl<|aB<|aA<|aA<|ai m e rfl<|eQ<|bC (fun F=>?_) fun F=>?_;rw[aae] at f;exact f _ (bP (m:=m) (x:=x) M hl e).to;rw[aab] at f;obtain⟨w,a,b,c⟩:=d;dsimp only at E F f;obtain⟨g,rfl⟩:=cb (show 0<=a by omega);have e:=bP (m:=m) (x:=x) M hl e;refine bW<|aA<|ai s e rfl<|Tj (Cf:=Cf) (M:=M) hC hG ER O e fun h e=>cG<|eI<|dI (fun t=>?_) fun t=>?_;rotate_left;rw[aXg t] at f;exact f _ e.to;rw[aXf<|by rw[t];simp] at f;have⟨x,hl,e⟩:=cY<|e.aN<|bO G Cf m M;refine bW<|bD e fun R h e=>aB<|aA<|ai m e rfl<|aA<|ai s e rfl ?_;refine nr (C:=Cf) (m:=M.dS) (p:=x.mb) hC J e fun h e=>aH rfl<|aH rfl<|lF (r:=R) (i:=10) (n:=13) (D:=[]) e rfl rfl fun q h e=>an (b:=q) e fun h e=>dB (aH rfl jN)<|bK<|bC (fun v=>?_) fun v=>?_;cases hu:(M.dS.over (g:Int)).2.1 with
 |some u=>exact absurd (Tw hu).2.1 v
 |none=>
  rw[hu] at f;rw[(Uj hu).1] at e;exact f _ (bP (m:=m) (x:=x) M hl e).to
 cases hu:(M.dS.over (g:Int)).2.1 with
 |none=>exact absurd (Uj hu).2 v
 |some u=>
 have⟨u1,_,u2⟩:=Tw hu;have⟨o1,o2,o3,o4,o5⟩:=J.run g u<|aDg u1;rw[hu] at f e;dsimp only at f;simp[ss] at e;have⟨i,hi⟩:=cb o4.1;have j:(i:Int)<Cf.aE:=ER
 have z:(zB u)[0+0+0]?=some (I i):=by show some (I u.core)=_;rw[hi]
 rw[show u.core.toNat=i by rw[hi];rfl,o2] at f;refine bW<|aA<|ai q e rfl<|dI (fun y=>?_) fun y=>?_;rw[aXg y] at f;have⟨mb,b,o,cap,e⟩:=H.nS<|e.aN<|H.hJ G x.hb Cf M.aK;refine bW (bD e fun r3 h e=>aB<|aA<|ai m e rfl<|aB<|aA<|aD (b:=x.hb) (o:=0) e rfl<|aA<|aA<|ai q e (by show some (I u.cJ)=_;rw[o2]) ?_);refine A.Zy (C:=Cf) (mb:=mb) (g:=g) (mem:=fun i=>(M.aK i).2) hC hG.Gj e ER fun _ h e=>aA<|aA<|ai q e z ?_;have e:=H.tP (H:=Dk M.aK g) (hb:=x.hb) (C:=Cf) (mb:=mb) (b:=b) (o:=o) (cap:=cap) (by rw[j9];exact e.jQ (aG x.hb 0<|H.kB mb Cf b o cap) (eU G Cf.aF mb Cf<|F3 (fun i=>(M.aK i).2) g) (fJ G 25 244 (some ⟨b,o,none⟩) cap Cf.aF b o)<|dV Cf.aF fun i=>H.fG b (o+i*25) (M.aK i).1);have e:=bP (m:=m) (x:=x) ((M.oS (M.dS.over g).1).rC<|Dk M.aK g) hl e;exact rD (Cf:=Cf) (M:=(M.oS (M.dS.over g).1).rC<|Dk M.aK g) j (l i j) k e fun h e=>f _ e.to;rw[aXf<|by rw[y];simp] at f;have e:=bP (m:=m) (x:=x) (M.oS (M.dS.over g).1) hl e;exact aA<|aA<|ai q e z<|rD (Cf:=Cf) (M:=M.oS (M.dS.over g).1) j (l i j) k e fun h e=>f _ e.to
end
def Hc:EK:=[.func (.func 62) #[] #[],.func (.func 63) #[] #[],.func (.func 64) #[] #[],.func (.func 65) #[] #[]]
variable {G:Bg} {h:AH} {N:Nat}
def aH2 (a:Hs G h L) (e:∀d,Hs G d L->Q (.agg ⟨Hc⟩) d):ID 24 [] h Q:=
 cW (bX a fun p h a=>aM (c:=Hc) rfl<|an (b:=p) a fun h a=>am p a (l:=Hc) rfl rfl<|e _ a.tail)
def aLi {f:Value} (hC:Cf.Ok) (hG:Gb G) (a:eO Cf N M) (j:N<=2^29) (o:0<=d.kR/\d.kR<=3) (k:Hc[d.kR.toNat]?=some f) (c:Hs G h L) [s:dH (bO G Cf m) L M L'] (b:∀g,Hs G g (bO G Cf m (M.sJ Cf d).1::L')->Q (I (M.sJ Cf d).2) g):Cx Pr K f [IE m,.agg ⟨d.enc⟩] h Q:=by
 rw[cN.sJ] at b;have o:d.kR=0\/d.kR=1\/d.kR=2\/d.kR=3:=ER
 have l:=a.jW;rcases o with e|e|e|e;all_goals
  rw[e] at k
  cases k
 rw[aXg e] at b;exact sR rfl<|aDd hC hG (fun i q=>a.step hC j q) c b;rw[aab,aXg e] at b;exact sR rfl (Zl hC hG a.bN.len (fun n p r=>by rw[<-r];exact a.take hC j (dz a.bN p).1) (fq a.bN).len c b);rw[aab,aab,aXg e] at b;exact sR rfl<|zy hC hG a.dS (a.aK.h ER) a.bN.len c b;rw[aab,aab,aab,aXg e] at b;exact sR rfl<|iv hC hG a.dS (a.aK.h ER) a.gP ER c b
def aH4 {l:HS} (h:l[i]?=some d):(l.map Do.enc)[i]?=some d.enc:=by rw[gi,h];rfl
def aPz {l:HS} (hC:Cf.Ok) (hG:Gb G) (s:eO Cf N M) (z:N+2*l.length<=2^29) (g:Hs G h (C4 G 4 e v (l.map Do.enc)::bO G Cf m M::L)) (j:∀r,Hs G r (C4 G 4 e v (l.map Do.enc)::bO G Cf m (M.yC Cf l 0).1::L)->Q (.tuple ⟨[I (M.yC Cf l 0).2.1,I (M.yC Cf l 0).2.2]⟩) r):ID 8 [IE m,v] h Q:=by
 have⟨a,c,hv⟩:=A3 g;rw[js] at hv;have q:∀{k:Value->Prop},k (I l.length)->bQ (pG v) k:=fun j=>by rw[hv];exact cE j
 refine cW<|cZ<|cF<|bW<|aH2 g fun h g=>bX g fun p h g=>an (b:=p) g fun h g=>q ?_;have loop:∀(f i N:Nat) (M:cN) (h:AH),i+f=l.length->eO Cf N M->N+2*f<=2^29->(∀r,Hs G r (C4 G 4 e v (l.map Do.enc)::bO G Cf m (M.yC Cf (l.drop i) i).1::L)->Q (.tuple ⟨[I (M.yC Cf (l.drop i) i).2.1,I (M.yC Cf (l.drop i) i).2.2]⟩) r)->
   Hs G h (C4 G 4 e v (l.map Do.enc)::aG p 0 Hc::bO G Cf m M::L)->Dd 8 2 [] Q [IE m,v,IE p,v,I l.length,I i] h:=by
  intro f
  induction f with
  |zero=>
   intro i N M h D s z j g
   rw[eg ER] at j
   unfold cN.yC at j
   have y:i=l.length:=ER
   subst y
   exact bW (aQ<|aaa<|q<|j _ g.to)
  |succ f E=>
   intro i N M h D s z j g
   have⟨d,hd,hdr⟩:=lR (l:=l) (i:=i) ER
   rw[hdr] at j
   unfold cN.yC at j
   refine bW<|aQ<|aad<|bW<|aJo g ET (aH4 hd)<|bX g fun u h g=>an (b:=u) g fun h g=>aA<|ai u g rfl<|aQ<|bC (fun B=>?_) fun B=>?_
   .have w:M.sJ Cf d=(M,1):=by rw[cN.sJ];rw[aab,aab,aab,aab]
    rw[w,aXg<|show(M,(1:Int)).2≠0 by omega] at j
    exact j _ g.to
   refine aA<|ai u g rfl<|nU<|bC (fun C=>?_) fun C=>?_
   .have w:M.sJ Cf d=(M,1):=by rw[cN.sJ];rw[aab,aab,aab,aab]
    rw[w,aXg<|show(M,(1:Int)).2≠0 by omega] at j
    exact j _ g.to
   have t:d.kR.toNat<4:=ER
   have A:Hc[d.kR.toNat]?=some (Hc[d.kR.toNat]'t):=aL t
   refine bW<|bD g fun F h g=>aA<|ai u g rfl<|fC ER ER<|ai p g (by simpa using A)<|am u g (l:=d.enc) rfl rfl ?_
   refine aLi hC hG s ER ER A g fun h g=>bK<|bC (fun x=>?_) fun x=>?_
   .rw[aXg x] at j;exact j _ g.to
   .rw[aXf x] at j;refine bW<|aac ?_;exact E (i+1) (N+2) _ h ER (aE9 s hC) ER j g.to
 exact loop l.length 0 N M h ER s ER (by simpa using j) g.to
end Go.Proofs.Z
namespace Go.Proofs.Z.A
open Go.Hm Go.At Go.Is
variable {G:Bg} {h:AH}
abbrev zS:EK:=[I 0,I 0,I 0,I 0,I 0,I 0,.bool false,.slice none 0 0]
variable {ps:List (HO)}
theorem qf {B p cap y mb:Nat} {C:bT} {z:Value} {k:EK} {ws:EL} (hB:B<=4) (R:ps.length=B) (T:ws.length=B) (O:∀p∈ps,p.length<=32)
  (V:k.length=ps.length) (K:wM G 1 pv (k.map fun x=>[x]).length fun i=>(k.map fun x=>[x]).getD i []) (D:∀(i:Nat) (v:Value) (p:HO),k[i]?=some v->ps[i]?=some p->R7 G v p) (S:Mz G z ws)
  (H:∀u,Hs G u (dv p C (.slice (some ⟨b,o,none⟩) B cap) a y c mb::dV B (fun i=>nV b (o+i*8)<|yB (ps.getD i [])<|ws.getD i 0)::L)->Q (.tuple ⟨[IE p,I 0]⟩) u):
  ∀(r i:Nat) (h:AH),i+r=B->Hs G h (dv p C (.slice (some ⟨b,o,none⟩) B cap) a y c mb::dV B (fun j=>if j<i then nV b (o+j*8) (yB (ps.getD j [])<|ws.getD j 0) else aG b (o+j*8) zS)::L)->
  Dd 11 13 [] Q [pv,z,IE p,I B,I i] h:=by
 intro r
 induction r with
 |zero=>
  intro i h f d
  obtain rfl:i=B:=ER
  refine bW<|aQ<|aaa<|H _ ?_
  exact(wV (g:=fun j=>nV b (o+j*8)<|yB (ps.getD j [])<|ws.getD j 0) (fun j F=>by rw[aXg F]) d.oN).oN
 |succ r U=>
  intro i h E d
  have f:i<B:=ER
  have⟨pp,hpp,_⟩:=oY (l:=ps) (i:=i) ER
  have⟨v,hvi,_⟩:=oY (l:=k) (i:=i) ER
  have⟨w,hwi,_⟩:=oY (l:=ws) (i:=i) ER
  have P:=O pp<|fm hpp
  have d:=(d.aN<|dV B fun j=>if j<i then nV b (o+j*8) (yB (ps.getD j [])<|ws.getD j 0) else aG b (o+j*8) zS).kE i f
  simp only[Nat.lt_irrefl,c9] at d
  refine bW<|aQ<|aad<|bW<|aB<|aA<|ai p d rfl<|dR f ?_
  apply tH (zV (e:=3) EV K d) (x:=[v]) GV rfl
  refine aM3 (by rw[xV];omega) (by exact jr _) (Ih (D i v pp hvi hpp) d) fun q t h d=>?_
  rw[xV,aBa] at d
  rw[xV]
  refine aB<|aA<|ax (b:=b) (o:=o+i*8) d fun h d=>?_
  apply tH (pN S d) (x:=[I w]) (by simp[Fm,hwi]) rfl
  refine aB<|aA<|aA<|ax (b:=b) (o:=o+i*8) d fun h d=>?_
  have d:=d.sg (b:=b) (o:=o+i*8) (c:=(⟨fun _=>0,0,w,false,pp⟩:aT).core++[.slice q pp.length t]) rfl
  refine Jk (s:=⟨fun _=>0,0,w,false,pp⟩) (a:=q) (c:=t) ER (d.bZ (aG b (o+i*8)<|(⟨fun _=>0,0,w,false,pp⟩:aT).core++[.slice q pp.length t])<|dJ 4 69 q t (pp.length,zT pp)) fun h d=>aac ?_
  apply U (i+1) h ER
  have d:=B7 (b:=b) (o:=o+i*8) (s:=(⟨fun _=>0,0,w,false,pp⟩:aT).iO 0) d
  have e:(⟨fun _=>0,0,w,false,pp⟩:aT).iO 0=yB (ps.getD i []) (ws.getD i 0):=by
   rw[ay,ay,hpp,hwi];rfl
  rw[e] at d
  have A:nV b (o+i*8) (yB (ps.getD i [])<|ws.getD i 0)=(fun j=>if j<i+1 then nV b (o+j*8) (yB (ps.getD j [])<|ws.getD j 0) else aG b (o+j*8) zS) i:=by simp[AS,e9]
  rw[A] at d
  have d:=d.oG (n:=B) (i:=i) (fun j=>if j<i then nV b (o+j*8) (yB (ps.getD j [])<|ws.getD j 0) else aG b (o+j*8) zS) (fun j=>if j<i+1 then nV b (o+j*8) (yB (ps.getD j [])<|ws.getD j 0) else aG b (o+j*8) zS) f (fun j _ J=>by
   have:(j<i+1)=(j<i):=propext ⟨fun h=>ER,fun h=>ER⟩;simp[this])
  exact d.to
def Am:∀{ps:List (HO)},zF ps=0->∀p∈ps,(pB p).2=0
 |[],_,p,a=>by simp at a
 |q::l,h,p,a=>by
  rw[zF] at h;split at h;rename_i b;exact absurd h b;rcases j2.1 a with rfl|a;omega;exact Am h p a
def Ex {p:HO} (h:(pB p).2=0):p.length<=32:=by
 rw[pB] at h;split at h;cases h;omega
def aGv {C:bT} {J:Value} {ws:EL} (F:ps.length<=1000000/\ws.length<1000000/\os.length<1000000) (E:Ob G 0 fO) (S:Ob G 1 tF) (V:My G pv J ov vv ps ws os vs) (d:Hs G h L)
  (j:Fv C ps ws os vs≠0->∀f,Hs G f L->Q (.tuple ⟨[.pointer none,I<|Fv C ps ws os vs]⟩) f)
  (w:Fv C ps ws os vs=0->∀p f,Hs G f (Fu G p (mr C ps ws os vs)::L)->Q (.tuple ⟨[IE p,I 0]⟩) f):ID 11 [.agg ⟨C.enc⟩,pv,J,ov,vv] h Q:=by
 obtain⟨⟨vi,H,u,z⟩,v,t,A⟩:=V
 have lp:∀{k:Value->Prop},k (I ps.length)->bQ (pG pv) k:=fun s=>oM u (by simpa [H] using s)
 have lw:∀{k:Value->Prop},k (I ws.length)->bQ (pG J) k:=fun s=>oM v (by simpa [xO] using s)
 have Y:∀{k:Value->Prop},k (I os.length)->bQ (pG ov) k:=fun s=>oM t (by simpa [xO] using s)
 have O:∀{k:Value->Prop},k (I vs.length)->bQ (pG vv) k:=fun s=>oM A (by simpa [xO] using s)
 rw[Fv] at j w
 refine cW<|dY d fun q h d=>aX d ET (l:=C.enc) rfl rfl<|sD E d fun h d=>?_
 by_cases hC:C.Ok
 rotate_left
 .rw[aXg hC] at j;rw[aXf hC];exact bK<|aad<|j ER _ d.tail
 rw[aXf<|by simpa using hC] at j w
 rw[aXg hC]
 have U:=bT.eJ hC
 have D:=bT.bk hC
 have R:C.aE<=4/\1<=C.aE:=⟨hC.1.2,hC.1.1⟩
 have T:=hC.2.1.2
 have bad:((ps.length:Int)≠C.aE\/(ws.length:Int)≠C.aE\/(os.length:Int)≠C.bB\/vs.length≠C.aF*2)->∀f,Hs G f (aG q 0 C.enc::L)->Q (.tuple ⟨[.pointer none,I 1]⟩) f:=fun D f d=>by
  rw[aXg D] at j;exact j ER _ d.tail
 refine bK<|aaa<|bW<|lp<|aA<|ai q d rfl<|bK<|bC (fun g=>bad (.inl g) _ d) fun g1=>lw<|aA<|ai q d rfl<|bK<|bC (fun g=>bad (.inr<|.inl g) _ d) fun g2=>Y<|aA<|ai q d rfl<|bK<|bC (fun g=>bad (.inr<|.inr<|.inl g) _ d) fun g3=>O<|am q d (l:=C.enc) rfl rfl<|Yv hC E d fun h d=>bK<|bC (fun g=>bad (.inr<|.inr<|.inr ER) _ d) fun g4=>?_
 clear bad
 rw[aab] at j w
 refine bW<|lp<|pq (C:=C) H u z S F.1 (fun e h d=>?_) (fun e h d=>?_) ps.length 0 h ER rfl d
 .rw[aXg e] at j;exact j e _ d.tail
 rw[aXf GY] at j w
 have r:¬(vR 0 3 ws=true/\vR 0 4 os=true)->∀f,Hs G f (aG q 0 C.enc::L)->Q (.tuple ⟨[.pointer none,I 10]⟩) f:=fun D f d=>by
  rw[aXg D] at j;exact j ER _ d.tail
 refine bW<|J2 (l:=ws) F.2.1 (pN v d) fun h d=>cG<|eI<|dI (fun g1=>?_) fun g1=>r (by simp[g1]) _ d.tail
 refine J2 (l:=os) F.2.2 (pN t d.tail) fun h d=>cG<|eI<|dI (fun g2=>?_) fun g2=>r (by simp[g2]) _ d.tail
 clear r
 rw[aXf<|by simp[g1,g2]] at j w
 have d:=d.tail
 refine bW<|am q d (l:=C.enc) rfl rfl<|T9 hC E d fun x h d=>aH rfl<|aH rfl<|bK<|aaa<|bW<|O ?_
 refine mc (L:=aG q 0 C.enc::L) hC A E ER (fun h d=>?_) vs.length 0 sU h ER rfl d
 refine bW<|bD d fun Z h d=>am q d (l:=C.enc) rfl rfl<|aA<|ai q d rfl<|Vc ER ER ER ?_
 dsimp only
 refine mN d rfl rfl ?_ rfl ?_ ?_
 .rw[jF,uR (W:=8) fun _=>rfl]
 .rw[jF];exact xL (fun _=>rfl) _
 intro a h d
 obtain⟨b,o,P,d⟩:=Hs.Ql (W:=8) rfl ER d
 cases P
 refine aKi (by rw[xO];omega) (by rw[Ta];exact lu _) (pN t d) fun y c2 h d=>?_
 rw[xO,Ta] at d
 rw[xO]
 refine aM (c:=C.enc++[.slice (some ⟨b,o,none⟩) C.aE.toNat C.aE.toNat,.slice y os.length c2,IE x]) rfl<|Dj d rfl rfl fun p h d=>?_
 refine dB (am q d (l:=C.enc) rfl rfl<|uG<|by simp[bT.enc,jN])<|dB (aA dP)<|dB (ai q d rfl jN)<|dB dP<|aB<|aA<|ai p d rfl<|cE ?_
 have d:=d.bZ (dv p C (.slice (some ⟨b,o,none⟩) C.aE.toNat C.aE.toNat) y os.length c2 x)<|dV C.aE.toNat fun i=>aG b (o+i*8) zS
 refine qf (B:=C.aE.toNat) (b:=b) (o:=o) (C:=C) (ps:=ps) (ws:=ws) ER ER ER (fun p X=>Ex<|Am e p X) H u z v ?_ C.aE.toNat 0 h ER HD
 intro h d
 apply w rfl p _
 have d:=wU (b:=b) (o:=o) (cap:=C.aE.toNat) (a:=y) (c:=c2) (mb:=x) (m:=mr C ps ws os vs)<|(d.jQ (dv p C (.slice (some ⟨b,o,none⟩) C.aE.toNat C.aE.toNat) y os.length c2 x) (dJ 1 3 y c2 (os.length,os.map I)) (eU G C.aF x C<|tO sU vs 0)<|fJ G 8 98 (some ⟨b,o,none⟩) C.aE.toNat C.aE.toNat b o).aO7<|dV C.aE.toNat fun i=>nV b (o+i*8)<|yB (ps.getD i [])<|ws.getD i 0
 exact d.to
end Go.Proofs.Z.A
namespace Go.Proofs.Z
open Go.Hm Go.At Go.Mc Go.Ct Go.Nt Go.Is
variable {Cf:bT} {a2:EN} {p5:Nat} {ps:List (HO)}
section
def Dw (C:bT) (pv a ov vv:Value):EK:=C.enc++[pv,a,ov,vv]
def ji (ps:List (HO)) (ws:EL) (i:Nat):aT:=yB (ps.getD i [])<|ws.getD i 0
variable {G:Bg} {h:AH} {N:Nat} {M:cN}
def mkE (C:bT) (a1 a2 a3:EN) (n a c2 c3:Nat):EK:=C.enc++[.slice a1 n a,.slice a2 n c2,.slice a3 n c3,.pointer none,.pointer none,.pointer none,.slice none 0 0]
def Xz {c2:Nat} {k:Value×AH->Prop} {N:HL} (hb:l.length<=100) (b:Hs G h L) [j:dH (ls pE 1 e a c) L l L'] [m2:eR (dJ 1 e a2 c2 (1,[IE q])) L' N]
  (i:∀d f g,Hs G g (ls pE 1 e d f (l++[q])::N)->k (.slice d (l.length+1) f,g)):bQ (kH 1 8 e h (.slice a l.length c)<|.slice a2 1 c2) k:=by
 have b:=j.of b
 have:=jO (enc:=pE) (e:=e) (l:=l) (l2:=[q]) (a:=a) (c:=c) (a2:=a2) (c2:=c2) (bytes:=8) (k:=k) ((nH (enc:=pE) (x:=q)<|(b.cR<|m2.cR.cons _).oN).oN) EW fun d f h b=>by
  have:=i d f h b.oN.tail;rwa [bj,kd]
 exact this
def Rn {U:Value} {H:EK} {ws:EL} (hC:Cf.Ok) (hG:Gb G) (hg:Ob G 1 tF) (α:ps.length=Cf.aE.toNat) (β:ws.length=Cf.aE.toNat) (T:∀w∈ws,0<=w/\w<=3) (O:∀p∈ps,(pB p).2=0)
  (hv:H.length=ps.length) (ho:wM G 1 pv (H.map fun x=>[x]).length fun i=>(H.map fun x=>[x]).getD i []) (hi:∀(i:Nat) (v:Value) (p:HO),H[i]?=some v->ps[i]?=some p->A.R7 G v p) (hw:A.Mz G U ws)
  (hk:∀lc lk lq a1 a2 a3 g c2 c3 V,lc.length=Cf.aE.toNat->lk.length=Cf.aE.toNat->lq.length=Cf.aE.toNat->Hs G V (aG p5 0 (mkE Cf a1 a2 a3 Cf.aE.toNat g c2 c3)::ptc a1 g lc::iw a2 c2 lk::gy a3 c3 lq::qF wO lc (ji ps ws)::qF (rX G Cf) lk (fun _=>iJ.lK)::qF (rV Cf) lq (fun _=>M7)::aG p2 0 (Dw Cf pv U ov vv)::L)->Dd 19 4 [] Q [IE p2,IE p5] V):
  ∀(f i:Nat) (lc lk lq:EM) (a1 a2 a3:EN) (g c2 c3:Nat) (h:AH),i+f=Cf.aE.toNat->lc.length=i->lk.length=i->lq.length=i->Hs G h (aG p5 0 (mkE Cf a1 a2 a3 i g c2 c3)::ptc a1 g lc::iw a2 c2 lk::gy a3 c3 lq::qF wO lc (ji ps ws)::qF (rX G Cf) lk (fun _=>iJ.lK)::qF (rV Cf) lq (fun _=>M7)::aG p2 0 (Dw Cf pv U ov vv)::L)->
  Dd 19 2 [] Q [IE p2,IE p5,I Cf.aE,I i] h:=by
 have hc:=hC.1
 intro f
 induction f with
 |zero=>
  intro i lc lk lq a1 a2 a3 g c2 c3 h K J z B d
  obtain rfl:i=Cf.aE.toNat:=ER
  exact bW (aQ<|aaa<|hk _ _ _ _ _ _ _ _ _ _ J z B d)
 |succ f ih=>
  intro i lc lk lq a1 a2 a3 g c2 c3 h K J z B d
  have⟨p,hp,_⟩:=lR (l:=ps) (i:=i) ER
  have⟨v,hvi,_⟩:=lR (l:=H) (i:=i) ER
  have⟨w,hwi,_⟩:=lR (l:=ws) (i:=i) ER
  have S:=T w<|fm hwi
  have P:=O p<|fm hp
  have eS:ji ps ws i=yB p w:=by rw[ji];rw[ay,ay,hp,hwi];rfl
  refine bW<|aQ<|aad<|bW<|bD d fun rr h d=>aA<|ai p2 d rfl ?_
  have d:=A.pN hw d
  apply tH d (x:=[I w]) (by simp[A.Fm,hwi]) rfl
  have d:=d.tail
  refine aA<|ai p2 d rfl ?_
  have d:=zV (e:=3) EV ho d
  apply tH d (x:=[v]) GV rfl
  have d:=A.Ih (hi i v p hvi hp) d.tail
  refine wi (i:=i) (pr:=p) (w:=w) ER S hg P d fun D h d=>aH rfl<|aH rfl<|bK<|aaa<|bW ?_
  rw[<-eS] at d
  refine aA<|lD (b:=p2) (o:=0) d ET (l:=Cf.enc) rfl rfl ?_
  refine C.Xj (C:=Cf) (core:=(i:Int)) hC ER hG.Gj d fun E h d=>aH rfl<|aH rfl<|bK<|aaa<|bW ?_
  refine aA<|aA<|ai p2 d rfl<|aA<|aA<|ai p2 d rfl ?_
  refine aAr (C:=Cf) hC d fun F h d=>aH rfl<|aH rfl<|bK<|aaa<|bW ?_
  subst J
  refine aB<|aA<|ai p5 d rfl<|aM (c:=[IE D]) rfl<|dC (W:=1) (n:=1) (c:=1) d rfl rfl rfl fun X h d=>?_
  refine Xz (l:=lc) (a:=a1) (c:=g) (e:=114) (q:=D) (a2:=some X) (c2:=1) ER d fun j t h d=>aB<|aA<|ax (b:=p5) (o:=0) d fun h d=>?_
  refine aB<|aA<|ai p5 d rfl<|aM (c:=[IE E]) rfl<|dC (W:=1) (n:=1) (c:=1) d rfl rfl rfl fun Y h d=>?_
  rw[<-z]
  refine Xz (l:=lk) (a:=a2) (c:=c2) (e:=117) (q:=E) (a2:=some Y) (c2:=1) ER d fun k u h d=>aB<|aA<|ax (b:=p5) (o:=0) d fun h d=>?_
  rw[z]
  refine aB<|aA<|ai p5 d rfl<|aM (c:=[IE F]) rfl<|dC (W:=1) (n:=1) (c:=1) d rfl rfl rfl fun Z h d=>?_
  rw[<-B]
  refine Xz (l:=lq) (a:=a3) (c:=c3) (e:=132) (q:=F) (a2:=some Z) (c2:=1) ER d fun r y h d=>aB<|aA<|ax (b:=p5) (o:=0) d fun h d=>?_
  have e5:dU (dU (dU (mkE Cf a1 a2 a3 lc.length g c2 c3) (0+7) [.slice j (lc.length+1) t]) (0+8) [.slice k (lk.length+1) u]) (0+9) [.slice r (lq.length+1) y]=mkE Cf j k r (lc.length+1) t u y:=by rw[z,B];rfl
  rw[e5] at d
  have d:=Ni (R:=wO) (l:=lc) (q:=D) (s:=ji ps ws)<|d.bZ (oT lc.length D<|ji ps ws lc.length)<|qF wO lc<|ji ps ws
  rw[<-z] at d
  have d:=Ni (R:=rX G Cf) (l:=lk) (q:=E) (s:=fun _=>iJ.lK)<|d.bZ (C.jP G E Cf lk.length iJ.lK)<|qF (rX G Cf) lk fun _=>iJ.lK
  have d:=Ni (R:=rV Cf) (l:=lq) (q:=F) (s:=fun _=>M7)<|d.bZ (mV F Cf M7)<|qF (rV Cf) lq fun _=>M7
  rw[z] at d
  rw[B]
  exact aac<|ih (lc.length+1) (lc++[D]) (lk++[E]) (lq++[F]) j k r t u y h ER EV EW EW d.to
end
section
def mkF (C:bT) (a1 a2 a3:EN) (n a c2 c3:Nat) (x y z:Value):EK:=C.enc++[.slice a1 n a,.slice a2 n c2,.slice a3 n c3,x,y,z,.slice none 0 0]
def O3 {a b:Int} {l:EL} (h:vR a b l=true):∀x∈l,a<=x/\x<=b:=by
 intro x c;exact eo<|lP.1 h x c
def B6 {C:bT} {ws:EL} (h:Fv C ps ws os vs=0):C.Ok/\ps.length=C.aE.toNat/\ws.length=C.aE.toNat/\os.length=C.bB.toNat/\vs.length=C.aF*2/\zF ps=0/\(∀w∈ws,0<=w/\w<=3)/\∀o∈os,0<=o/\o<=4:=by
 rw[Fv] at h;split at h;cases h;rename_i hC;split at h;cases h;split at h;rename_i b;exact absurd h b;rename_i b;split at h;cases h;rename_i a;have a:=og.1 a;exact⟨og.1 hC,ER,ER,ER,ER,og.1 b,O3 a.1,O3 a.2⟩
variable {G:Bg} {h:AH} {N:Nat} {M:cN}
def wh {mb:Nat} {hE:EK} {j:Value} {z:EK} (hC:Cf.Ok) (hG:Gb G) (t:vs.length=Cf.aF*2) (q:A.Mz G vv vs) (r:z[10]?=some (IE hb)) (d:hE[0]?=some (IE mb))
  (g:∀e,Hs G e (eU G Cf.aF mb Cf (At.tO sU vs 0)::aG hb 0 hE::aG p5 0 z::aG p2 0 (Dw Cf pv j ov vv)::L)->Dd 19 11 [] Q [IE p2,IE p5] e):
  ∀(f i:Nat) (mem:Nat->Ln) (h:AH),i+f=vs.length->At.tO sU vs 0=At.tO mem (vs.drop i) i->Hs G h (eU G Cf.aF mb Cf mem::aG hb 0 hE::aG p5 0 z::aG p2 0 (Dw Cf pv j ov vv)::L)->
  Dd 19 8 [] Q [IE p2,IE p5,vv,I vs.length,I i] h:=by
 have p:=bT.eJ hC
 intro f
 induction f with
 |zero=>
  intro i mem h k c a
  rw[eg ER,At.tO] at c
  rw[c] at g
  exact bW (aQ<|aaa<|g _ a)
 |succ f s=>
  intro i mem h k c a
  have⟨x,hx,hd⟩:=lR (l:=vs) (i:=i) ER
  rw[hd,At.tO] at c
  have a:=A.pN q a
  refine bW<|aQ<|aad<|bW<|tH a (x:=[I x]) (by simp[A.Fm,hx]) rfl<|aB<|aA<|ai p5 a r<|aB<|aA<|ai hb a d ?_
  exact K5 (C:=Cf) (mb:=mb) (mem:=mem) (w:=i) (v:=x) hC hG.Gj a.tail ER fun h a=>bK<|aaa<|bW<|aac<|s (i+1) _ h ER c a
theorem r9 {u:Value} {ws:EL} (Z:ps.length<=1000000/\ws.length<1000000/\os.length<1000000) (hG:Gb G) (D:Ob G 1 tF) (E:A.My G pv u ov vv ps ws os vs) (a:Hs G h L)
  (k1:Fv Cf ps ws os vs≠0->∀p,Hs G p L->Q (.tuple ⟨[.pointer none,I<|Fv Cf ps ws os vs]⟩) p)
  (k2:Fv Cf ps ws os vs=0->∀m p,Hs G p (bO G Cf m (MC.lK ⟨Cf,ps,ws,os,vs⟩)::L)->Q (.tuple ⟨[IE m,I 0]⟩) p):ID 19 [.agg ⟨Dw Cf pv u ov vv⟩] h Q:=by
 refine cW<|dY a fun d h a=>aA<|lD (b:=d) (o:=0) a ET (l:=Cf.enc) rfl rfl<|aA<|ai d a rfl<|aA<|ai d a rfl<|aA<|ai d a rfl<|aA<|ai d a rfl ?_
 refine A.aGv (C:=Cf) Z hG.Gj D E a (fun r h a=>aH rfl<|aH rfl<|bK<|bU r<|k1 r _ a.tail) fun r pa h a=>aH rfl<|aH rfl<|bK<|aaa ?_
 obtain⟨hC,O,P,S,T,U,V,W⟩:=B6 r
 have a:Hs G h (aG d 0 (Dw Cf pv u ov vv)::L):=a.to
 have hc:=hC.1
 obtain⟨⟨vi,hv,y,w⟩,B,v,t⟩:=E
 refine bW<|aA<|lD (b:=d) (o:=0) a ET (l:=Cf.enc) rfl rfl<|aM (c:=mkE Cf none none none 0 0 0 0) rfl<|dY a fun g h a=>aA<|aA<|ai d a rfl ?_
 have a:=Ny (R:=rV Cf) (s:=fun _=>M7) a
 have a:=Ny (R:=rX G Cf) (s:=fun _=>iJ.lK) a
 have a:=Ny (R:=wO) (s:=ji ps ws) a
 have a:=oI (enc:=pE) (e:=114) a
 have a:=oI (enc:=pE) (e:=117) a
 have a:=oI (enc:=pE) (e:=132) a
 refine Rn (L:=L) (ov:=ov) (vv:=vv) (Cf:=Cf) hC hG D O P V (A.Am U) hv y w B ?_ Cf.aE.toNat 0 [] [] [] none none none 0 0 0 h ER rfl rfl rfl a.to
 intro lc lk lq a1 j a3 k c2 c3 h l1 F J a
 refine bW<|aA<|lD (b:=d) (o:=0) a ET (l:=Cf.enc) rfl rfl ?_
 refine H.qd (C:=Cf) hC hG.Gj a fun f h a=>aH rfl<|aH rfl<|aB<|aA<|ax (b:=g) (o:=0) a fun h a=>bK<|aaa ?_
 have X:dU (mkE Cf a1 j a3 Cf.aE.toNat k c2 c3) (0+10) [IE f]=mkF Cf a1 j a3 Cf.aE.toNat k c2 c3 (IE f) (.pointer none) (.pointer none):=rfl
 rw[X] at a
 have⟨mb,b,o,cap,a⟩:=H.nS<|a.aN<|H.hJ G f Cf<|vH Cf.aF
 have em:(fun i=>(vH Cf.aF i).2)=sU:=by
  funext i;unfold vH sU;split<;>rfl
 rw[em] at a
 have a:=a.jQ (eU G Cf.aF mb Cf sU) (aG f 0<|H.kB mb Cf b o cap) (aG g 0<|mkF Cf a1 j a3 Cf.aE.toNat k c2 c3 (IE f) (.pointer none)<|.pointer none)<|aG d 0<|Dw Cf pv u ov vv
 refine bW<|aA<|ai d a rfl<|Kj t ?_
 refine wh (Cf:=Cf) (p2:=d) (p5:=g) (hb:=f) (mb:=mb) (hE:=H.kB mb Cf b o cap) (z:=mkF Cf a1 j a3 Cf.aE.toNat k c2 c3 (IE f) (.pointer none)<|.pointer none) hC hG T t rfl rfl ?_ vs.length 0 sU h ER rfl a
 intro h a
 have a:=H.tP (H:=MC.aK ⟨Cf,ps,ws,os,vs⟩) (hb:=f) (C:=Cf) (mb:=mb) (b:=b) (o:=o) (cap:=cap)<|a.jQ (aG f 0<|H.kB mb Cf b o cap) (eU G Cf.aF mb Cf<|At.tO sU vs 0) (fJ G 25 244 (some ⟨b,o,none⟩) cap Cf.aF b o)<|dV Cf.aF fun i=>H.fG b (o+i*25) (vH Cf.aF i).1
 refine bW<|aA<|aA<|ai d a rfl<|aA<|ai d a rfl ?_
 refine xi (C:=Cf) hC v S W a fun q h a=>aH rfl<|aH rfl<|aB<|aA<|ax (b:=g) (o:=0) a fun h a=>bK<|aaa<|bW ?_
 refine aA<|lD (b:=d) (o:=0) a ET (l:=Cf.enc) rfl rfl ?_
 refine w8 (C:=Cf) hC hG.Gj a fun fb h a=>aH rfl<|aH rfl<|aB<|aA<|ax (b:=g) (o:=0) a fun h a=>bK<|aaa<|k2 r _ _ ?_
 have a:=oI (enc:=Ev.enc) (e:=47) a
 have Y:dU (dU (mkF Cf a1 j a3 Cf.aE.toNat k c2 c3 (IE f) (.pointer none)<|.pointer none) (0+11) [IE q]) (0+12) [IE fb]=fD Cf ⟨lc,lk,lq,a1,j,a3,none,k,c2,c3,0,f,q,fb⟩ 0:=by
  rw[fD];dsimp only;rw[l1,F,J];rfl
 rw[Y] at a
 have a:Hs G h (bO G Cf g (⟨ji ps ws,fun _=>iJ.lK,fun _=>M7,MC.aK ⟨Cf,ps,ws,os,vs⟩,⟨lZ os,fun _=>none⟩,fun _ _=>[],[]⟩:cN)::L):=(bP (m:=g) (x:=⟨lc,lk,lq,a1,j,a3,none,k,c2,c3,0,f,q,fb⟩) (⟨ji ps ws,fun _=>iJ.lK,fun _=>M7,MC.aK ⟨Cf,ps,ws,os,vs⟩,⟨lZ os,fun _=>none⟩,fun _ _=>[],[]⟩:cN) ⟨l1,F,J⟩ a).to
 exact a
end
variable {G:Bg} {h:AH} {N:Nat} {M:cN}
def aPk {C:bT} {r:Value} {ws:EL} (H:ps.length<=9223372036854775807) (z:A.My G pv r ov vv ps ws os vs) (a:Hs G h L)
  (E:ps.length<=6/\ws.length<=6/\os.length<=20/\vs.length<=80->∀g,Hs G g L->Q (.bool true) g) (q:∀g,Hs G g L->Q (.bool false) g):ID 18 [.agg ⟨Dw C pv r ov vv⟩] h Q:=by
 obtain⟨⟨F,B,j,t⟩,w,s,u⟩:=z
 have lp:∀{k:Value->Prop},k (I ps.length)->bQ (pG pv) k:=fun d=>A.oM j (by simpa [B] using d)
 refine cW<|dY a fun c h a=>?_
 have loop:∀(f i:Nat) (h:AH),i+f=ps.length->Hs G h (aG c 0 (Dw C pv r ov vv)::L)->Dd 18 1 [] Q [IE c,I i] h:=by
  intro f;induction f with
  |zero=>
   intro i h y a;refine bW<|aA<|ai c a (v:=pv) rfl<|lp<|aQ<|aaa<|aA<|ai c a (v:=pv) rfl<|lp<|xY<|bC (fun g1=>?_) fun g1=>q _ a.tail;refine aA<|ai c a (v:=r) rfl<|(fun d=>Kj w d)<|xY<|bC (fun g2=>?_) fun g2=>q _ a.tail;refine aA<|ai c a (v:=ov) rfl<|(fun d=>Kj s d)<|xY<|bC (fun g3=>?_) fun g3=>q _ a.tail;refine aA<|ai c a (v:=vv) rfl<|(fun d=>Kj u d)<|xY ?_;by_cases g4:(vs.length:Int)<=80;rw[c8 g4];exact E ⟨ER,ER,ER,ER⟩ _ a.tail;rw[ec g4];exact q _ a.tail
  |succ f D=>
   intro i h y a;have⟨p,hp,hd⟩:=lR (l:=ps) (i:=i) ER;have⟨v,hvi,_⟩:=lR (l:=F) (i:=i) ER;refine bW<|aA<|ai c a (v:=pv) rfl<|lp<|aQ<|aad<|bW<|aA<|ai c a (v:=pv) rfl ?_;refine tH (zV (e:=3) EV j a) (x:=[v]) GV rfl<|A.oM (t i v p hvi hp)<|nU<|bC (fun _=>q _ a.tail) fun _=>bW<|aac<|D (i+1) h ER a
 exact loop ps.length 0 h ER a
def cN.core (Cf:bT) (M:cN) (x:Int):EK×Int:=if 0<=x/\x<Cf.aE then((M.aC x.toNat).core,0) else([I 0,I 0,I 0,I 0,I 0,I 0,.bool false],10)
def Yg (hC:Cf.Ok) (d:Hs G h L) [u:dH (bO G Cf m) L M L'] (f:∀g,Hs G g (bO G Cf m M::L')->Q (.tuple ⟨[.agg ⟨(cN.core Cf M x).1⟩,I (cN.core Cf M x).2]⟩) g):ID 13 [IE m,I x] h Q:=by
 rw[cN.core] at f;refine cW<|bX (cs:=[I 0,I 0,I 0,I 0,I 0,I 0,.bool false]) (u.of d) fun q h d=>cZ<|cF<|bW ?_;have⟨y,hl,d⟩:=cY<|d.aN<|bO G Cf m M;have p:=hl.1;have bad:∀{h:AH},Hs G h (bO G Cf m M::aG q 0 [I 0,I 0,I 0,I 0,I 0,I 0,.bool false]::L')->(∀g,Hs G g (bO G Cf m M::L')->Q (.tuple ⟨[.agg ⟨[I 0,I 0,I 0,I 0,I 0,I 0,.bool false]⟩,I 10]⟩) g)->
   bQ (rL [I 0,I 0,I 0,I 0,I 0,I 0,.bool false] []) fun c=>bQ (vT h 7 (IE q)<|.agg ⟨c⟩) fun h=>bQ (vD h 7<|IE q) fun v=>Q (.tuple ⟨[v,I 10]⟩) h:=by
  intro h d r
  exact aM (c:=[I 0,I 0,I 0,I 0,I 0,I 0,.bool false]) rfl<|an (b:=q) d fun h d=>am q d (l:=[I 0,I 0,I 0,I 0,I 0,I 0,.bool false]) rfl rfl<|r _ d.to
 refine aQ<|bC (fun j=>?_) fun j=>?_;rw[aab] at f;exact bad (bP (m:=m) (x:=y) M hl d).to f;refine aB<|aA<|ai m d rfl<|cE<|eQ<|bC (fun k=>?_) fun k=>?_;rw[aab] at f;exact bad (bP (m:=m) (x:=y) M hl d).to f;rw[aae] at f;obtain⟨i,rfl⟩:=cb (show 0<=x by omega);have e:i<y.lc.length:=ER
 refine aB<|aA<|ai m d rfl<|G4 d e ?_;have d:=gC (R:=wO) (l:=y.lc) (s:=M.aC) e d;have⟨a,c,d⟩:=sY d;refine aB<|aA<|lD (b:=y.lc.getD i 0) (o:=0) d ET (l:=(M.aC i).core) rfl rfl<|an (b:=q) d fun h d=>am q d (l:=(M.aC i).core) rfl rfl<|f _ ?_;have d:=nZ (y.lc.getD i 0) i (M.aC i) (a:=a) (c:=c) (d.bZ (aG (y.lc.getD i 0) 0<|oF i (M.aC i) a c)<|Ya a c (M.aC i).prog) rfl rfl;have d:=Ia (l:=y.lc) (s:=M.aC) (i:=i) (t:=M.aC i) e d;rw[bV] at d;exact(bP (m:=m) (x:=y) M hl d).to
def aId (a:Hs G h L) [e:dH (bO G Cf m) L M L'] (d:∀c,Hs G c (bO G Cf m M::L')->Q (I M.jW.length) c):ID 22 [IE m] h Q:=by
 have⟨y,hl,a⟩:=cY<|e.of a;exact cW<|cZ<|cF<|aB<|aA<|ai m a rfl<|cE<|d _ (bP (m:=m) (x:=y) M hl a).to
end Go.Proofs.Z
end
namespace Go.Proofs.Z
open Go.Hm Go.At Go.Mc Go.Ct Go.Nt Go.Is
variable {ps:List (HO)}
def aAo {C:bT} {ws:EL} (h:Fv C ps ws os vs=0):∀i:Nat,(i:Int)<C.aE->(ji ps ws i).Ok:=by
 have⟨hC,e1,e2,e3,e4,e5,e6,e7⟩:=B6 h;intro i e;have c:ps.getD i []∈ps:=by rw[ay,aL ER];exact sz _
 have a:=A.Am e5 _ c;have b:=A.Ex a;refine⟨show(0:Int)<=0 by decide,show(0:Int)<=32 by decide,rfl,b,fun x d=>?_⟩;rw[pB,aab] at a;exact jk _ _ a x d
def sw {C:bT} {ws:EL} (h:Fv C ps ws os vs=0):eO C 0 (MC.lK ⟨C,ps,ws,os,vs⟩):=by
 have⟨hC,e1,e2,e3,e4,e5,e6,e7⟩:=B6 h;refine⟨⟨?_,?_,fun g r j=>by cases j⟩,aAo h,fun i a=>aCr,fun i a=>⟨?_,?_⟩,fun l b=>?_,⟨fun c w=>?_,fun c w n d=>HC⟩,ba 0⟩;show(os.map fun o=>(⟨o,false⟩:iF)).length=_;rwa [js];intro x k;obtain⟨o,f,rfl⟩:=gL.1 k;exact e7 o f;show((0:Nat):Int)<=C.lI;have:1<=C.lI:=by rw[bT.Ok] at hC;omega
 omega;show(0:Int)<=0/\(0:Int)<C.bB;have:=hC.2.1.1;omega;have e:((MC.lK ⟨C,ps,ws,os,vs⟩).aK l).1=G9:=by
  show(vH C.aF l).1=G9;rw[vH];rw[aXg b]
 rw[e];exact⟨aRf l,AK _⟩;show((0:Nat):Int)<=C.eT;have:=hC.2.2.2.2.1.1;omega
def Vr {C:bT} {ws:EL} (h:Fv C ps ws os vs=0):Mc.Sl C (ji ps ws) 0 (MC.lK ⟨C,ps,ws,os,vs⟩):=
 ⟨sw h,⟨(fun g c a=>by cases a),(fun g b c a=>by cases a)⟩,fun i d=>rfl⟩
attribute [local irreducible] bQ Br sA vD vT F4 pC yQ nJ Uh iZ pV tD sH rQ pG vX Sn Rx R8 Rz R0 Xm mQ qJ kH jX Ao Jw nA Qv Ub B0 Cl Cx Xf xZ uP mK gY dD cQ
variable {G:Bg} {h:AH} {Cf:bT} {N:Nat} {M:cN}
def aAe (G:Bg) (v:Value) (l:HS):Prop:=wM G 4 v (l.map Do.enc).length fun i=>(l.map Do.enc).getD i []
def aKw {l:HS} (a:aAe G v l) (b:Hs G h L):Hs G h (C4 G 4 39 v (l.map Do.enc)::L):=zV (by simp[Do.enc]) a b
def aNs {l:HS} (a:aAe G v l) (b:k (I l.length)):bQ (pG v) k:=A.oM a (by rwa [js])
def ly {d:Do} {a:Addr} {k:Value->AH->Prop} (hC:Cf.Ok) (hG:Gb G) (f:eO Cf N M) (i:N<=2^28) (b:Hs G h (dJ 4 39 (some a) c (1,d.enc)::bO G Cf m M::L))
  (g:∀e,Hs G e (bO G Cf m (M.sJ Cf d).1::L)->k (.tuple ⟨[I (M.yC Cf [d] 0).2.1,I (M.yC Cf [d] 0).2.2]⟩) e):ID 8 [IE m,.slice (some a) 1 c] h k:=by
 have b:=aGy (l:=[d].map Do.enc) (n:=1) (cs:=d.enc) (by simp[Do.enc]) rfl EV b
 refine aPz (l:=[d]) (v:= .slice (some a) 1 c) hC hG f EW b fun h b=>g h ?_
 rw[aGe] at b
 exact b.tail
end Go.Proofs.Z
