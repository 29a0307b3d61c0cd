/- A part of the proof. -/
import Derived.Test.YteelnoablpdhbaaGreatDoorO19
import Derived.Test.YteelnoablpdhbaaGreatDoorO11
set_option linter.all false
set_option maxRecDepth 100000
open Go Go.Ab
variable {L L':HL} {Q:Value->AH->Prop} {N c2 m:Nat} {a1 a2 a3:EN}
section
attribute [local irreducible] bQ Br sA vD vT F4 pC yQ nJ Uh iZ pV tD sH rQ pG vX Sn Rx R8 Rz R0 Xm mQ qJ kH jX Ao Jw nA Qv Ub B0 Cl Cx Xf xZ uP mK gY dD cQ
namespace Go.Proofs.Z
open Go.Hm Go.At Go.Mc Go.Ct Go.Nt Go.Is
structure Sh where
 Fz:List (Nat×Th)
 kns:List (Nat×(Int×Int))
 eB:HR
 vV:HM
 mem:IA
def Ai (C:bT) (M:cN):Sh:=⟨qB C.bL.toNat M.aJ C.aE.toNat,tL M.aU C.aE.toNat,M.dS.eB,Ju M.bN<|4*C.aE.toNat,(List.range C.aF).map fun i=>(M.aK i).2⟩
structure Sz where
 a1:EN
 c1:Nat
 a2:EN
 c2:Nat
 a3:EN
 c3:Nat
 a4:EN
 c4:Nat
 a5:EN
 c5:Nat
abbrev shV (z:Sz) (s:Sh):EK:=A5 z.a1 s.Fz.length z.c1 z.a2 s.kns.length z.c2 z.a3 s.eB.length z.c3 z.a4 s.vV.length z.c4 z.a5 s.mem.length z.c5
abbrev enL (a:EN) (c:Nat) (l:HR):HP:=ls iF.enc 2 137 a c l
abbrev lnL (a:EN) (c:Nat) (l:IA):HP:=ls qZ 2 123 a c l
abbrev shB (z:Sz) (s:Sh):HL:=[Tu z.a1 z.c1 s.Fz,gn z.a2 z.c2 s.kns,enL z.a3 z.c3 s.eB,X9 z.a4 z.c4 s.vV,lnL z.a5 z.c5 s.mem]
def shR (z:Sz) (s:Sh):HP:=sp<|shB z s
variable {G:Bg} {h:AH} {Cf:bT} {M:cN}
theorem ki {x:MN} {p1 p3 n1 u n2:Nat} {s:EM} {t115:Value} (hC:Cf.Ok) (V:M.dS.eB.length=Cf.bB.toNat)
  (R:∀a c w,Hs G w (ls iF.enc 2 137 a c M.dS.eB::G0 s::jG G Cf m x M::aG p1 0 shZ::aG p3 0 (A5 a1 n1 u a2 n2 c2 a M.dS.eB.length c none 0 0 none 0 0)::L)->Dd 15 9 s Q [IE m,IE p1,IE p3,t115] w):
  ∀(f i:Nat) (a:EN) (c:Nat) (h:AH),i+f=Cf.bB.toNat->Hs G h (ls iF.enc 2 137 a c (M.dS.eB.take i)::G0 s::jG G Cf m x M::aG p1 0 shZ::aG p3 0 (A5 a1 n1 u a2 n2 c2 a i c none 0 0 none 0 0)::L)->Dd 15 7 s Q [IE m,IE p1,IE p3,I Cf.bB,I i,t115] h:=by
 have X:=hC.2.1
 intro f
 induction f with
 |zero=>
  intro i a c h O d
  obtain rfl:i=M.dS.eB.length:=ER
  rw[AG] at d
  exact bW (aQ<|aaa<|R a c h d)
 |succ f U=>
  intro i a c h O d
  have A:i<M.dS.eB.length:=ER
  obtain⟨y,J,_⟩:=lR (l:=M.dS.eB) (i:=i) A
  obtain⟨T,d⟩:=gT<|d.aN<|jG G Cf m x M
  refine bW<|aQ<|aad<|bW<|aB<|aA<|ai m d rfl ?_
  obtain⟨t,b,d⟩:=lG<|d.aN<|iD Cf x.mb M.dS
  refine aB<|aA<|aD (b:=x.mb) (o:=0) d rfl<|T5 (t:=t) (es:=M.dS.eB) (g:=i) d fun h d=>?_
  rw[aae,aP,show M.dS.eB.getD i mG=y by rw[ay,J];rfl]
  have d:=eF (C:=Cf) (p:=x.mb) (m:=M.dS) (t:=t) (b:=b)<|d.cT (aG x.mb 0 [IE t,I Cf.aE,jE b]) (jS t M.dS.eB)<|oB b<|lU M.dS.lS
  have d:=jR (G:=G) (Cf:=Cf) (m:=m) (x:=x) M T d
  have e:(M.dS.eB.take i).length=i:=GO
  refine aH rfl<|aH rfl<|bX d fun p h d=>an (b:=p) d fun h d=>aA<|ai p3 d rfl<|am p d (l:=y.enc) rfl rfl<|aM (c:=y.enc) rfl<|dC (W:=2) (n:=1) (c:=1) d rfl rfl rfl fun a0 h d=>?_
  have d:=nH (enc:=iF.enc) (x:=y) d
  have:=jO (bytes:=16) (e:=137) (enc:=iF.enc) (l:=M.dS.eB.take i) (l2:=[y]) (a:=a) (c:=c) (a2:=some a0) (c2:=1) (h:=h) (k:=fun r=>bQ (iZ 2<|IE p3) fun q=>bQ (vT r.2 1 q r.1) fun z=>bQ (vX .add (I i)<|I 1) fun v=>Dd 15 7 s Q [IE m,IE p1,IE p3,I Cf.bB,v,t115] z) (d.bZ (ls iF.enc 2 137 a c<|M.dS.eB.take i)<|ls iF.enc 2 137 (some a0) 1 [y]) (by rw[e];simp;omega) fun D F w B=>?_
  .rw[e] at this;exact this
  .rw[bj,e];refine aA<|ax (b:=p3) (o:=0) B fun H j=>aac ?_;have j:Hs G H (aG p3 0 (A5 a1 n1 u a2 n2 c2 D (i+1) F none 0 0 none 0 0)::_):=j;have K:M.dS.eB.take i++[y]=M.dS.eB.take (i+1):=by rw[x0,J];rfl
   rw[K] at j
   exact U (i+1) D F H ER j.to
abbrev shY (p3:Nat) (e:Nat->Value) (d l:Nat) (a1:EN) (n1 a:Nat) (a2:EN) (n2 c2:Nat) (a3:EN) (b c3:Nat) (a4:EN) (n4 c4:Nat) (done:IA):HP:=xC fun x:EN×Nat=>sp [iI Pr 15 (iM 1018) 123 e d l (.ready,none),aG p3 0<|A5 a1 n1 a a2 n2 c2 a3 b c3 a4 n4 c4 x.1 done.length x.2,ls qZ 2 123 x.1 x.2 done]
theorem xq {x:MN} {p1 p3 n1 g n2 c3:Nat} {B:EM} {t115:Value} (hC:Cf.Ok) (k:Ob G 0 fO) (hF:∀c w,(M.bN c w).length<=500)
  (f:Hs G h (ls iF.enc 2 137 a3 c3 M.dS.eB::G0 B::jG G Cf m x M::aG p1 0 shZ::aG p3 0 (A5 a1 n1 g a2 n2 c2 a3 M.dS.eB.length c3 none 0 0 none 0 0)::L))
  (hk:∀a4 c4 a5 c5 K,Hs G K (ls iF.enc 2 137 a3 c3 M.dS.eB::X9 a4 c4 (Ju M.bN<|4*Cf.aE.toNat)::ls qZ 2 123 a5 c5 ((List.range Cf.aF).map fun i=>(M.aK i).2)::jG G Cf m x M::L)->Q (.agg ⟨A5 a1 n1 g a2 n2 c2 a3 M.dS.eB.length c3 a4 (Ju M.bN<|4*Cf.aE.toNat).length c4 a5 Cf.aF c5⟩) K):
  Dd 15 9 B Q [IE m,IE p1,IE p3,t115] h:=by
 have hc:=hC.1
 have β:=bT.eJ hC
 have α:=hC.2.1
 obtain⟨hl,f⟩:=gT<|f.aN<|jG G Cf m x M
 refine bW<|aB<|aA<|ai m f rfl ?_
 refine aAk (C:=Cf) (F:=M.bN) hC hF f fun z I p h J f=>?_
 refine aK1 (z:=z) (p:=p) (ql:=I) (F:=M.bN) ER hF (f.cT (aG p 0 [rwF z]) (Lf z I)<|qF E7 I<|dF M.bN) fun a4 c4 h f=>?_
 rw[J] at f ⊢
 obtain⟨n4,s⟩:∃n4,n4=(Ju M.bN<|4*Cf.aE.toNat).length:=⟨_,rfl⟩
 rw[<-s]
 refine aA<|ax (b:=p3) (o:=0) f fun h f=>?_
 have f:Hs G h (aG p3 0 (A5 a1 n1 g a2 n2 c2 a3 M.dS.eB.length c3 a4 n4 c4 none 0 0)::_):=f
 refine aB<|aA<|ai m f rfl ?_
 obtain⟨D,b,o,j,f⟩:=H.nS<|f.aN<|H.hJ G x.hb Cf M.aK
 refine aB<|aA<|aD (b:=x.hb) (o:=0) f rfl ?_
 refine aD5 (mb:=D) (mem:=fun i=>(M.aK i).2) hC k f fun R h f=>?_
 have f:=f.bZ (fJ G 25 244 (some ⟨b,o,none⟩) j Cf.aF b o)<|dV Cf.aF fun i=>H.fG b (o+i*25) (M.aK i).1
 have f:=f.bZ (aG x.hb 0<|H.kB D Cf b o j)<|eU G Cf.aF D Cf fun i=>(M.aK i).2
 have f:=H.tP (H:=M.aK) f
 have f:=jR (G:=G) (Cf:=Cf) (m:=m) (x:=x) M hl f
 refine jM f fun d h f=>?_
 intro e V
 refine kY f fun l h f=>pX rfl ?_
 have f:=oI (enc:=qZ) (e:=123) f
 have f:Hs G h (aK3 R ((List.range Cf.aF).map fun i=>(M.aK i).2)::shY p3 e d l a1 n1 g a2 n2 c2 a3 M.dS.eB.length c3 a4 n4 c4 []::mk d ()::ls iF.enc 2 137 a3 c3 M.dS.eB::X9 a4 c4 (Ju M.bN<|4*Cf.aE.toNat)::G0 B::jG G Cf m x M::aG p1 0 shZ::L):=by
  have f:=(f.cT (iI Pr 15 (iM 1018) 123 e d l (.ready,none)) (aG p3 0<|A5 a1 n1 g a2 n2 c2 a3 M.dS.eB.length c3 a4 n4 c4 none 0 0)<|ls qZ 2 123 none 0 []).Ry;have f:=Hs.tG (A:=fun x:EN×Nat=>sp [iI Pr 15 (iM 1018) 123 e d l (.ready,none),aG p3 0<|A5 a1 n1 g a2 n2 c2 a3 M.dS.eB.length c3 a4 n4 c4 x.1 ([]:IA).length x.2,ls qZ 2 123 x.1 x.2 []]) (none,0) f;exact f.to
 have r:((List.range Cf.aF).map fun i=>(M.aK i).2).length=Cf.aF:=EV
 refine(aW0 (p:=R) (l:=(List.range Cf.aF).map fun i=>(M.aK i).2)<|by rw[r];omega).C2 (X:=fun done:List (Ln×Nat)=>shY p3 e d l a1 n1 g a2 n2 c2 a3 M.dS.eB.length c3 a4 n4 c4<|Gs done) (Z:=fun _ _=>xG False) f ?_ ?_ ?_
 .intro done y h T O f;have U:done.length<Cf.aF:=by have:=O.length_le;simp at this;omega
  obtain⟨⟨a,c⟩,f⟩:=f.uI
  have f:=f.B9
  refine rW (qC f) V<|bX f fun q h f=>an (b:=q) f fun h f=>gD f fun h f=>aA<|ai p3 f rfl<|am q f (l:=qZ y.1) rfl rfl<|aM (c:=qZ y.1) rfl<|dC (W:=2) (n:=1) (c:=1) f rfl rfl rfl fun a0 h f=>?_
  have f:=nH (enc:=qZ) (x:=y.1) f
  refine jO (bytes:=16) (e:=123) (enc:=qZ) (l:=Gs done) (l2:=[y.1]) (a:=a) (c:=c) (a2:=some a0) (c2:=1) (f.bZ (ls qZ 2 123 a c<|Gs done)<|ls qZ 2 123 (some a0) 1 [y.1]) (by rw[aCd];simp;omega) fun t u h f=>?_
  refine aA<|ax (b:=p3) (o:=0) f fun h f=>?_
  have f:Hs G h (aG p3 0 (A5 a1 n1 g a2 n2 c2 a3 M.dS.eB.length c3 a4 n4 c4 t (Gs done++[y.1]).length u)::_):=f
  refine iE f fun h f=> .inl ⟨rfl,?_⟩
  have f:=(f.cT (iI Pr 15 (iM 1018) 123 e d l (.ready,none)) (aG p3 0<|A5 a1 n1 g a2 n2 c2 a3 M.dS.eB.length c3 a4 n4 c4 t (Gs done++[y.1]).length u)<|ls qZ 2 123 t u<|Gs done++[y.1]).Ry
  rw[aBy] at f
  exact(Hs.tG (A:=fun x:EN×Nat=>sp [iI Pr 15 (iM 1018) 123 e d l (.ready,none),aG p3 0<|A5 a1 n1 g a2 n2 c2 a3 M.dS.eB.length c3 a4 n4 c4 x.1 (Gs<|done++[y]).length x.2,ls qZ 2 123 x.1 x.2<|Gs<|done++[y]]) (t,u) f).to
 .intro v h f;rw[aDy] at f;obtain⟨⟨a,c⟩,f⟩:=(f.aN<|shY p3 e d l a1 n1 g a2 n2 c2 a3 M.dS.eB.length c3 a4 n4 c4<|(List.range Cf.aF).map fun i=>(M.aK i).2).uI;have f:=f.B9;refine kU f fun h f=>kW<|am p3 f (l:=A5 a1 n1 g a2 n2 c2 a3 M.dS.eB.length c3 a4 n4 c4 a ((List.range Cf.aF).map fun i=>(M.aK i).2).length c) rfl rfl<|an (b:=p1) f fun h f=>mH f fun h f=>tm (f.aN<|G0 B) fun h f=>am p1 f (l:=A5 a1 n1 g a2 n2 c2 a3 M.dS.eB.length c3 a4 n4 c4 a ((List.range Cf.aF).map fun i=>(M.aK i).2).length c) rfl rfl ?_;have:=hk a4 c4 a c h f.to;rw[<-r,<-s] at this;exact this
 .intro done y v h O f;obtain⟨hf,f⟩:=(f.aN<|xG False).X6;exact hf.elim
structure aI2 (C:bT) (M:cN):Prop where
 Jt:∀i:Nat,(i:Int)<C.aE->kK C (M.aJ i)
 mZ:∀i:Nat,(i:Int)<C.aE->(M.aU i).cC.length<=100
 bN:∀c w,(M.bN c w).length<=500
 Ft:M.dS.eB.length=C.bB.toNat
def aI2.of (hC:Cf.Ok) (h:eO Cf N M):aI2 Cf M:=⟨h.Jt,fun i a=>(h.mZ i a).len hC,gq.O7 hC h.bN.len,h.dS.len⟩
theorem uc (hC:Cf.Ok) (j:Ob G 0 fO) (k:aI2 Cf M) (d:Hs G h L) [t:dH (bO G Cf m) L M L']
  (s:∀z p,Hs G p (shR z (Ai Cf M)::bO G Cf m M::L')->Q (.agg ⟨shV z<|Ai Cf M⟩) p):ID 15 [IE m] h Q:=by
 have u:=hC.2.1
 obtain⟨x,d⟩:=Hs.uI<|show Hs G h (bO G Cf m M::L') from t.of d
 have d:Hs G h (jG G Cf m x M::L'):=d
 refine cW<|bX d fun p1 h d=>bX d fun q h d=>cZ<|cF<|bW ?_
 obtain⟨l,d⟩:=gT<|d.aN<|jG G Cf m x M
 refine aB<|aA<|ai m d rfl<|cE ?_
 rw[l.1]
 have d:=jR (G:=G) (Cf:=Cf) (m:=m) (x:=x) M l d
 have d:Hs G h (G0 []::jG G Cf m x M::aG p1 0 shZ::aG q 0 shZ::L'):=Hs.kC (A:=[]) d.to
 have d:=oI (enc:=cpE) (e:=131)<|oI (enc:=knE) (e:=135) d
 refine qb (x:=x) hC k.Jt k.mZ (fun a1 g f c2 r h d=>?_) Cf.aE.toNat 0 none 0 none 0 [] h ER d
 obtain⟨l,d⟩:=gT<|d.aN<|jG G Cf m x M
 refine bW<|aB<|aA<|aA<|ai m d (v:=I Cf.bB) rfl ?_
 have d:=jR (G:=G) (Cf:=Cf) (m:=m) (x:=x) M l d
 have d:=oI (enc:=iF.enc) (e:=137) d
 have d:Hs G h (ls iF.enc 2 137 none 0 []::G0 r::jG G Cf m x M::aG p1 0 shZ::aG q 0 (A5 a1 (qB Cf.bL.toNat M.aJ Cf.aE.toNat).length g f (tL M.aU Cf.aE.toNat).length c2 none 0 0 none 0 0 none 0 0)::Tu a1 g (qB Cf.bL.toNat M.aJ Cf.aE.toNat)::gn f c2 (tL M.aU Cf.aE.toNat)::L'):=d.to
 refine ki (x:=x) (L:=Tu a1 g (qB Cf.bL.toNat M.aJ Cf.aE.toNat)::gn f c2 (tL M.aU Cf.aE.toNat)::L') hC k.Ft (fun a c h d=>?_) Cf.bB.toNat 0 none 0 h ER (by rw[EI];exact d)
 refine xq (x:=x) hC j k.bN d fun a4 c4 a5 c5 h d=>?_
 have n:((List.range Cf.aF).map fun i=>(M.aK i).2).length=Cf.aF:=EV
 have:=s ⟨a1,g,f,c2,a,c,a4,c4,a5,c5⟩ h
 unfold Ai shV at this
 simp only[n] at this
 refine this ?_
 have d:=d.aN<|jG G Cf m x M
 have d:Hs G h (bO G Cf m M::_):=Hs.tG (A:=fun x:MN=>sp<|Qo G Cf m M x) x d
 refine Hs.kC (A:=shB ⟨a1,g,f,c2,a,c,a4,c4,a5,c5⟩ ⟨qB Cf.bL.toNat M.aJ Cf.aE.toNat,tL M.aU Cf.aE.toNat,M.dS.eB,Ju M.bN<|4*Cf.aE.toNat,(List.range Cf.aF).map fun i=>(M.aK i).2⟩) ?_
 exact d.to
end Go.Proofs.Z
end
variable {k:Value->Prop} {a:EN} {e:TypeId}
namespace Go.Proofs.Z
open Go.Hm Go.At Go.Mc Go.Ct Go.Nt Go.Is
def aHx {s:aT} (b:k (.bool false)) {a:Bool} (hc:a=true:=by kernel_rfl):R0 a [0,0,0,0,0,0,1] .neq (.agg ⟨s.core⟩) (.agg ⟨s.core⟩) k:=⟨hc,_,by simp[Rz,tZ,Zg,vq,aT.core],b⟩
def aSq {G:Bg} {h:AH} {c i j:Nat} {l:IA} {x:Ln} {u:Value} (d:Hs G h L) [m:dH (ls qZ 2 e a c) L l L'] (g:l[i]?=some x) (r:j<2) (t:(qZ x)[j]?=some u) (s:k u):
  bQ (mQ 2 (.slice a l.length c)<|I i) fun p=>bQ (qJ 2 1 p<|I j) fun q=>bQ (sA h q) k:=by
 have n:=(eh.1 g).1
 have d:Hs G h (dJ 2 e a c (l.length,eL qZ l)::L'):=m.of d
 obtain⟨b,o,rfl,f⟩:=d.gF ER
 refine dR n<|iN r ?_
 rw[show pt b (o+i*2) (0+j*1)=pt b o (i*2+j) by simp[pt,CG]]
 exact aD (b:=b) (o:=o) f (v:=u) (I4 (enc:=qZ) g t) s
def U2 (Fz:List (Nat×Th)) (ms:IA) (w:Nat):Int:=match Fz.find? fun x=>decide (x.2.1=((w/2:Nat):Int)) with
 |some x=>cf x.2.2.d ((w % 2:Nat):Int)
 |none=>cf (ms.getD (w/2) (0,0)) ((w % 2:Nat):Int)
attribute [local irreducible] bQ Br sA vD vT F4 pC yQ nJ Uh iZ pV tD sH rQ pG vX Sn Rx R8 Rz R0 Xm mQ qJ kH jX Ao Jw nA Qv Ub B0 Cl Cx Xf xZ uP mK gY dD cQ
variable {G:Bg} {h:AH} {Cf:bT} {M:cN}
variable {Fz:List (Nat×Th)}
def aC4 {a4 a5:EN} {n2 D n4 g c3 c4 c5 w:Nat} {ms:IA} (Z:w/2<ms.length) (hb:Fz.length<=1000000) (U:ms.length<=1000000) (d:Hs G h (Tu a1 g Fz::lnL a5 c5 ms::L))
  (k:∀H,Hs G H (Tu a1 g Fz::lnL a5 c5 ms::L)->Q (.tuple ⟨[I<|U2 Fz ms w,.bool true]⟩) H):ID 16 [.agg ⟨A5 a1 Fz.length g a2 n2 c2 a3 D c3 a4 n4 c4 a5 ms.length c5⟩,I w] h Q:=by
 have O:((w:Int)/2)=((w/2:Nat):Int):=ER
 have R:((w:Int) % 2)=((w % 2:Nat):Int):=ER
 have J:w % 2=0\/w % 2=1:=ER
 refine cW<|dY (cs:=A5 a1 Fz.length g a2 n2 c2 a3 D c3 a4 n4 c4 a5 ms.length c5) d fun r h d=>aQ<|aaa<|D5 ER ER ER<|aA<|ai r d (v:= .slice a5 ms.length c5) rfl<|cE<|eQ<|aaa<|bW ?_
 refine D5 ER ER ER<|Sx ER ER<|aA<|ai r d (v:= .slice a1 Fz.length g) rfl<|cE ?_
 rw[O,R]
 have loop:∀(f i:Nat) (h:AH),i+f=Fz.length->(∀j,j<i->∀x,Fz[j]?=some x->x.2.1≠((w/2:Nat):Int))->Hs G h (aG r 0 (A5 a1 Fz.length g a2 n2 c2 a3 D c3 a4 n4 c4 a5 ms.length c5)::Tu a1 g Fz::lnL a5 c5 ms::L)->
   Dd 16 2 [] Q [IE r,I ((w/2:Nat):Int),I ((w % 2:Nat):Int),.slice a1 Fz.length g,I Fz.length,I i] h:=by
  intro f
  induction f with
  |zero=>
   intro i h X s d
   have t:Fz.find? (fun x=>decide<|x.2.1=((w/2:Nat):Int))=none:=yg.2 fun x n=>by
    have⟨j,q,hjx⟩:=AP n;simpa using s j ER x (by rw[aL q,hjx])
   unfold U2 at k
   rw[t] at k
   dsimp only at k
   have n:ms[w/2]?=some (ms.getD (w/2) (0,0)):=by rw[ay,aL Z];rfl
   refine bW<|aQ<|aaa<|aA<|ai r d (v:= .slice a5 ms.length c5) rfl<|aSq (l:=ms) (a:=a5) (c:=c5) (e:=123) d n ER (u:=I<|cf (ms.getD (w/2) (0,0)) ((w % 2:Nat):Int)) ?_<|k h d.tail
   rcases J with e|e<;>rw[e]<;>rfl
  |succ f ih=>
   intro i h X s d
   have⟨x,n,_⟩:=lR (l:=Fz) (i:=i) ER
   refine bW<|aQ<|aad<|bW<|vS (l:=Fz) (a:=a1) (c:=g) (enc:=cpE) (e:=131) d ET ER (by rw[aP];exact n)<|bX d fun F h d=>an (b:=F) d fun h d=>?_
   refine aA<|ai F d (v:=I x.2.1) rfl<|bM<|bC (fun V=>?_) fun A=>?_
   .have z:Fz.find? (fun x=>decide<|x.2.1=((w/2:Nat):Int))=some x:=by
     have p:i<Fz.length:=ER
     have B:Fz[i]=x:=by rw[aL p] at n;exact Option.some.inj n
     refine List.find?_eq_some_iff_getElem.2 ⟨by simpa using V,i,p,B,fun j q=>?_⟩;simpa using s j q Fz[j] (aL ER)
    unfold U2 at k
    rw[z] at k
    dsimp only at k
    refine aA<|fC ER ER<|ai F d (v:=I<|cf x.2.2.d ((w % 2:Nat):Int)) ?_<|k _ d.to
    rcases J with e|e<;>rw[e]<;>rfl
   .have T:((i:Int)+1)=((i+1:Nat):Int):=ER
    refine bW<|aac ?_
    rw[T]
    refine ih (i+1) h ER (fun j q y C=>?_) d.to
    by_cases e:j=i
    .subst e;rw[n] at C;cases C;exact A
    .exact s j ER y C
 exact loop Fz.length 0 h ER (fun j q=>ER) d.to
end Go.Proofs.Z
variable {cs:EK} {p2:Nat} {os:EL}
section
attribute [local irreducible] bQ Br sA vD vT F4 pC yQ nJ Uh iZ pV tD sH rQ pG vX Sn Rx R8 Rz R0 Xm mQ qJ kH jX Ao Jw nA Qv Ub B0 Cl Cx Xf xZ uP mK gY dD cQ
namespace Go.Proofs.Z
open Go.Hm Go.At Go.Mc Go.Ct Go.Nt Go.Is
section
open Go.Qt (Xh vF Fa QR QI QE lZ)
def aEy {t:Th}:∀{l:HN},(l.map (·.1)).Nodup->t∈l->Go.Ct.get t.1 l=some t.2
 |[],_,h=>EY
 |x::l,b,h=>by
  rw[kx,AE] at b;unfold Go.Ct.get;rw[List.find?_cons];by_cases e:x.1=t.1;rw[c8 e];rcases j2.1 h with a|a;rw[a];rfl;exact absurd (gL.2 ⟨t,a,e.symm⟩) b.1;rw[ec e];rcases j2.1 h with a|a;exact absurd (by rw[a]) e;exact aEy b.2 a
def aB9 {Cf:bT} {M:cN} {Y:AM} (hC:Cf.Ok) (p:∀i:Nat,(i:Int)<Cf.aE->kK Cf (M.aJ i)) {w:Nat} (z:w/2<Cf.aF)
  (s:∀i:Nat,(i:Int)<Cf.aE->Qt.fY Cf (M.aJ i) (w/2:Nat)->(Qt.pk Cf (M.aJ i) (w/2:Nat)).1.d=Y.mem (w/2))
  (u:(∀i:Nat,(i:Int)<Cf.aE->¬Qt.fY Cf (M.aJ i) (w/2:Nat))->(M.aK<|w/2).2=Y.mem (w/2)):U2 (Ai Cf M).Fz (Ai Cf M).mem w=iP Y.mem w:=by
 have A:=(pW hC).1
 have r:∀d:Ln,cf d ((w % 2:Nat):Int)=if w % 2=0 then d.1 else d.2:=fun d=>by
  unfold cf;by_cases e:w % 2=0;rw[aXg e,aae];rw[aXf e,aab]
 unfold U2 iP
 rw[show(Ai Cf M).Fz=qB Cf.bL.toNat M.aJ Cf.aE.toNat from rfl]
 cases hf:(qB Cf.bL.toNat M.aJ Cf.aE.toNat).find? fun x=>decide (x.2.1=((w/2:Nat):Int)) with
 |some x=>
  have c:=List.mem_of_find?_eq_some hf
  have b:x.2.1=((w/2:Nat):Int):=by simpa using List.find?_some hf
  dsimp only
  rw[r]
  have⟨i,q,c⟩:=BG.1 c
  have⟨t,ht,e⟩:=gL.1 c
  subst e
  have⟨j,hj,htj⟩:=bq.1 ht
  have a:(i:Int)<Cf.aE:=by have:=k7.1 q;omega
  have v:=(p i a).pl _ _ htj
  have f:Qt.pk Cf (M.aJ i) (w/2:Nat)=(t.2,0):=by
   have b:t.1=((w/2:Nat):Int):=b;unfold Qt.pk cI;rw[aab,<-b,v.2,aEy ((p i a).bL j).nd htj]
  have:=s i a (by unfold Qt.fY;rw[f])
  rw[f] at this
  rw[<-this]
 |none=>
  dsimp only
  rw[r]
  have o:∀i:Nat,(i:Int)<Cf.aE->¬Qt.fY Cf (M.aJ i) (w/2:Nat):=fun i q g=>by
   unfold Qt.fY Qt.pk cI at g;rw[aab] at g;cases b:Go.Ct.get ((w/2:Nat):Int) ((M.aJ i).S<|cB Cf.bL.toNat ((w/2:Nat):Int)) with
   |none=>rw[b] at g;cases g
   |some y=>
    have c:=X0 b;have l:cB Cf.bL.toNat ((w/2:Nat):Int)<Cf.bL.toNat:=by
     unfold cB;have:=BM ((w/2:Nat):Int) (show(0:Int)<(Cf.bL.toNat:Int) by omega);have:=BO ((w/2:Nat):Int) (show((Cf.bL.toNat:Nat):Int)≠0 by omega);omega
    have k:(i,(((w/2:Nat):Int),y))∈qB Cf.bL.toNat M.aJ Cf.aE.toNat:=
     BG.2 ⟨i,k7.2 ER,gL.2 ⟨_,bq.2 ⟨_,l,c⟩,rfl⟩⟩
    have:=yg.1 hf _ k;simp at this
  have n:(Ai Cf M).mem.getD (w/2) (0,0)=(M.aK<|w/2).2:=by
   show((List.range Cf.aF).map fun i=>(M.aK i).2).getD (w/2) (0,0)=_;rw[ay,gi,nh z];rfl
  rw[n,u o]
variable {G:Bg} {h:AH} {Cf:bT} {pm:Nat} {M:cN} {S:Nat->aT} {P:Nat->HO} {A0 Y:AM} {E:HR} {W:Nat->Int}
def aFb {lv t2:Value} {l:HS} (hE:QE Cf E W P) (hG:Gb G) (r:l.length<=200) (j:aAe G lv l) (p:∀N e k,N<=400->Mc.Sl Cf S N e->QR Cf E W P A0 e->Hs G k (bO G Cf m e::L)->Dd 3 16 [] Q [t2,IE m] k):
  ∀(f i:Nat) (M:cN) (h:AH),i+f=l.length->Mc.Sl Cf S (2*i) M->QR Cf E W P A0 M->Hs G h (bO G Cf m M::L)->Dd 3 14 [] Q [lv,t2,IE m,I i] h:=by
 intro f
 induction f with
 |zero=>
  intro i M h o hA g b
  exact bW (aNs j<|aQ<|aaa<|p (2*i) M h ER hA g b)
 |succ f q=>
  intro i M h o hA g b
  have⟨d,hx,_⟩:=lR (l:=l) (i:=i) ER
  have b:=aKw j b
  refine bW<|aNs j<|aQ<|aad<|bW<|aJo b ET (aH4 hx)<|aM (c:=d.enc) rfl<|dC (W:=4) (n:=1) (c:=1) b.tail rfl rfl rfl fun a h b=>?_
  exact ly (d:=d) (M:=M) hE.ok hG hA.inv ER b fun h b=>aac<|q (i+1) _ h ER (hA.sJ (d:=d) hE.ok) (g.jJ hE d) b
def aAv {t5:Value} (r:Ob G 0 fO) (hc:cs[0]?=some (I Cf.aE)) (t:1<=Cf.aE/\Cf.aE<=4) (q:∀n Y,Y.Ok->Y=Bt A0 100 Cf.aE.toNat->Hs G n (A.Fu G pm Y::aG p2 0 cs::L)->Dd 3 20 [] Q [IE p2,t5,IE pm] n):
  ∀(f i:Nat) (Y:AM) (h:AH),i+f=Cf.aE.toNat->Y.Ok->Y=Bt A0 100 i->Hs G h (A.Fu G pm Y::aG p2 0 cs::L)->Dd 3 18 [] Q [IE p2,t5,IE pm,I i] h:=by
 intro f
 induction f with
 |zero=>
  intro i Y h p g c a
  obtain rfl:i=Cf.aE.toNat:=ER
  exact bW (aA<|aA<|ai p2 a (v:=I Cf.aE) hc<|aQ<|aaa<|q h Y g c a)
 |succ f s=>
  intro i Y h p g c a
  have inner:∀(f k:Nat) (Z:AM) (h:AH),k+f=100->Z.Ok->Z=N8 (Bt A0 100 i) i k->Hs G h (A.Fu G pm Z::aG p2 0 cs::L)->Dd 3 21 [] Q [IE p2,t5,IE pm,I i,I k] h:=by
   intro f;induction f with
   |zero=>
    intro k Z h j d c a;obtain rfl:k=100:=ER
    have e:((i:Int)+1)=((i+1:Nat):Int):=ER
    refine bW<|aQ<|aaa<|bW<|aac ?_;rw[e];exact s (i+1) Z h ER d c a
   |succ f l=>
    intro k Z h j d c a;refine bW<|aQ<|aad<|bW<|A.aLt d r a fun h a=>aac ?_;have e:((k:Int)+1)=((k+1:Nat):Int):=ER
    rw[e];refine l (k+1) _ h ER (aIu d _ _) ?_ a;rw[c,Nx];rfl
  exact bW<|aA<|aA<|ai p2 a (v:=I Cf.aE) hc<|aQ<|aad<|bW<|inner 100 0 Y h ER g c a
def yn (hC:Cf.Ok) (hc:cs[0]?=some (I Cf.aE)) (q:Y.Ok) (e:Y.fA=Cf) (g:∀i:Nat,(i:Int)<Cf.aE->Y.aC i=M.aC i)
  (s:∀j,Hs G j (bO G Cf m M::A.Fu G pm Y::aG p2 0 cs::L)->Dd 3 26 [] Q [IE p2,IE m,IE pm] j):
  ∀(f i:Nat) (h:AH),i+f=Cf.aE.toNat->Hs G h (bO G Cf m M::A.Fu G pm Y::aG p2 0 cs::L)->Dd 3 22 [] Q [IE p2,IE m,IE pm,I i] h:=by
 have u:=hC.1
 intro f
 induction f with
 |zero=>
  intro i h r a
  exact bW (aA<|aA<|ai p2 a (v:=I Cf.aE) hc<|aQ<|aaa<|s h a)
 |succ f t=>
  intro i h r a
  have c:(i:Int)<Cf.aE:=ER
  have n:cN.core Cf M i=((M.aC i).core,0):=by unfold cN.core;rw[aae,aP]
  refine bW<|aA<|aA<|ai p2 a (v:=I Cf.aE) hc<|aQ<|aad<|bW<|Yg (Cf:=Cf) (M:=M) (x:=i) hC a fun h a=>?_
  rw[n]
  refine aH rfl<|aH rfl<|bX a fun k h a=>an (b:=k) a fun h a=>?_
  refine A.aIz (m:=Y) q (i:=i) (by rw[e];exact c) a fun h a=>aH rfl<|aH rfl<|bX a fun d h a=>an (b:=d) a fun h a=>?_
  refine bK<|aaa<|bK<|aaa<|am k a (l:=(M.aC i).core) rfl rfl<|am d a (l:=(Y.aC i).core) rfl rfl ?_
  rw[g i c]
  refine aHx<|cF ?_
  refine bW<|aac ?_
  have p:((i:Int)+1)=((i+1:Nat):Int):=ER
  rw[p]
  exact t (i+1) h ER a.to
def xk {pv n ov vv:Value} {ps:List (HO)} {ws vs:EL} {p:Nat} {z:Sz} {s:Sh} (x:Ob G 0 fO) (k:A.My G pv n ov vv ps ws os vs) (C:vs.length=Cf.aF*2) (r:vs.length<=80) (t:Y.Ok) (g:Y.fA=Cf)
  (hb:s.Fz.length<=1000000) (B:s.mem.length=Cf.aF) (c:∀w,w<Cf.aF*2->U2 s.Fz s.mem w=iP Y.mem w) (aw:∀{h:AH} {L:HL},Hs G h L->ID 6 [] h Q):
  ∀(f i:Nat) (h:AH),i+f=vs.length->Hs G h (Tu z.a1 z.c1 s.Fz::lnL z.a5 z.c5 s.mem::aG p 0 (shV z s)::A.Fu G pm Y::aG p2 0 (Dw Cf pv n ov vv)::L)->Dd 3 28 [] Q [IE p2,IE pm,IE p,I i] h:=by
 have d:=k.vs
 intro f
 induction f with
 |zero=>
  intro i h u a
  exact bW (aA<|ai p2 a (v:=vv) rfl<|(fun j=>Kj d j)<|aQ<|aaa<|aw a)
 |succ f y=>
  intro i h u a
  refine bW<|aA<|ai p2 a (v:=vv) rfl<|(fun j=>Kj d j)<|aQ<|aad<|bW ?_
  refine am p a (l:=shV z s) rfl rfl<|aC4 (w:=i) ER hb ER a fun h a=>aH rfl<|aH rfl ?_
  rw[c i ER]
  refine A.G2 (m:=Y) t (i:=i) (by rw[g];omega) x a fun h a=>aH rfl<|aH rfl<|cG<|cF<|bK<|aaa<|bK<|aR (fun e=>e rfl)<|bW<|aac ?_
  have q:((i:Int)+1)=((i+1:Nat):Int):=ER
  rw[q]
  exact y (i+1) h ER a.to
end
open Go.Qt (Xh vF Fa QR QI QE lZ)
def aDp:os=(lZ os).map iF.owner:=by
 unfold lZ;rw[BD];exact(List.map_id'' (fun _=>rfl) os).symm
def aFl {f:Nat->Nat}:∀{n:Nat},(∀i,i<n->f i<=32)->vF f n<=32*n
 |0,_=>ba _
 |n+1,h=>by
  have:=aFl (n:=n) fun i a=>h i ER;have:=h n ER;show vF f n+f n<=_;omega
variable {ps:List (HO)}
def aJx (h:∀p∈ps,p.length<=32):Fy ps<=32*ps.length:=by
 rw[<-Zj];refine aFl fun i a=>?_;rw[ay,aL a];exact h _<|sz _
variable {G:Bg} {h:AH} {Cf:bT}
theorem aAh {pv g ov vv lv:Value} {ws vs:EL} {l:HS} (hn:ps.length<=9223372036854775807) (R:∀p∈ps,p.length<=9223372036854775807) (hG:Gb G) (hg:Ob G 1 tF) (d:A.My G pv g ov vv ps ws os vs) (hd:aAe G lv l) (a:Hs G h L)
  (aw:∀{h:AH} {L:HL},Hs G h L->ID 6 [] h Q):ID 3 [.agg ⟨Dw Cf pv g ov vv⟩,lv] h Q:=by
 refine cW<|dY (cs:=Dw Cf pv g ov vv) a fun c h a=>am c a (l:=Dw Cf pv g ov vv) rfl rfl ?_
 refine aLk hn hG hg d a (fun h a=>Xk<|eV<|aw a) fun m h H hf a=>cZ<|cF ?_
 have⟨hC,hpc,hwc,hoc,hvc,hpr,hws,hos⟩:=B6 H
 have F:=hC.1
 have δ:=hC.2.1
 have x:∀p∈ps,p.length<=32:=fun p Z=>A.Ex<|A.Am hpr _ Z
 refine aNs hd<|nU<|bC (fun _=>aw a) fun hl=>aA<|aA<|ai c a (v:=I Cf.eT) rfl<|aQ<|bC (fun _=>aw a) fun γ=>?_
 refine am c a (l:=Dw Cf pv g ov vv) rfl rfl ?_
 refine dp hn R d a (fun α h a=>cG<|cF<|bW ?_) fun _ h a=>cG<|eV<|aw a
 refine aAc (Cf:=Cf) (p2:=c) (L:=bO G Cf m (MC.lK ⟨Cf,ps,ws,os,vs⟩)::L) F.2 hpc hwc R d aw (fun D h8 h a=>bW ?_) Cf.aE.toNat 0 h ER (fun j hj=>ER) a.to
 refine yh (Cf:=Cf) (p2:=c) (L:=bO G Cf m (MC.lK ⟨Cf,ps,ws,os,vs⟩)::L) hf.2.2.1 d aw (fun V h a=>bW ?_) os.length 0 h ER (fun j hj=>ER) a
 have hE:QE Cf (lZ os) (fun i=>ws.getD i 0) (fun i=>ps.getD i []):=Go.Qt.QE.lK hC ER hpc hwc hoc hws hos (fun i t=>(D i t).1) V (fun i j t hj=>(D i t).2 j ER) h8 α
 refine aFb (m:=m) (S:=ji ps ws) (A0:=mr Cf ps ws os vs) (L:=aG c 0 (Dw Cf pv g ov vv)::L) hE hG ER hd (fun N M h hN hA hR a=>?_) l.length 0 _ h ER (Vr H) (Go.Qt.QR.lK hE rfl rfl<|sw H) a.to
 refine bW<|am c a (l:=Dw Cf pv g ov vv) rfl rfl<|aCw ER (fun p Z=>by have:=x p Z;omega) d a fun h a=>?_
 have hT:vF (fun i=>(ps.getD i []).length) Cf.aE.toNat=Fy ps:=by rw[<-hpc];exact Zj
 have β:=aJx x
 have J:=hR.qi.aTy hE
 rw[hT] at J
 refine Zw (S:=ji ps ws) (M:=M) (most:=1000*(2+Fy ps)) hC hG hA ER a fun h a=>?_
 obtain⟨n,q,e1,y,O⟩:=hR.Fw hE (f:=1000*(2+Fy ps)) (k:=0) J
 rw[e1] at a ⊢
 dsimp only at a ⊢
 rw[O]
 obtain⟨N1,r⟩:=y.qi.mi
 obtain⟨T,u⟩:=y.aW6 hE O (Go.Qt.Ht.lK hE rfl rfl) rfl aDp fun i t=>rfl
 refine aH rfl<|aH rfl<|aA<|am c a (l:=Cf.enc) rfl rfl<|aA<|ai c a (v:=pv) rfl<|aA<|ai c a (v:=g) rfl<|aA<|ai c a (v:=ov) rfl<|aA<|ai c a (v:=vv) rfl ?_
 refine A.aGv ER hG.Gj hg d a (fun e=>absurd H e) fun _ pm h a=>aH rfl<|aH rfl<|cG<|cF<|bK<|aaa<|cZ<|cF<|bW ?_
 refine aAv (Cf:=Cf) (A0:=mr Cf ps ws os vs) (pm:=pm) (p2:=c) (cs:=Dw Cf pv g ov vv) (L:=bO G Cf m q::L) hG.Gj rfl F (fun h Y hY C a=>bW ?_) Cf.aE.toNat 0 _ h ER (A.aK2 H) rfl a.to
 have B:Y.fA=Cf:=by rw[C];exact Hy _
 rw[<-C] at T u
 refine yn (M:=q) (m:=m) (Y:=Y) (pm:=pm) (p2:=c) (cs:=Dw Cf pv g ov vv) (L:=L) hC rfl hY B T (fun h a=>bW ?_) Cf.aE.toNat 0 h ER a.to
 refine uc (M:=q) hC hG.Gj (aI2.of hC r) a fun z h a=>bX a fun p h a=>an (b:=p) a fun h a=>?_
 have a:=a.aN<|shR z<|Ai Cf q
 have a:Hs G h (sp (shB z<|Ai Cf q)::_):=a
 have a:=a.un5
 have U:(Ai Cf q).Fz.length<=1000000:=by
  have:=Ke (n:=Cf.bL.toNat) (b:=32) (X:=q.aJ) (k:=Cf.aE.toNat) fun i t=>by
   rw[Q7];have:=Cb (r.Jt i ER).bL Cf.bL.toNat;have h3:=hC.2.2.1;have h4:=hC.2.2.2.1;have:Cf.bL.toNat*Cf.ways.toNat<=8*4:=DJ ER ER;omega
  show(qB Cf.bL.toNat q.aJ Cf.aE.toNat).length<=_;omega
 refine xk (Cf:=Cf) (Y:=Y) (pm:=pm) (p2:=c) (p:=p) (z:=z) (s:=Ai Cf q) (L:=L) hG.Gj d hvc hf.2.2.2 hY B U (by simp[Ai]) (fun w hw=>?_) aw vs.length 0 h ER a.to
 exact aB9 hC r.Jt ER (fun i t hh=>(u (w/2) ER).1 i t hh) (u (w/2) ER).2
end Go.Proofs.Z
end
variable {f:Nat->EK}
namespace Go.Proofs.Z
open Go.Hm Go.At Go.Mc Go.Ct Go.Nt Go.Is
def aRj (b:k (.bool true)) {a:Bool} (hc:a=true:=by kernel_rfl):R0 a [0,0] .eql (.agg ⟨[I 0,I 0]⟩) (.agg ⟨[I 0,I 0]⟩) k:=⟨hc,_,rfl,b⟩
attribute [local irreducible] bQ Br sA vD vT F4 pC yQ nJ Uh iZ pV tD sH rQ pG vX Sn Rx R8 Rz R0 Xm mQ qJ kH jX Ao Jw nA Qv Ub B0 Cl Cx Xf xZ uP mK gY dD cQ
variable {G:Bg} {h:AH} {L1 L2 L3 L4 L5:HL}
def aTh (hG:Gb G) (b:Ob G 1 Go.Is.tF) (a:Hs G h L):∃σ E Z,Js Pr 12 σ gls E Z h:=by
 have l0:Ob G 0 _root_.Go.Proofs.Z.fO:=um▸hG.Gj;have l1:Ob G 1 _root_.Go.Proofs.Z.tF:=uk▸b;have c:Ob G 6 _root_.Go.Proofs.Z.Wh:=tj▸hG.U0;refine⟨_,_,_,Vt (P:=Pr) (g:=12) (sl:=[(0,0,0),(1,0,0),(2,0,0),(3,0,0),(4,0,0),(5,0,0),(6,0,0),(7,0,0),(8,0,0),(9,0,0),(10,0,0),(11,0,0)])
  ⟨Il a l0 ?_,Il a l1 ?_,Il a c ?_,trivial⟩ EU ⟨HA,ET⟩ aOc⟩
 all_goals
  repeat' first|exact trivial|exact rfl|refine⟨?_,?_⟩
def aTr {a4 a5:EN} {d c3 c4 c5:Nat} (hG:Gb G) (q:Ob G 1 Go.Is.tF) (c:Hs G h (Tu a1 d [(0,(0,⟨4,1,(5,0)⟩))]::gn a2 c2 [(0,(0,1))]::enL a3 c3 [⟨1,false⟩]::X9 a4 c4 []::lnL a5 c5 [(0,0),(0,0)]::L)):
  ∃b σ E Z,Js Pr 12 σ LB E Z h/\Rcs σ (aS b) (A5 a1 1 d a2 1 c2 a3 1 c3 a4 0 c4 a5 2 c5):=by
 have l0:Ob G 0 _root_.Go.Proofs.Z.fO:=um▸hG.Gj
 have l1:Ob G 1 _root_.Go.Proofs.Z.tF:=uk▸q
 have r:Ob G 6 _root_.Go.Proofs.Z.Wh:=tj▸hG.U0
 obtain⟨j,s,p1,rfl,rfl,s1⟩:=Mf (P:=Pr) (enc:=cpE) (W:=6) (e:=131) (a:=a1) (cap:=d) (l:=[(0,(0,⟨4,1,(5,0)⟩))]) c ET EU
 obtain⟨k,t,w,rfl,rfl,s2⟩:=Mf (P:=Pr) (enc:=knE) (W:=3) (e:=135) (a:=a2) (cap:=c2) (l:=[(0,(0,1))]) c ET EU
 obtain⟨n,u,x,rfl,rfl,s3⟩:=Mf (P:=Pr) (enc:=iF.enc) (W:=2) (e:=137) (a:=a3) (cap:=c3) (l:=[⟨1,false⟩]) c ET EU
 obtain⟨o,v,y,rfl,rfl,z⟩:=Mf (P:=Pr) (enc:=qZ) (W:=2) (e:=123) (a:=a5) (cap:=c5) (l:=[(0,0),(0,0)]) c ET EU
 have i:∃b:Bool,∀σ:Sg,Rcs σ [bif b then .slice none 0 0 else .slice (some ⟨0,0,some 0⟩) 0 0] [.slice a4 0 c4]:=by
  refine(Yw (W:=9) (e:=146) (a:=a4) (cap:=c4) (cs:=[])<|show Hs G h (dJ 9 146 a4 c4 (0,[])::_) from c.aN<|X9 a4 c4 []).elim (fun⟨f,p⟩=>?_) fun⟨A,f⟩=>?_;subst f p;exact⟨true,fun σ=>⟨rfl,trivial⟩⟩;subst f;exact⟨false,fun σ=>⟨⟨_,_,rfl⟩,trivial⟩⟩
 obtain⟨b,i⟩:=i
 refine⟨b,_,_,_,Vt (P:=Pr) (g:=12) (sl:=[(0,0,0),(1,0,0),(2,0,0),(3,0,0),(4,0,0),(5,0,0),(6,0,0),(7,0,0),(8,0,0),(9,0,0),(10,0,0),(11,0,0),(j,s,p1),(k,t,w),(n,u,x),(o,v,y)])
  ⟨Il c l0 ?_,Il c l1 ?_,Il c r ?_,s1 ?_,s2 ?_,s3 ?_,z ?_,trivial⟩ EU ⟨HA,ET⟩ aOc,rfl,rfl,rfl,(i _).1,rfl,trivial⟩
 all_goals
  repeat' first|exact trivial|exact rfl|refine⟨?_,?_⟩
def Y7 {C:bT} {S:Nat->aT} (hC:C.Ok):∀{f k N:Nat} {M:cN},Mc.Sl C S N M->∃a,Mc.Sl C S a (M.Fw C f k).2
 |0,_,N,_,h=>⟨N,h⟩
 |f+1,k,N,M,h=>by
  rw[cN.Fw];split;exact⟨N,h⟩;split;exact⟨_,(O8 hC h).all⟩;exact Y7 hC (O8 hC h).all
abbrev shA:Sh:=⟨[(0,(0,⟨4,1,(5,0)⟩))],[(0,(0,1))],[⟨1,false⟩],[],[(0,0),(0,0)]⟩
def aSz:Ai cA MA=shA:=EU
theorem Gb.mono {b:Bg} (a:G.Le b) (h:Gb G):Gb b:=⟨h.Gj.mono a,h.kin.mono a,h.U0.mono a⟩
def H9 {W c n:Nat} (r:0<W) (t:Hs G h L) [m:dH (dJ W e a c) L (n,cs) L'] (s:∀i,i<n->(cs.drop<|i*W).take W=f i):wM (frz G h) W (.slice a n c) n f:=by
 obtain⟨a,c,e,k⟩:=aL4 r<|m.of t;exact⟨a,c,e,fun i d=>by obtain⟨b,o,l,g,j,p,q⟩:=k i d;exact⟨b,o,l,g,j,p.trans<|s i d,q⟩⟩
def aRo {a1 a2 a3 a4 a5:Addr} (b:Hs G h L) [m1:dH (dJ 1 34 (some a1) 1) L (1,[.slice (some a5) 3 3]) L1] [m2:dH (dJ 1 3 (some a2) 1) L (1,[I 1]) L2] [m3:dH (dJ 1 3 (some a3) 1) L (1,[I 1]) L3] [m4:dH (dJ 1 3 (some a4) 4) L (4,zA) L4] [m5:dH (dJ 4 69 (some a5) 3) L (3,prA) L5]:
  A.My (frz G h) (.slice (some a1) 1 1) (.slice (some a2) 1 1) (.slice (some a3) 1 1) (.slice (some a4) 4 4) [iA] [1] [1] [0,0,0,0]:=by
 have rG:∀{i:Nat},i<1->i=0:=fun h=>ER
 refine⟨⟨[.slice (some a5) 3 3],rfl,H9 (e:=34) (cs:=[.slice (some a5) 3 3]) ET b fun i a=>?_,fun i u q c d=>?_⟩,H9 (e:=3) (cs:=[I 1]) ET b fun i a=>?_,H9 (e:=3) (cs:=[I 1]) ET b fun i a=>?_,H9 (e:=3) (cs:=zA) ET b fun i a=>?_⟩
 .cases rG a;rfl
 .match i with
  |0=>
   cases c;cases d
   refine H9 (e:=69) (cs:=prA) ET b fun i a=>?_
   have:i=0\/i=1\/i=2:=ER
   rcases this with rfl|rfl|rfl<;>rfl
  |i+1=>cases c
 .cases rG a;rfl
 .cases rG a;rfl
 .have:i=0\/i=1\/i=2\/i=3:=ER
  rcases this with rfl|rfl|rfl|rfl<;>rfl
def Lr:Fv cA [iA] [1] [1] [0,0,0,0]=0:=EU
def aRv:cN.core cA MA 0=([I 0,I 5,I 5,I 0,I 3,I 1,.bool true],0):=EU
attribute [local irreducible] MA
theorem aFu (hG:Gb G) (r:Ob G 1 Go.Is.tF) (g:Hs G h L) (B:∀A,Q (.bool true) A):ID 6 [] h Q:=by
 refine cW<|uL (F:=FP aOu) rfl (aXg ⟨rfl,aTh hG r g⟩) ?_;have g:=aOb (W:=4) (n:=3) (e:=69) (c:=prA) (x:=false) g rfl rfl;obtain⟨n0,w⟩:∃n,n=h.next:=⟨_,rfl⟩
 rw[<-w] at g ⊢;refine aH rfl<|aH rfl<|aH rfl<|aM (c:=cA.enc) rfl<|aM (c:=[.slice (some ⟨n0,0,none⟩) 3 3]) rfl<|dC (W:=1) (l:=[.slice (some ⟨n0,0,none⟩) 3 3]) (n:=1) (c:=1) g rfl rfl rfl fun a1 h g=>?_;refine aM (c:=[I 1]) rfl<|dC (W:=1) (l:=[I 1]) (n:=1) (c:=1) g rfl rfl rfl fun i h g=>aM (c:=[I 1]) rfl<|dC (W:=1) (l:=[I 1]) (n:=1) (c:=1) g rfl rfl rfl fun a3 h g=>tf (n:=4) ET ET<|dC (W:=1) (l:=zA) (n:=4) (c:=4) g rfl rfl rfl fun a4 h g=>?_;refine aM (c:=Dw cA (.slice (some a1) 1 1) (.slice (some i) 1 1) (.slice (some a3) 1 1)<|.slice (some a4) 4 4) rfl<|bX g fun p h g=>an (b:=p) g fun h g=>am p g (l:=Dw cA (.slice (some a1) 1 1) (.slice (some i) 1 1) (.slice (some a3) 1 1)<|.slice (some a4) 4 4) rfl rfl ?_;refine r9 (G:=frz G h) (Cf:=cA) (L:=[]) EV (hG.mono g.aN1) (r.mono g.aN1) (aRo g) g.frz (fun e=>absurd Lr e) fun _ m h t=>?_;have g:Hs G h ([bO (frz G _) cA m mA]++_):=g.aUv t;simp only[hK,hZ] at g;have g:Hs G h (bO G cA m mA::_):=g;refine aH rfl<|aH rfl<|bK<|aaa<|bK<|aaa<|cZ<|cF<|bW ?_;refine Zw (Cf:=cA) (m:=m) (M:=mA) (S:=ji [iA] [1]) (N:=0) (most:=100) (B6 Lr).1 hG (Vr Lr) ER g fun h g=>?_;rw[aMp] at g ⊢;rw[aTj];refine aH rfl<|aH rfl<|Yg (Cf:=cA) (M:=MA) (x:=0) (B6 Lr).1 g fun h g=>?_;rw[aRv];refine aH rfl<|aH rfl<|bX g fun u h g=>an (b:=u) g fun h g=>bD g fun H h g=>aA<|am p g (l:=cA.enc) rfl rfl ?_;obtain⟨D,j⟩:=Y7 (B6 Lr).1 (f:=100) (k:=0)<|Vr Lr;rw[aMp] at j;refine uc (Cf:=cA) (M:=MA) (B6 Lr).1 hG.Gj (aI2.of (B6 Lr).1 j.inv) g fun z h g=>?_;rw[aSz] at g ⊢;have g:Hs G h (sp (shB z shA)::_):=g.aN<|shR z shA;have g:=g.un5;have C:=g;obtain⟨b,σ,E,Z,s,e⟩:=aTr hG r g;refine uL (F:=FC cA.enc<|shV z shA) rfl (aXg ⟨b,σ,E,Z,s,rfl,e⟩) ?_;refine aH rfl<|aH rfl<|lF g rfl rfl fun q h g=>an (b:=q) g fun h g=>?_;refine dB (aA dP)<|dB (am p C (l:=cA.enc) rfl rfl GW)<|dB (aH rfl jN)<|eV<|bM<|bU rfl ?_;refine aA<|fC ER ER<|ai u g (v:=I 5) rfl<|bM<|bU rfl<|aId (Cf:=cA) (M:=MA) g fun h g=>?_;rw[aTd];refine bM<|bU rfl<|am q g (l:=[I 0,I 0]) rfl rfl<|aM (c:=[I 0,I 0]) rfl<|aRj<|eV<|bM<|bU rfl ?_;refine am p g (l:=Dw cA (.slice (some a1) 1 1) (.slice (some i) 1 1) (.slice (some a3) 1 1)<|.slice (some a4) 4 4) rfl rfl ?_;obtain⟨a,b,c,d,σ,E,Z,s,e,y⟩:=aT2 (L:=L) (m:=m) (a1:=a1) (a2:=i) (a3:=a3) (a4:=a4) (a5:=⟨n0,0,none⟩) hG r g.to;exact uL (F:=FH _ m) rfl (aXg ⟨a,b,c,d,σ,E,Z,s,e,y⟩)<|B _
end Go.Proofs.Z
