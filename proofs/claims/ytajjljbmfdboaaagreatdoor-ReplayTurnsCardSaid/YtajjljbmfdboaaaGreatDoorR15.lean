/- A part of the proof. -/
import Derived.Test.YtajjljbmfdboaaaGreatDoorR13
import Derived.Test.YtajjljbmfdboaaaGreatDoorR14
import Derived.Test.YtajjljbmfdboaaaGreatDoorR10
import Derived.Test.YtajjljbmfdboaaaGreatDoorR12
import Derived.Test.YtajjljbmfdboaaaGreatDoorR11
section
open Go Go.Ab
attribute [local irreducible] bG Br pK sD tZ Cq mN wW lR Rs gX mT rA rG pJ kU zA vE V9 V4 Ro Ps Vv Qm Jp Nb Vm lB oL tX jK copyV iQ xK V7 V8 Hn lG Nc Sp V2 oA rY yU Ao Cl yO Vx tE sC kJ hT setLoop cT
namespace Go.Proofs.YtajjljbmfdboaaaGreatDoor
open Go Go.Ab Go.Hm Go.At Go.Mc Go.Ct
section
instance:Fx Ev.enc 7 where
 len _:=rfl
 cel _:=rfl
structure MN where
 lc:List Nat
 lk:List Nat
 lq:List Nat
 ac:Option Addr
 ak:Option Addr
 aq:Option Addr
 al:Option Addr
 cc:Nat
 ck:Nat
 cq:Nat
 cl:Nat
 hb:Nat
 mb:Nat
 fb:Nat
def fJ (Cf:bP) (x:MN) (n:Nat):List Value:=Cf.enc++[.slice x.ac x.lc.length x.cc,.slice x.ak x.lk.length x.ck,.slice x.aq x.lq.length x.cq,pt x.hb 0 0,pt x.mb 0 0,pt x.fb 0 0,.slice x.al n x.cl]
def dw (Cf:bP) (x:MN):Prop:=x.lc.length=Cf.aE.toNat/\x.lk.length=Cf.aE.toNat/\x.lq.length=Cf.aE.toNat
abbrev tG:Nat->Nat->aK->HP:=fun i p s=>mE i p s
abbrev rP (G:Bg) (Cf:bP):Nat->Nat->gV->HP:=fun i p s=>C.gY G p Cf i s
abbrev qA (Cf:bP):Nat->Nat->kE->HP:=fun _ p s=>kN p Cf s
abbrev B5 (a:Option Addr) (c:Nat) (l:List Ev):HP:=ls Ev.enc 7 80 a c l
abbrev mh (a:Option Addr) (c:Nat) (l:List Nat):HP:=ls pE 1 75 a c l
abbrev V6 (a:Option Addr) (c:Nat) (l:List Nat):HP:=ls pE 1 137 a c l
abbrev V3 (a:Option Addr) (c:Nat) (l:List Nat):HP:=ls pE 1 140 a c l
def Pv (G:Bg) (Cf:bP) (m:Nat) (M:dB) (x:MN):List HP:=[B6 (dw Cf x),aG m 0 (fJ Cf x M.log.length),mh x.ac x.cc x.lc,V6 x.ak x.ck x.lk,V3 x.aq x.cq x.lq,
  rZ tG x.lc M.aC,rZ (rP G Cf) x.lk M.dG,rZ (qA Cf) x.lq M.cQ,H.gM G x.hb Cf M.home,fV Cf x.mb M.cE,vF Cf x.fb M.kM,B5 x.al x.cl M.log]
def wK (G:Bg) (Cf:bP) (m:Nat) (x:MN) (M:dB):HP:=sp (Pv G Cf m M x)
def bX (G:Bg) (Cf:bP) (m:Nat) (M:dB):HP:=vD fun x:MN=>sp (Pv G Cf m M x)
set_option maxRecDepth 100000
variable {G:Bg} {h:AH} {L L':List HP} {Q:Value->AH->Prop} {Cf:bP} {m:Nat} {M:dB}
theorem dC (a:Hs G h (bX G Cf m M::L)):∃x,dw Cf x/\Hs G h (aG m 0 (fJ Cf x M.log.length)::mh x.ac x.cc x.lc::V6 x.ak x.ck x.lk::V3 x.aq x.cq x.lq::
  rZ tG x.lc M.aC::rZ (rP G Cf) x.lk M.dG::rZ (qA Cf) x.lq M.cQ::H.gM G x.hb Cf M.home::fV Cf x.mb M.cE::vF Cf x.fb M.kM::B5 x.al x.cl M.log::L):=by
 obtain⟨x,a⟩:=a.B4
 obtain⟨b,a⟩:=Hs.xw a.unpack
 exact⟨x,b,a⟩
theorem xH {x:MN} (a:dw Cf x) (b:Hs G h (aG m 0 (fJ Cf x M.log.length)::mh x.ac x.cc x.lc::V6 x.ak x.ck x.lk::V3 x.aq x.cq x.lq::
  rZ tG x.lc M.aC::rZ (rP G Cf) x.lk M.dG::rZ (qA Cf) x.lq M.cQ::H.gM G x.hb Cf M.home::fV Cf x.mb M.cE::vF Cf x.fb M.kM::B5 x.al x.cl M.log::L)):Hs G h (bX G Cf m M::L):=
 Hs.zX (A:=fun x:MN=>sp (Pv G Cf m M x)) x (Hs.pack (A:=Pv G Cf m M x) (Hs.Sz a b))
theorem bM {x:MN} (M:dB) (p:dw Cf x) {e L2 f g i j k l o a b:List HP} (q:Hs G h L) [r:dY (aG m 0 (fJ Cf x M.log.length)) L e] [s:dY (mh x.ac x.cc x.lc) e L2] [t:dY (V6 x.ak x.ck x.lk) L2 f] [u:dY (V3 x.aq x.cq x.lq) f g] [v:dY (rZ tG x.lc M.aC) g i] [w:dY (rZ (rP G Cf) x.lk M.dG) i j] [y:dY (rZ (qA Cf) x.lq M.cQ) j k] [z:dY (H.gM G x.hb Cf M.home) k l] [A:dY (fV Cf x.mb M.cE) l o] [c:dY (vF Cf x.fb M.kM) o a] [d:dY (B5 x.al x.cl M.log) a b]:Hs G h (bX G Cf m M::b):=
 xH (x:=x) p (q.perm (r.perm.trans ((s.perm.trans ((t.perm.trans ((u.perm.trans ((v.perm.trans ((w.perm.trans ((y.perm.trans ((z.perm.trans ((A.perm.trans ((c.perm.trans ((d.perm).cons _)).cons _)).cons _)).cons _)).cons _)).cons _)).cons _)).cons _)).cons _)).cons _)))
theorem Cw {x:MN} (M:dB) (p:dw Cf x) {e L2 f g i j k l o a b:List HP} (q:Hs G h L) [r:dY (aG m 0 (fJ Cf x M.log.length)) L e] [s:dY (mh x.ac x.cc x.lc) e L2] [t:dY (V6 x.ak x.ck x.lk) L2 f] [u:dY (V3 x.aq x.cq x.lq) f g] [v:dY (rZ tG x.lc M.aC) g i] [w:dY (rZ (rP G Cf) x.lk M.dG) i j] [y:dY (rZ (qA Cf) x.lq M.cQ) j k] [z:dY (H.gM G x.hb Cf M.home) k l] [B:dY (fV Cf x.mb M.cE) l o] [c:dY (vF Cf x.fb M.kM) o a] [d:dY (B5 x.al x.cl M.log) a b]:Hs G h (wK G Cf m x M::b):=
 Hs.pack (A:=Pv G Cf m M x) (Hs.Sz p (q.perm (r.perm.trans ((s.perm.trans ((t.perm.trans ((u.perm.trans ((v.perm.trans ((w.perm.trans ((y.perm.trans ((z.perm.trans ((B.perm.trans ((c.perm.trans ((d.perm).cons _)).cons _)).cons _)).cons _)).cons _)).cons _)).cons _)).cons _)).cons _)).cons _))))
theorem yJ {x:MN} (a:Hs G h (wK G Cf m x M::L)):dw Cf x/\Hs G h (aG m 0 (fJ Cf x M.log.length)::mh x.ac x.cc x.lc::V6 x.ak x.ck x.lk::V3 x.aq x.cq x.lq::
  rZ tG x.lc M.aC::rZ (rP G Cf) x.lk M.dG::rZ (qA Cf) x.lq M.cQ::H.gM G x.hb Cf M.home::fV Cf x.mb M.cE::vF Cf x.fb M.kM::B5 x.al x.cl M.log::L):=Hs.xw a.unpack
theorem aE2 (a:Hs G h (bX G Cf m M::L)):∃x,Hs G h (wK G Cf m x M::L):=a.B4
theorem aC0 {x:MN} (a:Hs G h (wK G Cf m x M::L)):Hs G h (bX G Cf m M::L):=Hs.zX (A:=fun x:MN=>sp (Pv G Cf m M x)) x a
theorem R6 {a:Option Addr} {c i:Nat} {l:List Nat} {k:Value->Prop} (f:Hs G h L) [g:Has (mh a c) L l L'] (b:i<l.length) (d:k (pt (l.getD i 0) 0 0)):bG (lB 1 (.slice a l.length c) (I i)) fun p=>bG (pK h p) k:=
 xp (e:=75) (show Hs G h (mh a c l::L') from g.of f) b d
theorem Lf {a:Option Addr} {c i:Nat} {l:List Nat} {k:Value->Prop} (f:Hs G h L) [g:Has (V6 a c) L l L'] (b:i<l.length) (d:k (pt (l.getD i 0) 0 0)):bG (lB 1 (.slice a l.length c) (I i)) fun p=>bG (pK h p) k:=
 xp (e:=137) (show Hs G h (V6 a c l::L') from g.of f) b d
theorem bu {a:Option Addr} {c i q:Nat} {l:List Nat} {k:AH->Prop} (g:Hs G h L) [j:Has (V6 a c) L l L'] (d:i<l.length) (f:∀b,Hs G b (V6 a c (l.set i q)::L')->k b):bG (lB 1 (.slice a l.length c) (I i)) fun p=>bG (tZ h 1 p (pt q 0 0)) k:=
 vp (e:=137) (show Hs G h (V6 a c l::L') from j.of g) d f
theorem Mb {a:Option Addr} {c i:Nat} {l:List Nat} {k:Value->Prop} (f:Hs G h L) [g:Has (V3 a c) L l L'] (b:i<l.length) (d:k (pt (l.getD i 0) 0 0)):bG (lB 1 (.slice a l.length c) (I i)) fun p=>bG (pK h p) k:=
 xp (e:=140) (show Hs G h (V3 a c l::L') from g.of f) b d
theorem Q6 {a:Option Addr} {c i q:Nat} {l:List Nat} {k:AH->Prop} (g:Hs G h L) [j:Has (V3 a c) L l L'] (d:i<l.length) (f:∀b,Hs G b (V3 a c (l.set i q)::L')->k b):bG (lB 1 (.slice a l.length c) (I i)) fun p=>bG (tZ h 1 p (pt q 0 0)) k:=
 vp (e:=140) (show Hs G h (V3 a c l::L') from j.of g) d f
theorem I1 {l:List Nat} {s:Nat->aK} {i:Nat} {t:aK} (a:i<l.length) (b:Hs G h L) [k:dY (mE i (l.getD i 0) t) L L'] {N:List HP} [c:dY (Km tG l s i) L' N]:Hs G h (rZ tG l (aS s i t)::N):=Mu a (b.cI (mE i (l.getD i 0) t) (Km tG l s i))
theorem Qc {a:Option Addr} {c:Nat} {l:List Ev} {v:Ev} {a2:Option Addr} {c2:Nat} {k:Value×AH->Prop} {N:List HP} (hb:l.length<=2^30) (b:Hs G h L) [o:Has (B5 a c) L l L'] [j:dY (B5 a2 c2 [v]) L' N]
  (i:∀d e g,Hs G g (B5 d e (l++[v])::N)->k (.slice d (l++[v]).length e,g)):bG (jK 7 56 80 h (.slice a l.length c) (.slice a2 1 c2)) k:=by
 have b:=o.of b
 have f:Hs G h (B5 a c l::B5 a2 c2 [v]::N):=b.perm (j.perm.cons _)
 exact uM (l:=l) (l2:=[v]) (a:=a) (c:=c) (a2:=a2) (c2:=c2) f (by simp;omega) fun d e h b=>i d e h b.lK.tail
end
section
set_option maxRecDepth 100000
variable {G:Bg} {h:AH} {L L':List HP} {Q:Value->AH->Prop} {Cf:bP} {m:Nat} {M:dB}
theorem nN {i:Nat} {v c:Int} (H:(i:Int)<Cf.aE) (C:(M.aC i).Ok) (k:M.log.length<=2^30) (d:Hs G h L) [E:Has (bX G Cf m) L M L'] (g:∀B,Hs G B (bX G Cf m (M.bI i v c).1::L')->Q (I (M.bI i v c).2) B):Cl Pr K 161 [pt m 0 0,I i,I v,I c] h Q:=by
 obtain⟨x,A,d⟩:=dC (E.of d);have f:i<x.lc.length:=by have:=A.1;omega
 unfold dB.bI at g;refine cW (aB (aA (am m d rfl (R6 d f ?_))));have d:=jC (R:=tG) (l:=x.lc) (s:=M.aC) f d;refine j4 (i:=i) (p:=x.lc.getD i 0) (s:=M.aC i) C d fun h d=>?_;have d:=I1 (l:=x.lc) (s:=M.aC) (i:=i) (t:=(aK.bI (M.aC i) i v c).1) f d;refine aH rfl (aH rfl (bQ d fun q h d=>ax (b:=q) d fun h d=>bC (aX (fun u=>?_) (fun u=>?_))));rw[aJ7 u] at g;refine g _ ?_;have e:aS M.aC i (aK.bI (M.aC i) i v c).1=M.aC:=by
  have:(aK.bI (M.aC i) i v c).1=M.aC i:=by
   unfold aK.bI at u ⊢;cases hn:aK.next? (M.aC i) with
   |none=>rfl
   |some y=>grind
  rw[this];funext j;unfold aS;split;rename_i e;rw[e];rfl
 rw[e] at d;exact xH A d.to;rw[aJ6 u] at g;refine bW (aY d fun F h d=>aB (aA (am m d rfl (an q d (l:=(aK.bI (M.aC i) i v c).2.1.enc) rfl rfl (aQ (c:=(aK.bI (M.aC i) i v c).2.1.enc) rfl ?_)))));refine jV (r:=F) (i:=6) (N:=11) (D:=[]) (W:=7) d rfl rfl rfl rfl rfl fun a h d=>?_;have d:=xV (enc:=Ev.enc) (x:=(aK.bI (M.aC i) i v c).2.1) d;refine Qc (l:=M.log) (v:=(aK.bI (M.aC i) i v c).2.1) k d fun w z h d=>aB (aA (ay (b:=m) (o:=0) d fun h d=>bT bZ (g _ ?_)));have e:dN (fJ Cf x M.log.length) (0+13) [.slice w (M.log++[(aK.bI (M.aC i) i v c).2.1]).length z]=fJ Cf {x with al:=w,cl:=z} (M.log++[(aK.bI (M.aC i) i v c).2.1]).length:=rfl;rw[e] at d;exact xH (M:=(M.iZ i (aK.bI (M.aC i) i v c).1).Rt (aK.bI (M.aC i) i v c).2.1) (x:={x with al:=w,cl:=z}) A d.to
end
section
set_option maxRecDepth 100000
variable {G:Bg} {h:AH} {L L':List HP} {Q:Value->AH->Prop} {Cf:bP} {m:Nat} {x:MN} {M:dB}
abbrev wtX (G:Bg) (Cf:bP) (m:Nat) (x:MN) (M:dB) (p2 a c:Nat) (co:Int) (e:Nat->Value) (d l:Nat) (st:LoopState×Option Code) (b:Bool) (pr:Prop):HP:=
 sp [B6 pr,pH Pr 20 (pD 58) 32 e d l st,sp [aG p2 0 [pt m 0 0],aG a 0 [I co],aG c 0 [.bool b]],wK G Cf m x M]
theorem jm {co:Int} (hm:iA Cf M.cE) (f:Hs G h L) [mm:Has (wK G Cf m x) L M L'] (w:∀U,Hs G U (wK G Cf m x M::L')->Q (.bool (M.waits co)) U):Cl Pr K 20 [pt m 0 0,I co] h Q:=by
 unfold dB.waits at w;refine cW (dR (mm.of f) fun j h f=>dR f fun s h f=>bQ f fun i h f=>am j f rfl (dD (cG ?_)));obtain⟨R,f⟩:=yJ (f.front (wK G Cf m x M));refine bW (am j f rfl (aB (aA (am m f rfl (Du (C:=Cf) (m:=M.cE) f fun q Y qc h f=>?_)))));have f:=Cw (m:=m) (x:=x) M R f;refine oF f fun d h f=>?_;intro e he;refine sV f fun l h f=>Ah rfl ?_;have f:Hs G h (H.Ni 3 q Y qc (M.cE.running.map fun k:Nat=>(k:Int))::wtX G Cf m x M j s i co e d l (.ready,none) false (∀g∈([]:List Int),M.cE.lX co g.toNat=false)::mk d ()::L'):=by
  have f:=(f.cZ (aG j 0 [pt m 0 0]) (aG s 0 [I co]) (aG i 0 [.bool false])).V5;have f:=f.cZ (pH Pr 20 (pD 58) 32 e d l (.ready,none)) (sp [aG j 0 [pt m 0 0],aG s 0 [I co],aG i 0 [.bool false]]) (wK G Cf m x M);have f:=Hs.M8 (Hs.Sz (p:=∀g∈([]:List Int),M.cE.lX co g.toNat=false) (by simp) f);exact f.to
 refine(H.Fy (e:=3) (p:=q) (a:=Y) (c:=qc) (xs:=M.cE.running.map fun k:Nat=>(k:Int)) (by have:=List.length_filter_le (fun g=>(M.cE.runs g).isSome) (List.range 16);simp[Mon.running] at this ⊢;omega)).fold
  (X:=fun done=>wtX G Cf m x M j s i co e d l (.ready,none) false (∀g∈done,M.cE.lX co g.toNat=false)) (Z:=fun _ y=>wtX G Cf m x M j s i co e d l (.done,some .ret) true (y∈(M.cE.running.map fun k:Nat=>(k:Int))/\M.cE.lX co y.toNat=true)) f ?_ ?_ ?_
 .intro done y h N V f;obtain⟨u,f⟩:=iD f;have f:=f.D2;obtain⟨k,z,rfl⟩:∃k∈M.cE.running,(k:Int)=y:=by
   obtain⟨ys,T⟩:=V;have:y∈M.cE.running.map fun k:Nat=>(k:Int):=by rw[<-T];simp
   obtain⟨k,h1,h2⟩:=List.mem_map.1 this;exact⟨k,h1,h2⟩
  obtain⟨r,E⟩:=Option.isSome_iff_exists.1 (qY.1 z).2;have B:M.cE.run (k:Int)=some r:=by unfold Mon.run;rw[aac];exact E
  have A:M.cE.phase (k:Int)≠0:=by
   unfold Mon.phase;rw[B];have:=(hm.run k r E).2.2.1;dsimp only;omega
  have f:=(f.front (sp [aG j 0 [pt m 0 0],aG s 0 [I co],aG i 0 [.bool false]])).D2;obtain⟨R,f⟩:=yJ (f.front (wK G Cf m x M));refine rW (Aa f) he (lT f fun h f=>am j f rfl (aB (aA (am m f rfl (aFh (C:=Cf) (m:=M.cE) f fun a h f J α β=>?_)))));rw[J A,B,decide_eq_true A];have f:=Cw (m:=m) (x:=x) M R f;refine aH rfl (aH rfl (bQ f fun W h f=>bE (b:=W) (vs:=zG r) f rfl rfl rfl rfl fun h f=>eU (aA (am W f rfl (am s f rfl (bH (aX (fun F=>?_) (fun F=>?_))))))));refine ax (b:=i) f fun h f=>mD f fun h f=> .inr ⟨rfl,?_⟩;have f:=(f.cZ (aG j 0 [pt m 0 0]) (aG s 0 [I co]) (aG i 0 [.bool true])).V5;have f:=f.cZ (pH Pr 20 (pD 58) 32 e d l (.done,some .ret)) (sp [aG j 0 [pt m 0 0],aG s 0 [I co],aG i 0 [.bool true]]) (wK G Cf m x M);refine(Hs.M8 (Hs.Sz (p:=((k:Int)∈(M.cE.running.map fun k:Nat=>(k:Int))/\M.cE.lX co ((k:Int)).toNat=true)) ⟨List.mem_map.2 ⟨k,z,rfl⟩,?_⟩ f)).to;unfold Mon.lX;rw[Int.toNat_natCast,E];exact decide_eq_true F
  .refine mD f fun h f=> .inl ⟨rfl,?_⟩;have f:=(f.cZ (aG j 0 [pt m 0 0]) (aG s 0 [I co]) (aG i 0 [.bool false])).V5;have f:=f.cZ (pH Pr 20 (pD 58) 32 e d l (.ready,none)) (sp [aG j 0 [pt m 0 0],aG s 0 [I co],aG i 0 [.bool false]]) (wK G Cf m x M);refine(Hs.M8 (Hs.Sz (p:=∀g∈done++[((k:Nat):Int)],M.cE.lX co g.toNat=false) ?_ f)).to;intro g t;rcases List.mem_append.1 t with t|t;exact u g t;rw[List.mem_singleton.1 t,Int.toNat_natCast];unfold Mon.lX;rw[E];exact decide_eq_false F
 intro v h f;obtain⟨u,f⟩:=iD (f.front (wtX G Cf m x M j s i co e d l (.ready,none) false (∀g∈M.cE.running.map (fun k:Nat=>(k:Int)),M.cE.lX co g.toNat=false)));have f:=f.D2;have S:M.cE.calls co=false:=by
  unfold Mon.calls;rw[List.any_eq_false];intro g t;have:=u g (List.mem_map.2 ⟨g,t,rfl⟩);rw[Int.toNat_natCast] at this;rw[this];simp
 rw[S] at w;have f:=(f.front (sp [aG j 0 [pt m 0 0],aG s 0 [I co],aG i 0 [.bool false]])).D2;exact tR f fun h f=>tA (ax (b:=i) f fun h f=>oT f fun h f=>mB (am i f rfl (w _ f.to)))
 .intro done y v h V f;obtain⟨u,f⟩:=iD (f.front (wtX G Cf m x M j s i co e d l (.done,some .ret) true (y∈(M.cE.running.map fun k:Nat=>(k:Int))/\M.cE.lX co y.toNat=true)));have f:=f.D2;have D:M.cE.calls co=true:=by
   unfold Mon.calls;rw[List.any_eq_true];obtain⟨k,O,P⟩:=List.mem_map.1 u.1;refine⟨k,O,?_⟩;have:=u.2;rw[<-P,Int.toNat_natCast] at this;exact this
  rw[D] at w;have f:=(f.front (sp [aG j 0 [pt m 0 0],aG s 0 [I co],aG i 0 [.bool true]])).D2;exact Ml f fun h f=>su (oT f fun h f=>mB (am i f rfl (w _ f.to)))
end
section
theorem j3 {l done:List (Int×Int)} {y:Int×Int} {g:Int} (b:done++[y]<+:l) (a:∀z∈done,z.1≠g) (c:y.1=g):jT l g=some y.2:=by
 obtain⟨r,rfl⟩:=b;unfold jT;rw[List.append_assoc,List.find?_append,List.find?_eq_none.2 (by simpa using a)];simp[c]
theorem X5 {l:List (Int×Int)} {g:Int} (a:∀z∈l,z.1≠g):jT l g=none:=by
 unfold jT;rw[List.find?_eq_none.2 (by simpa using a)];rfl
set_option maxRecDepth 100000
variable {G:Bg} {h:AH} {L L':List HP} {Q:Value->AH->Prop} {Cf:bP} {m:Nat} {M:dB}
abbrev knX (G:Bg) (Cf:bP) (m:Nat) (M:dB) (p2 a:Nat) (g v:Int) (e:Nat->Value) (d l:Nat) (st:LoopState×Option Code) (pr:Prop):HP:=
 sp [B6 pr,pH Pr 194 (pD 218) 25 e d l st,sp [aG p2 0 [I g],aG a 0 [I v]],bX G Cf m M]
theorem xY {l:List Nat} {s:Nat->kE} {i:Nat} {t:kE} (a:i<l.length) (b:Hs G h L) [k:dY (kN (l.getD i 0) Cf t) L L'] {N:List HP} [c:dY (Km (qA Cf) l s i) L' N]:Hs G h (rZ (qA Cf) l (aS s i t)::N):=Mu a (b.cI (kN (l.getD i 0) Cf t) (Km (qA Cf) l s i))
theorem bV {α:Type} {s:Nat->α} {i:Nat}:aS s i (s i)=s:=by
 funext j;unfold aS;split;rename_i e;rw[e];rfl
theorem lh {i:Nat} {g:Int} (H:(i:Int)<Cf.aE) (hb:(M.cQ i).known.length<=100) (a:Hs G h L) [F:Has (bX G Cf m) L M L'] (r:∀A,Hs G A (bX G Cf m M::L')->Q (I (M.known i g)) A):Cl Pr K 194 [pt m 0 0,I i,I g] h Q:=by
 unfold dB.known at r;refine cW (dR (F.of a) fun f h a=>bQ a fun c h a=>ax (b:=c) a fun h a=>?_);obtain⟨x,B,a⟩:=dC (a.front (bX G Cf m M));have j:i<x.lq.length:=by have:=B.2.2;omega
 refine aB (aA (am m a rfl (Mb a j ?_)));have a:=jC (R:=qA Cf) (l:=x.lq) (s:=M.cQ) j a;refine me (C:=Cf) (p:=x.lq.getD i 0) (s:=M.cQ i) hb a fun q h a=>?_;have a:=xY (Cf:=Cf) (l:=x.lq) (s:=M.cQ) (i:=i) (t:=M.cQ i) j a;rw[bV] at a;have a:=bM (m:=m) (x:=x) M B a;refine oF a fun d h a=>?_;intro e E;refine sV a fun l h a=>Ah rfl ?_;have a:Hs G h (Sg q (M.cQ i).known::knX G Cf m M f c g 0 e d l (.ready,none) (∀z∈([]:List (Int×Int)),z.1≠g)::mk d ()::L'):=by
  have a:=(a.cI (aG f 0 [I g]) (aG c 0 [I 0])).Hu;have a:=a.cZ (pH Pr 194 (pD 218) 25 e d l (.ready,none)) (sp [aG f 0 [I g],aG c 0 [I 0]]) (bX G Cf m M);have a:=Hs.M8 (Hs.Sz (p:=∀z∈([]:List (Int×Int)),z.1≠g) (by simp) a);exact a.to
 refine(yi (q:=q) (l:=(M.cQ i).known) (by omega)).fold
  (X:=fun done=>knX G Cf m M f c g 0 e d l (.ready,none) (∀z∈done,z.1≠g)) (Z:=fun done y=>knX G Cf m M f c g y.2 e d l (.done,some (.exit 0)) (jT (M.cQ i).known g=some y.2)) a ?_ ?_ ?_
 .intro done y h N D a;obtain⟨k,a⟩:=iD a;have a:=a.D2;have a:=(a.front (sp [aG f 0 [I g],aG c 0 [I 0]])).G5;refine rW (Aa a) E (lT a fun h a=>am f a rfl (bH (aX (fun w=>?_) (fun w=>?_))));refine ax (b:=c) a fun h a=>mD a fun h a=> .inr ⟨rfl,?_⟩;have a:=(a.cI (aG f 0 [I g]) (aG c 0 [I y.2])).Hu;have a:=a.cZ (pH Pr 194 (pD 218) 25 e d l (.done,some (.exit 0))) (sp [aG f 0 [I g],aG c 0 [I y.2]]) (bX G Cf m M);exact(Hs.M8 (Hs.Sz (p:=jT (M.cQ i).known g=some y.2) (j3 D k w) a)).to
  .refine mD a fun h a=> .inl ⟨rfl,?_⟩;have a:=(a.cI (aG f 0 [I g]) (aG c 0 [I 0])).Hu;have a:=a.cZ (pH Pr 194 (pD 218) 25 e d l (.ready,none)) (sp [aG f 0 [I g],aG c 0 [I 0]]) (bX G Cf m M);refine(Hs.M8 (Hs.Sz (p:=∀z∈done++[y],z.1≠g) ?_ a)).to;intro z u;rcases List.mem_append.1 u with u|u;exact k z u;rw[List.mem_singleton.1 u];exact w
 intro v h a;obtain⟨k,a⟩:=iD (a.front (knX G Cf m M f c g 0 e d l (.ready,none) (∀z∈(M.cQ i).known,z.1≠g)));have a:=a.D2;rw[X5 k] at r;have a:=(a.front (sp [aG f 0 [I g],aG c 0 [I 0]])).G5;exact tR a fun h a=>tA (am c a rfl (oT a fun h a=>mB (r _ a.to)))
 .intro done y v h D a;obtain⟨k,a⟩:=iD (a.front (knX G Cf m M f c g y.2 e d l (.done,some (.exit 0)) (jT (M.cQ i).known g=some y.2)));have a:=a.D2;rw[k] at r;have a:=(a.front (sp [aG f 0 [I g],aG c 0 [I y.2]])).G5;exact Ml a fun h a=>Qp rfl (am c a rfl (oT a fun h a=>mB (r _ a.to)))
end
end Go.Proofs.YtajjljbmfdboaaaGreatDoor
namespace Go.Proofs.YtajjljbmfdboaaaGreatDoor
open Go Go.Ab Go.Hm Go.At Go.Mc Go.Ct Go.Nt Go.Is
section
instance:Fx aJ.enc 9:=inferInstance
structure Gb (G:Bg):Prop where
 lim:Ob G 0 eT
 kin:Ob G 2 xW
 row:Ob G 3 jD
set_option maxRecDepth 100000
variable {G:Bg} {h:AH} {L L':List HP} {Q:Value->AH->Prop} {Cf:bP} {m:Nat} {M:dB}
theorem Fc {α:Type} {R:Nat->Nat->α->HP} {l:List Nat} {s:Nat->α} {i q:Nat} {t:α} (a:i<l.length) (b:Hs G h L) [k:dY (R i q t) L L'] {N:List HP} [c:dY (Km R l s i) L' N]:Hs G h (rZ R (l.set i q) (aS s i t)::N):=nq a (b.cI (R i q t) (Km R l s i))
theorem D8 {F:gL} {l:List aJ} (h:(gL.send Cf F l).2≠0):(gL.send Cf F l).1=F:=by
 unfold gL.send at h ⊢;split;rfl;rename_i a;rw[aJ6 a] at h;cases hp:gL.yX Cf.depth F l with
 |none=>rfl
 |some b=>rw[hp] at h;exact absurd rfl h
theorem te {i:Nat} {g:Int} (hC:Cf.Ok) (hG:Gb G) (A:(i:Int)<Cf.aE) (hb:(M.cQ i).known.length<=100) (y:pg Cf M.kM) (d:Hs G h L) [z:Has (bX G Cf m) L M L'] (k:∀w,Hs G w (bX G Cf m (M.walk Cf i g).1::L')->Q (I (M.walk Cf i g).2) w):Cl Pr K 193 [pt m 0 0,I i,I g] h Q:=by
 unfold dB.walk at k;obtain⟨x,r,d⟩:=dC (z.of d);have j:i<x.lq.length:=by have:=r.2.2;omega
 refine cW (aB (aA (am m d rfl (Mb d j ?_))));have d:=jC (R:=qA Cf) (l:=x.lq) (s:=M.cQ) j d;refine Cz (C:=Cf) (p:=x.lq.getD i 0) (s:=M.cQ i) hb d fun q h d=>?_;refine Ub (C:=Cf) (p:=q) (s:=M.cQ i) hC hb d fun h d=>aH rfl (aH rfl (bC (aX (fun v=>?_) (fun v=>?_))));rw[aJ7 v] at k;have d:=xY (Cf:=Cf) (l:=x.lq) (s:=M.cQ) (i:=i) (t:=M.cQ i) j d;rw[bV] at d;exact k _ (bM (m:=m) (x:=x) M r d).to;rw[aJ6 v] at k;refine bW (aB (aA (am m d rfl (aQ (c:=(dP 6 i ((M.cQ i).begin Cf g).2.1).enc) rfl (aQ (c:=(dP 6 i ((M.cQ i).begin Cf g).2.1).enc) rfl (dL (W:=9) (n:=1) (c:=1) d rfl rfl rfl fun a h d=>?_))))));have d:=xV (enc:=aJ.enc) (x:=dP 6 i ((M.cQ i).begin Cf g).2.1) d;refine Fq (C:=Cf) (f:=x.fb) (F:=M.kM) (l:=[dP 6 i ((M.cQ i).begin Cf g).2.1]) (a:=some a) (c:=1) hC (y.W3 hC) (by simp) hG.kin hG.lim d fun h d=>bC (aX (fun u=>?_) (fun u=>?_));dsimp only at k;rw[aJ7 u] at k;rw[D8 u] at d;have d:=xY (Cf:=Cf) (l:=x.lq) (s:=M.cQ) (i:=i) (t:=M.cQ i) j d;rw[bV] at d;exact k _ (bM (m:=m) (x:=x) M r d).to;dsimp only at k;rw[aJ6 u] at k;refine bW (aB (aA (am m d rfl (Q6 d j fun h d=>k _ ?_))));have d:=Fc (R:=qA Cf) (l:=x.lq) (s:=M.cQ) (i:=i) (q:=q) (t:=((M.cQ i).begin Cf g).1) j d;have e:fJ Cf x M.log.length=fJ Cf {x with lq:=x.lq.set i q} M.log.length:=by unfold fJ;rw[List.length_set]
 rw[e] at d;exact(bM (m:=m) (x:={x with lq:=x.lq.set i q}) ((M.dN (gL.send Cf M.kM [dP 6 i ((M.cQ i).begin Cf g).2.1]).1).Dy i ((M.cQ i).begin Cf g).1) ⟨r.1,r.2.1,by rw[List.length_set];exact r.2.2⟩ d).to
end
section
set_option maxRecDepth 100000
variable {G:Bg} {h:AH} {L L':List HP} {Q:Value->AH->Prop} {Cf:bP} {m:Nat} {M:dB}
theorem Tc {l:List Nat} {S:Nat->aK} {i:Nat} {k:Value->Prop} (e:i<l.length) (d:Hs G h L) [g:Has (rZ tG l) L S L'] (f:k (I (S i).world)):bG (mT (pt (l.getD i 0) 0 0)) fun v=>bG (gX 0 v) fun v=>bG (gX 5 v) fun v=>bG (pK h v) k:=by
 have d:=jC (R:=tG) (l:=l) (s:=S) e d;obtain⟨a,c,d⟩:=rF d;exact aB (aA (aA (aD (b:=l.getD i 0) (o:=0) d rfl f)))
theorem B1 {l:List Nat} {s:Nat->gV} {i:Nat} {t:gV} (a:i<l.length) (b:Hs G h L) [k:dY (C.gY G (l.getD i 0) Cf i t) L L'] {N:List HP} [c:dY (Km (rP G Cf) l s i) L' N]:Hs G h (rZ (rP G Cf) l (aS s i t)::N):=Mu a (b.cI (C.gY G (l.getD i 0) Cf i t) (Km (rP G Cf) l s i))
theorem we {i:Nat} {line:Int} {wr:Bool} (hC:Cf.Ok) (hG:Gb G) (B:(i:Int)<Cf.aE) (hb:iG Cf (M.dG i)) (z:pg Cf M.kM) (d:Hs G h L) [A:Has (bX G Cf m) L M L'] (j:∀y,Hs G y (bX G Cf m (M.want Cf i line wr).1::L')->Q (I (M.want Cf i line wr).2) y):Cl Pr K 196 [pt m 0 0,I i,I line,.bool wr] h Q:=by
 unfold dB.want at j;have p:Bd (M.dG i):=hb.bd (lF hC).2.2.2;obtain⟨x,k,d⟩:=dC (A.of d);have r:i<x.lc.length:=by have:=k.1;omega
 have g:i<x.lk.length:=by have:=k.2.1;omega
 refine cW (aB (aA (am m d rfl (Lf d g ?_))));have d:=jC (R:=rP G Cf) (l:=x.lk) (s:=M.dG) g d;refine C.Zv (C:=Cf) (core:=(i:Int)) (c:=x.lk.getD i 0) (s:=M.dG i) hC p d fun q h d=>?_;refine aB (aA (am m d rfl (R6 d r (Tc (l:=x.lc) (S:=M.aC) r d ?_))));refine C.zr (C:=Cf) (core:=(i:Int)) (c:=q) (s:=M.dG i) hC p hG.lim hG.row d fun a c h d=>aH rfl (aH rfl (bC (aX (fun v=>?_) (fun v=>?_))));rw[aJ7 v] at j;have d:=B1 (Cf:=Cf) (l:=x.lk) (s:=M.dG) (i:=i) (t:=M.dG i) g d;rw[bV] at d;exact j _ (bM (m:=m) (x:=x) M k d).to;rw[aJ6 v] at j;have d:Hs G h (uZ a c (want Cf i (M.dG i) line (M.aC i).world wr).2.1::_):=d;refine bW (aB (aA (am m d rfl ?_)));refine Fq (C:=Cf) (f:=x.fb) (F:=M.kM) (l:=(want Cf i (M.dG i) line (M.aC i).world wr).2.1) (a:=a) (c:=c) hC (z.W3 hC) (by have:=ve (C:=Cf) (core:=(i:Int)) (s:=M.dG i) (l:=line) (w:=(M.aC i).world) (wr:=wr);omega) hG.kin hG.lim d fun h d=>bC (aX (fun u=>?_) (fun u=>?_));dsimp only at j;rw[aJ7 u] at j;rw[D8 u] at d;have d:=B1 (Cf:=Cf) (l:=x.lk) (s:=M.dG) (i:=i) (t:=M.dG i) g d;rw[bV] at d;exact j _ (bM (m:=m) (x:=x) M k d).to;dsimp only at j;rw[aJ6 u] at j;refine bW (aB (aA (am m d rfl (bu d g fun h d=>j _ ?_))));have d:=Fc (R:=rP G Cf) (l:=x.lk) (s:=M.dG) (i:=i) (q:=q) (t:=(want Cf i (M.dG i) line (M.aC i).world wr).1) g d;have e:fJ Cf x M.log.length=fJ Cf {x with lk:=x.lk.set i q} M.log.length:=by unfold fJ;rw[List.length_set]
 rw[e] at d;exact(bM (m:=m) (x:={x with lk:=x.lk.set i q}) ((M.dN (gL.send Cf M.kM (want Cf i (M.dG i) line (M.aC i).world wr).2.1).1).uG i (want Cf i (M.dG i) line (M.aC i).world wr).1) ⟨k.1,by rw[List.length_set];exact k.2.1,k.2.2⟩ d).to
end
section
theorem Wl {g:Int} {i:Nat}:(List.range (i+1)).map (fun i:Nat=>dP 13 i g)=(List.range i).map (fun i:Nat=>dP 13 i g)++[dP 13 i g]:=by
 rw[List.range_succ,List.map_append];rfl
set_option maxRecDepth 100000
variable {G:Bg} {h:AH} {L L':List HP} {Q:Value->AH->Prop} {Cf:bP} {m:Nat} {M:dB}
theorem vz {i:Nat} {a:Mc.Ask} (hC:Cf.Ok) (hG:Gb G) (R:(i:Int)<Cf.aE) (J:iA Cf M.cE) (U:(M.aC i).Ok) (u:M.log.length<=2^30) (O:pg Cf M.kM) (d:Hs G h L) [Y:Has (bX G Cf m) L M L'] (g:∀s,Hs G s (bX G Cf m (M.call Cf i a).1::L')->Q (I (M.call Cf i a).2) s):Cl Pr K 153 [pt m 0 0,I i,.agg ⟨a.enc⟩] h Q:=by
 unfold dB.call at g;have Z:=hC.1;refine cW (dR (Y.of d) fun B h d=>?_);obtain⟨x,A,d⟩:=dC (d.front (bX G Cf m M));refine aB (aA (am m d rfl (La (C:=Cf) (m:=M.cE) hC J d fun q h d=>?_)));have V:=d.tail;refine an B d (l:=a.enc) rfl rfl (Wg (C:=Cf) (m:=M.cE) (p:=q) hC J d fun h d=>aH rfl (aH rfl (bC (aX (fun D=>?_) (fun D=>?_)))));rw[aJ7 D] at g;have d:=bM (m:=m) (x:=x) M A d;exact nN (Cf:=Cf) (M:=M) R U u d fun h d=>g _ d.to;rw[aJ6 D] at g;generalize P:M.cE.call Cf.aE a=rc at g d;have loop:∀(f j:Nat) (h:AH) (b:Option Addr) (c:Nat),j+f=Cf.aE.toNat->Hs G h (uZ b c ((List.range j).map fun i:Nat=>dP 13 i a.bK)::fV Cf q rc.1::aG m 0 (fJ Cf x M.log.length)::mh x.ac x.cc x.lc::V6 x.ak x.ck x.lk::V3 x.aq x.cq x.lq::
   rZ tG x.lc M.aC::rZ (rP G Cf) x.lk M.dG::rZ (qA Cf) x.lq M.cQ::H.gM G x.hb Cf M.home::fV Cf x.mb M.cE::vF Cf x.fb M.kM::B5 x.al x.cl M.log::aG B 0 a.enc::L')->
   Dd 153 2 [] Q [(pt m 0 0),(pt B 0 0),(pt q 0 0),(.slice b j c),(I Cf.aE),(I j)] h:=by
  intro f
  induction f with
  |zero=>
   intro j h b c S d
   have E:j=Cf.aE.toNat:=by omega
   have r:((List.range j).map fun i:Nat=>dP 13 i a.bK)=tL Cf.aE a.bK:=by rw[E];rfl
   rw[r] at d
   have t:(tL Cf.aE a.bK).length=j:=by rw[<-r];simp
   refine bW (bA (aab (bW (aB (aA (am m d rfl ?_))))))
   rw[<-t]
   refine Fq (C:=Cf) (f:=x.fb) (F:=M.kM) (l:=tL Cf.aE a.bK) (a:=b) (c:=c) hC (O.W3 hC) (by omega) hG.kin hG.lim d fun h d=>bC (aX (fun z=>?_) (fun z=>?_))
   .dsimp only at g;rw[aJ7 z] at g;rw[D8 z] at d;exact g _ (bM (m:=m) (x:=x) M A d).to
   .dsimp only at g;rw[aJ6 z] at g;refine bW (aB (aA (ay (b:=m) (o:=0) d fun h d=>g _ ?_)));have e:dN (fJ Cf x M.log.length) (0+11) [pt q 0 0]=fJ Cf {x with mb:=q} M.log.length:=rfl;rw[e] at d;exact(bM (m:=m) (x:={x with mb:=q}) ((M.dN (gL.send Cf M.kM (tL Cf.aE a.bK)).1).iY rc.1) A d).to
  |succ f X=>
   intro j h b c S d
   refine bW (bA (aae (bW (aA (am B d rfl (aQ (c:=(dP 13 j a.bK).enc) rfl (aQ (c:=(dP 13 j a.bK).enc) rfl (dL (W:=9) (n:=1) (c:=1) d rfl rfl rfl fun w h d=>?_))))))))
   have d:=xV (enc:=aJ.enc) (x:=dP 13 j a.bK) d
   have r:((List.range j).map fun i:Nat=>dP 13 i a.bK).length=j:=by simp
   have ap:∀k:Value×AH->Prop,(∀v y s,Hs G s (uZ v y ((List.range j).map (fun i:Nat=>dP 13 i a.bK)++[dP 13 j a.bK])::uZ (some w) 1 [dP 13 j a.bK]::_)->k (.slice v ((List.range j).map (fun i:Nat=>dP 13 i a.bK)++[dP 13 j a.bK]).length y,s))->bG (jK 9 72 175 h (.slice b ((List.range j).map fun i:Nat=>dP 13 i a.bK).length c) (.slice (some w) [dP 13 j a.bK].length 1)) k:=fun k g=>uM (enc:=aJ.enc) (e:=175) (l:=(List.range j).map fun i:Nat=>dP 13 i a.bK) (l2:=[dP 13 j a.bK]) (a:=b) (c:=c) (a2:=some w) (c2:=1) d (by simp;omega) g
   rw[r] at ap
   refine ap _ fun v y h d=>aad ?_
   rw[<-Wl] at d ⊢
   have:=X (j+1) h v y (by omega) d.to
   rw[show((List.range (j+1)).map fun i:Nat=>dP 13 i a.bK).length=j+1 by simp]
   exact this
 have T:x.lc.length=Cf.aE.toNat:=A.1;refine bW (aB (aA (am m d rfl (bU ?_))));have d:Hs G h (uZ none 0 ((List.range 0).map fun i:Nat=>dP 13 i a.bK)::_):=vC (enc:=aJ.enc) (e:=175) d;have e:(x.lc.length:Int)=Cf.aE:=by omega
 rw[e];exact loop Cf.aE.toNat 0 h none 0 (by omega) d.to
end
end Go.Proofs.YtajjljbmfdboaaaGreatDoor
namespace Go.Proofs.YtajjljbmfdboaaaGreatDoor
open Go Go.Ab Go.Hm Go.At Go.Mc Go.Ct Go.Nt
section
theorem Hd {C:bP} {S:Nat->List Th} {l at' a:Int} {w:Bool} (b:0<=l/\l<C.lines) (d:0<=at'/\at'<2) (c:mH C.aI.toNat S l a w=true):lZ C S l at' a w=0:=by
 unfold lZ rS;rw[decide_eq_true b,aJ6 (by simp),aaa,aaa,aJ6 (by rw[c];simp)]
theorem ya {C:bP} {s:gV} (e:iG C s) {l b at':Int} {w:Bool} (c:0<=l/\l<C.lines) (d:0<=at'/\at'<2) (a:mH C.aI.toNat s.S l b w=true):mH C.aI.toNat (mL C s l at' b).S l b w=true:=by
 unfold mL;rw[aJ7 (Hd c d (Le a))];have f:(bB C.aI.toNat s.S l).2=0:=by
  unfold mH at a;grind
 unfold mH at a ⊢;rw[Ep e.aI f];exact a
set_option maxRecDepth 100000
variable {G:Bg} {h:AH} {L L':List HP} {Q:Value->AH->Prop} {Cf:bP} {m:Nat} {M:dB}
theorem xo {i:Nat} {a:Acc} {p2:Nat} {line at' g:Int} (hC:Cf.Ok) (hG:Gb G) (B:(i:Int)<Cf.aE) (hb:iG Cf (M.dG i)) (D:(M.aC i).Ok) (p:M.log.length<=2^30) (z:0<=line/\line<Cf.lines) (A:0<=at'/\at'<2) (r:mH Cf.aI.toNat (M.dG i).S line g a.write=true)
  (d:Hs G h (bX G Cf m M::aG p2 0 (sY a)::L)) (k:∀q,Hs G q (bX G Cf m (M.gI Cf i line at' g a).1::L)->Q (I (M.gI Cf i line at' g a).2) q):Dd 154 6 [] Q [(pt m 0 0),(I i),(pt p2 0 0),(I line),(I at'),(I g)] h:=by
 unfold dB.gI at k
 have wr:∀(s:gV) (v:Int) (h:AH),iG Cf s->mH Cf.aI.toNat s.S line g a.write=true->Hs G h (bX G Cf m (M.uG i s)::aG p2 0 (sY a)::L)->
   (∀q,Hs G q (bX G Cf m ((M.uG i (if a.write then iU Cf s line at' g a.value else s)).bI i v 0).1::L)->Q (I ((M.uG i (if a.write then iU Cf s line at' g a.value else s)).bI i v 0).2) q)->
   Dd 154 8 [] Q [(pt m 0 0),(I i),(pt p2 0 0),(I line),(I at'),(I g),(I v)] h:=by
  intro s v h hb r d k
  refine bW (aA (am p2 d rfl (dI (fun y=>?_) (fun y=>?_))))
  .rw[y] at r;rw[aJ7 y] at k;obtain⟨x,u,d⟩:=dC d;have f:i<x.lk.length:=by have:=u.2.1;omega
   refine bW (aY d fun E h d=>aB (aA (am m d rfl (Lf d f (aA (am p2 d rfl ?_))))))
   have d:=jC (R:=rP G Cf) (l:=x.lk) (s:=aS M.dG i s) f d
   rw[show aS M.dG i s i=s by unfold aS;rw[aJ7 rfl]] at d
   refine C.fk (C:=Cf) (core:=(i:Int)) (c:=x.lk.getD i 0) (s:=s) hC hb (Hd z A r) hG.lim hG.row d fun h d=>bC (aab ?_)
   have d:=B1 (Cf:=Cf) (l:=x.lk) (s:=aS M.dG i s) (i:=i) (t:=iU Cf s line at' g a.value) f d
   rw[show aS (aS M.dG i s) i (iU Cf s line at' g a.value)=aS M.dG i (iU Cf s line at' g a.value) by funext j;unfold aS;split<;>rfl] at d
   have d:=bM (m:=m) (x:=x) (M.uG i (iU Cf s line at' g a.value)) u d
   exact nN (Cf:=Cf) (M:=M.uG i (iU Cf s line at' g a.value)) B D p d fun h d=>k _ d.to
  .rw[aJ6 (by rw[y];simp)] at k;exact nN (Cf:=Cf) (M:=M.uG i s) B D p d fun h d=>k _ d.to
 refine bW (aA (am p2 d rfl (dI (fun w=>?_) (fun w=>?_))))
 .rw[aJ7 w] at k;rw[aJ7 w] at k;obtain⟨x,u,d⟩:=dC d;have f:i<x.lk.length:=by have:=u.2.1;omega
  refine bW (aB (aA (am m d rfl (Lf d f ?_))))
  have d:=jC (R:=rP G Cf) (l:=x.lk) (s:=M.dG) f d
  refine C.uo (C:=Cf) (core:=(i:Int)) (c:=x.lk.getD i 0) (s:=M.dG i) hC hb (Hd z A (Le r)) hG.lim hG.row d fun h d=>aH rfl (aH rfl (bC (aab ?_)))
  have d:=B1 (Cf:=Cf) (l:=x.lk) (s:=M.dG) (i:=i) (t:=mL Cf (M.dG i) line at' g) f d
  have d:=bM (m:=m) (x:=x) (M.uG i (mL Cf (M.dG i) line at' g)) u d
  refine wr _ _ h (G9 hb) (ya hb z A r) d.to fun q d=>?_
  exact k _ d
 .rw[aJ6 (by rw[w];simp)] at k;rw[aJ6 (by rw[w];simp)] at k;refine wr (M.dG i) 0 h hb r ?_ fun q d=>k _ d;have e:M.uG i (M.dG i)=M:=by unfold dB.uG;rw[bV]
  rw[e]
  exact d.to
theorem Yt {i:Nat} {a:Acc} (hC:Cf.Ok) (hG:Gb G) (r:(i:Int)<Cf.aE) (hb:iG Cf (M.dG i)) (E:(M.aC i).Ok) (q:(M.cQ i).known.length<=100) (O:pg Cf M.kM) (f:M.log.length<=2^30) (d:Hs G h L) [W:Has (bX G Cf m) L M L'] (e:∀J,Hs G J (bX G Cf m (M.access Cf i a).1::L')->Q (I (M.access Cf i a).2) J):Cl Pr K 154 [pt m 0 0,I i,.agg ⟨sY a⟩] h Q:=by
 unfold dB.access at e;have V:=(bP.fN hC).2.2;refine cW (dR (cs:=sY a) (W.of d) fun F h d=>aY d fun Y h d=>?_);obtain⟨x,g,d⟩:=dC (d.front (bX G Cf m M));have P:∀{h:AH} {N:List HP},Hs G h (aG m 0 (fJ Cf x M.log.length)::mh x.ac x.cc x.lc::V6 x.ak x.ck x.lk::V3 x.aq x.cq x.lq::
  rZ tG x.lc M.aC::rZ (rP G Cf) x.lk M.dG::rZ (qA Cf) x.lq M.cQ::H.gM G x.hb Cf M.home::fV Cf x.mb M.cE::vF Cf x.fb M.kM::B5 x.al x.cl M.log::N)->Hs G h (bX G Cf m M::N):=fun d=>xH g d
 have k:i<x.lq.length:=by have:=g.2.2;omega
 have u:i<x.lc.length:=by have:=g.1;omega
 refine aB (aA (kB (b:=m) (o:=0) d (by decide) (l:=Cf.enc) rfl rfl (aA (am F d rfl (Gx (C:=Cf) hC hG.lim d fun h d=>?_)))));by_cases y:0<=a.word/\a.word<Cf.lines*2;rotate_left;rw[aJ6 y];rw[aJ7 y] at e;have d:=bM (m:=m) (x:=x) M g d;exact aH rfl (aH rfl (aH rfl (bC (aae (nN (Cf:=Cf) (M:=M) r E f d fun h d=>e _ d.to)))));rw[aJ7 y];rw[aJ6 (by simpa using y)] at e;obtain⟨w,z⟩:=Int.eq_ofNat_of_zero_le y.1;have T:((a.word.toNat/2:Nat):Int)=a.word/2:=by rw[z];simp
 have U:((a.word.toNat % 2:Nat):Int)=a.word % 2:=by rw[z];simp
 rw[T,U];have v:0<=a.word/2/\a.word/2<Cf.lines:=by omega
 refine aH rfl (aH rfl (aH rfl (bC (aab (bW (aB (aA (kB (b:=m) (o:=0) d (by decide) (l:=Cf.enc) rfl rfl (Hl (C:=Cf) hC hG.lim d fun h d=>?_)))))))));rw[aJ7 (show Cf.has (a.word/2) from v)];refine aH rfl (aH rfl (bC (aab (bW (aY d fun X h d=>aB (aA (am m d rfl (Mb d k (aB (aA (am m d rfl (R6 d u (Tc (l:=x.lc) (S:=M.aC) u d ?_)))))))))))));have d:=jC (R:=qA Cf) (l:=x.lq) (s:=M.cQ) k d;refine fi (C:=Cf) (p:=x.lq.getD i 0) (s:=M.cQ i) q d fun h d=>?_;have d:=xY (Cf:=Cf) (l:=x.lq) (s:=M.cQ) (i:=i) (t:=M.cQ i) k d;rw[bV] at d;have d:=bM (m:=m) (x:=x) M g d;dsimp only at e;refine aH rfl (aH rfl (bC (aX (fun A=>?_) (fun A=>?_))));rw[aJ7 A] at e;exact e _ d.to;rw[aJ6 A] at e;refine bW (bH (aX (fun B=>?_) (fun B=>?_)));rw[aJ7 B] at e;exact te (Cf:=Cf) (M:=M) hC hG r q O d fun h d=>e _ d.to;rw[aJ6 B] at e;refine bW (bH (aX (fun D=>?_) (fun D=>?_)));rw[aJ7 D] at e;exact nN (Cf:=Cf) (M:=M) r E f d fun h d=>e _ d.to;rw[aJ6 D] at e;refine bW (lh (Cf:=Cf) (M:=M) r q d fun h d=>aY d fun r3 h d=>?_);obtain⟨x,g,d⟩:=dC (d.front (bX G Cf m M));have j:i<x.lk.length:=by have:=g.2.1;omega
 refine aB (aA (am m d rfl (Lf d j (aA (am F d rfl ?_)))));have d:=jC (R:=rP G Cf) (l:=x.lk) (s:=M.dG) j d;refine C.Qo (C:=Cf) (core:=(i:Int)) (c:=x.lk.getD i 0) (s:=M.dG i) hC (hb.bd (lF hC).2.2.2) hG.row d fun h d=>?_;have d:=B1 (Cf:=Cf) (l:=x.lk) (s:=M.dG) (i:=i) (t:=M.dG i) j d;rw[bV] at d;have d:=bM (m:=m) (x:=x) M g d;cases hmy:mH Cf.aI.toNat (M.dG i).S (a.word/2) (M.known i (a.word/2/2)) a.write with
 |false=>
  rw[aJ7 hmy] at e;exact cH (eB (cG (aA (am F d rfl (we (Cf:=Cf) (M:=M) hC hG r hb O d fun h d=>e _ d.to)))))
 |true=>
  rw[aJ6 (by rw[hmy];simp)] at e;exact cH (eB (eU (xo (L:=L') (Cf:=Cf) (M:=M) hC hG r hb E f v (by omega) hmy d.to fun h d=>e _ d.to)))
end
section
set_option maxRecDepth 100000
variable {G:Bg} {h:AH} {L L':List HP} {Q:Value->AH->Prop} {Cf:bP} {m:Nat} {M:dB}
theorem aA6 {l:List Nat} {S:Nat->aK} {i:Nat} {k:Value->Prop} (e:i<l.length) (d:Hs G h L) [g:Has (rZ tG l) L S L'] (f:k (.bool (S i).over)):bG (mT (pt (l.getD i 0) 0 0)) fun v=>bG (gX 0 v) fun v=>bG (gX 6 v) fun v=>bG (pK h v) k:=by
 have d:=jC (R:=tG) (l:=l) (s:=S) e d;obtain⟨a,c,d⟩:=rF d;exact aB (aA (aA (aD (b:=l.getD i 0) (o:=0) d rfl f)))
theorem xq {d:Do} (hC:Cf.Ok) (hG:Gb G) (J:∀i:Nat,(i:Int)<Cf.aE->qb Cf M i) (f:Hs G h L) [V:Has (bX G Cf m) L M L'] (g:∀O,Hs G O (bX G Cf m (M.step Cf d.a).1::L')->Q (I (M.step Cf d.a).2) O):Cl Pr K 110 [pt m 0 0,.agg ⟨d.enc⟩] h Q:=by
 unfold dB.step at g;have X:=hC.1;refine cW (dR (cs:=d.enc) (V.of f) fun y h f=>aY f fun Z h f=>?_);obtain⟨x,f⟩:=aE2 (f.front (bX G Cf m M));obtain⟨u,f⟩:=yJ f;refine aA (am y f rfl (bA (aX (fun P=>?_) (fun P=>?_))));rw[aac] at g;exact g _ (bM (m:=m) (x:=x) M u f).to;have U:=u.1;refine aA (am y f rfl (aB (aA (am m f rfl (bU (dW (aX (fun T=>?_) (fun T=>?_))))))));rw[aac] at g;exact g _ (bM (m:=m) (x:=x) M u f).to;rw[aaa] at g;obtain⟨w,a,b,c⟩:=d;dsimp only at P T g;obtain⟨i,rfl⟩:=Int.eq_ofNat_of_zero_le (show 0<=a by omega);rw[Int.toNat_natCast] at g;have k:i<x.lc.length:=by omega
 have H:(i:Int)<Cf.aE:=by omega
 have j:=J i H;refine bW (aY f fun Y h f=>aB (aA (am m f rfl (aA (am y f rfl (R6 f k (aA6 (l:=x.lc) (S:=M.aC) k f (dI (fun E=>?_) (fun E=>?_)))))))));rw[aJ7 E] at g;exact g _ (bM (m:=m) (x:=x) M u f).to;rw[aJ6 (by rw[E];simp)] at g;have f:=Cw (m:=m) (x:=x) M u f;refine bW (aA (am y f rfl (jm (x:=x) (M:=M) j.cE f fun h f=>dI (fun F=>?_) (fun F=>?_))));rw[aJ7 F] at g;exact g _ (aC0 f).to;rw[aJ6 (by rw[F];simp)] at g;obtain⟨u,f⟩:=yJ (f.front (wK G Cf m x M));have f:=jC (R:=tG) (l:=x.lc) (s:=M.aC) k f;refine bW (tk (i:=i) (p:=x.lc.getD i 0) (s:=M.aC i) j.Gi f fun h f=>?_);cases hlo:aK.gU (M.aC i) i with
 |some r=>
  rw[hlo] at f g;dsimp only at f g;have f:=I1 (l:=x.lc) (s:=M.aC) (i:=i) (t:=r.1) k f;refine aH rfl (aH rfl (bQ f fun q h f=>ax (b:=q) f fun h f=>eU (bW (aY f fun r3 h f=>aB (aA (am m f rfl (an q f (l:=r.2.enc) rfl rfl (aQ (c:=r.2.enc) rfl ?_))))))));refine jV (r:=r3) (i:=6) (N:=11) (D:=[]) (W:=7) f rfl rfl rfl rfl rfl fun a h f=>?_;have f:=xV (enc:=Ev.enc) (x:=r.2) f;refine Qc (l:=M.log) (v:=r.2) j.log f fun B C h f=>aB (aA (ay (b:=m) (o:=0) f fun h f=>bT bZ (g _ ?_)));have e:dN (fJ Cf x M.log.length) (0+13) [.slice B (M.log++[r.2]).length C]=fJ Cf {x with al:=B,cl:=C} (M.log++[r.2]).length:=rfl;rw[e] at f;exact(bM (m:=m) (x:={x with al:=B,cl:=C}) ((M.iZ i r.1).Rt r.2) u f).to
 |none=>
  rw[hlo] at f g;dsimp only at f g;refine aH rfl (aH rfl (bQ f fun q h f=>ax (b:=q) f fun h f=>cG (bW (aE7 (i:=i) (p:=x.lc.getD i 0) (s:=M.aC i) j.Gi f fun h f=>?_))));cases has:aK.sL (M.aC i) i with
  |some r=>
   rw[has] at g;dsimp only at g;have f:=I1 (l:=x.lc) (s:=M.aC) (i:=i) (t:=M.aC i) k f;rw[bV] at f;have f:=bM (m:=m) (x:=x) M u f;exact aH rfl (aH rfl (bQ f fun z h f=>ax (b:=z) f fun h f=>eU (aA (am y f rfl (an z f (l:=r.enc) rfl rfl (vz (Cf:=Cf) (M:=M) hC hG H j.cE j.Gi j.log j.kM f fun h f=>g _ f.to))))))
  |none=>
   rw[has] at g;dsimp only at g;refine aH rfl (aH rfl (bQ f fun z h f=>ax (b:=z) f fun h f=>cG (bW (G1 (i:=i) (p:=x.lc.getD i 0) (s:=M.aC i) j.Gi f fun h f=>?_))));have f:=I1 (l:=x.lc) (s:=M.aC) (i:=i) (t:=M.aC i) k f;rw[bV] at f;have f:=bM (m:=m) (x:=x) M u f;cases hac:aK.iF (M.aC i) with
   |some r=>
    rw[hac] at g;dsimp only at g;exact aH rfl (aH rfl (bQ f fun A h f=>ax (b:=A) f fun h f=>cH (eB (eU (aA (am y f rfl (an A f (l:=sY r) rfl rfl (Yt (Cf:=Cf) (M:=M) hC hG H j.Zp j.Gi j.pG j.kM j.log f fun h f=>g _ f.to))))))))
   |none=>
    rw[hac] at g;dsimp only at g;exact aH rfl (aH rfl (bQ f fun A h f=>ax (b:=A) f fun h f=>cH (eB (cG (g _ f.to)))))
end
end Go.Proofs.YtajjljbmfdboaaaGreatDoor
namespace Go.Proofs.YtajjljbmfdboaaaGreatDoor.H
open Go Go.Ab Go.Hm
section
set_option maxRecDepth 100000
variable {G:Bg} {h:AH} {L L':List HP}
end
section
set_option maxRecDepth 100000
variable {G:Bg} {h:AH} {L L':List HP}
theorem u5 (n:Nat):(fun i=>(rR n i).2)=nH:=by funext i;unfold rR nH;split<;>rfl
theorem Kq {C:bP} (hC:C.Ok) {hb:Nat} {Q:Value->AH->Prop} (k:∀e,Hs G e (gM G hb C (rR C.lines)::L)->Q (.tuple ⟨[pt hb 0 0,I 0]⟩) e):∀(f n:Nat) (h:AH),n+f=C.lines->Hs G h (gM G hb C (rR n)::L)->Dd 85 3 [] Q [(pt hb 0 0),(I C.lines),(I n)] h:=by
 have l:=bP.fN hC;intro f;induction f with
 |zero=>
  intro n h p a;have:n=C.lines:=by omega
  subst this;exact bW (bA (aab (k _ a)))
 |succ f q=>
  intro n h p a;have d:n<C.lines:=by omega
  refine bW (bA (aae (bW ?_)));obtain⟨r,b,o,c,a⟩:=Em d a;obtain⟨s,t,a⟩:=dZ a;refine aB (aA (aD a rfl (dM d (aA (ay a ?_)))));intro h a;refine aad (q (n+1) h (by omega) ?_);have g:(rR n n).1={wO with owner:=0}:=by unfold rR;rw[aaa]
  have j:(rR n n).2=(0,0):=by unfold rR;rw[aaa]
  rw[g] at a;have a:=eC b (o+n*25) wO s t a rfl rfl rfl;have a:=eQ hb C (rR n) n wO (0,0) (fun i=>(rR n i).2) r b o c d (by rw[<-j];exact fA.symm) a;rw[ma] at a;exact a
theorem Xd {C:bP} (hC:C.Ok) {Q:Value->AH->Prop} (e:Ob G 0 eT) (d:Hs G h L) (r:∀f j,Hs G j (gM G f C (rR C.lines)::L)->Q (.tuple ⟨[pt f 0 0,I 0]⟩) j):Cl Pr K 85 [.agg ⟨C.enc⟩] h Q:=by
 have s:=bP.fN hC;refine cW (dR d ?_);intro p h d;refine aR d (by decide) (l:=C.enc) rfl rfl (nB e d fun h d=>?_);rw[aJ7 hC];refine bC (aab (bW (aR d (by decide) (l:=C.enc) rfl rfl (Pe hC e d fun k h d=>?_))));refine aH rfl (aH rfl (bC (aab (bW (aY d ?_)))));intro u h d;refine aR d (by decide) (l:=C.enc) rfl rfl (aR d (by decide) (l:=C.enc) rfl rfl (rB hC e d fun h d=>aBp (by omega) (by omega) ?_));dsimp only;refine jV d rfl rfl ?_ rfl ?_ ?_;rw[gT,rE (W:=25) (fun _=>rfl)];rw[gT];exact pO (fun _=>rfl) _;intro a h d;obtain⟨b,o,q,d⟩:=Hs.Ke (W:=25) rfl (by omega) d;cases q;refine aQ (c:=mK k C b o C.lines) rfl (xD d rfl rfl ?_);intro f h d;refine bT bZ (bT (aR d (by decide) (l:=C.enc) rfl rfl (oP (by simp[nG,bP.enc]))) (aB (aA (aD d rfl (bU ?_)))));refine Kq hC (r f) C.lines 0 h (by omega) ?_;have d:=(d.front (dF C.lines fun i=>aG b (o+i*25) [I 0,.bool false,.bool false,.bool false,.bool false,.slice none 0 0,.bool false,I 0,I 0,I 0,I 0,I 0,I 0,I 0,.bool false,I 0,I 0,.bool false,.bool false,.bool false,.bool false,.bool false,.bool false,I 0,I 0]));have d:=Hs.Jb (g:=fun i=>eN b (o+i*25) (rR 0 i).1) C.lines _ (fun i t h L d=>kC {wO with owner:=0} (a:=none) (c:=0) (gK d).lK) d;rw[<-u5 0] at d;exact(B3 C (rR 0) f k b o C.lines d).to
end
section
set_option maxRecDepth 100000
variable {G:Bg} {h:AH} {L L':List HP} {Q:Value->AH->Prop}
def Sn (H:kK) (i:Nat) (x:Option Addr×Nat):List Value:=(H i).1.enc x.1 x.2
def Ss (H:kK) (i:Nat) (x:Option Addr×Nat):HP:=uZ x.1 x.2 (H i).1.waits
theorem aAm {b o n:Nat} {H:kK} (d:Hs G h (dF n (fun i=>eN b (o+i*25) (H i).1)::L)):Hs G h (dF n (fun i=>vD fun x=>sp [aG b (o+i*25) (Sn H i x),Ss H i x])::L):=
 Hs.Jb n L (fun i _ h L d=>by
  obtain⟨a,c,d⟩:=dZ d;exact Hs.zX (A:=fun x:Option Addr×Nat=>sp [aG b (o+i*25) (Sn H i x),Ss H i x]) (a,c) d.Hu) d
theorem yv {b o n:Nat} {H:kK} (d:Hs G h (dF n (fun i=>vD fun x=>sp [aG b (o+i*25) (Sn H i x),Ss H i x])::L)):Hs G h (dF n (fun i=>eN b (o+i*25) (H i).1)::L):=
 Hs.Jb n L (fun i _ h L d=>by
  obtain⟨⟨a,c⟩,d⟩:=d.B4;exact kC (H i).1 (a:=a) (c:=c) d.G5) d
theorem dr {n c:Nat} {a:Option Addr} {cs:List Value} (i:n<=100) (g:Hs G h L) [m:Has (cN 25 247 a c) L (n,cs) L'] (f:∀b d e,Hs G e (cN 25 247 b d (n,cs)::cN 25 247 a c (n,cs)::L')->Q (.slice b n d) e):Cl Pr K 138 [.slice a n c] h Q:=
 cW (sF (bytes:=152) g (by omega) f)
theorem X0 {B p b o cap mb:Nat} {C:bP} {H:kK} {f:Nat->Option Addr×Nat} (hB:B<=32) (A:C.lines=B) (K:∀i,i<B->(H i).1.waits.length<=2^30)
  (F:∀v,Hs G v (aG p 0 (mK mb C b o cap)::dF B (fun i=>eN b (o+i*25) (H i).1)::dF B (fun i=>Ss H i (f i))::L)->Q (pt p 0 0) v):
  ∀(r i:Nat) (h:AH),i+r=B->Hs G h (aG p 0 (mK mb C b o cap)::dF B (fun j=>if j<i then eN b (o+j*25) (H j).1 else aG b (o+j*25) (Sn H j (f j)))::dF B (fun i=>Ss H i (f i))::L)->
  Dd 76 2 [] Q [(pt p 0 0),(I B),(I i)] h:=by
 intro r
 induction r with
 |zero=>
  intro i h D d
  obtain rfl:i=B:=by omega
  refine bW (bA (aab (F _ ?_)))
  have d:=d.front (dF i fun j=>if j<i then eN b (o+j*25) (H j).1 else aG b (o+j*25) (Sn H j (f j)))
  have d:=qB (g:=fun j=>eN b (o+j*25) (H j).1) (fun j E=>by rw[aJ7 E]) d
  exact d.cZ (aG p 0 (mK mb C b o cap)) (dF i fun j=>eN b (o+j*25) (H j).1) (dF i fun j=>Ss H j (f j))
 |succ r P=>
  intro i h D d
  have k:i<B:=by omega
  have s:i<C.lines:=by omega
  have O:=K i k
  refine bW (bA (aae (bW (aY d fun R h d=>?_))))
  have d:=(d.front (dF B fun j=>if j<i then eN b (o+j*25) (H j).1 else aG b (o+j*25) (Sn H j (f j)))).jX i k
  simp only[Nat.lt_irrefl,if_false] at d
  have d:=(d.front (dF B fun j=>Ss H j (f j))).jX i k
  refine aB (aA (am p d rfl (aB (aA (am p d rfl (dM s (aA (aD (b:=b) (o:=o+i*25) d rfl ?_))))))))
  have d:Hs G h (uZ (f i).1 (f i).2 (H i).1.waits::_):=d
  refine Fs (l:=(H i).1.waits) (a:=(f i).1) (c:=(f i).2) (by omega) d fun t u h d=>?_
  refine dM s (aA (ay (b:=b) (o:=o+i*25) d fun z q=>?_))
  refine bT bZ (bT (aB bZ) (bT (aA bZ) (bT (am p d rfl Hq) (bT gF (aad ?_)))))
  refine P (i+1) z (by omega) ?_
  have q:=q.sg (b:=b) (o:=o+i*25) (c:=(H i).1.enc t u) rfl
  have e:=kC (b:=b) (o:=o+i*25) (H i).1 (a:=t) (c:=u) (q.cI (aG b (o+i*25) ((H i).1.enc t u)) (uZ t u (H i).1.waits))
  have w:eN b (o+i*25) (H i).1=(fun j=>if j<i+1 then eN b (o+j*25) (H j).1 else aG b (o+j*25) (Sn H j (f j))) i:=by simp only[Nat.lt_succ_self,if_true]
  rw[w] at e
  have e:=e.lA (n:=B) (i:=i) (fun j=>if j<i then eN b (o+j*25) (H j).1 else aG b (o+j*25) (Sn H j (f j))) (fun j=>if j<i+1 then eN b (o+j*25) (H j).1 else aG b (o+j*25) (Sn H j (f j))) k (fun j _ J=>by
   have:(j<i+1)=(j<i):=propext ⟨fun h=>by omega,fun h=>by omega⟩;simp only[this])
  have y:uZ (f i).1 (f i).2 (H i).1.waits=(fun j=>Ss H j (f j)) i:=rfl
  rw[y] at e
  have e:=e.lA (n:=B) (i:=i) (fun j=>Ss H j (f j)) (fun j=>Ss H j (f j)) k (fun _ _ _=>rfl)
  exact e.to
theorem Mq {C:bP} {H:kK} (hC:C.Ok) {hb:Nat} (O:yC C H (2^30)) (a:Hs G h L) [R:Has (gM G hb C) L H L'] (P:∀p2 F,Hs G F (gM G p2 C H::gM G hb C H::L')->Q (pt p2 0 0) F):Cl Pr K 76 [pt hb 0 0] h Q:=by
 have T:=(bP.fN hC);have w:0<C.lines:=by omega
 obtain⟨E,b,o,e,a⟩:=rC (R.of a);refine cW (dD (cG (bW (aY a fun U h a=>?_))));have a:=aAm (a.front (dF C.lines fun i=>eN b (o+i*25) (H i).1));have u:Hs G h (dF C.lines (fun i=>vD fun x=>sp [aG b (o+i*25) (Sn H i x),Ss H i x])::hole G 25 247 (some ⟨b,o,none⟩) e C.lines b o::_):=a.cI (dF C.lines fun i=>vD fun x=>sp [aG b (o+i*25) (Sn H i x),Ss H i x]) (hole G 25 247 (some ⟨b,o,none⟩) e C.lines b o);obtain⟨f,a⟩:=Hs.Q8 (W:=25) (c:=Sn H) (d:=Ss H) (none,0) (fun _ _=>rfl) (fun _ _=>rfl) (by decide) w u;clear u;refine aB (aA (am hb a rfl (A.J0 hC a fun k S q=>?_)));refine aB (aA (kB (b:=hb) (o:=0) q (by decide) (l:=C.enc) rfl rfl (aB (aA (am hb q rfl ?_)))));refine dr (by omega) q fun I t J g=>?_;obtain⟨r,s,rfl,g⟩:=Hs.Q7 (W:=25) (c:=fun i=>Sn H i (f i)) (fun _=>rfl) w (g.front (cN 25 247 I t (C.lines,(List.range C.lines).flatMap fun i=>Sn H i (f i))));refine aQ (c:=mK k C r s t) rfl (xD (i:=15) (n:=17) (D:=[]) g rfl rfl fun p y j=>?_);have v:nG (.agg ⟨C.enc⟩) (.agg ⟨C.enc⟩)=true:=oP (by simp[bP.enc,gF]);refine bT bZ (bT bZ (bT (aB bZ) (bT (aB bZ) (bT (aA bZ) (bT (aA bZ) ?_)))));refine bT (kB (b:=hb) (o:=0) a (by decide) (l:=C.enc) rfl rfl v) (bT (kB (b:=hb) (o:=0) j (by decide) (l:=C.enc) rfl rfl v) ?_);refine bT bZ (bT (aB bZ) (bT (aA bZ) (bT (am hb a rfl Hq) ?_)));clear a q g;refine aB (aA (am p j rfl (bU ?_)));have a:=j.cZ (aG p 0 (mK k C r s t)) (dF C.lines fun i=>aG r (s+i*25) (Sn H i (f i))) (dF C.lines fun i=>Ss H i (f i));refine X0 (B:=C.lines) (C:=C) (b:=r) (o:=s) (cap:=t) (mb:=k) (H:=H) (f:=f) (by omega) rfl (fun i z=>(O i z).2) ?_ C.lines 0 y (by omega) (by simpa using a);intro h a;refine P p _ ?_;have a:=sQ (a.kG (aG p 0 (mK k C r s t)) (eO G C.lines k C fun i=>(H i).2) (hole G 25 247 (some ⟨r,s,none⟩) t C.lines r s) (dF C.lines fun i=>eN r (s+i*25) (H i).1));have a:=a.cI (cN 25 247 (some ⟨b,o,none⟩) e (C.lines,(List.range C.lines).flatMap fun i=>Sn H i (f i))) (dF C.lines fun i=>Ss H i (f i));have a:Hs G h (dF C.lines (fun i=>vD fun x=>sp [aG b (o+i*25) (Sn H i x),Ss H i x])::hole G 25 247 (some ⟨b,o,none⟩) e C.lines b o::_):=Hs.Yz (W:=25) (c:=Sn H) (d:=Ss H) f (fun _ _=>rfl) w a;have a:=yv a;have a:=sQ (a.kG (aG hb 0 (mK E C b o e)) (eO G C.lines E C fun i=>(H i).2) (hole G 25 247 (some ⟨b,o,none⟩) e C.lines b o) (dF C.lines fun i=>eN b (o+i*25) (H i).1));exact a.to
end
end Go.Proofs.YtajjljbmfdboaaaGreatDoor.H
namespace Go.Proofs.YtajjljbmfdboaaaGreatDoor.H
open Go Go.Ab Go.Hm Go.Mc
section
set_option maxRecDepth 100000
variable {G:Bg} {h:AH} {L L':List HP} {Q:Value->AH->Prop}
theorem aE3 {α:Type} {l:List α} {i:Nat} (h:i<l.length):∃x,l[i]?=some x/\l.drop i=x::l.drop (i+1):=⟨l[i],by simp,List.drop_eq_getElem_cons h⟩
def Nm (l:List aJ):Int:=((l.filter fun n=>decide (n.kind=0)).length:Int)
theorem nh {l:List aJ} {i:Nat} {n:aJ} (h:l[i]?=some n):Nm (l.take (i+1))=Nm (l.take i)+if n.kind=0 then 1 else 0:=by
 unfold Nm;rw[List.take_add_one,h];simp only[Option.toList_some,List.filter_append,List.filter_cons,List.filter_nil];split<;>simp_all
theorem A3 {a:Option Addr} {c:Nat} {l:List aJ} {k:Int} (hb:l.length<=2^30) (w:0<=k/\k<=1) (v:∀p,Hs G p (uZ a c l::L)->Q (I (k+Nm l)) p):
  ∀(f i:Nat) (h:AH),i+f=l.length->Hs G h (uZ a c l::L)->Dd 121 4 [] Q [(I (k+Nm (l.take i))),(.slice a l.length c),(I l.length),(I i)] h:=by
 intro f
 induction f with
 |zero=>
  intro i h u d
  rw[List.take_of_length_le (by omega)]
  exact bW (bA (aab (v _ d)))
 |succ f r=>
  intro i h u d
  obtain⟨n,q,y⟩:=aE3 (l:=l) (i:=i) (by omega)
  have t:Nm (l.take i)<=2^30/\0<=Nm (l.take i):=by
   unfold Nm;have:=List.length_filter_le (fun n:aJ=>decide (n.kind=0)) (l.take i);have:=List.length_take_le i l;omega
  have g:=nh q
  refine bW (bA (aae (bW (tO (l:=l) (a:=a) (c:=c) (enc:=aJ.enc) (e:=175) d (by decide) (by omega) (by rw[Int.toNat_natCast];exact q) (bQ d fun s h d=>ax (b:=s) d fun h d=>aA (am s d rfl (bH (aX (fun j=>?_) (fun j=>?_)))))))))
  .rw[aJ7 j] at g;refine bW (aad (aad ?_));have:=r (i+1) h (by omega) d.to;rw[g] at this;rw[show k+Nm (l.take i)+1=k+(Nm (l.take i)+1) by omega];exact this
  .rw[aJ6 j] at g;refine bW (aad ?_);have:=r (i+1) h (by omega) d.to;rw[g,Int.add_zero] at this;exact this
theorem Qh {C:bP} {H:kK} {hb:Nat} {x:Int} (z:yC C H (2^30)) (d:Hs G h L) [A:Has (gM G hb C) L H L'] (p:∀y,Hs G y (gM G hb C H::L')->Q (I (fG C H x)) y):Cl Pr K 121 [pt hb 0 0,I x] h Q:=by
 have d:=A.of d;unfold fG at p;by_cases s:C.has x;rotate_left;rw[aJ6 s] at p;obtain⟨r,b,o,f,d⟩:=rC d;refine cW (xP d (cH (eB (aU s (p _ (B3 C H hb r b o f d).to)))));rw[aJ7 s] at p;obtain⟨l,rfl⟩:=Int.eq_ofNat_of_zero_le s.1;have u:l<C.lines:=by have:=s.2;omega
 rw[Int.toNat_natCast] at p;obtain⟨r,b,o,f,d⟩:=Em u d;obtain⟨a,c,d⟩:=dZ d;have q:=(z l u).2;have d:Hs G h (aG b (o+l*25) ((H l).1.enc a c)::uZ a c (H l).1.waits::aG hb 0 (mK r C b o f)::eO G C.lines r C (fun i=>(H i).2)::hole G 25 247 (some ⟨b,o,none⟩) f C.lines b o::Ay b o C.lines H l::L'):=d;have g:∀{h:AH},Hs G h (uZ a c (H l).1.waits::aG b (o+l*25) ((H l).1.enc a c)::aG hb 0 (mK r C b o f)::eO G C.lines r C (fun i=>(H i).2)::hole G 25 247 (some ⟨b,o,none⟩) f C.lines b o::Ay b o C.lines H l::L')->Hs G h (gM G hb C H::L'):=by
  intro h d;have d:=kC (H l).1 (a:=a) (c:=c) d.lK;have d:=eQ hb C H l (H l).1 (H l).2 _ r b o f u fA.symm d;have e:aS H l ((H l).1,(H l).2)=H:=by funext j;unfold aS;split<;>simp_all
  rw[e] at d;exact d
 refine cW (xP d (cH (eB (bS s (bW (aB (aA (am hb d rfl (dM u (aB (aA (aD (b:=b) (o:=o+l*25) d rfl (dI (fun v=>?_) (fun v=>?_))))))))))))));refine aB (aA (aA (aD (b:=b) (o:=o+l*25) d rfl (bH (aX (fun w=>?_) (fun w=>?_))))));refine bW (aad (aB (aA (aD (b:=b) (o:=o+l*25) d rfl (bU ?_)))));refine A3 (a:=a) (c:=c) (l:=(H l).1.waits) (k:=1) q (by omega) (fun h d=>?_) (H l).1.waits.length 0 h (by omega) d.lK;have:=p h (g d);unfold Row.Ak at this;rw[aJ7 ⟨v,w⟩] at this;exact this;refine bW (aB (aA (aD (b:=b) (o:=o+l*25) d rfl (bU ?_))));refine A3 (a:=a) (c:=c) (l:=(H l).1.waits) (k:=0) q (by omega) (fun h d=>?_) (H l).1.waits.length 0 h (by omega) d.lK;have:=p h (g d);unfold Row.Ak at this;rw[aJ6 (fun t=>w t.2)] at this;exact this;refine aB (aA (aD (b:=b) (o:=o+l*25) d rfl (bU ?_)));refine A3 (a:=a) (c:=c) (l:=(H l).1.waits) (k:=0) q (by omega) (fun h d=>?_) (H l).1.waits.length 0 h (by omega) d.lK;have:=p h (g d);unfold Row.Ak at this;rw[aJ6 (fun t=>by rw[v] at t;cases t.1)] at this;exact this
end
end Go.Proofs.YtajjljbmfdboaaaGreatDoor.H
namespace Go.Proofs.YtajjljbmfdboaaaGreatDoor
open Go Go.Ab Go.Hm Go.At Go.Mc Go.Ct Go.Nt
section
def pX (C:bP) (H:kK) (l:List Nat):kK:=l.foldl (fun H (l:Nat)=>(jA C H l).1) H
theorem Yu {C:bP} {H:kK} {l:List Nat} {k:Nat}:pX C H (l++[k])=(jA C (pX C H l) k).1:=by unfold pX;rw[List.foldl_append];rfl
theorem Xp {C:bP} {H:kK} {N:Nat} {l:Int} (h:yC C H N):yC C (jA C H l).1 (N+1):=by
 intro k d;obtain⟨a,c⟩:=h k d;unfold jA;split;rename_i f;unfold aS;dsimp only;split;rename_i e;subst e;refine⟨⟨a.core,a.owner,?_⟩,?_⟩;intro n b;rcases List.mem_append.1 b with b|b;exact a.waits n b;rw[List.mem_singleton.1 b];show(0:Int)<=0/\(0:Int)<4;omega;show((H l.toNat).1.waits++[mS l]).length<=N+1;rw[List.length_append,List.length_singleton];omega;exact⟨a,by omega⟩;exact⟨a,Nat.le_succ_of_le c⟩
theorem Tx {C:bP} {N:Nat}:∀{l:List Nat} {H:kK},yC C H N->yC C (pX C H l) (N+l.length):=by
 intro l;induction l generalizing N with
 |nil=>intro H h;exact h
 |cons k l a=>
  intro H h;have:=a (Xp (l:=k) h);rw[List.length_cons,show N+(l.length+1)=N+1+l.length by omega];exact this
set_option maxRecDepth 100000
variable {G:Bg} {h:AH} {L L':List HP} {Q:Value->AH->Prop} {Cf:bP} {m:Nat} {M:dB}
abbrev swX (G:Bg) (Cf:bP) (m p2:Nat) (M:dB) (e:Nat->Value) (d l:Nat) (done:List Nat):HP:=sp [pH Pr 212 (pD 14) 18 e d l (.ready,none),aG p2 0 [pt m 0 0],bX G Cf m (M.qH (pX Cf M.home done))]
theorem fq {g:Nat} (hC:Cf.Ok) (hG:Gb G) (B:(g:Int)<Cf.aN) (D:yC Cf M.home (2^30 - 4)) (a:Hs G h L) [E:Has (bX G Cf m) L M L'] (f:∀v j,Hs G j (bX G Cf m (M.qH (xE Cf M.home g))::L')->Q v j):Cl Pr K 212 [pt m 0 0,I g] h Q:=by
 refine cW (dR (E.of a) fun c h a=>?_);obtain⟨x,i,a⟩:=dC (a.front (bX G Cf m M));refine am c a rfl (aB (aA (kB (b:=m) (o:=0) a (by decide) (l:=Cf.enc) rfl rfl (De (C:=Cf) a fun s t h a=>?_))));have a:Hs G h (bX G Cf m (M.qH (pX Cf M.home []))::_):=bM (m:=m) (x:=x) M i a;refine oF a fun d h a=>?_;intro e A;refine sV a fun l h a=>Ah rfl ?_;have a:Hs G h (sp [aG s 0 Cf.enc,aG t 0 [I g]]::swX G Cf m c M e d l []::mk d ()::L'):=by
  have a:=(a.cZ (pH Pr 212 (pD 14) 18 e d l (.ready,none)) (aG c 0 [pt m 0 0]) (bX G Cf m (M.qH (pX Cf M.home [])))).V5;exact a.to
 refine(G2 (C:=Cf) hC B (p:=s) (q:=t) hG.lim).fold (X:=fun done=>swX G Cf m c M e d l done) (Z:=fun _ _=>B6 False) a ?_ ?_ ?_
 .intro done y h N r a;have a:=a.D2;have z:done.length<=1:=by have:=r.length_le;simp at this;omega
  obtain⟨x,i,a⟩:=dC (a.front (bX G Cf m (M.qH (pX Cf M.home done))));refine rW (Aa a) A (lT a fun h a=>am c a rfl (aB (aA (am m a rfl ?_))));refine H.sa (C:=Cf) (H:=pX Cf M.home done) (fun k f=>by have:=Tx (l:=done) D k f;exact⟨this.1,by omega⟩) a fun h a=>mD a fun h a=> .inl ⟨rfl,?_⟩;rw[<-Yu] at a;have a:=bM (m:=m) (x:=x) (M.qH (pX Cf M.home (done++[y]))) i a;have a:=(a.cZ (pH Pr 212 (pD 14) 18 e d l (.ready,none)) (aG c 0 [pt m 0 0]) (bX G Cf m (M.qH (pX Cf M.home (done++[y]))))).V5;exact a.to
 intro v h a;have a:=(a.front (swX G Cf m c M e d l [g*2,g*2+1])).D2;have u:pX Cf M.home [g*2,g*2+1]=xE Cf M.home g:=by unfold pX xE;simp
 rw[u] at a;exact tR a fun h a=>tA (oT a fun h a=>mB (f _ _ a.to))
 .intro done y v h r a;obtain⟨w,_⟩:=(a.front (B6 False)).xw;exact w.elim
end
section
set_option maxRecDepth 100000
variable {G:Bg} {h:AH} {L L':List HP} {Q:Value->AH->Prop} {Cf:bP} {m:Nat} {M:dB} {n:aJ}
def aCw (G:Bg) (Cf:bP) (m:Nat) (Z:HP) (b:Value) (A B:dB):Prop:=∀(h:AH) (L:List HP) (Q:Value->AH->Prop),Hs G h (Z::bX G Cf m A::L)->(∀v a,Hs G a (bX G Cf m B::L)->Q v a)->yO Pr K b [] h Q
abbrev TK (G:Bg) (Cf:bP) (m:Nat) (M:dB) (L:List HP) (Q:Value->AH->Prop) (r:dB×List aJ×Int):Prop:=∀v a Z b,Hs G b (H.eP v r.2.1::Z::bX G Cf m M::L)->(r.2.2=0->∀F,aCw G Cf m Z a (M.dN F) (r.1.dN F))->Q (.tuple ⟨[v,a,I r.2.2]⟩) b
theorem G0 {C:bP} {H:kK} {N N':Nat} (h:yC C H N) (b:N<=N'):yC C H N':=fun k a=>⟨(h k a).1,Nat.le_trans (h k a).2 b⟩
theorem aAn {p2 i:Nat} (hC:Cf.Ok) (hG:Gb G) (j:xS Cf M n) (a:Hs G h (aG p2 0 [pt m 0 0]::aG i 0 n.enc::bX G Cf m M::L)) (d:TK G Cf m M L Q (M.qH (fD Cf M.home n).1,(fD Cf M.home n).2.1,(fD Cf M.home n).2.2)):Dd 156 3 [] Q [(pt p2 0 0),(pt i 0 0)] h:=by
 obtain⟨x,g,a⟩:=dC (a.front (bX G Cf m M));refine bW (am p2 a rfl (aB (aA (am m a rfl (H.Mq (C:=Cf) hC (G0 j.home (by omega)) a fun q h a=>bQ a fun c h a=>ax (b:=c) a fun h a=>am c a rfl (an i a (l:=n.enc) rfl rfl ?_))))));refine H.Fg (C:=Cf) (hb:=q) (H:=M.home) (n:=n) hC hG.lim (G0 j.home (by omega)) a fun v h a=>aH rfl (aH rfl ?_);have a:=bM (m:=m) (x:=x) M g a;have a:=(a.cZ (aG c 0 [pt q 0 0]) (aG p2 0 [pt m 0 0]) (H.gM G q Cf (fD Cf M.home n).1)).V5;refine d v _ (sp [aG c 0 [pt q 0 0],aG p2 0 [pt m 0 0],H.gM G q Cf (fD Cf M.home n).1]) h a.to fun _ F=>?_;intro h L Q a d;have a:=a.D2;obtain⟨x,g,a⟩:=dC (a.front (bX G Cf m (M.dN F)));refine mZ rfl (cW (f:=201) (am p2 a rfl (am c a rfl (aB (aA (ay (b:=m) (o:=0) a fun h a=>d _ _ ?_))))));have e:dN (fJ Cf x M.log.length) (0+10) [pt q 0 0]=fJ Cf {x with hb:=q} M.log.length:=rfl;rw[e] at a;exact(bM (m:=m) (x:={x with hb:=q}) ((M.qH (fD Cf M.home n).1).dN F) g a).to
theorem tu {p2 u:Nat} (hC:Cf.Ok) (hG:Gb G) (y:xS Cf M n) (d:Hs G h (aG p2 0 [pt m 0 0]::aG u 0 n.enc::bX G Cf m M::L)) (w:TK G Cf m M L Q (M.uG n.core.toNat (fT Cf n.core (M.dG n.core.toNat) n).1,(fT Cf n.core (M.dG n.core.toNat) n).2.1,(fT Cf n.core (M.dG n.core.toNat) n).2.2)):Dd 156 9 [] Q [(pt p2 0 0),(pt u 0 0)] h:=by
 have k:Bd (M.dG n.core.toNat):=y.Zp.bd (lF hC).2.2.2;obtain⟨i,z⟩:=Int.eq_ofNat_of_zero_le y.core.1;have E:(i:Int)<Cf.aE:=by have:=y.core.2;omega
 rw[z,Int.toNat_natCast] at w;have j:=y.Zp;rw[z,Int.toNat_natCast] at j k;obtain⟨x,p,d⟩:=dC (d.front (bX G Cf m M));have g:i<x.lk.length:=by have:=p.2.1;omega
 have A:n.enc[0+1]?=some (I i):=by show some (I n.core)=_;rw[z]
 refine bW (aY d fun B h d=>am p2 d rfl (aB (aA (am m d rfl (aA (am u d A (Lf d g ?_)))))));have d:=jC (R:=rP G Cf) (l:=x.lk) (s:=M.dG) g d;refine C.Zv (C:=Cf) (core:=(i:Int)) (c:=x.lk.getD i 0) (s:=M.dG i) hC k d fun q h d=>jM (r:=B) (i:=9) (n:=11) (D:=[]) d rfl rfl fun v h d=>ax (b:=v) d fun h d=>am v d rfl (an u d (l:=n.enc) rfl rfl ?_);refine C.Fg (C:=Cf) (core:=(i:Int)) (c:=q) (s:=M.dG i) (n:=n) hC k j.sts hG.lim hG.row d fun a c h d=>aH rfl (aH rfl ?_);have d:=B1 (Cf:=Cf) (l:=x.lk) (s:=M.dG) (i:=i) (t:=M.dG i) g d;rw[bV] at d;have d:=bM (m:=m) (x:=x) M p d;have d:=(d.kG (aG v 0 [pt q 0 0]) (aG p2 0 [pt m 0 0]) (aG u 0 n.enc) (C.gY G q Cf i (fT Cf i (M.dG i) n).1)).M8;have d:=H.G8 (l:=(fT Cf i (M.dG i) n).2.1) rfl rfl (d.front (cN 9 175 a c ((fT Cf i (M.dG i) n).2.1.length,eM (fT Cf i (M.dG i) n).2.1)));refine w _ _ (sp [aG v 0 [pt q 0 0],aG p2 0 [pt m 0 0],aG u 0 n.enc,C.gY G q Cf i (fT Cf i (M.dG i) n).1]) h d.to fun _ F=>?_;intro h L Q d w;have d:=d.zc;obtain⟨x,p,d⟩:=dC (d.front (bX G Cf m (M.dN F)));have g:i<x.lk.length:=by have:=p.2.1;omega
 refine mZ rfl (cW (f:=203) (aY d fun B h d=>am p2 d rfl (aB (aA (am m d rfl (aA (am u d A (am v d rfl (bu d g fun h d=>w _ _ ?_)))))))));have d:=jC (R:=rP G Cf) (l:=x.lk) (s:=M.dG) g d;have d:=Fc (R:=rP G Cf) (l:=x.lk) (s:=M.dG) (i:=i) (q:=q) (t:=(fT Cf i (M.dG i) n).1) g d;have e:fJ Cf x M.log.length=fJ Cf {x with lk:=x.lk.set i q} M.log.length:=by unfold fJ;rw[List.length_set]
 rw[e] at d;exact(bM (m:=m) (x:={x with lk:=x.lk.set i q}) ((M.uG i (fT Cf i (M.dG i) n).1).dN F) ⟨p.1,by rw[List.length_set];exact p.2.1,p.2.2⟩ d).to
end
section
theorem U1 {m:Mon} {c g x:Int} (h:(m.dropped c g x).2.1=true):m.has g:=by
 unfold Mon.dropped at h;by_cases a:m.has g;exact a;rw[aJ7 a] at h;cases h
set_option maxRecDepth 100000
variable {G:Bg} {h:AH} {L L':List HP} {Q:Value->AH->Prop} {Cf:bP} {m:Nat} {M:dB} {n:aJ}
theorem vg {v:Value} {l:List aJ} (a:Hs G h (H.eP v l::L)):Hs G h (H.eP v l::sp []::L):=(Hs.pack (A:=[]) a).lK
theorem Nx {a:Addr} {c:Nat} {x:aJ} (b:Hs G h (cN 9 175 (some a) c (1,x.enc)::L)):Hs G h (H.eP (.slice (some a) 1 c) [x]::L):=H.G8 (l:=[x]) rfl (by simp[eM]) b
theorem Hc (a:Hs G h L):Hs G h (H.eP (.slice none 0 0) []::L):=H.qI a
theorem z8 {p2 e:Nat} (hC:Cf.Ok) (j:xS Cf M n) (d:Hs G h (aG p2 0 [pt m 0 0]::aG e 0 n.enc::bX G Cf m M::L)) (g:TK G Cf m M L Q (M,[sG n.core (iO M.cE.dQ n.no).1 n.no],(iO M.cE.dQ n.no).2)):Dd 156 13 [] Q [(pt p2 0 0),(pt e 0 0)] h:=by
 have i:=j.cE.len;have k:=hC.2.1;obtain⟨x,l,d⟩:=dC (d.front (bX G Cf m M));obtain⟨t,b,d⟩:=kV (d.front (fV Cf x.mb M.cE));refine bW (aY d fun p h d=>am p2 d rfl (aB (aA (am m d rfl (aB (aA (aD (b:=x.mb) (o:=0) d rfl (aA (am e d rfl (nr (es:=M.cE.dQ) (by omega) j.cE.own d fun h d=>?_))))))))));refine aH rfl (aH rfl (aA (am e d rfl (aQ (c:=[I (iO M.cE.dQ n.no).1,I 0]) rfl (aA (am e d rfl (aQ (c:=(sG n.core (iO M.cE.dQ n.no).1 n.no).enc) rfl (aQ (c:=(sG n.core (iO M.cE.dQ n.no).1 n.no).enc) rfl (dL (W:=9) (n:=1) (c:=1) d rfl rfl rfl fun a h d=>?_)))))))));have d:=dU (d.cZ (aG x.mb 0 [pt t 0 0,I Cf.aE,gH b]) (gW t M.cE.dQ) (iJ b (gB M.cE.runs)));have d:=bM (m:=m) (x:=x) M l d;have d:=Nx (d.front (cN 9 175 (some a) 1 (1,(sG n.core (iO M.cE.dQ n.no).1 n.no).enc)));refine g _ _ (sp []) h (vg d.to) fun _ F=>?_;intro h L Q d g;exact mZ rfl (cW (f:=205) (g _ _ d.tail))
theorem re {q j p2 g i:Nat} {t:kE} (_:Cf.Ok) (k:n.enc[0+1]?=some (I i)) (p:(i:Int)<Cf.aE) (F:gL):aCw G Cf m (sp [aG j 0 [pt q 0 0],aG p2 0 [pt m 0 0],aG g 0 n.enc,kN q Cf t]) (.func (.func 207) #[] #[pt j 0 0,pt p2 0 0,pt g 0 0]) (M.dN F) ((M.Dy i t).dN F):=by
 intro h L Q a r;have a:=a.zc;obtain⟨x,d,a⟩:=dC (a.front (bX G Cf m (M.dN F)));have c:i<x.lq.length:=by have:=d.2.2;omega
 refine mZ rfl (cW (f:=207) (aY a fun u h a=>am p2 a rfl (aB (aA (am m a rfl (aA (am g a k (am j a rfl (Q6 a c fun h a=>r _ _ ?_)))))))));have a:=jC (R:=qA Cf) (l:=x.lq) (s:=M.cQ) c a;have a:=Fc (R:=qA Cf) (l:=x.lq) (s:=M.cQ) (i:=i) (q:=q) (t:=t) c a;have e:fJ Cf x M.log.length=fJ Cf {x with lq:=x.lq.set i q} M.log.length:=by unfold fJ;rw[List.length_set]
 rw[e] at a;exact(bM (m:=m) (x:={x with lq:=x.lq.set i q}) ((M.Dy i t).dN F) ⟨d.1,d.2.1,by rw[List.length_set];exact d.2.2⟩ a).to
theorem y8 {q j p2 g i:Nat} {t:kE} (_:Cf.Ok) (k:n.enc[0+1]?=some (I i)) (p:(i:Int)<Cf.aE) (F:gL):aCw G Cf m (sp [aG j 0 [pt q 0 0],aG p2 0 [pt m 0 0],aG g 0 n.enc,kN q Cf t]) (.func (.func 209) #[] #[pt j 0 0,pt p2 0 0,pt g 0 0]) (M.dN F) ((M.Dy i t).dN F):=by
 intro h L Q a r;have a:=a.zc;obtain⟨x,d,a⟩:=dC (a.front (bX G Cf m (M.dN F)));have c:i<x.lq.length:=by have:=d.2.2;omega
 refine mZ rfl (cW (f:=209) (aY a fun u h a=>am p2 a rfl (aB (aA (am m a rfl (aA (am g a k (am j a rfl (Q6 a c fun h a=>r _ _ ?_)))))))));have a:=jC (R:=qA Cf) (l:=x.lq) (s:=M.cQ) c a;have a:=Fc (R:=qA Cf) (l:=x.lq) (s:=M.cQ) (i:=i) (q:=q) (t:=t) c a;have e:fJ Cf x M.log.length=fJ Cf {x with lq:=x.lq.set i q} M.log.length:=by unfold fJ;rw[List.length_set]
 rw[e] at a;exact(bM (m:=m) (x:={x with lq:=x.lq.set i q}) ((M.Dy i t).dN F) ⟨d.1,d.2.1,by rw[List.length_set];exact d.2.2⟩ a).to
theorem la {p2 f:Nat} (hC:Cf.Ok) (z:xS Cf M n) (O:0<=n.d0/\n.d0<=1000000) (d:Hs G h (aG p2 0 [pt m 0 0]::aG f 0 n.enc::bX G Cf m M::L))
  (w:TK G Cf m M L Q (M.Dy n.core.toNat ((M.cQ n.core.toNat).walked Cf n.no n.d0).1,if((M.cQ n.core.toNat).walked Cf n.no n.d0).2.2.1 then [] else [dP 6 n.core ((M.cQ n.core.toNat).walked Cf n.no n.d0).2.1],((M.cQ n.core.toNat).walked Cf n.no n.d0).2.2.2)):Dd 156 16 [] Q [(pt p2 0 0),(pt f 0 0)] h:=by
 obtain⟨i,K⟩:=Int.eq_ofNat_of_zero_le z.core.1
 have v:(i:Int)<Cf.aE:=by have:=z.core.2;omega
 have j:=z.pG
 have u:=z.bK
 have y:n.enc[0+1]?=some (I i):=by show some (I n.core)=_;rw[K]
 rw[K,Int.toNat_natCast] at w j u
 obtain⟨x,B,d⟩:=dC (d.front (bX G Cf m M))
 have g:i<x.lq.length:=by have:=B.2.2;omega
 refine bW (aY d fun P h d=>am p2 d rfl (aB (aA (am m d rfl (aA (am f d y (Mb d g ?_)))))))
 have d:=jC (R:=qA Cf) (l:=x.lq) (s:=M.cQ) g d
 refine Cz (C:=Cf) (p:=x.lq.getD i 0) (s:=M.cQ i) j d fun q h d=>jM (r:=P) (i:=9) (n:=11) (D:=[]) d rfl rfl fun k h d=>ax (b:=k) d fun h d=>am k d rfl (aA (am f d rfl (aA (dX (by decide) (by decide) (am f d rfl ?_)))))
 refine dc (C:=Cf) (p:=q) (s:=M.cQ i) hC j u O d fun h d=>aH rfl (aH rfl (aH rfl (cH (eB (dI (fun A=>?_) (fun A=>?_))))))
 .rw[A,aJ7 rfl] at w;have d:=xY (Cf:=Cf) (l:=x.lq) (s:=M.cQ) (i:=i) (t:=M.cQ i) g d;rw[bV] at d;have d:=bM (m:=m) (x:=x) M B d;have d:=(d.kG (aG k 0 [pt q 0 0]) (aG p2 0 [pt m 0 0]) (aG f 0 n.enc) (kN q Cf ((M.cQ i).walked Cf n.no n.d0).1)).M8;exact w _ _ (sp [aG k 0 [pt q 0 0],aG p2 0 [pt m 0 0],aG f 0 n.enc,kN q Cf ((M.cQ i).walked Cf n.no n.d0).1]) h (Hc d.to) fun _ F=>re hC y v F
 .rw[A,aJ6 (by simp)] at w;have d:=vC (enc:=aJ.enc) (e:=175) d;refine bW (aA (am f d y (aQ (c:=(dP 6 i ((M.cQ i).walked Cf n.no n.d0).2.1).enc) rfl (aQ (c:=(dP 6 i ((M.cQ i).walked Cf n.no n.d0).2.1).enc) rfl (dL (W:=9) (n:=1) (c:=1) d rfl rfl rfl fun a h d=>?_)))));have d:=xV (enc:=aJ.enc) (x:=dP 6 i ((M.cQ i).walked Cf n.no n.d0).2.1) d;refine uM (enc:=aJ.enc) (e:=175) (l:=[]) (l2:=[dP 6 i ((M.cQ i).walked Cf n.no n.d0).2.1]) (a:=none) (c:=0) (a2:=some a) (c2:=1) d (by simp) fun E J h d=>?_;have d:=xY (Cf:=Cf) (l:=x.lq) (s:=M.cQ) (i:=i) (t:=M.cQ i) g d;rw[bV] at d;have d:=bM (m:=m) (x:=x) M B d;have d:=(d.kG (aG k 0 [pt q 0 0]) (aG p2 0 [pt m 0 0]) (aG f 0 n.enc) (kN q Cf ((M.cQ i).walked Cf n.no n.d0).1)).M8;have d:=d.front (ls aJ.enc 9 175 E J ([]++[dP 6 i ((M.cQ i).walked Cf n.no n.d0).2.1]));unfold ls at d;have d:=H.G8 (l:=[dP 6 i ((M.cQ i).walked Cf n.no n.d0).2.1]) rfl (by simp[eL,eM]) d;exact w (.slice E [dP 6 i ((M.cQ i).walked Cf n.no n.d0).2.1].length J) _ (sp [aG k 0 [pt q 0 0],aG p2 0 [pt m 0 0],aG f 0 n.enc,kN q Cf ((M.cQ i).walked Cf n.no n.d0).1]) h d.to fun _ F=>re hC y v F
theorem aA8 {p2 e:Nat} (hC:Cf.Ok) (v:xS Cf M n) (d:Hs G h (aG p2 0 [pt m 0 0]::aG e 0 n.enc::bX G Cf m M::L))
  (y:TK G Cf m M L Q (M.Dy n.core.toNat ((M.cQ n.core.toNat).drop Cf n.no).1,[dP 7 n.core n.no],((M.cQ n.core.toNat).drop Cf n.no).2)):Dd 156 19 [] Q [(pt p2 0 0),(pt e 0 0)] h:=by
 obtain⟨i,w⟩:=Int.eq_ofNat_of_zero_le v.core.1
 have u:(i:Int)<Cf.aE:=by have:=v.core.2;omega
 have g:=v.pG
 have k:n.enc[0+1]?=some (I i):=by show some (I n.core)=_;rw[w]
 rw[w,Int.toNat_natCast] at y g
 obtain⟨x,z,d⟩:=dC (d.front (bX G Cf m M))
 have f:i<x.lq.length:=by have:=z.2.2;omega
 refine bW (aY d fun A h d=>am p2 d rfl (aB (aA (am m d rfl (aA (am e d k (Mb d f ?_)))))))
 have d:=jC (R:=qA Cf) (l:=x.lq) (s:=M.cQ) f d
 refine Cz (C:=Cf) (p:=x.lq.getD i 0) (s:=M.cQ i) g d fun q h d=>jM (r:=A) (i:=9) (n:=11) (D:=[]) d rfl rfl fun j h d=>ax (b:=j) d fun h d=>am j d rfl (aA (am e d rfl ?_))
 refine Y1 (C:=Cf) (p:=q) (s:=M.cQ i) g d fun _ h d=>aH rfl (aH rfl (aA (am e d k (aA (am e d rfl (aQ (c:=(dP 7 i n.no).enc) rfl (aQ (c:=(dP 7 i n.no).enc) rfl (dL (W:=9) (n:=1) (c:=1) d rfl rfl rfl fun a h d=>?_))))))))
 have d:=xY (Cf:=Cf) (l:=x.lq) (s:=M.cQ) (i:=i) (t:=M.cQ i) f d
 rw[bV] at d
 have d:=bM (m:=m) (x:=x) M z d
 have d:=(d.kG (aG j 0 [pt q 0 0]) (aG p2 0 [pt m 0 0]) (aG e 0 n.enc) (kN q Cf ((M.cQ i).drop Cf n.no).1)).M8
 have d:=Nx (d.front (cN 9 175 (some a) 1 (1,(dP 7 i n.no).enc)))
 exact y _ _ (sp [aG j 0 [pt q 0 0],aG p2 0 [pt m 0 0],aG e 0 n.enc,kN q Cf ((M.cQ i).drop Cf n.no).1]) h d.to fun _ F=>y8 hC k u F
theorem Wb {p2 c:Nat} (hC:Cf.Ok) (hG:Gb G) (k:xS Cf M n) (a:Hs G h (aG p2 0 [pt m 0 0]::aG c 0 n.enc::bX G Cf m M::L))
  (d:TK G Cf m M L Q (if(M.cE.dropped Cf.aE n.no n.core).2.1 then(M.iY (M.cE.dropped Cf.aE n.no n.core).1).qH (xE Cf M.home n.no) else M.iY (M.cE.dropped Cf.aE n.no n.core).1,[],(M.cE.dropped Cf.aE n.no n.core).2.2)):Dd 156 21 [] Q [(pt p2 0 0),(pt c 0 0)] h:=by
 obtain⟨x,s,a⟩:=dC (a.front (bX G Cf m M))
 refine bW (am p2 a rfl (aB (aA (am m a rfl (La (C:=Cf) (m:=M.cE) hC k.cE a fun q h a=>bQ a fun l h a=>ax (b:=l) a fun h a=>am l a rfl (aA (am c a rfl (aA (am c a rfl ?_)))))))))
 refine No (C:=Cf) (m:=M.cE) (p:=q) hC k.cE a fun h a=>aH rfl (aH rfl (bQ a fun i h a=>ax (b:=i) a fun h a=>?_))
 have a:=bM (m:=m) (x:=x) M s a
 have a:=(a.cI (aG i 0 [.bool (M.cE.dropped Cf.aE n.no n.core).2.1]) (aG c 0 n.enc)).Hu
 have a:=(a.kG (aG l 0 [pt q 0 0]) (aG p2 0 [pt m 0 0]) (sp [aG i 0 [.bool (M.cE.dropped Cf.aE n.no n.core).2.1],aG c 0 n.enc]) (fV Cf q (M.cE.dropped Cf.aE n.no n.core).1)).M8
 refine d _ _ (sp [aG l 0 [pt q 0 0],aG p2 0 [pt m 0 0],sp [aG i 0 [.bool (M.cE.dropped Cf.aE n.no n.core).2.1],aG c 0 n.enc],fV Cf q (M.cE.dropped Cf.aE n.no n.core).1]) h (Hc a.to) fun _ F=>?_
 intro h L Q a d
 have a:=a.zc
 have a:=(a.front (sp [aG i 0 [.bool (M.cE.dropped Cf.aE n.no n.core).2.1],aG c 0 n.enc])).G5
 obtain⟨x,s,a⟩:=dC (a.front (bX G Cf m (M.dN F)))
 refine mZ rfl (cW (f:=211) (am p2 a rfl (am l a rfl (aB (aA (ay (b:=m) (o:=0) a fun h a=>am i a rfl (dI (fun r=>?_) (fun r=>?_))))))))
 .have u:=U1 r;obtain⟨g,j,w,_⟩:=Qq k.cE hC u;have y:=k.cE.len;rw[aJ7 r] at d;have e:dN (fJ Cf x M.log.length) (0+11) [pt q 0 0]=fJ Cf {x with mb:=q} M.log.length:=rfl;rw[e] at a;have t:n.enc[0+8]?=some (I g):=by show some (I n.no)=_;rw[j]
  refine am p2 a rfl (aA (am c a t ?_))
  have a:=bM (m:=m) (x:={x with mb:=q}) ((M.iY (M.cE.dropped Cf.aE n.no n.core).1).dN F) s a
  rw[j] at d a
  exact fq (Cf:=Cf) (M:=(M.iY (M.cE.dropped Cf.aE g n.core).1).dN F) hC hG (by omega) k.home a fun v h a=>d _ _ a.to
 .rw[aJ6 (by rw[r];simp)] at d;have e:dN (fJ Cf x M.log.length) (0+11) [pt q 0 0]=fJ Cf {x with mb:=q} M.log.length:=rfl;rw[e] at a;exact d _ _ (bM (m:=m) (x:={x with mb:=q}) ((M.iY (M.cE.dropped Cf.aE n.no n.core).1).dN F) s a).to
end
section
set_option maxRecDepth 100000
variable {G:Bg} {h:AH} {L L':List HP} {Q:Value->AH->Prop} {Cf:bP} {m:Nat} {M:dB} {n:aJ}
theorem qe (hC:Cf.Ok) (hG:Gb G) (f:xS Cf M n) (c:Hs G h L) [B:Has (bX G Cf m) L M L'] (a:TK G Cf m M L' Q (M.fI Cf n)):Cl Pr K 156 [pt m 0 0,.agg ⟨n.enc⟩] h Q:=by
 refine cW (dR (B.of c) fun r h c=>dR c fun j h c=>aA (am j c rfl ?_));have c:Hs G h (aG r 0 [pt m 0 0]::aG j 0 n.enc::bX G Cf m M::L'):=c.to;have home:(n.kind=1\/n.kind=2\/n.kind=3\/n.kind=4\/n.kind=5)->Dd 156 3 [] Q [(pt r 0 0),(pt j 0 0)] h:=fun e=>by
  unfold dB.fI at a;rw[aJ7 e] at a;exact aAn hC hG f c a
 have cache:¬(n.kind=1\/n.kind=2\/n.kind=3\/n.kind=4\/n.kind=5)->(n.kind=8\/n.kind=9\/n.kind=10\/n.kind=11)->Dd 156 9 [] Q [(pt r 0 0),(pt j 0 0)] h:=fun z e=>by
  unfold dB.fI at a;rw[aJ6 z,aJ7 e] at a;exact tu hC hG f c a
 refine bH (aX (fun s=>bW (bS s (home (by omega)))) (fun s=>bW ?_));refine bH (aX (fun t=>bW (bS t (home (by omega)))) (fun t=>bW ?_));refine bH (aX (fun u=>bW (bS u (home (by omega)))) (fun u=>bW ?_));refine bH (aX (fun v=>bW (bS v (home (by omega)))) (fun v=>bW ?_));refine bH (aX (fun A=>home (by omega)) (fun A=>bW ?_));refine bH (aX (fun w=>bW (bS w (cache (by omega) (by omega)))) (fun w=>bW ?_));refine bH (aX (fun y=>bW (bS y (cache (by omega) (by omega)))) (fun y=>bW ?_));refine bH (aX (fun i=>bW (bS i (cache (by omega) (by omega)))) (fun i=>bW ?_));refine bH (aX (fun l=>cache (by omega) (by omega)) (fun l=>bW ?_));unfold dB.fI at a;rw[aaa,aaa] at a;refine bH (aX (fun p=>?_) (fun p=>bW ?_));rw[aJ7 p] at a;exact z8 hC f c a;rw[aJ6 p] at a;refine bH (aX (fun d=>?_) (fun d=>bW ?_));rw[aJ7 d] at a;exact la hC f (f.word d) c a;rw[aJ6 d] at a;refine bH (aX (fun g=>?_) (fun g=>bW ?_));rw[aJ7 g] at a;exact aA8 hC f c a;rw[aJ6 g] at a;refine bH (aX (fun q=>?_) (fun q=>?_));rw[aJ7 q] at a;exact Wb hC hG f c a;rw[aJ6 q] at a;have c:Hs G h (bX G Cf m M::L'):=c.to;exact a _ _ (sp []) h (vg (Hc c)) fun k=>absurd k (by show ¬(15:Int)=0;omega)
theorem jz (_:Cf.Ok):(M.fI Cf n).2.1.length<=100:=by
 unfold dB.fI;split;unfold fD;split;simp;split;unfold mA.take;split;split<;>simp;split;split;simp;unfold mA.mW;dsimp only;have a:= @F4;have b:= @uO;grind [Row.rest];simp;simp
 .split;have:=uw (C:=Cf) (core:=n.core) (s:=M.dG n.core.toNat) (nt:=n);dsimp only;omega
  .repeat' split
   all_goals simp
   all_goals split<;>simp
theorem Sy {d:Do} (hC:Cf.Ok) (hG:Gb G) (z:pg Cf M.kM) (D:∀n,(M.kM.take Cf d.a d.b d.c).2.2=0->(M.kM.take Cf d.a d.b d.c).2.1=n->xS Cf M n) (j:pg Cf (M.kM.take Cf d.a d.b d.c).1) (g:Hs G h L) [J:Has (bX G Cf m) L M L'] (i:∀y,Hs G y (bX G Cf m (M.sB Cf d.a d.b d.c).1::L')->Q (I (M.sB Cf d.a d.b d.c).2) y):Cl Pr K 111 [pt m 0 0,.agg ⟨d.enc⟩] h Q:=by
 unfold dB.sB at i;refine cW (dR (cs:=d.enc) (J.of g) fun w h g=>?_);obtain⟨x,r,g⟩:=dC (g.front (bX G Cf m M));refine aB (aA (am m g rfl (Xw (C:=Cf) (F:=M.kM) hC (z.W3 hC) g fun q h g=>?_)));refine aA (am w g rfl (aA (am w g rfl (aA (am w g rfl ?_)))));refine Xm (C:=Cf) (f:=q) (F:=M.kM) hC (z.W3 hC) g fun h g=>aH rfl (aH rfl (bQ g fun B h g=>ax (b:=B) g fun h g=>bC (aX (fun p=>?_) (fun p=>?_))));rw[aJ7 p] at i;exact i _ (bM (m:=m) (x:=x) M r g).to;rw[aJ6 p] at i;have A:=D _ (by omega) rfl;generalize M.kM.take Cf d.a d.b d.c=tt at i g p A j;have g:=bM (m:=m) (x:=x) M r g;refine bW (an B g (l:=tt.2.1.enc) rfl rfl (qe (Cf:=Cf) (M:=M) (n:=tt.2.1) hC hG A g ?_));intro v O Z h g k;refine aH rfl (aH rfl (aH rfl (bC (aX (fun s=>?_) (fun s=>?_)))));dsimp only at i;rw[aJ7 s] at i;exact i _ g.to;dsimp only at i;rw[aJ6 s] at i;obtain⟨a,c,E,u⟩:=H.rh g;subst E;have g:Hs G h (uZ a c (M.fI Cf tt.2.1).2.1::_):=u;refine bW ?_;refine Fq (C:=Cf) (f:=q) (F:=tt.1) (l:=(M.fI Cf tt.2.1).2.1) (a:=a) (c:=c) hC (j.W3 hC) (jz hC) hG.kin hG.lim g fun h g=>bC (aX (fun t=>?_) (fun t=>?_));rw[aJ7 t] at i;exact i _ g.to;rw[aJ6 t] at i;obtain⟨x,r,g⟩:=dC (g.front (bX G Cf m M));refine bW (aB (aA (ay (b:=m) (o:=0) g fun h g=>?_)));have e:dN (fJ Cf x M.log.length) (0+12) [pt q 0 0]=fJ Cf {x with fb:=q} M.log.length:=rfl;rw[e] at g;have g:=bM (m:=m) (x:={x with fb:=q}) (M.dN (tt.1.send Cf (M.fI Cf tt.2.1).2.1).1) r g;exact k (by omega) _ h _ _ (g.cI Z (bX G Cf m (M.dN (tt.1.send Cf (M.fI Cf tt.2.1).2.1).1))) fun v h g=>i _ g.to
end
section
set_option maxRecDepth 100000
variable {G:Bg} {h:AH} {L L':List HP} {Q:Value->AH->Prop} {Cf:bP} {m:Nat} {M:dB}
theorem dv {d:Do} (hC:Cf.Ok) (hG:Gb G) (E:iA Cf M.cE) (A:yC Cf M.home (2^30 - 4)) (D:pg Cf M.kM) (g:Hs G h L) [O:Has (bX G Cf m) L M L'] (i:∀z,Hs G z (bX G Cf m (M.begin Cf d.a).1::L')->Q (I (M.begin Cf d.a).2) z):Cl Pr K 112 [pt m 0 0,.agg ⟨d.enc⟩] h Q:=by
 unfold dB.begin at i;refine cW (dR (cs:=d.enc) (O.of g) fun P h g=>?_);obtain⟨x,u,g⟩:=dC (g.front (bX G Cf m M));refine aB (aA (am m g rfl (H.Mq (C:=Cf) hC (G0 A (by omega)) g fun q h g=>aY g fun R h g=>aA (am P g rfl ?_))));refine aB (aA (kB (b:=m) (o:=0) g (by decide) (l:=Cf.enc) rfl rfl (aB (aA (am m g rfl (aQ (c:=Cf.enc++[pt x.mb 0 0]) rfl ?_))))));have g:=g.cI (H.gM G q Cf M.home) (fV Cf x.mb M.cE);refine H.Fj (C:=Cf) (hb:=q) (H:=M.home) hC hG.lim (P1 (p:=x.mb) hC E hG.lim) A g (List.Perm.refl _) fun v h g=>aH rfl (aH rfl ?_);have B:(fun w=>J1 Cf M.cE w d.a)=M.Eu Cf d.a:=rfl;rw[B] at g ⊢;have t:=Rw (C:=Cf) (H:=M.home) (l:=d.a) (j:=M.Eu Cf d.a);generalize hU Cf M.home d.a (M.Eu Cf d.a)=r at i g t ⊢;refine bC (aX (fun s=>?_) (fun s=>?_));rw[aJ7 s] at i;exact i _ (bM (m:=m) (x:=x) M u g).to;dsimp only at i;rw[aJ6 s] at i;obtain⟨a,c,J,y⟩:=H.rh g;subst J;have g:Hs G h (uZ a c r.2.1::_):=y;refine bW (aB (aA (am m g rfl ?_)));refine Fq (C:=Cf) (f:=x.fb) (F:=M.kM) (l:=r.2.1) (a:=a) (c:=c) hC (D.W3 hC) (by omega) hG.kin hG.lim g fun h g=>bC (aX (fun k=>?_) (fun k=>?_));rw[aJ7 k] at i;rw[D8 k] at g;exact i _ (bM (m:=m) (x:=x) M u g).to;rw[aJ6 k] at i;refine bW (aB (aA (ay (b:=m) (o:=0) g fun h g=>i _ ?_)));have e:dN (fJ Cf x M.log.length) (0+10) [pt q 0 0]=fJ Cf {x with hb:=q} M.log.length:=rfl;rw[e] at g;exact(bM (m:=m) (x:={x with hb:=q}) ((M.dN (gL.send Cf M.kM r.2.1).1).qH r.1) u g).to
abbrev sdX (G:Bg) (Cf:bP) (m p2 a:Nat) (M:dB) (b:Bool) (e:Nat->Value) (d l:Nat) (st:LoopState×Option Code) (pr:Prop):HP:=sp [B6 pr,pH Pr 57 (pD 218) 29 e d l st,sp [aG p2 0 [pt m 0 0],aG a 0 [.bool b]],bX G Cf m M]
theorem jr {g:Nat} (hC:Cf.Ok) (hG:Gb G) (P:(g:Int)<Cf.aN) (R:yC Cf M.home (2^30)) (a:Hs G h L) [T:Has (bX G Cf m) L M L'] (k:∀w,Hs G w (bX G Cf m M::L')->Q (.bool (M.gZ Cf g)) w):Cl Pr K 57 [pt m 0 0,I g] h Q:=by
 refine cW (dR (T.of a) fun f h a=>?_);obtain⟨x,t,a⟩:=dC (a.front (bX G Cf m M));refine am f a rfl (aB (aA (am m a rfl (K7 (C:=Cf) (m:=M.cE) a fun h a=>bH (bQ a fun c h a=>ax (b:=c) a fun h a=>?_)))));generalize J:decide (M.cE.phase g=2)=b at a;refine am f a rfl (aB (aA (kB (b:=m) (o:=0) a (by decide) (l:=Cf.enc) rfl rfl (De (C:=Cf) a fun E F h a=>?_))));have a:=bM (m:=m) (x:=x) M t a;refine oF a fun d h a=>?_;intro e O;refine sV a fun l h a=>Ah rfl ?_;have a:Hs G h (sp [aG E 0 Cf.enc,aG F 0 [I g]]::sdX G Cf m f c M b e d l (.ready,none) (∀l∈([]:List Nat),¬fG Cf M.home l>0)::mk d ()::L'):=by
  have a:=(a.cI (aG f 0 [pt m 0 0]) (aG c 0 [.bool b])).Hu;have a:=a.cZ (pH Pr 57 (pD 218) 29 e d l (.ready,none)) (sp [aG f 0 [pt m 0 0],aG c 0 [.bool b]]) (bX G Cf m M);have a:=Hs.M8 (Hs.Sz (p:=∀l∈([]:List Nat),¬fG Cf M.home l>0) (by simp) a);exact a.to
 refine(G2 (C:=Cf) hC P (p:=E) (q:=F) hG.lim).fold (X:=fun done=>sdX G Cf m f c M b e d l (.ready,none) (∀l∈done,¬fG Cf M.home l>0)) (Z:=fun _ y=>sdX G Cf m f c M false e d l (.done,some (.exit 0)) (fG Cf M.home y>0/\(y=g*2\/y=g*2+1))) a ?_ ?_ ?_
 .intro done y h N D a;obtain⟨i,a⟩:=iD a;have a:=a.D2;have S:y=g*2\/y=g*2+1:=by
   obtain⟨U,u⟩:=D;have:y∈[g*2,g*2+1]:=by rw[<-u];simp
   simpa using this
  have a:=(a.front (sp [aG f 0 [pt m 0 0],aG c 0 [.bool b]])).G5;obtain⟨x,t,a⟩:=dC (a.front (bX G Cf m M));refine rW (Aa a) O (lT a fun h a=>am f a rfl (aB (aA (am m a rfl (H.Qh (C:=Cf) (H:=M.home) R a fun h a=>?_)))));have a:=bM (m:=m) (x:=x) M t a;refine mC (aX (fun r=>?_) (fun r=>?_));refine ax (b:=c) a fun h a=>mD a fun h a=> .inr ⟨rfl,?_⟩;have a:=(a.cI (aG f 0 [pt m 0 0]) (aG c 0 [.bool false])).Hu;have a:=a.cZ (pH Pr 57 (pD 218) 29 e d l (.done,some (.exit 0))) (sp [aG f 0 [pt m 0 0],aG c 0 [.bool false]]) (bX G Cf m M);exact(Hs.M8 (Hs.Sz (p:=fG Cf M.home y>0/\(y=g*2\/y=g*2+1)) ⟨r,S⟩ a)).to
  .refine mD a fun h a=> .inl ⟨rfl,?_⟩;have a:=(a.cI (aG f 0 [pt m 0 0]) (aG c 0 [.bool b])).Hu;have a:=a.cZ (pH Pr 57 (pD 218) 29 e d l (.ready,none)) (sp [aG f 0 [pt m 0 0],aG c 0 [.bool b]]) (bX G Cf m M);refine(Hs.M8 (Hs.Sz (p:=∀l∈done++[y],¬fG Cf M.home l>0) ?_ a)).to;intro z j;rcases List.mem_append.1 j with j|j;exact i z j;rw[List.mem_singleton.1 j];exact r
 intro v h a;obtain⟨i,a⟩:=iD (a.front (sdX G Cf m f c M b e d l (.ready,none) (∀l∈[g*2,g*2+1],¬fG Cf M.home l>0)));have a:=a.D2;have s:M.gZ Cf g=b:=by
  have A:=i (g*2) (by simp);have B:=i (g*2+1) (by simp);rw[<-J];unfold dB.gZ;simp only[Int.natCast_mul,Int.natCast_add] at A B;rw[decide_eq_false (p:=fG Cf M.home (g*2)>0) A,decide_eq_false (p:=fG Cf M.home (g*2+1)>0) B];simp
 rw[s] at k;have a:=(a.front (sp [aG f 0 [pt m 0 0],aG c 0 [.bool b]])).G5;exact tR a fun h a=>tA (am c a rfl (oT a fun h a=>mB (k _ a.to)))
 .intro done y v h D a;obtain⟨i,a⟩:=iD (a.front (sdX G Cf m f c M false e d l (.done,some (.exit 0)) (fG Cf M.home y>0/\(y=g*2\/y=g*2+1))));have a:=a.D2;have s:M.gZ Cf g=false:=by
   unfold dB.gZ;rcases i.2 with e|e;have:=i.1;rw[e] at this;simp only[Int.natCast_mul] at this;rw[decide_eq_true (p:=fG Cf M.home (g*2)>0) this];simp;have:=i.1;rw[e] at this;simp only[Int.natCast_mul,Int.natCast_add] at this;rw[decide_eq_true (p:=fG Cf M.home (g*2+1)>0) this];simp
  rw[s] at k;have a:=(a.front (sp [aG f 0 [pt m 0 0],aG c 0 [.bool false]])).G5;exact Ml a fun h a=>Qp rfl (am c a rfl (oT a fun h a=>mB (k _ a.to)))
end
section
theorem Wo {H:kK} {g:Nat}:mR H g=fun i=>((H i).1,jZ (fun i=>(H i).2) g i):=by
 funext i;unfold mR jZ aS;by_cases a:i=g*2+1;subst a;simp;by_cases b:i=g*2;subst b;simp;rw[aaa,aJ6 a,aJ6 b]
theorem Pa {m:Mon} {g:Int} {u:Mc.jE} (h:(m.over g).2.1=some u):m.run g=some u/\(m.over g).2.2=0/\m.has g:=by
 unfold Mon.over at h ⊢;by_cases a:m.has g;rw[aJ6 (by simpa using a)] at h ⊢;cases hr:m.run g with
 |none=>rw[hr] at h;cases h
 |some r=>
  rw[hr] at h;dsimp only at h ⊢;split at h;cases h;rename_i b;cases h;rw[aJ6 b];exact⟨rfl,rfl,a⟩
 rw[aJ7 a] at h;cases h
theorem Ph {m:Mon} {g:Int} (h:(m.over g).2.1=none):(m.over g).1=m/\(m.over g).2.2≠0:=by
 unfold Mon.over at h ⊢;split;exact⟨rfl,by dsimp only;omega⟩;rename_i a;rw[aJ6 a] at h;split;exact⟨rfl,by dsimp only;omega⟩;rename_i r c;rw[c] at h;dsimp only at h;split;exact⟨rfl,by dsimp only;omega⟩;rename_i b;rw[aJ6 b] at h;cases h
set_option maxRecDepth 100000
variable {G:Bg} {h:AH} {L L':List HP} {Q:Value->AH->Prop} {Cf:bP} {m:Nat} {M:dB}
theorem We {d:Do} (hC:Cf.Ok) (hG:Gb G) (S:iA Cf M.cE) (V:yC Cf M.home (2^30)) (t:∀i:Nat,(i:Int)<Cf.aE->(M.aC i).Ok) (l:M.log.length<=2^30) (e:Hs G h L) [W:Has (bX G Cf m) L M L'] (f:∀J,Hs G J (bX G Cf m (M.finish Cf d.a).1::L')->Q (I (M.finish Cf d.a).2) J):Cl Pr K 113 [pt m 0 0,.agg ⟨d.enc⟩] h Q:=by
 unfold dB.finish at f;refine cW (dR (cs:=d.enc) (W.of e) fun y h e=>aY e fun rr h e=>?_);obtain⟨x,q,e⟩:=dC (e.front (bX G Cf m M));refine aA (am y e rfl (bA (aX (fun O=>?_) (fun O=>?_))));rw[aac] at f;exact f _ (bM (m:=m) (x:=x) M q e).to;refine aA (am y e rfl (aB (aA (aA (am m e rfl (dW (aX (fun P=>?_) (fun P=>?_))))))));rw[aac] at f;exact f _ (bM (m:=m) (x:=x) M q e).to;rw[aaa] at f;obtain⟨w,a,b,c⟩:=d;dsimp only at O P f;obtain⟨g,rfl⟩:=Int.eq_ofNat_of_zero_le (show 0<=a by omega);have e:=bM (m:=m) (x:=x) M q e;refine bW (aA (am y e rfl (jr (Cf:=Cf) (M:=M) hC hG (by omega) V e fun h e=>cH (eB (dI (fun z=>?_) (fun z=>?_))))));rotate_left;rw[aJ7 z] at f;exact f _ e.to;rw[aJ6 (by rw[z];simp)] at f;obtain⟨x,q,e⟩:=dC (e.front (bX G Cf m M));refine bW (aY e fun Y h e=>aB (aA (am m e rfl (aA (am y e rfl ?_)))));refine Yc (C:=Cf) (m:=M.cE) (p:=x.mb) hC S e fun h e=>aH rfl (aH rfl (jM (r:=Y) (i:=10) (n:=13) (D:=[]) e rfl rfl fun v h e=>ax (b:=v) e fun h e=>bT (aH rfl gF) (bC (aX (fun B=>?_) (fun B=>?_)))));cases hu:(M.cE.over (g:Int)).2.1 with
 |some u=>exact absurd (Pa hu).2.1 B
 |none=>
  rw[hu] at f;dsimp only at f;rw[(Ph hu).1] at e;exact f _ (bM (m:=m) (x:=x) M q e).to
 cases hu:(M.cE.over (g:Int)).2.1 with
 |none=>exact absurd (Ph hu).2 B
 |some u=>
 obtain⟨Z,_,u2⟩:=Pa hu;obtain⟨o1,T,o3,X,o5⟩:=S.run g u (nk Z);rw[hu] at f e;dsimp only at f;simp only[Option.getD_some] at e;obtain⟨i,R⟩:=Int.eq_ofNat_of_zero_le X.1;have k:(i:Int)<Cf.aE:=by omega
 have F:(nD u)[0+0+0]?=some (I i):=by show some (I u.core)=_;rw[R]
 have U:(nD u)[0+0+3]?=some (I g):=by show some (I u.bK)=_;rw[T]
 rw[show u.core.toNat=i by rw[R];rfl,T] at f;refine bW (aA (am v e rfl (dI (fun E=>?_) (fun E=>?_))));rw[aJ7 E] at f;obtain⟨s,b,o,j,e⟩:=H.rC (e.front (H.gM G x.hb Cf M.home));refine bW (aY e fun r3 h e=>aB (aA (am m e rfl (aB (aA (aD (b:=x.hb) (o:=0) e rfl (aA (aA (am v e U ?_)))))))));refine A.Vp (C:=Cf) (mb:=s) (g:=g) (mem:=fun i=>(M.home i).2) hC hG.lim e (by omega) fun _ h e=>aA (aA (am v e F ?_));have e:=H.sQ (H:=mR M.home g) (hb:=x.hb) (C:=Cf) (mb:=s) (b:=b) (o:=o) (cap:=j) (by rw[Wo];exact e.kG (aG x.hb 0 (H.mK s Cf b o j)) (eO G Cf.lines s Cf (jZ (fun i=>(M.home i).2) g)) (hole G 25 247 (some ⟨b,o,none⟩) j Cf.lines b o) (dF Cf.lines fun i=>H.eN b (o+i*25) (M.home i).1));have e:=bM (m:=m) (x:=x) ((M.iY (M.cE.over g).1).qH (mR M.home g)) q e;exact nN (Cf:=Cf) (M:=(M.iY (M.cE.over g).1).qH (mR M.home g)) k (t i k) l e fun h e=>f _ e.to;rw[aJ6 (by rw[E];simp)] at f;have e:=bM (m:=m) (x:=x) (M.iY (M.cE.over g).1) q e;exact aA (aA (am v e F (nN (Cf:=Cf) (M:=M.iY (M.cE.over g).1) k (t i k) l e fun h e=>f _ e.to)))
end
section
def C5:List Value:=[.func (.func 110) #[] #[],.func (.func 111) #[] #[],.func (.func 112) #[] #[],.func (.func 113) #[] #[]]
set_option maxRecDepth 100000
variable {G:Bg} {h:AH} {L L':List HP} {Q:Value->AH->Prop} {Cf:bP} {m N:Nat} {M:dB}
theorem ru (a:Hs G h L) (e:∀d,Hs G d L->Q (.agg ⟨C5⟩) d):Cl Pr K 53 [] h Q:=
 cW (bQ a fun p h a=>aQ (c:=C5) rfl (ax (b:=p) a fun h a=>an p a (l:=C5) rfl rfl (e _ a.tail)))
theorem yq {d:Do} {f:Value} (hC:Cf.Ok) (hG:Gb G) (a:eI Cf N M) (j:N<=2^29) (o:0<=d.nM/\d.nM<=3) (k:C5[d.nM.toNat]?=some f) (c:Hs G h L) [s:Has (bX G Cf m) L M L'] (b:∀g,Hs G g (bX G Cf m (M.C9 Cf d).1::L')->Q (I (M.C9 Cf d).2) g):yO Pr K f [pt m 0 0,.agg ⟨d.enc⟩] h Q:=by
 unfold dB.C9 at b;have o:d.nM=0\/d.nM=1\/d.nM=2\/d.nM=3:=by omega
 have l:=a.log;rcases o with e|e|e|e;all_goals
  rw[e] at k
  cases k
 rw[aJ7 e] at b;exact mZ rfl (xq hC hG (fun i q=>a.step hC j q) c b);rw[aaa,aJ7 e] at b;exact mZ rfl (Sy hC hG a.kM.len (fun n p r=>by rw[<-r];exact a.take hC j (Lb a.kM p).1) (Tl a.kM).len c b);rw[aaa,aaa,aJ7 e] at b;exact mZ rfl (dv hC hG a.cE (a.home.h (by omega)) a.kM.len c b);rw[aaa,aaa,aaa,aJ7 e] at b;exact mZ rfl (We hC hG a.cE (a.home.h (by omega)) a.Gi (by omega) c b)
theorem W2 {l:List Do} {i:Nat} {d:Do} (h:l[i]?=some d):(l.map Do.enc)[i]?=some d.enc:=by rw[List.getElem?_map,h];rfl
theorem aDf {l:List Do} {e:TypeId} {v:Value} (hC:Cf.Ok) (hG:Gb G) (s:eI Cf N M) (B:N+2*l.length<=2^29) (g:Hs G h (Ae G 4 e v (l.map Do.enc)::bX G Cf m M::L)) (j:∀r,Hs G r (Ae G 4 e v (l.map Do.enc)::bX G Cf m (M.wI Cf l 0).1::L)->Q (.tuple ⟨[I (M.wI Cf l 0).2.1,I (M.wI Cf l 0).2.2]⟩) r):Cl Pr K 15 [pt m 0 0,v] h Q:=by
 obtain⟨a,c,D⟩:=wM g;rw[List.length_map] at D;have q:∀{k:Value->Prop},k (I l.length)->bG (kU v) k:=fun j=>by rw[D];exact bU j
 refine cW (dD (cG (bW (ru g fun h g=>bQ g fun p h g=>ax (b:=p) g fun h g=>q ?_))));have loop:∀(f i N:Nat) (M:dB) (h:AH),i+f=l.length->eI Cf N M->N+2*f<=2^29->(∀r,Hs G r (Ae G 4 e v (l.map Do.enc)::bX G Cf m (M.wI Cf (l.drop i) i).1::L)->Q (.tuple ⟨[I (M.wI Cf (l.drop i) i).2.1,I (M.wI Cf (l.drop i) i).2.2]⟩) r)->
   Hs G h (Ae G 4 e v (l.map Do.enc)::aG p 0 C5::bX G Cf m M::L)->Dd 15 2 [] Q [(pt m 0 0),v,(pt p 0 0),v,(I l.length),(I i)] h:=by
  intro f
  induction f with
  |zero=>
   intro i N M h J s B j g
   rw[List.drop_of_length_le (by omega)] at j
   unfold dB.wI at j
   have A:i=l.length:=by omega
   subst A
   exact bW (bA (aab (q (j _ g.to))))
  |succ f O=>
   intro i N M h J s B j g
   obtain⟨d,H,z⟩:=nL (l:=l) (i:=i) (by omega)
   rw[z] at j
   unfold dB.wI at j
   refine bW (bA (aae (bW (zh g (by decide) (W2 H) (bQ g fun u h g=>ax (b:=u) g fun h g=>aA (am u g rfl (bA (aX (fun E=>?_) (fun E=>?_)))))))))
   .have w:M.C9 Cf d=(M,1):=by unfold dB.C9;rw[aaa,aaa,aaa,aaa]
    rw[w,aJ7 (show(M,(1:Int)).2≠0 by show(1:Int)≠0;omega)] at j
    exact j _ g.to
   refine aA (am u g rfl (mC (aX (fun F=>?_) (fun F=>?_))))
   .have w:M.C9 Cf d=(M,1):=by unfold dB.C9;rw[aaa,aaa,aaa,aaa]
    rw[w,aJ7 (show(M,(1:Int)).2≠0 by show(1:Int)≠0;omega)] at j
    exact j _ g.to
   have t:d.nM.toNat<4:=by omega
   have C:C5[d.nM.toNat]?=some (C5[d.nM.toNat]'t):=List.getElem?_eq_getElem t
   refine bW (aY g fun P h g=>aA (am u g rfl (dX (by omega) (by omega) (am p g (by simpa using C) (an u g (l:=d.enc) rfl rfl ?_)))))
   refine yq hC hG s (by omega) (by omega) C g fun h g=>bC (aX (fun y=>?_) (fun y=>?_))
   .rw[aJ7 y] at j;exact j _ g.to
   .rw[aJ6 y] at j;refine bW (aad ?_);exact O (i+1) (N+2) _ h (by omega) (aBg s hC) (by omega) j g.to
 exact loop l.length 0 N M h (by omega) s (by omega) (by simpa using j) g.to
end
end Go.Proofs.YtajjljbmfdboaaaGreatDoor
namespace Go.Proofs.YtajjljbmfdboaaaGreatDoor.A
open Go Go.Ab Go.Hm Go.At Go.Is
section
set_option maxRecDepth 100000
variable {G:Bg} {h:AH} {L L':List HP} {Q:Value->AH->Prop}
abbrev zS:List Value:=[I 0,I 0,I 0,I 0,I 0,I 0,.bool false,.slice none 0 0]
theorem Xk {B p b o cap nn c mb:Nat} {a:Option Addr} {C:bP} {pv D:Value} {u:List Value} {ps:List (List Ins)} {ws:List Int} (hB:B<=4) (T:ps.length=B) (V:ws.length=B) (R:∀p∈ps,p.length<=32)
  (X:u.length=ps.length) (P:uA G 1 pv (u.map fun x=>[x]).length (fun i=>(u.map fun x=>[x]).getD i [])) (F:∀(i:Nat) (v:Value) (p:List Ins),u[i]?=some v->ps[i]?=some p->Ui G v p) (U:F1 G D ws)
  (K:∀A,Hs G A (Ia p C (.slice (some ⟨b,o,none⟩) B cap) a nn c mb::dF B (fun i=>fU b (o+i*8) (tT (ps.getD i []) (ws.getD i 0)))::L)->Q (.tuple ⟨[pt p 0 0,I 0]⟩) A):
  ∀(r i:Nat) (h:AH),i+r=B->Hs G h (Ia p C (.slice (some ⟨b,o,none⟩) B cap) a nn c mb::dF B (fun j=>if j<i then fU b (o+j*8) (tT (ps.getD j []) (ws.getD j 0)) else aG b (o+j*8) zS)::L)->
  Dd 32 13 [] Q [pv,D,(pt p 0 0),(I B),(I i)] h:=by
 intro r
 induction r with
 |zero=>
  intro i h f d
  obtain rfl:i=B:=by omega
  refine bW (bA (aab (K _ ?_)))
  exact(qB (g:=fun j=>fU b (o+j*8) (tT (ps.getD j []) (ws.getD j 0))) (fun j J=>by rw[aJ7 J]) d.lK).lK
 |succ r W=>
  intro i h H d
  have f:i<B:=by omega
  obtain⟨pp,k,_⟩:=nA (l:=ps) (i:=i) (by omega)
  obtain⟨v,q,_⟩:=nA (l:=u) (i:=i) (by omega)
  obtain⟨w,t,_⟩:=nA (l:=ws) (i:=i) (by omega)
  have S:pp.length<=32:=R pp (List.mem_of_getElem? k)
  have d:=(d.front (dF B fun j=>if j<i then fU b (o+j*8) (tT (ps.getD j []) (ws.getD j 0)) else aG b (o+j*8) zS)).jX i f
  simp only[Nat.lt_irrefl,if_false] at d
  refine bW (bA (aae (bW (aB (aA (am p d rfl (dM f ?_)))))))
  refine zR (Cs (e:=3) (by simp) P d) (x:=[v]) (by simp[q]) rfl ?_
  refine yy (by rw[Ko];omega) (by rw[N9];exact Xj _) (Sk (F i v pp q k) d) fun y z h d=>?_
  rw[Ko,N9] at d
  rw[Ko]
  refine aB (aA (ay (b:=b) (o:=o+i*8) d fun h d=>?_))
  refine zR (sH U d) (x:=[I w]) (by simp[Ea,t]) rfl ?_
  refine aB (aA (aA (ay (b:=b) (o:=o+i*8) d fun h d=>?_)))
  have d:=d.sg (b:=b) (o:=o+i*8) (c:=(⟨fun _=>0,0,w,false,pp⟩:aK).core++[.slice y pp.length z]) rfl
  refine Fb (s:=⟨fun _=>0,0,w,false,pp⟩) (a:=y) (c:=z) (by omega) (d.cI (aG b (o+i*8) ((⟨fun _=>0,0,w,false,pp⟩:aK).core++[.slice y pp.length z])) (cN 4 86 y z (pp.length,oR pp))) fun h d=>aad ?_
  refine W (i+1) h (by omega) ?_
  have d:=tU (b:=b) (o:=o+i*8) (s:=(⟨fun _=>0,0,w,false,pp⟩:aK).fM 0) d
  have e:(⟨fun _=>0,0,w,false,pp⟩:aK).fM 0=tT (ps.getD i []) (ws.getD i 0):=by
   rw[List.getD_eq_getElem?_getD,List.getD_eq_getElem?_getD,k,t];rfl
  rw[e] at d
  have E:fU b (o+i*8) (tT (ps.getD i []) (ws.getD i 0))=(fun j=>if j<i+1 then fU b (o+j*8) (tT (ps.getD j []) (ws.getD j 0)) else aG b (o+j*8) zS) i:=by simp only[Nat.lt_succ_self,if_true]
  rw[E] at d
  have d:=d.lA (n:=B) (i:=i) (fun j=>if j<i then fU b (o+j*8) (tT (ps.getD j []) (ws.getD j 0)) else aG b (o+j*8) zS) (fun j=>if j<i+1 then fU b (o+j*8) (tT (ps.getD j []) (ws.getD j 0)) else aG b (o+j*8) zS) f (fun j _ O=>by
   have:(j<i+1)=(j<i):=propext ⟨fun h=>by omega,fun h=>by omega⟩;simp only[this])
  exact d.to
theorem Af:∀{ps:List (List Ins)},tN ps=0->∀p∈ps,(kL p).2=0
 |[],_,p,a=>by simp at a
 |q::l,h,p,a=>by
  rw[tN] at h;split at h;rename_i b;exact absurd h b;rename_i b;rcases List.mem_cons.1 a with rfl|a;omega;exact Af h p a
theorem Gz {p:List Ins} (h:(kL p).2=0):p.length<=32:=by
 unfold kL at h;split at h;cases h;omega
theorem rz {C:bP} {pv O ov vv:Value} {ps:List (List Ins)} {ws os vs:List Int} (H:ps.length<=1000/\ws.length<1000/\os.length<1000) (F:Ob G 0 eT) (T:Ob G 1 sI) (X:Nv G pv O ov vv ps ws os vs) (d:Hs G h L)
  (j:oI C ps ws os vs≠0->∀f,Hs G f L->Q (.tuple ⟨[.pointer none,I (oI C ps ws os vs)]⟩) f)
  (w:oI C ps ws os vs=0->∀p f,Hs G f (nU G p (rM C ps ws os vs)::L)->Q (.tuple ⟨[pt p 0 0,I 0]⟩) f):Cl Pr K 32 [.agg ⟨C.enc⟩,pv,O,ov,vv] h Q:=by
 obtain⟨⟨vi,J,u,A⟩,v,t,D⟩:=X
 have lp:∀{k:Value->Prop},k (I ps.length)->bG (kU pv) k:=fun s=>qN u (by simpa [J] using s)
 have lw:∀{k:Value->Prop},k (I ws.length)->bG (kU O) k:=fun s=>qN v (by simpa [oK] using s)
 have Z:∀{k:Value->Prop},k (I os.length)->bG (kU ov) k:=fun s=>qN t (by simpa [oK] using s)
 have P:∀{k:Value->Prop},k (I vs.length)->bG (kU vv) k:=fun s=>qN D (by simpa [oK] using s)
 unfold oI at j w
 refine cW (dR d fun q h d=>aR d (by decide) (l:=C.enc) rfl rfl (nB F d fun h d=>?_))
 by_cases hC:C.Ok
 rotate_left
 .rw[aJ7 hC] at j;rw[aJ6 hC];exact bC (aae (j (by omega) _ d.tail))
 rw[aJ6 (by simpa using hC)] at j w
 rw[aJ7 hC]
 have V:=bP.fN hC
 have E:=bP.bk hC
 have S:C.aE<=4/\1<=C.aE:=⟨hC.1.2,hC.1.1⟩
 have U:C.aN<=16:=hC.2.1.2
 have bad:((ps.length:Int)≠C.aE\/(ws.length:Int)≠C.aE\/(os.length:Int)≠C.aN\/vs.length≠C.lines*2)->∀f,Hs G f (aG q 0 C.enc::L)->Q (.tuple ⟨[.pointer none,I 1]⟩) f:=fun E f d=>by
  rw[aJ7 E] at j;exact j (by omega) _ d.tail
 refine bC (aab (bW (lp (aA (am q d rfl (bC (aX (fun g=>bad (.inl g) _ d) (fun g1=>lw (aA (am q d rfl (bC (aX (fun g=>bad (.inr (.inl g)) _ d) (fun g2=>Z (aA (am q d rfl (bC (aX (fun g=>bad (.inr (.inr (.inl g))) _ d) (fun g3=>P (an q d (l:=C.enc) rfl rfl (S7 hC F d fun h d=>bC (aX (fun g=>bad (.inr (.inr (.inr (by omega)))) _ d) (fun g4=>?_))))))))))))))))))))))
 clear bad
 rw[aaa] at j w
 refine bW (lp (Wu (_C:=C) J u A T H.1 (fun e h d=>?_) (fun e h d=>?_) ps.length 0 h (by omega) rfl d))
 .rw[aJ7 e] at j;exact j e _ d.tail
 rw[aJ6 (by simpa using e)] at j w
 have r:¬(within 0 3 ws=true/\within 0 4 os=true)->∀f,Hs G f (aG q 0 C.enc::L)->Q (.tuple ⟨[.pointer none,I 10]⟩) f:=fun E f d=>by
  rw[aJ7 E] at j;exact j (by omega) _ d.tail
 refine bW (Gu (l:=ws) H.2.1 (sH v d) fun h d=>cH (eB (dI (fun g1=>?_) (fun g1=>r (by simp[g1]) _ d.tail))))
 refine Gu (l:=os) H.2.2 (sH t d.tail) fun h d=>cH (eB (dI (fun g2=>?_) (fun g2=>r (by simp[g2]) _ d.tail)))
 clear r
 rw[aJ6 (by simp[g1,g2])] at j w
 have d:=d.tail
 refine bW (an q d (l:=C.enc) rfl rfl (Pe hC F d fun y h d=>aH rfl (aH rfl (bC (aab (bW (P ?_)))))))
 refine X4 (L:=aG q 0 C.enc::L) hC D F (by omega) (fun h d=>?_) vs.length 0 nH h (by omega) rfl d
 refine bW (aY d fun rv h d=>an q d (l:=C.enc) rfl rfl (aA (am q d rfl (Qx (by omega) (by omega) (by omega) ?_))))
 dsimp only
 refine jV d rfl rfl ?_ rfl ?_ ?_
 .rw[gT,rE (W:=8) (fun _=>rfl)]
 .rw[gT];exact pO (fun _=>rfl) _
 intro a h d
 obtain⟨b,o,R,d⟩:=Hs.Ke (W:=8) rfl (by omega) d
 cases R
 refine zo (by rw[oK];omega) (by rw[Oq];exact W6 _) (sH t d) fun z c2 h d=>?_
 rw[oK,Oq] at d
 rw[oK]
 refine aQ (c:=C.enc++[.slice (some ⟨b,o,none⟩) C.aE.toNat C.aE.toNat,.slice z os.length c2,pt y 0 0]) rfl (xD d rfl rfl fun p h d=>?_)
 refine bT (an q d (l:=C.enc) rfl rfl (oP (by simp[bP.enc,gF]))) (bT (aA bZ) (bT (am q d rfl gF) (bT bZ (aB (aA (am p d rfl (bU ?_)))))))
 have d:=d.cI (Ia p C (.slice (some ⟨b,o,none⟩) C.aE.toNat C.aE.toNat) z os.length c2 y) (dF C.aE.toNat fun i=>aG b (o+i*8) zS)
 refine Xk (B:=C.aE.toNat) (b:=b) (o:=o) (C:=C) (ps:=ps) (ws:=ws) (by omega) (by omega) (by omega) (fun p Y=>Gz (Af e p Y)) J u A v ?_ C.aE.toNat 0 h (by omega) (by simpa using d)
 intro h d
 refine w rfl p _ ?_
 have d:=mJ (b:=b) (o:=o) (cap:=C.aE.toNat) (a:=z) (c:=c2) (mb:=y) (m:=rM C ps ws os vs) ((d.kG (Ia p C (.slice (some ⟨b,o,none⟩) C.aE.toNat C.aE.toNat) z os.length c2 y) (cN 1 3 z c2 (os.length,os.map I)) (eO G C.lines y C (words nH vs 0)) (hole G 8 213 (some ⟨b,o,none⟩) C.aE.toNat C.aE.toNat b o)).Xn (dF C.aE.toNat fun i=>fU b (o+i*8) (tT (ps.getD i []) (ws.getD i 0))))
 exact d.to
end
end Go.Proofs.YtajjljbmfdboaaaGreatDoor.A
namespace Go.Proofs.YtajjljbmfdboaaaGreatDoor
open Go Go.Ab Go.Hm Go.At Go.Mc Go.Ct Go.Nt Go.Is
section
def Gr (C:bP) (pv a ov vv:Value):List Value:=C.enc++[pv,a,ov,vv]
def ga (ps:List (List Ins)) (ws:List Int) (i:Nat):aK:=tT (ps.getD i []) (ws.getD i 0)
set_option maxRecDepth 100000
variable {G:Bg} {h:AH} {L L':List HP} {Q:Value->AH->Prop} {Cf:bP} {m N:Nat} {M:dB}
def mkE (C:bP) (a1 a2 a3:Option Addr) (n a c2 c3:Nat):List Value:=C.enc++[.slice a1 n a,.slice a2 n c2,.slice a3 n c3,.pointer none,.pointer none,.pointer none,.slice none 0 0]
theorem Qa {e:TypeId} {a a2:Option Addr} {c c2 q:Nat} {l:List Nat} {k:Value×AH->Prop} {N:List HP} (hb:l.length<=100) (b:Hs G h L) [r:Has (ls pE 1 e a c) L l L'] [p:dY (cN 1 e a2 c2 (1,[pt q 0 0])) L' N]
  (o:∀d f j,Hs G j (ls pE 1 e d f (l++[q])::N)->k (.slice d (l.length+1) f,j)):bG (jK 1 8 e h (.slice a l.length c) (.slice a2 1 c2)) k:=by
 have b:=r.of b
 have g:Hs G h (cN 1 e a2 c2 (1,[pt q 0 0])::ls pE 1 e a c l::N):=(b.perm (p.perm.cons _)).lK
 have i:=(xV (enc:=pE) (x:=q) g).lK
 have:=uM (enc:=pE) (e:=e) (l:=l) (l2:=[q]) (a:=a) (c:=c) (a2:=a2) (c2:=c2) (bytes:=8) (k:=k) i (by simp;omega) fun d f h b=>by
  have:=o d f h b.lK.tail;rw[List.length_append,List.length_singleton];exact this
 exact this
theorem Kq {p2 p5:Nat} {pv Y ov vv:Value} {K:List Value} {ps:List (List Ins)} {ws:List Int} (hC:Cf.Ok) (hG:Gb G) (hg:Ob G 1 sI) (α:ps.length=Cf.aE.toNat) (β:ws.length=Cf.aE.toNat) (X:∀w∈ws,0<=w/\w<=3) (T:∀p∈ps,(kL p).2=0)
  (hv:K.length=ps.length) (ho:uA G 1 pv (K.map fun x=>[x]).length (fun i=>(K.map fun x=>[x]).getD i [])) (hi:∀(i:Nat) (v:Value) (p:List Ins),K[i]?=some v->ps[i]?=some p->A.Ui G v p) (hw:A.F1 G Y ws)
  (hk:∀lc lk lq a1 a2 a3 g c2 c3 Z,lc.length=Cf.aE.toNat->lk.length=Cf.aE.toNat->lq.length=Cf.aE.toNat->Hs G Z (aG p5 0 (mkE Cf a1 a2 a3 Cf.aE.toNat g c2 c3)::mh a1 g lc::V6 a2 c2 lk::V3 a3 c3 lq::rZ tG lc (ga ps ws)::rZ (rP G Cf) lk (fun _=>gV.new)::rZ (qA Cf) lq (fun _=>Ha)::aG p2 0 (Gr Cf pv Y ov vv)::L)->Dd 31 4 [] Q [(pt p2 0 0),(pt p5 0 0)] Z):
  ∀(f i:Nat) (lc lk lq:List Nat) (a1 a2 a3:Option Addr) (g c2 c3:Nat) (h:AH),i+f=Cf.aE.toNat->lc.length=i->lk.length=i->lq.length=i->Hs G h (aG p5 0 (mkE Cf a1 a2 a3 i g c2 c3)::mh a1 g lc::V6 a2 c2 lk::V3 a3 c3 lq::rZ tG lc (ga ps ws)::rZ (rP G Cf) lk (fun _=>gV.new)::rZ (qA Cf) lq (fun _=>Ha)::aG p2 0 (Gr Cf pv Y ov vv)::L)->
  Dd 31 2 [] Q [(pt p2 0 0),(pt p5 0 0),(I Cf.aE),(I i)] h:=by
 have hc:=hC.1
 intro f
 induction f with
 |zero=>
  intro i lc lk lq a1 a2 a3 g c2 c3 h P O z D d
  obtain rfl:i=Cf.aE.toNat:=by omega
  exact bW (bA (aab (hk _ _ _ _ _ _ _ _ _ _ O z D d)))
 |succ f ih=>
  intro i lc lk lq a1 a2 a3 g c2 c3 h P O z D d
  obtain⟨p,S,_⟩:=nL (l:=ps) (i:=i) (by omega)
  obtain⟨v,E,_⟩:=nL (l:=K) (i:=i) (by omega)
  obtain⟨w,B,_⟩:=nL (l:=ws) (i:=i) (by omega)
  have V:=X w (List.mem_of_getElem? B)
  have U:=T p (List.mem_of_getElem? S)
  have eS:ga ps ws i=tT p w:=by unfold ga;rw[List.getD_eq_getElem?_getD,List.getD_eq_getElem?_getD,S,B];rfl
  refine bW (bA (aae (bW (aY d fun rr h d=>aA (am p2 d rfl ?_)))))
  have d:=A.sH hw d
  refine zR d (x:=[I w]) (by simp[A.Ea,B]) rfl ?_
  have d:=d.tail
  refine aA (am p2 d rfl ?_)
  have d:=Cs (e:=3) (by simp) ho d
  refine zR d (x:=[v]) (by simp[E]) rfl ?_
  have d:=A.Sk (hi i v p E S) d.tail
  refine di (i:=i) (pr:=p) (w:=w) (by omega) V hg U d fun F h d=>aH rfl (aH rfl (bC (aab (bW ?_))))
  rw[<-eS] at d
  refine aA (kB (b:=p2) (o:=0) d (by decide) (l:=Cf.enc) rfl rfl ?_)
  refine C.P7 (C:=Cf) (core:=(i:Int)) hC (by omega) hG.lim d fun H h d=>aH rfl (aH rfl (bC (aab (bW ?_))))
  refine aA (aA (am p2 d rfl (aA (aA (am p2 d rfl ?_)))))
  refine fe (C:=Cf) hC d fun J h d=>aH rfl (aH rfl (bC (aab (bW ?_))))
  subst O
  refine aB (aA (am p5 d rfl (aQ (c:=[pt F 0 0]) rfl (dL (W:=1) (n:=1) (c:=1) d rfl rfl rfl fun b1 h d=>?_))))
  refine Qa (l:=lc) (a:=a1) (c:=g) (e:=75) (q:=F) (a2:=some b1) (c2:=1) (by omega) d fun j t h d=>aB (aA (ay (b:=p5) (o:=0) d fun h d=>?_))
  refine aB (aA (am p5 d rfl (aQ (c:=[pt H 0 0]) rfl (dL (W:=1) (n:=1) (c:=1) d rfl rfl rfl fun b2 h d=>?_))))
  rw[<-z]
  refine Qa (l:=lk) (a:=a2) (c:=c2) (e:=137) (q:=H) (a2:=some b2) (c2:=1) (by omega) d fun k u h d=>aB (aA (ay (b:=p5) (o:=0) d fun h d=>?_))
  rw[z]
  refine aB (aA (am p5 d rfl (aQ (c:=[pt J 0 0]) rfl (dL (W:=1) (n:=1) (c:=1) d rfl rfl rfl fun b3 h d=>?_))))
  rw[<-D]
  refine Qa (l:=lq) (a:=a3) (c:=c3) (e:=140) (q:=J) (a2:=some b3) (c2:=1) (by omega) d fun r y h d=>aB (aA (ay (b:=p5) (o:=0) d fun h d=>?_))
  have e5:dN (dN (dN (mkE Cf a1 a2 a3 lc.length g c2 c3) (0+7) [.slice j (lc.length+1) t]) (0+8) [.slice k (lk.length+1) u]) (0+9) [.slice r (lq.length+1) y]=mkE Cf j k r (lc.length+1) t u y:=by rw[z,D];rfl
  rw[e5] at d
  have d:=Rq (R:=tG) (l:=lc) (q:=F) (s:=ga ps ws) (d.cI (mE lc.length F (ga ps ws lc.length)) (rZ tG lc (ga ps ws)))
  rw[<-z] at d
  have d:=Rq (R:=rP G Cf) (l:=lk) (q:=H) (s:=fun _=>gV.new) (d.cI (C.gY G H Cf lk.length gV.new) (rZ (rP G Cf) lk (fun _=>gV.new)))
  have d:=Rq (R:=qA Cf) (l:=lq) (q:=J) (s:=fun _=>Ha) (d.cI (kN J Cf Ha) (rZ (qA Cf) lq (fun _=>Ha)))
  rw[z] at d
  rw[D]
  exact aad (ih (lc.length+1) (lc++[F]) (lk++[H]) (lq++[J]) j k r t u y h (by omega) (by simp) (by simp;omega) (by simp;omega) d.to)
end
section
def mkF (C:bP) (a1 a2 a3:Option Addr) (n a c2 c3:Nat) (x y z:Value):List Value:=C.enc++[.slice a1 n a,.slice a2 n c2,.slice a3 n c3,x,y,z,.slice none 0 0]
theorem Kb {a b:Int} {l:List Int} (h:within a b l=true):∀x∈l,a<=x/\x<=b:=by
 unfold within at h;intro x c;exact of_decide_eq_true (List.all_eq_true.1 h x c)
theorem Ge {C:bP} {ps:List (List Ins)} {ws os vs:List Int} (h:oI C ps ws os vs=0):C.Ok/\ps.length=C.aE.toNat/\ws.length=C.aE.toNat/\os.length=C.aN.toNat/\vs.length=C.lines*2/\tN ps=0/\(∀w∈ws,0<=w/\w<=3)/\∀o∈os,0<=o/\o<=4:=by
 unfold oI at h;split at h;cases h;rename_i hC;split at h;cases h;rename_i c;split at h;rename_i b;exact absurd h b;rename_i b;split at h;cases h;rename_i a;have a:=Decidable.not_not.1 a;exact⟨Decidable.not_not.1 hC,by omega,by omega,by omega,by omega,Decidable.not_not.1 b,Kb a.1,Kb a.2⟩
set_option maxRecDepth 100000
variable {G:Bg} {h:AH} {L L':List HP} {Q:Value->AH->Prop} {Cf:bP} {m N:Nat} {M:dB}
theorem il {p2 p5 hb mb:Nat} {hE:List Value} {pv j ov vv:Value} {vs:List Int} {z:List Value} (hC:Cf.Ok) (hG:Gb G) (y:vs.length=Cf.lines*2) (r:A.F1 G vv vs) (t:z[10]?=some (pt hb 0 0)) (d:hE[0]?=some (pt mb 0 0))
  (g:∀e,Hs G e (eO G Cf.lines mb Cf (At.words nH vs 0)::aG hb 0 hE::aG p5 0 z::aG p2 0 (Gr Cf pv j ov vv)::L)->Dd 31 11 [] Q [(pt p2 0 0),(pt p5 0 0)] e):
  ∀(f i:Nat) (mem:Nat->Ln) (h:AH),i+f=vs.length->At.words nH vs 0=At.words mem (vs.drop i) i->Hs G h (eO G Cf.lines mb Cf mem::aG hb 0 hE::aG p5 0 z::aG p2 0 (Gr Cf pv j ov vv)::L)->
  Dd 31 8 [] Q [(pt p2 0 0),(pt p5 0 0),vv,(I vs.length),(I i)] h:=by
 have q:=bP.fN hC
 intro f
 induction f with
 |zero=>
  intro i mem h p c a
  rw[List.drop_of_length_le (by omega),At.words] at c
  rw[c] at g
  exact bW (bA (aab (g _ a)))
 |succ f u=>
  intro i mem h p c a
  obtain⟨x,s,k⟩:=nL (l:=vs) (i:=i) (by omega)
  rw[k,At.words] at c
  have a:=A.sH r a
  refine bW (bA (aae (bW (zR a (x:=[I x]) (by simp[A.Ea,s]) rfl (aB (aA (am p5 a t (aB (aA (am hb a d ?_))))))))))
  exact Gf (C:=Cf) (mb:=mb) (mem:=mem) (w:=i) (v:=x) hC hG.lim a.tail (by omega) fun h a=>bC (aab (bW (aad (u (i+1) _ h (by omega) c a))))
theorem Zg {pv w ov vv:Value} {ps:List (List Ins)} {ws os vs:List Int} (hn:ps.length<=1000/\ws.length<1000/\os.length<1000) (hG:Gb G) (F:Ob G 1 sI) (J:A.Nv G pv w ov vv ps ws os vs) (a:Hs G h L)
  (k1:oI Cf ps ws os vs≠0->∀t,Hs G t L->Q (.tuple ⟨[.pointer none,I (oI Cf ps ws os vs)]⟩) t)
  (k2:oI Cf ps ws os vs=0->∀m t,Hs G t (bX G Cf m (MC.new ⟨Cf,ps,ws,os,vs⟩)::L)->Q (.tuple ⟨[pt m 0 0,I 0]⟩) t):Cl Pr K 31 [.agg ⟨Gr Cf pv w ov vv⟩] h Q:=by
 refine cW (dR a fun d h a=>aA (kB (b:=d) (o:=0) a (by decide) (l:=Cf.enc) rfl rfl (aA (am d a rfl (aA (am d a rfl (aA (am d a rfl (aA (am d a rfl ?_))))))))))
 refine A.rz (C:=Cf) hn hG.lim F J a (fun u h a=>aH rfl (aH rfl (bC (bS u (k1 u _ a.tail))))) fun u pa h a=>aH rfl (aH rfl (bC (aab ?_)))
 obtain⟨hC,T,U,V,W,X,Y,Z⟩:=Ge u
 have a:Hs G h (aG d 0 (Gr Cf pv w ov vv)::L):=a.to
 have hc:=hC.1
 obtain⟨⟨vi,hv,D,B⟩,E,y,v⟩:=J
 refine bW (aA (kB (b:=d) (o:=0) a (by decide) (l:=Cf.enc) rfl rfl (aQ (c:=mkE Cf none none none 0 0 0 0) rfl (dR a fun k h a=>aA (aA (am d a rfl ?_))))))
 have a:=Rj (R:=qA Cf) (s:=fun _=>Ha) a
 have a:=Rj (R:=rP G Cf) (s:=fun _=>gV.new) a
 have a:=Rj (R:=tG) (s:=ga ps ws) a
 have a:=vC (enc:=pE) (e:=75) a
 have a:=vC (enc:=pE) (e:=137) a
 have a:=vC (enc:=pE) (e:=140) a
 refine Kq (L:=L) (ov:=ov) (vv:=vv) (Cf:=Cf) hC hG F T U Y (A.Af X) hv D B E ?_ Cf.aE.toNat 0 [] [] [] none none none 0 0 0 h (by omega) rfl rfl rfl a.to
 intro lc lk lq a1 p a3 r c2 c3 h O P S a
 refine bW (aA (kB (b:=d) (o:=0) a (by decide) (l:=Cf.enc) rfl rfl ?_))
 refine H.Xd (C:=Cf) hC hG.lim a fun f h a=>aH rfl (aH rfl (aB (aA (ay (b:=k) (o:=0) a fun h a=>bC (aab ?_)))))
 have e8:dN (mkE Cf a1 p a3 Cf.aE.toNat r c2 c3) (0+10) [pt f 0 0]=mkF Cf a1 p a3 Cf.aE.toNat r c2 c3 (pt f 0 0) (.pointer none) (.pointer none):=rfl
 rw[e8] at a
 obtain⟨j,b,o,g,a⟩:=H.rC (a.front (H.gM G f Cf (rR Cf.lines)))
 have em:(fun i=>(rR Cf.lines i).2)=nH:=by
  funext i;unfold rR nH;split<;>rfl
 rw[em] at a
 have a:=a.kG (eO G Cf.lines j Cf nH) (aG f 0 (H.mK j Cf b o g)) (aG k 0 (mkF Cf a1 p a3 Cf.aE.toNat r c2 c3 (pt f 0 0) (.pointer none) (.pointer none))) (aG d 0 (Gr Cf pv w ov vv))
 refine bW (aA (am d a rfl (Rm v ?_)))
 refine il (Cf:=Cf) (p2:=d) (p5:=k) (hb:=f) (mb:=j) (hE:=H.mK j Cf b o g) (z:=mkF Cf a1 p a3 Cf.aE.toNat r c2 c3 (pt f 0 0) (.pointer none) (.pointer none)) hC hG W v rfl rfl ?_ vs.length 0 nH h (by omega) rfl a
 intro h a
 have a:=H.sQ (H:=MC.home ⟨Cf,ps,ws,os,vs⟩) (hb:=f) (C:=Cf) (mb:=j) (b:=b) (o:=o) (cap:=g) (a.kG (aG f 0 (H.mK j Cf b o g)) (eO G Cf.lines j Cf (At.words nH vs 0)) (hole G 25 247 (some ⟨b,o,none⟩) g Cf.lines b o) (dF Cf.lines fun i=>H.eN b (o+i*25) (rR Cf.lines i).1))
 refine bW (aA (aA (am d a rfl (aA (am d a rfl ?_)))))
 refine jw (C:=Cf) hC y V Z a fun q h a=>aH rfl (aH rfl (aB (aA (ay (b:=k) (o:=0) a fun h a=>bC (aab (bW ?_))))))
 refine aA (kB (b:=d) (o:=0) a (by decide) (l:=Cf.enc) rfl rfl ?_)
 refine ln (C:=Cf) hC hG.lim a fun fb h a=>aH rfl (aH rfl (aB (aA (ay (b:=k) (o:=0) a fun h a=>bC (aab (k2 u _ _ ?_))))))
 have a:=vC (enc:=Ev.enc) (e:=80) a
 have e9:dN (dN (mkF Cf a1 p a3 Cf.aE.toNat r c2 c3 (pt f 0 0) (.pointer none) (.pointer none)) (0+11) [pt q 0 0]) (0+12) [pt fb 0 0]=fJ Cf ⟨lc,lk,lq,a1,p,a3,none,r,c2,c3,0,f,q,fb⟩ 0:=by
  unfold fJ;dsimp only;rw[O,P,S];rfl
 rw[e9] at a
 have a:Hs G h (bX G Cf k (⟨ga ps ws,fun _=>gV.new,fun _=>Ha,MC.home ⟨Cf,ps,ws,os,vs⟩,⟨tQ os,fun _=>none⟩,fun _ _=>[],[]⟩:dB)::L):=(bM (m:=k) (x:=⟨lc,lk,lq,a1,p,a3,none,r,c2,c3,0,f,q,fb⟩) (⟨ga ps ws,fun _=>gV.new,fun _=>Ha,MC.home ⟨Cf,ps,ws,os,vs⟩,⟨tQ os,fun _=>none⟩,fun _ _=>[],[]⟩:dB) ⟨O,P,S⟩ a).to
 exact a
end
end Go.Proofs.YtajjljbmfdboaaaGreatDoor
end
namespace Go.Proofs.YtajjljbmfdboaaaGreatDoor
open Go Go.Ab Go.Hm Go.At Go.Mc Go.Ct Go.Nt Go.Is
section
theorem aEf {g:FuncId} {a b:Array Value} {k:Value->Prop} (c:k (.bool false)):bG (Vv .eql (.func (.func g) a b) .nilFunc) k:=⟨_,rfl,c⟩
set_option maxRecDepth 100000
attribute [local irreducible] bG Br pK sD tZ Cq mN wW lR Rs gX mT rA rG pJ kU zA vE V9 V4 Ro Ps Vv Qm Jp Nb Vm lB oL tX jK copyV iQ xK V7 V8 Hn lG Nc Sp V2 oA rY yU Ao Cl yO Vx tE sC kJ hT setLoop cT
variable {G:Bg} {h:AH} {L L':List HP} {Q:Value->AH->Prop} {Cf:bP} {m N:Nat} {M:dB}
theorem xu {C:bP} {pv s ov vv:Value} {ps:List (List Ins)} {ws os vs:List Int} (T:ps.length<=9223372036854775807) (D:A.Nv G pv s ov vv ps ws os vs) (a:Hs G h L)
  (J:ps.length<=6/\ws.length<=6/\os.length<=20/\vs.length<=80->∀g,Hs G g L->Q (.bool true) g) (r:∀g,Hs G g L->Q (.bool false) g):Cl Pr K 30 [.agg ⟨Gr C pv s ov vv⟩] h Q:=by
 obtain⟨⟨R,F,j,u⟩,y,t,w⟩:=D
 have lp:∀{k:Value->Prop},k (I ps.length)->bG (kU pv) k:=fun d=>A.qN j (by simpa [F] using d)
 have lw:∀{k:Value->Prop},k (I ws.length)->bG (kU s) k:=fun d=>Rm y d
 have O:∀{k:Value->Prop},k (I os.length)->bG (kU ov) k:=fun d=>Rm t d
 have P:∀{k:Value->Prop},k (I vs.length)->bG (kU vv) k:=fun d=>Rm w d
 refine cW (dR a fun c h a=>?_)
 have loop:∀(f i:Nat) (h:AH),i+f=ps.length->Hs G h (aG c 0 (Gr C pv s ov vv)::L)->Dd 30 1 [] Q [(pt c 0 0),(I i)] h:=by
  intro f;induction f with
  |zero=>
   intro i h B a;refine bW (aA (am c a (v:=pv) rfl (lp (bA (aab (aA (am c a (v:=pv) rfl (lp (zB (aX (fun g1=>?_) (fun g1=>r _ a.tail)))))))))));refine aA (am c a (v:=s) rfl (lw (zB (aX (fun g2=>?_) (fun g2=>r _ a.tail)))));refine aA (am c a (v:=ov) rfl (O (zB (aX (fun g3=>?_) (fun g3=>r _ a.tail)))));refine aA (am c a (v:=vv) rfl (P (zB ?_)));by_cases z:(vs.length:Int)<=80;rw[decide_eq_true z];exact J ⟨by omega,by omega,by omega,by omega⟩ _ a.tail;rw[decide_eq_false z];exact r _ a.tail
  |succ f H=>
   intro i h B a;obtain⟨p,E,S⟩:=nL (l:=ps) (i:=i) (by omega);obtain⟨v,q,_⟩:=nL (l:=R) (i:=i) (by omega);refine bW (aA (am c a (v:=pv) rfl (lp (bA (aae (bW (aA (am c a (v:=pv) rfl ?_))))))));refine zR (Cs (e:=3) (by simp) j a) (x:=[v]) (by simp[q]) rfl (A.qN (u i v p q E) (mC (aX (fun _=>r _ a.tail) (fun _=>bW (aad (H (i+1) h (by omega) a))))))
 exact loop ps.length 0 h (by omega) a
def dB.core (Cf:bP) (M:dB) (x:Int):List Value×Int:=if 0<=x/\x<Cf.aE then((M.aC x.toNat).core,0) else([I 0,I 0,I 0,I 0,I 0,I 0,.bool false],10)
def veR (q:Nat) (a:Option Addr) (c:Nat) (l:List Ev):HP:=sp [aG q 0 [.slice a l.length c],B5 a c l]
theorem aHa {q c:Nat} {a:Option Addr} {l:List Ev} (hb:l.length<=100000):uc Pr K G 162 [] [pt q 0 0] (veR q a c l) (l.map fun n=>[.agg ⟨n.enc⟩]):=by
 intro k J y L h Q d B s t;have d:=d.G5;have g:∀{h:AH} {M:List HP},Hs G h (aG q 0 [.slice a l.length c]::B5 a c l::M)->Hs G h (veR q a c l::M):=fun d=>d.Hu;refine cW (am q d rfl (bU ?_));have loop:∀(f i:Nat) (h:AH),i+f=l.length->Hs G h (aG q 0 [.slice a l.length c]::B5 a c l::k ((l.drop i).map fun n=>[.agg ⟨n.enc⟩])::L)->Dd 162 1 [] Q [y,(.slice a l.length c),(I l.length),(I i)] h:=by
  intro f;induction f with
  |zero=>
   intro i h w d;rw[List.drop_of_length_le (by omega)] at d;exact bW (bA (aab (s _ _ (g d))))
  |succ f C=>
   intro i h w d;obtain⟨x,A,u⟩:=nL (l:=l) (i:=i) (by omega);rw[u,List.map_cons] at d;refine bW (bA (aae (bW (tO (l:=l) (a:=a) (c:=c) (enc:=Ev.enc) (e:=80) d (by decide) (by omega) (by rw[Int.toNat_natCast];exact A) (bQ d fun p h d=>ax (b:=p) d fun h d=>an p d (l:=x.enc) rfl rfl ?_)))));refine(B _ _ h _ (d.front (k ([.agg ⟨x.enc⟩]::((l.drop (i+1)).map fun n=>[.agg ⟨n.enc⟩]))))).mono fun v r z=>?_;rcases z with⟨rfl,j⟩|⟨rfl,j⟩;exact cH (cG (bW (aad (C (i+1) r (by omega) j.to))));exact cH (eU (t _ _ (g j.to)))
 exact loop l.length 0 h (by omega) (by rw[List.drop_zero];exact d)
abbrev evX (p:Nat) (e:Nat->Value) (d l:Nat) (done:List Ev):HP:=vD fun x:Option Addr×Nat=>sp [pH Pr 17 (pD 250) 20 e d l (.ready,none),aG p 0 [.slice x.1 done.length x.2],B5 x.1 x.2 done]
theorem K4 (k:M.log.length<2000) (f:Hs G h L) [C:Has (bX G Cf m) L M L'] (w:∀a c j,Hs G j (B5 a c M.log::bX G Cf m M::L')->Q (.slice a M.log.length c) j):Cl Pr K 17 [pt m 0 0] h Q:=by
 obtain⟨y,B,f⟩:=dC (C.of f);refine cW ?_;refine cW (dD (cG (aB (aA (am m f rfl ?_)))));refine cW (dR f fun q h f=>?_);refine aEf (cG (bW (bQ f fun p h f=>oF f fun d h f=>?_)));intro e u;refine sV f fun l h f=>Ah rfl ?_;have f:=vC (enc:=Ev.enc) (e:=80) f;have f:Hs G h (veR q y.al y.cl M.log::evX p e d l []::mk d ()::aG m 0 (fJ Cf y M.log.length)::mh y.ac y.cc y.lc::V6 y.ak y.ck y.lk::V3 y.aq y.cq y.lq::
  rZ tG y.lc M.aC::rZ (rP G Cf) y.lk M.dG::rZ (qA Cf) y.lq M.cQ::H.gM G y.hb Cf M.home::fV Cf y.mb M.cE::vF Cf y.fb M.kM::L'):=by
  have f:=(f.cI (aG q 0 [.slice y.al M.log.length y.cl]) (B5 y.al y.cl M.log)).Hu
  have f:Hs G h (veR q y.al y.cl M.log::_):=f
  have f:=(f.cZ (pH Pr 17 (pD 250) 20 e d l (.ready,none)) (aG p 0 [.slice none 0 0]) (B5 none 0 [])).V5
  have f:=Hs.zX (A:=fun x:Option Addr×Nat=>sp [pH Pr 17 (pD 250) 20 e d l (.ready,none),aG p 0 [.slice x.1 ([]:List Ev).length x.2],B5 x.1 x.2 []]) (none,0) f
  exact f.to
 refine(aHa (q:=q) (a:=y.al) (c:=y.cl) (l:=M.log) (by omega)).fold (X:=fun done=>evX p e d l done) (Z:=fun _ _=>B6 False) f ?_ ?_ ?_
 .intro done x h T r f;have t:done.length<1999:=by have:=r.length_le;simp at this;omega
  obtain⟨⟨a,c⟩,f⟩:=f.B4;have f:=f.D2;refine rW (Aa f) u (bQ f fun p1 h f=>ax (b:=p1) f fun h f=>lT f fun h f=>am p f rfl (an p1 f (l:=x.enc) rfl rfl (aQ (c:=x.enc) rfl (dL (W:=7) (n:=1) (c:=1) f rfl rfl rfl fun D h f=>?_))));have f:=xV (enc:=Ev.enc) (x:=x) f;refine Qc (l:=done) (v:=x) (a:=a) (c:=c) (by omega) f fun g i h f=>ax (b:=p) f fun h f=>am p f rfl (bU (dW (aU (by simp;omega) (mD f fun h f=> .inl ⟨rfl,?_⟩))));have f:=(f.cZ (pH Pr 17 (pD 250) 20 e d l (.ready,none)) (aG p 0 [.slice g (done++[x]).length i]) (B5 g i (done++[x]))).V5;exact(Hs.zX (A:=fun z:Option Addr×Nat=>sp [pH Pr 17 (pD 250) 20 e d l (.ready,none),aG p 0 [.slice z.1 (done++[x]).length z.2],B5 z.1 z.2 (done++[x])]) (g,i) f).to
 intro v h f;obtain⟨⟨a,c⟩,f⟩:=(f.front (evX p e d l M.log)).B4;have f:=f.D2;have f:=(f.front (veR q y.al y.cl M.log)).G5;refine tR f fun h f=>tA (am p f rfl (oT f fun h f=>mB (w a c _ ?_)));exact(bM (m:=m) (x:=y) M B f).to
 .intro done x v h r f;obtain⟨s,_⟩:=(f.front (B6 False)).xw;exact s.elim
end
end Go.Proofs.YtajjljbmfdboaaaGreatDoor
