/- A part of the proof. -/
import Derived.Test.YtajjljbmfdboaaaGreatDoorM14
import Derived.Test.YtajjljbmfdboaaaGreatDoorM13
import Derived.Test.YtajjljbmfdboaaaGreatDoorM12
import Derived.Test.YtajjljbmfdboaaaGreatDoorM11
import Derived.Test.YtajjljbmfdboaaaGreatDoorM10
section
open Go Go.Ab
attribute [local irreducible] bE Br rT vO vB Dv nP xS mZ Ti iN nG pU sP rF lJ Cy xP Ya Xx Tj R3 Xc Td Rx Ub U1 mF pL vA kI copyV jQ zM Xp Yw Iz mA Pp Wr X7 pT tO Ao Cx Cl Bc Xb uL uF lI iQ cS cB
namespace Go.Proofs.YtajjljbmfdboaaaGreatDoor
open Go Go.Ab Go.Hm Go.At Go.Mc Go.Ct Go.Nt
section
theorem Hg {C:bM} {S:Nat->List Th} {l at' a:Int} {w:Bool} (b:0<=l/\l<C.lines) (f:0<=at'/\at'<2) (e:mL C.aI.toNat S l a w=true):mD C S l at' a w=0:=by
 unfold mD sB;rw[decide_eq_true b,aLa (by simp),aLa (by omega),aLa (by omega),aLa (by rw[e];simp)]
theorem zb {C:bM} {s:gZ} (g:iL C s) {l b at':Int} {w:Bool} (e:0<=l/\l<C.lines) (f:0<=at'/\at'<2) (a:mL C.aI.toNat s.S l b w=true):mL C.aI.toNat (mV C s l at' b).S l b w=true:=by
 unfold mV;rw[aLb (Hg e f (Kb a))];have i:(bA C.aI.toNat s.S l).2=0:=by
  unfold mL at a;grind
 unfold mL at a ⊢;rw[Ft g.aI i];exact a
set_option maxRecDepth 100000
variable {G:Bg} {h:AH} {L L':List HP} {Q:Value->AH->Prop} {Cf:bM} {m:Nat} {M:cT}
theorem wy {i:Nat} {a:Acc} {p2:Nat} {line at' k:Int} (hC:Cf.Ok) (hG:Gb G) (F:(i:Int)<Cf.aE) (hb:iL Cf (M.dD i)) (J:(M.aD i).Ok) (q:M.log.length<=2^30) (D:0<=line/\line<Cf.lines) (E:0<=at'/\at'<2) (y:mL Cf.aI.toNat (M.dD i).S line k a.write=true)
  (f:Hs G h (bT G Cf m M::aG p2 0 (sD a)::L)) (p:∀u,Hs G u (bT G Cf m (M.pO Cf i line at' k a).1::L)->Q (I (M.pO Cf i line at' k a).2) u):Dd 154 6 [] Q [(pt m 0 0),(I i),(pt p2 0 0),(I line),(I at'),(I k)] h:=by
 unfold cT.pO at p
 have wr:∀(s:gZ) (v:Int) (h:AH),iL Cf s->mL Cf.aI.toNat s.S line k a.write=true->Hs G h (bT G Cf m (M.uQ i s)::aG p2 0 (sD a)::L)->
   (∀u,Hs G u (bT G Cf m ((M.uQ i (if a.write then jD Cf s line at' k a.value else s)).bG i v 0).1::L)->Q (I ((M.uQ i (if a.write then jD Cf s line at' k a.value else s)).bG i v 0).2) u)->
   Dd 154 8 [] Q [(pt m 0 0),(I i),(pt p2 0 0),(I line),(I at'),(I k),(I v)] h:=by
  intro s v h hb y f p
  refine bW (aA (aC (b:=p2) (o:=0) f rfl (dH (fun B=>?_) (fun B=>?_))))
  .rw[B] at y;rw[aLb B] at p;obtain⟨x,z,f⟩:=cU f;have g:i<x.lk.length:=by have:=z.2.1;omega
   refine bW (bB f fun K h f=>aB (aA (aC (b:=m) (o:=0) f rfl (M9 f g (aA (aC (b:=p2) (o:=0) f rfl ?_))))))
   have f:=iJ (R:=sC G Cf) (l:=x.lk) (s:=aR M.dD i s) g f
   rw[show aR M.dD i s i=s by unfold aR;rw[aLb rfl]] at f
   refine C.mw (C:=Cf) (core:=(i:Int)) (c:=x.lk.getD i 0) (s:=s) hC hb (Hg D E y) hG.lim hG.row f fun h f=>bC (aT (by omega) ?_)
   have f:=Cm (Cf:=Cf) (l:=x.lk) (s:=aR M.dD i s) (i:=i) (t:=jD Cf s line at' k a.value) g f
   rw[show aR (aR M.dD i s) i (jD Cf s line at' k a.value)=aR M.dD i (jD Cf s line at' k a.value) by funext j;unfold aR;split<;>rfl] at f
   have f:=bK (m:=m) (x:=x) (M.uQ i (jD Cf s line at' k a.value)) z f
   exact nU (Cf:=Cf) (M:=M.uQ i (jD Cf s line at' k a.value)) F J q f fun h f=>p _ f.to
  .rw[aLa (by rw[B];simp)] at p;exact nU (Cf:=Cf) (M:=M.uQ i s) F J q f fun h f=>p _ f.to
 refine bW (aA (aC (b:=p2) (o:=0) f rfl (dH (fun A=>?_) (fun A=>?_))))
 .rw[aLb A] at p;rw[aLb A] at p;obtain⟨x,z,f⟩:=cU f;have g:i<x.lk.length:=by have:=z.2.1;omega
  refine bW (aB (aA (aC (b:=m) (o:=0) f rfl (M9 f g ?_))))
  have f:=iJ (R:=sC G Cf) (l:=x.lk) (s:=M.dD) g f
  refine C.s9 (C:=Cf) (core:=(i:Int)) (c:=x.lk.getD i 0) (s:=M.dD i) hC hb (Hg D E (Kb y)) hG.lim hG.row f fun h f=>aH rfl (aH rfl (bC (aT (by omega) ?_)))
  have f:=Cm (Cf:=Cf) (l:=x.lk) (s:=M.dD) (i:=i) (t:=mV Cf (M.dD i) line at' k) g f
  have f:=bK (m:=m) (x:=x) (M.uQ i (mV Cf (M.dD i) line at' k)) z f
  refine wr _ _ h (G7 hb) (zb hb D E y) f.to fun u f=>?_
  exact p _ f
 .rw[aLa (by rw[A];simp)] at p;rw[aLa (by rw[A];simp)] at p;refine wr (M.dD i) 0 h hb y ?_ fun u f=>p _ f;have e:M.uQ i (M.dD i)=M:=by unfold cT.uQ;rw[bN]
  rw[e]
  exact f.to
theorem X8 {i:Nat} {a:Acc} (hC:Cf.Ok) (hG:Gb G) (v:(i:Int)<Cf.aE) (hb:iL Cf (M.dD i)) (J:(M.aD i).Ok) (u:(M.cG i).known.length<=100) (U:qn Cf M.kL) (g:M.log.length<=2^30) (e:Hs G h L) [mm:Has (bT G Cf m) L M L'] (f:∀T,Hs G T (bT G Cf m (M.access Cf i a).1::L')->Q (I (M.access Cf i a).2) T):Cl Pr K 154 [pt m 0 0,I i,.agg ⟨sD a⟩] h Q:=by
 unfold cT.access at f;have Z:=(bM.gK hC).2.2;refine cW (dS (cs:=sD a) (mm.of e) fun O h e=>bB e fun rr h e=>?_);obtain⟨x,j,e⟩:=cU (e.front (bT G Cf m M));have W:∀{h:AH} {N:List HP},Hs G h (aG m 0 (fL Cf x M.log.length)::Mb x.ac x.cc x.lc::W7 x.ak x.ck x.lk::W9 x.aq x.cq x.lq::
  oJ jU x.lc M.aD::oJ (sC G Cf) x.lk M.dD::oJ (qP Cf) x.lq M.cG::H.gP G x.hb Cf M.home::fY Cf x.mb M.bY::vQ Cf x.fb M.kL::C3 x.al x.cl M.log::N)->Hs G h (bT G Cf m M::N):=fun e=>zB j e
 have q:i<x.lq.length:=by have:=j.2.2;omega
 have y:i<x.lc.length:=by have:=j.1;omega
 refine aB (aA (kP (b:=m) (o:=0) e (by decide) (l:=Cf.enc) rfl rfl (aA (aC (b:=O) (o:=0) e rfl (G1 (C:=Cf) hC hG.lim e fun h e=>?_)))));by_cases A:0<=a.word/\a.word<Cf.lines*2;rotate_left;rw[aLa A];rw[aLb A] at f;have e:=bK (m:=m) (x:=x) M j e;exact aH rfl (aH rfl (aH rfl (bC (bV (by omega) (nU (Cf:=Cf) (M:=M) v J g e fun h e=>f _ e.to)))));rw[aLb A];rw[aLa (by simpa using A)] at f;obtain⟨w,B⟩:=Int.eq_ofNat_of_zero_le A.1;have X:((a.word.toNat/2:Nat):Int)=a.word/2:=by rw[B];simp
 have Y:((a.word.toNat % 2:Nat):Int)=a.word % 2:=by rw[B];simp
 rw[X,Y];have z:0<=a.word/2/\a.word/2<Cf.lines:=by omega
 refine aH rfl (aH rfl (aH rfl (bC (aT (by omega) (bW (aB (aA (kP (b:=m) (o:=0) e (by decide) (l:=Cf.enc) rfl rfl (Ik (C:=Cf) hC hG.lim e fun h e=>?_)))))))));rw[aLb (show Cf.has (a.word/2) from z)];refine aH rfl (aH rfl (bC (aT (by omega) (bW (bB e fun r2 h e=>aB (aA (aC (b:=m) (o:=0) e rfl (Kl e q (aB (aA (aC (b:=m) (o:=0) e rfl (J1 e y (Uu (l:=x.lc) (S:=M.aD) y e ?_)))))))))))));have e:=iJ (R:=qP Cf) (l:=x.lq) (s:=M.cG) q e;refine pq (C:=Cf) (p:=x.lq.getD i 0) (s:=M.cG i) u e fun h e=>?_;have e:=zE (Cf:=Cf) (l:=x.lq) (s:=M.cG) (i:=i) (t:=M.cG i) q e;rw[bN] at e;have e:=bK (m:=m) (x:=x) M j e;dsimp only at f;refine aH rfl (aH rfl (bC (aX (fun D=>?_) (fun D=>?_))));rw[aLb D] at f;exact f _ e.to;rw[aLa D] at f;refine bW (bJ (aX (fun E=>?_) (fun E=>?_)));rw[aLb E] at f;exact yp (Cf:=Cf) (M:=M) hC hG v u U e fun h e=>f _ e.to;rw[aLa E] at f;refine bW (bJ (aX (fun F=>?_) (fun F=>?_)));rw[aLb F] at f;exact nU (Cf:=Cf) (M:=M) v J g e fun h e=>f _ e.to;rw[aLa F] at f;refine bW (km (Cf:=Cf) (M:=M) v u e fun h e=>bB e fun r3 h e=>?_);obtain⟨x,j,e⟩:=cU (e.front (bT G Cf m M));have k:i<x.lk.length:=by have:=j.2.1;omega
 refine aB (aA (aC (b:=m) (o:=0) e rfl (M9 e k (aA (aC (b:=O) (o:=0) e rfl ?_)))));have e:=iJ (R:=sC G Cf) (l:=x.lk) (s:=M.dD) k e;refine C.Qr (C:=Cf) (core:=(i:Int)) (c:=x.lk.getD i 0) (s:=M.dD i) hC (hb.bd (lK hC).2.2.2) hG.row e fun h e=>?_;have e:=Cm (Cf:=Cf) (l:=x.lk) (s:=M.dD) (i:=i) (t:=M.dD i) k e;rw[bN] at e;have e:=bK (m:=m) (x:=x) M j e;cases hmy:mL Cf.aI.toNat (M.dD i).S (a.word/2) (M.known i (a.word/2/2)) a.write with
 |false=>
  rw[aLb hmy] at f;exact cE (eO (bZ (aA (aC (b:=O) (o:=0) e rfl (va (Cf:=Cf) (M:=M) hC hG v hb U e fun h e=>f _ e.to)))))
 |true=>
  rw[aLa (by rw[hmy];simp)] at f;exact cE (eO (fK (wy (L:=L') (Cf:=Cf) (M:=M) hC hG v hb J g z (by omega) hmy e.to fun h e=>f _ e.to)))
end
section
set_option maxRecDepth 100000
variable {G:Bg} {h:AH} {L L':List HP} {Q:Value->AH->Prop} {Cf:bM} {m:Nat} {M:cT}
theorem zr {l:List Nat} {S:Nat->aK} {i:Nat} {k:Value->Prop} (f:i<l.length) (e:Hs G h L) [j:Has (oJ jU l) L S L'] (g:k (.bool (S i).over)):bE (nG (pt (l.getD i 0) 0 0)) fun v=>bE (iN 0 v) fun v=>bE (iN 6 v) fun v=>bE (rT h v) k:=by
 have e:=iJ (R:=jU) (l:=l) (s:=S) f e;obtain⟨a,c,e⟩:=rB e;exact aB (aA (aA (aC (b:=l.getD i 0) (o:=0) e rfl g)))
theorem qj {d:Do} (hC:Cf.Ok) (hG:Gb G) (T:∀i:Nat,(i:Int)<Cf.aE->yn Cf M i) (f:Hs G h L) [mm:Has (bT G Cf m) L M L'] (g:∀U,Hs G U (bT G Cf m (M.step Cf d.a).1::L')->Q (I (M.step Cf d.a).2) U):Cl Pr K 110 [pt m 0 0,.agg ⟨d.enc⟩] h Q:=by
 unfold cT.step at g;have hc:=hC.1;refine cW (dS (cs:=d.enc) (mm.of f) fun y h f=>bB f fun rr h f=>?_);obtain⟨x,f⟩:=aG7 (f.front (bT G Cf m M));obtain⟨u,f⟩:=yK f;refine aA (aC (b:=y) (o:=0) f rfl (aZ (aX (fun X=>?_) (fun X=>?_))));rw[aLb (by omega)] at g;exact g _ (bK (m:=m) (x:=x) M u f).to;have Z:=u.1;refine aA (aC (b:=y) (o:=0) f rfl (aB (aA (aC (b:=m) (o:=0) f rfl (cC (dO (aX (fun Y=>?_) (fun Y=>?_))))))));rw[aLb (by omega)] at g;exact g _ (bK (m:=m) (x:=x) M u f).to;rw[aLa (by omega)] at g;obtain⟨w,a,b,c⟩:=d;dsimp only at X Y g;obtain⟨i,rfl⟩:=Int.eq_ofNat_of_zero_le (show 0<=a by omega);rw[Int.toNat_natCast] at g;have k:i<x.lc.length:=by omega
 have O:(i:Int)<Cf.aE:=by omega
 have j:=T i O;refine bW (bB f fun r2 h f=>aB (aA (aC (b:=m) (o:=0) f rfl (aA (aC (b:=y) (o:=0) f rfl (J1 f k (zr (l:=x.lc) (S:=M.aD) k f (dH (fun F=>?_) (fun F=>?_)))))))));rw[aLb F] at g;exact g _ (bK (m:=m) (x:=x) M u f).to;rw[aLa (by rw[F];simp)] at g;have f:=Ed (m:=m) (x:=x) M u f;refine bW (aA (aC (b:=y) (o:=0) f rfl (j3 (x:=x) (M:=M) j.bY f fun h f=>dH (fun J=>?_) (fun J=>?_))));rw[aLb J] at g;exact g _ (aE0 f).to;rw[aLa (by rw[J];simp)] at g;obtain⟨u,f⟩:=yK (f.front (wJ G Cf m x M));have f:=iJ (R:=jU) (l:=x.lc) (s:=M.aD) k f;refine bW (Vj (i:=i) (p:=x.lc.getD i 0) (s:=M.aD i) j.Ho f fun h f=>?_);cases hlo:aK.gX (M.aD i) i with
 |some r=>
  rw[hlo] at f g;dsimp only at f g;have f:=xY (l:=x.lc) (s:=M.aD) (i:=i) (t:=r.1) k f;refine aH rfl (aH rfl (bP f fun q h f=>bH (b:=q) f rfl rfl rfl rfl fun h f=>fK (bW (bB f fun r3 h f=>aB (aA (aC (b:=m) (o:=0) f rfl (aU (b:=q) (o:=0) f (by decide) (l:=r.2.enc) rfl rfl (aQ (c:=r.2.enc) rfl ?_))))))));refine jZ (r:=r3) (i:=6) (N:=11) (D:=[]) (W:=7) f rfl rfl rfl rfl rfl fun a h f=>?_;have f:=yB (enc:=Ev.enc) (x:=r.2) f;refine Q4 (l:=M.log) (v:=r.2) j.log f fun B E h f=>aB (aA (bL (b:=m) (o:=0) f rfl rfl rfl rfl fun h f=>cY dJ (g _ ?_)));have e:dR (fL Cf x M.log.length) (0+13) [.slice B (M.log++[r.2]).length E]=fL Cf {x with al:=B,cl:=E} (M.log++[r.2]).length:=rfl;rw[e] at f;exact(bK (m:=m) (x:={x with al:=B,cl:=E}) ((M.nT i r.1).Sp r.2) u f).to
 |none=>
  rw[hlo] at f g;dsimp only at f g;refine aH rfl (aH rfl (bP f fun q h f=>bH (b:=q) f rfl rfl rfl rfl fun h f=>bZ (bW (Ye (i:=i) (p:=x.lc.getD i 0) (s:=M.aD i) j.Ho f fun h f=>?_))));cases has:aK.rV (M.aD i) i with
  |some r=>
   rw[has] at g;dsimp only at g;have f:=xY (l:=x.lc) (s:=M.aD) (i:=i) (t:=M.aD i) k f;rw[bN] at f;have f:=bK (m:=m) (x:=x) M u f;exact aH rfl (aH rfl (bP f fun z h f=>bH (b:=z) f rfl rfl rfl rfl fun h f=>fK (aA (aC (b:=y) (o:=0) f rfl (aU (b:=z) (o:=0) f (by decide) (l:=r.enc) rfl rfl (w8 (Cf:=Cf) (M:=M) hC hG O j.bY j.Ho j.log j.kL f fun h f=>g _ f.to))))))
  |none=>
   rw[has] at g;dsimp only at g;refine aH rfl (aH rfl (bP f fun z h f=>bH (b:=z) f rfl rfl rfl rfl fun h f=>bZ (bW (Ha (i:=i) (p:=x.lc.getD i 0) (s:=M.aD i) j.Ho f fun h f=>?_))));have f:=xY (l:=x.lc) (s:=M.aD) (i:=i) (t:=M.aD i) k f;rw[bN] at f;have f:=bK (m:=m) (x:=x) M u f;cases hac:aK.hQ (M.aD i) with
   |some r=>
    rw[hac] at g;dsimp only at g;exact aH rfl (aH rfl (bP f fun A h f=>bH (b:=A) f rfl rfl rfl rfl fun h f=>cE (eO (fK (aA (aC (b:=y) (o:=0) f rfl (aU (b:=A) (o:=0) f (by decide) (l:=sD r) rfl rfl (X8 (Cf:=Cf) (M:=M) hC hG O j.g9 j.Ho j.pR j.kL j.log f fun h f=>g _ f.to))))))))
   |none=>
    rw[hac] at g;dsimp only at g;exact aH rfl (aH rfl (bP f fun A h f=>bH (b:=A) f rfl rfl rfl rfl fun h f=>cE (eO (bZ (g _ f.to)))))
end
end Go.Proofs.YtajjljbmfdboaaaGreatDoor
namespace Go.Proofs.YtajjljbmfdboaaaGreatDoor.H
open Go Go.Ab Go.Hm
section
set_option maxRecDepth 100000
variable {G:Bg} {h:AH} {L L':List HP}
end
section
set_option maxRecDepth 100000
variable {G:Bg} {h:AH} {L L':List HP}
theorem qt (n:Nat):(fun i=>(sE n i).2)=nE:=by funext i;unfold sE nE;split<;>rfl
theorem La {C:bM} (hC:C.Ok) {hb:Nat} {Q:Value->AH->Prop} (q:∀j,Hs G j (gP G hb C (sE C.lines)::L)->Q (.tuple ⟨[pt hb 0 0,I 0]⟩) j):∀(f n:Nat) (h:AH),n+f=C.lines->Hs G h (gP G hb C (sE n)::L)->Dd 85 3 [] Q [(pt hb 0 0),(I C.lines),(I n)] h:=by
 have s:=bM.gK hC;intro f;induction f with
 |zero=>
  intro n h t a;have:n=C.lines:=by omega
  subst this;exact bW (aZ (aT (by omega) (q _ a)))
 |succ f u=>
  intro n h t a;have g:n<C.lines:=by omega
  refine bW (aZ (bV (by omega) (bW ?_)));obtain⟨v,b,o,e,a⟩:=Gr g a;obtain⟨x,y,a⟩:=dZ a;refine aB (aA (aC a rfl (dV g (aA (bL a rfl rfl rfl rfl ?_)))));intro h a;refine bQ (by omega) (u (n+1) h (by omega) ?_);have k:(sE n n).1={xN with owner:=0}:=by unfold sE;rw[aLa (by omega)]
  have p:(sE n n).2=(0,0):=by unfold sE;rw[aLa (by omega)]
  rw[k] at a;have a:=eG b (o+n*25) xN x y a rfl rfl rfl;have a:=eU hb C (sE n) n xN (0,0) (fun i=>(sE n i).2) v b o e g (by rw[<-p];exact fC.symm) a;rw[oq] at a;exact a
theorem Xk {C:bM} (hC:C.Ok) {Q:Value->AH->Prop} (f:Ob G 0 fV) (e:Hs G h L) (t:∀j k,Hs G k (gP G j C (sE C.lines)::L)->Q (.tuple ⟨[pt j 0 0,I 0]⟩) k):Cl Pr K 85 [.agg ⟨C.enc⟩] h Q:=by
 have u:=bM.gK hC;refine cW (dS e ?_);intro p h e;refine aU e (by decide) (l:=C.enc) rfl rfl (nF f e fun h e=>?_);rw[aLb hC];refine bC (aT (by omega) (bW (aU e (by decide) (l:=C.enc) rfl rfl (Qg hC f e fun q h e=>?_))));refine aH rfl (aH rfl (bC (aT (by omega) (bW (bB e ?_)))));intro x h e;refine aU e (by decide) (l:=C.enc) rfl rfl (aU e (by decide) (l:=C.enc) rfl rfl (rQ hC f e fun h e=>aCl (by omega) (by omega) ?_));dsimp only;refine jZ e rfl rfl ?_ rfl ?_ ?_;rw[gT,rL (W:=25) (fun _=>rfl)];rw[gT];exact qR (fun _=>rfl) _;intro a h e;obtain⟨b,o,s,e⟩:=Hs.Ku (W:=25) rfl (by omega) e;cases s;refine aQ (c:=mM q C b o C.lines) rfl (Am e rfl rfl ?_);intro j h e;refine cY dJ (cY (aU e (by decide) (l:=C.enc) rfl rfl (qV (by simp[oI,bM.enc]))) (aB (aA (aC e rfl (cC ?_)))));refine La hC (t j) C.lines 0 h (by omega) ?_;have e:=(e.front (dK C.lines fun i=>aG b (o+i*25) [I 0,.bool false,.bool false,.bool false,.bool false,.slice none 0 0,.bool false,I 0,I 0,I 0,I 0,I 0,I 0,I 0,.bool false,I 0,I 0,.bool false,.bool false,.bool false,.bool false,.bool false,.bool false,I 0,I 0]));have e:=Hs.Lf (g:=fun i=>eR b (o+i*25) (sE 0 i).1) C.lines _ (fun i v h L e=>kM {xN with owner:=0} (a:=none) (c:=0) (gS e).mK) e;rw[<-qt 0] at e;exact(Cp C (sE 0) j q b o C.lines e).to
end
section
set_option maxRecDepth 100000
variable {G:Bg} {h:AH} {L L':List HP} {Q:Value->AH->Prop}
def Tm (H:kN) (i:Nat) (x:Option Addr×Nat):List Value:=(H i).1.enc x.1 x.2
def T9 (H:kN) (i:Nat) (x:Option Addr×Nat):HP:=vS x.1 x.2 (H i).1.waits
theorem aC4 {b o n:Nat} {H:kN} (e:Hs G h (dK n (fun i=>eR b (o+i*25) (H i).1)::L)):Hs G h (dK n (fun i=>vW fun x=>sp [aG b (o+i*25) (Tm H i x),T9 H i x])::L):=
 Hs.Lf n L (fun i _ h L e=>by
  obtain⟨a,c,e⟩:=dZ e;exact Hs.Af (A:=fun x:Option Addr×Nat=>sp [aG b (o+i*25) (Tm H i x),T9 H i x]) (a,c) e.H9) e
theorem aAh {b o n:Nat} {H:kN} (e:Hs G h (dK n (fun i=>vW fun x=>sp [aG b (o+i*25) (Tm H i x),T9 H i x])::L)):Hs G h (dK n (fun i=>eR b (o+i*25) (H i).1)::L):=
 Hs.Lf n L (fun i _ h L e=>by
  obtain⟨⟨a,c⟩,e⟩:=e.Et;exact kM (H i).1 (a:=a) (c:=c) e.Hh) e
theorem mj {n c:Nat} {a:Option Addr} {cs:List Value} (j:n<=100) (i:Hs G h L) [m:Has (dI 25 247 a c) L (n,cs) L'] (g:∀b e f,Hs G f (dI 25 247 b e (n,cs)::dI 25 247 a c (n,cs)::L')->Q (.slice b n e) f):Cl Pr K 138 [.slice a n c] h Q:=
 cW (B1 (bytes:=152) i (by omega) g)
theorem ae {B p b o cap mb:Nat} {C:bM} {H:kN} {f:Nat->Option Addr×Nat} (hB:B<=32) (D:C.lines=B) (O:∀i,i<B->(H i).1.waits.length<=2^30)
  (J:∀x,Hs G x (aG p 0 (mM mb C b o cap)::dK B (fun i=>eR b (o+i*25) (H i).1)::dK B (fun i=>T9 H i (f i))::L)->Q (pt p 0 0) x):
  ∀(r i:Nat) (h:AH),i+r=B->Hs G h (aG p 0 (mM mb C b o cap)::dK B (fun j=>if j<i then eR b (o+j*25) (H j).1 else aG b (o+j*25) (Tm H j (f j)))::dK B (fun i=>T9 H i (f i))::L)->
  Dd 76 2 [] Q [(pt p 0 0),(I B),(I i)] h:=by
 intro r
 induction r with
 |zero=>
  intro i h E e
  obtain rfl:i=B:=by omega
  refine bW (aZ (aT (by omega) (J _ ?_)))
  have e:=e.front (dK i fun j=>if j<i then eR b (o+j*25) (H j).1 else aG b (o+j*25) (Tm H j (f j)))
  have e:=tF (g:=fun j=>eR b (o+j*25) (H j).1) (fun j F=>by rw[aLb F]) e
  exact e.dF (aG p 0 (mM mb C b o cap)) (dK i fun j=>eR b (o+j*25) (H j).1) (dK i fun j=>T9 H j (f j))
 |succ r S=>
  intro i h E e
  have q:i<B:=by omega
  have t:i<C.lines:=by omega
  have R:=O i q
  refine bW (aZ (bV (by omega) (bW (bB e fun T h e=>?_))))
  have e:=(e.front (dK B fun j=>if j<i then eR b (o+j*25) (H j).1 else aG b (o+j*25) (Tm H j (f j)))).mW i q
  simp only[Nat.lt_irrefl,if_false] at e
  have e:=(e.front (dK B fun j=>T9 H j (f j))).mW i q
  refine aB (aA (aC (b:=p) (o:=0) e rfl (aB (aA (aC (b:=p) (o:=0) e rfl (dV t (aA (aC (b:=b) (o:=o+i*25) e rfl ?_))))))))
  have e:Hs G h (vS (f i).1 (f i).2 (H i).1.waits::_):=e
  refine Fp (l:=(H i).1.waits) (a:=(f i).1) (c:=(f i).2) (by omega) e fun u v h e=>?_
  refine dV t (aA (bL (b:=b) (o:=o+i*25) e rfl rfl rfl rfl fun A s=>?_))
  refine cY dJ (cY (aB dJ) (cY (aA dJ) (cY (aC (b:=p) (o:=0) e rfl Ww) (cY jH (bQ (by omega) ?_)))))
  refine S (i+1) A (by omega) ?_
  have s:=s.sg (b:=b) (o:=o+i*25) (c:=(H i).1.enc u v) rfl
  have k:=kM (b:=b) (o:=o+i*25) (H i).1 (a:=u) (c:=v) (s.cX (aG b (o+i*25) ((H i).1.enc u v)) (vS u v (H i).1.waits))
  have y:eR b (o+i*25) (H i).1=(fun j=>if j<i+1 then eR b (o+j*25) (H j).1 else aG b (o+j*25) (Tm H j (f j))) i:=by simp only[Nat.lt_succ_self,if_true]
  rw[y] at k
  have k:=k.qA (n:=B) (i:=i) (fun j=>if j<i then eR b (o+j*25) (H j).1 else aG b (o+j*25) (Tm H j (f j))) (fun j=>if j<i+1 then eR b (o+j*25) (H j).1 else aG b (o+j*25) (Tm H j (f j))) q (fun j _ K=>by
   have:(j<i+1)=(j<i):=propext ⟨fun h=>by omega,fun h=>by omega⟩;simp only[this])
  have z:vS (f i).1 (f i).2 (H i).1.waits=(fun j=>T9 H j (f j)) i:=rfl
  rw[z] at k
  have k:=k.qA (n:=B) (i:=i) (fun j=>T9 H j (f j)) (fun j=>T9 H j (f j)) q (fun _ _ _=>rfl)
  exact k.to
theorem Np {C:bM} {H:kN} (hC:C.Ok) {hb:Nat} (S:yD C H (2^30)) (a:Hs G h L) [U:Has (gP G hb C) L H L'] (T:∀p2 J,Hs G J (gP G p2 C H::gP G hb C H::L')->Q (pt p2 0 0) J):Cl Pr K 76 [pt hb 0 0] h Q:=by
 have Y:=(bM.gK hC);have z:0<C.lines:=by omega
 obtain⟨I,b,o,e,a⟩:=rS (U.of a);refine cW (dG (bZ (bW (bB a fun Z h a=>?_))));have a:=aC4 (a.front (dK C.lines fun i=>eR b (o+i*25) (H i).1));have v:Hs G h (dK C.lines (fun i=>vW fun x=>sp [aG b (o+i*25) (Tm H i x),T9 H i x])::hole G 25 247 (some ⟨b,o,none⟩) e C.lines b o::_):=a.cX (dK C.lines fun i=>vW fun x=>sp [aG b (o+i*25) (Tm H i x),T9 H i x]) (hole G 25 247 (some ⟨b,o,none⟩) e C.lines b o);obtain⟨f,a⟩:=Hs.fc (W:=25) (c:=Tm H) (d:=T9 H) (none,0) (fun _ _=>rfl) (fun _ _=>rfl) (by decide) z v;clear v;refine aB (aA (aC (b:=hb) (o:=0) a rfl (A.Xs hC a fun k X q=>?_)));refine aB (aA (kP (b:=hb) (o:=0) q (by decide) (l:=C.enc) rfl rfl (aB (aA (aC (b:=hb) (o:=0) q rfl ?_)))));refine mj (by omega) q fun O u R g=>?_;obtain⟨s,t,rfl,g⟩:=Hs.Yi (W:=25) (c:=fun i=>Tm H i (f i)) (fun _=>rfl) z (g.front (dI 25 247 O u (C.lines,(List.range C.lines).flatMap fun i=>Tm H i (f i))));refine aQ (c:=mM k C s t u) rfl (Am (i:=15) (n:=17) (D:=[]) g rfl rfl fun p E j=>?_);have y:oI (.agg ⟨C.enc⟩) (.agg ⟨C.enc⟩)=true:=qV (by simp[bM.enc,jH]);refine cY dJ (cY dJ (cY (aB dJ) (cY (aB dJ) (cY (aA dJ) (cY (aA dJ) ?_)))));refine cY (kP (b:=hb) (o:=0) a (by decide) (l:=C.enc) rfl rfl y) (cY (kP (b:=hb) (o:=0) j (by decide) (l:=C.enc) rfl rfl y) ?_);refine cY dJ (cY (aB dJ) (cY (aA dJ) (cY (aC (b:=hb) (o:=0) a rfl Ww) ?_)));clear a q g;refine aB (aA (aC (b:=p) (o:=0) j rfl (cC ?_)));have a:=j.dF (aG p 0 (mM k C s t u)) (dK C.lines fun i=>aG s (t+i*25) (Tm H i (f i))) (dK C.lines fun i=>T9 H i (f i));refine ae (B:=C.lines) (C:=C) (b:=s) (o:=t) (cap:=u) (mb:=k) (H:=H) (f:=f) (by omega) rfl (fun i F=>(S i F).2) ?_ C.lines 0 E (by omega) (by simpa using a);intro h a;refine T p _ ?_;have a:=tD (a.nA (aG p 0 (mM k C s t u)) (fP G C.lines k C fun i=>(H i).2) (hole G 25 247 (some ⟨s,t,none⟩) u C.lines s t) (dK C.lines fun i=>eR s (t+i*25) (H i).1));have a:=a.cX (dI 25 247 (some ⟨b,o,none⟩) e (C.lines,(List.range C.lines).flatMap fun i=>Tm H i (f i))) (dK C.lines fun i=>T9 H i (f i));have a:Hs G h (dK C.lines (fun i=>vW fun x=>sp [aG b (o+i*25) (Tm H i x),T9 H i x])::hole G 25 247 (some ⟨b,o,none⟩) e C.lines b o::_):=Hs.uv (W:=25) (c:=Tm H) (d:=T9 H) f (fun _ _=>rfl) z a;have a:=aAh a;have a:=tD (a.nA (aG hb 0 (mM I C b o e)) (fP G C.lines I C fun i=>(H i).2) (hole G 25 247 (some ⟨b,o,none⟩) e C.lines b o) (dK C.lines fun i=>eR b (o+i*25) (H i).1));exact a.to
end
end Go.Proofs.YtajjljbmfdboaaaGreatDoor.H
namespace Go.Proofs.YtajjljbmfdboaaaGreatDoor.H
open Go Go.Ab Go.Hm Go.Mc
section
set_option maxRecDepth 100000
variable {G:Bg} {h:AH} {L L':List HP} {Q:Value->AH->Prop}
theorem aF0 {α:Type} {l:List α} {i:Nat} (h:i<l.length):∃x,l[i]?=some x/\l.drop i=x::l.drop (i+1):=⟨l[i],by simp,List.drop_eq_getElem_cons h⟩
def Oc (l:List aJ):Int:=((l.filter fun n=>decide (n.kind=0)).length:Int)
theorem qy {l:List aJ} {i:Nat} {n:aJ} (h:l[i]?=some n):Oc (l.take (i+1))=Oc (l.take i)+if n.kind=0 then 1 else 0:=by
 unfold Oc;rw[List.take_add_one,h];simp only[Option.toList_some,List.filter_append,List.filter_cons,List.filter_nil];split<;>simp_all
theorem Aj {a:Option Addr} {c:Nat} {l:List aJ} {k:Int} (hb:l.length<=2^30) (z:0<=k/\k<=1) (y:∀q,Hs G q (vS a c l::L)->Q (I (k+Oc l)) q):
  ∀(f i:Nat) (h:AH),i+f=l.length->Hs G h (vS a c l::L)->Dd 121 4 [] Q [(I (k+Oc (l.take i))),(.slice a l.length c),(I l.length),(I i)] h:=by
 intro f
 induction f with
 |zero=>
  intro i h x g
  rw[List.take_of_length_le (by omega)]
  exact bW (aZ (aT (by omega) (y _ g)))
 |succ f t=>
  intro i h x g
  obtain⟨n,s,A⟩:=aF0 (l:=l) (i:=i) (by omega)
  have v:Oc (l.take i)<=2^30/\0<=Oc (l.take i):=by
   unfold Oc;have:=List.length_filter_le (fun n:aJ=>decide (n.kind=0)) (l.take i);have:=List.length_take_le i l;omega
  have j:=qy s
  refine bW (aZ (bV (by omega) (bW (wN (l:=l) (a:=a) (c:=c) (enc:=aJ.enc) (e:=175) g (by decide) (by omega) (by rw[Int.toNat_natCast];exact s) (bP g fun u h g=>bH (b:=u) g rfl rfl rfl rfl fun h g=>aA (aC (b:=u) (o:=0) g rfl (bJ (aX (fun p=>?_) (fun p=>?_)))))))))
  .rw[aLb p] at j;refine bW (bQ (by omega) (bQ (by omega) ?_));have:=t (i+1) h (by omega) g.to;rw[j] at this;rw[show k+Oc (l.take i)+1=k+(Oc (l.take i)+1) by omega];exact this
  .rw[aLa p] at j;refine bW (bQ (by omega) ?_);have:=t (i+1) h (by omega) g.to;rw[j,Int.add_zero] at this;exact this
theorem R0 {C:bM} {H:kN} {hb:Nat} {x:Int} (D:yD C H (2^30)) (f:Hs G h L) [E:Has (gP G hb C) L H L'] (q:∀B,Hs G B (gP G hb C H::L')->Q (I (fH C H x)) B):Cl Pr K 121 [pt hb 0 0,I x] h Q:=by
 have f:=E.of f;unfold fH at q;by_cases u:C.has x;rotate_left;rw[aLa u] at q;obtain⟨t,b,o,g,f⟩:=rS f;refine cW (yY f (cE (eO (aT u (q _ (Cp C H hb t b o g f).to)))));rw[aLb u] at q;obtain⟨l,rfl⟩:=Int.eq_ofNat_of_zero_le u.1;have y:l<C.lines:=by have:=u.2;omega
 rw[Int.toNat_natCast] at q;obtain⟨t,b,o,g,f⟩:=Gr y f;obtain⟨a,c,f⟩:=dZ f;have s:=(D l y).2;have f:Hs G h (aG b (o+l*25) ((H l).1.enc a c)::vS a c (H l).1.waits::aG hb 0 (mM t C b o g)::fP G C.lines t C (fun i=>(H i).2)::hole G 25 247 (some ⟨b,o,none⟩) g C.lines b o::A4 b o C.lines H l::L'):=f;have p:∀{h:AH},Hs G h (vS a c (H l).1.waits::aG b (o+l*25) ((H l).1.enc a c)::aG hb 0 (mM t C b o g)::fP G C.lines t C (fun i=>(H i).2)::hole G 25 247 (some ⟨b,o,none⟩) g C.lines b o::A4 b o C.lines H l::L')->Hs G h (gP G hb C H::L'):=by
  intro h f;have f:=kM (H l).1 (a:=a) (c:=c) f.mK;have f:=eU hb C H l (H l).1 (H l).2 _ t b o g y fC.symm f;have e:aR H l ((H l).1,(H l).2)=H:=by funext j;unfold aR;split<;>simp_all
  rw[e] at f;exact f
 refine cW (yY f (cE (eO (bV u (bW (aB (aA (aC (b:=hb) (o:=0) f rfl (dV y (aB (aA (aC (b:=b) (o:=o+l*25) f rfl (dH (fun z=>?_) (fun z=>?_))))))))))))));refine aB (aA (aA (aC (b:=b) (o:=o+l*25) f rfl (bJ (aX (fun A=>?_) (fun A=>?_))))));refine bW (bQ (by omega) (aB (aA (aC (b:=b) (o:=o+l*25) f rfl (cC ?_)))));refine Aj (a:=a) (c:=c) (l:=(H l).1.waits) (k:=1) s (by omega) (fun h f=>?_) (H l).1.waits.length 0 h (by omega) f.mK;have:=q h (p f);unfold Row.Aa at this;rw[aLb ⟨z,A⟩] at this;exact this;refine bW (aB (aA (aC (b:=b) (o:=o+l*25) f rfl (cC ?_))));refine Aj (a:=a) (c:=c) (l:=(H l).1.waits) (k:=0) s (by omega) (fun h f=>?_) (H l).1.waits.length 0 h (by omega) f.mK;have:=q h (p f);unfold Row.Aa at this;rw[aLa (fun v=>A v.2)] at this;exact this;refine aB (aA (aC (b:=b) (o:=o+l*25) f rfl (cC ?_)));refine Aj (a:=a) (c:=c) (l:=(H l).1.waits) (k:=0) s (by omega) (fun h f=>?_) (H l).1.waits.length 0 h (by omega) f.mK;have:=q h (p f);unfold Row.Aa at this;rw[aLa (fun v=>by rw[z] at v;cases v.1)] at this;exact this
end
end Go.Proofs.YtajjljbmfdboaaaGreatDoor.H
namespace Go.Proofs.YtajjljbmfdboaaaGreatDoor
open Go Go.Ab Go.Hm Go.At Go.Mc Go.Ct Go.Nt
section
def qI (C:bM) (H:kN) (l:List Nat):kN:=l.foldl (fun H (l:Nat)=>(jI C H l).1) H
theorem Yo {C:bM} {H:kN} {l:List Nat} {k:Nat}:qI C H (l++[k])=(jI C (qI C H l) k).1:=by unfold qI;rw[List.foldl_append];rfl
theorem Z2 {C:bM} {H:kN} {N:Nat} {l:Int} (h:yD C H N):yD C (jI C H l).1 (N+1):=by
 intro k g;obtain⟨a,f⟩:=h k g;unfold jI;split;rename_i i;unfold aR;dsimp only;split;rename_i e;subst e;refine⟨⟨a.core,a.owner,?_⟩,?_⟩;intro n b;rcases List.mem_append.1 b with b|b;exact a.waits n b;rw[List.mem_singleton.1 b];show(0:Int)<=0/\(0:Int)<4;omega;show((H l.toNat).1.waits++[mX l]).length<=N+1;rw[List.length_append,List.length_singleton];omega;exact⟨a,by omega⟩;exact⟨a,Nat.le_succ_of_le f⟩
theorem Uq {C:bM} {N:Nat}:∀{l:List Nat} {H:kN},yD C H N->yD C (qI C H l) (N+l.length):=by
 intro l;induction l generalizing N with
 |nil=>intro H h;exact h
 |cons k l a=>
  intro H h;have:=a (Z2 (l:=k) h);rw[List.length_cons,show N+(l.length+1)=N+1+l.length by omega];exact this
set_option maxRecDepth 100000
variable {G:Bg} {h:AH} {L L':List HP} {Q:Value->AH->Prop} {Cf:bM} {m:Nat} {M:cT}
abbrev swX (G:Bg) (Cf:bM) (m p2:Nat) (M:cT) (e:Nat->Value) (d l:Nat) (done:List Nat):HP:=sp [pP Pr 212 (pM 14) 18 e d l (.ready,none),aG p2 0 [pt m 0 0],bT G Cf m (M.pZ (qI Cf M.home done))]
theorem nq {g:Nat} (hC:Cf.Ok) (hG:Gb G) (F:(g:Int)<Cf.aS) (J:yD Cf M.home (2^30 - 4)) (a:Hs G h L) [O:Has (bT G Cf m) L M L'] (i:∀v s,Hs G s (bT G Cf m (M.pZ (yQ Cf M.home g))::L')->Q v s):Cl Pr K 212 [pt m 0 0,I g] h Q:=by
 refine cW (dS (O.of a) fun f h a=>?_);obtain⟨x,j,a⟩:=cU (a.front (bT G Cf m M));refine aC (b:=f) (o:=0) a rfl (aB (aA (kP (b:=m) (o:=0) a (by decide) (l:=Cf.enc) rfl rfl (El (C:=Cf) a fun u z h a=>?_))));have a:Hs G h (bT G Cf m (M.pZ (qI Cf M.home []))::_):=bK (m:=m) (x:=x) M j a;refine oY a fun d h a=>?_;intro e E;refine tZ a fun l h a=>A8 rfl ?_;have a:Hs G h (sp [aG u 0 Cf.enc,aG z 0 [I g]]::swX G Cf m f M e d l []::mk d ()::L'):=by
  have a:=(a.dF (pP Pr 212 (pM 14) 18 e d l (.ready,none)) (aG f 0 [pt m 0 0]) (bT G Cf m (M.pZ (qI Cf M.home [])))).W8;exact a.to
 refine(He (C:=Cf) hC F (p:=u) (q:=z) hG.lim).fold (X:=fun done=>swX G Cf m f M e d l done) (Z:=fun _ _=>Cz False) a ?_ ?_ ?_
 .intro done y h N t a;have a:=a.Ex;have D:done.length<=1:=by have:=t.length_le;simp at this;omega
  obtain⟨x,j,a⟩:=cU (a.front (bT G Cf m (M.pZ (qI Cf M.home done))));refine rW (A7 a) E (lU a fun h a=>aC (b:=f) (o:=0) a rfl (aB (aA (aC (b:=m) (o:=0) a rfl ?_))));refine H.y1 (C:=Cf) (H:=qI Cf M.home done) (fun k i=>by have:=Uq (l:=done) J k i;exact⟨this.1,by omega⟩) a fun h a=>mB a fun h a=> .inl ⟨rfl,?_⟩;rw[<-Yo] at a;have a:=bK (m:=m) (x:=x) (M.pZ (qI Cf M.home (done++[y]))) j a;have a:=(a.dF (pP Pr 212 (pM 14) 18 e d l (.ready,none)) (aG f 0 [pt m 0 0]) (bT G Cf m (M.pZ (qI Cf M.home (done++[y]))))).W8;exact a.to
 intro v h a;have a:=(a.front (swX G Cf m f M e d l [g*2,g*2+1])).Ex;have A:qI Cf M.home [g*2,g*2+1]=yQ Cf M.home g:=by unfold qI yQ;simp
 rw[A] at a;exact uG a fun h a=>uE (oU a fun h a=>lZ (i _ _ a.to))
 .intro done y v h t a;obtain⟨B,_⟩:=(a.front (Cz False)).y7;exact B.elim
end
section
set_option maxRecDepth 100000
variable {G:Bg} {h:AH} {L L':List HP} {Q:Value->AH->Prop} {Cf:bM} {m:Nat} {M:cT} {n:aJ}
def aG3 (G:Bg) (Cf:bM) (m:Nat) (Z:HP) (b:Value) (A B:cT):Prop:=∀(h:AH) (L:List HP) (Q:Value->AH->Prop),Hs G h (Z::bT G Cf m A::L)->(∀v a,Hs G a (bT G Cf m B::L)->Q v a)->Bc Pr K b [] h Q
abbrev TK (G:Bg) (Cf:bM) (m:Nat) (M:cT) (L:List HP) (Q:Value->AH->Prop) (r:cT×List aJ×Int):Prop:=∀v a Z b,Hs G b (H.eT v r.2.1::Z::bT G Cf m M::L)->(r.2.2=0->∀F,aG3 G Cf m Z a (M.dR F) (r.1.dR F))->Q (.tuple ⟨[v,a,I r.2.2]⟩) b
theorem G5 {C:bM} {H:kN} {N N':Nat} (h:yD C H N) (b:N<=N'):yD C H N':=fun k a=>⟨(h k a).1,Nat.le_trans (h k a).2 b⟩
theorem aAl {p2 k:Nat} (hC:Cf.Ok) (hG:Gb G) (p:yA Cf M n) (a:Hs G h (aG p2 0 [pt m 0 0]::aG k 0 n.enc::bT G Cf m M::L)) (i:TK G Cf m M L Q (M.pZ (fF Cf M.home n).1,(fF Cf M.home n).2.1,(fF Cf M.home n).2.2)):Dd 156 3 [] Q [(pt p2 0 0),(pt k 0 0)] h:=by
 obtain⟨x,j,a⟩:=cU (a.front (bT G Cf m M));refine bW (aC (b:=p2) (o:=0) a rfl (aB (aA (aC (b:=m) (o:=0) a rfl (H.Np (C:=Cf) hC (G5 p.home (by omega)) a fun q h a=>bP a fun g h a=>bH (b:=g) a rfl rfl rfl rfl fun h a=>aC (b:=g) (o:=0) a rfl (aU (b:=k) (o:=0) a (by decide) (l:=n.enc) rfl rfl ?_))))));refine H.F3 (C:=Cf) (hb:=q) (H:=M.home) (n:=n) hC hG.lim (G5 p.home (by omega)) a fun v h a=>aH rfl (aH rfl ?_);have a:=bK (m:=m) (x:=x) M j a;have a:=(a.dF (aG g 0 [pt q 0 0]) (aG p2 0 [pt m 0 0]) (H.gP G q Cf (fF Cf M.home n).1)).W8;refine i v _ (sp [aG g 0 [pt q 0 0],aG p2 0 [pt m 0 0],H.gP G q Cf (fF Cf M.home n).1]) h a.to fun _ F=>?_;intro h L Q a i;have a:=a.Ex;obtain⟨x,j,a⟩:=cU (a.front (bT G Cf m (M.dR F)));refine rA rfl (cW (f:=201) (aC (b:=p2) (o:=0) a rfl (aC (b:=g) (o:=0) a rfl (aB (aA (bL (b:=m) (o:=0) a rfl rfl rfl rfl fun h a=>i _ _ ?_))))));have e:dR (fL Cf x M.log.length) (0+10) [pt q 0 0]=fL Cf {x with hb:=q} M.log.length:=rfl;rw[e] at a;exact(bK (m:=m) (x:={x with hb:=q}) ((M.pZ (fF Cf M.home n).1).dR F) j a).to
theorem wx {p2 v:Nat} (hC:Cf.Ok) (hG:Gb G) (A:yA Cf M n) (g:Hs G h (aG p2 0 [pt m 0 0]::aG v 0 n.enc::bT G Cf m M::L)) (z:TK G Cf m M L Q (M.uQ n.core.toNat (fX Cf n.core (M.dD n.core.toNat) n).1,(fX Cf n.core (M.dD n.core.toNat) n).2.1,(fX Cf n.core (M.dD n.core.toNat) n).2.2)):Dd 156 9 [] Q [(pt p2 0 0),(pt v 0 0)] h:=by
 have p:Bd (M.dD n.core.toNat):=A.g9.bd (lK hC).2.2.2;obtain⟨i,B⟩:=Int.eq_ofNat_of_zero_le A.core.1;have K:(i:Int)<Cf.aE:=by have:=A.core.2;omega
 rw[B,Int.toNat_natCast] at z;have k:=A.g9;rw[B,Int.toNat_natCast] at k p;obtain⟨x,u,g⟩:=cU (g.front (bT G Cf m M));have j:i<x.lk.length:=by have:=u.2.1;omega
 have E:n.enc[0+1]?=some (I i):=by show some (I n.core)=_;rw[B]
 refine bW (bB g fun J h g=>aC (b:=p2) (o:=0) g rfl (aB (aA (aC (b:=m) (o:=0) g rfl (aA (aC (b:=v) (o:=0) g E (M9 g j ?_)))))));have g:=iJ (R:=sC G Cf) (l:=x.lk) (s:=M.dD) j g;refine C.cr (C:=Cf) (core:=(i:Int)) (c:=x.lk.getD i 0) (s:=M.dD i) hC p g fun q h g=>lN (r:=J) (i:=9) (n:=11) (D:=[]) g rfl rfl fun y h g=>bH (b:=y) g rfl rfl rfl rfl fun h g=>aC (b:=y) (o:=0) g rfl (aU (b:=v) (o:=0) g (by decide) (l:=n.enc) rfl rfl ?_);refine C.F3 (C:=Cf) (core:=(i:Int)) (c:=q) (s:=M.dD i) (n:=n) hC p k.sts hG.lim hG.row g fun a c h g=>aH rfl (aH rfl ?_);have g:=Cm (Cf:=Cf) (l:=x.lk) (s:=M.dD) (i:=i) (t:=M.dD i) j g;rw[bN] at g;have g:=bK (m:=m) (x:=x) M u g;have g:=(g.nA (aG y 0 [pt q 0 0]) (aG p2 0 [pt m 0 0]) (aG v 0 n.enc) (C.hM G q Cf i (fX Cf i (M.dD i) n).1)).Nx;have g:=H.H6 (l:=(fX Cf i (M.dD i) n).2.1) rfl rfl (g.front (dI 9 175 a c ((fX Cf i (M.dD i) n).2.1.length,eP (fX Cf i (M.dD i) n).2.1)));refine z _ _ (sp [aG y 0 [pt q 0 0],aG p2 0 [pt m 0 0],aG v 0 n.enc,C.hM G q Cf i (fX Cf i (M.dD i) n).1]) h g.to fun _ F=>?_;intro h L Q g z;have g:=g.un4;obtain⟨x,u,g⟩:=cU (g.front (bT G Cf m (M.dR F)));have j:i<x.lk.length:=by have:=u.2.1;omega
 refine rA rfl (cW (f:=203) (bB g fun J h g=>aC (b:=p2) (o:=0) g rfl (aB (aA (aC (b:=m) (o:=0) g rfl (aA (aC (b:=v) (o:=0) g E (aC (b:=y) (o:=0) g rfl (bq g j fun h g=>z _ _ ?_)))))))));have g:=iJ (R:=sC G Cf) (l:=x.lk) (s:=M.dD) j g;have g:=Fg (R:=sC G Cf) (l:=x.lk) (s:=M.dD) (i:=i) (q:=q) (t:=(fX Cf i (M.dD i) n).1) j g;have e:fL Cf x M.log.length=fL Cf {x with lk:=x.lk.set i q} M.log.length:=by unfold fL;rw[List.length_set]
 rw[e] at g;exact(bK (m:=m) (x:={x with lk:=x.lk.set i q}) ((M.uQ i (fX Cf i (M.dD i) n).1).dR F) ⟨u.1,by rw[List.length_set];exact u.2.1,u.2.2⟩ g).to
end
section
theorem Uz {m:Mon} {c g x:Int} (h:(m.dropped c g x).2.1=true):m.has g:=by
 unfold Mon.dropped at h;by_cases a:m.has g;exact a;rw[aLb a] at h;cases h
set_option maxRecDepth 100000
variable {G:Bg} {h:AH} {L L':List HP} {Q:Value->AH->Prop} {Cf:bM} {m:Nat} {M:cT} {n:aJ}
theorem yw {v:Value} {l:List aJ} (a:Hs G h (H.eT v l::L)):Hs G h (H.eT v l::sp []::L):=(Hs.pack (A:=[]) a).mK
theorem Ou {a:Addr} {c:Nat} {x:aJ} (b:Hs G h (dI 9 175 (some a) c (1,x.enc)::L)):Hs G h (H.eT (.slice (some a) 1 c) [x]::L):=H.H6 (l:=[x]) rfl (by simp[eP]) b
theorem Hu (a:Hs G h L):Hs G h (H.eT (.slice none 0 0) []::L):=H.qQ a
theorem aAu {p2 g:Nat} (hC:Cf.Ok) (k:yA Cf M n) (e:Hs G h (aG p2 0 [pt m 0 0]::aG g 0 n.enc::bT G Cf m M::L)) (i:TK G Cf m M L Q (M,[sX n.core (iZ M.bY.dN n.no).1 n.no],(iZ M.bY.dN n.no).2)):Dd 156 13 [] Q [(pt p2 0 0),(pt g 0 0)] h:=by
 have j:=k.bY.len;have p:=hC.2.1;obtain⟨x,q,e⟩:=cU (e.front (bT G Cf m M));obtain⟨t,b,e⟩:=kT (e.front (fY Cf x.mb M.bY));refine bW (bB e fun s h e=>aC (b:=p2) (o:=0) e rfl (aB (aA (aC (b:=m) (o:=0) e rfl (aB (aA (aC (b:=x.mb) (o:=0) e rfl (aA (aC (b:=g) (o:=0) e rfl (xh (es:=M.bY.dN) (by omega) k.bY.own e fun h e=>?_))))))))));refine aH rfl (aH rfl (aA (aC (b:=g) (o:=0) e rfl (aQ (c:=[I (iZ M.bY.dN n.no).1,I 0]) rfl (aA (aC (b:=g) (o:=0) e rfl (aQ (c:=(sX n.core (iZ M.bY.dN n.no).1 n.no).enc) rfl (aQ (c:=(sX n.core (iZ M.bY.dN n.no).1 n.no).enc) rfl (dW (W:=9) (n:=1) (c:=1) e rfl rfl rfl fun a h e=>?_)))))))));have e:=dT (e.dF (aG x.mb 0 [pt t 0 0,I Cf.aE,gI b]) (hJ t M.bY.dN) (iW b (gF M.bY.runs)));have e:=bK (m:=m) (x:=x) M q e;have e:=Ou (e.front (dI 9 175 (some a) 1 (1,(sX n.core (iZ M.bY.dN n.no).1 n.no).enc)));refine i _ _ (sp []) h (yw e.to) fun _ F=>?_;intro h L Q e i;exact rA rfl (cW (f:=205) (i _ _ e.tail))
theorem th {q p p2 k i:Nat} {t:kO} (_:Cf.Ok) (u:n.enc[0+1]?=some (I i)) (v:(i:Int)<Cf.aE) (F:gO):aG3 G Cf m (sp [aG p 0 [pt q 0 0],aG p2 0 [pt m 0 0],aG k 0 n.enc,kQ q Cf t]) (.func (.func 207) #[] #[pt p 0 0,pt p2 0 0,pt k 0 0]) (M.dR F) ((M.Er i t).dR F):=by
 intro h L Q a y;have a:=a.un4;obtain⟨x,j,a⟩:=cU (a.front (bT G Cf m (M.dR F)));have g:i<x.lq.length:=by have:=j.2.2;omega
 refine rA rfl (cW (f:=207) (bB a fun z h a=>aC (b:=p2) (o:=0) a rfl (aB (aA (aC (b:=m) (o:=0) a rfl (aA (aC (b:=k) (o:=0) a u (aC (b:=p) (o:=0) a rfl (Rt a g fun h a=>y _ _ ?_)))))))));have a:=iJ (R:=qP Cf) (l:=x.lq) (s:=M.cG) g a;have a:=Fg (R:=qP Cf) (l:=x.lq) (s:=M.cG) (i:=i) (q:=q) (t:=t) g a;have e:fL Cf x M.log.length=fL Cf {x with lq:=x.lq.set i q} M.log.length:=by unfold fL;rw[List.length_set]
 rw[e] at a;exact(bK (m:=m) (x:={x with lq:=x.lq.set i q}) ((M.Er i t).dR F) ⟨j.1,j.2.1,by rw[List.length_set];exact j.2.2⟩ a).to
theorem aAd {q p p2 k i:Nat} {t:kO} (_:Cf.Ok) (u:n.enc[0+1]?=some (I i)) (v:(i:Int)<Cf.aE) (F:gO):aG3 G Cf m (sp [aG p 0 [pt q 0 0],aG p2 0 [pt m 0 0],aG k 0 n.enc,kQ q Cf t]) (.func (.func 209) #[] #[pt p 0 0,pt p2 0 0,pt k 0 0]) (M.dR F) ((M.Er i t).dR F):=by
 intro h L Q a y;have a:=a.un4;obtain⟨x,j,a⟩:=cU (a.front (bT G Cf m (M.dR F)));have g:i<x.lq.length:=by have:=j.2.2;omega
 refine rA rfl (cW (f:=209) (bB a fun z h a=>aC (b:=p2) (o:=0) a rfl (aB (aA (aC (b:=m) (o:=0) a rfl (aA (aC (b:=k) (o:=0) a u (aC (b:=p) (o:=0) a rfl (Rt a g fun h a=>y _ _ ?_)))))))));have a:=iJ (R:=qP Cf) (l:=x.lq) (s:=M.cG) g a;have a:=Fg (R:=qP Cf) (l:=x.lq) (s:=M.cG) (i:=i) (q:=q) (t:=t) g a;have e:fL Cf x M.log.length=fL Cf {x with lq:=x.lq.set i q} M.log.length:=by unfold fL;rw[List.length_set]
 rw[e] at a;exact(bK (m:=m) (x:={x with lq:=x.lq.set i q}) ((M.Er i t).dR F) ⟨j.1,j.2.1,by rw[List.length_set];exact j.2.2⟩ a).to
theorem np {p2 g:Nat} (hC:Cf.Ok) (B:yA Cf M n) (T:0<=n.d0/\n.d0<=1000000) (f:Hs G h (aG p2 0 [pt m 0 0]::aG g 0 n.enc::bT G Cf m M::L))
  (z:TK G Cf m M L Q (M.Er n.core.toNat ((M.cG n.core.toNat).walked Cf n.no n.d0).1,if((M.cG n.core.toNat).walked Cf n.no n.d0).2.2.1 then [] else [dL 6 n.core ((M.cG n.core.toNat).walked Cf n.no n.d0).2.1],((M.cG n.core.toNat).walked Cf n.no n.d0).2.2.2)):Dd 156 16 [] Q [(pt p2 0 0),(pt g 0 0)] h:=by
 obtain⟨i,S⟩:=Int.eq_ofNat_of_zero_le B.core.1
 have y:(i:Int)<Cf.aE:=by have:=B.core.2;omega
 have k:=B.pR
 have v:=B.bI
 have A:n.enc[0+1]?=some (I i):=by show some (I n.core)=_;rw[S]
 rw[S,Int.toNat_natCast] at z k v
 obtain⟨x,J,f⟩:=cU (f.front (bT G Cf m M))
 have j:i<x.lq.length:=by have:=J.2.2;omega
 refine bW (bB f fun U h f=>aC (b:=p2) (o:=0) f rfl (aB (aA (aC (b:=m) (o:=0) f rfl (aA (aC (b:=g) (o:=0) f A (Kl f j ?_)))))))
 have f:=iJ (R:=qP Cf) (l:=x.lq) (s:=M.cG) j f
 refine D3 (C:=Cf) (p:=x.lq.getD i 0) (s:=M.cG i) k f fun q h f=>lN (r:=U) (i:=9) (n:=11) (D:=[]) f rfl rfl fun u h f=>bH (b:=u) f rfl rfl rfl rfl fun h f=>aC (b:=u) (o:=0) f rfl (aA (aC (b:=g) (o:=0) f rfl (aA (fU (by decide) (by decide) (aC (b:=g) (o:=0) f rfl ?_)))))
 refine m9 (C:=Cf) (p:=q) (s:=M.cG i) hC k v T f fun h f=>aH rfl (aH rfl (aH rfl (cE (eO (dH (fun E=>?_) (fun E=>?_))))))
 .rw[E,aLb rfl] at z;have f:=zE (Cf:=Cf) (l:=x.lq) (s:=M.cG) (i:=i) (t:=M.cG i) j f;rw[bN] at f;have f:=bK (m:=m) (x:=x) M J f;have f:=(f.nA (aG u 0 [pt q 0 0]) (aG p2 0 [pt m 0 0]) (aG g 0 n.enc) (kQ q Cf ((M.cG i).walked Cf n.no n.d0).1)).Nx;exact z _ _ (sp [aG u 0 [pt q 0 0],aG p2 0 [pt m 0 0],aG g 0 n.enc,kQ q Cf ((M.cG i).walked Cf n.no n.d0).1]) h (Hu f.to) fun _ F=>th hC A y F
 .rw[E,aLa (by simp)] at z;have f:=uA (enc:=aJ.enc) (e:=175) f;refine bW (aA (aC (b:=g) (o:=0) f A (aQ (c:=(dL 6 i ((M.cG i).walked Cf n.no n.d0).2.1).enc) rfl (aQ (c:=(dL 6 i ((M.cG i).walked Cf n.no n.d0).2.1).enc) rfl (dW (W:=9) (n:=1) (c:=1) f rfl rfl rfl fun a h f=>?_)))));have f:=yB (enc:=aJ.enc) (x:=dL 6 i ((M.cG i).walked Cf n.no n.d0).2.1) f;refine uZ (enc:=aJ.enc) (e:=175) (l:=[]) (l2:=[dL 6 i ((M.cG i).walked Cf n.no n.d0).2.1]) (a:=none) (c:=0) (a2:=some a) (c2:=1) f (by simp) fun K O h f=>?_;have f:=zE (Cf:=Cf) (l:=x.lq) (s:=M.cG) (i:=i) (t:=M.cG i) j f;rw[bN] at f;have f:=bK (m:=m) (x:=x) M J f;have f:=(f.nA (aG u 0 [pt q 0 0]) (aG p2 0 [pt m 0 0]) (aG g 0 n.enc) (kQ q Cf ((M.cG i).walked Cf n.no n.d0).1)).Nx;have f:=f.front (ls aJ.enc 9 175 K O ([]++[dL 6 i ((M.cG i).walked Cf n.no n.d0).2.1]));unfold ls at f;have f:=H.H6 (l:=[dL 6 i ((M.cG i).walked Cf n.no n.d0).2.1]) rfl (by simp[eL,eP]) f;exact z (.slice K [dL 6 i ((M.cG i).walked Cf n.no n.d0).2.1].length O) _ (sp [aG u 0 [pt q 0 0],aG p2 0 [pt m 0 0],aG g 0 n.enc,kQ q Cf ((M.cG i).walked Cf n.no n.d0).1]) h f.to fun _ F=>th hC A y F
theorem aAx {p2 f:Nat} (hC:Cf.Ok) (y:yA Cf M n) (e:Hs G h (aG p2 0 [pt m 0 0]::aG f 0 n.enc::bT G Cf m M::L))
  (A:TK G Cf m M L Q (M.Er n.core.toNat ((M.cG n.core.toNat).drop Cf n.no).1,[dL 7 n.core n.no],((M.cG n.core.toNat).drop Cf n.no).2)):Dd 156 19 [] Q [(pt p2 0 0),(pt f 0 0)] h:=by
 obtain⟨i,z⟩:=Int.eq_ofNat_of_zero_le y.core.1
 have v:(i:Int)<Cf.aE:=by have:=y.core.2;omega
 have j:=y.pR
 have u:n.enc[0+1]?=some (I i):=by show some (I n.core)=_;rw[z]
 rw[z,Int.toNat_natCast] at A j
 obtain⟨x,B,e⟩:=cU (e.front (bT G Cf m M))
 have g:i<x.lq.length:=by have:=B.2.2;omega
 refine bW (bB e fun E h e=>aC (b:=p2) (o:=0) e rfl (aB (aA (aC (b:=m) (o:=0) e rfl (aA (aC (b:=f) (o:=0) e u (Kl e g ?_)))))))
 have e:=iJ (R:=qP Cf) (l:=x.lq) (s:=M.cG) g e
 refine D3 (C:=Cf) (p:=x.lq.getD i 0) (s:=M.cG i) j e fun q h e=>lN (r:=E) (i:=9) (n:=11) (D:=[]) e rfl rfl fun k h e=>bH (b:=k) e rfl rfl rfl rfl fun h e=>aC (b:=k) (o:=0) e rfl (aA (aC (b:=f) (o:=0) e rfl ?_))
 refine X4 (C:=Cf) (p:=q) (s:=M.cG i) j e fun _ h e=>aH rfl (aH rfl (aA (aC (b:=f) (o:=0) e u (aA (aC (b:=f) (o:=0) e rfl (aQ (c:=(dL 7 i n.no).enc) rfl (aQ (c:=(dL 7 i n.no).enc) rfl (dW (W:=9) (n:=1) (c:=1) e rfl rfl rfl fun a h e=>?_))))))))
 have e:=zE (Cf:=Cf) (l:=x.lq) (s:=M.cG) (i:=i) (t:=M.cG i) g e
 rw[bN] at e
 have e:=bK (m:=m) (x:=x) M B e
 have e:=(e.nA (aG k 0 [pt q 0 0]) (aG p2 0 [pt m 0 0]) (aG f 0 n.enc) (kQ q Cf ((M.cG i).drop Cf n.no).1)).Nx
 have e:=Ou (e.front (dI 9 175 (some a) 1 (1,(dL 7 i n.no).enc)))
 exact A _ _ (sp [aG k 0 [pt q 0 0],aG p2 0 [pt m 0 0],aG f 0 n.enc,kQ q Cf ((M.cG i).drop Cf n.no).1]) h e.to fun _ F=>aAd hC u v F
theorem Xy {p2 i:Nat} (hC:Cf.Ok) (hG:Gb G) (t:yA Cf M n) (a:Hs G h (aG p2 0 [pt m 0 0]::aG i 0 n.enc::bT G Cf m M::L))
  (j:TK G Cf m M L Q (if(M.bY.dropped Cf.aE n.no n.core).2.1 then(M.kD (M.bY.dropped Cf.aE n.no n.core).1).pZ (yQ Cf M.home n.no) else M.kD (M.bY.dropped Cf.aE n.no n.core).1,[],(M.bY.dropped Cf.aE n.no n.core).2.2)):Dd 156 21 [] Q [(pt p2 0 0),(pt i 0 0)] h:=by
 obtain⟨x,z,a⟩:=cU (a.front (bT G Cf m M))
 refine bW (aC (b:=p2) (o:=0) a rfl (aB (aA (aC (b:=m) (o:=0) a rfl (M4 (C:=Cf) (m:=M.bY) hC t.bY a fun q h a=>bP a fun u h a=>bH (b:=u) a rfl rfl rfl rfl fun h a=>aC (b:=u) (o:=0) a rfl (aA (aC (b:=i) (o:=0) a rfl (aA (aC (b:=i) (o:=0) a rfl ?_)))))))))
 refine Om (C:=Cf) (m:=M.bY) (p:=q) hC t.bY a fun h a=>aH rfl (aH rfl (bP a fun k h a=>bH (b:=k) a rfl rfl rfl rfl fun h a=>?_))
 have a:=bK (m:=m) (x:=x) M z a
 have a:=(a.cX (aG k 0 [.bool (M.bY.dropped Cf.aE n.no n.core).2.1]) (aG i 0 n.enc)).H9
 have a:=(a.nA (aG u 0 [pt q 0 0]) (aG p2 0 [pt m 0 0]) (sp [aG k 0 [.bool (M.bY.dropped Cf.aE n.no n.core).2.1],aG i 0 n.enc]) (fY Cf q (M.bY.dropped Cf.aE n.no n.core).1)).Nx
 refine j _ _ (sp [aG u 0 [pt q 0 0],aG p2 0 [pt m 0 0],sp [aG k 0 [.bool (M.bY.dropped Cf.aE n.no n.core).2.1],aG i 0 n.enc],fY Cf q (M.bY.dropped Cf.aE n.no n.core).1]) h (Hu a.to) fun _ F=>?_
 intro h L Q a j
 have a:=a.un4
 have a:=(a.front (sp [aG k 0 [.bool (M.bY.dropped Cf.aE n.no n.core).2.1],aG i 0 n.enc])).Hh
 obtain⟨x,z,a⟩:=cU (a.front (bT G Cf m (M.dR F)))
 refine rA rfl (cW (f:=211) (aC (b:=p2) (o:=0) a rfl (aC (b:=u) (o:=0) a rfl (aB (aA (bL (b:=m) (o:=0) a rfl rfl rfl rfl fun h a=>aC (b:=k) (o:=0) a rfl (dH (fun y=>?_) (fun y=>?_))))))))
 .have B:=Uz y;obtain⟨g,s,D,_⟩:=Qu t.bY hC B;have E:=t.bY.len;rw[aLb y] at j;have e:dR (fL Cf x M.log.length) (0+11) [pt q 0 0]=fL Cf {x with mb:=q} M.log.length:=rfl;rw[e] at a;have A:n.enc[0+8]?=some (I g):=by show some (I n.no)=_;rw[s]
  refine aC (b:=p2) (o:=0) a rfl (aA (aC (b:=i) (o:=0) a A ?_))
  have a:=bK (m:=m) (x:={x with mb:=q}) ((M.kD (M.bY.dropped Cf.aE n.no n.core).1).dR F) z a
  rw[s] at j a
  exact nq (Cf:=Cf) (M:=(M.kD (M.bY.dropped Cf.aE g n.core).1).dR F) hC hG (by omega) t.home a fun v h a=>j _ _ a.to
 .rw[aLa (by rw[y];simp)] at j;have e:dR (fL Cf x M.log.length) (0+11) [pt q 0 0]=fL Cf {x with mb:=q} M.log.length:=rfl;rw[e] at a;exact j _ _ (bK (m:=m) (x:={x with mb:=q}) ((M.kD (M.bY.dropped Cf.aE n.no n.core).1).dR F) z a).to
end
section
set_option maxRecDepth 100000
variable {G:Bg} {h:AH} {L L':List HP} {Q:Value->AH->Prop} {Cf:bM} {m:Nat} {M:cT} {n:aJ}
theorem s8 (hC:Cf.Ok) (hG:Gb G) (i:yA Cf M n) (e:Hs G h L) [I:Has (bT G Cf m) L M L'] (a:TK G Cf m M L' Q (M.fM Cf n)):Cl Pr K 156 [pt m 0 0,.agg ⟨n.enc⟩] h Q:=by
 refine cW (dS (I.of e) fun v h e=>dS e fun p h e=>aA (aC (b:=p) (o:=0) e rfl ?_));have e:Hs G h (aG v 0 [pt m 0 0]::aG p 0 n.enc::bT G Cf m M::L'):=e.to;have home:(n.kind=1\/n.kind=2\/n.kind=3\/n.kind=4\/n.kind=5)->Dd 156 3 [] Q [(pt v 0 0),(pt p 0 0)] h:=fun g=>by
  unfold cT.fM at a;rw[aLb g] at a;exact aAl hC hG i e a
 have cache:¬(n.kind=1\/n.kind=2\/n.kind=3\/n.kind=4\/n.kind=5)->(n.kind=8\/n.kind=9\/n.kind=10\/n.kind=11)->Dd 156 9 [] Q [(pt v 0 0),(pt p 0 0)] h:=fun E g=>by
  unfold cT.fM at a;rw[aLa E,aLb g] at a;exact wx hC hG i e a
 refine bJ (aX (fun x=>bW (bV x (home (by omega)))) (fun x=>bW ?_));refine bJ (aX (fun y=>bW (bV y (home (by omega)))) (fun y=>bW ?_));refine bJ (aX (fun z=>bW (bV z (home (by omega)))) (fun z=>bW ?_));refine bJ (aX (fun A=>bW (bV A (home (by omega)))) (fun A=>bW ?_));refine bJ (aX (fun F=>home (by omega)) (fun F=>bW ?_));refine bJ (aX (fun B=>bW (bV B (cache (by omega) (by omega)))) (fun B=>bW ?_));refine bJ (aX (fun D=>bW (bV D (cache (by omega) (by omega)))) (fun D=>bW ?_));refine bJ (aX (fun k=>bW (bV k (cache (by omega) (by omega)))) (fun k=>bW ?_));refine bJ (aX (fun s=>cache (by omega) (by omega)) (fun s=>bW ?_));unfold cT.fM at a;rw[aLa (by omega),aLa (by omega)] at a;refine bJ (aX (fun t=>?_) (fun t=>bW ?_));rw[aLb t] at a;exact aAu hC i e a;rw[aLa t] at a;refine bJ (aX (fun f=>?_) (fun f=>bW ?_));rw[aLb f] at a;exact np hC i (i.word f) e a;rw[aLa f] at a;refine bJ (aX (fun j=>?_) (fun j=>bW ?_));rw[aLb j] at a;exact aAx hC i e a;rw[aLa j] at a;refine bJ (aX (fun u=>?_) (fun u=>?_));rw[aLb u] at a;exact Xy hC hG i e a;rw[aLa u] at a;have e:Hs G h (bT G Cf m M::L'):=e.to;exact a _ _ (sp []) h (yw (Hu e)) fun q=>absurd q (by show ¬(15:Int)=0;omega)
theorem lj (_:Cf.Ok):(M.fM Cf n).2.1.length<=100:=by
 unfold cT.fM;split;unfold fF;split;simp;split;unfold lX.take;split;split<;>simp;split;split;simp;unfold lX.nJ;dsimp only;have a:= @H2;have b:= @uW;grind [Row.rest];simp;simp
 .split;have:=xw (C:=Cf) (core:=n.core) (s:=M.dD n.core.toNat) (nt:=n);dsimp only;omega
  .repeat' split
   all_goals simp
   all_goals split<;>simp
theorem Wd {d:Do} (hC:Cf.Ok) (hG:Gb G) (B:qn Cf M.kL) (J:∀n,(M.kL.take Cf d.a d.b d.c).2.2=0->(M.kL.take Cf d.a d.b d.c).2.1=n->yA Cf M n) (j:qn Cf (M.kL.take Cf d.a d.b d.c).1) (g:Hs G h L) [R:Has (bT G Cf m) L M L'] (i:∀A,Hs G A (bT G Cf m (M.sU Cf d.a d.b d.c).1::L')->Q (I (M.sU Cf d.a d.b d.c).2) A):Cl Pr K 111 [pt m 0 0,.agg ⟨d.enc⟩] h Q:=by
 unfold cT.sU at i;refine cW (dS (cs:=d.enc) (R.of g) fun z h g=>?_);obtain⟨x,s,g⟩:=cU (g.front (bT G Cf m M));refine aB (aA (aC (b:=m) (o:=0) g rfl (Zk (C:=Cf) (F:=M.kL) hC (B.X6 hC) g fun q h g=>?_)));refine aA (aC (b:=z) (o:=0) g rfl (aA (aC (b:=z) (o:=0) g rfl (aA (aC (b:=z) (o:=0) g rfl ?_)))));refine Zr (C:=Cf) (f:=q) (F:=M.kL) hC (B.X6 hC) g fun h g=>aH rfl (aH rfl (bP g fun E h g=>bH (b:=E) g rfl rfl rfl rfl fun h g=>bC (aX (fun p=>?_) (fun p=>?_))));rw[aLb p] at i;exact i _ (bK (m:=m) (x:=x) M s g).to;rw[aLa p] at i;have D:=J _ (by omega) rfl;generalize M.kL.take Cf d.a d.b d.c=tt at i g p D j;have g:=bK (m:=m) (x:=x) M s g;refine bW (aU (b:=E) (o:=0) g (by decide) (l:=tt.2.1.enc) rfl rfl (s8 (Cf:=Cf) (M:=M) (n:=tt.2.1) hC hG D g ?_));intro v S Z h g k;refine aH rfl (aH rfl (aH rfl (bC (aX (fun t=>?_) (fun t=>?_)))));dsimp only at i;rw[aLb t] at i;exact i _ g.to;dsimp only at i;rw[aLa t] at i;obtain⟨a,c,O,y⟩:=H.uu g;subst O;have g:Hs G h (vS a c (M.fM Cf tt.2.1).2.1::_):=y;refine bW ?_;refine Ge (C:=Cf) (f:=q) (F:=tt.1) (l:=(M.fM Cf tt.2.1).2.1) (a:=a) (c:=c) hC (j.X6 hC) (lj hC) hG.kin hG.lim g fun h g=>bC (aX (fun u=>?_) (fun u=>?_));rw[aLb u] at i;exact i _ g.to;rw[aLa u] at i;obtain⟨x,s,g⟩:=cU (g.front (bT G Cf m M));refine bW (aB (aA (bL (b:=m) (o:=0) g rfl rfl rfl rfl fun h g=>?_)));have e:dR (fL Cf x M.log.length) (0+12) [pt q 0 0]=fL Cf {x with fb:=q} M.log.length:=rfl;rw[e] at g;have g:=bK (m:=m) (x:={x with fb:=q}) (M.dR (tt.1.send Cf (M.fM Cf tt.2.1).2.1).1) s g;exact k (by omega) _ h _ _ (g.cX Z (bT G Cf m (M.dR (tt.1.send Cf (M.fM Cf tt.2.1).2.1).1))) fun v h g=>i _ g.to
end
section
set_option maxRecDepth 100000
variable {G:Bg} {h:AH} {L L':List HP} {Q:Value->AH->Prop} {Cf:bM} {m:Nat} {M:cT}
theorem pe {d:Do} (hC:Cf.Ok) (hG:Gb G) (E:iF Cf M.bY) (A:yD Cf M.home (2^30 - 4)) (D:qn Cf M.kL) (g:Hs G h L) [O:Has (bT G Cf m) L M L'] (i:∀z,Hs G z (bT G Cf m (M.begin Cf d.a).1::L')->Q (I (M.begin Cf d.a).2) z):Cl Pr K 112 [pt m 0 0,.agg ⟨d.enc⟩] h Q:=by
 unfold cT.begin at i;refine cW (dS (cs:=d.enc) (O.of g) fun R h g=>?_);obtain⟨x,u,g⟩:=cU (g.front (bT G Cf m M));refine aB (aA (aC (b:=m) (o:=0) g rfl (H.Np (C:=Cf) hC (G5 A (by omega)) g fun q h g=>bB g fun S h g=>aA (aC (b:=R) (o:=0) g rfl ?_))));refine aB (aA (kP (b:=m) (o:=0) g (by decide) (l:=Cf.enc) rfl rfl (aB (aA (aC (b:=m) (o:=0) g rfl (aQ (c:=Cf.enc++[pt x.mb 0 0]) rfl ?_))))));have g:=g.cX (H.gP G q Cf M.home) (fY Cf x.mb M.bY);refine H.qi (C:=Cf) (hb:=q) (H:=M.home) hC hG.lim (Rb (p:=x.mb) hC E hG.lim) A g (List.Perm.refl _) fun v h g=>aH rfl (aH rfl ?_);have B:(fun w=>Ko Cf M.bY w d.a)=M.Gh Cf d.a:=rfl;rw[B] at g ⊢;have t:=S6 (C:=Cf) (H:=M.home) (l:=d.a) (j:=M.Gh Cf d.a);generalize iC Cf M.home d.a (M.Gh Cf d.a)=r at i g t ⊢;refine bC (aX (fun s=>?_) (fun s=>?_));rw[aLb s] at i;exact i _ (bK (m:=m) (x:=x) M u g).to;dsimp only at i;rw[aLa s] at i;obtain⟨a,c,J,y⟩:=H.uu g;subst J;have g:Hs G h (vS a c r.2.1::_):=y;refine bW (aB (aA (aC (b:=m) (o:=0) g rfl ?_)));refine Ge (C:=Cf) (f:=x.fb) (F:=M.kL) (l:=r.2.1) (a:=a) (c:=c) hC (D.X6 hC) (by omega) hG.kin hG.lim g fun h g=>bC (aX (fun k=>?_) (fun k=>?_));rw[aLb k] at i;rw[F9 k] at g;exact i _ (bK (m:=m) (x:=x) M u g).to;rw[aLa k] at i;refine bW (aB (aA (bL (b:=m) (o:=0) g rfl rfl rfl rfl fun h g=>i _ ?_)));have e:dR (fL Cf x M.log.length) (0+10) [pt q 0 0]=fL Cf {x with hb:=q} M.log.length:=rfl;rw[e] at g;exact(bK (m:=m) (x:={x with hb:=q}) ((M.dR (gO.send Cf M.kL r.2.1).1).pZ r.1) u g).to
abbrev sdX (G:Bg) (Cf:bM) (m p2 a:Nat) (M:cT) (b:Bool) (e:Nat->Value) (d l:Nat) (st:LoopState×Option Code) (pr:Prop):HP:=sp [Cz pr,pP Pr 57 (pM 218) 29 e d l st,sp [aG p2 0 [pt m 0 0],aG a 0 [.bool b]],bT G Cf m M]
theorem m8 {g:Nat} (hC:Cf.Ok) (hG:Gb G) (U:(g:Int)<Cf.aS) (W:yD Cf M.home (2^30)) (a:Hs G h L) [mm:Has (bT G Cf m) L M L'] (s:∀D,Hs G D (bT G Cf m M::L')->Q (.bool (M.hU Cf g)) D):Cl Pr K 57 [pt m 0 0,I g] h Q:=by
 refine cW (dS (mm.of a) fun i h a=>?_);obtain⟨x,A,a⟩:=cU (a.front (bT G Cf m M));refine aC (b:=i) (o:=0) a rfl (aB (aA (aC (b:=m) (o:=0) a rfl (Mh (C:=Cf) (m:=M.bY) a fun h a=>bJ (bP a fun f h a=>bH (b:=f) a rfl rfl rfl rfl fun h a=>?_)))));generalize S:decide (M.bY.phase g=2)=b at a;refine aC (b:=i) (o:=0) a rfl (aB (aA (kP (b:=m) (o:=0) a (by decide) (l:=Cf.enc) rfl rfl (El (C:=Cf) a fun O R h a=>?_))));have a:=bK (m:=m) (x:=x) M A a;refine oY a fun d h a=>?_;intro e T;refine tZ a fun l h a=>A8 rfl ?_;have a:Hs G h (sp [aG O 0 Cf.enc,aG R 0 [I g]]::sdX G Cf m i f M b e d l (.ready,none) (∀l∈([]:List Nat),¬fH Cf M.home l>0)::mk d ()::L'):=by
  have a:=(a.cX (aG i 0 [pt m 0 0]) (aG f 0 [.bool b])).H9;have a:=a.dF (pP Pr 57 (pM 218) 29 e d l (.ready,none)) (sp [aG i 0 [pt m 0 0],aG f 0 [.bool b]]) (bT G Cf m M);have a:=Hs.Nx (Hs.To (p:=∀l∈([]:List Nat),¬fH Cf M.home l>0) (by simp) a);exact a.to
 refine(He (C:=Cf) hC U (p:=O) (q:=R) hG.lim).fold (X:=fun done=>sdX G Cf m i f M b e d l (.ready,none) (∀l∈done,¬fH Cf M.home l>0)) (Z:=fun _ y=>sdX G Cf m i f M false e d l (.done,some (.exit 0)) (fH Cf M.home y>0/\(y=g*2\/y=g*2+1))) a ?_ ?_ ?_
 .intro done y h N J a;obtain⟨j,a⟩:=iG a;have a:=a.Ex;have Y:y=g*2\/y=g*2+1:=by
   obtain⟨ys,B⟩:=J;have:y∈[g*2,g*2+1]:=by rw[<-B];simp
   simpa using this
  have a:=(a.front (sp [aG i 0 [pt m 0 0],aG f 0 [.bool b]])).Hh;obtain⟨x,A,a⟩:=cU (a.front (bT G Cf m M));refine rW (A7 a) T (lU a fun h a=>aC (b:=i) (o:=0) a rfl (aB (aA (aC (b:=m) (o:=0) a rfl (H.R0 (C:=Cf) (H:=M.home) W a fun h a=>?_)))));have a:=bK (m:=m) (x:=x) M A a;refine mS (aX (fun t=>?_) (fun t=>?_));refine bH (b:=f) a rfl rfl rfl rfl fun h a=>mB a fun h a=> .inr ⟨rfl,?_⟩;have a:=(a.cX (aG i 0 [pt m 0 0]) (aG f 0 [.bool false])).H9;have a:=a.dF (pP Pr 57 (pM 218) 29 e d l (.done,some (.exit 0))) (sp [aG i 0 [pt m 0 0],aG f 0 [.bool false]]) (bT G Cf m M);exact(Hs.Nx (Hs.To (p:=fH Cf M.home y>0/\(y=g*2\/y=g*2+1)) ⟨t,Y⟩ a)).to
  .refine mB a fun h a=> .inl ⟨rfl,?_⟩;have a:=(a.cX (aG i 0 [pt m 0 0]) (aG f 0 [.bool b])).H9;have a:=a.dF (pP Pr 57 (pM 218) 29 e d l (.ready,none)) (sp [aG i 0 [pt m 0 0],aG f 0 [.bool b]]) (bT G Cf m M);refine(Hs.Nx (Hs.To (p:=∀l∈done++[y],¬fH Cf M.home l>0) ?_ a)).to;intro z k;rcases List.mem_append.1 k with k|k;exact j z k;rw[List.mem_singleton.1 k];exact t
 intro v h a;obtain⟨j,a⟩:=iG (a.front (sdX G Cf m i f M b e d l (.ready,none) (∀l∈[g*2,g*2+1],¬fH Cf M.home l>0)));have a:=a.Ex;have u:M.hU Cf g=b:=by
  have E:=j (g*2) (by simp);have F:=j (g*2+1) (by simp);rw[<-S];unfold cT.hU;simp only[Int.natCast_mul,Int.natCast_add] at E F;rw[decide_eq_false (p:=fH Cf M.home (g*2)>0) E,decide_eq_false (p:=fH Cf M.home (g*2+1)>0) F];simp
 rw[u] at s;have a:=(a.front (sp [aG i 0 [pt m 0 0],aG f 0 [.bool b]])).Hh;exact uG a fun h a=>uE (aC (b:=f) (o:=0) a rfl (oU a fun h a=>lZ (s _ a.to)))
 .intro done y v h J a;obtain⟨j,a⟩:=iG (a.front (sdX G Cf m i f M false e d l (.done,some (.exit 0)) (fH Cf M.home y>0/\(y=g*2\/y=g*2+1))));have a:=a.Ex;have u:M.hU Cf g=false:=by
   unfold cT.hU;rcases j.2 with e|e;have:=j.1;rw[e] at this;simp only[Int.natCast_mul] at this;rw[decide_eq_true (p:=fH Cf M.home (g*2)>0) this];simp;have:=j.1;rw[e] at this;simp only[Int.natCast_mul,Int.natCast_add] at this;rw[decide_eq_true (p:=fH Cf M.home (g*2+1)>0) this];simp
  rw[u] at s;have a:=(a.front (sp [aG i 0 [pt m 0 0],aG f 0 [.bool false]])).Hh;exact Ml a fun h a=>Sr rfl (aC (b:=f) (o:=0) a rfl (oU a fun h a=>lZ (s _ a.to)))
end
section
theorem Zb {H:kN} {g:Nat}:mY H g=fun i=>((H i).1,jO (fun i=>(H i).2) g i):=by
 funext i;unfold mY jO aR;by_cases a:i=g*2+1;subst a;simp;by_cases b:i=g*2;subst b;simp;rw[aLa (by omega),aLa a,aLa b]
theorem O8 {m:Mon} {g:Int} {u:Mc.jG} (h:(m.over g).2.1=some u):m.run g=some u/\(m.over g).2.2=0/\m.has g:=by
 unfold Mon.over at h ⊢;by_cases a:m.has g;rw[aLa (by simpa using a)] at h ⊢;cases hr:m.run g with
 |none=>rw[hr] at h;cases h
 |some r=>
  rw[hr] at h;dsimp only at h ⊢;split at h;cases h;rename_i b;cases h;rw[aLa b];exact⟨rfl,rfl,a⟩
 rw[aLb a] at h;cases h
theorem P7 {m:Mon} {g:Int} (h:(m.over g).2.1=none):(m.over g).1=m/\(m.over g).2.2≠0:=by
 unfold Mon.over at h ⊢;split;exact⟨rfl,by dsimp only;omega⟩;rename_i a;rw[aLa a] at h;split;exact⟨rfl,by dsimp only;omega⟩;rename_i r e;rw[e] at h;dsimp only at h;split;exact⟨rfl,by dsimp only;omega⟩;rename_i b;rw[aLa b] at h;cases h
set_option maxRecDepth 100000
variable {G:Bg} {h:AH} {L L':List HP} {Q:Value->AH->Prop} {Cf:bM} {m:Nat} {M:cT}
theorem Yk {d:Do} (hC:Cf.Ok) (hG:Gb G) (U:iF Cf M.bY) (Y:yD Cf M.home (2^30)) (v:∀i:Nat,(i:Int)<Cf.aE->(M.aD i).Ok) (q:M.log.length<=2^30) (e:Hs G h L) [Z:Has (bT G Cf m) L M L'] (f:∀O,Hs G O (bT G Cf m (M.finish Cf d.a).1::L')->Q (I (M.finish Cf d.a).2) O):Cl Pr K 113 [pt m 0 0,.agg ⟨d.enc⟩] h Q:=by
 unfold cT.finish at f;refine cW (dS (cs:=d.enc) (Z.of e) fun z h e=>bB e fun rr h e=>?_);obtain⟨x,s,e⟩:=cU (e.front (bT G Cf m M));refine aA (aC (b:=z) (o:=0) e rfl (aZ (aX (fun R=>?_) (fun R=>?_))));rw[aLb (by omega)] at f;exact f _ (bK (m:=m) (x:=x) M s e).to;refine aA (aC (b:=z) (o:=0) e rfl (aB (aA (aA (aC (b:=m) (o:=0) e rfl (dO (aX (fun S=>?_) (fun S=>?_))))))));rw[aLb (by omega)] at f;exact f _ (bK (m:=m) (x:=x) M s e).to;rw[aLa (by omega)] at f;obtain⟨w,a,b,c⟩:=d;dsimp only at R S f;obtain⟨g,rfl⟩:=Int.eq_ofNat_of_zero_le (show 0<=a by omega);have e:=bK (m:=m) (x:=x) M s e;refine bW (aA (aC (b:=z) (o:=0) e rfl (m8 (Cf:=Cf) (M:=M) hC hG (by omega) Y e fun h e=>cE (eO (dH (fun B=>?_) (fun B=>?_))))));rotate_left;rw[aLb B] at f;exact f _ e.to;rw[aLa (by rw[B];simp)] at f;obtain⟨x,s,e⟩:=cU (e.front (bT G Cf m M));refine bW (bB e fun r2 h e=>aB (aA (aC (b:=m) (o:=0) e rfl (aA (aC (b:=z) (o:=0) e rfl ?_)))));refine Zn (C:=Cf) (m:=M.bY) (p:=x.mb) hC U e fun h e=>aH rfl (aH rfl (lN (r:=r2) (i:=10) (n:=13) (D:=[]) e rfl rfl fun y h e=>bH (b:=y) e rfl rfl rfl rfl fun h e=>cY (aH rfl jH) (bC (aX (fun E=>?_) (fun E=>?_)))));cases hu:(M.bY.over (g:Int)).2.1 with
 |some u=>exact absurd (O8 hu).2.1 E
 |none=>
  rw[hu] at f;dsimp only at f;rw[(P7 hu).1] at e;exact f _ (bK (m:=m) (x:=x) M s e).to
 cases hu:(M.bY.over (g:Int)).2.1 with
 |none=>exact absurd (P7 hu).2 E
 |some u=>
 obtain⟨u1,_,u2⟩:=O8 hu;obtain⟨o1,W,o3,o4,o5⟩:=U.run g u (vc u1);rw[hu] at f e;dsimp only at f;simp only[Option.getD_some] at e;obtain⟨i,T⟩:=Int.eq_ofNat_of_zero_le o4.1;have k:(i:Int)<Cf.aE:=by omega
 have J:(nQ u)[0+0+0]?=some (I i):=by show some (I u.core)=_;rw[T]
 have X:(nQ u)[0+0+3]?=some (I g):=by show some (I u.bI)=_;rw[W]
 rw[show u.core.toNat=i by rw[T];rfl,W] at f;refine bW (aA (aC (b:=y) (o:=0) e rfl (dH (fun F=>?_) (fun F=>?_))));rw[aLb F] at f;obtain⟨t,b,o,j,e⟩:=H.rS (e.front (H.gP G x.hb Cf M.home));refine bW (bB e fun r3 h e=>aB (aA (aC (b:=m) (o:=0) e rfl (aB (aA (aC (b:=x.hb) (o:=0) e rfl (aA (aA (aC (b:=y) (o:=0) e X ?_)))))))));refine A.u6 (C:=Cf) (mb:=t) (g:=g) (mem:=fun i=>(M.home i).2) hC hG.lim e (by omega) fun _ h e=>aA (aA (aC (b:=y) (o:=0) e J ?_));have e:=H.tD (H:=mY M.home g) (hb:=x.hb) (C:=Cf) (mb:=t) (b:=b) (o:=o) (cap:=j) (by rw[Zb];exact e.nA (aG x.hb 0 (H.mM t Cf b o j)) (fP G Cf.lines t Cf (jO (fun i=>(M.home i).2) g)) (hole G 25 247 (some ⟨b,o,none⟩) j Cf.lines b o) (dK Cf.lines fun i=>H.eR b (o+i*25) (M.home i).1));have e:=bK (m:=m) (x:=x) ((M.kD (M.bY.over g).1).pZ (mY M.home g)) s e;exact nU (Cf:=Cf) (M:=(M.kD (M.bY.over g).1).pZ (mY M.home g)) k (v i k) q e fun h e=>f _ e.to;rw[aLa (by rw[F];simp)] at f;have e:=bK (m:=m) (x:=x) (M.kD (M.bY.over g).1) s e;exact aA (aA (aC (b:=y) (o:=0) e J (nU (Cf:=Cf) (M:=M.kD (M.bY.over g).1) k (v i k) q e fun h e=>f _ e.to)))
end
section
def Ei:List Value:=[.func (.func 110) #[] #[],.func (.func 111) #[] #[],.func (.func 112) #[] #[],.func (.func 113) #[] #[]]
set_option maxRecDepth 100000
variable {G:Bg} {h:AH} {L L':List HP} {Q:Value->AH->Prop} {Cf:bM} {m N:Nat} {M:cT}
theorem ub (a:Hs G h L) (f:∀e,Hs G e L->Q (.agg ⟨Ei⟩) e):Cl Pr K 53 [] h Q:=
 cW (bP a fun p h a=>aQ (c:=Ei) rfl (bH (b:=p) a rfl rfl rfl rfl fun h a=>aU (b:=p) (o:=0) a (by decide) (l:=Ei) rfl rfl (f _ a.tail)))
theorem aBw {d:Do} {f:Value} (hC:Cf.Ok) (hG:Gb G) (a:eI Cf N M) (k:N<=2^29) (q:0<=d.nY/\d.nY<=3) (o:Ei[d.nY.toNat]?=some f) (g:Hs G h L) [v:Has (bT G Cf m) L M L'] (b:∀j,Hs G j (bT G Cf m (M.Ey Cf d).1::L')->Q (I (M.Ey Cf d).2) j):Bc Pr K f [pt m 0 0,.agg ⟨d.enc⟩] h Q:=by
 unfold cT.Ey at b;have q:d.nY=0\/d.nY=1\/d.nY=2\/d.nY=3:=by omega
 have p:=a.log;rcases q with e|e|e|e;all_goals
  rw[e] at o
  cases o
 rw[aLb e] at b;exact rA rfl (qj hC hG (fun i t=>a.step hC k t) g b);rw[aLa (by omega),aLb e] at b;exact rA rfl (Wd hC hG a.kL.len (fun n s u=>by rw[<-u];exact a.take hC k (Nj a.kL s).1) (Tw a.kL).len g b);rw[aLa (by omega),aLa (by omega),aLb e] at b;exact rA rfl (pe hC hG a.bY (a.home.h (by omega)) a.kL.len g b);rw[aLa (by omega),aLa (by omega),aLa (by omega),aLb e] at b;exact rA rfl (Yk hC hG a.bY (a.home.h (by omega)) a.Ho (by omega) g b)
theorem y3 {l:List Do} {i:Nat} {d:Do} (h:l[i]?=some d):(l.map Do.enc)[i]?=some d.enc:=by rw[List.getElem?_map,h];rfl
theorem aEc {l:List Do} {e:TypeId} {v:Value} (hC:Cf.Ok) (hG:Gb G) (t:eI Cf N M) (D:N+2*l.length<=2^29) (g:Hs G h (zX G 4 e v (l.map Do.enc)::bT G Cf m M::L)) (j:∀s,Hs G s (zX G 4 e v (l.map Do.enc)::bT G Cf m (M.xA Cf l 0).1::L)->Q (.tuple ⟨[I (M.xA Cf l 0).2.1,I (M.xA Cf l 0).2.2]⟩) s):Cl Pr K 15 [pt m 0 0,v] h Q:=by
 obtain⟨a,c,F⟩:=vY g;rw[List.length_map] at F;have q:∀{k:Value->Prop},k (I l.length)->bE (lJ v) k:=fun j=>by rw[F];exact cC j
 refine cW (dG (bZ (bW (ub g fun h g=>bP g fun p h g=>bH (b:=p) g rfl rfl rfl rfl fun h g=>q ?_))));have loop:∀(f i N:Nat) (M:cT) (h:AH),i+f=l.length->eI Cf N M->N+2*f<=2^29->(∀s,Hs G s (zX G 4 e v (l.map Do.enc)::bT G Cf m (M.xA Cf (l.drop i) i).1::L)->Q (.tuple ⟨[I (M.xA Cf (l.drop i) i).2.1,I (M.xA Cf (l.drop i) i).2.2]⟩) s)->
   Hs G h (zX G 4 e v (l.map Do.enc)::aG p 0 Ei::bT G Cf m M::L)->Dd 15 2 [] Q [(pt m 0 0),v,(pt p 0 0),v,(I l.length),(I i)] h:=by
  intro f
  induction f with
  |zero=>
   intro i N M h S t D j g
   rw[List.drop_of_length_le (by omega)] at j
   unfold cT.xA at j
   have B:i=l.length:=by omega
   subst B
   exact bW (aZ (aT (by omega) (q (j _ g.to))))
  |succ f T=>
   intro i N M h S t D j g
   obtain⟨d,R,A⟩:=nW (l:=l) (i:=i) (by omega)
   rw[A] at j
   unfold cT.xA at j
   refine bW (aZ (bV (by omega) (bW (aD7 g (by decide) (y3 R) (bP g fun x h g=>bH (b:=x) g rfl rfl rfl rfl fun h g=>aA (aC (b:=x) (o:=0) g rfl (aZ (aX (fun J=>?_) (fun J=>?_)))))))))
   .have y:M.Ey Cf d=(M,1):=by unfold cT.Ey;rw[aLa (by omega),aLa (by omega),aLa (by omega),aLa (by omega)]
    rw[y,aLb (show(M,(1:Int)).2≠0 by show(1:Int)≠0;omega)] at j
    exact j _ g.to
   refine aA (aC (b:=x) (o:=0) g rfl (mS (aX (fun O=>?_) (fun O=>?_))))
   .have y:M.Ey Cf d=(M,1):=by unfold cT.Ey;rw[aLa (by omega),aLa (by omega),aLa (by omega),aLa (by omega)]
    rw[y,aLb (show(M,(1:Int)).2≠0 by show(1:Int)≠0;omega)] at j
    exact j _ g.to
   have u:d.nY.toNat<4:=by omega
   have E:Ei[d.nY.toNat]?=some (Ei[d.nY.toNat]'u):=List.getElem?_eq_getElem u
   refine bW (bB g fun U h g=>aA (aC (b:=x) (o:=0) g rfl (fU (by omega) (by omega) (aC (b:=p) (o:=0) g (by simpa using E) (aU (b:=x) (o:=0) g (by decide) (l:=d.enc) rfl rfl ?_)))))
   refine aBw hC hG t (by omega) (by omega) E g fun h g=>bC (aX (fun z=>?_) (fun z=>?_))
   .rw[aLb z] at j;exact j _ g.to
   .rw[aLa z] at j;refine bW (bQ (by omega) ?_);exact T (i+1) (N+2) _ h (by omega) (aCm t hC) (by omega) j g.to
 exact loop l.length 0 N M h (by omega) t (by omega) (by simpa using j) g.to
end
end Go.Proofs.YtajjljbmfdboaaaGreatDoor
namespace Go.Proofs.YtajjljbmfdboaaaGreatDoor.A
open Go Go.Ab Go.Hm Go.At Go.Is
section
set_option maxRecDepth 100000
variable {G:Bg} {h:AH} {L L':List HP} {Q:Value->AH->Prop}
abbrev zS:List Value:=[I 0,I 0,I 0,I 0,I 0,I 0,.bool false,.slice none 0 0]
theorem Yp {B p b o cap E c mb:Nat} {a:Option Addr} {C:bM} {F J:Value} {y:List Value} {ps:List (List Ins)} {ws:List Int} (hB:B<=4) (Z:ps.length=B) (α:ws.length=B) (X:∀p∈ps,p.length<=32)
  (hv:y.length=ps.length) (W:uU G 1 F (y.map fun x=>[x]).length (fun i=>(y.map fun x=>[x]).getD i [])) (O:∀(i:Nat) (v:Value) (p:List Ins),y[i]?=some v->ps[i]?=some p->Vd G v p) (hw:I0 G J ws)
  (T:∀D,Hs G D (ve p C (.slice (some ⟨b,o,none⟩) B cap) a E c mb::dK B (fun i=>zI b (o+i*8) (sN (ps.getD i []) (ws.getD i 0)))::L)->Q (.tuple ⟨[pt p 0 0,I 0]⟩) D):
  ∀(r i:Nat) (h:AH),i+r=B->Hs G h (ve p C (.slice (some ⟨b,o,none⟩) B cap) a E c mb::dK B (fun j=>if j<i then zI b (o+j*8) (sN (ps.getD j []) (ws.getD j 0)) else aG b (o+j*8) zS)::L)->
  Dd 32 13 [] Q [F,J,(pt p 0 0),(I B),(I i)] h:=by
 intro r
 induction r with
 |zero=>
  intro i h k f
  obtain rfl:i=B:=by omega
  refine bW (aZ (aT (by omega) (T _ ?_)))
  exact(tF (g:=fun j=>zI b (o+j*8) (sN (ps.getD j []) (ws.getD j 0))) (fun j S=>by rw[aLb S]) f.mK).mK
 |succ r ih=>
  intro i h R f
  have k:i<B:=by omega
  obtain⟨pp,q,_⟩:=oD (l:=ps) (i:=i) (by omega)
  obtain⟨v,t,_⟩:=oD (l:=y) (i:=i) (by omega)
  obtain⟨w,u,_⟩:=oD (l:=ws) (i:=i) (by omega)
  have Y:pp.length<=32:=X pp (List.mem_of_getElem? q)
  have f:=(f.front (dK B fun j=>if j<i then zI b (o+j*8) (sN (ps.getD j []) (ws.getD j 0)) else aG b (o+j*8) zS)).mW i k
  simp only[Nat.lt_irrefl,if_false] at f
  refine bW (aZ (bV (by omega) (bW (aB (aA (aC (b:=p) (o:=0) f rfl (dV k ?_)))))))
  refine vZ (Ak (e:=3) (by simp) W f) (x:=[v]) (by simp[t]) rfl ?_
  refine aBf (by rw[Mt];omega) (by rw[O0];exact Y9 _) (I9 (O i v pp t q) f) fun z A h f=>?_
  rw[Mt,O0] at f
  rw[Mt]
  refine aB (aA (bL (b:=b) (o:=o+i*8) f rfl rfl rfl rfl fun h f=>?_))
  refine vZ (oQ hw f) (x:=[I w]) (by simp[yT,u]) rfl ?_
  refine aB (aA (aA (bL (b:=b) (o:=o+i*8) f rfl rfl rfl rfl fun h f=>?_)))
  have f:=f.sg (b:=b) (o:=o+i*8) (c:=(⟨fun _=>0,0,w,false,pp⟩:aK).core++[.slice z pp.length A]) rfl
  refine Jp (s:=⟨fun _=>0,0,w,false,pp⟩) (a:=z) (c:=A) (by omega) (f.cX (aG b (o+i*8) ((⟨fun _=>0,0,w,false,pp⟩:aK).core++[.slice z pp.length A])) (dI 4 86 z A (pp.length,Al pp))) fun h f=>bQ (by omega) ?_
  refine ih (i+1) h (by omega) ?_
  have f:=Y0 (b:=b) (o:=o+i*8) (s:=(⟨fun _=>0,0,w,false,pp⟩:aK).iO 0) f
  have e:(⟨fun _=>0,0,w,false,pp⟩:aK).iO 0=sN (ps.getD i []) (ws.getD i 0):=by
   rw[List.getD_eq_getElem?_getD,List.getD_eq_getElem?_getD,q,u];rfl
  rw[e] at f
  have K:zI b (o+i*8) (sN (ps.getD i []) (ws.getD i 0))=(fun j=>if j<i+1 then zI b (o+j*8) (sN (ps.getD j []) (ws.getD j 0)) else aG b (o+j*8) zS) i:=by simp only[Nat.lt_succ_self,if_true]
  rw[K] at f
  have f:=f.qA (n:=B) (i:=i) (fun j=>if j<i then zI b (o+j*8) (sN (ps.getD j []) (ws.getD j 0)) else aG b (o+j*8) zS) (fun j=>if j<i+1 then zI b (o+j*8) (sN (ps.getD j []) (ws.getD j 0)) else aG b (o+j*8) zS) k (fun j _ U=>by
   have:(j<i+1)=(j<i):=propext ⟨fun h=>by omega,fun h=>by omega⟩;simp only[this])
  exact f.to
theorem Ac:∀{ps:List (List Ins)},uC ps=0->∀p∈ps,(lF p).2=0
 |[],_,p,a=>by simp at a
 |q::l,h,p,a=>by
  rw[uC] at h;split at h;rename_i b;exact absurd h b;rename_i b;rcases List.mem_cons.1 a with rfl|a;omega;exact Ac h p a
theorem Pj {p:List Ins} (h:(lF p).2=0):p.length<=32:=by
 unfold lF at h;split at h;cases h;omega
theorem aFy {C:bM} {T U ov vv:Value} {ps:List (List Ins)} {ws os vs:List Int} (R:ps.length<=1000/\ws.length<1000/\os.length<1000) (O:Ob G 0 fV) (hg:Ob G 1 wR) (ho:jd G T U ov vv ps ws os vs) (f:Hs G h L)
  (q:Cw C ps ws os vs≠0->∀j,Hs G j L->Q (.tuple ⟨[.pointer none,I (Cw C ps ws os vs)]⟩) j)
  (z:Cw C ps ws os vs=0->∀p j,Hs G j (aI6 G p (Xf C ps ws os vs)::L)->Q (.tuple ⟨[pt p 0 0,I 0]⟩) j):Cl Pr K 32 [.agg ⟨C.enc⟩,T,U,ov,vv] h Q:=by
 obtain⟨⟨vi,S,x,E⟩,y,v,F⟩:=ho
 have lp:∀{k:Value->Prop},k (I ps.length)->bE (lJ T) k:=fun u=>sY x (by simpa [S] using u)
 have lw:∀{k:Value->Prop},k (I ws.length)->bE (lJ U) k:=fun u=>sY y (by simpa [rD] using u)
 have lo:∀{k:Value->Prop},k (I os.length)->bE (lJ ov) k:=fun u=>sY v (by simpa [rD] using u)
 have X:∀{k:Value->Prop},k (I vs.length)->bE (lJ vv) k:=fun u=>sY F (by simpa [rD] using u)
 unfold Cw at q z
 refine cW (dS f fun s h f=>aU f (by decide) (l:=C.enc) rfl rfl (nF O f fun h f=>?_))
 by_cases hC:C.Ok
 rotate_left
 .rw[aLb hC] at q;rw[aLa hC];exact bC (bV (by omega) (q (by omega) _ f.tail))
 rw[aLa (by simpa using hC)] at q z
 rw[aLb hC]
 have β:=bM.gK hC
 have J:=bM.bk hC
 have Z:C.aE<=4/\1<=C.aE:=⟨hC.1.2,hC.1.1⟩
 have α:C.aS<=16:=hC.2.1.2
 have bad:((ps.length:Int)≠C.aE\/(ws.length:Int)≠C.aE\/(os.length:Int)≠C.aS\/vs.length≠C.lines*2)->∀j,Hs G j (aG s 0 C.enc::L)->Q (.tuple ⟨[.pointer none,I 1]⟩) j:=fun J j f=>by
  rw[aLb J] at q;exact q (by omega) _ f.tail
 refine bC (aT (by omega) (bW (lp (aA (aC (b:=s) (o:=0) f rfl (bC (aX (fun g=>bad (.inl g) _ f) (fun g1=>lw (aA (aC (b:=s) (o:=0) f rfl (bC (aX (fun g=>bad (.inr (.inl g)) _ f) (fun g2=>lo (aA (aC (b:=s) (o:=0) f rfl (bC (aX (fun g=>bad (.inr (.inr (.inl g))) _ f) (fun g3=>X (aU (b:=s) (o:=0) f (by decide) (l:=C.enc) rfl rfl (U5 hC O f fun h f=>bC (aX (fun g=>bad (.inr (.inr (.inr (by omega)))) _ f) (fun g4=>?_))))))))))))))))))))))
 clear bad
 rw[aLa (by omega)] at q z
 refine bW (lp (bf (_C:=C) S x E hg R.1 (fun e h f=>?_) (fun e h f=>?_) ps.length 0 h (by omega) rfl f))
 .rw[aLb e] at q;exact q e _ f.tail
 rw[aLa (by simpa using e)] at q z
 have t:¬(within 0 3 ws=true/\within 0 4 os=true)->∀j,Hs G j (aG s 0 C.enc::L)->Q (.tuple ⟨[.pointer none,I 10]⟩) j:=fun J j f=>by
  rw[aLb J] at q;exact q (by omega) _ f.tail
 refine bW (Hi (l:=ws) R.2.1 (oQ y f) fun h f=>cE (eO (dH (fun g1=>?_) (fun g1=>t (by simp[g1]) _ f.tail))))
 refine Hi (l:=os) R.2.2 (oQ v f.tail) fun h f=>cE (eO (dH (fun g2=>?_) (fun g2=>t (by simp[g2]) _ f.tail)))
 clear t
 rw[aLa (by simp[g1,g2])] at q z
 have f:=f.tail
 refine bW (aU (b:=s) (o:=0) f (by decide) (l:=C.enc) rfl rfl (Qg hC O f fun A h f=>aH rfl (aH rfl (bC (aT (by omega) (bW (X ?_)))))))
 refine Zf (L:=aG s 0 C.enc::L) hC F O (by omega) (fun h f=>?_) vs.length 0 nE h (by omega) rfl f
 refine bW (bB f fun rv h f=>aU (b:=s) (o:=0) f (by decide) (l:=C.enc) rfl rfl (aA (aC (b:=s) (o:=0) f rfl (Ri (by omega) (by omega) (by omega) ?_))))
 dsimp only
 refine jZ f rfl rfl ?_ rfl ?_ ?_
 .rw[gT,rL (W:=8) (fun _=>rfl)]
 .rw[gT];exact qR (fun _=>rfl) _
 intro a h f
 obtain⟨b,o,Y,f⟩:=Hs.Ku (W:=8) rfl (by omega) f
 cases Y
 refine aC7 (by rw[rD];omega) (by rw[wK];exact Lw _) (oQ v f) fun D c2 h f=>?_
 rw[rD,wK] at f
 rw[rD]
 refine aQ (c:=C.enc++[.slice (some ⟨b,o,none⟩) C.aE.toNat C.aE.toNat,.slice D os.length c2,pt A 0 0]) rfl (Am f rfl rfl fun p h f=>?_)
 refine cY (aU (b:=s) (o:=0) f (by decide) (l:=C.enc) rfl rfl (qV (by simp[bM.enc,jH]))) (cY (aA dJ) (cY (aC (b:=s) (o:=0) f rfl jH) (cY dJ (aB (aA (aC (b:=p) (o:=0) f rfl (cC ?_)))))))
 have f:=f.cX (ve p C (.slice (some ⟨b,o,none⟩) C.aE.toNat C.aE.toNat) D os.length c2 A) (dK C.aE.toNat fun i=>aG b (o+i*8) zS)
 refine Yp (B:=C.aE.toNat) (b:=b) (o:=o) (C:=C) (ps:=ps) (ws:=ws) (by omega) (by omega) (by omega) (fun p hp=>Pj (Ac e p hp)) S x E y ?_ C.aE.toNat 0 h (by omega) (by simpa using f)
 intro h f
 refine z rfl p _ ?_
 have f:=mq (b:=b) (o:=o) (cap:=C.aE.toNat) (a:=D) (c:=c2) (mb:=A) (m:=Xf C ps ws os vs) ((f.nA (ve p C (.slice (some ⟨b,o,none⟩) C.aE.toNat C.aE.toNat) D os.length c2 A) (dI 1 3 D c2 (os.length,os.map I)) (fP G C.lines A C (words nE vs 0)) (hole G 8 213 (some ⟨b,o,none⟩) C.aE.toNat C.aE.toNat b o)).aEk (dK C.aE.toNat fun i=>zI b (o+i*8) (sN (ps.getD i []) (ws.getD i 0))))
 exact f.to
end
end Go.Proofs.YtajjljbmfdboaaaGreatDoor.A
namespace Go.Proofs.YtajjljbmfdboaaaGreatDoor
open Go Go.Ab Go.Hm Go.At Go.Mc Go.Ct Go.Nt Go.Is
section
def Te (C:bM) (a b ov vv:Value):List Value:=C.enc++[a,b,ov,vv]
def Oj (ps:List (List Ins)) (ws:List Int) (i:Nat):aK:=sN (ps.getD i []) (ws.getD i 0)
set_option maxRecDepth 100000
variable {G:Bg} {h:AH} {L L':List HP} {Q:Value->AH->Prop} {Cf:bM} {m N:Nat} {M:cT}
def mkE (C:bM) (a1 a2 a3:Option Addr) (n a c2 c3:Nat):List Value:=C.enc++[.slice a1 n a,.slice a2 n c2,.slice a3 n c3,.pointer none,.pointer none,.pointer none,.slice none 0 0]
theorem Jm {e:TypeId} {a a2:Option Addr} {c c2 q:Nat} {l:List Nat} {k:Value×AH->Prop} {N:List HP} (hb:l.length<=100) (b:Hs G h L) [t:Has (ls pE 1 e a c) L l L'] [s:dX (dI 1 e a2 c2 (1,[pt q 0 0])) L' N]
  (p:∀f g o,Hs G o (ls pE 1 e f g (l++[q])::N)->k (.slice f (l.length+1) g,o)):bE (kI 1 8 e h (.slice a l.length c) (.slice a2 1 c2)) k:=by
 have b:=t.of b
 have i:Hs G h (dI 1 e a2 c2 (1,[pt q 0 0])::ls pE 1 e a c l::N):=(b.perm (s.perm.cons _)).mK
 have j:=(yB (enc:=pE) (x:=q) i).mK
 have:=uZ (enc:=pE) (e:=e) (l:=l) (l2:=[q]) (a:=a) (c:=c) (a2:=a2) (c2:=c2) (bytes:=8) (k:=k) j (by simp;omega) fun f g h b=>by
  have:=p f g h b.mK.tail;rw[List.length_append,List.length_singleton];exact this
 exact this
theorem La {p2 p5:Nat} {pv wv ov vv:Value} {T:List Value} {ps:List (List Ins)} {ws:List Int} (hC:Cf.Ok) (hG:Gb G) (hg:Ob G 1 wR) (δ:ps.length=Cf.aE.toNat) (ε:ws.length=Cf.aE.toNat) (γ:∀w∈ws,0<=w/\w<=3) (Z:∀p∈ps,(lF p).2=0)
  (hv:T.length=ps.length) (ho:uU G 1 pv (T.map fun x=>[x]).length (fun i=>(T.map fun x=>[x]).getD i [])) (hi:∀(i:Nat) (v:Value) (p:List Ins),T[i]?=some v->ps[i]?=some p->A.Vd G v p) (hw:A.I0 G wv ws)
  (hk:∀lc lk lq a1 a2 a3 j c2 c3 h',lc.length=Cf.aE.toNat->lk.length=Cf.aE.toNat->lq.length=Cf.aE.toNat->Hs G h' (aG p5 0 (mkE Cf a1 a2 a3 Cf.aE.toNat j c2 c3)::Mb a1 j lc::W7 a2 c2 lk::W9 a3 c3 lq::oJ jU lc (Oj ps ws)::oJ (sC G Cf) lk (fun _=>gZ.new)::oJ (qP Cf) lq (fun _=>Gz)::aG p2 0 (Te Cf pv wv ov vv)::L)->Dd 31 4 [] Q [(pt p2 0 0),(pt p5 0 0)] h'):
  ∀(f i:Nat) (lc lk lq:List Nat) (a1 a2 a3:Option Addr) (j c2 c3:Nat) (h:AH),i+f=Cf.aE.toNat->lc.length=i->lk.length=i->lq.length=i->Hs G h (aG p5 0 (mkE Cf a1 a2 a3 i j c2 c3)::Mb a1 j lc::W7 a2 c2 lk::W9 a3 c3 lq::oJ jU lc (Oj ps ws)::oJ (sC G Cf) lk (fun _=>gZ.new)::oJ (qP Cf) lq (fun _=>Gz)::aG p2 0 (Te Cf pv wv ov vv)::L)->
  Dd 31 2 [] Q [(pt p2 0 0),(pt p5 0 0),(I Cf.aE),(I i)] h:=by
 have hc:=hC.1
 intro f
 induction f with
 |zero=>
  intro i lc lk lq a1 a2 a3 j c2 c3 h X U D F g
  obtain rfl:i=Cf.aE.toNat:=by omega
  exact bW (aZ (aT (by omega) (hk _ _ _ _ _ _ _ _ _ _ U D F g)))
 |succ f ih=>
  intro i lc lk lq a1 a2 a3 j c2 c3 h X U D F g
  obtain⟨p,Y,_⟩:=nW (l:=ps) (i:=i) (by omega)
  obtain⟨v,J,_⟩:=nW (l:=T) (i:=i) (by omega)
  obtain⟨w,E,_⟩:=nW (l:=ws) (i:=i) (by omega)
  have β:=γ w (List.mem_of_getElem? E)
  have α:=Z p (List.mem_of_getElem? Y)
  have eS:Oj ps ws i=sN p w:=by unfold Oj;rw[List.getD_eq_getElem?_getD,List.getD_eq_getElem?_getD,Y,E];rfl
  refine bW (aZ (bV (by omega) (bW (bB g fun rr h g=>aA (aC (b:=p2) (o:=0) g rfl ?_)))))
  have g:=A.oQ hw g
  refine vZ g (x:=[I w]) (by simp[A.yT,E]) rfl ?_
  have g:=g.tail
  refine aA (aC (b:=p2) (o:=0) g rfl ?_)
  have g:=Ak (e:=3) (by simp) ho g
  refine vZ g (x:=[v]) (by simp[J]) rfl ?_
  have g:=A.I9 (hi i v p J Y) g.tail
  refine P5 (i:=i) (pr:=p) (w:=w) (by omega) β hg α g fun K h g=>aH rfl (aH rfl (bC (aT (by omega) (bW ?_))))
  rw[<-eS] at g
  refine aA (kP (b:=p2) (o:=0) g (by decide) (l:=Cf.enc) rfl rfl ?_)
  refine C.Ro (C:=Cf) (core:=(i:Int)) hC (by omega) hG.lim g fun O h g=>aH rfl (aH rfl (bC (aT (by omega) (bW ?_))))
  refine aA (aA (aC (b:=p2) (o:=0) g rfl (aA (aA (aC (b:=p2) (o:=0) g rfl ?_)))))
  refine mz (C:=Cf) hC g fun S h g=>aH rfl (aH rfl (bC (aT (by omega) (bW ?_))))
  subst U
  refine aB (aA (aC (b:=p5) (o:=0) g rfl (aQ (c:=[pt K 0 0]) rfl (dW (W:=1) (n:=1) (c:=1) g rfl rfl rfl fun b1 h g=>?_))))
  refine Jm (l:=lc) (a:=a1) (c:=j) (e:=75) (q:=K) (a2:=some b1) (c2:=1) (by omega) g fun k y h g=>aB (aA (bL (b:=p5) (o:=0) g rfl rfl rfl rfl fun h g=>?_))
  refine aB (aA (aC (b:=p5) (o:=0) g rfl (aQ (c:=[pt O 0 0]) rfl (dW (W:=1) (n:=1) (c:=1) g rfl rfl rfl fun b2 h g=>?_))))
  rw[<-D]
  refine Jm (l:=lk) (a:=a2) (c:=c2) (e:=137) (q:=O) (a2:=some b2) (c2:=1) (by omega) g fun t z h g=>aB (aA (bL (b:=p5) (o:=0) g rfl rfl rfl rfl fun h g=>?_))
  rw[D]
  refine aB (aA (aC (b:=p5) (o:=0) g rfl (aQ (c:=[pt S 0 0]) rfl (dW (W:=1) (n:=1) (c:=1) g rfl rfl rfl fun b3 h g=>?_))))
  rw[<-F]
  refine Jm (l:=lq) (a:=a3) (c:=c3) (e:=140) (q:=S) (a2:=some b3) (c2:=1) (by omega) g fun u B h g=>aB (aA (bL (b:=p5) (o:=0) g rfl rfl rfl rfl fun h g=>?_))
  have e5:dR (dR (dR (mkE Cf a1 a2 a3 lc.length j c2 c3) (0+7) [.slice k (lc.length+1) y]) (0+8) [.slice t (lk.length+1) z]) (0+9) [.slice u (lq.length+1) B]=mkE Cf k t u (lc.length+1) y z B:=by rw[D,F];rfl
  rw[e5] at g
  have g:=I5 (R:=jU) (l:=lc) (q:=K) (s:=Oj ps ws) (g.cX (jC lc.length K (Oj ps ws lc.length)) (oJ jU lc (Oj ps ws)))
  rw[<-D] at g
  have g:=I5 (R:=sC G Cf) (l:=lk) (q:=O) (s:=fun _=>gZ.new) (g.cX (C.hM G O Cf lk.length gZ.new) (oJ (sC G Cf) lk (fun _=>gZ.new)))
  have g:=I5 (R:=qP Cf) (l:=lq) (q:=S) (s:=fun _=>Gz) (g.cX (kQ S Cf Gz) (oJ (qP Cf) lq (fun _=>Gz)))
  rw[D] at g
  rw[F]
  exact bQ (by omega) (ih (lc.length+1) (lc++[K]) (lk++[O]) (lq++[S]) k t u y z B h (by omega) (by simp) (by simp;omega) (by simp;omega) g.to)
end
section
def mkF (C:bM) (a1 a2 a3:Option Addr) (n a c2 c3:Nat) (x y z:Value):List Value:=C.enc++[.slice a1 n a,.slice a2 n c2,.slice a3 n c3,x,y,z,.slice none 0 0]
theorem Na {a b:Int} {l:List Int} (h:within a b l=true):∀x∈l,a<=x/\x<=b:=by
 unfold within at h;intro x e;exact of_decide_eq_true (List.all_eq_true.1 h x e)
theorem Hn {C:bM} {ps:List (List Ins)} {ws os vs:List Int} (h:Cw C ps ws os vs=0):C.Ok/\ps.length=C.aE.toNat/\ws.length=C.aE.toNat/\os.length=C.aS.toNat/\vs.length=C.lines*2/\uC ps=0/\(∀w∈ws,0<=w/\w<=3)/\∀o∈os,0<=o/\o<=4:=by
 unfold Cw at h;split at h;cases h;rename_i hC;split at h;cases h;rename_i e;split at h;rename_i b;exact absurd h b;rename_i b;split at h;cases h;rename_i a;have a:=Decidable.not_not.1 a;exact⟨Decidable.not_not.1 hC,by omega,by omega,by omega,by omega,Decidable.not_not.1 b,Na a.1,Na a.2⟩
set_option maxRecDepth 100000
variable {G:Bg} {h:AH} {L L':List HP} {Q:Value->AH->Prop} {Cf:bM} {m N:Nat} {M:cT}
theorem jc {p2 p5 hb mb:Nat} {hE:List Value} {p q ov vv:Value} {vs:List Int} {z:List Value} (hC:Cf.Ok) (hG:Gb G) (F:vs.length=Cf.lines*2) (y:A.I0 G vv vs) (D:z[10]?=some (pt hb 0 0)) (g:hE[0]?=some (pt mb 0 0))
  (k:∀j,Hs G j (fP G Cf.lines mb Cf (At.words nE vs 0)::aG hb 0 hE::aG p5 0 z::aG p2 0 (Te Cf p q ov vv)::L)->Dd 31 11 [] Q [(pt p2 0 0),(pt p5 0 0)] j):
  ∀(f i:Nat) (mem:Nat->Ln) (h:AH),i+f=vs.length->At.words nE vs 0=At.words mem (vs.drop i) i->Hs G h (fP G Cf.lines mb Cf mem::aG hb 0 hE::aG p5 0 z::aG p2 0 (Te Cf p q ov vv)::L)->
  Dd 31 8 [] Q [(pt p2 0 0),(pt p5 0 0),vv,(I vs.length),(I i)] h:=by
 have u:=bM.gK hC
 intro f
 induction f with
 |zero=>
  intro i mem h t e a
  rw[List.drop_of_length_le (by omega),At.words] at e
  rw[e] at k
  exact bW (aZ (aT (by omega) (k _ a)))
 |succ f E=>
  intro i mem h t e a
  obtain⟨x,B,s⟩:=nW (l:=vs) (i:=i) (by omega)
  rw[s,At.words] at e
  have a:=A.oQ y a
  refine bW (aZ (bV (by omega) (bW (vZ a (x:=[I x]) (by simp[A.yT,B]) rfl (aB (aA (aC (b:=p5) (o:=0) a D (aB (aA (aC (b:=hb) (o:=0) a g ?_))))))))))
  exact G4 (C:=Cf) (mb:=mb) (mem:=mem) (w:=i) (v:=x) hC hG.lim a.tail (by omega) fun h a=>bC (aT (by omega) (bW (bQ (by omega) (E (i+1) _ h (by omega) e a))))
theorem zz {D E ov vv:Value} {ps:List (List Ins)} {ws os vs:List Int} (hn:ps.length<=1000/\ws.length<1000/\os.length<1000) (hG:Gb G) (T:Ob G 1 wR) (U:A.jd G D E ov vv ps ws os vs) (a:Hs G h L)
  (k1:Cw Cf ps ws os vs≠0->∀v,Hs G v L->Q (.tuple ⟨[.pointer none,I (Cw Cf ps ws os vs)]⟩) v)
  (k2:Cw Cf ps ws os vs=0->∀m v,Hs G v (bT G Cf m (MC.new ⟨Cf,ps,ws,os,vs⟩)::L)->Q (.tuple ⟨[pt m 0 0,I 0]⟩) v):Cl Pr K 31 [.agg ⟨Te Cf D E ov vv⟩] h Q:=by
 refine cW (dS a fun f h a=>aA (kP (b:=f) (o:=0) a (by decide) (l:=Cf.enc) rfl rfl (aA (aC (b:=f) (o:=0) a rfl (aA (aC (b:=f) (o:=0) a rfl (aA (aC (b:=f) (o:=0) a rfl (aA (aC (b:=f) (o:=0) a rfl ?_))))))))))
 refine A.aFy (C:=Cf) hn hG.lim T U a (fun y h a=>aH rfl (aH rfl (bC (bV y (k1 y _ a.tail))))) fun y pa h a=>aH rfl (aH rfl (bC (aT (by omega) ?_)))
 obtain⟨hC,Z,e2,e3,e4,e5,e6,e7⟩:=Hn y
 have a:Hs G h (aG f 0 (Te Cf D E ov vv)::L):=a.to
 have hc:=hC.1
 obtain⟨⟨vi,hv,O,J⟩,S,F,B⟩:=U
 refine bW (aA (kP (b:=f) (o:=0) a (by decide) (l:=Cf.enc) rfl rfl (aQ (c:=mkE Cf none none none 0 0 0 0) rfl (dS a fun p h a=>aA (aA (aC (b:=f) (o:=0) a rfl ?_))))))
 have a:=Jf (R:=qP Cf) (s:=fun _=>Gz) a
 have a:=Jf (R:=sC G Cf) (s:=fun _=>gZ.new) a
 have a:=Jf (R:=jU) (s:=Oj ps ws) a
 have a:=uA (enc:=pE) (e:=75) a
 have a:=uA (enc:=pE) (e:=137) a
 have a:=uA (enc:=pE) (e:=140) a
 refine La (L:=L) (ov:=ov) (vv:=vv) (Cf:=Cf) hC hG T Z e2 e6 (A.Ac e5) hv O J S ?_ Cf.aE.toNat 0 [] [] [] none none none 0 0 0 h (by omega) rfl rfl rfl a.to
 intro lc lk lq a1 t a3 u c2 c3 h W X Y a
 refine bW (aA (kP (b:=f) (o:=0) a (by decide) (l:=Cf.enc) rfl rfl ?_))
 refine H.Xk (C:=Cf) hC hG.lim a fun g h a=>aH rfl (aH rfl (aB (aA (bL (b:=p) (o:=0) a rfl rfl rfl rfl fun h a=>bC (aT (by omega) ?_)))))
 have e8:dR (mkE Cf a1 t a3 Cf.aE.toNat u c2 c3) (0+10) [pt g 0 0]=mkF Cf a1 t a3 Cf.aE.toNat u c2 c3 (pt g 0 0) (.pointer none) (.pointer none):=rfl
 rw[e8] at a
 obtain⟨k,b,o,j,a⟩:=H.rS (a.front (H.gP G g Cf (sE Cf.lines)))
 have em:(fun i=>(sE Cf.lines i).2)=nE:=by
  funext i;unfold sE nE;split<;>rfl
 rw[em] at a
 have a:=a.nA (fP G Cf.lines k Cf nE) (aG g 0 (H.mM k Cf b o j)) (aG p 0 (mkF Cf a1 t a3 Cf.aE.toNat u c2 c3 (pt g 0 0) (.pointer none) (.pointer none))) (aG f 0 (Te Cf D E ov vv))
 refine bW (aA (aC (b:=f) (o:=0) a rfl (N0 B ?_)))
 refine jc (Cf:=Cf) (p2:=f) (p5:=p) (hb:=g) (mb:=k) (hE:=H.mM k Cf b o j) (z:=mkF Cf a1 t a3 Cf.aE.toNat u c2 c3 (pt g 0 0) (.pointer none) (.pointer none)) hC hG e4 B rfl rfl ?_ vs.length 0 nE h (by omega) rfl a
 intro h a
 have a:=H.tD (H:=MC.home ⟨Cf,ps,ws,os,vs⟩) (hb:=g) (C:=Cf) (mb:=k) (b:=b) (o:=o) (cap:=j) (a.nA (aG g 0 (H.mM k Cf b o j)) (fP G Cf.lines k Cf (At.words nE vs 0)) (hole G 25 247 (some ⟨b,o,none⟩) j Cf.lines b o) (dK Cf.lines fun i=>H.eR b (o+i*25) (sE Cf.lines i).1))
 refine bW (aA (aA (aC (b:=f) (o:=0) a rfl (aA (aC (b:=f) (o:=0) a rfl ?_)))))
 refine ml (C:=Cf) hC F e3 e7 a fun q h a=>aH rfl (aH rfl (aB (aA (bL (b:=p) (o:=0) a rfl rfl rfl rfl fun h a=>bC (aT (by omega) (bW ?_))))))
 refine aA (kP (b:=f) (o:=0) a (by decide) (l:=Cf.enc) rfl rfl ?_)
 refine oh (C:=Cf) hC hG.lim a fun fb h a=>aH rfl (aH rfl (aB (aA (bL (b:=p) (o:=0) a rfl rfl rfl rfl fun h a=>bC (aT (by omega) (k2 y _ _ ?_))))))
 have a:=uA (enc:=Ev.enc) (e:=80) a
 have e9:dR (dR (mkF Cf a1 t a3 Cf.aE.toNat u c2 c3 (pt g 0 0) (.pointer none) (.pointer none)) (0+11) [pt q 0 0]) (0+12) [pt fb 0 0]=fL Cf ⟨lc,lk,lq,a1,t,a3,none,u,c2,c3,0,g,q,fb⟩ 0:=by
  unfold fL;dsimp only;rw[W,X,Y];rfl
 rw[e9] at a
 have a:Hs G h (bT G Cf p (⟨Oj ps ws,fun _=>gZ.new,fun _=>Gz,MC.home ⟨Cf,ps,ws,os,vs⟩,⟨tT os,fun _=>none⟩,fun _ _=>[],[]⟩:cT)::L):=(bK (m:=p) (x:=⟨lc,lk,lq,a1,t,a3,none,u,c2,c3,0,g,q,fb⟩) (⟨Oj ps ws,fun _=>gZ.new,fun _=>Gz,MC.home ⟨Cf,ps,ws,os,vs⟩,⟨tT os,fun _=>none⟩,fun _ _=>[],[]⟩:cT) ⟨W,X,Y⟩ a).to
 exact a
end
end Go.Proofs.YtajjljbmfdboaaaGreatDoor
end
namespace Go.Proofs.YtajjljbmfdboaaaGreatDoor
open Go Go.Ab Go.Hm Go.At Go.Mc Go.Ct Go.Nt Go.Is
section
theorem aFh {g:FuncId} {a b:Array Value} {k:Value->Prop} (e:k (.bool false)):bE (Xc .eql (.func (.func g) a b) .nilFunc) k:=⟨_,rfl,e⟩
set_option maxRecDepth 100000
attribute [local irreducible] bE Br rT vO vB Dv nP xS mZ Ti iN nG pU sP rF lJ Cy xP Ya Xx Tj R3 Xc Td Rx Ub U1 mF pL vA kI copyV jQ zM Xp Yw Iz mA Pp Wr X7 pT tO Ao Cx Cl Bc Xb uL uF lI iQ cS cB
variable {G:Bg} {h:AH} {L L':List HP} {Q:Value->AH->Prop} {Cf:bM} {m N:Nat} {M:cT}
theorem xV (a:Q (.bool true) h):Cl Pr K 25 [] h Q:=by
 unfold Cl;exact su (v:= .bool true) rfl a
theorem aFr {C:bM} {j z ov vv:Value} {ps:List (List Ins)} {ws os vs:List Int} (hn:ps.length<=9223372036854775807) (R:A.jd G j z ov vv ps ws os vs) (a:Hs G h L)
  (W:ps.length<=6/\ws.length<=6/\os.length<=20/\vs.length<=80->∀s,Hs G s L->Q (.bool true) s) (y:∀s,Hs G s L->Q (.bool false) s):Cl Pr K 30 [.agg ⟨Te C j z ov vv⟩] h Q:=by
 obtain⟨⟨Z,T,t,D⟩,F,B,E⟩:=R
 have lp:∀{k:Value->Prop},k (I ps.length)->bE (lJ j) k:=fun q=>A.sY t (by simpa [T] using q)
 have lw:∀{k:Value->Prop},k (I ws.length)->bE (lJ z) k:=fun q=>N0 F q
 have X:∀{k:Value->Prop},k (I os.length)->bE (lJ ov) k:=fun q=>N0 B q
 have Y:∀{k:Value->Prop},k (I vs.length)->bE (lJ vv) k:=fun q=>N0 E q
 refine cW (dS a fun g h a=>?_)
 have loop:∀(f i:Nat) (h:AH),i+f=ps.length->Hs G h (aG g 0 (Te C j z ov vv)::L)->Dd 30 1 [] Q [(pt g 0 0),(I i)] h:=by
  intro f;induction f with
  |zero=>
   intro i h O a;refine bW (aA (aC (b:=g) (o:=0) a (v:=j) rfl (lp (aZ (aT (by omega) (aA (aC (b:=g) (o:=0) a (v:=j) rfl (lp (Bp (aX (fun g1=>?_) (fun g1=>y _ a.tail)))))))))));refine aA (aC (b:=g) (o:=0) a (v:=z) rfl (lw (Bp (aX (fun g2=>?_) (fun g2=>y _ a.tail)))));refine aA (aC (b:=g) (o:=0) a (v:=ov) rfl (X (Bp (aX (fun g3=>?_) (fun g3=>y _ a.tail)))));refine aA (aC (b:=g) (o:=0) a (v:=vv) rfl (Y (Bp ?_)));by_cases J:(vs.length:Int)<=80;rw[decide_eq_true J];exact W ⟨by omega,by omega,by omega,by omega⟩ _ a.tail;rw[decide_eq_false J];exact y _ a.tail
  |succ f U=>
   intro i h O a;obtain⟨p,S,hd⟩:=nW (l:=ps) (i:=i) (by omega);obtain⟨v,u,_⟩:=nW (l:=Z) (i:=i) (by omega);refine bW (aA (aC (b:=g) (o:=0) a (v:=j) rfl (lp (aZ (bV (by omega) (bW (aA (aC (b:=g) (o:=0) a (v:=j) rfl ?_))))))));refine vZ (Ak (e:=3) (by simp) t a) (x:=[v]) (by simp[u]) rfl (A.sY (D i v p u S) (mS (aX (fun _=>y _ a.tail) (fun _=>bW (bQ (by omega) (U (i+1) h (by omega) a))))))
 exact loop ps.length 0 h (by omega) a
def cT.core (Cf:bM) (M:cT) (x:Int):List Value×Int:=if 0<=x/\x<Cf.aE then((M.aD x.toNat).core,0) else([I 0,I 0,I 0,I 0,I 0,I 0,.bool false],10)
def veR (q:Nat) (a:Option Addr) (c:Nat) (l:List Ev):HP:=sp [aG q 0 [.slice a l.length c],C3 a c l]
theorem aJy {q c:Nat} {a:Option Addr} {l:List Ev} (hb:l.length<=100000):xi Pr K G 162 [] [pt q 0 0] (veR q a c l) (l.map fun n=>[.agg ⟨n.enc⟩]):=by
 intro p J y L h Q g F u z;have g:=g.Hh;have j:∀{h:AH} {M:List HP},Hs G h (aG q 0 [.slice a l.length c]::C3 a c l::M)->Hs G h (veR q a c l::M):=fun g=>g.H9;refine cW (aC (b:=q) (o:=0) g rfl (cC ?_));have loop:∀(f i:Nat) (h:AH),i+f=l.length->Hs G h (aG q 0 [.slice a l.length c]::C3 a c l::p ((l.drop i).map fun n=>[.agg ⟨n.enc⟩])::L)->Dd 162 1 [] Q [y,(.slice a l.length c),(I l.length),(I i)] h:=by
  intro f;induction f with
  |zero=>
   intro i h B g;rw[List.drop_of_length_le (by omega)] at g;exact bW (aZ (aT (by omega) (u _ _ (j g))))
  |succ f O=>
   intro i h B g;obtain⟨x,E,A⟩:=nW (l:=l) (i:=i) (by omega);rw[A,List.map_cons] at g;refine bW (aZ (bV (by omega) (bW (wN (l:=l) (a:=a) (c:=c) (enc:=Ev.enc) (e:=80) g (by decide) (by omega) (by rw[Int.toNat_natCast];exact E) (bP g fun s h g=>bH (b:=s) g rfl rfl rfl rfl fun h g=>aU (b:=s) (o:=0) g (by decide) (l:=x.enc) rfl rfl ?_)))));refine(F _ _ h _ (g.front (p ([.agg ⟨x.enc⟩]::((l.drop (i+1)).map fun n=>[.agg ⟨n.enc⟩]))))).mono fun v t D=>?_;rcases D with⟨rfl,k⟩|⟨rfl,k⟩;exact cE (bZ (bW (bQ (by omega) (O (i+1) t (by omega) k.to))));exact cE (fK (z _ _ (j k.to)))
 exact loop l.length 0 h (by omega) (by rw[List.drop_zero];exact g)
abbrev evX (p:Nat) (e:Nat->Value) (d l:Nat) (done:List Ev):HP:=vW fun x:Option Addr×Nat=>sp [pP Pr 17 (pM 250) 20 e d l (.ready,none),aG p 0 [.slice x.1 done.length x.2],C3 x.1 x.2 done]
theorem Xr (k:M.log.length<2000) (f:Hs G h L) [F:Has (bT G Cf m) L M L'] (D:∀a c j,Hs G j (C3 a c M.log::bT G Cf m M::L')->Q (.slice a M.log.length c) j):Cl Pr K 17 [pt m 0 0] h Q:=by
 obtain⟨y,E,f⟩:=cU (F.of f);refine cW ?_;refine cW (dG (bZ (aB (aA (aC (b:=m) (o:=0) f rfl ?_)))));refine cW (dS f fun q h f=>?_);refine aFh (bZ (bW (bP f fun p h f=>oY f fun d h f=>?_)));intro e B;refine tZ f fun l h f=>A8 rfl ?_;have f:=uA (enc:=Ev.enc) (e:=80) f;have f:Hs G h (veR q y.al y.cl M.log::evX p e d l []::mk d ()::aG m 0 (fL Cf y M.log.length)::Mb y.ac y.cc y.lc::W7 y.ak y.ck y.lk::W9 y.aq y.cq y.lq::
  oJ jU y.lc M.aD::oJ (sC G Cf) y.lk M.dD::oJ (qP Cf) y.lq M.cG::H.gP G y.hb Cf M.home::fY Cf y.mb M.bY::vQ Cf y.fb M.kL::L'):=by
  have f:=(f.cX (aG q 0 [.slice y.al M.log.length y.cl]) (C3 y.al y.cl M.log)).H9
  have f:Hs G h (veR q y.al y.cl M.log::_):=f
  have f:=(f.dF (pP Pr 17 (pM 250) 20 e d l (.ready,none)) (aG p 0 [.slice none 0 0]) (C3 none 0 [])).W8
  have f:=Hs.Af (A:=fun x:Option Addr×Nat=>sp [pP Pr 17 (pM 250) 20 e d l (.ready,none),aG p 0 [.slice x.1 ([]:List Ev).length x.2],C3 x.1 x.2 []]) (none,0) f
  exact f.to
 refine(aJy (q:=q) (a:=y.al) (c:=y.cl) (l:=M.log) (by omega)).fold (X:=fun done=>evX p e d l done) (Z:=fun _ _=>Cz False) f ?_ ?_ ?_
 .intro done x h T s f;have u:done.length<1999:=by have:=s.length_le;simp at this;omega
  obtain⟨⟨a,c⟩,f⟩:=f.Et;have f:=f.Ex;refine rW (A7 f) B (bP f fun p1 h f=>bH (b:=p1) f rfl rfl rfl rfl fun h f=>lU f fun h f=>aC (b:=p) (o:=0) f rfl (aU (b:=p1) (o:=0) f (by decide) (l:=x.enc) rfl rfl (aQ (c:=x.enc) rfl (dW (W:=7) (n:=1) (c:=1) f rfl rfl rfl fun I h f=>?_))));have f:=yB (enc:=Ev.enc) (x:=x) f;refine Q4 (l:=done) (v:=x) (a:=a) (c:=c) (by omega) f fun g i h f=>bH (b:=p) f rfl rfl rfl rfl fun h f=>aC (b:=p) (o:=0) f rfl (cC (dO (aT (by simp;omega) (mB f fun h f=> .inl ⟨rfl,?_⟩))));have f:=(f.dF (pP Pr 17 (pM 250) 20 e d l (.ready,none)) (aG p 0 [.slice g (done++[x]).length i]) (C3 g i (done++[x]))).W8;exact(Hs.Af (A:=fun z:Option Addr×Nat=>sp [pP Pr 17 (pM 250) 20 e d l (.ready,none),aG p 0 [.slice z.1 (done++[x]).length z.2],C3 z.1 z.2 (done++[x])]) (g,i) f).to
 intro v h f;obtain⟨⟨a,c⟩,f⟩:=(f.front (evX p e d l M.log)).Et;have f:=f.Ex;have f:=(f.front (veR q y.al y.cl M.log)).Hh;refine uG f fun h f=>uE (aC (b:=p) (o:=0) f rfl (oU f fun h f=>lZ (D a c _ ?_)));exact(bK (m:=m) (x:=y) M E f).to
 .intro done x v h s f;obtain⟨t,_⟩:=(f.front (Cz False)).y7;exact t.elim
end
end Go.Proofs.YtajjljbmfdboaaaGreatDoor
namespace Go.Mc
open Go Go.Ab Go.Hm Go.At Go.Is Go.Ct Go.Nt
section
variable {C:bM} {N:Nat} {M:cT}
def rp (i:Nat) (s:aK) (x:Ev):Option aK:=match aK.gX s i with
 |some r=>if r.2=x then some r.1 else none
 |none=>if(aK.bG s i x.value x.code).2.2=0/\(aK.bG s i x.value x.code).2.1=x then some (aK.bG s i x.value x.code).1 else none
theorem Mf {s:aK} {i:Nat} {r:aK×Ev} (h:aK.gX s i=some r):r.2.core=i:=by
 unfold aK.gX at h;cases hn:aK.next? s with
 |none=>rw[hn] at h;cases h
 |some x=>
  rw[hn] at h;dsimp only at h;repeat' split at h
  all_goals first|cases h|skip
  all_goals rfl
theorem yu {s:aK} {i:Nat} {r:aK×Ev} (h:aK.gX s i=some r):rp i s r.2=some r.1:=by
 unfold rp;grind
theorem Sg {s:aK} {i:Nat} {v c:Int} (h:(aK.bG s i v c).2.2=0):aK.gX s i=none:=by
 unfold aK.bG at h;unfold aK.gX;cases hn:aK.next? s with
 |none=>rfl
 |some x=>
  rw[hn] at h;dsimp only at h ⊢;unfold zR at h;grind
theorem vG {s:aK} {i:Nat} {v c:Int} (h:(aK.bG s i v c).2.2=0):(aK.bG s i v c).2.1.core=i:=by
 unfold aK.bG at h ⊢;cases hn:aK.next? s with
 |none=>rw[hn] at h;cases h
 |some x=>
  rw[hn] at h;dsimp only at h ⊢;repeat' split at h
  all_goals first|cases h|skip
  all_goals simp_all [aK.ev]
theorem Ph {s:aK} {i:Nat} {v c:Int} (h:(aK.bG s i v c).2.2=0):rp i s (aK.bG s i v c).2.1=some (aK.bG s i v c).1:=by
 unfold rp;rw[Sg h];dsimp only;have e:aK.bG s i (aK.bG s i v c).2.1.value (aK.bG s i v c).2.1.code=aK.bG s i v c:=by
  unfold aK.bG at h ⊢;cases hn:aK.next? s with
  |none=>rfl
  |some x=>
   rw[hn] at h;dsimp only at h ⊢;unfold aK.ev;grind
 grind
def rc (m:Mon) (g:Nat):Option Int:=(m.runs g).map jG.core
structure W5 (M:cT):Prop where
 op:∀g c,rc M.bY g=some c->∃x,aK.next? (M.aD c.toNat)=some x/\x.op=8
 one:∀g g' c,rc M.bY g=some c->rc M.bY g'=some c->g=g'
theorem Qj (hC:C.Ok) {m:Mon} (a:iF C m) {c:Int}:m.calls c=true↔∃g,rc m g=some c:=by
 unfold Mon.calls Mon.running rc;rw[List.any_eq_true];constructor;rintro ⟨g,b,h⟩;unfold Mon.mI at h;grind;rintro ⟨g,h⟩;cases hr:m.runs g with
 |none=>rw[hr] at h;cases h
 |some r=>
  rw[hr] at h;have:=a.aIi hC g r hr;refine⟨g,List.mem_filter.2 ⟨List.mem_range.2 this,by rw[hr];rfl⟩,?_⟩;unfold Mon.mI;grind
inductive Out (C:bM) (d:Do) (M M':cT):Prop where
 |same (h1:M'.aD=M.aD) (h2:M'.log=M.log) (h3:∀g,rc M'.bY g=rc M.bY g)
 |ev (i:Nat) (s:aK) (v:Ev) (hi:(i:Int)<C.aE) (hd:d.nY=0/\d.a=i) (hw:M.bY.calls i=false) (h1:M'.aD=aR M.aD i s) (h2:M'.log=M.log++[v]) (hc:v.core=i) (hr:rp i (M.aD i) v=some s) (h3:∀g,rc M'.bY g=rc M.bY g)
 |ask (i g:Nat) (hi:(i:Int)<C.aE) (hd:d.nY=0/\d.a=i) (hw:M.bY.calls i=false) (h1:M'.aD=M.aD) (h2:M'.log=M.log) (hx:∃x,aK.next? (M.aD i)=some x/\x.op=8) (h3:∀g',rc M'.bY g'=if g'=g then some (i:Int) else rc M.bY g') (h0:rc M.bY g=none)
 |fin (i g:Nat) (s:aK) (v:Ev) (hi:(i:Int)<C.aE) (hd:d.nY=3) (hg:rc M.bY g=some (i:Int)) (h1:M'.aD=aR M.aD i s) (h2:M'.log=M.log++[v]) (hc:v.core=i) (ho:v.op=8/\v.code=0) (ha:s.at'=(M.aD i).at'+1) (hr:rp i (M.aD i) v=some s) (h3:∀g',rc M'.bY g'=if g'=g then none else rc M.bY g')
theorem zC {d:Do} {i:Nat} {v c:Int} (b:(i:Int)<C.aE) (a:d.nY=0/\d.a=i) (e:M.bY.calls i=false):Out C d M (M.bG i v c).1:=by
 unfold cT.bG;dsimp only;split;exact .same rfl rfl fun _=>rfl;rename_i h;have h:(aK.bG (M.aD i) i v c).2.2=0:=Decidable.not_not.1 h;exact .ev i _ _ b a e rfl rfl (vG h) (Ph h) fun _=>rfl
theorem aDd {s:aK} {i:Nat} {a:Mc.Ask} (h:aK.rV s i=some a):a.core=i/\∃x,aK.next? s=some x/\x.op=8:=by
 unfold aK.rV at h;grind
theorem tg {d:Do} {i:Nat} {a:Mc.Ask} (u:eI C N M) (k:(i:Int)<C.aE) (j:d.nY=0/\d.a=i) (o:M.bY.calls i=false) (v:aK.rV (M.aD i) i=some a):Out C d M (M.call C i a).1:=by
 obtain⟨s,t⟩:=aDd v;unfold cT.call;dsimp only;split;exact zC k j o
 .rename_i b;split;exact .same rfl rfl fun _=>rfl
  .have b:(M.bY.call C.aE a).2.2=0:=Decidable.not_not.1 b;have f:rc M.bY a.bI.toNat=none:=by
    unfold Mon.call at b;split at b;cases b;split at b;cases b;rename_i g;split at b;cases b;rename_i e;have q:0<=a.bI:=(Decidable.not_not.1 g).1;have e:M.bY.phase a.bI=0:=Decidable.not_not.1 e;unfold Mon.phase Mon.run at e;rw[aLb q] at e;unfold rc;cases hr:M.bY.runs a.bI.toNat with
    |none=>rfl
    |some r=>rw[hr] at e;have:=(u.bY.run _ r hr).2.2.1;grind
   refine .ask i a.bI.toNat k j o rfl rfl t (fun p=>?_) f;show rc (M.bY.call C.aE a).1 p=_;unfold Mon.call at b ⊢;repeat' split at b
   all_goals first|(exfalso;revert b;simp;done)|skip
   rename_i x g e y;rw[aLa x,aLa g,aLa e,aLa y];dsimp only at b ⊢;split at b;grind;rename_i n5;rw[aLa n5];unfold rc Mon.cK aR;dsimp only;split;show some a.core=_;rw[s];rfl
theorem af {d:Do} {i:Nat} {a:Acc} (q:(i:Int)<C.aE) (j:d.nY=0/\d.a=i) (t:M.bY.calls i=false):Out C d M (M.access C i a).1:=by
 have same:∀{r:cT},r.aD=M.aD->r.log=M.log->r.bY=M.bY->Out C d M r:=fun a b c=> .same a b fun g=>by rw[c]
 unfold cT.access;split;exact zC q j t;dsimp only;split;grind;split;unfold cT.walk;grind;split;exact zC q j t;split;unfold cT.want;grind;unfold cT.pO;dsimp only;rcases zC (C:=C) (M:=M.uQ i (if a.write=true then jD C (if a.read=true then mV C (M.dD i) (a.word/2) (a.word % 2) (M.known i (a.word/2/2)) else M.dD i) (a.word/2) (a.word % 2) (M.known i (a.word/2/2)) a.value else if a.read=true then mV C (M.dD i) (a.word/2) (a.word % 2) (M.known i (a.word/2/2)) else M.dD i)) (d:=d) (v:=if a.read=true then Gi C (M.dD i) (a.word/2) (a.word % 2) else 0) (c:=0) q j t with⟨a,b,c⟩|⟨i,s,v,a,b,c,e,f,g,k,l⟩|⟨i,g,a,b,c,e,f,k,l,z⟩|⟨i,g,s,v,a,b,c,e,f,k,l,n,o,p⟩;exact .same a b c;exact .ev i s v a b c e f g k l;exact .ask i g a b c e f k l z;grind
theorem Ke {m:Mon} {g c:Int}:∀k,rc (m.dropped C.aE g c).1 k=rc m k:=by
 intro k;unfold Mon.dropped;split;rfl;split;rfl;rename_i r a;split;rfl;split;rfl;unfold Mon.run at a;split at a;unfold rc Mon.cK aR;dsimp only;split;rename_i e;subst e;rw[a];rfl;rfl;cases a
theorem Hj {n:aJ}:(M.fM C n).1.aD=M.aD/\(M.fM C n).1.log=M.log/\∀g,rc (M.fM C n).1.bY g=rc M.bY g:=by
 unfold cT.fM;repeat' split
 all_goals first
  |exact⟨rfl,rfl,fun _=>rfl⟩
  |skip
 dsimp only;split;exact⟨rfl,rfl,fun g=>Ke g⟩;exact⟨rfl,rfl,fun g=>Ke g⟩
theorem aAk {m:Mon} {g:Int} {u:Mc.jG} (h:(m.over g).2.1=some u):rc m g.toNat=some u.core/\∀k,rc (m.over g).1 k=if k=g.toNat then none else rc m k:=by
 unfold Mon.over at h ⊢;split at h;cases h;rename_i a;rw[aLa a];cases hr:m.run g with
 |none=>rw[hr] at h;cases h
 |some r=>
  rw[hr] at h;dsimp only at h ⊢;split at h;cases h;rename_i b;rw[aLa b];cases h;unfold Mon.run at hr;split at hr;refine⟨by unfold rc;rw[hr];rfl,fun k=>?_⟩;unfold rc Mon.cK aR;dsimp only;split;rfl;rfl;cases hr
theorem aA7 (_:C.Ok) (t:eI C N M) (B:W5 M) {d:Do}:Out C d M (M.Ey C d).1:=by
 have same:∀{r:cT},r.aD=M.aD->r.log=M.log->(∀g,rc r.bY g=rc M.bY g)->Out C d M r:=fun a b c=> .same a b c;unfold cT.Ey;split;rename_i p;unfold cT.step;split;grind;rename_i o;have o:0<=d.a/\d.a<C.aE:=Decidable.not_not.1 o;have j:((d.a.toNat:Nat):Int)<C.aE:=by omega
 have e:d.nY=0/\d.a=(d.a.toNat:Nat):=⟨p,by omega⟩;dsimp only;split;grind;split;grind;rename_i f;have f:M.bY.calls ((d.a.toNat:Nat):Int)=false:=by
  rw[<-e.2];unfold cT.waits at f;simpa using f
 split;rename_i r v;exact .ev _ _ _ j e f rfl rfl (Mf v) (yu v) fun _=>rfl;split;rename_i a o;exact tg t j e f o;split;exact af j e f;grind
 .split
  .unfold cT.sU;dsimp only;repeat' split
   all_goals first
    |exact same rfl rfl fun _=>rfl
    |exact same Hj.1 Hj.2.1 Hj.2.2
  split;unfold cT.begin;grind;split;rename_i p;unfold cT.finish;split;grind;split;grind;dsimp only;split;grind;rename_i u y;obtain⟨s,J⟩:=aAk y;have D:=(Wa (g:=d.a) t.bY).2 u y;obtain⟨i,j⟩:=Int.eq_ofNat_of_zero_le D.1;obtain⟨x,E,A⟩:=B.op _ _ s;have z:u.core.toNat=i:=by omega
  rw[z] at E ⊢;have F:∀P:cT,P.aD=M.aD->P.log=M.log->(∀g,rc P.bY g=if g=d.a.toNat then none else rc M.bY g)->Out C d M (P.bG i 0 0).1:=by
   intro P p1 K I;have k:aK.bG (P.aD i) i 0 0=(((M.aD i).cK x.b 0).iO ((M.aD i).at'+1),aK.ev (M.aD i) i x ((M.aD i).cJ x.b.toNat) ((M.aD i).cJ x.c.toNat) 0,0):=by
    rw[p1];unfold aK.bG;grind
   have q:(aK.bG (M.aD i) i 0 0).2.2=0:=by rw[<-p1,k]
   unfold cT.bG;dsimp only;rw[aLa (by rw[k];simp)];refine .fin i d.a.toNat (aK.bG (P.aD i) i 0 0).1 (aK.bG (P.aD i) i 0 0).2.1 (by omega) p (by rw[s,j]) (by grind) (by grind) ?_ ?_ ?_ ?_ I;rw[p1];exact vG q;rw[k];exact⟨A,rfl⟩;rw[k];rfl;rw[p1];exact Ph q
  grind;grind
end
section
variable {C:bM} {N:Nat} {M M':cT} {d:Do}
theorem cn {m:Mon} (a:iF C m) {g:Nat} {c:Int} (h:rc m g=some c):0<=c/\c<C.aE:=by
 unfold rc at h;cases hr:m.runs g with
 |none=>rw[hr] at h;cases h
 |some r=>
  rw[hr] at h;cases h;exact(a.run g r hr).2.2.2.1
theorem W5.out (hC:C.Ok) (u:eI C N M) (o:W5 M) (E:Out C d M M'):W5 M':=by
 have x:∀{i:Nat},M.bY.calls i=false->∀g c,rc M.bY g=some c->c.toNat≠i:=by
  intro i O g c f e;have q:=cn u.bY f;have:c=i:=by omega
  subst this;have:=(Qj hC u.bY).2 ⟨g,f⟩;grind
 cases E with
 |same q t j=>exact⟨fun g c f=>by rw[q];exact o.op g c (by rw[<-j];exact f),fun g p c a b=>o.one g p c (by rw[<-j];exact a) (by rw[<-j];exact b)⟩
 |ev i s v A z B q t D F j=>
  refine⟨fun g c f=>?_,fun g p c a b=>o.one g p c (by rw[<-j];exact a) (by rw[<-j];exact b)⟩;rw[j] at f;rw[q];unfold aR;rw[aLa (x B g c f)];exact o.op g c f
 |ask i g A z B q t I j=>
  constructor;intro p c f;rw[j] at f;rw[q];split at f;cases f;exact I;exact o.op p c f;intro g1 g2 c a b;rw[j] at a b;split at a;grind;split at b;grind;exact o.one g1 g2 c a b
 |fin i g s v A z f q t D R K F j=>
  constructor;intro p c k;rw[j] at k;split at k;cases k;rename_i y;rw[q];unfold aR;have J:=cn u.bY k;rw[aLa (fun e=>y (o.one p g c k (by grind)))];exact o.op p c k;intro g1 g2 c a b;rw[j] at a b;split at a;cases a;split at b;cases b;exact o.one g1 g2 c a b
def qm (i:Nat) (s:aK):List Ev->Option aK
 |[]=>some s
 |x::l=>if x.core=i then(match rp i s x with|some t=>qm i t l|none=>none) else qm i s l
theorem Q8 {i:Nat}:∀{l:List Ev} {s t:aK} {x:Ev},qm i s l=some t->qm i s (l++[x])=if x.core=i then rp i t x else some t
 |[],s,t,x,h=>by
  cases h;show qm i s [x]=_;unfold qm;split;cases rp i s x<;>rfl;rfl
 |y::l,s,t,x,h=>by
  rw[List.cons_append];unfold qm at h ⊢;split;rename_i e;rw[aLb e] at h;cases hr:rp i s y with
  |none=>rw[hr] at h;cases h
  |some u=>rw[hr] at h;exact Q8 h
  rename_i e;rw[aLa e] at h;exact Q8 h
def RPs (C:bM) (S:Nat->aK) (M:cT):Prop:=∀i:Nat,(i:Int)<C.aE->qm i (S i) M.log=some (M.aD i)
theorem RPs.out {S:Nat->aK} (h:RPs C S M) (u:Out C d M M'):RPs C S M':=by
 have one:∀{i:Nat} {s:aK} {v:Ev},M'.aD=aR M.aD i s->M'.log=M.log++[v]->v.core=i->rp i (M.aD i) v=some s->RPs C S M':=by
  intro i s v a b k o j t;rw[a,b,Q8 (h j t)];unfold aR;by_cases e:j=i;subst e;rw[aLb k,aLb rfl];exact o;grind
 cases u with
 |same a b p=>intro i f;rw[a,b];exact h i f
 |ev i s v f q x a b k o p=>exact one a b k o
 |ask i g f q x a b B p=>intro i f;rw[a,b];exact h i f
 |fin i g s v f q z a b k A y o p=>exact one a b k o
structure y6 (C:bM) (S:Nat->aK) (N:Nat) (M:cT):Prop where
 inv:eI C N M
 wait:W5 M
 qm:RPs C S M
theorem y6.Ey {S:Nat->aK} (hC:C.Ok) (h:y6 C S N M):y6 C S (N+2) (M.Ey C d).1:=by
 have a:=aA7 (d:=d) hC h.inv h.wait;exact⟨aCm h.inv hC,h.wait.out hC h.inv a,h.qm.out a⟩
theorem y6.len {S:Nat->aK} (h:y6 C S N M):M.log.length<=N:=h.inv.log
theorem y6.runs {S:Nat->aK} (hC:C.Ok):∀{l:List Do} {N:Nat} {M:cT},y6 C S N M->y6 C S (N+2*l.length) (M.runs C l):=by
 intro l;induction l with
 |nil=>intro N M h;exact h
 |cons d l a=>
  intro N M h;have:=a (h.Ey (d:=d) hC);rw[List.length_cons,show N+2*(l.length+1)=N+2+2*l.length by omega];exact this
theorem qo:(M.xA C [d] 0).1=(M.Ey C d).1:=by
 unfold cT.xA;split;rfl;rfl
end
end Go.Mc
namespace Go.Proofs.YtajjljbmfdboaaaGreatDoor
open Go Go.Ab Go.Hm Go.At Go.Mc Go.Ct Go.Nt Go.Is
section
theorem Pw {C:bM} {ps:List (List Ins)} {ws os vs:List Int} (h:Cw C ps ws os vs=0):∀i:Nat,(i:Int)<C.aE->(Oj ps ws i).Ok:=by
 obtain⟨hC,k,o,p,q,e,s,t⟩:=Hn h;intro i u;have b:i<ps.length:=by omega
 have g:ps.getD i []∈ps:=by rw[List.getD_eq_getElem?_getD,List.getElem?_eq_getElem b];exact List.getElem_mem _
 have a:=A.Ac e _ g;have f:=A.Pj a;refine⟨show(0:Int)<=0 by decide,show(0:Int)<=32 by decide,rfl,f,fun x j=>?_⟩;unfold lF at a;rw[aLa (by omega)] at a;exact Xh _ _ a x j
theorem aC9 {C:bM} {ps:List (List Ins)} {ws os vs:List Int} (h:Cw C ps ws os vs=0):eI C 0 (MC.new ⟨C,ps,ws,os,vs⟩):=by
 obtain⟨hC,t,u,a,v,y,z,b⟩:=Hn h;refine⟨⟨?_,?_,fun g r q=>by cases q⟩,Pw h,fun i f=>U8,fun i f=>⟨?_,?_⟩,fun l j=>?_,⟨fun c w=>?_,fun c w n k=>by cases k⟩,Nat.le_refl 0⟩;show(os.map fun o=>(⟨o,false⟩:iE)).length=_;rw[List.length_map];exact a;intro x s;obtain⟨o,p,rfl⟩:=List.mem_map.1 s;exact b o p;show((0:Nat):Int)<=C.entries;have:1<=C.entries:=by unfold bM.Ok at hC;omega
 omega;show(0:Int)<=0/\(0:Int)<C.aS;have:=hC.2.1.1;omega;have e:((MC.new ⟨C,ps,ws,os,vs⟩).home l).1=xN:=by
  show(sE C.lines l).1=xN;unfold sE;rw[aLb j]
 rw[e];exact⟨aCn l,Nat.zero_le _⟩;show((0:Nat):Int)<=C.depth;have:1<=C.depth:=hC.2.2.2.2.1.1;omega
theorem aBm {C:bM} {ps:List (List Ins)} {ws os vs:List Int} (h:Cw C ps ws os vs=0):Mc.y6 C (Oj ps ws) 0 (MC.new ⟨C,ps,ws,os,vs⟩):=
 ⟨aC9 h,⟨(fun g c a=>by cases a),(fun g b c a=>by cases a)⟩,fun i e=>rfl⟩
set_option maxRecDepth 100000
attribute [local irreducible] bE Br rT vO vB Dv nP xS mZ Ti iN nG pU sP rF lJ Cy xP Ya Xx Tj R3 Xc Td Rx Ub U1 mF pL vA kI copyV jQ zM Xp Yw Iz mA Pp Wr X7 pT tO Ao Cx Cl Bc Xb uL uF lI iQ cS cB
variable {G:Bg} {h:AH} {L L':List HP} {Q:Value->AH->Prop} {Cf:bM} {m N:Nat} {M:cT}
def bg (G:Bg) (v:Value) (l:List Do):Prop:=uU G 4 v (l.map Do.enc).length (fun i=>(l.map Do.enc).getD i [])
theorem aAb {v:Value} {l:List Do} (a:bg G v l) (b:Hs G h L):Hs G h (zX G 4 23 v (l.map Do.enc)::L):=Ak (by simp[Do.enc]) a b
theorem aFz {v:Value} {l:List Do} {k:Value->Prop} (b:bg G v l) (a:k (I l.length)):bE (lJ v) k:=A.sY b (by rw[List.length_map];exact a)
theorem aDw {d:Do} {a:Addr} {c:Nat} {k:Value->AH->Prop} (hC:Cf.Ok) (hG:Gb G) (f:eI Cf N M) (i:N<=2^28) (b:Hs G h (dI 4 23 (some a) c (1,d.enc)::bT G Cf m M::L))
  (g:∀e,Hs G e (bT G Cf m (M.Ey Cf d).1::L)->k (.tuple ⟨[I (M.xA Cf [d] 0).2.1,I (M.xA Cf [d] 0).2.2]⟩) e):Cl Pr K 15 [pt m 0 0,.slice (some a) 1 c] h k:=by
 have b:=xn (l:=[d].map Do.enc) (n:=1) (cs:=d.enc) (by simp[Do.enc]) rfl (by simp) b
 refine aEc (l:=[d]) (v:= .slice (some a) 1 c) hC hG f (by simp;omega) b fun h b=>g h ?_
 rw[qo] at b
 exact b.tail
end
end Go.Proofs.YtajjljbmfdboaaaGreatDoor
namespace Go.Ab
open Go Go.RowKit Go.ChangeShapes Go.WideShapes Go.ChangeAt
section
variable {P:Program} {H:Type} {enc:TypeId×Value->H} {w:World} {base:Nat} {spare:Nat->Bool} {held:Bool}
theorem aBz {ρ:iT} {v:Value}:aF ρ top v:=by simp[top,aF]
theorem cx {ρ:iT}:∀{l l':List Value},l.length=l'.length->(∀(j:Nat) (u v:Value),l[j]?=some u->l'[j]?=some v->aF ρ u v)->aY ρ l l'
 |[],[],_,_=>aY.nil
 |u::l,v::l',h,k=>aY.cons (k 0 u v rfl rfl) (cx (by simpa using h) fun j a b e f=>k (j+1) a b (by simpa using e) (by simpa using f))
 |[],_::_,h,_=>by simp at h
 |_::_,[],h,_=>by simp at h
def aG0 (P:Program) (w:World) (ρ:iT) (r:OB):Prop:=
 (∀o,r.1=some o->∀b s,r.2=some (b,s)->∃a,w.heap[b]?=some a/\uO P ρ s o a)/\(∀b s,r.2=some (b,s)->b<w.heap.size)
theorem Y5.at' {r:OB} (h:Y5 P w r) (ρ:iT):aG0 P w ρ r:=⟨fun o g b s f=>let⟨i,a,e⟩:=h.1 o g b s f;⟨i,a,e ρ⟩,h.2⟩
theorem j4 {g:Nat} {gl:Nat->Option nD} {rs:List OB} (x:P.globals.size<=g) (u:g<=w.heap.size) (f:aB8 P g gl w) (k:∀r∈rs,aG0 P w (sM g rs) r):Reads P (g+rs.length) (zK g gl rs) (sM g rs) w where
 sA:=fun i o j e b s a=>by
  have t:=a;unfold zK at e;unfold sM at a;split at e;rename_i h;rw[aLb h] at a;cases a;obtain⟨v,p,q⟩:=f i o h e;exact⟨v,p,q _⟩;rename_i h;rw[aLa h] at a;rw[List.getElem?_eq_getElem (by omega)] at e a;exact(k _ (List.getElem_mem (by omega))).1 o e b s a
 low:=fun i b s j a=>by
  unfold sM at a;split at a;cases a;omega;rw[List.getElem?_eq_getElem (by omega)] at a;exact(k _ (List.getElem_mem (by omega))).2 b s a
 none:=fun i j=>by unfold sM;rw[aLa (by omega),List.getElem?_eq_none (by omega)];rfl
 qL:=fun i j=>by unfold sM;rw[aLb (by omega)]
def E9 (k:List (Option IntKind)) (w:World) (a:Option Addr) (len cap:Nat):Prop:=
 (a=none/\len=0/\cap=0)\/(∃x,a=some x/\len=0)\/
 ∃x cc e j,a=some x/\0<len/\x.spot=none/\len<=cap/\w.heap[x.block]?=some (.cells cc e j)/\x.off+len<=cc.size/\
  ∀i,i<len->∃b g f,cc.toList[x.off+i]?=some (.slice b g f)/\jW k w b g f
theorem pn {t e e2:TypeId} {n fuel:Nat} {u:List (Option IntKind)} {cs:List Value} {x:DataW H×List MemPlace} (ht:P.underlying t=some (.slice e)) (U:P.underlying e=some (.slice e2)) (W:sR P n e2=some u) (D:P.cellsOf e2=u.length) (hc:P.cellsOf e=1) (S:0<u.length)
  (h:DataW.trod enc P w base spare held fuel t cs=some x):∃a len k,cs=[.slice a len k]/\len<=maxLen/\E9 u w a len k:=by
 rcases DataW.trod_slice ht h with⟨rfl,_⟩|⟨a,len,k,elems,rest,m,_,rfl,_,z,X,hm,K,F,_,_⟩
 .exact⟨none,0,0,rfl,Nat.zero_le _,.inl ⟨rfl,rfl,rfl⟩⟩
 refine⟨some a,len,k,rfl,by omega,?_⟩
 rcases Nat.eq_zero_or_pos len with B|B
 .exact .inr (.inl ⟨a,rfl,B⟩)
 refine .inr (.inr ?_)
 have each:∀i,i<len->∃f j g,w.cell? (a.add i)=some (.slice f j g)/\jW u w f j g:=by
  intro i I;have q:=F i I;rw[List.getElem?_eq_getElem (by omega),hc,Option.bind_eq_some_iff] at q;obtain⟨c,p,hy⟩:=q;obtain⟨f,j,g,E,Y⟩:=Hx U W D S hy;subst E;refine⟨f,j,g,?_,Y⟩;unfold World.cells? at p;split at p;have:=mapM_some_get p 0 0 (by simp);rw[Nat.mul_one] at this;have R:(a.add i).add 0=a.add i:=rfl;rw[R] at this;simpa using this;cases p
 obtain⟨a0,l0,c0,b,Z⟩:=each 0 B
 obtain⟨cc,O,v,z,A⟩:∃cc e v,w.heap[a.block]?=some (.cells cc e v)/\a.spot=none:=by
  have J:a.add 0=a:=rfl;rw[J] at b;unfold World.cell? at b;split at b;rename_i c e v z;split at b;cases b;rename_i A;exact⟨c,e,v,z,by simpa using A⟩;cases b
 have s:∀o,w.cell? ⟨a.block,o,none⟩=cc[o]?:=by
  intro o;unfold World.cell?;rw[z];simp
 have y:∀i,i<len->∃f j g,cc.toList[a.off+i]?=some (.slice f j g)/\jW u w f j g:=by
  intro i I;obtain⟨f,j,g,q,T⟩:=each i I;rw[Z5 A,s] at q;exact⟨f,j,g,by rw[Array.getElem?_toList];exact q,T⟩
 refine⟨a,cc,O,v,rfl,B,A,X,z,?_,y⟩
 obtain⟨f,j,g,q,_⟩:=y (len - 1) (by omega)
 have:=(List.getElem?_eq_some_iff.1 q).1
 simp at this
 omega
theorem Kx {W:World} {t:TypeId} {fs:Array Field} {i:Nat} {f:Field} {l:List Value} {d:DataW H} {p:List MemPlace} {n:Nat} {k:List (Option IntKind)} (q:P.underlying t=some (.struct fs)) (g:fs[i]?=some f) (o:sR P n f.type=some k)
  (h:DataW.Trod enc P W 0 (fun _=>true) true t (.agg ⟨l⟩) d p):Flat k ((l.drop f.offset).take (P.cellsOf f.type)):=by
 obtain⟨fuel,b⟩:=h
 obtain⟨u,m,_,_,v,s,a⟩:=DataW.trod_struct q b
 have j:=a i f g
 have e:i<u.length:=by rw[s];exact(Array.getElem?_eq_some_iff.1 g).1
 rw[List.getElem?_eq_getElem e] at j
 have:=O5 n o j
 simpa [Value.cells] using this
theorem Ly {W:World} {t e e2:TypeId} {fs:Array Field} {i:Nat} {f:Field} {l:List Value} {d:DataW H} {p:List MemPlace} {n:Nat} {k:List (Option IntKind)} (F:P.underlying t=some (.struct fs)) (u:fs[i]?=some f)
  (I:P.underlying f.type=some (.slice e)) (s:P.underlying e=some (.slice e2)) (y:P.cellsOf f.type=1) (A:P.cellsOf e=1) (B:sR P n e2=some k) (hc:P.cellsOf e2=k.length) (x:0<k.length)
  (h:DataW.Trod enc P W 0 (fun _=>true) true t (.agg ⟨l⟩) d p):∃a len b,l[f.offset]?=some (.slice a len b)/\len<=maxLen/\E9 k W a len b:=by
 obtain⟨fuel,o⟩:=h
 obtain⟨K,m,_,_,R,J,g⟩:=DataW.trod_struct F o
 have v:=g i f u
 have q:i<K.length:=by rw[J];exact(Array.getElem?_eq_some_iff.1 u).1
 rw[List.getElem?_eq_getElem q] at v
 obtain⟨a,len,b,j,D,E⟩:=pn I s B hc A x v
 refine⟨a,len,b,?_,D,E⟩
 rw[y] at j
 have O:(Value.cells (.agg ⟨l⟩)).toList=l:=by simp[Value.cells]
 have:=congrArg (fun z=>z[0]?) j
 simpa [Value.cells] using this
structure aHr (P:Program) (w:World) (ks:List (Option IntKind)) (k0:Nat) (a:Option Addr) (len cap:Nat) (r:OB) (rs:List OB) (t:Nat->Value) (vs:List Value) (ns:List Nat) (at':Nat->Nat->List Value):Prop where
 ok:∀x∈rs,Y5 P w x
 out:∀ρ:iT,(∀i x,rs[i]?=some x->ρ (k0+i)=x.2)->aG0 P w ρ r
 rel:∀ρ k,ρ k=r.2->aF ρ (t k) (.slice a len cap)
 lvs:vs.length=len
 kL:ns.length=len
 flat:∀i n,ns[i]?=some n->∀j,j<n->Flat ks (at' i j)
 old:∀(G:Bg) k,k<G.base->G.old k=r.1->(∀i x,rs[i]?=some x->k0+i<G.base/\G.old (k0+i)=x.1)->
  uU G 1 (t k) len (fun i=>[vs.getD i undef])/\yf G (t k) len/\∀i v n,vs[i]?=some v->ns[i]?=some n->uU G ks.length v n (at' i)/\yf G v n
theorem xp (P:Program) {E:List (Option IntKind)} {a:Option Addr} {len cap:Nat} (q:Nat) (h:E9 E w a len cap):∃r rs t vs ns at',aHr P w E q a len cap r rs t vs ns at':=by
 rcases h with⟨rfl,rfl,rfl⟩|⟨x,rfl,rfl⟩|⟨x,cc,e,S,rfl,h0,hs,hl,hb,β,hf⟩;exact⟨(none,none),[],fun _=> .slice none 0 0,[],[],fun _ _=>[],⟨fun x Z=>(by cases Z),fun ρ _=>⟨fun o h=>(by cases h),fun b s h=>(by cases h)⟩,fun ρ k _=>(by simp only[aF]),rfl,rfl,fun i n B=>(by simp at B),fun G k _ _ _=>⟨⟨none,0,rfl,fun i f=>(by omega)⟩,.inl ⟨rfl,rfl⟩,fun i v n p=>(by simp at p)⟩⟩⟩;refine⟨(none,none),[],fun _=> .slice (some ⟨0,0,some 0⟩) 0 0,[],[],fun _ _=>[],⟨fun x Z=>(by cases Z),fun ρ _=>⟨fun o h=>(by cases h),fun b s h=>(by cases h)⟩,fun ρ k _=>?_,rfl,rfl,fun i n B=>(by simp at B),fun G k _ _ _=>⟨⟨some ⟨0,0,some 0⟩,0,rfl,fun i f=>(by omega)⟩,.inr (.inl ⟨rfl,rfl⟩),fun i v n p=>(by simp at p)⟩⟩⟩;simp only[aF];exact⟨trivial,trivial,x,cap,fun h=>by omega,fun h=>by omega,rfl⟩;have I:∀i,∃(y:OB×(Nat->Value)×(Nat->List Value)×Nat×Value),i<len->cc.toList[x.off+i]?=some y.2.2.2.2/\Y5 P w y.1/\(∀ρ k,ρ k=y.1.2->aF ρ (y.2.1 k) y.2.2.2.2)/\(∀j,j<y.2.2.2.1->Flat E (y.2.2.1 j))/\
   ∀(G:Bg) k,k<G.base->G.old k=y.1.1->uU G E.length (y.2.1 k) y.2.2.2.1 y.2.2.1/\yf G (y.2.1 k) y.2.2.2.1:=by
  intro i
  by_cases f:i<len
  .obtain⟨a',l',c',A,T⟩:=hf i f;obtain⟨r,t,U,h4,at',h5,h6⟩:=xK P T;exact⟨(r,t,at',l',.slice a' l' c'),fun _=>⟨A,U,h4,h5,h6⟩⟩
  .exact⟨((none,none),fun _=>undef,fun _=>[],0,undef),fun h=>absurd h f⟩
 obtain⟨Y,K⟩:∃Y:Nat->OB×(Nat->Value)×(Nat->List Value)×Nat×Value,∀i,i<len->cc.toList[x.off+i]?=some (Y i).2.2.2.2/\Y5 P w (Y i).1/\(∀ρ k,ρ k=(Y i).1.2->aF ρ ((Y i).2.1 k) (Y i).2.2.2.2)/\(∀j,j<(Y i).2.2.2.1->Flat E ((Y i).2.2.1 j))/\
   ∀(G:Bg) k,k<G.base->G.old k=(Y i).1.1->uU G E.length ((Y i).2.1 k) (Y i).2.2.2.1 (Y i).2.2.1/\yf G ((Y i).2.1 k) (Y i).2.2.2.1:=
  ⟨fun i=>(I i).choose,fun i f=>(I i).choose_spec f⟩
 have D:∀{α:Type} (g:Nat->α) (i:Nat) (z:α),((List.range len).map g)[i]?=some z->i<len/\z=g i:=by
  intro α g i z R;have f:i<len:=by have:=(List.getElem?_eq_some_iff.1 R).1;simpa using this
  rw[List.getElem?_map,List.getElem?_range f] at R;simp only[Option.map_some,Option.some.injEq] at R;exact⟨f,R.symm⟩
 refine⟨(some (.cells ((List.range cc.size).map fun j=>if x.off<=j/\j<x.off+len then(Y (j - x.off)).2.1 (q+(j - x.off)) else top) e S false),some (x.block,(0,0))),(List.range len).map fun i=>(Y i).1,fun k=> .slice (some ⟨k,x.off,none⟩) len cap,
     (List.range len).map fun i=>(Y i).2.1 (q+i),(List.range len).map fun i=>(Y i).2.2.2.1,fun i=>(Y i).2.2.1,⟨?_,?_,?_,by simp,by simp,?_,?_⟩⟩
 intro y hy;obtain⟨i,f,rfl⟩:=List.mem_map.1 hy;exact(K i (List.mem_range.1 f)).2.1;intro ρ hρ;refine⟨fun o ho b s J=>?_,fun b s J=>?_⟩;cases ho;cases J;refine⟨_,hb,cc,rfl,?_,by simp,fun h=>by cases h⟩;rw[List.drop_zero,List.take_of_length_le (by simp)];refine cx (by simp) fun j u v O p=>?_;rw[List.getElem?_map] at O;have W:j<cc.size:=by have:=(List.getElem?_eq_some_iff.1 p).1;simpa using this
 rw[List.getElem?_range W] at O;simp only[Option.map_some,Option.some.injEq] at O;subst O;split;rename_i hc;obtain⟨A,_,U,_,_⟩:=K (j - x.off) (by omega);rw[show x.off+(j - x.off)=j by omega,p] at A;simp only[Option.some.injEq] at A;rw[A];refine U ρ _ (hρ (j - x.off) _ ?_);rw[List.getElem?_map,List.getElem?_range (by omega)];rfl;exact aBz;cases J;exact(Array.getElem?_eq_some_iff.1 hb).1;intro ρ k J;simp only[aF];exact⟨x.block,(0,0),cap,J,Nat.le_refl _,by simp,by cases x;simp at hs;subst hs;rfl⟩;intro i n B j W;obtain⟨f,rfl⟩:=D _ i n B;exact(K i f).2.2.2.1 j W;intro G k hk hg F;refine⟨⟨_,_,rfl,fun i f=>⟨k,x.off,_,rfl,⟨hk,e,S,false,hg⟩,?_,by simp;omega⟩⟩,.inr (.inr ⟨k,x.off,cap,_,e,S,rfl,h0,hl,hk,hg⟩),fun i v n p B=>?_⟩;have α:x.off+i*1<cc.size:=by omega
 have X:x.off+i*1<((List.range cc.size).map fun j=>if x.off<=j/\j<x.off+len then(Y (j - x.off)).2.1 (q+(j - x.off)) else top).length:=by simp;omega
 rw[List.drop_eq_getElem_cons X,List.take_succ_cons,List.take_zero];have e1:((List.range len).map fun i=>(Y i).2.1 (q+i)).getD i undef=(Y i).2.1 (q+i):=by
  rw[List.getD_eq_getElem?_getD,List.getElem?_map,List.getElem?_range f];rfl
 show[_]=[((List.range len).map fun i=>(Y i).2.1 (q+i)).getD i undef];rw[e1];simp only[List.getElem_map,List.getElem_range];rw[aLb (by omega),show x.off+i*1 - x.off=i by omega];obtain⟨f,rfl⟩:=D _ i v p;obtain⟨_,rfl⟩:=D _ i n B;obtain⟨A,T⟩:=F i (Y i).1 (by rw[List.getElem?_map,List.getElem?_range f];rfl);exact(K i f).2.2.2.2 G (q+i) A T
end
end Go.Ab
section
open Go Go.Ab
attribute [local irreducible] bE Br rT vO vB Dv nP xS mZ Ti iN nG pU sP rF lJ Cy xP Ya Xx Tj R3 Xc Td Rx Ub U1 mF pL vA kI copyV jQ zM Xp Yw Iz mA Pp Wr X7 pT tO Ao Cx Cl Bc Xb uL uF lI iQ cS cB
namespace Go.Proofs.YtajjljbmfdboaaaGreatDoor
open Go Go.Ab Go.Hm Go.At Go.Mc Go.Ct Go.Nt Go.Is
section
set_option maxRecDepth 100000
variable {G:Bg} {h:AH} {L L':List HP} {Q:Value->AH->Prop} {Cf:bM} {m N:Nat} {M:cT}
end
end Go.Proofs.YtajjljbmfdboaaaGreatDoor
end
namespace Go.Pc
open Go Go.Ab Go.Hm Go.Ct
section
structure CL where
 st:Int
 d:Ln
 oM:Bool
 aw:Bool
 gi:Bool
 gs:Int
 gd:Ln
abbrev xc:=Nat->CL
def isN (k:Int) (i l:Nat) (n:aJ):Bool:=decide (n.kind=k/\n.core=(i:Int)/\n.line=(l:Int))
def eY (k:Int) (i l:Nat) (N:List aJ):Nat:=N.countP (isN k i l)
theorem cR {k:Int} {i l:Nat} {n:aJ} {N:List aJ}:eY k i l (n::N)=eY k i l N+if n.kind=k/\n.core=(i:Int)/\n.line=(l:Int) then 1 else 0:=by
 unfold eY isN;rw[List.countP_cons];simp only[decide_eq_true_eq]
theorem Ec {k:Int} {i l:Nat} {M N:List aJ}:eY k i l (M++N)=eY k i l M+eY k i l N:=List.countP_append
theorem gz {k:Int} {i l:Nat}:eY k i l []=0:=rfl
theorem yg {k:Int} {i l:Nat} {M N:List aJ} (h:M.Perm N):eY k i l M=eY k i l N:=h.countP_eq _
theorem Jc {k:Int} {i l:Nat} {N:List aJ} (h:0<eY k i l N):∃n∈N,n.kind=k/\n.core=(i:Int)/\n.line=(l:Int):=by
 unfold eY at h;obtain⟨n,b,a⟩:=List.countP_pos_iff.1 h;exact⟨n,b,of_decide_eq_true a⟩
theorem fS {k:Int} {i l:Nat} {N:List aJ} {n:aJ} (h:n∈N) (a:n.kind=k) (b:n.core=(i:Int)) (e:n.line=(l:Int)):0<eY k i l N:=
 List.countP_pos_iff.2 ⟨n,h,decide_eq_true ⟨a,b,e⟩⟩
def uK (c:CL) (p:Nat):Int:=if c.st≠0 then c.st else if c.gi=true/\0<p then c.gs else 0
def tJ (c:CL):Ln:=if c.st≠0 then c.d else c.gd
def pd (l:Nat) (r:Row) (N:List aJ) (i:Nat):Nat:=eY 3 i l N+eY 3 i l r.waits
def HH (l:Nat) (r:Row) (c:xc) (N:List aJ) (i:Nat):Int:=uK (c i) (pd l r N i)
def An (r:Row) (i:Nat):Nat:=if r.busy=true/\r.granted=false/\r.served.kind≠0/\r.served.core=(i:Int) then 1 else 0
def wI (r:Row) (i:Nat):Nat:=if r.granted=true/\r.served.core=(i:Int) then 1 else 0
structure Inv (l:Nat) (r:Row) (m V:Ln) (c:xc) (N:List aJ):Prop where
 row:oP l r
 ks:r.busy=true->r.served.kind=0\/r.served.kind=1\/r.served.kind=2
 kg:r.granted=true->r.served.kind≠0
 told:r.told=true->r.granted=true
 nc:∀n∈N,n.line=l/\0<=n.core/\n.core<4
 ex:∀i,i<4->(c i).st≠0\/(c i).oM=true->(c i).gi=false
 uR:∀i,i<4->(0<=(c i).st/\(c i).st<=4)/\(0<=(c i).gs/\(c i).gs<=4)
 t1:∀i,i<4->eY 1 i l N+eY 2 i l N+eY 1 i l r.waits+eY 2 i l r.waits+An r i+eY 8 i l N+eY 9 i l N=(c i).oM.toNat
 t2:∀i,i<4->eY 3 i l N+eY 3 i l r.waits+eY 10 i l N=(c i).gi.toNat
 t3:∀i,i<4->eY 11 i l N+eY 5 i l N=(r.asked i).toNat
 t4:∀i,i<4->eY 8 i l N+eY 4 i l N=wI r i
 a1:∀i,i<4->(c i).oM=true->HH l r c N i≠2/\HH l r c N i≠4
 a2:∀i,i<4->(c i).oM=true->(c i).aw=false->HH l r c N i=0
 rq:∀n,n∈N\/n∈r.waits->n.kind=1\/n.kind=2->(n.kind=2↔(c n.core.toNat).aw=true)
 rs:r.busy=true->r.granted=false->r.served.kind≠0->(r.served.kind=2↔(c r.served.core.toNat).aw=true)
 c1:∀i,i<4->eY 5 i l N=0->eY 8 i l N=0->(HH l r c N i=1↔r.sh i=true)/\(2<=HH l r c N i↔r.owner=(i:Int))
 c2:∀i,i<4->HH l r c N i=2\/HH l r c N i=4->∀j,j<4->j≠i->HH l r c N j=0
 Bn:∀i,i<4->HH l r c N i=2\/HH l r c N i=4->∀n∈N,n.kind=5->n.kC=false
 gN:∀n∈N,n.kind=8->(n.state=1\/n.state=2\/n.state=4)/\(n.state=4↔(c n.core.toNat).aw=true)/\
  (n.state=1->r.sh n.core.toNat=true/\HH l r c N n.core.toNat=0/\∀j,j<4->HH l r c N j≠2/\HH l r c N j≠4)/\
  (n.state≠1->r.owner=n.core/\∀j:Nat,j<4->r.sh j=false/\((j:Int)≠n.core->HH l r c N j=0))/\
  (n.state=2->HH l r c N n.core.toNat=0)/\(HH l r c N n.core.toNat=0->(n.d0,n.d1)=V)
 pN:∀n∈N,n.kind=11->n.state=(if r.served.kind=1 then 1 else 0)/\(r.sh n.core.toNat=true\/r.owner=n.core)/\(r.served.kind=1->r.owner=n.core)
 rN:∀n∈N,n.kind=5->(r.served.kind≠1->HH l r c N n.core.toNat=0)/\
  (r.served.kind=1->r.owner=n.core/\n.state=HH l r c N n.core.toNat/\((n.state=1/\n.kC=false)\/(n.state=3/\n.kC=true)))/\(n.kC=true->(n.d0,n.d1)=V)
 uN:∀n,n∈N\/n∈r.waits->n.kind=3->(n.d0,n.d1)=(c n.core.toNat).gd/\((c n.core.toNat).gs=3\/(c n.core.toNat).gs=4->n.kC=true)
 c3:∀i,i<4->HH l r c N i≠0->tJ (c i)=V
 c5:(∀i,i<4->HH l r c N i≠3/\HH l r c N i≠4)->(∀n∈N,n.kind=5->n.kC=false)->m=V
 k2:r.busy=true->r.granted=false->r.served.kind≠1->∀j:Nat,j<4->(r.served.kind=2->(j:Int)≠r.served.core)->r.sh j=true\/r.owner=(j:Int)->r.asked j=true
variable {l:Nat} {r:Row} {m V:Ln} {c:xc} {N N':List aJ}
theorem Inv.perm (h:Inv l r m V c N) (p:N.Perm N'):Inv l r m V c N':=by
 have e:∀k i,eY k i l N'=eY k i l N:=fun k i=>(yg p).symm;have a:∀i,HH l r c N' i=HH l r c N i:=fun i=>by unfold HH pd;rw[e]
 have em:∀n,n∈N'↔n∈N:=fun n=>p.symm.mem_iff;constructor;exact h.row;exact h.ks;exact h.kg;exact h.told;intro n f;exact h.nc n ((em n).1 f);exact h.ex;exact h.uR;intro i b;simp only[e];exact h.t1 i b;intro i b;simp only[e];exact h.t2 i b;intro i b;simp only[e];exact h.t3 i b;intro i b;simp only[e];exact h.t4 i b;simp only[a];exact h.a1;simp only[a];exact h.a2;simp only[em];exact h.rq;exact h.rs;simp only[e,a];exact h.c1;simp only[a];exact h.c2;simp only[a,em];exact h.Bn;simp only[a,em];exact h.gN;simp only[em];exact h.pN;simp only[a,em];exact h.rN;simp only[em];exact h.uN;simp only[a];exact h.c3;simp only[a,em];exact h.c5;exact h.k2
end
end Go.Pc
