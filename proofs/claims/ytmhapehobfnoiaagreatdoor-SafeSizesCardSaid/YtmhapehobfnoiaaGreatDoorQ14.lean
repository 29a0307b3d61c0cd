/- A part of the proof. -/
import Derived.Test.YtmhapehobfnoiaaGreatDoorQ13
import Derived.Test.YtmhapehobfnoiaaGreatDoorQ12
import Derived.Test.YtmhapehobfnoiaaGreatDoorQ11
import Derived.Test.YtmhapehobfnoiaaGreatDoorQ10
import Derived.Test.YtmhapehobfnoiaaGreatDoorQ9
section
open Go Go.Ab
attribute [local irreducible] bA Br ld1 rT sH A2 lH tD kC Nk fZ lT oX oU nW kS xH sY Ts Pe No M5 Qt Ns Ei Gm Sb jV nR qR iK copyV gZ vD Tg Tm E6 jX Kb Pq Tl mL pD uW vP Cl xS Tb qW qT jA eX cS bZ
namespace Go.Proofs.YtmhapehobfnoiaaGreatDoor
open Go Go.Ab Go.Hm Go.At Go.Mc Go.Ct Go.Nt
section
theorem Gw {C:bQ} {S:Nat->List Th} {l at' a:Int} {w:Bool} (b:0<=l/\l<C.lines) (e:0<=at'/\at'<2) (c:oS C.bC.toNat S l a w=true):qX C S l at' a w=0:=by
 unfold qX yA;rw[decide_eq_true b,aLx (by simp),aab,aab,aLx (by rw[c];simp)]
theorem aAb {C:bQ} {s:jJ} (f:mF C s) {l b at':Int} {w:Bool} (c:0<=l/\l<C.lines) (e:0<=at'/\at'<2) (a:oS C.bC.toNat s.S l b w=true):oS C.bC.toNat (tQ C s l at' b).S l b w=true:=by
 unfold tQ;rw[aLy (Gw c e (Vv a))];have g:(cF C.bC.toNat s.S l).2=0:=by
  unfold oS at a;grind
 unfold oS at a ⊢;rw[vt f.bC g];exact a
set_option maxRecDepth 100000
variable {G:Bg} {h:AH} {L L':List HP} {Q:Value->AH->Prop} {Cf:bQ} {m:Nat} {M:cX}
theorem ud {i:Nat} {a:Acc} {p2:Nat} {line at' k:Int} (hC:Cf.Ok) (hG:Gb G) (E:(i:Int)<Cf.aD) (hb:mF Cf (M.cC i)) (F:(M.aR i).Ok) (q:M.log.length<=2^30) (B:0<=line/\line<Cf.lines) (D:0<=at'/\at'<2) (u:oS Cf.bC.toNat (M.cC i).S line k a.write=true)
  (f:Hs G h (bB G Cf m M::aE p2 0 (sX a)::L)) (p:∀r,Hs G r (bB G Cf m (M.Ni Cf i line at' k a).1::L)->Q (I (M.Ni Cf i line at' k a).2) r):Dd 167 6 [] Q [(pt m 0 0),(I i),(pt p2 0 0),(I line),(I at'),(I k)] h:=by
 unfold cX.Ni at p
 have wr:∀(s:jJ) (v:Int) (h:AH),mF Cf s->oS Cf.bC.toNat s.S line k a.write=true->Hs G h (bB G Cf m (M.tA i s)::aE p2 0 (sX a)::L)->
   (∀r,Hs G r (bB G Cf m ((M.tA i (if a.write then nJ Cf s line at' k a.value else s)).cH i v 0).1::L)->Q (I ((M.tA i (if a.write then nJ Cf s line at' k a.value else s)).cH i v 0).2) r)->
   Dd 167 8 [] Q [(pt m 0 0),(I i),(pt p2 0 0),(I line),(I at'),(I k),(I v)] h:=by
  intro s v h hb u f p
  refine bW (aA (am p2 f rfl (dH (fun A=>?_) (fun A=>?_))))
  .rw[A] at u;rw[aLy A] at p;obtain⟨x,y,f⟩:=cQ f;have g:i<x.lk.length:=by have:=y.2.1;omega
   refine bW (aS f fun J h f=>aB (aA (am m f rfl (zE f g (aA (am p2 f rfl ?_))))))
   have f:=eR (R:=kK G Cf) (l:=x.lk) (s:=cB M.cC i s) g f
   rw[show cB M.cC i s i=s by unfold cB;rw[aLy rfl]] at f
   refine C.mh (C:=Cf) (core:=(i:Int)) (c:=x.lk.getD i 0) (s:=s) hC hb (Gw B D u) hG.lim hG.row f fun h f=>aX (aaa ?_)
   have f:=tO (Cf:=Cf) (l:=x.lk) (s:=cB M.cC i s) (i:=i) (t:=nJ Cf s line at' k a.value) g f
   rw[show cB (cB M.cC i s) i (nJ Cf s line at' k a.value)=cB M.cC i (nJ Cf s line at' k a.value) by funext j;unfold cB;split<;>rfl] at f
   have f:=bI (m:=m) (x:=x) (M.tA i (nJ Cf s line at' k a.value)) y f
   exact nH (Cf:=Cf) (M:=M.tA i (nJ Cf s line at' k a.value)) E F q f fun h f=>p _ f.to
  .rw[aLx (by rw[A];simp)] at p;exact nH (Cf:=Cf) (M:=M.tA i s) E F q f fun h f=>p _ f.to
 refine bW (aA (am p2 f rfl (dH (fun z=>?_) (fun z=>?_))))
 .rw[aLy z] at p;rw[aLy z] at p;obtain⟨x,y,f⟩:=cQ f;have g:i<x.lk.length:=by have:=y.2.1;omega
  refine bW (aB (aA (am m f rfl (zE f g ?_))))
  have f:=eR (R:=kK G Cf) (l:=x.lk) (s:=M.cC) g f
  refine C.wo (C:=Cf) (core:=(i:Int)) (c:=x.lk.getD i 0) (s:=M.cC i) hC hb (Gw B D (Vv u)) hG.lim hG.row f fun h f=>aG rfl (aG rfl (aX (aaa ?_)))
  have f:=tO (Cf:=Cf) (l:=x.lk) (s:=M.cC) (i:=i) (t:=tQ Cf (M.cC i) line at' k) g f
  have f:=bI (m:=m) (x:=x) (M.tA i (tQ Cf (M.cC i) line at' k)) y f
  refine wr _ _ h (Pu hb) (aAb hb B D u) f.to fun r f=>?_
  exact p _ f
 .rw[aLx (by rw[z];simp)] at p;rw[aLx (by rw[z];simp)] at p;refine wr (M.cC i) 0 h hb u ?_ fun r f=>p _ f;have e:M.tA i (M.cC i)=M:=by unfold cX.tA;rw[bS]
  rw[e]
  exact f.to
theorem X7 {i:Nat} {a:Acc} (hC:Cf.Ok) (hG:Gb G) (u:(i:Int)<Cf.aD) (hb:mF Cf (M.cC i)) (F:(M.aR i).Ok) (r:(M.bT i).known.length<=100) (T:cv Cf M.iZ) (g:M.log.length<=2^30) (e:Hs G h L) [Y:Has (bB G Cf m) L M L'] (f:∀O,Hs G O (bB G Cf m (M.access Cf i a).1::L')->Q (I (M.access Cf i a).2) O):Cl Pr K 167 [pt m 0 0,I i,.agg ⟨sX a⟩] h Q:=by
 unfold cX.access at f;have X:=(bQ.eP hC).2.2;refine cW (dL (cs:=sX a) (Y.of e) fun J h e=>aS e fun rr h e=>?_);obtain⟨x,j,e⟩:=cQ (e.front (bB G Cf m M));have U:∀{h:AH} {N:List HP},Hs G h (aE m 0 (eW Cf x M.log.length)::Ug x.ac x.cc x.lc::Ot x.ak x.ck x.lk::Oo x.aq x.cq x.lq::
  iY mQ x.lc M.aR::iY (kK G Cf) x.lk M.cC::iY (kG Cf) x.lq M.bT::H.fO G x.hb Cf M.home::fD Cf x.mb M.dG::lI Cf x.fb M.iZ::Bo x.al x.cl M.log::N)->Hs G h (bB G Cf m M::N):=fun e=>vL j e
 have q:i<x.lq.length:=by have:=j.2.2;omega
 have v:i<x.lc.length:=by have:=j.1;omega
 refine aB (aA (iV (b:=m) (o:=0) e (by decide) (l:=Cf.enc) rfl rfl (aA (am J e rfl (Fz (C:=Cf) hC hG.lim e fun h e=>?_)))));by_cases z:0<=a.word/\a.word<Cf.lines*2;rotate_left;rw[aLx z];rw[aLy z] at f;have e:=bI (m:=m) (x:=x) M j e;exact aG rfl (aG rfl (aG rfl (aX (aad (nH (Cf:=Cf) (M:=M) u F g e fun h e=>f _ e.to)))));rw[aLy z];rw[aLx (by simpa using z)] at f;obtain⟨w,A⟩:=Int.eq_ofNat_of_zero_le z.1;have V:((a.word.toNat/2:Nat):Int)=a.word/2:=by rw[A];simp
 have W:((a.word.toNat % 2:Nat):Int)=a.word % 2:=by rw[A];simp
 rw[V,W];have y:0<=a.word/2/\a.word/2<Cf.lines:=by omega
 refine aG rfl (aG rfl (aG rfl (aX (aaa (bW (aB (aA (iV (b:=m) (o:=0) e (by decide) (l:=Cf.enc) rfl rfl (G2 (C:=Cf) hC hG.lim e fun h e=>?_)))))))));rw[aLy (show Cf.has (a.word/2) from y)];refine aG rfl (aG rfl (aX (aaa (bW (aS e fun Z h e=>aB (aA (am m e rfl (zN e q (aB (aA (am m e rfl (Bt e v (Ty (l:=x.lc) (S:=M.aR) v e ?_)))))))))))));have e:=eR (R:=kG Cf) (l:=x.lq) (s:=M.bT) q e;refine mv (C:=Cf) (p:=x.lq.getD i 0) (s:=M.bT i) r e fun h e=>?_;have e:=qE (Cf:=Cf) (l:=x.lq) (s:=M.bT) (i:=i) (t:=M.bT i) q e;rw[bS] at e;have e:=bI (m:=m) (x:=x) M j e;dsimp only at f;refine aG rfl (aG rfl (aX (aT (fun B=>?_) (fun B=>?_))));rw[aLy B] at f;exact f _ e.to;rw[aLx B] at f;refine bW (bG (aT (fun D=>?_) (fun D=>?_)));rw[aLy D] at f;exact zh (Cf:=Cf) (M:=M) hC hG u r T e fun h e=>f _ e.to;rw[aLx D] at f;refine bW (bG (aT (fun E=>?_) (fun E=>?_)));rw[aLy E] at f;exact nH (Cf:=Cf) (M:=M) u F g e fun h e=>f _ e.to;rw[aLx E] at f;refine bW (kx (Cf:=Cf) (M:=M) u r e fun h e=>aS e fun r3 h e=>?_);obtain⟨x,j,e⟩:=cQ (e.front (bB G Cf m M));have k:i<x.lk.length:=by have:=j.2.1;omega
 refine aB (aA (am m e rfl (zE e k (aA (am J e rfl ?_)))));have e:=eR (R:=kK G Cf) (l:=x.lk) (s:=M.cC) k e;refine C.R3 (C:=Cf) (core:=(i:Int)) (c:=x.lk.getD i 0) (s:=M.cC i) hC (hb.bd (lG hC).2.2.2) hG.row e fun h e=>?_;have e:=tO (Cf:=Cf) (l:=x.lk) (s:=M.cC) (i:=i) (t:=M.cC i) k e;rw[bS] at e;have e:=bI (m:=m) (x:=x) M j e;cases hmy:oS Cf.bC.toNat (M.cC i).S (a.word/2) (M.known i (a.word/2/2)) a.write with
 |false=>
  rw[aLy hmy] at f;exact bY (dY (bP (aA (am J e rfl (qn (Cf:=Cf) (M:=M) hC hG u hb T e fun h e=>f _ e.to)))))
 |true=>
  rw[aLx (by rw[hmy];simp)] at f;exact bY (dY (dN (ud (L:=L') (Cf:=Cf) (M:=M) hC hG u hb F g y (by omega) hmy e.to fun h e=>f _ e.to)))
end
section
set_option maxRecDepth 100000
variable {G:Bg} {h:AH} {L L':List HP} {Q:Value->AH->Prop} {Cf:bQ} {m:Nat} {M:cX}
theorem gf {l:List Nat} {S:Nat->bE} {i:Nat} {k:Value->Prop} (f:i<l.length) (e:Hs G h L) [j:Has (iY mQ l) L S L'] (g:k (.bool (S i).over)):bA (lT (pt (l.getD i 0) 0 0)) fun v=>bA (fZ 0 v) fun v=>bA (fZ 6 v) fun v=>bA (ld1 h v) k:=by
 have e:=eR (R:=mQ) (l:=l) (s:=S) f e;obtain⟨a,c,e⟩:=mX e;exact aB (aA (aA (aC (b:=l.getD i 0) (o:=0) e rfl g)))
theorem se {d:Do} (hC:Cf.Ok) (hG:Gb G) (T:∀i:Nat,(i:Int)<Cf.aD->sb Cf M i) (f:Hs G h L) [Z:Has (bB G Cf m) L M L'] (g:∀U,Hs G U (bB G Cf m (M.step Cf d.a).1::L')->Q (I (M.step Cf d.a).2) U):Cl Pr K 117 [pt m 0 0,.agg ⟨d.enc⟩] h Q:=by
 unfold cX.step at g;have hc:=hC.1;refine cW (dL (cs:=d.enc) (Z.of f) fun y h f=>aS f fun rr h f=>?_);obtain⟨x,f⟩:=aj (f.front (bB G Cf m M));obtain⟨u,f⟩:=fL f;refine aA (am y f rfl (aI (aT (fun V=>?_) (fun V=>?_))));rw[aae] at g;exact g _ (bI (m:=m) (x:=x) M u f).to;have Y:=u.1;refine aA (am y f rfl (aB (aA (am m f rfl (bH (dV (aT (fun X=>?_) (fun X=>?_))))))));rw[aae] at g;exact g _ (bI (m:=m) (x:=x) M u f).to;rw[aab] at g;obtain⟨w,a,b,c⟩:=d;dsimp only at V X g;obtain⟨i,rfl⟩:=Int.eq_ofNat_of_zero_le (show 0<=a by omega);rw[Int.toNat_natCast] at g;have k:i<x.lc.length:=by omega
 have O:(i:Int)<Cf.aD:=by omega
 have j:=T i O;refine bW (aS f fun r2 h f=>aB (aA (am m f rfl (aA (am y f rfl (Bt f k (gf (l:=x.lc) (S:=M.aR) k f (dH (fun F=>?_) (fun F=>?_)))))))));rw[aLy F] at g;exact g _ (bI (m:=m) (x:=x) M u f).to;rw[aLx (by rw[F];simp)] at g;have f:=gV (m:=m) (x:=x) M u f;refine bW (aA (am y f rfl (Oa (x:=x) (M:=M) j.dG f fun h f=>dH (fun J=>?_) (fun J=>?_))));rw[aLy J] at g;exact g _ (Zj f).to;rw[aLx (by rw[J];simp)] at g;obtain⟨u,f⟩:=fL (f.front (gD G Cf m x M));have f:=eR (R:=mQ) (l:=x.lc) (s:=M.aR) k f;refine bW (xi (i:=i) (p:=x.lc.getD i 0) (s:=M.aR i) j.D7 f fun h f=>?_);cases hlo:bE.pK (M.aR i) i with
 |some r=>
  rw[hlo] at f g;dsimp only at f g;have f:=Ay (l:=x.lc) (s:=M.aR) (i:=i) (t:=r.1) k f;refine aG rfl (aG rfl (bN f fun q h f=>ax (b:=q) f fun h f=>dN (bW (aS f fun r3 h f=>aB (aA (am m f rfl (an q f (l:=r.2.enc) rfl rfl (aJ (c:=r.2.enc) rfl ?_))))))));refine gM (r:=r3) (i:=6) (N:=11) (D:=[]) (W:=7) f rfl rfl rfl rfl rfl fun a h f=>?_;have f:=mR (enc:=Ev.enc) (x:=r.2) f;refine Iy (l:=M.log) (v:=r.2) j.log f fun B E h f=>aB (aA (ay (b:=m) (o:=0) f fun h f=>bV bX (g _ ?_)));have e:dT (eW Cf x M.log.length) (0+13) [.slice B (M.log++[r.2]).length E]=eW Cf {x with al:=B,cl:=E} (M.log++[r.2]).length:=rfl;rw[e] at f;exact(bI (m:=m) (x:={x with al:=B,cl:=E}) ((M.yB i r.1).V1 r.2) u f).to
 |none=>
  rw[hlo] at f g;dsimp only at f g;refine aG rfl (aG rfl (bN f fun q h f=>ax (b:=q) f fun h f=>bP (bW (aEu (i:=i) (p:=x.lc.getD i 0) (s:=M.aR i) j.D7 f fun h f=>?_))));cases has:bE.Xv (M.aR i) i with
  |some r=>
   rw[has] at g;dsimp only at g;have f:=Ay (l:=x.lc) (s:=M.aR) (i:=i) (t:=M.aR i) k f;rw[bS] at f;have f:=bI (m:=m) (x:=x) M u f;exact aG rfl (aG rfl (bN f fun z h f=>ax (b:=z) f fun h f=>dN (aA (am y f rfl (an z f (l:=r.enc) rfl rfl (xc (Cf:=Cf) (M:=M) hC hG O j.dG j.D7 j.log j.iZ f fun h f=>g _ f.to))))))
  |none=>
   rw[has] at g;dsimp only at g;refine aG rfl (aG rfl (bN f fun z h f=>ax (b:=z) f fun h f=>bP (bW (Ou (i:=i) (p:=x.lc.getD i 0) (s:=M.aR i) j.D7 f fun h f=>?_))));have f:=Ay (l:=x.lc) (s:=M.aR) (i:=i) (t:=M.aR i) k f;rw[bS] at f;have f:=bI (m:=m) (x:=x) M u f;cases hac:bE.Iw (M.aR i) with
   |some r=>
    rw[hac] at g;dsimp only at g;exact aG rfl (aG rfl (bN f fun A h f=>ax (b:=A) f fun h f=>bY (dY (dN (aA (am y f rfl (an A f (l:=sX r) rfl rfl (X7 (Cf:=Cf) (M:=M) hC hG O j.I2 j.D7 j.uO j.iZ j.log f fun h f=>g _ f.to))))))))
   |none=>
    rw[hac] at g;dsimp only at g;exact aG rfl (aG rfl (bN f fun A h f=>ax (b:=A) f fun h f=>bY (dY (bP (g _ f.to)))))
end
end Go.Proofs.YtmhapehobfnoiaaGreatDoor
namespace Go.Proofs.YtmhapehobfnoiaaGreatDoor.H
open Go Go.Ab Go.Hm
section
set_option maxRecDepth 100000
variable {G:Bg} {h:AH} {L L':List HP}
theorem rh {C:bQ} {hb:Nat} {H:lB} {x:Int} {Q:Value->AH->Prop} (a:Hs G h L) [m:Has (fO G hb C) L H L'] (c:Hs G h (fO G hb C H::L')->Q (I (D5 C H x)) h):Cl Pr K 63 [pt hb 0 0,I x] h Q:=by
 have c:=c (m.of a);obtain⟨i,b,o,g,a⟩:=nE (m.of a);unfold D5 at c;refine cW (tY a (bY (dY (aT (fun e=>?_) (fun e=>?_)))));obtain⟨l,rfl⟩:=Int.eq_ofNat_of_zero_le e.1;have f:l<C.lines:=by have:=e.2;omega
 obtain⟨j,k,a⟩:=dU (Ij (H:=H) (b:=b) (o:=o) f a);rw[aLy e,Int.toNat_natCast] at c;exact aB (aA (aC a rfl (dO f (aA (aC a rfl (bH c))))));rw[aLx e] at c;exact c
end
section
set_option maxRecDepth 100000
variable {G:Bg} {h:AH} {L L':List HP}
theorem xd (n:Nat):(fun i=>(sU n i).2)=oY:=by funext i;unfold sU oY;split<;>rfl
theorem Jb {C:bQ} (hC:C.Ok) {hb:Nat} {Q:Value->AH->Prop} (l:∀g,Hs G g (fO G hb C (sU C.lines)::L)->Q (.tuple ⟨[pt hb 0 0,I 0]⟩) g):∀(f n:Nat) (h:AH),n+f=C.lines->Hs G h (fO G hb C (sU n)::L)->Dd 39 3 [] Q [(pt hb 0 0),(I C.lines),(I n)] h:=by
 have p:=bQ.eP hC;intro f;induction f with
 |zero=>
  intro n h q a;have:n=C.lines:=by omega
  subst this;exact bW (aI (aaa (l _ a)))
 |succ f r=>
  intro n h q a;have e:n<C.lines:=by omega
  refine bW (aI (aad (bW ?_)));obtain⟨s,b,o,c,a⟩:=D3 e a;obtain⟨t,u,a⟩:=dU a;refine aB (aA (aC a rfl (dO e (aA (ay a ?_)))));intro h a;refine aac (r (n+1) h (by omega) ?_);have j:(sU n n).1={Dq with owner:=0}:=by unfold sU;rw[aab]
  have k:(sU n n).2=(0,0):=by unfold sU;rw[aab]
  rw[j] at a;have a:=eF b (o+n*25) Dq t u a rfl rfl rfl;have a:=eQ hb C (sU n) n Dq (0,0) (fun i=>(sU n i).2) s b o c e (by rw[<-k];exact eU.symm) a;rw[mw] at a;exact a
theorem Y6 {C:bQ} (hC:C.Ok) {Q:Value->AH->Prop} (f:Ob G 0 eY) (e:Hs G h L) (s:∀j k,Hs G k (fO G j C (sU C.lines)::L)->Q (.tuple ⟨[pt j 0 0,I 0]⟩) k):Cl Pr K 39 [.agg ⟨C.enc⟩] h Q:=by
 have t:=bQ.eP hC;refine cW (dL e ?_);intro p h e;refine aN e (by decide) (l:=C.enc) rfl rfl (nD f e fun h e=>?_);rw[aLy hC];refine aX (aaa (bW (aN e (by decide) (l:=C.enc) rfl rfl (O5 hC f e fun q h e=>?_))));refine aG rfl (aG rfl (aX (aaa (bW (aS e ?_)))));intro v h e;refine aN e (by decide) (l:=C.enc) rfl rfl (aN e (by decide) (l:=C.enc) rfl rfl (mV hC f e fun h e=>zi (by omega) (by omega) ?_));dsimp only;refine gM e rfl rfl ?_ rfl ?_ ?_;rw[gH,qI (W:=25) (fun _=>rfl)];rw[gH];exact pN (fun _=>rfl) _;intro a h e;obtain⟨b,o,r,e⟩:=Hs.Jf (W:=25) rfl (by omega) e;cases r;refine aJ (c:=lN q C b o C.lines) rfl (xL e rfl rfl ?_);intro j h e;refine bV bX (bV (aN e (by decide) (l:=C.enc) rfl rfl (oN (by simp[nP,bQ.enc]))) (aB (aA (aC e rfl (bH ?_)))));refine Jb hC (s j) C.lines 0 h (by omega) ?_;have e:=(e.front (dE C.lines fun i=>aE b (o+i*25) [I 0,.bool false,.bool false,.bool false,.bool false,.slice none 0 0,.bool false,I 0,I 0,I 0,I 0,I 0,I 0,I 0,.bool false,I 0,I 0,.bool false,.bool false,.bool false,.bool false,.bool false,.bool false,I 0,I 0]));have e:=Hs.Lm (g:=fun i=>eI b (o+i*25) (sU 0 i).1) C.lines _ (fun i u h L e=>kA {Dq with owner:=0} (a:=none) (c:=0) (gG e).lJ) e;rw[<-xd 0] at e;exact(Ax C (sU 0) j q b o C.lines e).to
end
section
set_option maxRecDepth 100000
variable {G:Bg} {h:AH} {L L':List HP} {Q:Value->AH->Prop}
def Tj (H:lB) (i:Nat) (x:Option Addr×Nat):List Value:=(H i).1.enc x.1 x.2
def Vu (H:lB) (i:Nat) (x:Option Addr×Nat):HP:=mZ x.1 x.2 (H i).1.waits
theorem aBh {b o n:Nat} {H:lB} (e:Hs G h (dE n (fun i=>eI b (o+i*25) (H i).1)::L)):Hs G h (dE n (fun i=>qV fun x=>sp [aE b (o+i*25) (Tj H i x),Vu H i x])::L):=
 Hs.Lm n L (fun i _ h L e=>by
  obtain⟨a,c,e⟩:=dU e;exact Hs.oZ (A:=fun x:Option Addr×Nat=>sp [aE b (o+i*25) (Tj H i x),Vu H i x]) (a,c) e.yC) e
theorem aC7 {b o n:Nat} {H:lB} (e:Hs G h (dE n (fun i=>qV fun x=>sp [aE b (o+i*25) (Tj H i x),Vu H i x])::L)):Hs G h (dE n (fun i=>eI b (o+i*25) (H i).1)::L):=
 Hs.Lm n L (fun i _ h L e=>by
  obtain⟨⟨a,c⟩,e⟩:=e.rS;exact kA (H i).1 (a:=a) (c:=c) e.Bn) e
theorem jr {n c:Nat} {a:Option Addr} {cs:List Value} (j:n<=100) (i:Hs G h L) [m:Has (dI 25 222 a c) L (n,cs) L'] (g:∀b e f,Hs G f (dI 25 222 b e (n,cs)::dI 25 222 a c (n,cs)::L')->Q (.slice b n e) f):Cl Pr K 122 [.slice a n c] h Q:=
 cW (vW (bytes:=152) i (by omega) g)
theorem Zb {B p b o cap mb:Nat} {C:bQ} {H:lB} {f:Nat->Option Addr×Nat} (hB:B<=32) (D:C.lines=B) (O:∀i,i<B->(H i).1.waits.length<=2^30)
  (J:∀x,Hs G x (aE p 0 (lN mb C b o cap)::dE B (fun i=>eI b (o+i*25) (H i).1)::dE B (fun i=>Vu H i (f i))::L)->Q (pt p 0 0) x):
  ∀(r i:Nat) (h:AH),i+r=B->Hs G h (aE p 0 (lN mb C b o cap)::dE B (fun j=>if j<i then eI b (o+j*25) (H j).1 else aE b (o+j*25) (Tj H j (f j)))::dE B (fun i=>Vu H i (f i))::L)->
  Dd 72 2 [] Q [(pt p 0 0),(I B),(I i)] h:=by
 intro r
 induction r with
 |zero=>
  intro i h E e
  obtain rfl:i=B:=by omega
  refine bW (aI (aaa (J _ ?_)))
  have e:=e.front (dE i fun j=>if j<i then eI b (o+j*25) (H j).1 else aE b (o+j*25) (Tj H j (f j)))
  have e:=rY (g:=fun j=>eI b (o+j*25) (H j).1) (fun j F=>by rw[aLy F]) e
  exact e.cE (aE p 0 (lN mb C b o cap)) (dE i fun j=>eI b (o+j*25) (H j).1) (dE i fun j=>Vu H j (f j))
 |succ r S=>
  intro i h E e
  have q:i<B:=by omega
  have t:i<C.lines:=by omega
  have R:=O i q
  refine bW (aI (aad (bW (aS e fun T h e=>?_))))
  have e:=(e.front (dE B fun j=>if j<i then eI b (o+j*25) (H j).1 else aE b (o+j*25) (Tj H j (f j)))).kH i q
  simp only[Nat.lt_irrefl,if_false] at e
  have e:=(e.front (dE B fun j=>Vu H j (f j))).kH i q
  refine aB (aA (am p e rfl (aB (aA (am p e rfl (dO t (aA (aC (b:=b) (o:=o+i*25) e rfl ?_))))))))
  have e:Hs G h (mZ (f i).1 (f i).2 (H i).1.waits::_):=e
  refine xC (l:=(H i).1.waits) (a:=(f i).1) (c:=(f i).2) (by omega) e fun u v h e=>?_
  refine dO t (aA (ay (b:=b) (o:=o+i*25) e fun A s=>?_))
  refine bV bX (bV (aB bX) (bV (aA bX) (bV (am p e rfl Hr) (bV iN (aac ?_)))))
  refine S (i+1) A (by omega) ?_
  have s:=s.sg (b:=b) (o:=o+i*25) (c:=(H i).1.enc u v) rfl
  have k:=kA (b:=b) (o:=o+i*25) (H i).1 (a:=u) (c:=v) (s.bL (aE b (o+i*25) ((H i).1.enc u v)) (mZ u v (H i).1.waits))
  have y:eI b (o+i*25) (H i).1=(fun j=>if j<i+1 then eI b (o+j*25) (H j).1 else aE b (o+j*25) (Tj H j (f j))) i:=by simp only[Nat.lt_succ_self,if_true]
  rw[y] at k
  have k:=k.nQ (n:=B) (i:=i) (fun j=>if j<i then eI b (o+j*25) (H j).1 else aE b (o+j*25) (Tj H j (f j))) (fun j=>if j<i+1 then eI b (o+j*25) (H j).1 else aE b (o+j*25) (Tj H j (f j))) q (fun j _ K=>by
   have:(j<i+1)=(j<i):=propext ⟨fun h=>by omega,fun h=>by omega⟩;simp only[this])
  have z:mZ (f i).1 (f i).2 (H i).1.waits=(fun j=>Vu H j (f j)) i:=rfl
  rw[z] at k
  have k:=k.nQ (n:=B) (i:=i) (fun j=>Vu H j (f j)) (fun j=>Vu H j (f j)) q (fun _ _ _=>rfl)
  exact k.to
theorem Cq {C:bQ} {H:lB} (hC:C.Ok) {hb:Nat} (R:vF C H (2^30)) (a:Hs G h L) [T:Has (fO G hb C) L H L'] (S:∀p2 I,Hs G I (fO G p2 C H::fO G hb C H::L')->Q (pt p2 0 0) I):Cl Pr K 72 [pt hb 0 0] h Q:=by
 have V:=(bQ.eP hC);have y:0<C.lines:=by omega
 obtain⟨F,b,o,e,a⟩:=nE (T.of a);refine cW (cK (bP (bW (aS a fun X h a=>?_))));have a:=aBh (a.front (dE C.lines fun i=>eI b (o+i*25) (H i).1));have u:Hs G h (dE C.lines (fun i=>qV fun x=>sp [aE b (o+i*25) (Tj H i x),Vu H i x])::hole G 25 222 (some ⟨b,o,none⟩) e C.lines b o::_):=a.bL (dE C.lines fun i=>qV fun x=>sp [aE b (o+i*25) (Tj H i x),Vu H i x]) (hole G 25 222 (some ⟨b,o,none⟩) e C.lines b o);obtain⟨f,a⟩:=Hs.fk (W:=25) (c:=Tj H) (d:=Vu H) (none,0) (fun _ _=>rfl) (fun _ _=>rfl) (by decide) y u;clear u;refine aB (aA (am hb a rfl (A.az hC a fun k U q=>?_)));refine aB (aA (iV (b:=hb) (o:=0) q (by decide) (l:=C.enc) rfl rfl (aB (aA (am hb q rfl ?_)))));refine jr (by omega) q fun J t O g=>?_;obtain⟨r,s,rfl,g⟩:=Hs.Yx (W:=25) (c:=fun i=>Tj H i (f i)) (fun _=>rfl) y (g.front (dI 25 222 J t (C.lines,(List.range C.lines).flatMap fun i=>Tj H i (f i))));refine aJ (c:=lN k C r s t) rfl (xL (i:=15) (n:=17) (D:=[]) g rfl rfl fun p z j=>?_);have v:nP (.agg ⟨C.enc⟩) (.agg ⟨C.enc⟩)=true:=oN (by simp[bQ.enc,iN]);refine bV bX (bV bX (bV (aB bX) (bV (aB bX) (bV (aA bX) (bV (aA bX) ?_)))));refine bV (iV (b:=hb) (o:=0) a (by decide) (l:=C.enc) rfl rfl v) (bV (iV (b:=hb) (o:=0) j (by decide) (l:=C.enc) rfl rfl v) ?_);refine bV bX (bV (aB bX) (bV (aA bX) (bV (am hb a rfl Hr) ?_)));clear a q g;refine aB (aA (am p j rfl (bH ?_)));have a:=j.cE (aE p 0 (lN k C r s t)) (dE C.lines fun i=>aE r (s+i*25) (Tj H i (f i))) (dE C.lines fun i=>Vu H i (f i));refine Zb (B:=C.lines) (C:=C) (b:=r) (o:=s) (cap:=t) (mb:=k) (H:=H) (f:=f) (by omega) rfl (fun i E=>(R i E).2) ?_ C.lines 0 z (by omega) (by simpa using a);intro h a;refine S p _ ?_;have a:=pU (a.gN (aE p 0 (lN k C r s t)) (eM G C.lines k C fun i=>(H i).2) (hole G 25 222 (some ⟨r,s,none⟩) t C.lines r s) (dE C.lines fun i=>eI r (s+i*25) (H i).1));have a:=a.bL (dI 25 222 (some ⟨b,o,none⟩) e (C.lines,(List.range C.lines).flatMap fun i=>Tj H i (f i))) (dE C.lines fun i=>Vu H i (f i));have a:Hs G h (dE C.lines (fun i=>qV fun x=>sp [aE b (o+i*25) (Tj H i x),Vu H i x])::hole G 25 222 (some ⟨b,o,none⟩) e C.lines b o::_):=Hs.w6 (W:=25) (c:=Tj H) (d:=Vu H) f (fun _ _=>rfl) y a;have a:=aC7 a;have a:=pU (a.gN (aE hb 0 (lN F C b o e)) (eM G C.lines F C fun i=>(H i).2) (hole G 25 222 (some ⟨b,o,none⟩) e C.lines b o) (dE C.lines fun i=>eI b (o+i*25) (H i).1));exact a.to
end
end Go.Proofs.YtmhapehobfnoiaaGreatDoor.H
namespace Go.Proofs.YtmhapehobfnoiaaGreatDoor.H
open Go Go.Ab Go.Hm Go.Mc
section
set_option maxRecDepth 100000
variable {G:Bg} {h:AH} {L L':List HP} {Q:Value->AH->Prop}
theorem aFm {α:Type} {l:List α} {i:Nat} (h:i<l.length):∃x,l[i]?=some x/\l.drop i=x::l.drop (i+1):=⟨l[i],by simp,List.drop_eq_getElem_cons h⟩
def Nw (l:List aQ):Int:=((l.filter fun n=>decide (n.kind=0)).length:Int)
theorem rf {l:List aQ} {i:Nat} {n:aQ} (h:l[i]?=some n):Nw (l.take (i+1))=Nw (l.take i)+if n.kind=0 then 1 else 0:=by
 unfold Nw;rw[List.take_add_one,h];simp only[Option.toList_some,List.filter_append,List.filter_cons,List.filter_nil];split<;>simp_all
theorem yS {a:Option Addr} {c:Nat} {l:List aQ} {k:Int} (hb:l.length<=2^30) (y:0<=k/\k<=1) (x:∀q,Hs G q (mZ a c l::L)->Q (I (k+Nw l)) q):
  ∀(f i:Nat) (h:AH),i+f=l.length->Hs G h (mZ a c l::L)->Dd 144 4 [] Q [(I (k+Nw (l.take i))),(.slice a l.length c),(I l.length),(I i)] h:=by
 intro f
 induction f with
 |zero=>
  intro i h v g
  rw[List.take_of_length_le (by omega)]
  exact bW (aI (aaa (x _ g)))
 |succ f s=>
  intro i h v g
  obtain⟨n,r,z⟩:=aFm (l:=l) (i:=i) (by omega)
  have u:Nw (l.take i)<=2^30/\0<=Nw (l.take i):=by
   unfold Nw;have:=List.length_filter_le (fun n:aQ=>decide (n.kind=0)) (l.take i);have:=List.length_take_le i l;omega
  have j:=rf r
  refine bW (aI (aad (bW (jM (l:=l) (a:=a) (c:=c) (enc:=aQ.enc) (e:=162) g (by decide) (by omega) (by rw[Int.toNat_natCast];exact r) (bN g fun t h g=>ax (b:=t) g fun h g=>aA (am t g rfl (bG (aT (fun p=>?_) (fun p=>?_)))))))))
  .rw[aLy p] at j;refine bW (aac (aac ?_));have:=s (i+1) h (by omega) g.to;rw[j] at this;rw[show k+Nw (l.take i)+1=k+(Nw (l.take i)+1) by omega];exact this
  .rw[aLx p] at j;refine bW (aac ?_);have:=s (i+1) h (by omega) g.to;rw[j,Int.add_zero] at this;exact this
theorem Qv {C:bQ} {H:lB} {hb:Nat} {x:Int} (B:vF C H (2^30)) (f:Hs G h L) [D:Has (fO G hb C) L H L'] (q:∀A,Hs G A (fO G hb C H::L')->Q (I (fR C H x)) A):Cl Pr K 144 [pt hb 0 0,I x] h Q:=by
 have f:=D.of f;unfold fR at q;by_cases t:C.has x;rotate_left;rw[aLx t] at q;obtain⟨s,b,o,g,f⟩:=nE f;refine cW (tY f (bY (dY (aH t (q _ (Ax C H hb s b o g f).to)))));rw[aLy t] at q;obtain⟨l,rfl⟩:=Int.eq_ofNat_of_zero_le t.1;have v:l<C.lines:=by have:=t.2;omega
 rw[Int.toNat_natCast] at q;obtain⟨s,b,o,g,f⟩:=D3 v f;obtain⟨a,c,f⟩:=dU f;have r:=(B l v).2;have f:Hs G h (aE b (o+l*25) ((H l).1.enc a c)::mZ a c (H l).1.waits::aE hb 0 (lN s C b o g)::eM G C.lines s C (fun i=>(H i).2)::hole G 25 222 (some ⟨b,o,none⟩) g C.lines b o::zC b o C.lines H l::L'):=f;have p:∀{h:AH},Hs G h (mZ a c (H l).1.waits::aE b (o+l*25) ((H l).1.enc a c)::aE hb 0 (lN s C b o g)::eM G C.lines s C (fun i=>(H i).2)::hole G 25 222 (some ⟨b,o,none⟩) g C.lines b o::zC b o C.lines H l::L')->Hs G h (fO G hb C H::L'):=by
  intro h f;have f:=kA (H l).1 (a:=a) (c:=c) f.lJ;have f:=eQ hb C H l (H l).1 (H l).2 _ s b o g v eU.symm f;have e:cB H l ((H l).1,(H l).2)=H:=by funext j;unfold cB;split<;>simp_all
  rw[e] at f;exact f
 refine cW (tY f (bY (dY (bJ t (bW (aB (aA (am hb f rfl (dO v (aB (aA (aC (b:=b) (o:=o+l*25) f rfl (dH (fun y=>?_) (fun y=>?_))))))))))))));refine aB (aA (aA (aC (b:=b) (o:=o+l*25) f rfl (bG (aT (fun z=>?_) (fun z=>?_))))));refine bW (aac (aB (aA (aC (b:=b) (o:=o+l*25) f rfl (bH ?_)))));refine yS (a:=a) (c:=c) (l:=(H l).1.waits) (k:=1) r (by omega) (fun h f=>?_) (H l).1.waits.length 0 h (by omega) f.lJ;have:=q h (p f);unfold Row.Q5 at this;rw[aLy ⟨y,z⟩] at this;exact this;refine bW (aB (aA (aC (b:=b) (o:=o+l*25) f rfl (bH ?_))));refine yS (a:=a) (c:=c) (l:=(H l).1.waits) (k:=0) r (by omega) (fun h f=>?_) (H l).1.waits.length 0 h (by omega) f.lJ;have:=q h (p f);unfold Row.Q5 at this;rw[aLx (fun u=>z u.2)] at this;exact this;refine aB (aA (aC (b:=b) (o:=o+l*25) f rfl (bH ?_)));refine yS (a:=a) (c:=c) (l:=(H l).1.waits) (k:=0) r (by omega) (fun h f=>?_) (H l).1.waits.length 0 h (by omega) f.lJ;have:=q h (p f);unfold Row.Q5 at this;rw[aLx (fun u=>by rw[y] at u;cases u.1)] at this;exact this
end
end Go.Proofs.YtmhapehobfnoiaaGreatDoor.H
namespace Go.Proofs.YtmhapehobfnoiaaGreatDoor
open Go Go.Ab Go.Hm Go.At Go.Mc Go.Ct Go.Nt
section
def pY (C:bQ) (H:lB) (l:List Nat):lB:=l.foldl (fun H (l:Nat)=>(lX C H l).1) H
theorem X0 {C:bQ} {H:lB} {l:List Nat} {k:Nat}:pY C H (l++[k])=(lX C (pY C H l) k).1:=by unfold pY;rw[List.foldl_append];rfl
theorem Zg {C:bQ} {H:lB} {N:Nat} {l:Int} (h:vF C H N):vF C (lX C H l).1 (N+1):=by
 intro k f;obtain⟨a,c⟩:=h k f;unfold lX;split;rename_i g;unfold cB;dsimp only;split;rename_i e;subst e;refine⟨⟨a.core,a.owner,?_⟩,?_⟩;intro n b;rcases List.mem_append.1 b with b|b;exact a.waits n b;rw[List.mem_singleton.1 b];show(0:Int)<=0/\(0:Int)<4;omega;show((H l.toNat).1.waits++[Cr l]).length<=N+1;rw[List.length_append,List.length_singleton];omega;exact⟨a,by omega⟩;exact⟨a,Nat.le_succ_of_le c⟩
theorem Tu {C:bQ} {N:Nat}:∀{l:List Nat} {H:lB},vF C H N->vF C (pY C H l) (N+l.length):=by
 intro l;induction l generalizing N with
 |nil=>intro H h;exact h
 |cons k l a=>
  intro H h;have:=a (Zg (l:=k) h);rw[List.length_cons,show N+(l.length+1)=N+1+l.length by omega];exact this
set_option maxRecDepth 100000
variable {G:Bg} {h:AH} {L L':List HP} {Q:Value->AH->Prop} {Cf:bQ} {m:Nat} {M:cX}
abbrev swX (G:Bg) (Cf:bQ) (m p2:Nat) (M:cX) (e:Nat->Value) (d l:Nat) (done:List Nat):HP:=sp [fM Pr 227 (fQ 14) 18 e d l (.ready,none),aE p2 0 [pt m 0 0],bB G Cf m (M.sL (pY Cf M.home done))]
theorem qb {g:Nat} (hC:Cf.Ok) (hG:Gb G) (D:(g:Int)<Cf.bM) (E:vF Cf M.home (2^30 - 4)) (a:Hs G h L) [F:Has (bB G Cf m) L M L'] (f:∀v j,Hs G j (bB G Cf m (M.sL (Lc Cf M.home g))::L')->Q v j):Cl Pr K 227 [pt m 0 0,I g] h Q:=by
 refine cW (dL (F.of a) fun c h a=>?_);obtain⟨x,i,a⟩:=cQ (a.front (bB G Cf m M));refine am c a rfl (aB (aA (iV (b:=m) (o:=0) a (by decide) (l:=Cf.enc) rfl rfl (C2 (C:=Cf) a fun s t h a=>?_))));have a:Hs G h (bB G Cf m (M.sL (pY Cf M.home []))::_):=bI (m:=m) (x:=x) M i a;refine iI a fun d h a=>?_;intro e B;refine jL a fun l h a=>oB rfl ?_;have a:Hs G h (sp [aE s 0 Cf.enc,aE t 0 [I g]]::swX G Cf m c M e d l []::mk d ()::L'):=by
  have a:=(a.cE (fM Pr 227 (fQ 14) 18 e d l (.ready,none)) (aE c 0 [pt m 0 0]) (bB G Cf m (M.sL (pY Cf M.home [])))).M4;exact a.to
 refine(F6 (C:=Cf) hC D (p:=s) (q:=t) hG.lim).fold (X:=fun done=>swX G Cf m c M e d l done) (Z:=fun _ _=>rN False) a ?_ ?_ ?_
 .intro done y h N r a;have a:=a.yG;have A:done.length<=1:=by have:=r.length_le;simp at this;omega
  obtain⟨x,i,a⟩:=cQ (a.front (bB G Cf m (M.sL (pY Cf M.home done))));refine rW (nX a) B (fG a fun h a=>am c a rfl (aB (aA (am m a rfl ?_))));refine H.y3 (C:=Cf) (H:=pY Cf M.home done) (fun k f=>by have:=Tu (l:=done) E k f;exact⟨this.1,by omega⟩) a fun h a=>gK a fun h a=> .inl ⟨rfl,?_⟩;rw[<-X0] at a;have a:=bI (m:=m) (x:=x) (M.sL (pY Cf M.home (done++[y]))) i a;have a:=(a.cE (fM Pr 227 (fQ 14) 18 e d l (.ready,none)) (aE c 0 [pt m 0 0]) (bB G Cf m (M.sL (pY Cf M.home (done++[y]))))).M4;exact a.to
 intro v h a;have a:=(a.front (swX G Cf m c M e d l [g*2,g*2+1])).yG;have u:pY Cf M.home [g*2,g*2+1]=Lc Cf M.home g:=by unfold pY Lc;simp
 rw[u] at a;exact jN a fun h a=>jR (jW a fun h a=>iT (f _ _ a.to))
 .intro done y v h r a;obtain⟨z,_⟩:=(a.front (rN False)).To;exact z.elim
end
section
set_option maxRecDepth 100000
variable {G:Bg} {h:AH} {L L':List HP} {Q:Value->AH->Prop} {Cf:bQ} {m:Nat} {M:cX} {n:aQ}
def aE9 (G:Bg) (Cf:bQ) (m:Nat) (Z:HP) (b:Value) (A B:cX):Prop:=∀(h:AH) (L:List HP) (Q:Value->AH->Prop),Hs G h (Z::bB G Cf m A::L)->(∀v a,Hs G a (bB G Cf m B::L)->Q v a)->xS Pr K b [] h Q
abbrev TK (G:Bg) (Cf:bQ) (m:Nat) (M:cX) (L:List HP) (Q:Value->AH->Prop) (r:cX×List aQ×Int):Prop:=∀v a Z b,Hs G b (H.eO v r.2.1::Z::bB G Cf m M::L)->(r.2.2=0->∀F,aE9 G Cf m Z a (M.dT F) (r.1.dT F))->Q (.tuple ⟨[v,a,I r.2.2]⟩) b
theorem Ge {C:bQ} {H:lB} {N a:Nat} (h:vF C H N) (c:N<=a):vF C H a:=fun k b=>⟨(h k b).1,Nat.le_trans (h k b).2 c⟩
theorem aA5 {p2 j:Nat} (hC:Cf.Ok) (hG:Gb G) (k:vM Cf M n) (a:Hs G h (aE p2 0 [pt m 0 0]::aE j 0 n.enc::bB G Cf m M::L)) (g:TK G Cf m M L Q (M.sL (gQ Cf M.home n).1,(gQ Cf M.home n).2.1,(gQ Cf M.home n).2.2)):Dd 169 3 [] Q [(pt p2 0 0),(pt j 0 0)] h:=by
 obtain⟨x,i,a⟩:=cQ (a.front (bB G Cf m M));refine bW (am p2 a rfl (aB (aA (am m a rfl (H.Cq (C:=Cf) hC (Ge k.home (by omega)) a fun q h a=>bN a fun c h a=>ax (b:=c) a fun h a=>am c a rfl (an j a (l:=n.enc) rfl rfl ?_))))));refine H.Dw (C:=Cf) (hb:=q) (H:=M.home) (n:=n) hC hG.lim (Ge k.home (by omega)) a fun v h a=>aG rfl (aG rfl ?_);have a:=bI (m:=m) (x:=x) M i a;have a:=(a.cE (aE c 0 [pt q 0 0]) (aE p2 0 [pt m 0 0]) (H.fO G q Cf (gQ Cf M.home n).1)).M4;refine g v _ (sp [aE c 0 [pt q 0 0],aE p2 0 [pt m 0 0],H.fO G q Cf (gQ Cf M.home n).1]) h a.to fun _ F=>?_;intro h L Q a g;have a:=a.yG;obtain⟨x,i,a⟩:=cQ (a.front (bB G Cf m (M.dT F)));refine qN rfl (cW (f:=216) (am p2 a rfl (am c a rfl (aB (aA (ay (b:=m) (o:=0) a fun h a=>g _ _ ?_))))));have e:dT (eW Cf x M.log.length) (0+10) [pt q 0 0]=eW Cf {x with hb:=q} M.log.length:=rfl;rw[e] at a;exact(bI (m:=m) (x:={x with hb:=q}) ((M.sL (gQ Cf M.home n).1).dT F) i a).to
theorem w5 {p2 v:Nat} (hC:Cf.Ok) (hG:Gb G) (A:vM Cf M n) (g:Hs G h (aE p2 0 [pt m 0 0]::aE v 0 n.enc::bB G Cf m M::L)) (z:TK G Cf m M L Q (M.tA n.core.toNat (iS Cf n.core (M.cC n.core.toNat) n).1,(iS Cf n.core (M.cC n.core.toNat) n).2.1,(iS Cf n.core (M.cC n.core.toNat) n).2.2)):Dd 169 9 [] Q [(pt p2 0 0),(pt v 0 0)] h:=by
 have p:Bd (M.cC n.core.toNat):=A.I2.bd (lG hC).2.2.2;obtain⟨i,B⟩:=Int.eq_ofNat_of_zero_le A.core.1;have K:(i:Int)<Cf.aD:=by have:=A.core.2;omega
 rw[B,Int.toNat_natCast] at z;have k:=A.I2;rw[B,Int.toNat_natCast] at k p;obtain⟨x,u,g⟩:=cQ (g.front (bB G Cf m M));have j:i<x.lk.length:=by have:=u.2.1;omega
 have E:n.enc[0+1]?=some (I i):=by show some (I n.core)=_;rw[B]
 refine bW (aS g fun J h g=>am p2 g rfl (aB (aA (am m g rfl (aA (am v g E (zE g j ?_)))))));have g:=eR (R:=kK G Cf) (l:=x.lk) (s:=M.cC) j g;refine C.Qf (C:=Cf) (core:=(i:Int)) (c:=x.lk.getD i 0) (s:=M.cC i) hC p g fun q h g=>kI (r:=J) (i:=9) (n:=11) (D:=[]) g rfl rfl fun y h g=>ax (b:=y) g fun h g=>am y g rfl (an v g (l:=n.enc) rfl rfl ?_);refine C.Dw (C:=Cf) (core:=(i:Int)) (c:=q) (s:=M.cC i) (n:=n) hC p k.sts hG.lim hG.row g fun a c h g=>aG rfl (aG rfl ?_);have g:=tO (Cf:=Cf) (l:=x.lk) (s:=M.cC) (i:=i) (t:=M.cC i) j g;rw[bS] at g;have g:=bI (m:=m) (x:=x) M u g;have g:=(g.gN (aE y 0 [pt q 0 0]) (aE p2 0 [pt m 0 0]) (aE v 0 n.enc) (C.gC G q Cf i (iS Cf i (M.cC i) n).1)).E7;have g:=H.Gj (l:=(iS Cf i (M.cC i) n).2.1) rfl rfl (g.front (dI 9 162 a c ((iS Cf i (M.cC i) n).2.1.length,eJ (iS Cf i (M.cC i) n).2.1)));refine z _ _ (sp [aE y 0 [pt q 0 0],aE p2 0 [pt m 0 0],aE v 0 n.enc,C.gC G q Cf i (iS Cf i (M.cC i) n).1]) h g.to fun _ F=>?_;intro h L Q g z;have g:=g.Zp;obtain⟨x,u,g⟩:=cQ (g.front (bB G Cf m (M.dT F)));have j:i<x.lk.length:=by have:=u.2.1;omega
 refine qN rfl (cW (f:=218) (aS g fun J h g=>am p2 g rfl (aB (aA (am m g rfl (aA (am v g E (am y g rfl (ff g j fun h g=>z _ _ ?_)))))))));have g:=eR (R:=kK G Cf) (l:=x.lk) (s:=M.cC) j g;have g:=Dk (R:=kK G Cf) (l:=x.lk) (s:=M.cC) (i:=i) (q:=q) (t:=(iS Cf i (M.cC i) n).1) j g;have e:eW Cf x M.log.length=eW Cf {x with lk:=x.lk.set i q} M.log.length:=by unfold eW;rw[List.length_set]
 rw[e] at g;exact(bI (m:=m) (x:={x with lk:=x.lk.set i q}) ((M.tA i (iS Cf i (M.cC i) n).1).dT F) ⟨u.1,by rw[List.length_set];exact u.2.1,u.2.2⟩ g).to
end
section
theorem Xh {m:Mon} {c g x:Int} (h:(m.dropped c g x).2.1=true):m.has g:=by
 unfold Mon.dropped at h;by_cases a:m.has g;exact a;rw[aLy a] at h;cases h
set_option maxRecDepth 100000
variable {G:Bg} {h:AH} {L L':List HP} {Q:Value->AH->Prop} {Cf:bQ} {m:Nat} {M:cX} {n:aQ}
theorem u5 {v:Value} {l:List aQ} (a:Hs G h (H.eO v l::L)):Hs G h (H.eO v l::sp []::L):=(Hs.pack (A:=[]) a).lJ
theorem O6 {a:Addr} {c:Nat} {x:aQ} (b:Hs G h (dI 9 162 (some a) c (1,x.enc)::L)):Hs G h (H.eO (.slice (some a) 1 c) [x]::L):=H.Gj (l:=[x]) rfl (by simp[eJ]) b
theorem F3 (a:Hs G h L):Hs G h (H.eO (.slice none 0 0) []::L):=H.qA a
theorem aAp {p2 g:Nat} (hC:Cf.Ok) (k:vM Cf M n) (e:Hs G h (aE p2 0 [pt m 0 0]::aE g 0 n.enc::bB G Cf m M::L)) (i:TK G Cf m M L Q (M,[E5 n.core (uZ M.dG.dD n.no).1 n.no],(uZ M.dG.dD n.no).2)):Dd 169 13 [] Q [(pt p2 0 0),(pt g 0 0)] h:=by
 have j:=k.dG.len;have l:=hC.2.1;obtain⟨x,p,e⟩:=cQ (e.front (bB G Cf m M));obtain⟨t,b,e⟩:=jP (e.front (fD Cf x.mb M.dG));refine bW (aS e fun q h e=>am p2 e rfl (aB (aA (am m e rfl (aB (aA (aC (b:=x.mb) (o:=0) e rfl (aA (am g e rfl (ti (es:=M.dG.dD) (by omega) k.dG.own e fun h e=>?_))))))))));refine aG rfl (aG rfl (aA (am g e rfl (aJ (c:=[I (uZ M.dG.dD n.no).1,I 0]) rfl (aA (am g e rfl (aJ (c:=(E5 n.core (uZ M.dG.dD n.no).1 n.no).enc) rfl (aJ (c:=(E5 n.core (uZ M.dG.dD n.no).1 n.no).enc) rfl (dC (W:=9) (n:=1) (c:=1) e rfl rfl rfl fun a h e=>?_)))))))));have e:=dR (e.cE (aE x.mb 0 [pt t 0 0,I Cf.aD,fS b]) (gL t M.dG.dD) (iA b (fK M.dG.runs)));have e:=bI (m:=m) (x:=x) M p e;have e:=O6 (e.front (dI 9 162 (some a) 1 (1,(E5 n.core (uZ M.dG.dD n.no).1 n.no).enc)));refine i _ _ (sp []) h (u5 e.to) fun _ F=>?_;intro h L Q e i;exact qN rfl (cW (f:=220) (i _ _ e.tail))
theorem zb {q k p2 j i:Nat} {t:kY} (_:Cf.Ok) (p:n.enc[0+1]?=some (I i)) (r:(i:Int)<Cf.aD) (F:fV):aE9 G Cf m (sp [aE k 0 [pt q 0 0],aE p2 0 [pt m 0 0],aE j 0 n.enc,jE q Cf t]) (.func (.func 222) #[] #[pt k 0 0,pt p2 0 0,pt j 0 0]) (M.dT F) ((M.B6 i t).dT F):=by
 intro h L Q a u;have a:=a.Zp;obtain⟨x,g,a⟩:=cQ (a.front (bB G Cf m (M.dT F)));have c:i<x.lq.length:=by have:=g.2.2;omega
 refine qN rfl (cW (f:=222) (aS a fun v h a=>am p2 a rfl (aB (aA (am m a rfl (aA (am j a p (am k a rfl (Rj a c fun h a=>u _ _ ?_)))))))));have a:=eR (R:=kG Cf) (l:=x.lq) (s:=M.bT) c a;have a:=Dk (R:=kG Cf) (l:=x.lq) (s:=M.bT) (i:=i) (q:=q) (t:=t) c a;have e:eW Cf x M.log.length=eW Cf {x with lq:=x.lq.set i q} M.log.length:=by unfold eW;rw[List.length_set]
 rw[e] at a;exact(bI (m:=m) (x:={x with lq:=x.lq.set i q}) ((M.B6 i t).dT F) ⟨g.1,g.2.1,by rw[List.length_set];exact g.2.2⟩ a).to
theorem aAg {q k p2 j i:Nat} {t:kY} (_:Cf.Ok) (p:n.enc[0+1]?=some (I i)) (r:(i:Int)<Cf.aD) (F:fV):aE9 G Cf m (sp [aE k 0 [pt q 0 0],aE p2 0 [pt m 0 0],aE j 0 n.enc,jE q Cf t]) (.func (.func 224) #[] #[pt k 0 0,pt p2 0 0,pt j 0 0]) (M.dT F) ((M.B6 i t).dT F):=by
 intro h L Q a u;have a:=a.Zp;obtain⟨x,g,a⟩:=cQ (a.front (bB G Cf m (M.dT F)));have c:i<x.lq.length:=by have:=g.2.2;omega
 refine qN rfl (cW (f:=224) (aS a fun v h a=>am p2 a rfl (aB (aA (am m a rfl (aA (am j a p (am k a rfl (Rj a c fun h a=>u _ _ ?_)))))))));have a:=eR (R:=kG Cf) (l:=x.lq) (s:=M.bT) c a;have a:=Dk (R:=kG Cf) (l:=x.lq) (s:=M.bT) (i:=i) (q:=q) (t:=t) c a;have e:eW Cf x M.log.length=eW Cf {x with lq:=x.lq.set i q} M.log.length:=by unfold eW;rw[List.length_set]
 rw[e] at a;exact(bI (m:=m) (x:={x with lq:=x.lq.set i q}) ((M.B6 i t).dT F) ⟨g.1,g.2.1,by rw[List.length_set];exact g.2.2⟩ a).to
theorem iq {p2 g:Nat} (hC:Cf.Ok) (B:vM Cf M n) (T:0<=n.d0/\n.d0<=1000000) (f:Hs G h (aE p2 0 [pt m 0 0]::aE g 0 n.enc::bB G Cf m M::L))
  (z:TK G Cf m M L Q (M.B6 n.core.toNat ((M.bT n.core.toNat).walked Cf n.no n.d0).1,if((M.bT n.core.toNat).walked Cf n.no n.d0).2.2.1 then [] else [fC 6 n.core ((M.bT n.core.toNat).walked Cf n.no n.d0).2.1],((M.bT n.core.toNat).walked Cf n.no n.d0).2.2.2)):Dd 169 16 [] Q [(pt p2 0 0),(pt g 0 0)] h:=by
 obtain⟨i,S⟩:=Int.eq_ofNat_of_zero_le B.core.1
 have y:(i:Int)<Cf.aD:=by have:=B.core.2;omega
 have k:=B.uO
 have v:=B.cN
 have A:n.enc[0+1]?=some (I i):=by show some (I n.core)=_;rw[S]
 rw[S,Int.toNat_natCast] at z k v
 obtain⟨x,J,f⟩:=cQ (f.front (bB G Cf m M))
 have j:i<x.lq.length:=by have:=J.2.2;omega
 refine bW (aS f fun U h f=>am p2 f rfl (aB (aA (am m f rfl (aA (am g f A (zN f j ?_)))))))
 have f:=eR (R:=kG Cf) (l:=x.lq) (s:=M.bT) j f
 refine wY (C:=Cf) (p:=x.lq.getD i 0) (s:=M.bT i) k f fun q h f=>kI (r:=U) (i:=9) (n:=11) (D:=[]) f rfl rfl fun u h f=>ax (b:=u) f fun h f=>am u f rfl (aA (am g f rfl (aA (fI (by decide) (by decide) (am g f rfl ?_)))))
 refine jh (C:=Cf) (p:=q) (s:=M.bT i) hC k v T f fun h f=>aG rfl (aG rfl (aG rfl (bY (dY (dH (fun E=>?_) (fun E=>?_))))))
 .rw[E,aLy rfl] at z;have f:=qE (Cf:=Cf) (l:=x.lq) (s:=M.bT) (i:=i) (t:=M.bT i) j f;rw[bS] at f;have f:=bI (m:=m) (x:=x) M J f;have f:=(f.gN (aE u 0 [pt q 0 0]) (aE p2 0 [pt m 0 0]) (aE g 0 n.enc) (jE q Cf ((M.bT i).walked Cf n.no n.d0).1)).E7;exact z _ _ (sp [aE u 0 [pt q 0 0],aE p2 0 [pt m 0 0],aE g 0 n.enc,jE q Cf ((M.bT i).walked Cf n.no n.d0).1]) h (F3 f.to) fun _ F=>zb hC A y F
 .rw[E,aLx (by simp)] at z;have f:=jB (enc:=aQ.enc) (e:=162) f;refine bW (aA (am g f A (aJ (c:=(fC 6 i ((M.bT i).walked Cf n.no n.d0).2.1).enc) rfl (aJ (c:=(fC 6 i ((M.bT i).walked Cf n.no n.d0).2.1).enc) rfl (dC (W:=9) (n:=1) (c:=1) f rfl rfl rfl fun a h f=>?_)))));have f:=mR (enc:=aQ.enc) (x:=fC 6 i ((M.bT i).walked Cf n.no n.d0).2.1) f;refine kL (enc:=aQ.enc) (e:=162) (l:=[]) (l2:=[fC 6 i ((M.bT i).walked Cf n.no n.d0).2.1]) (a:=none) (c:=0) (a2:=some a) (c2:=1) f (by simp) fun K O h f=>?_;have f:=qE (Cf:=Cf) (l:=x.lq) (s:=M.bT) (i:=i) (t:=M.bT i) j f;rw[bS] at f;have f:=bI (m:=m) (x:=x) M J f;have f:=(f.gN (aE u 0 [pt q 0 0]) (aE p2 0 [pt m 0 0]) (aE g 0 n.enc) (jE q Cf ((M.bT i).walked Cf n.no n.d0).1)).E7;have f:=f.front (ls aQ.enc 9 162 K O ([]++[fC 6 i ((M.bT i).walked Cf n.no n.d0).2.1]));unfold ls at f;have f:=H.Gj (l:=[fC 6 i ((M.bT i).walked Cf n.no n.d0).2.1]) rfl (by simp[eL,eJ]) f;exact z (.slice K [fC 6 i ((M.bT i).walked Cf n.no n.d0).2.1].length O) _ (sp [aE u 0 [pt q 0 0],aE p2 0 [pt m 0 0],aE g 0 n.enc,jE q Cf ((M.bT i).walked Cf n.no n.d0).1]) h f.to fun _ F=>zb hC A y F
theorem aC3 {p2 f:Nat} (hC:Cf.Ok) (y:vM Cf M n) (e:Hs G h (aE p2 0 [pt m 0 0]::aE f 0 n.enc::bB G Cf m M::L))
  (A:TK G Cf m M L Q (M.B6 n.core.toNat ((M.bT n.core.toNat).drop Cf n.no).1,[fC 7 n.core n.no],((M.bT n.core.toNat).drop Cf n.no).2)):Dd 169 19 [] Q [(pt p2 0 0),(pt f 0 0)] h:=by
 obtain⟨i,z⟩:=Int.eq_ofNat_of_zero_le y.core.1
 have v:(i:Int)<Cf.aD:=by have:=y.core.2;omega
 have j:=y.uO
 have u:n.enc[0+1]?=some (I i):=by show some (I n.core)=_;rw[z]
 rw[z,Int.toNat_natCast] at A j
 obtain⟨x,B,e⟩:=cQ (e.front (bB G Cf m M))
 have g:i<x.lq.length:=by have:=B.2.2;omega
 refine bW (aS e fun E h e=>am p2 e rfl (aB (aA (am m e rfl (aA (am f e u (zN e g ?_)))))))
 have e:=eR (R:=kG Cf) (l:=x.lq) (s:=M.bT) g e
 refine wY (C:=Cf) (p:=x.lq.getD i 0) (s:=M.bT i) j e fun q h e=>kI (r:=E) (i:=9) (n:=11) (D:=[]) e rfl rfl fun k h e=>ax (b:=k) e fun h e=>am k e rfl (aA (am f e rfl ?_))
 refine Z7 (C:=Cf) (p:=q) (s:=M.bT i) j e fun _ h e=>aG rfl (aG rfl (aA (am f e u (aA (am f e rfl (aJ (c:=(fC 7 i n.no).enc) rfl (aJ (c:=(fC 7 i n.no).enc) rfl (dC (W:=9) (n:=1) (c:=1) e rfl rfl rfl fun a h e=>?_))))))))
 have e:=qE (Cf:=Cf) (l:=x.lq) (s:=M.bT) (i:=i) (t:=M.bT i) g e
 rw[bS] at e
 have e:=bI (m:=m) (x:=x) M B e
 have e:=(e.gN (aE k 0 [pt q 0 0]) (aE p2 0 [pt m 0 0]) (aE f 0 n.enc) (jE q Cf ((M.bT i).drop Cf n.no).1)).E7
 have e:=O6 (e.front (dI 9 162 (some a) 1 (1,(fC 7 i n.no).enc)))
 exact A _ _ (sp [aE k 0 [pt q 0 0],aE p2 0 [pt m 0 0],aE f 0 n.enc,jE q Cf ((M.bT i).drop Cf n.no).1]) h e.to fun _ F=>aAg hC u v F
theorem Zv {p2 c:Nat} (hC:Cf.Ok) (hG:Gb G) (l:vM Cf M n) (a:Hs G h (aE p2 0 [pt m 0 0]::aE c 0 n.enc::bB G Cf m M::L))
  (i:TK G Cf m M L Q (if(M.dG.dropped Cf.aD n.no n.core).2.1 then(M.oF (M.dG.dropped Cf.aD n.no n.core).1).sL (Lc Cf M.home n.no) else M.oF (M.dG.dropped Cf.aD n.no n.core).1,[],(M.dG.dropped Cf.aD n.no n.core).2.2)):Dd 169 21 [] Q [(pt p2 0 0),(pt c 0 0)] h:=by
 obtain⟨x,t,a⟩:=cQ (a.front (bB G Cf m M))
 refine bW (am p2 a rfl (aB (aA (am m a rfl (Bp (C:=Cf) (m:=M.dG) hC l.dG a fun q h a=>bN a fun r h a=>ax (b:=r) a fun h a=>am r a rfl (aA (am c a rfl (aA (am c a rfl ?_)))))))))
 refine Nd (C:=Cf) (m:=M.dG) (p:=q) hC l.dG a fun h a=>aG rfl (aG rfl (bN a fun j h a=>ax (b:=j) a fun h a=>?_))
 have a:=bI (m:=m) (x:=x) M t a
 have a:=(a.bL (aE j 0 [.bool (M.dG.dropped Cf.aD n.no n.core).2.1]) (aE c 0 n.enc)).yC
 have a:=(a.gN (aE r 0 [pt q 0 0]) (aE p2 0 [pt m 0 0]) (sp [aE j 0 [.bool (M.dG.dropped Cf.aD n.no n.core).2.1],aE c 0 n.enc]) (fD Cf q (M.dG.dropped Cf.aD n.no n.core).1)).E7
 refine i _ _ (sp [aE r 0 [pt q 0 0],aE p2 0 [pt m 0 0],sp [aE j 0 [.bool (M.dG.dropped Cf.aD n.no n.core).2.1],aE c 0 n.enc],fD Cf q (M.dG.dropped Cf.aD n.no n.core).1]) h (F3 a.to) fun _ F=>?_
 intro h L Q a i
 have a:=a.Zp
 have a:=(a.front (sp [aE j 0 [.bool (M.dG.dropped Cf.aD n.no n.core).2.1],aE c 0 n.enc])).Bn
 obtain⟨x,t,a⟩:=cQ (a.front (bB G Cf m (M.dT F)))
 refine qN rfl (cW (f:=226) (am p2 a rfl (am r a rfl (aB (aA (ay (b:=m) (o:=0) a fun h a=>am j a rfl (dH (fun s=>?_) (fun s=>?_))))))))
 .have y:=Xh s;obtain⟨g,k,z,_⟩:=R7 l.dG hC y;have A:=l.dG.len;rw[aLy s] at i;have e:dT (eW Cf x M.log.length) (0+11) [pt q 0 0]=eW Cf {x with mb:=q} M.log.length:=rfl;rw[e] at a;have u:n.enc[0+8]?=some (I g):=by show some (I n.no)=_;rw[k]
  refine am p2 a rfl (aA (am c a u ?_))
  have a:=bI (m:=m) (x:={x with mb:=q}) ((M.oF (M.dG.dropped Cf.aD n.no n.core).1).dT F) t a
  rw[k] at i a
  exact qb (Cf:=Cf) (M:=(M.oF (M.dG.dropped Cf.aD g n.core).1).dT F) hC hG (by omega) l.home a fun v h a=>i _ _ a.to
 .rw[aLx (by rw[s];simp)] at i;have e:dT (eW Cf x M.log.length) (0+11) [pt q 0 0]=eW Cf {x with mb:=q} M.log.length:=rfl;rw[e] at a;exact i _ _ (bI (m:=m) (x:={x with mb:=q}) ((M.oF (M.dG.dropped Cf.aD n.no n.core).1).dT F) t a).to
end
section
set_option maxRecDepth 100000
variable {G:Bg} {h:AH} {L L':List HP} {Q:Value->AH->Prop} {Cf:bQ} {m:Nat} {M:cX} {n:aQ}
theorem yg (hC:Cf.Ok) (hG:Gb G) (g:vM Cf M n) (c:Hs G h L) [D:Has (bB G Cf m) L M L'] (a:TK G Cf m M L' Q (M.fT Cf n)):Cl Pr K 169 [pt m 0 0,.agg ⟨n.enc⟩] h Q:=by
 refine cW (dL (D.of c) fun s h c=>dL c fun k h c=>aA (am k c rfl ?_));have c:Hs G h (aE s 0 [pt m 0 0]::aE k 0 n.enc::bB G Cf m M::L'):=c.to;have home:(n.kind=1\/n.kind=2\/n.kind=3\/n.kind=4\/n.kind=5)->Dd 169 3 [] Q [(pt s 0 0),(pt k 0 0)] h:=fun f=>by
  unfold cX.fT at a;rw[aLy f] at a;exact aA5 hC hG g c a
 have cache:¬(n.kind=1\/n.kind=2\/n.kind=3\/n.kind=4\/n.kind=5)->(n.kind=8\/n.kind=9\/n.kind=10\/n.kind=11)->Dd 169 9 [] Q [(pt s 0 0),(pt k 0 0)] h:=fun A f=>by
  unfold cX.fT at a;rw[aLx A,aLy f] at a;exact w5 hC hG g c a
 refine bG (aT (fun t=>bW (bJ t (home (by omega)))) (fun t=>bW ?_));refine bG (aT (fun u=>bW (bJ u (home (by omega)))) (fun u=>bW ?_));refine bG (aT (fun v=>bW (bJ v (home (by omega)))) (fun v=>bW ?_));refine bG (aT (fun x=>bW (bJ x (home (by omega)))) (fun x=>bW ?_));refine bG (aT (fun B=>home (by omega)) (fun B=>bW ?_));refine bG (aT (fun y=>bW (bJ y (cache (by omega) (by omega)))) (fun y=>bW ?_));refine bG (aT (fun z=>bW (bJ z (cache (by omega) (by omega)))) (fun z=>bW ?_));refine bG (aT (fun j=>bW (bJ j (cache (by omega) (by omega)))) (fun j=>bW ?_));refine bG (aT (fun p=>cache (by omega) (by omega)) (fun p=>bW ?_));unfold cX.fT at a;rw[aab,aab] at a;refine bG (aT (fun q=>?_) (fun q=>bW ?_));rw[aLy q] at a;exact aAp hC g c a;rw[aLx q] at a;refine bG (aT (fun e=>?_) (fun e=>bW ?_));rw[aLy e] at a;exact iq hC g (g.word e) c a;rw[aLx e] at a;refine bG (aT (fun i=>?_) (fun i=>bW ?_));rw[aLy i] at a;exact aC3 hC g c a;rw[aLx i] at a;refine bG (aT (fun r=>?_) (fun r=>?_));rw[aLy r] at a;exact Zv hC hG g c a;rw[aLx r] at a;have c:Hs G h (bB G Cf m M::L'):=c.to;exact a _ _ (sp []) h (u5 (F3 c)) fun l=>absurd l (by show ¬(15:Int)=0;omega)
theorem pe (_:Cf.Ok):(M.fT Cf n).2.1.length<=100:=by
 unfold cX.fT;split;unfold gQ;split;simp;split;unfold sQ.take;split;split<;>simp;split;split;simp;unfold sQ.P6;dsimp only;have a:= @Fk;have b:= @tH;grind [Row.rest];simp;simp
 .split;have:=wg (C:=Cf) (core:=n.core) (s:=M.cC n.core.toNat) (nt:=n);dsimp only;omega
  .repeat' split
   all_goals simp
   all_goals split<;>simp
theorem Wq {d:Do} (hC:Cf.Ok) (hG:Gb G) (A:cv Cf M.iZ) (E:∀n,(M.iZ.take Cf d.a d.b d.c).2.2=0->(M.iZ.take Cf d.a d.b d.c).2.1=n->vM Cf M n) (j:cv Cf (M.iZ.take Cf d.a d.b d.c).1) (g:Hs G h L) [O:Has (bB G Cf m) L M L'] (i:∀z,Hs G z (bB G Cf m (M.tL Cf d.a d.b d.c).1::L')->Q (I (M.tL Cf d.a d.b d.c).2) z):Cl Pr K 118 [pt m 0 0,.agg ⟨d.enc⟩] h Q:=by
 unfold cX.tL at i;refine cW (dL (cs:=d.enc) (O.of g) fun y h g=>?_);obtain⟨x,r,g⟩:=cQ (g.front (bB G Cf m M));refine aB (aA (am m g rfl (J1 (C:=Cf) (F:=M.iZ) hC (A.Np hC) g fun q h g=>?_)));refine aA (am y g rfl (aA (am y g rfl (aA (am y g rfl ?_)))));refine Zw (C:=Cf) (f:=q) (F:=M.iZ) hC (A.Np hC) g fun h g=>aG rfl (aG rfl (bN g fun D h g=>ax (b:=D) g fun h g=>aX (aT (fun p=>?_) (fun p=>?_))));rw[aLy p] at i;exact i _ (bI (m:=m) (x:=x) M r g).to;rw[aLx p] at i;have B:=E _ (by omega) rfl;generalize M.iZ.take Cf d.a d.b d.c=tt at i g p B j;have g:=bI (m:=m) (x:=x) M r g;refine bW (an D g (l:=tt.2.1.enc) rfl rfl (yg (Cf:=Cf) (M:=M) (n:=tt.2.1) hC hG B g ?_));intro v R Z h g k;refine aG rfl (aG rfl (aG rfl (aX (aT (fun s=>?_) (fun s=>?_)))));dsimp only at i;rw[aLy s] at i;exact i _ g.to;dsimp only at i;rw[aLx s] at i;obtain⟨a,c,J,u⟩:=H.s0 g;subst J;have g:Hs G h (mZ a c (M.fT Cf tt.2.1).2.1::_):=u;refine bW ?_;refine Ex (C:=Cf) (f:=q) (F:=tt.1) (l:=(M.fT Cf tt.2.1).2.1) (a:=a) (c:=c) hC (j.Np hC) (pe hC) hG.kin hG.lim g fun h g=>aX (aT (fun t=>?_) (fun t=>?_));rw[aLy t] at i;exact i _ g.to;rw[aLx t] at i;obtain⟨x,r,g⟩:=cQ (g.front (bB G Cf m M));refine bW (aB (aA (ay (b:=m) (o:=0) g fun h g=>?_)));have e:dT (eW Cf x M.log.length) (0+12) [pt q 0 0]=eW Cf {x with fb:=q} M.log.length:=rfl;rw[e] at g;have g:=bI (m:=m) (x:={x with fb:=q}) (M.dT (tt.1.send Cf (M.fT Cf tt.2.1).2.1).1) r g;exact k (by omega) _ h _ _ (g.bL Z (bB G Cf m (M.dT (tt.1.send Cf (M.fT Cf tt.2.1).2.1).1))) fun v h g=>i _ g.to
end
section
set_option maxRecDepth 100000
variable {G:Bg} {h:AH} {L L':List HP} {Q:Value->AH->Prop} {Cf:bQ} {m:Nat} {M:cX}
theorem jx {d:Do} (hC:Cf.Ok) (hG:Gb G) (E:gX Cf M.dG) (A:vF Cf M.home (2^30 - 4)) (D:cv Cf M.iZ) (g:Hs G h L) [O:Has (bB G Cf m) L M L'] (i:∀z,Hs G z (bB G Cf m (M.begin Cf d.a).1::L')->Q (I (M.begin Cf d.a).2) z):Cl Pr K 119 [pt m 0 0,.agg ⟨d.enc⟩] h Q:=by
 unfold cX.begin at i;refine cW (dL (cs:=d.enc) (O.of g) fun R h g=>?_);obtain⟨x,u,g⟩:=cQ (g.front (bB G Cf m M));refine aB (aA (am m g rfl (H.Cq (C:=Cf) hC (Ge A (by omega)) g fun q h g=>aS g fun S h g=>aA (am R g rfl ?_))));refine aB (aA (iV (b:=m) (o:=0) g (by decide) (l:=Cf.enc) rfl rfl (aB (aA (am m g rfl (aJ (c:=Cf.enc++[pt x.mb 0 0]) rfl ?_))))));have g:=g.bL (H.fO G q Cf M.home) (fD Cf x.mb M.dG);refine H.tg (C:=Cf) (hb:=q) (H:=M.home) hC hG.lim (S4 (p:=x.mb) hC E hG.lim) A g (List.Perm.refl _) fun v h g=>aG rfl (aG rfl ?_);have B:(fun w=>Ma Cf M.dG w d.a)=M.dy Cf d.a:=rfl;rw[B] at g ⊢;have t:=Tf (C:=Cf) (H:=M.home) (l:=d.a) (j:=M.dy Cf d.a);generalize kR Cf M.home d.a (M.dy Cf d.a)=r at i g t ⊢;refine aX (aT (fun s=>?_) (fun s=>?_));rw[aLy s] at i;exact i _ (bI (m:=m) (x:=x) M u g).to;dsimp only at i;rw[aLx s] at i;obtain⟨a,c,J,y⟩:=H.s0 g;subst J;have g:Hs G h (mZ a c r.2.1::_):=y;refine bW (aB (aA (am m g rfl ?_)));refine Ex (C:=Cf) (f:=x.fb) (F:=M.iZ) (l:=r.2.1) (a:=a) (c:=c) hC (D.Np hC) (by omega) hG.kin hG.lim g fun h g=>aX (aT (fun k=>?_) (fun k=>?_));rw[aLy k] at i;rw[Eh k] at g;exact i _ (bI (m:=m) (x:=x) M u g).to;rw[aLx k] at i;refine bW (aB (aA (ay (b:=m) (o:=0) g fun h g=>i _ ?_)));have e:dT (eW Cf x M.log.length) (0+10) [pt q 0 0]=eW Cf {x with hb:=q} M.log.length:=rfl;rw[e] at g;exact(bI (m:=m) (x:={x with hb:=q}) ((M.dT (fV.send Cf M.iZ r.2.1).1).sL r.1) u g).to
abbrev sdX (G:Bg) (Cf:bQ) (m p2 a:Nat) (M:cX) (b:Bool) (e:Nat->Value) (d l:Nat) (st:LoopState×Option Code) (pr:Prop):HP:=sp [rN pr,fM Pr 91 (fQ 218) 29 e d l st,sp [aE p2 0 [pt m 0 0],aE a 0 [.bool b]],bB G Cf m M]
theorem mg {g:Nat} (hC:Cf.Ok) (hG:Gb G) (S:(g:Int)<Cf.bM) (T:vF Cf M.home (2^30)) (a:Hs G h L) [V:Has (bB G Cf m) L M L'] (k:∀A,Hs G A (bB G Cf m M::L')->Q (.bool (M.mH Cf g)) A):Cl Pr K 91 [pt m 0 0,I g] h Q:=by
 refine cW (dL (V.of a) fun f h a=>?_);obtain⟨x,t,a⟩:=cQ (a.front (bB G Cf m M));refine am f a rfl (aB (aA (am m a rfl (Lh (C:=Cf) (m:=M.dG) a fun h a=>bG (bN a fun c h a=>ax (b:=c) a fun h a=>?_)))));generalize O:decide (M.dG.phase g=2)=b at a;refine am f a rfl (aB (aA (iV (b:=m) (o:=0) a (by decide) (l:=Cf.enc) rfl rfl (C2 (C:=Cf) a fun F J h a=>?_))));have a:=bI (m:=m) (x:=x) M t a;refine iI a fun d h a=>?_;intro e R;refine jL a fun l h a=>oB rfl ?_;have a:Hs G h (sp [aE F 0 Cf.enc,aE J 0 [I g]]::sdX G Cf m f c M b e d l (.ready,none) (∀l∈([]:List Nat),¬fR Cf M.home l>0)::mk d ()::L'):=by
  have a:=(a.bL (aE f 0 [pt m 0 0]) (aE c 0 [.bool b])).yC;have a:=a.cE (fM Pr 91 (fQ 218) 29 e d l (.ready,none)) (sp [aE f 0 [pt m 0 0],aE c 0 [.bool b]]) (bB G Cf m M);have a:=Hs.E7 (Hs.Wm (p:=∀l∈([]:List Nat),¬fR Cf M.home l>0) (by simp) a);exact a.to
 refine(F6 (C:=Cf) hC S (p:=F) (q:=J) hG.lim).fold (X:=fun done=>sdX G Cf m f c M b e d l (.ready,none) (∀l∈done,¬fR Cf M.home l>0)) (Z:=fun _ y=>sdX G Cf m f c M false e d l (.done,some (.exit 0)) (fR Cf M.home y>0/\(y=g*2\/y=g*2+1))) a ?_ ?_ ?_
 .intro done y h N E a;obtain⟨i,a⟩:=hJ a;have a:=a.yG;have U:y=g*2\/y=g*2+1:=by
   obtain⟨W,u⟩:=E;have:y∈[g*2,g*2+1]:=by rw[<-u];simp
   simpa using this
  have a:=(a.front (sp [aE f 0 [pt m 0 0],aE c 0 [.bool b]])).Bn;obtain⟨x,t,a⟩:=cQ (a.front (bB G Cf m M));refine rW (nX a) R (fG a fun h a=>am f a rfl (aB (aA (am m a rfl (H.Qv (C:=Cf) (H:=M.home) T a fun h a=>?_)))));have a:=bI (m:=m) (x:=x) M t a;refine iM (aT (fun r=>?_) (fun r=>?_));refine ax (b:=c) a fun h a=>gK a fun h a=> .inr ⟨rfl,?_⟩;have a:=(a.bL (aE f 0 [pt m 0 0]) (aE c 0 [.bool false])).yC;have a:=a.cE (fM Pr 91 (fQ 218) 29 e d l (.done,some (.exit 0))) (sp [aE f 0 [pt m 0 0],aE c 0 [.bool false]]) (bB G Cf m M);exact(Hs.E7 (Hs.Wm (p:=fR Cf M.home y>0/\(y=g*2\/y=g*2+1)) ⟨r,U⟩ a)).to
  .refine gK a fun h a=> .inl ⟨rfl,?_⟩;have a:=(a.bL (aE f 0 [pt m 0 0]) (aE c 0 [.bool b])).yC;have a:=a.cE (fM Pr 91 (fQ 218) 29 e d l (.ready,none)) (sp [aE f 0 [pt m 0 0],aE c 0 [.bool b]]) (bB G Cf m M);refine(Hs.E7 (Hs.Wm (p:=∀l∈done++[y],¬fR Cf M.home l>0) ?_ a)).to;intro z j;rcases List.mem_append.1 j with j|j;exact i z j;rw[List.mem_singleton.1 j];exact r
 intro v h a;obtain⟨i,a⟩:=hJ (a.front (sdX G Cf m f c M b e d l (.ready,none) (∀l∈[g*2,g*2+1],¬fR Cf M.home l>0)));have a:=a.yG;have s:M.mH Cf g=b:=by
  have B:=i (g*2) (by simp);have D:=i (g*2+1) (by simp);rw[<-O];unfold cX.mH;simp only[Int.natCast_mul,Int.natCast_add] at B D;rw[decide_eq_false (p:=fR Cf M.home (g*2)>0) B,decide_eq_false (p:=fR Cf M.home (g*2+1)>0) D];simp
 rw[s] at k;have a:=(a.front (sp [aE f 0 [pt m 0 0],aE c 0 [.bool b]])).Bn;exact jN a fun h a=>jR (am c a rfl (jW a fun h a=>iT (k _ a.to)))
 .intro done y v h E a;obtain⟨i,a⟩:=hJ (a.front (sdX G Cf m f c M false e d l (.done,some (.exit 0)) (fR Cf M.home y>0/\(y=g*2\/y=g*2+1))));have a:=a.yG;have s:M.mH Cf g=false:=by
   unfold cX.mH;rcases i.2 with e|e;have:=i.1;rw[e] at this;simp only[Int.natCast_mul] at this;rw[decide_eq_true (p:=fR Cf M.home (g*2)>0) this];simp;have:=i.1;rw[e] at this;simp only[Int.natCast_mul,Int.natCast_add] at this;rw[decide_eq_true (p:=fR Cf M.home (g*2+1)>0) this];simp
  rw[s] at k;have a:=(a.front (sp [aE f 0 [pt m 0 0],aE c 0 [.bool false]])).Bn;exact Kt a fun h a=>Q4 rfl (am c a rfl (jW a fun h a=>iT (k _ a.to)))
end
section
theorem Xy {H:lB} {g:Nat}:zK H g=fun i=>((H i).1,Bk (fun i=>(H i).2) g i):=by
 funext i;unfold zK Bk cB;by_cases a:i=g*2+1;subst a;simp;by_cases b:i=g*2;subst b;simp;rw[aab,aLx a,aLx b]
theorem Oe {m:Mon} {g:Int} {u:Mc.jH} (h:(m.over g).2.1=some u):m.run g=some u/\(m.over g).2.2=0/\m.has g:=by
 unfold Mon.over at h ⊢;by_cases a:m.has g;rw[aLx (by simpa using a)] at h ⊢;cases hr:m.run g with
 |none=>rw[hr] at h;cases h
 |some r=>
  rw[hr] at h;dsimp only at h ⊢;split at h;cases h;rename_i b;cases h;rw[aLx b];exact⟨rfl,rfl,a⟩
 rw[aLy a] at h;cases h
theorem P1 {m:Mon} {g:Int} (h:(m.over g).2.1=none):(m.over g).1=m/\(m.over g).2.2≠0:=by
 unfold Mon.over at h ⊢;split;exact⟨rfl,by dsimp only;omega⟩;rename_i a;rw[aLx a] at h;split;exact⟨rfl,by dsimp only;omega⟩;rename_i r c;rw[c] at h;dsimp only at h;split;exact⟨rfl,by dsimp only;omega⟩;rename_i b;rw[aLx b] at h;cases h
set_option maxRecDepth 100000
variable {G:Bg} {h:AH} {L L':List HP} {Q:Value->AH->Prop} {Cf:bQ} {m:Nat} {M:cX}
theorem Zn {d:Do} (hC:Cf.Ok) (hG:Gb G) (T:gX Cf M.dG) (W:vF Cf M.home (2^30)) (t:∀i:Nat,(i:Int)<Cf.aD->(M.aR i).Ok) (l:M.log.length<=2^30) (e:Hs G h L) [X:Has (bB G Cf m) L M L'] (f:∀J,Hs G J (bB G Cf m (M.finish Cf d.a).1::L')->Q (I (M.finish Cf d.a).2) J):Cl Pr K 120 [pt m 0 0,.agg ⟨d.enc⟩] h Q:=by
 unfold cX.finish at f;refine cW (dL (cs:=d.enc) (X.of e) fun y h e=>aS e fun rr h e=>?_);obtain⟨x,q,e⟩:=cQ (e.front (bB G Cf m M));refine aA (am y e rfl (aI (aT (fun O=>?_) (fun O=>?_))));rw[aae] at f;exact f _ (bI (m:=m) (x:=x) M q e).to;refine aA (am y e rfl (aB (aA (aA (am m e rfl (dV (aT (fun R=>?_) (fun R=>?_))))))));rw[aae] at f;exact f _ (bI (m:=m) (x:=x) M q e).to;rw[aab] at f;obtain⟨w,a,b,c⟩:=d;dsimp only at O R f;obtain⟨g,rfl⟩:=Int.eq_ofNat_of_zero_le (show 0<=a by omega);have e:=bI (m:=m) (x:=x) M q e;refine bW (aA (am y e rfl (mg (Cf:=Cf) (M:=M) hC hG (by omega) W e fun h e=>bY (dY (dH (fun z=>?_) (fun z=>?_))))));rotate_left;rw[aLy z] at f;exact f _ e.to;rw[aLx (by rw[z];simp)] at f;obtain⟨x,q,e⟩:=cQ (e.front (bB G Cf m M));refine bW (aS e fun Z h e=>aB (aA (am m e rfl (aA (am y e rfl ?_)))));refine X9 (C:=Cf) (m:=M.dG) (p:=x.mb) hC T e fun h e=>aG rfl (aG rfl (kI (r:=Z) (i:=10) (n:=13) (D:=[]) e rfl rfl fun v h e=>ax (b:=v) e fun h e=>bV (aG rfl iN) (aX (aT (fun B=>?_) (fun B=>?_)))));cases hu:(M.dG.over (g:Int)).2.1 with
 |some u=>exact absurd (Oe hu).2.1 B
 |none=>
  rw[hu] at f;dsimp only at f;rw[(P1 hu).1] at e;exact f _ (bI (m:=m) (x:=x) M q e).to
 cases hu:(M.dG.over (g:Int)).2.1 with
 |none=>exact absurd (P1 hu).2 B
 |some u=>
 obtain⟨u1,_,u2⟩:=Oe hu;obtain⟨o1,U,o3,Y,o5⟩:=T.run g u (xz u1);rw[hu] at f e;dsimp only at f;simp only[Option.getD_some] at e;obtain⟨i,S⟩:=Int.eq_ofNat_of_zero_le Y.1;have k:(i:Int)<Cf.aD:=by omega
 have F:(nG u)[0+0+0]?=some (I i):=by show some (I u.core)=_;rw[S]
 have V:(nG u)[0+0+3]?=some (I g):=by show some (I u.cN)=_;rw[U]
 rw[show u.core.toNat=i by rw[S];rfl,U] at f;refine bW (aA (am v e rfl (dH (fun E=>?_) (fun E=>?_))));rw[aLy E] at f;obtain⟨s,b,o,j,e⟩:=H.nE (e.front (H.fO G x.hb Cf M.home));refine bW (aS e fun r3 h e=>aB (aA (am m e rfl (aB (aA (aC (b:=x.hb) (o:=0) e rfl (aA (aA (am v e V ?_)))))))));refine A.qu (C:=Cf) (mb:=s) (g:=g) (mem:=fun i=>(M.home i).2) hC hG.lim e (by omega) fun _ h e=>aA (aA (am v e F ?_));have e:=H.pU (H:=zK M.home g) (hb:=x.hb) (C:=Cf) (mb:=s) (b:=b) (o:=o) (cap:=j) (by rw[Xy];exact e.gN (aE x.hb 0 (H.lN s Cf b o j)) (eM G Cf.lines s Cf (Bk (fun i=>(M.home i).2) g)) (hole G 25 222 (some ⟨b,o,none⟩) j Cf.lines b o) (dE Cf.lines fun i=>H.eI b (o+i*25) (M.home i).1));have e:=bI (m:=m) (x:=x) ((M.oF (M.dG.over g).1).sL (zK M.home g)) q e;exact nH (Cf:=Cf) (M:=(M.oF (M.dG.over g).1).sL (zK M.home g)) k (t i k) l e fun h e=>f _ e.to;rw[aLx (by rw[E];simp)] at f;have e:=bI (m:=m) (x:=x) (M.oF (M.dG.over g).1) q e;exact aA (aA (am v e F (nH (Cf:=Cf) (M:=M.oF (M.dG.over g).1) k (t i k) l e fun h e=>f _ e.to)))
end
section
def Cd:List Value:=[.func (.func 117) #[] #[],.func (.func 118) #[] #[],.func (.func 119) #[] #[],.func (.func 120) #[] #[]]
set_option maxRecDepth 100000
variable {G:Bg} {h:AH} {L L':List HP} {Q:Value->AH->Prop} {Cf:bQ} {m N:Nat} {M:cX}
theorem r8 (a:Hs G h L) (f:∀e,Hs G e L->Q (.agg ⟨Cd⟩) e):Cl Pr K 70 [] h Q:=
 cW (bN a fun p h a=>aJ (c:=Cd) rfl (ax (b:=p) a fun h a=>an p a (l:=Cd) rfl rfl (f _ a.tail)))
theorem aBw {d:Do} {f:Value} (hC:Cf.Ok) (hG:Gb G) (a:eN Cf N M) (j:N<=2^29) (o:0<=d.nN/\d.nN<=3) (k:Cd[d.nN.toNat]?=some f) (c:Hs G h L) [s:Has (bB G Cf m) L M L'] (b:∀g,Hs G g (bB G Cf m (M.rL Cf d).1::L')->Q (I (M.rL Cf d).2) g):xS Pr K f [pt m 0 0,.agg ⟨d.enc⟩] h Q:=by
 unfold cX.rL at b;have o:d.nN=0\/d.nN=1\/d.nN=2\/d.nN=3:=by omega
 have l:=a.log;rcases o with e|e|e|e;all_goals
  rw[e] at k
  cases k
 rw[aLy e] at b;exact qN rfl (se hC hG (fun i q=>a.step hC j q) c b);rw[aab,aLy e] at b;exact qN rfl (Wq hC hG a.iZ.len (fun n p r=>by rw[<-r];exact a.take hC j (Vc a.iZ p).1) (Wg a.iZ).len c b);rw[aab,aab,aLy e] at b;exact qN rfl (jx hC hG a.dG (a.home.h (by omega)) a.iZ.len c b);rw[aab,aab,aab,aLy e] at b;exact qN rfl (Zn hC hG a.dG (a.home.h (by omega)) a.D7 (by omega) c b)
theorem Fm {l:List Do} {i:Nat} {d:Do} (h:l[i]?=some d):(l.map Do.enc)[i]?=some d.enc:=by rw[List.getElem?_map,h];rfl
theorem tn {l:List Do} {e:TypeId} {v:Value} (hC:Cf.Ok) (hG:Gb G) (s:eN Cf N M) (B:N+2*l.length<=2^29) (g:Hs G h (yU G 4 e v (l.map Do.enc)::bB G Cf m M::L)) (j:∀r,Hs G r (yU G 4 e v (l.map Do.enc)::bB G Cf m (M.mG Cf l 0).1::L)->Q (.tuple ⟨[I (M.mG Cf l 0).2.1,I (M.mG Cf l 0).2.2]⟩) r):Cl Pr K 22 [pt m 0 0,v] h Q:=by
 obtain⟨a,c,E⟩:=uS g;rw[List.length_map] at E;have q:∀{k:Value->Prop},k (I l.length)->bA (kS v) k:=fun j=>by rw[E];exact bH j
 refine cW (cK (bP (bW (r8 g fun h g=>bN g fun p h g=>ax (b:=p) g fun h g=>q ?_))));have loop:∀(f i N:Nat) (M:cX) (h:AH),i+f=l.length->eN Cf N M->N+2*f<=2^29->(∀r,Hs G r (yU G 4 e v (l.map Do.enc)::bB G Cf m (M.mG Cf (l.drop i) i).1::L)->Q (.tuple ⟨[I (M.mG Cf (l.drop i) i).2.1,I (M.mG Cf (l.drop i) i).2.2]⟩) r)->
   Hs G h (yU G 4 e v (l.map Do.enc)::aE p 0 Cd::bB G Cf m M::L)->Dd 22 2 [] Q [(pt m 0 0),v,(pt p 0 0),v,(I l.length),(I i)] h:=by
  intro f
  induction f with
  |zero=>
   intro i N M h R s B j g
   rw[List.drop_of_length_le (by omega)] at j
   unfold cX.mG at j
   have A:i=l.length:=by omega
   subst A
   exact bW (aI (aaa (q (j _ g.to))))
  |succ f S=>
   intro i N M h R s B j g
   obtain⟨d,O,z⟩:=gU (l:=l) (i:=i) (by omega)
   rw[z] at j
   unfold cX.mG at j
   refine bW (aI (aad (bW (au g (by decide) (Fm O) (bN g fun u h g=>ax (b:=u) g fun h g=>aA (am u g rfl (aI (aT (fun F=>?_) (fun F=>?_)))))))))
   .have x:M.rL Cf d=(M,1):=by unfold cX.rL;rw[aab,aab,aab,aab]
    rw[x,aLy (show(M,(1:Int)).2≠0 by show(1:Int)≠0;omega)] at j
    exact j _ g.to
   refine aA (am u g rfl (iM (aT (fun J=>?_) (fun J=>?_))))
   .have x:M.rL Cf d=(M,1):=by unfold cX.rL;rw[aab,aab,aab,aab]
    rw[x,aLy (show(M,(1:Int)).2≠0 by show(1:Int)≠0;omega)] at j
    exact j _ g.to
   have t:d.nN.toNat<4:=by omega
   have D:Cd[d.nN.toNat]?=some (Cd[d.nN.toNat]'t):=List.getElem?_eq_getElem t
   refine bW (aS g fun T h g=>aA (am u g rfl (fI (by omega) (by omega) (am p g (by simpa using D) (an u g (l:=d.enc) rfl rfl ?_)))))
   refine aBw hC hG s (by omega) (by omega) D g fun h g=>aX (aT (fun y=>?_) (fun y=>?_))
   .rw[aLy y] at j;exact j _ g.to
   .rw[aLx y] at j;refine bW (aac ?_);exact S (i+1) (N+2) _ h (by omega) (Pz s hC) (by omega) j g.to
 exact loop l.length 0 N M h (by omega) s (by omega) (by simpa using j) g.to
end
end Go.Proofs.YtmhapehobfnoiaaGreatDoor
namespace Go.Proofs.YtmhapehobfnoiaaGreatDoor.A
open Go Go.Ab Go.Hm Go.At Go.Is
section
set_option maxRecDepth 100000
variable {G:Bg} {h:AH} {L L':List HP} {Q:Value->AH->Prop}
abbrev zS:List Value:=[I 0,I 0,I 0,I 0,I 0,I 0,.bool false,.slice none 0 0]
theorem Zl {B p b o cap E c mb:Nat} {a:Option Addr} {C:bQ} {pv wv:Value} {y:List Value} {ps:List (List Ins)} {ws:List Int} (hB:B<=4) (W:ps.length=B) (Y:ws.length=B) (U:∀p∈ps,p.length<=32)
  (hv:y.length=ps.length) (T:tC G 1 pv (y.map fun x=>[x]).length (fun i=>(y.map fun x=>[x]).getD i [])) (J:∀(i:Nat) (v:Value) (p:List Ins),y[i]?=some v->ps[i]?=some p->U5 G v p) (X:H5 G wv ws)
  (R:∀D,Hs G D (yj p C (.slice (some ⟨b,o,none⟩) B cap) a E c mb::dE B (fun i=>xP b (o+i*8) (sK (ps.getD i []) (ws.getD i 0)))::L)->Q (.tuple ⟨[pt p 0 0,I 0]⟩) D):
  ∀(r i:Nat) (h:AH),i+r=B->Hs G h (yj p C (.slice (some ⟨b,o,none⟩) B cap) a E c mb::dE B (fun j=>if j<i then xP b (o+j*8) (sK (ps.getD j []) (ws.getD j 0)) else aE b (o+j*8) zS)::L)->
  Dd 12 13 [] Q [pv,wv,(pt p 0 0),(I B),(I i)] h:=by
 intro r
 induction r with
 |zero=>
  intro i h k f
  obtain rfl:i=B:=by omega
  refine bW (aI (aaa (R _ ?_)))
  exact(rY (g:=fun j=>xP b (o+j*8) (sK (ps.getD j []) (ws.getD j 0))) (fun j O=>by rw[aLy O]) f.lJ).lJ
 |succ r Z=>
  intro i h K f
  have k:i<B:=by omega
  obtain⟨pp,q,_⟩:=lK (l:=ps) (i:=i) (by omega)
  obtain⟨v,t,_⟩:=lK (l:=y) (i:=i) (by omega)
  obtain⟨w,u,_⟩:=lK (l:=ws) (i:=i) (by omega)
  have V:pp.length<=32:=U pp (List.mem_of_getElem? q)
  have f:=(f.front (dE B fun j=>if j<i then xP b (o+j*8) (sK (ps.getD j []) (ws.getD j 0)) else aE b (o+j*8) zS)).kH i k
  simp only[Nat.lt_irrefl,if_false] at f
  refine bW (aI (aad (bW (aB (aA (am p f rfl (dO k ?_)))))))
  refine yY (B2 (e:=3) (by simp) T f) (x:=[v]) (by simp[t]) rfl ?_
  refine aA8 (by rw[Jd];omega) (by rw[Pv];exact ba _) (R6 (J i v pp t q) f) fun z A h f=>?_
  rw[Jd,Pv] at f
  rw[Jd]
  refine aB (aA (ay (b:=b) (o:=o+i*8) f fun h f=>?_))
  refine yY (rM X f) (x:=[I w]) (by simp[Dy,u]) rfl ?_
  refine aB (aA (aA (ay (b:=b) (o:=o+i*8) f fun h f=>?_)))
  have f:=f.sg (b:=b) (o:=o+i*8) (c:=(⟨fun _=>0,0,w,false,pp⟩:bE).core++[.slice z pp.length A]) rfl
  refine Iq (s:=⟨fun _=>0,0,w,false,pp⟩) (a:=z) (c:=A) (by omega) (f.bL (aE b (o+i*8) ((⟨fun _=>0,0,w,false,pp⟩:bE).core++[.slice z pp.length A])) (dI 4 76 z A (pp.length,yL pp))) fun h f=>aac ?_
  refine Z (i+1) h (by omega) ?_
  have f:=Zt (b:=b) (o:=o+i*8) (s:=(⟨fun _=>0,0,w,false,pp⟩:bE).pA 0) f
  have e:(⟨fun _=>0,0,w,false,pp⟩:bE).pA 0=sK (ps.getD i []) (ws.getD i 0):=by
   rw[List.getD_eq_getElem?_getD,List.getD_eq_getElem?_getD,q,u];rfl
  rw[e] at f
  have F:xP b (o+i*8) (sK (ps.getD i []) (ws.getD i 0))=(fun j=>if j<i+1 then xP b (o+j*8) (sK (ps.getD j []) (ws.getD j 0)) else aE b (o+j*8) zS) i:=by simp only[Nat.lt_succ_self,if_true]
  rw[F] at f
  have f:=f.nQ (n:=B) (i:=i) (fun j=>if j<i then xP b (o+j*8) (sK (ps.getD j []) (ws.getD j 0)) else aE b (o+j*8) zS) (fun j=>if j<i+1 then xP b (o+j*8) (sK (ps.getD j []) (ws.getD j 0)) else aE b (o+j*8) zS) k (fun j _ S=>by
   have:(j<i+1)=(j<i):=propext ⟨fun h=>by omega,fun h=>by omega⟩;simp only[this])
  exact f.to
theorem Ed:∀{ps:List (List Ins)},sO ps=0->∀p∈ps,(lE p).2=0
 |[],_,p,a=>by simp at a
 |q::l,h,p,a=>by
  rw[sO] at h;split at h;rename_i b;exact absurd h b;rename_i b;rcases List.mem_cons.1 a with rfl|a;omega;exact Ed h p a
theorem O2 {p:List Ins} (h:(lE p).2=0):p.length<=32:=by
 unfold lE at h;split at h;cases h;omega
theorem aFj {C:bQ} {pv wv ov vv:Value} {ps:List (List Ins)} {ws os vs:List Int} (O:ps.length<=1000/\ws.length<1000/\os.length<1000) (J:Ob G 0 eY) (V:Ob G 1 tW) (Z:Y8 G pv wv ov vv ps ws os vs) (f:Hs G h L)
  (q:Dp C ps ws os vs≠0->∀j,Hs G j L->Q (.tuple ⟨[.pointer none,I (Dp C ps ws os vs)]⟩) j)
  (y:Dp C ps ws os vs=0->∀p j,Hs G j (aGx G p (aJ6 C ps ws os vs)::L)->Q (.tuple ⟨[pt p 0 0,I 0]⟩) j):Cl Pr K 12 [.agg ⟨C.enc⟩,pv,wv,ov,vv] h Q:=by
 obtain⟨⟨vi,R,v,D⟩,x,u,E⟩:=Z
 have lp:∀{k:Value->Prop},k (I ps.length)->bA (kS pv) k:=fun t=>tK v (by simpa [R] using t)
 have lw:∀{k:Value->Prop},k (I ws.length)->bA (kS wv) k:=fun t=>tK x (by simpa [sD] using t)
 have lo:∀{k:Value->Prop},k (I os.length)->bA (kS ov) k:=fun t=>tK u (by simpa [sD] using t)
 have S:∀{k:Value->Prop},k (I vs.length)->bA (kS vv) k:=fun t=>tK E (by simpa [sD] using t)
 unfold Dp at q y
 refine cW (dL f fun r h f=>aN f (by decide) (l:=C.enc) rfl rfl (nD J f fun h f=>?_))
 by_cases hC:C.Ok
 rotate_left
 .rw[aLy hC] at q;rw[aLx hC];exact aX (aad (q (by omega) _ f.tail))
 rw[aLx (by simpa using hC)] at q y
 rw[aLy hC]
 have Y:=bQ.eP hC
 have F:=bQ.bk hC
 have U:C.aD<=4/\1<=C.aD:=⟨hC.1.2,hC.1.1⟩
 have X:C.bM<=16:=hC.2.1.2
 have bad:((ps.length:Int)≠C.aD\/(ws.length:Int)≠C.aD\/(os.length:Int)≠C.bM\/vs.length≠C.lines*2)->∀j,Hs G j (aE r 0 C.enc::L)->Q (.tuple ⟨[.pointer none,I 1]⟩) j:=fun F j f=>by
  rw[aLy F] at q;exact q (by omega) _ f.tail
 refine aX (aaa (bW (lp (aA (am r f rfl (aX (aT (fun g=>bad (.inl g) _ f) (fun g1=>lw (aA (am r f rfl (aX (aT (fun g=>bad (.inr (.inl g)) _ f) (fun g2=>lo (aA (am r f rfl (aX (aT (fun g=>bad (.inr (.inr (.inl g))) _ f) (fun g3=>S (an r f (l:=C.enc) rfl rfl (Ue hC J f fun h f=>aX (aT (fun g=>bad (.inr (.inr (.inr (by omega)))) _ f) (fun g4=>?_))))))))))))))))))))))
 clear bad
 rw[aab] at q y
 refine bW (lp (X1 (_C:=C) R v D V O.1 (fun e h f=>?_) (fun e h f=>?_) ps.length 0 h (by omega) rfl f))
 .rw[aLy e] at q;exact q e _ f.tail
 rw[aLx (by simpa using e)] at q y
 have s:¬(within 0 3 ws=true/\within 0 4 os=true)->∀j,Hs G j (aE r 0 C.enc::L)->Q (.tuple ⟨[.pointer none,I 10]⟩) j:=fun F j f=>by
  rw[aLy F] at q;exact q (by omega) _ f.tail
 refine bW (Gk (l:=ws) O.2.1 (rM x f) fun h f=>bY (dY (dH (fun g1=>?_) (fun g1=>s (by simp[g1]) _ f.tail))))
 refine Gk (l:=os) O.2.2 (rM u f.tail) fun h f=>bY (dY (dH (fun g2=>?_) (fun g2=>s (by simp[g2]) _ f.tail)))
 clear s
 rw[aLx (by simp[g1,g2])] at q y
 have f:=f.tail
 refine bW (an r f (l:=C.enc) rfl rfl (O5 hC J f fun z h f=>aG rfl (aG rfl (aX (aaa (bW (S ?_)))))))
 refine br (L:=aE r 0 C.enc::L) hC E J (by omega) (fun h f=>?_) vs.length 0 oY h (by omega) rfl f
 refine bW (aS f fun rv h f=>an r f (l:=C.enc) rfl rfl (aA (am r f rfl (Rb (by omega) (by omega) (by omega) ?_))))
 dsimp only
 refine gM f rfl rfl ?_ rfl ?_ ?_
 .rw[gH,qI (W:=8) (fun _=>rfl)]
 .rw[gH];exact pN (fun _=>rfl) _
 intro a h f
 obtain⟨b,o,T,f⟩:=Hs.Jf (W:=8) rfl (by omega) f
 cases T
 refine aAw (by rw[sD];omega) (by rw[N6];exact Zz _) (rM u f) fun A c2 h f=>?_
 rw[sD,N6] at f
 rw[sD]
 refine aJ (c:=C.enc++[.slice (some ⟨b,o,none⟩) C.aD.toNat C.aD.toNat,.slice A os.length c2,pt z 0 0]) rfl (xL f rfl rfl fun p h f=>?_)
 refine bV (an r f (l:=C.enc) rfl rfl (oN (by simp[bQ.enc,iN]))) (bV (aA bX) (bV (am r f rfl iN) (bV bX (aB (aA (am p f rfl (bH ?_)))))))
 have f:=f.bL (yj p C (.slice (some ⟨b,o,none⟩) C.aD.toNat C.aD.toNat) A os.length c2 z) (dE C.aD.toNat fun i=>aE b (o+i*8) zS)
 refine Zl (B:=C.aD.toNat) (b:=b) (o:=o) (C:=C) (ps:=ps) (ws:=ws) (by omega) (by omega) (by omega) (fun p hp=>O2 (Ed e p hp)) R v D x ?_ C.aD.toNat 0 h (by omega) (by simpa using f)
 intro h f
 refine y rfl p _ ?_
 have f:=ji (b:=b) (o:=o) (cap:=C.aD.toNat) (a:=A) (c:=c2) (mb:=z) (m:=aJ6 C ps ws os vs) ((f.gN (yj p C (.slice (some ⟨b,o,none⟩) C.aD.toNat C.aD.toNat) A os.length c2 z) (dI 1 3 A c2 (os.length,os.map I)) (eM G C.lines z C (words oY vs 0)) (hole G 8 127 (some ⟨b,o,none⟩) C.aD.toNat C.aD.toNat b o)).aEt (dE C.aD.toNat fun i=>xP b (o+i*8) (sK (ps.getD i []) (ws.getD i 0))))
 exact f.to
end
end Go.Proofs.YtmhapehobfnoiaaGreatDoor.A
namespace Go.Proofs.YtmhapehobfnoiaaGreatDoor
open Go Go.Ab Go.Hm Go.At Go.Mc Go.Ct Go.Nt Go.Is
section
def uC (C:bQ) (pv wv ov vv:Value):List Value:=C.enc++[pv,wv,ov,vv]
def qi (ps:List (List Ins)) (ws:List Int) (i:Nat):bE:=sK (ps.getD i []) (ws.getD i 0)
set_option maxRecDepth 100000
variable {G:Bg} {h:AH} {L L':List HP} {Q:Value->AH->Prop} {Cf:bQ} {m N:Nat} {M:cX}
def mkE (C:bQ) (a1 a2 a3:Option Addr) (n a c2 c3:Nat):List Value:=C.enc++[.slice a1 n a,.slice a2 n c2,.slice a3 n c3,.pointer none,.pointer none,.pointer none,.slice none 0 0]
theorem Ai {e:TypeId} {a a2:Option Addr} {c c2 q:Nat} {l:List Nat} {k:Value×AH->Prop} {N:List HP} (hb:l.length<=100) (b:Hs G h L) [r:Has (ls pE 1 e a c) L l L'] [m2:dX (dI 1 e a2 c2 (1,[pt q 0 0])) L' N]
  (p:∀f g o,Hs G o (ls pE 1 e f g (l++[q])::N)->k (.slice f (l.length+1) g,o)):bA (iK 1 8 e h (.slice a l.length c) (.slice a2 1 c2)) k:=by
 have b:=r.of b
 have i:Hs G h (dI 1 e a2 c2 (1,[pt q 0 0])::ls pE 1 e a c l::N):=(b.perm (m2.perm.cons _)).lJ
 have j:=(mR (enc:=pE) (x:=q) i).lJ
 have:=kL (enc:=pE) (e:=e) (l:=l) (l2:=[q]) (a:=a) (c:=c) (a2:=a2) (c2:=c2) (bytes:=8) (k:=k) j (by simp;omega) fun f g h b=>by
  have:=p f g h b.lJ.tail;rw[List.length_append,List.length_singleton];exact this
 exact this
theorem Jb {p2 p5:Nat} {pv wv ov vv:Value} {S:List Value} {ps:List (List Ins)} {ws:List Int} (hC:Cf.Ok) (hG:Gb G) (hg:Ob G 1 tW) (β:ps.length=Cf.aD.toNat) (γ:ws.length=Cf.aD.toNat) (α:∀w∈ws,0<=w/\w<=3) (X:∀p∈ps,(lE p).2=0)
  (hv:S.length=ps.length) (ho:tC G 1 pv (S.map fun x=>[x]).length (fun i=>(S.map fun x=>[x]).getD i [])) (hi:∀(i:Nat) (v:Value) (p:List Ins),S[i]?=some v->ps[i]?=some p->A.U5 G v p) (hw:A.H5 G wv ws)
  (hk:∀lc lk lq a1 a2 a3 j c2 c3 h',lc.length=Cf.aD.toNat->lk.length=Cf.aD.toNat->lq.length=Cf.aD.toNat->Hs G h' (aE p5 0 (mkE Cf a1 a2 a3 Cf.aD.toNat j c2 c3)::Ug a1 j lc::Ot a2 c2 lk::Oo a3 c3 lq::iY mQ lc (qi ps ws)::iY (kK G Cf) lk (fun _=>jJ.new)::iY (kG Cf) lq (fun _=>Hx)::aE p2 0 (uC Cf pv wv ov vv)::L)->Dd 11 4 [] Q [(pt p2 0 0),(pt p5 0 0)] h'):
  ∀(f i:Nat) (lc lk lq:List Nat) (a1 a2 a3:Option Addr) (j c2 c3:Nat) (h:AH),i+f=Cf.aD.toNat->lc.length=i->lk.length=i->lq.length=i->Hs G h (aE p5 0 (mkE Cf a1 a2 a3 i j c2 c3)::Ug a1 j lc::Ot a2 c2 lk::Oo a3 c3 lq::iY mQ lc (qi ps ws)::iY (kK G Cf) lk (fun _=>jJ.new)::iY (kG Cf) lq (fun _=>Hx)::aE p2 0 (uC Cf pv wv ov vv)::L)->
  Dd 11 2 [] Q [(pt p2 0 0),(pt p5 0 0),(I Cf.aD),(I i)] h:=by
 have hc:=hC.1
 intro f
 induction f with
 |zero=>
  intro i lc lk lq a1 a2 a3 j c2 c3 h U T B E g
  obtain rfl:i=Cf.aD.toNat:=by omega
  exact bW (aI (aaa (hk _ _ _ _ _ _ _ _ _ _ T B E g)))
 |succ f ih=>
  intro i lc lk lq a1 a2 a3 j c2 c3 h U T B E g
  obtain⟨p,V,_⟩:=gU (l:=ps) (i:=i) (by omega)
  obtain⟨v,F,_⟩:=gU (l:=S) (i:=i) (by omega)
  obtain⟨w,D,_⟩:=gU (l:=ws) (i:=i) (by omega)
  have Z:=α w (List.mem_of_getElem? D)
  have Y:=X p (List.mem_of_getElem? V)
  have eS:qi ps ws i=sK p w:=by unfold qi;rw[List.getD_eq_getElem?_getD,List.getD_eq_getElem?_getD,V,D];rfl
  refine bW (aI (aad (bW (aS g fun rr h g=>aA (am p2 g rfl ?_)))))
  have g:=A.rM hw g
  refine yY g (x:=[I w]) (by simp[A.Dy,D]) rfl ?_
  have g:=g.tail
  refine aA (am p2 g rfl ?_)
  have g:=B2 (e:=3) (by simp) ho g
  refine yY g (x:=[v]) (by simp[F]) rfl ?_
  have g:=A.R6 (hi i v p F V) g.tail
  refine o8 (i:=i) (pr:=p) (w:=w) (by omega) Z hg Y g fun J h g=>aG rfl (aG rfl (aX (aaa (bW ?_))))
  rw[<-eS] at g
  refine aA (iV (b:=p2) (o:=0) g (by decide) (l:=Cf.enc) rfl rfl ?_)
  refine C.Qd (C:=Cf) (core:=(i:Int)) hC (by omega) hG.lim g fun K h g=>aG rfl (aG rfl (aX (aaa (bW ?_))))
  refine aA (aA (am p2 g rfl (aA (aA (am p2 g rfl ?_)))))
  refine jw (C:=Cf) hC g fun O h g=>aG rfl (aG rfl (aX (aaa (bW ?_))))
  subst T
  refine aB (aA (am p5 g rfl (aJ (c:=[pt J 0 0]) rfl (dC (W:=1) (n:=1) (c:=1) g rfl rfl rfl fun b1 h g=>?_))))
  refine Ai (l:=lc) (a:=a1) (c:=j) (e:=95) (q:=J) (a2:=some b1) (c2:=1) (by omega) g fun k u h g=>aB (aA (ay (b:=p5) (o:=0) g fun h g=>?_))
  refine aB (aA (am p5 g rfl (aJ (c:=[pt K 0 0]) rfl (dC (W:=1) (n:=1) (c:=1) g rfl rfl rfl fun b2 h g=>?_))))
  rw[<-B]
  refine Ai (l:=lk) (a:=a2) (c:=c2) (e:=98) (q:=K) (a2:=some b2) (c2:=1) (by omega) g fun r y h g=>aB (aA (ay (b:=p5) (o:=0) g fun h g=>?_))
  rw[B]
  refine aB (aA (am p5 g rfl (aJ (c:=[pt O 0 0]) rfl (dC (W:=1) (n:=1) (c:=1) g rfl rfl rfl fun b3 h g=>?_))))
  rw[<-E]
  refine Ai (l:=lq) (a:=a3) (c:=c3) (e:=101) (q:=O) (a2:=some b3) (c2:=1) (by omega) g fun t z h g=>aB (aA (ay (b:=p5) (o:=0) g fun h g=>?_))
  have e5:dT (dT (dT (mkE Cf a1 a2 a3 lc.length j c2 c3) (0+7) [.slice k (lc.length+1) u]) (0+8) [.slice r (lk.length+1) y]) (0+9) [.slice t (lq.length+1) z]=mkE Cf k r t (lc.length+1) u y z:=by rw[B,E];rfl
  rw[e5] at g
  have g:=xM (R:=mQ) (l:=lc) (q:=J) (s:=qi ps ws) (g.bL (jZ lc.length J (qi ps ws lc.length)) (iY mQ lc (qi ps ws)))
  rw[<-B] at g
  have g:=xM (R:=kK G Cf) (l:=lk) (q:=K) (s:=fun _=>jJ.new) (g.bL (C.gC G K Cf lk.length jJ.new) (iY (kK G Cf) lk (fun _=>jJ.new)))
  have g:=xM (R:=kG Cf) (l:=lq) (q:=O) (s:=fun _=>Hx) (g.bL (jE O Cf Hx) (iY (kG Cf) lq (fun _=>Hx)))
  rw[B] at g
  rw[E]
  exact aac (ih (lc.length+1) (lc++[J]) (lk++[K]) (lq++[O]) k r t u y z h (by omega) (by simp) (by simp;omega) (by simp;omega) g.to)
end
section
def qo (C:bQ) (a1 a2 a3:Option Addr) (n a c2 c3:Nat) (x y z:Value):List Value:=C.enc++[.slice a1 n a,.slice a2 n c2,.slice a3 n c3,x,y,z,.slice none 0 0]
theorem J9 {a b:Int} {l:List Int} (h:within a b l=true):∀x∈l,a<=x/\x<=b:=by
 unfold within at h;intro x c;exact of_decide_eq_true (List.all_eq_true.1 h x c)
theorem Ff {C:bQ} {ps:List (List Ins)} {ws os vs:List Int} (h:Dp C ps ws os vs=0):C.Ok/\ps.length=C.aD.toNat/\ws.length=C.aD.toNat/\os.length=C.bM.toNat/\vs.length=C.lines*2/\sO ps=0/\(∀w∈ws,0<=w/\w<=3)/\∀o∈os,0<=o/\o<=4:=by
 unfold Dp at h;split at h;cases h;rename_i hC;split at h;cases h;rename_i c;split at h;rename_i b;exact absurd h b;rename_i b;split at h;cases h;rename_i a;have a:=Decidable.not_not.1 a;exact⟨Decidable.not_not.1 hC,by omega,by omega,by omega,by omega,Decidable.not_not.1 b,J9 a.1,J9 a.2⟩
set_option maxRecDepth 100000
variable {G:Bg} {h:AH} {L L':List HP} {Q:Value->AH->Prop} {Cf:bQ} {m N:Nat} {M:cX}
theorem mz {p2 p5 hb mb:Nat} {hE:List Value} {pv wv ov vv:Value} {vs:List Int} {z:List Value} (hC:Cf.Ok) (hG:Gb G) (y:vs.length=Cf.lines*2) (r:A.H5 G vv vs) (t:z[10]?=some (pt hb 0 0)) (e:hE[0]?=some (pt mb 0 0))
  (j:∀g,Hs G g (eM G Cf.lines mb Cf (At.words oY vs 0)::aE hb 0 hE::aE p5 0 z::aE p2 0 (uC Cf pv wv ov vv)::L)->Dd 11 11 [] Q [(pt p2 0 0),(pt p5 0 0)] g):
  ∀(f i:Nat) (mem:Nat->Ln) (h:AH),i+f=vs.length->At.words oY vs 0=At.words mem (vs.drop i) i->Hs G h (eM G Cf.lines mb Cf mem::aE hb 0 hE::aE p5 0 z::aE p2 0 (uC Cf pv wv ov vv)::L)->
  Dd 11 8 [] Q [(pt p2 0 0),(pt p5 0 0),vv,(I vs.length),(I i)] h:=by
 have q:=bQ.eP hC
 intro f
 induction f with
 |zero=>
  intro i mem h p c a
  rw[List.drop_of_length_le (by omega),At.words] at c
  rw[c] at j
  exact bW (aI (aaa (j _ a)))
 |succ f u=>
  intro i mem h p c a
  obtain⟨x,s,k⟩:=gU (l:=vs) (i:=i) (by omega)
  rw[k,At.words] at c
  have a:=A.rM r a
  refine bW (aI (aad (bW (yY a (x:=[I x]) (by simp[A.Dy,s]) rfl (aB (aA (am p5 a t (aB (aA (am hb a e ?_))))))))))
  exact Gh (C:=Cf) (mb:=mb) (mem:=mem) (w:=i) (v:=x) hC hG.lim a.tail (by omega) fun h a=>aX (aaa (bW (aac (u (i+1) _ h (by omega) c a))))
theorem vT {pv wv ov vv:Value} {ps:List (List Ins)} {ws os vs:List Int} (hn:ps.length<=1000/\ws.length<1000/\os.length<1000) (hG:Gb G) (J:Ob G 1 tW) (O:A.Y8 G pv wv ov vv ps ws os vs) (a:Hs G h L)
  (k1:Dp Cf ps ws os vs≠0->∀u,Hs G u L->Q (.tuple ⟨[.pointer none,I (Dp Cf ps ws os vs)]⟩) u)
  (k2:Dp Cf ps ws os vs=0->∀m u,Hs G u (bB G Cf m (MC.new ⟨Cf,ps,ws,os,vs⟩)::L)->Q (.tuple ⟨[pt m 0 0,I 0]⟩) u):Cl Pr K 11 [.agg ⟨uC Cf pv wv ov vv⟩] h Q:=by
 refine cW (dL a fun f h a=>aA (iV (b:=f) (o:=0) a (by decide) (l:=Cf.enc) rfl rfl (aA (am f a rfl (aA (am f a rfl (aA (am f a rfl (aA (am f a rfl ?_))))))))))
 refine A.aFj (C:=Cf) hn hG.lim J O a (fun v h a=>aG rfl (aG rfl (aX (bJ v (k1 v _ a.tail))))) fun v pa h a=>aG rfl (aG rfl (aX (aaa ?_)))
 obtain⟨hC,V,W,X,Y,Z,e6,e7⟩:=Ff v
 have a:Hs G h (aE f 0 (uC Cf pv wv ov vv)::L):=a.to
 have hc:=hC.1
 obtain⟨⟨vi,hv,E,D⟩,F,B,y⟩:=O
 refine bW (aA (iV (b:=f) (o:=0) a (by decide) (l:=Cf.enc) rfl rfl (aJ (c:=mkE Cf none none none 0 0 0 0) rfl (dL a fun p h a=>aA (aA (am f a rfl ?_))))))
 have a:=xE (R:=kG Cf) (s:=fun _=>Hx) a
 have a:=xE (R:=kK G Cf) (s:=fun _=>jJ.new) a
 have a:=xE (R:=mQ) (s:=qi ps ws) a
 have a:=jB (enc:=pE) (e:=95) a
 have a:=jB (enc:=pE) (e:=98) a
 have a:=jB (enc:=pE) (e:=101) a
 refine Jb (L:=L) (ov:=ov) (vv:=vv) (Cf:=Cf) hC hG J V W e6 (A.Ed Z) hv E D F ?_ Cf.aD.toNat 0 [] [] [] none none none 0 0 0 h (by omega) rfl rfl rfl a.to
 intro lc lk lq a1 r a3 t c2 c3 h S T U a
 refine bW (aA (iV (b:=f) (o:=0) a (by decide) (l:=Cf.enc) rfl rfl ?_))
 refine H.Y6 (C:=Cf) hC hG.lim a fun g h a=>aG rfl (aG rfl (aB (aA (ay (b:=p) (o:=0) a fun h a=>aX (aaa ?_)))))
 have e8:dT (mkE Cf a1 r a3 Cf.aD.toNat t c2 c3) (0+10) [pt g 0 0]=qo Cf a1 r a3 Cf.aD.toNat t c2 c3 (pt g 0 0) (.pointer none) (.pointer none):=rfl
 rw[e8] at a
 obtain⟨k,b,o,j,a⟩:=H.nE (a.front (H.fO G g Cf (sU Cf.lines)))
 have em:(fun i=>(sU Cf.lines i).2)=oY:=by
  funext i;unfold sU oY;split<;>rfl
 rw[em] at a
 have a:=a.gN (eM G Cf.lines k Cf oY) (aE g 0 (H.lN k Cf b o j)) (aE p 0 (qo Cf a1 r a3 Cf.aD.toNat t c2 c3 (pt g 0 0) (.pointer none) (.pointer none))) (aE f 0 (uC Cf pv wv ov vv))
 refine bW (aA (am f a rfl (R4 y ?_)))
 refine mz (Cf:=Cf) (p2:=f) (p5:=p) (hb:=g) (mb:=k) (hE:=H.lN k Cf b o j) (z:=qo Cf a1 r a3 Cf.aD.toNat t c2 c3 (pt g 0 0) (.pointer none) (.pointer none)) hC hG Y y rfl rfl ?_ vs.length 0 oY h (by omega) rfl a
 intro h a
 have a:=H.pU (H:=MC.home ⟨Cf,ps,ws,os,vs⟩) (hb:=g) (C:=Cf) (mb:=k) (b:=b) (o:=o) (cap:=j) (a.gN (aE g 0 (H.lN k Cf b o j)) (eM G Cf.lines k Cf (At.words oY vs 0)) (hole G 25 222 (some ⟨b,o,none⟩) j Cf.lines b o) (dE Cf.lines fun i=>H.eI b (o+i*25) (sU Cf.lines i).1))
 refine bW (aA (aA (am f a rfl (aA (am f a rfl ?_)))))
 refine mr (C:=Cf) hC B X e7 a fun q h a=>aG rfl (aG rfl (aB (aA (ay (b:=p) (o:=0) a fun h a=>aX (aaa (bW ?_))))))
 refine aA (iV (b:=f) (o:=0) a (by decide) (l:=Cf.enc) rfl rfl ?_)
 refine my (C:=Cf) hC hG.lim a fun fb h a=>aG rfl (aG rfl (aB (aA (ay (b:=p) (o:=0) a fun h a=>aX (aaa (k2 v _ _ ?_))))))
 have a:=jB (enc:=Ev.enc) (e:=74) a
 have e9:dT (dT (qo Cf a1 r a3 Cf.aD.toNat t c2 c3 (pt g 0 0) (.pointer none) (.pointer none)) (0+11) [pt q 0 0]) (0+12) [pt fb 0 0]=eW Cf ⟨lc,lk,lq,a1,r,a3,none,t,c2,c3,0,g,q,fb⟩ 0:=by
  unfold eW;dsimp only;rw[S,T,U];rfl
 rw[e9] at a
 have a:Hs G h (bB G Cf p (⟨qi ps ws,fun _=>jJ.new,fun _=>Hx,MC.home ⟨Cf,ps,ws,os,vs⟩,⟨sG os,fun _=>none⟩,fun _ _=>[],[]⟩:cX)::L):=(bI (m:=p) (x:=⟨lc,lk,lq,a1,r,a3,none,t,c2,c3,0,g,q,fb⟩) (⟨qi ps ws,fun _=>jJ.new,fun _=>Hx,MC.home ⟨Cf,ps,ws,os,vs⟩,⟨sG os,fun _=>none⟩,fun _ _=>[],[]⟩:cX) ⟨S,T,U⟩ a).to
 exact a
end
end Go.Proofs.YtmhapehobfnoiaaGreatDoor
end
namespace Go.Proofs.YtmhapehobfnoiaaGreatDoor
open Go Go.Ab Go.Hm Go.At Go.Mc Go.Ct Go.Nt Go.Is
section
theorem aEk {g:FuncId} {a b:Array Value} {k:Value->Prop} (c:k (.bool false)):bA (Qt .eql (.func (.func g) a b) .nilFunc) k:=⟨_,rfl,c⟩
set_option maxRecDepth 100000
attribute [local irreducible] bA Br ld1 rT sH A2 lH tD kC Nk fZ lT oX oU nW kS xH sY Ts Pe No M5 Qt Ns Ei Gm Sb jV nR qR iK copyV gZ vD Tg Tm E6 jX Kb Pq Tl mL pD uW vP Cl xS Tb qW qT jA eX cS bZ
variable {G:Bg} {h:AH} {L L':List HP} {Q:Value->AH->Prop} {Cf:bQ} {m N:Nat} {M:cX}
theorem kE (a:Q (.bool true) h):Cl Pr K 10 [] h Q:=by
 unfold Cl;exact W8 (v:= .bool true) rfl a
theorem wU (a:Q (.bool true) h):Cl Pr K 25 [] h Q:=by
 unfold Cl;exact W8 (v:= .bool true) rfl a
theorem Z5 {C:bQ} {pv wv ov vv:Value} {ps:List (List Ins)} {ws os vs:List Int} (V:ps.length<=9223372036854775807) (D:A.Y8 G pv wv ov vv ps ws os vs) (a:Hs G h L)
  (O:ps.length<=6/\ws.length<=6/\os.length<=20/\vs.length<=80->∀j,Hs G j L->Q (.bool true) j) (s:∀j,Hs G j L->Q (.bool false) j):Cl Pr K 9 [.agg ⟨uC C pv wv ov vv⟩] h Q:=by
 obtain⟨⟨T,F,q,u⟩,z,t,y⟩:=D
 have lp:∀{k:Value->Prop},k (I ps.length)->bA (kS pv) k:=fun g=>A.tK q (by simpa [F] using g)
 have lw:∀{k:Value->Prop},k (I ws.length)->bA (kS wv) k:=fun g=>R4 z g
 have R:∀{k:Value->Prop},k (I os.length)->bA (kS ov) k:=fun g=>R4 t g
 have S:∀{k:Value->Prop},k (I vs.length)->bA (kS vv) k:=fun g=>R4 y g
 refine cW (dL a fun c h a=>?_)
 have loop:∀(f i:Nat) (h:AH),i+f=ps.length->Hs G h (aE c 0 (uC C pv wv ov vv)::L)->Dd 9 1 [] Q [(pt c 0 0),(I i)] h:=by
  intro f;induction f with
  |zero=>
   intro i h B a;refine bW (aA (am c a (v:=pv) rfl (lp (aI (aaa (aA (am c a (v:=pv) rfl (lp (xO (aT (fun g1=>?_) (fun g1=>s _ a.tail)))))))))));refine aA (am c a (v:=wv) rfl (lw (xO (aT (fun g2=>?_) (fun g2=>s _ a.tail)))));refine aA (am c a (v:=ov) rfl (R (xO (aT (fun g3=>?_) (fun g3=>s _ a.tail)))));refine aA (am c a (v:=vv) rfl (S (xO ?_)));by_cases g4:(vs.length:Int)<=80;rw[decide_eq_true g4];exact O ⟨by omega,by omega,by omega,by omega⟩ _ a.tail;rw[decide_eq_false g4];exact s _ a.tail
  |succ f J=>
   intro i h B a;obtain⟨p,E,U⟩:=gU (l:=ps) (i:=i) (by omega);obtain⟨v,r,_⟩:=gU (l:=T) (i:=i) (by omega);refine bW (aA (am c a (v:=pv) rfl (lp (aI (aad (bW (aA (am c a (v:=pv) rfl ?_))))))));refine yY (B2 (e:=3) (by simp) q a) (x:=[v]) (by simp[r]) rfl (A.tK (u i v p r E) (iM (aT (fun _=>s _ a.tail) (fun _=>bW (aac (J (i+1) h (by omega) a))))))
 exact loop ps.length 0 h (by omega) a
def cX.core (Cf:bQ) (M:cX) (x:Int):List Value×Int:=if 0<=x/\x<Cf.aD then((M.aR x.toNat).core,0) else([I 0,I 0,I 0,I 0,I 0,I 0,.bool false],10)
theorem w8 {x:Int} (hC:Cf.Ok) (e:Hs G h L) [A:Has (bB G Cf m) L M L'] (g:∀j,Hs G j (bB G Cf m M::L')->Q (.tuple ⟨[.agg ⟨(cX.core Cf M x).1⟩,I (cX.core Cf M x).2]⟩) j):Cl Pr K 13 [pt m 0 0,I x] h Q:=by
 have B:=hC.1;unfold cX.core at g;refine cW (bN (cs:=[I 0,I 0,I 0,I 0,I 0,I 0,.bool false]) (A.of e) fun q h e=>cK (bP (bW ?_)));obtain⟨y,k,e⟩:=cQ (e.front (bB G Cf m M));have u:=k.1;have bad:∀{h:AH},Hs G h (bB G Cf m M::aE q 0 [I 0,I 0,I 0,I 0,I 0,I 0,.bool false]::L')->(∀j,Hs G j (bB G Cf m M::L')->Q (.tuple ⟨[.agg ⟨[I 0,I 0,I 0,I 0,I 0,I 0,.bool false]⟩,I 10]⟩) j)->
   bA (nY [(I 0),(I 0),(I 0),(I 0),(I 0),(I 0),(.bool false)] []) fun c=>bA (sH h 7 (pt q 0 0) (.agg ⟨c⟩)) fun h=>bA (rT h 7 (pt q 0 0)) fun v=>Q (.tuple ⟨[v,I 10]⟩) h:=by
  intro h e z
  exact aJ (c:=[I 0,I 0,I 0,I 0,I 0,I 0,.bool false]) rfl (ax (b:=q) e fun h e=>an q e (l:=[I 0,I 0,I 0,I 0,I 0,I 0,.bool false]) rfl rfl (z _ e.to))
 refine aI (aT (fun p=>?_) (fun p=>?_));rw[aab] at g;exact bad (bI (m:=m) (x:=y) M k e).to g;refine aB (aA (am m e rfl (bH (dV (aT (fun r=>?_) (fun r=>?_))))));rw[aab] at g;exact bad (bI (m:=m) (x:=y) M k e).to g;rw[aae] at g;obtain⟨i,rfl⟩:=Int.eq_ofNat_of_zero_le (show 0<=x by omega);have f:i<y.lc.length:=by omega
 refine aB (aA (am m e rfl (Bt e f ?_)));have e:=eR (R:=mQ) (l:=y.lc) (s:=M.aR) f e;obtain⟨a,c,e⟩:=mX e;refine aB (aA (iV (b:=y.lc.getD i 0) (o:=0) e (by decide) (l:=(M.aR i).core) rfl rfl (ax (b:=q) e fun h e=>an q e (l:=(M.aR i).core) rfl rfl (g _ ?_))));have e:=iP (y.lc.getD i 0) i (M.aR i) (a:=a) (c:=c) (e.bL (aE (y.lc.getD i 0) 0 (pP i (M.aR i) a c)) (M7 a c (M.aR i).prog)) rfl rfl;have e:=Ay (l:=y.lc) (s:=M.aR) (i:=i) (t:=M.aR i) f e;rw[bS] at e;exact(bI (m:=m) (x:=y) M k e).to
def veR (q:Nat) (a:Option Addr) (c:Nat) (l:List Ev):HP:=sp [aE q 0 [.slice a l.length c],Bo a c l]
theorem aHm {q c:Nat} {a:Option Addr} {l:List Ev} (hb:l.length<=100000):cf Pr K G 162 [] [pt q 0 0] (veR q a c l) (l.map fun n=>[.agg ⟨n.enc⟩]):=by
 intro p J y L h Q g E t u;have g:=g.Bn;have j:∀{h:AH} {M:List HP},Hs G h (aE q 0 [.slice a l.length c]::Bo a c l::M)->Hs G h (veR q a c l::M):=fun g=>g.yC;refine cW (am q g rfl (bH ?_));have loop:∀(f i:Nat) (h:AH),i+f=l.length->Hs G h (aE q 0 [.slice a l.length c]::Bo a c l::p ((l.drop i).map fun n=>[.agg ⟨n.enc⟩])::L)->Dd 162 1 [] Q [y,(.slice a l.length c),(I l.length),(I i)] h:=by
  intro f;induction f with
  |zero=>
   intro i h A g;rw[List.drop_of_length_le (by omega)] at g;exact bW (aI (aaa (t _ _ (j g))))
  |succ f F=>
   intro i h A g;obtain⟨x,D,z⟩:=gU (l:=l) (i:=i) (by omega);rw[z,List.map_cons] at g;refine bW (aI (aad (bW (jM (l:=l) (a:=a) (c:=c) (enc:=Ev.enc) (e:=74) g (by decide) (by omega) (by rw[Int.toNat_natCast];exact D) (bN g fun r h g=>ax (b:=r) g fun h g=>an r g (l:=x.enc) rfl rfl ?_)))));refine(E _ _ h _ (g.front (p ([.agg ⟨x.enc⟩]::((l.drop (i+1)).map fun n=>[.agg ⟨n.enc⟩]))))).mono fun v s B=>?_;rcases B with⟨rfl,k⟩|⟨rfl,k⟩;exact bY (bP (bW (aac (F (i+1) s (by omega) k.to))));exact bY (dN (u _ _ (j k.to)))
 exact loop l.length 0 h (by omega) (by rw[List.drop_zero];exact g)
abbrev evX (p:Nat) (e:Nat->Value) (d l:Nat) (done:List Ev):HP:=qV fun x:Option Addr×Nat=>sp [fM Pr 19 (fQ 250) 20 e d l (.ready,none),aE p 0 [.slice x.1 done.length x.2],Bo x.1 x.2 done]
theorem Jj (k:M.log.length<2000) (f:Hs G h L) [E:Has (bB G Cf m) L M L'] (B:∀a c j,Hs G j (Bo a c M.log::bB G Cf m M::L')->Q (.slice a M.log.length c) j):Cl Pr K 19 [pt m 0 0] h Q:=by
 obtain⟨y,D,f⟩:=cQ (E.of f);refine cW ?_;refine cW (cK (bP (aB (aA (am m f rfl ?_)))));refine cW (dL f fun q h f=>?_);refine aEk (bP (bW (bN f fun p h f=>iI f fun d h f=>?_)));intro e u;refine jL f fun l h f=>oB rfl ?_;have f:=jB (enc:=Ev.enc) (e:=74) f;have f:Hs G h (veR q y.al y.cl M.log::evX p e d l []::mk d ()::aE m 0 (eW Cf y M.log.length)::Ug y.ac y.cc y.lc::Ot y.ak y.ck y.lk::Oo y.aq y.cq y.lq::
  iY mQ y.lc M.aR::iY (kK G Cf) y.lk M.cC::iY (kG Cf) y.lq M.bT::H.fO G y.hb Cf M.home::fD Cf y.mb M.dG::lI Cf y.fb M.iZ::L'):=by
  have f:=(f.bL (aE q 0 [.slice y.al M.log.length y.cl]) (Bo y.al y.cl M.log)).yC
  have f:Hs G h (veR q y.al y.cl M.log::_):=f
  have f:=(f.cE (fM Pr 19 (fQ 250) 20 e d l (.ready,none)) (aE p 0 [.slice none 0 0]) (Bo none 0 [])).M4
  have f:=Hs.oZ (A:=fun x:Option Addr×Nat=>sp [fM Pr 19 (fQ 250) 20 e d l (.ready,none),aE p 0 [.slice x.1 ([]:List Ev).length x.2],Bo x.1 x.2 []]) (none,0) f
  exact f.to
 refine(aHm (q:=q) (a:=y.al) (c:=y.cl) (l:=M.log) (by omega)).fold (X:=fun done=>evX p e d l done) (Z:=fun _ _=>rN False) f ?_ ?_ ?_
 .intro done x h T r f;have t:done.length<1999:=by have:=r.length_le;simp at this;omega
  obtain⟨⟨a,c⟩,f⟩:=f.rS;have f:=f.yG;refine rW (nX f) u (bN f fun p1 h f=>ax (b:=p1) f fun h f=>fG f fun h f=>am p f rfl (an p1 f (l:=x.enc) rfl rfl (aJ (c:=x.enc) rfl (dC (W:=7) (n:=1) (c:=1) f rfl rfl rfl fun F h f=>?_))));have f:=mR (enc:=Ev.enc) (x:=x) f;refine Iy (l:=done) (v:=x) (a:=a) (c:=c) (by omega) f fun g i h f=>ax (b:=p) f fun h f=>am p f rfl (bH (dV (aH (by simp;omega) (gK f fun h f=> .inl ⟨rfl,?_⟩))));have f:=(f.cE (fM Pr 19 (fQ 250) 20 e d l (.ready,none)) (aE p 0 [.slice g (done++[x]).length i]) (Bo g i (done++[x]))).M4;exact(Hs.oZ (A:=fun z:Option Addr×Nat=>sp [fM Pr 19 (fQ 250) 20 e d l (.ready,none),aE p 0 [.slice z.1 (done++[x]).length z.2],Bo z.1 z.2 (done++[x])]) (g,i) f).to
 intro v h f;obtain⟨⟨a,c⟩,f⟩:=(f.front (evX p e d l M.log)).rS;have f:=f.yG;have f:=(f.front (veR q y.al y.cl M.log)).Bn;refine jN f fun h f=>jR (am p f rfl (jW f fun h f=>iT (B a c _ ?_)));exact(bI (m:=m) (x:=y) M D f).to
 .intro done x v h r f;obtain⟨s,_⟩:=(f.front (rN False)).To;exact s.elim
end
end Go.Proofs.YtmhapehobfnoiaaGreatDoor
namespace Go.Mc
open Go Go.Ab Go.Hm Go.At Go.Is Go.Ct Go.Nt
section
variable {C:bQ} {N:Nat} {M:cX}
def rp (i:Nat) (s:bE) (x:Ev):Option bE:=match bE.pK s i with
 |some r=>if r.2=x then some r.1 else none
 |none=>if(bE.cH s i x.value x.code).2.2=0/\(bE.cH s i x.value x.code).2.1=x then some (bE.cH s i x.value x.code).1 else none
theorem bx {s:bE} {i:Nat} {r:bE×Ev} (h:bE.pK s i=some r):r.2.core=i:=by
 unfold bE.pK at h;cases hn:bE.next? s with
 |none=>rw[hn] at h;cases h
 |some x=>
  rw[hn] at h;dsimp only at h;repeat' split at h
  all_goals first|cases h|skip
  all_goals rfl
theorem ug {s:bE} {i:Nat} {r:bE×Ev} (h:bE.pK s i=some r):rp i s r.2=some r.1:=by
 unfold rp;grind
theorem Q7 {s:bE} {i:Nat} {v c:Int} (h:(bE.cH s i v c).2.2=0):bE.pK s i=none:=by
 unfold bE.cH at h;unfold bE.pK;cases hn:bE.next? s with
 |none=>rfl
 |some x=>
  rw[hn] at h;dsimp only at h ⊢;unfold M1 at h;grind
theorem Hi {s:bE} {i:Nat} {v c:Int} (h:(bE.cH s i v c).2.2=0):(bE.cH s i v c).2.1.core=i:=by
 unfold bE.cH at h ⊢;cases hn:bE.next? s with
 |none=>rw[hn] at h;cases h
 |some x=>
  rw[hn] at h;dsimp only at h ⊢;repeat' split at h
  all_goals first|cases h|skip
  all_goals simp_all [bE.ev]
theorem O3 {s:bE} {i:Nat} {v c:Int} (h:(bE.cH s i v c).2.2=0):rp i s (bE.cH s i v c).2.1=some (bE.cH s i v c).1:=by
 unfold rp;rw[Q7 h];dsimp only;have e:bE.cH s i (bE.cH s i v c).2.1.value (bE.cH s i v c).2.1.code=bE.cH s i v c:=by
  unfold bE.cH at h ⊢;cases hn:bE.next? s with
  |none=>rfl
  |some x=>
   rw[hn] at h;dsimp only at h ⊢;unfold bE.ev;grind
 grind
def rc (m:Mon) (g:Nat):Option Int:=(m.runs g).map jH.core
structure qp (M:cX):Prop where
 op:∀g c,rc M.dG g=some c->∃x,bE.next? (M.aR c.toNat)=some x/\x.op=8
 one:∀g g' c,rc M.dG g=some c->rc M.dG g'=some c->g=g'
theorem kn (hC:C.Ok) {m:Mon} (a:gX C m) {c:Int}:m.calls c=true↔∃g,rc m g=some c:=by
 unfold Mon.calls Mon.running rc;rw[List.any_eq_true];constructor;rintro ⟨g,b,h⟩;unfold Mon.lQ at h;grind;rintro ⟨g,h⟩;cases hr:m.runs g with
 |none=>rw[hr] at h;cases h
 |some r=>
  rw[hr] at h;have:=a.aHe hC g r hr;refine⟨g,List.mem_filter.2 ⟨List.mem_range.2 this,by rw[hr];rfl⟩,?_⟩;unfold Mon.lQ;grind
inductive Out (C:bQ) (d:Do) (M M':cX):Prop where
 |same (h1:M'.aR=M.aR) (h2:M'.log=M.log) (h3:∀g,rc M'.dG g=rc M.dG g)
 |ev (i:Nat) (s:bE) (v:Ev) (hi:(i:Int)<C.aD) (hd:d.nN=0/\d.a=i) (hw:M.dG.calls i=false) (h1:M'.aR=cB M.aR i s) (h2:M'.log=M.log++[v]) (hc:v.core=i) (hr:rp i (M.aR i) v=some s) (h3:∀g,rc M'.dG g=rc M.dG g)
 |ask (i g:Nat) (hi:(i:Int)<C.aD) (hd:d.nN=0/\d.a=i) (hw:M.dG.calls i=false) (h1:M'.aR=M.aR) (h2:M'.log=M.log) (hx:∃x,bE.next? (M.aR i)=some x/\x.op=8) (h3:∀g',rc M'.dG g'=if g'=g then some (i:Int) else rc M.dG g') (h0:rc M.dG g=none)
 |fin (i g:Nat) (s:bE) (v:Ev) (hi:(i:Int)<C.aD) (hd:d.nN=3) (hg:rc M.dG g=some (i:Int)) (h1:M'.aR=cB M.aR i s) (h2:M'.log=M.log++[v]) (hc:v.core=i) (ho:v.op=8/\v.code=0) (ha:s.at'=(M.aR i).at'+1) (hr:rp i (M.aR i) v=some s) (h3:∀g',rc M'.dG g'=if g'=g then none else rc M.dG g')
theorem vX {d:Do} {i:Nat} {v c:Int} (b:(i:Int)<C.aD) (a:d.nN=0/\d.a=i) (e:M.dG.calls i=false):Out C d M (M.cH i v c).1:=by
 unfold cX.cH;dsimp only;split;exact .same rfl rfl fun _=>rfl;rename_i h;have h:(bE.cH (M.aR i) i v c).2.2=0:=Decidable.not_not.1 h;exact .ev i _ _ b a e rfl rfl (Hi h) (O3 h) fun _=>rfl
theorem aF3 {s:bE} {i:Nat} {a:Mc.Ask} (h:bE.Xv s i=some a):a.core=i/\∃x,bE.next? s=some x/\x.op=8:=by
 unfold bE.Xv at h;grind
theorem ru {d:Do} {i:Nat} {a:Mc.Ask} (s:eN C N M) (j:(i:Int)<C.aD) (g:d.nN=0/\d.a=i) (k:M.dG.calls i=false) (t:bE.Xv (M.aR i) i=some a):Out C d M (M.call C i a).1:=by
 obtain⟨p,q⟩:=aF3 t;unfold cX.call;dsimp only;split;exact vX j g k
 .rename_i b;split;exact .same rfl rfl fun _=>rfl
  .have b:(M.dG.call C.aD a).2.2=0:=Decidable.not_not.1 b;have e:rc M.dG a.cN.toNat=none:=by
    unfold Mon.call at b;split at b;cases b;split at b;cases b;rename_i f;split at b;cases b;rename_i c;have o:0<=a.cN:=(Decidable.not_not.1 f).1;have c:M.dG.phase a.cN=0:=Decidable.not_not.1 c;unfold Mon.phase Mon.run at c;rw[aLy o] at c;unfold rc;cases hr:M.dG.runs a.cN.toNat with
    |none=>rfl
    |some r=>rw[hr] at c;have:=(s.dG.run _ r hr).2.2.1;grind
   refine .ask i a.cN.toNat j g k rfl rfl q (fun l=>?_) e;show rc (M.dG.call C.aD a).1 l=_;unfold Mon.call at b ⊢;repeat' split at b
   all_goals first|(exfalso;revert b;simp;done)|skip
   rename_i u f c n4;rw[aLx u,aLx f,aLx c,aLx n4];dsimp only at b ⊢;split at b;grind;rename_i n5;rw[aLx n5];unfold rc Mon.dJ cB;dsimp only;split;show some a.core=_;rw[p];rfl
theorem Yb {d:Do} {i:Nat} {a:Acc} (q:(i:Int)<C.aD) (j:d.nN=0/\d.a=i) (t:M.dG.calls i=false):Out C d M (M.access C i a).1:=by
 have same:∀{r:cX},r.aR=M.aR->r.log=M.log->r.dG=M.dG->Out C d M r:=fun a b c=> .same a b fun g=>by rw[c]
 unfold cX.access;split;exact vX q j t;dsimp only;split;grind;split;unfold cX.walk;grind;split;exact vX q j t;split;unfold cX.want;grind;unfold cX.Ni;dsimp only;rcases vX (C:=C) (M:=M.tA i (if a.write=true then nJ C (if a.read=true then tQ C (M.cC i) (a.word/2) (a.word % 2) (M.known i (a.word/2/2)) else M.cC i) (a.word/2) (a.word % 2) (M.known i (a.word/2/2)) a.value else if a.read=true then tQ C (M.cC i) (a.word/2) (a.word % 2) (M.known i (a.word/2/2)) else M.cC i)) (d:=d) (v:=if a.read=true then S6 C (M.cC i) (a.word/2) (a.word % 2) else 0) (c:=0) q j t with⟨a,b,c⟩|⟨i,s,v,a,b,c,e,f,g,k,l⟩|⟨i,g,a,b,c,e,f,k,l,z⟩|⟨i,g,s,v,a,b,c,e,f,k,l,n,o,p⟩;exact .same a b c;exact .ev i s v a b c e f g k l;exact .ask i g a b c e f k l z;grind
theorem K3 {m:Mon} {g c:Int}:∀k,rc (m.dropped C.aD g c).1 k=rc m k:=by
 intro k;unfold Mon.dropped;split;rfl;split;rfl;rename_i r a;split;rfl;split;rfl;unfold Mon.run at a;split at a;unfold rc Mon.dJ cB;dsimp only;split;rename_i e;subst e;rw[a];rfl;rfl;cases a
theorem Ft {n:aQ}:(M.fT C n).1.aR=M.aR/\(M.fT C n).1.log=M.log/\∀g,rc (M.fT C n).1.dG g=rc M.dG g:=by
 unfold cX.fT;repeat' split
 all_goals first
  |exact⟨rfl,rfl,fun _=>rfl⟩
  |skip
 dsimp only;split;exact⟨rfl,rfl,fun g=>K3 g⟩;exact⟨rfl,rfl,fun g=>K3 g⟩
theorem aAr {m:Mon} {g:Int} {u:Mc.jH} (h:(m.over g).2.1=some u):rc m g.toNat=some u.core/\∀k,rc (m.over g).1 k=if k=g.toNat then none else rc m k:=by
 unfold Mon.over at h ⊢;split at h;cases h;rename_i a;rw[aLx a];cases hr:m.run g with
 |none=>rw[hr] at h;cases h
 |some r=>
  rw[hr] at h;dsimp only at h ⊢;split at h;cases h;rename_i b;rw[aLx b];cases h;unfold Mon.run at hr;split at hr;refine⟨by unfold rc;rw[hr];rfl,fun k=>?_⟩;unfold rc Mon.dJ cB;dsimp only;split;rfl;rfl;cases hr
theorem aCa (_:C.Ok) (s:eN C N M) (A:qp M) {d:Do}:Out C d M (M.rL C d).1:=by
 have same:∀{r:cX},r.aR=M.aR->r.log=M.log->(∀g,rc r.dG g=rc M.dG g)->Out C d M r:=fun a b c=> .same a b c;unfold cX.rL;split;rename_i o;unfold cX.step;split;grind;rename_i l;have l:0<=d.a/\d.a<C.aD:=Decidable.not_not.1 l;have j:((d.a.toNat:Nat):Int)<C.aD:=by omega
 have e:d.nN=0/\d.a=(d.a.toNat:Nat):=⟨o,by omega⟩;dsimp only;split;grind;split;grind;rename_i f;have f:M.dG.calls ((d.a.toNat:Nat):Int)=false:=by
  rw[<-e.2];unfold cX.waits at f;simpa using f
 split;rename_i r t;exact .ev _ _ _ j e f rfl rfl (bx t) (ug t) fun _=>rfl;split;rename_i a l;exact ru s j e f l;split;exact Yb j e f;grind
 .split
  .unfold cX.tL;dsimp only;repeat' split
   all_goals first
    |exact same rfl rfl fun _=>rfl
    |exact same Ft.1 Ft.2.1 Ft.2.2
  split;unfold cX.begin;grind;split;rename_i o;unfold cX.finish;split;grind;split;grind;dsimp only;split;grind;rename_i u v;obtain⟨q,I⟩:=aAr v;have B:=(Wf (g:=d.a) s.dG).2 u v;obtain⟨i,j⟩:=Int.eq_ofNat_of_zero_le B.1;obtain⟨x,D,z⟩:=A.op _ _ q;have y:u.core.toNat=i:=by omega
  rw[y] at D ⊢;have E:∀P:cX,P.aR=M.aR->P.log=M.log->(∀g,rc P.dG g=if g=d.a.toNat then none else rc M.dG g)->Out C d M (P.cH i 0 0).1:=by
   intro P p1 J F;have k:bE.cH (P.aR i) i 0 0=(((M.aR i).dJ x.b 0).pA ((M.aR i).at'+1),bE.ev (M.aR i) i x ((M.aR i).dF x.b.toNat) ((M.aR i).dF x.c.toNat) 0,0):=by
    rw[p1];unfold bE.cH;grind
   have p:(bE.cH (M.aR i) i 0 0).2.2=0:=by rw[<-p1,k]
   unfold cX.cH;dsimp only;rw[aLx (by rw[k];simp)];refine .fin i d.a.toNat (bE.cH (P.aR i) i 0 0).1 (bE.cH (P.aR i) i 0 0).2.1 (by omega) o (by rw[q,j]) (by grind) (by grind) ?_ ?_ ?_ ?_ F;rw[p1];exact Hi p;rw[k];exact⟨z,rfl⟩;rw[k];rfl;rw[p1];exact O3 p
  grind;grind
end
section
variable {C:bQ} {N:Nat} {M M':cX} {d:Do}
theorem dv {m:Mon} (a:gX C m) {g:Nat} {c:Int} (h:rc m g=some c):0<=c/\c<C.aD:=by
 unfold rc at h;cases hr:m.runs g with
 |none=>rw[hr] at h;cases h
 |some r=>
  rw[hr] at h;cases h;exact(a.run g r hr).2.2.2.1
theorem qp.out (hC:C.Ok) (r:eN C N M) (l:qp M) (B:Out C d M M'):qp M':=by
 have t:∀{i:Nat},M.dG.calls i=false->∀g c,rc M.dG g=some c->c.toNat≠i:=by
  intro i J g c f e;have p:=dv r.dG f;have:c=i:=by omega
  subst this;have:=(kn hC r.dG).2 ⟨g,f⟩;grind
 cases B with
 |same p q j=>exact⟨fun g c f=>by rw[p];exact l.op g c (by rw[<-j];exact f),fun g o c a b=>l.one g o c (by rw[<-j];exact a) (by rw[<-j];exact b)⟩
 |ev i s v y x z p q A D j=>
  refine⟨fun g c f=>?_,fun g o c a b=>l.one g o c (by rw[<-j];exact a) (by rw[<-j];exact b)⟩;rw[j] at f;rw[p];unfold cB;rw[aLx (t z g c f)];exact l.op g c f
 |ask i g y x z p q E j=>
  constructor;intro o c f;rw[j] at f;rw[p];split at f;cases f;exact E;exact l.op o c f;intro g1 g2 c a b;rw[j] at a b;split at a;grind;split at b;grind;exact l.one g1 g2 c a b
 |fin i g s v y x f p q A K I D j=>
  constructor;intro o c k;rw[j] at k;split at k;cases k;rename_i u;rw[p];unfold cB;have F:=dv r.dG k;rw[aLx (fun e=>u (l.one o g c k (by grind)))];exact l.op o c k;intro g1 g2 c a b;rw[j] at a b;split at a;cases a;split at b;cases b;exact l.one g1 g2 c a b
def zp (i:Nat) (s:bE):List Ev->Option bE
 |[]=>some s
 |x::l=>if x.core=i then(match rp i s x with|some t=>zp i t l|none=>none) else zp i s l
theorem S7 {i:Nat}:∀{l:List Ev} {s t:bE} {x:Ev},zp i s l=some t->zp i s (l++[x])=if x.core=i then rp i t x else some t
 |[],s,t,x,h=>by
  cases h;show zp i s [x]=_;unfold zp;split;cases rp i s x<;>rfl;rfl
 |y::l,s,t,x,h=>by
  rw[List.cons_append];unfold zp at h ⊢;split;rename_i e;rw[aLy e] at h;cases hr:rp i s y with
  |none=>rw[hr] at h;cases h
  |some u=>rw[hr] at h;exact S7 h
  rename_i e;rw[aLx e] at h;exact S7 h
def RPs (C:bQ) (S:Nat->bE) (M:cX):Prop:=∀i:Nat,(i:Int)<C.aD->zp i (S i) M.log=some (M.aR i)
theorem RPs.out {S:Nat->bE} (h:RPs C S M) (q:Out C d M M'):RPs C S M':=by
 have one:∀{i:Nat} {s:bE} {v:Ev},M'.aR=cB M.aR i s->M'.log=M.log++[v]->v.core=i->rp i (M.aR i) v=some s->RPs C S M':=by
  intro i s v a b f k j p;rw[a,b,S7 (h j p)];unfold cB;by_cases e:j=i;subst e;rw[aLy f,aLy rfl];exact k;grind
 cases q with
 |same a b l=>intro i c;rw[a,b];exact h i c
 |ev i s v c o r a b f k l=>exact one a b f k
 |ask i g c o r a b y l=>intro i c;rw[a,b];exact h i c
 |fin i g s v c o u a b f x t k l=>exact one a b f k
structure All (C:bQ) (S:Nat->bE) (N:Nat) (M:cX):Prop where
 inv:eN C N M
 wait:qp M
 zp:RPs C S M
theorem All.rL {S:Nat->bE} (hC:C.Ok) (h:All C S N M):All C S (N+2) (M.rL C d).1:=by
 have a:=aCa (d:=d) hC h.inv h.wait;exact⟨Pz h.inv hC,h.wait.out hC h.inv a,h.zp.out a⟩
theorem All.len {S:Nat->bE} (h:All C S N M):M.log.length<=N:=h.inv.log
theorem All.runs {S:Nat->bE} (hC:C.Ok):∀{l:List Do} {N:Nat} {M:cX},All C S N M->All C S (N+2*l.length) (M.runs C l):=by
 intro l;induction l with
 |nil=>intro N M h;exact h
 |cons d l a=>
  intro N M h;have:=a (h.rL (d:=d) hC);rw[List.length_cons,show N+2*(l.length+1)=N+2+2*l.length by omega];exact this
theorem ue:(M.mG C [d] 0).1=(M.rL C d).1:=by
 unfold cX.mG;split;rfl;rfl
end
end Go.Mc
namespace Go.Proofs.YtmhapehobfnoiaaGreatDoor
open Go Go.Ab Go.Hm Go.At Go.Mc Go.Ct Go.Nt Go.Is
section
theorem j4 {C:bQ} {ps:List (List Ins)} {ws os vs:List Int} (h:Dp C ps ws os vs=0):∀i:Nat,(i:Int)<C.aD->(qi ps ws i).Ok:=by
 obtain⟨hC,j,k,l,o,c,p,q⟩:=Ff h;intro i r;have b:i<ps.length:=by omega
 have f:ps.getD i []∈ps:=by rw[List.getD_eq_getElem?_getD,List.getElem?_eq_getElem b];exact List.getElem_mem _
 have a:=A.Ed c _ f;have e:=A.O2 a;refine⟨show(0:Int)<=0 by decide,show(0:Int)<=32 by decide,rfl,e,fun x g=>?_⟩;unfold lE at a;rw[aab] at a;exact Xw _ _ a x g
theorem aB4 {C:bQ} {ps:List (List Ins)} {ws os vs:List Int} (h:Dp C ps ws os vs=0):eN C 0 (MC.new ⟨C,ps,ws,os,vs⟩):=by
 obtain⟨hC,t,u,a,v,y,z,b⟩:=Ff h;refine⟨⟨?_,?_,fun g r q=>by cases q⟩,j4 h,fun i f=>yu,fun i f=>⟨?_,?_⟩,fun l j=>?_,⟨fun c w=>?_,fun c w n k=>by cases k⟩,Nat.le_refl 0⟩;show(os.map fun o=>(⟨o,false⟩:iB)).length=_;rw[List.length_map];exact a;intro x s;obtain⟨o,p,rfl⟩:=List.mem_map.1 s;exact b o p;show((0:Nat):Int)<=C.entries;have:1<=C.entries:=by unfold bQ.Ok at hC;omega
 omega;show(0:Int)<=0/\(0:Int)<C.bM;have:=hC.2.1.1;omega;have e:((MC.new ⟨C,ps,ws,os,vs⟩).home l).1=Dq:=by
  show(sU C.lines l).1=Dq;unfold sU;rw[aLy j]
 rw[e];exact⟨aHb l,Nat.zero_le _⟩;show((0:Nat):Int)<=C.depth;have:1<=C.depth:=hC.2.2.2.2.1.1;omega
theorem R8 {C:bQ} {ps:List (List Ins)} {ws os vs:List Int} (h:Dp C ps ws os vs=0):Mc.All C (qi ps ws) 0 (MC.new ⟨C,ps,ws,os,vs⟩):=
 ⟨aB4 h,⟨(fun g c a=>by cases a),(fun g b c a=>by cases a)⟩,fun i e=>rfl⟩
theorem y2 {s:bE} {k:Value->Prop} (b:k (.bool false)) {a:Bool} (hc:a=true:=by kernel_rfl):Gm a [0,0,0,0,0,0,1] .neq (.agg ⟨s.core⟩) (.agg ⟨s.core⟩) k:=⟨hc,_,by simp[Ei,mP,E1,Mm,bE.core],b⟩
set_option maxRecDepth 100000
attribute [local irreducible] bA Br ld1 rT sH A2 lH tD kC Nk fZ lT oX oU nW kS xH sY Ts Pe No M5 Qt Ns Ei Gm Sb jV nR qR iK copyV gZ vD Tg Tm E6 jX Kb Pq Tl mL pD uW vP Cl xS Tb qW qT jA eX cS bZ
variable {G:Bg} {h:AH} {L L':List HP} {Q:Value->AH->Prop} {Cf:bQ} {m N:Nat} {M:cX}
def Eo (G:Bg) (v:Value) (l:List Do):Prop:=tC G 4 v (l.map Do.enc).length (fun i=>(l.map Do.enc).getD i [])
theorem Ar {v:Value} {l:List Do} (a:Eo G v l) (b:Hs G h L):Hs G h (yU G 4 62 v (l.map Do.enc)::L):=B2 (by simp[Do.enc]) a b
theorem F1 {v:Value} {l:List Do} {k:Value->Prop} (b:Eo G v l) (a:k (I l.length)):bA (kS v) k:=A.tK b (by rw[List.length_map];exact a)
theorem Jx {d:Do} {a:Addr} {c:Nat} {k:Value->AH->Prop} (hC:Cf.Ok) (hG:Gb G) (f:eN Cf N M) (i:N<=2^28) (b:Hs G h (dI 4 62 (some a) c (1,d.enc)::bB G Cf m M::L))
  (g:∀e,Hs G e (bB G Cf m (M.rL Cf d).1::L)->k (.tuple ⟨[I (M.mG Cf [d] 0).2.1,I (M.mG Cf [d] 0).2.2]⟩) e):Cl Pr K 22 [pt m 0 0,.slice (some a) 1 c] h k:=by
 have b:=vz (l:=[d].map Do.enc) (n:=1) (cs:=d.enc) (by simp[Do.enc]) rfl (by simp) b
 refine tn (l:=[d]) (v:= .slice (some a) 1 c) hC hG f (by simp;omega) b fun h b=>g h ?_
 rw[ue] at b
 exact b.tail
end
end Go.Proofs.YtmhapehobfnoiaaGreatDoor
namespace Go.Ab
open Go Go.RowKit Go.ChangeShapes Go.WideShapes Go.ChangeAt
section
variable {P:Program} {H:Type} {enc:TypeId×Value->H} {w:World} {base:Nat} {spare:Nat->Bool} {held:Bool}
theorem aBg {ρ:iC} {v:Value}:aF ρ top v:=by simp[top,aF]
theorem di {ρ:iC}:∀{l c:List Value},l.length=c.length->(∀(j:Nat) (u v:Value),l[j]?=some u->c[j]?=some v->aF ρ u v)->aU ρ l c
 |[],[],_,_=>aU.nil
 |u::l,v::c,h,k=>aU.cons (k 0 u v rfl rfl) (di (by simpa using h) fun j a b e f=>k (j+1) a b (by simpa using e) (by simpa using f))
 |[],_::_,h,_=>by simp at h
 |_::_,[],h,_=>by simp at h
def aGi (P:Program) (w:World) (ρ:iC) (r:OB):Prop:=
 (∀o,r.1=some o->∀b s,r.2=some (b,s)->∃a,w.heap[b]?=some a/\tE P ρ s o a)/\(∀b s,r.2=some (b,s)->b<w.heap.size)
theorem bg.at' {r:OB} (h:bg P w r) (ρ:iC):aGi P w ρ r:=⟨fun o f b s e=>let⟨g,a,c⟩:=h.1 o f b s e;⟨g,a,c ρ⟩,h.2⟩
theorem iv {g:Nat} {gl:Nat->Option mW} {rs:List OB} (u:P.globals.size<=g) (q:g<=w.heap.size) (e:aBk P g gl w) (j:∀r∈rs,aGi P w (rI g rs) r):Reads P (g+rs.length) (xN g gl rs) (rI g rs) w where
 mS:=fun i o f c b s a=>by
  have p:=a;unfold xN at c;unfold rI at a;split at c;rename_i h;rw[aLy h] at a;cases a;obtain⟨t,k,l⟩:=e i o h c;exact⟨t,k,l _⟩;rename_i h;rw[aLx h] at a;rw[List.getElem?_eq_getElem (by omega)] at c a;exact(j _ (List.getElem_mem (by omega))).1 o c b s a
 low:=fun i b s f a=>by
  unfold rI at a;split at a;cases a;omega;rw[List.getElem?_eq_getElem (by omega)] at a;exact(j _ (List.getElem_mem (by omega))).2 b s a
 none:=fun i f=>by unfold rI;rw[aab,List.getElem?_eq_none (by omega)];rfl
 pF:=fun i f=>by unfold rI;rw[aae]
def C6 (j:List (Option IntKind)) (w:World) (a:Option Addr) (len cap:Nat):Prop:=
 (a=none/\len=0/\cap=0)\/(∃x,a=some x/\len=0)\/
 ∃x cc e g,a=some x/\0<len/\x.spot=none/\len<=cap/\w.heap[x.block]?=some (.cells cc e g)/\x.off+len<=cc.size/\
  ∀i,i<len->∃b f c,cc.toList[x.off+i]?=some (.slice b f c)/\jI j w b f c
theorem ky {t e e2:TypeId} {n fuel:Nat} {r:List (Option IntKind)} {cs:List Value} {x:DataW H×List MemPlace} (X:P.underlying t=some (.slice e)) (S:P.underlying e=some (.slice e2)) (T:rG P n e2=some r) (A:P.cellsOf e2=r.length) (hc:P.cellsOf e=1) (O:0<r.length)
  (h:DataW.trod enc P w base spare held fuel t cs=some x):∃a len k,cs=[.slice a len k]/\len<=maxLen/\C6 r w a len k:=by
 rcases DataW.trod_slice X h with⟨rfl,_⟩|⟨a,len,k,elems,rest,m,_,rfl,_,v,U,hm,I,D,_,_⟩
 .exact⟨none,0,0,rfl,Nat.zero_le _,.inl ⟨rfl,rfl,rfl⟩⟩
 refine⟨some a,len,k,rfl,by omega,?_⟩
 rcases Nat.eq_zero_or_pos len with z|z
 .exact .inr (.inl ⟨a,rfl,z⟩)
 refine .inr (.inr ?_)
 have each:∀i,i<len->∃f j g,w.cell? (a.add i)=some (.slice f j g)/\jI r w f j g:=by
  intro i E;have p:=D i E;rw[List.getElem?_eq_getElem (by omega),hc,Option.bind_eq_some_iff] at p;obtain⟨c,l,Y⟩:=p;obtain⟨f,j,g,B,V⟩:=Fo S T A O Y;subst B;refine⟨f,j,g,?_,V⟩;unfold World.cells? at l;split at l;have:=mapM_some_get l 0 0 (by simp);rw[Nat.mul_one] at this;have K:(a.add i).add 0=a.add i:=rfl;rw[K] at this;simpa using this;cases l
 obtain⟨a0,l0,Z,b,W⟩:=each 0 z
 obtain⟨cc,J,s,v,y⟩:∃cc e s,w.heap[a.block]?=some (.cells cc e s)/\a.spot=none:=by
  have F:a.add 0=a:=rfl;rw[F] at b;unfold World.cell? at b;split at b;rename_i c e s v;split at b;cases b;rename_i y;exact⟨c,e,s,v,by simpa using y⟩;cases b
 have q:∀o,w.cell? ⟨a.block,o,none⟩=cc[o]?:=by
  intro o;unfold World.cell?;rw[v];simp
 have u:∀i,i<len->∃f j g,cc.toList[a.off+i]?=some (.slice f j g)/\jI r w f j g:=by
  intro i E;obtain⟨f,j,g,p,R⟩:=each i E;rw[Zh y,q] at p;exact⟨f,j,g,by rw[Array.getElem?_toList];exact p,R⟩
 refine⟨a,cc,J,s,rfl,z,y,U,v,?_,u⟩
 obtain⟨f,j,g,p,_⟩:=u (len - 1) (by omega)
 have:=(List.getElem?_eq_some_iff.1 p).1
 simp at this
 omega
theorem Jl {W:World} {t:TypeId} {fs:Array Field} {i:Nat} {f:Field} {l:List Value} {d:DataW H} {p:List MemPlace} {n:Nat} {j:List (Option IntKind)} (o:P.underlying t=some (.struct fs)) (e:fs[i]?=some f) (k:rG P n f.type=some j)
  (h:DataW.Trod enc P W 0 (fun _=>true) true t (.agg ⟨l⟩) d p):Flat j ((l.drop f.offset).take (P.cellsOf f.type)):=by
 obtain⟨fuel,b⟩:=h
 obtain⟨r,m,_,_,s,q,a⟩:=DataW.trod_struct o b
 have g:=a i f e
 have c:i<r.length:=by rw[q];exact(Array.getElem?_eq_some_iff.1 e).1
 rw[List.getElem?_eq_getElem c] at g
 have:=Pa n k g
 simpa [Value.cells] using this
theorem Lt {W:World} {t e e2:TypeId} {fs:Array Field} {i:Nat} {f:Field} {l:List Value} {d:DataW H} {p:List MemPlace} {n:Nat} {j:List (Option IntKind)} (D:P.underlying t=some (.struct fs)) (r:fs[i]?=some f)
  (E:P.underlying f.type=some (.slice e)) (q:P.underlying e=some (.slice e2)) (v:P.cellsOf f.type=1) (x:P.cellsOf e=1) (y:rG P n e2=some j) (hc:P.cellsOf e2=j.length) (u:0<j.length)
  (h:DataW.Trod enc P W 0 (fun _=>true) true t (.agg ⟨l⟩) d p):∃a len b,l[f.offset]?=some (.slice a len b)/\len<=maxLen/\C6 j W a len b:=by
 obtain⟨fuel,k⟩:=h
 obtain⟨I,m,_,_,K,F,c⟩:=DataW.trod_struct D k
 have s:=c i f r
 have o:i<I.length:=by rw[F];exact(Array.getElem?_eq_some_iff.1 r).1
 rw[List.getElem?_eq_getElem o] at s
 obtain⟨a,len,b,g,A,B⟩:=ky E q y hc x u s
 refine⟨a,len,b,?_,A,B⟩
 rw[v] at g
 have J:(Value.cells (.agg ⟨l⟩)).toList=l:=by simp[Value.cells]
 have:=congrArg (fun z=>z[0]?) g
 simpa [Value.cells] using this
structure aHg (P:Program) (w:World) (ks:List (Option IntKind)) (k0:Nat) (a:Option Addr) (len cap:Nat) (r:OB) (rs:List OB) (t:Nat->Value) (vs:List Value) (ns:List Nat) (at':Nat->Nat->List Value):Prop where
 ok:∀x∈rs,bg P w x
 out:∀ρ:iC,(∀i x,rs[i]?=some x->ρ (k0+i)=x.2)->aGi P w ρ r
 rel:∀ρ k,ρ k=r.2->aF ρ (t k) (.slice a len cap)
 lvs:vs.length=len
 iZ:ns.length=len
 flat:∀i n,ns[i]?=some n->∀j,j<n->Flat ks (at' i j)
 old:∀(G:Bg) k,k<G.base->G.old k=r.1->(∀i x,rs[i]?=some x->k0+i<G.base/\G.old (k0+i)=x.1)->
  tC G 1 (t k) len (fun i=>[vs.getD i undef])/\xb G (t k) len/\∀i v n,vs[i]?=some v->ns[i]?=some n->tC G ks.length v n (at' i)/\xb G v n
theorem su (P:Program) {B:List (Option IntKind)} {a:Option Addr} {len cap:Nat} (l:Nat) (h:C6 B w a len cap):∃r rs t vs ns at',aHg P w B l a len cap r rs t vs ns at':=by
 rcases h with⟨rfl,rfl,rfl⟩|⟨x,rfl,rfl⟩|⟨x,cc,e,O,rfl,h0,hs,hl,W,β,hf⟩;exact⟨(none,none),[],fun _=> .slice none 0 0,[],[],fun _ _=>[],⟨fun x V=>(by cases V),fun ρ _=>⟨fun o h=>(by cases h),fun b s h=>(by cases h)⟩,fun ρ k _=>(by simp only[aF]),rfl,rfl,fun i n q=>(by simp at q),fun G k _ _ _=>⟨⟨none,0,rfl,fun i c=>(by omega)⟩,.inl ⟨rfl,rfl⟩,fun i v n f=>(by simp at f)⟩⟩⟩;refine⟨(none,none),[],fun _=> .slice (some ⟨0,0,some 0⟩) 0 0,[],[],fun _ _=>[],⟨fun x V=>(by cases V),fun ρ _=>⟨fun o h=>(by cases h),fun b s h=>(by cases h)⟩,fun ρ k _=>?_,rfl,rfl,fun i n q=>(by simp at q),fun G k _ _ _=>⟨⟨some ⟨0,0,some 0⟩,0,rfl,fun i c=>(by omega)⟩,.inr (.inl ⟨rfl,rfl⟩),fun i v n f=>(by simp at f)⟩⟩⟩;simp only[aF];exact⟨trivial,trivial,x,cap,fun h=>by omega,fun h=>by omega,rfl⟩;have E:∀i,∃(y:OB×(Nat->Value)×(Nat->List Value)×Nat×Value),i<len->cc.toList[x.off+i]?=some y.2.2.2.2/\bg P w y.1/\(∀ρ k,ρ k=y.1.2->aF ρ (y.2.1 k) y.2.2.2.2)/\(∀j,j<y.2.2.2.1->Flat B (y.2.2.1 j))/\
   ∀(G:Bg) k,k<G.base->G.old k=y.1.1->tC G B.length (y.2.1 k) y.2.2.2.1 y.2.2.1/\xb G (y.2.1 k) y.2.2.2.1:=by
  intro i
  by_cases c:i<len
  .obtain⟨a',l',c',p,R⟩:=hf i c;obtain⟨r,t,S,h4,at',h5,h6⟩:=uY P R;exact⟨(r,t,at',l',.slice a' l' c'),fun _=>⟨p,S,h4,h5,h6⟩⟩
  .exact⟨((none,none),fun _=>undef,fun _=>[],0,undef),fun h=>absurd h c⟩
 obtain⟨Y,I⟩:∃Y:Nat->OB×(Nat->Value)×(Nat->List Value)×Nat×Value,∀i,i<len->cc.toList[x.off+i]?=some (Y i).2.2.2.2/\bg P w (Y i).1/\(∀ρ k,ρ k=(Y i).1.2->aF ρ ((Y i).2.1 k) (Y i).2.2.2.2)/\(∀j,j<(Y i).2.2.2.1->Flat B ((Y i).2.2.1 j))/\
   ∀(G:Bg) k,k<G.base->G.old k=(Y i).1.1->tC G B.length ((Y i).2.1 k) (Y i).2.2.2.1 (Y i).2.2.1/\xb G ((Y i).2.1 k) (Y i).2.2.2.1:=
  ⟨fun i=>(E i).choose,fun i c=>(E i).choose_spec c⟩
 have A:∀{α:Type} (g:Nat->α) (i:Nat) (z:α),((List.range len).map g)[i]?=some z->i<len/\z=g i:=by
  intro α g i z K;have c:i<len:=by have:=(List.getElem?_eq_some_iff.1 K).1;simpa using this
  rw[List.getElem?_map,List.getElem?_range c] at K;simp only[Option.map_some,Option.some.injEq] at K;exact⟨c,K.symm⟩
 refine⟨(some (.cells ((List.range cc.size).map fun j=>if x.off<=j/\j<x.off+len then(Y (j - x.off)).2.1 (l+(j - x.off)) else top) e O false),some (x.block,(0,0))),(List.range len).map fun i=>(Y i).1,fun k=> .slice (some ⟨k,x.off,none⟩) len cap,
     (List.range len).map fun i=>(Y i).2.1 (l+i),(List.range len).map fun i=>(Y i).2.2.2.1,fun i=>(Y i).2.2.1,⟨?_,?_,?_,by simp,by simp,?_,?_⟩⟩
 intro y hy;obtain⟨i,c,rfl⟩:=List.mem_map.1 hy;exact(I i (List.mem_range.1 c)).2.1;intro ρ hρ;refine⟨fun o ho b s F=>?_,fun b s F=>?_⟩;cases ho;cases F;refine⟨_,W,cc,rfl,?_,by simp,fun h=>by cases h⟩;rw[List.drop_zero,List.take_of_length_le (by simp)];refine di (by simp) fun j u v J f=>?_;rw[List.getElem?_map] at J;have T:j<cc.size:=by have:=(List.getElem?_eq_some_iff.1 f).1;simpa using this
 rw[List.getElem?_range T] at J;simp only[Option.map_some,Option.some.injEq] at J;subst J;split;rename_i hc;obtain⟨p,_,S,_,_⟩:=I (j - x.off) (by omega);rw[show x.off+(j - x.off)=j by omega,f] at p;simp only[Option.some.injEq] at p;rw[p];refine S ρ _ (hρ (j - x.off) _ ?_);rw[List.getElem?_map,List.getElem?_range (by omega)];rfl;exact aBg;cases F;exact(Array.getElem?_eq_some_iff.1 W).1;intro ρ k F;simp only[aF];exact⟨x.block,(0,0),cap,F,Nat.le_refl _,by simp,by cases x;simp at hs;subst hs;rfl⟩;intro i n q j T;obtain⟨c,rfl⟩:=A _ i n q;exact(I i c).2.2.2.1 j T;intro G k Z X D;refine⟨⟨_,_,rfl,fun i c=>⟨k,x.off,_,rfl,⟨Z,e,O,false,X⟩,?_,by simp;omega⟩⟩,.inr (.inr ⟨k,x.off,cap,_,e,O,rfl,h0,hl,Z,X⟩),fun i v n f q=>?_⟩;have α:x.off+i*1<cc.size:=by omega
 have U:x.off+i*1<((List.range cc.size).map fun j=>if x.off<=j/\j<x.off+len then(Y (j - x.off)).2.1 (l+(j - x.off)) else top).length:=by simp;omega
 rw[List.drop_eq_getElem_cons U,List.take_succ_cons,List.take_zero];have e1:((List.range len).map fun i=>(Y i).2.1 (l+i)).getD i undef=(Y i).2.1 (l+i):=by
  rw[List.getD_eq_getElem?_getD,List.getElem?_map,List.getElem?_range c];rfl
 show[_]=[((List.range len).map fun i=>(Y i).2.1 (l+i)).getD i undef];rw[e1];simp only[List.getElem_map,List.getElem_range];rw[aae,show x.off+i*1 - x.off=i by omega];obtain⟨c,rfl⟩:=A _ i v f;obtain⟨_,rfl⟩:=A _ i n q;obtain⟨p,R⟩:=D i (Y i).1 (by rw[List.getElem?_map,List.getElem?_range c];rfl);exact(I i c).2.2.2.2 G (l+i) p R
end
end Go.Ab
section
open Go Go.Ab
attribute [local irreducible] bA Br ld1 rT sH A2 lH tD kC Nk fZ lT oX oU nW kS xH sY Ts Pe No M5 Qt Ns Ei Gm Sb jV nR qR iK copyV gZ vD Tg Tm E6 jX Kb Pq Tl mL pD uW vP Cl xS Tb qW qT jA eX cS bZ
namespace Go.Proofs.YtmhapehobfnoiaaGreatDoor
open Go Go.Ab Go.Hm Go.At Go.Mc Go.Ct Go.Nt Go.Is
section
instance:Fx mO 2:=⟨fun _=>rfl,fun _=>rfl⟩
set_option maxRecDepth 100000
variable {G:Bg} {h:AH} {L L':List HP} {Q:Value->AH->Prop}
end
section
set_option maxRecDepth 100000
variable {G:Bg} {h:AH} {L L':List HP} {Q:Value->AH->Prop}
end
section
set_option maxRecDepth 100000
variable {G:Bg} {h:AH} {L L':List HP} {Q:Value->AH->Prop} {C:bQ}
def aAq (p:Nat) (l:List Ln):HP:=qV fun x:Option Addr×Nat=>sp [aE p 0 [.slice x.1 l.length x.2],ls mO 2 68 x.1 x.2 l]
theorem aKa {p:Nat} {l:List Ln} (hb:l.length<=1000):cf Pr K G 161 [] [pt p 0 0] (aAq p l) ((l.zipIdx).map fun x=>[I x.2,.agg ⟨mO x.1⟩]):=by
 intro q J y L h Q g F t u;obtain⟨⟨a,c⟩,g⟩:=g.rS;have g:=g.Bn;have j:∀{h:AH} {M:List HP},Hs G h (aE p 0 [.slice a l.length c]::ls mO 2 68 a c l::M)->Hs G h (aAq p l::M):=fun g=>Hs.oZ (A:=fun x:Option Addr×Nat=>sp [aE p 0 [.slice x.1 l.length x.2],ls mO 2 68 x.1 x.2 l]) (a,c) g.yC;refine cW (am p g rfl (bH ?_));have loop:∀(f i:Nat) (h:AH),i+f=l.length->Hs G h (aE p 0 [.slice a l.length c]::ls mO 2 68 a c l::q (((l.drop i).zipIdx i).map fun x=>[I x.2,.agg ⟨mO x.1⟩])::L)->Dd 161 1 [] Q [y,(.slice a l.length c),(I l.length),(I i)] h:=by
  intro f;induction f with
  |zero=>
   intro i h B g;rw[List.drop_of_length_le (by omega)] at g;exact bW (aI (aaa (t _ _ (j g))))
  |succ f O=>
   intro i h B g;obtain⟨x,E,z⟩:=lK (l:=l) (i:=i) (by omega);rw[z,List.zipIdx_cons,List.map_cons] at g;refine bW (aI (aad (bW (jM (l:=l) (a:=a) (c:=c) (enc:=mO) (e:=68) g (by decide) (by omega) (by rw[Int.toNat_natCast];exact E) (bN g fun r h g=>ax (b:=r) g fun h g=>an r g (l:=mO x) rfl rfl ?_)))));refine(F _ _ h _ (g.front (q ([I i,.agg ⟨mO x⟩]::(((l.drop (i+1)).zipIdx (i+1)).map fun x=>[I x.2,.agg ⟨mO x.1⟩]))))).mono fun v s D=>?_;rcases D with⟨rfl,k⟩|⟨rfl,k⟩;exact bY (bP (bW (aac (O (i+1) s (by omega) k.to))));exact bY (dN (u _ _ (j k.to)))
 exact loop l.length 0 h (by omega) (by rw[List.drop_zero];exact g)
end
section
def jm (n k:Nat) (mem:Nat->Ln):List Ln:=(List.range n).map fun j=>if j<k then mem j else(0,0)
theorem Qb {n k:Nat} {mem:Nat->Ln}:(jm n k mem).length=n:=by simp[jm]
theorem aA0 {n k:Nat} {mem:Nat->Ln}:(jm n k mem).set k (mem k)=jm n (k+1) mem:=by
 apply List.ext_getElem?;intro i;simp only[jm,List.getElem?_set,List.length_map,List.length_range,List.getElem?_map];grind
theorem aAk {n:Nat} {mem:Nat->Ln}:jm n n mem=(List.range n).map mem:=by
 apply List.map_congr_left;intro j a;rw[aLy (by simpa using a)]
theorem mu (n:Nat):eB [I 0,I 0] n=eL mO (List.replicate n (0,0)):=by
 induction n with
 |zero=>rfl
 |succ n a=>rw[List.replicate_succ,oJ,<-a];rfl
theorem rq {n:Nat} {mem:Nat->Ln}:eB [I 0,I 0] n=eL mO (jm n 0 mem):=by
 rw[mu];congr 1;apply List.ext_getElem?;intro i;simp only[jm,List.getElem?_map,List.getElem?_replicate];grind
set_option maxRecDepth 100000
variable {G:Bg} {h:AH} {L L':List HP} {Q:Value->AH->Prop} {C:bQ}
theorem Ya {mb:Nat} {mem:Nat->Ln} (hC:C.Ok) (D:Ob G 0 eY) (g:Hs G h L) [m:Has (eM G C.lines mb C) L mem L']
  (R:∀a c q,Hs G q (ls mO 2 68 a c ((List.range C.lines).map mem)::eM G C.lines mb C mem::L')->Q (.slice a C.lines c) q):Cl Pr K 114 [pt mb 0 0] h Q:=by
 have t:=bQ.bk hC
 have S:=bQ.eP hC
 have J:=hC.2.1
 have loop:∀(f i:Nat) (a:Option Addr) (c:Nat) (h:AH),i+f=C.lines->Hs G h (ls mO 2 68 a c (jm C.lines i mem)::eM G C.lines mb C mem::L')->Dd 114 2 [] Q [pt mb 0 0,.slice a C.lines c,I C.lines,I i] h:=by
  intro f;induction f with
  |zero=>
   intro i a c h O g;obtain rfl:i=C.lines:=by omega
   rw[aAk] at g;exact bW (aI (aaa (R a c h g)))
  |succ f T=>
   intro i a c h O g;have A:i<C.lines:=by omega
   obtain⟨b,o,j,g⟩:=qJ (g.front (eM G C.lines mb C mem));refine bW (aI (aad (bW (rO hC D g A fun h g=>aG rfl (aG rfl (aG rfl (bG (bJ rfl (bW ?_)))))))));have g:=(g.front (dE C.aK.toNat fun i=>fB C.lines C.aK.toNat b (o+i*3) i mem)).kH (i % C.aK.toNat) (Nat.mod_lt _ t.2.1);obtain⟨r,w,F,z,g⟩:=uU g;refine aB (aA (aC g rfl ?_));have s:=D1 t.2.1 A;obtain⟨x,E,rfl,H,g,p⟩:=Hs.ey (Iv (B:=C.aK.toNat) (i:=i % C.aK.toNat) (mem:=mem)) s (g.front (dI 2 68 F z (gO C.lines C.aK.toNat (i % C.aK.toNat),(List.range (gO C.lines C.aK.toNat (i % C.aK.toNat))).flatMap (Mb C.aK.toNat (i % C.aK.toNat) mem))));rw[ct t.2.1] at g;refine dO s (aN g (by decide) (l:=mO (mem i)) rfl rfl ?_);have g:=p _ _ _ rfl rfl (g.bL (aE x (E+i/C.aK.toNat*2) (mO (mem i))) H);rw[H7 t.2.1,rV] at g;have g:=nO (g.sg (b:=b) (o:=o+i % C.aK.toNat*3) (c:=[I r,I w,.slice (some ⟨x,E,none⟩) (gO C.lines C.aK.toNat (i % C.aK.toNat)) z]) rfl);have g:Hs _ _ (eM G C.lines mb C mem::ls mO 2 68 a c (jm C.lines i mem)::L'):=nT (b:=b) (o:=o) (cap:=j) ((g.nQ (n:=C.aK.toNat) (i:=i % C.aK.toNat) (fun i=>fB C.lines C.aK.toNat b (o+i*3) i mem) (fun i=>fB C.lines C.aK.toNat b (o+i*3) i mem) (Nat.mod_lt _ t.2.1) (fun _ _ _=>rfl)).to);have e:(jm C.lines i mem).length=C.lines:=Qb;have:=Q3 (l:=jm C.lines i mem) (a:=a) (c:=c) (enc:=mO) (e:=68) (i:=(i:Int)) (y:=mem i) (h:=_) (k:=fun q=>bA (sY .add (I i) (I 1)) fun v=>Dd 114 2 [] Q [pt mb 0 0,.slice a C.lines c,I C.lines,v] q) (g.front (ls mO 2 68 a c (jm C.lines i mem))) (by decide) (by omega) (by rw[e];omega) fun q u=>?_;rw[e] at this;exact this;rw[Int.toNat_natCast,aA0] at u;exact aac (T (i+1) a c q (by omega) u.to)
 obtain⟨b,o,j,g⟩:=qJ (show Hs G h (eM G C.lines mb C mem::L') from m.of g)
 refine cW (cK (bP (bW (aB (aA (aN g (by decide) (l:=C.enc) rfl rfl (mV hC D g fun h g=>zi (by omega) (by omega) ?_)))))))
 have g:=nT g
 refine dC (W:=2) (n:=C.lines) (c:=C.lines) g (by rw[rq (mem:=mem),yW,Qb]) rfl (by rw[rq (mem:=mem)];exact Gg) fun a h g=>?_
 rw[rq (mem:=mem)] at g
 refine bH (loop C.lines 0 (some a) C.lines h (by omega) ?_)
 unfold ls
 rw[Qb]
 exact g
end
end Go.Proofs.YtmhapehobfnoiaaGreatDoor
end
