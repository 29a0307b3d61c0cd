/- A part of the proof. -/
import Derived.Test.YtajjljbmfdboaaaGreatDoorP12
import Derived.Test.YtajjljbmfdboaaaGreatDoorP10
import Derived.Test.YtajjljbmfdboaaaGreatDoorP11
import Derived.Test.YtajjljbmfdboaaaGreatDoorP9
section
open Go Go.Ab
attribute [local irreducible] aZ Br oM rI sQ Bi lE tH kU Qb gI lF pD pW oR kH zH tJ W2 Ut Qa Nn T3 P6 Km Lx T2 jR mX rV iO copyV iB vL Va Uo Fm kB Lu Sv Vn nF rH wK zB Cl wX T1 rM qX jI gS cI cA
section
namespace Go.Proofs.YtajjljbmfdboaaaGreatDoor.H
open Go Go.Ab Go.Hm
set_option maxRecDepth 100000
variable {G:Bg} {h:AH} {L L':List HP}
set_option maxHeartbeats 2000000 in
theorem Ds {C:bQ} (hC:C.Ok) {hb l:Nat} {H:jO} {n:aQ} {world:Int} {Q:Value→AH→Prop} (hlim:Ob G 0 fB) (hs:Hs G h L) [m:Has (fN G hb C) L H L'] (hl:l<C.lines) (hnc:0≤n.core∧n.core<4) (how: -1≤(H l).1.owner∧(H l).1.owner<4)
  (hk:∀v h',Hs G h' (eK v ((H l).1.get l (H l).2 n world).2::fN G hb C (bT H l (((H l).1.get l (H l).2 n world).1,(H l).2))::L')→Q v h'):
  Cl Pr K 220 [pt hb 0 0,I l,I world,.agg ⟨n.enc⟩] h Q:=by
 have hs:=m.of hs
 simp only[Row.get] at hk
 refine cW (dJ hs ?_)
 intro p h hs
 obtain⟨mb,b,o,cap,hs⟩:=Db hl (hs.front (fN G hb C H))
 obtain⟨wa,wc,hs⟩:=dS hs
 refine aB (aA (aC hs rfl (dU hl (aR hs ?_))))
 intro rv h hs
 refine aN hs (by decide) (l:=n.enc) rfl rfl (aB (aA (bE hs rfl rfl rfl rfl ?_)))
 intro h hs
 have hs1:=hs
 refine aB (aA (bE hs rfl rfl rfl rfl ?_))
 intro h hs
 refine aB (aA (bE hs rfl rfl rfl rfl ?_))
 intro h hs
 refine cJ cZ (cJ cZ (cJ cZ (cJ (aN hs1 (by decide) (l:=n.enc) rfl rfl (oJ (by simp[mB,aQ.enc]))) (cJ gW (cJ gW ?_)))))
 refine aA (aC hs rfl (bC ?_))
 have hs:=dZ b (o+l*25) ((H l).1.serve n world) wa wc hs rfl rfl rfl
 have hsc:((H l).1.serve n world).served.core=n.core:=rfl
 have how: -1≤((H l).1.serve n world).owner∧((H l).1.serve n world).owner<4:=how
 generalize hr:(H l).1.serve n world=r at hs hk hsc how
 have gK:∀(r2:Row),r2.served.core=n.core→∀h,Hs G h (eH b (o+l*25) r2::aE hb 0 (kL mb C b o cap)::eV G C.lines mb C (fun i=>(H i).2)::hole G 25 247 (some ⟨b,o,none⟩) cap C.lines b o::wI b o C.lines H l::L')→
   (∀v h',Hs G h' (eK v (r2.gK l (r2.gd (H l).2)).2::fN G hb C (bT H l ((r2.gK l (r2.gd (H l).2)).1,(H l).2))::L')→Q v h')→Cl Pr K 271 [pt hb 0 0,I l] h Q:=fun r2 hc2 h hs hk=>by
  have hs:=eI hb C H l r2 (H l).2 _ mb b o cap hl eO.symm hs
  refine Bo hC hlim hs hl (by simp only[gL,hc2];exact hnc) fun v h hs=>hk _ _ ?_
  simp only[gL,Aj] at hs
  exact hs.to
 have probe:∀(r2:Row) (N:List aQ) v h,Hs G h (eK v N::eH b (o+l*25) r2::aE hb 0 (kL mb C b o cap)::eV G C.lines mb C (fun i=>(H i).2)::hole G 25 247 (some ⟨b,o,none⟩) cap C.lines b o::wI b o C.lines H l::L')→Hs G h (eK v N::fN G hb C (bT H l (r2,(H l).2))::L'):=fun r2 N v h hs=>
  (eI hb C H l r2 (H l).2 _ mb b o cap hl eO.symm hs).to
 refine aS (fun h1=>?_) (fun h1=>?_)
 ·simp only[if_pos h1,Row.getM,hsc] at hk
  refine bW (aA (aC hs rfl (sZ hs fun hs=>aX (aS (fun h2=>?_) (fun h2=>?_)))))
  ·rw[if_pos h2] at hk
   refine aA (aC hs rfl (Ly hs fun v h hs=>hk _ _ ?_))
   exact probe _ _ _ _ hs.to
  ·rw[if_neg h2] at hk
   exact gK r hsc _ hs.to hk
 ·simp only[if_neg h1,Row.Z7] at hk
  refine bW (aR hs ?_)
  intro rv2 h hs
  obtain⟨wa,wc,hs⟩:=dS (hs.front (eH b (o+l*25) r))
  refine aB (aA (aC hs rfl (aA (aC hs rfl (bC (aS (fun h2=>bW ?_) (fun h2=>bW ?_)))))))
  ·have hu:r.rU={r with owner:= -1}:=by unfold Row.rU;rw[if_pos (by rw[hsc];exact h2)]
   rw[hu] at hk
   simp only[ne_eq,not_true_eq_false,if_false] at hk
   refine aB (aA (bE hs rfl rfl rfl rfl ?_))
   intro h hs
   refine aB (aA (aC hs rfl (aX (aI (by simp) ?_))))
   have hs:=dZ b (o+l*25) {r with owner:= -1} wa wc hs rfl rfl rfl
   exact gK {r with owner:= -1} hsc _ hs.to hk
  ·have hu:r.rU=r:=by unfold Row.rU;rw[if_neg (by rw[hsc];exact h2)]
   rw[hu] at hk
   refine aB (aA (aC hs rfl (aX (aS (fun h3=>?_) (fun h3=>?_)))))
   ·rw[if_pos h3] at hk
    refine aB (aA (aC hs rfl (aK (c:=[I r.owner]) rfl (dP hs rfl rfl rfl ?_))))
    intro a h hs
    have hs:=dZ b (o+l*25) r wa wc hs rfl rfl rfl
    refine Zv (e:=3) (by omega) hs rfl fun v h hs=>hk _ _ ?_
    exact probe _ _ _ _ hs.to
   ·rw[if_neg h3] at hk
    have hs:=dZ b (o+l*25) r wa wc hs rfl rfl rfl
    exact gK r hsc _ hs.to hk
end Go.Proofs.YtajjljbmfdboaaaGreatDoor.H
end
section
namespace Go.Proofs.YtajjljbmfdboaaaGreatDoor.H
open Go Go.Ab Go.Hm
set_option maxRecDepth 100000
variable {G:Bg} {h:AH} {L L':List HP}
theorem vC {C:bQ} {hb mb b o cap:Nat} {x:Int} {Q:Value→AH→Prop} (hs:Hs G h L) [m:Has (aE hb 0) L (kL mb C b o cap) L'] (hk:Q (.bool (decide (C.has x))) h):Cl Pr K 125 [pt hb 0 0,I x] h Q:=by
 refine cW (mw (dY (dM (aS (fun h1=>?_) (fun h1=>?_)))))
 ·refine aB (aA (aC hs rfl (bZ (aU ?_))))
  show Q _ _
  rw[show decide (x<(C.lines:Int))=decide (C.has x) from decide_eq_decide.2 ⟨fun h=>⟨h1,h⟩,fun h=>h.2⟩]
  exact hk
 ·show Q _ _
  rw[show false=decide (C.has x) from(decide_eq_false (fun h=>h1 h.1)).symm]
  exact hk
theorem Oo {C:bQ} {H:jO} {b o l:Nat} (hl:l<C.lines) (hs:Hs G h L) [k:dX (dC C.lines fun i=>eH b (o+i*25) (H i).1) L L']:Hs G h (eH b (o+l*25) (H l).1::wI b o C.lines H l::L'):=
 (hs.front (dC C.lines fun i=>eH b (o+i*25) (H i).1)).kR l hl
theorem yX (C:bQ) (H:jO) (hb mb b o cap:Nat) {L1 L2 L3 L4:List HP} (hs:Hs G h L) [k2:dX (aE hb 0 (kL mb C b o cap)) L L1] [k3:dX (eV G C.lines mb C (fun i=>(H i).2)) L1 L2]
  [k4:dX (hole G 25 247 (some ⟨b,o,none⟩) cap C.lines b o) L2 L3] [k5:dX (dC C.lines fun i=>eH b (o+i*25) (H i).1) L3 L4]:Hs G h (fN G hb C H::L4):=
 qF (mb:=mb) (b:=b) (o:=o) (cap:=cap) (hs.perm (k2.perm.trans ((k3.perm.trans ((k4.perm.trans (k5.perm.cons _)).cons _)).cons _)))
section
variable {C:bQ} {hb mb b o cap p l:Nat} {H:jO} {n:aQ} {Q:Value→AH→Prop}
theorem zh (hC:C.Ok) (hlim:Ob G 0 fB) (hl:l<C.lines) (hnl:n.line=l) (hnc:0≤n.core∧n.core<4) (hi:(H l).1.Inv) (hw:(H l).1.waits.length<2^30)
  (hs:Hs G h (aE p 0 n.enc::aE hb 0 (kL mb C b o cap)::eV G C.lines mb C (fun i=>(H i).2)::hole G 25 247 (some ⟨b,o,none⟩) cap C.lines b o::dC C.lines (fun i=>eH b (o+i*25) (H i).1)::L))
  (hk:∀v h',Hs G h' (eK v (rD.take (H l) l n).2.1::fN G hb C (bT H l (rD.take (H l) l n).1)::L)→Q (.tuple ⟨[v,I (rD.take (H l) l n).2.2]⟩) h'):
  Dd 200 6 [] Q [(pt hb 0 0),(pt p 0 0)] h:=by
 unfold rD.take at hk
 refine bW (aR hs ?_)
 intro rv h hs
 have hs:=Oo (H:=H) (b:=b) (o:=o) hl hs
 have same:∀h,Hs G h (eH b (o+l*25) (H l).1::wI b o C.lines H l::aE p 0 n.enc::aE hb 0 (kL mb C b o cap)::eV G C.lines mb C (fun i=>(H i).2)::hole G 25 247 (some ⟨b,o,none⟩) cap C.lines b o::L)→Hs G h (eK (.slice none 0 0) []::fN G hb C (bT H l (H l))::L):=fun h hs=>
  nN ((eI hb C H l (H l).1 (H l).2 _ mb b o cap hl eO.symm hs).to)
 have hs0:Hs G h (eH b (o+l*25) (H l).1::wI b o C.lines H l::aE p 0 n.enc::aE hb 0 (kL mb C b o cap)::eV G C.lines mb C (fun i=>(H i).2)::hole G 25 247 (some ⟨b,o,none⟩) cap C.lines b o::L):=hs.to
 obtain⟨wa,wc,hs⟩:=dS hs
 refine aB (aA (aC hs rfl (aA (aC hs rfl ?_))))
 rw[hnl]
 refine dU hl (aA (aC hs rfl (bC (aS (fun h1=>bW ?_) (fun h1=>bW ?_)))))
 ·rw[if_pos h1] at hk
  refine aR hs ?_
  intro rv2 h hs
  refine aB (aA (aC hs rfl (bU (dI (dA (fun h2=>?_) (fun h2=>?_))))))
  ·refine aB (aA (aA (aC hs rfl (aA (aC hs rfl (aX (aS (fun h3=>?_) (fun h3=>bW ?_))))))))
   ·rw[if_pos (.inr h3)] at hk
    exact hk _ _ (same _ (dZ b (o+l*25) (H l).1 wa wc hs rfl rfl rfl).to)
   ·rw[if_neg (by rw[h2];simpa using h3)] at hk
    have hs:=dZ b (o+l*25) (H l).1 wa wc hs rfl rfl rfl
    refine Yy hs fun h hs=>hk _ _ ?_
    exact nN ((eI hb C H l (H l).1.free (H l).2 _ mb b o cap hl eO.symm hs).to)
  ·rw[if_pos (.inl h2)] at hk
   exact hk _ _ (same _ (dZ b (o+l*25) (H l).1 wa wc hs rfl rfl rfl).to)
 ·rw[if_neg h1] at hk
  refine bC (aS (fun h2=>bW ?_) (fun h2=>bW ?_))
  ·rw[if_pos h2] at hk
   refine aR hs ?_
   intro rv2 h hs
   refine aA (aC hs rfl (aB (aA (fA hnc.1 hnc.2 (aC hs (v:= .bool ((H l).1.asked n.core.toNat)) ?_ (bU (dI (dA (fun h3=>?_) (fun h3=>?_)))))))))
   ·have:n.core.toNat=0∨n.core.toNat=1∨n.core.toNat=2∨n.core.toNat=3:=by omega
    rcases this with e|e|e|e<;>rw[e]<;>rfl
   ·rw[if_neg (by rw[h3];simp)] at hk
    refine aN hs (by decide) (l:=n.enc) rfl rfl ?_
    have hs:=dZ b (o+l*25) (H l).1 wa wc hs rfl rfl rfl
    have hs:=eI hb C H l (H l).1 (H l).2 _ mb b o cap hl eO.symm hs
    rw[show bT H l ((H l).1,(H l).2)=H from tO] at hs
    exact ml hC hlim hs hl hnl hnc hi.core fun v h hs=>hk _ _ hs.to
   ·rw[if_pos h3] at hk
    exact hk _ _ (same _ (dZ b (o+l*25) (H l).1 wa wc hs rfl rfl rfl).to)
  ·rw[if_neg h2] at hk
   refine aR hs ?_
   intro rv2 h hs
   refine aB (aA (aC hs rfl (aN hs (by decide) (l:=n.enc) rfl rfl (aK (c:=n.enc) rfl ?_))))
   refine iJ hs rfl rfl rfl rfl rfl ?_
   intro a h hs
   refine pL hs (by omega) ?_
   intro a4 c4 h hs
   dsimp only
   refine aB (aA (bE hs rfl rfl rfl rfl ?_))
   intro h hs
   refine cJ cZ (hk _ _ ?_)
   have hs:=dZ b (o+l*25) ((H l).1.wait n) a4 c4 hs (by simp[Row.enc,dH,Row.wait]) (by simp[Row.wait]) (by simp[uR,Row.wait])
   exact nN ((eI hb C H l ((H l).1.wait n) (H l).2 _ mb b o cap hl eO.symm hs).to)
end
end Go.Proofs.YtajjljbmfdboaaaGreatDoor.H
end
section
namespace Go.Proofs.YtajjljbmfdboaaaGreatDoor.H
open Go Go.Ab Go.Hm
set_option maxRecDepth 100000
variable {G:Bg} {h:AH} {L L':List HP}
section
variable {C:bQ} {hb mb b o cap p l:Nat} {H:jO} {n:aQ} {Q:Value→AH→Prop}
theorem aAh (hC:C.Ok) (hlim:Ob G 0 fB) (hi:vB C H (2^30 - 1)) {t:Value}
  (hs:Hs G h (aE p 0 n.enc::aE hb 0 (kL mb C b o cap)::eV G C.lines mb C (fun i=>(H i).2)::hole G 25 247 (some ⟨b,o,none⟩) cap C.lines b o::dC C.lines (fun i=>eH b (o+i*25) (H i).1)::L)) (hkd:fX n.kind)
  (hk:∀v h',Hs G h' (eK v (fZ C H n).2.1::fN G hb C (fZ C H n).1::L)→Q (.tuple ⟨[v,I (fZ C H n).2.2]⟩) h'):Dd 200 4 [] Q [(pt hb 0 0),(pt p 0 0),t] h:=by
 unfold fZ at hk
 rw[if_neg (by simpa using hkd)] at hk
 have hc4:C.aF≤4:=hC.1.2
 have no:¬((0≤n.core∧n.core<C.aF)∧C.has n.line)→∀h,Hs G h (aE p 0 n.enc::aE hb 0 (kL mb C b o cap)::eV G C.lines mb C (fun i=>(H i).2)::hole G 25 247 (some ⟨b,o,none⟩) cap C.lines b o::dC C.lines (fun i=>eH b (o+i*25) (H i).1)::L)→Q (.tuple ⟨[.slice none 0 0,I 10]⟩) h:=fun hn h hs=>by
  rw[if_neg hn] at hk
  exact hk _ _ (nN (yX C H hb mb b o cap hs)).to
 refine bW (aR hs ?_)
 intro rv h hs
 refine aA (aC hs rfl (aU (aS (fun h1=>no (by omega) _ hs.to) (fun h1=>?_))))
 refine aA (aC hs rfl (aB (aA (aA (aC hs rfl (dM (aS (fun h2=>no (by omega) _ hs.to) (fun h2=>?_))))))))
 refine aA (aC hs rfl (vC hs (bU (dI (aS (fun h3=>?_) (fun h3=>no (fun e=>h3 e.2) _ hs.to))))))
 rw[if_pos ⟨by omega,h3⟩] at hk
 obtain⟨l,hnl⟩:=Int.eq_ofNat_of_zero_le h3.1
 have hll:l<C.lines:=by have:=h3.2;omega
 have e:n.line.toNat=l:=by omega
 rw[e] at hk
 rw[hnl] at hk
 dsimp only at hk
 exact zh (mb:=mb) (b:=b) (o:=o) (cap:=cap) hC hlim hll hnl (by omega) (hi l hll).1 (by have:=(hi l hll).2;omega) hs.to hk
end
theorem Bw {C:bQ} (hC:C.Ok) {hb:Nat} {H:jO} {n:aQ} {Q:Value→AH→Prop} (hlim:Ob G 0 fB) (hi:vB C H (2^30 - 1)) (hs:Hs G h L) [m:Has (fN G hb C) L H L']
  (hk:∀v h',Hs G h' (eK v (fZ C H n).2.1::fN G hb C (fZ C H n).1::L')→Q (.tuple ⟨[v,I (fZ C H n).2.2]⟩) h'):Cl Pr K 200 [pt hb 0 0,.agg ⟨n.enc⟩] h Q:=by
 refine cW (dJ (m.of hs) ?_)
 intro p h hs
 obtain⟨mb,b,o,cap,hs⟩:=oQ hs.kI
 have key:∀t,fX n.kind→Dd 200 4 [] Q [(pt hb 0 0),(pt p 0 0),t] h:=fun t hkd=>aAh (mb:=mb) (b:=b) (o:=o) (cap:=cap) hC hlim hi hs.to hkd hk
 have no:¬fX n.kind→Q (.tuple ⟨[.slice none 0 0,I 15]⟩) h:=fun hn=>by
  unfold fZ at hk
  rw[if_pos hn] at hk
  exact hk _ _ (nN (yX C H hb mb b o cap hs)).to
 refine cS (bS (bW (aA (aC hs rfl (bC (aS (fun h1=>bW (bM h1 (key _ (by unfold fX;omega)))) (fun h1=>bW (bC (aS (fun h2=>bW (bM h2 (key _ (by unfold fX;omega)))) (fun h2=>bW ?_))))))))))
 refine bC (aS (fun h3=>bW (bM h3 (key _ (by unfold fX;omega)))) (fun h3=>bW ?_))
 refine bC (aS (fun h4=>bW (bM h4 (key _ (by unfold fX;omega)))) (fun h4=>bW ?_))
 exact bC (aS (fun h5=>key _ (by unfold fX;omega)) (fun h5=>no (by unfold fX;omega)))
theorem ik {C:bQ} {hb:Nat} {H:jO} {x:Int} {Q:Value→AH→Prop} (hi:vB C H (2^30 - 1)) (hs:Hs G h L) [m:Has (fN G hb C) L H L']
  (hk:∀h',Hs G h' (fN G hb C (jZ C H x).1::L')→Q (I (jZ C H x).2) h'):Cl Pr K 263 [pt hb 0 0,I x] h Q:=by
 obtain⟨mb,b,o,cap,hs⟩:=oQ (m.of hs)
 unfold jZ at hk
 refine cW (cS (bS (bW (vC hs (bU (dI (aS (fun h3=>bW ?_) (fun h3=>?_))))))))
 ·rw[if_pos h3] at hk
  obtain⟨l,rfl⟩:=Int.eq_ofNat_of_zero_le h3.1
  simp only[rD.yc,Int.toNat_natCast] at hk
  have hl:l<C.lines:=by have:=h3.2;omega
  have hs:=Oo (H:=H) (b:=b) (o:=o) hl hs
  obtain⟨wa,wc,hs⟩:=dS hs
  have hw:=(hi l hl).2
  refine aB (aA (aC hs rfl (dU hl (aB (aA (aC hs rfl (aK (c:=(Ar l).enc) rfl (aK (c:=(Ar l).enc) rfl ?_))))))))
  refine dP hs rfl rfl rfl ?_
  intro a h hs
  refine pL hs (by omega) ?_
  intro a4 c4 h hs
  dsimp only
  refine aB (aA (bE hs rfl rfl rfl rfl ?_))
  intro h hs
  refine hk _ ?_
  have hs:=dZ b (o+l*25) ((H l).1.wait (Ar l)) a4 c4 hs (by simp[Row.enc,dH,Row.wait]) (by simp[Row.wait]) (by simp[uR,Row.wait])
  exact(eI hb C H l ((H l).1.wait (Ar l)) (H l).2 _ mb b o cap hl eO.symm hs).to
 ·rw[if_neg h3] at hk
  exact hk _ (yX C H hb mb b o cap hs).to
structure Wq (G:Bg) (A:HP) (jv:Value) (j:Int→Int→Int×Bool):Prop where
 ne:∀k:Value→Prop,k (.bool false)→aZ (P6 true .eql jv .nilIface) k
 may:∀(h:AH) (L M:List HP) (w l:Int) (Q:Value→AH→Prop),L.Perm (A::M)→Hs G h L→(∀h',Hs G h' L→Q (.tuple ⟨[I (j w l).1,.bool (j w l).2]⟩) h')→Cl Pr K 219 [jv,I w,I l] h Q
section
variable {C:bQ} {hb mb b o cap p l:Nat} {H:jO} {n:aQ} {r:Row} {Q:Value→AH→Prop} {j:Int→Int→Int×Bool} {jv:Value}
def G5 (G:Bg) (hb p mb b o cap l:Nat) (C:bQ) (H:jO) (n:aQ) (r:Row):List HP:=
 [eH b (o+l*25) r,aE p 0 n.enc,aE hb 0 (kL mb C b o cap),eV G C.lines mb C (fun i=>(H i).2),hole G 25 247 (some ⟨b,o,none⟩) cap C.lines b o,wI b o C.lines H l]
theorem qt (hl:l<C.lines) (hkd:n.kind≠3∧n.kind≠1∧n.kind≠2) (hs:Hs G h (G5 G hb p mb b o cap l C H n r++L)) {t:Value}
  (hk:∀v h',Hs G h' (eK v (r.begun l (H l).2 n (fun w=>j w l)).2::fN G hb C (bT H l (r.begun l (H l).2 n (fun w=>j w l)).1)::L)→Q (.tuple ⟨[v,I 0]⟩) h'):Dd 158 13 [] Q [(pt hb 0 0),(I l),jv,(pt b (o+l*25) 0),(pt p 0 0),t] h:=by
 unfold Row.begun at hk
 rw[if_neg hkd.1,if_neg (by omega)] at hk
 simp only[G5,List.cons_append,List.nil_append] at hs
 refine bW (sZ hs fun hs=>bC (aS (fun h1=>?_) (fun h1=>bW (aR hs ?_))))
 ·rw[if_pos h1] at hk
  exact hk _ _ (nN ((eI hb C H l r (H l).2 _ mb b o cap hl eO.symm hs).to))
 ·rw[if_neg h1] at hk
  intro rv h hs
  refine aN hs (by decide) (l:=n.enc) rfl rfl ?_
  obtain⟨wa,wc,hs⟩:=dS (hs.front (eH b (o+l*25) r))
  refine aB (aA (bE hs rfl rfl rfl rfl ?_))
  intro h hs
  have hs1:=hs
  refine aB (aA (bE hs rfl rfl rfl rfl ?_))
  intro h hs
  refine cJ cZ (cJ (aN hs1 (by decide) (l:=n.enc) rfl rfl (oJ (by simp[mB,aQ.enc]))) ?_)
  have hs:=dZ b (o+l*25) (r.Gq n) wa wc hs rfl rfl rfl
  have e:(r.Gq n).iP (-1)=r.iP (-1):=rfl
  refine Ly hs fun v h hs=>hk _ _ ?_
  rw[e] at hs
  exact(eI hb C H l ((r.Gq n).gB (r.iP (-1))) (H l).2 _ mb b o cap hl eO.symm hs).to
theorem R6 (hC:C.Ok) (hlim:Ob G 0 fB) {A:HP} {M0:List HP} (hj:Wq G A jv j) (hA:L.Perm (A::M0)) (hl:l<C.lines) (hnc:0≤n.core∧n.core<4) (how: -1≤r.owner∧r.owner<4) (hkd:n.kind=1∨n.kind=2) (hs:Hs G h (G5 G hb p mb b o cap l C H n r++L))
  (hk:∀v h',Hs G h' (eK v (r.begun l (H l).2 n (fun w=>j w l)).2::fN G hb C (bT H l (r.begun l (H l).2 n (fun w=>j w l)).1)::L)→Q (.tuple ⟨[v,I 0]⟩) h'):Dd 158 12 [] Q [(pt hb 0 0),(I l),jv,(pt p 0 0)] h:=by
 unfold Row.begun at hk
 rw[if_neg (by omega),if_pos hkd] at hk
 simp only[G5,List.cons_append,List.nil_append] at hs
 refine bW (aA (aC hs rfl (hj.may _ _ _ _ _ _ ((hA.append_left (G5 G hb p mb b o cap l C H n r)).trans List.perm_middle) hs fun h hs=>?_)))
 simp only[G5,List.cons_append,List.nil_append] at hs
 refine aG rfl (aG rfl (bU (dI (dA (fun h1=>?_) (fun h1=>?_)))))
 ·rw[if_pos h1] at hk
  refine aN hs (by decide) (l:=n.enc) rfl rfl ?_
  have hs:=eI hb C H l r (H l).2 _ mb b o cap hl eO.symm hs
  refine Ds hC hlim hs hl hnc (by simp only[gL];exact how) fun v h hs=>hk _ _ ?_
  simp only[gL,Aj] at hs
  exact hs.to
 ·rw[if_neg (by rw[h1];simp)] at hk
  refine aA (aC hs rfl (aK (c:=(Cm 9 n.core l).enc) rfl (aK (c:=(Cm 9 n.core l).enc) rfl (dP hs rfl rfl rfl ?_))))
  intro a h hs
  refine hk _ _ ?_
  have hs:=Ac (n:=Cm 9 n.core l) rfl hs
  exact(eI hb C H l r (H l).2 _ mb b o cap hl eO.symm hs).to
theorem we (hC:C.Ok) (hlim:Ob G 0 fB) (hl:l<C.lines) (hnc:0≤n.core∧n.core<4) (hkd:n.kind=3) (hs:Hs G h (G5 G hb p mb b o cap l C H n r++L))
  (hk:∀v h',Hs G h' (eK v (r.begun l (H l).2 n (fun w=>j w l)).2::fN G hb C (bT H l (r.begun l (H l).2 n (fun w=>j w l)).1)::L)→Q (.tuple ⟨[v,I 0]⟩) h'):Dd 158 6 [] Q [(pt hb 0 0),(I l),(pt b (o+l*25) 0),(pt p 0 0)] h:=by
 unfold Row.begun at hk
 rw[if_pos hkd] at hk
 simp only[G5,List.cons_append,List.nil_append] at hs
 refine bW (aR hs ?_)
 intro rv h hs
 obtain⟨wa,wc,hs⟩:=dS (hs.front (eH b (o+l*25) r))
 refine aB (aA (aC hs rfl (aA (aC hs rfl (bC (aS (fun h1=>?_) (fun h1=>?_)))))))
 ·have hs:=dZ b (o+l*25) r wa wc hs rfl rfl rfl
  refine aA (aC hs rfl (dA (fun h2=>bW (aR hs ?_)) (fun h2=>bW ?_)))
  ·rw[if_pos ⟨h1,h2⟩] at hk
   intro rv h hs
   refine aB (aA (aC hs rfl (aA (aN hs (by decide) (l:=J9 (n.d0,n.d1)) rfl rfl (Ci hC hlim hs hl fun h hs=>?_)))))
   refine aA (aC hs rfl (Cn hs hnc fun h hs=>?_))
   refine aA (aC hs rfl (aK (c:=(Cm 10 n.core l).enc) rfl (aK (c:=(Cm 10 n.core l).enc) rfl (dP hs rfl rfl rfl ?_))))
   intro a h hs
   refine hk _ _ ?_
   have hs:=Ac (n:=Cm 10 n.core l) rfl hs
   exact(eI hb C H l (r.leave n.core) (n.d0,n.d1) _ mb b o cap hl rfl hs).to
  ·rw[if_neg (by rw[h2];simp)] at hk
   refine aA (aC hs rfl (Cn hs hnc fun h hs=>?_))
   refine aA (aC hs rfl (aK (c:=(Cm 10 n.core l).enc) rfl (aK (c:=(Cm 10 n.core l).enc) rfl (dP hs rfl rfl rfl ?_))))
   intro a h hs
   refine hk _ _ ?_
   have hs:=Ac (n:=Cm 10 n.core l) rfl hs
   exact(eI hb C H l (r.leave n.core) (H l).2 _ mb b o cap hl eO.symm hs).to
 ·rw[if_neg (fun e=>h1 e.1)] at hk
  have hs:=dZ b (o+l*25) r wa wc hs rfl rfl rfl
  refine aA (aC hs rfl (Cn hs hnc fun h hs=>?_))
  refine aA (aC hs rfl (aK (c:=(Cm 10 n.core l).enc) rfl (aK (c:=(Cm 10 n.core l).enc) rfl (dP hs rfl rfl rfl ?_))))
  intro a h hs
  refine hk _ _ ?_
  have hs:=Ac (n:=Cm 10 n.core l) rfl hs
  exact(eI hb C H l (r.leave n.core) (H l).2 _ mb b o cap hl eO.symm hs).to
end
theorem nr {C:bQ} (hC:C.Ok) {hb:Nat} {H:jO} {x:Int} {jv:Value} {j:Int→Int→Int×Bool} {N:Nat} {Q:Value→AH→Prop} (hlim:Ob G 0 fB) {A:HP} {M0:List HP} (hj:Wq G A jv j) (hi:vB C H N) (hs:Hs G h L) [m:Has (fN G hb C) L H L'] (hA:L'.Perm (A::M0))
  (hk:∀v h',Hs G h' (eK v (jE C H x (fun w=>j w x)).2.1::fN G hb C (jE C H x (fun w=>j w x)).1::L')→Q (.tuple ⟨[v,I (jE C H x (fun w=>j w x)).2.2]⟩) h'):Cl Pr K 158 [pt hb 0 0,I x,jv] h Q:=by
 obtain⟨mb,b,o,cap,hs⟩:=oQ (m.of hs)
 unfold jE at hk
 refine cW (cS (bS (bW (vC hs (bU (dI (aS (fun h3=>bW (hj.ne _ (bS (bW ?_)))) (fun h3=>?_))))))))
 rotate_left
 ·rw[if_neg h3] at hk
  exact hk _ _ (nN (yX C H hb mb b o cap hs)).to
 rw[if_pos h3] at hk
 obtain⟨l,rfl⟩:=Int.eq_ofNat_of_zero_le h3.1
 have hl:l<C.lines:=by have:=h3.2;omega
 simp only[Int.toNat_natCast] at hk
 have hs:=Oo (H:=H) (b:=b) (o:=o) hl hs
 obtain⟨wa,wc,hs⟩:=dS hs
 have same:∀h,Hs G h (eH b (o+l*25) (H l).1::wI b o C.lines H l::aE hb 0 (kL mb C b o cap)::eV G C.lines mb C (fun i=>(H i).2)::hole G 25 247 (some ⟨b,o,none⟩) cap C.lines b o::L')→Hs G h (eK (.slice none 0 0) []::fN G hb C (bT H l (H l))::L'):=fun h hs=>
  nN ((eI hb C H l (H l).1 (H l).2 _ mb b o cap hl eO.symm hs).to)
 unfold rD.begin at hk
 refine aB (aA (aC hs rfl (dU hl (aB (aA (aC hs rfl (dA (fun h4=>?_) (fun h4=>bW ?_))))))))
 ·rw[if_pos h4] at hk
  exact hk _ _ (same _ (dZ b (o+l*25) (H l).1 wa wc hs rfl rfl rfl).to)
 rw[if_neg (by rw[h4];simp)] at hk
 refine aB (aA (aC hs rfl (bZ (bC (aS (fun h5=>?_) (fun h5=>bW ?_))))))
 ·have hw:(H l).1.waits=[]:=List.eq_nil_of_length_eq_zero (by omega)
  rw[hw] at hk
  exact hk _ _ (same _ (dZ b (o+l*25) (H l).1 wa wc hs rfl rfl rfl).to)
 ·cases hw:(H l).1.waits with
  |nil=>rw[hw] at h5;simp at h5
  |cons n w=>
   rw[hw] at hk
   dsimp only at hk
   have hin:=(hi l hl).1
   have hnc:=hin.waits n (by rw[hw];exact List.mem_cons_self)
   have hslc:=hs.front (dB 9 175 wa wc ((H l).1.waits.length,eF (H l).1.waits))
   rw[hw] at hslc
   simp only[List.length_cons,Jn] at hslc
   obtain⟨b2,o2,rfl,HH,hs2,_⟩:=hslc.mP (by omega)
   refine aB (aA (aC hs rfl ?_))
   rw[hw]
   refine dU (i:=0) (by simp) (I0 hs2 (by decide) (l:=n.enc) (by simp[aQ.enc]) rfl ?_)
   clear hs2
   refine bK hslc ?_
   intro p h hs
   refine bA hs rfl rfl rfl rfl ?_
   intro h hs
   refine aB (aA (aC hs rfl ?_))
   rw[hw]
   refine jx (e:=175) hs ?_
   intro a' c' hs
   refine aB (aA (bE hs rfl rfl rfl rfl ?_))
   intro h hs
   have hs:=dZ b (o+l*25) ((H l).1.next w) a' c' hs rfl rfl (by simp[Row.next,aQ.enc])
   have hs:Hs G h (G5 G hb p mb b o cap l C H n ((H l).1.next w)++L'):=by
    simp only[G5,List.cons_append,List.nil_append]
    exact hs.to
   have hs0:=hs
   simp only[G5,List.cons_append,List.nil_append] at hs0
   refine aA (aC hs0 rfl (bC (aS (fun k1=>we (j:=j) hC hlim hl hnc k1 hs hk) (fun k1=>bW (bC (aS (fun k2=>bW (bM k2 (R6 (r:=(H l).1.next w) hC hlim hj hA hl hnc hin.owner (.inl k2) hs hk))) (fun k2=>bW (bC (aS (fun k3=>R6 (r:=(H l).1.next w) hC hlim hj hA hl hnc hin.owner (.inr k3) hs hk) (fun k3=>qt hl ⟨k1,k2,k3⟩ hs hk))))))))))
end Go.Proofs.YtajjljbmfdboaaaGreatDoor.H
end
end
section
namespace Go.Proofs.YtajjljbmfdboaaaGreatDoor
open Go Go.Ab Go.Hm Go.At Go.Mc
theorem yp {a b c d:Bool} {k:Value→Prop} (hk:k (.bool (!(a||b||c||d)))) {c0:Bool} (hc:c0=true:=by kernel_rfl):Lx c0 [1,1,1,1] .eql (.agg ⟨[.bool a,.bool b,.bool c,.bool d]⟩) (.agg ⟨[.bool false,.bool false,.bool false,.bool false]⟩) k:=by
 have e:Km [1,1,1,1] .eql (.agg ⟨[.bool a,.bool b,.bool c,.bool d]⟩) (.agg ⟨[.bool false,.bool false,.bool false,.bool false]⟩)=some (.bool (!(a||b||c||d))):=by cases a<;>cases b<;>cases c<;>cases d<;>kernel_rfl
 exact⟨hc,_,e,hk⟩
set_option maxRecDepth 100000
attribute [local irreducible] aZ Br oM rI sQ Bi lE tH kU Qb gI lF pD pW oR kH zH tJ W2 Ut Qa Nn T3 P6 Km Lx T2 jR mX rV iO copyV iB vL Va Uo Fm kB Lu Sv Vn nF rH wK zB Cl wX T1 rM qX jI gS cI cA
variable {G:Bg} {h:AH} {L L' M:List HP} {Q:Value→AH→Prop} {C:bQ} {m:Mon} {p:Nat}
theorem Pe {g:Int} (hm:gD C m) (hC:C.Ok) (hg:m.has g):∃n:Nat,g=n∧n<m.fV.length∧n<16:=by
 have:=hm.len
 have:=hC.2.1
 unfold Mon.has at hg
 exact⟨g.toNat,by omega,by omega,by omega⟩
theorem Zk {r:Mc.iG} {i:Nat} (hi:i<4):dH r.enc (0+8+i*1) [.bool false]=(r.heard i).enc:=by
 have:i=0∨i=1∨i=2∨i=3:=by omega
 rcases this with rfl|rfl|rfl|rfl<;>rfl
theorem K6 {f:Nat→Option Mc.iG} {g:Nat} {r:Mc.iG}:Jt (fF f) g (some (.agg ⟨r.enc⟩))=fF (bT f g (some r)):=D8 (x:=some r)
theorem Kj {g core:Int} (hC:C.Ok) (hm:gD C m) (hs:Hs G h L) [mm:Has (fC C p) L m L'] (hk:∀h',Hs G h' (fC C p (m.dropped C.aF g core).1::L')→Q (.tuple ⟨[.bool (m.dropped C.aF g core).2.1,I (m.dropped C.aF g core).2.2]⟩) h'):Cl Pr K 210 [pt p 0 0,I g,I core] h Q:=by
 have hc:=hC.1
 unfold Mon.dropped at hk
 obtain⟨t,b,hs⟩:=iV (mm.of hs)
 refine cW (cS (bS (bW (aB (aA (aC (b:=p) (o:=0) hs rfl (yP (m:=m) hs fun h hs=>?_)))))))
 by_cases hh:m.has g
 rotate_left
 ·rw[if_neg hh]
  rw[if_pos hh] at hk
  exact aG rfl (aG rfl (bK hs fun q h hs=>bA (b:=q) hs rfl rfl rfl rfl fun h hs=>aX (bM (by omega) (hk _ (dL (t:=t) (b:=b) hs.to)))))
 rw[if_pos hh]
 rw[if_neg (by simpa using hh)] at hk
 obtain⟨n,rfl,hn,hn16⟩:=Pe hm hC hh
 refine aG rfl (aG rfl (bK hs fun q h hs=>bA (b:=q) hs rfl rfl rfl rfl fun h hs=>aX (aI (by omega) (bW (aB (aA (aC (b:=p) (o:=0) hs rfl (Mw (m:=m) hs (bK hs fun pr h hs=>bA (b:=pr) hs rfl rfl rfl rfl fun h hs=>aA (aC (b:=pr) (o:=0) hs rfl (aX (aS (fun h1=>?_) (fun h1=>?_)))))))))))))
 ·cases hr:m.run (n:Int) with
  |none=>rw[hr] at hk;exact hk _ (dL (t:=t) (b:=b) hs.to)
  |some r=>
   rw[hr] at h1 hk
   simp only[Option.getD_some] at h1
   dsimp only at hk
   rw[if_pos h1] at hk
   exact hk _ (dL (t:=t) (b:=b) hs.to)
 cases hr:m.run (n:Int) with
 |none=>rw[hr] at h1;exact absurd (show(0:Int)≠1 by omega) h1
 |some r=>
 rw[hr] at h1 hs hk
 simp only[Option.getD_some] at h1 hs
 dsimp only at hk
 rw[if_neg h1] at hk
 by_cases h2:0≤core∧core<C.aF
 rotate_left
 ·rw[if_pos (Or.inl h2)] at hk
  refine bW (aU (aS (fun h3=>hk _ (dL (t:=t) (b:=b) hs.to)) fun h3=>aB (aA (aC (b:=p) (o:=0) hs rfl (dM (bM (by omega) (hk _ (dL (t:=t) (b:=b) hs.to))))))))
 obtain⟨i,rfl⟩:=Int.eq_ofNat_of_zero_le h2.1
 have hi:i<4:=by omega
 have hg8:r.enc[0+8+i*1]?=some (.bool (r.waits i)):=by
  have:i=0∨i=1∨i=2∨i=3:=by omega
  rcases this with rfl|rfl|rfl|rfl<;>rfl
 refine bW (aU (aI (by omega) (aB (aA (aC (b:=p) (o:=0) hs rfl (dM (aI (by omega) (aA (dF (by omega) (aC (b:=pr) (o:=0) hs hg8 (bU (dI ?_))))))))))))
 rw[Int.toNat_natCast] at hk
 cases hw:r.waits i with
 |false=>
  rw[if_pos (Or.inr hw)] at hk
  exact bS (hk _ (dL (t:=t) (b:=b) hs.to))
 |true=>
 rw[if_neg (by rw[hw];simp;omega)] at hk
 have hl:r.enc.length=12:=rfl
 refine dY (bW (aA (dF (by omega) (bE (b:=pr) (o:=0) hs rfl (by rw[hl];exact Nat.ble_eq_true_of_le (by simp;omega)) rfl rfl fun h hs=>?_))))
 rw[Zk hi] at hs
 refine aA (hZ (b:=pr) (o:=0) hs (by decide) (l:=[.bool ((r.heard i).waits 0),.bool ((r.heard i).waits 1),.bool ((r.heard i).waits 2),.bool ((r.heard i).waits 3)]) rfl rfl (aK (c:=[.bool false,.bool false,.bool false,.bool false]) rfl (yp (dA (fun hn0=>?_) (fun hn0=>?_)))))
 ·have e:({(r.heard i) with phase:=2}:Mc.iG)=(r.heard i).kP:=by unfold iG.kP;rw[show(r.heard i).none=true from hn0];rfl
  refine bW (aA (bE (b:=pr) (o:=0) hs rfl rfl rfl rfl fun h hs=>aR hs fun rr h hs=>?_))
  have e0:dH (r.heard i).enc (0+7) [I 2]=({(r.heard i) with phase:=2}:Mc.iG).enc:=rfl
  rw[e0,e] at hs
  refine aB (aA (aC (b:=p) (o:=0) hs rfl (aN (b:=pr) (o:=0) hs (by decide) (l:=(r.heard i).kP.enc) rfl rfl (O5 hs hn16 fun h hs=>?_))))
  rw[K6] at hs
  have hs:Hs G h (fC C p (m.dN n (some (r.heard i).kP))::L'):=(dL (m:=m.dN n (some (r.heard i).kP)) (hs.cU (aE p 0 [pt t 0 0,I C.aF,fH b]) (fT t m.fV) (gT b (fF (bT m.runs n (some (r.heard i).kP)))))).to
  have:=hk h hs
  rw[hn0]
  rw[show(r.heard i).none=true from hn0] at this
  exact this
 ·have e:r.heard i=(r.heard i).kP:=by unfold iG.kP;rw[show(r.heard i).none=false from hn0];rfl
  rw[e] at hs
  refine bW (aR hs fun rr h hs=>aB (aA (aC (b:=p) (o:=0) hs rfl (aN (b:=pr) (o:=0) hs (by decide) (l:=(r.heard i).kP.enc) rfl rfl (O5 hs hn16 fun h hs=>?_)))))
  rw[K6] at hs
  have hs:Hs G h (fC C p (m.dN n (some (r.heard i).kP))::L'):=(dL (m:=m.dN n (some (r.heard i).kP)) (hs.cU (aE p 0 [pt t 0 0,I C.aF,fH b]) (fT t m.fV) (gT b (fF (bT m.runs n (some (r.heard i).kP)))))).to
  have:=hk h hs
  rw[hn0]
  rw[show(r.heard i).none=false from hn0] at this
  exact this
theorem g9 {n:Nat} {r:Mc.iG} (h:m.run (n:Int)=some r):m.runs n=some r:=by
 unfold Mon.run at h
 rw[if_pos (by omega)] at h
 exact h
theorem U3 {g:Int} (hC:C.Ok) (hm:gD C m) (hs:Hs G h L) [mm:Has (fC C p) L m L'] (hk:∀h',Hs G h' (fC C p (m.over g).1::L')→Q (.tuple ⟨[.agg ⟨lJ ((m.over g).2.1.getD zG)⟩,I (m.over g).2.2]⟩) h'):Cl Pr K 159 [pt p 0 0,I g] h Q:=by
 unfold Mon.over at hk
 refine cW (bK (cs:=lJ zG) (mm.of hs) fun q0 h hs=>?_)
 obtain⟨t,b,hs⟩:=iV (hs.front (fC C p m))
 refine cS (bS (bW (aB (aA (aC (b:=p) (o:=0) hs rfl (yP (m:=m) hs fun h hs=>?_))))))
 have bad:∀{h:AH} {M:List HP} {e:Int},[Sub M L']→Hs G h (aE q0 0 (lJ zG)::aE p 0 [pt t 0 0,I C.aF,fH b]::fT t m.fV::gT b (fF m.runs)::M)→(∀h',Hs G h' (fC C p m::L')→Q (.tuple ⟨[.agg ⟨lJ zG⟩,I e]⟩) h')→
   aZ (lD [(I 0),(I 0),(I 0),(I 0),(I 0),(I 0),(.bool false)] []) fun c10=>aZ (sQ h 7 (pt q0 0 0) (.agg ⟨c10⟩)) fun h11=>aZ (rI h11 7 (pt q0 0 0)) fun v12=>Q (.tuple ⟨[v12,I e]⟩) h11:=by
  intro h M e _ hs hq
  exact aK (c:=lJ zG) rfl (bA (b:=q0) hs rfl rfl rfl rfl fun h hs=>aN (b:=q0) (o:=0) hs (by decide) (l:=lJ zG) rfl rfl (hq _ (dL (t:=t) (b:=b) hs.to)))
 by_cases hh:m.has g
 rotate_left
 ·rw[if_neg hh]
  rw[if_pos hh] at hk
  exact aG rfl (aG rfl (bK hs fun q h hs=>bA (b:=q) hs rfl rfl rfl rfl fun h hs=>aX (bM (by omega) (bad (M:=L') hs.to hk))))
 rw[if_pos hh]
 rw[if_neg (by simpa using hh)] at hk
 obtain⟨n,rfl,hn,hn16⟩:=Pe hm hC hh
 refine aG rfl (aG rfl (bK hs fun q h hs=>bA (b:=q) hs rfl rfl rfl rfl fun h hs=>aX (aI (by omega) (bW (aB (aA (aC (b:=p) (o:=0) hs rfl (Mw (m:=m) hs (bK hs fun pr h hs=>bA (b:=pr) hs rfl rfl rfl rfl fun h hs=>aA (aC (b:=pr) (o:=0) hs rfl (aX (aS (fun h1=>?_) (fun h1=>?_)))))))))))))
 ·cases hr:m.run (n:Int) with
  |none=>rw[hr] at hk;exact bad (M:=L') hs.to hk
  |some r=>
   rw[hr] at h1 hk
   simp only[Option.getD_some] at h1
   dsimp only at hk
   rw[if_pos h1] at hk
   exact bad (M:=L') hs.to hk
 cases hr:m.run (n:Int) with
 |none=>rw[hr] at h1;exact absurd (show(0:Int)≠2 by omega) h1
 |some r=>
 rw[hr] at h1 hs hk
 simp only[Option.getD_some] at h1 hs
 dsimp only at hk
 rw[if_neg h1] at hk
 obtain⟨o1,o2,o3,o4,o5⟩:=hm.run n r (g9 hr)
 refine bW (aR hs fun rr h hs=>aB (aA (aC (b:=p) (o:=0) hs rfl (aA (aA (aA (aC (b:=pr) (o:=0) hs rfl (aA (aA (aC (b:=pr) (o:=0) hs rfl (aK (c:=(⟨r.then',false⟩:jP).enc) rfl (Dx (x:=⟨r.then',false⟩) hs fun h hs=>?_))))))))))))
 have hcond:(0≤r.cB∧r.cB<m.fV.length)∧(0≤r.then'∧r.then'≤4):=⟨by rw[o2];omega,o5⟩
 rw[if_pos hcond] at hs
 rw[if_pos hcond]
 refine aX (aI (by omega) (bW (aB (aA (aC (b:=p) (o:=0) hs rfl (z8 hs fun h hs=>aA (aN (b:=pr) (o:=0) hs (by decide) (l:=lJ r) rfl rfl (bA (b:=q0) hs rfl rfl rfl rfl fun h hs=>aN (b:=q0) (o:=0) hs (by decide) (l:=lJ r) rfl rfl (hk _ ?_)))))))))
 have e1:=D8 (f:=m.runs) (g:=n) (x:=none)
 rw[Option.map_none] at e1
 rw[e1] at hs
 have hs:Hs G h (fC C p ((m.du r.cB.toNat ⟨r.then',false⟩).dN n none)::L'):=(dL (m:=(m.du r.cB.toNat ⟨r.then',false⟩).dN n none) (hs.cU (aE p 0 [pt t 0 0,I C.aF,fH b]) (fT t (m.fV.set r.cB.toNat ⟨r.then',false⟩)) (gT b (fF (bT m.runs n none))))).to
 exact hs
end Go.Proofs.YtajjljbmfdboaaaGreatDoor
end
section
open Go Go.Ab
attribute [local irreducible] aZ Br oM rI sQ Bi lE tH kU Qb gI lF pD pW oR kH zH tJ W2 Ut Qa Nn T3 P6 Km Lx T2 jR mX rV iO copyV iB vL Va Uo Fm kB Lu Sv Vn nF rH wK zB Cl wX T1 rM qX jI gS cI cA
section
namespace Go.Proofs.YtajjljbmfdboaaaGreatDoor
open Go Go.Ab Go.Hm Go.At Go.Mc
def qO (m:Mon) (done:List Int) (k:Nat):Option Value:=if(k:Int)∈done then fF m.runs k else none
theorem Zi {m:Mon}:qO m []=fun _=>none:=by funext k;unfold qO;simp
theorem br {m:Mon} {done:List Int} {k:Nat} {r:Mc.iG} (hr:m.runs k=some r):Jt (qO m done) k (some (.agg ⟨r.enc⟩))=qO m (done++[(k:Int)]):=by
 funext j
 unfold Jt qO
 by_cases e:j=k
 ·subst e;simp[fF,hr]
 ·rw[if_neg e]
  have:((j:Int)∈done++[(k:Int)])↔(j:Int)∈done:=by simp;omega
  simp only[this]
theorem dn {m:Mon} (h16:∀g r,m.runs g=some r→g<16):qO m (m.running.map fun k:Nat=>(k:Int))=fF m.runs:=by
 funext k
 unfold qO
 split
 ·rfl
 ·rename_i hn
  cases hr:m.runs k with
  |none=>unfold fF;rw[hr];rfl
  |some r=>exact absurd (List.mem_map.2 ⟨k,oO.2 ⟨h16 k r hr,by rw[hr];rfl⟩,rfl⟩) hn
set_option maxRecDepth 100000
variable {G:Bg} {h:AH} {L L' M:List HP} {Q:Value→AH→Prop} {C:bQ} {m:Mon} {p:Nat}
abbrev z7 (C:bQ) (m:Mon) (p p2 p3 q t b:Nat) (e:Nat→Value) (d l:Nat) (done:List Int):HP:=
 sp [nE Pr 77 (nB 122) 39 e d l (.ready,none),sp [aE p2 0 [pt p 0 0],aE p3 0 [pt q 0 0]],fC C p m,sp [aE q 0 [pt t 0 0,I C.aF,fH b],fT t m.fV,gT b (qO m done)]]
theorem Jr (hC:C.Ok) (hm:gD C m) (hs:Hs G h L) [mm:Has (fC C p) L m L'] (hk:∀q h',Hs G h' (fC C q m::fC C p m::L')→Q (pt q 0 0) h'):Cl Pr K 77 [pt p 0 0] h Q:=by
 have hlen:=hm.len
 have hgr:=hC.2.1
 refine cW (dJ (mm.of hs) fun p2 h hs=>?_)
 refine aC (b:=p2) (o:=0) hs rfl (cS (bS ?_))
 obtain⟨t0,b0,hs⟩:=iV (hs.front (fC C p m))
 refine bW (aR hs fun rr h0 hs0=>aC (b:=p2) (o:=0) hs0 rfl (aB (aA (aC (b:=p) (o:=0) hs0 rfl (Uf (es:=m.fV) (by omega) hs0 fun t h hs=>?_)))))
 refine aC (b:=p2) (o:=0) hs rfl (aB (aA (aC (b:=p) (o:=0) hs rfl (aC (b:=p2) (o:=0) hs rfl (aB (aA (aC (b:=p) (o:=0) hs rfl (aAs (b:=b0) (f:=fF m.runs) hs fun _=>aC7 (Wj (r:=rr) (i:=14) (n:=19) (D:=[]) hs rfl rfl fun b h hs=>?_)))))))))
 refine aK (c:=[pt t 0 0,I C.aF,fH b]) rfl (xP (r:=rr) (i:=16) (n:=19) (D:=[14]) hs rfl rfl fun q h hs=>jN (r:=rr) (i:=17) (n:=19) (D:=[16,14]) hs rfl rfl fun p3 h hs=>bA (b:=p3) hs rfl rfl rfl rfl fun h hs=>?_)
 refine cJ (aC (b:=p2) (o:=0) hs0 rfl cZ) (cJ (aB cZ) (cJ (aA cZ) (cJ (aC (b:=p) (o:=0) hs0 rfl gW) (cJ (aC (b:=p2) (o:=0) hs0 rfl cZ) (cJ (aB cZ) (cJ (aA cZ) (cJ (aC (b:=p) (o:=0) hs0 rfl (by simp[mB,fH])) ?_)))))))
 have hs:=dL (hs.cU (aE p 0 [pt t0 0 0,I C.aF,fH b0]) (fT t0 m.fV) (gT b0 (fF m.runs)))
 refine aC (b:=p2) (o:=0) hs rfl (Av (C:=C) (m:=m) hs fun qv qa qc h hs=>mW hs fun d h hs=>?_)
 intro e he
 refine qP hs fun l h hs=>vZ rfl ?_
 rw[←Zi (m:=m)] at hs
 have hs:Hs G h (H.Kh 3 qv qa qc (m.running.map fun k:Nat=>(k:Int))::z7 C m p p2 p3 q t b e d l []::mk d ()::L'):=by
  have hs:=(hs.cU (aE q 0 [pt t 0 0,I C.aF,fH b]) (fT t m.fV) (gT b (qO m []))).T4
  have hs:=(hs.cN (aE p2 0 [pt p 0 0]) (aE p3 0 [pt q 0 0])).Ex
  have hs:=(hs.kV (nE Pr 77 (nB 122) 39 e d l (.ready,none)) (sp [aE p2 0 [pt p 0 0],aE p3 0 [pt q 0 0]]) (fC C p m) (sp [aE q 0 [pt t 0 0,I C.aF,fH b],fT t m.fV,gT b (qO m [])])).J8
  exact hs.to
 refine(H.C7 (e:=3) (p:=qv) (a:=qa) (c:=qc) (xs:=m.running.map fun k:Nat=>(k:Int)) (by have:=List.length_filter_le (fun g=>(m.runs g).isSome) (List.range 16);simp[Mon.running] at this ⊢;omega)).fold
  (X:=fun done=>z7 C m p p2 p3 q t b e d l done) (Z:=fun _ _=>zD False) hs ?_ ?_ ?_
 ·intro done x h M hp hs
  have hs:=hs.wy
  obtain⟨k,hkr,rfl⟩:∃k∈m.running,(k:Int)=x:=by
   obtain⟨ys,hys⟩:=hp
   have:x∈m.running.map fun k:Nat=>(k:Int):=by rw[←hys];simp
   obtain⟨k,h1,h2⟩:=List.mem_map.1 this
   exact⟨k,h1,h2⟩
  obtain⟨r,hr⟩:=Option.isSome_iff_exists.1 (oO.1 hkr).2
  have hrr:m.run (k:Int)=some r:=by unfold Mon.run;rw[if_pos (by omega)];exact hr
  have hs:=(hs.front (sp [aE p2 0 [pt p 0 0],aE p3 0 [pt q 0 0]])).D2
  have hs:=(hs.front (sp [aE q 0 [pt t 0 0,I C.aF,fH b],fT t m.fV,gT b (qO m done)])).Bk
  refine rW (xD hs) he (kA hs fun h hs=>aR hs fun rr h hs=>?_)
  obtain⟨t2,b2,hs⟩:=iV (hs.front (fC C p m))
  refine aC (b:=p3) (o:=0) hs rfl (aB (aA (aC (b:=q) (o:=0) hs rfl (aC (b:=p2) (o:=0) hs rfl (aB (aA (aC (b:=p) (o:=0) hs rfl (Mw (b:=b2) (m:=m) hs ?_))))))))
  rw[hrr]
  refine O5 (b:=b) (f:=qO m done) hs (oO.1 hkr).1 fun h hs=>jS hs fun h hs=> .inl ⟨rfl,?_⟩
  rw[show(some r).getD zG=r from rfl,br hr] at hs
  have hs:=dL (hs.cU (aE p 0 [pt t2 0 0,I C.aF,fH b2]) (fT t2 m.fV) (gT b2 (fF m.runs)))
  have hs:=(hs.cU (aE q 0 [pt t 0 0,I C.aF,fH b]) (fT t m.fV) (gT b (qO m (done++[(k:Int)])))).T4
  have hs:=(hs.cN (aE p2 0 [pt p 0 0]) (aE p3 0 [pt q 0 0])).Ex
  have hs:=(hs.kV (nE Pr 77 (nB 122) 39 e d l (.ready,none)) (sp [aE p2 0 [pt p 0 0],aE p3 0 [pt q 0 0]]) (fC C p m) (sp [aE q 0 [pt t 0 0,I C.aF,fH b],fT t m.fV,gT b (qO m (done++[(k:Int)]))])).J8
  exact hs.to
 ·intro v h hs
  have hs:=(hs.front (z7 C m p p2 p3 q t b e d l (m.running.map fun k:Nat=>(k:Int)))).wy
  have hs:=(hs.front (sp [aE p2 0 [pt p 0 0],aE p3 0 [pt q 0 0]])).D2
  have hs:=(hs.front (sp [aE q 0 [pt t 0 0,I C.aF,fH b],fT t m.fV,gT b (qO m (m.running.map fun k:Nat=>(k:Int)))])).Bk
  rw[dn (hm.aCy hC)] at hs
  have hs:=dL (hs.cU (aE q 0 [pt t 0 0,I C.aF,fH b]) (fT t m.fV) (gT b (fF m.runs)))
  exact qQ hs fun h hs=>qL (aC (b:=p3) (o:=0) hs rfl (mH hs fun h hs=>jU (hk _ _ hs.to)))
 ·intro done x v h hp hs
  obtain⟨hd,_⟩:=(hs.front (zD False)).r7
  exact hd.elim
end Go.Proofs.YtajjljbmfdboaaaGreatDoor
end
end
section
namespace Go.Proofs.YtajjljbmfdboaaaGreatDoor
open Go Go.Ab Go.Hm Go.At Go.Mc
theorem py {t:TypeId} {v:Value} {k:Value→Prop} (hk:k (.bool false)):aZ (P6 true .eql (.iface t v) .nilIface) k:=⟨_,rfl,hk⟩
set_option maxRecDepth 100000
attribute [local irreducible] aZ Br oM rI sQ Bi lE tH kU Qb gI lF pD pW oR kH zH tJ W2 Ut Qa Nn T3 P6 Km Lx T2 jR mX rV iO copyV iB vL Va Uo Fm kB Lu Sv Vn nF rH wK zB Cl wX T1 rM qX jI gS cI cA
variable {G:Bg} {h:AH} {L L' M:List HP} {Q:Value→AH→Prop} {C:bQ} {m:Mon} {p:Nat}
theorem M6 {ov:Value} {os:List Int} {k:Value→Prop} (ho:A.F0 G ov os) (hk:k (I os.length)):aZ (kH ov) k:=A.rY ho (by rw[A.qS];exact hk)
theorem kT {α:Type} {l:List α} {i:Nat} (h:i<l.length):∃x,l[i]?=some x∧l.drop i=x::l.drop (i+1):=⟨l[i],by simp,List.drop_eq_getElem_cons h⟩
def rB (os:List Int):List jP:=os.map fun o=>⟨o,false⟩
theorem P2 {ov:Value} {os:List Int} (ho:A.F0 G ov os) (hn:os.length≤16) (hv:∀o∈os,0≤o∧o≤4) {t0:Value} (k:∀h',Hs G h' L→Dd 87 4 [] Q [t0,ov] h'):
  ∀(f i:Nat) (h:AH),i+f=os.length→Hs G h L→Dd 87 2 [] Q [t0,ov,ov,(I os.length),(I i)] h:=by
 intro f
 induction f with
 |zero=>intro i h hi hs;exact bW (aU (aI (by omega) (k _ hs)))
 |succ f ih=>
  intro i h hi hs
  obtain⟨x,hx,hd⟩:=kT (l:=os) (i:=i) (by omega)
  have hxv:=hv x (List.mem_of_getElem? hx)
  have hs:=A.oF ho hs
  exact bW (aU (bM (by omega) (bW (tV hs (x:=[I x]) (by simp[A.Af,hx]) rfl (aU (aI (by omega) (kG (aI (by omega) (bW (bI (by omega) (ih (i+1) h (by omega) hs.tail)))))))))))
theorem Zf {os:List Int} {i:Nat} {x:Int} (hx:os[i]?=some x):(rB (os.take i)++List.replicate (os.length - i) jK).set i ⟨x,false⟩=rB (os.take (i+1))++List.replicate (os.length - (i+1)) jK:=by
 obtain⟨hi,hxi⟩:=List.getElem?_eq_some_iff.1 hx
 have hl:(rB (os.take i)).length=i:=by simp[rB];omega
 rw[List.set_append_right _ _ (by omega),hl,Nat.sub_self,show os.length - i=(os.length - (i+1))+1 by omega,List.replicate_succ,List.set_cons_zero,List.take_add_one,hx]
 simp[rB]
theorem Z6 {ov:Value} {os:List Int} (hC:C.Ok) (ho:A.F0 G ov os) (hl:os.length=C.bP.toNat) (hv:∀o∈os,0≤o∧o≤4) (hs:Hs G h L) (hk:∀q h',Hs G h' (fC C q ⟨rB os,fun _=>none⟩::L)→Q (.tuple ⟨[pt q 0 0,I 0]⟩) h'):Cl Pr K 87 [I C.aF,ov] h Q:=by
 have hc:=hC.1
 have hgr:=hC.2.1
 refine cW (aU (aI (by omega) (kG (aI (by omega) (M6 ho (aU (aI (by omega) (M6 ho (kG (aI (by omega) (bW (M6 ho ?_))))))))))))
 refine P2 ho (by omega) hv ?_ os.length 0 h (by omega) hs
 intro h hs
 refine bW (M6 ho (Z9 (by omega) hs fun t h hs=>aG rfl (aG rfl (aX (aI (by omega) (bW (ph hs fun b h hs=>?_)))))))
 refine aK (c:=[pt t 0 0,I C.aF,fH b]) rfl (dJ hs fun q h hs=>M6 ho ?_)
 have loop:∀(f i:Nat) (h:AH),i+f=os.length→Hs G h (fT t (rB (os.take i)++List.replicate (os.length - i) jK)::aE q 0 [pt t 0 0,I C.aF,fH b]::gT b (fun _=>none)::L)→Dd 87 7 [] Q [(pt q 0 0),ov,(I os.length),(I i)] h:=by
  intro f
  induction f with
  |zero=>
   intro i h hi hs
   refine bW (aU (aI (by omega) (hk _ _ ?_)))
   have hii:i=os.length:=by omega
   subst hii
   rw[List.take_length,Nat.sub_self,List.replicate_zero,List.append_nil] at hs
   have hs:Hs G h (aE q 0 [pt t 0 0,I C.aF,fH b]::fT t (rB os)::gT b (fun _=>none)::L):=hs.to
   exact dL (m:=⟨rB os,fun _=>none⟩) hs
  |succ f ih=>
   intro i h hi hs
   obtain⟨x,hx,hd⟩:=kT (l:=os) (i:=i) (by omega)
   have hxv:=hv x (List.mem_of_getElem? hx)
   have hs:=A.oF ho hs
   refine bW (aU (bM (by omega) (bW (tV hs (x:=[I x]) (by simp[A.Af,hx]) rfl (aB (aA (aC (b:=q) (o:=0) hs rfl (aK (c:=(⟨x,false⟩:jP).enc) rfl (Dx (x:=⟨x,false⟩) hs.tail fun h hs=>?_)))))))))
   have hlen:(rB (os.take i)++List.replicate (os.length - i) jK).length=os.length:=by simp[rB];omega
   have hcond:(0≤(i:Int)∧(i:Int)<(rB (os.take i)++List.replicate (os.length - i) jK).length)∧(0≤(⟨x,false⟩:jP).owner∧(⟨x,false⟩:jP).owner≤4):=⟨by omega,hxv⟩
   rw[if_pos hcond] at hs
   rw[if_pos hcond]
   rw[Int.toNat_natCast,Zf hx] at hs
   exact aX (aI (by omega) (bW (bI (by omega) (ih (i+1) h (by omega) hs))))
 have e:(os.length:Int).toNat=os.length:=Int.toNat_natCast _
 refine loop os.length 0 h (by omega) ?_
 rw[e] at hs
 have e2:List.replicate os.length jK=rB (os.take 0)++List.replicate (os.length - 0) jK:=rfl
 rw[e2] at hs
 exact hs.to
theorem Et (hC:C.Ok) {x:Int} (hl:Ob G 0 fB) (hs:Hs G h L)
  (hk:∀h',Hs G h' L→Q (if C.has x then .tuple ⟨[I (x/2),I 0]⟩ else .tuple ⟨[I 0,I 10]⟩) h'):Cl Pr K 191 [.agg ⟨C.enc⟩,I x] h Q:=by
 have hb:=(bQ.fJ hC).2.2
 have hcc:C.has x↔0≤x∧x<C.lines:=Iff.rfl
 refine cW (dJ hs fun p h hs=>aU (aS (fun h1=>?_) (fun h1=>?_)))
 ·rw[if_neg (by rw[hcc];omega)] at hk
  exact hk _ hs.tail
 refine aN hs (by decide) (l:=C.enc) rfl rfl (oX hC hl hs fun h hs=>dM (aS (fun h2=>?_) (fun h2=>?_)))
 ·rw[if_neg (by rw[hcc];omega)] at hk
  exact hk _ hs.tail
 ·rw[if_pos (by rw[hcc];omega)] at hk
  obtain⟨n,rfl⟩:=Int.eq_ofNat_of_zero_le (show 0≤x by omega)
  exact By (by omega) (by omega) (by omega) (hk _ hs.tail)
def Hd (C:bQ) (m:Mon) (world line:Int):Int×Bool:=if C.has line then((m.zA (line/2)).owner,!(m.zA (line/2)).locked&&Fl world (m.zA (line/2)).owner) else(0,false)
theorem Tf {w x:Int} (hC:C.Ok) (hm:gD C m) (hl:Ob G 0 fB) (hs:Hs G h L) [mm:Has (fC C p) L m L'] (hk:∀h',Hs G h' (fC C p m::L')→Q (.tuple ⟨[I (Hd C m w x).1,.bool (Hd C m w x).2]⟩) h'):Cl Pr K 334 [.agg ⟨C.enc++[pt p 0 0]⟩,I w,I x] h Q:=by
 have hlen:=hm.len
 have hgr:=hC.2.1
 have hb:=bQ.fJ hC
 unfold Hd at hk
 refine cW (dJ (cs:=C.enc++[pt p 0 0]) (mm.of hs) fun q h hs=>aA (hZ (b:=q) (o:=0) hs (by decide) (l:=C.enc) rfl rfl (Et hC hl hs fun h hs=>?_)))
 by_cases hx:C.has x
 rotate_left
 ·rw[if_neg hx]
  rw[if_neg hx] at hk
  exact aG rfl (aG rfl (aX (bM (by omega) (hk _ hs.to))))
 rw[if_pos hx]
 rw[if_pos hx] at hk
 have hx':=hx
 unfold bQ.has at hx'
 have hh:m.has (x/2):=by unfold Mon.has;omega
 obtain⟨t,b,hs⟩:=iV (hs.front (fC C p m))
 refine aG rfl (aG rfl (aX (aI (by omega) (bW (aA (aC (b:=q) (o:=0) hs rfl (aB (aA (aC (b:=p) (o:=0) hs rfl (yP (m:=m) hs fun h hs=>?_))))))))))
 rw[if_pos hh]
 refine aG rfl (aG rfl (bK hs fun u h hs=>bA (b:=u) hs rfl rfl rfl rfl fun h hs=>aX (aI (by omega) (aR hs fun rr h hs=>aA (aC (b:=u) (o:=0) hs rfl (aA (aC (b:=u) (o:=0) hs rfl (bU (dI ?_)))))))))
 have hs2:=dL (hs.cU (aE p 0 [pt t 0 0,I C.aF,fH b]) (fT t m.fV) (gT b (fF m.runs)))
 cases hk2:(m.zA (x/2)).locked with
 |true=>
  rw[hk2] at hk
  exact dY (cJ (aA cZ) (cJ (aC (b:=u) (o:=0) hs rfl gW) (hk _ hs2.to)))
 |false=>
  rw[hk2] at hk
  exact bS (aA (aC (b:=u) (o:=0) hs rfl (Pa (cJ (aA cZ) (cJ (aC (b:=u) (o:=0) hs rfl gW) (hk _ hs2.to))))))
theorem Ot (hC:C.Ok) (hm:gD C m) (hl:Ob G 0 fB):H.Wq G (fC C p m) (.iface 311 (.agg ⟨C.enc++[pt p 0 0]⟩)) (Hd C m) where
 ne:=fun k hk=>py hk
 may:=by
  intro h L M w l Q hp hs hk
  refine aAu (g:=334) rfl (Tf (L':=M) (m:=m) hC hm hl (hs.perm hp) fun h hs=>⟨rfl,hk _ (hs.perm hp.symm)⟩)
end Go.Proofs.YtajjljbmfdboaaaGreatDoor
end
section
namespace Go.Proofs.YtajjljbmfdboaaaGreatDoor.C
open Go Go.Ab Go.Hm Go.Ct
theorem mF {g n sz:Nat} {i:Int} {k:Value→Prop} (h0:0≤i) (hi:i<n) (hk:k (pt g (i.toNat*sz) 0)):aZ (mX n sz (.pointer (some ⟨g,0,none⟩)) (I i)) k:=
 fA (b:=g) (o:=0) (j:=0) h0 hi (by simpa [pt] using hk)
theorem nW {s:Int} (h:0≤s∧s<5):gZ[s.toNat*8+1]?=some (.bool (Rs s))∧gZ[s.toNat*8+2]?=some (.bool (tX s))∧gZ[s.toNat*8+3]?=some (.bool (kS s))∧gZ[s.toNat*8+4]?=some (.bool (Ef s))
  ∧gZ[s.toNat*8+5]?=some (I (if tX s then 4 else 0))∧gZ[s.toNat*8+6]?=some (I (Pb s))∧gZ[s.toNat*8+7]?=some (I 0):=by
 have:s=0∨s=1∨s=2∨s=3∨s=4:=by omega
 rcases this with rfl|rfl|rfl|rfl|rfl<;>exact⟨rfl,rfl,rfl,rfl,rfl,rfl,rfl⟩
set_option maxRecDepth 100000
attribute [local irreducible] aZ Br oM rI sQ Bi lE tH kU Qb gI lF pD pW oR kH zH tJ W2 Ut Qa Nn T3 P6 Km Lx T2 jR mX rV iO copyV iB vL Va Uo Fm kB Lu Sv Vn nF rH wK zB Cl wX T1 rM qX jI gS cI cA
variable {G:Bg} {h:AH} {L L':List HP}
theorem xV {x:Int} {Q:Value→AH→Prop} (hk:Q (.bool (sc x)) h):Cl Pr K 295 [I x] h Q:=by
 refine cW ?_
 refine dM (aS (fun h1=>aU ?_) (fun h1=>?_))
 ·show Q _ _;rw[show decide (x<5)=sc x from decide_eq_decide.2 (by omega)];exact hk
 ·show Q _ _;rw[show false=sc x from(decide_eq_false (by omega)).symm];exact hk
theorem Oe {x:Int} (h:sc x=true):0≤x∧x<5:=of_decide_eq_true h
theorem Pz {x:Int} (h:sc x=false):Rs x=false∧tX x=false∧kS x=false∧Ef x=false:=by
 have:=of_decide_eq_false h
 refine⟨decide_eq_false ?_,decide_eq_false ?_,decide_eq_false ?_,decide_eq_false ?_⟩<;>omega
theorem wu {x:Int} {Q:Value→AH→Prop} (ho:Ob G 3 gZ) (hs:Hs G h L) (hk:Q (.bool (Rs x)) h):Cl Pr K 291 [I x] h Q:=by
 refine cW (xV (dA (fun h1=>?_) (fun h1=>?_)))
 ·have h2:=Oe h1
  exact mF h2.1 h2.2 (aA (xB hs ho (o:=x.toNat*8) (j:=1) (nW h2).1 hk))
 ·rw[(Pz h1).1] at hk;exact hk
theorem Ti {x:Int} {Q:Value→AH→Prop} (ho:Ob G 3 gZ) (hs:Hs G h L) (hk:Q (.bool (tX x)) h):Cl Pr K 290 [I x] h Q:=by
 refine cW (xV (dA (fun h1=>?_) (fun h1=>?_)))
 ·have h2:=Oe h1
  exact mF h2.1 h2.2 (aA (xB hs ho (o:=x.toNat*8) (j:=2) (nW h2).2.1 hk))
 ·rw[(Pz h1).2.1] at hk;exact hk
theorem Jj {x:Int} {Q:Value→AH→Prop} (ho:Ob G 3 gZ) (hs:Hs G h L) (hk:Q (.bool (kS x)) h):Cl Pr K 294 [I x] h Q:=by
 refine cW (xV (dA (fun h1=>?_) (fun h1=>?_)))
 ·have h2:=Oe h1
  exact mF h2.1 h2.2 (aA (xB hs ho (o:=x.toNat*8) (j:=3) (nW h2).2.2.1 hk))
 ·rw[(Pz h1).2.2.1] at hk;exact hk
theorem Qd {x:Int} {Q:Value→AH→Prop} (ho:Ob G 3 gZ) (hs:Hs G h L) (hk:Q (.bool (Ef x)) h):Cl Pr K 314 [I x] h Q:=by
 refine cW (xV (dA (fun h1=>?_) (fun h1=>?_)))
 ·have h2:=Oe h1
  exact mF h2.1 h2.2 (aA (xB hs ho (o:=x.toNat*8) (j:=4) (nW h2).2.2.2.1 hk))
 ·rw[(Pz h1).2.2.2] at hk;exact hk
theorem Ro {x:Int} {Q:Value→AH→Prop} (ho:Ob G 3 gZ) (hs:Hs G h L) (hx:tX x=true) (hk:Q (.tuple ⟨[I 4,I 0]⟩) h):Cl Pr K 250 [I x] h Q:=by
 have h2:0≤x∧x<5:=by have:=of_decide_eq_true hx;omega
 refine cW (xV ?_)
 rw[show sc x=true from decide_eq_true h2]
 refine bU (bS (bW (Ti ho hs ?_)))
 rw[hx]
 have:=(nW h2).2.2.2.2.1
 rw[if_pos hx] at this
 exact bU (bS (mF h2.1 h2.2 (aA (xB hs ho (o:=x.toNat*8) (j:=5) this hk))))
theorem Mi {x to:Int} {Q:Value→AH→Prop} (ho:Ob G 3 gZ) (hs:Hs G h L) (h2:0≤x∧x<5) (ht:to=0∨to=1) (hk:Q (.tuple ⟨[I (lB x to),.bool (Ef x),.bool (kS x),I 0]⟩) h):Cl Pr K 312 [I x,I to] h Q:=by
 refine cW (xV ?_)
 rw[show sc x=true from decide_eq_true h2]
 refine bU (bS ?_)
 have c6:=(nW h2).2.2.2.2.2.1
 have c7:=(nW h2).2.2.2.2.2.2
 rcases ht with rfl|rfl
 ·exact aX (bM (by omega) (aX (aI (by omega) (bW (mF h2.1 h2.2 (aA (xB hs ho (o:=x.toNat*8) (j:=7) c7 (bC (aI (by omega) (Qd ho hs (Jj ho hs hk)))))))))))
 ·exact aX (aI (by omega) (mF h2.1 h2.2 (aA (xB hs ho (o:=x.toNat*8) (j:=7) c7 (bC (bM rfl (bW (mF h2.1 h2.2 (aA (xB hs ho (o:=x.toNat*8) (j:=6) c6 (Qd ho hs (Jj ho hs hk))))))))))))
theorem K3 {x:pV} {w:Bool} {Q:Value→AH→Prop} (ho:Ob G 3 gZ) (hs:Hs G h L) (hk:∀h',Hs G h' L→Q (.bool (pX x.st w)) h'):Cl Pr K 246 [.agg ⟨x.enc⟩,.bool w] h Q:=by
 refine cW (dJ hs ?_)
 intro p h hs
 cases w
 ·exact bS (aA (aC hs rfl (wu ho hs (hk _ hs.tail))))
 ·exact dY (aA (aC hs rfl (Ti ho hs (hk _ hs.tail))))
end Go.Proofs.YtajjljbmfdboaaaGreatDoor.C
end
section
open Go Go.Ab
attribute [local irreducible] aZ Br oM rI sQ Bi lE tH kU Qb gI lF pD pW oR kH zH tJ W2 Ut Qa Nn T3 P6 Km Lx T2 jR mX rV iO copyV iB vL Va Uo Fm kB Lu Sv Vn nF rH wK zB Cl wX T1 rM qX jI gS cI cA
section
namespace Go.Proofs.YtajjljbmfdboaaaGreatDoor.C
open Go Go.Ab Go.Hm Go.Ct
set_option maxRecDepth 100000
variable {G:Bg} {h:AH} {L L' M:List HP}
def dN (b o:Nat) (l:List Th):HP:=sS fun x:Option Addr×Nat=>sp [aE b o [.slice x.1 l.length x.2],dB 5 251 x.1 x.2 (l.length,eJ l)]
theorem qY {b o:Nat} {l:List Th} (hs:Hs G h (dN b o l::L)):∃a c,Hs G h (aE b o [.slice a l.length c]::dB 5 251 a c (l.length,eJ l)::L):=by
 obtain⟨⟨a,c⟩,hs⟩:=hs.Be
 exact⟨a,c,hs.unpack⟩
theorem iI (b o:Nat) (l:List Th) {a:Option Addr} {c n:Nat} {cs:List Value} {L1 L2:List HP} (hs:Hs G h L) [m:Has (aE b o) L [.slice a n c] L1] [m2:Has (dB 5 251 a c) L1 (n,cs) L2] (hn:n=l.length) (hcs:cs=eJ l):Hs G h (dN b o l::L2):=by
 subst hn;subst hcs
 exact Hs.wM (A:=fun x:Option Addr×Nat=>sp [aE b o [.slice x.1 l.length x.2],dB 5 251 x.1 x.2 (l.length,eJ l)]) (a,c) (Hs.pack (A:=[_,_]) (hs.perm (m.perm.trans (m2.perm.cons _))))
structure TgA where
 b:Nat
 o:Nat
 cap:Nat
def pP (ways n b o cap:Nat):List Value:=[I ways,.slice (some ⟨b,o,none⟩) n cap]
def gC (G:Bg) (t ways n:Nat) (S:Nat→List Th):HP:=sS fun x:TgA=>
 sp [aE t 0 (pP ways n x.b x.o x.cap),hole G 1 248 (some ⟨x.b,x.o,none⟩) x.cap n x.b x.o,dC n fun i=>dN x.b (x.o+i*1) (S i)]
theorem Sf {t ways n:Nat} {S:Nat→List Th} (hs:Hs G h (gC G t ways n S::L)):∃b o cap,Hs G h (aE t 0 (pP ways n b o cap)::hole G 1 248 (some ⟨b,o,none⟩) cap n b o::dC n (fun i=>dN b (o+i*1) (S i))::L):=by
 obtain⟨⟨b,o,cap⟩,hs⟩:=hs.Be
 exact⟨b,o,cap,hs.unpack⟩
theorem yO {t ways n:Nat} {S:Nat→List Th} {b o cap:Nat} (hs:Hs G h (aE t 0 (pP ways n b o cap)::hole G 1 248 (some ⟨b,o,none⟩) cap n b o::dC n (fun i=>dN b (o+i*1) (S i))::L)):Hs G h (gC G t ways n S::L):=
 Hs.wM (A:=fun x:TgA=>sp [aE t 0 (pP ways n x.b x.o x.cap),hole G 1 248 (some ⟨x.b,x.o,none⟩) x.cap n x.b x.o,dC n fun i=>dN x.b (x.o+i*1) (S i)]) ⟨b,o,cap⟩ (Hs.pack (A:=[_,_,_]) hs)
def Rn (b o n:Nat) (S:Nat→List Th) (l:Nat):HP:=sp (((List.range n).erase l).map fun i=>dN b (o+i*1) (S i))
theorem Gj {t ways n l:Nat} {S:Nat→List Th} (hl:l<n) (hs:Hs G h (gC G t ways n S::L)):∃b o cap,Hs G h (dN b (o+l*1) (S l)::aE t 0 (pP ways n b o cap)::hole G 1 248 (some ⟨b,o,none⟩) cap n b o::Rn b o n S l::L):=by
 obtain⟨b,o,cap,hs⟩:=Sf hs
 have hs:=(hs.front (dC n fun i=>dN b (o+i*1) (S i))).kR l hl
 exact⟨b,o,cap,(show Hs G h (dN b (o+l*1) (S l)::Rn b o n S l::_) from hs).to⟩
theorem qR {L1 L2 L3 L4:List HP} (t ways n:Nat) (S:Nat→List Th) (l:Nat) (x:List Th) (b o cap:Nat) (hl:l<n) (hs:Hs G h L) [k1:dX (dN b (o+l*1) x) L L1] [k2:dX (aE t 0 (pP ways n b o cap)) L1 L2]
  [k4:dX (hole G 1 248 (some ⟨b,o,none⟩) cap n b o) L2 L3] [k5:dX (Rn b o n S l) L3 L4]:Hs G h (gC G t ways n (bT S l x)::L4):=by
 have hs:Hs G h (dN b (o+l*1) x::Rn b o n S l::aE t 0 (pP ways n b o cap)::hole G 1 248 (some ⟨b,o,none⟩) cap n b o::L4):=
  (hs.perm (k1.perm.trans ((k2.perm.trans ((k4.perm.trans (k5.perm.cons _)).cons _)).cons _))).to
 have e0:(fun i=>dN b (o+i*1) (bT S l x i)) l=dN b (o+l*1) x:=by simp only[gL]
 rw[←e0] at hs
 unfold Rn at hs
 have hs:=hs.nG (n:=n) (i:=l) (fun i=>dN b (o+i*1) (S i)) (fun i=>dN b (o+i*1) (bT S l x i)) hl (fun j _ hne=>by simp only[yF hne])
 exact yO (b:=b) (o:=o) (cap:=cap) hs.to
theorem sf {α:Type} {f:Nat→α} {i:Nat}:bT f i (f i)=f:=by
 funext j;unfold bT;split
 ·rename_i e;rw[e]
 ·rfl
theorem db {no:Int} {b o a2 o2 cp p:Nat} {l:List Th} {Q:Value→AH→Prop} (hb:l.length≤4):∀(r i:Nat) (h:AH) (L:List HP),i+r=l.length→ix no (l.take i)=none→Hs G h (aE p 0 [I no]::dB 5 251 (some ⟨a2,o2,none⟩) cp (l.length,eJ l)::L)→
  (∀h',Hs G h' (aE p 0 [I no]::dB 5 251 (some ⟨a2,o2,none⟩) cp (l.length,eJ l)::L)→Q (.tuple ⟨[pt b o 0,I (gn no l),I 0]⟩) h')→
  Dd 289 3 [] Q [(pt b o 0),(I (-1)),(.func (.func 311) #[] #[pt p 0 0]),(.slice (some ⟨a2,o2,none⟩) l.length cp),(I l.length),(I i)] h:=by
 have key:∀(i:Nat) (l:List Th) (t:Th),ix no (l.take i)=none→l[i]?=some t→ix no (l.take (i+1))=if t.1=no then some i else none:=by
  intro i
  induction i with
  |zero=>
   intro l t _ ht
   cases l with
   |nil=>cases ht
   |cons a l=>cases ht;simp[ix]
  |succ i ih=>
   intro l t h1 ht
   cases l with
   |nil=>cases ht
   |cons a l=>
    simp only[List.take_succ_cons,ix] at h1 ⊢
    by_cases hc:a.1=no
    ·rw[if_pos hc] at h1;cases h1
    ·rw[if_neg hc] at h1 ⊢
     rw[ih l t (by simpa using h1) (by simpa using ht)]
     split<;>rfl
 have pref:∀(l:List Th) (i j:Nat),ix no (l.take i)=some j→ix no l=some j:=by
  intro l
  induction l with
  |nil=>intro i j h;simp[ix] at h
  |cons a l ih=>
   intro i j h
   cases i with
   |zero=>simp[ix] at h
   |succ i=>
    simp only[List.take_succ_cons,ix] at h ⊢
    by_cases hc:a.1=no
    ·rw[if_pos hc] at h ⊢;exact h
    ·rw[if_neg hc] at h ⊢
     cases hx:ix no (l.take i) with
     |none=>rw[hx] at h;cases h
     |some k=>rw[hx] at h;rw[ih i k hx];exact h
 intro r
 induction r with
 |zero=>
  intro i h L hi hn hs hk
  rw[List.take_of_length_le (by omega)] at hn
  simp only[gn,hn] at hk
  exact bW (aU (aI (by omega) (hk _ hs)))
 |succ r ih=>
  intro i h L hi hn hs hk
  have hil:i<l.length:=by omega
  obtain⟨t,ht⟩:∃t,l[i]?=some t:=⟨_,List.getElem?_eq_getElem hil⟩
  refine bW (aU (bM (by omega) (bW (dU hil ?_))))
  obtain⟨b1,o1,ha,hs1⟩:=(hs.front (dB 5 251 (some ⟨a2,o2,none⟩) cp (l.length,eJ l))).fS (by omega)
  cases ha
  refine I0 hs1 (by decide) (l:=j5 t) (by rw[Nat.add_zero];exact Qv ht) rfl ?_
  have hs1:=hs1.lY (yW l) (uJ l)
  refine bK hs1 ?_
  intro q h hs
  refine bA hs rfl rfl rfl rfl ?_
  intro h hs
  refine aN hs (by decide) (l:=j5 t) rfl rfl ?_
  refine oN (by kernel_rfl) (cW ?_)
  refine dJ hs ?_
  intro q2 h hs
  have hk1:=key i l t hn ht
  refine aA (aC hs rfl (aC (b:=p) (o:=0) hs rfl (bC (aS (fun hc=>?_) (fun hc=>?_)))))
  ·rw[if_pos hc] at hk1
   have:=pref _ _ _ hk1
   simp only[gn,this] at hk
   exact bW (hk _ hs.to)
  ·rw[if_neg hc] at hk1
   exact bW (bI (by omega) (ih (i+1) h L (by omega) hk1 hs.to hk))
theorem Q1 {t:Nat} {no:Int} {Q:Value→AH→Prop} (h0:no<0) (hs:Hs G h L) (hk:∀h',Hs G h' L→Q (.tuple ⟨[.pointer none,I 0,I 10]⟩) h'):Cl Pr K 289 [pt t 0 0,I no] h Q:=by
 refine cW (dJ hs ?_)
 intro p h hs
 exact cS (bS (bW (aC hs rfl (aU (bM h0 (hk _ hs.tail))))))
theorem iZ {n:Nat} {no:Int} (hn:0<n):setOf n no<n:=by
 unfold setOf
 have:=Int.emod_lt_of_pos no (show(0:Int)<n by omega)
 have:=Int.emod_nonneg no (show(n:Int)≠0 by omega)
 omega
theorem rZ {t ways n b o cap:Nat} {no:Int} {l:List Th} {Q:Value→AH→Prop} (hn:0<n) (h0:0≤no) (hb:l.length≤4) (hs:Hs G h L) [m:Has (aE t 0) L (pP ways n b o cap) L'] [m2:Has (dN b (o+setOf n no*1)) L' l M]
  (hk:∀h',Hs G h' (aE t 0 (pP ways n b o cap)::dN b (o+setOf n no*1) l::M)→Q (.tuple ⟨[pt b (o+setOf n no*1) 0,I (gn no l),I 0]⟩) h'):Cl Pr K 289 [pt t 0 0,I no] h Q:=by
 have hs:Hs G h (aE t 0 (pP ways n b o cap)::dN b (o+setOf n no*1) l::M):=hs.perm (m.perm.trans (m2.perm.cons _))
 obtain⟨a,c,hs⟩:=qY hs.kI
 refine cW (dJ hs ?_)
 intro p h hs
 refine cS (bS (bW (aC hs rfl (aU (aI (by omega) (bW ?_))))))
 refine aR hs ?_
 intro r h hs
 have ht:Hs G h (aE t 0 (pP ways n b o cap)::_):=hs.front (aE t 0 (pP ways n b o cap))
 have e1:no % (n:Int)=((setOf n no:Nat):Int):=by
  unfold setOf
  have:=Int.emod_nonneg no (show(n:Int)≠0 by omega)
  omega
 refine aB (aA (aC (b:=t) (o:=0) ht rfl (aC (b:=p) (o:=0) ht rfl (aB (aA (aC (b:=t) (o:=0) ht rfl (bZ (Ra h0 (by omega) ?_))))))))
 rw[e1]
 refine dU (iZ hn) (aB ?_)
 have hset:Hs G h (aE b (o+setOf n no*1) [.slice a l.length c]::_):=ht.front (aE b (o+setOf n no*1) [.slice a l.length c])
 refine aC hset rfl (bZ ?_)
 by_cases hl0:l.length=0
 ·have hln:l=[]:=List.eq_nil_of_length_eq_zero hl0
  subst hln
  refine bW (aU (aI (by simp) (hk _ ?_)))
  exact(iI b (o+setOf n no*1) [] (a:=a) (c:=c) hset rfl rfl).to
 ·have hslc:=hset.front (dB 5 251 a c (l.length,eJ l))
  obtain⟨b2,o2,ha,_⟩:=hslc.mP (by omega)
  subst ha
  refine db (no:=no) (p:=p) hb l.length 0 h (aE t 0 (pP ways n b o cap)::aE b (o+setOf n no*1) [.slice (some ⟨b2,o2,none⟩) l.length c]::M) (by omega) rfl hset.to ?_
  intro h' hs
  refine hk _ ?_
  exact(iI b (o+setOf n no*1) l (a:=some ⟨b2,o2,none⟩) (c:=c) hs rfl rfl).to
end Go.Proofs.YtajjljbmfdboaaaGreatDoor.C
end
section
namespace Go.Proofs.YtajjljbmfdboaaaGreatDoor.C
open Go Go.Ab Go.Hm Go.Ct
theorem xF {n:Nat} {S:Nat→List Th} {no:Int}:bT S (setOf n no) (S (setOf n no))=S:=sf
theorem yu {l:List Th} (h:0<l.length):(eJ l)[0*5+(0+0)]?=some (I (l[0]).1):=by
 cases l with
 |nil=>simp at h
 |cons y l=>rfl
theorem Y8 {no:Int} {l:List Th} {i:Nat} {x:pV} (h:l[i]?=some (no,x)):((eJ l).drop (i*5+1)).take 4=x.enc:=by
 have:=Qv h
 rw[←List.drop_drop]
 have h2:(((eJ l).drop (i*5)).take 5).drop 1=x.enc:=by rw[this];rfl
 rw[List.drop_take] at h2
 exact h2
set_option maxRecDepth 100000
variable {G:Bg} {h:AH} {L L' M:List HP}
theorem yY {t ways n:Nat} {no:Int} {S:Nat→List Th} {Q:Value→AH→Prop} (hn:0<n) (hb:∀i,(S i).length≤4) (hs:Hs G h L) [m:Has (gC G t ways n) L S L']
  (hk:∀h',Hs G h' (gC G t ways n S::L')→Q (.tuple ⟨[.agg ⟨(bV n S no).1.enc⟩,I (bV n S no).2]⟩) h'):Cl Pr K 245 [pt t 0 0,I no] h Q:=by
 have hs:=m.of hs
 refine cW (bK hs ?_)
 intro p h hs
 unfold bV at hk
 by_cases h0:no<0
 ·rw[if_pos h0] at hk
  refine Q1 h0 hs fun h hs=>aG rfl (aG rfl (aG rfl (aX (bM (by omega) (aN hs (by decide) (l:=pV.zero.enc) rfl rfl ?_)))))
  refine bA hs rfl rfl rfl rfl ?_
  intro h hs
  exact aN hs (by decide) (l:=pV.zero.enc) rfl rfl (hk _ hs.tail)
 ·rw[if_neg h0] at hk
  obtain⟨b,o,cap,hs⟩:=Gj (iZ (no:=no) hn) (hs.front (gC G t ways n S))
  refine rZ (t:=t) (ways:=ways) (n:=n) (b:=b) (o:=o) (cap:=cap) (l:=S (setOf n no)) hn (by omega) (hb _) hs fun h hs=>aG rfl (aG rfl (aG rfl (aX (aI (by omega) ?_))))
  refine bW ?_
  cases hx:ix no (S (setOf n no)) with
  |none=>
   rw[(yN hx).1] at hk
   simp only[gn,hx]
   refine aU (bM (by omega) (aN (b:=p) (o:=0) hs (by decide) (l:=pV.zero.enc) rfl rfl ?_))
   refine bA (b:=p) (o:=0) hs rfl rfl rfl rfl ?_
   intro h hs
   refine aN hs (by decide) (l:=pV.zero.enc) rfl rfl (hk _ ?_)
   have:=qR t ways n S (setOf n no) (S (setOf n no)) b o cap (iZ hn) hs
   rw[xF] at this
   exact this.to
  |some i=>
   obtain⟨x,h1,h2,h3,h4⟩:=vD hx
   rw[h2] at hk
   simp only[gn,hx]
   obtain⟨a,c,hs⟩:=qY (hs.front (dN b (o+setOf n no*1) (S (setOf n no))))
   obtain⟨b2,o2,ha,hs1⟩:=(hs.front (dB 5 251 a c ((S (setOf n no)).length,eJ (S (setOf n no))))).fS (by omega)
   subst ha
   refine aU (aI (by omega) (aB (aC (b:=b) (o:=o+setOf n no*1) hs1 rfl (dU h4 (aA (I0 (b:=b2) (o:=o2) hs1 (by decide) (l:=x.enc) (by rw[Nat.zero_add];exact Y8 h1) rfl ?_))))))
   have hs1:=hs1.lY (yW _) (uJ _)
   refine bA (b:=p) (o:=0) hs1 rfl rfl rfl rfl ?_
   intro h hs
   refine aN hs (by decide) (l:=x.enc) rfl rfl (hk _ ?_)
   have hs:=iI b (o+setOf n no*1) (S (setOf n no)) (a:=some ⟨b2,o2,none⟩) (c:=c) hs rfl rfl
   have:=qR t ways n S (setOf n no) (S (setOf n no)) b o cap (iZ hn) hs
   rw[xF] at this
   exact this.to
theorem et {t ways n:Nat} {no:Int} {S:Nat→List Th} {Q:Value→AH→Prop} (hw:0<ways) (hn:0<n) (h0:0≤no) (hb:∀i,(S i).length≤4) (hs:Hs G h L) [m:Has (gC G t ways n) L S L']
  (hk:∀h',Hs G h' (gC G t ways n S::L')→Q (match Gp n ways S no with|some v=> .tuple ⟨[I v.1,.bool true,I 0]⟩|none=> .tuple ⟨[I 0,.bool false,I 0]⟩) h'):Cl Pr K 292 [pt t 0 0,I no] h Q:=by
 have hs:=m.of hs
 unfold Gp at hk
 refine cW ?_
 obtain⟨b,o,cap,hs⟩:=Gj (iZ (no:=no) hn) (hs.front (gC G t ways n S))
 refine rZ (t:=t) (ways:=ways) (n:=n) (b:=b) (o:=o) (cap:=cap) (l:=S (setOf n no)) hn (by omega) (hb _) hs fun h hs=>aG rfl (aG rfl (aG rfl (aX (aI (by omega) ?_))))
 refine bW (aR hs ?_)
 intro r h hs
 have back:∀{h:AH},Hs G h (W7 r (13,[])::aE t 0 (pP ways n b o cap)::dN b (o+setOf n no*1) (S (setOf n no))::hole G 1 248 (some ⟨b,o,none⟩) cap n b o::Rn b o n S (setOf n no)::L')→Hs G h (gC G t ways n S::L'):=fun hs=>by
  have:=qR t ways n S (setOf n no) (S (setOf n no)) b o cap (iZ hn) hs
  rw[xF] at this
  exact this.to
 cases hx:ix no (S (setOf n no)) with
 |some i=>
  obtain⟨x,h1,h2,h3,h4⟩:=vD hx
  rw[h2] at hk
  simp only[gn,hx]
  exact dM (bM (by omega) (hk _ (back hs)))
 |none=>
  rw[(yN hx).1] at hk
  simp only[gn,hx]
  obtain⟨a,c,hs⟩:=qY (hs.front (dN b (o+setOf n no*1) (S (setOf n no))))
  refine dM (aI (by omega) (aB (aC (b:=b) (o:=o+setOf n no*1) hs rfl (bZ (aB (aA (aC (b:=t) (o:=0) hs rfl (aU (aS (fun hc=>?_) (fun hc=>?_))))))))))
  ·simp only[if_pos (show(S (setOf n no)).length<ways by omega)] at hk
   refine hk _ (back ?_)
   exact(iI b (o+setOf n no*1) (S (setOf n no)) (a:=a) (c:=c) hs rfl rfl).to
  ·have hl:0<(S (setOf n no)).length:=by omega
   simp only[if_neg (show ¬(S (setOf n no)).length<ways by omega),List.getElem?_eq_getElem hl] at hk
   obtain⟨b2,o2,ha,hs1⟩:=(hs.front (dB 5 251 a c ((S (setOf n no)).length,eJ (S (setOf n no))))).fS hl
   subst ha
   refine aB (aC (b:=b) (o:=o+setOf n no*1) hs1 rfl (dU (i:=0) hl (aA (x6 (b:=b2) (o:=o2) (i:=0*5) (j:=0+0) hs1 (v:=I ((S (setOf n no))[0]).1) ?_ (hk _ ?_)))))
   ·exact yu hl
   ·have hs1:=hs1.lY (yW _) (uJ _)
    refine back ?_
    exact(iI b (o+setOf n no*1) (S (setOf n no)) (a:=some ⟨b2,o2,none⟩) (c:=c) hs1 rfl rfl).to
theorem Me {l:List Th} {i c:Nat} {a:Option Addr} {Q:Value→AH→Prop} (hi:i<l.length) (hb:l.length≤4) (hs:Hs G h L) [m:Has (dB 5 251 a c) L (l.length,eJ l) L']
  (hk:∀h',Hs G h' (dB 5 251 a c (l.length - 1,eJ (l.take i++l.drop (i+1)))::L')→Q (.slice a (l.length - 1) c) h'):Cl Pr K 296 [.slice a l.length c,I i,I ((i:Int)+1)] h Q:=by
 have hs:=m.of hs
 have hcap:l.length≤c:=by
  obtain⟨r,r2,⟨_,_,hr⟩,_⟩:=hs.fst
  rcases hr with⟨hz,_⟩|⟨hz,_⟩|⟨hcap,_⟩
  ·simp only at hz;omega
  ·simp only at hz;omega
  ·exact hcap
 obtain⟨b,o,ha,_⟩:=hs.mP (by omega)
 refine cW (bZ ?_)
 refine V5 (v:= .slice (some ⟨b,o+i*5,none⟩) (i+1 - i) (l.length - i)) ?_ ?_
 ·subst ha
  have b1:jM (some (I l.length)) c c=some l.length:=by simp only[jM];rw[if_pos (by omega)];simp
  have b2:jM (some (I ((i:Int)+1))) l.length l.length=some (i+1):=by simp only[jM];rw[if_pos (by omega)];congr 1
  have b3:jM (some (I i)) 0 (i+1)=some i:=by simp only[jM];rw[if_pos (by omega)];simp
  have hne:¬l.length=i:=by omega
  simp only[vL,b1,b2,b3,Option.isNone_some,Bool.false_and,Option.isSome_none,Bool.false_eq_true,if_false,hne,cQ]
  rw[if_pos (by omega)]
 refine bC (aI (by omega) (bW (bZ (aR hs ?_))))
 intro r h hs
 refine xn (i:=i) (by decide) rfl rfl hi hs ?_
 intro h hs
 refine hk _ ?_
 rw[eb,←Uc,←G0]
 exact hs.to
theorem Ss {no:Int} {l:List Th} {i:Nat} (h:ix no l=some i):rem no l=l.take i++l.drop (i+1):=by obtain⟨_,_,_,h3,_⟩:=vD h;exact h3
theorem R3 {no:Int} {l:List Th} {i:Nat} (h:ix no l=some i):l.length - 1=(rem no l).length:=by
 obtain⟨x,h1,h2,h3,h4⟩:=vD h
 rw[F6,h2];rfl
theorem Nb {t ways n:Nat} {no:Int} {S:Nat→List Th} {Q:Value→AH→Prop} (hn:0<n) (hb:∀i,(S i).length≤4) (hs:Hs G h L) [m:Has (gC G t ways n) L S L']
  (hk:∀h',Hs G h' (gC G t ways n (kQ n S no)::L')→Q (.tuple ⟨[.agg ⟨(bV n S no).1.enc⟩,I (bV n S no).2]⟩) h'):Cl Pr K 293 [pt t 0 0,I no] h Q:=by
 have hs:=m.of hs
 refine cW (bK hs ?_)
 intro p h hs
 unfold bV kQ at hk
 by_cases h0:no<0
 ·rw[if_pos h0,if_pos h0] at hk
  refine Q1 h0 hs fun h hs=>aG rfl (aG rfl (aG rfl (aX (bM (by omega) (aN hs (by decide) (l:=pV.zero.enc) rfl rfl ?_)))))
  refine bA hs rfl rfl rfl rfl ?_
  intro h hs
  exact aN hs (by decide) (l:=pV.zero.enc) rfl rfl (hk _ hs.tail)
 ·rw[if_neg h0,if_neg h0] at hk
  obtain⟨b,o,cap,hs⟩:=Gj (iZ (no:=no) hn) (hs.front (gC G t ways n S))
  refine rZ (t:=t) (ways:=ways) (n:=n) (b:=b) (o:=o) (cap:=cap) (l:=S (setOf n no)) hn (by omega) (hb _) hs fun h hs=>aG rfl (aG rfl (aG rfl (aX (aI (by omega) ?_))))
  refine bW ?_
  cases hx:ix no (S (setOf n no)) with
  |none=>
   rw[(yN hx).1,(yN hx).2,xF] at hk
   simp only[gn,hx]
   refine aU (bM (by omega) (aN (b:=p) (o:=0) hs (by decide) (l:=pV.zero.enc) rfl rfl ?_))
   refine bA (b:=p) (o:=0) hs rfl rfl rfl rfl ?_
   intro h hs
   refine aN hs (by decide) (l:=pV.zero.enc) rfl rfl (hk _ ?_)
   have:=qR t ways n S (setOf n no) (S (setOf n no)) b o cap (iZ hn) hs
   rw[xF] at this
   exact this.to
  |some i=>
   obtain⟨x,h1,h2,h3,h4⟩:=vD hx
   rw[h2] at hk
   simp only[gn,hx]
   obtain⟨a,c,hs⟩:=qY (hs.front (dN b (o+setOf n no*1) (S (setOf n no))))
   obtain⟨b2,o2,ha,hs1⟩:=(hs.front (dB 5 251 a c ((S (setOf n no)).length,eJ (S (setOf n no))))).fS (by omega)
   subst ha
   refine aU (aI (by omega) (bW (aB (aC (b:=b) (o:=o+setOf n no*1) hs1 rfl (dU h4 (aA (I0 (b:=b2) (o:=o2) hs1 (by decide) (l:=x.enc) (by rw[Nat.zero_add];exact Y8 h1) rfl ?_)))))))
   have hs1:=hs1.lY (yW _) (uJ _)
   refine bA (b:=p) (o:=0) hs1 rfl rfl rfl rfl ?_
   intro h hs
   refine aB (aC (b:=b) (o:=o+setOf n no*1) hs rfl (bI (by have:=hb (setOf n no);omega) (Me h4 (hb _) hs fun h hs=>?_)))
   refine aB (bE (b:=b) (o:=o+setOf n no*1) hs rfl rfl rfl rfl ?_)
   intro h hs
   refine aN (b:=p) (o:=0) hs (by decide) (l:=x.enc) rfl rfl ?_
   refine bA (b:=p) (o:=0) hs rfl rfl rfl rfl ?_
   intro h hs
   refine aN hs (by decide) (l:=x.enc) rfl rfl (hk _ ?_)
   rw[R3 hx,←Ss hx] at hs
   have hs:=iI b (o+setOf n no*1) (rem no (S (setOf n no))) (a:=some ⟨b2,o2,none⟩) (c:=c) hs rfl rfl
   exact(qR t ways n S (setOf n no) (rem no (S (setOf n no))) b o cap (iZ hn) hs).to
end Go.Proofs.YtajjljbmfdboaaaGreatDoor.C
end
section
namespace Go.Proofs.YtajjljbmfdboaaaGreatDoor.C
open Go Go.Ab Go.Hm Go.Ct
set_option maxRecDepth 100000
variable {G:Bg} {h:AH} {L L' M:List HP}
theorem aCu {_t _ways n b o _cap p c:Nat} {no:Int} {x:pV} {l:List Th} {a:Option Addr} {Q:Value→AH→Prop} (hb:l.length≤4)
  (hs:Hs G h (aE p 0 x.enc::aE b (o+setOf n no*1) [.slice a l.length c]::dB 5 251 a c (l.length,eJ l)::L))
  (hk:∀h',Hs G h' (dN b (o+setOf n no*1) (l++[(no,x)])::L)→Q (I 0) h'):Dd 251 4 [] Q [(I no),(pt p 0 0),(pt b (o+setOf n no*1) 0)] h:=by
 refine bW (aR hs ?_)
 intro r h hs
 refine aB (aC (b:=b) (o:=o+setOf n no*1) hs rfl (aN (b:=p) (o:=0) hs (by decide) (l:=x.enc) rfl rfl ?_))
 refine aK (c:=I no::x.enc) rfl (aK (c:=j5 (no,x)) rfl ?_)
 refine iJ (i:=7) (N:=11) (D:=[]) hs rfl rfl rfl rfl rfl ?_
 intro a2 h hs
 refine pL (a:=a) (c:=c) (n:=l.length) (cs:=eJ l) (a2:=some a2) (c2:=1) (m:=1) (ns:=j5 (no,x)) hs (by omega) ?_
 intro a' c' h hs
 refine aB (bE (b:=b) (o:=o+setOf n no*1) hs rfl rfl rfl rfl ?_)
 intro h hs
 refine cJ (show mB _ _=true by simp[mB,pt]) (hk _ ?_)
 have e1:eJ l++j5 (no,x)=eJ (l++[(no,x)]):=by simp[eJ]
 have hs:=iI b (o+setOf n no*1) (l++[(no,x)]) (a:=a') (c:=c') (n:=l.length+1) hs (by simp) e1
 exact hs.to
theorem wO {t ways n:Nat} {no:Int} {x:pV} {S:Nat→List Th} {Q:Value→AH→Prop} (h0:0≤no) (hn:0<n) (hb:∀i,(S i).length≤4) (hs:Hs G h L) [m:Has (gC G t ways n) L S L']
  (hk:∀h',Hs G h' (gC G t ways n (mC n ways S no x).1::L')→Q (I (mC n ways S no x).2) h'):Cl Pr K 251 [pt t 0 0,I no,.agg ⟨x.enc⟩] h Q:=by
 have hs:=m.of hs
 refine cW (dJ hs ?_)
 intro p h hs
 obtain⟨b,o,cap,hs⟩:=Gj (iZ (no:=no) hn) (hs.front (gC G t ways n S))
 refine rZ (t:=t) (ways:=ways) (n:=n) (b:=b) (o:=o) (cap:=cap) (l:=S (setOf n no)) hn (by omega) (hb _) hs fun h hs=>aG rfl (aG rfl (aG rfl (aX (aI (by omega) ?_))))
 obtain⟨a,c,hs⟩:=qY (hs.front (dN b (o+setOf n no*1) (S (setOf n no))))
 refine bW ?_
 have fin:∀{h:AH} {M:List HP},Hs G h (aE t 0 (pP ways n b o cap)::aE p 0 x.enc::aE b (o+setOf n no*1) [.slice a (rem no (S (setOf n no))).length c]::dB 5 251 a c ((rem no (S (setOf n no))).length,eJ (rem no (S (setOf n no))))::
   hole G 1 248 (some ⟨b,o,none⟩) cap n b o::Rn b o n S (setOf n no)::L')→
   (aZ (lF (pt b (o+setOf n no*1) 0)) fun v8=>aZ (oM h v8) fun v9=>aZ (kH v9) fun v10=>aZ (lF (pt t 0 0)) fun v11=>aZ (gI 0 v11) fun v12=>aZ (oM h v12) fun v13=>aZ (tJ .geq v10 v13) fun v14=>
    Br v14 (Q (I 11) h) (Dd 251 4 [] Q [(I no),(pt p 0 0),(pt b (o+setOf n no*1) 0)] h)):=by
  intro h M hs
  have hlen:(rem no (S (setOf n no))).length≤4:=by rw[F6];have:=hb (setOf n no);split<;>omega
  unfold mC at hk
  refine aB (aC (b:=b) (o:=o+setOf n no*1) hs rfl (bZ (aB (aA (aC (b:=t) (o:=0) hs rfl (dM (aS (fun hc=>?_) (fun hc=>?_))))))))
  ·rw[if_pos (by omega)] at hk
   refine hk _ ?_
   have hs:=iI b (o+setOf n no*1) (rem no (S (setOf n no))) (a:=a) (c:=c) hs rfl rfl
   exact(qR t ways n S (setOf n no) (rem no (S (setOf n no))) b o cap (iZ hn) hs).to
  ·rw[if_neg (by omega)] at hk
   refine aCu (_t:=t) (_ways:=ways) (_cap:=cap) (l:=rem no (S (setOf n no))) (a:=a) (c:=c) hlen (show Hs G h (aE p 0 x.enc::aE b (o+setOf n no*1) [.slice a (rem no (S (setOf n no))).length c]::dB 5 251 a c ((rem no (S (setOf n no))).length,eJ (rem no (S (setOf n no))))::aE t 0 (pP ways n b o cap)::
    hole G 1 248 (some ⟨b,o,none⟩) cap n b o::Rn b o n S (setOf n no)::L') from hs.to) ?_
   intro h hs
   exact hk _ (qR t ways n S (setOf n no) (rem no (S (setOf n no))++[(no,x)]) b o cap (iZ hn) hs).to
 cases hx:ix no (S (setOf n no)) with
 |none=>
  have e:=(yN hx).2
  simp only[gn,hx]
  refine dM (aI (by omega) (bW (aR hs ?_)))
  intro r h hs
  refine fin (M:=[]) ?_
  rw[e]
  exact hs.to
 |some i=>
  obtain⟨y,h1,h2,h3,h4⟩:=vD hx
  simp only[gn,hx]
  refine dM (bM (by omega) (bW ?_))
  refine aB (aC (b:=b) (o:=o+setOf n no*1) hs rfl (bI (by have:=hb (setOf n no);omega) (Me h4 (hb _) hs fun h hs=>?_)))
  refine aB (bE (b:=b) (o:=o+setOf n no*1) hs rfl rfl rfl rfl ?_)
  intro h hs
  refine aR hs ?_
  intro r h hs
  refine fin (M:=[]) ?_
  rw[R3 hx,←Ss hx] at hs
  have hs:=hs.sg (b:=b) (o:=o+setOf n no*1) (c:=[.slice a (rem no (S (setOf n no))).length c]) rfl
  exact hs.to
end Go.Proofs.YtajjljbmfdboaaaGreatDoor.C
end
section
namespace Go.Proofs.YtajjljbmfdboaaaGreatDoor.C
open Go Go.Ab Go.Hm Go.Ct
set_option maxRecDepth 100000
variable {G:Bg} {h:AH} {L L' M:List HP}
theorem Ds {t ways n:Nat} {no:Int} {S:Nat→List Th} {Q:Value→AH→Prop} (h0:0≤no) (hn:0<n) (hb:∀i,(S i).length≤4) (hs:Hs G h L) [m:Has (gC G t ways n) L S L']
  (hk:∀h',Hs G h' (gC G t ways n (D6 n ways S no)::L')→Q (.tuple ⟨[.agg ⟨(bV n S no).1.enc⟩,I (ku n ways S no)]⟩) h'):Cl Pr K 249 [pt t 0 0,I no] h Q:=by
 have hs:=m.of hs
 refine cW (bK hs ?_)
 intro p h hs
 refine Nb (t:=t) (ways:=ways) (n:=n) (S:=S) hn hb hs fun h hs=>aG rfl (aG rfl ?_)
 refine bA (b:=p) (o:=0) hs rfl rfl rfl rfl ?_
 intro h hs
 unfold D6 ku at hk
 refine aX (aS (fun hc=>?_) (fun hc=>?_))
 ·rw[if_neg hc,if_neg hc] at hk
  refine aN hs (by decide) (l:=(bV n S no).1.enc) rfl rfl ?_
  refine bA hs rfl rfl rfl rfl ?_
  intro h hs
  exact aN hs (by decide) (l:=(bV n S no).1.enc) rfl rfl (hk _ hs.tail)
 ·rw[if_pos (by omega),if_pos (by omega)] at hk
  refine aR hs ?_
  intro r h hs
  refine aN (b:=p) (o:=0) hs (by decide) (l:=(bV n S no).1.enc) rfl rfl (aN (b:=p) (o:=0) hs (by decide) (l:=(bV n S no).1.enc) rfl rfl ?_)
  refine wO (t:=t) (ways:=ways) (n:=n) (S:=kQ n S no) h0 hn (mi hb) hs fun h hs=>?_
  refine bA (b:=p) (o:=0) hs rfl rfl rfl rfl ?_
  intro h2 hs2
  refine cJ ?_ ?_
  ·refine aN (b:=p) (o:=0) hs (by decide) (l:=(bV n S no).1.enc) rfl rfl ?_
   exact oJ (by simp[pV.enc,mB])
  ·exact aN (b:=p) (o:=0) hs2 (by decide) (l:=(bV n S no).1.enc) rfl rfl (hk _ hs2.to)
end Go.Proofs.YtajjljbmfdboaaaGreatDoor.C
end
end
section
namespace Go.Proofs.YtajjljbmfdboaaaGreatDoor.C
open Go Go.Ab Go.Hm Go.Ct
theorem yr {a:Option Addr} {n c:Nat} {k:Value→Prop} (h1:a=none→k (.bool true)) (h2:a≠none→k (.bool false)):aZ (Nn .eql (.slice a n c) (.slice none 0 0)) k:=by
 cases a with
 |none=>exact⟨_,rfl,h1 rfl⟩
 |some a=>exact⟨_,rfl,h2 (by simp)⟩
set_option maxRecDepth 100000
attribute [local irreducible] aZ Br oM rI sQ Bi lE tH kU Qb gI lF pD pW oR kH zH tJ W2 Ut Qa Nn T3 P6 Km Lx T2 jR mX rV iO copyV iB vL Va Uo Fm kB Lu Sv Vn nF rH wK zB Cl wX T1 rM qX jI gS cI cA
variable {G:Bg} {h:AH} {L L' M:List HP}
theorem Yd {b o n:Nat} (hs:Hs G h (dC n (fun i=>aE b (o+i*1) [.slice none 0 0])::L)):Hs G h (dC n (fun i=>dN b (o+i*1) [])::L):=
 Hs.Hy (g:=fun i=>dN b (o+i*1) []) n _ (fun i _ _ _ hs=>(iI b (o+i*1) [] (a:=none) (c:=0) (n:=0) (cs:=[]) (fY (W:=5) (e:=251) hs).kI rfl rfl)) hs
theorem Ru {s w:Int} (hs1:1≤s∧s≤8) (hw:1≤w∧w≤4) {Q:Value→AH→Prop} (hs:Hs G h L) (hk:∀p h',Hs G h' (gC G p w.toNat s.toNat (fun _=>[])::L)→Q (.tuple ⟨[pt p 0 0,I 0]⟩) h'):Cl Pr K 143 [I s,I w] h Q:=by
 refine cW (aU (aI (by omega) (kG (aI (by omega) (aU (aI (by omega) (kG (aI (by omega) (O3 (by omega) (by omega) (by omega) ?_)))))))))
 dsimp only
 refine dP hs ?_ rfl ?_ ?_
 ·rw[fP,oP (W:=1) (fun _=>rfl)]
 ·rw[fP];exact nZ (fun _=>rfl) _
 intro a h hs
 obtain⟨b,o,ha,hs⟩:=Hs.Im (W:=1) rfl (by omega) hs
 cases ha
 have hw':w=(w.toNat:Int):=by omega
 refine aK (c:=pP w.toNat s.toNat b o s.toNat) (by unfold pP;rw[←hw'];rfl) (dJ hs ?_)
 intro p h hs
 refine hk p h ?_
 have hs:=Yd (hs.front (dC s.toNat fun i=>aE b (o+i*1) [.slice none 0 0]))
 exact yO (b:=b) (o:=o) (cap:=s.toNat) hs.to
theorem jz {l:List Th} {a:Option Addr} {c:Nat} {Q:Value→AH→Prop} (hb:l.length≤4) (hs:Hs G h L) [m:Has (dB 5 251 a c) L (l.length,eJ l) L']
  (hk:∀a' c' h',Hs G h' (dB 5 251 a' c' (l.length,eJ l)::dB 5 251 a c (l.length,eJ l)::L')→Q (.slice a' l.length c') h'):Cl Pr K 181 [.slice a l.length c] h Q:=by
 have hs:=m.of hs
 refine cW (yr (fun ha=>dY ?_) (fun _=>bS (aK (c:=[]) rfl ?_)))
 ·subst ha
  have hl:l=[]:=by
   cases l with
   |nil=>rfl
   |cons y l=>obtain⟨b,o,ha,_⟩:=hs.mP (by simp);cases ha
  subst hl
  exact hk none 0 h (fY hs)
 ·refine dP (W:=5) (n:=0) (c:=0) hs rfl rfl rfl ?_
  intro a2 h hs
  refine pL (a:=some a2) (c:=0) (n:=0) (cs:=[]) (a2:=a) (c2:=c) (m:=l.length) (ns:=eJ l) hs (by omega) ?_
  intro a' c' h hs
  have:=hk a' c' h (by simpa using hs)
  show Q _ _
  simpa using this
theorem bf {_p q b o cap b2 o2 cap2 n ways:Nat} {S:Nat→List Th} {Q:Value→AH→Prop} (hn:n≤8) (hb:∀i,(S i).length≤4)
  (hk:∀h',Hs G h' (dC n (fun i=>dN b (o+i*1) (S i))::dC n (fun i=>dN b2 (o2+i*1) (S i))::aE q 0 (pP ways n b2 o2 cap2)::L)→Q (pt q 0 0) h'):∀(r i:Nat) (h:AH) (_M:List HP),i+r=n→
  Hs G h (dC n (fun i=>dN b (o+i*1) (S i))::dC n (fun j=>dN b2 (o2+j*1) (if j<i then S j else []))::aE q 0 (pP ways n b2 o2 cap2)::L)→
  Dd 142 2 [] Q [(pt q 0 0),(.slice (some ⟨b,o,none⟩) n cap),(I n),(I i)] h:=by
 intro r
 induction r with
 |zero=>
  intro i h M hi hs
  have:i=n:=by omega
  subst this
  refine bW (aU (aI (by omega) (hk _ ?_)))
  exact(qB (f:=fun j=>dN b2 (o2+j*1) (if j<i then S j else [])) (g:=fun j=>dN b2 (o2+j*1) (S j)) (fun j hj=>by rw[if_pos hj]) hs.kI).kI
 |succ r ih=>
  intro i h M hi hs
  have hin:i<n:=by omega
  refine bW (aU (bM (by omega) (bW (dU hin ?_))))
  have hs1:=hs.kR i hin
  obtain⟨a,c,hs1⟩:=qY hs1
  refine aC (b:=b) (o:=o+i*1) hs1 rfl (aR hs1 ?_)
  intro rr h hs
  refine aB (aA (aC (b:=q) (o:=0) hs rfl (jz (l:=S i) (a:=a) (c:=c) (hb i) hs fun a' c' h hs=>?_)))
  have hs2:=(hs.front (dC n fun j=>dN b2 (o2+j*1) (if j<i then S j else []))).kR i hin
  simp only[Nat.lt_irrefl,if_false] at hs2
  obtain⟨a3,c3,hs2⟩:=qY hs2
  refine dU hin (bE (b:=b2) (o:=o2+i*1) hs2 rfl rfl rfl rfl ?_)
  intro h2 hs3
  refine cJ cZ (cJ (aB cZ) (cJ (aA cZ) (cJ (aC (b:=q) (o:=0) hs2 rfl Tj) (cJ gW (bI (by omega) ?_)))))
  refine ih (i+1) h2 [] (by omega) ?_
  have hs3:=iI b2 (o2+i*1) (S i) (a:=a') (c:=c') hs3 rfl rfl
  have e0:dN b2 (o2+i*1) (S i)=(fun j=>dN b2 (o2+j*1) (if j<i+1 then S j else [])) i:=by simp only[Nat.lt_succ_self,if_true]
  rw[e0] at hs3
  have hs3:=hs3.nG (n:=n) (i:=i) (fun j=>dN b2 (o2+j*1) (if j<i then S j else [])) (fun j=>dN b2 (o2+j*1) (if j<i+1 then S j else [])) hin (fun j _ hne=>by
   have:(j<i+1)=(j<i):=propext ⟨fun h=>by omega,fun h=>by omega⟩
   simp only[this])
  have hs3:=iI b (o+i*1) (S i) (a:=a) (c:=c) hs3 rfl rfl
  have hs3:=hs3.nG (n:=n) (i:=i) (fun j=>dN b (o+j*1) (S j)) (fun j=>dN b (o+j*1) (S j)) hin (fun _ _ _=>rfl)
  exact hs3.to
theorem w6 {t ways n:Nat} {S:Nat→List Th} {Q:Value→AH→Prop} (hn0:0<n) (hn:n≤8) (hb:∀i,(S i).length≤4) (hs:Hs G h L) [m:Has (gC G t ways n) L S L']
  (hk:∀q h',Hs G h' (gC G q ways n S::gC G t ways n S::L')→Q (pt q 0 0) h'):Cl Pr K 142 [pt t 0 0] h Q:=by
 obtain⟨b,o,cap,hs⟩:=Sf (m.of hs)
 refine cW (cS (bS (bW (aR hs ?_))))
 intro rr h hs
 refine aB (aA (aC (b:=t) (o:=0) hs rfl (aB (aA (aC (b:=t) (o:=0) hs rfl (bZ (xw (by omega) (by omega) ?_)))))))
 dsimp only
 refine iJ (i:=9) (N:=13) (D:=[]) hs rfl rfl ?_ rfl ?_ ?_
 ·rw[fP,oP (W:=1) (fun _=>rfl)]
 ·rw[fP];exact nZ (fun _=>rfl) _
 intro a h hs
 obtain⟨b2,o2,ha,hs⟩:=Hs.Im (W:=1) rfl hn0 hs
 cases ha
 refine aK (c:=pP ways n b2 o2 n) rfl ?_
 refine xP (i:=11) hs rfl rfl ?_
 intro q h hs
 refine aB (aA (aC (b:=t) (o:=0) hs rfl (bZ ?_)))
 have hs:=Yd (hs.front (dC n fun i=>aE b2 (o2+i*1) [.slice none 0 0]))
 refine bf (G:=G) (_p:=0) (ways:=ways) (n:=n) (b:=b) (o:=o) (cap:=cap) (b2:=b2) (o2:=o2) (cap2:=n) (S:=S) (L:=aE t 0 (pP ways n b o cap)::hole G 1 248 (some ⟨b,o,none⟩) cap n b o::hole G 1 248 (some ⟨b2,o2,none⟩) n n b2 o2::L') hn hb ?_ n 0 h [] (by omega) ?_
 ·intro h hs
  refine hk q h ?_
  have hs:Hs G h (aE q 0 (pP ways n b2 o2 n)::hole G 1 248 (some ⟨b2,o2,none⟩) n n b2 o2::dC n (fun i=>dN b2 (o2+i*1) (S i))::aE t 0 (pP ways n b o cap)::hole G 1 248 (some ⟨b,o,none⟩) cap n b o::dC n (fun i=>dN b (o+i*1) (S i))::L'):=hs.to
  have hs:=yO (b:=b2) (o:=o2) (cap:=n) hs
  have hs:Hs G h (aE t 0 (pP ways n b o cap)::hole G 1 248 (some ⟨b,o,none⟩) cap n b o::dC n (fun i=>dN b (o+i*1) (S i))::gC G q ways n S::L'):=hs.to
  exact(yO (b:=b) (o:=o) (cap:=cap) hs).kI
 ·simp only[Nat.not_lt_zero,if_false]
  exact hs.to
end Go.Proofs.YtajjljbmfdboaaaGreatDoor.C
end
section
open Go Go.Ab
attribute [local irreducible] aZ Br oM rI sQ Bi lE tH kU Qb gI lF pD pW oR kH zH tJ W2 Ut Qa Nn T3 P6 Km Lx T2 jR mX rV iO copyV iB vL Va Uo Fm kB Lu Sv Vn nF rH wK zB Cl wX T1 rM qX jI gS cI cA
section
namespace Go.Proofs.YtajjljbmfdboaaaGreatDoor.C
open Go Go.Ab Go.Hm Go.Ct
def iL (t:Nat) (C:bQ) (core:Int) (s:iT):List Value:=pt t 0 0::(C.enc++[I core,I s.al,.bool s.aw,.bool s.bg,I s.gl,I s.gc.st,I s.gc.w,I s.gc.d.1,I s.gc.d.2,.bool s.Fy])
set_option maxRecDepth 100000
variable {G:Bg} {h:AH} {L L' M:List HP}
def fU (G:Bg) (c:Nat) (C:bQ) (core:Int) (s:iT):HP:=sS fun t:Nat=>sp [aE c 0 (iL t C core s),gC G t C.ways.toNat C.bH.toNat s.S]
theorem jB {c:Nat} {C:bQ} {core:Int} {s:iT} (hs:Hs G h (fU G c C core s::L)):∃t,Hs G h (aE c 0 (iL t C core s)::gC G t C.ways.toNat C.bH.toNat s.S::L):=by
 obtain⟨t,hs⟩:=hs.Be
 exact⟨t,hs.unpack⟩
theorem cG (c t:Nat) (C:bQ) (core:Int) (s:iT) {cs:List Value} {S:Nat→List Th} {L1 L2:List HP} (hs:Hs G h L) [m:Has (aE c 0) L cs L1] [m2:Has (gC G t C.ways.toNat C.bH.toNat) L1 S L2] (h1:cs=iL t C core s) (h2:S=s.S):Hs G h (fU G c C core s::L2):=by
 subst h1;subst h2
 exact Hs.wM (A:=fun t:Nat=>sp [aE c 0 (iL t C core s),gC G t C.ways.toNat C.bH.toNat s.S]) t (Hs.pack (A:=[_,_]) (hs.perm (m.perm.trans (m2.perm.cons _))))
variable {C:bQ} {core:Int} {c:Nat} {s:iT}
theorem vC (hC:C.Ok) {l:Int} {Q:Value→AH→Prop} (hl:Ob G 0 fB) (hs:Hs G h L) [m:Has (fU G c C core) L s L'] (hk:∀h',Hs G h' (fU G c C core s::L')→Q (.bool (vV C l)) h'):Cl Pr K 255 [pt c 0 0,I l] h Q:=by
 obtain⟨t,hs⟩:=jB (m.of hs)
 refine cW (dM (aS (fun h1=>?_) (fun h1=>?_)))
 ·refine aB (aA (aN (b:=c) (o:=0) hs (by decide) (l:=C.enc) rfl rfl (oX hC hl hs fun h hs=>aU ?_)))
  show Q _ _
  rw[show decide (l<(C.lines:Int))=vV C l from decide_eq_decide.2 (by omega)]
  exact hk _ (cG c t C core s hs rfl rfl)
 ·rw[show vV C l=false from decide_eq_false (by omega)] at hk
  exact hk _ (cG c t C core s hs rfl rfl)
theorem N4 (hC:C.Ok) (hb:Bd s) {l ow:Int} {w:Bool} {Q:Value→AH→Prop} (ho:Ob G 3 gZ) (hs:Hs G h L) [m:Has (fU G c C core) L s L'] (hk:∀h',Hs G h' (fU G c C core s::L')→Q (.bool (mO C.bH.toNat s.S l ow w)) h'):Cl Pr K 195 [pt c 0 0,I l,I ow,.bool w] h Q:=by
 obtain⟨t,hs⟩:=jB (m.of hs)
 refine cW (cS (bS (bW (aB (aA (aC (b:=c) (o:=0) hs rfl ?_))))))
 refine yY (t:=t) (ways:=C.ways.toNat) (n:=C.bH.toNat) (S:=s.S) (kD hC).1 hb hs fun h hs=>aG rfl (aG rfl (bK hs ?_))
 intro p h hs
 refine bA hs rfl rfl rfl rfl ?_
 intro h hs
 unfold mO at hk
 refine bC (aS (fun h1=>aA (aC hs rfl (bC (aS (fun h2=>?_) (fun h2=>?_))))) (fun h1=>?_))
 ·rw[decide_eq_true h1,decide_eq_true h2,Bool.true_and,Bool.true_and] at hk
  exact aN hs (by decide) (l:=(bV C.bH.toNat s.S l).1.enc) rfl rfl (K3 ho hs fun h hs=>hk _ (cG c t C core s hs rfl rfl).to)
 ·rw[decide_eq_false h2,Bool.and_false,Bool.false_and] at hk
  exact hk _ (cG c t C core s hs rfl rfl).to
 ·rw[decide_eq_false h1,Bool.false_and,Bool.false_and] at hk
  exact hk _ (cG c t C core s hs rfl rfl).to
theorem B4 (hC:C.Ok) (hb:Bd s) {l at' ow:Int} {w:Bool} {Q:Value→AH→Prop} (hl:Ob G 0 fB) (ho:Ob G 3 gZ) (hs:Hs G h L) [m:Has (fU G c C core) L s L'] (hk:∀h',Hs G h' (fU G c C core s::L')→Q (I (pM C s.S l at' ow w)) h'):Cl Pr K 248 [pt c 0 0,I l,I at',I ow,.bool w] h Q:=by
 have hs:=m.of hs
 unfold pM at hk
 refine cW (cS (bS (bW (vC (c:=c) (core:=core) (s:=s) hC hl hs fun h hs=>bU (dI (dA (fun h1=>?_) (fun h1=>?_)))))))
 ·rw[h1] at hk
  simp only[Bool.true_eq_false,if_false] at hk
  refine aU (aS (fun h2=>?_) (fun h2=>dM (aS (fun h3=>?_) (fun h3=>bW (N4 (c:=c) (core:=core) (s:=s) hC hb ho hs fun h hs=>bU (dI (dA (fun h4=>?_) (fun h4=>?_))))))))
  ·rw[if_pos h2] at hk;exact hk _ hs
  ·rw[if_neg h2,if_pos h3] at hk;exact hk _ hs
  ·rw[if_neg h2,if_neg h3,if_neg (by rw[h4];simp)] at hk;exact hk _ hs
  ·rw[if_neg h2,if_neg h3,if_pos h4] at hk;exact hk _ hs
 ·rw[if_pos h1] at hk;exact hk _ hs
theorem Yw (hC:C.Ok) (hb:Bd s) {l at' ow:Int} {Q:Value→AH→Prop} (hl:Ob G 0 fB) (ho:Ob G 3 gZ) (hs:Hs G h L) [m:Has (fU G c C core) L s L'] (hk:∀v e h',Hs G h' (fU G c C core (rT C s l at' ow)::L')→Q (.tuple ⟨[I v,I e]⟩) h'):Cl Pr K 197 [pt c 0 0,I l,I at',I ow] h Q:=by
 have hs:=m.of hs
 unfold rT at hk
 refine cW (B4 (c:=c) (core:=core) (s:=s) hC hb hl ho hs fun h hs=>aX (aS (fun h1=>?_) (fun h1=>?_)))
 ·rw[if_neg h1] at hk;exact hk _ _ _ hs
 ·have h1:pM C s.S l at' ow false=0:=by omega
  rw[if_pos h1] at hk
  obtain⟨hl1,ha,hp,_⟩:=I7 h1
  obtain⟨t,hs⟩:=jB hs
  refine bW (aB (aA (aC (b:=c) (o:=0) hs rfl (Ds (t:=t) (ways:=C.ways.toNat) (n:=C.bH.toNat) (S:=s.S) hl1.1 (kD hC).1 hb hs fun h hs=>aG rfl (aG rfl (bK hs ?_))))))
  intro p h hs
  refine bA hs rfl rfl rfl rfl ?_
  intro h hs
  have hs2:=fun {h:AH} hs=>(cG c t C core {s with S:=D6 C.bH.toNat C.ways.toNat s.S l} (G:=G) (h:=h) (L:=aE p 0 (bV C.bH.toNat s.S l).1.enc::gC G t C.ways.toNat C.bH.toNat (D6 C.bH.toNat C.ways.toNat s.S l)::aE c 0 (iL t C core s)::L') hs rfl rfl)
  refine aX (aS (fun h2=>hk _ _ _ (hs2 hs).to) (fun h2=>aA ?_))
  rcases ha with rfl|rfl
  ·exact fA (by decide) (by decide) (aC (b:=p) (o:=0) hs rfl (hk _ _ _ (hs2 hs).to))
  ·exact fA (by decide) (by decide) (aC (b:=p) (o:=0) hs rfl (hk _ _ _ (hs2 hs).to))
end Go.Proofs.YtajjljbmfdboaaaGreatDoor.C
end
section
namespace Go.Proofs.YtajjljbmfdboaaaGreatDoor.C
open Go Go.Ab Go.Hm Go.Ct
set_option maxRecDepth 100000
variable {G:Bg} {h:AH} {L L' M:List HP} {C:bQ} {core:Int} {c:Nat} {s:iT}
theorem S2 {s':iT} {c t:Nat} {cs:List Value} {S:Nat→List Th} {L1 L2:List HP} (h1:cs=iL t C core s') (h2:S=s'.S) (hs:Hs G h L) [m:Has (aE c 0) L cs L1] [m2:Has (gC G t C.ways.toNat C.bH.toNat) L1 S L2]:Hs G h (fU G c C core s'::L2):=cG c t C core s' hs h1 h2
theorem Ci (hC:C.Ok) (hb:Bd s) {l at' ow v:Int} {Q:Value→AH→Prop} (hl:Ob G 0 fB) (ho:Ob G 3 gZ) (hs:Hs G h L) [m:Has (fU G c C core) L s L'] (hk:∀e h',Hs G h' (fU G c C core (lK C s l at' ow v)::L')→Q (I e) h'):Cl Pr K 198 [pt c 0 0,I l,I at',I ow,I v] h Q:=by
 have hs:=m.of hs
 unfold lK at hk
 refine cW (B4 (c:=c) (core:=core) (s:=s) hC hb hl ho hs fun h hs=>aX (aS (fun h1=>?_) (fun h1=>?_)))
 ·rw[if_neg h1] at hk;exact hk _ _ hs
 ·have h1:pM C s.S l at' ow true=0:=by omega
  rw[if_pos h1] at hk
  obtain⟨hl1,ha,hp,hst⟩:=I7 h1
  have hst:tX (bV C.bH.toNat s.S l).1.st=true:=hst
  obtain⟨t,hs⟩:=jB hs
  refine bW (aB (aA (aC (b:=c) (o:=0) hs rfl ?_)))
  refine yY (t:=t) (ways:=C.ways.toNat) (n:=C.bH.toNat) (S:=s.S) (kD hC).1 hb hs fun h hs=>aG rfl (aG rfl (bK hs ?_))
  intro p h hs
  refine bA hs rfl rfl rfl rfl ?_
  intro h hs
  refine aX (aI (by omega) (bW (aA (aC (b:=p) (o:=0) hs rfl (Ro ho hs hst (aG rfl (aG rfl (aA (bE (b:=p) (o:=0) hs rfl rfl rfl rfl ?_)))))))))
  intro h hs
  refine aX (aI (by omega) (bW (aA ?_)))
  have key:∀{c0:Bool} {h:AH},Hs G h (aE p 0 (nS C.bH.toNat s.S l at' v).enc::gC G t C.ways.toNat C.bH.toNat s.S::aE c 0 (iL t C core s)::L')→c0=true→
    Qb c0 h 8 fun _ h3=>aZ (lF (pt c 0 0)) fun v5=>aZ (gI 0 v5) fun v6=>aZ (oM h3 v6) fun v7=>aZ (rI h3 4 (pt p 0 0)) fun v8=>Cl Pr K 251 [v7,I l,v8] h3 fun v9 h9=>Q v9 h9:=by
   intro c0 h hs hc0
   refine aR (hc:=hc0) hs ?_
   intro r h hs
   refine aB (aA (aC (b:=c) (o:=0) hs rfl (aN (b:=p) (o:=0) hs (by decide) (l:=(nS C.bH.toNat s.S l at' v).enc) rfl rfl ?_)))
   refine wO (t:=t) (ways:=C.ways.toNat) (n:=C.bH.toNat) (S:=s.S) hl1.1 (kD hC).1 hb hs fun h hs=>?_
   exact hk _ _ (cG c t C core {s with S:=(mC C.bH.toNat C.ways.toNat s.S l (nS C.bH.toNat s.S l at' v)).1} (cs:=iL t C core s) hs rfl rfl).to
  rcases ha with rfl|rfl
  ·refine fA (by decide) (by decide) (bE (b:=p) (o:=0) hs rfl rfl rfl rfl ?_)
   intro h hs
   exact key ((hs.sg (b:=p) (o:=0) (c:=(nS C.bH.toNat s.S l 0 v).enc) rfl).to) (by kernel_rfl)
  ·refine fA (by decide) (by decide) (bE (b:=p) (o:=0) hs rfl rfl rfl rfl ?_)
   intro h hs
   exact key ((hs.sg (b:=p) (o:=0) (c:=(nS C.bH.toNat s.S l 1 v).enc) rfl).to) (by kernel_rfl)
theorem W9 {t:Nat} {l w:Int} {wr:Bool} {ns:List aQ} {a:Option Addr} {cp:Nat} {Q:Value→AH→Prop} (hn:ns.length≤1) (hs:Hs G h (aE c 0 (iL t C core (kO core s l w wr ns).1)::gC G t C.ways.toNat C.bH.toNat s.S::dB 9 175 a cp (ns.length,eF ns)::L))
  (hk:∀a' c' h',Hs G h' (dB 9 175 a' c' ((kO core s l w wr ns).2.1.length,eF (kO core s l w wr ns).2.1)::fU G c C core (kO core s l w wr ns).1::L)→Q (.tuple ⟨[.slice a' (kO core s l w wr ns).2.1.length c',I 0]⟩) h'):
  Br (.bool wr) (Dd 247 10 [] Q [(pt c 0 0),(I l),(I w),(.slice a ns.length cp)] h) (aZ (lF (pt c 0 0)) fun v35=>aZ (gI 8 v35) fun v36=>aZ (oM h v36) fun v37=>
   aZ (lD [(I 0),(I 0),(I 0),(I 0),(I 0),(I 0),(I 0),(.bool false),(I 0)] [(0,1,(I 1)),(1,1,v37),(2,1,(I l)),(3,1,(I w))]) fun c38=>
   aZ (lD [(I 0),(I 0),(I 0),(I 0),(I 0),(I 0),(I 0),(.bool false),(I 0)] [(0,9,(.agg ⟨c38⟩))]) fun l40=>
   tH h 9 175 l40 1 1 fun s41 h39=>aZ (iO 9 72 175 h39 (.slice a ns.length cp) s41) fun r42=>(fun v43 h44=>Q (.tuple ⟨[v43,(I 0)]⟩) h44) r42.1 r42.2):=by
 have fin:∀{h:AH} {a':Option Addr} {c':Nat} (x:aQ),x=⟨if wr then 2 else 1,core,l,w,0,0,0,false,0⟩→Hs G h (dB 9 175 a' c' (ns.length+1,eF ns++x.enc)::aE c 0 (iL t C core (kO core s l w wr ns).1)::gC G t C.ways.toNat C.bH.toNat s.S::L)→Q (.tuple ⟨[.slice a' (ns.length+1) c',I 0]⟩) h:=by
  intro h a' c' x hx hs
  have e1:(kO core s l w wr ns).2.1=ns++[x]:=by rw[hx];rfl
  have:=hk a' c' h
  rw[e1] at this
  simp only[List.length_append,List.length_cons,List.length_nil,eF,List.flatMap_append,List.flatMap_cons,List.flatMap_nil,List.append_nil,Nat.zero_add] at this
  refine this ?_
  have hs:=S2 (s':=(kO core s l w wr ns).1) (t:=t) (c:=c) rfl rfl hs
  exact hs.kI
 cases wr
 ·refine bS (aB (aA (aC (b:=c) (o:=0) hs rfl (aK (c:=(⟨1,core,l,w,0,0,0,false,0⟩:aQ).enc) rfl (aK (c:=(⟨1,core,l,w,0,0,0,false,0⟩:aQ).enc) rfl (dP (W:=9) (n:=1) (c:=1) hs rfl rfl rfl ?_))))))
  intro a2 h hs
  refine pL (a:=a) (c:=cp) (n:=ns.length) (cs:=eF ns) (a2:=some a2) (c2:=1) (m:=1) (ns:=(⟨1,core,l,w,0,0,0,false,0⟩:aQ).enc) hs (by omega) ?_
  intro a' c' h hs
  exact fin ⟨1,core,l,w,0,0,0,false,0⟩ rfl hs.to
 ·refine dY (bW (aB (aA (aC (b:=c) (o:=0) hs rfl (aK (c:=(⟨2,core,l,w,0,0,0,false,0⟩:aQ).enc) rfl (aK (c:=(⟨2,core,l,w,0,0,0,false,0⟩:aQ).enc) rfl (dP (W:=9) (n:=1) (c:=1) hs rfl rfl rfl ?_)))))))
  intro a2 h hs
  refine pL (a:=a) (c:=cp) (n:=ns.length) (cs:=eF ns) (a2:=some a2) (c2:=1) (m:=1) (ns:=(⟨2,core,l,w,0,0,0,false,0⟩:aQ).enc) hs (by omega) ?_
  intro a' c' h hs
  exact fin ⟨2,core,l,w,0,0,0,false,0⟩ rfl hs.to
theorem Zs {t:Nat} {l w:Int} {wr:Bool} {ns:List aQ} {a:Option Addr} {cp:Nat} {Q:Value→AH→Prop} (hn:ns.length≤1) (hs:Hs G h (aE c 0 (iL t C core s)::gC G t C.ways.toNat C.bH.toNat s.S::dB 9 175 a cp (ns.length,eF ns)::L))
  (hk:∀a' c' h',Hs G h' (dB 9 175 a' c' ((kO core s l w wr ns).2.1.length,eF (kO core s l w wr ns).2.1)::fU G c C core (kO core s l w wr ns).1::L)→Q (.tuple ⟨[.slice a' (kO core s l w wr ns).2.1.length c',I 0]⟩) h'):
  Dd 247 8 [] Q [(pt c 0 0),(I l),(I w),(.bool wr),(.slice a ns.length cp)] h:=by
 refine bW (aK (c:=[I l,.bool wr,.bool true]) rfl (aB (aA (bE (b:=c) (o:=0) hs rfl rfl rfl rfl ?_))))
 intro h hs
 have hs:=hs.sg (b:=c) (o:=0) (c:=iL t C core (kO core s l w wr ns).1) rfl
 exact W9 (t:=t) hn hs hk
theorem u9 (_hb:Bd s) {t p:Nat} {l w no:Int} {x:pV} {wr:Bool} {S:Nat→List Th} {Q:Value→AH→Prop} (ho:Ob G 3 gZ) (hs:Hs G h (aE p 0 x.enc::aE c 0 (iL t C core s)::gC G t C.ways.toNat C.bH.toNat S::L))
  (hk:∀a' c' h' r,r=kO core {s with S:=S,gl:=no,gc:=x,Fy:=true} l w wr [⟨3,core,no,x.w,0,x.d.1,x.d.2,kS x.st,0⟩]→Hs G h' (dB 9 175 a' c' (r.2.1.length,eF r.2.1)::fU G c C core r.1::L)→Q (.tuple ⟨[.slice a' r.2.1.length c',I 0]⟩) h'):
  Dd 247 11 [] Q [(pt c 0 0),(I l),(I w),(.bool wr),(.slice none 0 0),(I no),(pt p 0 0)] h:=by
 refine bW (aN hs (by decide) (l:=x.enc) rfl rfl (aK (c:=[I no,I x.st,I x.w,I x.d.1,I x.d.2,.bool true]) rfl (aB (aA (bE (b:=c) (o:=0) hs rfl rfl rfl rfl ?_)))))
 intro h hs
 have hs:=hs.sg (b:=c) (o:=0) (c:=iL t C core {s with S:=S,gl:=no,gc:=x,Fy:=true}) rfl
 refine aR hs ?_
 intro rr h hs
 refine aB (aA (aC (b:=c) (o:=0) hs rfl (aA (aC (b:=p) (o:=0) hs rfl (aA (aN (b:=p) (o:=0) hs (by decide) (l:=[I x.d.1,I x.d.2]) rfl rfl (aA (aC (b:=p) (o:=0) hs rfl (Jj ho hs ?_)))))))))
 refine aK (c:=(⟨3,core,no,x.w,0,x.d.1,x.d.2,kS x.st,0⟩:aQ).enc) rfl (aK (c:=(⟨3,core,no,x.w,0,x.d.1,x.d.2,kS x.st,0⟩:aQ).enc) rfl ?_)
 refine iJ (i:=14) (N:=17) (D:=[]) hs rfl rfl rfl rfl rfl ?_
 intro a2 h hs
 have hs:=fY (W:=9) (e:=175) hs
 refine pL (a:=none) (c:=0) (n:=0) (cs:=[]) (a2:=some a2) (c2:=1) (m:=1) (ns:=(⟨3,core,no,x.w,0,x.d.1,x.d.2,kS x.st,0⟩:aQ).enc) hs (by omega) ?_
 intro a' c' h2 hs2
 have hsp:Hs G h (aE p 0 x.enc::_):=hs.front (aE p 0 x.enc)
 have hsc:Hs G h (aE c 0 (iL t C core {s with S:=S,gl:=no,gc:=x,Fy:=true})::_):=hs.front (aE c 0 (iL t C core {s with S:=S,gl:=no,gc:=x,Fy:=true}))
 refine cJ Tj (cJ cZ (cJ (aB cZ) (cJ (aA cZ) (cJ (aC (b:=c) (o:=0) hsc rfl gW) (cJ gW (cJ (aA cZ) (cJ (aC (b:=p) (o:=0) hsp rfl gW) (cJ (aA cZ) (cJ (aN (b:=p) (o:=0) hsp (by decide) (l:=[I x.d.1,I x.d.2]) rfl rfl (oJ (by simp[mB]))) ?_)))))))))
 refine aK (c:=[I l,.bool wr,.bool true]) rfl (aB (aA (bE (b:=c) (o:=0) hs2 rfl rfl rfl rfl ?_)))
 intro h hs
 have hs:=hs.sg (b:=c) (o:=0) (c:=iL t C core (kO core {s with S:=S,gl:=no,gc:=x,Fy:=true} l w wr [⟨3,core,no,x.w,0,x.d.1,x.d.2,kS x.st,0⟩]).1) rfl
 refine W9 (t:=t) (s:={s with S:=S,gl:=no,gc:=x,Fy:=true}) (ns:=[⟨3,core,no,x.w,0,x.d.1,x.d.2,kS x.st,0⟩]) (a:=a') (cp:=c') (L:=L) (by simp) ?_ (fun a' c' h'=>hk a' c' h' _ rfl)
 exact(show Hs G h (aE c 0 (iL t C core (kO core {s with S:=S,gl:=no,gc:=x,Fy:=true} l w wr [⟨3,core,no,x.w,0,x.d.1,x.d.2,kS x.st,0⟩]).1)::gC G t C.ways.toNat C.bH.toNat S::dB 9 175 a' c' (0+1,[]++(⟨3,core,no,x.w,0,x.d.1,x.d.2,kS x.st,0⟩:aQ).enc)::L) from hs.to)
theorem pz (hC:C.Ok) (hb:Bd s) {t:Nat} {l w:Int} (h0:0≤l) {wr:Bool} {Q:Value→AH→Prop} (ho:Ob G 3 gZ) (hs:Hs G h (aE c 0 (iL t C core s)::gC G t C.ways.toNat C.bH.toNat s.S::L))
  (hk:∀a' c' h',Hs G h' (dB 9 175 a' c' ((zV C core s l w wr).2.1.length,eF (zV C core s l w wr).2.1)::fU G c C core (zV C core s l w wr).1::L)→Q (.tuple ⟨[.slice a' (zV C core s l w wr).2.1.length c',I (zV C core s l w wr).2.2]⟩) h'):
  aZ (lF (pt c 0 0)) fun v0=>aZ (gI 0 v0) fun v1=>aZ (oM h v1) fun v2=>Cl Pr K 292 [v2,I l] h fun v3 h3=>
   aZ (pD 0 v3) fun v4=>aZ (pD 1 v3) fun v5=>aZ (pD 2 v3) fun v6=>aZ (tJ .neq v6 (I 0)) fun v7=>
   Br v7 (Q (.tuple ⟨[(.slice none 0 0),v6]⟩) h3) (Dd 247 6 [] Q [(pt c 0 0),(I l),(I w),(.bool wr),(.slice none 0 0),v4,v5] h3):=by
 unfold zV at hk
 refine aB (aA (aC (b:=c) (o:=0) hs rfl ?_))
 refine et (t:=t) (ways:=C.ways.toNat) (n:=C.bH.toNat) (S:=s.S) (kD hC).2.2.1 (kD hC).1 h0 hb hs fun h hs=>?_
 cases hv:Gp C.bH.toNat C.ways.toNat s.S l with
 |none=>
  simp only[hv] at hk
  refine aG rfl (aG rfl (aG rfl (aX (aI (by omega) (bW (bS ?_))))))
  exact Zs (t:=t) (s:=s) (ns:=[]) (a:=none) (cp:=0) (L:=L) (by simp) (show Hs G h (aE c 0 (iL t C core s)::gC G t C.ways.toNat C.bH.toNat s.S::dB 9 175 none 0 (0,[])::L) from(fY (W:=9) (e:=175) hs).to) hk
 |some v=>
  simp only[hv] at hk
  refine aG rfl (aG rfl (aG rfl (aX (aI (by omega) (bW (dY (bW (aB (aA (aA (aC (b:=c) (o:=0) hs rfl (dA (fun h1=>?_) (fun h1=>?_)))))))))))))
  ·simp only[h1,if_true] at hk
   exact hk none 0 h (fY (W:=9) (e:=175) (S2 (s':=s) (t:=t) (c:=c) rfl rfl hs))
  ·simp only[if_neg (show ¬(s.Fy=true) from by rw[h1];simp)] at hk
   refine bW (aB (aA (aC (b:=c) (o:=0) hs rfl ?_)))
   refine Nb (t:=t) (ways:=C.ways.toNat) (n:=C.bH.toNat) (S:=s.S) (kD hC).1 hb hs fun h hs=>aG rfl (aG rfl (bK hs ?_))
   intro p h hs
   refine bA hs rfl rfl rfl rfl ?_
   intro h hs
   refine aX (aS (fun h2=>?_) (fun h2=>?_))
   ·simp only[if_pos h2] at hk
    refine hk none 0 h (fY (W:=9) (e:=175) ?_)
    exact(cG c t C core {s with S:=kQ C.bH.toNat s.S v.1} (cs:=iL t C core s) hs rfl rfl).to
   ·simp only[if_neg h2] at hk
    refine u9 (s:=s) hb ho (show Hs G h (aE p 0 (bV C.bH.toNat s.S v.1).1.enc::aE c 0 (iL t C core s)::gC G t C.ways.toNat C.bH.toNat (kQ C.bH.toNat s.S v.1)::L) from hs.to) ?_
    intro a' c' h' r hr
    subst hr
    exact hk a' c' h'
theorem ub (hC:C.Ok) (hb:Bd s) {l w:Int} {wr:Bool} {Q:Value→AH→Prop} (hl:Ob G 0 fB) (ho:Ob G 3 gZ) (hs:Hs G h L) [m:Has (fU G c C core) L s L']
  (hk:∀a' c' h',Hs G h' (dB 9 175 a' c' ((want C core s l w wr).2.1.length,eF (want C core s l w wr).2.1)::fU G c C core (want C core s l w wr).1::L')→Q (.tuple ⟨[.slice a' (want C core s l w wr).2.1.length c',I (want C core s l w wr).2.2]⟩) h'):
  Cl Pr K 247 [pt c 0 0,I l,I w,.bool wr] h Q:=by
 have hs:=m.of hs
 unfold want at hk
 refine cW (cS (bS (bW (vC (c:=c) (core:=core) (s:=s) hC hl hs fun h hs=>bU (dI (dA (fun h1=>?_) (fun h1=>?_)))))))
 ·simp only[h1,Bool.true_eq_false,if_false] at hk
  have h0:0≤l:=(of_decide_eq_true h1).1
  obtain⟨t,hs⟩:=jB hs
  refine bW (aB (aA (aA (aC (b:=c) (o:=0) hs rfl (dA (fun h2=>?_) (fun h2=>bW ?_))))))
  ·simp only[h2,if_true] at hk
   exact hk none 0 h (fY (W:=9) (e:=175) (cG c t C core s hs rfl rfl))
  ·simp only[h2,Bool.false_eq_true,if_false] at hk
   have key:¬(s.Fy=true∧s.gl=l)→(aZ (lF (pt c 0 0)) fun v0=>aZ (gI 0 v0) fun v1=>aZ (oM h v1) fun v2=>Cl Pr K 245 [v2,I l] h fun v3 h3=>
     aZ (pD 0 v3) fun v4=>aZ (pD 1 v3) fun v5=>Bi h3 (.cells [(I 0),(I 0),(I 0),(I 0)] 157 (0,0) true) fun p7 h6=>aZ (sQ h6 4 (pt p7 0 0) v4) fun h8=>aZ (tJ .eql v5 (I 0)) fun v9=>
     Br v9 (aZ (rI h8 4 (pt p7 0 0)) fun v10=>Cl Pr K 246 [v10,.bool wr] h8 fun v11 h11=>Br v11 (Q (.tuple ⟨[(.slice none 0 0),(I 13)]⟩) h11) (Dd 247 5 [] Q [(pt c 0 0),(I l),(I w),(.bool wr)] h11))
      (aZ (lF (pt c 0 0)) fun v0=>aZ (gI 0 v0) fun v1=>aZ (oM h8 v1) fun v2=>Cl Pr K 292 [v2,I l] h8 fun v3 h3=>
       aZ (pD 0 v3) fun v4=>aZ (pD 1 v3) fun v5=>aZ (pD 2 v3) fun v6=>aZ (tJ .neq v6 (I 0)) fun v7=>
       Br v7 (Q (.tuple ⟨[(.slice none 0 0),v6]⟩) h3) (Dd 247 6 [] Q [(pt c 0 0),(I l),(I w),(.bool wr),(.slice none 0 0),v4,v5] h3))):=by
    intro h3
    simp only[if_neg h3] at hk
    refine aB (aA (aC (b:=c) (o:=0) hs rfl ?_))
    refine yY (t:=t) (ways:=C.ways.toNat) (n:=C.bH.toNat) (S:=s.S) (kD hC).1 hb hs fun h hs=>aG rfl (aG rfl (bK hs ?_))
    intro p h hs
    refine bA hs rfl rfl rfl rfl ?_
    intro h hs
    have hsT:Hs G h (aE c 0 (iL t C core s)::gC G t C.ways.toNat C.bH.toNat s.S::aE p 0 (bV C.bH.toNat s.S l).1.enc::L'):=hs.to
    have drop3:∀{a' c' h'} {X:List Value} {n:Nat} {s':iT},Hs G h' (dB 9 175 a' c' (n,X)::fU G c C core s'::aE p 0 (bV C.bH.toNat s.S l).1.enc::L')→Hs G h' (dB 9 175 a' c' (n,X)::fU G c C core s'::L'):=fun hs=>hs.to
    refine bC (aS (fun h4=>?_) (fun h4=>?_))
    ·refine aN (b:=p) (o:=0) hs (by decide) (l:=(bV C.bH.toNat s.S l).1.enc) rfl rfl (K3 ho hs fun h hs=>dA (fun h5=>?_) (fun h5=>?_))
     ·simp only[if_pos (show(bV C.bH.toNat s.S l).2=0∧pX (bV C.bH.toNat s.S l).1.st wr=true from⟨h4,h5⟩)] at hk
      exact hk none 0 h (fY (W:=9) (e:=175) (cG c t C core s hs rfl rfl).to)
     ·simp only[if_neg (show ¬((bV C.bH.toNat s.S l).2=0∧pX (bV C.bH.toNat s.S l).1.st wr=true) from fun e=>by rw[h5] at e;exact absurd e.2 (by simp))] at hk
      refine bW (pz hC hb h0 ho (show Hs G h (aE c 0 (iL t C core s)::gC G t C.ways.toNat C.bH.toNat s.S::L') from hs.to) hk)
    ·simp only[if_neg (show ¬((bV C.bH.toNat s.S l).2=0∧pX (bV C.bH.toNat s.S l).1.st wr=true) from fun e=>h4 e.1)] at hk
     exact pz hC hb h0 ho hsT fun a' c' h' hs=>hk a' c' h' (drop3 hs)
   refine aB (aA (aA (aC (b:=c) (o:=0) hs rfl (dA (fun h3=>?_) (fun h3=>?_)))))
   ·refine aB (aA (aA (aC (b:=c) (o:=0) hs rfl (bC (aS (fun h4=>?_) (fun h4=>bW (key (fun e=>h4 e.2))))))))
    simp only[if_pos (show s.Fy=true∧s.gl=l from⟨h3,h4⟩)] at hk
    exact hk none 0 h (fY (W:=9) (e:=175) (cG c t C core s hs rfl rfl))
   ·exact key (fun e=>by rw[h3] at e;exact absurd e.1 (by simp))
 ·simp only[h1,if_true] at hk
  exact hk none 0 h (fY (W:=9) (e:=175) hs)
end Go.Proofs.YtajjljbmfdboaaaGreatDoor.C
end
section
namespace Go.Proofs.YtajjljbmfdboaaaGreatDoor.C
open Go Go.Ab Go.Hm Go.Ct
set_option maxRecDepth 100000
variable {G:Bg} {h:AH} {L L' M:List HP} {C:bQ} {core:Int} {c:Nat} {s:iT} {n:aQ}
theorem pJ {a:iT} {Q:Value→AH→Prop} {e:Int} {r:Tk} (hk:∀a' c' h',Hs G h' (dB 9 175 a' c' (r.2.1.length,eF r.2.1)::fU G c C core r.1::L)→Q (.tuple ⟨[.slice a' r.2.1.length c',I r.2.2]⟩) h') (hr:r=(a,[],e)) (hs:Hs G h (fU G c C core a::L)):Q (.tuple ⟨[.slice none 0 0,I e]⟩) h:=by
 subst hr
 exact hk none 0 h (fY (W:=9) (e:=175) hs)
theorem J3 {a:iT} {x:aQ} {p:Addr} {Q:Value→AH→Prop} {r:Tk} (hk:∀a' c' h',Hs G h' (dB 9 175 a' c' (r.2.1.length,eF r.2.1)::fU G c C core r.1::L)→Q (.tuple ⟨[.slice a' r.2.1.length c',I r.2.2]⟩) h') (hr:r=(a,[x],0)) (hs:Hs G h (dB 9 175 (some p) 1 (1,x.enc)::fU G c C core a::L)):Q (.tuple ⟨[.slice (some p) 1 1,I 0]⟩) h:=by
 subst hr
 refine hk (some p) 1 h ?_
 have e:eF [x]=x.enc:=by simp[eF]
 simp only[e,List.length_cons,List.length_nil,Nat.zero_add]
 exact hs
abbrev Y2 (G:Bg) (c:Nat) (C:bQ) (core:Int) (L:List HP) (Q:Value→AH→Prop) (r:Tk):Prop:=∀a' c' h',Hs G h' (dB 9 175 a' c' (r.2.1.length,eF r.2.1)::fU G c C core r.1::L)→Q (.tuple ⟨[.slice a' r.2.1.length c',I r.2.2]⟩) h'
theorem s7 {Q:Value→AH→Prop} (hs:Hs G h (fU G c C core s::L)) (hk:Y2 G c C core L Q (E7 s n)):Cl Pr K 299 [pt c 0 0,.agg ⟨n.enc⟩] h Q:=by
 obtain⟨t,hs⟩:=jB hs
 refine cW (dJ hs ?_)
 intro p h hs
 refine aR hs ?_
 intro r h hs
 refine aB (aA (aA (aC (b:=c) (o:=0) hs rfl (bU (dI (dA (fun h1=>?_) (fun h1=>?_)))))))
 ·refine aB (aA (aA (aC (b:=c) (o:=0) hs rfl (aA (aC (b:=p) (o:=0) hs rfl (aX (aS (fun h2=>?_) (fun h2=>?_))))))))
  ·exact pJ hk (a:=s) (e:=16) (by simp[E7,h1,h2]) (cG c t C core s hs rfl rfl).to
  ·refine bW (aK (c:=[I 0,.bool false,.bool false]) rfl (aB (aA (bE (b:=c) (o:=0) hs rfl rfl rfl rfl ?_))))
   intro h hs
   have h2:s.al=n.line:=by simpa using h2
   exact pJ hk (a:={s with al:=0,aw:=false,bg:=false}) (e:=0) (by simp[E7,h1,h2]) (cG c t C core {s with al:=0,aw:=false,bg:=false} hs rfl rfl).to
 ·exact pJ hk (a:=s) (e:=16) (by simp[E7,h1]) (cG c t C core s hs rfl rfl).to
theorem Ze {Q:Value→AH→Prop} (hs:Hs G h (fU G c C core s::L)) (hk:Y2 G c C core L Q (rS s n)):Cl Pr K 300 [pt c 0 0,.agg ⟨n.enc⟩] h Q:=by
 obtain⟨t,hs⟩:=jB hs
 refine cW (dJ hs ?_)
 intro p h hs
 refine aR hs ?_
 intro r h hs
 refine aB (aA (aA (aC (b:=c) (o:=0) hs rfl (bU (dI (dA (fun h1=>?_) (fun h1=>?_)))))))
 ·refine aB (aA (aA (aC (b:=c) (o:=0) hs rfl (aA (aC (b:=p) (o:=0) hs rfl (aX (aS (fun h2=>?_) (fun h2=>?_))))))))
  ·exact pJ hk (a:=s) (e:=12) (by simp[rS,h1,h2]) (cG c t C core s hs rfl rfl).to
  ·refine bW (aK (c:=[I 0,I 0,I 0,I 0,I 0,.bool false]) rfl (aB (aA (bE (b:=c) (o:=0) hs rfl rfl rfl rfl ?_))))
   intro h hs
   have h2:s.gl=n.line:=by simpa using h2
   exact pJ hk (a:={s with gl:=0,gc:=pV.zero,Fy:=false}) (e:=0) (by simp[rS,h1,h2]) (cG c t C core {s with gl:=0,gc:=pV.zero,Fy:=false} hs rfl rfl).to
 ·exact pJ hk (a:=s) (e:=12) (by simp[rS,h1]) (cG c t C core s hs rfl rfl).to
theorem wz {t p:Nat} {S:Nat→List Th} {Q:Value→AH→Prop} {r:Tk} (hs:Hs G h (aE p 0 n.enc::aE c 0 (iL t C core s)::gC G t C.ways.toNat C.bH.toNat S::L)) (hk:Y2 G c C core L Q r) (hr:r=({s with S:=S,al:=0,aw:=false,bg:=false},[⟨4,core,n.line,0,0,0,0,false,0⟩],0)):
  Dd 298 4 [] Q [(pt c 0 0),(pt p 0 0)] h:=by
 refine bW (aK (c:=[I 0,.bool false,.bool false]) rfl (aB (aA (bE (b:=c) (o:=0) hs rfl rfl rfl rfl ?_))))
 intro h hs
 refine aR hs ?_
 intro rr h hs
 refine aB (aA (aC (b:=c) (o:=0) hs rfl (aA (aC (b:=p) (o:=0) hs rfl ?_))))
 refine aK (c:=(⟨4,core,n.line,0,0,0,0,false,0⟩:aQ).enc) rfl (aK (c:=(⟨4,core,n.line,0,0,0,0,false,0⟩:aQ).enc) rfl ?_)
 refine iJ (i:=7) (N:=10) (D:=[]) hs rfl rfl rfl rfl rfl ?_
 intro a h hs
 refine J3 hk (p:=a) hr ?_
 have hs:=cG c t C core {s with S:=S,al:=0,aw:=false,bg:=false} hs rfl rfl
 exact hs.to
theorem Bo (hC:C.Ok) (hb:Bd s) {Q:Value→AH→Prop} (h0:0≤n.line) (hs:Hs G h (fU G c C core s::L)) (hk:Y2 G c C core L Q (uL C core s n)):Cl Pr K 298 [pt c 0 0,.agg ⟨n.enc⟩] h Q:=by
 obtain⟨t,hs⟩:=jB hs
 refine cW (dJ hs ?_)
 intro p h hs
 refine aR hs ?_
 intro r h hs
 refine aB (aA (aA (aC (b:=c) (o:=0) hs rfl (bU (dI (dA (fun h1=>?_) (fun h1=>?_)))))))
 ·refine aB (aA (aA (aC (b:=c) (o:=0) hs rfl (aA (aC (b:=p) (o:=0) hs rfl (aX (aS (fun h2=>?_) (fun h2=>?_))))))))
  ·exact pJ hk (a:=s) (e:=16) (by simp[uL,h1,h2]) (cG c t C core s hs rfl rfl).to
  ·have h2:s.al=n.line:=by simpa using h2
   refine bW (aA (aC (b:=p) (o:=0) hs rfl (aA (aC (b:=p) (o:=0) hs rfl (aA (aN (b:=p) (o:=0) hs (by decide) (l:=[I n.d0,I n.d1]) rfl rfl ?_))))))
   refine aK (c:=(⟨n.state,n.world,(n.d0,n.d1)⟩:pV).enc) rfl (bK hs ?_)
   intro p2 h hs
   refine bA hs rfl rfl rfl rfl ?_
   intro h hs
   refine aR hs ?_
   intro r2 h hs
   refine aB (aA (aC (b:=c) (o:=0) hs rfl (aA (aC (b:=p) (o:=0) hs rfl ?_))))
   refine yY (t:=t) (ways:=C.ways.toNat) (n:=C.bH.toNat) (S:=s.S) (kD hC).1 hb hs fun h hs=>aG rfl (aG rfl ?_)
   refine jN (i:=10) hs rfl rfl ?_
   intro p3 h hs
   refine bA hs rfl rfl rfl rfl ?_
   intro h hs
   have fin:∀{c0:Bool} {h:AH},c0=true→Hs G h (aE p2 0 (lN C s n).enc::aE p 0 n.enc::aE c 0 (iL t C core s)::gC G t C.ways.toNat C.bH.toNat s.S::L)→
     (Qb c0 h 9 fun r1 h0=>aZ (lF (pt c 0 0)) fun v2=>aZ (gI 0 v2) fun v3=>aZ (oM h0 v3) fun v4=>aZ (gI 2 (pt p 0 0)) fun v5=>aZ (oM h0 v5) fun v6=>aZ (rI h0 4 (pt p2 0 0)) fun v7=>
      Cl Pr K 251 [v4,v6,v7] h0 fun v8 h8=>aZ (tJ .neq v8 (I 0)) fun v9=>Br v9 (Q (.tuple ⟨[(.slice none 0 0),v8]⟩) h8) (Dd 298 4 [] Q [(pt c 0 0),(pt p 0 0)] h8)):=by
    intro c0 h hc0 hs
    refine aR (hc:=hc0) hs ?_
    intro r3 h hs
    refine aB (aA (aC (b:=c) (o:=0) hs rfl (aA (aC (b:=p) (o:=0) hs rfl (aN (b:=p2) (o:=0) hs (by decide) (l:=(lN C s n).enc) rfl rfl ?_)))))
    refine wO (t:=t) (ways:=C.ways.toNat) (n:=C.bH.toNat) (S:=s.S) h0 (kD hC).1 hb hs fun h hs=>?_
    refine aX (aS (fun h3=>?_) (fun h3=>?_))
    ·refine pJ hk (a:={s with S:=(mC C.bH.toNat C.ways.toNat s.S n.line (lN C s n)).1}) (by simp[uL,h1,h2,h3]) ?_
     exact(cG c t C core {s with S:=(mC C.bH.toNat C.ways.toNat s.S n.line (lN C s n)).1} (cs:=iL t C core s) hs rfl rfl).to
    ·have h3:(mC C.bH.toNat C.ways.toNat s.S n.line (lN C s n)).2=0:=by simpa using h3
     exact wz (t:=t) (S:=(mC C.bH.toNat C.ways.toNat s.S n.line (lN C s n)).1) (s:=s) (n:=n) hs.to hk (by simp[uL,h1,h2,h3])
   refine cJ (aG rfl gW) (bC (aS (fun h3=>bW ?_) (fun h3=>bW (fin (by kernel_rfl) ?_))))
   ·refine aA (aN (b:=p3) (o:=0) hs (by decide) (l:=[I (bV C.bH.toNat s.S n.line).1.d.1,I (bV C.bH.toNat s.S n.line).1.d.2]) rfl rfl (aA (bE (b:=p2) (o:=0) hs rfl rfl rfl rfl ?_)))
    intro h hs
    have e:lN C s n=⟨n.state,n.world,(bV C.bH.toNat s.S n.line).1.d⟩:=by simp[lN,h3]
    have hs:=hs.sg (b:=p2) (o:=0) (c:=(lN C s n).enc) (by rw[e];rfl)
    exact fin (by kernel_rfl) hs.to
   ·have e:lN C s n=⟨n.state,n.world,(n.d0,n.d1)⟩:=by simp[lN,h3]
    rw[e]
    exact hs.to
 ·exact pJ hk (a:=s) (e:=16) (by simp[uL,h1]) (cG c t C core s hs rfl rfl).to
end Go.Proofs.YtajjljbmfdboaaaGreatDoor.C
end
section
namespace Go.Proofs.YtajjljbmfdboaaaGreatDoor.C
open Go Go.Ab Go.Hm Go.Ct
set_option maxRecDepth 100000
variable {G:Bg} {h:AH} {L L' M:List HP} {C:bQ} {core:Int} {c:Nat} {s:iT} {n:aQ}
theorem ur {t p q:Nat} {x:pV} {y:aQ} {Q:Value→AH→Prop} {r:Tk} (hs:Hs G h (aE p 0 y.enc::aE q 0 x.enc::aE c 0 (iL t C core s)::gC G t C.ways.toNat C.bH.toNat s.S::L)) (hk:Y2 G c C core L Q r) (hr:r=({s with gc:=x},[y],0)):
  Dd 301 8 [] Q [(pt c 0 0),(pt p 0 0),(pt q 0 0)] h:=by
 refine bW (aN (b:=q) (o:=0) hs (by decide) (l:=x.enc) rfl rfl (aB (aA (aA (bE (b:=c) (o:=0) hs rfl rfl rfl rfl ?_)))))
 intro h hs
 refine aN (b:=p) (o:=0) hs (by decide) (l:=y.enc) rfl rfl (aK (c:=y.enc) rfl (dP (W:=9) (n:=1) (c:=1) hs rfl rfl rfl ?_))
 intro a h hs
 refine J3 hk (p:=a) hr ?_
 have hs:=cG c t C core {s with gc:=x} hs rfl rfl
 exact hs.to
theorem u0 (hC:C.Ok) (hb:Bd s) (h0:0≤n.line) {t p0 p q:Nat} {x:pV} {y:aQ} {Q:Value→AH→Prop} {r:Tk} (hs:Hs G h (aE p 0 y.enc::aE q 0 x.enc::aE p0 0 n.enc::aE c 0 (iL t C core s)::gC G t C.ways.toNat C.bH.toNat s.S::L)) (hk:Y2 G c C core L Q r)
  (hr:r=({s with S:=if x.st=0 then kQ C.bH.toNat s.S n.line else(mC C.bH.toNat C.ways.toNat s.S n.line x).1},[y],0)):
  Dd 301 9 [] Q [(pt c 0 0),(pt p0 0 0),(pt p 0 0),(pt q 0 0),(I x.st)] h:=by
 refine bW (bC (aS (fun h1=>bW (aR hs ?_)) (fun h1=>bW (aR hs ?_))))
 ·intro rr h hs
  simp only[if_pos h1] at hr
  refine aB (aA (aC (b:=c) (o:=0) hs rfl (aA (aC (b:=p0) (o:=0) hs rfl ?_))))
  refine Nb (t:=t) (ways:=C.ways.toNat) (n:=C.bH.toNat) (S:=s.S) (kD hC).1 hb hs fun h hs=>?_
  refine aN (b:=p) (o:=0) hs (by decide) (l:=y.enc) rfl rfl (aK (c:=y.enc) rfl (dP (W:=9) (n:=1) (c:=1) hs rfl rfl rfl ?_))
  intro a h hs
  refine J3 hk (p:=a) hr ?_
  have hs:=cG c t C core {s with S:=kQ C.bH.toNat s.S n.line} (cs:=iL t C core s) hs rfl rfl
  exact hs.to
 ·intro rr h hs
  simp only[if_neg h1] at hr
  refine aB (aA (aC (b:=c) (o:=0) hs rfl (aA (aC (b:=p0) (o:=0) hs rfl (aN (b:=q) (o:=0) hs (by decide) (l:=x.enc) rfl rfl ?_)))))
  refine wO (t:=t) (ways:=C.ways.toNat) (n:=C.bH.toNat) (S:=s.S) h0 (kD hC).1 hb hs fun h hs=>?_
  refine aN (b:=p) (o:=0) hs (by decide) (l:=y.enc) rfl rfl (aK (c:=y.enc) rfl (dP (W:=9) (n:=1) (c:=1) hs rfl rfl rfl ?_))
  intro a h hs
  refine J3 hk (p:=a) hr ?_
  have hs:=cG c t C core {s with S:=(mC C.bH.toNat C.ways.toNat s.S n.line x).1} (cs:=iL t C core s) hs rfl rfl
  exact hs.to
theorem Xl (hC:C.Ok) (hb:Bd s) (h0:0≤n.line) {there:Bool} {t p0 p q:Nat} {x:pV} {Q:Value→AH→Prop} {r:Tk} (hs:Hs G h (aE p 0 (Kc core n).enc::aE q 0 x.enc::aE p0 0 n.enc::aE c 0 (iL t C core s)::gC G t C.ways.toNat C.bH.toNat s.S::L)) (hk:Y2 G c C core L Q r)
  (hr:r=if there then({s with S:=if lB x.st n.state=0 then kQ C.bH.toNat s.S n.line else(mC C.bH.toNat C.ways.toNat s.S n.line {x with st:=lB x.st n.state}).1},[lS core n x],0) else({s with gc:={x with st:=lB x.st n.state}},[lS core n x],0)):
  Dd 301 5 [] Q [(pt c 0 0),(pt p0 0 0),(pt p 0 0),(pt q 0 0),(.bool there),(I (lB x.st n.state)),(.bool (Ef x.st)),(.bool (kS x.st))] h:=by
 have fin:∀{h:AH},Hs G h (aE p 0 (lS core n x).enc::aE q 0 ({x with st:=lB x.st n.state}:pV).enc::aE p0 0 n.enc::aE c 0 (iL t C core s)::gC G t C.ways.toNat C.bH.toNat s.S::L)→
   (aZ (T2 .not (.bool there)) fun v8=>Br v8 (Dd 301 8 [] Q [(pt c 0 0),(pt p 0 0),(pt q 0 0)] h) (Dd 301 9 [] Q [(pt c 0 0),(pt p0 0 0),(pt p 0 0),(pt q 0 0),(I (lB x.st n.state))] h)):=by
  intro h hs
  cases there
  ·simp only[Bool.false_eq_true,if_false] at hr
   exact bU (dY (ur (t:=t) (x:={x with st:=lB x.st n.state}) (y:=lS core n x) (s:=s) hs.to hk hr))
  ·simp only[if_true] at hr
   exact bU (bS (u0 hC hb h0 (t:=t) (x:={x with st:=lB x.st n.state}) (y:=lS core n x) (s:=s) hs hk hr))
 refine bW (aA (bE (b:=p) (o:=0) hs rfl rfl rfl rfl ?_))
 intro h hs
 refine dA (fun h1=>bW ?_) (fun h1=>bW ?_)
 ·refine aA (aN (b:=q) (o:=0) hs (by decide) (l:=[I x.d.1,I x.d.2]) rfl rfl (aA (bE (b:=p) (o:=0) hs rfl rfl rfl rfl ?_)))
  intro h hs
  refine aA (bE (b:=p) (o:=0) hs rfl rfl rfl rfl ?_)
  intro h hs
  refine aA (bE (b:=q) (o:=0) hs rfl rfl rfl rfl ?_)
  intro h hs
  have e:lS core n x=⟨5,core,n.line,0,lB x.st n.state,x.d.1,x.d.2,kS x.st,0⟩:=by simp[lS,h1]
  have hs:=hs.sg (b:=p) (o:=0) (c:=(lS core n x).enc) (by rw[e];rfl)
  have hs:=hs.sg (b:=q) (o:=0) (c:=({x with st:=lB x.st n.state}:pV).enc) rfl
  exact fin hs.to
 ·refine aA (bE (b:=q) (o:=0) hs rfl rfl rfl rfl ?_)
  intro h hs
  have e:lS core n x=⟨5,core,n.line,0,lB x.st n.state,0,0,false,0⟩:=by simp[lS,h1]
  have hs:=hs.sg (b:=p) (o:=0) (c:=(lS core n x).enc) (by rw[e];rfl)
  have hs:=hs.sg (b:=q) (o:=0) (c:=({x with st:=lB x.st n.state}:pV).enc) rfl
  exact fin hs.to
end Go.Proofs.YtajjljbmfdboaaaGreatDoor.C
end
section
namespace Go.Proofs.YtajjljbmfdboaaaGreatDoor.C
open Go Go.Ab Go.Hm Go.Ct
set_option maxRecDepth 100000
variable {G:Bg} {h:AH} {L L' M:List HP} {C:bQ} {core:Int} {c:Nat} {s:iT} {n:aQ}
theorem xh (hC:C.Ok) (hb:Bd s) (hst:Sts C.bH.toNat s) (hn:n.state=0∨n.state=1) (h0:0≤n.line) {t p0 p q:Nat} {x:pV} {Q:Value→AH→Prop} (ho:Ob G 3 gZ)
  (hs:Hs G h (aE p 0 (Kc core n).enc::aE q 0 x.enc::aE p0 0 n.enc::aE c 0 (iL t C core s)::gC G t C.ways.toNat C.bH.toNat s.S::L)) (hp:(bV C.bH.toNat s.S n.line).2≠0) (hk:Y2 G c C core L Q (nJ C core s n)):
  Dd 301 2 [] Q [(pt c 0 0),(pt p0 0 0),(pt p 0 0),(pt q 0 0),(.bool false)] h:=by
 have hns:¬(n.state≠1∧n.state≠0):=by omega
 refine bW (aR hs ?_)
 intro rr h hs
 have none':s.Fy=false∨s.gl≠n.line→(aZ (rI h 9 (pt p 0 0)) fun v7=>aZ (lD [(I 0),(I 0),(I 0),(I 0),(I 0),(I 0),(I 0),(.bool false),(I 0)] [(0,9,v7)]) fun l9=>tH h 9 175 l9 1 1 fun s10 h8=>Q (.tuple ⟨[s10,(I 0)]⟩) h8):=by
  intro hc
  refine aN (b:=p) (o:=0) hs (by decide) (l:=(Kc core n).enc) rfl rfl (aK (c:=(Kc core n).enc) rfl (dP (W:=9) (n:=1) (c:=1) hs rfl rfl rfl ?_))
  intro a h hs
  refine J3 hk (p:=a) (a:=s) (x:=Kc core n) ?_ ?_
  ·rcases hc with hc|hc
   ·simp[nJ,hns,hp,hc,Kc]
   ·by_cases hg:s.Fy=false
    ·simp[nJ,hns,hp,hg,Kc]
    ·simp only[nJ,if_neg hns,if_neg hp,if_neg hg,if_pos hc,Kc]
  ·have hs:=cG c t C core s hs rfl rfl
   exact hs.to
 refine aB (aA (aA (aC (b:=c) (o:=0) hs rfl (bU (dI (dA (fun h1=>?_) (fun h1=>none' (.inl h1))))))))
 refine aB (aA (aA (aC (b:=c) (o:=0) hs rfl (aA (aC (b:=p0) (o:=0) hs rfl (aX (aS (fun h2=>none' (.inr h2)) (fun h2=>bW ?_))))))))
 have h2:s.gl=n.line:=by simpa using h2
 refine aB (aA (aA (aN (b:=c) (o:=0) hs (by decide) (l:=s.gc.enc) rfl rfl (bA (b:=q) (o:=0) hs rfl rfl rfl rfl ?_))))
 intro h hs
 refine aA (aC (b:=q) (o:=0) hs rfl (aA (aC (b:=p0) (o:=0) hs rfl (Mi ho hs (hst.back h1) hn (aG rfl (aG rfl (aG rfl (aG rfl (aX (aI (by omega) ?_))))))))))
 refine Xl hC hb h0 (there:=false) (t:=t) (x:=s.gc) (s:=s) (n:=n) (core:=core) (L:=L) hs.to hk ?_
 have hg:¬s.Fy=false:=by rw[h1];simp
 simp only[nJ,if_neg hns,if_neg hp,if_neg hg,if_neg (show ¬s.gl≠n.line from fun e=>e h2),Bool.false_eq_true,if_false]
theorem ua (hC:C.Ok) (hb:Bd s) (hst:Sts C.bH.toNat s) (hn:n.state=0∨n.state=1) (h0:0≤n.line) {t p0 p q:Nat} {Q:Value→AH→Prop} (ho:Ob G 3 gZ)
  (hs:Hs G h (aE p 0 (Kc core n).enc::aE q 0 (bV C.bH.toNat s.S n.line).1.enc::aE p0 0 n.enc::aE c 0 (iL t C core s)::gC G t C.ways.toNat C.bH.toNat s.S::L)) (hp:(bV C.bH.toNat s.S n.line).2=0) (hk:Y2 G c C core L Q (nJ C core s n)):
  Dd 301 3 [] Q [(pt c 0 0),(pt p0 0 0),(pt p 0 0),(pt q 0 0),(.bool true)] h:=by
 have hns:¬(n.state≠1∧n.state≠0):=by omega
 refine bW (aA (aC (b:=q) (o:=0) hs rfl (aA (aC (b:=p0) (o:=0) hs rfl (Mi ho hs (hst.aB6 _ hp) hn (aG rfl (aG rfl (aG rfl (aG rfl (aX (aI (by omega) ?_)))))))))))
 refine Xl hC hb h0 (there:=true) (t:=t) (x:=(bV C.bH.toNat s.S n.line).1) (s:=s) (n:=n) (core:=core) (L:=L) hs hk ?_
 simp only[nJ,if_neg hns,if_pos hp,if_true]
theorem C8 (hC:C.Ok) (hb:Bd s) (hst:Sts C.bH.toNat s) (h0:0≤n.line) {Q:Value→AH→Prop} (ho:Ob G 3 gZ) (hs:Hs G h (fU G c C core s::L)) (hk:Y2 G c C core L Q (nJ C core s n)):Cl Pr K 301 [pt c 0 0,.agg ⟨n.enc⟩] h Q:=by
 obtain⟨t,hs⟩:=jB hs
 refine cW (dJ hs ?_)
 intro p0 h hs
 refine aA (aC (b:=p0) (o:=0) hs rfl (aX (aS (fun h1=>aA (aC (b:=p0) (o:=0) hs rfl (aX (aS (fun h2=>?_) (fun h2=>bW ?_))))) (fun h1=>?_))))
 ·exact pJ hk (a:=s) (e:=10) (by simp only[nJ];rw[if_pos ⟨by omega,by omega⟩]) (cG c t C core s hs rfl rfl).to
 all_goals
  have hn:n.state=0∨n.state=1:=by omega
  refine aR hs ?_
  intro rr h hs
  refine aB (aA (aC (b:=c) (o:=0) hs rfl (aA (aC (b:=p0) (o:=0) hs rfl (aK (c:=(Kc core n).enc) rfl ?_)))))
  refine jN (i:=7) hs rfl rfl ?_
  intro p h hs
  refine bA hs rfl rfl rfl rfl ?_
  intro h hs
  refine aR hs ?_
  intro r2 h hs
  refine aB (aA (aC (b:=c) (o:=0) hs rfl (aA (aC (b:=p0) (o:=0) hs rfl ?_))))
  refine yY (t:=t) (ways:=C.ways.toNat) (n:=C.bH.toNat) (S:=s.S) (kD hC).1 hb hs fun h hs=>aG rfl (aG rfl ?_)
  refine jN (i:=10) hs rfl rfl ?_
  intro q h hs
  refine bA hs rfl rfl rfl rfl ?_
  intro h hs
  refine cJ (aG rfl gW) (bC (bU ?_))
  by_cases hp:(bV C.bH.toNat s.S n.line).2=0
  ·rw[decide_eq_true hp]
   exact bS (ua hC hb hst hn h0 (t:=t) ho hs.to hp hk)
  ·rw[decide_eq_false hp]
   exact dY (xh hC hb hst hn h0 (t:=t) (x:=(bV C.bH.toNat s.S n.line).1) ho hs.to hp hk)
end Go.Proofs.YtajjljbmfdboaaaGreatDoor.C
end
section
namespace Go.Proofs.YtajjljbmfdboaaaGreatDoor.C
open Go Go.Ab Go.Hm Go.Ct
def sX (k:Int) (f:FuncId):List Value:=[I k,.func (.func f) #[] #[]]
def H3:List Value:=sX 8 298++sX 9 299++sX 10 300++sX 11 301
set_option maxRecDepth 100000
variable {G:Bg} {h:AH} {L L' M:List HP} {C:bQ} {core:Int} {c:Nat} {s:iT} {n:aQ}
theorem vb (hC:C.Ok) {p q:Nat} {k:Int} {f:FuncId} {Q:Value→AH→Prop} {r:Tk} (hl:Ob G 0 fB) (hs:Hs G h (aE q 0 (sX k f)::aE p 0 n.enc::fU G c C core s::L))
  (hcl:fK Pr f=true) (hr:vV C n.line=false→r=(s,[],10)) (hf:vV C n.line=true→∀h L,Hs G h (fU G c C core s::L)→∀Q,Y2 G c C core L Q r→Cl Pr K f [pt c 0 0,.agg ⟨n.enc⟩] h Q) (hk:Y2 G c C core L Q r):
  Dd 202 5 [] Q [(pt c 0 0),(pt p 0 0),(pt q 0 0)] h:=by
 refine bW (aA (aC (b:=p) (o:=0) hs rfl (vC (c:=c) (core:=core) (s:=s) hC hl hs fun h hs=>bU (dI (dA (fun h1=>?_) (fun h1=>?_))))))
 ·refine aA (aC (b:=q) (o:=0) hs rfl (aN (b:=p) (o:=0) hs (by decide) (l:=n.enc) rfl rfl ?_))
  refine oN hcl (hf h1 h (aE q 0 (sX k f)::aE p 0 n.enc::L) hs.to _ fun a' c' h' hs=>aG rfl (aG rfl (hk a' c' h' hs.to)))
 ·exact pJ hk (a:=s) (e:=10) (hr h1) hs.to
theorem Bw (hC:C.Ok) (hb:Bd s) (hst:Sts C.bH.toNat s) {Q:Value→AH→Prop} (hl:Ob G 0 fB) (ho:Ob G 3 gZ) (hs:Hs G h L) [m:Has (fU G c C core) L s L'] (hk:Y2 G c C core L' Q (hJ C core s n)):
  Cl Pr K 202 [pt c 0 0,.agg ⟨n.enc⟩] h Q:=by
 have hs:=m.of hs
 refine cW (dJ hs ?_)
 intro p h hs
 refine cS (bS (bW (cW ?_)))
 refine aK (c:=sX 8 298) rfl (aK (c:=sX 9 299) rfl (aK (c:=sX 10 300) rfl (aK (c:=sX 11 301) rfl (aK (c:=H3) rfl ?_))))
 refine dP (W:=2) (n:=4) (c:=4) hs rfl rfl rfl ?_
 intro a h hs
 obtain⟨b,o,ha,hs⟩:=hs.fS (by decide)
 cases ha
 refine bZ ?_
 have h0:vV C n.line=true→0≤n.line:=fun e=>(of_decide_eq_true e).1
 have step:∀(i:Nat) (hi:i<4) (k:Int) (f:FuncId) (h:AH) (M:List HP),(H3.drop (i*2)).take 2=sX k f→fK Pr f=true→Hs G h (aE b o H3::aE p 0 n.enc::fU G c C core s::L')→
   (n.kind=k→((vV C n.line=false→hJ C core s n=(s,[],10))∧(vV C n.line=true→∀h L,Hs G h (fU G c C core s::L)→∀Q,Y2 G c C core L Q (hJ C core s n)→Cl Pr K f [pt c 0 0,.agg ⟨n.enc⟩] h Q)))→
   (n.kind≠k→∀h,Hs G h (aE b o H3::aE p 0 n.enc::fU G c C core s::L')→Dd 202 2 [] Q [(pt c 0 0),(pt p 0 0),(.slice (some ⟨b,o,none⟩) 4 4),(I 4),(I ((i+1:Nat):Int))] h)→
   Dd 202 2 [] Q [(pt c 0 0),(pt p 0 0),(.slice (some ⟨b,o,none⟩) 4 4),(I 4),(I (i:Int))] h:=by
  intro i hi k f h M hc hcl hs hyes hno
  refine bW (aU (bM (by omega) (bW (dU hi (I0 (b:=b) (o:=o) hs (by decide) (l:=sX k f) (by rw[Nat.add_zero];exact hc) rfl (bK hs ?_))))))
  intro q h hs
  refine bA hs rfl rfl rfl rfl ?_
  intro h hs
  refine aA (aC (b:=q) (o:=0) hs rfl (aA (aC (b:=p) (o:=0) hs rfl (aX (aS (fun h1=>bW (bI (by omega) ?_)) (fun h1=>?_))))))
  ·have:=hno (fun e=>h1 e.symm) h hs.to
   show Dd _ _ _ _ _ _
   simpa using this
  ·have h1:n.kind=k:=by
    have:k=n.kind:=by simpa using h1
    exact this.symm
   exact vb (k:=k) (f:=f) (s:=s) (n:=n) hC hl (show Hs G h (aE q 0 (sX k f)::aE p 0 n.enc::fU G c C core s::L') from hs.to) hcl (hyes h1).1 (hyes h1).2 hk
 have hs:Hs G h (aE b o H3::aE p 0 n.enc::fU G c C core s::L'):=hs.to
 refine step 0 (by decide) 8 298 h [] rfl (by kernel_rfl) hs (fun e=>⟨fun e2=>by simp[hJ,e,e2],fun e2 h L hs Q hk=>Bo hC hb (h0 e2) hs (by simpa [hJ,e,e2] using hk)⟩) fun e1 h hs=>?_
 refine step 1 (by decide) 9 299 h [] rfl (by kernel_rfl) hs (fun e=>⟨fun e2=>by simp[hJ,e,e2],fun e2 h L hs Q hk=>s7 hs (by simpa [hJ,e,e2] using hk)⟩) fun e3 h hs=>?_
 refine step 2 (by decide) 10 300 h [] rfl (by kernel_rfl) hs (fun e=>⟨fun e2=>by simp[hJ,e,e2],fun e2 h L hs Q hk=>Ze hs (by simpa [hJ,e,e2] using hk)⟩) fun e4 h hs=>?_
 refine step 3 (by decide) 11 301 h [] rfl (by kernel_rfl) hs (fun e=>⟨fun e2=>by simp[hJ,e,e2],fun e2 h L hs Q hk=>C8 hC hb hst (h0 e2) ho hs (by simpa [hJ,e,e2] using hk)⟩) fun e5 h hs=>?_
 refine bW (aU (aI (by omega) ?_))
 exact pJ hk (a:=s) (e:=15) (by simp[hJ,e1,e3,e4,e5]) hs.to
theorem Ye (hC:C.Ok) (hb:Bd s) {Q:Value→AH→Prop} (hs:Hs G h L) [m:Has (fU G c C core) L s L'] (hk:∀d h',Hs G h' (fU G d C core s::fU G c C core s::L')→Q (pt d 0 0) h'):Cl Pr K 80 [pt c 0 0] h Q:=by
 obtain⟨t,hs⟩:=jB (m.of hs)
 refine cW (cS (bS (bW (aB (aN (b:=c) (o:=0) hs (by decide) (l:=iL t C core s) rfl rfl (bK hs ?_))))))
 intro d h hs
 refine bA hs rfl rfl rfl rfl ?_
 intro h hs
 refine aB (aA (aC (b:=c) (o:=0) hs rfl (w6 (t:=t) (ways:=C.ways.toNat) (n:=C.bH.toNat) (S:=s.S) (kD hC).1 (kD hC).2.1 hb hs fun t2 h hs=>?_)))
 refine aA (bE (b:=d) (o:=0) hs rfl rfl rfl rfl ?_)
 intro h hs
 have hs:=hs.sg (b:=d) (o:=0) (c:=iL t2 C core s) rfl
 have hs:=cG d t2 C core s hs rfl rfl
 have hs:=cG c t C core s hs rfl rfl
 exact hk d h hs.to
theorem Oi (hC:C.Ok) (hcore:0≤core∧core<C.aF) {Q:Value→AH→Prop} (hl:Ob G 0 fB) (hs:Hs G h L) (hk:∀c h',Hs G h' (fU G c C core iT.new::L)→Q (.tuple ⟨[pt c 0 0,I 0]⟩) h'):Cl Pr K 83 [.agg ⟨C.enc⟩,I core] h Q:=by
 refine cW (dJ hs ?_)
 intro p h hs
 refine aN (b:=p) (o:=0) hs (by decide) (l:=C.enc) rfl rfl (lC hl hs fun h hs=>?_)
 have h1:=hC
 unfold bQ.Ok at h1
 rw[if_pos hC]
 refine aX (aI (by omega) (bW (aU (aI (by omega) (aA (aC (b:=p) (o:=0) hs rfl (dM (aI (by omega) (bW ?_)))))))))
 refine aA (aC (b:=p) (o:=0) hs rfl (aA (aC (b:=p) (o:=0) hs rfl (Ru (by omega) (by omega) hs fun t h hs=>aG rfl (aG rfl (aX (aI (by omega) ?_)))))))
 refine aN (b:=p) (o:=0) hs (by decide) (l:=C.enc) rfl rfl (aK (c:=iL t C core iT.new) rfl (dJ hs ?_))
 intro q h hs
 have hs:=cG q t C core iT.new hs rfl rfl
 exact hk q h hs.to
end Go.Proofs.YtajjljbmfdboaaaGreatDoor.C
end
section
namespace Go.Proofs.YtajjljbmfdboaaaGreatDoor.C
open Go Go.Ab Go.Hm Go.Ct
set_option maxRecDepth 100000
variable {G:Bg} {h:AH} {L L' M:List HP} {C:bQ} {core:Int} {c:Nat} {s:iT} {n:aQ}
theorem n0 (hC:C.Ok) (hgd:lZ C s) {l at' ow:Int} (h1:pM C s.S l at' ow false=0) {Q:Value→AH→Prop} (hl:Ob G 0 fB) (ho:Ob G 3 gZ) (hs:Hs G h L) [m:Has (fU G c C core) L s L'] (hk:∀h',Hs G h' (fU G c C core (rT C s l at' ow)::L')→Q (.tuple ⟨[I (Mc.Ng C s l at'),I 0]⟩) h'):Cl Pr K 197 [pt c 0 0,I l,I at',I ow] h Q:=by
 have hs:=m.of hs
 have hb:Bd s:=hgd.bd (kD hC).2.2.2
 unfold rT at hk
 refine cW (B4 (c:=c) (core:=core) (s:=s) hC hb hl ho hs fun h hs=>aX (aI (by omega) ?_))
 rw[if_pos h1] at hk
 obtain⟨hl1,ha,hp,_⟩:=I7 h1
 have hge:=Tw hgd.bH hp
 obtain⟨t,hs⟩:=jB hs
 refine bW (aB (aA (aC (b:=c) (o:=0) hs rfl (Ds (t:=t) (ways:=C.ways.toNat) (n:=C.bH.toNat) (S:=s.S) hl1.1 (kD hC).1 hb hs fun h hs=>aG rfl (aG rfl (bK hs ?_))))))
 intro p h hs
 refine bA hs rfl rfl rfl rfl ?_
 intro h hs
 have hs2:=fun {h:AH} hs=>(cG c t C core {s with S:=D6 C.bH.toNat C.ways.toNat s.S l} (G:=G) (h:=h) (L:=aE p 0 (bV C.bH.toNat s.S l).1.enc::gC G t C.ways.toNat C.bH.toNat (D6 C.bH.toNat C.ways.toNat s.S l)::aE c 0 (iL t C core s)::L') hs rfl rfl)
 refine aX (aI (by omega) (aA ?_))
 rcases ha with rfl|rfl
 ·exact fA (by decide) (by decide) (aC (b:=p) (o:=0) hs rfl (hk _ (hs2 hs).to))
 ·exact fA (by decide) (by decide) (aC (b:=p) (o:=0) hs rfl (hk _ (hs2 hs).to))
theorem Zd (hC:C.Ok) (hgd:lZ C s) {l at' ow v:Int} (h1:pM C s.S l at' ow true=0) {Q:Value→AH→Prop} (hl:Ob G 0 fB) (ho:Ob G 3 gZ) (hs:Hs G h L) [m:Has (fU G c C core) L s L'] (hk:∀h',Hs G h' (fU G c C core (lK C s l at' ow v)::L')→Q (I 0) h'):Cl Pr K 198 [pt c 0 0,I l,I at',I ow,I v] h Q:=by
 have hs:=m.of hs
 have hb:Bd s:=hgd.bd (kD hC).2.2.2
 unfold lK at hk
 refine cW (B4 (c:=c) (core:=core) (s:=s) hC hb hl ho hs fun h hs=>aX (aI (by omega) ?_))
 ·rw[if_pos h1] at hk
  obtain⟨hl1,ha,hp,hst⟩:=I7 h1
  have hst:tX (bV C.bH.toNat s.S l).1.st=true:=hst
  obtain⟨t,hs⟩:=jB hs
  refine bW (aB (aA (aC (b:=c) (o:=0) hs rfl ?_)))
  refine yY (t:=t) (ways:=C.ways.toNat) (n:=C.bH.toNat) (S:=s.S) (kD hC).1 hb hs fun h hs=>aG rfl (aG rfl (bK hs ?_))
  intro p h hs
  refine bA hs rfl rfl rfl rfl ?_
  intro h hs
  refine aX (aI (by omega) (bW (aA (aC (b:=p) (o:=0) hs rfl (Ro ho hs hst (aG rfl (aG rfl (aA (bE (b:=p) (o:=0) hs rfl rfl rfl rfl ?_)))))))))
  intro h hs
  refine aX (aI (by omega) (bW (aA ?_)))
  have key:∀{c0:Bool} {h:AH},c0=true→Hs G h (aE p 0 (nS C.bH.toNat s.S l at' v).enc::gC G t C.ways.toNat C.bH.toNat s.S::aE c 0 (iL t C core s)::L')→
    Qb c0 h 8 fun _ h3=>aZ (lF (pt c 0 0)) fun v5=>aZ (gI 0 v5) fun v6=>aZ (oM h3 v6) fun v7=>aZ (rI h3 4 (pt p 0 0)) fun v8=>Cl Pr K 251 [v7,I l,v8] h3 fun v9 h9=>Q v9 h9:=by
   intro c0 h hc0 hs
   refine aR (hc:=hc0) hs ?_
   intro r h hs
   refine aB (aA (aC (b:=c) (o:=0) hs rfl (aN (b:=p) (o:=0) hs (by decide) (l:=(nS C.bH.toNat s.S l at' v).enc) rfl rfl ?_)))
   refine wO (t:=t) (ways:=C.ways.toNat) (n:=C.bH.toNat) (S:=s.S) hl1.1 (kD hC).1 hb hs fun h hs=>?_
   show Q _ _
   rw[ly (x:=nS C.bH.toNat s.S l at' v) hgd.bH hp]
   exact hk _ (cG c t C core {s with S:=(mC C.bH.toNat C.ways.toNat s.S l (nS C.bH.toNat s.S l at' v)).1} (cs:=iL t C core s) hs rfl rfl).to
  rcases ha with rfl|rfl
  ·refine fA (by decide) (by decide) (bE (b:=p) (o:=0) hs rfl rfl rfl rfl ?_)
   intro h hs
   exact key (by kernel_rfl) ((hs.sg (b:=p) (o:=0) (c:=(nS C.bH.toNat s.S l 0 v).enc) rfl).to)
  ·refine fA (by decide) (by decide) (bE (b:=p) (o:=0) hs rfl rfl rfl rfl ?_)
   intro h hs
   exact key (by kernel_rfl) ((hs.sg (b:=p) (o:=0) (c:=(nS C.bH.toNat s.S l 1 v).enc) rfl).to)
end Go.Proofs.YtajjljbmfdboaaaGreatDoor.C
end
end
section
namespace Go.Proofs.YtajjljbmfdboaaaGreatDoor.N
open Go Go.Ab Go.Hm Go.Nt
theorem mF {g n sz i:Nat} {k:Value→Prop} (hi:i<n) (hk:k (pt g (i*sz) 0)):aZ (mX n sz (.pointer (some ⟨g,0,none⟩)) (I i)) k:=
 dF (b:=g) (o:=0) (j:=0) hi (by simpa [pt] using hk)
set_option maxRecDepth 100000
attribute [local irreducible] aZ Br oM rI sQ Bi lE tH kU Qb gI lF pD pW oR kH zH tJ W2 Ut Qa Nn T3 P6 Km Lx T2 jR mX rV iO copyV iB vL Va Uo Fm kB Lu Sv Vn nF rH wK zB Cl wX T1 rM qX jI gS cI cA
variable {G:Bg} {h:AH} {L L':List HP}
theorem xV {k:Int} {Q:Value→AH→Prop} (hk:Q (.bool (decide (Nc k))) h):Cl Pr K 264 [I k] h Q:=by
 refine cW (dM (aS (fun h1=>aU ?_) (fun h1=>?_)))
 ·show Q _ _;rw[show decide (k<14)=decide (Nc k) from decide_eq_decide.2 (by unfold Nc;omega)];exact hk
 ·show Q _ _;rw[show false=decide (Nc k) from(decide_eq_false (by unfold Nc;omega)).symm];exact hk
theorem aBo {k:Int} (h:Nc k):∃n:Nat,k=(n:Int)∧1≤n∧n<14:=⟨k.toNat,by unfold Nc at h;omega,by unfold Nc at h;omega,by unfold Nc at h;omega⟩
theorem Yt {k:Int} {Q:Value→AH→Prop} (hkd:Ob G 2 tZ) (hs:Hs G h L) (hk:Q (if Nc k then .tuple ⟨[I (K7 k.toNat),I 0]⟩ else .tuple ⟨[I 0,I 15]⟩) h):Cl Pr K 214 [I k] h Q:=by
 refine cW (xV (bU (dI (aS (fun h1=>?_) (fun h1=>?_)))))
 ·rw[if_pos h1] at hk
  obtain⟨n,rfl,hn1,hn⟩:=aBo h1
  refine mF hn (aA (xB hs hkd (o:=n*9) (j:=1) (Wa hn) hk))
 ·rw[if_neg h1] at hk;exact hk
theorem Ds {n:aQ} {f:Int} (hf:1≤f∧f≤13) {Q:Value→AH→Prop} (hs:Hs G h L) (hk:∀h',Hs G h' L→Q (I (ga n f)) h'):Cl Pr K 266 [.agg ⟨n.enc⟩,I f] h Q:=by
 refine cW (dJ hs ?_)
 intro p h hs
 have hk:=hk h hs.tail
 rcases f13 hf with rfl|rfl|rfl|rfl|rfl|rfl|rfl|rfl|rfl|rfl|rfl|rfl|rfl
 all_goals
  repeat' first
   |refine bC ?_
   |refine bM (by decide) ?_
   |refine aI (by decide) ?_
   |refine bW ?_
   |refine bW ?_
   |refine bW ?_
   |refine bW ?_
   |refine bW ?_
   |refine bW ?_
   |refine bW ?_
   |refine bW ?_
   |refine bW ?_
   |refine bW ?_
   |refine bW ?_
   |refine bW ?_
   |refine aA ?_
   |refine fA (by omega) (by omega) ?_
   |refine aC hs rfl ?_
 all_goals first|exact hk|skip
 refine dA (fun hb=>?_) (fun hb=>?_)
 ·unfold ga at hk;show Q _ _;simpa [hb] using hk
 ·unfold ga at hk;show Q _ _;simpa [hb] using hk
theorem yo {p:Nat} {n:aQ} {f v:Int} (hf:1≤f∧f≤13) {Q:Value→AH→Prop} (hs:Hs G h (aE p 0 n.enc::L)) (hk:∀h',Hs G h' (aE p 0 (zl n f v).enc::L)→Q (.tuple ⟨[]⟩) h'):Cl Pr K 268 [pt p 0 0,I f,I v] h Q:=by
 refine cW ?_
 rcases f13 hf with rfl|rfl|rfl|rfl|rfl|rfl|rfl|rfl|rfl|rfl|rfl|rfl|rfl
 all_goals
  repeat' first
   |refine bC ?_
   |refine aX ?_
   |refine bM (by decide) ?_
   |refine aI (by decide) ?_
   |refine bW ?_
   |refine bW ?_
   |refine bW ?_
   |refine bW ?_
   |refine bW ?_
   |refine bW ?_
   |refine bW ?_
   |refine bW ?_
   |refine bW ?_
   |refine bW ?_
   |refine bW ?_
   |refine aB ?_
   |refine aA ?_
   |refine fA (by omega) (by omega) ?_
  refine bE hs rfl rfl rfl rfl ?_
  intro h hs
  exact hk h hs
theorem Hx {a b:Prop} [Decidable a] [Decidable b] {Q:Value→AH→Prop} (h1:a↔b) (hk:Q (.bool (decide b)) h):Q (.bool (decide a)) h:=by rwa [show decide a=decide b from decide_eq_decide.2 h1]
theorem Ub {b:Prop} [Decidable b] {Q:Value→AH→Prop} (h1:¬b) (hk:Q (.bool (decide b)) h):Q (.bool false) h:=by rwa [decide_eq_false h1] at hk
theorem Fl {b:Prop} [Decidable b] {Q:Value→AH→Prop} (h1:b) (hk:Q (.bool (decide b)) h):Q (.bool true) h:=by rwa [decide_eq_true h1] at hk
theorem N4 {C:bQ} (hC:C.Ok) {f v:Int} (hf:1≤f∧f≤13) {Q:Value→AH→Prop} (hl:Ob G 0 fB) (hs:Hs G h L) (hk:∀h',Hs G h' L→Q (.bool (decide (qx C f v))) h'):Cl Pr K 267 [.agg ⟨C.enc⟩,I f,I v] h Q:=by
 refine cW (dJ hs ?_)
 intro p h hs
 have hk1:=hk h hs.tail
 unfold qx at hk hk1
 rcases f13 hf with rfl|rfl|rfl|rfl|rfl|rfl|rfl|rfl|rfl|rfl|rfl|rfl|rfl
 all_goals
  repeat' first
   |refine bM (by decide) ?_
   |refine aI (by decide) ?_
   |refine bC ?_
   |refine bW ?_
   |refine bW ?_
   |refine bW ?_
   |refine bW ?_
   |refine bW ?_
   |refine bW ?_
   |refine bW ?_
   |refine bW ?_
   |refine bW ?_
   |refine bW ?_
   |refine bW ?_
 all_goals simp only[Int.reduceEq,if_true,if_false,or_true,or_self,or_false,decide_true] at hk hk1
 ·exact dM (aS (fun h1=>aA (aC hs rfl (aU (Hx (by omega) hk1)))) (fun h1=>Ub (by omega) hk1))
 ·exact dM (aS (fun h1=>aN hs (by decide) (l:=C.enc) rfl rfl (oX hC hl hs fun h hs=>aU (Hx (by omega) (hk h hs.tail)))) (fun h1=>Ub (by omega) hk1))
 ·exact dM (aS (fun h1=>xR (Hx (by omega) hk1)) (fun h1=>Ub (by omega) hk1))
 ·exact dM (aS (fun h1=>xR (Hx (by omega) hk1)) (fun h1=>Ub (by omega) hk1))
 ·exact dM (aS (fun h1=>xR (Hx (by omega) hk1)) (fun h1=>Ub (by omega) hk1))
 ·exact(aS (fun h1=>Fl (by omega) hk1) (fun h1=>bC (aS (fun h2=>Fl (by omega) hk1) (fun h2=>bC (Hx (by omega) hk1)))))
 ·exact(aS (fun h1=>Fl (by omega) hk1) (fun h2=>bC (Hx (by omega) hk1)))
 ·exact hk1
 ·exact hk1
 ·exact(aS (fun h1=>Fl (by omega) hk1) (fun h2=>bC (Hx (by omega) hk1)))
 ·exact(aS (fun h1=>Fl (by omega) hk1) (fun h2=>bC (Hx (by omega) hk1)))
 ·exact dM (aS (fun h1=>aU (Hx (by omega) hk1)) (fun h1=>Ub (by omega) hk1))
 ·exact dM (aS (fun h1=>aA (aC hs rfl (aU (Hx (by omega) hk1)))) (fun h1=>Ub (by omega) hk1))
end Go.Proofs.YtajjljbmfdboaaaGreatDoor.N
end
