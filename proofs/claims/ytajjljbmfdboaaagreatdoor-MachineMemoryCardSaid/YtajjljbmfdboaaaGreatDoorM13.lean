/- A part of the proof. -/
import Derived.Test.YtajjljbmfdboaaaGreatDoorM12
import Derived.Test.YtajjljbmfdboaaaGreatDoorM10
import Derived.Test.YtajjljbmfdboaaaGreatDoorM11
import Derived.Test.YtajjljbmfdboaaaGreatDoorM9
section
open Go Go.Ab
attribute [local irreducible] bE Br rT vO vB Dv nP xS mZ Ti iN nG pU sP rF lJ Cy xP Ya Xx Tj R3 Xc Td Rx Ub U1 mF pL vA kI copyV jQ zM Xp Yw Iz mA Pp Wr X7 pT tO Ao Cx Cl Bc Xb uL uF lI iQ cS cB
namespace Go.Proofs.YtajjljbmfdboaaaGreatDoor.H
open Go Go.Ab Go.Hm
section
set_option maxRecDepth 100000
variable {G:Bg} {h:AH} {L L':List HP}
theorem yY {C:bM} {hb mb b o cap:Nat} {x:Int} {Q:Value->AH->Prop} (e:Hs G h L) [m:Has (aG hb 0) L (mM mb C b o cap) L'] (d:Q (.bool (decide (C.has x))) h):Cl Pr K 125 [pt hb 0 0,I x] h Q:=by
 refine cW (sa (fK (dO (aX (fun a=>?_) (fun a=>?_)))));refine aB (aA (aC e rfl (cC (aZ ?_))));show Q _ _;rw[show decide (x<(C.lines:Int))=decide (C.has x) from decide_eq_decide.2 ⟨fun h=>⟨a,h⟩,fun h=>h.2⟩];exact d;show Q _ _;rw[show false=decide (C.has x) from(decide_eq_false (fun h=>a h.1)).symm];exact d
theorem Rz {C:bM} {H:kN} {b o l:Nat} (a:l<C.lines) (d:Hs G h L) [k:dX (dK C.lines fun i=>eR b (o+i*25) (H i).1) L L']:Hs G h (eR b (o+l*25) (H l).1::A4 b o C.lines H l::L'):=
 (d.front (dK C.lines fun i=>eR b (o+i*25) (H i).1)).mW l a
theorem Cp (C:bM) (H:kN) (hb mb b o cap:Nat) {a L2 d e:List HP} (f:Hs G h L) [g:dX (aG hb 0 (mM mb C b o cap)) L a] [k:dX (fP G C.lines mb C (fun i=>(H i).2)) a L2]
  [q:dX (hole G 25 247 (some ⟨b,o,none⟩) cap C.lines b o) L2 d] [t:dX (dK C.lines fun i=>eR b (o+i*25) (H i).1) d e]:Hs G h (gP G hb C H::e):=
 tD (mb:=mb) (b:=b) (o:=o) (cap:=cap) (f.perm (g.perm.trans ((k.perm.trans ((q.perm.trans (t.perm.cons _)).cons _)).cons _)))
section
variable {C:bM} {hb mb b o cap p l:Nat} {H:kN} {n:aJ} {Q:Value->AH->Prop}
theorem aF2 (hC:C.Ok) (u:Ob G 0 fV) (q:l<C.lines) (w:n.line=l) (t:0<=n.core/\n.core<4) (E:(H l).1.Inv) (J:(H l).1.waits.length<2^30)
  (d:Hs G h (aG p 0 n.enc::aG hb 0 (mM mb C b o cap)::fP G C.lines mb C (fun i=>(H i).2)::hole G 25 247 (some ⟨b,o,none⟩) cap C.lines b o::dK C.lines (fun i=>eR b (o+i*25) (H i).1)::L))
  (f:∀v B,Hs G B (eT v (lX.take (H l) l n).2.1::gP G hb C (aR H l (lX.take (H l) l n).1)::L)->Q (.tuple ⟨[v,I (lX.take (H l) l n).2.2]⟩) B):
  Dd 200 6 [] Q [(pt hb 0 0),(pt p 0 0)] h:=by
 unfold lX.take at f
 refine bW (bB d ?_)
 intro K h d
 have d:=Rz (H:=H) (b:=b) (o:=o) q d
 have same:∀h,Hs G h (eR b (o+l*25) (H l).1::A4 b o C.lines H l::aG p 0 n.enc::aG hb 0 (mM mb C b o cap)::fP G C.lines mb C (fun i=>(H i).2)::hole G 25 247 (some ⟨b,o,none⟩) cap C.lines b o::L)->Hs G h (eT (.slice none 0 0) []::gP G hb C (aR H l (H l))::L):=fun h d=>
  qQ ((eU hb C H l (H l).1 (H l).2 _ mb b o cap q fC.symm d).to)
 have F:Hs G h (eR b (o+l*25) (H l).1::A4 b o C.lines H l::aG p 0 n.enc::aG hb 0 (mM mb C b o cap)::fP G C.lines mb C (fun i=>(H i).2)::hole G 25 247 (some ⟨b,o,none⟩) cap C.lines b o::L):=d.to
 obtain⟨y,z,d⟩:=dZ d
 refine aB (aA (aC d rfl (aA (aC d rfl ?_))))
 rw[w]
 refine dV q (aA (aC d rfl (bJ (aX (fun A=>bW ?_) (fun A=>bW ?_)))))
 .rw[aLb A] at f;refine bB d ?_;intro x h d;refine aB (aA (aC d rfl (cE (eO (dH (fun g=>?_) (fun g=>?_))))))
  .refine aB (aA (aA (aC d rfl (aA (aC d rfl (bC (aX (fun k=>?_) (fun k=>bW ?_))))))))
   .rw[aLb (.inr k)] at f;exact f _ _ (same _ (eG b (o+l*25) (H l).1 y z d rfl rfl rfl).to)
   .rw[aLa (by rw[g];simpa using k)] at f;have d:=eG b (o+l*25) (H l).1 y z d rfl rfl rfl;refine dj d fun h d=>f _ _ ?_;exact qQ ((eU hb C H l (H l).1.free (H l).2 _ mb b o cap q fC.symm d).to)
  .rw[aLb (.inl g)] at f;exact f _ _ (same _ (eG b (o+l*25) (H l).1 y z d rfl rfl rfl).to)
 .rw[aLa A] at f;refine bJ (aX (fun g=>bW ?_) (fun g=>bW ?_))
  .rw[aLb g] at f;refine bB d ?_;intro x h d;refine aA (aC d rfl (aB (aA (fU t.1 t.2 (aC d (v:= .bool ((H l).1.asked n.core.toNat)) ?_ (cE (eO (dH (fun k=>?_) (fun k=>?_)))))))))
   .have:n.core.toNat=0\/n.core.toNat=1\/n.core.toNat=2\/n.core.toNat=3:=by omega
    rcases this with e|e|e|e<;>rw[e]<;>rfl
   .rw[aLa (by rw[k];simp)] at f;refine aU d (by decide) (l:=n.enc) rfl rfl ?_;have d:=eG b (o+l*25) (H l).1 y z d rfl rfl rfl;have d:=eU hb C H l (H l).1 (H l).2 _ mb b o cap q fC.symm d;rw[show aR H l ((H l).1,(H l).2)=H from qB] at d;exact xj hC u d q w t E.core fun v h d=>f _ _ d.to
   .rw[aLb k] at f;exact f _ _ (same _ (eG b (o+l*25) (H l).1 y z d rfl rfl rfl).to)
  .rw[aLa g] at f;refine bB d ?_;intro x h d;refine aB (aA (aC d rfl (aU d (by decide) (l:=n.enc) rfl rfl (aQ (c:=n.enc) rfl ?_))));refine jZ d rfl rfl rfl rfl rfl ?_;intro a h d;refine sI d (by omega) ?_;intro a4 D h d;dsimp only;refine aB (aA (bL d rfl rfl rfl rfl ?_));intro h d;refine cY dJ (f _ _ ?_);have d:=eG b (o+l*25) ((H l).1.wait n) a4 D d (by simp[Row.enc,dR,Row.wait]) (by simp[Row.wait]) (by simp[zF,Row.wait]);exact qQ ((eU hb C H l ((H l).1.wait n) (H l).2 _ mb b o cap q fC.symm d).to)
end
end
section
set_option maxRecDepth 100000
variable {G:Bg} {h:AH} {L L':List HP}
section
variable {C:bM} {hb mb b o cap p l:Nat} {H:kN} {n:aJ} {Q:Value->AH->Prop}
theorem aDv (hC:C.Ok) (k:Ob G 0 fV) (x:yD C H (2^30 - 1)) {t:Value}
  (a:Hs G h (aG p 0 n.enc::aG hb 0 (mM mb C b o cap)::fP G C.lines mb C (fun i=>(H i).2)::hole G 25 247 (some ⟨b,o,none⟩) cap C.lines b o::dK C.lines (fun i=>eR b (o+i*25) (H i).1)::L)) (u:fM n.kind)
  (d:∀v w,Hs G w (eT v (fF C H n).2.1::gP G hb C (fF C H n).1::L)->Q (.tuple ⟨[v,I (fF C H n).2.2]⟩) w):Dd 200 4 [] Q [(pt hb 0 0),(pt p 0 0),t] h:=by
 unfold fF at d
 rw[aLa (by simpa using u)] at d
 have A:C.aE<=4:=hC.1.2
 have no:¬((0<=n.core/\n.core<C.aE)/\C.has n.line)->∀h,Hs G h (aG p 0 n.enc::aG hb 0 (mM mb C b o cap)::fP G C.lines mb C (fun i=>(H i).2)::hole G 25 247 (some ⟨b,o,none⟩) cap C.lines b o::dK C.lines (fun i=>eR b (o+i*25) (H i).1)::L)->Q (.tuple ⟨[.slice none 0 0,I 10]⟩) h:=fun B h a=>by
  rw[aLa B] at d;exact d _ _ (qQ (Cp C H hb mb b o cap a)).to
 refine bW (bB a ?_)
 intro D h a
 refine aA (aC a rfl (aZ (aX (fun y=>no (by omega) _ a.to) (fun y=>?_))))
 refine aA (aC a rfl (aB (aA (aA (aC a rfl (dO (aX (fun z=>no (by omega) _ a.to) (fun z=>?_))))))))
 refine aA (aC a rfl (yY a (cE (eO (aX (fun g=>?_) (fun g=>no (fun e=>g e.2) _ a.to))))))
 rw[aLb ⟨by omega,g⟩] at d
 obtain⟨l,q⟩:=Int.eq_ofNat_of_zero_le g.1
 have f:l<C.lines:=by have:=g.2;omega
 have e:n.line.toNat=l:=by omega
 rw[e] at d
 rw[q] at d
 dsimp only at d
 exact aF2 (mb:=mb) (b:=b) (o:=o) (cap:=cap) hC k f q (by omega) (x l f).1 (by have:=(x l f).2;omega) a.to d
end
theorem F3 {C:bM} (hC:C.Ok) {hb:Nat} {H:kN} {n:aJ} {Q:Value->AH->Prop} (e:Ob G 0 fV) (y:yD C H (2^30 - 1)) (d:Hs G h L) [m:Has (gP G hb C) L H L']
  (f:∀v i,Hs G i (eT v (fF C H n).2.1::gP G hb C (fF C H n).1::L')->Q (.tuple ⟨[v,I (fF C H n).2.2]⟩) i):Cl Pr K 200 [pt hb 0 0,.agg ⟨n.enc⟩] h Q:=by
 refine cW (dS (m.of d) ?_)
 intro p h d
 obtain⟨mb,b,o,cap,d⟩:=rS d.mK
 have a:∀t,fM n.kind->Dd 200 4 [] Q [(pt hb 0 0),(pt p 0 0),t] h:=fun t g=>aDv (mb:=mb) (b:=b) (o:=o) (cap:=cap) hC e y d.to g f
 have no:¬fM n.kind->Q (.tuple ⟨[.slice none 0 0,I 15]⟩) h:=fun z=>by
  unfold fF at f;rw[aLb z] at f;exact f _ _ (qQ (Cp C H hb mb b o cap d)).to
 refine dG (bZ (bW (aA (aC d rfl (bJ (aX (fun k=>bW (bV k (a _ (by unfold fM;omega)))) (fun k=>bW (bJ (aX (fun q=>bW (bV q (a _ (by unfold fM;omega)))) (fun q=>bW ?_))))))))))
 refine bJ (aX (fun u=>bW (bV u (a _ (by unfold fM;omega)))) (fun u=>bW ?_))
 refine bJ (aX (fun w=>bW (bV w (a _ (by unfold fM;omega)))) (fun w=>bW ?_))
 exact bJ (aX (fun x=>a _ (by unfold fM;omega)) (fun x=>no (by unfold fM;omega)))
theorem y1 {C:bM} {hb:Nat} {H:kN} {x:Int} {Q:Value->AH->Prop} (q:yD C H (2^30 - 1)) (d:Hs G h L) [m:Has (gP G hb C) L H L']
  (e:∀i,Hs G i (gP G hb C (jI C H x).1::L')->Q (I (jI C H x).2) i):Cl Pr K 263 [pt hb 0 0,I x] h Q:=by
 obtain⟨mb,b,o,cap,d⟩:=rS (m.of d)
 unfold jI at e
 refine cW (dG (bZ (bW (yY d (cE (eO (aX (fun f=>bW ?_) (fun f=>?_))))))))
 .rw[aLb f] at e;obtain⟨l,rfl⟩:=Int.eq_ofNat_of_zero_le f.1;simp only[lX.yj,Int.toNat_natCast] at e;have g:l<C.lines:=by have:=f.2;omega
  have d:=Rz (H:=H) (b:=b) (o:=o) g d
  obtain⟨u,v,d⟩:=dZ d
  have t:=(q l g).2
  refine aB (aA (aC d rfl (dV g (aB (aA (aC d rfl (aQ (c:=(mX l).enc) rfl (aQ (c:=(mX l).enc) rfl ?_))))))))
  refine dW d rfl rfl rfl ?_
  intro a h d
  refine sI d (by omega) ?_
  intro a4 k h d
  dsimp only
  refine aB (aA (bL d rfl rfl rfl rfl ?_))
  intro h d
  refine e _ ?_
  have d:=eG b (o+l*25) ((H l).1.wait (mX l)) a4 k d (by simp[Row.enc,dR,Row.wait]) (by simp[Row.wait]) (by simp[zF,Row.wait])
  exact(eU hb C H l ((H l).1.wait (mX l)) (H l).2 _ mb b o cap g fC.symm d).to
 .rw[aLa f] at e;exact e _ (Cp C H hb mb b o cap d).to
structure ah (G:Bg) (A:HP) (jv:Value) (j:Int->Int->Int×Bool):Prop where
 ne:∀k:Value->Prop,k (.bool false)->bE (Td true .eql jv .nilIface) k
 may:∀(h:AH) (L M:List HP) (w l:Int) (Q:Value->AH->Prop),L.Perm (A::M)->Hs G h L->(∀h',Hs G h' L->Q (.tuple ⟨[I (j w l).1,.bool (j w l).2]⟩) h')->Cl Pr K 219 [jv,I w,I l] h Q
section
variable {C:bM} {hb mb b o cap p l:Nat} {H:kN} {n:aJ} {r:Row} {Q:Value->AH->Prop} {j:Int->Int->Int×Bool} {jv:Value}
def Kf (G:Bg) (hb p mb b o cap l:Nat) (C:bM) (H:kN) (n:aJ) (r:Row):List HP:=
 [eR b (o+l*25) r,aG p 0 n.enc,aG hb 0 (mM mb C b o cap),fP G C.lines mb C (fun i=>(H i).2),hole G 25 247 (some ⟨b,o,none⟩) cap C.lines b o,A4 b o C.lines H l]
theorem x9 (q:l<C.lines) (g:n.kind≠3/\n.kind≠1/\n.kind≠2) (a:Hs G h (Kf G hb p mb b o cap l C H n r++L)) {t:Value}
  (d:∀v k,Hs G k (eT v (r.begun l (H l).2 n (fun w=>j w l)).2::gP G hb C (aR H l (r.begun l (H l).2 n (fun w=>j w l)).1)::L)->Q (.tuple ⟨[v,I 0]⟩) k):Dd 158 13 [] Q [(pt hb 0 0),(I l),jv,(pt b (o+l*25) 0),(pt p 0 0),t] h:=by
 unfold Row.begun at d
 rw[aLa g.1,aLa (by omega)] at d
 simp only[Kf,List.cons_append,List.nil_append] at a
 refine bW (wM a fun a=>bJ (aX (fun f=>?_) (fun f=>bW (bB a ?_))))
 .rw[aLb f] at d;exact d _ _ (qQ ((eU hb C H l r (H l).2 _ mb b o cap q fC.symm a).to))
 .rw[aLa f] at d;intro y h a;refine aU a (by decide) (l:=n.enc) rfl rfl ?_;obtain⟨u,x,a⟩:=dZ (a.front (eR b (o+l*25) r));refine aB (aA (bL a rfl rfl rfl rfl ?_));intro h a;have i:=a;refine aB (aA (bL a rfl rfl rfl rfl ?_));intro h a;refine cY dJ (cY (aU i (by decide) (l:=n.enc) rfl rfl (qV (by simp[oI,aJ.enc]))) ?_);have a:=eG b (o+l*25) (r.Nl n) u x a rfl rfl rfl;have e:(r.Nl n).gA (-1)=r.gA (-1):=rfl;refine O6 a fun v h a=>d _ _ ?_;rw[e] at a;exact(eU hb C H l ((r.Nl n).iA (r.gA (-1))) (H l).2 _ mb b o cap q fC.symm a).to
theorem Wv (hC:C.Ok) (f:Ob G 0 fV) {A:HP} {x:List HP} (y:ah G A jv j) (hA:L.Perm (A::x)) (k:l<C.lines) (q:0<=n.core/\n.core<4) (t: -1<=r.owner/\r.owner<4) (i:n.kind=1\/n.kind=2) (d:Hs G h (Kf G hb p mb b o cap l C H n r++L))
  (e:∀v u,Hs G u (eT v (r.begun l (H l).2 n (fun w=>j w l)).2::gP G hb C (aR H l (r.begun l (H l).2 n (fun w=>j w l)).1)::L)->Q (.tuple ⟨[v,I 0]⟩) u):Dd 158 12 [] Q [(pt hb 0 0),(I l),jv,(pt p 0 0)] h:=by
 unfold Row.begun at e
 rw[aLa (by omega),aLb i] at e
 simp only[Kf,List.cons_append,List.nil_append] at d
 refine bW (aA (aC d rfl (y.may _ _ _ _ _ _ ((hA.append_left (Kf G hb p mb b o cap l C H n r)).trans List.perm_middle) d fun h d=>?_)))
 simp only[Kf,List.cons_append,List.nil_append] at d
 refine aH rfl (aH rfl (cE (eO (dH (fun g=>?_) (fun g=>?_)))))
 .rw[aLb g] at e;refine aU d (by decide) (l:=n.enc) rfl rfl ?_;have d:=eU hb C H l r (H l).2 _ mb b o cap k fC.symm d;refine Hz hC f d k q (by simp only[dC];exact t) fun v h d=>e _ _ ?_;simp only[dC,tN] at d;exact d.to
 .rw[aLa (by rw[g];simp)] at e;refine aA (aC d rfl (aQ (c:=(nC 9 n.core l).enc) rfl (aQ (c:=(nC 9 n.core l).enc) rfl (dW d rfl rfl rfl ?_))));intro a h d;refine e _ _ ?_;have d:=D8 (n:=nC 9 n.core l) rfl d;exact(eU hb C H l r (H l).2 _ mb b o cap k fC.symm d).to
theorem zj (hC:C.Ok) (i:Ob G 0 fV) (k:l<C.lines) (g:0<=n.core/\n.core<4) (u:n.kind=3) (d:Hs G h (Kf G hb p mb b o cap l C H n r++L))
  (f:∀v x,Hs G x (eT v (r.begun l (H l).2 n (fun w=>j w l)).2::gP G hb C (aR H l (r.begun l (H l).2 n (fun w=>j w l)).1)::L)->Q (.tuple ⟨[v,I 0]⟩) x):Dd 158 6 [] Q [(pt hb 0 0),(I l),(pt b (o+l*25) 0),(pt p 0 0)] h:=by
 unfold Row.begun at f
 rw[aLb u] at f
 simp only[Kf,List.cons_append,List.nil_append] at d
 refine bW (bB d ?_)
 intro A h d
 obtain⟨y,z,d⟩:=dZ (d.front (eR b (o+l*25) r))
 refine aB (aA (aC d rfl (aA (aC d rfl (bJ (aX (fun q=>?_) (fun q=>?_)))))))
 .have d:=eG b (o+l*25) r y z d rfl rfl rfl;refine aA (aC d rfl (dH (fun t=>bW (bB d ?_)) (fun t=>bW ?_)))
  .rw[aLb ⟨q,t⟩] at f;intro A h d;refine aB (aA (aC d rfl (aA (aU d (by decide) (l:=Nu (n.d0,n.d1)) rfl rfl (Gq hC i d k fun h d=>?_)))));refine aA (aC d rfl (F1 d g fun h d=>?_));refine aA (aC d rfl (aQ (c:=(nC 10 n.core l).enc) rfl (aQ (c:=(nC 10 n.core l).enc) rfl (dW d rfl rfl rfl ?_))));intro a h d;refine f _ _ ?_;have d:=D8 (n:=nC 10 n.core l) rfl d;exact(eU hb C H l (r.leave n.core) (n.d0,n.d1) _ mb b o cap k rfl d).to
  .rw[aLa (by rw[t];simp)] at f;refine aA (aC d rfl (F1 d g fun h d=>?_));refine aA (aC d rfl (aQ (c:=(nC 10 n.core l).enc) rfl (aQ (c:=(nC 10 n.core l).enc) rfl (dW d rfl rfl rfl ?_))));intro a h d;refine f _ _ ?_;have d:=D8 (n:=nC 10 n.core l) rfl d;exact(eU hb C H l (r.leave n.core) (H l).2 _ mb b o cap k fC.symm d).to
 .rw[aLa (fun e=>q e.1)] at f;have d:=eG b (o+l*25) r y z d rfl rfl rfl;refine aA (aC d rfl (F1 d g fun h d=>?_));refine aA (aC d rfl (aQ (c:=(nC 10 n.core l).enc) rfl (aQ (c:=(nC 10 n.core l).enc) rfl (dW d rfl rfl rfl ?_))));intro a h d;refine f _ _ ?_;have d:=D8 (n:=nC 10 n.core l) rfl d;exact(eU hb C H l (r.leave n.core) (H l).2 _ mb b o cap k fC.symm d).to
end
theorem qi {C:bM} (hC:C.Ok) {hb:Nat} {H:kN} {x:Int} {jv:Value} {j:Int->Int->Int×Bool} {N:Nat} {Q:Value->AH->Prop} (g:Ob G 0 fV) {A:HP} {U:List HP} (J:ah G A jv j) (X:yD C H N) (a:Hs G h L) [m:Has (gP G hb C) L H L'] (hA:L'.Perm (A::U))
  (d:∀v T,Hs G T (eT v (iC C H x (fun w=>j w x)).2.1::gP G hb C (iC C H x (fun w=>j w x)).1::L')->Q (.tuple ⟨[v,I (iC C H x (fun w=>j w x)).2.2]⟩) T):Cl Pr K 158 [pt hb 0 0,I x,jv] h Q:=by
 obtain⟨mb,b,o,cap,a⟩:=rS (m.of a)
 unfold iC at d
 refine cW (dG (bZ (bW (yY a (cE (eO (aX (fun y=>bW (J.ne _ (bZ (bW ?_)))) (fun y=>?_))))))))
 rotate_left
 .rw[aLa y] at d;exact d _ _ (qQ (Cp C H hb mb b o cap a)).to
 rw[aLb y] at d
 obtain⟨l,rfl⟩:=Int.eq_ofNat_of_zero_le y.1
 have k:l<C.lines:=by have:=y.2;omega
 simp only[Int.toNat_natCast] at d
 have a:=Rz (H:=H) (b:=b) (o:=o) k a
 obtain⟨R,S,a⟩:=dZ a
 have same:∀h,Hs G h (eR b (o+l*25) (H l).1::A4 b o C.lines H l::aG hb 0 (mM mb C b o cap)::fP G C.lines mb C (fun i=>(H i).2)::hole G 25 247 (some ⟨b,o,none⟩) cap C.lines b o::L')->Hs G h (eT (.slice none 0 0) []::gP G hb C (aR H l (H l))::L'):=fun h a=>
  qQ ((eU hb C H l (H l).1 (H l).2 _ mb b o cap k fC.symm a).to)
 unfold lX.begin at d
 refine aB (aA (aC a rfl (dV k (aB (aA (aC a rfl (dH (fun E=>?_) (fun E=>bW ?_))))))))
 .rw[aLb E] at d;exact d _ _ (same _ (eG b (o+l*25) (H l).1 R S a rfl rfl rfl).to)
 rw[aLa (by rw[E];simp)] at d
 refine aB (aA (aC a rfl (cC (bJ (aX (fun F=>?_) (fun F=>bW ?_))))))
 .have q:(H l).1.waits=[]:=List.eq_nil_of_length_eq_zero (by omega);rw[q] at d;exact d _ _ (same _ (eG b (o+l*25) (H l).1 R S a rfl rfl rfl).to)
 .cases q:(H l).1.waits with
  |nil=>rw[q] at F;simp at F
  |cons n w=>
   rw[q] at d
   dsimp only at d
   have t:=(X l k).1
   have u:=t.waits n (by rw[q];exact List.mem_cons_self)
   have f:=a.front (dI 9 175 R S ((H l).1.waits.length,eP (H l).1.waits))
   rw[q] at f
   simp only[List.length_cons,M5] at f
   obtain⟨Y,Z,rfl,HH,B,_⟩:=f.oW (by omega)
   refine aB (aA (aC a rfl ?_))
   rw[q]
   refine dV (i:=0) (by simp) (Lh B (by decide) (l:=n.enc) (by simp[aJ.enc]) rfl ?_)
   clear B
   refine bP f ?_
   intro p h a
   refine bH a rfl rfl rfl rfl ?_
   intro h a
   refine aB (aA (aC a rfl ?_))
   rw[q]
   refine qb (e:=175) a ?_
   intro V W a
   refine aB (aA (bL a rfl rfl rfl rfl ?_))
   intro h a
   have a:=eG b (o+l*25) ((H l).1.next w) V W a rfl rfl (by simp[Row.next,aJ.enc])
   have a:Hs G h (Kf G hb p mb b o cap l C H n ((H l).1.next w)++L'):=by
    simp only[Kf,List.cons_append,List.nil_append];exact a.to
   have z:=a
   simp only[Kf,List.cons_append,List.nil_append] at z
   refine aA (aC z rfl (bJ (aX (fun O=>zj (j:=j) hC g k u O a d) (fun O=>bW (bJ (aX (fun D=>bW (bV D (Wv (r:=(H l).1.next w) hC g J hA k u t.owner (.inl D) a d))) (fun D=>bW (bJ (aX (fun P=>Wv (r:=(H l).1.next w) hC g J hA k u t.owner (.inr P) a d) (fun P=>x9 k ⟨O,D,P⟩ a d))))))))))
end
end Go.Proofs.YtajjljbmfdboaaaGreatDoor.H
end
namespace Go.Proofs.YtajjljbmfdboaaaGreatDoor
open Go Go.Ab Go.Hm Go.At Go.Mc
section
theorem aE3 {a b c d:Bool} {k:Value->Prop} (g:k (.bool (!(a||b||c||d)))) {f:Bool} (hc:f=true:=by kernel_rfl):Ub f [1,1,1,1] .eql (.agg ⟨[.bool a,.bool b,.bool c,.bool d]⟩) (.agg ⟨[.bool false,.bool false,.bool false,.bool false]⟩) k:=by
 have e:Rx [1,1,1,1] .eql (.agg ⟨[.bool a,.bool b,.bool c,.bool d]⟩) (.agg ⟨[.bool false,.bool false,.bool false,.bool false]⟩)=some (.bool (!(a||b||c||d))):=by cases a<;>cases b<;>cases c<;>cases d<;>kernel_rfl
 exact⟨hc,_,e,g⟩
set_option maxRecDepth 100000
attribute [local irreducible] bE Br rT vO vB Dv nP xS mZ Ti iN nG pU sP rF lJ Cy xP Ya Xx Tj R3 Xc Td Rx Ub U1 mF pL vA kI copyV jQ zM Xp Yw Iz mA Pp Wr X7 pT tO Ao Cx Cl Bc Xb uL uF lI iQ cS cB
variable {G:Bg} {h:AH} {L L' M:List HP} {Q:Value->AH->Prop} {C:bM} {m:Mon} {p:Nat}
theorem Qu {g:Int} (d:iF C m) (hC:C.Ok) (a:m.has g):∃n:Nat,g=n/\n<m.dN.length/\n<16:=by
 have:=d.len;have:=hC.2.1;unfold Mon.has at a;exact⟨g.toNat,by omega,by omega,by omega⟩
theorem pk {r:Mc.jG} {i:Nat} (a:i<4):dR r.enc (0+8+i*1) [.bool false]=(r.heard i).enc:=by
 have:i=0\/i=1\/i=2\/i=3:=by omega
 rcases this with rfl|rfl|rfl|rfl<;>rfl
theorem P2 {f:Nat->Option Mc.jG} {g:Nat} {r:Mc.jG}:Lo (gF f) g (some (.agg ⟨r.enc⟩))=gF (aR f g (some r)):=H4 (x:=some r)
theorem Om {g core:Int} (hC:C.Ok) (F:iF C m) (a:Hs G h L) [J:Has (fY C p) L m L'] (d:∀y,Hs G y (fY C p (m.dropped C.aE g core).1::L')->Q (.tuple ⟨[.bool (m.dropped C.aE g core).2.1,I (m.dropped C.aE g core).2.2]⟩) y):Cl Pr K 210 [pt p 0 0,I g,I core] h Q:=by
 have O:=hC.1;unfold Mon.dropped at d;obtain⟨t,b,a⟩:=kT (J.of a);refine cW (dG (bZ (bW (aB (aA (aC (b:=p) (o:=0) a rfl (Ci (m:=m) a fun h a=>?_)))))));by_cases w:m.has g;rotate_left;rw[aLa w];rw[aLb w] at d;exact aH rfl (aH rfl (bP a fun q h a=>bH (b:=q) a rfl rfl rfl rfl fun h a=>bC (bV (by omega) (d _ (dT (t:=t) (b:=b) a.to)))));rw[aLb w];rw[aLa (by simpa using w)] at d;obtain⟨n,rfl,P,u⟩:=Qu F hC w;refine aH rfl (aH rfl (bP a fun q h a=>bH (b:=q) a rfl rfl rfl rfl fun h a=>bC (aT (by omega) (bW (aB (aA (aC (b:=p) (o:=0) a rfl (P4 (m:=m) a (bP a fun v h a=>bH (b:=v) a rfl rfl rfl rfl fun h a=>aA (aC (b:=v) (o:=0) a rfl (bC (aX (fun k=>?_) (fun k=>?_)))))))))))));cases hr:m.run (n:Int) with
 |none=>rw[hr] at d;exact d _ (dT (t:=t) (b:=b) a.to)
 |some r=>
  rw[hr] at k d;simp only[Option.getD_some] at k;dsimp only at d;rw[aLb k] at d;exact d _ (dT (t:=t) (b:=b) a.to)
 cases hr:m.run (n:Int) with
 |none=>rw[hr] at k;exact absurd (show(0:Int)≠1 by omega) k
 |some r=>
 rw[hr] at k a d;simp only[Option.getD_some] at k a;dsimp only at d;rw[aLa k] at d;by_cases z:0<=core/\core<C.aE;rotate_left;rw[aLb (Or.inl z)] at d;refine bW (aZ (aX (fun B=>d _ (dT (t:=t) (b:=b) a.to)) fun B=>aB (aA (aC (b:=p) (o:=0) a rfl (dO (bV (by omega) (d _ (dT (t:=t) (b:=b) a.to))))))));obtain⟨i,rfl⟩:=Int.eq_ofNat_of_zero_le z.1;have D:i<4:=by omega
 have x:r.enc[0+8+i*1]?=some (.bool (r.waits i)):=by
  have:i=0\/i=1\/i=2\/i=3:=by omega
  rcases this with rfl|rfl|rfl|rfl<;>rfl
 refine bW (aZ (aT (by omega) (aB (aA (aC (b:=p) (o:=0) a rfl (dO (aT (by omega) (aA (gR (by omega) (aC (b:=v) (o:=0) a x (cE (eO ?_))))))))))));rw[Int.toNat_natCast] at d;cases hw:r.waits i with
 |false=>
  rw[aLb (Or.inr hw)] at d;exact bZ (d _ (dT (t:=t) (b:=b) a.to))
 |true=>
 rw[aLa (by rw[hw];simp;omega)] at d;have E:r.enc.length=12:=rfl;refine fK (bW (aA (gR (by omega) (bL (b:=v) (o:=0) a rfl (by rw[E];exact Nat.ble_eq_true_of_le (by simp;omega)) rfl rfl fun h a=>?_))));rw[pk D] at a;refine aA (kP (b:=v) (o:=0) a (by decide) (l:=[.bool ((r.heard i).waits 0),.bool ((r.heard i).waits 1),.bool ((r.heard i).waits 2),.bool ((r.heard i).waits 3)]) rfl rfl (aQ (c:=[.bool false,.bool false,.bool false,.bool false]) rfl (aE3 (dH (fun f=>?_) (fun f=>?_)))));have e:({(r.heard i) with phase:=2}:Mc.jG)=(r.heard i).hU:=by unfold jG.hU;rw[show(r.heard i).none=true from f];rfl
 refine bW (aA (bL (b:=v) (o:=0) a rfl rfl rfl rfl fun h a=>bB a fun N h a=>?_));have A:dR (r.heard i).enc (0+7) [I 2]=({(r.heard i) with phase:=2}:Mc.jG).enc:=rfl;rw[A,e] at a;refine aB (aA (aC (b:=p) (o:=0) a rfl (aU (b:=v) (o:=0) a (by decide) (l:=(r.heard i).hU.enc) rfl rfl (Sw a u fun h a=>?_))));rw[P2] at a;have a:Hs G h (fY C p (m.cK n (some (r.heard i).hU))::L'):=(dT (m:=m.cK n (some (r.heard i).hU)) (a.dF (aG p 0 [pt t 0 0,I C.aE,gI b]) (hJ t m.dN) (iW b (gF (aR m.runs n (some (r.heard i).hU)))))).to;have:=d h a;rw[f];rw[show(r.heard i).none=true from f] at this;exact this;have e:r.heard i=(r.heard i).hU:=by unfold jG.hU;rw[show(r.heard i).none=false from f];rfl
 rw[e] at a;refine bW (bB a fun N h a=>aB (aA (aC (b:=p) (o:=0) a rfl (aU (b:=v) (o:=0) a (by decide) (l:=(r.heard i).hU.enc) rfl rfl (Sw a u fun h a=>?_)))));rw[P2] at a;have a:Hs G h (fY C p (m.cK n (some (r.heard i).hU))::L'):=(dT (m:=m.cK n (some (r.heard i).hU)) (a.dF (aG p 0 [pt t 0 0,I C.aE,gI b]) (hJ t m.dN) (iW b (gF (aR m.runs n (some (r.heard i).hU)))))).to;have:=d h a;rw[f];rw[show(r.heard i).none=false from f] at this;exact this
theorem vc {n:Nat} {r:Mc.jG} (h:m.run (n:Int)=some r):m.runs n=some r:=by
 unfold Mon.run at h;rw[aLb (by omega)] at h;exact h
theorem Zn {g:Int} (hC:C.Ok) (E:iF C m) (a:Hs G h L) [N:Has (fY C p) L m L'] (d:∀v,Hs G v (fY C p (m.over g).1::L')->Q (.tuple ⟨[.agg ⟨nQ ((m.over g).2.1.getD Cu)⟩,I (m.over g).2.2]⟩) v):Cl Pr K 159 [pt p 0 0,I g] h Q:=by
 unfold Mon.over at d;refine cW (bP (cs:=nQ Cu) (N.of a) fun u h a=>?_);obtain⟨t,b,a⟩:=kT (a.front (fY C p m));refine dG (bZ (bW (aB (aA (aC (b:=p) (o:=0) a rfl (Ci (m:=m) a fun h a=>?_))))));have bad:∀{h:AH} {M:List HP} {e:Int},[Sub M L']->Hs G h (aG u 0 (nQ Cu)::aG p 0 [pt t 0 0,I C.aE,gI b]::hJ t m.dN::iW b (gF m.runs)::M)->(∀v,Hs G v (fY C p m::L')->Q (.tuple ⟨[.agg ⟨nQ Cu⟩,I e]⟩) v)->
   bE (oR [(I 0),(I 0),(I 0),(I 0),(I 0),(I 0),(.bool false)] []) fun A=>bE (vB h 7 (pt u 0 0) (.agg ⟨A⟩)) fun w=>bE (vO w 7 (pt u 0 0)) fun B=>Q (.tuple ⟨[B,I e]⟩) w:=by
  intro h M e _ a J
  exact aQ (c:=nQ Cu) rfl (bH (b:=u) a rfl rfl rfl rfl fun h a=>aU (b:=u) (o:=0) a (by decide) (l:=nQ Cu) rfl rfl (J _ (dT (t:=t) (b:=b) a.to)))
 by_cases y:m.has g;rotate_left;rw[aLa y];rw[aLb y] at d;exact aH rfl (aH rfl (bP a fun q h a=>bH (b:=q) a rfl rfl rfl rfl fun h a=>bC (bV (by omega) (bad (M:=L') a.to d))));rw[aLb y];rw[aLa (by simpa using y)] at d;obtain⟨n,rfl,R,F⟩:=Qu E hC y;refine aH rfl (aH rfl (bP a fun q h a=>bH (b:=q) a rfl rfl rfl rfl fun h a=>bC (aT (by omega) (bW (aB (aA (aC (b:=p) (o:=0) a rfl (P4 (m:=m) a (bP a fun z h a=>bH (b:=z) a rfl rfl rfl rfl fun h a=>aA (aC (b:=z) (o:=0) a rfl (bC (aX (fun k=>?_) (fun k=>?_)))))))))))));cases hr:m.run (n:Int) with
 |none=>rw[hr] at d;exact bad (M:=L') a.to d
 |some r=>
  rw[hr] at k d;simp only[Option.getD_some] at k;dsimp only at d;rw[aLb k] at d;exact bad (M:=L') a.to d
 cases hr:m.run (n:Int) with
 |none=>rw[hr] at k;exact absurd (show(0:Int)≠2 by omega) k
 |some r=>
 rw[hr] at k a d;simp only[Option.getD_some] at k a;dsimp only at d;rw[aLa k] at d;obtain⟨S,O,T,U,P⟩:=E.run n r (vc hr);refine bW (bB a fun V h a=>aB (aA (aC (b:=p) (o:=0) a rfl (aA (aA (aA (aC (b:=z) (o:=0) a rfl (aA (aA (aC (b:=z) (o:=0) a rfl (aQ (c:=(⟨r.then',false⟩:iE).enc) rfl (Hp (x:=⟨r.then',false⟩) a fun h a=>?_))))))))))));have i:(0<=r.bI/\r.bI<m.dN.length)/\(0<=r.then'/\r.then'<=4):=⟨by rw[O];omega,P⟩;rw[aLb i] at a;rw[aLb i];refine bC (aT (by omega) (bW (aB (aA (aC (b:=p) (o:=0) a rfl (aF7 a fun h a=>aA (aU (b:=z) (o:=0) a (by decide) (l:=nQ r) rfl rfl (bH (b:=u) a rfl rfl rfl rfl fun h a=>aU (b:=u) (o:=0) a (by decide) (l:=nQ r) rfl rfl (d _ ?_)))))))));have D:=H4 (f:=m.runs) (g:=n) (x:=none);rw[Option.map_none] at D;rw[D] at a;have a:Hs G h (fY C p ((m.qD r.bI.toNat ⟨r.then',false⟩).cK n none)::L'):=(dT (m:=(m.qD r.bI.toNat ⟨r.then',false⟩).cK n none) (a.dF (aG p 0 [pt t 0 0,I C.aE,gI b]) (hJ t (m.dN.set r.bI.toNat ⟨r.then',false⟩)) (iW b (gF (aR m.runs n none))))).to;exact a
end
end Go.Proofs.YtajjljbmfdboaaaGreatDoor
section
open Go Go.Ab
attribute [local irreducible] bE Br rT vO vB Dv nP xS mZ Ti iN nG pU sP rF lJ Cy xP Ya Xx Tj R3 Xc Td Rx Ub U1 mF pL vA kI copyV jQ zM Xp Yw Iz mA Pp Wr X7 pT tO Ao Cx Cl Bc Xb uL uF lI iQ cS cB
namespace Go.Proofs.YtajjljbmfdboaaaGreatDoor
open Go Go.Ab Go.Hm Go.At Go.Mc
section
def tW (m:Mon) (done:List Int) (k:Nat):Option Value:=if(k:Int)∈done then gF m.runs k else none
theorem jb {m:Mon}:tW m []=fun _=>none:=by funext k;unfold tW;simp
theorem mr {m:Mon} {done:List Int} {k:Nat} {r:Mc.jG} (a:m.runs k=some r):Lo (tW m done) k (some (.agg ⟨r.enc⟩))=tW m (done++[(k:Int)]):=by
 funext j;unfold Lo tW;by_cases e:j=k;subst e;simp[gF,a]
 .rw[aLa e];have:((j:Int)∈done++[(k:Int)])↔(j:Int)∈done:=by simp;omega
  simp only[this]
theorem jh {m:Mon} (a:∀g r,m.runs g=some r->g<16):tW m (m.running.map fun k:Nat=>(k:Int))=gF m.runs:=by
 funext k;unfold tW;split;rfl;rename_i d;cases hr:m.runs k with
 |none=>unfold gF;rw[hr];rfl
 |some r=>exact absurd (List.mem_map.2 ⟨k,rE.2 ⟨a k r hr,by rw[hr];rfl⟩,rfl⟩) d
set_option maxRecDepth 100000
variable {G:Bg} {h:AH} {L L' M:List HP} {Q:Value->AH->Prop} {C:bM} {m:Mon} {p:Nat}
abbrev aEm (C:bM) (m:Mon) (p p2 a q t b:Nat) (e:Nat->Value) (d l:Nat) (done:List Int):HP:=
 sp [pP Pr 77 (pM 122) 39 e d l (.ready,none),sp [aG p2 0 [pt p 0 0],aG a 0 [pt q 0 0]],fY C p m,sp [aG q 0 [pt t 0 0,I C.aE,gI b],hJ t m.dN,iW b (tW m done)]]
theorem M4 (hC:C.Ok) (R:iF C m) (u:Hs G h L) [mm:Has (fY C p) L m L'] (hk:∀q O,Hs G O (fY C q m::fY C p m::L')->Q (pt q 0 0) O):Cl Pr K 77 [pt p 0 0] h Q:=by
 have P:=R.len;have α:=hC.2.1;refine cW (dS (mm.of u) fun w h u=>?_);refine aC (b:=w) (o:=0) u rfl (dG (bZ ?_));obtain⟨t0,E,u⟩:=kT (u.front (fY C p m));refine bW (bB u fun B h0 y=>aC (b:=w) (o:=0) y rfl (aB (aA (aC (b:=p) (o:=0) y rfl (X5 (es:=m.dN) (by omega) y fun t h u=>?_)))));refine aC (b:=w) (o:=0) u rfl (aB (aA (aC (b:=p) (o:=0) u rfl (aC (b:=w) (o:=0) u rfl (aB (aA (aC (b:=p) (o:=0) u rfl (aE5 (b:=E) (f:=gF m.runs) u fun _=>aHy (Xn (r:=B) (i:=14) (n:=19) (D:=[]) u rfl rfl fun b h u=>?_)))))))));refine aQ (c:=[pt t 0 0,I C.aE,gI b]) rfl (Am (r:=B) (i:=16) (n:=19) (D:=[14]) u rfl rfl fun q h u=>lN (r:=B) (i:=17) (n:=19) (D:=[16,14]) u rfl rfl fun z h u=>bH (b:=z) u rfl rfl rfl rfl fun h u=>?_);refine cY (aC (b:=w) (o:=0) y rfl dJ) (cY (aB dJ) (cY (aA dJ) (cY (aC (b:=p) (o:=0) y rfl jH) (cY (aC (b:=w) (o:=0) y rfl dJ) (cY (aB dJ) (cY (aA dJ) (cY (aC (b:=p) (o:=0) y rfl (by simp[oI,gI])) ?_)))))));have u:=dT (u.dF (aG p 0 [pt t0 0 0,I C.aE,gI E]) (hJ t0 m.dN) (iW E (gF m.runs)));refine aC (b:=w) (o:=0) u rfl (Du (C:=C) (m:=m) u fun W U V h u=>oY u fun d h u=>?_);intro e he;refine tZ u fun l h u=>A8 rfl ?_;rw[<-jb (m:=m)] at u;have u:Hs G h (H.Ny 3 W U V (m.running.map fun k:Nat=>(k:Int))::aEm C m p w z q t b e d l []::mk d ()::L'):=by
  have u:=(u.dF (aG q 0 [pt t 0 0,I C.aE,gI b]) (hJ t m.dN) (iW b (tW m []))).W8;have u:=(u.cX (aG w 0 [pt p 0 0]) (aG z 0 [pt q 0 0])).H9;have u:=(u.nA (pP Pr 77 (pM 122) 39 e d l (.ready,none)) (sp [aG w 0 [pt p 0 0],aG z 0 [pt q 0 0]]) (fY C p m) (sp [aG q 0 [pt t 0 0,I C.aE,gI b],hJ t m.dN,iW b (tW m [])])).Nx;exact u.to
 refine(H.Gd (e:=3) (p:=W) (a:=U) (c:=V) (xs:=m.running.map fun k:Nat=>(k:Int)) (by have:=List.length_filter_le (fun g=>(m.runs g).isSome) (List.range 16);simp[Mon.running] at this ⊢;omega)).fold
  (X:=fun done=>aEm C m p w z q t b e d l done) (Z:=fun _ _=>Cz False) u ?_ ?_ ?_
 .intro done x h M S u;have u:=u.un4;obtain⟨k,A,rfl⟩:∃k∈m.running,(k:Int)=x:=by
   obtain⟨ys,N⟩:=S;have:x∈m.running.map fun k:Nat=>(k:Int):=by rw[<-N];simp
   obtain⟨k,Y,h2⟩:=List.mem_map.1 this;exact⟨k,Y,h2⟩
  obtain⟨r,T⟩:=Option.isSome_iff_exists.1 (rE.1 A).2;have J:m.run (k:Int)=some r:=by unfold Mon.run;rw[aLb (by omega)];exact T
  have u:=(u.front (sp [aG w 0 [pt p 0 0],aG z 0 [pt q 0 0]])).Hh;have u:=(u.front (sp [aG q 0 [pt t 0 0,I C.aE,gI b],hJ t m.dN,iW b (tW m done)])).Ex;refine rW (A7 u) he (lU u fun h u=>bB u fun B h u=>?_);obtain⟨t2,F,u⟩:=kT (u.front (fY C p m));refine aC (b:=z) (o:=0) u rfl (aB (aA (aC (b:=q) (o:=0) u rfl (aC (b:=w) (o:=0) u rfl (aB (aA (aC (b:=p) (o:=0) u rfl (P4 (b:=F) (m:=m) u ?_))))))));rw[J];refine Sw (b:=b) (f:=tW m done) u (rE.1 A).1 fun h u=>mB u fun h u=> .inl ⟨rfl,?_⟩;rw[show(some r).getD Cu=r from rfl,mr T] at u;have u:=dT (u.dF (aG p 0 [pt t2 0 0,I C.aE,gI F]) (hJ t2 m.dN) (iW F (gF m.runs)));have u:=(u.dF (aG q 0 [pt t 0 0,I C.aE,gI b]) (hJ t m.dN) (iW b (tW m (done++[(k:Int)])))).W8;have u:=(u.cX (aG w 0 [pt p 0 0]) (aG z 0 [pt q 0 0])).H9;have u:=(u.nA (pP Pr 77 (pM 122) 39 e d l (.ready,none)) (sp [aG w 0 [pt p 0 0],aG z 0 [pt q 0 0]]) (fY C p m) (sp [aG q 0 [pt t 0 0,I C.aE,gI b],hJ t m.dN,iW b (tW m (done++[(k:Int)]))])).Nx;exact u.to
 intro v h u;have u:=(u.front (aEm C m p w z q t b e d l (m.running.map fun k:Nat=>(k:Int)))).un4;have u:=(u.front (sp [aG w 0 [pt p 0 0],aG z 0 [pt q 0 0]])).Hh;have u:=(u.front (sp [aG q 0 [pt t 0 0,I C.aE,gI b],hJ t m.dN,iW b (tW m (m.running.map fun k:Nat=>(k:Int)))])).Ex;rw[jh (R.aIi hC)] at u;have u:=dT (u.dF (aG q 0 [pt t 0 0,I C.aE,gI b]) (hJ t m.dN) (iW b (gF m.runs)));exact uG u fun h u=>uE (aC (b:=z) (o:=0) u rfl (oU u fun h u=>lZ (hk _ _ u.to)))
 .intro done x v h S u;obtain⟨hd,_⟩:=(u.front (Cz False)).y7;exact hd.elim
end
end Go.Proofs.YtajjljbmfdboaaaGreatDoor
end
namespace Go.Proofs.YtajjljbmfdboaaaGreatDoor
open Go Go.Ab Go.Hm Go.At Go.Mc
section
theorem ry {t:TypeId} {v:Value} {k:Value->Prop} (a:k (.bool false)):bE (Td true .eql (.iface t v) .nilIface) k:=⟨_,rfl,a⟩
set_option maxRecDepth 100000
attribute [local irreducible] bE Br rT vO vB Dv nP xS mZ Ti iN nG pU sP rF lJ Cy xP Ya Xx Tj R3 Xc Td Rx Ub U1 mF pL vA kI copyV jQ zM Xp Yw Iz mA Pp Wr X7 pT tO Ao Cx Cl Bc Xb uL uF lI iQ cS cB
variable {G:Bg} {h:AH} {L L' M:List HP} {Q:Value->AH->Prop} {C:bM} {m:Mon} {p:Nat}
theorem N0 {ov:Value} {os:List Int} {k:Value->Prop} (d:A.I0 G ov os) (a:k (I os.length)):bE (lJ ov) k:=A.sY d (by rw[A.rD];exact a)
theorem nW {α:Type} {l:List α} {i:Nat} (h:i<l.length):∃x,l[i]?=some x/\l.drop i=x::l.drop (i+1):=⟨l[i],by simp,List.drop_eq_getElem_cons h⟩
def tT (os:List Int):List iE:=os.map fun o=>⟨o,false⟩
theorem Rk {ov:Value} {os:List Int} (q:A.I0 G ov os) (y:os.length<=16) (t:∀o∈os,0<=o/\o<=4) {t0:Value} (k:∀d,Hs G d L->Dd 87 4 [] Q [t0,ov] d):
  ∀(f i:Nat) (h:AH),i+f=os.length->Hs G h L->Dd 87 2 [] Q [t0,ov,ov,(I os.length),(I i)] h:=by
 intro f
 induction f with
 |zero=>intro i h g a;exact bW (aZ (aT (by omega) (k _ a)))
 |succ f v=>
  intro i h g a
  obtain⟨x,e,w⟩:=nW (l:=os) (i:=i) (by omega)
  have u:=t x (List.mem_of_getElem? e)
  have a:=A.oQ q a
  exact bW (aZ (bV (by omega) (bW (vZ a (x:=[I x]) (by simp[A.yT,e]) rfl (aZ (aT (by omega) (mS (aT (by omega) (bW (bQ (by omega) (v (i+1) h (by omega) a.tail)))))))))))
theorem kl {os:List Int} {i:Nat} {x:Int} (a:os[i]?=some x):(tT (os.take i)++List.replicate (os.length - i) iM).set i ⟨x,false⟩=tT (os.take (i+1))++List.replicate (os.length - (i+1)) iM:=by
 obtain⟨f,e⟩:=List.getElem?_eq_some_iff.1 a;have d:(tT (os.take i)).length=i:=by simp[tT];omega
 rw[List.set_append_right _ _ (by omega),d,Nat.sub_self,show os.length - i=(os.length - (i+1))+1 by omega,List.replicate_succ,List.set_cons_zero,List.take_add_one,a];simp[tT]
theorem ml {ov:Value} {os:List Int} (hC:C.Ok) (g:A.I0 G ov os) (P:os.length=C.aS.toNat) (z:∀o∈os,0<=o/\o<=4) (a:Hs G h L) (F:∀q w,Hs G w (fY C q ⟨tT os,fun _=>none⟩::L)->Q (.tuple ⟨[pt q 0 0,I 0]⟩) w):Cl Pr K 87 [I C.aE,ov] h Q:=by
 have N:=hC.1;have D:=hC.2.1;refine cW (aZ (aT (by omega) (mS (aT (by omega) (N0 g (aZ (aT (by omega) (N0 g (mS (aT (by omega) (bW (N0 g ?_))))))))))));refine Rk g (by omega) z ?_ os.length 0 h (by omega) a;intro h a;refine bW (N0 g (j7 (by omega) a fun t h a=>aH rfl (aH rfl (bC (aT (by omega) (bW (xq a fun b h a=>?_)))))));refine aQ (c:=[pt t 0 0,I C.aE,gI b]) rfl (dS a fun q h a=>N0 g ?_);have loop:∀(f i:Nat) (h:AH),i+f=os.length->Hs G h (hJ t (tT (os.take i)++List.replicate (os.length - i) iM)::aG q 0 [pt t 0 0,I C.aE,gI b]::iW b (fun _=>none)::L)->Dd 87 7 [] Q [(pt q 0 0),ov,(I os.length),(I i)] h:=by
  intro f;induction f with
  |zero=>
   intro i h E a;refine bW (aZ (aT (by omega) (F _ _ ?_)));have k:i=os.length:=by omega
   subst k;rw[List.take_length,Nat.sub_self,List.replicate_zero,List.append_nil] at a;have a:Hs G h (aG q 0 [pt t 0 0,I C.aE,gI b]::hJ t (tT os)::iW b (fun _=>none)::L):=a.to;exact dT (m:=⟨tT os,fun _=>none⟩) a
  |succ f J=>
   intro i h E a;obtain⟨x,u,O⟩:=nW (l:=os) (i:=i) (by omega);have v:=z x (List.mem_of_getElem? u);have a:=A.oQ g a;refine bW (aZ (bV (by omega) (bW (vZ a (x:=[I x]) (by simp[A.yT,u]) rfl (aB (aA (aC (b:=q) (o:=0) a rfl (aQ (c:=(⟨x,false⟩:iE).enc) rfl (Hp (x:=⟨x,false⟩) a.tail fun h a=>?_)))))))));have y:(tT (os.take i)++List.replicate (os.length - i) iM).length=os.length:=by simp[tT];omega
   have d:(0<=(i:Int)/\(i:Int)<(tT (os.take i)++List.replicate (os.length - i) iM).length)/\(0<=(⟨x,false⟩:iE).owner/\(⟨x,false⟩:iE).owner<=4):=⟨by omega,v⟩;rw[aLb d] at a;rw[aLb d];rw[Int.toNat_natCast,kl u] at a;exact bC (aT (by omega) (bW (bQ (by omega) (J (i+1) h (by omega) a))))
 have e:(os.length:Int).toNat=os.length:=Int.toNat_natCast _;refine loop os.length 0 h (by omega) ?_;rw[e] at a;have B:List.replicate os.length iM=tT (os.take 0)++List.replicate (os.length - 0) iM:=rfl;rw[B] at a;exact a.to
theorem Ik (hC:C.Ok) {x:Int} (k:Ob G 0 fV) (a:Hs G h L)
  (e:∀f,Hs G f L->Q (if C.has x then .tuple ⟨[I (x/2),I 0]⟩ else .tuple ⟨[I 0,I 10]⟩) f):Cl Pr K 191 [.agg ⟨C.enc⟩,I x] h Q:=by
 have hb:=(bM.gK hC).2.2
 have d:C.has x↔0<=x/\x<C.lines:=Iff.rfl
 refine cW (dS a fun p h a=>aZ (aX (fun g=>?_) (fun g=>?_)))
 .rw[aLa (by rw[d];omega)] at e;exact e _ a.tail
 refine aU a (by decide) (l:=C.enc) rfl rfl (rQ hC k a fun h a=>dO (aX (fun i=>?_) (fun i=>?_)))
 .rw[aLa (by rw[d];omega)] at e;exact e _ a.tail
 .rw[aLb (by rw[d];omega)] at e;obtain⟨n,rfl⟩:=Int.eq_ofNat_of_zero_le (show 0<=x by omega);exact Fv (by omega) (by omega) (by omega) (e _ a.tail)
def Ko (C:bM) (m:Mon) (world line:Int):Int×Bool:=if C.has line then((m.kX (line/2)).owner,!(m.kX (line/2)).locked&&zW world (m.kX (line/2)).owner) else(0,false)
theorem Vz {w x:Int} (hC:C.Ok) (A:iF C m) (z:Ob G 0 fV) (a:Hs G h L) [B:Has (fY C p) L m L'] (d:∀i,Hs G i (fY C p m::L')->Q (.tuple ⟨[I (Ko C m w x).1,.bool (Ko C m w x).2]⟩) i):Cl Pr K 334 [.agg ⟨C.enc++[pt p 0 0]⟩,I w,I x] h Q:=by
 have k:=A.len;have v:=hC.2.1;have hb:=bM.gK hC;unfold Ko at d;refine cW (dS (cs:=C.enc++[pt p 0 0]) (B.of a) fun q h a=>aA (kP (b:=q) (o:=0) a (by decide) (l:=C.enc) rfl rfl (Ik hC z a fun h a=>?_)));by_cases f:C.has x;rotate_left;rw[aLa f];rw[aLa f] at d;exact aH rfl (aH rfl (bC (bV (by omega) (d _ a.to))));rw[aLb f];rw[aLb f] at d;have g:=f;unfold bM.has at g;have y:m.has (x/2):=by unfold Mon.has;omega
 obtain⟨t,b,a⟩:=kT (a.front (fY C p m));refine aH rfl (aH rfl (bC (aT (by omega) (bW (aA (aC (b:=q) (o:=0) a rfl (aB (aA (aC (b:=p) (o:=0) a rfl (Ci (m:=m) a fun h a=>?_))))))))));rw[aLb y];refine aH rfl (aH rfl (bP a fun u h a=>bH (b:=u) a rfl rfl rfl rfl fun h a=>bC (aT (by omega) (bB a fun D h a=>aA (aC (b:=u) (o:=0) a rfl (aA (aC (b:=u) (o:=0) a rfl (cE (eO ?_)))))))));have e:=dT (a.dF (aG p 0 [pt t 0 0,I C.aE,gI b]) (hJ t m.dN) (iW b (gF m.runs)));cases hk2:(m.kX (x/2)).locked with
 |true=>
  rw[hk2] at d;exact fK (cY (aA dJ) (cY (aC (b:=u) (o:=0) a rfl jH) (d _ e.to)))
 |false=>
  rw[hk2] at d;exact bZ (aA (aC (b:=u) (o:=0) a rfl (Rm (cY (aA dJ) (cY (aC (b:=u) (o:=0) a rfl jH) (d _ e.to))))))
theorem Rb (hC:C.Ok) (i:iF C m) (f:Ob G 0 fV):H.ah G (fY C p m) (.iface 311 (.agg ⟨C.enc++[pt p 0 0]⟩)) (Ko C m) where
 ne:=fun k a=>ry a
 may:=by
  intro h L M w l Q e d a;refine aEw (g:=334) rfl (Vz (L':=M) (m:=m) hC i f (d.perm e) fun h d=>⟨rfl,a _ (d.perm e.symm)⟩)
end
end Go.Proofs.YtajjljbmfdboaaaGreatDoor
namespace Go.Proofs.YtajjljbmfdboaaaGreatDoor.C
open Go Go.Ab Go.Hm Go.Ct
section
theorem oN {g n a:Nat} {i:Int} {k:Value->Prop} (d:0<=i) (e:i<n) (f:k (pt g (i.toNat*a) 0)):bE (pL n a (.pointer (some ⟨g,0,none⟩)) (I i)) k:=
 fU (b:=g) (o:=0) (j:=0) d e (by simpa [pt] using f)
theorem qC {s:Int} (h:0<=s/\s<5):jN[s.toNat*8+1]?=some (.bool (Ql s))/\jN[s.toNat*8+2]?=some (.bool (tL s))/\jN[s.toNat*8+3]?=some (.bool (jR s))/\jN[s.toNat*8+4]?=some (.bool (Dt s))
  /\jN[s.toNat*8+5]?=some (I (if tL s then 4 else 0))/\jN[s.toNat*8+6]?=some (I (Jb s))/\jN[s.toNat*8+7]?=some (I 0):=by
 have:s=0\/s=1\/s=2\/s=3\/s=4:=by omega
 rcases this with rfl|rfl|rfl|rfl|rfl<;>exact⟨rfl,rfl,rfl,rfl,rfl,rfl,rfl⟩
set_option maxRecDepth 100000
attribute [local irreducible] bE Br rT vO vB Dv nP xS mZ Ti iN nG pU sP rF lJ Cy xP Ya Xx Tj R3 Xc Td Rx Ub U1 mF pL vA kI copyV jQ zM Xp Yw Iz mA Pp Wr X7 pT tO Ao Cx Cl Bc Xb uL uF lI iQ cS cB
variable {G:Bg} {h:AH} {L L':List HP}
theorem Bq {x:Int} {Q:Value->AH->Prop} (a:Q (.bool (isS x)) h):Cl Pr K 295 [I x] h Q:=by
 refine cW ?_;refine dO (aX (fun d=>aZ ?_) (fun d=>?_));show Q _ _;rw[show decide (x<5)=isS x from decide_eq_decide.2 (by omega)];exact a;show Q _ _;rw[show false=isS x from(decide_eq_false (by omega)).symm];exact a
theorem Rg {x:Int} (h:isS x=true):0<=x/\x<5:=of_decide_eq_true h
theorem Q1 {x:Int} (h:isS x=false):Ql x=false/\tL x=false/\jR x=false/\Dt x=false:=by
 have:=of_decide_eq_false h;refine⟨decide_eq_false ?_,decide_eq_false ?_,decide_eq_false ?_,decide_eq_false ?_⟩<;>omega
theorem aAn {x:Int} {Q:Value->AH->Prop} (f:Ob G 3 jN) (g:Hs G h L) (e:Q (.bool (Ql x)) h):Cl Pr K 291 [I x] h Q:=by
 refine cW (Bq (dH (fun a=>?_) (fun a=>?_)));have d:=Rg a;exact oN d.1 d.2 (aA (Bk g f (o:=x.toNat*8) (j:=1) (qC d).1 e));rw[(Q1 a).1] at e;exact e
theorem W1 {x:Int} {Q:Value->AH->Prop} (f:Ob G 3 jN) (g:Hs G h L) (e:Q (.bool (tL x)) h):Cl Pr K 290 [I x] h Q:=by
 refine cW (Bq (dH (fun a=>?_) (fun a=>?_)));have d:=Rg a;exact oN d.1 d.2 (aA (Bk g f (o:=x.toNat*8) (j:=2) (qC d).2.1 e));rw[(Q1 a).2.1] at e;exact e
theorem Kj {x:Int} {Q:Value->AH->Prop} (f:Ob G 3 jN) (g:Hs G h L) (e:Q (.bool (jR x)) h):Cl Pr K 294 [I x] h Q:=by
 refine cW (Bq (dH (fun a=>?_) (fun a=>?_)));have d:=Rg a;exact oN d.1 d.2 (aA (Bk g f (o:=x.toNat*8) (j:=3) (qC d).2.2.1 e));rw[(Q1 a).2.2.1] at e;exact e
theorem Uw {x:Int} {Q:Value->AH->Prop} (f:Ob G 3 jN) (g:Hs G h L) (e:Q (.bool (Dt x)) h):Cl Pr K 314 [I x] h Q:=by
 refine cW (Bq (dH (fun a=>?_) (fun a=>?_)));have d:=Rg a;exact oN d.1 d.2 (aA (Bk g f (o:=x.toNat*8) (j:=4) (qC d).2.2.2.1 e));rw[(Q1 a).2.2.2] at e;exact e
theorem Uk {x:Int} {Q:Value->AH->Prop} (e:Ob G 3 jN) (f:Hs G h L) (d:tL x=true) (g:Q (.tuple ⟨[I 4,I 0]⟩) h):Cl Pr K 250 [I x] h Q:=by
 have a:0<=x/\x<5:=by have:=of_decide_eq_true d;omega
 refine cW (Bq ?_);rw[show isS x=true from decide_eq_true a];refine cE (bZ (bW (W1 e f ?_)));rw[d];have:=(qC a).2.2.2.2.1;rw[aLb d] at this;exact cE (bZ (oN a.1 a.2 (aA (Bk f e (o:=x.toNat*8) (j:=5) this g))))
theorem Pq {x to:Int} {Q:Value->AH->Prop} (d:Ob G 3 jN) (e:Hs G h L) (a:0<=x/\x<5) (k:to=0\/to=1) (g:Q (.tuple ⟨[I (gH x to),.bool (Dt x),.bool (jR x),I 0]⟩) h):Cl Pr K 312 [I x,I to] h Q:=by
 refine cW (Bq ?_);rw[show isS x=true from decide_eq_true a];refine cE (bZ ?_);have i:=(qC a).2.2.2.2.2.1;have f:=(qC a).2.2.2.2.2.2;rcases k with rfl|rfl;exact bC (bV (by omega) (bC (aT (by omega) (bW (oN a.1 a.2 (aA (Bk e d (o:=x.toNat*8) (j:=7) f (bJ (aT (by omega) (Uw d e (Kj d e g)))))))))));exact bC (aT (by omega) (oN a.1 a.2 (aA (Bk e d (o:=x.toNat*8) (j:=7) f (bJ (bV rfl (bW (oN a.1 a.2 (aA (Bk e d (o:=x.toNat*8) (j:=6) i (Uw d e (Kj d e g))))))))))))
theorem Pz {x:pQ} {w:Bool} {Q:Value->AH->Prop} (f:Ob G 3 jN) (a:Hs G h L) (e:∀d,Hs G d L->Q (.bool (lS x.st w)) d):Cl Pr K 246 [.agg ⟨x.enc⟩,.bool w] h Q:=by
 refine cW (dS a ?_);intro p h a;cases w;exact bZ (aA (aC a rfl (aAn f a (e _ a.tail))));exact fK (aA (aC a rfl (W1 f a (e _ a.tail))))
end
end Go.Proofs.YtajjljbmfdboaaaGreatDoor.C
section
open Go Go.Ab
attribute [local irreducible] bE Br rT vO vB Dv nP xS mZ Ti iN nG pU sP rF lJ Cy xP Ya Xx Tj R3 Xc Td Rx Ub U1 mF pL vA kI copyV jQ zM Xp Yw Iz mA Pp Wr X7 pT tO Ao Cx Cl Bc Xb uL uF lI iQ cS cB
namespace Go.Proofs.YtajjljbmfdboaaaGreatDoor.C
open Go Go.Ab Go.Hm Go.Ct
section
set_option maxRecDepth 100000
variable {G:Bg} {h:AH} {L L' M:List HP}
def cK (b o:Nat) (l:List Th):HP:=vW fun x:Option Addr×Nat=>sp [aG b o [.slice x.1 l.length x.2],dI 5 251 x.1 x.2 (l.length,eX l)]
theorem tV {b o:Nat} {l:List Th} (d:Hs G h (cK b o l::L)):∃a c,Hs G h (aG b o [.slice a l.length c]::dI 5 251 a c (l.length,eX l)::L):=by
 obtain⟨⟨a,c⟩,d⟩:=d.Et;exact⟨a,c,d.unpack⟩
theorem kH (b o:Nat) (l:List Th) {a:Option Addr} {c n:Nat} {cs:List Value} {e L2:List HP} (g:Hs G h L) [m:Has (aG b o) L [.slice a n c] e] [i:Has (dI 5 251 a c) e (n,cs) L2] (f:n=l.length) (d:cs=eX l):Hs G h (cK b o l::L2):=by
 subst f;subst d;exact Hs.Af (A:=fun x:Option Addr×Nat=>sp [aG b o [.slice x.1 l.length x.2],dI 5 251 x.1 x.2 (l.length,eX l)]) (a,c) (Hs.pack (A:=[_,_]) (g.perm (m.perm.trans (i.perm.cons _))))
structure TgA where
 b:Nat
 o:Nat
 cap:Nat
def sH (ways n b o cap:Nat):List Value:=[I ways,.slice (some ⟨b,o,none⟩) n cap]
def hZ (G:Bg) (t ways n:Nat) (S:Nat->List Th):HP:=vW fun x:TgA=>
 sp [aG t 0 (sH ways n x.b x.o x.cap),hole G 1 248 (some ⟨x.b,x.o,none⟩) x.cap n x.b x.o,dK n fun i=>cK x.b (x.o+i*1) (S i)]
theorem Wt {t ways n:Nat} {S:Nat->List Th} (a:Hs G h (hZ G t ways n S::L)):∃b o cap,Hs G h (aG t 0 (sH ways n b o cap)::hole G 1 248 (some ⟨b,o,none⟩) cap n b o::dK n (fun i=>cK b (o+i*1) (S i))::L):=by
 obtain⟨⟨b,o,cap⟩,a⟩:=a.Et;exact⟨b,o,cap,a.unpack⟩
theorem Bx {t ways n:Nat} {S:Nat->List Th} {b o cap:Nat} (a:Hs G h (aG t 0 (sH ways n b o cap)::hole G 1 248 (some ⟨b,o,none⟩) cap n b o::dK n (fun i=>cK b (o+i*1) (S i))::L)):Hs G h (hZ G t ways n S::L):=
 Hs.Af (A:=fun x:TgA=>sp [aG t 0 (sH ways n x.b x.o x.cap),hole G 1 248 (some ⟨x.b,x.o,none⟩) x.cap n x.b x.o,dK n fun i=>cK x.b (x.o+i*1) (S i)]) ⟨b,o,cap⟩ (Hs.pack (A:=[_,_,_]) a)
def Wk (b o n:Nat) (S:Nat->List Th) (l:Nat):HP:=sp (((List.range n).erase l).map fun i=>cK b (o+i*1) (S i))
theorem Jq {t ways n l:Nat} {S:Nat->List Th} (d:l<n) (a:Hs G h (hZ G t ways n S::L)):∃b o cap,Hs G h (cK b (o+l*1) (S l)::aG t 0 (sH ways n b o cap)::hole G 1 248 (some ⟨b,o,none⟩) cap n b o::Wk b o n S l::L):=by
 obtain⟨b,o,cap,a⟩:=Wt a;have a:=(a.front (dK n fun i=>cK b (o+i*1) (S i))).mW l d;exact⟨b,o,cap,(show Hs G h (cK b (o+l*1) (S l)::Wk b o n S l::_) from a).to⟩
theorem uI {f L2 g d:List HP} (t ways n:Nat) (S:Nat->List Th) (l:Nat) (x:List Th) (b o cap:Nat) (q:l<n) (a:Hs G h L) [u:dX (cK b (o+l*1) x) L f] [v:dX (aG t 0 (sH ways n b o cap)) f L2]
  [w:dX (hole G 1 248 (some ⟨b,o,none⟩) cap n b o) L2 g] [y:dX (Wk b o n S l) g d]:Hs G h (hZ G t ways n (aR S l x)::d):=by
 have a:Hs G h (cK b (o+l*1) x::Wk b o n S l::aG t 0 (sH ways n b o cap)::hole G 1 248 (some ⟨b,o,none⟩) cap n b o::d):=
  (a.perm (u.perm.trans ((v.perm.trans ((w.perm.trans (y.perm.cons _)).cons _)).cons _))).to
 have k:(fun i=>cK b (o+i*1) (aR S l x i)) l=cK b (o+l*1) x:=by simp only[dC]
 rw[<-k] at a
 unfold Wk at a
 have a:=a.qA (n:=n) (i:=l) (fun i=>cK b (o+i*1) (S i)) (fun i=>cK b (o+i*1) (aR S l x i)) q (fun j _ e=>by simp only[cH e])
 exact Bx (b:=b) (o:=o) (cap:=cap) a.to
theorem aBc {α:Type} {f:Nat->α} {i:Nat}:aR f i (f i)=f:=by
 funext j;unfold aR;split;rename_i e;rw[e];rfl
theorem kh {no:Int} {b o a2 o2 cp p:Nat} {l:List Th} {Q:Value->AH->Prop} (hb:l.length<=4):∀(r i:Nat) (h:AH) (L:List HP),i+r=l.length->ix no (l.take i)=none->Hs G h (aG p 0 [I no]::dI 5 251 (some ⟨a2,o2,none⟩) cp (l.length,eX l)::L)->
  (∀D,Hs G D (aG p 0 [I no]::dI 5 251 (some ⟨a2,o2,none⟩) cp (l.length,eX l)::L)->Q (.tuple ⟨[pt b o 0,I (pz no l),I 0]⟩) D)->
  Dd 289 3 [] Q [(pt b o 0),(I (-1)),(.func (.func 311) #[] #[pt p 0 0]),(.slice (some ⟨a2,o2,none⟩) l.length cp),(I l.length),(I i)] h:=by
 have B:∀(i:Nat) (l:List Th) (t:Th),ix no (l.take i)=none->l[i]?=some t->ix no (l.take (i+1))=if t.1=no then some i else none:=by
  intro i;induction i with
  |zero=>
   intro l t _ u;cases l with
   |nil=>cases u
   |cons a l=>cases u;simp[ix]
  |succ i y=>
   intro l t w u;cases l with
   |nil=>cases u
   |cons a l=>
    simp only[List.take_succ_cons,ix] at w ⊢;by_cases e:a.1=no;rw[aLb e] at w;cases w;rw[aLa e] at w ⊢;rw[y l t (by simpa using w) (by simpa using u)];split<;>rfl
 have z:∀(l:List Th) (i j:Nat),ix no (l.take i)=some j->ix no l=some j:=by
  intro l;induction l with
  |nil=>intro i j h;simp[ix] at h
  |cons a l y=>
   intro i j h;cases i with
   |zero=>simp[ix] at h
   |succ i=>
    simp only[List.take_succ_cons,ix] at h ⊢;by_cases e:a.1=no;rw[aLb e] at h ⊢;exact h;rw[aLa e] at h ⊢;cases hx:ix no (l.take i) with
    |none=>rw[hx] at h;cases h
    |some k=>rw[hx] at h;rw[y i k hx];exact h
 intro r
 induction r with
 |zero=>
  intro i h L F A d v
  rw[List.take_of_length_le (by omega)] at A
  simp only[pz,A] at v
  exact bW (aZ (aT (by omega) (v _ d)))
 |succ r y=>
  intro i h L F A d v
  have x:i<l.length:=by omega
  obtain⟨t,u⟩:∃t,l[i]?=some t:=⟨_,List.getElem?_eq_getElem x⟩
  refine bW (aZ (bV (by omega) (bW (dV x ?_))))
  obtain⟨J,K,E,g⟩:=(d.front (dI 5 251 (some ⟨a2,o2,none⟩) cp (l.length,eX l))).gM (by omega)
  cases E
  refine Lh g (by decide) (l:=q5 t) (by rw[Nat.add_zero];exact T6 u) rfl ?_
  have g:=g.mO (Cb l) (yU l)
  refine bP g ?_
  intro q h d
  refine bH d rfl rfl rfl rfl ?_
  intro h d
  refine aU d (by decide) (l:=q5 t) rfl rfl ?_
  refine rA (by kernel_rfl) (cW ?_)
  refine dS d ?_
  intro N h d
  have f:=B i l t A u
  refine aA (aC d rfl (aC (b:=p) (o:=0) d rfl (bJ (aX (fun e=>?_) (fun e=>?_)))))
  .rw[aLb e] at f;have:=z _ _ _ f;simp only[pz,this] at v;exact bW (v _ d.to)
  .rw[aLa e] at f;exact bW (bQ (by omega) (y (i+1) h L (by omega) f d.to v))
theorem Vy {t:Nat} {no:Int} {Q:Value->AH->Prop} (e:no<0) (a:Hs G h L) (f:∀d,Hs G d L->Q (.tuple ⟨[.pointer none,I 0,I 10]⟩) d):Cl Pr K 289 [pt t 0 0,I no] h Q:=by
 refine cW (dS a ?_);intro p h a;exact dG (bZ (bW (aC a rfl (aZ (bV e (f _ a.tail))))))
theorem kY {n:Nat} {no:Int} (a:0<n):setOf n no<n:=by
 unfold setOf;have:=Int.emod_lt_of_pos no (show(0:Int)<n by omega);have:=Int.emod_nonneg no (show(n:Int)≠0 by omega);omega
theorem vH {t ways n b o cap:Nat} {no:Int} {l:List Th} {Q:Value->AH->Prop} (A:0<n) (y:0<=no) (hb:l.length<=4) (e:Hs G h L) [m:Has (aG t 0) L (sH ways n b o cap) L'] [B:Has (cK b (o+setOf n no*1)) L' l M]
  (v:∀i,Hs G i (aG t 0 (sH ways n b o cap)::cK b (o+setOf n no*1) l::M)->Q (.tuple ⟨[pt b (o+setOf n no*1) 0,I (pz no l),I 0]⟩) i):Cl Pr K 289 [pt t 0 0,I no] h Q:=by
 have e:Hs G h (aG t 0 (sH ways n b o cap)::cK b (o+setOf n no*1) l::M):=e.perm (m.perm.trans (B.perm.cons _))
 obtain⟨a,c,e⟩:=tV e.mK
 refine cW (dS e ?_)
 intro p h e
 refine dG (bZ (bW (aC e rfl (aZ (aT (by omega) (bW ?_))))))
 refine bB e ?_
 intro r h e
 have g:Hs G h (aG t 0 (sH ways n b o cap)::_):=e.front (aG t 0 (sH ways n b o cap))
 have x:no % (n:Int)=((setOf n no:Nat):Int):=by
  unfold setOf;have:=Int.emod_nonneg no (show(n:Int)≠0 by omega);omega
 refine aB (aA (aC (b:=t) (o:=0) g rfl (aC (b:=p) (o:=0) g rfl (aB (aA (aC (b:=t) (o:=0) g rfl (cC (Va y (by omega) ?_))))))))
 rw[x]
 refine dV (kY A) (aB ?_)
 have d:Hs G h (aG b (o+setOf n no*1) [.slice a l.length c]::_):=g.front (aG b (o+setOf n no*1) [.slice a l.length c])
 refine aC d rfl (cC ?_)
 by_cases k:l.length=0
 .have q:l=[]:=List.eq_nil_of_length_eq_zero k;subst q;refine bW (aZ (aT (by simp) (v _ ?_)));exact(kH b (o+setOf n no*1) [] (a:=a) (c:=c) d rfl rfl).to
 .have f:=d.front (dI 5 251 a c (l.length,eX l));obtain⟨u,w,z,_⟩:=f.oW (by omega);subst z;refine kh (no:=no) (p:=p) hb l.length 0 h (aG t 0 (sH ways n b o cap)::aG b (o+setOf n no*1) [.slice (some ⟨u,w,none⟩) l.length c]::M) (by omega) rfl d.to ?_;intro i e;refine v _ ?_;exact(kH b (o+setOf n no*1) l (a:=some ⟨u,w,none⟩) (c:=c) e rfl rfl).to
end
section
theorem Az {n:Nat} {S:Nat->List Th} {no:Int}:aR S (setOf n no) (S (setOf n no))=S:=aBc
theorem aEf {l:List Th} (h:0<l.length):(eX l)[0*5+(0+0)]?=some (I (l[0]).1):=by
 cases l with
 |nil=>simp at h
 |cons y l=>rfl
theorem cz {no:Int} {l:List Th} {i:Nat} {x:pQ} (h:l[i]?=some (no,x)):((eX l).drop (i*5+1)).take 4=x.enc:=by
 have:=T6 h;rw[<-List.drop_drop];have a:(((eX l).drop (i*5)).take 5).drop 1=x.enc:=by rw[this];rfl
 rw[List.drop_take] at a;exact a
set_option maxRecDepth 100000
variable {G:Bg} {h:AH} {L L' M:List HP}
theorem B0 {t ways n:Nat} {no:Int} {S:Nat->List Th} {Q:Value->AH->Prop} (g:0<n) (hb:∀i,(S i).length<=4) (d:Hs G h L) [m:Has (hZ G t ways n) L S L']
  (f:∀u,Hs G u (hZ G t ways n S::L')->Q (.tuple ⟨[.agg ⟨(bA n S no).1.enc⟩,I (bA n S no).2]⟩) u):Cl Pr K 245 [pt t 0 0,I no] h Q:=by
 have d:=m.of d
 refine cW (bP d ?_)
 intro p h d
 unfold bA at f
 by_cases k:no<0
 .rw[aLb k] at f;refine Vy k d fun h d=>aH rfl (aH rfl (aH rfl (bC (bV (by omega) (aU d (by decide) (l:=pQ.zero.enc) rfl rfl ?_)))));refine bH d rfl rfl rfl rfl ?_;intro h d;exact aU d (by decide) (l:=pQ.zero.enc) rfl rfl (f _ d.tail)
 .rw[aLa k] at f;obtain⟨b,o,cap,d⟩:=Jq (kY (no:=no) g) (d.front (hZ G t ways n S));refine vH (t:=t) (ways:=ways) (n:=n) (b:=b) (o:=o) (cap:=cap) (l:=S (setOf n no)) g (by omega) (hb _) d fun h d=>aH rfl (aH rfl (aH rfl (bC (aT (by omega) ?_))));refine bW ?_;cases hx:ix no (S (setOf n no)) with
  |none=>
   rw[(B5 hx).1] at f
   simp only[pz,hx]
   refine aZ (bV (by omega) (aU (b:=p) (o:=0) d (by decide) (l:=pQ.zero.enc) rfl rfl ?_))
   refine bH (b:=p) (o:=0) d rfl rfl rfl rfl ?_
   intro h d
   refine aU d (by decide) (l:=pQ.zero.enc) rfl rfl (f _ ?_)
   have:=uI t ways n S (setOf n no) (S (setOf n no)) b o cap (kY g) d
   rw[Az] at this
   exact this.to
  |some i=>
   obtain⟨x,w,y,B,z⟩:=yG hx
   rw[y] at f
   simp only[pz,hx]
   obtain⟨a,c,d⟩:=tV (d.front (cK b (o+setOf n no*1) (S (setOf n no))))
   obtain⟨q,v,A,e⟩:=(d.front (dI 5 251 a c ((S (setOf n no)).length,eX (S (setOf n no))))).gM (by omega)
   subst A
   refine aZ (aT (by omega) (aB (aC (b:=b) (o:=o+setOf n no*1) e rfl (dV z (aA (Lh (b:=q) (o:=v) e (by decide) (l:=x.enc) (by rw[Nat.zero_add];exact cz w) rfl ?_))))))
   have e:=e.mO (Cb _) (yU _)
   refine bH (b:=p) (o:=0) e rfl rfl rfl rfl ?_
   intro h d
   refine aU d (by decide) (l:=x.enc) rfl rfl (f _ ?_)
   have d:=kH b (o+setOf n no*1) (S (setOf n no)) (a:=some ⟨q,v,none⟩) (c:=c) d rfl rfl
   have:=uI t ways n S (setOf n no) (S (setOf n no)) b o cap (kY g) d
   rw[Az] at this
   exact this.to
theorem od {t ways n:Nat} {no:Int} {S:Nat->List Th} {Q:Value->AH->Prop} (J:0<ways) (k:0<n) (B:0<=no) (hb:∀i,(S i).length<=4) (d:Hs G h L) [m:Has (hZ G t ways n) L S L']
  (f:∀u,Hs G u (hZ G t ways n S::L')->Q (match yH n ways S no with|some v=> .tuple ⟨[I v.1,.bool true,I 0]⟩|none=> .tuple ⟨[I 0,.bool false,I 0]⟩) u):Cl Pr K 292 [pt t 0 0,I no] h Q:=by
 have d:=m.of d
 unfold yH at f
 refine cW ?_
 obtain⟨b,o,cap,d⟩:=Jq (kY (no:=no) k) (d.front (hZ G t ways n S))
 refine vH (t:=t) (ways:=ways) (n:=n) (b:=b) (o:=o) (cap:=cap) (l:=S (setOf n no)) k (by omega) (hb _) d fun h d=>aH rfl (aH rfl (aH rfl (bC (aT (by omega) ?_))))
 refine bW (bB d ?_)
 intro r h d
 have back:∀{h:AH},Hs G h (fp r (13,[])::aG t 0 (sH ways n b o cap)::cK b (o+setOf n no*1) (S (setOf n no))::hole G 1 248 (some ⟨b,o,none⟩) cap n b o::Wk b o n S (setOf n no)::L')->Hs G h (hZ G t ways n S::L'):=fun d=>by
  have:=uI t ways n S (setOf n no) (S (setOf n no)) b o cap (kY k) d;rw[Az] at this;exact this.to
 cases hx:ix no (S (setOf n no)) with
 |some i=>
  obtain⟨x,D,y,E,F⟩:=yG hx
  rw[y] at f
  simp only[pz,hx]
  exact dO (bV (by omega) (f _ (back d)))
 |none=>
  rw[(B5 hx).1] at f
  simp only[pz,hx]
  obtain⟨a,c,d⟩:=tV (d.front (cK b (o+setOf n no*1) (S (setOf n no))))
  refine dO (aT (by omega) (aB (aC (b:=b) (o:=o+setOf n no*1) d rfl (cC (aB (aA (aC (b:=t) (o:=0) d rfl (aZ (aX (fun A=>?_) (fun A=>?_))))))))))
  .simp only[aLb (show(S (setOf n no)).length<ways by omega)] at f;refine f _ (back ?_);exact(kH b (o+setOf n no*1) (S (setOf n no)) (a:=a) (c:=c) d rfl rfl).to
  .have g:0<(S (setOf n no)).length:=by omega
   simp only[aLa (show ¬(S (setOf n no)).length<ways by omega),List.getElem?_eq_getElem g] at f
   obtain⟨q,w,z,e⟩:=(d.front (dI 5 251 a c ((S (setOf n no)).length,eX (S (setOf n no))))).gM g
   subst z
   refine aB (aC (b:=b) (o:=o+setOf n no*1) e rfl (dV (i:=0) g (aA (aCj (b:=q) (o:=w) (i:=0*5) (j:=0+0) e (v:=I ((S (setOf n no))[0]).1) ?_ (f _ ?_)))))
   .exact aEf g
   .have e:=e.mO (Cb _) (yU _);refine back ?_;exact(kH b (o+setOf n no*1) (S (setOf n no)) (a:=some ⟨q,w,none⟩) (c:=c) e rfl rfl).to
theorem Pk {l:List Th} {i c:Nat} {a:Option Addr} {Q:Value->AH->Prop} (x:i<l.length) (hb:l.length<=4) (d:Hs G h L) [m:Has (dI 5 251 a c) L (l.length,eX l) L']
  (y:∀k,Hs G k (dI 5 251 a c (l.length - 1,eX (l.take i++l.drop (i+1)))::L')->Q (.slice a (l.length - 1) c) k):Cl Pr K 296 [.slice a l.length c,I i,I ((i:Int)+1)] h Q:=by
 have d:=m.of d
 have e:l.length<=c:=by
  obtain⟨r,A,⟨_,_,z⟩,_⟩:=d.fst;rcases z with⟨g,_⟩|⟨g,_⟩|⟨e,_⟩;simp only at g;omega;simp only at g;omega;exact e
 obtain⟨b,o,w,_⟩:=d.oW (by omega)
 refine cW (cC ?_)
 refine X3 (v:= .slice (some ⟨b,o+i*5,none⟩) (i+1 - i) (l.length - i)) ?_ ?_
 .subst w;have q:lR (some (I l.length)) c c=some l.length:=by simp only[lR];rw[aLb (by omega)];simp
  have t:lR (some (I ((i:Int)+1))) l.length l.length=some (i+1):=by simp only[lR];rw[aLb (by omega)];congr 1
  have u:lR (some (I i)) 0 (i+1)=some i:=by simp only[lR];rw[aLb (by omega)];simp
  have f:¬l.length=i:=by omega
  simp only[zM,q,t,u,Option.isNone_some,Bool.false_and,Option.isSome_none,Bool.false_eq_true,if_false,f,dB]
  rw[aLb (by omega)]
 refine bJ (aT (by omega) (bW (cC (bB d ?_))))
 intro r h d
 refine aCu (i:=i) (by decide) rfl rfl x d ?_
 intro h d
 refine y _ ?_
 rw[ld,<-Xl,<-Km]
 exact d.to
theorem V8 {no:Int} {l:List Th} {i:Nat} (h:ix no l=some i):rem no l=l.take i++l.drop (i+1):=by obtain⟨_,_,_,a,_⟩:=yG h;exact a
theorem Wn {no:Int} {l:List Th} {i:Nat} (h:ix no l=some i):l.length - 1=(rem no l).length:=by
 obtain⟨x,d,a,e,f⟩:=yG h;rw[I7,a];rfl
theorem Sf {t ways n:Nat} {no:Int} {S:Nat->List Th} {Q:Value->AH->Prop} (k:0<n) (hb:∀i,(S i).length<=4) (d:Hs G h L) [m:Has (hZ G t ways n) L S L']
  (f:∀u,Hs G u (hZ G t ways n (gG n S no)::L')->Q (.tuple ⟨[.agg ⟨(bA n S no).1.enc⟩,I (bA n S no).2]⟩) u):Cl Pr K 293 [pt t 0 0,I no] h Q:=by
 have d:=m.of d
 refine cW (bP d ?_)
 intro p h d
 unfold bA gG at f
 by_cases g:no<0
 .rw[aLb g,aLb g] at f;refine Vy g d fun h d=>aH rfl (aH rfl (aH rfl (bC (bV (by omega) (aU d (by decide) (l:=pQ.zero.enc) rfl rfl ?_)))));refine bH d rfl rfl rfl rfl ?_;intro h d;exact aU d (by decide) (l:=pQ.zero.enc) rfl rfl (f _ d.tail)
 .rw[aLa g,aLa g] at f;obtain⟨b,o,cap,d⟩:=Jq (kY (no:=no) k) (d.front (hZ G t ways n S));refine vH (t:=t) (ways:=ways) (n:=n) (b:=b) (o:=o) (cap:=cap) (l:=S (setOf n no)) k (by omega) (hb _) d fun h d=>aH rfl (aH rfl (aH rfl (bC (aT (by omega) ?_))));refine bW ?_;cases hx:ix no (S (setOf n no)) with
  |none=>
   rw[(B5 hx).1,(B5 hx).2,Az] at f
   simp only[pz,hx]
   refine aZ (bV (by omega) (aU (b:=p) (o:=0) d (by decide) (l:=pQ.zero.enc) rfl rfl ?_))
   refine bH (b:=p) (o:=0) d rfl rfl rfl rfl ?_
   intro h d
   refine aU d (by decide) (l:=pQ.zero.enc) rfl rfl (f _ ?_)
   have:=uI t ways n S (setOf n no) (S (setOf n no)) b o cap (kY k) d
   rw[Az] at this
   exact this.to
  |some i=>
   obtain⟨x,y,z,B,v⟩:=yG hx
   rw[z] at f
   simp only[pz,hx]
   obtain⟨a,c,d⟩:=tV (d.front (cK b (o+setOf n no*1) (S (setOf n no))))
   obtain⟨q,w,A,e⟩:=(d.front (dI 5 251 a c ((S (setOf n no)).length,eX (S (setOf n no))))).gM (by omega)
   subst A
   refine aZ (aT (by omega) (bW (aB (aC (b:=b) (o:=o+setOf n no*1) e rfl (dV v (aA (Lh (b:=q) (o:=w) e (by decide) (l:=x.enc) (by rw[Nat.zero_add];exact cz y) rfl ?_)))))))
   have e:=e.mO (Cb _) (yU _)
   refine bH (b:=p) (o:=0) e rfl rfl rfl rfl ?_
   intro h d
   refine aB (aC (b:=b) (o:=o+setOf n no*1) d rfl (bQ (by have:=hb (setOf n no);omega) (Pk v (hb _) d fun h d=>?_)))
   refine aB (bL (b:=b) (o:=o+setOf n no*1) d rfl rfl rfl rfl ?_)
   intro h d
   refine aU (b:=p) (o:=0) d (by decide) (l:=x.enc) rfl rfl ?_
   refine bH (b:=p) (o:=0) d rfl rfl rfl rfl ?_
   intro h d
   refine aU d (by decide) (l:=x.enc) rfl rfl (f _ ?_)
   rw[Wn hx,<-V8 hx] at d
   have d:=kH b (o+setOf n no*1) (rem no (S (setOf n no))) (a:=some ⟨q,w,none⟩) (c:=c) d rfl rfl
   exact(uI t ways n S (setOf n no) (rem no (S (setOf n no))) b o cap (kY k) d).to
end
section
set_option maxRecDepth 100000
variable {G:Bg} {h:AH} {L L' M:List HP}
theorem aHw {_t _ways n b o _cap p c:Nat} {no:Int} {x:pQ} {l:List Th} {a:Option Addr} {Q:Value->AH->Prop} (hb:l.length<=4)
  (d:Hs G h (aG p 0 x.enc::aG b (o+setOf n no*1) [.slice a l.length c]::dI 5 251 a c (l.length,eX l)::L))
  (u:∀f,Hs G f (cK b (o+setOf n no*1) (l++[(no,x)])::L)->Q (I 0) f):Dd 251 4 [] Q [(I no),(pt p 0 0),(pt b (o+setOf n no*1) 0)] h:=by
 refine bW (bB d ?_)
 intro r h d
 refine aB (aC (b:=b) (o:=o+setOf n no*1) d rfl (aU (b:=p) (o:=0) d (by decide) (l:=x.enc) rfl rfl ?_))
 refine aQ (c:=I no::x.enc) rfl (aQ (c:=q5 (no,x)) rfl ?_)
 refine jZ (i:=7) (N:=11) (D:=[]) d rfl rfl rfl rfl rfl ?_
 intro e h d
 refine sI (a:=a) (c:=c) (n:=l.length) (cs:=eX l) (a2:=some e) (c2:=1) (m:=1) (ns:=q5 (no,x)) d (by omega) ?_
 intro g k h d
 refine aB (bL (b:=b) (o:=o+setOf n no*1) d rfl rfl rfl rfl ?_)
 intro h d
 refine cY (show oI _ _=true by simp[oI,pt]) (u _ ?_)
 have q:eX l++q5 (no,x)=eX (l++[(no,x)]):=by simp[eX]
 have d:=kH b (o+setOf n no*1) (l++[(no,x)]) (a:=g) (c:=k) (n:=l.length+1) d (by simp) q
 exact d.to
theorem Bf {t ways n:Nat} {no:Int} {x:pQ} {S:Nat->List Th} {Q:Value->AH->Prop} (D:0<=no) (k:0<n) (hb:∀i,(S i).length<=4) (d:Hs G h L) [m:Has (hZ G t ways n) L S L']
  (f:∀w,Hs G w (hZ G t ways n (kJ n ways S no x).1::L')->Q (I (kJ n ways S no x).2) w):Cl Pr K 251 [pt t 0 0,I no,.agg ⟨x.enc⟩] h Q:=by
 have d:=m.of d
 refine cW (dS d ?_)
 intro p h d
 obtain⟨b,o,cap,d⟩:=Jq (kY (no:=no) k) (d.front (hZ G t ways n S))
 refine vH (t:=t) (ways:=ways) (n:=n) (b:=b) (o:=o) (cap:=cap) (l:=S (setOf n no)) k (by omega) (hb _) d fun h d=>aH rfl (aH rfl (aH rfl (bC (aT (by omega) ?_))))
 obtain⟨a,c,d⟩:=tV (d.front (cK b (o+setOf n no*1) (S (setOf n no))))
 refine bW ?_
 have fin:∀{h:AH} {M:List HP},Hs G h (aG t 0 (sH ways n b o cap)::aG p 0 x.enc::aG b (o+setOf n no*1) [.slice a (rem no (S (setOf n no))).length c]::dI 5 251 a c ((rem no (S (setOf n no))).length,eX (rem no (S (setOf n no))))::
   hole G 1 248 (some ⟨b,o,none⟩) cap n b o::Wk b o n S (setOf n no)::L')->
   (bE (nG (pt b (o+setOf n no*1) 0)) fun B=>bE (rT h B) fun v9=>bE (lJ v9) fun v10=>bE (nG (pt t 0 0)) fun v11=>bE (iN 0 v11) fun q=>bE (rT h q) fun u=>bE (xP .geq v10 u) fun v=>
    Br v (Q (I 11) h) (Dd 251 4 [] Q [(I no),(pt p 0 0),(pt b (o+setOf n no*1) 0)] h)):=by
  intro h M d
  have g:(rem no (S (setOf n no))).length<=4:=by rw[I7];have:=hb (setOf n no);split<;>omega
  unfold kJ at f
  refine aB (aC (b:=b) (o:=o+setOf n no*1) d rfl (cC (aB (aA (aC (b:=t) (o:=0) d rfl (dO (aX (fun A=>?_) (fun A=>?_))))))))
  .rw[aLb (by omega)] at f;refine f _ ?_;have d:=kH b (o+setOf n no*1) (rem no (S (setOf n no))) (a:=a) (c:=c) d rfl rfl;exact(uI t ways n S (setOf n no) (rem no (S (setOf n no))) b o cap (kY k) d).to
  .rw[aLa (by omega)] at f;refine aHw (_t:=t) (_ways:=ways) (_cap:=cap) (l:=rem no (S (setOf n no))) (a:=a) (c:=c) g (show Hs G h (aG p 0 x.enc::aG b (o+setOf n no*1) [.slice a (rem no (S (setOf n no))).length c]::dI 5 251 a c ((rem no (S (setOf n no))).length,eX (rem no (S (setOf n no))))::aG t 0 (sH ways n b o cap)::
    hole G 1 248 (some ⟨b,o,none⟩) cap n b o::Wk b o n S (setOf n no)::L') from d.to) ?_
   intro h d
   exact f _ (uI t ways n S (setOf n no) (rem no (S (setOf n no))++[(no,x)]) b o cap (kY k) d).to
 cases hx:ix no (S (setOf n no)) with
 |none=>
  have e:=(B5 hx).2
  simp only[pz,hx]
  refine dO (aT (by omega) (bW (bB d ?_)))
  intro r h d
  refine fin (M:=[]) ?_
  rw[e]
  exact d.to
 |some i=>
  obtain⟨y,E,F,J,z⟩:=yG hx
  simp only[pz,hx]
  refine dO (bV (by omega) (bW ?_))
  refine aB (aC (b:=b) (o:=o+setOf n no*1) d rfl (bQ (by have:=hb (setOf n no);omega) (Pk z (hb _) d fun h d=>?_)))
  refine aB (bL (b:=b) (o:=o+setOf n no*1) d rfl rfl rfl rfl ?_)
  intro h d
  refine bB d ?_
  intro r h d
  refine fin (M:=[]) ?_
  rw[Wn hx,<-V8 hx] at d
  have d:=d.sg (b:=b) (o:=o+setOf n no*1) (c:=[.slice a (rem no (S (setOf n no))).length c]) rfl
  exact d.to
end
section
set_option maxRecDepth 100000
variable {G:Bg} {h:AH} {L L' M:List HP}
theorem Hz {t ways n:Nat} {no:Int} {S:Nat->List Th} {Q:Value->AH->Prop} (q:0<=no) (k:0<n) (hb:∀i,(S i).length<=4) (a:Hs G h L) [m:Has (hZ G t ways n) L S L']
  (d:∀g,Hs G g (hZ G t ways n (wP n ways S no)::L')->Q (.tuple ⟨[.agg ⟨(bA n S no).1.enc⟩,I (w9 n ways S no)]⟩) g):Cl Pr K 249 [pt t 0 0,I no] h Q:=by
 have a:=m.of a
 refine cW (bP a ?_)
 intro p h a
 refine Sf (t:=t) (ways:=ways) (n:=n) (S:=S) k hb a fun h a=>aH rfl (aH rfl ?_)
 refine bH (b:=p) (o:=0) a rfl rfl rfl rfl ?_
 intro h a
 unfold wP w9 at d
 refine bC (aX (fun f=>?_) (fun f=>?_))
 .rw[aLa f,aLa f] at d;refine aU a (by decide) (l:=(bA n S no).1.enc) rfl rfl ?_;refine bH a rfl rfl rfl rfl ?_;intro h a;exact aU a (by decide) (l:=(bA n S no).1.enc) rfl rfl (d _ a.tail)
 .rw[aLb (by omega),aLb (by omega)] at d;refine bB a ?_;intro r h a;refine aU (b:=p) (o:=0) a (by decide) (l:=(bA n S no).1.enc) rfl rfl (aU (b:=p) (o:=0) a (by decide) (l:=(bA n S no).1.enc) rfl rfl ?_);refine Bf (t:=t) (ways:=ways) (n:=n) (S:=gG n S no) q k (qf hb) a fun h a=>?_;refine bH (b:=p) (o:=0) a rfl rfl rfl rfl ?_;intro u e;refine cY ?_ ?_
  .refine aU (b:=p) (o:=0) a (by decide) (l:=(bA n S no).1.enc) rfl rfl ?_;exact qV (by simp[pQ.enc,oI])
  .exact aU (b:=p) (o:=0) e (by decide) (l:=(bA n S no).1.enc) rfl rfl (d _ e.to)
end
end Go.Proofs.YtajjljbmfdboaaaGreatDoor.C
end
namespace Go.Proofs.YtajjljbmfdboaaaGreatDoor.C
open Go Go.Ab Go.Hm Go.Ct
section
theorem aF9 {a:Option Addr} {n c:Nat} {k:Value->Prop} (d:a=none->k (.bool true)) (e:a≠none->k (.bool false)):bE (R3 .eql (.slice a n c) (.slice none 0 0)) k:=by
 cases a with
 |none=>exact⟨_,rfl,d rfl⟩
 |some a=>exact⟨_,rfl,e (by simp)⟩
set_option maxRecDepth 100000
attribute [local irreducible] bE Br rT vO vB Dv nP xS mZ Ti iN nG pU sP rF lJ Cy xP Ya Xx Tj R3 Xc Td Rx Ub U1 mF pL vA kI copyV jQ zM Xp Yw Iz mA Pp Wr X7 pT tO Ao Cx Cl Bc Xb uL uF lI iQ cS cB
variable {G:Bg} {h:AH} {L L' M:List HP}
theorem db {b o n:Nat} (d:Hs G h (dK n (fun i=>aG b (o+i*1) [.slice none 0 0])::L)):Hs G h (dK n (fun i=>cK b (o+i*1) [])::L):=
 Hs.Lf (g:=fun i=>cK b (o+i*1) []) n _ (fun i _ _ _ d=>(kH b (o+i*1) [] (a:=none) (c:=0) (n:=0) (cs:=[]) (gS (W:=5) (e:=251) d).mK rfl rfl)) d
theorem Ur {s w:Int} (q:1<=s/\s<=8) (t:1<=w/\w<=4) {Q:Value->AH->Prop} (d:Hs G h L) (k:∀p f,Hs G f (hZ G p w.toNat s.toNat (fun _=>[])::L)->Q (.tuple ⟨[pt p 0 0,I 0]⟩) f):Cl Pr K 143 [I s,I w] h Q:=by
 refine cW (aZ (aT (by omega) (mS (aT (by omega) (aZ (aT (by omega) (mS (aT (by omega) (Ri (by omega) (by omega) (by omega) ?_)))))))));dsimp only;refine dW d ?_ rfl ?_ ?_;rw[gT,rL (W:=1) (fun _=>rfl)];rw[gT];exact qR (fun _=>rfl) _;intro a h d;obtain⟨b,o,g,d⟩:=Hs.Ku (W:=1) rfl (by omega) d;cases g;have e:w=(w.toNat:Int):=by omega
 refine aQ (c:=sH w.toNat s.toNat b o s.toNat) (by unfold sH;rw[<-e];rfl) (dS d ?_);intro p h d;refine k p h ?_;have d:=db (d.front (dK s.toNat fun i=>aG b (o+i*1) [.slice none 0 0]));exact Bx (b:=b) (o:=o) (cap:=s.toNat) d.to
theorem u5 {l:List Th} {a:Option Addr} {c:Nat} {Q:Value->AH->Prop} (hb:l.length<=4) (d:Hs G h L) [m:Has (dI 5 251 a c) L (l.length,eX l) L']
  (q:∀e f k,Hs G k (dI 5 251 e f (l.length,eX l)::dI 5 251 a c (l.length,eX l)::L')->Q (.slice e l.length f) k):Cl Pr K 181 [.slice a l.length c] h Q:=by
 have d:=m.of d
 refine cW (aF9 (fun g=>fK ?_) (fun _=>bZ (aQ (c:=[]) rfl ?_)))
 .subst g;have t:l=[]:=by
   cases l with
   |nil=>rfl
   |cons y l=>obtain⟨b,o,g,_⟩:=d.oW (by simp);cases g
  subst t
  exact q none 0 h (gS d)
 .refine dW (W:=5) (n:=0) (c:=0) d rfl rfl rfl ?_;intro i h d;refine sI (a:=some i) (c:=0) (n:=0) (cs:=[]) (a2:=a) (c2:=c) (m:=l.length) (ns:=eX l) d (by omega) ?_;intro e f h d;have:=q e f h (by simpa using d);show Q _ _;simpa using this
theorem kr {_p q b o cap b2 o2 cap2 n ways:Nat} {S:Nat->List Th} {Q:Value->AH->Prop} (J:n<=8) (hb:∀i,(S i).length<=4)
  (D:∀v,Hs G v (dK n (fun i=>cK b (o+i*1) (S i))::dK n (fun i=>cK b2 (o2+i*1) (S i))::aG q 0 (sH ways n b2 o2 cap2)::L)->Q (pt q 0 0) v):∀(r i:Nat) (h:AH) (_M:List HP),i+r=n->
  Hs G h (dK n (fun i=>cK b (o+i*1) (S i))::dK n (fun j=>cK b2 (o2+j*1) (if j<i then S j else []))::aG q 0 (sH ways n b2 o2 cap2)::L)->
  Dd 142 2 [] Q [(pt q 0 0),(.slice (some ⟨b,o,none⟩) n cap),(I n),(I i)] h:=by
 intro r
 induction r with
 |zero=>
  intro i h M A u
  have:i=n:=by omega
  subst this
  refine bW (aZ (aT (by omega) (D _ ?_)))
  exact(tF (f:=fun j=>cK b2 (o2+j*1) (if j<i then S j else [])) (g:=fun j=>cK b2 (o2+j*1) (S j)) (fun j B=>by rw[aLb B]) u.mK).mK
 |succ r F=>
  intro i h M A u
  have e:i<n:=by omega
  refine bW (aZ (bV (by omega) (bW (dV e ?_))))
  have t:=u.mW i e
  obtain⟨a,c,t⟩:=tV t
  refine aC (b:=b) (o:=o+i*1) t rfl (bB t ?_)
  intro K h u
  refine aB (aA (aC (b:=q) (o:=0) u rfl (u5 (l:=S i) (a:=a) (c:=c) (hb i) u fun w x h u=>?_)))
  have k:=(u.front (dK n fun j=>cK b2 (o2+j*1) (if j<i then S j else []))).mW i e
  simp only[Nat.lt_irrefl,if_false] at k
  obtain⟨a3,c3,k⟩:=tV k
  refine dV e (bL (b:=b2) (o:=o2+i*1) k rfl rfl rfl rfl ?_)
  intro z d
  refine cY dJ (cY (aB dJ) (cY (aA dJ) (cY (aC (b:=q) (o:=0) k rfl Ww) (cY jH (bQ (by omega) ?_)))))
  refine F (i+1) z [] (by omega) ?_
  have d:=kH b2 (o2+i*1) (S i) (a:=w) (c:=x) d rfl rfl
  have y:cK b2 (o2+i*1) (S i)=(fun j=>cK b2 (o2+j*1) (if j<i+1 then S j else [])) i:=by simp only[Nat.lt_succ_self,if_true]
  rw[y] at d
  have d:=d.qA (n:=n) (i:=i) (fun j=>cK b2 (o2+j*1) (if j<i then S j else [])) (fun j=>cK b2 (o2+j*1) (if j<i+1 then S j else [])) e (fun j _ E=>by
   have:(j<i+1)=(j<i):=propext ⟨fun h=>by omega,fun h=>by omega⟩;simp only[this])
  have d:=kH b (o+i*1) (S i) (a:=a) (c:=c) d rfl rfl
  have d:=d.qA (n:=n) (i:=i) (fun j=>cK b (o+j*1) (S j)) (fun j=>cK b (o+j*1) (S j)) e (fun _ _ _=>rfl)
  exact d.to
theorem zg {t ways n:Nat} {S:Nat->List Th} {Q:Value->AH->Prop} (g:0<n) (w:n<=8) (hb:∀i,(S i).length<=4) (d:Hs G h L) [m:Has (hZ G t ways n) L S L']
  (v:∀q k,Hs G k (hZ G q ways n S::hZ G t ways n S::L')->Q (pt q 0 0) k):Cl Pr K 142 [pt t 0 0] h Q:=by
 obtain⟨b,o,cap,d⟩:=Wt (m.of d)
 refine cW (dG (bZ (bW (bB d ?_))))
 intro x h d
 refine aB (aA (aC (b:=t) (o:=0) d rfl (aB (aA (aC (b:=t) (o:=0) d rfl (cC (aCl (by omega) (by omega) ?_)))))))
 dsimp only
 refine jZ (i:=9) (N:=13) (D:=[]) d rfl rfl ?_ rfl ?_ ?_
 .rw[gT,rL (W:=1) (fun _=>rfl)]
 .rw[gT];exact qR (fun _=>rfl) _
 intro a h d
 obtain⟨e,f,u,d⟩:=Hs.Ku (W:=1) rfl g d
 cases u
 refine aQ (c:=sH ways n e f n) rfl ?_
 refine Am (i:=11) d rfl rfl ?_
 intro q h d
 refine aB (aA (aC (b:=t) (o:=0) d rfl (cC ?_)))
 have d:=db (d.front (dK n fun i=>aG e (f+i*1) [.slice none 0 0]))
 refine kr (G:=G) (_p:=0) (ways:=ways) (n:=n) (b:=b) (o:=o) (cap:=cap) (b2:=e) (o2:=f) (cap2:=n) (S:=S) (L:=aG t 0 (sH ways n b o cap)::hole G 1 248 (some ⟨b,o,none⟩) cap n b o::hole G 1 248 (some ⟨e,f,none⟩) n n e f::L') w hb ?_ n 0 h [] (by omega) ?_
 .intro h d;refine v q h ?_;have d:Hs G h (aG q 0 (sH ways n e f n)::hole G 1 248 (some ⟨e,f,none⟩) n n e f::dK n (fun i=>cK e (f+i*1) (S i))::aG t 0 (sH ways n b o cap)::hole G 1 248 (some ⟨b,o,none⟩) cap n b o::dK n (fun i=>cK b (o+i*1) (S i))::L'):=d.to;have d:=Bx (b:=e) (o:=f) (cap:=n) d;have d:Hs G h (aG t 0 (sH ways n b o cap)::hole G 1 248 (some ⟨b,o,none⟩) cap n b o::dK n (fun i=>cK b (o+i*1) (S i))::hZ G q ways n S::L'):=d.to;exact(Bx (b:=b) (o:=o) (cap:=cap) d).mK
 .simp only[Nat.not_lt_zero,if_false];exact d.to
end
end Go.Proofs.YtajjljbmfdboaaaGreatDoor.C
section
open Go Go.Ab
attribute [local irreducible] bE Br rT vO vB Dv nP xS mZ Ti iN nG pU sP rF lJ Cy xP Ya Xx Tj R3 Xc Td Rx Ub U1 mF pL vA kI copyV jQ zM Xp Yw Iz mA Pp Wr X7 pT tO Ao Cx Cl Bc Xb uL uF lI iQ cS cB
namespace Go.Proofs.YtajjljbmfdboaaaGreatDoor.C
open Go Go.Ab Go.Hm Go.Ct
section
def kA (t:Nat) (C:bM) (core:Int) (s:gZ):List Value:=pt t 0 0::(C.enc++[I core,I s.al,.bool s.aw,.bool s.D9,I s.gl,I s.gc.st,I s.gc.w,I s.gc.d.1,I s.gc.d.2,.bool s.sS])
set_option maxRecDepth 100000
variable {G:Bg} {h:AH} {L L' M:List HP}
def hM (G:Bg) (c:Nat) (C:bM) (core:Int) (s:gZ):HP:=vW fun t:Nat=>sp [aG c 0 (kA t C core s),hZ G t C.ways.toNat C.aI.toNat s.S]
theorem lC {c:Nat} {C:bM} {core:Int} {s:gZ} (a:Hs G h (hM G c C core s::L)):∃t,Hs G h (aG c 0 (kA t C core s)::hZ G t C.ways.toNat C.aI.toNat s.S::L):=by
 obtain⟨t,a⟩:=a.Et;exact⟨t,a.unpack⟩
theorem cQ (c t:Nat) (C:bM) (core:Int) (s:gZ) {cs:List Value} {S:Nat->List Th} {a L2:List HP} (f:Hs G h L) [m:Has (aG c 0) L cs a] [g:Has (hZ G t C.ways.toNat C.aI.toNat) a S L2] (d:cs=kA t C core s) (e:S=s.S):Hs G h (hM G c C core s::L2):=by
 subst d;subst e;exact Hs.Af (A:=fun t:Nat=>sp [aG c 0 (kA t C core s),hZ G t C.ways.toNat C.aI.toNat s.S]) t (Hs.pack (A:=[_,_]) (f.perm (m.perm.trans (g.perm.cons _))))
variable {C:bM} {core:Int} {c:Nat} {s:gZ}
theorem yY (hC:C.Ok) {l:Int} {Q:Value->AH->Prop} (g:Ob G 0 fV) (a:Hs G h L) [m:Has (hM G c C core) L s L'] (d:∀e,Hs G e (hM G c C core s::L')->Q (.bool (sB C l)) e):Cl Pr K 255 [pt c 0 0,I l] h Q:=by
 obtain⟨t,a⟩:=lC (m.of a);refine cW (dO (aX (fun f=>?_) (fun f=>?_)));refine aB (aA (aU (b:=c) (o:=0) a (by decide) (l:=C.enc) rfl rfl (rQ hC g a fun h a=>aZ ?_)));show Q _ _;rw[show decide (l<(C.lines:Int))=sB C l from decide_eq_decide.2 (by omega)];exact d _ (cQ c t C core s a rfl rfl);rw[show sB C l=false from decide_eq_false (by omega)] at d;exact d _ (cQ c t C core s a rfl rfl)
theorem Qr (hC:C.Ok) (hb:Bd s) {l i:Int} {w:Bool} {Q:Value->AH->Prop} (k:Ob G 3 jN) (a:Hs G h L) [m:Has (hM G c C core) L s L'] (d:∀g,Hs G g (hM G c C core s::L')->Q (.bool (mL C.aI.toNat s.S l i w)) g):Cl Pr K 195 [pt c 0 0,I l,I i,.bool w] h Q:=by
 obtain⟨t,a⟩:=lC (m.of a);refine cW (dG (bZ (bW (aB (aA (aC (b:=c) (o:=0) a rfl ?_))))));refine B0 (t:=t) (ways:=C.ways.toNat) (n:=C.aI.toNat) (S:=s.S) (lK hC).1 hb a fun h a=>aH rfl (aH rfl (bP a ?_));intro p h a;refine bH a rfl rfl rfl rfl ?_;intro h a;unfold mL at d;refine bJ (aX (fun e=>aA (aC a rfl (bJ (aX (fun f=>?_) (fun f=>?_))))) (fun e=>?_));rw[decide_eq_true e,decide_eq_true f,Bool.true_and,Bool.true_and] at d;exact aU a (by decide) (l:=(bA C.aI.toNat s.S l).1.enc) rfl rfl (Pz k a fun h a=>d _ (cQ c t C core s a rfl rfl).to);rw[decide_eq_false f,Bool.and_false,Bool.false_and] at d;exact d _ (cQ c t C core s a rfl rfl).to;rw[decide_eq_false e,Bool.false_and,Bool.false_and] at d;exact d _ (cQ c t C core s a rfl rfl).to
theorem Fm (hC:C.Ok) (hb:Bd s) {l at' q:Int} {w:Bool} {Q:Value->AH->Prop} (t:Ob G 0 fV) (u:Ob G 3 jN) (d:Hs G h L) [m:Has (hM G c C core) L s L'] (a:∀k,Hs G k (hM G c C core s::L')->Q (I (mD C s.S l at' q w)) k):Cl Pr K 248 [pt c 0 0,I l,I at',I q,.bool w] h Q:=by
 have d:=m.of d;unfold mD at a;refine cW (dG (bZ (bW (yY (c:=c) (core:=core) (s:=s) hC t d fun h d=>cE (eO (dH (fun g=>?_) (fun g=>?_)))))));rw[g] at a;simp only[Bool.true_eq_false,if_false] at a;refine aZ (aX (fun e=>?_) (fun e=>dO (aX (fun f=>?_) (fun f=>bW (Qr (c:=c) (core:=core) (s:=s) hC hb u d fun h d=>cE (eO (dH (fun i=>?_) (fun i=>?_))))))));rw[aLb e] at a;exact a _ d;rw[aLa e,aLb f] at a;exact a _ d;rw[aLa e,aLa f,aLa (by rw[i];simp)] at a;exact a _ d;rw[aLa e,aLa f,aLb i] at a;exact a _ d;rw[aLb g] at a;exact a _ d
theorem dw (hC:C.Ok) (hb:Bd s) {l at' k:Int} {Q:Value->AH->Prop} (x:Ob G 0 fV) (y:Ob G 3 jN) (a:Hs G h L) [m:Has (hM G c C core) L s L'] (d:∀v e q,Hs G q (hM G c C core (mV C s l at' k)::L')->Q (.tuple ⟨[I v,I e]⟩) q):Cl Pr K 197 [pt c 0 0,I l,I at',I k] h Q:=by
 have a:=m.of a;unfold mV at d;refine cW (Fm (c:=c) (core:=core) (s:=s) hC hb x y a fun h a=>bC (aX (fun g=>?_) (fun g=>?_)));rw[aLa g] at d;exact d _ _ _ a;have g:mD C s.S l at' k false=0:=by omega
 rw[aLb g] at d;obtain⟨i,w,z,_⟩:=qF g;obtain⟨t,a⟩:=lC a;refine bW (aB (aA (aC (b:=c) (o:=0) a rfl (Hz (t:=t) (ways:=C.ways.toNat) (n:=C.aI.toNat) (S:=s.S) i.1 (lK hC).1 hb a fun h a=>aH rfl (aH rfl (bP a ?_))))));intro p h a;refine bH a rfl rfl rfl rfl ?_;intro h a;have f:=fun {h:AH} a=>(cQ c t C core {s with S:=wP C.aI.toNat C.ways.toNat s.S l} (G:=G) (h:=h) (L:=aG p 0 (bA C.aI.toNat s.S l).1.enc::hZ G t C.ways.toNat C.aI.toNat (wP C.aI.toNat C.ways.toNat s.S l)::aG c 0 (kA t C core s)::L') a rfl rfl);refine bC (aX (fun u=>d _ _ _ (f a).to) (fun u=>aA ?_));rcases w with rfl|rfl;exact fU (by decide) (by decide) (aC (b:=p) (o:=0) a rfl (d _ _ _ (f a).to));exact fU (by decide) (by decide) (aC (b:=p) (o:=0) a rfl (d _ _ _ (f a).to))
end
section
set_option maxRecDepth 100000
variable {G:Bg} {h:AH} {L L' M:List HP} {C:bM} {core:Int} {c:Nat} {s:gZ}
theorem Tn {s':gZ} {c t:Nat} {cs:List Value} {S:Nat->List Th} {a L2:List HP} (d:cs=kA t C core s') (e:S=s'.S) (f:Hs G h L) [m:Has (aG c 0) L cs a] [g:Has (hZ G t C.ways.toNat C.aI.toNat) a S L2]:Hs G h (hM G c C core s'::L2):=cQ c t C core s' f d e
theorem Gq (hC:C.Ok) (hb:Bd s) {l at' x v:Int} {Q:Value->AH->Prop} (D:Ob G 0 fV) (z:Ob G 3 jN) (a:Hs G h L) [m:Has (hM G c C core) L s L'] (g:∀e y,Hs G y (hM G c C core (jD C s l at' x v)::L')->Q (I e) y):Cl Pr K 198 [pt c 0 0,I l,I at',I x,I v] h Q:=by
 have a:=m.of a;unfold jD at g;refine cW (Fm (c:=c) (core:=core) (s:=s) hC hb D z a fun h a=>bC (aX (fun f=>?_) (fun f=>?_)));rw[aLa f] at g;exact g _ _ a;have f:mD C s.S l at' x true=0:=by omega
 rw[aLb f] at g;obtain⟨w,B,J,d⟩:=qF f;have d:tL (bA C.aI.toNat s.S l).1.st=true:=d;obtain⟨t,a⟩:=lC a;refine bW (aB (aA (aC (b:=c) (o:=0) a rfl ?_)));refine B0 (t:=t) (ways:=C.ways.toNat) (n:=C.aI.toNat) (S:=s.S) (lK hC).1 hb a fun h a=>aH rfl (aH rfl (bP a ?_));intro p h a;refine bH a rfl rfl rfl rfl ?_;intro h a;refine bC (aT (by omega) (bW (aA (aC (b:=p) (o:=0) a rfl (Uk z a d (aH rfl (aH rfl (aA (bL (b:=p) (o:=0) a rfl rfl rfl rfl ?_)))))))));intro h a;refine bC (aT (by omega) (bW (aA ?_)));have i:∀{k:Bool} {h:AH},Hs G h (aG p 0 (pD C.aI.toNat s.S l at' v).enc::hZ G t C.ways.toNat C.aI.toNat s.S::aG c 0 (kA t C core s)::L')->k=true->
   Ti k h 8 fun _ q=>bE (nG (pt c 0 0)) fun v5=>bE (iN 0 v5) fun v6=>bE (rT q v6) fun E=>bE (vO q 4 (pt p 0 0)) fun F=>Cl Pr K 251 [E,I l,F] q fun v9 A=>Q v9 A:=by
  intro k h a u
  refine bB (hc:=u) a ?_
  intro r h a
  refine aB (aA (aC (b:=c) (o:=0) a rfl (aU (b:=p) (o:=0) a (by decide) (l:=(pD C.aI.toNat s.S l at' v).enc) rfl rfl ?_)))
  refine Bf (t:=t) (ways:=C.ways.toNat) (n:=C.aI.toNat) (S:=s.S) w.1 (lK hC).1 hb a fun h a=>?_
  exact g _ _ (cQ c t C core {s with S:=(kJ C.aI.toNat C.ways.toNat s.S l (pD C.aI.toNat s.S l at' v)).1} (cs:=kA t C core s) a rfl rfl).to
 rcases B with rfl|rfl;refine fU (by decide) (by decide) (bL (b:=p) (o:=0) a rfl rfl rfl rfl ?_);intro h a;exact i ((a.sg (b:=p) (o:=0) (c:=(pD C.aI.toNat s.S l 0 v).enc) rfl).to) (by kernel_rfl);refine fU (by decide) (by decide) (bL (b:=p) (o:=0) a rfl rfl rfl rfl ?_);intro h a;exact i ((a.sg (b:=p) (o:=0) (c:=(pD C.aI.toNat s.S l 1 v).enc) rfl).to) (by kernel_rfl)
theorem fi {t:Nat} {l w:Int} {wr:Bool} {ns:List aJ} {a:Option Addr} {cp:Nat} {Q:Value->AH->Prop} (J:ns.length<=1) (d:Hs G h (aG c 0 (kA t C core (mU core s l w wr ns).1)::hZ G t C.ways.toNat C.aI.toNat s.S::dI 9 175 a cp (ns.length,eP ns)::L))
  (E:∀e f B,Hs G B (dI 9 175 e f ((mU core s l w wr ns).2.1.length,eP (mU core s l w wr ns).2.1)::hM G c C core (mU core s l w wr ns).1::L)->Q (.tuple ⟨[.slice e (mU core s l w wr ns).2.1.length f,I 0]⟩) B):
  Br (.bool wr) (Dd 247 10 [] Q [(pt c 0 0),(I l),(I w),(.slice a ns.length cp)] h) (bE (nG (pt c 0 0)) fun v35=>bE (iN 8 v35) fun v36=>bE (rT h v36) fun z=>
   bE (oR [(I 0),(I 0),(I 0),(I 0),(I 0),(I 0),(I 0),(.bool false),(I 0)] [(0,1,(I 1)),(1,1,z),(2,1,(I l)),(3,1,(I w))]) fun k=>
   bE (oR [(I 0),(I 0),(I 0),(I 0),(I 0),(I 0),(I 0),(.bool false),(I 0)] [(0,9,(.agg ⟨k⟩))]) fun v=>
   xS h 9 175 v 1 1 fun y q=>bE (kI 9 72 175 q (.slice a ns.length cp) y) fun i=>(fun A u=>Q (.tuple ⟨[A,(I 0)]⟩) u) i.1 i.2):=by
 have fin:∀{h:AH} {e:Option Addr} {f:Nat} (x:aJ),x=⟨if wr then 2 else 1,core,l,w,0,0,0,false,0⟩->Hs G h (dI 9 175 e f (ns.length+1,eP ns++x.enc)::aG c 0 (kA t C core (mU core s l w wr ns).1)::hZ G t C.ways.toNat C.aI.toNat s.S::L)->Q (.tuple ⟨[.slice e (ns.length+1) f,I 0]⟩) h:=by
  intro h e f x F d;have D:(mU core s l w wr ns).2.1=ns++[x]:=by rw[F];rfl
  have:=E e f h;rw[D] at this;simp only[List.length_append,List.length_cons,List.length_nil,eP,List.flatMap_append,List.flatMap_cons,List.flatMap_nil,List.append_nil,Nat.zero_add] at this;refine this ?_;have d:=Tn (s':=(mU core s l w wr ns).1) (t:=t) (c:=c) rfl rfl d;exact d.mK
 cases wr
 .refine bZ (aB (aA (aC (b:=c) (o:=0) d rfl (aQ (c:=(⟨1,core,l,w,0,0,0,false,0⟩:aJ).enc) rfl (aQ (c:=(⟨1,core,l,w,0,0,0,false,0⟩:aJ).enc) rfl (dW (W:=9) (n:=1) (c:=1) d rfl rfl rfl ?_))))));intro g h d;refine sI (a:=a) (c:=cp) (n:=ns.length) (cs:=eP ns) (a2:=some g) (c2:=1) (m:=1) (ns:=(⟨1,core,l,w,0,0,0,false,0⟩:aJ).enc) d (by omega) ?_;intro e f h d;exact fin ⟨1,core,l,w,0,0,0,false,0⟩ rfl d.to
 .refine fK (bW (aB (aA (aC (b:=c) (o:=0) d rfl (aQ (c:=(⟨2,core,l,w,0,0,0,false,0⟩:aJ).enc) rfl (aQ (c:=(⟨2,core,l,w,0,0,0,false,0⟩:aJ).enc) rfl (dW (W:=9) (n:=1) (c:=1) d rfl rfl rfl ?_)))))));intro g h d;refine sI (a:=a) (c:=cp) (n:=ns.length) (cs:=eP ns) (a2:=some g) (c2:=1) (m:=1) (ns:=(⟨2,core,l,w,0,0,0,false,0⟩:aJ).enc) d (by omega) ?_;intro e f h d;exact fin ⟨2,core,l,w,0,0,0,false,0⟩ rfl d.to
theorem ja {t:Nat} {l w:Int} {wr:Bool} {ns:List aJ} {a:Option Addr} {cp:Nat} {Q:Value->AH->Prop} (k:ns.length<=1) (d:Hs G h (aG c 0 (kA t C core s)::hZ G t C.ways.toNat C.aI.toNat s.S::dI 9 175 a cp (ns.length,eP ns)::L))
  (i:∀e f g,Hs G g (dI 9 175 e f ((mU core s l w wr ns).2.1.length,eP (mU core s l w wr ns).2.1)::hM G c C core (mU core s l w wr ns).1::L)->Q (.tuple ⟨[.slice e (mU core s l w wr ns).2.1.length f,I 0]⟩) g):
  Dd 247 8 [] Q [(pt c 0 0),(I l),(I w),(.bool wr),(.slice a ns.length cp)] h:=by
 refine bW (aQ (c:=[I l,.bool wr,.bool true]) rfl (aB (aA (bL (b:=c) (o:=0) d rfl rfl rfl rfl ?_))))
 intro h d
 have d:=d.sg (b:=c) (o:=0) (c:=kA t C core (mU core s l w wr ns).1) rfl
 exact fi (t:=t) k d i
theorem aAv (_hb:Bd s) {t p:Nat} {l w no:Int} {x:pQ} {wr:Bool} {S:Nat->List Th} {Q:Value->AH->Prop} (A:Ob G 3 jN) (d:Hs G h (aG p 0 x.enc::aG c 0 (kA t C core s)::hZ G t C.ways.toNat C.aI.toNat S::L))
  (z:∀f g q r,r=mU core {s with S:=S,gl:=no,gc:=x,sS:=true} l w wr [⟨3,core,no,x.w,0,x.d.1,x.d.2,jR x.st,0⟩]->Hs G q (dI 9 175 f g (r.2.1.length,eP r.2.1)::hM G c C core r.1::L)->Q (.tuple ⟨[.slice f r.2.1.length g,I 0]⟩) q):
  Dd 247 11 [] Q [(pt c 0 0),(I l),(I w),(.bool wr),(.slice none 0 0),(I no),(pt p 0 0)] h:=by
 refine bW (aU d (by decide) (l:=x.enc) rfl rfl (aQ (c:=[I no,I x.st,I x.w,I x.d.1,I x.d.2,.bool true]) rfl (aB (aA (bL (b:=c) (o:=0) d rfl rfl rfl rfl ?_)))))
 intro h d
 have d:=d.sg (b:=c) (o:=0) (c:=kA t C core {s with S:=S,gl:=no,gc:=x,sS:=true}) rfl
 refine bB d ?_
 intro E h d
 refine aB (aA (aC (b:=c) (o:=0) d rfl (aA (aC (b:=p) (o:=0) d rfl (aA (aU (b:=p) (o:=0) d (by decide) (l:=[I x.d.1,I x.d.2]) rfl rfl (aA (aC (b:=p) (o:=0) d rfl (Kj A d ?_)))))))))
 refine aQ (c:=(⟨3,core,no,x.w,0,x.d.1,x.d.2,jR x.st,0⟩:aJ).enc) rfl (aQ (c:=(⟨3,core,no,x.w,0,x.d.1,x.d.2,jR x.st,0⟩:aJ).enc) rfl ?_)
 refine jZ (i:=14) (N:=17) (D:=[]) d rfl rfl rfl rfl rfl ?_
 intro y h d
 have d:=gS (W:=9) (e:=175) d
 refine sI (a:=none) (c:=0) (n:=0) (cs:=[]) (a2:=some y) (c2:=1) (m:=1) (ns:=(⟨3,core,no,x.w,0,x.d.1,x.d.2,jR x.st,0⟩:aJ).enc) d (by omega) ?_
 intro f g B u
 have k:Hs G h (aG p 0 x.enc::_):=d.front (aG p 0 x.enc)
 have v:Hs G h (aG c 0 (kA t C core {s with S:=S,gl:=no,gc:=x,sS:=true})::_):=d.front (aG c 0 (kA t C core {s with S:=S,gl:=no,gc:=x,sS:=true}))
 refine cY Ww (cY dJ (cY (aB dJ) (cY (aA dJ) (cY (aC (b:=c) (o:=0) v rfl jH) (cY jH (cY (aA dJ) (cY (aC (b:=p) (o:=0) k rfl jH) (cY (aA dJ) (cY (aU (b:=p) (o:=0) k (by decide) (l:=[I x.d.1,I x.d.2]) rfl rfl (qV (by simp[oI]))) ?_)))))))))
 refine aQ (c:=[I l,.bool wr,.bool true]) rfl (aB (aA (bL (b:=c) (o:=0) u rfl rfl rfl rfl ?_)))
 intro h d
 have d:=d.sg (b:=c) (o:=0) (c:=kA t C core (mU core {s with S:=S,gl:=no,gc:=x,sS:=true} l w wr [⟨3,core,no,x.w,0,x.d.1,x.d.2,jR x.st,0⟩]).1) rfl
 refine fi (t:=t) (s:={s with S:=S,gl:=no,gc:=x,sS:=true}) (ns:=[⟨3,core,no,x.w,0,x.d.1,x.d.2,jR x.st,0⟩]) (a:=f) (cp:=g) (L:=L) (by simp) ?_ (fun f g q=>z f g q _ rfl)
 exact(show Hs G h (aG c 0 (kA t C core (mU core {s with S:=S,gl:=no,gc:=x,sS:=true} l w wr [⟨3,core,no,x.w,0,x.d.1,x.d.2,jR x.st,0⟩]).1)::hZ G t C.ways.toNat C.aI.toNat S::dI 9 175 f g (0+1,[]++(⟨3,core,no,x.w,0,x.d.1,x.d.2,jR x.st,0⟩:aJ).enc)::L) from d.to)
theorem x5 (hC:C.Ok) (hb:Bd s) {t:Nat} {l w:Int} (y:0<=l) {wr:Bool} {Q:Value->AH->Prop} (z:Ob G 3 jN) (d:Hs G h (aG c 0 (kA t C core s)::hZ G t C.ways.toNat C.aI.toNat s.S::L))
  (f:∀g i k,Hs G k (dI 9 175 g i ((Bb C core s l w wr).2.1.length,eP (Bb C core s l w wr).2.1)::hM G c C core (Bb C core s l w wr).1::L)->Q (.tuple ⟨[.slice g (Bb C core s l w wr).2.1.length i,I (Bb C core s l w wr).2.2]⟩) k):
  bE (nG (pt c 0 0)) fun v0=>bE (iN 0 v0) fun v1=>bE (rT h v1) fun v2=>Cl Pr K 292 [v2,I l] h fun v3 x=>
   bE (pU 0 v3) fun v4=>bE (pU 1 v3) fun v5=>bE (pU 2 v3) fun v6=>bE (xP .neq v6 (I 0)) fun B=>
   Br B (Q (.tuple ⟨[(.slice none 0 0),v6]⟩) x) (Dd 247 6 [] Q [(pt c 0 0),(I l),(I w),(.bool wr),(.slice none 0 0),v4,v5] x):=by
 unfold Bb at f
 refine aB (aA (aC (b:=c) (o:=0) d rfl ?_))
 refine od (t:=t) (ways:=C.ways.toNat) (n:=C.aI.toNat) (S:=s.S) (lK hC).2.2.1 (lK hC).1 y hb d fun h d=>?_
 cases hv:yH C.aI.toNat C.ways.toNat s.S l with
 |none=>
  simp only[hv] at f
  refine aH rfl (aH rfl (aH rfl (bC (aT (by omega) (bW (bZ ?_))))))
  exact ja (t:=t) (s:=s) (ns:=[]) (a:=none) (cp:=0) (L:=L) (by simp) (show Hs G h (aG c 0 (kA t C core s)::hZ G t C.ways.toNat C.aI.toNat s.S::dI 9 175 none 0 (0,[])::L) from(gS (W:=9) (e:=175) d).to) f
 |some v=>
  simp only[hv] at f
  refine aH rfl (aH rfl (aH rfl (bC (aT (by omega) (bW (fK (bW (aB (aA (aA (aC (b:=c) (o:=0) d rfl (dH (fun q=>?_) (fun q=>?_)))))))))))))
  .simp only[q,if_true] at f;exact f none 0 h (gS (W:=9) (e:=175) (Tn (s':=s) (t:=t) (c:=c) rfl rfl d))
  .simp only[aLa (show ¬(s.sS=true) from by rw[q];simp)] at f;refine bW (aB (aA (aC (b:=c) (o:=0) d rfl ?_)));refine Sf (t:=t) (ways:=C.ways.toNat) (n:=C.aI.toNat) (S:=s.S) (lK hC).1 hb d fun h d=>aH rfl (aH rfl (bP d ?_));intro p h d;refine bH d rfl rfl rfl rfl ?_;intro h d;refine bC (aX (fun u=>?_) (fun u=>?_))
   .simp only[aLb u] at f;refine f none 0 h (gS (W:=9) (e:=175) ?_);exact(cQ c t C core {s with S:=gG C.aI.toNat s.S v.1} (cs:=kA t C core s) d rfl rfl).to
   .simp only[aLa u] at f;refine aAv (s:=s) hb z (show Hs G h (aG p 0 (bA C.aI.toNat s.S v.1).1.enc::aG c 0 (kA t C core s)::hZ G t C.ways.toNat C.aI.toNat (gG C.aI.toNat s.S v.1)::L) from d.to) ?_;intro g i k r A;subst A;exact f g i k
theorem aA9 (hC:C.Ok) (hb:Bd s) {l w:Int} {wr:Bool} {Q:Value->AH->Prop} (P:Ob G 0 fV) (D:Ob G 3 jN) (a:Hs G h L) [m:Has (hM G c C core) L s L']
  (d:∀g i q,Hs G q (dI 9 175 g i ((want C core s l w wr).2.1.length,eP (want C core s l w wr).2.1)::hM G c C core (want C core s l w wr).1::L')->Q (.tuple ⟨[.slice g (want C core s l w wr).2.1.length i,I (want C core s l w wr).2.2]⟩) q):
  Cl Pr K 247 [pt c 0 0,I l,I w,.bool wr] h Q:=by
 have a:=m.of a
 unfold want at d
 refine cW (dG (bZ (bW (yY (c:=c) (core:=core) (s:=s) hC P a fun h a=>cE (eO (dH (fun y=>?_) (fun y=>?_)))))))
 .simp only[y,Bool.true_eq_false,if_false] at d;have F:0<=l:=(of_decide_eq_true y).1;obtain⟨t,a⟩:=lC a;refine bW (aB (aA (aA (aC (b:=c) (o:=0) a rfl (dH (fun A=>?_) (fun A=>bW ?_))))))
  .simp only[A,if_true] at d;exact d none 0 h (gS (W:=9) (e:=175) (cQ c t C core s a rfl rfl))
  .simp only[A,Bool.false_eq_true,if_false] at d;have x:¬(s.sS=true/\s.gl=l)->(bE (nG (pt c 0 0)) fun v0=>bE (iN 0 v0) fun v1=>bE (rT h v1) fun v2=>Cl Pr K 245 [v2,I l] h fun v3 f=>
     bE (pU 0 v3) fun v4=>bE (pU 1 v3) fun v5=>Dv f (.cells [(I 0),(I 0),(I 0),(I 0)] 157 (0,0) true) fun J O=>bE (vB O 4 (pt J 0 0) v4) fun z=>bE (xP .eql v5 (I 0)) fun v9=>
     Br v9 (bE (vO z 4 (pt J 0 0)) fun v10=>Cl Pr K 246 [v10,.bool wr] z fun v11 v=>Br v11 (Q (.tuple ⟨[(.slice none 0 0),(I 13)]⟩) v) (Dd 247 5 [] Q [(pt c 0 0),(I l),(I w),(.bool wr)] v))
      (bE (nG (pt c 0 0)) fun v0=>bE (iN 0 v0) fun v1=>bE (rT z v1) fun v2=>Cl Pr K 292 [v2,I l] z fun v3 f=>
       bE (pU 0 v3) fun v4=>bE (pU 1 v3) fun v5=>bE (pU 2 v3) fun v6=>bE (xP .neq v6 (I 0)) fun R=>
       Br R (Q (.tuple ⟨[(.slice none 0 0),v6]⟩) f) (Dd 247 6 [] Q [(pt c 0 0),(I l),(I w),(.bool wr),(.slice none 0 0),v4,v5] f))):=by
    intro f
    simp only[aLa f] at d
    refine aB (aA (aC (b:=c) (o:=0) a rfl ?_))
    refine B0 (t:=t) (ways:=C.ways.toNat) (n:=C.aI.toNat) (S:=s.S) (lK hC).1 hb a fun h a=>aH rfl (aH rfl (bP a ?_))
    intro p h a
    refine bH a rfl rfl rfl rfl ?_
    intro h a
    have E:Hs G h (aG c 0 (kA t C core s)::hZ G t C.ways.toNat C.aI.toNat s.S::aG p 0 (bA C.aI.toNat s.S l).1.enc::L'):=a.to
    have k:∀{g i q} {X:List Value} {n:Nat} {N:gZ},Hs G q (dI 9 175 g i (n,X)::hM G c C core N::aG p 0 (bA C.aI.toNat s.S l).1.enc::L')->Hs G q (dI 9 175 g i (n,X)::hM G c C core N::L'):=fun a=>a.to
    refine bJ (aX (fun u=>?_) (fun u=>?_))
    .refine aU (b:=p) (o:=0) a (by decide) (l:=(bA C.aI.toNat s.S l).1.enc) rfl rfl (Pz D a fun h a=>dH (fun B=>?_) (fun B=>?_))
     .simp only[aLb (show(bA C.aI.toNat s.S l).2=0/\lS (bA C.aI.toNat s.S l).1.st wr=true from⟨u,B⟩)] at d;exact d none 0 h (gS (W:=9) (e:=175) (cQ c t C core s a rfl rfl).to)
     .simp only[aLa (show ¬((bA C.aI.toNat s.S l).2=0/\lS (bA C.aI.toNat s.S l).1.st wr=true) from fun e=>by rw[B] at e;exact absurd e.2 (by simp))] at d;refine bW (x5 hC hb F D (show Hs G h (aG c 0 (kA t C core s)::hZ G t C.ways.toNat C.aI.toNat s.S::L') from a.to) d)
    .simp only[aLa (show ¬((bA C.aI.toNat s.S l).2=0/\lS (bA C.aI.toNat s.S l).1.st wr=true) from fun e=>u e.1)] at d;exact x5 hC hb F D E fun g i q a=>d g i q (k a)
   refine aB (aA (aA (aC (b:=c) (o:=0) a rfl (dH (fun f=>?_) (fun f=>?_)))))
   .refine aB (aA (aA (aC (b:=c) (o:=0) a rfl (bJ (aX (fun u=>?_) (fun u=>bW (x (fun e=>u e.2))))))));simp only[aLb (show s.sS=true/\s.gl=l from⟨f,u⟩)] at d;exact d none 0 h (gS (W:=9) (e:=175) (cQ c t C core s a rfl rfl))
   .exact x (fun e=>by rw[f] at e;exact absurd e.1 (by simp))
 .simp only[y,if_true] at d;exact d none 0 h (gS (W:=9) (e:=175) a)
end
section
set_option maxRecDepth 100000
variable {G:Bg} {h:AH} {L L' M:List HP} {C:bM} {core:Int} {c:Nat} {s:gZ} {n:aJ}
theorem sK {a:gZ} {Q:Value->AH->Prop} {e:Int} {r:Tk} (i:∀d f g,Hs G g (dI 9 175 d f (r.2.1.length,eP r.2.1)::hM G c C core r.1::L)->Q (.tuple ⟨[.slice d r.2.1.length f,I r.2.2]⟩) g) (k:r=(a,[],e)) (q:Hs G h (hM G c C core a::L)):Q (.tuple ⟨[.slice none 0 0,I e]⟩) h:=by
 subst k;exact i none 0 h (gS (W:=9) (e:=175) q)
theorem Ls {a:gZ} {x:aJ} {p:Addr} {Q:Value->AH->Prop} {r:Tk} (i:∀d f g,Hs G g (dI 9 175 d f (r.2.1.length,eP r.2.1)::hM G c C core r.1::L)->Q (.tuple ⟨[.slice d r.2.1.length f,I r.2.2]⟩) g) (k:r=(a,[x],0)) (q:Hs G h (dI 9 175 (some p) 1 (1,x.enc)::hM G c C core a::L)):Q (.tuple ⟨[.slice (some p) 1 1,I 0]⟩) h:=by
 subst k;refine i (some p) 1 h ?_;have e:eP [x]=x.enc:=by simp[eP]
 simp only[e,List.length_cons,List.length_nil,Nat.zero_add];exact q
abbrev cy (G:Bg) (c:Nat) (C:bM) (core:Int) (L:List HP) (Q:Value->AH->Prop) (r:Tk):Prop:=∀a d e,Hs G e (dI 9 175 a d (r.2.1.length,eP r.2.1)::hM G c C core r.1::L)->Q (.tuple ⟨[.slice a r.2.1.length d,I r.2.2]⟩) e
theorem aB0 {Q:Value->AH->Prop} (d:Hs G h (hM G c C core s::L)) (i:cy G c C core L Q (Gj s n)):Cl Pr K 299 [pt c 0 0,.agg ⟨n.enc⟩] h Q:=by
 obtain⟨t,d⟩:=lC d;refine cW (dS d ?_);intro p h d;refine bB d ?_;intro r h d;refine aB (aA (aA (aC (b:=c) (o:=0) d rfl (cE (eO (dH (fun g=>?_) (fun g=>?_)))))));refine aB (aA (aA (aC (b:=c) (o:=0) d rfl (aA (aC (b:=p) (o:=0) d rfl (bC (aX (fun f=>?_) (fun f=>?_))))))));exact sK i (a:=s) (e:=16) (by simp[Gj,g,f]) (cQ c t C core s d rfl rfl).to;refine bW (aQ (c:=[I 0,.bool false,.bool false]) rfl (aB (aA (bL (b:=c) (o:=0) d rfl rfl rfl rfl ?_))));intro h d;have f:s.al=n.line:=by simpa using f
 exact sK i (a:={s with al:=0,aw:=false,D9:=false}) (e:=0) (by simp[Gj,g,f]) (cQ c t C core {s with al:=0,aw:=false,D9:=false} d rfl rfl).to;exact sK i (a:=s) (e:=16) (by simp[Gj,g]) (cQ c t C core s d rfl rfl).to
theorem ny {Q:Value->AH->Prop} (d:Hs G h (hM G c C core s::L)) (i:cy G c C core L Q (sW s n)):Cl Pr K 300 [pt c 0 0,.agg ⟨n.enc⟩] h Q:=by
 obtain⟨t,d⟩:=lC d;refine cW (dS d ?_);intro p h d;refine bB d ?_;intro r h d;refine aB (aA (aA (aC (b:=c) (o:=0) d rfl (cE (eO (dH (fun g=>?_) (fun g=>?_)))))));refine aB (aA (aA (aC (b:=c) (o:=0) d rfl (aA (aC (b:=p) (o:=0) d rfl (bC (aX (fun f=>?_) (fun f=>?_))))))));exact sK i (a:=s) (e:=12) (by simp[sW,g,f]) (cQ c t C core s d rfl rfl).to;refine bW (aQ (c:=[I 0,I 0,I 0,I 0,I 0,.bool false]) rfl (aB (aA (bL (b:=c) (o:=0) d rfl rfl rfl rfl ?_))));intro h d;have f:s.gl=n.line:=by simpa using f
 exact sK i (a:={s with gl:=0,gc:=pQ.zero,sS:=false}) (e:=0) (by simp[sW,g,f]) (cQ c t C core {s with gl:=0,gc:=pQ.zero,sS:=false} d rfl rfl).to;exact sK i (a:=s) (e:=12) (by simp[sW,g]) (cQ c t C core s d rfl rfl).to
theorem aA3 {t p:Nat} {S:Nat->List Th} {Q:Value->AH->Prop} {r:Tk} (d:Hs G h (aG p 0 n.enc::aG c 0 (kA t C core s)::hZ G t C.ways.toNat C.aI.toNat S::L)) (e:cy G c C core L Q r) (f:r=({s with S:=S,al:=0,aw:=false,D9:=false},[⟨4,core,n.line,0,0,0,0,false,0⟩],0)):
  Dd 298 4 [] Q [(pt c 0 0),(pt p 0 0)] h:=by
 refine bW (aQ (c:=[I 0,.bool false,.bool false]) rfl (aB (aA (bL (b:=c) (o:=0) d rfl rfl rfl rfl ?_))))
 intro h d
 refine bB d ?_
 intro g h d
 refine aB (aA (aC (b:=c) (o:=0) d rfl (aA (aC (b:=p) (o:=0) d rfl ?_))))
 refine aQ (c:=(⟨4,core,n.line,0,0,0,0,false,0⟩:aJ).enc) rfl (aQ (c:=(⟨4,core,n.line,0,0,0,0,false,0⟩:aJ).enc) rfl ?_)
 refine jZ (i:=7) (N:=10) (D:=[]) d rfl rfl rfl rfl rfl ?_
 intro a h d
 refine Ls e (p:=a) f ?_
 have d:=cQ c t C core {s with S:=S,al:=0,aw:=false,D9:=false} d rfl rfl
 exact d.to
theorem Fh (hC:C.Ok) (hb:Bd s) {Q:Value->AH->Prop} (g:0<=n.line) (d:Hs G h (hM G c C core s::L)) (v:cy G c C core L Q (vI C core s n)):Cl Pr K 298 [pt c 0 0,.agg ⟨n.enc⟩] h Q:=by
 obtain⟨t,d⟩:=lC d;refine cW (dS d ?_);intro p h d;refine bB d ?_;intro r h d;refine aB (aA (aA (aC (b:=c) (o:=0) d rfl (cE (eO (dH (fun q=>?_) (fun q=>?_)))))));refine aB (aA (aA (aC (b:=c) (o:=0) d rfl (aA (aC (b:=p) (o:=0) d rfl (bC (aX (fun k=>?_) (fun k=>?_))))))));exact sK v (a:=s) (e:=16) (by simp[vI,q,k]) (cQ c t C core s d rfl rfl).to;have k:s.al=n.line:=by simpa using k
 refine bW (aA (aC (b:=p) (o:=0) d rfl (aA (aC (b:=p) (o:=0) d rfl (aA (aU (b:=p) (o:=0) d (by decide) (l:=[I n.d0,I n.d1]) rfl rfl ?_))))));refine aQ (c:=(⟨n.state,n.world,(n.d0,n.d1)⟩:pQ).enc) rfl (bP d ?_);intro u h d;refine bH d rfl rfl rfl rfl ?_;intro h d;refine bB d ?_;intro E h d;refine aB (aA (aC (b:=c) (o:=0) d rfl (aA (aC (b:=p) (o:=0) d rfl ?_))));refine B0 (t:=t) (ways:=C.ways.toNat) (n:=C.aI.toNat) (S:=s.S) (lK hC).1 hb d fun h d=>aH rfl (aH rfl ?_);refine lN (i:=10) d rfl rfl ?_;intro A h d;refine bH d rfl rfl rfl rfl ?_;intro h d;have fin:∀{w:Bool} {h:AH},w=true->Hs G h (aG u 0 (jB C s n).enc::aG p 0 n.enc::aG c 0 (kA t C core s)::hZ G t C.ways.toNat C.aI.toNat s.S::L)->
   (Ti w h 9 fun D g=>bE (nG (pt c 0 0)) fun v2=>bE (iN 0 v2) fun v3=>bE (rT g v3) fun v4=>bE (iN 2 (pt p 0 0)) fun v5=>bE (rT g v5) fun v6=>bE (vO g 4 (pt u 0 0)) fun B=>
    Cl Pr K 251 [v4,v6,B] g fun z y=>bE (xP .neq z (I 0)) fun v9=>Br v9 (Q (.tuple ⟨[(.slice none 0 0),z]⟩) y) (Dd 298 4 [] Q [(pt c 0 0),(pt p 0 0)] y)):=by
  intro w h x d
  refine bB (hc:=x) d ?_
  intro r3 h d
  refine aB (aA (aC (b:=c) (o:=0) d rfl (aA (aC (b:=p) (o:=0) d rfl (aU (b:=u) (o:=0) d (by decide) (l:=(jB C s n).enc) rfl rfl ?_)))))
  refine Bf (t:=t) (ways:=C.ways.toNat) (n:=C.aI.toNat) (S:=s.S) g (lK hC).1 hb d fun h d=>?_
  refine bC (aX (fun f=>?_) (fun f=>?_))
  .refine sK v (a:={s with S:=(kJ C.aI.toNat C.ways.toNat s.S n.line (jB C s n)).1}) (by simp[vI,q,k,f]) ?_;exact(cQ c t C core {s with S:=(kJ C.aI.toNat C.ways.toNat s.S n.line (jB C s n)).1} (cs:=kA t C core s) d rfl rfl).to
  .have f:(kJ C.aI.toNat C.ways.toNat s.S n.line (jB C s n)).2=0:=by simpa using f
   exact aA3 (t:=t) (S:=(kJ C.aI.toNat C.ways.toNat s.S n.line (jB C s n)).1) (s:=s) (n:=n) d.to v (by simp[vI,q,k,f])
 refine cY (aH rfl jH) (bJ (aX (fun f=>bW ?_) (fun f=>bW (fin (by kernel_rfl) ?_))));refine aA (aU (b:=A) (o:=0) d (by decide) (l:=[I (bA C.aI.toNat s.S n.line).1.d.1,I (bA C.aI.toNat s.S n.line).1.d.2]) rfl rfl (aA (bL (b:=u) (o:=0) d rfl rfl rfl rfl ?_)));intro h d;have e:jB C s n=⟨n.state,n.world,(bA C.aI.toNat s.S n.line).1.d⟩:=by simp[jB,f]
 have d:=d.sg (b:=u) (o:=0) (c:=(jB C s n).enc) (by rw[e];rfl);exact fin (by kernel_rfl) d.to;have e:jB C s n=⟨n.state,n.world,(n.d0,n.d1)⟩:=by simp[jB,f]
 rw[e];exact d.to;exact sK v (a:=s) (e:=16) (by simp[vI,q]) (cQ c t C core s d rfl rfl).to
end
section
set_option maxRecDepth 100000
variable {G:Bg} {h:AH} {L L' M:List HP} {C:bM} {core:Int} {c:Nat} {s:gZ} {n:aJ}
theorem aAc {t p q:Nat} {x:pQ} {y:aJ} {Q:Value->AH->Prop} {r:Tk} (d:Hs G h (aG p 0 y.enc::aG q 0 x.enc::aG c 0 (kA t C core s)::hZ G t C.ways.toNat C.aI.toNat s.S::L)) (e:cy G c C core L Q r) (f:r=({s with gc:=x},[y],0)):
  Dd 301 8 [] Q [(pt c 0 0),(pt p 0 0),(pt q 0 0)] h:=by
 refine bW (aU (b:=q) (o:=0) d (by decide) (l:=x.enc) rfl rfl (aB (aA (aA (bL (b:=c) (o:=0) d rfl rfl rfl rfl ?_)))))
 intro h d
 refine aU (b:=p) (o:=0) d (by decide) (l:=y.enc) rfl rfl (aQ (c:=y.enc) rfl (dW (W:=9) (n:=1) (c:=1) d rfl rfl rfl ?_))
 intro a h d
 refine Ls e (p:=a) f ?_
 have d:=cQ c t C core {s with gc:=x} d rfl rfl
 exact d.to
theorem zq (hC:C.Ok) (hb:Bd s) (k:0<=n.line) {t f p q:Nat} {x:pQ} {y:aJ} {Q:Value->AH->Prop} {r:Tk} (d:Hs G h (aG p 0 y.enc::aG q 0 x.enc::aG f 0 n.enc::aG c 0 (kA t C core s)::hZ G t C.ways.toNat C.aI.toNat s.S::L)) (i:cy G c C core L Q r)
  (e:r=({s with S:=if x.st=0 then gG C.aI.toNat s.S n.line else(kJ C.aI.toNat C.ways.toNat s.S n.line x).1},[y],0)):
  Dd 301 9 [] Q [(pt c 0 0),(pt f 0 0),(pt p 0 0),(pt q 0 0),(I x.st)] h:=by
 refine bW (bJ (aX (fun g=>bW (bB d ?_)) (fun g=>bW (bB d ?_))))
 .intro u h d;simp only[aLb g] at e;refine aB (aA (aC (b:=c) (o:=0) d rfl (aA (aC (b:=f) (o:=0) d rfl ?_))));refine Sf (t:=t) (ways:=C.ways.toNat) (n:=C.aI.toNat) (S:=s.S) (lK hC).1 hb d fun h d=>?_;refine aU (b:=p) (o:=0) d (by decide) (l:=y.enc) rfl rfl (aQ (c:=y.enc) rfl (dW (W:=9) (n:=1) (c:=1) d rfl rfl rfl ?_));intro a h d;refine Ls i (p:=a) e ?_;have d:=cQ c t C core {s with S:=gG C.aI.toNat s.S n.line} (cs:=kA t C core s) d rfl rfl;exact d.to
 .intro u h d;simp only[aLa g] at e;refine aB (aA (aC (b:=c) (o:=0) d rfl (aA (aC (b:=f) (o:=0) d rfl (aU (b:=q) (o:=0) d (by decide) (l:=x.enc) rfl rfl ?_)))));refine Bf (t:=t) (ways:=C.ways.toNat) (n:=C.aI.toNat) (S:=s.S) k (lK hC).1 hb d fun h d=>?_;refine aU (b:=p) (o:=0) d (by decide) (l:=y.enc) rfl rfl (aQ (c:=y.enc) rfl (dW (W:=9) (n:=1) (c:=1) d rfl rfl rfl ?_));intro a h d;refine Ls i (p:=a) e ?_;have d:=cQ c t C core {s with S:=(kJ C.aI.toNat C.ways.toNat s.S n.line x).1} (cs:=kA t C core s) d rfl rfl;exact d.to
theorem ez (hC:C.Ok) (hb:Bd s) (k:0<=n.line) {there:Bool} {t f p q:Nat} {x:pQ} {Q:Value->AH->Prop} {r:Tk} (a:Hs G h (aG p 0 (N9 core n).enc::aG q 0 x.enc::aG f 0 n.enc::aG c 0 (kA t C core s)::hZ G t C.ways.toNat C.aI.toNat s.S::L)) (i:cy G c C core L Q r)
  (d:r=if there then({s with S:=if gH x.st n.state=0 then gG C.aI.toNat s.S n.line else(kJ C.aI.toNat C.ways.toNat s.S n.line {x with st:=gH x.st n.state}).1},[gY core n x],0) else({s with gc:={x with st:=gH x.st n.state}},[gY core n x],0)):
  Dd 301 5 [] Q [(pt c 0 0),(pt f 0 0),(pt p 0 0),(pt q 0 0),(.bool there),(I (gH x.st n.state)),(.bool (Dt x.st)),(.bool (jR x.st))] h:=by
 have fin:∀{h:AH},Hs G h (aG p 0 (gY core n x).enc::aG q 0 ({x with st:=gH x.st n.state}:pQ).enc::aG f 0 n.enc::aG c 0 (kA t C core s)::hZ G t C.ways.toNat C.aI.toNat s.S::L)->
   (bE (U1 .not (.bool there)) fun u=>Br u (Dd 301 8 [] Q [(pt c 0 0),(pt p 0 0),(pt q 0 0)] h) (Dd 301 9 [] Q [(pt c 0 0),(pt f 0 0),(pt p 0 0),(pt q 0 0),(I (gH x.st n.state))] h)):=by
  intro h a
  cases there
  .simp only[Bool.false_eq_true,if_false] at d;exact cE (fK (aAc (t:=t) (x:={x with st:=gH x.st n.state}) (y:=gY core n x) (s:=s) a.to i d))
  .simp only[if_true] at d;exact cE (bZ (zq hC hb k (t:=t) (x:={x with st:=gH x.st n.state}) (y:=gY core n x) (s:=s) a i d))
 refine bW (aA (bL (b:=p) (o:=0) a rfl rfl rfl rfl ?_))
 intro h a
 refine dH (fun g=>bW ?_) (fun g=>bW ?_)
 .refine aA (aU (b:=q) (o:=0) a (by decide) (l:=[I x.d.1,I x.d.2]) rfl rfl (aA (bL (b:=p) (o:=0) a rfl rfl rfl rfl ?_)));intro h a;refine aA (bL (b:=p) (o:=0) a rfl rfl rfl rfl ?_);intro h a;refine aA (bL (b:=q) (o:=0) a rfl rfl rfl rfl ?_);intro h a;have e:gY core n x=⟨5,core,n.line,0,gH x.st n.state,x.d.1,x.d.2,jR x.st,0⟩:=by simp[gY,g]
  have a:=a.sg (b:=p) (o:=0) (c:=(gY core n x).enc) (by rw[e];rfl)
  have a:=a.sg (b:=q) (o:=0) (c:=({x with st:=gH x.st n.state}:pQ).enc) rfl
  exact fin a.to
 .refine aA (bL (b:=q) (o:=0) a rfl rfl rfl rfl ?_);intro h a;have e:gY core n x=⟨5,core,n.line,0,gH x.st n.state,0,0,false,0⟩:=by simp[gY,g]
  have a:=a.sg (b:=p) (o:=0) (c:=(gY core n x).enc) (by rw[e];rfl)
  have a:=a.sg (b:=q) (o:=0) (c:=({x with st:=gH x.st n.state}:pQ).enc) rfl
  exact fin a.to
end
section
set_option maxRecDepth 100000
variable {G:Bg} {h:AH} {L L' M:List HP} {C:bM} {core:Int} {c:Nat} {s:gZ} {n:aJ}
theorem za (hC:C.Ok) (hb:Bd s) (z:Sts C.aI.toNat s) (F:n.state=0\/n.state=1) (D:0<=n.line) {t y p q:Nat} {x:pQ} {Q:Value->AH->Prop} (J:Ob G 3 jN)
  (d:Hs G h (aG p 0 (N9 core n).enc::aG q 0 x.enc::aG y 0 n.enc::aG c 0 (kA t C core s)::hZ G t C.ways.toNat C.aI.toNat s.S::L)) (w:(bA C.aI.toNat s.S n.line).2≠0) (B:cy G c C core L Q (nV C core s n)):
  Dd 301 2 [] Q [(pt c 0 0),(pt y 0 0),(pt p 0 0),(pt q 0 0),(.bool false)] h:=by
 have g:¬(n.state≠1/\n.state≠0):=by omega
 refine bW (bB d ?_)
 intro O h d
 have f:s.sS=false\/s.gl≠n.line->(bE (vO h 9 (pt p 0 0)) fun N=>bE (oR [(I 0),(I 0),(I 0),(I 0),(I 0),(I 0),(I 0),(.bool false),(I 0)] [(0,9,N)]) fun K=>xS h 9 175 K 1 1 fun A E=>Q (.tuple ⟨[A,(I 0)]⟩) E):=by
  intro k;refine aU (b:=p) (o:=0) d (by decide) (l:=(N9 core n).enc) rfl rfl (aQ (c:=(N9 core n).enc) rfl (dW (W:=9) (n:=1) (c:=1) d rfl rfl rfl ?_));intro a h d;refine Ls B (p:=a) (a:=s) (x:=N9 core n) ?_ ?_;rcases k with k|k;simp[nV,g,w,k,N9];by_cases v:s.sS=false;simp[nV,g,w,v,N9];simp only[nV,aLa g,aLa w,aLa v,aLb k,N9];have d:=cQ c t C core s d rfl rfl;exact d.to
 refine aB (aA (aA (aC (b:=c) (o:=0) d rfl (cE (eO (dH (fun u=>?_) (fun u=>f (.inl u))))))))
 refine aB (aA (aA (aC (b:=c) (o:=0) d rfl (aA (aC (b:=y) (o:=0) d rfl (bC (aX (fun i=>f (.inr i)) (fun i=>bW ?_))))))))
 have i:s.gl=n.line:=by simpa using i
 refine aB (aA (aA (aU (b:=c) (o:=0) d (by decide) (l:=s.gc.enc) rfl rfl (bH (b:=q) (o:=0) d rfl rfl rfl rfl ?_))))
 intro h d
 refine aA (aC (b:=q) (o:=0) d rfl (aA (aC (b:=y) (o:=0) d rfl (Pq J d (z.back u) F (aH rfl (aH rfl (aH rfl (aH rfl (bC (aT (by omega) ?_))))))))))
 refine ez hC hb D (there:=false) (t:=t) (x:=s.gc) (s:=s) (n:=n) (core:=core) (L:=L) d.to B ?_
 have v:¬s.sS=false:=by rw[u];simp
 simp only[nV,aLa g,aLa w,aLa v,aLa (show ¬s.gl≠n.line from fun e=>e i),Bool.false_eq_true,if_false]
theorem aA2 (hC:C.Ok) (hb:Bd s) (e:Sts C.aI.toNat s) (u:n.state=0\/n.state=1) (i:0<=n.line) {t f p q:Nat} {Q:Value->AH->Prop} (v:Ob G 3 jN)
  (a:Hs G h (aG p 0 (N9 core n).enc::aG q 0 (bA C.aI.toNat s.S n.line).1.enc::aG f 0 n.enc::aG c 0 (kA t C core s)::hZ G t C.ways.toNat C.aI.toNat s.S::L)) (g:(bA C.aI.toNat s.S n.line).2=0) (k:cy G c C core L Q (nV C core s n)):
  Dd 301 3 [] Q [(pt c 0 0),(pt f 0 0),(pt p 0 0),(pt q 0 0),(.bool true)] h:=by
 have d:¬(n.state≠1/\n.state≠0):=by omega
 refine bW (aA (aC (b:=q) (o:=0) a rfl (aA (aC (b:=f) (o:=0) a rfl (Pq v a (e.aGc _ g) u (aH rfl (aH rfl (aH rfl (aH rfl (bC (aT (by omega) ?_)))))))))))
 refine ez hC hb i (there:=true) (t:=t) (x:=(bA C.aI.toNat s.S n.line).1) (s:=s) (n:=n) (core:=core) (L:=L) a k ?_
 simp only[nV,aLa d,aLb g,if_true]
theorem Fk (hC:C.Ok) (hb:Bd s) (f:Sts C.aI.toNat s) (v:0<=n.line) {Q:Value->AH->Prop} (y:Ob G 3 jN) (d:Hs G h (hM G c C core s::L)) (u:cy G c C core L Q (nV C core s n)):Cl Pr K 301 [pt c 0 0,.agg ⟨n.enc⟩] h Q:=by
 obtain⟨t,d⟩:=lC d;refine cW (dS d ?_);intro k h d;refine aA (aC (b:=k) (o:=0) d rfl (bC (aX (fun z=>aA (aC (b:=k) (o:=0) d rfl (bC (aX (fun A=>?_) (fun A=>bW ?_))))) (fun z=>?_))));exact sK u (a:=s) (e:=10) (by simp only[nV];rw[aLb ⟨by omega,by omega⟩]) (cQ c t C core s d rfl rfl).to;all_goals
  have w:n.state=0\/n.state=1:=by omega
  refine bB d ?_
  intro D h d
  refine aB (aA (aC (b:=c) (o:=0) d rfl (aA (aC (b:=k) (o:=0) d rfl (aQ (c:=(N9 core n).enc) rfl ?_)))))
  refine lN (i:=7) d rfl rfl ?_
  intro p h d
  refine bH d rfl rfl rfl rfl ?_
  intro h d
  refine bB d ?_
  intro B h d
  refine aB (aA (aC (b:=c) (o:=0) d rfl (aA (aC (b:=k) (o:=0) d rfl ?_))))
  refine B0 (t:=t) (ways:=C.ways.toNat) (n:=C.aI.toNat) (S:=s.S) (lK hC).1 hb d fun h d=>aH rfl (aH rfl ?_)
  refine lN (i:=10) d rfl rfl ?_
  intro q h d
  refine bH d rfl rfl rfl rfl ?_
  intro h d
  refine cY (aH rfl jH) (bJ (cE ?_))
  by_cases g:(bA C.aI.toNat s.S n.line).2=0
  .rw[decide_eq_true g];exact bZ (aA2 hC hb f w v (t:=t) y d.to g u)
  .rw[decide_eq_false g];exact fK (za hC hb f w v (t:=t) (x:=(bA C.aI.toNat s.S n.line).1) y d.to g u)
end
section
def wQ (k:Int) (f:FuncId):List Value:=[I k,.func (.func f) #[] #[]]
def Nr:List Value:=wQ 8 298++wQ 9 299++wQ 10 300++wQ 11 301
set_option maxRecDepth 100000
variable {G:Bg} {h:AH} {L L' M:List HP} {C:bM} {core:Int} {c:Nat} {s:gZ} {n:aJ}
theorem aAz (hC:C.Ok) {p q:Nat} {k:Int} {f:FuncId} {Q:Value->AH->Prop} {r:Tk} (y:Ob G 0 fV) (d:Hs G h (aG q 0 (wQ k f)::aG p 0 n.enc::hM G c C core s::L))
  (i:gL Pr f=true) (z:sB C n.line=false->r=(s,[],10)) (x:sB C n.line=true->∀h L,Hs G h (hM G c C core s::L)->∀Q,cy G c C core L Q r->Cl Pr K f [pt c 0 0,.agg ⟨n.enc⟩] h Q) (t:cy G c C core L Q r):
  Dd 202 5 [] Q [(pt c 0 0),(pt p 0 0),(pt q 0 0)] h:=by
 refine bW (aA (aC (b:=p) (o:=0) d rfl (yY (c:=c) (core:=core) (s:=s) hC y d fun h d=>cE (eO (dH (fun g=>?_) (fun g=>?_))))))
 .refine aA (aC (b:=q) (o:=0) d rfl (aU (b:=p) (o:=0) d (by decide) (l:=n.enc) rfl rfl ?_));refine rA i (x g h (aG q 0 (wQ k f)::aG p 0 n.enc::L) d.to _ fun u v w d=>aH rfl (aH rfl (t u v w d.to)))
 .exact sK t (a:=s) (e:=10) (z g) d.to
theorem F3 (hC:C.Ok) (hb:Bd s) (y:Sts C.aI.toNat s) {Q:Value->AH->Prop} (O:Ob G 0 fV) (P:Ob G 3 jN) (d:Hs G h L) [m:Has (hM G c C core) L s L'] (t:cy G c C core L' Q (fX C core s n)):
  Cl Pr K 202 [pt c 0 0,.agg ⟨n.enc⟩] h Q:=by
 have d:=m.of d
 refine cW (dS d ?_)
 intro p h d
 refine dG (bZ (bW (cW ?_)))
 refine aQ (c:=wQ 8 298) rfl (aQ (c:=wQ 9 299) rfl (aQ (c:=wQ 10 300) rfl (aQ (c:=wQ 11 301) rfl (aQ (c:=Nr) rfl ?_))))
 refine dW (W:=2) (n:=4) (c:=4) d rfl rfl rfl ?_
 intro a h d
 obtain⟨b,o,J,d⟩:=d.gM (by decide)
 cases J
 refine cC ?_
 have z:sB C n.line=true->0<=n.line:=fun e=>(of_decide_eq_true e).1
 have step:∀(i:Nat) (A:i<4) (k:Int) (f:FuncId) (h:AH) (M:List HP),(Nr.drop (i*2)).take 2=wQ k f->gL Pr f=true->Hs G h (aG b o Nr::aG p 0 n.enc::hM G c C core s::L')->
   (n.kind=k->((sB C n.line=false->fX C core s n=(s,[],10))/\(sB C n.line=true->∀h L,Hs G h (hM G c C core s::L)->∀Q,cy G c C core L Q (fX C core s n)->Cl Pr K f [pt c 0 0,.agg ⟨n.enc⟩] h Q)))->
   (n.kind≠k->∀h,Hs G h (aG b o Nr::aG p 0 n.enc::hM G c C core s::L')->Dd 202 2 [] Q [(pt c 0 0),(pt p 0 0),(.slice (some ⟨b,o,none⟩) 4 4),(I 4),(I ((i+1:Nat):Int))] h)->
   Dd 202 2 [] Q [(pt c 0 0),(pt p 0 0),(.slice (some ⟨b,o,none⟩) 4 4),(I 4),(I (i:Int))] h:=by
  intro i A k f h M N w d u x
  refine bW (aZ (bV (by omega) (bW (dV A (Lh (b:=b) (o:=o) d (by decide) (l:=wQ k f) (by rw[Nat.add_zero];exact N) rfl (bP d ?_))))))
  intro q h d
  refine bH d rfl rfl rfl rfl ?_
  intro h d
  refine aA (aC (b:=q) (o:=0) d rfl (aA (aC (b:=p) (o:=0) d rfl (bC (aX (fun v=>bW (bQ (by omega) ?_)) (fun v=>?_))))))
  .have:=x (fun e=>v e.symm) h d.to;show Dd _ _ _ _ _ _;simpa using this
  .have v:n.kind=k:=by
    have:k=n.kind:=by simpa using v
    exact this.symm
   exact aAz (k:=k) (f:=f) (s:=s) (n:=n) hC O (show Hs G h (aG q 0 (wQ k f)::aG p 0 n.enc::hM G c C core s::L') from d.to) w (u v).1 (u v).2 t
 have d:Hs G h (aG b o Nr::aG p 0 n.enc::hM G c C core s::L'):=d.to
 refine step 0 (by decide) 8 298 h [] rfl (by kernel_rfl) d (fun e=>⟨fun g=>by simp[fX,e,g],fun g h L d Q t=>Fh hC hb (z g) d (by simpa [fX,e,g] using t)⟩) fun B h d=>?_
 refine step 1 (by decide) 9 299 h [] rfl (by kernel_rfl) d (fun e=>⟨fun g=>by simp[fX,e,g],fun g h L d Q t=>aB0 d (by simpa [fX,e,g] using t)⟩) fun D h d=>?_
 refine step 2 (by decide) 10 300 h [] rfl (by kernel_rfl) d (fun e=>⟨fun g=>by simp[fX,e,g],fun g h L d Q t=>ny d (by simpa [fX,e,g] using t)⟩) fun E h d=>?_
 refine step 3 (by decide) 11 301 h [] rfl (by kernel_rfl) d (fun e=>⟨fun g=>by simp[fX,e,g],fun g h L d Q t=>Fk hC hb y (z g) P d (by simpa [fX,e,g] using t)⟩) fun F h d=>?_
 refine bW (aZ (aT (by omega) ?_))
 exact sK t (a:=s) (e:=15) (by simp[fX,B,D,E,F]) d.to
theorem cr (hC:C.Ok) (hb:Bd s) {Q:Value->AH->Prop} (a:Hs G h L) [m:Has (hM G c C core) L s L'] (f:∀d e,Hs G e (hM G d C core s::hM G c C core s::L')->Q (pt d 0 0) e):Cl Pr K 80 [pt c 0 0] h Q:=by
 obtain⟨t,a⟩:=lC (m.of a);refine cW (dG (bZ (bW (aB (aU (b:=c) (o:=0) a (by decide) (l:=kA t C core s) rfl rfl (bP a ?_))))));intro d h a;refine bH a rfl rfl rfl rfl ?_;intro h a;refine aB (aA (aC (b:=c) (o:=0) a rfl (zg (t:=t) (ways:=C.ways.toNat) (n:=C.aI.toNat) (S:=s.S) (lK hC).1 (lK hC).2.1 hb a fun t2 h a=>?_)));refine aA (bL (b:=d) (o:=0) a rfl rfl rfl rfl ?_);intro h a;have a:=a.sg (b:=d) (o:=0) (c:=kA t2 C core s) rfl;have a:=cQ d t2 C core s a rfl rfl;have a:=cQ c t C core s a rfl rfl;exact f d h a.to
theorem Ro (hC:C.Ok) (d:0<=core/\core<C.aE) {Q:Value->AH->Prop} (i:Ob G 0 fV) (a:Hs G h L) (g:∀c e,Hs G e (hM G c C core gZ.new::L)->Q (.tuple ⟨[pt c 0 0,I 0]⟩) e):Cl Pr K 83 [.agg ⟨C.enc⟩,I core] h Q:=by
 refine cW (dS a ?_);intro p h a;refine aU (b:=p) (o:=0) a (by decide) (l:=C.enc) rfl rfl (nF i a fun h a=>?_);have f:=hC;unfold bM.Ok at f;rw[aLb hC];refine bC (aT (by omega) (bW (aZ (aT (by omega) (aA (aC (b:=p) (o:=0) a rfl (dO (aT (by omega) (bW ?_)))))))));refine aA (aC (b:=p) (o:=0) a rfl (aA (aC (b:=p) (o:=0) a rfl (Ur (by omega) (by omega) a fun t h a=>aH rfl (aH rfl (bC (aT (by omega) ?_)))))));refine aU (b:=p) (o:=0) a (by decide) (l:=C.enc) rfl rfl (aQ (c:=kA t C core gZ.new) rfl (dS a ?_));intro q h a;have a:=cQ q t C core gZ.new a rfl rfl;exact g q h a.to
end
section
set_option maxRecDepth 100000
variable {G:Bg} {h:AH} {L L' M:List HP} {C:bM} {core:Int} {c:Nat} {s:gZ} {n:aJ}
theorem s9 (hC:C.Ok) (d:iL C s) {l at' i:Int} (q:mD C s.S l at' i false=0) {Q:Value->AH->Prop} (w:Ob G 0 fV) (x:Ob G 3 jN) (a:Hs G h L) [m:Has (hM G c C core) L s L'] (f:∀k,Hs G k (hM G c C core (mV C s l at' i)::L')->Q (.tuple ⟨[I (Mc.Gi C s l at'),I 0]⟩) k):Cl Pr K 197 [pt c 0 0,I l,I at',I i] h Q:=by
 have a:=m.of a;have hb:Bd s:=d.bd (lK hC).2.2.2;unfold mV at f;refine cW (Fm (c:=c) (core:=core) (s:=s) hC hb w x a fun h a=>bC (aT (by omega) ?_));rw[aLb q] at f;obtain⟨g,u,y,_⟩:=qF q;have v:=Vl d.aI y;obtain⟨t,a⟩:=lC a;refine bW (aB (aA (aC (b:=c) (o:=0) a rfl (Hz (t:=t) (ways:=C.ways.toNat) (n:=C.aI.toNat) (S:=s.S) g.1 (lK hC).1 hb a fun h a=>aH rfl (aH rfl (bP a ?_))))));intro p h a;refine bH a rfl rfl rfl rfl ?_;intro h a;have e:=fun {h:AH} a=>(cQ c t C core {s with S:=wP C.aI.toNat C.ways.toNat s.S l} (G:=G) (h:=h) (L:=aG p 0 (bA C.aI.toNat s.S l).1.enc::hZ G t C.ways.toNat C.aI.toNat (wP C.aI.toNat C.ways.toNat s.S l)::aG c 0 (kA t C core s)::L') a rfl rfl);refine bC (aT (by omega) (aA ?_));rcases u with rfl|rfl;exact fU (by decide) (by decide) (aC (b:=p) (o:=0) a rfl (f _ (e a).to));exact fU (by decide) (by decide) (aC (b:=p) (o:=0) a rfl (f _ (e a).to))
theorem mw (hC:C.Ok) (e:iL C s) {l at' w v:Int} (z:mD C s.S l at' w true=0) {Q:Value->AH->Prop} (E:Ob G 0 fV) (A:Ob G 3 jN) (a:Hs G h L) [m:Has (hM G c C core) L s L'] (q:∀y,Hs G y (hM G c C core (jD C s l at' w v)::L')->Q (I 0) y):Cl Pr K 198 [pt c 0 0,I l,I at',I w,I v] h Q:=by
 have a:=m.of a;have hb:Bd s:=e.bd (lK hC).2.2.2;unfold jD at q;refine cW (Fm (c:=c) (core:=core) (s:=s) hC hb E A a fun h a=>bC (aT (by omega) ?_));rw[aLb z] at q;obtain⟨u,D,F,d⟩:=qF z;have d:tL (bA C.aI.toNat s.S l).1.st=true:=d;obtain⟨t,a⟩:=lC a;refine bW (aB (aA (aC (b:=c) (o:=0) a rfl ?_)));refine B0 (t:=t) (ways:=C.ways.toNat) (n:=C.aI.toNat) (S:=s.S) (lK hC).1 hb a fun h a=>aH rfl (aH rfl (bP a ?_));intro p h a;refine bH a rfl rfl rfl rfl ?_;intro h a;refine bC (aT (by omega) (bW (aA (aC (b:=p) (o:=0) a rfl (Uk A a d (aH rfl (aH rfl (aA (bL (b:=p) (o:=0) a rfl rfl rfl rfl ?_)))))))));intro h a;refine bC (aT (by omega) (bW (aA ?_)));have f:∀{g:Bool} {h:AH},g=true->Hs G h (aG p 0 (pD C.aI.toNat s.S l at' v).enc::hZ G t C.ways.toNat C.aI.toNat s.S::aG c 0 (kA t C core s)::L')->
   Ti g h 8 fun _ i=>bE (nG (pt c 0 0)) fun v5=>bE (iN 0 v5) fun v6=>bE (rT i v6) fun J=>bE (vO i 4 (pt p 0 0)) fun N=>Cl Pr K 251 [J,I l,N] i fun v9 B=>Q v9 B:=by
  intro g h k a
  refine bB (hc:=k) a ?_
  intro r h a
  refine aB (aA (aC (b:=c) (o:=0) a rfl (aU (b:=p) (o:=0) a (by decide) (l:=(pD C.aI.toNat s.S l at' v).enc) rfl rfl ?_)))
  refine Bf (t:=t) (ways:=C.ways.toNat) (n:=C.aI.toNat) (S:=s.S) u.1 (lK hC).1 hb a fun h a=>?_
  show Q _ _
  rw[Ar (x:=pD C.aI.toNat s.S l at' v) e.aI F]
  exact q _ (cQ c t C core {s with S:=(kJ C.aI.toNat C.ways.toNat s.S l (pD C.aI.toNat s.S l at' v)).1} (cs:=kA t C core s) a rfl rfl).to
 rcases D with rfl|rfl;refine fU (by decide) (by decide) (bL (b:=p) (o:=0) a rfl rfl rfl rfl ?_);intro h a;exact f (by kernel_rfl) ((a.sg (b:=p) (o:=0) (c:=(pD C.aI.toNat s.S l 0 v).enc) rfl).to);refine fU (by decide) (by decide) (bL (b:=p) (o:=0) a rfl rfl rfl rfl ?_);intro h a;exact f (by kernel_rfl) ((a.sg (b:=p) (o:=0) (c:=(pD C.aI.toNat s.S l 1 v).enc) rfl).to)
end
end Go.Proofs.YtajjljbmfdboaaaGreatDoor.C
end
namespace Go.Proofs.YtajjljbmfdboaaaGreatDoor.N
open Go Go.Ab Go.Hm Go.Nt
section
theorem oN {g n a i:Nat} {k:Value->Prop} (d:i<n) (e:k (pt g (i*a) 0)):bE (pL n a (.pointer (some ⟨g,0,none⟩)) (I i)) k:=
 gR (b:=g) (o:=0) (j:=0) d (by simpa [pt] using e)
set_option maxRecDepth 100000
attribute [local irreducible] bE Br rT vO vB Dv nP xS mZ Ti iN nG pU sP rF lJ Cy xP Ya Xx Tj R3 Xc Td Rx Ub U1 mF pL vA kI copyV jQ zM Xp Yw Iz mA Pp Wr X7 pT tO Ao Cx Cl Bc Xb uL uF lI iQ cS cB
variable {G:Bg} {h:AH} {L L':List HP}
theorem Bq {k:Int} {Q:Value->AH->Prop} (a:Q (.bool (decide (Od k))) h):Cl Pr K 264 [I k] h Q:=by
 refine cW (dO (aX (fun d=>aZ ?_) (fun d=>?_)));show Q _ _;rw[show decide (k<14)=decide (Od k) from decide_eq_decide.2 (by unfold Od;omega)];exact a;show Q _ _;rw[show false=decide (Od k) from(decide_eq_false (by unfold Od;omega)).symm];exact a
theorem aHt {k:Int} (h:Od k):∃n:Nat,k=(n:Int)/\1<=n/\n<14:=⟨k.toNat,by unfold Od at h;omega,by unfold Od at h;omega,by unfold Od at h;omega⟩
theorem bz {k:Int} {Q:Value->AH->Prop} (e:Ob G 2 yI) (i:Hs G h L) (d:Q (if Od k then .tuple ⟨[I (Pa k.toNat),I 0]⟩ else .tuple ⟨[I 0,I 15]⟩) h):Cl Pr K 214 [I k] h Q:=by
 refine cW (Bq (cE (eO (aX (fun a=>?_) (fun a=>?_)))));rw[aLb a] at d;obtain⟨n,rfl,g,f⟩:=aHt a;refine oN f (aA (Bk i e (o:=n*9) (j:=1) (Xo f) d));rw[aLa a] at d;exact d
theorem Hz {n:aJ} {f:Int} (g:1<=f/\f<=13) {Q:Value->AH->Prop} (d:Hs G h L) (a:∀e,Hs G e L->Q (I (jf n f)) e):Cl Pr K 266 [.agg ⟨n.enc⟩,I f] h Q:=by
 refine cW (dS d ?_);intro p h d;have a:=a h d.tail;rcases f13 g with rfl|rfl|rfl|rfl|rfl|rfl|rfl|rfl|rfl|rfl|rfl|rfl|rfl;all_goals
  repeat' first
   |refine bJ ?_
   |refine bV (by decide) ?_
   |refine aT (by decide) ?_
   |refine bW ?_
   |refine bW ?_
   |refine bW ?_
   |refine bW ?_
   |refine bW ?_
   |refine bW ?_
   |refine bW ?_
   |refine bW ?_
   |refine bW ?_
   |refine bW ?_
   |refine bW ?_
   |refine bW ?_
   |refine aA ?_
   |refine fU (by omega) (by omega) ?_
   |refine aC d rfl ?_
 all_goals first|exact a|skip
 refine dH (fun hb=>?_) (fun hb=>?_);unfold jf at a;show Q _ _;simpa [hb] using a;unfold jf at a;show Q _ _;simpa [hb] using a
theorem aEl {p:Nat} {n:aJ} {f v:Int} (e:1<=f/\f<=13) {Q:Value->AH->Prop} (a:Hs G h (aG p 0 n.enc::L)) (g:∀d,Hs G d (aG p 0 (aG1 n f v).enc::L)->Q (.tuple ⟨[]⟩) d):Cl Pr K 268 [pt p 0 0,I f,I v] h Q:=by
 refine cW ?_;rcases f13 e with rfl|rfl|rfl|rfl|rfl|rfl|rfl|rfl|rfl|rfl|rfl|rfl|rfl;all_goals
  repeat' first
   |refine bJ ?_
   |refine bC ?_
   |refine bV (by decide) ?_
   |refine aT (by decide) ?_
   |refine bW ?_
   |refine bW ?_
   |refine bW ?_
   |refine bW ?_
   |refine bW ?_
   |refine bW ?_
   |refine bW ?_
   |refine bW ?_
   |refine bW ?_
   |refine bW ?_
   |refine bW ?_
   |refine aB ?_
   |refine aA ?_
   |refine fU (by omega) (by omega) ?_
  refine bL a rfl rfl rfl rfl ?_
  intro h a
  exact g h a
theorem Lp {a b:Prop} [Decidable a] [Decidable b] {Q:Value->AH->Prop} (d:a↔b) (e:Q (.bool (decide b)) h):Q (.bool (decide a)) h:=by rwa [show decide a=decide b from decide_eq_decide.2 d]
theorem Zd {b:Prop} [Decidable b] {Q:Value->AH->Prop} (a:¬b) (d:Q (.bool (decide b)) h):Q (.bool false) h:=by rwa [decide_eq_false a] at d
theorem zW {b:Prop} [Decidable b] {Q:Value->AH->Prop} (a:b) (d:Q (.bool (decide b)) h):Q (.bool true) h:=by rwa [decide_eq_true a] at d
theorem Qr {C:bM} (hC:C.Ok) {f v:Int} (q:1<=f/\f<=13) {Q:Value->AH->Prop} (t:Ob G 0 fV) (e:Hs G h L) (i:∀k,Hs G k L->Q (.bool (decide (w7 C f v))) k):Cl Pr K 267 [.agg ⟨C.enc⟩,I f,I v] h Q:=by
 refine cW (dS e ?_);intro p h e;have a:=i h e.tail;unfold w7 at i a;rcases f13 q with rfl|rfl|rfl|rfl|rfl|rfl|rfl|rfl|rfl|rfl|rfl|rfl|rfl;all_goals
  repeat' first
   |refine bV (by decide) ?_
   |refine aT (by decide) ?_
   |refine bJ ?_
   |refine bW ?_
   |refine bW ?_
   |refine bW ?_
   |refine bW ?_
   |refine bW ?_
   |refine bW ?_
   |refine bW ?_
   |refine bW ?_
   |refine bW ?_
   |refine bW ?_
   |refine bW ?_
 all_goals simp only[Int.reduceEq,if_true,if_false,or_true,or_self,or_false,decide_true] at i a
 exact dO (aX (fun d=>aA (aC e rfl (aZ (Lp (by omega) a)))) (fun d=>Zd (by omega) a));exact dO (aX (fun d=>aU e (by decide) (l:=C.enc) rfl rfl (rQ hC t e fun h e=>aZ (Lp (by omega) (i h e.tail)))) (fun d=>Zd (by omega) a));exact dO (aX (fun d=>Bp (Lp (by omega) a)) (fun d=>Zd (by omega) a));exact dO (aX (fun d=>Bp (Lp (by omega) a)) (fun d=>Zd (by omega) a));exact dO (aX (fun d=>Bp (Lp (by omega) a)) (fun d=>Zd (by omega) a));exact(aX (fun d=>zW (by omega) a) (fun d=>bJ (aX (fun g=>zW (by omega) a) (fun g=>bJ (Lp (by omega) a)))));exact(aX (fun d=>zW (by omega) a) (fun g=>bJ (Lp (by omega) a)));exact a;exact a;exact(aX (fun d=>zW (by omega) a) (fun g=>bJ (Lp (by omega) a)));exact(aX (fun d=>zW (by omega) a) (fun g=>bJ (Lp (by omega) a)));exact dO (aX (fun d=>aZ (Lp (by omega) a)) (fun d=>Zd (by omega) a));exact dO (aX (fun d=>aA (aC e rfl (aZ (Lp (by omega) a)))) (fun d=>Zd (by omega) a))
end
section
theorem neN {a n:aJ} {k:Value->Prop} (e:k (.bool (decide (a≠n)))) {d:Bool} (hc:d=true:=by kernel_rfl):Ub d [0,0,0,0,0,0,0,1,0] .neq (.agg ⟨a.enc⟩) (.agg ⟨n.enc⟩) k:=by
 refine⟨hc,_,?_,e⟩;cases a;cases n;simp[Rx,rR,Zx,Xa,aJ.enc];rw[Bool.eq_iff_iff];simp
set_option maxRecDepth 100000
attribute [local irreducible] bE Br rT vO vB Dv nP xS mZ Ti iN nG pU sP rF lJ Cy xP Ya Xx Tj R3 Xc Td Rx Ub U1 mF pL vA kI copyV jQ zM Xp Yw Iz mA Pp Wr X7 pT tO Ao Cx Cl Bc Xb uL uF lI iQ cS cB
variable {G:Bg} {h:AH} {L L':List HP}
theorem aDk {P:Program} {f:FuncId} {p:List Nat} {n l d:Nat} {e:Nat->Value} {st:LoopState} {pd:Option Code} {k:Option Code×AH->Prop} (t:Hs G h L) [m:oZ l L ⟨P,f,p,n,e,d,st,pd⟩ L'] (g:st≠.busy) (q:∀i,Hs G i L'->k (pd,i)):bE (uF h l) k:=
 xz (P:=P) (f:=f) (p:=p) (n:=n) (e:=e) (d:=d) (st:=st) (pd:=pd) (k:=fun a b=>k (a,b)) (show Hs G h (pP P f p n e d l (st,pd)::L') from m.of t) g q
theorem at7 {l:List Int} {i:Nat} {k:Value->Prop} (e:l.length=7) (a:i<7) (d:k (I (l.getD i 0))):bE (Pp 7 1 (.agg ⟨l.map I⟩) (I i)) k:=
 bp a (by rw[List.getElem?_map,List.getElem?_eq_getElem (by omega),List.getD_eq_getElem?_getD,List.getElem?_eq_getElem (by omega)];rfl) d
theorem oy {k:Int} {Q:Value->AH->Prop} (a:Hs G h L) (e:∀p d,Hs G d (aG p 0 [I k]::L)->Q (.func (.func 305) #[] #[pt p 0 0]) d):Cl Pr K 265 [I k] h Q:=by
 refine cW (dS a ?_);intro p h a;exact e p h a
theorem se {p n:Nat} (k:Ob G 2 yI) (e:n<14):xi Pr K G 305 [] [pt p 0 0] (aG p 0 [I n]) ((Dx n).map fun f=>[I f]):=by
 intro u J y L h Q a B t w;refine cW (aC a rfl (oN e (aA (Yd a k (l:=(j5 n).map I) (ic e) (by rw[List.length_map,fj e]) (by rw[ly];omega) ?_))));have z:=fj e;have loop:∀(f i:Nat) (h:AH),i+f=7->Hs G h (aG p 0 [I n]::u ((ws (j5 n) f i).map fun f=>[I f])::L)->Dd 305 1 [] Q [y,(.agg ⟨(j5 n).map I⟩),(I i)] h:=by
  intro f;induction f with
  |zero=>
   intro i h x a;exact bW (aZ (aT (by omega) (t _ h a)))
  |succ f D=>
   intro i h x a;unfold ws at a;refine bW (aZ (bV (by omega) (bW (at7 z (by omega) (bJ (aX (fun g=>?_) (fun g=>?_)))))));rw[aLb g] at a;exact t _ h a;rw[aLa g] at a;refine(B _ _ h _ a.mK).mono fun v q A=>?_;rcases A with⟨rfl,d⟩|⟨rfl,d⟩;exact cE (bZ (bW (bQ (by omega) (D (i+1) q (by omega) d.mK))));exact cE (fK (w _ q d.mK))
 exact loop 7 0 h rfl a
def ckC (C:bM) (n:aJ) (p2 g p5 i l d:Nat) (e:Nat->Value) (rest:List (List Value)) (fs:List Int) (a:aJ):List HP:=
 [Cz (rest=fs.map fun f=>[I f]),Cz (∀f∈fs,1<=f/\f<=13),Cz (oO C n fs a=oO C n (Dx n.kind.toNat) (Gt n.kind)),pP Pr 213 (pM 1786) 41 e d l (.ready,none),aG p2 0 C.enc,aG g 0 n.enc,aG p5 0 [.bool true],aG i 0 a.enc]
def ckI (C:bM) (n:aJ) (p2 a p5 f l d:Nat) (e:Nat->Value) (rest:List (List Value)):HP:=vW fun x:List Int×aJ=>sp (ckC C n p2 a p5 f l d e rest x.1 x.2)
def ckJ (C:bM) (n:aJ) (p2 f p5 g l d:Nat) (e:Nat->Value):HP:=vW fun a:aJ=>sp [Cz ((oO C n (Dx n.kind.toNat) (Gt n.kind)).1=false),pP Pr 213 (pM 1786) 41 e d l (.done,some (.exit 0)),aG p2 0 C.enc,aG f 0 n.enc,aG p5 0 [.bool false],aG g 0 a.enc]
theorem C8 {C:bM} {n:aJ} {p2 g p5 i l d:Nat} {e:Nat->Value} {rest:List (List Value)} {fs:List Int} {a:aJ} (k:rest=fs.map fun f=>[I f]) (q:∀f∈fs,1<=f/\f<=13) (t:oO C n fs a=oO C n (Dx n.kind.toNat) (Gt n.kind))
  (u:Hs G h (sp [pP Pr 213 (pM 1786) 41 e d l (.ready,none),aG p2 0 C.enc,aG g 0 n.enc,aG p5 0 [.bool true],aG i 0 a.enc]::L)):Hs G h (ckI C n p2 g p5 i l d e rest::L):=
 Hs.Af (A:=fun x:List Int×aJ=>sp (ckC C n p2 g p5 i l d e rest x.1 x.2)) (fs,a) (zL k (zL q (zL t u)))
theorem Ag {C:bM} {n:aJ} {p2 k p5 q l d:Nat} {e:Nat->Value} {rest:List (List Value)} (g:Hs G h (ckI C n p2 k p5 q l d e rest::L)):∃i a,(rest=i.map fun f=>[I f])/\(∀f∈i,1<=f/\f<=13)/\oO C n i a=oO C n (Dx n.kind.toNat) (Gt n.kind)/\
  Hs G h (pP Pr 213 (pM 1786) 41 e d l (.ready,none)::aG p2 0 C.enc::aG k 0 n.enc::aG p5 0 [.bool true]::aG q 0 a.enc::L):=by
 obtain⟨⟨i,a⟩,g⟩:=Hs.Et g
 obtain⟨t,g⟩:=iG g
 obtain⟨u,g⟩:=iG g
 obtain⟨v,g⟩:=iG g
 exact⟨i,a,t,u,v,g.unpack⟩
theorem aEb {C:bM} {n:aJ} {Q:Value->AH->Prop} (P:Ob G 2 yI) (U:Ob G 0 fV) (i:Hs G h L) (u:∀q,Hs G q L->Q (I (pR C n)) q):Cl Pr K 213 [.agg ⟨C.enc⟩,.agg ⟨n.enc⟩] h Q:=by
 unfold pR at u;refine cW (dS i ?_);intro F h i;refine dS i ?_;intro E h i;refine aA (aC i rfl (Bq (cE (eO (aX (fun t=>bW ?_) (fun t=>lZ ?_))))));rw[aLb t] at u;refine aU i (by decide) (l:=C.enc) rfl rfl (nF U i fun h i=>?_);by_cases hC:C.Ok;rw[aLb hC] at u ⊢;refine bC (aT (by omega) (bW (bP i ?_)));intro T h i;refine bH i rfl rfl rfl rfl ?_;intro h i;refine aA (aC i rfl (aQ (c:=(Gt n.kind).enc) rfl (bP i ?_)));intro z h i;refine bH i rfl rfl rfl rfl ?_;intro h i;obtain⟨m,V,Z,D⟩:=aHt t;refine aA (aC i rfl ?_);rw[V];refine oy i fun p h i=>oY i fun d h i=>?_;intro e X;refine tZ i fun l h i=>?_;refine A8 (by kernel_rfl) ?_;have O:=aB1 (k:=m) D;have R:Hs G h (aG p 0 [I m]::ckI C n F E T z l d e ((Dx m).map fun f=>[I f])::mk d ()::L):=by
  refine Hs.mK (C8 (fs:=Dx m) (a:=Gt n.kind) rfl O (by rw[V];rfl) ?_);exact i.to
 clear i;refine se P D _ (ckJ C n F E T z l d e) _ _ h _ R ?_ ?_ ?_;intro x rest h M i;obtain⟨w,a,t,J,B,W⟩:=Ag i;clear i;cases w with
 |nil=>cases t
 |cons f w=>
  simp only[List.map_cons,List.cons.injEq] at t;obtain⟨rfl,rfl⟩:=t;have N:=J f List.mem_cons_self;refine rW (A7 W) X ?_;refine lU W fun h i=>?_;refine aU (b:=E) (o:=0) i (by decide) (l:=n.enc) rfl rfl (Hz N i fun h i=>?_);refine aU (b:=F) (o:=0) i (by decide) (l:=C.enc) rfl rfl (Qr hC N U i fun h i=>cE (eO (aX (fun S=>?_) (fun S=>?_))));refine aEl (p:=z) (n:=a) N (i.front (aG z 0 a.enc)) fun h i=>mB i fun h i=>?_;refine .inl ⟨rfl,C8 (fs:=w) (a:=aG1 a f (jf n f)) rfl (fun g Y=>J g (List.mem_cons_of_mem _ Y)) ?_ i.to⟩;rw[<-B,oO,aLb S];refine bH i rfl rfl rfl rfl ?_;intro h i;refine mB i fun h i=> .inr ⟨rfl,?_⟩;refine Hs.Af (A:=fun a:aJ=>sp [Cz ((oO C n (Dx n.kind.toNat) (Gt n.kind)).1=false),pP Pr 213 (pM 1786) 41 e d l (.done,some (.exit 0)),aG F 0 C.enc,aG E 0 n.enc,aG T 0 [.bool false],aG z 0 a.enc]) a (zL ?_ i.to);rw[<-B,oO,aLa S]
 intro v q i;obtain⟨w,a,t,J,B,i⟩:=Ag i.mK;cases w with
 |cons f w=>cases t
 |nil=>
  rw[oO] at B;rw[<-B] at u;refine uG i fun q i=>uE ?_;refine aC i rfl (cE ?_);refine(bZ (aU (b:=z) (o:=0) i (by decide) (l:=a.enc) rfl rfl (aU (b:=E) (o:=0) i (by decide) (l:=n.enc) rfl rfl (neN (aX (fun y=>?_) (fun y=>?_))))));refine oU i fun q i=>lZ ?_;have:=u q i.to;rwa [aLa (fun e=>y e.2)] at this;refine oU i fun q i=>lZ ?_;have:=u q i.to;rwa [aLb ⟨rfl,by simpa using y⟩] at this
 intro v q i;obtain⟨a,i⟩:=Hs.Et i.mK;obtain⟨t,i⟩:=iG i;have i:=i.unpack;refine aDk i (by decide) fun q i=>Sr rfl ?_;refine aC i rfl (cE ?_);refine(fK (oU i fun q i=>lZ ?_));have:=u q i.to;rwa [aLa (fun e=>by rw[t] at e;cases e.1)] at this;rw[aLa hC] at u ⊢;refine bC (bV (by omega) (lZ (u h i.to)));rw[aLa t] at u;exact u h i.to
end
end Go.Proofs.YtajjljbmfdboaaaGreatDoor.N
