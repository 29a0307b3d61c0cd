/- A part of the proof. -/
import Derived.Test.YtgfankkobgfhnaaGreatDoorG10
import Derived.Test.YtgfankkobgfhnaaGreatDoorG8
import Derived.Test.YtgfankkobgfhnaaGreatDoorG9
set_option linter.all false
set_option maxRecDepth 100000
open Go Go.Ab
variable {L L' L2 d:IB} {b cap hb mb o p:Nat} {x:Int} {Q:Value->AH->Prop} {j:Int->Int->Int×Bool} {jv:Value}
section
attribute [local irreducible] cE Br xE zJ Ba K1 sO D9 sF na mC tH yM yV yE pR Be dr bf dm Xy bu py qY vS oL nR Fs Qe rE Xn lz Hj Cl E5 pw A9 zV qJ kI fJ dX
namespace Go.Proofs.Z.H
open Go.Hm
variable {C:bQ}
section
variable {G:Bg} {h:AH}
set_option maxHeartbeats 2000000 in
theorem J8 {C:bQ} (hC:C.Ok) {hb l:Nat} {H:nD} {n:aG} {bA:Int} {Q:Value->AH->Prop} (F:Ob G 0 iF) (d:Hs G h L) [m:eB (jJ G hb C) L H L'] (z:l<C.aF) (O:0<=n.core/\n.core<4) (t: -1<=(H l).1.owner/\(H l).1.owner<4)
  (f:∀v u,Hs G u (gW v ((H l).1.get l (H l).2 n bA).2::jJ G hb C (bD H l (((H l).1.get l (H l).2 n bA).1,(H l).2))::L')->Q v u):
  IU 166 [IV hb,I l,I bA,.agg ⟨n.enc⟩] h Q:=by
 have d:=m.of d
 simp only[bP.get] at f
 refine cW<|eT d ?_
 intro p h d
 obtain⟨mb,b,o,cap,d⟩:=Mb z<|d.bF<|jJ G hb C H
 obtain⟨x,y,d⟩:=fN d
 refine aC<|aA<|aE d rfl<|fD z<|bI d fun S h d=>bB d FC (l:=n.enc) rfl rfl<|aC<|aA<|ay d ?_
 intro h d
 have D:=d
 refine aC<|aA<|ay d fun h d=>aC<|aA<|ay d ?_
 intro h d
 refine cR dG<|cR dG<|cR dG<|cR (bB D FC rfl rfl<|uW<|by simp[uG,aG.enc])<|cR jF<|cR jF<|aA<|aE d rfl<|cC ?_
 have d:=gD b (o+l*25) ((H l).1.iM n bA) x y d rfl rfl rfl
 have k:((H l).1.iM n bA).aX.core=n.core:=rfl
 have t: -1<=((H l).1.iM n bA).owner/\((H l).1.iM n bA).owner<4:=t
 generalize R:(H l).1.iM n bA=r at d f k t
 have dZ:∀(g:bP),g.aX.core=n.core->∀h,Hs G h (gH b (o+l*25) g::aN hb 0 (pT mb C b o cap)::gQ G C.aF mb C (fun i=>(H i).2)::gJ G 25 187 (some ⟨b,o,none⟩) cap C.aF b o::Ez b o C.aF H l::L')->
   (∀v u,Hs G u (gW v (g.dZ l<|g.yU (H l).2).2::jJ G hb C (bD H l ((g.dZ l<|g.yU (H l).2).1,(H l).2))::L')->Q v u)->IU 222 [IV hb,I l] h Q:=fun g J h d f=>by
  have d:=gU hb C H l g _ _ mb b o cap z gZ.symm d
  grind[M3,dJ,Ag]
 have q:∀(g:bP) (N:IA) v h,Hs G h (gW v N::gH b (o+l*25) g::aN hb 0 (pT mb C b o cap)::gQ G C.aF mb C (fun i=>(H i).2)::gJ G 25 187 (some ⟨b,o,none⟩) cap C.aF b o::Ez b o C.aF H l::L')->Hs G h (gW v N::jJ G hb C (bD H l (g,(H l).2))::L'):=fun g N v h d=>
  (gU hb C H l g _ _ mb b o cap z gZ.symm d).to
 refine bG (fun A=>?_) fun A=>?_
 .simp only[bA1 A,bP.Ky,k] at f;refine bW (aA<|aE d rfl<|Df d fun d=>bU<|bG (fun w=>?_) fun w=>?_)
  .rw[bA1 w] at f;exact aA<|aE d rfl<|Wk d fun v h d=>f _ _<|q _ _ _ _ d.to
  .rw[bA0 w] at f;exact dZ r k _ d.to f
 .simp only[bA0 A,bP.Jv] at f;refine bW<|bI d ?_;intro P h d;obtain⟨x,y,d⟩:=fN<|d.bF<|gH b (o+l*25) r;refine aC (aA<|aE d rfl<|aA<|aE d rfl<|cC<|bG (fun w=>bW ?_) fun w=>bW ?_)
  .have E:r.jZ={r with owner:= -1}:=by unfold bP.jZ;rw[bA1 FB]
   rw[E] at f
   simp only[ne_eq,not_true_eq_false,dd] at f
   refine aC<|aA<|ay d fun h d=>aC<|aA<|aE d rfl<|bU<|bC FF ?_
   have d:=gD b (o+l*25) {r with owner:= -1} x y d rfl rfl rfl
   exact dZ {r with owner:= -1} k _ d.to f
  .have E:r.jZ=r:=by unfold bP.jZ;rw[bA0 FB]
   rw[E] at f
   refine aC<|aA<|aE d rfl<|bU<|bG (fun B=>?_) fun B=>?_
   .rw[bA1 B] at f;refine aC<|aA<|aE d rfl<|aZ (c:=[I r.owner]) rfl<|dV d rfl rfl rfl ?_;intro a h d;have d:=gD b (o+l*25) r x y d rfl rfl rfl;exact aDn (e:=3) FA d rfl fun v h d=>f _ _<|q _ _ _ _ d.to
   .rw[bA0 B] at f;have d:=gD b (o+l*25) r x y d rfl rfl rfl;exact dZ r k _ d.to f
def B6 (e:Hs G h L) [m:eB (aN hb 0) L (pT mb C b o cap) L'] (d:Q (.bool<|decide<|C.kG x) h):IU 82 [IV hb,I x] h Q:=by
 refine cW<|cu<|gF<|fX<|bG (fun a=>?_) fun a=>?_;refine aC<|aA<|aE e rfl<|dB<|bE ?_;show Q _ _;rw[show decide _=decide (C.kG x) from AW.2 ⟨fun h=>⟨a,h⟩,fun h=>h.2⟩];exact d;show Q _ _;rw[show false=decide (C.kG x) from(cM fun h=>a h.1).symm];exact d
def Ld {H:nD} {l:Nat} (a:l<C.aF) (d:Hs G h L) [k:fU (eP C.aF fun i=>gH b (o+i*25) (H i).1) L L']:Hs G h (gH b (o+l*25) (H l).1::Ez b o C.aF H l::L'):=
 (d.bF<|eP C.aF fun i=>gH b (o+i*25) (H i).1).oI l a
def D1 (C:bQ) (H:nD) (hb mb b o cap:Nat) {a e:IB} (f:Hs G h L) [g:fU (aN hb 0<|pT mb C b o cap) L a] [k:fU (gQ G C.aF mb C fun i=>(H i).2) a L2]
  [q:fU (gJ G 25 187 (some ⟨b,o,none⟩) cap C.aF b o) L2 d] [t:fU (eP C.aF fun i=>gH b (o+i*25) (H i).1) d e]:Hs G h (jJ G hb C H::e):=
 zL (mb:=mb) (b:=b) (o:=o) (cap:=cap) (f.cH<|g.cH.trans<|(k.cH.trans<|(q.cH.trans<|t.cH.cons _).cons _).cons _)
variable {l:Nat} {H:nD} {n:aG}
theorem aU0 (hC:C.Ok) (u:Ob G 0 iF) (g:l<C.aF) (w:n.aI=l) (k:0<=n.core/\n.core<4) (E:(H l).1.gB) (J:(H l).1.aH.length<2^30)
  (d:Hs G h (aN p 0 n.enc::aN hb 0 (pT mb C b o cap)::gQ G C.aF mb C (fun i=>(H i).2)::gJ G 25 187 (some ⟨b,o,none⟩) cap C.aF b o::eP C.aF (fun i=>gH b (o+i*25) (H i).1)::L))
  (f:∀v B,Hs G B (gW v (iN.take (H l) l n).2.1::jJ G hb C (bD H l (iN.take (H l) l n).1)::L)->Q (.tuple ⟨[v,I (iN.take (H l) l n).2.2]⟩) B):
  Dd 143 6 [] Q [IV hb,IV p] h:=by
 unfold iN.take at f
 refine bW<|bI d ?_
 intro K h d
 have d:=Ld (H:=H) (b:=b) (o:=o) g d
 have qE:∀h,Hs G h (gH b (o+l*25) (H l).1::Ez b o C.aF H l::aN p 0 n.enc::aN hb 0 (pT mb C b o cap)::gQ G C.aF mb C (fun i=>(H i).2)::gJ G 25 187 (some ⟨b,o,none⟩) cap C.aF b o::L)->Hs G h (gW _ []::jJ G hb C (bD H l<|H l)::L):=fun h d=>
  wP ((gU hb C H l (H l).1 _ _ mb b o cap g gZ.symm d).to)
 have F:Hs G h (gH b (o+l*25) (H l).1::Ez b o C.aF H l::aN p 0 n.enc::aN hb 0 (pT mb C b o cap)::gQ G C.aF mb C (fun i=>(H i).2)::gJ G 25 187 (some ⟨b,o,none⟩) cap C.aF b o::L):=d.to
 obtain⟨y,z,d⟩:=fN d
 refine aC<|aA<|aE d rfl<|aA<|aE d rfl ?_
 rw[w]
 refine fD g<|aA<|aE d rfl<|cC<|bG (fun A=>bW ?_) fun A=>bW ?_
 .rw[bA1 A] at f;refine bI d fun x h d=>aC (aA<|aE d rfl<|cX<|fM<|eA (fun q=>?_) fun q=>?_)
  .refine aC (aA<|aA<|aE d rfl<|aA<|aE d rfl<|bU<|bG (fun t=>?_) fun t=>bW ?_)
   .rw[bA1<|.inr t] at f;exact f _ _<|qE _ (gD b (o+l*25) _ y z d rfl rfl rfl).to
   .rw[bA0 FB] at f;have d:=gD b (o+l*25) _ y z d rfl rfl rfl;exact x6 d fun h d=>f _ _<|wP<|(gU hb C H l (H l).1.kW _ _ mb b o cap g gZ.symm d).to
  .rw[bA1<|.inl q] at f;exact f _ _<|qE _ (gD b (o+l*25) _ y z d rfl rfl rfl).to
 .rw[bA0 A] at f;refine cC (bG (fun q=>bW ?_) fun q=>bW ?_)
  .rw[bA1 q] at f;refine bI d fun x h d=>aA (aE d rfl<|aC<|aA<|gK k.1 k.2<|aE d (v:= .bool ((H l).1.dS n.core.toNat)) ?_<|cX<|fM<|eA (fun t=>?_) fun t=>?_)
   .have:n.core.toNat=0\/n.core.toNat=1\/n.core.toNat=2\/n.core.toNat=3:=FA
    rcases this with e|e|e|e<;>rw[e]<;>rfl
   .rw[bA0 FB] at f;refine bB d FC (l:=n.enc) rfl rfl ?_;have d:=gD b (o+l*25) _ y z d rfl rfl rfl;have d:=gU hb C H l (H l).1 _ _ mb b o cap g gZ.symm d;rw[show bD H l ((H l).1,(H l).2)=H from zM] at d;exact aIz hC u d g w k E.core fun v h d=>f _ _ d.to
   .rw[bA1 t] at f;exact f _ _<|qE _ (gD b (o+l*25) _ y z d rfl rfl rfl).to
  .rw[bA0 q] at f;refine bI d fun x h d=>aC<|aA<|aE d rfl<|bB d FC (l:=n.enc) rfl rfl<|aZ (c:=n.enc) rfl ?_;refine oS d rfl rfl rfl rfl rfl fun a h d=>tG d FA ?_;intro a4 D h d;dsimp only;refine aC<|aA<|ay d fun h d=>cR dG<|f _ _ ?_;exact wP<|(gU hb C H l ((H l).1.lF n) _ _ mb b o cap g gZ.symm<|gD b (o+l*25) ((H l).1.lF n) a4 D d (by simp[bP.enc,bM,bP.lF]) (by simp[bP.lF])<|by simp[Ea,bP.lF]).to
end
variable {G:Bg} {h:AH}
section
variable {l:Nat} {H:nD} {n:aG}
theorem aTt (hC:C.Ok) (g:Ob G 0 iF) (w:Bb C H (2^30 - 1)) {t:Value}
  (a:Hs G h (aN p 0 n.enc::aN hb 0 (pT mb C b o cap)::gQ G C.aF mb C (fun i=>(H i).2)::gJ G 25 187 (some ⟨b,o,none⟩) cap C.aF b o::eP C.aF (fun i=>gH b (o+i*25) (H i).1)::L)) (A:cU n.kind)
  (d:∀v u,Hs G u (gW v (eW C H n).2.1::jJ G hb C (eW C H n).1::L)->Q (.tuple ⟨[v,I (eW C H n).2.2]⟩) u):Dd 143 4 [] Q [IV hb,IV p,t] h:=by
 unfold eW at d
 rw[bA0 FB] at d
 have z:C.aB<=4:=hC.1.2
 have no:¬((0<=n.core/\n.core<C.aB)/\C.kG n.aI)->∀h,Hs G h (aN p 0 n.enc::aN hb 0 (pT mb C b o cap)::gQ G C.aF mb C (fun i=>(H i).2)::gJ G 25 187 (some ⟨b,o,none⟩) cap C.aF b o::eP C.aF (fun i=>gH b (o+i*25) (H i).1)::L)->Q (.tuple ⟨[.slice none 0 0,I 10]⟩) h:=fun B h a=>by
  rw[bA0 B] at d;exact d _ _ (wP<|D1 C H hb mb b o cap a).to
 refine bW<|bI a fun D h a=>aA<|aE a rfl<|bE<|bG (fun x=>no FA _ a.to) fun x=>?_
 refine aA<|aE a rfl<|aC<|aA<|aA<|aE a rfl<|fX<|bG (fun y=>no FA _ a.to) fun y=>(aA<|aE a rfl<|B6 a<|cX<|fM<|bG (fun q=>?_) fun q=>no FB _ a.to)
 rw[bA1 FB] at d
 obtain⟨l,k⟩:=aL q.1
 have f:l<C.aF:=by have:=q.2;omega
 have e:n.aI.toNat=l:=FA
 rw[e] at d
 rw[k] at d
 dsimp only at d
 exact aU0 (mb:=mb) (b:=b) (o:=o) (cap:=cap) hC g f k FA (w l f).1 (by have:=(w l f).2;omega) a.to d
end
def Mx (hC:C.Ok) {H:nD} {n:aG} (e:Ob G 0 iF) (y:Bb C H (2^30 - 1)) (d:Hs G h L) [m:eB (jJ G hb C) L H L']
  (f:∀v i,Hs G i (gW v (eW C H n).2.1::jJ G hb C (eW C H n).1::L')->Q (.tuple ⟨[v,I (eW C H n).2.2]⟩) i):IU 143 [IV hb,.agg ⟨n.enc⟩] h Q:=by
 refine cW<|eT (m.of d) ?_
 intro p h d
 obtain⟨mb,b,o,cap,d⟩:=sN d.pS
 have a:∀t,cU n.kind->Dd 143 4 [] Q [IV hb,IV p,t] h:=fun t g=>aTt (mb:=mb) (b:=b) (o:=o) (cap:=cap) hC e y d.to g f
 have no:¬cU n.kind->Q (.tuple ⟨[.slice none 0 0,I 15]⟩) h:=fun z=>by
  unfold eW at f;rw[bA1 z] at f;exact f _ _ (wP<|D1 C H hb mb b o cap d).to
 refine dM<|cS<|bW<|aA<|aE d rfl<|cC<|bG (fun k=>bW<|cI k<|a _ GA) fun k=>bW<|cC<|bG (fun q=>bW<|cI q<|a _ GA) fun q=>bW ?_
 refine cC<|bG (fun u=>bW<|cI u<|a _ GA) fun u=>bW ?_
 exact cC<|bG (fun w=>bW<|cI w<|a _ GA) fun w=>bW<|cC<|bG (fun x=>a _ GA) fun x=>no GA
def aFf {H:nD} (q:Bb C H (2^30 - 1)) (d:Hs G h L) [m:eB (jJ G hb C) L H L']
  (e:∀i,Hs G i (jJ G hb C (jS C H x).1::L')->Q (I (jS C H x).2) i):IU 214 [IV hb,I x] h Q:=by
 obtain⟨mb,b,o,cap,d⟩:=sN<|m.of d
 unfold jS at e
 refine cW<|dM<|cS<|bW<|B6 d<|cX<|fM<|bG (fun f=>bW ?_) fun f=>?_
 .rw[bA1 f] at e;obtain⟨l,rfl⟩:=aL f.1;simp only[iN.mf,aM] at e;have g:l<C.aF:=by have:=f.2;omega
  have d:=Ld (H:=H) (b:=b) (o:=o) g d
  obtain⟨u,v,d⟩:=fN d
  have t:=(q l g).2
  refine aC<|aA<|aE d rfl<|fD g<|aC<|aA<|aE d rfl<|aZ (c:=(nU l).enc) rfl<|aZ (c:=(nU l).enc) rfl ?_
  refine dV d rfl rfl rfl fun a h d=>tG d FA ?_
  intro a4 k h d
  dsimp only
  refine aC<|aA<|ay d fun h d=>e _ ?_
  exact(gU hb C H l ((H l).1.lF<|nU l) _ _ mb b o cap g gZ.symm<|gD b (o+l*25) ((H l).1.lF<|nU l) a4 k d (by simp[bP.enc,bM,bP.lF]) (by simp[bP.lF])<|by simp[Ea,bP.lF]).to
 .rw[bA0 f] at e;exact e _ (D1 C H hb mb b o cap d).to
structure s9 (G:Bg) (A:HP) (jv:Value) (j:Int->Int->Int×Bool):Prop where
 ne:∀k:Value->Prop,k (.bool false)->cE (dm true .eql jv .nilIface) k
 Ql:∀(h:AH) (L M:IB) (w l:Int) (Q:Value->AH->Prop),L.Perm (A::M)->Hs G h L->(∀h',Hs G h' L->Q (.tuple ⟨[I (j w l).1,.bool (j w l).2]⟩) h')->IU 165 [jv,I w,I l] h Q
section
variable {l:Nat} {H:nD} {n:aG} {r:bP}
def As (G:Bg) (hb p mb b o cap l:Nat) (C:bQ) (H:nD) (n:aG) (r:bP):IB:=
 [gH b (o+l*25) r,aN p 0 n.enc,aN hb 0<|pT mb C b o cap,gQ G C.aF mb C fun i=>(H i).2,gJ G 25 187 (some ⟨b,o,none⟩) cap C.aF b o,Ez b o C.aF H l]
def aHw (q:l<C.aF) (g:n.kind≠3/\n.kind≠1/\n.kind≠2) (a:Hs G h (As G hb p mb b o cap l C H n r++L)) {t:Value}
  (d:∀v k,Hs G k (gW v (r.eX l (H l).2 n fun w=>j w l).2::jJ G hb C (bD H l (r.eX l (H l).2 n fun w=>j w l).1)::L)->Q (.tuple ⟨[v,I 0]⟩) k):Dd 111 13 [] Q [IV hb,I l,jv,pt b (o+l*25) 0,IV p,t] h:=by
 unfold bP.eX at d
 rw[bA0 g.1,aaa] at d
 simp only[As,e7,gk] at a
 refine bW<|Df a fun a=>cC<|bG (fun f=>?_) fun f=>bW<|bI a ?_
 .rw[bA1 f] at d;exact d _ _<|wP<|(gU hb C H l r _ _ mb b o cap q gZ.symm a).to
 .rw[bA0 f] at d;intro y h a;refine bB a FC (l:=n.enc) rfl rfl ?_;obtain⟨u,x,a⟩:=fN<|a.bF<|gH b (o+l*25) r;refine aC<|aA<|ay a ?_;intro h a;have i:=a;refine aC (aA<|ay a fun h a=>cR dG<|cR (bB i FC rfl rfl<|uW<|by simp[uG,aG.enc]) ?_);have a:=gD b (o+l*25) (r.Np n) u x a rfl rfl rfl;have e:(r.Np n).iV (-1)=r.iV (-1):=rfl;refine Wk a fun v h a=>d _ _ ?_;rw[e] at a;exact(gU hb C H l ((r.Np n).iO<|r.iV<|-1) _ _ mb b o cap q gZ.symm a).to
theorem gh (hC:C.Ok) (f:Ob G 0 iF) {A:HP} {u:IB} (x:s9 G A jv j) (hA:L.Perm (A::u)) (i:l<C.aF) (k:0<=n.core/\n.core<4) (y: -1<=r.owner/\r.owner<4) (g:n.kind=1\/n.kind=2) (d:Hs G h (As G hb p mb b o cap l C H n r++L))
  (e:∀v q,Hs G q (gW v (r.eX l (H l).2 n fun w=>j w l).2::jJ G hb C (bD H l (r.eX l (H l).2 n fun w=>j w l).1)::L)->Q (.tuple ⟨[v,I 0]⟩) q):Dd 111 12 [] Q [IV hb,I l,jv,IV p] h:=by
 unfold bP.eX at e
 rw[aaa,bA1 g] at e
 simp only[As,e7,gk] at d
 refine bW<|aA<|aE d rfl<|x.Ql _ _ _ _ _ _ ((hA.append_left<|As G hb p mb b o cap l C H n r).trans DA) d fun h d=>?_
 simp only[As,e7,gk] at d
 refine aQ rfl<|aQ rfl<|cX<|fM<|eA (fun t=>?_) fun t=>?_
 .rw[bA1 t] at e;refine bB d FC (l:=n.enc) rfl rfl ?_;have d:=gU hb C H l r _ _ mb b o cap i gZ.symm d;refine J8 hC f d i k (by grind[dJ]) fun v h d=>e _ _ ?_;simp only[dJ,Ag] at d;exact d.to
 .rw[bA0 FB] at e;refine aA<|aE d rfl<|aZ (c:=(mR 9 n.core l).enc) rfl<|aZ (c:=(mR 9 n.core l).enc) rfl<|dV d rfl rfl rfl fun a h d=>e _ _ ?_;exact(gU hb C H l r _ _ mb b o cap i gZ.symm<|Kt rfl d).to
theorem aMo (hC:C.Ok) (g:Ob G 0 iF) (i:l<C.aF) (f:0<=n.core/\n.core<4) (k:n.kind=3) (d:Hs G h (As G hb p mb b o cap l C H n r++L))
  (e:∀v q,Hs G q (gW v (r.eX l (H l).2 n fun w=>j w l).2::jJ G hb C (bD H l (r.eX l (H l).2 n fun w=>j w l).1)::L)->Q (.tuple ⟨[v,I 0]⟩) q):Dd 111 6 [] Q [IV hb,I l,pt b (o+l*25) 0,IV p] h:=by
 unfold bP.eX at e
 rw[bA1 k] at e
 simp only[As,e7,gk] at d
 refine bW<|bI d ?_
 intro z h d
 obtain⟨x,y,d⟩:=fN<|d.bF<|gH b (o+l*25) r
 refine aC<|aA<|aE d rfl<|aA<|aE d rfl<|cC<|bG (fun t=>?_) fun t=>?_
 .have d:=gD b (o+l*25) r x y d rfl rfl rfl;refine aA (aE d rfl<|eA (fun u=>bW<|bI d ?_) fun u=>bW ?_)
  .rw[bA1 ⟨t,u⟩] at e;intro z h d;refine aC<|aA<|aE d rfl<|aA<|bB d FC (l:=Va (n.d0,n.d1)) rfl rfl<|T8 hC g d i fun h d=>(aA<|aE d rfl<|Mg d f fun h d=>?_);refine aA<|aE d rfl<|aZ (c:=(mR 10 n.core l).enc) rfl<|aZ (c:=(mR 10 n.core l).enc) rfl<|dV d rfl rfl rfl fun a h d=>e _ _ ?_;exact(gU hb C H l (r.iB n.core) (n.d0,n.d1) _ mb b o cap i rfl<|Kt rfl d).to
  .rw[bA0 FB] at e;refine aA<|aE d rfl<|Mg d f fun h d=>?_;refine aA<|aE d rfl<|aZ (c:=(mR 10 n.core l).enc) rfl<|aZ (c:=(mR 10 n.core l).enc) rfl<|dV d rfl rfl rfl fun a h d=>e _ _ ?_;exact(gU hb C H l (r.iB n.core) _ _ mb b o cap i gZ.symm<|Kt rfl d).to
 .rw[aaa] at e;have d:=gD b (o+l*25) r x y d rfl rfl rfl;refine aA<|aE d rfl<|Mg d f fun h d=>?_;refine aA<|aE d rfl<|aZ (c:=(mR 10 n.core l).enc) rfl<|aZ (c:=(mR 10 n.core l).enc) rfl<|dV d rfl rfl rfl fun a h d=>e _ _ ?_;exact(gU hb C H l (r.iB n.core) _ _ mb b o cap i gZ.symm<|Kt rfl d).to
end
theorem U2 (hC:C.Ok) {H:nD} {N:Nat} (g:Ob G 0 iF) {A:HP} {T:IB} (D:s9 G A jv j) (X:Bb C H N) (a:Hs G h L) [m:eB (jJ G hb C) L H L'] (hA:L'.Perm (A::T))
  (d:∀v O,Hs G O (gW v (eO C H x fun w=>j w x).2.1::jJ G hb C (eO C H x fun w=>j w x).1::L')->Q (.tuple ⟨[v,I (eO C H x fun w=>j w x).2.2]⟩) O):IU 111 [IV hb,I x,jv] h Q:=by
 obtain⟨mb,b,o,cap,a⟩:=sN<|m.of a
 unfold eO at d
 refine cW<|dM<|cS<|bW<|B6 a<|cX<|fM<|bG (fun y=>bW<|D.ne _<|cS<|bW ?_) fun y=>?_
 rotate_left
 .rw[bA0 y] at d;exact d _ _ (wP<|D1 C H hb mb b o cap a).to
 rw[bA1 y] at d
 obtain⟨l,rfl⟩:=aL y.1
 have k:l<C.aF:=by have:=y.2;omega
 simp only[aM] at d
 have a:=Ld (H:=H) (b:=b) (o:=o) k a
 obtain⟨F,J,a⟩:=fN a
 have qE:∀h,Hs G h (gH b (o+l*25) (H l).1::Ez b o C.aF H l::aN hb 0 (pT mb C b o cap)::gQ G C.aF mb C (fun i=>(H i).2)::gJ G 25 187 (some ⟨b,o,none⟩) cap C.aF b o::L')->Hs G h (gW _ []::jJ G hb C (bD H l<|H l)::L'):=fun h a=>
  wP ((gU hb C H l (H l).1 _ _ mb b o cap k gZ.symm a).to)
 unfold iN.dK at d
 refine aC<|aA<|aE a rfl<|fD k<|aC<|aA<|aE a rfl<|eA (fun P=>?_) fun P=>bW ?_
 .rw[bA1 P] at d;exact d _ _<|qE _ (gD b (o+l*25) _ F J a rfl rfl rfl).to
 rw[bA0 FB] at d
 refine aC<|aA<|aE a rfl<|dB<|cC<|bG (fun W=>?_) fun W=>bW ?_
 .have u:(H l).1.aH=[]:=FB;rw[u] at d;exact d _ _<|qE _ (gD b (o+l*25) _ F J a rfl rfl rfl).to
 .cases u:(H l).1.aH with
  |nil=>grind
  |cons n w=>
   rw[u] at d
   dsimp only at d
   have q:=(X l k).1
   have t:=q.aH n FB
   have f:=a.bF<|dY 9 185 F J ((H l).1.aH.length,iL (H l).1.aH)
   rw[u] at f
   simp only[hK,Sl] at f
   obtain⟨Y,Z,rfl,HH,B,_⟩:=f.uZ FA
   refine aC<|aA<|aE a rfl ?_
   rw[u]
   refine fD FF<|R6 B FC (l:=n.enc) (by simp[aG.enc]) rfl ?_
   clear B
   refine cK f ?_
   intro p h a
   refine ax a fun h a=>aC<|aA<|aE a rfl ?_
   rw[u]
   refine aFr (e:=185) a fun U V a=>aC<|aA<|ay a ?_
   intro h a
   have a:=gD b (o+l*25) ((H l).1.next w) U V a rfl rfl (by simp[bP.next,aG.enc])
   have a:Hs G h (As G hb p mb b o cap l C H n ((H l).1.next w)++L'):=by
    simp only[As,e7,gk];exact a.to
   have z:=a
   simp only[As,e7,gk] at z
   refine aA<|aE z rfl<|cC<|bG (fun R=>aMo (j:=j) hC g k t R a d) fun R=>bW<|cC<|bG (fun E=>bW<|cI E<|gh (r:=(H l).1.next w) hC g D hA k t q.owner (.inl E) a d) fun E=>bW<|cC<|bG (fun S=>gh (r:=(H l).1.next w) hC g D hA k t q.owner (.inr S) a d) fun S=>aHw k FA a d
end Go.Proofs.Z.H
end
variable {k:Value->Prop} {M:IB} {g:Int} {i n:Nat}
namespace Go.Proofs.Z
open Go.Hm Go.At Go.Mc
def aSv {a b c d:Bool} (f:k (.bool<|!(a||b||c||d))) {e:Bool} (hc:e=true:=by kernel_rfl):bu e [1,1,1,1] .eql (.agg ⟨[.bool a,.bool b,.bool c,.bool d]⟩) (.agg ⟨[.bool false,.bool false,.bool false,.bool false]⟩) k:=by
 exact⟨hc,_,(by cases a<;>cases b<;>cases c<;>cases d<;>kernel_rfl),f⟩
attribute [local irreducible] cE Br xE zJ Ba K1 sO D9 sF na mC tH yM yV yE pR Be dr bf dm Xy bu py qY vS oL nR Fs Qe rE Xn lz Hj Cl E5 pw A9 zV qJ kI fJ dX
variable {G:Bg} {h:AH} {C:bQ} {m:Mon}
def Y6 (d:iY C m) (hC:C.Ok) (a:m.kG g):∃n:Nat,g=n/\n<m.eQ.length/\n<16:=by
 have:=d.len;have:=hC.2.1;unfold Mon.kG at a;exact⟨g.toNat,FA,FA,FA⟩
variable {r:Mc.mS}
def aCl (a:i<4):bM r.enc (0+8+i*1) [.bool false]=(r.dE i).enc:=by
 have:i=0\/i=1\/i=2\/i=3:=FA
 rcases this with rfl|rfl|rfl|rfl<;>rfl
def Wa {f:Nat->Option Mc.mS} {g:Nat}:Tm (oM f) g (some<|.agg ⟨r.enc⟩)=oM (bD f g<|some r):=Nm (x:=some r)
theorem Vg {core:Int} (hC:C.Ok) (D:iY C m) (a:Hs G h L) [E:eB (jQ C p) L m L'] (d:∀x,Hs G x (jQ C p (m.eF C.aB g core).1::L')->Q (.tuple ⟨[.bool (m.eF C.aB g core).2.1,I (m.eF C.aB g core).2.2]⟩) x):IU 155 [IV p,I g,I core] h Q:=by
 have J:=hC.1;unfold Mon.eF at d;obtain⟨t,b,a⟩:=pZ<|E.of a;refine cW<|dM<|cS<|bW<|aC<|aA<|aE a rfl<|Ib a fun h a=>?_;by_cases v:m.kG g;rotate_left;rw[bA0 v];rw[bA1 v] at d;exact aQ rfl<|aQ rfl<|cK a fun q h a=>ax a fun h a=>bU<|aae<|d _<|fT (t:=t) (b:=b) a.to;rw[bA1 v];rw[bA0 FB] at d;obtain⟨n,rfl,O,u⟩:=Y6 D hC v;refine aQ rfl<|aQ rfl<|cK a fun q h a=>ax a fun h a=>bU<|aab<|bW<|aC<|aA<|aE a rfl<|Wg a<|cK a fun pr h a=>ax a fun h a=>aA<|aE a rfl<|bU<|bG (fun k=>?_) fun k=>?_;cases hr:m.run (n:Int) with
 |none=>rw[hr] at d;exact d _ (fT (t:=t) (b:=b) a.to)
 |some r=>
  rw[hr] at k d;simp only[p4] at k;dsimp only at d;rw[bA1 k] at d;exact d _<|fT (t:=t) (b:=b) a.to
 cases hr:m.run (n:Int) with
 |none=>rw[hr] at k;exact absurd (show(0:Int)≠1 by omega) k
 |some r=>
 rw[hr] at k a d;simp only[p4] at k a;dsimp only at d;rw[bA0 k] at d;by_cases y:0<=core/\core<C.aB;rotate_left;rw[bA1<|Or.inl y] at d;refine bW<|bE<|bG (fun A=>d _<|fT (t:=t) (b:=b) a.to) fun A=>aC<|aA<|aE a rfl<|fX<|aae<|d _<|fT (t:=t) (b:=b) a.to;obtain⟨i,rfl⟩:=aL y.1;have B:i<4:=FA
 have w:r.enc[0+8+i*1]?=some (.bool<|r.aH i):=by
  have:i=0\/i=1\/i=2\/i=3:=FA
  rcases this with rfl|rfl|rfl|rfl<;>rfl
 refine bW<|bE<|aab<|aC<|aA<|aE a rfl<|fX<|aab<|aA<|kS FA<|aE a w<|cX<|fM ?_;rw[aM] at d;cases hw:r.aH i with
 |false=>
  rw[bA1<|Or.inr hw] at d;exact cS (d _<|fT (t:=t) (b:=b) a.to)
 |true=>
 rw[bA0 FB] at d;have N:r.enc.length=12:=rfl;refine gF (bW<|aA<|kS FA<|cF a rfl (by grind[Nat.ble_eq_true_of_le]) rfl rfl fun h a=>?_);rw[aCl B] at a;refine aA<|kR a FC (l:=[.bool _,.bool _,.bool _,.bool _]) rfl rfl<|aZ rfl<|aSv<|eA (fun f=>?_) fun f=>?_;have e:({(r.dE i) with phase:=2}:Mc.mS)=(r.dE i).gX:=by unfold mS.gX;rw[show(r.dE i).none=true from f];rfl
 refine bW<|aA<|ay a fun h a=>bI a fun F h a=>?_;have z:bM (r.dE i).enc (0+7) [I 2]=({(r.dE i) with phase:=2}:Mc.mS).enc:=rfl;rw[z,e] at a;refine aC<|aA<|aE a rfl<|bB a FC (l:=(r.dE i).gX.enc) rfl rfl<|Zg a u fun h a=>?_;rw[Wa] at a;have a:Hs G h (jQ C p (m.dO n<|some (r.dE i).gX)::L'):=(fT (m:=m.dO n<|some (r.dE i).gX)<|a.dR (aN p 0 [IV t,I C.aB,lE b]) (mG t m.eQ)<|qV b<|oM<|bD m.eI n _).to;have:=d h a;rw[f];rw[show(r.dE i).none=true from f] at this;exact this;have e:r.dE i=(r.dE i).gX:=by unfold mS.gX;rw[show(r.dE i).none=false from f];rfl
 rw[e] at a;refine bW<|bI a fun F h a=>aC<|aA<|aE a rfl<|bB a FC (l:=(r.dE i).gX.enc) rfl rfl<|Zg a u fun h a=>?_;rw[Wa] at a;have a:Hs G h (jQ C p (m.dO n<|some (r.dE i).gX)::L'):=(fT (m:=m.dO n<|some (r.dE i).gX)<|a.dR (aN p 0 [IV t,I C.aB,lE b]) (mG t m.eQ)<|qV b<|oM<|bD m.eI n _).to;have:=d h a;rw[f];rw[show(r.dE i).none=false from f] at this;exact this
theorem aGd (h:m.run (n:Int)=some r):m.eI n=some r:=by
 simp_all[Mon.run,bA1]
theorem u7 (hC:C.Ok) (B:iY C m) (a:Hs G h L) [F:eB (jQ C p) L m L'] (d:∀u,Hs G u (jQ C p (m.over g).1::L')->Q (.tuple ⟨[.agg ⟨zD<|(m.over g).2.1.getD Qg⟩,I (m.over g).2.2]⟩) u):IU 112 [IV p,I g] h Q:=by
 unfold Mon.over at d;refine cW<|cK (cs:=zD Qg) (F.of a) fun q0 h a=>?_;obtain⟨t,b,a⟩:=pZ<|a.bF<|jQ C p m;refine dM<|cS<|bW<|aC<|aA<|aE a rfl<|Ib a fun h a=>?_;have bad:∀{h:AH} {M:IB} {e:Int},[F2 M L']->Hs G h (aN q0 0 (zD Qg)::aN p 0 [IV t,I C.aB,lE b]::mG t m.eQ::qV b (oM m.eI)::M)->(∀u,Hs G u (jQ C p m::L')->Q (.tuple ⟨[.agg ⟨zD Qg⟩,I e]⟩) u)->
   cE (tQ [I 0,I 0,I 0,I 0,I 0,I 0,.bool false] []) fun y=>cE (Ba h 7 (IV q0)<|.agg ⟨y⟩) fun v=>cE (zJ v 7<|IV q0) fun z=>Q (.tuple ⟨[z,I e]⟩) v:=by
  intro h M e _ a E
  exact aZ rfl<|ax a fun h a=>bB a FC (l:=zD Qg) rfl rfl<|E _<|fT (t:=t) (b:=b) a.to
 by_cases w:m.kG g;rotate_left;rw[bA0 w];rw[bA1 w] at d;exact aQ rfl<|aQ rfl<|cK a fun q h a=>ax a fun h a=>bU<|aae<|bad (M:=L') a.to d;rw[bA1 w];rw[bA0 FB] at d;obtain⟨n,rfl,N,D⟩:=Y6 B hC w;refine aQ rfl<|aQ rfl<|cK a fun q h a=>ax a fun h a=>bU<|aab<|bW<|aC<|aA<|aE a rfl<|Wg a<|cK a fun pr h a=>ax a fun h a=>aA<|aE a rfl<|bU<|bG (fun k=>?_) fun k=>?_;cases hr:m.run (n:Int) with
 |none=>rw[hr] at d;exact bad (M:=L') a.to d
 |some r=>
  rw[hr] at k d;simp only[p4] at k;dsimp only at d;rw[bA1 k] at d;exact bad (M:=L') a.to d
 cases hr:m.run (n:Int) with
 |none=>rw[hr] at k;exact absurd (show(0:Int)≠2 by omega) k
 |some r=>
 rw[hr] at k a d;simp only[p4] at k a;dsimp only at d;rw[bA0 k] at d;obtain⟨O,P,R,S,J⟩:=B.run n r<|aGd hr;refine bW<|bI a fun T h a=>aC<|aA<|aE a rfl<|aA<|aA<|aA<|aE a rfl<|aA<|aA<|aE a rfl<|aZ rfl<|Oc (x:=⟨r.kC,_⟩) a fun h a=>?_;have i:(0<=r.aS/\r.aS<m.eQ.length)/\(0<=r.kC/\r.kC<=4):=⟨FB,J⟩;rw[bA1 i] at a;rw[bA1 i];refine bU<|aab<|bW<|aC<|aA<|aE a rfl<|aRp a fun h a=>aA<|bB a FC (l:=zD r) rfl rfl<|ax a fun h a=>bB a FC (l:=zD r) rfl rfl<|d _ ?_;have A:=Nm (f:=m.eI) (g:=n) (x:=none);rw[Option.map_none] at A;rw[A] at a;have a:Hs G h (jQ C p ((m.oO r.aS.toNat ⟨r.kC,false⟩).dO n none)::L'):=(fT (m:=(m.oO r.aS.toNat ⟨r.kC,false⟩).dO n none)<|a.dR (aN p 0 [IV t,I C.aB,lE b]) (mG t<|m.eQ.set r.aS.toNat _)<|qV b<|oM<|bD m.eI n none).to;exact a
end Go.Proofs.Z
section
attribute [local irreducible] cE Br xE zJ Ba K1 sO D9 sF na mC tH yM yV yE pR Be dr bf dm Xy bu py qY vS oL nR Fs Qe rE Xn lz Hj Cl E5 pw A9 zV qJ kI fJ dX
namespace Go.Proofs.Z
open Go.Hm Go.At Go.Mc
def Bn (m:Mon) (done:EV) (k:Nat):EY:=if(k:Int)∈done then oM m.eI k else none
variable {m:Mon}
theorem aDs:Bn m []=fun _=>none:=by grind[Bn]
theorem aCn {done:EV} {k:Nat} {r:Mc.mS} (a:m.eI k=some r):Tm (Bn m done) k (some<|.agg ⟨r.enc⟩)=Bn m (done++[(k:Int)]):=by
 funext j;unfold Tm Bn;by_cases e:j=k;grind[oM];grind
theorem aD8 (a:∀g r,m.eI g=some r->g<16):Bn m (m.fO.map fun k:Nat=>(k:Int))=oM m.eI:=by
 funext k;unfold Bn;split;rfl;rename_i d;cases hr:m.eI k with
 |none=>grind[oM]
 |some r=>grind[absurd,yA]
variable {G:Bg} {h:AH} {C:bQ}
abbrev aVh (C:bQ) (m:Mon) (p p2 p3 q t b:Nat) (e:Nat->Value) (d l:Nat) (done:EV):HP:=
 sp [pG Pr 130 (qM 122) 39 e d l (.ready,none),sp [aN p2 0 [IV p],aN p3 0 [IV q]],jQ C p m,sp [aN q 0 [IV t,I C.aB,lE b],mG t m.eQ,qV b<|Bn m done]]
theorem T4 (hC:C.Ok) (B:iY C m) (a:Hs G h L) [R:eB (jQ C p) L m L'] (P:∀q z,Hs G z (jQ C q m::jQ C p m::L')->Q (IV q) z):IU 130 [IV p] h Q:=by
 have A:=B.len;have O:=hC.2.1;refine cW<|eT (R.of a) fun g h a=>(aE a rfl<|dM<|cS ?_);obtain⟨t0,F,a⟩:=pZ<|a.bF<|jQ C p m;refine bW<|bI a fun V W f=>aE f rfl<|aC<|aA<|aE f rfl<|wi FA f fun t h a=>(aE a rfl<|aC<|aA<|aE a rfl<|aE a rfl<|aC<|aA<|aE a rfl<|aS9 a fun _=>aVz<|th a rfl rfl fun b h a=>?_);refine aZ (c:=[IV t,I C.aB,lE b]) rfl (D6 a rfl rfl fun q h a=>nJ a rfl rfl fun i h a=>ax a fun h a=>(cR (aE f rfl dG)<|cR (aC dG)<|cR (aA dG)<|cR (aE f rfl jF)<|cR (aE f rfl dG)<|cR (aC dG)<|cR (aA dG)<|cR (aE f rfl<|by simp[uG,lE]) ?_));have a:=fT<|a.dR (aN p 0 [IV t0,I C.aB,lE F]) (mG t0 m.eQ) _;refine aE a rfl<|J9 (C:=C) a fun U S T h a=>oE a fun d h a=>fun e N=>rI a fun l h a=>xQ rfl ?_;rw[<-aDs (m:=m)] at a;have a:Hs G h (H.Tv 3 U S T (m.fO.map fun k:Nat=>(k:Int))::aVh C m p g i q t b e d l []::mk d ()::L'):=by
  have a:=(a.dR (aN q 0 [IV t,I C.aB,lE b]) (mG t m.eQ)<|qV b<|Bn m []).Vc;have a:=(a.dC (aN g 0 [IV p])<|aN i 0 [IV q]).F4;have a:=(a.pQ (pG Pr 130 (qM 122) 39 e d l (.ready,none)) (sp [aN g 0 [IV p],aN i 0 [IV q]]) (jQ C p m)<|sp [aN q 0 [IV t,I C.aB,lE b],mG t m.eQ,qV b<|Bn m []]).Rh;exact a.to
 refine(H.G7 GP).Nf
  (Z:=fun _ _=>Dm False) a ?_ ?_ ?_
 .intro done x h M D a;have a:=a.un4;obtain⟨k,u,rfl⟩:∃k∈m.fO,(k:Int)=x:=by
   obtain⟨Y,y⟩:=D;have:x∈m.fO.map fun k:Nat=>(k:Int):=by rw[<-y];simp
   grind
  obtain⟨r,E⟩:=c7.1 (yA.1 u).2;have w:m.run (k:Int)=some r:=by unfold Mon.run;rw[aac];exact E
  have a:=(a.bF<|sp [aN g 0 [IV p],aN i 0 [IV q]]).Fk;have a:=(a.bF<|sp [aN q 0 [IV t,I C.aB,lE b],mG t m.eQ,qV b<|Bn m done]).E4;refine rW (yH a) N<|kY a fun h a=>bI a fun V h a=>?_;obtain⟨t2,J,a⟩:=pZ<|a.bF<|jQ C p m;refine aE a rfl<|aC<|aA<|aE a rfl<|aE a rfl<|aC<|aA<|aE a rfl<|Wg a ?_;rw[w];refine Zg a (yA.1 u).1 fun h a=>lJ a fun h a=> .inl ⟨rfl,?_⟩;rw[show(some r).getD Qg=r from rfl,aCn E] at a;have a:=fT<|a.dR (aN p 0 [IV t2,I C.aB,lE J]) (mG t2 m.eQ) _;have a:=(a.dR (aN q 0 [IV t,I C.aB,lE b]) (mG t m.eQ)<|qV b<|Bn m<|done++[(k:Int)]).Vc;have a:=(a.dC (aN g 0 [IV p])<|aN i 0 [IV q]).F4;have a:=(a.pQ (pG Pr 130 (qM 122) 39 e d l (.ready,none)) (sp [aN g 0 [IV p],aN i 0 [IV q]]) (jQ C p m)<|sp [aN q 0 [IV t,I C.aB,lE b],mG t m.eQ,qV b<|Bn m<|done++[(k:Int)]]).Rh;exact a.to
 intro v h a;have a:=(a.bF<|aVh C m p g i q t b e d l (m.fO.map fun k:Nat=>(k:Int))).un4;have a:=(a.bF<|sp [aN g 0 [IV p],aN i 0 [IV q]]).Fk;have a:=(a.bF<|sp [aN q 0 [IV t,I C.aB,lE b],mG t m.eQ,qV b<|Bn m (m.fO.map fun k:Nat=>(k:Int))]).E4;rw[aD8<|B.aWv hC] at a;have a:=fT<|a.dR (aN q 0 [IV t,I C.aB,lE b]) (mG t m.eQ) _;exact qZ a fun h a=>rC<|aE a rfl<|qP a fun h a=>oA<|P _ _ a.to
 .intro done x v h D a;obtain⟨X,_⟩:=(a.bF<|Dm False).yv;grind
end Go.Proofs.Z
end
variable {ov:Value} {os:EV} {w:Int}
namespace Go.Proofs.Z
open Go.Hm Go.At Go.Mc
def aHn {t:TypeId} {v:Value} (a:k (.bool false)):cE (dm true .eql (.iface t v) .nilIface) k:=⟨_,rfl,a⟩
attribute [local irreducible] cE Br xE zJ Ba K1 sO D9 sF na mC tH yM yV yE pR Be dr bf dm Xy bu py qY vS oL nR Fs Qe rE Xn lz Hj Cl E5 pw A9 zV qJ kI fJ dX
variable {G:Bg} {h:AH} {C:bQ} {m:Mon}
theorem Zw (a:A.N1 G ov os) (d:k (I os.length)):cE (pR ov) k:=A.qQ a (by grind[A.uK])
def rK {α:Type} {l:List α} (h:i<l.length):∃x,l[i]?=some x/\l.drop i=x::l.drop (i+1):=⟨l[i],FF,mn h⟩
def Bx (os:EV):IP:=os.map fun o=>⟨o,false⟩
theorem Yz (g:A.N1 G ov os) (y:os.length<=16) (q:∀o∈os,0<=o/\o<=4) {t0:Value} (k:∀d,Hs G d L->Dd 36 4 [] Q [t0,ov] d):
  ∀(f i:Nat) (h:AH),i+f=os.length->Hs G h L->Dd 36 2 [] Q [t0,ov,ov,I os.length,I i] h:=by
 intro f
 induction f with
 |zero=>intro i h e a;exact bW (bE<|aab<|k _ a)
 |succ f v=>
  intro i h e a
  obtain⟨x,t,w⟩:=rK (l:=os) (i:=i) FA
  have u:=q x FB
  have a:=A.zC g a
  exact bW<|bE<|aae<|bW<|Cz a (x:=[I x]) (by simp[A.K5,t]) rfl<|bE<|aab<|oT<|aab<|bW<|aad<|v (i+1) h FA a.tail
def aBq (a:os[i]?=some x):(Bx (os.take i)++List.replicate (os.length - i) pU).set i ⟨x,false⟩=Bx (os.take<|i+1)++List.replicate (os.length - (i+1)) pU:=by
 obtain⟨f,e⟩:=eh.1 a;have d:(Bx<|os.take i).length=i:=by simp[Bx];omega
 rw[List.set_append_right _ _ FA,d,BF,show os.length - i=(os.length - (i+1))+1 by omega,AR,List.set_cons_zero,AE,a];simp[Bx]
theorem aBc (hC:C.Ok) (g:A.N1 G ov os) (O:os.length=C.aJ.toNat) (w:∀o∈os,0<=o/\o<=4) (a:Hs G h L) (D:∀q u,Hs G u (jQ C q ⟨Bx os,fun _=>none⟩::L)->Q (.tuple ⟨[IV q,I 0]⟩) u):IU 36 [I C.aB,ov] h Q:=by
 have J:=hC.1;have z:=hC.2.1;refine cW<|bE<|aab<|oT<|aab<|Zw g<|bE<|aab<|Zw g<|oT<|aab<|bW<|Zw g<|Yz g FA w ?_ os.length 0 h FA a;intro h a;refine bW<|Zw g<|aCq FA a fun t h a=>aQ rfl<|aQ rfl<|bU<|aab<|bW<|aGb a fun b h a=>(aZ (c:=[IV t,I C.aB,lE b]) rfl<|eT a fun q h a=>Zw g ?_);have loop:∀(f i:Nat) (h:AH),i+f=os.length->Hs G h (mG t (Bx (os.take i)++List.replicate (os.length - i) pU)::aN q 0 [IV t,I C.aB,lE b]::qV b (fun _=>none)::L)->Dd 36 7 [] Q [IV q,ov,I os.length,I i] h:=by
  intro f;induction f with
  |zero=>
   intro i h B a;refine bW<|bE<|aab<|D _ _ ?_;have k:i=os.length:=FA
   subst k;rw[BO,BF,List.replicate_zero,g7] at a;have a:Hs G h (aN q 0 [IV t,I C.aB,lE b]::mG t (Bx os)::qV b (fun _=>none)::L):=a.to;exact fT a
  |succ f F=>
   intro i h B a;obtain⟨x,y,N⟩:=rK (l:=os) (i:=i) FA;have E:=w x FB;have a:=A.zC g a;refine bW (bE<|aae<|bW<|Cz a (x:=[I x]) (by simp[A.K5,y]) rfl<|aC<|aA<|aE a rfl<|aZ rfl<|Oc (x:=⟨x,_⟩) a.tail fun h a=>?_);have v:(Bx (os.take i)++List.replicate (os.length - i) pU).length=os.length:=by simp[Bx];omega
   have d:(0<=(i:Int)/\(i:Int)<(Bx (os.take i)++List.replicate (os.length - i) pU).length)/\(0<=(⟨x,false⟩:mP).owner/\(⟨x,false⟩:mP).owner<=4):=FB;rw[bA1 d] at a;rw[bA1 d];rw[aM,aBq y] at a;exact bU<|aab<|bW<|aad<|F (i+1) h FA a
 have e:(os.length:Int).toNat=os.length:=FA;refine loop os.length 0 h FA ?_;rw[e] at a;have e2:List.replicate os.length pU=Bx (os.take 0)++List.replicate (os.length - 0) pU:=rfl;rw[e2] at a;exact a.to
theorem Po (hC:C.Ok) (k:Ob G 0 iF) (a:Hs G h L)
  (d:∀e,Hs G e L->Q (if C.kG x then .tuple ⟨[I<|x/2,I 0]⟩ else .tuple ⟨[I 0,I 10]⟩) e):IU 133 [.agg ⟨C.enc⟩,I x] h Q:=by
 have hb:=(bQ.fC hC).2.2
 have i:C.kG x↔0<=x/\x<C.aF:=Iff.rfl
 refine cW<|eT a fun p h a=>bE<|bG (fun f=>?_) fun f=>?_
 .rw[bA0 FB] at d;exact d _ a.tail
 refine bB a FC (l:=C.enc) rfl rfl<|uU hC k a fun h a=>fX<|bG (fun g=>?_) fun g=>?_
 .rw[bA0 FB] at d;exact d _ a.tail
 .rw[bA1 FB] at d;obtain⟨n,rfl⟩:=aL (show 0<=x by omega);exact Ms FA FA FA<|d _ a.tail
def Tt (C:bQ) (m:Mon) (bA aI:Int):Int×Bool:=if C.kG aI then((m.jW<|aI/2).owner,!(m.jW<|aI/2).kM&&yL bA (m.jW<|aI/2).owner) else(0,false)
def ki (hC:C.Ok) (A:iY C m) (z:Ob G 0 iF) (a:Hs G h L) [B:eB (jQ C p) L m L'] (d:∀i,Hs G i (jQ C p m::L')->Q (.tuple ⟨[I (Tt C m w x).1,.bool (Tt C m w x).2]⟩) i):IU 277 [.agg ⟨C.enc++[IV p]⟩,I w,I x] h Q:=by
 have k:=A.len;have v:=hC.2.1;have hb:=bQ.fC hC;unfold Tt at d;refine cW<|eT (B.of a) fun q h a=>aA<|kR a FC (l:=C.enc) rfl rfl<|Po hC z a fun h a=>?_;by_cases f:C.kG x;rotate_left;rw[bA0 f];rw[bA0 f] at d;exact aQ rfl<|aQ rfl<|bU<|aae<|d _ a.to;rw[bA1 f];rw[bA1 f] at d;have g:=f;unfold bQ.kG at g;have y:m.kG (x/2):=by unfold Mon.kG;omega
 obtain⟨t,b,a⟩:=pZ<|a.bF<|jQ C p m;refine aQ rfl<|aQ rfl<|bU<|aab<|bW<|aA<|aE a rfl<|aC<|aA<|aE a rfl<|Ib a fun h a=>?_;rw[bA1 y];refine aQ rfl<|aQ rfl<|cK a fun u h a=>ax a fun h a=>bU<|aab<|bI a fun D h a=>aA<|aE a rfl<|aA<|aE a rfl<|cX<|fM ?_;have e:=fT<|a.dR (aN p 0 [IV t,I C.aB,lE b]) (mG t m.eQ) _;cases hk2:(m.jW _).kM with
 |true=>
  rw[hk2] at d;exact gF (cR (aA dG)<|cR (aE a rfl jF)<|d _ e.to)
 |false=>
  rw[hk2] at d;exact cS<|aA<|aE a rfl<|af<|cR (aA dG)<|cR (aE a rfl jF)<|d _ e.to
def Z5 (hC:C.Ok) (g:iY C m) (f:Ob G 0 iF):H.s9 G (jQ C p m) (.iface 257<|.agg ⟨C.enc++[IV p]⟩) (Tt C m) where
 ne:=fun k a=>aHn a
 Ql:=by
  intro h L M w l Q e d a;refine aRw rfl<|ki hC g f (d.cH e) fun h d=>⟨rfl,a _<|d.cH e.symm⟩
end Go.Proofs.Z
namespace Go.Proofs.Z.C
open Go.Hm Go.Ct
def uI {g a:Nat} {i:Int} (d:0<=i) (e:i<n) (f:k (pt g (i.toNat*a) 0)):cE (vS n a (.pointer<|some ⟨g,0,none⟩)<|I i) k:=
 gK (b:=g) (o:=0) (j:=0) d e (by simpa [pt] using f)
def wU {s:Int} (h:0<=s/\s<5):oP[s.toNat*8+1]?=some (.bool<|P2 s)/\oP[s.toNat*8+2]?=some (.bool<|Ch s)/\oP[s.toNat*8+3]?=some (.bool<|qK s)/\oP[s.toNat*8+4]?=some (.bool<|Kp s)
  /\oP[s.toNat*8+5]?=some (I<|if Ch s then 4 else 0)/\oP[s.toNat*8+6]?=some (I<|Q7 s)/\oP[s.toNat*8+7]?=some (I 0):=by
 have:s=0\/s=1\/s=2\/s=3\/s=4:=FA
 rcases this with rfl|rfl|rfl|rfl|rfl<;>exact⟨rfl,rfl,rfl,rfl,rfl,rfl,rfl⟩
attribute [local irreducible] cE Br xE zJ Ba K1 sO D9 sF na mC tH yM yV yE pR Be dr bf dm Xy bu py qY vS oL nR Fs Qe rE Xn lz Hj Cl E5 pw A9 zV qJ kI fJ dX
variable {G:Bg} {h:AH}
theorem Gj (d:Q (.bool<|isS x) h):IU 240 [I x] h Q:=by
 refine cW<|fX<|bG (fun a=>bE ?_) fun a=>?_;show Q _ _;rw[show decide _=isS x from AW.2 FA];exact d;show Q _ _;simp_all[false,isS,cM]
def ah (h:isS x=true):0<=x/\x<5:=cP h
def Yx (h:isS x=false):P2 x=false/\Ch x=false/\qK x=false/\Kp x=false:=by
 have:=CO h;refine⟨cM ?_,cM ?_,cM ?_,cM ?_⟩<;>omega
def aO5 (f:Ob G 3 oP) (g:Hs G h L) (e:Q (.bool<|P2 x) h):IU 236 [I x] h Q:=by
 refine cW<|Gj<|eA (fun a=>?_) fun a=>?_;have d:=ah a;exact uI d.1 d.2<|aA<|Gr g f (wU d).1 e;rw[(Yx a).1] at e;exact e
def me (f:Ob G 3 oP) (g:Hs G h L) (e:Q (.bool<|Ch x) h):IU 235 [I x] h Q:=by
 refine cW<|Gj<|eA (fun a=>?_) fun a=>?_;have d:=ah a;exact uI d.1 d.2<|aA<|Gr g f (wU d).2.1 e;rw[(Yx a).2.1] at e;exact e
def Us (f:Ob G 3 oP) (g:Hs G h L) (e:Q (.bool<|qK x) h):IU 239 [I x] h Q:=by
 refine cW<|Gj<|eA (fun a=>?_) fun a=>?_;have d:=ah a;exact uI d.1 d.2<|aA<|Gr g f (wU d).2.2.1 e;rw[(Yx a).2.2.1] at e;exact e
def Lp (f:Ob G 3 oP) (g:Hs G h L) (e:Q (.bool<|Kp x) h):IU 256 [I x] h Q:=by
 refine cW<|Gj<|eA (fun a=>?_) fun a=>?_;have d:=ah a;exact uI d.1 d.2<|aA<|Gr g f (wU d).2.2.2.1 e;rw[(Yx a).2.2.2] at e;exact e
def aH5 (e:Ob G 3 oP) (f:Hs G h L) (d:Ch x=true) (g:Q (.tuple ⟨[I 4,I 0]⟩) h):IU 199 [I x] h Q:=by
 have a:0<=x/\x<5:=by have:=cP d;omega
 refine cW<|Gj ?_;rw[show isS x=true from cL a];refine cX<|cS<|bW<|me e f ?_;rw[d];have:=(wU a).2.2.2.2.1;rw[bA1 d] at this;exact cX<|cS<|uI a.1 a.2<|aA<|Gr f e this g
def X7 {to:Int} (d:Ob G 3 oP) (e:Hs G h L) (a:0<=x/\x<5) (k:to=0\/to=1) (g:Q (.tuple ⟨[I<|kN x to,.bool<|Kp x,.bool<|qK x,I 0]⟩) h):IU 255 [I x,I to] h Q:=by
 refine cW<|Gj ?_;rw[show isS x=true from cL a];refine cX<|cS ?_;have i:=(wU a).2.2.2.2.2.1;have f:=(wU a).2.2.2.2.2.2;rcases k with rfl|rfl;exact bU<|aae<|bU<|aab<|bW<|uI a.1 a.2<|aA<|Gr e d (o:=x.toNat*8) (j:=7) f<|cC<|aab<|Lp d e<|Us d e g;exact bU<|aab<|uI a.1 a.2<|aA<|Gr e d (o:=x.toNat*8) (j:=7) f<|cC<|cI rfl<|bW<|uI a.1 a.2<|aA<|Gr e d (o:=x.toNat*8) (j:=6) i<|Lp d e<|Us d e g
def Yd {x:vU} {w:Bool} (f:Ob G 3 oP) (a:Hs G h L) (e:∀d,Hs G d L->Q (.bool<|rR x.st w) d):IU 195 [.agg ⟨x.enc⟩,.bool w] h Q:=by
 refine cW<|eT a ?_;intro p h a;cases w;exact cS<|aA<|aE a rfl<|aO5 f a<|e _ a.tail;exact gF<|aA<|aE a rfl<|me f a<|e _ a.tail
end Go.Proofs.Z.C
variable {a:EX} {c cp t:Nat} {cs:EU} {no:Int}
section
attribute [local irreducible] cE Br xE zJ Ba K1 sO D9 sF na mC tH yM yV yE pR Be dr bf dm Xy bu py qY vS oL nR Fs Qe rE Xn lz Hj Cl E5 pw A9 zV qJ kI fJ dX
namespace Go.Proofs.Z.C
open Go.Hm Go.Ct
variable {S:Nat->IC}
section
variable {G:Bg} {h:AH}
def dO (b o:Nat) (l:IC):HP:=A5 fun x:EX×Nat=>sp [aN b o [.slice x.1 l.length x.2],dY 5 371 x.1 x.2 (l.length,iP l)]
def Av {l:IC} (d:Hs G h (dO b o l::L)):∃a c,Hs G h (aN b o [.slice a l.length c]::dY 5 371 a c (l.length,iP l)::L):=by
 obtain⟨⟨a,c⟩,d⟩:=d.Fl;exact⟨a,c,d.fQ⟩
def oQ (b o:Nat) (l:IC) {e:IB} (g:Hs G h L) [m:eB (aN b o) L [.slice a n c] e] [i:eB (dY 5 371 a c) e (n,cs) L2] (f:n=l.length) (d:cs=iP l):Hs G h (dO b o l::L2):=by
 subst f;subst d;exact Hs.Cn (a,c)<|Hs.nY<|g.cH<|m.cH.trans<|i.cH.cons _
structure TgA where
 b:Nat
 o:Nat
 cap:Nat
def Ai (ways n b o cap:Nat):EU:=[I ways,.slice (some ⟨b,o,none⟩) n cap]
def mJ (G:Bg) (t ways n:Nat) (S:Nat->IC):HP:=A5 fun x:TgA=>
 sp [aN t 0<|Ai ways n x.b x.o x.cap,gJ G 1 372 (some ⟨x.b,x.o,none⟩) x.cap n x.b x.o,eP n fun i=>dO x.b (x.o+i*1)<|S i]
def iv {ways:Nat} (a:Hs G h (mJ G t ways n S::L)):∃b o cap,Hs G h (aN t 0 (Ai ways n b o cap)::gJ G 1 372 (some ⟨b,o,none⟩) cap n b o::eP n (fun i=>dO b (o+i*1)<|S i)::L):=by
 obtain⟨⟨b,o,cap⟩,a⟩:=a.Fl;exact⟨b,o,cap,a.fQ⟩
def I7 {ways:Nat} (a:Hs G h (aN t 0 (Ai ways n b o cap)::gJ G 1 372 (some ⟨b,o,none⟩) cap n b o::eP n (fun i=>dO b (o+i*1)<|S i)::L)):Hs G h (mJ G t ways n S::L):=
 Hs.Cn (A:=fun x:TgA=>sp [aN t 0<|Ai ways n x.b x.o x.cap,gJ G 1 372 (some ⟨x.b,x.o,none⟩) x.cap n x.b x.o,eP n fun i=>dO x.b (x.o+i*1)<|S i]) ⟨b,o,cap⟩ (Hs.nY (A:=[_,_,_]) a)
def mw (b o n:Nat) (S:Nat->IC) (l:Nat):HP:=sp<|((List.range n).erase l).map fun i=>dO b (o+i*1)<|S i
def Q3 {ways l:Nat} (d:l<n) (a:Hs G h (mJ G t ways n S::L)):∃b o cap,Hs G h (dO b (o+l*1) (S l)::aN t 0 (Ai ways n b o cap)::gJ G 1 372 (some ⟨b,o,none⟩) cap n b o::mw b o n S l::L):=by
 obtain⟨b,o,cap,a⟩:=iv a;exact⟨b,o,cap,(show Hs G h (dO b _ _::mw b o n S l::_) from((a.bF<|eP n fun i=>dO b (o+i*1)<|S i).oI l d)).to⟩
theorem zY {e f:IB} (t ways n:Nat) (S:Nat->IC) (l:Nat) (x:IC) (b o cap:Nat) (k:l<n) (a:Hs G h L) [u:fU (dO b (o+l*1) x) L e] [v:fU (aN t 0<|Ai ways n b o cap) e L2]
  [w:fU (gJ G 1 372 (some ⟨b,o,none⟩) cap n b o) L2 f] [y:fU (mw b o n S l) f d]:Hs G h (mJ G t ways n (bD S l x)::d):=by
 have a:Hs G h (dO b (o+l*1) x::mw b o n S l::aN t 0 (Ai ways n b o cap)::gJ G 1 372 (some ⟨b,o,none⟩) cap n b o::d):=
  (a.cH<|u.cH.trans<|(v.cH.trans<|(w.cH.trans<|y.cH.cons _).cons _).cons _).to
 have g:(fun i=>dO b (o+i*1)<|bD S l x i) l=dO b (o+l*1) x:=by simp only[dJ]
 rw[<-g] at a
 unfold mw at a
 have a:=a.qN (fun i=>dO b (o+i*1)<|S i) (fun i=>dO b (o+i*1)<|bD S l x i) k fun j _ q=>by grind[bO]
 exact I7 (b:=b) (o:=o) (cap:=cap) a.to
theorem aLg {α:Type} {f:Nat->α}:bD f i (f i)=f:=by
 grind[bD]
theorem aC9 {a2 o2:Nat} {l:IC} (hb:l.length<=4):∀(r i:Nat) (h:AH) (L:IB),i+r=l.length->ix no (l.take i)=none->Hs G h (aN p 0 [I no]::dY 5 371 (some ⟨a2,o2,none⟩) cp (l.length,iP l)::L)->
  (∀D,Hs G D (aN p 0 [I no]::dY 5 371 (some ⟨a2,o2,none⟩) cp (l.length,iP l)::L)->Q (.tuple ⟨[pt b o 0,I<|ixI no l,I 0]⟩) D)->
  Dd 234 3 [] Q [pt b o 0,I<|-1,.func (.func 254) #[] #[IV p],.slice (some ⟨a2,o2,none⟩) l.length cp,I l.length,I i] h:=by
 have B:∀(i:Nat) (l:IC) (t:Th),ix no (l.take i)=none->l[i]?=some t->ix no (l.take<|i+1)=if t.1=no then some i else none:=by
  intro i;induction i with
  |zero=>
   intro l t _ v;cases l with
   |nil=>cases v
   |cons a l=>cases v;simp[ix]
  |succ i z=>
   intro l t A v;cases l with
   |nil=>cases v
   |cons a l=>
    simp only[BK,ix] at A ⊢;by_cases g:a.1=no;grind;rw[bA0 g] at A ⊢;rw[z l t (by simpa using A) FB];grind
 have x:∀(l:IC) (i j:Nat),ix no (l.take i)=some j->ix no l=some j:=by
  intro l;induction l with
  |nil=>grind
  |cons a l z=>
   intro i j h;cases i with
   |zero=>simp[ix] at h
   |succ i=>
    simp only[BK,ix] at h ⊢;by_cases g:a.1=no;grind;rw[bA0 g] at h ⊢;cases hx:ix no (l.take i) with
    |none=>grind
    |some k=>grind
 intro r
 induction r with
 |zero=>
  intro i h L F y d u
  rw[e6 FA] at y
  simp only[ixI,y] at u
  exact bW (bE<|aab<|u _ d)
 |succ r z=>
  intro i h L F y d u
  have w:i<l.length:=FA
  obtain⟨t,v⟩:∃t,l[i]?=some t:=⟨_,bj w⟩
  refine bW<|bE<|aae<|bW<|fD w ?_
  obtain⟨J,K,E,f⟩:=(d.bF<|dY 5 371 (some ⟨a2,o2,none⟩) cp (l.length,iP l)).jV FA
  cases E
  refine R6 f FC (l:=thE t) (by simp_all[BE,lu]) rfl ?_
  have f:=f.rQ (I3 l)<|D2 l
  refine cK f ?_
  intro q h d
  refine ax d fun h d=>bB d FC (l:=thE t) rfl rfl ?_
  refine qB FD<|cW<|eT d ?_
  intro q2 h d
  have e:=B i l t y v
  refine aA<|aE d rfl<|aE d rfl<|cC<|bG (fun g=>?_) fun g=>?_
  .rw[bA1 g] at e;have:=x _ _ _ e;simp only[ixI,this] at u;exact bW<|u _ d.to
  .rw[bA0 g] at e;exact bW<|aad<|z (i+1) h L FA e d.to u
def jd (e:no<0) (a:Hs G h L) (f:∀d,Hs G d L->Q (.tuple ⟨[.pointer none,I 0,I 10]⟩) d):IU 234 [IV t,I no] h Q:=by
 exact cW<|eT a fun p h a=>dM<|cS<|bW<|aE a rfl<|bE<|cI e<|f _ a.tail
theorem qD (a:0<n):cT n no<n:=by
 unfold cT;simp_all[BW,Int,BD]
theorem Bq {ways:Nat} {l:IC} (z:0<n) (w:0<=no) (hb:l.length<=4) (e:Hs G h L) [m:eB (aN t 0) L (Ai ways n b o cap) L'] [A:eB (dO b<|o+cT n no*1) L' l M]
  (q:∀i,Hs G i (aN t 0 (Ai ways n b o cap)::dO b (o+cT n no*1) l::M)->Q (.tuple ⟨[pt b (o+cT n no*1) 0,I<|ixI no l,I 0]⟩) i):IU 234 [IV t,I no] h Q:=by
 have e:Hs G h _:=e.cH<|m.cH.trans<|A.cH.cons _
 obtain⟨a,c,e⟩:=Av e.pS
 refine cW<|eT e ?_
 intro p h e
 refine dM<|cS<|bW<|aE e rfl<|bE<|aab<|bW<|bI e ?_
 intro r h e
 have g:Hs G h _:=e.bF<|aN t 0<|Ai ways n b o cap
 have v:no % (n:Int)=((cT n no:Nat):Int):=by
  unfold cT;have:=BD no (show(n:Int)≠0 by omega);omega
 refine aC<|aA<|aE g rfl<|aE g rfl<|aC<|aA<|aE g rfl<|dB<|eu w FA ?_
 rw[v]
 refine fD (qD z)<|aC ?_
 have d:Hs G h _:=g.bF<|aN b (o+cT n no*1) [.slice a l.length c]
 refine aE d rfl<|dB ?_
 by_cases y:l.length=0
 .have k:l=[]:=FB;subst k;exact bW<|bE<|bC FF<|q _<|(oQ b (o+cT n no*1) [] d rfl rfl).to
 .have f:=d.bF<|dY 5 371 a c (l.length,iP l);obtain⟨u,B,x,_⟩:=f.uZ FA;subst x;refine aC9 (no:=no) hb l.length 0 h (aN t 0 (Ai ways n b o cap)::aN b (o+cT n no*1) [.slice (some ⟨u,B,none⟩) l.length c]::M) FA rfl d.to ?_;intro i e;exact q _<|(oQ b (o+cT n no*1) l e rfl rfl).to
end
section
def G3:bD S (cT n no) (S<|cT n no)=S:=aLg
def aQq {l:IC} (h:0<l.length):(iP l)[0*5+(0+0)]?=some (I (l[0]).1):=by
 cases l with
 |nil=>simp at h
 |cons y l=>rfl
theorem x5 {l:IC} {x:vU} (h:l[i]?=some (no,x)):((iP l).drop<|i*5+1).take 4=x.enc:=by
 have:=lu h;rw[<-sl];have a:(((iP l).drop<|i*5).take 5).drop 1=x.enc:=by rw[this];rfl
 grind[List.drop_take]
variable {G:Bg} {h:AH}
def Nd {ways:Nat} (g:0<n) (hb:∀i,(S i).length<=4) (d:Hs G h L) [m:eB (mJ G t ways n) L S L']
  (f:∀q,Hs G q (mJ G t ways n S::L')->Q (.tuple ⟨[.agg ⟨(bJ n S no).1.enc⟩,I (bJ n S no).2]⟩) q):IU 194 [IV t,I no] h Q:=by
 have d:=m.of d
 refine cW<|cK d ?_
 intro p h d
 unfold bJ at f
 by_cases k:no<0
 .rw[bA1 k] at f;refine jd k d fun h d=>aQ rfl<|aQ rfl<|aQ rfl<|bU<|aae<|bB d FC (l:=vU.zero.enc) rfl rfl ?_;exact ax d fun h d=>bB d FC (l:=vU.zero.enc) rfl rfl<|f _ d.tail
 .rw[bA0 k] at f;obtain⟨b,o,cap,d⟩:=Q3 (qD (no:=no) g)<|d.bF<|mJ G t ways n S;refine Bq g FA (hb _) d fun h d=>aQ rfl<|aQ rfl<|aQ rfl<|bU<|aab<|bW ?_;cases hx:ix no (S<|cT n no) with
  |none=>
   rw[(H3 hx).1] at f
   simp only[ixI,hx]
   refine bE<|aae<|bB d FC (l:=vU.zero.enc) rfl rfl ?_
   refine ax d fun h d=>bB d FC (l:=vU.zero.enc) rfl rfl<|f _ ?_
   have:=zY t ways n S (cT n no) (S<|cT n no) b o cap (qD g) d
   rw[G3] at this
   exact this.to
  |some i=>
   obtain⟨x,u,v,A,w⟩:=Em hx
   rw[v] at f
   simp only[ixI,hx]
   obtain⟨a,c,d⟩:=Av<|d.bF<|dO b (o+cT n no*1)<|S<|cT n no
   obtain⟨z,B,y,e⟩:=(d.bF<|dY 5 371 a c ((S<|cT n no).length,iP<|S<|cT n no)).jV FA
   subst y
   refine bE<|aab<|aC<|aE e rfl<|fD w<|aA<|R6 e FC (l:=x.enc) (by rw[AB];exact x5 u) rfl ?_
   have e:=e.rQ (I3 _)<|D2 _
   refine ax e fun h d=>bB d FC (l:=x.enc) rfl rfl<|f _ ?_
   have d:=oQ b (o+cT n no*1) _ d rfl rfl
   have:=zY t ways n S (cT n no) (S<|cT n no) b o cap (qD g) d
   rw[G3] at this
   exact this.to
def aAz {ways:Nat} (F:0<ways) (k:0<n) (A:0<=no) (hb:∀i,(S i).length<=4) (d:Hs G h L) [m:eB (mJ G t ways n) L S L']
  (f:∀q,Hs G q (mJ G t ways n S::L')->Q (match kU n ways S no with|some v=> .tuple ⟨[I v.1,.bool true,I 0]⟩|none=> .tuple ⟨[I 0,.bool false,I 0]⟩) q):IU 237 [IV t,I no] h Q:=by
 have d:=m.of d
 unfold kU at f
 refine cW ?_
 obtain⟨b,o,cap,d⟩:=Q3 (qD (no:=no) k)<|d.bF<|mJ G t ways n S
 refine Bq k FA (hb _) d fun h d=>aQ rfl<|aQ rfl<|aQ rfl<|bU<|aab<|bW<|bI d ?_
 intro r h d
 have vL:∀{h:AH},Hs G h (xr r (13,[])::aN t 0 (Ai ways n b o cap)::dO b (o+cT n no*1) (S<|cT n no)::gJ G 1 372 (some ⟨b,o,none⟩) cap n b o::mw b o n S (cT n no)::L')->Hs G h (mJ G t ways n S::L'):=fun d=>by
  have:=zY t ways n S (cT n no) (S<|cT n no) b o cap (qD k) d;rw[G3] at this;exact this.to
 cases hx:ix no (S<|cT n no) with
 |some i=>
  obtain⟨x,B,u,D,E⟩:=Em hx
  rw[u] at f
  simp only[ixI,hx]
  exact fX (aae<|f _<|vL d)
 |none=>
  rw[(H3 hx).1] at f
  simp only[ixI,hx]
  obtain⟨a,c,d⟩:=Av<|d.bF<|dO b (o+cT n no*1)<|S<|cT n no
  refine fX<|aab<|aC<|aE d rfl<|dB<|aC<|aA<|aE d rfl<|bE<|bG (fun y=>?_) fun y=>?_
  .simp only[bA1<|show(S<|cT n no).length<ways by omega] at f;exact f _<|vL<|(oQ b (o+cT n no*1) _ d rfl rfl).to
  .have g:0<(S<|cT n no).length:=FA
   simp only[bA0<|show ¬(S<|cT n no).length<ways by omega,bj g] at f
   obtain⟨z,J,w,e⟩:=(d.bF<|dY 5 371 a c ((S _).length,iP<|S<|cT n no)).jV g
   subst w
   refine aC<|aE e rfl<|fD g<|aA<|aQ4 e ?_<|f _ ?_
   .exact aQq g
   .have e:=e.rQ (I3 _)<|D2 _;exact vL<|(oQ b (o+cT n no*1) _ e rfl rfl).to
theorem Wi {l:IC} (w:i<l.length) (hb:l.length<=4) (d:Hs G h L) [m:eB (dY 5 371 a c) L (l.length,iP l) L']
  (x:∀g,Hs G g (dY 5 371 a c (l.length - 1,iP<|l.take i++l.drop (i+1))::L')->Q (.slice a (l.length - 1) c) g):IU 241 [.slice a l.length c,I i,I<|(i:Int)+1] h Q:=by
 have d:=m.of d
 have e:l.length<=c:=by
  obtain⟨r,A,⟨_,_,y⟩,_⟩:=d.fst;rcases y with⟨z,_⟩|⟨z,_⟩|⟨e,_⟩;grind;grind;exact e
 obtain⟨b,o,u,_⟩:=d.uZ FA
 refine cW<|dB<|qy (v:= .slice (some ⟨b,o+i*5,none⟩) (i+1 - i) (l.length - i)) ?_ ?_
 .subst u;have k:sW (some<|I l.length) c c=some l.length:=FQ
  have q:sW (some<|I<|(i:Int)+1) l.length l.length=some (i+1):=by simp only[sW];rw[aac];congr 1
  have t:sW (some<|I i) 0 (i+1)=some i:=FQ
  have f:¬l.length=i:=FA
  simp only[Fs,k,q,t,AZ,sr,dn,aO,dd,f,fA]
  grind
 refine cC<|aab<|bW<|dB<|bI d ?_
 intro r h d
 refine aPo (i:=i) FC rfl rfl w d ?_
 intro h d
 refine x _ ?_
 rw[aBr,<-tj,<-Uc]
 exact d.to
theorem gu {l:IC} (h:ix no l=some i):zI no l=l.take i++l.drop (i+1):=by grind[Em]
theorem kh {l:IC} (h:ix no l=some i):l.length - 1=(zI no l).length:=by
 grind[Em,Qy]
theorem Z3 {ways:Nat} (k:0<n) (hb:∀i,(S i).length<=4) (d:Hs G h L) [m:eB (mJ G t ways n) L S L']
  (f:∀q,Hs G q (mJ G t ways n (jN n S no)::L')->Q (.tuple ⟨[.agg ⟨(bJ n S no).1.enc⟩,I (bJ n S no).2]⟩) q):IU 238 [IV t,I no] h Q:=by
 have d:=m.of d
 refine cW<|cK d ?_
 intro p h d
 unfold bJ jN at f
 by_cases g:no<0
 .rw[bA1 g,bA1 g] at f;refine jd g d fun h d=>aQ rfl<|aQ rfl<|aQ rfl<|bU<|aae<|bB d FC (l:=vU.zero.enc) rfl rfl ?_;exact ax d fun h d=>bB d FC (l:=vU.zero.enc) rfl rfl<|f _ d.tail
 .rw[bA0 g,bA0 g] at f;obtain⟨b,o,cap,d⟩:=Q3 (qD (no:=no) k)<|d.bF<|mJ G t ways n S;refine Bq k FA (hb _) d fun h d=>aQ rfl<|aQ rfl<|aQ rfl<|bU<|aab<|bW ?_;cases hx:ix no (S<|cT n no) with
  |none=>
   rw[(H3 hx).1,(H3 hx).2,G3] at f
   simp only[ixI,hx]
   refine bE<|aae<|bB d FC (l:=vU.zero.enc) rfl rfl ?_
   refine ax d fun h d=>bB d FC (l:=vU.zero.enc) rfl rfl<|f _ ?_
   have:=zY t ways n S (cT n no) (S<|cT n no) b o cap (qD k) d
   rw[G3] at this
   exact this.to
  |some i=>
   obtain⟨x,v,w,A,u⟩:=Em hx
   rw[w] at f
   simp only[ixI,hx]
   obtain⟨a,c,d⟩:=Av<|d.bF<|dO b (o+cT n no*1)<|S<|cT n no
   obtain⟨z,B,y,e⟩:=(d.bF<|dY 5 371 a c ((S<|cT n no).length,iP<|S<|cT n no)).jV FA
   subst y
   refine bE<|aab<|bW<|aC<|aE e rfl<|fD u<|aA<|R6 e FC (l:=x.enc) (by rw[AB];exact x5 v) rfl ?_
   have e:=e.rQ (I3 _)<|D2 _
   refine ax e fun h d=>aC<|aE d rfl<|bX FB<|Wi u (hb _) d fun h d=>?_
   refine aC<|ay d fun h d=>bB d FC (l:=x.enc) rfl rfl ?_
   refine ax d fun h d=>bB d FC (l:=x.enc) rfl rfl<|f _ ?_
   rw[kh hx,<-gu hx] at d
   exact(zY t ways n S (cT n no) (zI no<|S<|cT n no) b o cap (qD k)<|oQ b (o+cT n no*1) _ d rfl rfl).to
end
variable {G:Bg} {h:AH}
def aW6 {t ways cap:Nat} {x:vU} {l:IC} (hb:l.length<=4)
  (d:Hs G h (aN p 0 x.enc::aN b (o+cT n no*1) [.slice a l.length c]::dY 5 371 a c (l.length,iP l)::L))
  (g:∀e,Hs G e (dO b (o+cT n no*1) (l++[(no,x)])::L)->Q (I 0) e):Dd 200 4 [] Q [I no,IV p,pt b (o+cT n no*1) 0] h:=by
 refine bW<|bI d ?_
 intro r h d
 refine aC<|aE d rfl<|bB d FC (l:=x.enc) rfl rfl<|aZ (c:=I no::x.enc) rfl<|aZ (c:=thE (no,x)) rfl ?_
 refine oS d rfl rfl rfl rfl rfl fun k h d=>tG d FA ?_
 intro i q h d
 refine aC<|ay d fun h d=>cR (show uG _ _=true by simp[uG,pt])<|g _ ?_
 have f:iP l++thE (no,x)=iP (l++[(no,x)]):=by simp[iP]
 have d:=oQ b (o+cT n no*1) _ d FF f
 exact d.to
theorem Jz {ways:Nat} {x:vU} (D:0<=no) (k:0<n) (hb:∀i,(S i).length<=4) (d:Hs G h L) [m:eB (mJ G t ways n) L S L']
  (f:∀w,Hs G w (mJ G t ways n (pD n ways S no x).1::L')->Q (I (pD n ways S no x).2) w):IU 200 [IV t,I no,.agg ⟨x.enc⟩] h Q:=by
 have d:=m.of d
 refine cW<|eT d ?_
 intro p h d
 obtain⟨b,o,cap,d⟩:=Q3 (qD (no:=no) k)<|d.bF<|mJ G t ways n S
 refine Bq k FA (hb _) d fun h d=>aQ rfl<|aQ rfl<|aQ rfl<|bU<|aab ?_
 obtain⟨a,c,d⟩:=Av<|d.bF<|dO b (o+cT n no*1)<|S<|cT n no
 refine bW ?_
 have sY:∀{h:AH} {M:IB},Hs G h (aN t 0 (Ai ways n b o cap)::aN p 0 x.enc::aN b (o+cT n no*1) [.slice a (zI no<|S<|cT n no).length c]::dY 5 371 a c ((zI no<|S<|cT n no).length,iP<|zI no<|S<|cT n no)::
   gJ G 1 372 (some ⟨b,o,none⟩) cap n b o::mw b o n S (cT n no)::L')->
   (cE (tH<|pt b (o+cT n no*1) 0) fun B=>cE (xE h B) fun v9=>cE (pR v9) fun v10=>cE (tH<|IV t) fun v11=>cE (mC 0 v11) fun q=>cE (xE h q) fun u=>cE (Be .geq v10 u) fun v=>
    Br v (Q (I 11) h) (Dd 200 4 [] Q [I no,IV p,pt b (o+cT n no*1) 0] h)):=by
  intro h M d
  have g:(zI no<|S<|cT n no).length<=4:=by rw[Qy];have:=hb<|cT n no;split<;>omega
  unfold pD at f
  refine aC<|aE d rfl<|dB<|aC<|aA<|aE d rfl<|fX<|bG (fun A=>?_) fun A=>?_
  .rw[aac] at f;refine f _ ?_;exact(zY t ways n S (cT n no) (zI no<|S<|cT n no) b o cap (qD k)<|oQ b (o+cT n no*1) _ d rfl rfl).to
  .rw[aaa] at f;exact aW6 (t:=t) (ways:=ways) (cap:=cap) g (show Hs G h (aN p 0 x.enc::aN b _ _::dY 5 371 a c ((zI no _).length,iP _)::aN t 0 (Ai ways n b o cap)::
    gJ G 1 372 (some ⟨b,o,none⟩) cap n b o::mw b o n S (cT n no)::L') from d.to) fun h d=>f _ (zY t ways n S (cT n no) (zI no (S<|cT n no)++[(no,x)]) b o cap (qD k) d).to
 cases hx:ix no (S<|cT n no) with
 |none=>
  have e:=(H3 hx).2
  simp only[ixI,hx]
  refine fX<|aab<|bW<|bI d fun r h d=>sY (M:=[]) ?_
  rw[e]
  exact d.to
 |some i=>
  obtain⟨y,E,F,J,z⟩:=Em hx
  simp only[ixI,hx]
  refine fX<|aae<|bW ?_
  refine aC<|aE d rfl<|bX FB<|Wi z (hb _) d fun h d=>(aC<|ay d ?_)
  intro h d
  refine bI d fun r h d=>sY (M:=[]) ?_
  rw[kh hx,<-gu hx] at d
  have d:=d.sg (b:=b) (o:=o+cT n no*1) (c:=[.slice a _ c]) rfl
  exact d.to
def J8 {ways:Nat} (q:0<=no) (k:0<n) (hb:∀i,(S i).length<=4) (a:Hs G h L) [m:eB (mJ G t ways n) L S L']
  (d:∀g,Hs G g (mJ G t ways n (Ge n ways S no)::L')->Q (.tuple ⟨[.agg ⟨(bJ n S no).1.enc⟩,I<|aIa n ways S no]⟩) g):IU 198 [IV t,I no] h Q:=by
 have a:=m.of a
 refine cW<|cK a fun p h a=>Z3 (ways:=ways) k hb a fun h a=>aQ rfl<|aQ rfl<|ax a ?_
 intro h a
 unfold Ge aIa at d
 refine bU<|bG (fun f=>?_) fun f=>?_
 .rw[bA0 f,bA0 f] at d;exact bB a FC (l:=(bJ n S no).1.enc) rfl rfl<|ax a fun h a=>bB a FC (l:=(bJ n S no).1.enc) rfl rfl<|d _ a.tail
 .rw[aac,aac] at d;apply bI a;intro r h a;refine bB a FC (l:=(bJ n S no).1.enc) rfl rfl (bB a FC (l:=(bJ n S no).1.enc) rfl rfl<|Jz (ways:=ways) q k (aK2 hb) a fun h a=>(ax a fun u e=>cR ?_ ?_))
  .exact bB a FC (l:=(bJ n S no).1.enc) rfl rfl (uW<|by simp[vU.enc,uG])
  .exact an p e (l:=(bJ n S no).1.enc) rfl rfl (d _ e.to)
end Go.Proofs.Z.C
end
variable {q:Nat}
namespace Go.Proofs.Z.C
open Go.Hm Go.Ct
def aTe (d:a=none->k (.bool true)) (e:a≠none->k (.bool false)):cE (bf .eql (.slice a n c)<|.slice none 0 0) k:=by
 cases a with
 |none=>exact⟨_,rfl,d rfl⟩
 |some a=>exact⟨_,rfl,e FF⟩
attribute [local irreducible] cE Br xE zJ Ba K1 sO D9 sF na mC tH yM yV yE pR Be dr bf dm Xy bu py qY vS oL nR Fs Qe rE Xn lz Hj Cl E5 pw A9 zV qJ kI fJ dX
variable {G:Bg} {h:AH}
def zf (d:Hs G h (eP n (fun i=>aN b (o+i*1) [.slice none 0 0])::L)):Hs G h (eP n (fun i=>dO b (o+i*1) [])::L):=
 Hs.S2 (g:=fun i=>dO b (o+i*1) []) n _ (fun i _ h L d=>(oQ b (o+i*1) [] (a:=none) (c:=0) (n:=0) (cs:=[]) (jO (W:=5) (e:=371) d).pS rfl rfl)) d
def j3 {s:Int} (q:1<=s/\s<=8) (t:1<=w/\w<=4) (d:Hs G h L) (k:∀p f,Hs G f (mJ G p w.toNat s.toNat (fun _=>[])::L)->Q (.tuple ⟨[IV p,I 0]⟩) f):IU 72 [I s,I w] h Q:=by
 refine cW<|bE<|aab<|oT<|aab<|bE<|aab<|oT<|aab<|Yi FA FA FA ?_;dsimp only;refine dV d ?_ rfl ?_ ?_;rw[lB,xO (W:=1) fun _=>rfl];rw[lB];exact zT (fun _=>rfl) _;intro a h d;obtain⟨b,o,g,d⟩:=Hs.T3 (W:=1) rfl FA d;cases g;have e:w=(w.toNat:Int):=FA
 refine aZ (c:=Ai w.toNat s.toNat b o s.toNat) (by unfold Ai;rw[<-e];rfl)<|eT d fun p h d=>k p h ?_;have d:=zf<|d.bF<|eP s.toNat fun i=>aN b (o+i*1) _;exact I7 (b:=b) (o:=o) (cap:=s.toNat) d.to
theorem aKl {l:IC} (hb:l.length<=4) (d:Hs G h L) [m:eB (dY 5 371 a c) L (l.length,iP l) L']
  (k:∀e f i,Hs G i (dY 5 371 e f (l.length,iP l)::dY 5 371 a c (l.length,iP l)::L')->Q (.slice e l.length f) i):IU 243 [.slice a l.length c] h Q:=by
 have d:=m.of d
 refine cW<|aTe (fun g=>gF ?_) fun _=>cS<|aZ rfl ?_
 .subst g;have q:l=[]:=by
   cases l with
   |nil=>rfl
   |cons y l=>obtain⟨b,o,g,_⟩:=d.uZ FF;cases g
  subst q
  exact k none 0 h<|jO d
 .refine dV d rfl rfl rfl fun t h d=>tG d FA ?_;intro e f h d;have:=k e f h (by simpa using d);show Q _ _;grind
variable {S:Nat->IC}
theorem aEb {p b2 o2 cap2 ways:Nat} (E:n<=8) (hb:∀i,(S i).length<=4)
  (x:∀t,Hs G t (eP n (fun i=>dO b (o+i*1)<|S i)::eP n (fun i=>dO b2 (o2+i*1)<|S i)::aN q 0 (Ai ways n b2 o2 cap2)::L)->Q (IV q) t):∀(r i:Nat) (h:AH) (M:IB),i+r=n->
  Hs G h (eP n (fun i=>dO b (o+i*1)<|S i)::eP n (fun j=>dO b2 (o2+j*1)<|if j<i then S j else [])::aN q 0 (Ai ways n b2 o2 cap2)::L)->
  Dd 203 2 [] Q [IV q,.slice (some ⟨b,o,none⟩) n cap,I n,I i] h:=by
 intro r
 induction r with
 |zero=>
  intro i h M w k
  have:i=n:=FA
  subst this
  exact bW (bE<|aab<|x _<|(wI (fun j D=>FB) k.pS).pS)
 |succ r z=>
  intro i h M w k
  have e:i<n:=FA
  refine bW<|bE<|aae<|bW<|fD e ?_
  have g:=k.oI i e
  obtain⟨a,c,g⟩:=Av g
  refine aE g rfl<|bI g fun F h k=>aC<|aA<|aE k rfl<|aKl (hb i) k fun A B h k=>?_
  have f:=(k.bF<|eP n fun j=>dO b2 (o2+j*1)<|if j<i then S j else []).oI i e
  simp only[DE,dd] at f
  obtain⟨a3,c3,f⟩:=Av f
  refine fD e<|ay f ?_
  intro v d
  refine cR dG<|cR (aC dG)<|cR (aA dG)<|cR (aE f rfl Ls)<|cR jF<|aad<|z (i+1) v [] FA ?_
  have d:=oQ b2 (o2+i*1) _ d rfl rfl
  have u:dO b2 (o2+i*1) (S i)=(fun j=>dO b2 (o2+j*1)<|if j<i+1 then S j else []) i:=GV
  rw[u] at d
  have d:=d.qN (fun j=>dO b2 (o2+j*1)<|if j<i then S j else []) (fun j=>dO b2 (o2+j*1)<|if j<i+1 then S j else []) e fun j _ y=>by
   grind
  have d:=oQ b (o+i*1) _ d rfl rfl
  have d:=d.qN _ (fun j=>dO b (o+j*1)<|S j) e fun _ _ _=>rfl
  exact d.to
def aO4 {ways:Nat} (g:0<n) (w:n<=8) (hb:∀i,(S i).length<=4) (d:Hs G h L) [m:eB (mJ G t ways n) L S L']
  (v:∀q k,Hs G k (mJ G q ways n S::mJ G t ways n S::L')->Q (IV q) k):IU 203 [IV t] h Q:=by
 obtain⟨b,o,cap,d⟩:=iv<|m.of d
 refine cW<|dM<|cS<|bW<|bI d fun x h d=>aC<|aA<|aE d rfl<|aC<|aA<|aE d rfl<|dB<|aHk FA FA ?_
 dsimp only
 refine oS d rfl rfl ?_ rfl ?_ ?_
 .rw[lB,xO (W:=1) fun _=>rfl]
 .rw[lB];exact zT (fun _=>rfl) _
 intro a h d
 obtain⟨e,f,u,d⟩:=Hs.T3 (W:=1) rfl g d
 cases u
 refine aZ (c:=Ai ways n e f n) rfl ?_
 refine D6 d rfl rfl fun q h d=>aC<|aA<|aE d rfl<|dB ?_
 have d:=zf<|d.bF<|eP n fun i=>aN e (f+i*1) _
 refine aEb (G:=G) (p:=0) (ways:=ways) (b2:=e) (o2:=f) (cap2:=n) (L:=aN t 0 (Ai ways n b o cap)::gJ G 1 372 (some ⟨b,o,none⟩) cap n b o::gJ G 1 372 (some ⟨e,f,none⟩) n n e f::L') w hb ?_ n 0 h [] FA ?_
 .intro h d;refine v q h ?_;have d:Hs G h (aN q 0 (Ai ways n e f n)::gJ G 1 372 (some ⟨e,f,none⟩) n n e f::eP n (fun i=>dO e (f+i*1)<|S i)::aN t 0 (Ai ways n b o cap)::gJ G 1 372 (some ⟨b,o,none⟩) cap n b o::eP n (fun i=>dO b (o+i*1)<|S i)::L'):=d.to;have d:=I7 d;have d:Hs G h (aN t 0 (Ai ways n b o cap)::gJ G 1 372 (some ⟨b,o,none⟩) cap n b o::eP n (fun i=>dO b (o+i*1)<|S i)::mJ G q ways n S::L'):=d.to;exact(I7 d).pS
 .simp only[Nat.not_lt_zero,dd];exact d.to
end Go.Proofs.Z.C
variable {v:Int} {f:FuncId}
section
attribute [local irreducible] cE Br xE zJ Ba K1 sO D9 sF na mC tH yM yV yE pR Be dr bf dm Xy bu py qY vS oL nR Fs Qe rE Xn lz Hj Cl E5 pw A9 zV qJ kI fJ dX
namespace Go.Proofs.Z.C
open Go.Hm Go.Ct
variable {C:bQ} {s:jR} {S:Nat->IC}
section
def vA (t:Nat) (C:bQ) (core:Int) (s:jR):EU:=IV t::(C.enc++[I core,I s.al,.bool s.aw,.bool s.pO,I s.gl,I s.gc.st,I s.gc.w,I s.gc.d.1,I s.gc.d.2,.bool s.uH])
variable {G:Bg} {h:AH}
def lR (G:Bg) (c:Nat) (C:bQ) (core:Int) (s:jR):HP:=A5 fun t:Nat=>sp [aN c 0<|vA t C core s,mJ G t C.ways.toNat C.aY.toNat s.S]
def rG {core:Int} (a:Hs G h (lR G c C core s::L)):∃t,Hs G h (aN c 0 (vA t C core s)::mJ G t C.ways.toNat C.aY.toNat s.S::L):=by
 obtain⟨t,a⟩:=a.Fl;exact⟨t,a.fQ⟩
def eC (c t:Nat) (C:bQ) (core:Int) (s:jR) {a:IB} (f:Hs G h L) [m:eB (aN c 0) L cs a] [g:eB (mJ G t C.ways.toNat C.aY.toNat) a S L2] (d:cs=vA t C core s) (e:S=s.S):Hs G h (lR G c C core s::L2):=by
 subst d;subst e;exact Hs.Cn t<|Hs.nY<|f.cH<|m.cH.trans<|g.cH.cons _
variable {core:Int}
def B6 (hC:C.Ok) {l:Int} (g:Ob G 0 iF) (a:Hs G h L) [m:eB (lR G c C core) L s L'] (d:∀e,Hs G e (lR G c C core s::L')->Q (.bool<|vH C l) e):IU 205 [IV c,I l] h Q:=by
 obtain⟨t,a⟩:=rG<|m.of a;refine cW<|fX<|bG (fun f=>?_) fun f=>?_;refine aC<|aA<|bB a FC (l:=C.enc) rfl rfl<|uU hC g a fun h a=>bE ?_;show Q _ _;rw[show decide _=vH C l from AW.2 FA];exact d _<|eC c t C core s a rfl rfl;rw[show vH C l=false from cM FA] at d;exact d _<|eC c t C core s a rfl rfl
def Zn (hC:C.Ok) (hb:Bd s) {l i:Int} {w:Bool} (k:Ob G 3 oP) (a:Hs G h L) [m:eB (lR G c C core) L s L'] (d:∀g,Hs G g (lR G c C core s::L')->Q (.bool<|pK C.aY.toNat s.S l i w) g):IU 137 [IV c,I l,I i,.bool w] h Q:=by
 obtain⟨t,a⟩:=rG<|m.of a;refine cW<|dM<|cS<|bW<|aC<|aA<|aE a rfl ?_;refine Nd (ways:=C.ways.toNat) (sK hC).1 hb a fun h a=>aQ rfl<|aQ rfl<|cK a fun p h a=>ax a ?_;intro h a;unfold pK at d;refine cC<|bG (fun e=>aA<|aE a rfl<|cC<|bG (fun f=>?_) fun f=>?_) fun e=>?_;rw[cL e,cL f,AK,AK] at d;exact bB a FC (l:=(bJ C.aY.toNat s.S l).1.enc) rfl rfl<|Yd k a fun h a=>d _ (eC c t C core s a rfl rfl).to;rw[cM f,p9,sr] at d;exact d _ (eC c t C core s a rfl rfl).to;rw[cM e,sr,sr] at d;exact d _ (eC c t C core s a rfl rfl).to
theorem jb (hC:C.Ok) (hb:Bd s) {l at' q:Int} {w:Bool} (t:Ob G 0 iF) (u:Ob G 3 oP) (d:Hs G h L) [m:eB (lR G c C core) L s L'] (a:∀i,Hs G i (lR G c C core s::L')->Q (I<|tD C s.S l at' q w) i):IU 197 [IV c,I l,I at',I q,.bool w] h Q:=by
 have d:=m.of d;unfold tD at a;refine cW<|dM<|cS<|bW<|B6 (core:=core) hC t d fun h d=>cX<|fM<|eA (fun g=>?_) fun g=>?_;rw[g] at a;simp only[Bool.true_eq_false,dd] at a;refine bE<|bG (fun e=>?_) fun e=>fX<|bG (fun f=>?_) fun f=>bW<|Zn (core:=core) hC hb u d fun h d=>cX<|fM<|eA (fun k=>?_) fun k=>?_;rw[bA1 e] at a;exact a _ d;rw[bA0 e,bA1 f] at a;exact a _ d;rw[bA0 e,bA0 f,bA0 FB] at a;exact a _ d;rw[bA0 e,bA0 f,bA1 k] at a;exact a _ d;rw[bA1 g] at a;exact a _ d
end
variable {ns:IA}
section
variable {G:Bg} {h:AH} {core:Int}
def gz {s':jR} {a:IB} (d:cs=vA t C core s') (e:S=s'.S) (f:Hs G h L) [m:eB (aN c 0) L cs a] [g:eB (mJ G t C.ways.toNat C.aY.toNat) a S L2]:Hs G h (lR G c C core s'::L2):=eC c t C core s' f d e
def zx {l:Int} {wr:Bool} (J:ns.length<=1) (d:Hs G h (aN c 0 (vA t C core (tX core s l w wr ns).1)::mJ G t C.ways.toNat C.aY.toNat s.S::dY 9 185 a cp (ns.length,iL ns)::L))
  (E:∀e f A,Hs G A (dY 9 185 e f ((tX core s l w wr ns).2.1.length,iL (tX core s l w wr ns).2.1)::lR G c C core (tX core s l w wr ns).1::L)->Q (.tuple ⟨[.slice e (tX core s l w wr ns).2.1.length f,I 0]⟩) A):
  Br (.bool wr) (Dd 196 10 [] Q [IV c,I l,I w,.slice a ns.length cp] h) (cE (tH<|IV c) fun v35=>cE (mC 8 v35) fun v36=>cE (xE h v36) fun y=>
   cE (tQ [I 0,I 0,I 0,I 0,I 0,I 0,I 0,.bool false,I 0] [(0,1,(I 1)),(1,1,y),(2,1,(I l)),(3,1,(I w))]) fun i=>
   cE (tQ [I 0,I 0,I 0,I 0,I 0,I 0,I 0,.bool false,I 0] [(0,9,(.agg ⟨i⟩))]) fun u=>
   D9 h 9 185 u 1 1 fun v k=>cE (oL 9 72 185 k (.slice a ns.length cp) v) fun g=>(fun z q=>Q (.tuple ⟨[z,I 0]⟩) q) g.1 g.2):=by
 have sY:∀{h:AH} {e:EX} {f:Nat} (x:aG),x=⟨if wr then 2 else 1,core,l,w,0,0,0,false,0⟩->Hs G h (dY 9 185 e f (ns.length+1,iL ns++x.enc)::aN c 0 (vA t C core (tX core s l w wr ns).1)::mJ G t C.ways.toNat C.aY.toNat s.S::L)->Q (.tuple ⟨[.slice e (ns.length+1) f,I 0]⟩) h:=by
  intro h e f x F d;have D:(tX core s l w wr ns).2.1=ns++[x]:=by rw[F];rfl
  have:=E e f h;rw[D] at this;simp only[cV,hK,AQ,iL,l9,AD,EJ,g7,AB] at this;refine this ?_;have d:=gz (c:=c) rfl rfl d;exact d.pS
 cases wr
 .refine cS (aC<|aA<|aE d rfl<|aZ rfl<|aZ (c:=(⟨1,core,l,w,0,0,0,_,0⟩:aG).enc) rfl<|dV d rfl rfl rfl ?_);intro B h d;exact tG d FA fun e f h d=>sY ⟨1,core,l,w,0,0,0,_,0⟩ rfl d.to
 .refine gF (bW<|aC<|aA<|aE d rfl<|aZ (c:=(⟨2,core,l,w,0,0,0,_,0⟩:aG).enc) rfl<|aZ (c:=(⟨2,core,l,w,0,0,0,_,0⟩:aG).enc) rfl<|dV d rfl rfl rfl ?_);intro B h d;exact tG d FA fun e f h d=>sY ⟨2,core,l,w,0,0,0,_,0⟩ rfl d.to
def aBy {l:Int} {wr:Bool} (k:ns.length<=1) (d:Hs G h (aN c 0 (vA t C core s)::mJ G t C.ways.toNat C.aY.toNat s.S::dY 9 185 a cp (ns.length,iL ns)::L))
  (i:∀e f g,Hs G g (dY 9 185 e f ((tX core s l w wr ns).2.1.length,iL (tX core s l w wr ns).2.1)::lR G c C core (tX core s l w wr ns).1::L)->Q (.tuple ⟨[.slice e (tX core s l w wr ns).2.1.length f,I 0]⟩) g):
  Dd 196 8 [] Q [IV c,I l,I w,.bool wr,.slice a ns.length cp] h:=by
 refine bW<|aZ (c:=[I l,.bool wr,.bool true]) rfl<|aC<|aA<|ay d ?_
 intro h d
 have d:=d.sg (b:=c) (o:=0) (c:=vA t C core (tX core s l w wr ns).1) rfl
 exact zx (t:=t) k d i
theorem aNq (hb:Bd s) {l:Int} {x:vU} {wr:Bool} (y:Ob G 3 oP) (d:Hs G h (aN p 0 x.enc::aN c 0 (vA t C core s)::mJ G t C.ways.toNat C.aY.toNat S::L))
  (v:∀f g k r,r=tX core {s with S:=S,gl:=no,gc:=x,uH:=true} l w wr [⟨3,core,no,x.w,0,x.d.1,x.d.2,qK x.st,0⟩]->Hs G k (dY 9 185 f g (r.2.1.length,iL r.2.1)::lR G c C core r.1::L)->Q (.tuple ⟨[.slice f r.2.1.length g,I 0]⟩) k):
  Dd 196 11 [] Q [IV c,I l,I w,.bool wr,.slice none 0 0,I no,IV p] h:=by
 refine bW<|bB d FC (l:=x.enc) rfl rfl<|aZ (c:=[I no,I x.st,I x.w,I _,I _,.bool true]) rfl<|aC<|aA<|ay d ?_
 intro h d
 have d:=d.sg (b:=c) (o:=0) (c:=vA t C core {s with S:=S,gl:=no,gc:=x,uH:=true}) rfl
 refine bI d fun B h d=>aC<|aA<|aE d rfl<|aA<|aE d rfl<|aA<|bB d FC (l:=[I _,I _]) rfl rfl<|aA<|aE d rfl<|Us y d ?_
 refine aZ (c:=(⟨3,core,no,x.w,0,x.d.1,x.d.2,qK x.st,0⟩:aG).enc) rfl<|aZ (c:=(⟨3,core,no,x.w,0,x.d.1,x.d.2,qK x.st,0⟩:aG).enc) rfl ?_
 refine oS d rfl rfl rfl rfl rfl ?_
 intro z h d
 have d:=jO (W:=9) (e:=185) d
 refine tG d FA ?_
 intro f g A q
 have i:Hs G h _:=d.bF<|aN p 0 x.enc
 have u:Hs G h _:=d.bF<|aN c 0<|vA t C core {s with S:=S,gl:=no,gc:=x,uH:=true}
 refine cR Ls<|cR dG<|cR (aC dG)<|cR (aA dG)<|cR (aE u rfl jF)<|cR jF<|cR (aA dG)<|cR (aE i rfl jF)<|cR (aA dG)<|cR (bB i FC (l:=[I _,I _]) rfl rfl<|uW<|by simp[uG])<|aZ (c:=[I l,.bool wr,.bool true]) rfl<|aC<|aA<|ay q ?_
 intro h d
 have d:=d.sg (b:=c) (o:=0) (c:=vA t C core (tX core {s with S:=S,gl:=no,gc:=x,uH:=true} l w wr [⟨3,core,no,x.w,0,x.d.1,x.d.2,qK x.st,0⟩]).1) rfl
 refine zx (t:=t) (s:={s with S:=S,gl:=no,gc:=x,uH:=true}) (ns:=[⟨3,core,no,x.w,0,x.d.1,x.d.2,qK x.st,0⟩]) (a:=f) (cp:=g) (L:=L) FF ?_ fun f g k=>v f g k _ rfl
 exact(show Hs G h (aN c 0 _::mJ G t C.ways.toNat C.aY.toNat S::dY 9 185 f g (0+1,[]++(⟨3,core,no,x.w,0,_,_,_,0⟩:aG).enc)::L) from d.to)
theorem aIi (hC:C.Ok) (hb:Bd s) {l:Int} (x:0<=l) {wr:Bool} (y:Ob G 3 oP) (a:Hs G h (aN c 0 (vA t C core s)::mJ G t C.ways.toNat C.aY.toNat s.S::L))
  (d:∀f g i,Hs G i (dY 9 185 f g ((zZ C core s l w wr).2.1.length,iL (zZ C core s l w wr).2.1)::lR G c C core (zZ C core s l w wr).1::L)->Q (.tuple ⟨[.slice f (zZ C core s l w wr).2.1.length g,I (zZ C core s l w wr).2.2]⟩) i):
  cE (tH<|IV c) fun v0=>cE (mC 0 v0) fun v1=>cE (xE h v1) fun v2=>IU 237 [v2,I l] h fun v3 u=>
   cE (yM 0 v3) fun v4=>cE (yM 1 v3) fun v5=>cE (yM 2 v3) fun v6=>cE (Be .neq v6<|I 0) fun A=>
   Br A (Q (.tuple ⟨[.slice none 0 0,v6]⟩) u) (Dd 196 6 [] Q [IV c,I l,I w,.bool wr,.slice none 0 0,v4,v5] u):=by
 unfold zZ at d
 refine aC<|aA<|aE a rfl<|aAz (sK hC).2.2.1 (sK hC).1 x hb a fun h a=>?_
 cases hv:kU C.aY.toNat C.ways.toNat s.S l with
 |none=>
  simp only[hv] at d
  exact aQ rfl (aQ rfl<|aQ rfl<|bU<|aab<|bW<|cS<|aBy FF (show Hs G h (aN c 0 _::mJ G t C.ways.toNat C.aY.toNat s.S::dY 9 185 none 0 (0,[])::L) from(jO (W:=9) (e:=185) a).to) d)
 |some v=>
  simp only[hv] at d
  refine aQ rfl<|aQ rfl<|aQ rfl<|bU<|aab<|bW<|gF<|bW<|aC<|aA<|aA<|aE a rfl<|eA (fun q=>?_) fun q=>?_
  .simp only[q,ew] at d;exact d none 0 h<|jO<|gz rfl rfl a
  .simp only[bA0<|show ¬(s.uH=true) from FB] at d;refine bW<|aC<|aA<|aE a rfl<|Z3 (ways:=C.ways.toNat) (sK hC).1 hb a fun h a=>aQ rfl<|aQ rfl<|cK a ?_;intro p h a;refine ax a fun h a=>bU (bG (fun k=>?_) fun k=>?_)
   .simp only[bA1 k] at d;exact d none 0 h<|jO<|(eC c t C core {s with S:=jN C.aY.toNat s.S v.1} a rfl rfl).to
   .simp only[bA0 k] at d;refine aNq hb y (show Hs G h (aN p 0 (bJ C.aY.toNat s.S v.1).1.enc::aN c 0 (vA t C core s)::mJ G t C.ways.toNat C.aY.toNat (jN C.aY.toNat s.S v.1)::L) from a.to) ?_;intro f g i r z;subst z;exact d f g i
theorem ar (hC:C.Ok) (hb:Bd s) {l:Int} {wr:Bool} (P:Ob G 0 iF) (D:Ob G 3 oP) (a:Hs G h L) [m:eB (lR G c C core) L s L']
  (d:∀i k q,Hs G q (dY 9 185 i k ((fV C core s l w wr).2.1.length,iL (fV C core s l w wr).2.1)::lR G c C core (fV C core s l w wr).1::L')->Q (.tuple ⟨[.slice i (fV C core s l w wr).2.1.length k,I (fV C core s l w wr).2.2]⟩) q):
  IU 196 [IV c,I l,I w,.bool wr] h Q:=by
 have a:=m.of a
 unfold fV at d
 refine cW<|dM<|cS<|bW<|B6 (core:=core) hC P a fun h a=>cX<|fM<|eA (fun x=>?_) fun x=>?_
 .simp only[x,Bool.true_eq_false,dd] at d;have F:0<=l:=(cP x).1;obtain⟨t,a⟩:=rG a;refine bW (aC<|aA<|aA<|aE a rfl<|eA (fun A=>?_) fun A=>bW ?_)
  .simp only[A,ew] at d;exact d none 0 h<|jO<|eC c t C core s a rfl rfl
  .simp only[A,aO,dd] at d;have v:¬(s.uH=true/\s.gl=l)->(cE (tH<|IV c) fun v0=>cE (mC 0 v0) fun v1=>cE (xE h v1) fun v2=>IU 194 [v2,I l] h fun v3 f=>
     cE (yM 0 v3) fun v4=>cE (yM 1 v3) fun v5=>K1 f (.cells [I 0,I 0,I 0,I 0] 171 (0,0) true) fun J O=>cE (Ba O 4 (IV J) v4) fun y=>cE (Be .eql v5<|I 0) fun v9=>
     Br v9 (cE (zJ y 4<|IV J) fun v10=>IU 195 [v10,.bool wr] y fun v11 u=>Br v11 (Q (.tuple ⟨[.slice none 0 0,I 13]⟩) u)<|Dd 196 5 [] Q [IV c,I l,I w,.bool wr] u)
      (cE (tH<|IV c) fun v0=>cE (mC 0 v0) fun v1=>cE (xE y v1) fun v2=>IU 237 [v2,I l] y fun v3 f=>
       cE (yM 0 v3) fun v4=>cE (yM 1 v3) fun v5=>cE (yM 2 v3) fun v6=>cE (Be .neq v6<|I 0) fun R=>
       Br R (Q (.tuple ⟨[.slice none 0 0,v6]⟩) f) (Dd 196 6 [] Q [IV c,I l,I w,.bool wr,.slice none 0 0,v4,v5] f))):=by
    intro f
    simp only[bA0 f] at d
    refine aC<|aA<|aE a rfl ?_
    refine Nd (ways:=C.ways.toNat) (sK hC).1 hb a fun h a=>aQ rfl<|aQ rfl<|cK a ?_
    intro p h a
    refine ax a ?_
    intro h a
    have E:Hs G h (aN c 0 (vA t C core s)::mJ G t C.ways.toNat C.aY.toNat s.S::aN p 0 (bJ C.aY.toNat s.S l).1.enc::L'):=a.to
    have z:∀{i k q} {X:EU} {n:Nat} {N:jR},Hs G q (dY 9 185 i k (n,X)::lR G c C core N::aN p 0 (bJ C.aY.toNat s.S l).1.enc::L')->Hs G q (dY 9 185 i k (n,X)::lR G c C core N::L'):=fun a=>a.to
    refine cC<|bG (fun g=>?_) fun g=>?_
    .refine bB a FC (l:=(bJ C.aY.toNat s.S l).1.enc) rfl rfl (Yd D a fun h a=>eA (fun B=>?_) fun B=>?_)
     .simp only[bA1<|show(bJ C.aY.toNat s.S l).2=0/\rR _ wr=true from⟨g,B⟩] at d;exact d none 0 h<|jO (eC c t C core s a rfl rfl).to
     .simp only[bA0<|show ¬((bJ C.aY.toNat s.S l).2=0/\rR _ wr=true) from fun e=>by rw[B] at e;grind] at d;refine bW<|aIi hC hb F D (show Hs G h (aN c 0 _::mJ G t C.ways.toNat C.aY.toNat s.S::L') from a.to) d
    .simp only[bA0<|show ¬((bJ C.aY.toNat s.S l).2=0/\rR _ wr=true) from fun e=>g e.1] at d;exact aIi hC hb F D E FB
   refine aC<|aA<|aA<|aE a rfl<|eA (fun f=>?_) fun f=>?_
   .refine aC (aA<|aA<|am c a rfl<|cC<|bG (fun g=>?_) fun g=>bW<|v fun e=>g e.2);simp only[bA1<|show s.uH=true/\s.gl=l from⟨f,g⟩] at d;exact d none 0 h<|jO<|eC c t C core s a rfl rfl
   .exact v (fun e=>FB)
 .simp only[x,ew] at d;exact d none 0 h<|jO a
end
variable {r:Tk}
section
variable {G:Bg} {h:AH} {core:Int} {n:aG}
theorem yR {a:jR} {e:Int} (i:∀d f g,Hs G g (dY 9 185 d f (r.2.1.length,iL r.2.1)::lR G c C core r.1::L)->Q (.tuple ⟨[.slice d r.2.1.length f,I r.2.2]⟩) g) (k:r=(a,[],e)) (q:Hs G h (lR G c C core a::L)):Q (.tuple ⟨[.slice none 0 0,I e]⟩) h:=by
 simp_all[none,jO]
theorem Ut {a:jR} {x:aG} {p:Addr} (g:∀d e f,Hs G f (dY 9 185 d e (r.2.1.length,iL r.2.1)::lR G c C core r.1::L)->Q (.tuple ⟨[.slice d r.2.1.length e,I r.2.2]⟩) f) (i:r=(a,[x],0)) (k:Hs G h (dY 9 185 (some p) 1 (1,x.enc)::lR G c C core a::L)):Q (.tuple ⟨[.slice (some p) 1 1,I 0]⟩) h:=by
 simp_all
abbrev TkK (G:Bg) (c:Nat) (C:bQ) (core:Int) (L:IB) (Q:Value->AH->Prop) (r:Tk):Prop:=∀a d e,Hs G e (dY 9 185 a d (r.2.1.length,iL r.2.1)::lR G c C core r.1::L)->Q (.tuple ⟨[.slice a r.2.1.length d,I r.2.2]⟩) e
theorem aNs (d:Hs G h (lR G c C core s::L)) (f:TkK G c C core L Q (Bh s n)):IU 245 [IV c,.agg ⟨n.enc⟩] h Q:=by
 obtain⟨t,d⟩:=rG d;refine cW<|eT d ?_;intro p h d;refine bI d fun r h d=>aC<|aA<|aA<|am c d rfl<|cX<|fM<|eA (fun g=>?_) fun g=>?_;refine aC<|aA<|aA<|am c d rfl<|aA<|am p d rfl<|bU<|bG (fun i=>?_) fun i=>?_;exact yR f (a:=s) (e:=16) (by grind[Bh]) (eC c t C core s d rfl rfl).to;refine bW<|aZ (c:=[I 0,.bool false,.bool false]) rfl<|aC<|aA<|ay (b:=c) (o:=0) d ?_;intro h d;exact yR f (a:={s with al:=0,aw:=false,pO:=false}) (e:=0) (by grind[Bh]) (eC c t C core {s with al:=0,aw:=false,pO:=false} d rfl rfl).to;exact yR f (a:=s) (e:=16) (by simp[Bh,g]) (eC c t C core s d rfl rfl).to
theorem aDl (d:Hs G h (lR G c C core s::L)) (f:TkK G c C core L Q (rS s n)):IU 246 [IV c,.agg ⟨n.enc⟩] h Q:=by
 obtain⟨t,d⟩:=rG d;refine cW<|eT d ?_;intro p h d;refine bI d fun r h d=>aC<|aA<|aA<|am c d rfl<|cX<|fM<|eA (fun g=>?_) fun g=>?_;refine aC<|aA<|aA<|am c d rfl<|aA<|am p d rfl<|bU<|bG (fun i=>?_) fun i=>?_;exact yR f (a:=s) (e:=12) (by grind[rS]) (eC c t C core s d rfl rfl).to;refine bW<|aZ (c:=[I 0,I 0,I 0,I 0,I 0,.bool false]) rfl<|aC<|aA<|ay (b:=c) (o:=0) d ?_;intro h d;exact yR f (a:={s with gl:=0,gc:=vU.zero,uH:=false}) (e:=0) (by grind[rS]) (eC c t C core {s with gl:=0,gc:=vU.zero,uH:=false} d rfl rfl).to;exact yR f (a:=s) (e:=12) (by simp[rS,g]) (eC c t C core s d rfl rfl).to
def aM0 (d:Hs G h (aN p 0 n.enc::aN c 0 (vA t C core s)::mJ G t C.ways.toNat C.aY.toNat S::L)) (e:TkK G c C core L Q r) (f:r=({s with S:=S,al:=0,aw:=false,pO:=false},[⟨4,core,n.aI,0,0,0,0,false,0⟩],0)):
  Dd 244 4 [] Q [IV c,IV p] h:=by
 refine bW<|aZ (c:=[I 0,.bool false,.bool false]) rfl<|aC<|aA<|ay (b:=c) (o:=0) d fun h d=>bI d ?_
 intro g h d
 refine aC<|aA<|am c d rfl<|aA<|am p d rfl<|aZ (c:=(⟨4,core,n.aI,0,0,0,0,false,0⟩:aG).enc) rfl<|aZ (c:=(⟨4,core,n.aI,0,0,0,0,false,0⟩:aG).enc) rfl ?_
 refine oS (i:=7) (N:=10) (D:=[]) d rfl rfl rfl rfl rfl fun a h d=>Ut e (p:=a) f ?_
 have d:=eC c t C core {s with S:=S,al:=0,aw:=false,pO:=false} d rfl rfl
 exact d.to
theorem M3 (hC:C.Ok) (hb:Bd s) (f:0<=n.aI) (d:Hs G h (lR G c C core s::L)) (q:TkK G c C core L Q (vJ C core s n)):IU 244 [IV c,.agg ⟨n.enc⟩] h Q:=by
 obtain⟨t,d⟩:=rG d;refine cW<|eT d ?_;intro p h d;refine bI d fun r h d=>aC<|aA<|aA<|am c d rfl<|cX<|fM<|eA (fun x=>?_) fun x=>?_;refine aC<|aA<|aA<|am c d rfl<|aA<|am p d rfl<|bU<|bG (fun v=>?_) fun v=>?_;exact yR q (a:=s) (e:=16) (by grind[vJ]) (eC c t C core s d rfl rfl).to;have v:s.al=n.aI:=by simpa using v
 refine bW<|aA<|am p d rfl<|aA<|am p d rfl<|aA<|an p d (l:=[I n.d0,I n.d1]) rfl rfl<|aZ (c:=(⟨n.state,n.bA,(n.d0,n.d1)⟩:vU).enc) rfl<|cK d ?_;intro k h d;refine ax d fun h d=>bI d ?_;intro E h d;refine aC<|aA<|am c d rfl<|aA<|am p d rfl<|Nd (t:=t) (ways:=C.ways.toNat) (n:=C.aY.toNat) (S:=s.S) (sK hC).1 hb d fun h d=>aQ rfl<|aQ rfl ?_;refine nJ (i:=10) d rfl rfl fun A h d=>ax d ?_;intro h d;have sY:∀{u:Bool} {h:AH},u=true->Hs G h (aN k 0 (oR C s n).enc::aN p 0 n.enc::aN c 0 (vA t C core s)::mJ G t C.ways.toNat C.aY.toNat s.S::L)->
   (na u h 9 fun D f=>cE (tH<|IV c) fun v2=>cE (mC 0 v2) fun v3=>cE (xE f v3) fun v4=>cE (mC 2<|IV p) fun v5=>cE (xE f v5) fun v6=>cE (zJ f 4<|IV k) fun B=>
    IU 200 [v4,v6,B] f fun z y=>cE (Be .neq z<|I 0) fun v9=>Br v9 (Q (.tuple ⟨[.slice none 0 0,z]⟩) y)<|Dd 244 4 [] Q [IV c,IV p] y):=by
  intro u h w d
  refine bI (hc:=w) d ?_
  intro r3 h d
  refine aC<|aA<|am c d rfl<|aA<|am p d rfl<|an k d (l:=(oR C s n).enc) rfl rfl ?_
  refine Jz (t:=t) (ways:=C.ways.toNat) (n:=C.aY.toNat) (S:=s.S) f (sK hC).1 hb d fun h d=>?_
  refine bU<|bG (fun g=>?_) fun g=>?_
  .exact yR q (a:={s with S:=(pD C.aY.toNat C.ways.toNat s.S n.aI<|oR C s n).1}) (by grind[vJ]) ((eC c t C core {s with S:=(pD C.aY.toNat C.ways.toNat s.S n.aI<|oR C s n).1} (cs:=vA t C core s) d rfl rfl).to)
  .exact aM0 (t:=t) (S:=(pD C.aY.toNat C.ways.toNat s.S n.aI<|oR C s n).1) (s:=s) (n:=n) d.to q (by grind[vJ])
 refine cR (aQ rfl jF)<|cC<|bG (fun g=>bW ?_) fun g=>bW<|sY FD ?_;refine aA<|an A d (l:=[I (bJ C.aY.toNat s.S n.aI).1.d.1,I (bJ C.aY.toNat s.S n.aI).1.d.2]) rfl rfl<|aA<|ay (b:=k) (o:=0) d ?_;intro h d;have e:oR C s n=⟨n.state,n.bA,(bJ C.aY.toNat s.S n.aI).1.d⟩:=by simp[oR,g]
 have d:=d.sg (b:=k) (o:=0) (c:=(oR C s n).enc) GF;exact sY FD d.to;have e:oR C s n=⟨n.state,n.bA,(n.d0,n.d1)⟩:=by simp[oR,g]
 rw[e];exact d.to;exact yR q (a:=s) (e:=16) (by simp[vJ,x]) (eC c t C core s d rfl rfl).to
def aOi {x:vU} {y:aG} (d:Hs G h (aN p 0 y.enc::aN q 0 x.enc::aN c 0 (vA t C core s)::mJ G t C.ways.toNat C.aY.toNat s.S::L)) (e:TkK G c C core L Q r) (f:r=({s with gc:=x},[y],0)):
  Dd 247 8 [] Q [IV c,IV p,IV q] h:=by
 refine bW<|bB d FC (l:=x.enc) rfl rfl<|aC<|aA<|aA<|ay d ?_
 intro h d
 refine bB d FC (l:=y.enc) rfl rfl<|aZ (c:=y.enc) rfl<|dV d rfl rfl rfl fun a h d=>Ut e f ?_
 have d:=eC c t C core {s with gc:=x} d rfl rfl
 exact d.to
def aLo (hC:C.Ok) (hb:Bd s) (k:0<=n.aI) {x:vU} {y:aG} (d:Hs G h (aN p 0 y.enc::aN q 0 x.enc::aN i 0 n.enc::aN c 0 (vA t C core s)::mJ G t C.ways.toNat C.aY.toNat s.S::L)) (g:TkK G c C core L Q r)
  (e:r=({s with S:=if x.st=0 then jN C.aY.toNat s.S n.aI else(pD C.aY.toNat C.ways.toNat s.S n.aI x).1},[y],0)):
  Dd 247 9 [] Q [IV c,IV i,IV p,IV q,I x.st] h:=by
 refine bW<|cC<|bG (fun f=>bW<|bI d ?_) fun f=>bW<|bI d ?_
 .intro u h d;simp only[bA1 f] at e;refine aC<|aA<|aE d rfl<|aA<|aE d rfl<|Z3 (ways:=C.ways.toNat) (sK hC).1 hb d fun h d=>?_;refine bB d FC (l:=y.enc) rfl rfl<|aZ (c:=y.enc) rfl<|dV d rfl rfl rfl fun a h d=>Ut g e ?_;have d:=eC c t C core {s with S:=jN C.aY.toNat s.S n.aI} d rfl rfl;exact d.to
 .intro u h d;simp only[bA0 f] at e;refine aC<|aA<|aE d rfl<|aA<|aE d rfl<|bB d FC (l:=x.enc) rfl rfl<|Jz (ways:=C.ways.toNat) k (sK hC).1 hb d fun h d=>?_;refine bB d FC (l:=y.enc) rfl rfl<|aZ (c:=y.enc) rfl<|dV d rfl rfl rfl fun a h d=>Ut g e ?_;have d:=eC c t C core {s with S:=(pD C.aY.toNat C.ways.toNat s.S n.aI x).1} d rfl rfl;exact d.to
def yi (hC:C.Ok) (hb:Bd s) (k:0<=n.aI) {A3:Bool} {f:Nat} {x:vU} (a:Hs G h (aN p 0 (Yr core n).enc::aN q 0 x.enc::aN f 0 n.enc::aN c 0 (vA t C core s)::mJ G t C.ways.toNat C.aY.toNat s.S::L)) (i:TkK G c C core L Q r)
  (d:r=if A3 then({s with S:=if kN x.st n.state=0 then jN C.aY.toNat s.S n.aI else(pD C.aY.toNat C.ways.toNat s.S n.aI {x with st:=kN x.st n.state}).1},[iQ core n x],0) else({s with gc:={x with st:=kN x.st n.state}},[iQ core n x],0)):
  Dd 247 5 [] Q [IV c,IV f,IV p,IV q,.bool A3,I<|kN x.st n.state,.bool<|Kp x.st,.bool<|qK x.st] h:=by
 have sY:∀{h:AH},Hs G h (aN p 0 (iQ core n x).enc::aN q 0 ({x with st:=kN x.st n.state}:vU).enc::aN f 0 n.enc::aN c 0 (vA t C core s)::mJ G t C.ways.toNat C.aY.toNat s.S::L)->
   (cE (py .not<|.bool A3) fun u=>Br u (Dd 247 8 [] Q [IV c,IV p,IV q] h)<|Dd 247 9 [] Q [IV c,IV f,IV p,IV q,I<|kN x.st n.state] h):=by
  intro h a
  cases A3
  .simp only[aO,dd] at d;exact cX<|gF<|aOi (t:=t) a.to i d
  .simp only[ew] at d;exact cX<|cS<|aLo hC hb k a i d
 refine bW<|aA<|ay a fun h a=>eA (fun g=>bW ?_) fun g=>bW ?_
 .refine aA (bB a FC (l:=[I _,I _]) rfl rfl<|aA<|ay a ?_);intro h a;refine aA<|ay a fun h a=>aA<|ay a ?_;intro h a;have e:iQ core n x=⟨5,core,n.aI,0,kN x.st n.state,x.d.1,x.d.2,qK x.st,0⟩:=by simp[iQ,g]
  have a:=a.sg (b:=p) (o:=0) (c:=(iQ core n x).enc) GF
  have a:=a.sg (b:=q) (o:=0) (c:=({x with st:=kN x.st n.state}:vU).enc) rfl
  exact sY a.to
 .refine aA (ay a ?_);intro h a;have e:iQ core n x=⟨5,core,n.aI,0,kN x.st n.state,0,0,false,0⟩:=by simp[iQ,g]
  have a:=a.sg (b:=p) (o:=0) (c:=(iQ core n x).enc) GF
  have a:=a.sg (b:=q) (o:=0) (c:=({x with st:=kN x.st n.state}:vU).enc) rfl
  exact sY a.to
def aOp (hC:C.Ok) (hb:Bd s) (y:Sts C.aY.toNat s) (F:n.state=0\/n.state=1) (D:0<=n.aI) {B:Nat} {x:vU} (J:Ob G 3 oP)
  (d:Hs G h (aN p 0 (Yr core n).enc::aN q 0 x.enc::aN B 0 n.enc::aN c 0 (vA t C core s)::mJ G t C.ways.toNat C.aY.toNat s.S::L)) (w:(bJ C.aY.toNat s.S n.aI).2≠0) (A:TkK G c C core L Q (lI C core s n)):
  Dd 247 2 [] Q [IV c,IV B,IV p,IV q,.bool false] h:=by
 have g:¬(n.state≠1/\n.state≠0):=FA
 refine bW<|bI d ?_
 intro O h d
 have f:s.uH=false\/s.gl≠n.aI->(cE (zJ h 9<|IV p) fun N=>cE (tQ [I 0,I 0,I 0,I 0,I 0,I 0,I 0,.bool false,I 0] [(0,9,N)]) fun K=>D9 h 9 185 K 1 1 fun z E=>Q (.tuple ⟨[z,I 0]⟩) E):=by
  intro k;refine bB d FC rfl rfl<|aZ (c:=(Yr core n).enc) rfl<|dV d rfl rfl rfl ?_;intro a h d;refine Ut A (a:=s) (x:=Yr core n) ?_ ?_;rcases k with k|k;simp[lI,g,w,k,Yr];by_cases v:s.uH=false;simp[lI,g,w,v,Yr];simp only[lI,bA0 g,bA0 w,bA0 v,bA1 k,Yr];have d:=eC c t C core s d rfl rfl;exact d.to
 refine aC<|aA<|aA<|aE d rfl<|cX<|fM<|eA (fun u=>(aC<|aA<|aA<|aE d rfl<|aA<|aE d rfl<|bU<|bG (fun i=>f<|.inr i) fun i=>bW ?_)) fun u=>f<|.inl u
 have i:s.gl=n.aI:=by simpa using i
 refine aC<|aA<|aA<|bB d FC (l:=s.gc.enc) rfl rfl<|ax d ?_
 intro h d
 refine aA<|aE d rfl<|aA<|aE d rfl<|X7 J d (y.vL u) F<|aQ rfl<|aQ rfl<|aQ rfl<|aQ rfl<|bU<|aab<|yi hC hb D (t:=t) d.to A ?_
 have v:¬s.uH=false:=by rw[u];simp
 simp only[lI,bA0 g,bA0 w,bA0 v,bA0<|show ¬s.gl≠n.aI from fun e=>e i,aO,dd]
def aOb (hC:C.Ok) (hb:Bd s) (e:Sts C.aY.toNat s) (u:n.state=0\/n.state=1) (i:0<=n.aI) {g:Nat} (v:Ob G 3 oP)
  (a:Hs G h (aN p 0 (Yr core n).enc::aN q 0 (bJ C.aY.toNat s.S n.aI).1.enc::aN g 0 n.enc::aN c 0 (vA t C core s)::mJ G t C.ways.toNat C.aY.toNat s.S::L)) (f:(bJ C.aY.toNat s.S n.aI).2=0) (k:TkK G c C core L Q (lI C core s n)):
  Dd 247 3 [] Q [IV c,IV g,IV p,IV q,.bool true] h:=by
 have d:¬(n.state≠1/\n.state≠0):=FA
 refine bW<|aA<|aE a rfl<|aA<|aE a rfl<|X7 v a (e.aYt _ f) u<|aQ rfl<|aQ rfl<|aQ rfl<|aQ rfl<|bU<|aab<|yi hC hb i a k ?_
 simp only[lI,bA0 d,bA1 f,ew]
theorem Lh (hC:C.Ok) (hb:Bd s) (f:Sts C.aY.toNat s) (k:0<=n.aI) (v:Ob G 3 oP) (d:Hs G h (lR G c C core s::L)) (i:TkK G c C core L Q (lI C core s n)):IU 247 [IV c,.agg ⟨n.enc⟩] h Q:=by
 obtain⟨t,d⟩:=rG d;refine cW<|eT d fun z h d=>aA<|aE d rfl<|bU<|bG (fun w=>aA<|aE d rfl<|bU<|bG (fun y=>?_) fun y=>bW ?_) fun w=>?_;exact yR i (a:=s) (e:=10) (by simp_all[lI,bA1]) (eC c t C core s d rfl rfl).to;all_goals
  have u:n.state=0\/n.state=1:=FA
  refine bI d fun B h d=>aC<|aA<|aE d rfl<|aA<|aE d rfl<|aZ (c:=(Yr core n).enc) rfl ?_
  refine nJ d rfl rfl fun p h d=>ax d ?_
  intro h d
  refine bI d fun A h d=>aC<|aA<|aE d rfl<|aA<|aE d rfl ?_
  refine Nd (ways:=C.ways.toNat) (sK hC).1 hb d fun h d=>aQ rfl<|aQ rfl<|nJ d rfl rfl ?_
  intro q h d
  refine ax d fun h d=>cR (aQ rfl jF)<|cC<|cX ?_
  by_cases g:(bJ C.aY.toNat s.S n.aI).2=0
  .rw[cL g];exact cS<|aOb hC hb f u k (t:=t) v d.to g i
  .rw[cM g];exact gF<|aOp hC hb f u k (t:=t) (x:=(bJ C.aY.toNat s.S n.aI).1) v d.to g i
end
section
def Fj (k:Int) (f:FuncId):EU:=[I k,.func (.func f) #[] #[]]
def Su:EU:=Fj 8 244++Fj 9 245++Fj 10 246++Fj 11 247
variable {G:Bg} {h:AH} {core:Int} {n:aG}
def aLi (hC:C.Ok) {k:Int} (y:Ob G 0 iF) (d:Hs G h (aN q 0 (Fj k f)::aN p 0 n.enc::lR G c C core s::L))
  (i:lU Pr f=true) (z:vH C n.aI=false->r=(s,[],10)) (x:vH C n.aI=true->∀h L,Hs G h (lR G c C core s::L)->∀Q,TkK G c C core L Q r->IU f [IV c,.agg ⟨n.enc⟩] h Q) (t:TkK G c C core L Q r):
  Dd 146 5 [] Q [IV c,IV p,IV q] h:=by
 refine bW<|aA<|aE d rfl<|B6 (core:=core) hC y d fun h d=>cX<|fM<|eA (fun g=>?_) fun g=>?_
 .refine aA (aE d rfl<|bB d FC (l:=n.enc) rfl rfl ?_);refine qB i<|x g h (aN q 0 (Fj k f)::aN p 0 n.enc::L) d.to _ fun u v w d=>aQ rfl<|aQ rfl<|t u v w d.to
 .exact yR t (a:=s) (e:=10) (z g) d.to
theorem Mx (hC:C.Ok) (hb:Bd s) (x:Sts C.aY.toNat s) (B:Ob G 0 iF) (D:Ob G 3 oP) (d:Hs G h L) [m:eB (lR G c C core) L s L'] (t:TkK G c C core L' Q (fP C core s n)):
  IU 146 [IV c,.agg ⟨n.enc⟩] h Q:=by
 have d:=m.of d
 refine cW<|eT d fun p h d=>dM<|cS<|bW<|cW ?_
 refine aZ (c:=Fj 8 244) rfl<|aZ (c:=Fj 9 245) rfl<|aZ (c:=Fj 10 246) rfl<|aZ (c:=Fj 11 247) rfl<|aZ (c:=Su) rfl<|dV d rfl rfl rfl ?_
 intro a h d
 obtain⟨b,o,A,d⟩:=d.jV FC
 cases A
 refine dB ?_
 have y:vH C n.aI=true->0<=n.aI:=fun e=>(cP e).1
 have step:∀(i:Nat) (z:i<4) (k:Int) (f:FuncId) (h:AH) (M:IB),(Su.drop<|i*2).take 2=Fj k f->lU Pr f=true->Hs G h (aN b o Su::aN p 0 n.enc::lR G c C core s::L')->
   (n.kind=k->((vH C n.aI=false->fP C core s n=(s,[],10))/\(vH C n.aI=true->∀h L,Hs G h (lR G c C core s::L)->∀Q,TkK G c C core L Q (fP C core s n)->IU f [IV c,.agg ⟨n.enc⟩] h Q)))->
   (n.kind≠k->∀h,Hs G h (aN b o Su::aN p 0 n.enc::lR G c C core s::L')->Dd 146 2 [] Q [IV c,IV p,.slice (some ⟨b,o,none⟩) 4 4,I 4,I ((i+1:Nat):Int)] h)->
   Dd 146 2 [] Q [IV c,IV p,.slice (some ⟨b,o,none⟩) 4 4,I 4,I (i:Int)] h:=by
  intro i z k f h M O v d g w
  refine bW<|bE<|aae<|bW<|fD z<|R6 d FC (l:=Fj k f) FB rfl<|cK d ?_
  intro q h d
  refine ax d ?_
  intro h d
  refine aA<|aE d rfl<|aA<|aE d rfl<|bU<|bG (fun u=>bW<|aad ?_) fun u=>?_
  .have:=w FA h d.to;show Dd _ _ _ _ _ _;simpa using this
  .have u:n.kind=k:=by
    have:k=n.kind:=by simpa using u
    exact this.symm
   exact aLi (k:=k) hC B (show Hs G h _ from d.to) v (g u).1 (g u).2 t
 have d:Hs G h (aN b o Su::aN p 0 n.enc::lR G c C core s::L'):=d.to
 refine step 0 FC 8 244 h [] rfl FD d (fun e=>⟨fun e2=>by simp[fP,e,e2],fun e2 h L d Q t=>M3 hC hb (y e2) d HS⟩) fun E h d=>(step 1 FC 9 245 h [] rfl FD d (fun e=>⟨fun e2=>by simp[fP,e,e2],fun e2 h L d Q t=>aNs d HS⟩) fun F h d=>?_)
 refine step 2 FC 10 246 h [] rfl FD d (fun e=>⟨fun e2=>by simp[fP,e,e2],fun e2 h L d Q t=>aDl d HS⟩) fun J h d=>(step 3 FC 11 247 h [] rfl FD d (fun e=>⟨fun e2=>by simp[fP,e,e2],fun e2 h L d Q t=>Lh hC hb x (y e2) D d HS⟩) fun N h d=>?_)
 exact bW<|bE<|aab<|yR t (a:=s) HS d.to
def aGu (a:Hs G h L) [m:eB (lR G c C core) L s L'] (e:∀d,Hs G d (lR G c C core s::L')->Q (.tuple ⟨[I s.al,.bool s.aw,.bool s.pO]⟩) d):IU 41 [IV c] h Q:=by
 obtain⟨t,a⟩:=rG<|m.of a;refine cW<|dM<|cS<|bI a ?_;intro f h a;exact(aC<|aA<|aA<|aE a rfl<|aC<|aA<|aA<|aE a rfl<|aC<|aA<|aA<|aE a rfl<|e _ (eC c t C core s a rfl rfl).to)
def ye (hC:C.Ok) (hb:Bd s) (a:Hs G h L) [m:eB (lR G c C core) L s L'] (f:∀d e,Hs G e (lR G d C core s::lR G c C core s::L')->Q (IV d) e):IU 145 [IV c] h Q:=by
 obtain⟨t,a⟩:=rG<|m.of a;refine cW<|dM<|cS<|bW<|aC<|bB a FC (l:=vA t C core s) rfl rfl<|cK a fun d h a=>ax a ?_;intro h a;refine aC<|aA<|aE a rfl<|aO4 (ways:=C.ways.toNat) (sK hC).1 (sK hC).2.1 hb a fun t2 h a=>(aA<|ay a ?_);intro h a;have a:=a.sg (b:=d) (o:=0) (c:=vA t2 C core s) rfl;have a:=eC d t2 C core s a rfl rfl;have a:=eC c t C core s a rfl rfl;exact f d h a.to
def br (hC:C.Ok) (d:0<=core/\core<C.aB) (i:Ob G 0 iF) (a:Hs G h L) (g:∀c e,Hs G e (lR G c C core jR.kD::L)->Q (.tuple ⟨[IV c,I 0]⟩) e):IU 32 [.agg ⟨C.enc⟩,I core] h Q:=by
 refine cW<|eT a fun p h a=>bB a FC (l:=C.enc) rfl rfl<|uJ i a fun h a=>?_;have f:=hC;unfold bQ.Ok at f;rw[bA1 hC];refine bU<|aab<|bW<|bE<|aab<|aA<|aE a rfl<|fX<|aab<|bW ?_;refine aA<|aE a rfl<|aA<|aE a rfl<|j3 FA FA a fun t h a=>aQ rfl<|aQ rfl<|bU<|aab<|bB a FC (l:=C.enc) rfl rfl<|aZ (c:=vA t C core jR.kD) rfl<|eT a ?_;intro q h a;have a:=eC q t C core jR.kD a rfl rfl;exact g q h a.to
end
variable {G:Bg} {h:AH} {core:Int} {n:aG}
def aJc (hC:C.Ok) (d:iJ C s) {l at' i:Int} (q:tD C s.S l at' i false=0) (w:Ob G 0 iF) (x:Ob G 3 oP) (a:Hs G h L) [m:eB (lR G c C core) L s L'] (f:∀k,Hs G k (lR G c C core (pH C s l at' i)::L')->Q (.tuple ⟨[I<|Mc.Ip C s l at',I 0]⟩) k):IU 139 [IV c,I l,I at',I i] h Q:=by
 have a:=m.of a;have hb:Bd s:=d.bd (sK hC).2.2.2;unfold pH at f;refine cW<|jb (c:=c) (core:=core) (s:=s) hC hb w x a fun h a=>bU<|aab ?_;rw[bA1 q] at f;obtain⟨g,u,y,_⟩:=wV q;have v:=jx d.aY y;obtain⟨t,a⟩:=rG a;refine bW<|aC<|aA<|am c a rfl<|J8 (t:=t) (ways:=C.ways.toNat) (n:=C.aY.toNat) (S:=s.S) g.1 (sK hC).1 hb a fun h a=>aQ rfl<|aQ rfl<|cK a fun p h a=>ax a ?_;intro h a;have e:=fun {h:AH} a=>(eC c t C core {s with S:=Ge C.aY.toNat C.ways.toNat s.S l} (G:=G) (h:=h) (L:=aN p 0 (bJ C.aY.toNat s.S l).1.enc::mJ G t C.ways.toNat C.aY.toNat (Ge C.aY.toNat C.ways.toNat s.S l)::aN c 0 (vA t C core s)::L') a rfl rfl);refine bU<|aab<|aA ?_;rcases u with rfl|rfl;exact gK FC FC<|am p a rfl<|f _ (e a).to;exact gK FC FC<|am p a rfl<|f _ (e a).to
def aB0 (hC:C.Ok) (e:iJ C s) {l at':Int} (y:tD C s.S l at' w true=0) (D:Ob G 0 iF) (z:Ob G 3 oP) (a:Hs G h L) [m:eB (lR G c C core) L s L'] (q:∀x,Hs G x (lR G c C core (mU C s l at' w v)::L')->Q (I 0) x):IU 140 [IV c,I l,I at',I w,I v] h Q:=by
 have a:=m.of a;have hb:Bd s:=e.bd (sK hC).2.2.2;unfold mU at q;refine cW<|jb (c:=c) (core:=core) (s:=s) hC hb D z a fun h a=>bU<|aab ?_;rw[bA1 y] at q;obtain⟨u,B,E,d⟩:=wV y;have d:Ch (bJ C.aY.toNat s.S l).1.st=true:=d;obtain⟨t,a⟩:=rG a;refine bW<|aC<|aA<|am c a rfl<|Nd (t:=t) (ways:=C.ways.toNat) (n:=C.aY.toNat) (S:=s.S) (sK hC).1 hb a fun h a=>aQ rfl<|aQ rfl<|cK a ?_;intro p h a;refine ax a fun h a=>bU<|aab<|bW<|aA<|am p a rfl<|aH5 z a d<|aQ rfl<|aQ rfl<|aA<|ay (b:=p) (o:=0) a ?_;intro h a;refine bU<|aab<|bW<|aA ?_;have f:∀{g:Bool} {h:AH},g=true->Hs G h (aN p 0 (Jw C.aY.toNat s.S l at' v).enc::mJ G t C.ways.toNat C.aY.toNat s.S::aN c 0 (vA t C core s)::L')->
   na g h 8 fun _ i=>cE (tH<|IV c) fun v5=>cE (mC 0 v5) fun v6=>cE (xE i v6) fun F=>cE (zJ i 4<|IV p) fun J=>IU 200 [F,I l,J] i fun v9 A=>Q v9 A:=by
  intro g h k a
  refine bI (hc:=k) a ?_
  intro r h a
  refine aC<|aA<|aE (b:=c) a rfl<|bB a FC (l:=(Jw C.aY.toNat s.S l at' v).enc) rfl rfl ?_
  refine Jz (ways:=C.ways.toNat) u.1 (sK hC).1 hb a fun h a=>?_
  show Q _ _
  rw[yF e.aY E]
  exact q _ (eC c t C core {s with S:=(pD C.aY.toNat C.ways.toNat s.S l _).1} a rfl rfl).to
 rcases B with rfl|rfl;exact gK FC FC<|ay a fun h a=>f FD<|(a.sg (b:=p) (o:=0) (c:=(Jw C.aY.toNat s.S l 0 v).enc) rfl).to;exact gK FC FC<|ay a fun h a=>f FD<|(a.sg (b:=p) (o:=0) (c:=(Jw C.aY.toNat s.S l 1 v).enc) rfl).to
end Go.Proofs.Z.C
end
variable {e:Nat->Value}
namespace Go.Proofs.Z.N
open Go.Hm Go.Nt
variable {C:bQ}
section
def uI {g a:Nat} (d:i<n) (e:k (pt g (i*a) 0)):cE (vS n a (.pointer<|some ⟨g,0,none⟩)<|I i) k:=
 kS (b:=g) (o:=0) (j:=0) d (by simpa [pt] using e)
attribute [local irreducible] cE Br xE zJ Ba K1 sO D9 sF na mC tH yM yV yE pR Be dr bf dm Xy bu py qY vS oL nR Fs Qe rE Xn lz Hj Cl E5 pw A9 zV qJ kI fJ dX
variable {G:Bg} {h:AH}
def Gj {k:Int} (a:Q (.bool<|decide<|Nj k) h):IU 215 [I k] h Q:=by
 refine cW<|fX<|bG (fun d=>bE ?_) fun d=>?_;show Q _ _;rw[show decide _=decide (Nj k) from AW.2<|by unfold Nj;omega];exact a;show Q _ _;rw[show false=decide (Nj k) from(cM<|by unfold Nj;omega).symm];exact a
theorem aWo {k:Int} (h:Nj k):∃n:Nat,k=(n:Int)/\1<=n/\n<14:=⟨k.toNat,by grind[Nj],by grind[Nj],by grind[Nj]⟩
def y4 {k:Int} (e:Ob G 2 Eb) (i:Hs G h L) (d:Q (if Nj k then .tuple ⟨[I<|Ws k.toNat,I 0]⟩ else .tuple ⟨[I 0,I 15]⟩) h):IU 159 [I k] h Q:=by
 refine cW<|Gj<|cX<|fM<|bG (fun a=>?_) fun a=>?_;rw[bA1 a] at d;obtain⟨n,rfl,g,f⟩:=aWo a;refine uI f<|aA<|Gr i e (qu f) d;rw[bA0 a] at d;exact d
theorem J8 {n:aG} {f:Int} (g:1<=f/\f<=13) (d:Hs G h L) (a:∀e,Hs G e L->Q (I<|Ci n f) e):IU 217 [.agg ⟨n.enc⟩,I f] h Q:=by
 refine cW<|eT d ?_;intro p h d;have a:=a h d.tail;rcases f13 g with rfl|rfl|rfl|rfl|rfl|rfl|rfl|rfl|rfl|rfl|rfl|rfl|rfl;all_goals
  repeat' first
   |refine cC ?_
   |refine cI FC ?_
   |refine bC FC ?_
   |refine bW ?_
   |refine bW ?_
   |refine bW ?_
   |refine bW ?_
   |refine bW ?_
   |refine bW ?_
   |refine bW ?_
   |refine bW ?_
   |refine bW ?_
   |refine bW ?_
   |refine bW ?_
   |refine bW ?_
   |refine aA ?_
   |refine gK FA FA ?_
   |refine aE d rfl ?_
 all_goals first|exact a|skip
 refine eA (fun hb=>?_) fun hb=>?_;unfold Ci at a;show Q _ _;grind;unfold Ci at a;show Q _ _;grind
def aTx {n:aG} {f:Int} (e:1<=f/\f<=13) (a:Hs G h (aN p 0 n.enc::L)) (g:∀d,Hs G d (aN p 0 (F6 n f v).enc::L)->Q (.tuple ⟨[]⟩) d):IU 219 [IV p,I f,I v] h Q:=by
 refine cW ?_;rcases f13 e with rfl|rfl|rfl|rfl|rfl|rfl|rfl|rfl|rfl|rfl|rfl|rfl|rfl;all_goals
  repeat' first
   |refine cC ?_
   |refine bU ?_
   |refine cI FC ?_
   |refine bC FC ?_
   |refine bW ?_
   |refine bW ?_
   |refine bW ?_
   |refine bW ?_
   |refine bW ?_
   |refine bW ?_
   |refine bW ?_
   |refine bW ?_
   |refine bW ?_
   |refine bW ?_
   |refine bW ?_
   |refine aC ?_
   |refine aA ?_
   |refine gK FA FA ?_
  refine ay a ?_
  intro h a
  exact g h a
theorem Sr {a b:Prop} [Decidable a] [Decidable b] (d:a↔b) (e:Q (.bool<|decide b) h):Q (.bool<|decide a) h:=FB
theorem uj {b:Prop} [Decidable b] (a:¬b) (d:Q (.bool<|decide b) h):Q (.bool false) h:=FB
theorem yL {b:Prop} [Decidable b] (a:b) (d:Q (.bool<|decide b) h):Q (.bool true) h:=FB
def Zn (hC:C.Ok) {f:Int} (q:1<=f/\f<=13) (t:Ob G 0 iF) (e:Hs G h L) (i:∀k,Hs G k L->Q (.bool<|decide<|C2 C f v) k):IU 218 [.agg ⟨C.enc⟩,I f,I v] h Q:=by
 refine cW<|eT e ?_;intro p h e;have a:=i h e.tail;unfold C2 at i a;rcases f13 q with rfl|rfl|rfl|rfl|rfl|rfl|rfl|rfl|rfl|rfl|rfl|rfl|rfl;all_goals
  repeat' first
   |refine cI FC ?_
   |refine bC FC ?_
   |refine cC ?_
   |refine bW ?_
   |refine bW ?_
   |refine bW ?_
   |refine bW ?_
   |refine bW ?_
   |refine bW ?_
   |refine bW ?_
   |refine bW ?_
   |refine bW ?_
   |refine bW ?_
   |refine bW ?_
 all_goals simp only[Int.reduceEq,ew,dd,or_true,true_or,or_self,or_false,false_or,decide_true] at i a
 exact fX<|bG (fun d=>aA<|aE e rfl<|bE<|Sr FA a) fun d=>uj FA a;exact fX<|bG (fun d=>bB e FC (l:=C.enc) rfl rfl<|uU hC t e fun h e=>bE<|Sr FA<|i h e.tail) fun d=>uj FA a;exact fX<|bG (fun d=>Ak<|Sr FA a) fun d=>uj FA a;exact fX<|bG (fun d=>Ak<|Sr FA a) fun d=>uj FA a;exact fX<|bG (fun d=>Ak<|Sr FA a) fun d=>uj FA a;exact(bG (fun d=>yL FA a) fun d=>cC<|bG (fun g=>yL FA a) fun g=>cC<|Sr FA a);exact(bG (fun d=>yL FA a) fun g=>cC<|Sr FA a);exact a;exact a;exact(bG (fun d=>yL FA a) fun g=>cC<|Sr FA a);exact(bG (fun d=>yL FA a) fun g=>cC<|Sr FA a);exact fX<|bG (fun d=>bE<|Sr FA a) fun d=>uj FA a;exact fX<|bG (fun d=>aA<|aE e rfl<|bE<|Sr FA a) fun d=>uj FA a
end
theorem neN {a n:aG} (e:k (.bool<|decide<|a≠n)) {d:Bool} (hc:d=true:=by kernel_rfl):bu d [0,0,0,0,0,0,0,1,0] .neq (.agg ⟨a.enc⟩) (.agg ⟨n.enc⟩) k:=by
 refine⟨hc,_,?_,e⟩;cases a;cases n;simp[Xy,vW,Zb,eqn,aG.enc];grind
attribute [local irreducible] cE Br xE zJ Ba K1 sO D9 sF na mC tH yM yV yE pR Be dr bf dm Xy bu py qY vS oL nR Fs Qe rE Xn lz Hj Cl E5 pw A9 zV qJ kI fJ dX
variable {G:Bg} {h:AH}
variable {st:LoopState}
def aRe {P:Program} {p:EW} {l d:Nat} {pd:Option Code} {k:Option Code×AH->Prop} (t:Hs G h L) [m:tN l L ⟨P,f,p,n,e,d,st,pd⟩ L'] (g:st≠.busy) (q:∀i,Hs G i L'->k (pd,i)):cE (zV h l) k:=
 aHs (P:=P) (f:=f) (p:=p) (n:=n) (e:=e) (d:=d) (st:=st) (pd:=pd) (k:=fun a b=>k (a,b)) (show Hs G h (pG P f p n e d l (st,pd)::L') from m.of t) g q
theorem at7 {l:EV} (e:l.length=7) (a:i<7) (d:k (I<|l.getD i 0)):cE (Xn 7 1 (.agg ⟨l.map I⟩)<|I i) k:=
 ze a FB d
def aAx {k:Int} (a:Hs G h L) (e:∀p d,Hs G d (aN p 0 [I k]::L)->Q (.func (.func 251) #[] #[IV p]) d):IU 216 [I k] h Q:=by
 exact cW<|eT a fun p h a=>e p h a
theorem aGh (k:Ob G 2 Eb) (e:n<14):yy Pr K G 251 [] [IV p] (aN p 0 [I n]) ((I8 n).map fun f=>[I f]):=by
 intro u J y L h Q a B t w;refine cW (aE a rfl<|uI e<|aA<|qw a k (aDb e) (by rw[js,yp e]) (by grind[aCj]) ?_);have z:=yp e;have loop:∀(f i:Nat) (h:AH),i+f=7->Hs G h (aN p 0 [I n]::u ((ws (aFk n) f i).map fun f=>[I f])::L)->Dd 251 1 [] Q [y,.agg ⟨(aFk n).map I⟩,I i] h:=by
  intro f;induction f with
  |zero=>
   intro i h x a;exact bW (bE<|aab<|t _ h a)
  |succ f D=>
   intro i h x a;unfold ws at a;refine bW<|bE<|aae<|bW<|at7 z FA<|cC<|bG (fun g=>?_) fun g=>?_;rw[bA1 g] at a;exact t _ h a;rw[bA0 g] at a;refine(B _ _ h _ a.pS).mono fun v q A=>?_;rcases A with⟨rfl,d⟩|⟨rfl,d⟩;exact cX<|cS<|bW<|aad<|D (i+1) q FA d.pS;exact cX<|gF<|w _ q d.pS
 exact loop 7 0 h rfl a
def ckC (C:bQ) (n:aG) (p2 p3 p5 p6 l d:Nat) (e:Nat->Value) (rest:IJ) (fs:EV) (a:aG):IB:=
 [Dm<|rest=fs.map fun f=>[I f],Dm (∀f∈fs,1<=f/\f<=13),Dm<|jK C n fs a=jK C n (I8 n.kind.toNat) (sA n.kind),pG Pr 158 (qM 1786) 41 e d l (.ready,none),aN p2 0 C.enc,aN p3 0 n.enc,aN p5 0 [.bool true],aN p6 0 a.enc]
def ckI (C:bQ) (n:aG) (p2 p3 p5 p6 l d:Nat) (e:Nat->Value) (rest:IJ):HP:=A5 fun x:EV×aG=>sp<|ckC C n p2 p3 p5 p6 l d e rest x.1 x.2
def ckJ (C:bQ) (n:aG) (p2 p3 p5 p6 l d:Nat) (e:Nat->Value):HP:=A5 fun a:aG=>sp [Dm<|(jK C n (I8 n.kind.toNat)<|sA n.kind).1=false,pG Pr 158 (qM 1786) 41 e d l (.done,some<|.exit 0),aN p2 0 C.enc,aN p3 0 n.enc,aN p5 0 [.bool false],aN p6 0 a.enc]
def Jg {n:aG} {p2 p3 p5 p6 l d:Nat} {rest:IJ} {fs:EV} {a:aG} (g:rest=fs.map fun f=>[I f]) (i:∀f∈fs,1<=f/\f<=13) (k:jK C n fs a=jK C n (I8 n.kind.toNat) (sA n.kind))
  (q:Hs G h (sp [pG Pr 158 (qM 1786) 41 e d l (.ready,none),aN p2 0 C.enc,aN p3 0 n.enc,aN p5 0 [.bool true],aN p6 0 a.enc]::L)):Hs G h (ckI C n p2 p3 p5 p6 l d e rest::L):=
 Hs.Cn (A:=fun x:EV×aG=>sp<|ckC C n p2 p3 p5 p6 l d e rest x.1 x.2) (fs,a) (Ft g<|Ft i<|Ft k q)
def G0 {n:aG} {p2 p3 p5 p6 l d:Nat} {rest:IJ} (g:Hs G h (ckI C n p2 p3 p5 p6 l d e rest::L)):∃i a,(rest=i.map fun f=>[I f])/\(∀f∈i,1<=f/\f<=13)/\jK C n i a=jK C n (I8 n.kind.toNat) (sA n.kind)/\
  Hs G h (pG Pr 158 (qM 1786) 41 e d l (.ready,none)::aN p2 0 C.enc::aN p3 0 n.enc::aN p5 0 [.bool true]::aN p6 0 a.enc::L):=by
 obtain⟨⟨i,a⟩,g⟩:=Hs.Fl g
 obtain⟨k,g⟩:=kL g
 obtain⟨q,g⟩:=kL g
 obtain⟨t,g⟩:=kL g
 exact⟨i,a,k,q,t,g.fQ⟩
theorem aQm {n:aG} (A:Ob G 2 Eb) (F:Ob G 0 iF) (g:Hs G h L) (q:∀i,Hs G i L->Q (I<|gE C n) i):IU 158 [.agg ⟨C.enc⟩,.agg ⟨n.enc⟩] h Q:=by
 unfold gE at q;refine cW<|eT g ?_;intro P h g;refine eT g fun R h g=>aA<|aE g rfl<|Gj<|cX<|fM<|bG (fun k=>bW ?_) fun k=>oA ?_;rw[bA1 k] at q;refine bB g FC (l:=C.enc) rfl rfl<|uJ F g fun h g=>?_;by_cases hC:C.Ok;rw[bA1 hC] at q ⊢;refine bU<|aab<|bW<|cK g fun S h g=>ax g ?_;intro h g;refine aA<|aE g rfl<|aZ (c:=(sA n.kind).enc) rfl<|cK g fun T h g=>ax g ?_;intro h g;obtain⟨m,J,V,u⟩:=aWo k;refine aA<|aE g rfl ?_;rw[J];refine aAx g fun p h g=>oE g fun d h g=>?_;intro e U;refine rI g fun l h g=>(xQ FD ?_);have z:=aN1 u;have D:Hs G h (aN p 0 [I m]::ckI C n P R S T l d e ((I8 m).map fun f=>[I f])::mk d ()::L):=by
  refine Hs.pS (Jg (a:=sA n.kind) rfl z (by rw[J];rfl) ?_);exact g.to
 clear g;refine aGh A u _ (ckJ C n P R S T l d e) _ _ h _ D ?_ ?_ ?_;intro x rest h M g;obtain⟨t,a,k,E,w,N⟩:=G0 g;clear g;cases t with
 |nil=>cases k
 |cons f t=>
  simp only[kd,List.cons.injEq] at k;obtain⟨rfl,rfl⟩:=k;have y:=E f FB;refine rW (yH N) U<|kY N fun h g=>?_;refine bB g FC (l:=n.enc) rfl rfl<|J8 y g fun h g=>(bB g FC (l:=C.enc) rfl rfl<|Zn hC y F g fun h g=>cX<|fM<|bG (fun O=>?_) fun O=>?_);refine aTx (n:=a) y (g.bF _) fun h g=>lJ g fun h g=>(.inl ⟨rfl,Jg (a:=F6 a f<|Ci n f) rfl FB ?_ g.to⟩);simp_all[jK,bA1];refine ax g ?_;intro h g;refine lJ g fun h g=> .inr ⟨rfl,Hs.Cn a<|Ft ?_ g.to⟩;rw[<-w,jK,bA0 O]
 intro v i g;obtain⟨t,a,k,E,w,g⟩:=G0 g.pS;cases t with
 |cons f t=>cases k
 |nil=>
  rw[jK] at w;rw[<-w] at q;refine qZ g fun i g=>rC<|aE g rfl<|cX ?_;refine(cS<|bB g FC (l:=a.enc) rfl rfl<|bB g FC (l:=n.enc) rfl rfl<|neN<|bG (fun B=>?_) fun B=>?_);refine qP g fun i g=>oA ?_;have:=q i g.to;rwa [bA0 FB] at this;refine qP g fun i g=>oA ?_;have:=q i g.to;rwa [bA1 ⟨rfl,FB⟩] at this
 intro v i g;obtain⟨a,g⟩:=Hs.Fl g.pS;obtain⟨k,g⟩:=kL g;have g:=g.fQ;refine aRe g FC fun i g=>N8 rfl<|aE g rfl<|cX ?_;refine(gF<|qP g fun i g=>oA ?_);have:=q i g.to;rwa [bA0 fun e=>FB] at this;rw[bA0 hC] at q ⊢;refine bU<|aae<|oA<|q h g.to;rw[bA0 k] at q;exact q h g.to
end Go.Proofs.Z.N
variable {l:List (Int×Int)}
section
attribute [local irreducible] cE Br xE zJ Ba K1 sO D9 sF na mC tH yM yV yE pR Be dr bf dm Xy bu py qY vS oL nR Fs Qe rE Xn lz Hj Cl E5 pw A9 zV qJ kI fJ dX
namespace Go.Proofs.Z
open Go.Hm Go.At Go.Mc
instance:Fx eZ 2:=⟨fun _=>rfl,fun _=>rfl⟩
def ixK (p:Int×Int->Bool):List (Int×Int)->Nat->Int
 |[],_=> -1
 |x::l,i=>if p x then(i:Int) else ixK p l (i+1)
theorem Uq {p:Int×Int->Bool}:∀{l:List (Int×Int)} {i:Nat},(ixK p l i= -1/\(∀x∈l,p x=false))\/∃j x,ixK p l i=((i+j:Nat):Int)/\l[j]?=some x/\p x=true/\∀y∈l.take j,p y=false
 |[],i=> .inl ⟨rfl,FB⟩
 |x::l,i=>by
  unfold ixK;split;rename_i a;exact .inr ⟨0,x,FF,rfl,a,FB⟩;rename_i a;have a:p x=false:=GI
  rcases Uq (p:=p) (l:=l) (i:=i+1) with⟨d,e⟩|⟨j,y,d,e,f,g⟩;grind;refine .inr ⟨j+1,y,FB,FB,f,fun z k=>?_⟩;grind
def isG (g:Int) (x:Int×Int):Bool:=decide<|x.1=g
theorem Ia:(ixK (isG g) l 0= -1/\jD l g=none)\/∃(j:Nat) (x:Int×Int),ixK (isG g) l 0=(j:Int)/\l[j]?=some x/\jD l g=some x.2:=by
 rcases Uq (p:=isG g) (l:=l) (i:=0) with⟨d,a⟩|⟨j,x,d,a,f,k⟩;grind[jD,List.find?_eq_none,isG];refine .inr ⟨j,x,FB,a,?_⟩;unfold jD;have:l.find? (fun x=>decide<|x.1=g)=some x:=by
  rw[DH];refine⟨f,_,l.drop<|j+1,?_,fun y t=>by have:=k y t;grind[isG]⟩;obtain⟨q,e⟩:=eh.1 a;rw[<-e,<-mn q,ta]
 grind
variable {G:Bg} {h:AH} {C:bQ}
def Qa (C:bQ) (s:jL) (a:EX) (c:Nat):EU:=[.bool s.dP,I s.aS,I s.at',.bool s.kJ,I C.lH,I C.aJ,.slice a s.bN.length c]
def pL (p:Nat) (C:bQ) (s:jL):HP:=A5 fun x:EX×Nat=>sp [aN p 0<|Qa C s x.1 x.2,ls eZ 2 329 x.1 x.2 s.bN]
variable {s:jL}
def pV (d:Hs G h (pL p C s::L)):∃a c,Hs G h (aN p 0 (Qa C s a c)::ls eZ 2 329 a c s.bN::L):=by
 obtain⟨⟨a,c⟩,d⟩:=d.Fl;exact⟨a,c,d.Fk⟩
def fZ (p:Nat) (C:bQ) (s:jL) (g:Hs G h L) [m:eB (aN p 0) L cs d] [i:eB (ls eZ 2 329 a c) d l L2] (e:cs=Qa C s a c) (f:l=s.bN):Hs G h (pL p C s::L2):=by
 subst e;subst f;exact Hs.Cn (a,c)<|Hs.nY<|g.cH<|m.cH.trans<|i.cH.cons _
def aDu (hC:C.Ok) (d:Hs G h L) (g:∀p f,Hs G f (pL p C Oj::L)->Q (.tuple ⟨[IV p,I 0]⟩) f):IU 33 [I C.lH,I C.aJ] h Q:=by
 have a:=hC;unfold bQ.Ok at a;refine cW<|bE<|aab<|oT<|aab<|bE<|aab<|oT<|aab ?_;exact aZ (c:=Qa C Oj none 0) rfl<|eT d fun p h d=>g _ _<|fZ p C Oj ((wY (enc:=eZ) (e:=329) d)) rfl rfl
def Md (hb:l.length<=100) (k:Hs G h L) [m:eB (ls eZ 2 329 a c) L l L']
  (i:∀d f g,Hs G g (ls eZ 2 329 d f l::ls eZ 2 329 a c l::L')->Q (.slice d l.length f) g):IU 207 [.slice a l.length c] h Q:=
 cW (zB (e:=329) (show Hs G h (dY 2 329 a c (l.length,eL eZ l)::L') from m.of k) FA i)
def J5 (hb:s.bN.length<=100) (d:Hs G h L) [m:eB (pL p C) L s L'] (f:∀q e,Hs G e (pL q C s::pL p C s::L')->Q (IV q) e):IU 150 [IV p] h Q:=by
 obtain⟨a,c,d⟩:=pV<|m.of d;refine cW<|dM<|cS<|bW<|aC<|bB d FC (l:=Qa C s a c) rfl rfl<|cK d fun q h d=>ax d fun h d=>(aC<|aA<|aE d rfl<|Md hb d fun g i h d=>aA<|ay d fun h d=>f _ _ ?_);exact(fZ q C s (fZ p C s (a:=a) (c:=c) (d.dC (aN p 0 _)<|ls eZ 2 329 a c s.bN) rfl rfl) rfl rfl)
def aMe (G:Bg) (f:Value) (A:HP) (p:Int×Int->Bool):Prop:=∀(x:Int×Int) (h:AH) (L:IB) (Q:Value->AH->Prop),Hs G h (A::L)->(∀a,Hs G a (A::L)->Q (.bool<|p x) a)->E5 Pr K f [.agg ⟨eZ x⟩] h Q
theorem ou {f:Value} {A:HP} {p:Int×Int->Bool} (w:aMe G f A p) (hb:l.length<=1000) (d:Hs G h (A::ls eZ 2 329 a c l::L))
  (u:∀q,Hs G q (A::ls eZ 2 329 a c l::L)->Q (I<|ixK p l 0) q):IU 231 [.slice a l.length c,f] h Q:=by
 refine cW<|dB ?_
 have loop:∀(k i:Nat) (h:AH),i+k=l.length->ixK p l 0=ixK p (l.drop i) i->Hs G h (A::ls eZ 2 329 a c l::L)->Dd 231 1 [] Q [.slice a l.length c,f,I l.length,I i] h:=by
  intro k;induction k with
  |zero=>
   intro i h y g d;rw[eg FA] at g;refine bW<|bE<|aab ?_;have:=u _ d;rw[g] at this;exact this
  |succ k z=>
   intro i h y g d;obtain⟨x,B,v⟩:=sB (l:=l) (i:=i) FA;rw[v,ixK] at g;refine bW<|bE<|aae<|bW<|Ac (e:=329) d FC FA FB<|w x h _ _ d fun h d=>eA (fun t=>?_) fun t=>?_;have:=u _ d;rw[g,bA1 t] at this;exact this;rw[bA0 FB] at g;exact bW<|aad<|z (i+1) h FA g d
 exact loop l.length 0 h FA FB d
def aQs:aMe G (.func (.func 232) #[] #[IV p]) (aN p 0 [I g]) (isG g):=by
 intro x h L Q a d;refine qB rfl<|cW<|eT a fun q h a=>aA<|aE a rfl<|aE a rfl<|cC<|d _ a.tail
def Rq (hb:s.bN.length<=100) (d:Hs G h L) [m:eB (pL p C) L s L'] (f:∀e,Hs G e (pL p C s::L')->Q (I<|ixK (isG g) s.bN 0) e):IU 190 [IV p,I g] h Q:=by
 obtain⟨a,c,d⟩:=pV<|m.of d;refine cW<|eT d fun q h d=>aC<|aA<|aE d rfl ?_;have d:Hs G h (aN q 0 [I g]::ls eZ 2 329 a c s.bN::aN p 0 (Qa C s a c)::L'):=d.to;exact ou aQs FA d fun h d=>f _<|(fZ p C s d rfl rfl).to
theorem aE5 (hb:s.bN.length<=100) (d:Hs G h L) [m:eB (pL p C) L s L'] (f:∀u,Hs G u (pL p C s::L')->Q (.tuple ⟨[I (s.uB C w g).1,I (s.uB C w g).2]⟩) u):IU 134 [IV p,I w,I g] h Q:=by
 obtain⟨a,c,d⟩:=pV<|m.of d;unfold jL.uB at f;have i:∀{h:AH},Hs G h (aN p 0 _::ls eZ 2 329 a c s.bN::L')->Hs G h _:=fun d=>fZ p C s (a:=a) (c:=c) d rfl rfl;refine cW<|dM<|cS<|bW<|bE<|bG (fun v=>?_) fun v=>aC<|aA<|aE d rfl<|fX<|bG (fun y=>?_) fun y=>bE<|bG (fun z=>?_) fun z=>oT<|bG (fun A=>?_) fun A=>?_;rw[aaa] at f;exact f _<|i d;rw[aaa] at f;exact f _<|i d;rw[aaa] at f;exact f _<|i d;rw[aaa] at f;exact f _<|i d;rw[aac] at f;refine bW<|Rq (C:=C) hb (i d) fun h d=>bE<|bG (fun B=>?_) fun B=>?_;rcases Ia (g:=g) (l:=s.bN) with⟨k,e2⟩|⟨j,x,k,e2,t⟩;rw[e2] at f;exact f _ d;omega;rcases Ia (g:=g) (l:=s.bN) with⟨k,e2⟩|⟨j,x,k,e2,t⟩;omega;rw[t] at f;rw[k];obtain⟨a,c,d⟩:=pV d;refine bW (aC<|aA<|aE d rfl<|aIm (enc:=eZ) (e:=329) d FA (by rw[aM];exact e2) rfl<|af<|eA (fun q=>?_) fun q=>?_);simp only[q,ew] at f;exact f _<|fZ p C s d rfl rfl;simp only[q] at f;exact f _<|fZ p C s d rfl rfl
theorem nf (hC:C.Ok) (hb:s.bN.length<=100) (d:Hs G h L) [m:eB (pL p C) L s L'] (e:∀t,Hs G t (pL p C (s.dK C g).1::L')->Q (.tuple ⟨[I (s.dK C g).2.1,I (s.dK C g).2.2]⟩) t):IU 192 [IV p,I g] h Q:=by
 have y:=hC.2.1.2;obtain⟨a,c,d⟩:=pV<|m.of d;unfold jL.dK at e;have f:∀{h:AH},Hs G h (aN p 0 _::ls eZ 2 329 a c s.bN::L')->Hs G h _:=fun d=>fZ p C s (a:=a) (c:=c) d rfl rfl;refine cW<|dM<|cS<|bW<|bE<|bG (fun u=>?_) fun u=>aC<|aA<|aE d rfl<|fX<|bG (fun v=>?_) fun v=>?_;rw[aac] at e;exact e _<|f d;rw[aac] at e;exact e _<|f d;rw[aaa] at e;refine bW<|Rq (C:=C) hb (f d) fun h d=>fX<|bG (fun w=>?_) fun w=>?_;rcases Ia (g:=g) (l:=s.bN) with⟨i,e2⟩|⟨j,x,i,e2,q⟩;omega;rw[q] at e;exact e _ d;rcases Ia (g:=g) (l:=s.bN) with⟨i,e2⟩|⟨j,x,i,e2,q⟩;rw[e2] at e;simp only[dn,aO,dd] at e;obtain⟨a,c,d⟩:=pV d;refine bW<|aC<|aA<|aA<|aE d rfl<|eA (fun k=>?_) fun k=>?_;simp only[k,ew] at e;exact e _<|fZ p C s d rfl rfl;simp only[k,aO,dd] at e;refine bW<|Df FA<|aQ rfl<|aQ rfl<|bU<|aab<|bW<|aZ (c:=[.bool true,I g,I<|g/4,.bool false]) rfl<|aC<|aA<|ay (b:=p) (o:=0) d fun h d=>e _ ?_;exact fZ p C _ d rfl rfl;omega
end Go.Proofs.Z
end
