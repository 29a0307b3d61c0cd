/- A part of the proof. -/
import Derived.Test.YtmhapehobfnoiaaGreatDoorQ11
import Derived.Test.YtmhapehobfnoiaaGreatDoorQ9
import Derived.Test.YtmhapehobfnoiaaGreatDoorQ10
import Derived.Test.YtmhapehobfnoiaaGreatDoorQ6
section
open Go Go.Ab
attribute [local irreducible] bA Br ld1 rT sH A2 lH tD kC Nk fZ lT oX oU nW kS xH sY Ts Pe No M5 Qt Ns Ei Gm Sb jV nR qR iK copyV gZ vD Tg Tm E6 jX Kb Pq Tl mL pD uW vP Cl xS Tb qW qT jA eX cS bZ
namespace Go.Proofs.YtmhapehobfnoiaaGreatDoor.H
open Go Go.Ab Go.Hm
section
set_option maxRecDepth 100000
variable {G:Bg} {h:AH} {L L':List HP}
section
variable {C:bQ} {hb mb b o cap p l:Nat} {H:lB} {n:aQ} {Q:Value->AH->Prop}
theorem aEq (hC:C.Ok) (k:Ob G 0 eY) (x:vF C H (2^30 - 1)) {t:Value}
  (a:Hs G h (aE p 0 n.enc::aE hb 0 (lN mb C b o cap)::eM G C.lines mb C (fun i=>(H i).2)::hole G 25 222 (some ⟨b,o,none⟩) cap C.lines b o::dE C.lines (fun i=>eI b (o+i*25) (H i).1)::L)) (u:fT n.kind)
  (d:∀v w,Hs G w (eO v (gQ C H n).2.1::fO G hb C (gQ C H n).1::L)->Q (.tuple ⟨[v,I (gQ C H n).2.2]⟩) w):Dd 215 4 [] Q [(pt hb 0 0),(pt p 0 0),t] h:=by
 unfold gQ at d
 rw[aLx (by simpa using u)] at d
 have A:C.aD<=4:=hC.1.2
 have no:¬((0<=n.core/\n.core<C.aD)/\C.has n.line)->∀h,Hs G h (aE p 0 n.enc::aE hb 0 (lN mb C b o cap)::eM G C.lines mb C (fun i=>(H i).2)::hole G 25 222 (some ⟨b,o,none⟩) cap C.lines b o::dE C.lines (fun i=>eI b (o+i*25) (H i).1)::L)->Q (.tuple ⟨[.slice none 0 0,I 10]⟩) h:=fun B h a=>by
  rw[aLx B] at d;exact d _ _ (qA (Ax C H hb mb b o cap a)).to
 refine bW (aS a ?_)
 intro D h a
 refine aA (aC a rfl (aI (aT (fun y=>no (by omega) _ a.to) (fun y=>?_))))
 refine aA (aC a rfl (aB (aA (aA (aC a rfl (dV (aT (fun z=>no (by omega) _ a.to) (fun z=>?_))))))))
 refine aA (aC a rfl (tY a (bY (dY (aT (fun g=>?_) (fun g=>no (fun e=>g e.2) _ a.to))))))
 rw[aLy ⟨by omega,g⟩] at d
 obtain⟨l,q⟩:=Int.eq_ofNat_of_zero_le g.1
 have f:l<C.lines:=by have:=g.2;omega
 have e:n.line.toNat=l:=by omega
 rw[e] at d
 rw[q] at d
 dsimp only at d
 exact aF6 (mb:=mb) (b:=b) (o:=o) (cap:=cap) hC k f q (by omega) (x l f).1 (by have:=(x l f).2;omega) a.to d
end
theorem Dw {C:bQ} (hC:C.Ok) {hb:Nat} {H:lB} {n:aQ} {Q:Value->AH->Prop} (e:Ob G 0 eY) (y:vF C H (2^30 - 1)) (d:Hs G h L) [m:Has (fO G hb C) L H L']
  (f:∀v i,Hs G i (eO v (gQ C H n).2.1::fO G hb C (gQ C H n).1::L')->Q (.tuple ⟨[v,I (gQ C H n).2.2]⟩) i):Cl Pr K 215 [pt hb 0 0,.agg ⟨n.enc⟩] h Q:=by
 refine cW (dL (m.of d) ?_)
 intro p h d
 obtain⟨mb,b,o,cap,d⟩:=nE d.lJ
 have a:∀t,fT n.kind->Dd 215 4 [] Q [(pt hb 0 0),(pt p 0 0),t] h:=fun t g=>aEq (mb:=mb) (b:=b) (o:=o) (cap:=cap) hC e y d.to g f
 have no:¬fT n.kind->Q (.tuple ⟨[.slice none 0 0,I 15]⟩) h:=fun z=>by
  unfold gQ at f;rw[aLy z] at f;exact f _ _ (qA (Ax C H hb mb b o cap d)).to
 refine cK (bP (bW (aA (aC d rfl (bG (aT (fun k=>bW (bJ k (a _ (by unfold fT;omega)))) (fun k=>bW (bG (aT (fun q=>bW (bJ q (a _ (by unfold fT;omega)))) (fun q=>bW ?_))))))))))
 refine bG (aT (fun u=>bW (bJ u (a _ (by unfold fT;omega)))) (fun u=>bW ?_))
 refine bG (aT (fun w=>bW (bJ w (a _ (by unfold fT;omega)))) (fun w=>bW ?_))
 exact bG (aT (fun x=>a _ (by unfold fT;omega)) (fun x=>no (by unfold fT;omega)))
theorem y3 {C:bQ} {hb:Nat} {H:lB} {x:Int} {Q:Value->AH->Prop} (k:vF C H (2^30 - 1)) (d:Hs G h L) [m:Has (fO G hb C) L H L']
  (e:∀i,Hs G i (fO G hb C (lX C H x).1::L')->Q (I (lX C H x).2) i):Cl Pr K 285 [pt hb 0 0,I x] h Q:=by
 obtain⟨mb,b,o,cap,d⟩:=nE (m.of d)
 unfold lX at e
 refine cW (cK (bP (bW (tY d (bY (dY (aT (fun f=>bW ?_) (fun f=>?_))))))))
 .rw[aLy f] at e;obtain⟨l,rfl⟩:=Int.eq_ofNat_of_zero_le f.1;simp only[sQ.aD0,Int.toNat_natCast] at e;have g:l<C.lines:=by have:=f.2;omega
  have d:=Ij (H:=H) (b:=b) (o:=o) g d
  obtain⟨t,u,d⟩:=dU d
  have q:=(k l g).2
  refine aB (aA (aC d rfl (dO g (aB (aA (aC d rfl (aJ (c:=(Cr l).enc) rfl (aJ (c:=(Cr l).enc) rfl ?_))))))))
  refine dC d rfl rfl rfl ?_
  intro a h d
  refine rD d (by omega) ?_
  intro a4 c4 h d
  dsimp only
  refine aB (aA (ay d ?_))
  intro h d
  refine e _ ?_
  have d:=eF b (o+l*25) ((H l).1.wait (Cr l)) a4 c4 d (by simp[Row.enc,dT,Row.wait]) (by simp[Row.wait]) (by simp[xJ,Row.wait])
  exact(eQ hb C H l ((H l).1.wait (Cr l)) (H l).2 _ mb b o cap g eU.symm d).to
 .rw[aLx f] at e;exact e _ (Ax C H hb mb b o cap d).to
structure Yp (G:Bg) (A:HP) (jv:Value) (j:Int->Int->Int×Bool):Prop where
 ne:∀k:Value->Prop,k (.bool false)->bA (Ns true .eql jv .nilIface) k
 may:∀(h:AH) (L M:List HP) (w l:Int) (Q:Value->AH->Prop),L.Perm (A::M)->Hs G h L->(∀h',Hs G h' L->Q (.tuple ⟨[I (j w l).1,.bool (j w l).2]⟩) h')->Cl Pr K 234 [jv,I w,I l] h Q
section
variable {C:bQ} {hb mb b o cap p l:Nat} {H:lB} {n:aQ} {r:Row} {Q:Value->AH->Prop} {j:Int->Int->Int×Bool} {jv:Value}
def Kr (G:Bg) (hb p mb b o cap l:Nat) (C:bQ) (H:lB) (n:aQ) (r:Row):List HP:=
 [eI b (o+l*25) r,aE p 0 n.enc,aE hb 0 (lN mb C b o cap),eM G C.lines mb C (fun i=>(H i).2),hole G 25 222 (some ⟨b,o,none⟩) cap C.lines b o,zC b o C.lines H l]
theorem s5 (q:l<C.lines) (g:n.kind≠3/\n.kind≠1/\n.kind≠2) (a:Hs G h (Kr G hb p mb b o cap l C H n r++L)) {t:Value}
  (d:∀v k,Hs G k (eO v (r.begun l (H l).2 n (fun w=>j w l)).2::fO G hb C (cB H l (r.begun l (H l).2 n (fun w=>j w l)).1)::L)->Q (.tuple ⟨[v,I 0]⟩) k):Dd 171 13 [] Q [(pt hb 0 0),(I l),jv,(pt b (o+l*25) 0),(pt p 0 0),t] h:=by
 unfold Row.begun at d
 rw[aLx g.1,aab] at d
 simp only[Kr,List.cons_append,List.nil_append] at a
 refine bW (uV a fun a=>bG (aT (fun f=>?_) (fun f=>bW (aS a ?_))))
 .rw[aLy f] at d;exact d _ _ (qA ((eQ hb C H l r (H l).2 _ mb b o cap q eU.symm a).to))
 .rw[aLx f] at d;intro y h a;refine aN a (by decide) (l:=n.enc) rfl rfl ?_;obtain⟨u,x,a⟩:=dU (a.front (eI b (o+l*25) r));refine aB (aA (ay a ?_));intro h a;have i:=a;refine aB (aA (ay a ?_));intro h a;refine bV bX (bV (aN i (by decide) (l:=n.enc) rfl rfl (oN (by simp[nP,aQ.enc]))) ?_);have a:=eF b (o+l*25) (r.Jr n) u x a rfl rfl rfl;have e:(r.Jr n).kD (-1)=r.kD (-1):=rfl;refine N2 a fun v h a=>d _ _ ?_;rw[e] at a;exact(eQ hb C H l ((r.Jr n).gR (r.kD (-1))) (H l).2 _ mb b o cap q eU.symm a).to
theorem Uh (hC:C.Ok) (f:Ob G 0 eY) {A:HP} {x:List HP} (y:Yp G A jv j) (hA:L.Perm (A::x)) (k:l<C.lines) (q:0<=n.core/\n.core<4) (t: -1<=r.owner/\r.owner<4) (i:n.kind=1\/n.kind=2) (d:Hs G h (Kr G hb p mb b o cap l C H n r++L))
  (e:∀v u,Hs G u (eO v (r.begun l (H l).2 n (fun w=>j w l)).2::fO G hb C (cB H l (r.begun l (H l).2 n (fun w=>j w l)).1)::L)->Q (.tuple ⟨[v,I 0]⟩) u):Dd 171 12 [] Q [(pt hb 0 0),(I l),jv,(pt p 0 0)] h:=by
 unfold Row.begun at e
 rw[aab,aLy i] at e
 simp only[Kr,List.cons_append,List.nil_append] at d
 refine bW (aA (aC d rfl (y.may _ _ _ _ _ _ ((hA.append_left (Kr G hb p mb b o cap l C H n r)).trans List.perm_middle) d fun h d=>?_)))
 simp only[Kr,List.cons_append,List.nil_append] at d
 refine aG rfl (aG rfl (bY (dY (dH (fun g=>?_) (fun g=>?_)))))
 .rw[aLy g] at e;refine aN d (by decide) (l:=n.enc) rfl rfl ?_;have d:=eQ hb C H l r (H l).2 _ mb b o cap k eU.symm d;refine Gd hC f d k q (by simp only[gP];exact t) fun v h d=>e _ _ ?_;simp only[gP,Cj] at d;exact d.to
 .rw[aLx (by rw[g];simp)] at e;refine aA (aC d rfl (aJ (c:=(C5 9 n.core l).enc) rfl (aJ (c:=(C5 9 n.core l).enc) rfl (dC d rfl rfl rfl ?_))));intro a h d;refine e _ _ ?_;have d:=Cz (n:=C5 9 n.core l) rfl d;exact(eQ hb C H l r (H l).2 _ mb b o cap k eU.symm d).to
theorem aBz (hC:C.Ok) (i:Ob G 0 eY) (k:l<C.lines) (g:0<=n.core/\n.core<4) (u:n.kind=3) (d:Hs G h (Kr G hb p mb b o cap l C H n r++L))
  (f:∀v x,Hs G x (eO v (r.begun l (H l).2 n (fun w=>j w l)).2::fO G hb C (cB H l (r.begun l (H l).2 n (fun w=>j w l)).1)::L)->Q (.tuple ⟨[v,I 0]⟩) x):Dd 171 6 [] Q [(pt hb 0 0),(I l),(pt b (o+l*25) 0),(pt p 0 0)] h:=by
 unfold Row.begun at f
 rw[aLy u] at f
 simp only[Kr,List.cons_append,List.nil_append] at d
 refine bW (aS d ?_)
 intro A h d
 obtain⟨y,z,d⟩:=dU (d.front (eI b (o+l*25) r))
 refine aB (aA (aC d rfl (aA (aC d rfl (bG (aT (fun q=>?_) (fun q=>?_)))))))
 .have d:=eF b (o+l*25) r y z d rfl rfl rfl;refine aA (aC d rfl (dH (fun t=>bW (aS d ?_)) (fun t=>bW ?_)))
  .rw[aLy ⟨q,t⟩] at f;intro A h d;refine aB (aA (aC d rfl (aA (aN d (by decide) (l:=mO (n.d0,n.d1)) rfl rfl (Dz hC i d k fun h d=>?_)))));refine aA (aC d rfl (Dm d g fun h d=>?_));refine aA (aC d rfl (aJ (c:=(C5 10 n.core l).enc) rfl (aJ (c:=(C5 10 n.core l).enc) rfl (dC d rfl rfl rfl ?_))));intro a h d;refine f _ _ ?_;have d:=Cz (n:=C5 10 n.core l) rfl d;exact(eQ hb C H l (r.leave n.core) (n.d0,n.d1) _ mb b o cap k rfl d).to
  .rw[aLx (by rw[t];simp)] at f;refine aA (aC d rfl (Dm d g fun h d=>?_));refine aA (aC d rfl (aJ (c:=(C5 10 n.core l).enc) rfl (aJ (c:=(C5 10 n.core l).enc) rfl (dC d rfl rfl rfl ?_))));intro a h d;refine f _ _ ?_;have d:=Cz (n:=C5 10 n.core l) rfl d;exact(eQ hb C H l (r.leave n.core) (H l).2 _ mb b o cap k eU.symm d).to
 .rw[aLx (fun e=>q e.1)] at f;have d:=eF b (o+l*25) r y z d rfl rfl rfl;refine aA (aC d rfl (Dm d g fun h d=>?_));refine aA (aC d rfl (aJ (c:=(C5 10 n.core l).enc) rfl (aJ (c:=(C5 10 n.core l).enc) rfl (dC d rfl rfl rfl ?_))));intro a h d;refine f _ _ ?_;have d:=Cz (n:=C5 10 n.core l) rfl d;exact(eQ hb C H l (r.leave n.core) (H l).2 _ mb b o cap k eU.symm d).to
end
theorem tg {C:bQ} (hC:C.Ok) {hb:Nat} {H:lB} {x:Int} {jv:Value} {j:Int->Int->Int×Bool} {N:Nat} {Q:Value->AH->Prop} (g:Ob G 0 eY) {A:HP} {U:List HP} (J:Yp G A jv j) (X:vF C H N) (a:Hs G h L) [m:Has (fO G hb C) L H L'] (hA:L'.Perm (A::U))
  (d:∀v T,Hs G T (eO v (kR C H x (fun w=>j w x)).2.1::fO G hb C (kR C H x (fun w=>j w x)).1::L')->Q (.tuple ⟨[v,I (kR C H x (fun w=>j w x)).2.2]⟩) T):Cl Pr K 171 [pt hb 0 0,I x,jv] h Q:=by
 obtain⟨mb,b,o,cap,a⟩:=nE (m.of a)
 unfold kR at d
 refine cW (cK (bP (bW (tY a (bY (dY (aT (fun y=>bW (J.ne _ (bP (bW ?_)))) (fun y=>?_))))))))
 rotate_left
 .rw[aLx y] at d;exact d _ _ (qA (Ax C H hb mb b o cap a)).to
 rw[aLy y] at d
 obtain⟨l,rfl⟩:=Int.eq_ofNat_of_zero_le y.1
 have k:l<C.lines:=by have:=y.2;omega
 simp only[Int.toNat_natCast] at d
 have a:=Ij (H:=H) (b:=b) (o:=o) k a
 obtain⟨R,S,a⟩:=dU a
 have same:∀h,Hs G h (eI b (o+l*25) (H l).1::zC b o C.lines H l::aE hb 0 (lN mb C b o cap)::eM G C.lines mb C (fun i=>(H i).2)::hole G 25 222 (some ⟨b,o,none⟩) cap C.lines b o::L')->Hs G h (eO (.slice none 0 0) []::fO G hb C (cB H l (H l))::L'):=fun h a=>
  qA ((eQ hb C H l (H l).1 (H l).2 _ mb b o cap k eU.symm a).to)
 unfold sQ.begin at d
 refine aB (aA (aC a rfl (dO k (aB (aA (aC a rfl (dH (fun E=>?_) (fun E=>bW ?_))))))))
 .rw[aLy E] at d;exact d _ _ (same _ (eF b (o+l*25) (H l).1 R S a rfl rfl rfl).to)
 rw[aLx (by rw[E];simp)] at d
 refine aB (aA (aC a rfl (bH (bG (aT (fun F=>?_) (fun F=>bW ?_))))))
 .have q:(H l).1.waits=[]:=List.eq_nil_of_length_eq_zero (by omega);rw[q] at d;exact d _ _ (same _ (eF b (o+l*25) (H l).1 R S a rfl rfl rfl).to)
 .cases q:(H l).1.waits with
  |nil=>rw[q] at F;simp at F
  |cons n w=>
   rw[q] at d
   dsimp only at d
   have t:=(X l k).1
   have u:=t.waits n (by rw[q];exact List.mem_cons_self)
   have f:=a.front (dI 9 162 R S ((H l).1.waits.length,eJ (H l).1.waits))
   rw[q] at f
   simp only[List.length_cons,Mx] at f
   obtain⟨Z,o2,rfl,Y,B,_⟩:=f.oT (by omega)
   refine aB (aA (aC a rfl ?_))
   rw[q]
   refine dO (i:=0) (by simp) (Lo B (by decide) (l:=n.enc) (by simp[aQ.enc]) rfl ?_)
   clear B
   refine bN f ?_
   intro p h a
   refine ax a ?_
   intro h a
   refine aB (aA (aC a rfl ?_))
   rw[q]
   refine x7 (e:=162) a ?_
   intro V W a
   refine aB (aA (ay a ?_))
   intro h a
   have a:=eF b (o+l*25) ((H l).1.next w) V W a rfl rfl (by simp[Row.next,aQ.enc])
   have a:Hs G h (Kr G hb p mb b o cap l C H n ((H l).1.next w)++L'):=by
    simp only[Kr,List.cons_append,List.nil_append];exact a.to
   have z:=a
   simp only[Kr,List.cons_append,List.nil_append] at z
   refine aA (aC z rfl (bG (aT (fun O=>aBz (j:=j) hC g k u O a d) (fun O=>bW (bG (aT (fun D=>bW (bJ D (Uh (r:=(H l).1.next w) hC g J hA k u t.owner (.inl D) a d))) (fun D=>bW (bG (aT (fun P=>Uh (r:=(H l).1.next w) hC g J hA k u t.owner (.inr P) a d) (fun P=>s5 k ⟨O,D,P⟩ a d))))))))))
end
end Go.Proofs.YtmhapehobfnoiaaGreatDoor.H
end
namespace Go.Proofs.YtmhapehobfnoiaaGreatDoor
open Go Go.Ab Go.Hm Go.At Go.Mc
section
theorem aEd {a b c d:Bool} {k:Value->Prop} (g:k (.bool (!(a||b||c||d)))) {f:Bool} (hc:f=true:=by kernel_rfl):Gm f [1,1,1,1] .eql (.agg ⟨[.bool a,.bool b,.bool c,.bool d]⟩) (.agg ⟨[.bool false,.bool false,.bool false,.bool false]⟩) k:=by
 have e:Ei [1,1,1,1] .eql (.agg ⟨[.bool a,.bool b,.bool c,.bool d]⟩) (.agg ⟨[.bool false,.bool false,.bool false,.bool false]⟩)=some (.bool (!(a||b||c||d))):=by cases a<;>cases b<;>cases c<;>cases d<;>kernel_rfl
 exact⟨hc,_,e,g⟩
set_option maxRecDepth 100000
attribute [local irreducible] bA Br ld1 rT sH A2 lH tD kC Nk fZ lT oX oU nW kS xH sY Ts Pe No M5 Qt Ns Ei Gm Sb jV nR qR iK copyV gZ vD Tg Tm E6 jX Kb Pq Tl mL pD uW vP Cl xS Tb qW qT jA eX cS bZ
variable {G:Bg} {h:AH} {L L' M:List HP} {Q:Value->AH->Prop} {C:bQ} {m:Mon} {p:Nat}
theorem R7 {g:Int} (d:gX C m) (hC:C.Ok) (a:m.has g):∃n:Nat,g=n/\n<m.dD.length/\n<16:=by
 have:=d.len;have:=hC.2.1;unfold Mon.has at a;exact⟨g.toNat,by omega,by omega,by omega⟩
theorem me {r:Mc.jH} {i:Nat} (a:i<4):dT r.enc (0+8+i*1) [.bool false]=(r.heard i).enc:=by
 have:i=0\/i=1\/i=2\/i=3:=by omega
 rcases this with rfl|rfl|rfl|rfl<;>rfl
theorem Oq {f:Nat->Option Mc.jH} {g:Nat} {r:Mc.jH}:Ja (fK f) g (some (.agg ⟨r.enc⟩))=fK (cB f g (some r)):=Ga (x:=some r)
theorem Nd {g core:Int} (hC:C.Ok) (F:gX C m) (a:Hs G h L) [J:Has (fD C p) L m L'] (d:∀y,Hs G y (fD C p (m.dropped C.aD g core).1::L')->Q (.tuple ⟨[.bool (m.dropped C.aD g core).2.1,I (m.dropped C.aD g core).2.2]⟩) y):Cl Pr K 225 [pt p 0 0,I g,I core] h Q:=by
 have O:=hC.1;unfold Mon.dropped at d;obtain⟨t,b,a⟩:=jP (J.of a);refine cW (cK (bP (bW (aB (aA (am p a rfl (Ad (m:=m) a fun h a=>?_)))))));by_cases w:m.has g;rotate_left;rw[aLx w];rw[aLy w] at d;exact aG rfl (aG rfl (bN a fun q h a=>ax (b:=q) a fun h a=>aX (aad (d _ (dR (t:=t) (b:=b) a.to)))));rw[aLy w];rw[aLx (by simpa using w)] at d;obtain⟨n,rfl,P,u⟩:=R7 F hC w;refine aG rfl (aG rfl (bN a fun q h a=>ax (b:=q) a fun h a=>aX (aaa (bW (aB (aA (am p a rfl (O4 (m:=m) a (bN a fun v h a=>ax (b:=v) a fun h a=>aA (am v a rfl (aX (aT (fun k=>?_) (fun k=>?_)))))))))))));cases hr:m.run (n:Int) with
 |none=>rw[hr] at d;exact d _ (dR (t:=t) (b:=b) a.to)
 |some r=>
  rw[hr] at k d;simp only[Option.getD_some] at k;dsimp only at d;rw[aLy k] at d;exact d _ (dR (t:=t) (b:=b) a.to)
 cases hr:m.run (n:Int) with
 |none=>rw[hr] at k;exact absurd (show(0:Int)≠1 by omega) k
 |some r=>
 rw[hr] at k a d;simp only[Option.getD_some] at k a;dsimp only at d;rw[aLx k] at d;by_cases z:0<=core/\core<C.aD;rotate_left;rw[aLy (Or.inl z)] at d;refine bW (aI (aT (fun B=>d _ (dR (t:=t) (b:=b) a.to)) fun B=>aB (aA (am p a rfl (dV (aad (d _ (dR (t:=t) (b:=b) a.to))))))));obtain⟨i,rfl⟩:=Int.eq_ofNat_of_zero_le z.1;have D:i<4:=by omega
 have x:r.enc[0+8+i*1]?=some (.bool (r.waits i)):=by
  have:i=0\/i=1\/i=2\/i=3:=by omega
  rcases this with rfl|rfl|rfl|rfl<;>rfl
 refine bW (aI (aaa (aB (aA (am p a rfl (dV (aaa (aA (gF (by omega) (am v a x (bY (dY ?_))))))))))));rw[Int.toNat_natCast] at d;cases hw:r.waits i with
 |false=>
  rw[aLy (Or.inr hw)] at d;exact bP (d _ (dR (t:=t) (b:=b) a.to))
 |true=>
 rw[aLx (by rw[hw];simp;omega)] at d;have E:r.enc.length=12:=rfl;refine dN (bW (aA (gF (by omega) (bK (b:=v) (o:=0) a rfl (by rw[E];exact Nat.ble_eq_true_of_le (by simp;omega)) rfl rfl fun h a=>?_))));rw[me D] at a;refine aA (iV (b:=v) (o:=0) a (by decide) (l:=[.bool ((r.heard i).waits 0),.bool ((r.heard i).waits 1),.bool ((r.heard i).waits 2),.bool ((r.heard i).waits 3)]) rfl rfl (aJ (c:=[.bool false,.bool false,.bool false,.bool false]) rfl (aEd (dH (fun f=>?_) (fun f=>?_)))));have e:({(r.heard i) with phase:=2}:Mc.jH)=(r.heard i).mH:=by unfold jH.mH;rw[show(r.heard i).none=true from f];rfl
 refine bW (aA (ay (b:=v) (o:=0) a fun h a=>aS a fun N h a=>?_));have A:dT (r.heard i).enc (0+7) [I 2]=({(r.heard i) with phase:=2}:Mc.jH).enc:=rfl;rw[A,e] at a;refine aB (aA (am p a rfl (an v a (l:=(r.heard i).mH.enc) rfl rfl (S1 a u fun h a=>?_))));rw[Oq] at a;have a:Hs G h (fD C p (m.dJ n (some (r.heard i).mH))::L'):=(dR (m:=m.dJ n (some (r.heard i).mH)) (a.cE (aE p 0 [pt t 0 0,I C.aD,fS b]) (gL t m.dD) (iA b (fK (cB m.runs n (some (r.heard i).mH)))))).to;have:=d h a;rw[f];rw[show(r.heard i).none=true from f] at this;exact this;have e:r.heard i=(r.heard i).mH:=by unfold jH.mH;rw[show(r.heard i).none=false from f];rfl
 rw[e] at a;refine bW (aS a fun N h a=>aB (aA (am p a rfl (an v a (l:=(r.heard i).mH.enc) rfl rfl (S1 a u fun h a=>?_)))));rw[Oq] at a;have a:Hs G h (fD C p (m.dJ n (some (r.heard i).mH))::L'):=(dR (m:=m.dJ n (some (r.heard i).mH)) (a.cE (aE p 0 [pt t 0 0,I C.aD,fS b]) (gL t m.dD) (iA b (fK (cB m.runs n (some (r.heard i).mH)))))).to;have:=d h a;rw[f];rw[show(r.heard i).none=false from f] at this;exact this
theorem xz {n:Nat} {r:Mc.jH} (h:m.run (n:Int)=some r):m.runs n=some r:=by
 unfold Mon.run at h;rw[aae] at h;exact h
theorem X9 {g:Int} (hC:C.Ok) (D:gX C m) (a:Hs G h L) [J:Has (fD C p) L m L'] (d:∀v,Hs G v (fD C p (m.over g).1::L')->Q (.tuple ⟨[.agg ⟨nG ((m.over g).2.1.getD A4)⟩,I (m.over g).2.2]⟩) v):Cl Pr K 172 [pt p 0 0,I g] h Q:=by
 unfold Mon.over at d;refine cW (bN (cs:=nG A4) (J.of a) fun u h a=>?_);obtain⟨t,b,a⟩:=jP (a.front (fD C p m));refine cK (bP (bW (aB (aA (am p a rfl (Ad (m:=m) a fun h a=>?_))))));have bad:∀{h:AH} {M:List HP} {e:Int},[Sub M L']->Hs G h (aE u 0 (nG A4)::aE p 0 [pt t 0 0,I C.aD,fS b]::gL t m.dD::iA b (fK m.runs)::M)->(∀v,Hs G v (fD C p m::L')->Q (.tuple ⟨[.agg ⟨nG A4⟩,I e]⟩) v)->
   bA (nY [(I 0),(I 0),(I 0),(I 0),(I 0),(I 0),(.bool false)] []) fun A=>bA (sH h 7 (pt u 0 0) (.agg ⟨A⟩)) fun w=>bA (rT w 7 (pt u 0 0)) fun v12=>Q (.tuple ⟨[v12,I e]⟩) w:=by
  intro h M e _ a F
  exact aJ (c:=nG A4) rfl (ax (b:=u) a fun h a=>an u a (l:=nG A4) rfl rfl (F _ (dR (t:=t) (b:=b) a.to)))
 by_cases y:m.has g;rotate_left;rw[aLx y];rw[aLy y] at d;exact aG rfl (aG rfl (bN a fun q h a=>ax (b:=q) a fun h a=>aX (aad (bad (M:=L') a.to d))));rw[aLy y];rw[aLx (by simpa using y)] at d;obtain⟨n,rfl,P,E⟩:=R7 D hC y;refine aG rfl (aG rfl (bN a fun q h a=>ax (b:=q) a fun h a=>aX (aaa (bW (aB (aA (am p a rfl (O4 (m:=m) a (bN a fun z h a=>ax (b:=z) a fun h a=>aA (am z a rfl (aX (aT (fun k=>?_) (fun k=>?_)))))))))))));cases hr:m.run (n:Int) with
 |none=>rw[hr] at d;exact bad (M:=L') a.to d
 |some r=>
  rw[hr] at k d;simp only[Option.getD_some] at k;dsimp only at d;rw[aLy k] at d;exact bad (M:=L') a.to d
 cases hr:m.run (n:Int) with
 |none=>rw[hr] at k;exact absurd (show(0:Int)≠2 by omega) k
 |some r=>
 rw[hr] at k a d;simp only[Option.getD_some] at k a;dsimp only at d;rw[aLx k] at d;obtain⟨R,N,S,T,O⟩:=D.run n r (xz hr);refine bW (aS a fun U h a=>aB (aA (am p a rfl (aA (aA (aA (am z a rfl (aA (aA (am z a rfl (aJ (c:=(⟨r.then',false⟩:iB).enc) rfl (Fw (x:=⟨r.then',false⟩) a fun h a=>?_))))))))))));have i:(0<=r.cN/\r.cN<m.dD.length)/\(0<=r.then'/\r.then'<=4):=⟨by rw[N];omega,O⟩;rw[aLy i] at a;rw[aLy i];refine aX (aaa (bW (aB (aA (am p a rfl (aDy a fun h a=>aA (an z a (l:=nG r) rfl rfl (ax (b:=u) a fun h a=>an u a (l:=nG r) rfl rfl (d _ ?_)))))))));have B:=Ga (f:=m.runs) (g:=n) (x:=none);rw[Option.map_none] at B;rw[B] at a;have a:Hs G h (fD C p ((m.kh r.cN.toNat ⟨r.then',false⟩).dJ n none)::L'):=(dR (m:=(m.kh r.cN.toNat ⟨r.then',false⟩).dJ n none) (a.cE (aE p 0 [pt t 0 0,I C.aD,fS b]) (gL t (m.dD.set r.cN.toNat ⟨r.then',false⟩)) (iA b (fK (cB m.runs n none))))).to;exact a
end
end Go.Proofs.YtmhapehobfnoiaaGreatDoor
section
open Go Go.Ab
attribute [local irreducible] bA Br ld1 rT sH A2 lH tD kC Nk fZ lT oX oU nW kS xH sY Ts Pe No M5 Qt Ns Ei Gm Sb jV nR qR iK copyV gZ vD Tg Tm E6 jX Kb Pq Tl mL pD uW vP Cl xS Tb qW qT jA eX cS bZ
namespace Go.Proofs.YtmhapehobfnoiaaGreatDoor
open Go Go.Ab Go.Hm Go.At Go.Mc
section
def sM (m:Mon) (done:List Int) (k:Nat):Option Value:=if(k:Int)∈done then fK m.runs k else none
theorem ph {m:Mon}:sM m []=fun _=>none:=by funext k;unfold sM;simp
theorem jc {m:Mon} {done:List Int} {k:Nat} {r:Mc.jH} (a:m.runs k=some r):Ja (sM m done) k (some (.agg ⟨r.enc⟩))=sM m (done++[(k:Int)]):=by
 funext j;unfold Ja sM;by_cases e:j=k;subst e;simp[fK,a]
 .rw[aLx e];have:((j:Int)∈done++[(k:Int)])↔(j:Int)∈done:=by simp;omega
  simp only[this]
theorem jz {m:Mon} (a:∀g r,m.runs g=some r->g<16):sM m (m.running.map fun k:Nat=>(k:Int))=fK m.runs:=by
 funext k;unfold sM;split;rfl;rename_i d;cases hr:m.runs k with
 |none=>unfold fK;rw[hr];rfl
 |some r=>exact absurd (List.mem_map.2 ⟨k,qH.2 ⟨a k r hr,by rw[hr];rfl⟩,rfl⟩) d
set_option maxRecDepth 100000
variable {G:Bg} {h:AH} {L L' M:List HP} {Q:Value->AH->Prop} {C:bQ} {m:Mon} {p:Nat}
abbrev aF8 (C:bQ) (m:Mon) (p p2 a q t b:Nat) (e:Nat->Value) (d l:Nat) (done:List Int):HP:=
 sp [fM Pr 73 (fQ 122) 39 e d l (.ready,none),sp [aE p2 0 [pt p 0 0],aE a 0 [pt q 0 0]],fD C p m,sp [aE q 0 [pt t 0 0,I C.aD,fS b],gL t m.dD,iA b (sM m done)]]
theorem Bp (hC:C.Ok) (R:gX C m) (u:Hs G h L) [mm:Has (fD C p) L m L'] (hk:∀q O,Hs G O (fD C q m::fD C p m::L')->Q (pt q 0 0) O):Cl Pr K 73 [pt p 0 0] h Q:=by
 have P:=R.len;have α:=hC.2.1;refine cW (dL (mm.of u) fun w h u=>?_);refine am w u rfl (cK (bP ?_));obtain⟨t0,E,u⟩:=jP (u.front (fD C p m));refine bW (aS u fun B h0 y=>am w y rfl (aB (aA (am p y rfl (bq (es:=m.dD) (by omega) y fun t h u=>?_)))));refine am w u rfl (aB (aA (am p u rfl (am w u rfl (aB (aA (am p u rfl (aEf (b:=E) (f:=fK m.runs) u fun _=>aIk (Xu (r:=B) (i:=14) (n:=19) (D:=[]) u rfl rfl fun b h u=>?_)))))))));refine aJ (c:=[pt t 0 0,I C.aD,fS b]) rfl (xL (r:=B) (i:=16) (n:=19) (D:=[14]) u rfl rfl fun q h u=>kI (r:=B) (i:=17) (n:=19) (D:=[16,14]) u rfl rfl fun z h u=>ax (b:=z) u fun h u=>?_);refine bV (am w y rfl bX) (bV (aB bX) (bV (aA bX) (bV (am p y rfl iN) (bV (am w y rfl bX) (bV (aB bX) (bV (aA bX) (bV (am p y rfl (by simp[nP,fS])) ?_)))))));have u:=dR (u.cE (aE p 0 [pt t0 0 0,I C.aD,fS E]) (gL t0 m.dD) (iA E (fK m.runs)));refine am w u rfl (Ce (C:=C) (m:=m) u fun W U V h u=>iI u fun d h u=>?_);intro e he;refine jL u fun l h u=>oB rfl ?_;rw[<-ph (m:=m)] at u;have u:Hs G h (H.Nv 3 W U V (m.running.map fun k:Nat=>(k:Int))::aF8 C m p w z q t b e d l []::mk d ()::L'):=by
  have u:=(u.cE (aE q 0 [pt t 0 0,I C.aD,fS b]) (gL t m.dD) (iA b (sM m []))).M4;have u:=(u.bL (aE w 0 [pt p 0 0]) (aE z 0 [pt q 0 0])).yC;have u:=(u.gN (fM Pr 73 (fQ 122) 39 e d l (.ready,none)) (sp [aE w 0 [pt p 0 0],aE z 0 [pt q 0 0]]) (fD C p m) (sp [aE q 0 [pt t 0 0,I C.aD,fS b],gL t m.dD,iA b (sM m [])])).E7;exact u.to
 refine(H.Em (e:=3) (p:=W) (a:=U) (c:=V) (xs:=m.running.map fun k:Nat=>(k:Int)) (by have:=List.length_filter_le (fun g=>(m.runs g).isSome) (List.range 16);simp[Mon.running] at this ⊢;omega)).fold
  (X:=fun done=>aF8 C m p w z q t b e d l done) (Z:=fun _ _=>rN False) u ?_ ?_ ?_
 .intro done x h M S u;have u:=u.Zp;obtain⟨k,A,rfl⟩:∃k∈m.running,(k:Int)=x:=by
   obtain⟨ys,N⟩:=S;have:x∈m.running.map fun k:Nat=>(k:Int):=by rw[<-N];simp
   obtain⟨k,Y,h2⟩:=List.mem_map.1 this;exact⟨k,Y,h2⟩
  obtain⟨r,T⟩:=Option.isSome_iff_exists.1 (qH.1 A).2;have J:m.run (k:Int)=some r:=by unfold Mon.run;rw[aae];exact T
  have u:=(u.front (sp [aE w 0 [pt p 0 0],aE z 0 [pt q 0 0]])).Bn;have u:=(u.front (sp [aE q 0 [pt t 0 0,I C.aD,fS b],gL t m.dD,iA b (sM m done)])).yG;refine rW (nX u) he (fG u fun h u=>aS u fun B h u=>?_);obtain⟨t2,F,u⟩:=jP (u.front (fD C p m));refine am z u rfl (aB (aA (am q u rfl (am w u rfl (aB (aA (am p u rfl (O4 (b:=F) (m:=m) u ?_))))))));rw[J];refine S1 (b:=b) (f:=sM m done) u (qH.1 A).1 fun h u=>gK u fun h u=> .inl ⟨rfl,?_⟩;rw[show(some r).getD A4=r from rfl,jc T] at u;have u:=dR (u.cE (aE p 0 [pt t2 0 0,I C.aD,fS F]) (gL t2 m.dD) (iA F (fK m.runs)));have u:=(u.cE (aE q 0 [pt t 0 0,I C.aD,fS b]) (gL t m.dD) (iA b (sM m (done++[(k:Int)])))).M4;have u:=(u.bL (aE w 0 [pt p 0 0]) (aE z 0 [pt q 0 0])).yC;have u:=(u.gN (fM Pr 73 (fQ 122) 39 e d l (.ready,none)) (sp [aE w 0 [pt p 0 0],aE z 0 [pt q 0 0]]) (fD C p m) (sp [aE q 0 [pt t 0 0,I C.aD,fS b],gL t m.dD,iA b (sM m (done++[(k:Int)]))])).E7;exact u.to
 intro v h u;have u:=(u.front (aF8 C m p w z q t b e d l (m.running.map fun k:Nat=>(k:Int)))).Zp;have u:=(u.front (sp [aE w 0 [pt p 0 0],aE z 0 [pt q 0 0]])).Bn;have u:=(u.front (sp [aE q 0 [pt t 0 0,I C.aD,fS b],gL t m.dD,iA b (sM m (m.running.map fun k:Nat=>(k:Int)))])).yG;rw[jz (R.aHe hC)] at u;have u:=dR (u.cE (aE q 0 [pt t 0 0,I C.aD,fS b]) (gL t m.dD) (iA b (fK m.runs)));exact jN u fun h u=>jR (am z u rfl (jW u fun h u=>iT (hk _ _ u.to)))
 .intro done x v h S u;obtain⟨hd,_⟩:=(u.front (rN False)).To;exact hd.elim
end
end Go.Proofs.YtmhapehobfnoiaaGreatDoor
end
namespace Go.Proofs.YtmhapehobfnoiaaGreatDoor
open Go Go.Ab Go.Hm Go.At Go.Mc
section
theorem vx {t:TypeId} {v:Value} {k:Value->Prop} (a:k (.bool false)):bA (Ns true .eql (.iface t v) .nilIface) k:=⟨_,rfl,a⟩
set_option maxRecDepth 100000
attribute [local irreducible] bA Br ld1 rT sH A2 lH tD kC Nk fZ lT oX oU nW kS xH sY Ts Pe No M5 Qt Ns Ei Gm Sb jV nR qR iK copyV gZ vD Tg Tm E6 jX Kb Pq Tl mL pD uW vP Cl xS Tb qW qT jA eX cS bZ
variable {G:Bg} {h:AH} {L L' M:List HP} {Q:Value->AH->Prop} {C:bQ} {m:Mon} {p:Nat}
theorem R4 {ov:Value} {os:List Int} {k:Value->Prop} (d:A.H5 G ov os) (a:k (I os.length)):bA (kS ov) k:=A.tK d (by rw[A.sD];exact a)
theorem gU {α:Type} {l:List α} {i:Nat} (h:i<l.length):∃x,l[i]?=some x/\l.drop i=x::l.drop (i+1):=⟨l[i],by simp,List.drop_eq_getElem_cons h⟩
def sG (os:List Int):List iB:=os.map fun o=>⟨o,false⟩
theorem Se {ov:Value} {os:List Int} (q:A.H5 G ov os) (y:os.length<=16) (t:∀o∈os,0<=o/\o<=4) {t0:Value} (k:∀d,Hs G d L->Dd 41 4 [] Q [t0,ov] d):
  ∀(f i:Nat) (h:AH),i+f=os.length->Hs G h L->Dd 41 2 [] Q [t0,ov,ov,(I os.length),(I i)] h:=by
 intro f
 induction f with
 |zero=>intro i h g a;exact bW (aI (aaa (k _ a)))
 |succ f v=>
  intro i h g a
  obtain⟨x,e,w⟩:=gU (l:=os) (i:=i) (by omega)
  have u:=t x (List.mem_of_getElem? e)
  have a:=A.rM q a
  exact bW (aI (aad (bW (yY a (x:=[I x]) (by simp[A.Dy,e]) rfl (aI (aaa (iM (aaa (bW (aac (v (i+1) h (by omega) a.tail)))))))))))
theorem oe {os:List Int} {i:Nat} {x:Int} (a:os[i]?=some x):(sG (os.take i)++List.replicate (os.length - i) kX).set i ⟨x,false⟩=sG (os.take (i+1))++List.replicate (os.length - (i+1)) kX:=by
 obtain⟨f,e⟩:=List.getElem?_eq_some_iff.1 a;have d:(sG (os.take i)).length=i:=by simp[sG];omega
 rw[List.set_append_right _ _ (by omega),d,Nat.sub_self,show os.length - i=(os.length - (i+1))+1 by omega,List.replicate_succ,List.set_cons_zero,List.take_add_one,a];simp[sG]
theorem mr {ov:Value} {os:List Int} (hC:C.Ok) (g:A.H5 G ov os) (P:os.length=C.bM.toNat) (z:∀o∈os,0<=o/\o<=4) (a:Hs G h L) (F:∀q w,Hs G w (fD C q ⟨sG os,fun _=>none⟩::L)->Q (.tuple ⟨[pt q 0 0,I 0]⟩) w):Cl Pr K 41 [I C.aD,ov] h Q:=by
 have N:=hC.1;have D:=hC.2.1;refine cW (aI (aaa (iM (aaa (R4 g (aI (aaa (R4 g (iM (aaa (bW (R4 g ?_))))))))))));refine Se g (by omega) z ?_ os.length 0 h (by omega) a;intro h a;refine bW (R4 g (jf (by omega) a fun t h a=>aG rfl (aG rfl (aX (aaa (bW (uo a fun b h a=>?_)))))));refine aJ (c:=[pt t 0 0,I C.aD,fS b]) rfl (dL a fun q h a=>R4 g ?_);have loop:∀(f i:Nat) (h:AH),i+f=os.length->Hs G h (gL t (sG (os.take i)++List.replicate (os.length - i) kX)::aE q 0 [pt t 0 0,I C.aD,fS b]::iA b (fun _=>none)::L)->Dd 41 7 [] Q [(pt q 0 0),ov,(I os.length),(I i)] h:=by
  intro f;induction f with
  |zero=>
   intro i h E a;refine bW (aI (aaa (F _ _ ?_)));have k:i=os.length:=by omega
   subst k;rw[List.take_length,Nat.sub_self,List.replicate_zero,List.append_nil] at a;have a:Hs G h (aE q 0 [pt t 0 0,I C.aD,fS b]::gL t (sG os)::iA b (fun _=>none)::L):=a.to;exact dR (m:=⟨sG os,fun _=>none⟩) a
  |succ f J=>
   intro i h E a;obtain⟨x,u,O⟩:=gU (l:=os) (i:=i) (by omega);have v:=z x (List.mem_of_getElem? u);have a:=A.rM g a;refine bW (aI (aad (bW (yY a (x:=[I x]) (by simp[A.Dy,u]) rfl (aB (aA (am q a rfl (aJ (c:=(⟨x,false⟩:iB).enc) rfl (Fw (x:=⟨x,false⟩) a.tail fun h a=>?_)))))))));have y:(sG (os.take i)++List.replicate (os.length - i) kX).length=os.length:=by simp[sG];omega
   have d:(0<=(i:Int)/\(i:Int)<(sG (os.take i)++List.replicate (os.length - i) kX).length)/\(0<=(⟨x,false⟩:iB).owner/\(⟨x,false⟩:iB).owner<=4):=⟨by omega,v⟩;rw[aLy d] at a;rw[aLy d];rw[Int.toNat_natCast,oe u] at a;exact aX (aaa (bW (aac (J (i+1) h (by omega) a))))
 have e:(os.length:Int).toNat=os.length:=Int.toNat_natCast _;refine loop os.length 0 h (by omega) ?_;rw[e] at a;have B:List.replicate os.length kX=sG (os.take 0)++List.replicate (os.length - 0) kX:=rfl;rw[B] at a;exact a.to
theorem G2 (hC:C.Ok) {x:Int} (k:Ob G 0 eY) (a:Hs G h L)
  (e:∀f,Hs G f L->Q (if C.has x then .tuple ⟨[I (x/2),I 0]⟩ else .tuple ⟨[I 0,I 10]⟩) f):Cl Pr K 206 [.agg ⟨C.enc⟩,I x] h Q:=by
 have hb:=(bQ.eP hC).2.2
 have d:C.has x↔0<=x/\x<C.lines:=Iff.rfl
 refine cW (dL a fun p h a=>aI (aT (fun g=>?_) (fun g=>?_)))
 .rw[aLx (by rw[d];omega)] at e;exact e _ a.tail
 refine aN a (by decide) (l:=C.enc) rfl rfl (mV hC k a fun h a=>dV (aT (fun i=>?_) (fun i=>?_)))
 .rw[aLx (by rw[d];omega)] at e;exact e _ a.tail
 .rw[aLy (by rw[d];omega)] at e;obtain⟨n,rfl⟩:=Int.eq_ofNat_of_zero_le (show 0<=x by omega);exact D9 (by omega) (by omega) (by omega) (e _ a.tail)
def Ma (C:bQ) (m:Mon) (world line:Int):Int×Bool:=if C.has line then((m.wF (line/2)).owner,!(m.wF (line/2)).locked&&Hy world (m.wF (line/2)).owner) else(0,false)
theorem Wo {w x:Int} (hC:C.Ok) (A:gX C m) (z:Ob G 0 eY) (a:Hs G h L) [B:Has (fD C p) L m L'] (d:∀i,Hs G i (fD C p m::L')->Q (.tuple ⟨[I (Ma C m w x).1,.bool (Ma C m w x).2]⟩) i):Cl Pr K 348 [.agg ⟨C.enc++[pt p 0 0]⟩,I w,I x] h Q:=by
 have k:=A.len;have v:=hC.2.1;have hb:=bQ.eP hC;unfold Ma at d;refine cW (dL (cs:=C.enc++[pt p 0 0]) (B.of a) fun q h a=>aA (iV (b:=q) (o:=0) a (by decide) (l:=C.enc) rfl rfl (G2 hC z a fun h a=>?_)));by_cases f:C.has x;rotate_left;rw[aLx f];rw[aLx f] at d;exact aG rfl (aG rfl (aX (aad (d _ a.to))));rw[aLy f];rw[aLy f] at d;have g:=f;unfold bQ.has at g;have y:m.has (x/2):=by unfold Mon.has;omega
 obtain⟨t,b,a⟩:=jP (a.front (fD C p m));refine aG rfl (aG rfl (aX (aaa (bW (aA (am q a rfl (aB (aA (am p a rfl (Ad (m:=m) a fun h a=>?_))))))))));rw[aLy y];refine aG rfl (aG rfl (bN a fun u h a=>ax (b:=u) a fun h a=>aX (aaa (aS a fun D h a=>aA (am u a rfl (aA (am u a rfl (bY (dY ?_)))))))));have e:=dR (a.cE (aE p 0 [pt t 0 0,I C.aD,fS b]) (gL t m.dD) (iA b (fK m.runs)));cases hk2:(m.wF (x/2)).locked with
 |true=>
  rw[hk2] at d;exact dN (bV (aA bX) (bV (am u a rfl iN) (d _ e.to)))
 |false=>
  rw[hk2] at d;exact bP (aA (am u a rfl (Ss (bV (aA bX) (bV (am u a rfl iN) (d _ e.to))))))
theorem S4 (hC:C.Ok) (i:gX C m) (f:Ob G 0 eY):H.Yp G (fD C p m) (.iface 332 (.agg ⟨C.enc++[pt p 0 0]⟩)) (Ma C m) where
 ne:=fun k a=>vx a
 may:=by
  intro h L M w l Q e d a;refine aGf (g:=348) rfl (Wo (L':=M) (m:=m) hC i f (d.perm e) fun h d=>⟨rfl,a _ (d.perm e.symm)⟩)
end
end Go.Proofs.YtmhapehobfnoiaaGreatDoor
namespace Go.Proofs.YtmhapehobfnoiaaGreatDoor.C
open Go Go.Ab Go.Hm Go.Ct
section
theorem oR {g n a:Nat} {i:Int} {k:Value->Prop} (d:0<=i) (e:i<n) (f:k (pt g (i.toNat*a) 0)):bA (nR n a (.pointer (some ⟨g,0,none⟩)) (I i)) k:=
 fI (b:=g) (o:=0) (j:=0) d e (by simpa [pt] using f)
theorem pO {s:Int} (h:0<=s/\s<5):iR[s.toNat*8+1]?=some (.bool (V2 s))/\iR[s.toNat*8+2]?=some (.bool (vV s))/\iR[s.toNat*8+3]?=some (.bool (mM s))/\iR[s.toNat*8+4]?=some (.bool (F2 s))
  /\iR[s.toNat*8+5]?=some (I (if vV s then 4 else 0))/\iR[s.toNat*8+6]?=some (I (Qz s))/\iR[s.toNat*8+7]?=some (I 0):=by
 have:s=0\/s=1\/s=2\/s=3\/s=4:=by omega
 rcases this with rfl|rfl|rfl|rfl|rfl<;>exact⟨rfl,rfl,rfl,rfl,rfl,rfl,rfl⟩
set_option maxRecDepth 100000
attribute [local irreducible] bA Br ld1 rT sH A2 lH tD kC Nk fZ lT oX oU nW kS xH sY Ts Pe No M5 Qt Ns Ei Gm Sb jV nR qR iK copyV gZ vD Tg Tm E6 jX Kb Pq Tl mL pD uW vP Cl xS Tb qW qT jA eX cS bZ
variable {G:Bg} {h:AH} {L L':List HP}
theorem yM {x:Int} {Q:Value->AH->Prop} (a:Q (.bool (isS x)) h):Cl Pr K 312 [I x] h Q:=by
 refine cW ?_;refine dV (aT (fun d=>aI ?_) (fun d=>?_));show Q _ _;rw[show decide (x<5)=isS x from decide_eq_decide.2 (by omega)];exact a;show Q _ _;rw[show false=isS x from(decide_eq_false (by omega)).symm];exact a
theorem R5 {x:Int} (h:isS x=true):0<=x/\x<5:=of_decide_eq_true h
theorem Rm {x:Int} (h:isS x=false):V2 x=false/\vV x=false/\mM x=false/\F2 x=false:=by
 have:=of_decide_eq_false h;refine⟨decide_eq_false ?_,decide_eq_false ?_,decide_eq_false ?_,decide_eq_false ?_⟩<;>omega
theorem aBc {x:Int} {Q:Value->AH->Prop} (f:Ob G 3 iR) (g:Hs G h L) (e:Q (.bool (V2 x)) h):Cl Pr K 308 [I x] h Q:=by
 refine cW (yM (dH (fun a=>?_) (fun a=>?_)));have d:=R5 a;exact oR d.1 d.2 (aA (zO g f (o:=x.toNat*8) (j:=1) (pO d).1 e));rw[(Rm a).1] at e;exact e
theorem T6 {x:Int} {Q:Value->AH->Prop} (f:Ob G 3 iR) (g:Hs G h L) (e:Q (.bool (vV x)) h):Cl Pr K 307 [I x] h Q:=by
 refine cW (yM (dH (fun a=>?_) (fun a=>?_)));have d:=R5 a;exact oR d.1 d.2 (aA (zO g f (o:=x.toNat*8) (j:=2) (pO d).2.1 e));rw[(Rm a).2.1] at e;exact e
theorem Ml {x:Int} {Q:Value->AH->Prop} (f:Ob G 3 iR) (g:Hs G h L) (e:Q (.bool (mM x)) h):Cl Pr K 311 [I x] h Q:=by
 refine cW (yM (dH (fun a=>?_) (fun a=>?_)));have d:=R5 a;exact oR d.1 d.2 (aA (zO g f (o:=x.toNat*8) (j:=3) (pO d).2.2.1 e));rw[(Rm a).2.2.1] at e;exact e
theorem W7 {x:Int} {Q:Value->AH->Prop} (f:Ob G 3 iR) (g:Hs G h L) (e:Q (.bool (F2 x)) h):Cl Pr K 324 [I x] h Q:=by
 refine cW (yM (dH (fun a=>?_) (fun a=>?_)));have d:=R5 a;exact oR d.1 d.2 (aA (zO g f (o:=x.toNat*8) (j:=4) (pO d).2.2.2.1 e));rw[(Rm a).2.2.2] at e;exact e
theorem Xl {x:Int} {Q:Value->AH->Prop} (e:Ob G 3 iR) (f:Hs G h L) (d:vV x=true) (g:Q (.tuple ⟨[I 4,I 0]⟩) h):Cl Pr K 272 [I x] h Q:=by
 have a:0<=x/\x<5:=by have:=of_decide_eq_true d;omega
 refine cW (yM ?_);rw[show isS x=true from decide_eq_true a];refine bY (bP (bW (T6 e f ?_)));rw[d];have:=(pO a).2.2.2.2.1;rw[aLy d] at this;exact bY (bP (oR a.1 a.2 (aA (zO f e (o:=x.toNat*8) (j:=5) this g))))
theorem Ol {x to:Int} {Q:Value->AH->Prop} (d:Ob G 3 iR) (e:Hs G h L) (a:0<=x/\x<5) (k:to=0\/to=1) (g:Q (.tuple ⟨[I (mT x to),.bool (F2 x),.bool (mM x),I 0]⟩) h):Cl Pr K 328 [I x,I to] h Q:=by
 refine cW (yM ?_);rw[show isS x=true from decide_eq_true a];refine bY (bP ?_);have i:=(pO a).2.2.2.2.2.1;have f:=(pO a).2.2.2.2.2.2;rcases k with rfl|rfl;exact aX (aad (aX (aaa (bW (oR a.1 a.2 (aA (zO e d (o:=x.toNat*8) (j:=7) f (bG (aaa (W7 d e (Ml d e g)))))))))));exact aX (aaa (oR a.1 a.2 (aA (zO e d (o:=x.toNat*8) (j:=7) f (bG (bJ rfl (bW (oR a.1 a.2 (aA (zO e d (o:=x.toNat*8) (j:=6) i (W7 d e (Ml d e g))))))))))))
theorem P0 {x:qC} {w:Bool} {Q:Value->AH->Prop} (f:Ob G 3 iR) (a:Hs G h L) (e:∀d,Hs G d L->Q (.bool (rP x.st w)) d):Cl Pr K 268 [.agg ⟨x.enc⟩,.bool w] h Q:=by
 refine cW (dL a ?_);intro p h a;cases w;exact bP (aA (aC a rfl (aBc f a (e _ a.tail))));exact dN (aA (aC a rfl (T6 f a (e _ a.tail))))
end
end Go.Proofs.YtmhapehobfnoiaaGreatDoor.C
section
open Go Go.Ab
attribute [local irreducible] bA Br ld1 rT sH A2 lH tD kC Nk fZ lT oX oU nW kS xH sY Ts Pe No M5 Qt Ns Ei Gm Sb jV nR qR iK copyV gZ vD Tg Tm E6 jX Kb Pq Tl mL pD uW vP Cl xS Tb qW qT jA eX cS bZ
namespace Go.Proofs.YtmhapehobfnoiaaGreatDoor.C
open Go Go.Ab Go.Hm Go.Ct
section
set_option maxRecDepth 100000
variable {G:Bg} {h:AH} {L L' M:List HP}
def dJ (b o:Nat) (l:List Th):HP:=qV fun x:Option Addr×Nat=>sp [aE b o [.slice x.1 l.length x.2],dI 5 256 x.1 x.2 (l.length,cY l)]
theorem oO {b o:Nat} {l:List Th} (d:Hs G h (dJ b o l::L)):∃a c,Hs G h (aE b o [.slice a l.length c]::dI 5 256 a c (l.length,cY l)::L):=by
 obtain⟨⟨a,c⟩,d⟩:=d.rS;exact⟨a,c,d.unpack⟩
theorem iO (b o:Nat) (l:List Th) {a:Option Addr} {c n:Nat} {cs:List Value} {e L2:List HP} (g:Hs G h L) [m:Has (aE b o) L [.slice a n c] e] [m2:Has (dI 5 256 a c) e (n,cs) L2] (f:n=l.length) (d:cs=cY l):Hs G h (dJ b o l::L2):=by
 subst f;subst d;exact Hs.oZ (A:=fun x:Option Addr×Nat=>sp [aE b o [.slice x.1 l.length x.2],dI 5 256 x.1 x.2 (l.length,cY l)]) (a,c) (Hs.pack (A:=[_,_]) (g.perm (m.perm.trans (m2.perm.cons _))))
structure TgA where
 b:Nat
 o:Nat
 cap:Nat
def pM (ways n b o cap:Nat):List Value:=[I ways,.slice (some ⟨b,o,none⟩) n cap]
def fU (G:Bg) (t ways n:Nat) (S:Nat->List Th):HP:=qV fun x:TgA=>
 sp [aE t 0 (pM ways n x.b x.o x.cap),hole G 1 253 (some ⟨x.b,x.o,none⟩) x.cap n x.b x.o,dE n fun i=>dJ x.b (x.o+i*1) (S i)]
theorem Ea {t ways n:Nat} {S:Nat->List Th} (a:Hs G h (fU G t ways n S::L)):∃b o cap,Hs G h (aE t 0 (pM ways n b o cap)::hole G 1 253 (some ⟨b,o,none⟩) cap n b o::dE n (fun i=>dJ b (o+i*1) (S i))::L):=by
 obtain⟨⟨b,o,cap⟩,a⟩:=a.rS;exact⟨b,o,cap,a.unpack⟩
theorem rX {t ways n:Nat} {S:Nat->List Th} {b o cap:Nat} (a:Hs G h (aE t 0 (pM ways n b o cap)::hole G 1 253 (some ⟨b,o,none⟩) cap n b o::dE n (fun i=>dJ b (o+i*1) (S i))::L)):Hs G h (fU G t ways n S::L):=
 Hs.oZ (A:=fun x:TgA=>sp [aE t 0 (pM ways n x.b x.o x.cap),hole G 1 253 (some ⟨x.b,x.o,none⟩) x.cap n x.b x.o,dE n fun i=>dJ x.b (x.o+i*1) (S i)]) ⟨b,o,cap⟩ (Hs.pack (A:=[_,_,_]) a)
def K6 (b o n:Nat) (S:Nat->List Th) (l:Nat):HP:=sp (((List.range n).erase l).map fun i=>dJ b (o+i*1) (S i))
theorem Ih {t ways n l:Nat} {S:Nat->List Th} (d:l<n) (a:Hs G h (fU G t ways n S::L)):∃b o cap,Hs G h (dJ b (o+l*1) (S l)::aE t 0 (pM ways n b o cap)::hole G 1 253 (some ⟨b,o,none⟩) cap n b o::K6 b o n S l::L):=by
 obtain⟨b,o,cap,a⟩:=Ea a;have a:=(a.front (dE n fun i=>dJ b (o+i*1) (S i))).kH l d;exact⟨b,o,cap,(show Hs G h (dJ b (o+l*1) (S l)::K6 b o n S l::_) from a).to⟩
theorem sR {f L2 g d:List HP} (t ways n:Nat) (S:Nat->List Th) (l:Nat) (x:List Th) (b o cap:Nat) (q:l<n) (a:Hs G h L) [u:dX (dJ b (o+l*1) x) L f] [v:dX (aE t 0 (pM ways n b o cap)) f L2]
  [w:dX (hole G 1 253 (some ⟨b,o,none⟩) cap n b o) L2 g] [y:dX (K6 b o n S l) g d]:Hs G h (fU G t ways n (cB S l x)::d):=by
 have a:Hs G h (dJ b (o+l*1) x::K6 b o n S l::aE t 0 (pM ways n b o cap)::hole G 1 253 (some ⟨b,o,none⟩) cap n b o::d):=
  (a.perm (u.perm.trans ((v.perm.trans ((w.perm.trans (y.perm.cons _)).cons _)).cons _))).to
 have k:(fun i=>dJ b (o+i*1) (cB S l x i)) l=dJ b (o+l*1) x:=by simp only[gP]
 rw[<-k] at a
 unfold K6 at a
 have a:=a.nQ (n:=n) (i:=l) (fun i=>dJ b (o+i*1) (S i)) (fun i=>dJ b (o+i*1) (cB S l x i)) q (fun j _ e=>by simp only[xA e])
 exact rX (b:=b) (o:=o) (cap:=cap) a.to
theorem aC2 {α:Type} {f:Nat->α} {i:Nat}:cB f i (f i)=f:=by
 funext j;unfold cB;split;rename_i e;rw[e];rfl
theorem nk {no:Int} {b o a2 o2 cp p:Nat} {l:List Th} {Q:Value->AH->Prop} (hb:l.length<=4):∀(r i:Nat) (h:AH) (L:List HP),i+r=l.length->ix no (l.take i)=none->Hs G h (aE p 0 [I no]::dI 5 256 (some ⟨a2,o2,none⟩) cp (l.length,cY l)::L)->
  (∀D,Hs G D (aE p 0 [I no]::dI 5 256 (some ⟨a2,o2,none⟩) cp (l.length,cY l)::L)->Q (.tuple ⟨[pt b o 0,I (qk no l),I 0]⟩) D)->
  Dd 306 3 [] Q [(pt b o 0),(I (-1)),(.func (.func 327) #[] #[pt p 0 0]),(.slice (some ⟨a2,o2,none⟩) l.length cp),(I l.length),(I i)] h:=by
 have B:∀(i:Nat) (l:List Th) (t:Th),ix no (l.take i)=none->l[i]?=some t->ix no (l.take (i+1))=if t.1=no then some i else none:=by
  intro i;induction i with
  |zero=>
   intro l t _ u;cases l with
   |nil=>cases u
   |cons a l=>cases u;simp[ix]
  |succ i y=>
   intro l t w u;cases l with
   |nil=>cases u
   |cons a l=>
    simp only[List.take_succ_cons,ix] at w ⊢;by_cases e:a.1=no;rw[aLy e] at w;cases w;rw[aLx e] at w ⊢;rw[y l t (by simpa using w) (by simpa using u)];split<;>rfl
 have z:∀(l:List Th) (i j:Nat),ix no (l.take i)=some j->ix no l=some j:=by
  intro l;induction l with
  |nil=>intro i j h;simp[ix] at h
  |cons a l y=>
   intro i j h;cases i with
   |zero=>simp[ix] at h
   |succ i=>
    simp only[List.take_succ_cons,ix] at h ⊢;by_cases e:a.1=no;rw[aLy e] at h ⊢;exact h;rw[aLx e] at h ⊢;cases hx:ix no (l.take i) with
    |none=>rw[hx] at h;cases h
    |some k=>rw[hx] at h;rw[y i k hx];exact h
 intro r
 induction r with
 |zero=>
  intro i h L F A d v
  rw[List.take_of_length_le (by omega)] at A
  simp only[qk,A] at v
  exact bW (aI (aaa (v _ d)))
 |succ r y=>
  intro i h L F A d v
  have x:i<l.length:=by omega
  obtain⟨t,u⟩:∃t,l[i]?=some t:=⟨_,List.getElem?_eq_getElem x⟩
  refine bW (aI (aad (bW (dO x ?_))))
  obtain⟨J,K,E,g⟩:=(d.front (dI 5 256 (some ⟨a2,o2,none⟩) cp (l.length,cY l))).fN (by omega)
  cases E
  refine Lo g (by decide) (l:=vJ t) (by rw[Nat.add_zero];exact Uf u) rfl ?_
  have g:=g.mC (jS l) (pR l)
  refine bN g ?_
  intro q h d
  refine ax d ?_
  intro h d
  refine aN d (by decide) (l:=vJ t) rfl rfl ?_
  refine qN (by kernel_rfl) (cW ?_)
  refine dL d ?_
  intro N h d
  have f:=B i l t A u
  refine aA (aC d rfl (am p d rfl (bG (aT (fun e=>?_) (fun e=>?_)))))
  .rw[aLy e] at f;have:=z _ _ _ f;simp only[qk,this] at v;exact bW (v _ d.to)
  .rw[aLx e] at f;exact bW (aac (y (i+1) h L (by omega) f d.to v))
theorem Wn {t:Nat} {no:Int} {Q:Value->AH->Prop} (e:no<0) (a:Hs G h L) (f:∀d,Hs G d L->Q (.tuple ⟨[.pointer none,I 0,I 10]⟩) d):Cl Pr K 306 [pt t 0 0,I no] h Q:=by
 refine cW (dL a ?_);intro p h a;exact cK (bP (bW (aC a rfl (aI (bJ e (f _ a.tail))))))
theorem kM {n:Nat} {no:Int} (a:0<n):setOf n no<n:=by
 unfold setOf;have:=Int.emod_lt_of_pos no (show(0:Int)<n by omega);have:=Int.emod_nonneg no (show(n:Int)≠0 by omega);omega
theorem rO {t ways n b o cap:Nat} {no:Int} {l:List Th} {Q:Value->AH->Prop} (A:0<n) (y:0<=no) (hb:l.length<=4) (e:Hs G h L) [m:Has (aE t 0) L (pM ways n b o cap) L'] [m2:Has (dJ b (o+setOf n no*1)) L' l M]
  (v:∀i,Hs G i (aE t 0 (pM ways n b o cap)::dJ b (o+setOf n no*1) l::M)->Q (.tuple ⟨[pt b (o+setOf n no*1) 0,I (qk no l),I 0]⟩) i):Cl Pr K 306 [pt t 0 0,I no] h Q:=by
 have e:Hs G h (aE t 0 (pM ways n b o cap)::dJ b (o+setOf n no*1) l::M):=e.perm (m.perm.trans (m2.perm.cons _))
 obtain⟨a,c,e⟩:=oO e.lJ
 refine cW (dL e ?_)
 intro p h e
 refine cK (bP (bW (aC e rfl (aI (aaa (bW ?_))))))
 refine aS e ?_
 intro r h e
 have g:Hs G h (aE t 0 (pM ways n b o cap)::_):=e.front (aE t 0 (pM ways n b o cap))
 have x:no % (n:Int)=((setOf n no:Nat):Int):=by
  unfold setOf;have:=Int.emod_nonneg no (show(n:Int)≠0 by omega);omega
 refine aB (aA (am t g rfl (am p g rfl (aB (aA (am t g rfl (bH (Mk y (by omega) ?_))))))))
 rw[x]
 refine dO (kM A) (aB ?_)
 have d:Hs G h (aE b (o+setOf n no*1) [.slice a l.length c]::_):=g.front (aE b (o+setOf n no*1) [.slice a l.length c])
 refine aC d rfl (bH ?_)
 by_cases k:l.length=0
 .have q:l=[]:=List.eq_nil_of_length_eq_zero k;subst q;refine bW (aI (aH (by simp) (v _ ?_)));exact(iO b (o+setOf n no*1) [] (a:=a) (c:=c) d rfl rfl).to
 .have f:=d.front (dI 5 256 a c (l.length,cY l));obtain⟨u,w,z,_⟩:=f.oT (by omega);subst z;refine nk (no:=no) (p:=p) hb l.length 0 h (aE t 0 (pM ways n b o cap)::aE b (o+setOf n no*1) [.slice (some ⟨u,w,none⟩) l.length c]::M) (by omega) rfl d.to ?_;intro i e;refine v _ ?_;exact(iO b (o+setOf n no*1) l (a:=some ⟨u,w,none⟩) (c:=c) e rfl rfl).to
end
section
theorem yK {n:Nat} {S:Nat->List Th} {no:Int}:cB S (setOf n no) (S (setOf n no))=S:=aC2
theorem aFh {l:List Th} (h:0<l.length):(cY l)[0*5+(0+0)]?=some (I (l[0]).1):=by
 cases l with
 |nil=>simp at h
 |cons y l=>rfl
theorem db {no:Int} {l:List Th} {i:Nat} {x:qC} (h:l[i]?=some (no,x)):((cY l).drop (i*5+1)).take 4=x.enc:=by
 have:=Uf h;rw[<-List.drop_drop];have a:(((cY l).drop (i*5)).take 5).drop 1=x.enc:=by rw[this];rfl
 rw[List.drop_take] at a;exact a
set_option maxRecDepth 100000
variable {G:Bg} {h:AH} {L L' M:List HP}
theorem Ah {t ways n:Nat} {no:Int} {S:Nat->List Th} {Q:Value->AH->Prop} (g:0<n) (hb:∀i,(S i).length<=4) (d:Hs G h L) [m:Has (fU G t ways n) L S L']
  (f:∀u,Hs G u (fU G t ways n S::L')->Q (.tuple ⟨[.agg ⟨(cF n S no).1.enc⟩,I (cF n S no).2]⟩) u):Cl Pr K 267 [pt t 0 0,I no] h Q:=by
 have d:=m.of d
 refine cW (bN d ?_)
 intro p h d
 unfold cF at f
 by_cases k:no<0
 .rw[aLy k] at f;refine Wn k d fun h d=>aG rfl (aG rfl (aG rfl (aX (aad (aN d (by decide) (l:=qC.zero.enc) rfl rfl ?_)))));refine ax d ?_;intro h d;exact aN d (by decide) (l:=qC.zero.enc) rfl rfl (f _ d.tail)
 .rw[aLx k] at f;obtain⟨b,o,cap,d⟩:=Ih (kM (no:=no) g) (d.front (fU G t ways n S));refine rO (t:=t) (ways:=ways) (n:=n) (b:=b) (o:=o) (cap:=cap) (l:=S (setOf n no)) g (by omega) (hb _) d fun h d=>aG rfl (aG rfl (aG rfl (aX (aaa ?_))));refine bW ?_;cases hx:ix no (S (setOf n no)) with
  |none=>
   rw[(Al hx).1] at f
   simp only[qk,hx]
   refine aI (aad (an p d (l:=qC.zero.enc) rfl rfl ?_))
   refine ax (b:=p) (o:=0) d ?_
   intro h d
   refine aN d (by decide) (l:=qC.zero.enc) rfl rfl (f _ ?_)
   have:=sR t ways n S (setOf n no) (S (setOf n no)) b o cap (kM g) d
   rw[yK] at this
   exact this.to
  |some i=>
   obtain⟨x,w,y,B,z⟩:=xD hx
   rw[y] at f
   simp only[qk,hx]
   obtain⟨a,c,d⟩:=oO (d.front (dJ b (o+setOf n no*1) (S (setOf n no))))
   obtain⟨q,v,A,e⟩:=(d.front (dI 5 256 a c ((S (setOf n no)).length,cY (S (setOf n no))))).fN (by omega)
   subst A
   refine aI (aaa (aB (aC (b:=b) (o:=o+setOf n no*1) e rfl (dO z (aA (Lo (b:=q) (o:=v) e (by decide) (l:=x.enc) (by rw[Nat.zero_add];exact db w) rfl ?_))))))
   have e:=e.mC (jS _) (pR _)
   refine ax (b:=p) (o:=0) e ?_
   intro h d
   refine aN d (by decide) (l:=x.enc) rfl rfl (f _ ?_)
   have d:=iO b (o+setOf n no*1) (S (setOf n no)) (a:=some ⟨q,v,none⟩) (c:=c) d rfl rfl
   have:=sR t ways n S (setOf n no) (S (setOf n no)) b o cap (kM g) d
   rw[yK] at this
   exact this.to
theorem oy {t ways n:Nat} {no:Int} {S:Nat->List Th} {Q:Value->AH->Prop} (J:0<ways) (k:0<n) (B:0<=no) (hb:∀i,(S i).length<=4) (d:Hs G h L) [m:Has (fU G t ways n) L S L']
  (f:∀u,Hs G u (fU G t ways n S::L')->Q (match H8 n ways S no with|some v=> .tuple ⟨[I v.1,.bool true,I 0]⟩|none=> .tuple ⟨[I 0,.bool false,I 0]⟩) u):Cl Pr K 309 [pt t 0 0,I no] h Q:=by
 have d:=m.of d
 unfold H8 at f
 refine cW ?_
 obtain⟨b,o,cap,d⟩:=Ih (kM (no:=no) k) (d.front (fU G t ways n S))
 refine rO (t:=t) (ways:=ways) (n:=n) (b:=b) (o:=o) (cap:=cap) (l:=S (setOf n no)) k (by omega) (hb _) d fun h d=>aG rfl (aG rfl (aG rfl (aX (aaa ?_))))
 refine bW (aS d ?_)
 intro r h d
 have back:∀{h:AH},Hs G h (gq r (13,[])::aE t 0 (pM ways n b o cap)::dJ b (o+setOf n no*1) (S (setOf n no))::hole G 1 253 (some ⟨b,o,none⟩) cap n b o::K6 b o n S (setOf n no)::L')->Hs G h (fU G t ways n S::L'):=fun d=>by
  have:=sR t ways n S (setOf n no) (S (setOf n no)) b o cap (kM k) d;rw[yK] at this;exact this.to
 cases hx:ix no (S (setOf n no)) with
 |some i=>
  obtain⟨x,D,y,E,F⟩:=xD hx
  rw[y] at f
  simp only[qk,hx]
  exact dV (aad (f _ (back d)))
 |none=>
  rw[(Al hx).1] at f
  simp only[qk,hx]
  obtain⟨a,c,d⟩:=oO (d.front (dJ b (o+setOf n no*1) (S (setOf n no))))
  refine dV (aaa (aB (aC (b:=b) (o:=o+setOf n no*1) d rfl (bH (aB (aA (am t d rfl (aI (aT (fun A=>?_) (fun A=>?_))))))))))
  .simp only[aLy (show(S (setOf n no)).length<ways by omega)] at f;refine f _ (back ?_);exact(iO b (o+setOf n no*1) (S (setOf n no)) (a:=a) (c:=c) d rfl rfl).to
  .have g:0<(S (setOf n no)).length:=by omega
   simp only[aLx (show ¬(S (setOf n no)).length<ways by omega),List.getElem?_eq_getElem g] at f
   obtain⟨q,w,z,e⟩:=(d.front (dI 5 256 a c ((S (setOf n no)).length,cY (S (setOf n no))))).fN g
   subst z
   refine aB (aC (b:=b) (o:=o+setOf n no*1) e rfl (dO (i:=0) g (aA (aCz (b:=q) (o:=w) (i:=0*5) (j:=0+0) e (v:=I ((S (setOf n no))[0]).1) ?_ (f _ ?_)))))
   .exact aFh g
   .have e:=e.mC (jS _) (pR _);refine back ?_;exact(iO b (o+setOf n no*1) (S (setOf n no)) (a:=some ⟨q,w,none⟩) (c:=c) e rfl rfl).to
theorem N7 {l:List Th} {i c:Nat} {a:Option Addr} {Q:Value->AH->Prop} (x:i<l.length) (hb:l.length<=4) (d:Hs G h L) [m:Has (dI 5 256 a c) L (l.length,cY l) L']
  (y:∀k,Hs G k (dI 5 256 a c (l.length - 1,cY (l.take i++l.drop (i+1)))::L')->Q (.slice a (l.length - 1) c) k):Cl Pr K 313 [.slice a l.length c,I i,I ((i:Int)+1)] h Q:=by
 have d:=m.of d
 have e:l.length<=c:=by
  obtain⟨r,A,⟨_,_,z⟩,_⟩:=d.fst;rcases z with⟨g,_⟩|⟨g,_⟩|⟨e,_⟩;simp only at g;omega;simp only at g;omega;exact e
 obtain⟨b,o,w,_⟩:=d.oT (by omega)
 refine cW (bH ?_)
 refine xI (v:= .slice (some ⟨b,o+i*5,none⟩) (i+1 - i) (l.length - i)) ?_ ?_
 .subst w;have q:lF (some (I l.length)) c c=some l.length:=by simp only[lF];rw[aae];simp
  have t:lF (some (I ((i:Int)+1))) l.length l.length=some (i+1):=by simp only[lF];rw[aae];congr 1
  have u:lF (some (I i)) 0 (i+1)=some i:=by simp only[lF];rw[aae];simp
  have f:¬l.length=i:=by omega
  simp only[vD,q,t,u,Option.isNone_some,Bool.false_and,Option.isSome_none,Bool.false_eq_true,if_false,f,dB]
  rw[aae]
 refine bG (aaa (bW (bH (aS d ?_))))
 intro r h d
 refine aDi (i:=i) (by decide) rfl rfl x d ?_
 intro h d
 refine y _ ?_
 rw[kl,<-X2,<-La]
 exact d.to
theorem Wd {no:Int} {l:List Th} {i:Nat} (h:ix no l=some i):rem no l=l.take i++l.drop (i+1):=by obtain⟨_,_,_,a,_⟩:=xD h;exact a
theorem Vd {no:Int} {l:List Th} {i:Nat} (h:ix no l=some i):l.length - 1=(rem no l).length:=by
 obtain⟨x,d,a,e,f⟩:=xD h;rw[Ic,a];rfl
theorem Rx {t ways n:Nat} {no:Int} {S:Nat->List Th} {Q:Value->AH->Prop} (k:0<n) (hb:∀i,(S i).length<=4) (d:Hs G h L) [m:Has (fU G t ways n) L S L']
  (f:∀u,Hs G u (fU G t ways n (mI n S no)::L')->Q (.tuple ⟨[.agg ⟨(cF n S no).1.enc⟩,I (cF n S no).2]⟩) u):Cl Pr K 310 [pt t 0 0,I no] h Q:=by
 have d:=m.of d
 refine cW (bN d ?_)
 intro p h d
 unfold cF mI at f
 by_cases g:no<0
 .rw[aLy g,aLy g] at f;refine Wn g d fun h d=>aG rfl (aG rfl (aG rfl (aX (aad (aN d (by decide) (l:=qC.zero.enc) rfl rfl ?_)))));refine ax d ?_;intro h d;exact aN d (by decide) (l:=qC.zero.enc) rfl rfl (f _ d.tail)
 .rw[aLx g,aLx g] at f;obtain⟨b,o,cap,d⟩:=Ih (kM (no:=no) k) (d.front (fU G t ways n S));refine rO (t:=t) (ways:=ways) (n:=n) (b:=b) (o:=o) (cap:=cap) (l:=S (setOf n no)) k (by omega) (hb _) d fun h d=>aG rfl (aG rfl (aG rfl (aX (aaa ?_))));refine bW ?_;cases hx:ix no (S (setOf n no)) with
  |none=>
   rw[(Al hx).1,(Al hx).2,yK] at f
   simp only[qk,hx]
   refine aI (aad (an p d (l:=qC.zero.enc) rfl rfl ?_))
   refine ax (b:=p) (o:=0) d ?_
   intro h d
   refine aN d (by decide) (l:=qC.zero.enc) rfl rfl (f _ ?_)
   have:=sR t ways n S (setOf n no) (S (setOf n no)) b o cap (kM k) d
   rw[yK] at this
   exact this.to
  |some i=>
   obtain⟨x,y,z,B,v⟩:=xD hx
   rw[z] at f
   simp only[qk,hx]
   obtain⟨a,c,d⟩:=oO (d.front (dJ b (o+setOf n no*1) (S (setOf n no))))
   obtain⟨q,w,A,e⟩:=(d.front (dI 5 256 a c ((S (setOf n no)).length,cY (S (setOf n no))))).fN (by omega)
   subst A
   refine aI (aaa (bW (aB (aC (b:=b) (o:=o+setOf n no*1) e rfl (dO v (aA (Lo (b:=q) (o:=w) e (by decide) (l:=x.enc) (by rw[Nat.zero_add];exact db y) rfl ?_)))))))
   have e:=e.mC (jS _) (pR _)
   refine ax (b:=p) (o:=0) e ?_
   intro h d
   refine aB (aC (b:=b) (o:=o+setOf n no*1) d rfl (aY (by have:=hb (setOf n no);omega) (N7 v (hb _) d fun h d=>?_)))
   refine aB (ay (b:=b) (o:=o+setOf n no*1) d ?_)
   intro h d
   refine an p d (l:=x.enc) rfl rfl ?_
   refine ax (b:=p) (o:=0) d ?_
   intro h d
   refine aN d (by decide) (l:=x.enc) rfl rfl (f _ ?_)
   rw[Vd hx,<-Wd hx] at d
   have d:=iO b (o+setOf n no*1) (rem no (S (setOf n no))) (a:=some ⟨q,w,none⟩) (c:=c) d rfl rfl
   exact(sR t ways n S (setOf n no) (rem no (S (setOf n no))) b o cap (kM k) d).to
end
section
set_option maxRecDepth 100000
variable {G:Bg} {h:AH} {L L' M:List HP}
theorem aJ3 {_t _ways n b o _cap p c:Nat} {no:Int} {x:qC} {l:List Th} {a:Option Addr} {Q:Value->AH->Prop} (hb:l.length<=4)
  (d:Hs G h (aE p 0 x.enc::aE b (o+setOf n no*1) [.slice a l.length c]::dI 5 256 a c (l.length,cY l)::L))
  (u:∀f,Hs G f (dJ b (o+setOf n no*1) (l++[(no,x)])::L)->Q (I 0) f):Dd 273 4 [] Q [(I no),(pt p 0 0),(pt b (o+setOf n no*1) 0)] h:=by
 refine bW (aS d ?_)
 intro r h d
 refine aB (aC (b:=b) (o:=o+setOf n no*1) d rfl (an p d (l:=x.enc) rfl rfl ?_))
 refine aJ (c:=I no::x.enc) rfl (aJ (c:=vJ (no,x)) rfl ?_)
 refine gM (i:=7) (N:=11) (D:=[]) d rfl rfl rfl rfl rfl ?_
 intro e h d
 refine rD (a:=a) (c:=c) (n:=l.length) (cs:=cY l) (a2:=some e) (c2:=1) (m:=1) (ns:=vJ (no,x)) d (by omega) ?_
 intro g k h d
 refine aB (ay (b:=b) (o:=o+setOf n no*1) d ?_)
 intro h d
 refine bV (show nP _ _=true by simp[nP,pt]) (u _ ?_)
 have q:cY l++vJ (no,x)=cY (l++[(no,x)]):=by simp[cY]
 have d:=iO b (o+setOf n no*1) (l++[(no,x)]) (a:=g) (c:=k) (n:=l.length+1) d (by simp) q
 exact d.to
theorem zU {t ways n:Nat} {no:Int} {x:qC} {S:Nat->List Th} {Q:Value->AH->Prop} (B:0<=no) (k:0<n) (hb:∀i,(S i).length<=4) (d:Hs G h L) [m:Has (fU G t ways n) L S L']
  (f:∀v,Hs G v (fU G t ways n (oD n ways S no x).1::L')->Q (I (oD n ways S no x).2) v):Cl Pr K 273 [pt t 0 0,I no,.agg ⟨x.enc⟩] h Q:=by
 have d:=m.of d
 refine cW (dL d ?_)
 intro p h d
 obtain⟨b,o,cap,d⟩:=Ih (kM (no:=no) k) (d.front (fU G t ways n S))
 refine rO (t:=t) (ways:=ways) (n:=n) (b:=b) (o:=o) (cap:=cap) (l:=S (setOf n no)) k (by omega) (hb _) d fun h d=>aG rfl (aG rfl (aG rfl (aX (aaa ?_))))
 obtain⟨a,c,d⟩:=oO (d.front (dJ b (o+setOf n no*1) (S (setOf n no))))
 refine bW ?_
 have fin:∀{h:AH} {M:List HP},Hs G h (aE t 0 (pM ways n b o cap)::aE p 0 x.enc::aE b (o+setOf n no*1) [.slice a (rem no (S (setOf n no))).length c]::dI 5 256 a c ((rem no (S (setOf n no))).length,cY (rem no (S (setOf n no))))::
   hole G 1 253 (some ⟨b,o,none⟩) cap n b o::K6 b o n S (setOf n no)::L')->
   (bA (lT (pt b (o+setOf n no*1) 0)) fun A=>bA (ld1 h A) fun v9=>bA (kS v9) fun v10=>bA (lT (pt t 0 0)) fun v11=>bA (fZ 0 v11) fun v12=>bA (ld1 h v12) fun q=>bA (sY .geq v10 q) fun u=>
    Br u (Q (I 11) h) (Dd 273 4 [] Q [(I no),(pt p 0 0),(pt b (o+setOf n no*1) 0)] h)):=by
  intro h M d
  have g:(rem no (S (setOf n no))).length<=4:=by rw[Ic];have:=hb (setOf n no);split<;>omega
  unfold oD at f
  refine aB (aC (b:=b) (o:=o+setOf n no*1) d rfl (bH (aB (aA (am t d rfl (dV (aT (fun z=>?_) (fun z=>?_))))))))
  .rw[aae] at f;refine f _ ?_;have d:=iO b (o+setOf n no*1) (rem no (S (setOf n no))) (a:=a) (c:=c) d rfl rfl;exact(sR t ways n S (setOf n no) (rem no (S (setOf n no))) b o cap (kM k) d).to
  .rw[aab] at f;refine aJ3 (_t:=t) (_ways:=ways) (_cap:=cap) (l:=rem no (S (setOf n no))) (a:=a) (c:=c) g (show Hs G h (aE p 0 x.enc::aE b (o+setOf n no*1) [.slice a (rem no (S (setOf n no))).length c]::dI 5 256 a c ((rem no (S (setOf n no))).length,cY (rem no (S (setOf n no))))::aE t 0 (pM ways n b o cap)::
    hole G 1 253 (some ⟨b,o,none⟩) cap n b o::K6 b o n S (setOf n no)::L') from d.to) ?_
   intro h d
   exact f _ (sR t ways n S (setOf n no) (rem no (S (setOf n no))++[(no,x)]) b o cap (kM k) d).to
 cases hx:ix no (S (setOf n no)) with
 |none=>
  have e:=(Al hx).2
  simp only[qk,hx]
  refine dV (aaa (bW (aS d ?_)))
  intro r h d
  refine fin (M:=[]) ?_
  rw[e]
  exact d.to
 |some i=>
  obtain⟨y,D,E,F,w⟩:=xD hx
  simp only[qk,hx]
  refine dV (aad (bW ?_))
  refine aB (aC (b:=b) (o:=o+setOf n no*1) d rfl (aY (by have:=hb (setOf n no);omega) (N7 w (hb _) d fun h d=>?_)))
  refine aB (ay (b:=b) (o:=o+setOf n no*1) d ?_)
  intro h d
  refine aS d ?_
  intro r h d
  refine fin (M:=[]) ?_
  rw[Vd hx,<-Wd hx] at d
  have d:=d.sg (b:=b) (o:=o+setOf n no*1) (c:=[.slice a (rem no (S (setOf n no))).length c]) rfl
  exact d.to
end
section
set_option maxRecDepth 100000
variable {G:Bg} {h:AH} {L L' M:List HP}
theorem Gd {t ways n:Nat} {no:Int} {S:Nat->List Th} {Q:Value->AH->Prop} (q:0<=no) (k:0<n) (hb:∀i,(S i).length<=4) (a:Hs G h L) [m:Has (fU G t ways n) L S L']
  (d:∀g,Hs G g (fU G t ways n (Gf n ways S no)::L')->Q (.tuple ⟨[.agg ⟨(cF n S no).1.enc⟩,I (yw n ways S no)]⟩) g):Cl Pr K 271 [pt t 0 0,I no] h Q:=by
 have a:=m.of a
 refine cW (bN a ?_)
 intro p h a
 refine Rx (t:=t) (ways:=ways) (n:=n) (S:=S) k hb a fun h a=>aG rfl (aG rfl ?_)
 refine ax (b:=p) (o:=0) a ?_
 intro h a
 unfold Gf yw at d
 refine aX (aT (fun f=>?_) (fun f=>?_))
 .rw[aLx f,aLx f] at d;refine aN a (by decide) (l:=(cF n S no).1.enc) rfl rfl ?_;refine ax a ?_;intro h a;exact aN a (by decide) (l:=(cF n S no).1.enc) rfl rfl (d _ a.tail)
 .rw[aae,aae] at d;refine aS a ?_;intro r h a;refine an p a (l:=(cF n S no).1.enc) rfl rfl (an p a (l:=(cF n S no).1.enc) rfl rfl ?_);refine zU (t:=t) (ways:=ways) (n:=n) (S:=mI n S no) q k (vg hb) a fun h a=>?_;refine ax (b:=p) (o:=0) a ?_;intro u e;refine bV ?_ ?_
  .refine an p a (l:=(cF n S no).1.enc) rfl rfl ?_;exact oN (by simp[qC.enc,nP])
  .exact an p e (l:=(cF n S no).1.enc) rfl rfl (d _ e.to)
end
end Go.Proofs.YtmhapehobfnoiaaGreatDoor.C
end
namespace Go.Proofs.YtmhapehobfnoiaaGreatDoor.C
open Go Go.Ab Go.Hm Go.Ct
section
theorem aDp {a:Option Addr} {n c:Nat} {k:Value->Prop} (d:a=none->k (.bool true)) (e:a≠none->k (.bool false)):bA (M5 .eql (.slice a n c) (.slice none 0 0)) k:=by
 cases a with
 |none=>exact⟨_,rfl,d rfl⟩
 |some a=>exact⟨_,rfl,e (by simp)⟩
set_option maxRecDepth 100000
attribute [local irreducible] bA Br ld1 rT sH A2 lH tD kC Nk fZ lT oX oU nW kS xH sY Ts Pe No M5 Qt Ns Ei Gm Sb jV nR qR iK copyV gZ vD Tg Tm E6 jX Kb Pq Tl mL pD uW vP Cl xS Tb qW qT jA eX cS bZ
variable {G:Bg} {h:AH} {L L' M:List HP}
theorem fq {b o n:Nat} (d:Hs G h (dE n (fun i=>aE b (o+i*1) [.slice none 0 0])::L)):Hs G h (dE n (fun i=>dJ b (o+i*1) [])::L):=
 Hs.Lm (g:=fun i=>dJ b (o+i*1) []) n _ (fun i _ _ _ d=>(iO b (o+i*1) [] (a:=none) (c:=0) (n:=0) (cs:=[]) (gG (W:=5) (e:=256) d).lJ rfl rfl)) d
theorem Uc {s w:Int} (q:1<=s/\s<=8) (t:1<=w/\w<=4) {Q:Value->AH->Prop} (d:Hs G h L) (k:∀p f,Hs G f (fU G p w.toNat s.toNat (fun _=>[])::L)->Q (.tuple ⟨[pt p 0 0,I 0]⟩) f):Cl Pr K 93 [I s,I w] h Q:=by
 refine cW (aI (aaa (iM (aaa (aI (aaa (iM (aaa (Rb (by omega) (by omega) (by omega) ?_)))))))));dsimp only;refine dC d ?_ rfl ?_ ?_;rw[gH,qI (W:=1) (fun _=>rfl)];rw[gH];exact pN (fun _=>rfl) _;intro a h d;obtain⟨b,o,g,d⟩:=Hs.Jf (W:=1) rfl (by omega) d;cases g;have e:w=(w.toNat:Int):=by omega
 refine aJ (c:=pM w.toNat s.toNat b o s.toNat) (by unfold pM;rw[<-e];rfl) (dL d ?_);intro p h d;refine k p h ?_;have d:=fq (d.front (dE s.toNat fun i=>aE b (o+i*1) [.slice none 0 0]));exact rX (b:=b) (o:=o) (cap:=s.toNat) d.to
theorem wb {l:List Th} {a:Option Addr} {c:Nat} {Q:Value->AH->Prop} (hb:l.length<=4) (d:Hs G h L) [m:Has (dI 5 256 a c) L (l.length,cY l) L']
  (q:∀e f k,Hs G k (dI 5 256 e f (l.length,cY l)::dI 5 256 a c (l.length,cY l)::L')->Q (.slice e l.length f) k):Cl Pr K 178 [.slice a l.length c] h Q:=by
 have d:=m.of d
 refine cW (aDp (fun g=>dN ?_) (fun _=>bP (aJ (c:=[]) rfl ?_)))
 .subst g;have t:l=[]:=by
   cases l with
   |nil=>rfl
   |cons y l=>obtain⟨b,o,g,_⟩:=d.oT (by simp);cases g
  subst t
  exact q none 0 h (gG d)
 .refine dC (W:=5) (n:=0) (c:=0) d rfl rfl rfl ?_;intro i h d;refine rD (a:=some i) (c:=0) (n:=0) (cs:=[]) (a2:=a) (c2:=c) (m:=l.length) (ns:=cY l) d (by omega) ?_;intro e f h d;have:=q e f h (by simpa using d);show Q _ _;simpa using this
theorem F8 {_p q b o cap b2 o2 cap2 n ways:Nat} {S:Nat->List Th} {Q:Value->AH->Prop} (J:n<=8) (hb:∀i,(S i).length<=4)
  (D:∀v,Hs G v (dE n (fun i=>dJ b (o+i*1) (S i))::dE n (fun i=>dJ b2 (o2+i*1) (S i))::aE q 0 (pM ways n b2 o2 cap2)::L)->Q (pt q 0 0) v):∀(r i:Nat) (h:AH) (_M:List HP),i+r=n->
  Hs G h (dE n (fun i=>dJ b (o+i*1) (S i))::dE n (fun j=>dJ b2 (o2+j*1) (if j<i then S j else []))::aE q 0 (pM ways n b2 o2 cap2)::L)->
  Dd 126 2 [] Q [(pt q 0 0),(.slice (some ⟨b,o,none⟩) n cap),(I n),(I i)] h:=by
 intro r
 induction r with
 |zero=>
  intro i h M A u
  have:i=n:=by omega
  subst this
  refine bW (aI (aaa (D _ ?_)))
  exact(rY (f:=fun j=>dJ b2 (o2+j*1) (if j<i then S j else [])) (g:=fun j=>dJ b2 (o2+j*1) (S j)) (fun j B=>by rw[aLy B]) u.lJ).lJ
 |succ r F=>
  intro i h M A u
  have e:i<n:=by omega
  refine bW (aI (aad (bW (dO e ?_))))
  have t:=u.kH i e
  obtain⟨a,c,t⟩:=oO t
  refine aC (b:=b) (o:=o+i*1) t rfl (aS t ?_)
  intro K h u
  refine aB (aA (am q u rfl (wb (l:=S i) (a:=a) (c:=c) (hb i) u fun w x h u=>?_)))
  have k:=(u.front (dE n fun j=>dJ b2 (o2+j*1) (if j<i then S j else []))).kH i e
  simp only[Nat.lt_irrefl,if_false] at k
  obtain⟨a3,c3,k⟩:=oO k
  refine dO e (ay (b:=b2) (o:=o2+i*1) k ?_)
  intro z d
  refine bV bX (bV (aB bX) (bV (aA bX) (bV (am q k rfl Hr) (bV iN (aac ?_)))))
  refine F (i+1) z [] (by omega) ?_
  have d:=iO b2 (o2+i*1) (S i) (a:=w) (c:=x) d rfl rfl
  have y:dJ b2 (o2+i*1) (S i)=(fun j=>dJ b2 (o2+j*1) (if j<i+1 then S j else [])) i:=by simp only[Nat.lt_succ_self,if_true]
  rw[y] at d
  have d:=d.nQ (n:=n) (i:=i) (fun j=>dJ b2 (o2+j*1) (if j<i then S j else [])) (fun j=>dJ b2 (o2+j*1) (if j<i+1 then S j else [])) e (fun j _ E=>by
   have:(j<i+1)=(j<i):=propext ⟨fun h=>by omega,fun h=>by omega⟩;simp only[this])
  have d:=iO b (o+i*1) (S i) (a:=a) (c:=c) d rfl rfl
  have d:=d.nQ (n:=n) (i:=i) (fun j=>dJ b (o+j*1) (S j)) (fun j=>dJ b (o+j*1) (S j)) e (fun _ _ _=>rfl)
  exact d.to
theorem aB0 {t ways n:Nat} {S:Nat->List Th} {Q:Value->AH->Prop} (g:0<n) (w:n<=8) (hb:∀i,(S i).length<=4) (d:Hs G h L) [m:Has (fU G t ways n) L S L']
  (v:∀q k,Hs G k (fU G q ways n S::fU G t ways n S::L')->Q (pt q 0 0) k):Cl Pr K 126 [pt t 0 0] h Q:=by
 obtain⟨b,o,cap,d⟩:=Ea (m.of d)
 refine cW (cK (bP (bW (aS d ?_))))
 intro x h d
 refine aB (aA (am t d rfl (aB (aA (am t d rfl (bH (zi (by omega) (by omega) ?_)))))))
 dsimp only
 refine gM (i:=9) (N:=13) (D:=[]) d rfl rfl ?_ rfl ?_ ?_
 .rw[gH,qI (W:=1) (fun _=>rfl)]
 .rw[gH];exact pN (fun _=>rfl) _
 intro a h d
 obtain⟨e,f,u,d⟩:=Hs.Jf (W:=1) rfl g d
 cases u
 refine aJ (c:=pM ways n e f n) rfl ?_
 refine xL (i:=11) d rfl rfl ?_
 intro q h d
 refine aB (aA (am t d rfl (bH ?_)))
 have d:=fq (d.front (dE n fun i=>aE e (f+i*1) [.slice none 0 0]))
 refine F8 (G:=G) (_p:=0) (ways:=ways) (n:=n) (b:=b) (o:=o) (cap:=cap) (b2:=e) (o2:=f) (cap2:=n) (S:=S) (L:=aE t 0 (pM ways n b o cap)::hole G 1 253 (some ⟨b,o,none⟩) cap n b o::hole G 1 253 (some ⟨e,f,none⟩) n n e f::L') w hb ?_ n 0 h [] (by omega) ?_
 .intro h d;refine v q h ?_;have d:Hs G h (aE q 0 (pM ways n e f n)::hole G 1 253 (some ⟨e,f,none⟩) n n e f::dE n (fun i=>dJ e (f+i*1) (S i))::aE t 0 (pM ways n b o cap)::hole G 1 253 (some ⟨b,o,none⟩) cap n b o::dE n (fun i=>dJ b (o+i*1) (S i))::L'):=d.to;have d:=rX (b:=e) (o:=f) (cap:=n) d;have d:Hs G h (aE t 0 (pM ways n b o cap)::hole G 1 253 (some ⟨b,o,none⟩) cap n b o::dE n (fun i=>dJ b (o+i*1) (S i))::fU G q ways n S::L'):=d.to;exact(rX (b:=b) (o:=o) (cap:=cap) d).lJ
 .simp only[Nat.not_lt_zero,if_false];exact d.to
end
end Go.Proofs.YtmhapehobfnoiaaGreatDoor.C
section
open Go Go.Ab
attribute [local irreducible] bA Br ld1 rT sH A2 lH tD kC Nk fZ lT oX oU nW kS xH sY Ts Pe No M5 Qt Ns Ei Gm Sb jV nR qR iK copyV gZ vD Tg Tm E6 jX Kb Pq Tl mL pD uW vP Cl xS Tb qW qT jA eX cS bZ
namespace Go.Proofs.YtmhapehobfnoiaaGreatDoor.C
open Go Go.Ab Go.Hm Go.Ct
section
def jO (t:Nat) (C:bQ) (core:Int) (s:jJ):List Value:=pt t 0 0::(C.enc++[I core,I s.al,.bool s.aw,.bool s.U1,I s.gl,I s.gc.st,I s.gc.w,I s.gc.d.1,I s.gc.d.2,.bool s.Hz])
set_option maxRecDepth 100000
variable {G:Bg} {h:AH} {L L' M:List HP}
def gC (G:Bg) (c:Nat) (C:bQ) (core:Int) (s:jJ):HP:=qV fun t:Nat=>sp [aE c 0 (jO t C core s),fU G t C.ways.toNat C.bC.toNat s.S]
theorem iU {c:Nat} {C:bQ} {core:Int} {s:jJ} (a:Hs G h (gC G c C core s::L)):∃t,Hs G h (aE c 0 (jO t C core s)::fU G t C.ways.toNat C.bC.toNat s.S::L):=by
 obtain⟨t,a⟩:=a.rS;exact⟨t,a.unpack⟩
theorem cR (c t:Nat) (C:bQ) (core:Int) (s:jJ) {cs:List Value} {S:Nat->List Th} {a L2:List HP} (f:Hs G h L) [m:Has (aE c 0) L cs a] [m2:Has (fU G t C.ways.toNat C.bC.toNat) a S L2] (d:cs=jO t C core s) (e:S=s.S):Hs G h (gC G c C core s::L2):=by
 subst d;subst e;exact Hs.oZ (A:=fun t:Nat=>sp [aE c 0 (jO t C core s),fU G t C.ways.toNat C.bC.toNat s.S]) t (Hs.pack (A:=[_,_]) (f.perm (m.perm.trans (m2.perm.cons _))))
variable {C:bQ} {core:Int} {c:Nat} {s:jJ}
theorem tY (hC:C.Ok) {l:Int} {Q:Value->AH->Prop} (g:Ob G 0 eY) (a:Hs G h L) [m:Has (gC G c C core) L s L'] (d:∀e,Hs G e (gC G c C core s::L')->Q (.bool (yA C l)) e):Cl Pr K 277 [pt c 0 0,I l] h Q:=by
 obtain⟨t,a⟩:=iU (m.of a);refine cW (dV (aT (fun f=>?_) (fun f=>?_)));refine aB (aA (an c a (l:=C.enc) rfl rfl (mV hC g a fun h a=>aI ?_)));show Q _ _;rw[show decide (l<(C.lines:Int))=yA C l from decide_eq_decide.2 (by omega)];exact d _ (cR c t C core s a rfl rfl);rw[show yA C l=false from decide_eq_false (by omega)] at d;exact d _ (cR c t C core s a rfl rfl)
theorem R3 (hC:C.Ok) (hb:Bd s) {l i:Int} {w:Bool} {Q:Value->AH->Prop} (k:Ob G 3 iR) (a:Hs G h L) [m:Has (gC G c C core) L s L'] (d:∀g,Hs G g (gC G c C core s::L')->Q (.bool (oS C.bC.toNat s.S l i w)) g):Cl Pr K 210 [pt c 0 0,I l,I i,.bool w] h Q:=by
 obtain⟨t,a⟩:=iU (m.of a);refine cW (cK (bP (bW (aB (aA (am c a rfl ?_))))));refine Ah (t:=t) (ways:=C.ways.toNat) (n:=C.bC.toNat) (S:=s.S) (lG hC).1 hb a fun h a=>aG rfl (aG rfl (bN a ?_));intro p h a;refine ax a ?_;intro h a;unfold oS at d;refine bG (aT (fun e=>aA (aC a rfl (bG (aT (fun f=>?_) (fun f=>?_))))) (fun e=>?_));rw[decide_eq_true e,decide_eq_true f,Bool.true_and,Bool.true_and] at d;exact aN a (by decide) (l:=(cF C.bC.toNat s.S l).1.enc) rfl rfl (P0 k a fun h a=>d _ (cR c t C core s a rfl rfl).to);rw[decide_eq_false f,Bool.and_false,Bool.false_and] at d;exact d _ (cR c t C core s a rfl rfl).to;rw[decide_eq_false e,Bool.false_and,Bool.false_and] at d;exact d _ (cR c t C core s a rfl rfl).to
theorem Er (hC:C.Ok) (hb:Bd s) {l at' q:Int} {w:Bool} {Q:Value->AH->Prop} (t:Ob G 0 eY) (u:Ob G 3 iR) (d:Hs G h L) [m:Has (gC G c C core) L s L'] (a:∀k,Hs G k (gC G c C core s::L')->Q (I (qX C s.S l at' q w)) k):Cl Pr K 270 [pt c 0 0,I l,I at',I q,.bool w] h Q:=by
 have d:=m.of d;unfold qX at a;refine cW (cK (bP (bW (tY (c:=c) (core:=core) (s:=s) hC t d fun h d=>bY (dY (dH (fun g=>?_) (fun g=>?_)))))));rw[g] at a;simp only[Bool.true_eq_false,if_false] at a;refine aI (aT (fun e=>?_) (fun e=>dV (aT (fun f=>?_) (fun f=>bW (R3 (c:=c) (core:=core) (s:=s) hC hb u d fun h d=>bY (dY (dH (fun i=>?_) (fun i=>?_))))))));rw[aLy e] at a;exact a _ d;rw[aLx e,aLy f] at a;exact a _ d;rw[aLx e,aLx f,aLx (by rw[i];simp)] at a;exact a _ d;rw[aLx e,aLx f,aLy i] at a;exact a _ d;rw[aLy g] at a;exact a _ d
theorem gn (hC:C.Ok) (hb:Bd s) {l at' k:Int} {Q:Value->AH->Prop} (x:Ob G 0 eY) (y:Ob G 3 iR) (a:Hs G h L) [m:Has (gC G c C core) L s L'] (d:∀v e q,Hs G q (gC G c C core (tQ C s l at' k)::L')->Q (.tuple ⟨[I v,I e]⟩) q):Cl Pr K 212 [pt c 0 0,I l,I at',I k] h Q:=by
 have a:=m.of a;unfold tQ at d;refine cW (Er (c:=c) (core:=core) (s:=s) hC hb x y a fun h a=>aX (aT (fun g=>?_) (fun g=>?_)));rw[aLx g] at d;exact d _ _ _ a;have g:qX C s.S l at' k false=0:=by omega
 rw[aLy g] at d;obtain⟨i,w,z,_⟩:=Mw g;obtain⟨t,a⟩:=iU a;refine bW (aB (aA (am c a rfl (Gd (t:=t) (ways:=C.ways.toNat) (n:=C.bC.toNat) (S:=s.S) i.1 (lG hC).1 hb a fun h a=>aG rfl (aG rfl (bN a ?_))))));intro p h a;refine ax a ?_;intro h a;have f:=fun {h:AH} a=>(cR c t C core {s with S:=Gf C.bC.toNat C.ways.toNat s.S l} (G:=G) (h:=h) (L:=aE p 0 (cF C.bC.toNat s.S l).1.enc::fU G t C.ways.toNat C.bC.toNat (Gf C.bC.toNat C.ways.toNat s.S l)::aE c 0 (jO t C core s)::L') a rfl rfl);refine aX (aT (fun u=>d _ _ _ (f a).to) (fun u=>aA ?_));rcases w with rfl|rfl;exact fI (by decide) (by decide) (am p a rfl (d _ _ _ (f a).to));exact fI (by decide) (by decide) (am p a rfl (d _ _ _ (f a).to))
end
section
set_option maxRecDepth 100000
variable {G:Bg} {h:AH} {L L' M:List HP} {C:bQ} {core:Int} {c:Nat} {s:jJ}
theorem Uo {s':jJ} {c t:Nat} {cs:List Value} {S:Nat->List Th} {a L2:List HP} (d:cs=jO t C core s') (e:S=s'.S) (f:Hs G h L) [m:Has (aE c 0) L cs a] [m2:Has (fU G t C.ways.toNat C.bC.toNat) a S L2]:Hs G h (gC G c C core s'::L2):=cR c t C core s' f d e
theorem Dz (hC:C.Ok) (hb:Bd s) {l at' x v:Int} {Q:Value->AH->Prop} (D:Ob G 0 eY) (z:Ob G 3 iR) (a:Hs G h L) [m:Has (gC G c C core) L s L'] (g:∀e y,Hs G y (gC G c C core (nJ C s l at' x v)::L')->Q (I e) y):Cl Pr K 213 [pt c 0 0,I l,I at',I x,I v] h Q:=by
 have a:=m.of a;unfold nJ at g;refine cW (Er (c:=c) (core:=core) (s:=s) hC hb D z a fun h a=>aX (aT (fun f=>?_) (fun f=>?_)));rw[aLx f] at g;exact g _ _ a;have f:qX C s.S l at' x true=0:=by omega
 rw[aLy f] at g;obtain⟨w,B,J,d⟩:=Mw f;have d:vV (cF C.bC.toNat s.S l).1.st=true:=d;obtain⟨t,a⟩:=iU a;refine bW (aB (aA (am c a rfl ?_)));refine Ah (t:=t) (ways:=C.ways.toNat) (n:=C.bC.toNat) (S:=s.S) (lG hC).1 hb a fun h a=>aG rfl (aG rfl (bN a ?_));intro p h a;refine ax a ?_;intro h a;refine aX (aaa (bW (aA (am p a rfl (Xl z a d (aG rfl (aG rfl (aA (ay (b:=p) (o:=0) a ?_)))))))));intro h a;refine aX (aaa (bW (aA ?_)));have i:∀{k:Bool} {h:AH},Hs G h (aE p 0 (pH C.bC.toNat s.S l at' v).enc::fU G t C.ways.toNat C.bC.toNat s.S::aE c 0 (jO t C core s)::L')->k=true->
   Nk k h 8 fun _ q=>bA (lT (pt c 0 0)) fun v5=>bA (fZ 0 v5) fun v6=>bA (ld1 q v6) fun E=>bA (rT q 4 (pt p 0 0)) fun F=>Cl Pr K 273 [E,I l,F] q fun v9 A=>Q v9 A:=by
  intro k h a u
  refine aS (hc:=u) a ?_
  intro r h a
  refine aB (aA (am c a rfl (an p a (l:=(pH C.bC.toNat s.S l at' v).enc) rfl rfl ?_)))
  refine zU (t:=t) (ways:=C.ways.toNat) (n:=C.bC.toNat) (S:=s.S) w.1 (lG hC).1 hb a fun h a=>?_
  exact g _ _ (cR c t C core {s with S:=(oD C.bC.toNat C.ways.toNat s.S l (pH C.bC.toNat s.S l at' v)).1} (cs:=jO t C core s) a rfl rfl).to
 rcases B with rfl|rfl;refine fI (by decide) (by decide) (ay (b:=p) (o:=0) a ?_);intro h a;exact i ((a.sg (b:=p) (o:=0) (c:=(pH C.bC.toNat s.S l 0 v).enc) rfl).to) (by kernel_rfl);refine fI (by decide) (by decide) (ay (b:=p) (o:=0) a ?_);intro h a;exact i ((a.sg (b:=p) (o:=0) (c:=(pH C.bC.toNat s.S l 1 v).enc) rfl).to) (by kernel_rfl)
theorem df {t:Nat} {l w:Int} {wr:Bool} {ns:List aQ} {a:Option Addr} {cp:Nat} {Q:Value->AH->Prop} (F:ns.length<=1) (d:Hs G h (aE c 0 (jO t C core (mJ core s l w wr ns).1)::fU G t C.ways.toNat C.bC.toNat s.S::dI 9 162 a cp (ns.length,eJ ns)::L))
  (D:∀e f A,Hs G A (dI 9 162 e f ((mJ core s l w wr ns).2.1.length,eJ (mJ core s l w wr ns).2.1)::gC G c C core (mJ core s l w wr ns).1::L)->Q (.tuple ⟨[.slice e (mJ core s l w wr ns).2.1.length f,I 0]⟩) A):
  Br (.bool wr) (Dd 269 10 [] Q [(pt c 0 0),(I l),(I w),(.slice a ns.length cp)] h) (bA (lT (pt c 0 0)) fun v35=>bA (fZ 8 v35) fun v36=>bA (ld1 h v36) fun v37=>
   bA (nY [(I 0),(I 0),(I 0),(I 0),(I 0),(I 0),(I 0),(.bool false),(I 0)] [(0,1,(I 1)),(1,1,v37),(2,1,(I l)),(3,1,(I w))]) fun k=>
   bA (nY [(I 0),(I 0),(I 0),(I 0),(I 0),(I 0),(I 0),(.bool false),(I 0)] [(0,9,(.agg ⟨k⟩))]) fun v=>
   tD h 9 162 v 1 1 fun y q=>bA (iK 9 72 162 q (.slice a ns.length cp) y) fun i=>(fun z u=>Q (.tuple ⟨[z,(I 0)]⟩) u) i.1 i.2):=by
 have fin:∀{h:AH} {e:Option Addr} {f:Nat} (x:aQ),x=⟨if wr then 2 else 1,core,l,w,0,0,0,false,0⟩->Hs G h (dI 9 162 e f (ns.length+1,eJ ns++x.enc)::aE c 0 (jO t C core (mJ core s l w wr ns).1)::fU G t C.ways.toNat C.bC.toNat s.S::L)->Q (.tuple ⟨[.slice e (ns.length+1) f,I 0]⟩) h:=by
  intro h e f x E d;have B:(mJ core s l w wr ns).2.1=ns++[x]:=by rw[E];rfl
  have:=D e f h;rw[B] at this;simp only[List.length_append,List.length_cons,List.length_nil,eJ,List.flatMap_append,List.flatMap_cons,List.flatMap_nil,List.append_nil,Nat.zero_add] at this;refine this ?_;have d:=Uo (s':=(mJ core s l w wr ns).1) (t:=t) (c:=c) rfl rfl d;exact d.lJ
 cases wr
 .refine bP (aB (aA (am c d rfl (aJ (c:=(⟨1,core,l,w,0,0,0,false,0⟩:aQ).enc) rfl (aJ (c:=(⟨1,core,l,w,0,0,0,false,0⟩:aQ).enc) rfl (dC (W:=9) (n:=1) (c:=1) d rfl rfl rfl ?_))))));intro g h d;refine rD (a:=a) (c:=cp) (n:=ns.length) (cs:=eJ ns) (a2:=some g) (c2:=1) (m:=1) (ns:=(⟨1,core,l,w,0,0,0,false,0⟩:aQ).enc) d (by omega) ?_;intro e f h d;exact fin ⟨1,core,l,w,0,0,0,false,0⟩ rfl d.to
 .refine dN (bW (aB (aA (am c d rfl (aJ (c:=(⟨2,core,l,w,0,0,0,false,0⟩:aQ).enc) rfl (aJ (c:=(⟨2,core,l,w,0,0,0,false,0⟩:aQ).enc) rfl (dC (W:=9) (n:=1) (c:=1) d rfl rfl rfl ?_)))))));intro g h d;refine rD (a:=a) (c:=cp) (n:=ns.length) (cs:=eJ ns) (a2:=some g) (c2:=1) (m:=1) (ns:=(⟨2,core,l,w,0,0,0,false,0⟩:aQ).enc) d (by omega) ?_;intro e f h d;exact fin ⟨2,core,l,w,0,0,0,false,0⟩ rfl d.to
theorem ng {t:Nat} {l w:Int} {wr:Bool} {ns:List aQ} {a:Option Addr} {cp:Nat} {Q:Value->AH->Prop} (k:ns.length<=1) (d:Hs G h (aE c 0 (jO t C core s)::fU G t C.ways.toNat C.bC.toNat s.S::dI 9 162 a cp (ns.length,eJ ns)::L))
  (i:∀e f g,Hs G g (dI 9 162 e f ((mJ core s l w wr ns).2.1.length,eJ (mJ core s l w wr ns).2.1)::gC G c C core (mJ core s l w wr ns).1::L)->Q (.tuple ⟨[.slice e (mJ core s l w wr ns).2.1.length f,I 0]⟩) g):
  Dd 269 8 [] Q [(pt c 0 0),(I l),(I w),(.bool wr),(.slice a ns.length cp)] h:=by
 refine bW (aJ (c:=[I l,.bool wr,.bool true]) rfl (aB (aA (ay (b:=c) (o:=0) d ?_))))
 intro h d
 have d:=d.sg (b:=c) (o:=0) (c:=jO t C core (mJ core s l w wr ns).1) rfl
 exact df (t:=t) k d i
theorem zz (_hb:Bd s) {t p:Nat} {l w no:Int} {x:qC} {wr:Bool} {S:Nat->List Th} {Q:Value->AH->Prop} (A:Ob G 3 iR) (d:Hs G h (aE p 0 x.enc::aE c 0 (jO t C core s)::fU G t C.ways.toNat C.bC.toNat S::L))
  (z:∀f g q r,r=mJ core {s with S:=S,gl:=no,gc:=x,Hz:=true} l w wr [⟨3,core,no,x.w,0,x.d.1,x.d.2,mM x.st,0⟩]->Hs G q (dI 9 162 f g (r.2.1.length,eJ r.2.1)::gC G c C core r.1::L)->Q (.tuple ⟨[.slice f r.2.1.length g,I 0]⟩) q):
  Dd 269 11 [] Q [(pt c 0 0),(I l),(I w),(.bool wr),(.slice none 0 0),(I no),(pt p 0 0)] h:=by
 refine bW (aN d (by decide) (l:=x.enc) rfl rfl (aJ (c:=[I no,I x.st,I x.w,I x.d.1,I x.d.2,.bool true]) rfl (aB (aA (ay (b:=c) (o:=0) d ?_)))))
 intro h d
 have d:=d.sg (b:=c) (o:=0) (c:=jO t C core {s with S:=S,gl:=no,gc:=x,Hz:=true}) rfl
 refine aS d ?_
 intro E h d
 refine aB (aA (am c d rfl (aA (am p d rfl (aA (an p d (l:=[I x.d.1,I x.d.2]) rfl rfl (aA (am p d rfl (Ml A d ?_)))))))))
 refine aJ (c:=(⟨3,core,no,x.w,0,x.d.1,x.d.2,mM x.st,0⟩:aQ).enc) rfl (aJ (c:=(⟨3,core,no,x.w,0,x.d.1,x.d.2,mM x.st,0⟩:aQ).enc) rfl ?_)
 refine gM (i:=14) (N:=17) (D:=[]) d rfl rfl rfl rfl rfl ?_
 intro y h d
 have d:=gG (W:=9) (e:=162) d
 refine rD (a:=none) (c:=0) (n:=0) (cs:=[]) (a2:=some y) (c2:=1) (m:=1) (ns:=(⟨3,core,no,x.w,0,x.d.1,x.d.2,mM x.st,0⟩:aQ).enc) d (by omega) ?_
 intro f g B u
 have k:Hs G h (aE p 0 x.enc::_):=d.front (aE p 0 x.enc)
 have v:Hs G h (aE c 0 (jO t C core {s with S:=S,gl:=no,gc:=x,Hz:=true})::_):=d.front (aE c 0 (jO t C core {s with S:=S,gl:=no,gc:=x,Hz:=true}))
 refine bV Hr (bV bX (bV (aB bX) (bV (aA bX) (bV (am c v rfl iN) (bV iN (bV (aA bX) (bV (am p k rfl iN) (bV (aA bX) (bV (an p k (l:=[I x.d.1,I x.d.2]) rfl rfl (oN (by simp[nP]))) ?_)))))))))
 refine aJ (c:=[I l,.bool wr,.bool true]) rfl (aB (aA (ay (b:=c) (o:=0) u ?_)))
 intro h d
 have d:=d.sg (b:=c) (o:=0) (c:=jO t C core (mJ core {s with S:=S,gl:=no,gc:=x,Hz:=true} l w wr [⟨3,core,no,x.w,0,x.d.1,x.d.2,mM x.st,0⟩]).1) rfl
 refine df (t:=t) (s:={s with S:=S,gl:=no,gc:=x,Hz:=true}) (ns:=[⟨3,core,no,x.w,0,x.d.1,x.d.2,mM x.st,0⟩]) (a:=f) (cp:=g) (L:=L) (by simp) ?_ (fun f g q=>z f g q _ rfl)
 exact(show Hs G h (aE c 0 (jO t C core (mJ core {s with S:=S,gl:=no,gc:=x,Hz:=true} l w wr [⟨3,core,no,x.w,0,x.d.1,x.d.2,mM x.st,0⟩]).1)::fU G t C.ways.toNat C.bC.toNat S::dI 9 162 f g (0+1,[]++(⟨3,core,no,x.w,0,x.d.1,x.d.2,mM x.st,0⟩:aQ).enc)::L) from d.to)
theorem xh (hC:C.Ok) (hb:Bd s) {t:Nat} {l w:Int} (y:0<=l) {wr:Bool} {Q:Value->AH->Prop} (z:Ob G 3 iR) (d:Hs G h (aE c 0 (jO t C core s)::fU G t C.ways.toNat C.bC.toNat s.S::L))
  (f:∀g i k,Hs G k (dI 9 162 g i ((A6 C core s l w wr).2.1.length,eJ (A6 C core s l w wr).2.1)::gC G c C core (A6 C core s l w wr).1::L)->Q (.tuple ⟨[.slice g (A6 C core s l w wr).2.1.length i,I (A6 C core s l w wr).2.2]⟩) k):
  bA (lT (pt c 0 0)) fun v0=>bA (fZ 0 v0) fun v1=>bA (ld1 h v1) fun v2=>Cl Pr K 309 [v2,I l] h fun v3 x=>
   bA (oX 0 v3) fun v4=>bA (oX 1 v3) fun v5=>bA (oX 2 v3) fun v6=>bA (sY .neq v6 (I 0)) fun B=>
   Br B (Q (.tuple ⟨[(.slice none 0 0),v6]⟩) x) (Dd 269 6 [] Q [(pt c 0 0),(I l),(I w),(.bool wr),(.slice none 0 0),v4,v5] x):=by
 unfold A6 at f
 refine aB (aA (am c d rfl ?_))
 refine oy (t:=t) (ways:=C.ways.toNat) (n:=C.bC.toNat) (S:=s.S) (lG hC).2.2.1 (lG hC).1 y hb d fun h d=>?_
 cases hv:H8 C.bC.toNat C.ways.toNat s.S l with
 |none=>
  simp only[hv] at f
  refine aG rfl (aG rfl (aG rfl (aX (aaa (bW (bP ?_))))))
  exact ng (t:=t) (s:=s) (ns:=[]) (a:=none) (cp:=0) (L:=L) (by simp) (show Hs G h (aE c 0 (jO t C core s)::fU G t C.ways.toNat C.bC.toNat s.S::dI 9 162 none 0 (0,[])::L) from(gG (W:=9) (e:=162) d).to) f
 |some v=>
  simp only[hv] at f
  refine aG rfl (aG rfl (aG rfl (aX (aaa (bW (dN (bW (aB (aA (aA (am c d rfl (dH (fun q=>?_) (fun q=>?_)))))))))))))
  .simp only[q,if_true] at f;exact f none 0 h (gG (W:=9) (e:=162) (Uo (s':=s) (t:=t) (c:=c) rfl rfl d))
  .simp only[aLx (show ¬(s.Hz=true) from by rw[q];simp)] at f;refine bW (aB (aA (am c d rfl ?_)));refine Rx (t:=t) (ways:=C.ways.toNat) (n:=C.bC.toNat) (S:=s.S) (lG hC).1 hb d fun h d=>aG rfl (aG rfl (bN d ?_));intro p h d;refine ax d ?_;intro h d;refine aX (aT (fun u=>?_) (fun u=>?_))
   .simp only[aLy u] at f;refine f none 0 h (gG (W:=9) (e:=162) ?_);exact(cR c t C core {s with S:=mI C.bC.toNat s.S v.1} (cs:=jO t C core s) d rfl rfl).to
   .simp only[aLx u] at f;refine zz (s:=s) hb z (show Hs G h (aE p 0 (cF C.bC.toNat s.S v.1).1.enc::aE c 0 (jO t C core s)::fU G t C.ways.toNat C.bC.toNat (mI C.bC.toNat s.S v.1)::L) from d.to) ?_;intro g i k r A;subst A;exact f g i k
theorem aBu (hC:C.Ok) (hb:Bd s) {l w:Int} {wr:Bool} {Q:Value->AH->Prop} (P:Ob G 0 eY) (D:Ob G 3 iR) (a:Hs G h L) [m:Has (gC G c C core) L s L']
  (d:∀g i q,Hs G q (dI 9 162 g i ((want C core s l w wr).2.1.length,eJ (want C core s l w wr).2.1)::gC G c C core (want C core s l w wr).1::L')->Q (.tuple ⟨[.slice g (want C core s l w wr).2.1.length i,I (want C core s l w wr).2.2]⟩) q):
  Cl Pr K 269 [pt c 0 0,I l,I w,.bool wr] h Q:=by
 have a:=m.of a
 unfold want at d
 refine cW (cK (bP (bW (tY (c:=c) (core:=core) (s:=s) hC P a fun h a=>bY (dY (dH (fun y=>?_) (fun y=>?_)))))))
 .simp only[y,Bool.true_eq_false,if_false] at d;have F:0<=l:=(of_decide_eq_true y).1;obtain⟨t,a⟩:=iU a;refine bW (aB (aA (aA (am c a rfl (dH (fun A=>?_) (fun A=>bW ?_))))))
  .simp only[A,if_true] at d;exact d none 0 h (gG (W:=9) (e:=162) (cR c t C core s a rfl rfl))
  .simp only[A,Bool.false_eq_true,if_false] at d;have x:¬(s.Hz=true/\s.gl=l)->(bA (lT (pt c 0 0)) fun v0=>bA (fZ 0 v0) fun v1=>bA (ld1 h v1) fun v2=>Cl Pr K 267 [v2,I l] h fun v3 f=>
     bA (oX 0 v3) fun v4=>bA (oX 1 v3) fun v5=>A2 f (.cells [(I 0),(I 0),(I 0),(I 0)] 146 (0,0) true) fun J O=>bA (sH O 4 (pt J 0 0) v4) fun z=>bA (sY .eql v5 (I 0)) fun v9=>
     Br v9 (bA (rT z 4 (pt J 0 0)) fun v10=>Cl Pr K 268 [v10,.bool wr] z fun v11 v=>Br v11 (Q (.tuple ⟨[(.slice none 0 0),(I 13)]⟩) v) (Dd 269 5 [] Q [(pt c 0 0),(I l),(I w),(.bool wr)] v))
      (bA (lT (pt c 0 0)) fun v0=>bA (fZ 0 v0) fun v1=>bA (ld1 z v1) fun v2=>Cl Pr K 309 [v2,I l] z fun v3 f=>
       bA (oX 0 v3) fun v4=>bA (oX 1 v3) fun v5=>bA (oX 2 v3) fun v6=>bA (sY .neq v6 (I 0)) fun R=>
       Br R (Q (.tuple ⟨[(.slice none 0 0),v6]⟩) f) (Dd 269 6 [] Q [(pt c 0 0),(I l),(I w),(.bool wr),(.slice none 0 0),v4,v5] f))):=by
    intro f
    simp only[aLx f] at d
    refine aB (aA (am c a rfl ?_))
    refine Ah (t:=t) (ways:=C.ways.toNat) (n:=C.bC.toNat) (S:=s.S) (lG hC).1 hb a fun h a=>aG rfl (aG rfl (bN a ?_))
    intro p h a
    refine ax a ?_
    intro h a
    have E:Hs G h (aE c 0 (jO t C core s)::fU G t C.ways.toNat C.bC.toNat s.S::aE p 0 (cF C.bC.toNat s.S l).1.enc::L'):=a.to
    have k:∀{g i q} {X:List Value} {n:Nat} {N:jJ},Hs G q (dI 9 162 g i (n,X)::gC G c C core N::aE p 0 (cF C.bC.toNat s.S l).1.enc::L')->Hs G q (dI 9 162 g i (n,X)::gC G c C core N::L'):=fun a=>a.to
    refine bG (aT (fun u=>?_) (fun u=>?_))
    .refine an p a (l:=(cF C.bC.toNat s.S l).1.enc) rfl rfl (P0 D a fun h a=>dH (fun B=>?_) (fun B=>?_))
     .simp only[aLy (show(cF C.bC.toNat s.S l).2=0/\rP (cF C.bC.toNat s.S l).1.st wr=true from⟨u,B⟩)] at d;exact d none 0 h (gG (W:=9) (e:=162) (cR c t C core s a rfl rfl).to)
     .simp only[aLx (show ¬((cF C.bC.toNat s.S l).2=0/\rP (cF C.bC.toNat s.S l).1.st wr=true) from fun e=>by rw[B] at e;exact absurd e.2 (by simp))] at d;refine bW (xh hC hb F D (show Hs G h (aE c 0 (jO t C core s)::fU G t C.ways.toNat C.bC.toNat s.S::L') from a.to) d)
    .simp only[aLx (show ¬((cF C.bC.toNat s.S l).2=0/\rP (cF C.bC.toNat s.S l).1.st wr=true) from fun e=>u e.1)] at d;exact xh hC hb F D E fun g i q a=>d g i q (k a)
   refine aB (aA (aA (am c a rfl (dH (fun f=>?_) (fun f=>?_)))))
   .refine aB (aA (aA (am c a rfl (bG (aT (fun u=>?_) (fun u=>bW (x (fun e=>u e.2))))))));simp only[aLy (show s.Hz=true/\s.gl=l from⟨f,u⟩)] at d;exact d none 0 h (gG (W:=9) (e:=162) (cR c t C core s a rfl rfl))
   .exact x (fun e=>by rw[f] at e;exact absurd e.1 (by simp))
 .simp only[y,if_true] at d;exact d none 0 h (gG (W:=9) (e:=162) a)
end
section
set_option maxRecDepth 100000
variable {G:Bg} {h:AH} {L L' M:List HP} {C:bQ} {core:Int} {c:Nat} {s:jJ} {n:aQ}
theorem qZ {a:jJ} {Q:Value->AH->Prop} {e:Int} {r:Tk} (i:∀d f g,Hs G g (dI 9 162 d f (r.2.1.length,eJ r.2.1)::gC G c C core r.1::L)->Q (.tuple ⟨[.slice d r.2.1.length f,I r.2.2]⟩) g) (k:r=(a,[],e)) (q:Hs G h (gC G c C core a::L)):Q (.tuple ⟨[.slice none 0 0,I e]⟩) h:=by
 subst k;exact i none 0 h (gG (W:=9) (e:=162) q)
theorem Lb {a:jJ} {x:aQ} {p:Addr} {Q:Value->AH->Prop} {r:Tk} (i:∀d f g,Hs G g (dI 9 162 d f (r.2.1.length,eJ r.2.1)::gC G c C core r.1::L)->Q (.tuple ⟨[.slice d r.2.1.length f,I r.2.2]⟩) g) (k:r=(a,[x],0)) (q:Hs G h (dI 9 162 (some p) 1 (1,x.enc)::gC G c C core a::L)):Q (.tuple ⟨[.slice (some p) 1 1,I 0]⟩) h:=by
 subst k;refine i (some p) 1 h ?_;have e:eJ [x]=x.enc:=by simp[eJ]
 simp only[e,List.length_cons,List.length_nil,Nat.zero_add];exact q
abbrev ib (G:Bg) (c:Nat) (C:bQ) (core:Int) (L:List HP) (Q:Value->AH->Prop) (r:Tk):Prop:=∀a d e,Hs G e (dI 9 162 a d (r.2.1.length,eJ r.2.1)::gC G c C core r.1::L)->Q (.tuple ⟨[.slice a r.2.1.length d,I r.2.2]⟩) e
theorem aBe {Q:Value->AH->Prop} (d:Hs G h (gC G c C core s::L)) (i:ib G c C core L Q (Hq s n)):Cl Pr K 316 [pt c 0 0,.agg ⟨n.enc⟩] h Q:=by
 obtain⟨t,d⟩:=iU d;refine cW (dL d ?_);intro p h d;refine aS d ?_;intro r h d;refine aB (aA (aA (am c d rfl (bY (dY (dH (fun g=>?_) (fun g=>?_)))))));refine aB (aA (aA (am c d rfl (aA (am p d rfl (aX (aT (fun f=>?_) (fun f=>?_))))))));exact qZ i (a:=s) (e:=16) (by simp[Hq,g,f]) (cR c t C core s d rfl rfl).to;refine bW (aJ (c:=[I 0,.bool false,.bool false]) rfl (aB (aA (ay (b:=c) (o:=0) d ?_))));intro h d;have f:s.al=n.line:=by simpa using f
 exact qZ i (a:={s with al:=0,aw:=false,U1:=false}) (e:=0) (by simp[Hq,g,f]) (cR c t C core {s with al:=0,aw:=false,U1:=false} d rfl rfl).to;exact qZ i (a:=s) (e:=16) (by simp[Hq,g]) (cR c t C core s d rfl rfl).to
theorem ir {Q:Value->AH->Prop} (d:Hs G h (gC G c C core s::L)) (i:ib G c C core L Q (tM s n)):Cl Pr K 317 [pt c 0 0,.agg ⟨n.enc⟩] h Q:=by
 obtain⟨t,d⟩:=iU d;refine cW (dL d ?_);intro p h d;refine aS d ?_;intro r h d;refine aB (aA (aA (am c d rfl (bY (dY (dH (fun g=>?_) (fun g=>?_)))))));refine aB (aA (aA (am c d rfl (aA (am p d rfl (aX (aT (fun f=>?_) (fun f=>?_))))))));exact qZ i (a:=s) (e:=12) (by simp[tM,g,f]) (cR c t C core s d rfl rfl).to;refine bW (aJ (c:=[I 0,I 0,I 0,I 0,I 0,.bool false]) rfl (aB (aA (ay (b:=c) (o:=0) d ?_))));intro h d;have f:s.gl=n.line:=by simpa using f
 exact qZ i (a:={s with gl:=0,gc:=qC.zero,Hz:=false}) (e:=0) (by simp[tM,g,f]) (cR c t C core {s with gl:=0,gc:=qC.zero,Hz:=false} d rfl rfl).to;exact qZ i (a:=s) (e:=12) (by simp[tM,g]) (cR c t C core s d rfl rfl).to
theorem aBr {t p:Nat} {S:Nat->List Th} {Q:Value->AH->Prop} {r:Tk} (d:Hs G h (aE p 0 n.enc::aE c 0 (jO t C core s)::fU G t C.ways.toNat C.bC.toNat S::L)) (e:ib G c C core L Q r) (f:r=({s with S:=S,al:=0,aw:=false,U1:=false},[⟨4,core,n.line,0,0,0,0,false,0⟩],0)):
  Dd 315 4 [] Q [(pt c 0 0),(pt p 0 0)] h:=by
 refine bW (aJ (c:=[I 0,.bool false,.bool false]) rfl (aB (aA (ay (b:=c) (o:=0) d ?_))))
 intro h d
 refine aS d ?_
 intro g h d
 refine aB (aA (am c d rfl (aA (am p d rfl ?_))))
 refine aJ (c:=(⟨4,core,n.line,0,0,0,0,false,0⟩:aQ).enc) rfl (aJ (c:=(⟨4,core,n.line,0,0,0,0,false,0⟩:aQ).enc) rfl ?_)
 refine gM (i:=7) (N:=10) (D:=[]) d rfl rfl rfl rfl rfl ?_
 intro a h d
 refine Lb e (p:=a) f ?_
 have d:=cR c t C core {s with S:=S,al:=0,aw:=false,U1:=false} d rfl rfl
 exact d.to
theorem Dj (hC:C.Ok) (hb:Bd s) {Q:Value->AH->Prop} (g:0<=n.line) (d:Hs G h (gC G c C core s::L)) (v:ib G c C core L Q (wR C core s n)):Cl Pr K 315 [pt c 0 0,.agg ⟨n.enc⟩] h Q:=by
 obtain⟨t,d⟩:=iU d;refine cW (dL d ?_);intro p h d;refine aS d ?_;intro r h d;refine aB (aA (aA (am c d rfl (bY (dY (dH (fun q=>?_) (fun q=>?_)))))));refine aB (aA (aA (am c d rfl (aA (am p d rfl (aX (aT (fun k=>?_) (fun k=>?_))))))));exact qZ v (a:=s) (e:=16) (by simp[wR,q,k]) (cR c t C core s d rfl rfl).to;have k:s.al=n.line:=by simpa using k
 refine bW (aA (am p d rfl (aA (am p d rfl (aA (an p d (l:=[I n.d0,I n.d1]) rfl rfl ?_))))));refine aJ (c:=(⟨n.state,n.world,(n.d0,n.d1)⟩:qC).enc) rfl (bN d ?_);intro u h d;refine ax d ?_;intro h d;refine aS d ?_;intro E h d;refine aB (aA (am c d rfl (aA (am p d rfl ?_))));refine Ah (t:=t) (ways:=C.ways.toNat) (n:=C.bC.toNat) (S:=s.S) (lG hC).1 hb d fun h d=>aG rfl (aG rfl ?_);refine kI (i:=10) d rfl rfl ?_;intro A h d;refine ax d ?_;intro h d;have fin:∀{w:Bool} {h:AH},w=true->Hs G h (aE u 0 (nM C s n).enc::aE p 0 n.enc::aE c 0 (jO t C core s)::fU G t C.ways.toNat C.bC.toNat s.S::L)->
   (Nk w h 9 fun D g=>bA (lT (pt c 0 0)) fun v2=>bA (fZ 0 v2) fun v3=>bA (ld1 g v3) fun v4=>bA (fZ 2 (pt p 0 0)) fun v5=>bA (ld1 g v5) fun v6=>bA (rT g 4 (pt u 0 0)) fun B=>
    Cl Pr K 273 [v4,v6,B] g fun z y=>bA (sY .neq z (I 0)) fun v9=>Br v9 (Q (.tuple ⟨[(.slice none 0 0),z]⟩) y) (Dd 315 4 [] Q [(pt c 0 0),(pt p 0 0)] y)):=by
  intro w h x d
  refine aS (hc:=x) d ?_
  intro r3 h d
  refine aB (aA (am c d rfl (aA (am p d rfl (an u d (l:=(nM C s n).enc) rfl rfl ?_)))))
  refine zU (t:=t) (ways:=C.ways.toNat) (n:=C.bC.toNat) (S:=s.S) g (lG hC).1 hb d fun h d=>?_
  refine aX (aT (fun f=>?_) (fun f=>?_))
  .refine qZ v (a:={s with S:=(oD C.bC.toNat C.ways.toNat s.S n.line (nM C s n)).1}) (by simp[wR,q,k,f]) ?_;exact(cR c t C core {s with S:=(oD C.bC.toNat C.ways.toNat s.S n.line (nM C s n)).1} (cs:=jO t C core s) d rfl rfl).to
  .have f:(oD C.bC.toNat C.ways.toNat s.S n.line (nM C s n)).2=0:=by simpa using f
   exact aBr (t:=t) (S:=(oD C.bC.toNat C.ways.toNat s.S n.line (nM C s n)).1) (s:=s) (n:=n) d.to v (by simp[wR,q,k,f])
 refine bV (aG rfl iN) (bG (aT (fun f=>bW ?_) (fun f=>bW (fin (by kernel_rfl) ?_))));refine aA (an A d (l:=[I (cF C.bC.toNat s.S n.line).1.d.1,I (cF C.bC.toNat s.S n.line).1.d.2]) rfl rfl (aA (ay (b:=u) (o:=0) d ?_)));intro h d;have e:nM C s n=⟨n.state,n.world,(cF C.bC.toNat s.S n.line).1.d⟩:=by simp[nM,f]
 have d:=d.sg (b:=u) (o:=0) (c:=(nM C s n).enc) (by rw[e];rfl);exact fin (by kernel_rfl) d.to;have e:nM C s n=⟨n.state,n.world,(n.d0,n.d1)⟩:=by simp[nM,f]
 rw[e];exact d.to;exact qZ v (a:=s) (e:=16) (by simp[wR,q]) (cR c t C core s d rfl rfl).to
end
section
set_option maxRecDepth 100000
variable {G:Bg} {h:AH} {L L' M:List HP} {C:bQ} {core:Int} {c:Nat} {s:jJ} {n:aQ}
theorem aB1 {t p q:Nat} {x:qC} {y:aQ} {Q:Value->AH->Prop} {r:Tk} (d:Hs G h (aE p 0 y.enc::aE q 0 x.enc::aE c 0 (jO t C core s)::fU G t C.ways.toNat C.bC.toNat s.S::L)) (e:ib G c C core L Q r) (f:r=({s with gc:=x},[y],0)):
  Dd 318 8 [] Q [(pt c 0 0),(pt p 0 0),(pt q 0 0)] h:=by
 refine bW (an q d (l:=x.enc) rfl rfl (aB (aA (aA (ay (b:=c) (o:=0) d ?_)))))
 intro h d
 refine an p d (l:=y.enc) rfl rfl (aJ (c:=y.enc) rfl (dC (W:=9) (n:=1) (c:=1) d rfl rfl rfl ?_))
 intro a h d
 refine Lb e (p:=a) f ?_
 have d:=cR c t C core {s with gc:=x} d rfl rfl
 exact d.to
theorem aA6 (hC:C.Ok) (hb:Bd s) (k:0<=n.line) {t f p q:Nat} {x:qC} {y:aQ} {Q:Value->AH->Prop} {r:Tk} (d:Hs G h (aE p 0 y.enc::aE q 0 x.enc::aE f 0 n.enc::aE c 0 (jO t C core s)::fU G t C.ways.toNat C.bC.toNat s.S::L)) (i:ib G c C core L Q r)
  (e:r=({s with S:=if x.st=0 then mI C.bC.toNat s.S n.line else(oD C.bC.toNat C.ways.toNat s.S n.line x).1},[y],0)):
  Dd 318 9 [] Q [(pt c 0 0),(pt f 0 0),(pt p 0 0),(pt q 0 0),(I x.st)] h:=by
 refine bW (bG (aT (fun g=>bW (aS d ?_)) (fun g=>bW (aS d ?_))))
 .intro u h d;simp only[aLy g] at e;refine aB (aA (am c d rfl (aA (am f d rfl ?_))));refine Rx (t:=t) (ways:=C.ways.toNat) (n:=C.bC.toNat) (S:=s.S) (lG hC).1 hb d fun h d=>?_;refine an p d (l:=y.enc) rfl rfl (aJ (c:=y.enc) rfl (dC (W:=9) (n:=1) (c:=1) d rfl rfl rfl ?_));intro a h d;refine Lb i (p:=a) e ?_;have d:=cR c t C core {s with S:=mI C.bC.toNat s.S n.line} (cs:=jO t C core s) d rfl rfl;exact d.to
 .intro u h d;simp only[aLx g] at e;refine aB (aA (am c d rfl (aA (am f d rfl (an q d (l:=x.enc) rfl rfl ?_)))));refine zU (t:=t) (ways:=C.ways.toNat) (n:=C.bC.toNat) (S:=s.S) k (lG hC).1 hb d fun h d=>?_;refine an p d (l:=y.enc) rfl rfl (aJ (c:=y.enc) rfl (dC (W:=9) (n:=1) (c:=1) d rfl rfl rfl ?_));intro a h d;refine Lb i (p:=a) e ?_;have d:=cR c t C core {s with S:=(oD C.bC.toNat C.ways.toNat s.S n.line x).1} (cs:=jO t C core s) d rfl rfl;exact d.to
theorem dc (hC:C.Ok) (hb:Bd s) (k:0<=n.line) {there:Bool} {t f p q:Nat} {x:qC} {Q:Value->AH->Prop} {r:Tk} (a:Hs G h (aE p 0 (Nx core n).enc::aE q 0 x.enc::aE f 0 n.enc::aE c 0 (jO t C core s)::fU G t C.ways.toNat C.bC.toNat s.S::L)) (i:ib G c C core L Q r)
  (d:r=if there then({s with S:=if mT x.st n.state=0 then mI C.bC.toNat s.S n.line else(oD C.bC.toNat C.ways.toNat s.S n.line {x with st:=mT x.st n.state}).1},[nL core n x],0) else({s with gc:={x with st:=mT x.st n.state}},[nL core n x],0)):
  Dd 318 5 [] Q [(pt c 0 0),(pt f 0 0),(pt p 0 0),(pt q 0 0),(.bool there),(I (mT x.st n.state)),(.bool (F2 x.st)),(.bool (mM x.st))] h:=by
 have fin:∀{h:AH},Hs G h (aE p 0 (nL core n x).enc::aE q 0 ({x with st:=mT x.st n.state}:qC).enc::aE f 0 n.enc::aE c 0 (jO t C core s)::fU G t C.ways.toNat C.bC.toNat s.S::L)->
   (bA (Sb .not (.bool there)) fun u=>Br u (Dd 318 8 [] Q [(pt c 0 0),(pt p 0 0),(pt q 0 0)] h) (Dd 318 9 [] Q [(pt c 0 0),(pt f 0 0),(pt p 0 0),(pt q 0 0),(I (mT x.st n.state))] h)):=by
  intro h a
  cases there
  .simp only[Bool.false_eq_true,if_false] at d;exact bY (dN (aB1 (t:=t) (x:={x with st:=mT x.st n.state}) (y:=nL core n x) (s:=s) a.to i d))
  .simp only[if_true] at d;exact bY (bP (aA6 hC hb k (t:=t) (x:={x with st:=mT x.st n.state}) (y:=nL core n x) (s:=s) a i d))
 refine bW (aA (ay (b:=p) (o:=0) a ?_))
 intro h a
 refine dH (fun g=>bW ?_) (fun g=>bW ?_)
 .refine aA (an q a (l:=[I x.d.1,I x.d.2]) rfl rfl (aA (ay (b:=p) (o:=0) a ?_)));intro h a;refine aA (ay (b:=p) (o:=0) a ?_);intro h a;refine aA (ay (b:=q) (o:=0) a ?_);intro h a;have e:nL core n x=⟨5,core,n.line,0,mT x.st n.state,x.d.1,x.d.2,mM x.st,0⟩:=by simp[nL,g]
  have a:=a.sg (b:=p) (o:=0) (c:=(nL core n x).enc) (by rw[e];rfl)
  have a:=a.sg (b:=q) (o:=0) (c:=({x with st:=mT x.st n.state}:qC).enc) rfl
  exact fin a.to
 .refine aA (ay (b:=q) (o:=0) a ?_);intro h a;have e:nL core n x=⟨5,core,n.line,0,mT x.st n.state,0,0,false,0⟩:=by simp[nL,g]
  have a:=a.sg (b:=p) (o:=0) (c:=(nL core n x).enc) (by rw[e];rfl)
  have a:=a.sg (b:=q) (o:=0) (c:=({x with st:=mT x.st n.state}:qC).enc) rfl
  exact fin a.to
end
section
set_option maxRecDepth 100000
variable {G:Bg} {h:AH} {L L' M:List HP} {C:bQ} {core:Int} {c:Nat} {s:jJ} {n:aQ}
theorem aAf (hC:C.Ok) (hb:Bd s) (z:Sts C.bC.toNat s) (F:n.state=0\/n.state=1) (D:0<=n.line) {t y p q:Nat} {x:qC} {Q:Value->AH->Prop} (J:Ob G 3 iR)
  (d:Hs G h (aE p 0 (Nx core n).enc::aE q 0 x.enc::aE y 0 n.enc::aE c 0 (jO t C core s)::fU G t C.ways.toNat C.bC.toNat s.S::L)) (w:(cF C.bC.toNat s.S n.line).2≠0) (B:ib G c C core L Q (pI C core s n)):
  Dd 318 2 [] Q [(pt c 0 0),(pt y 0 0),(pt p 0 0),(pt q 0 0),(.bool false)] h:=by
 have g:¬(n.state≠1/\n.state≠0):=by omega
 refine bW (aS d ?_)
 intro O h d
 have f:s.Hz=false\/s.gl≠n.line->(bA (rT h 9 (pt p 0 0)) fun N=>bA (nY [(I 0),(I 0),(I 0),(I 0),(I 0),(I 0),(I 0),(.bool false),(I 0)] [(0,9,N)]) fun K=>tD h 9 162 K 1 1 fun A E=>Q (.tuple ⟨[A,(I 0)]⟩) E):=by
  intro k;refine an p d (l:=(Nx core n).enc) rfl rfl (aJ (c:=(Nx core n).enc) rfl (dC (W:=9) (n:=1) (c:=1) d rfl rfl rfl ?_));intro a h d;refine Lb B (p:=a) (a:=s) (x:=Nx core n) ?_ ?_;rcases k with k|k;simp[pI,g,w,k,Nx];by_cases v:s.Hz=false;simp[pI,g,w,v,Nx];simp only[pI,aLx g,aLx w,aLx v,aLy k,Nx];have d:=cR c t C core s d rfl rfl;exact d.to
 refine aB (aA (aA (am c d rfl (bY (dY (dH (fun u=>?_) (fun u=>f (.inl u))))))))
 refine aB (aA (aA (am c d rfl (aA (am y d rfl (aX (aT (fun i=>f (.inr i)) (fun i=>bW ?_))))))))
 have i:s.gl=n.line:=by simpa using i
 refine aB (aA (aA (an c d (l:=s.gc.enc) rfl rfl (ax (b:=q) (o:=0) d ?_))))
 intro h d
 refine aA (am q d rfl (aA (am y d rfl (Ol J d (z.back u) F (aG rfl (aG rfl (aG rfl (aG rfl (aX (aaa ?_))))))))))
 refine dc hC hb D (there:=false) (t:=t) (x:=s.gc) (s:=s) (n:=n) (core:=core) (L:=L) d.to B ?_
 have v:¬s.Hz=false:=by rw[u];simp
 simp only[pI,aLx g,aLx w,aLx v,aLx (show ¬s.gl≠n.line from fun e=>e i),Bool.false_eq_true,if_false]
theorem aCh (hC:C.Ok) (hb:Bd s) (e:Sts C.bC.toNat s) (u:n.state=0\/n.state=1) (i:0<=n.line) {t f p q:Nat} {Q:Value->AH->Prop} (v:Ob G 3 iR)
  (a:Hs G h (aE p 0 (Nx core n).enc::aE q 0 (cF C.bC.toNat s.S n.line).1.enc::aE f 0 n.enc::aE c 0 (jO t C core s)::fU G t C.ways.toNat C.bC.toNat s.S::L)) (g:(cF C.bC.toNat s.S n.line).2=0) (k:ib G c C core L Q (pI C core s n)):
  Dd 318 3 [] Q [(pt c 0 0),(pt f 0 0),(pt p 0 0),(pt q 0 0),(.bool true)] h:=by
 have d:¬(n.state≠1/\n.state≠0):=by omega
 refine bW (aA (am q a rfl (aA (am f a rfl (Ol v a (e.aGe _ g) u (aG rfl (aG rfl (aG rfl (aG rfl (aX (aaa ?_)))))))))))
 refine dc hC hb i (there:=true) (t:=t) (x:=(cF C.bC.toNat s.S n.line).1) (s:=s) (n:=n) (core:=core) (L:=L) a k ?_
 simp only[pI,aLx d,aLy g,if_true]
theorem El (hC:C.Ok) (hb:Bd s) (f:Sts C.bC.toNat s) (v:0<=n.line) {Q:Value->AH->Prop} (y:Ob G 3 iR) (d:Hs G h (gC G c C core s::L)) (u:ib G c C core L Q (pI C core s n)):Cl Pr K 318 [pt c 0 0,.agg ⟨n.enc⟩] h Q:=by
 obtain⟨t,d⟩:=iU d;refine cW (dL d ?_);intro k h d;refine aA (am k d rfl (aX (aT (fun z=>aA (am k d rfl (aX (aT (fun A=>?_) (fun A=>bW ?_))))) (fun z=>?_))));exact qZ u (a:=s) (e:=10) (by simp only[pI];rw[aLy ⟨by omega,by omega⟩]) (cR c t C core s d rfl rfl).to;all_goals
  have w:n.state=0\/n.state=1:=by omega
  refine aS d ?_
  intro D h d
  refine aB (aA (am c d rfl (aA (am k d rfl (aJ (c:=(Nx core n).enc) rfl ?_)))))
  refine kI (i:=7) d rfl rfl ?_
  intro p h d
  refine ax d ?_
  intro h d
  refine aS d ?_
  intro B h d
  refine aB (aA (am c d rfl (aA (am k d rfl ?_))))
  refine Ah (t:=t) (ways:=C.ways.toNat) (n:=C.bC.toNat) (S:=s.S) (lG hC).1 hb d fun h d=>aG rfl (aG rfl ?_)
  refine kI (i:=10) d rfl rfl ?_
  intro q h d
  refine ax d ?_
  intro h d
  refine bV (aG rfl iN) (bG (bY ?_))
  by_cases g:(cF C.bC.toNat s.S n.line).2=0
  .rw[decide_eq_true g];exact bP (aCh hC hb f w v (t:=t) y d.to g u)
  .rw[decide_eq_false g];exact dN (aAf hC hb f w v (t:=t) (x:=(cF C.bC.toNat s.S n.line).1) y d.to g u)
end
section
def uH (k:Int) (f:FuncId):List Value:=[I k,.func (.func f) #[] #[]]
def Jz:List Value:=uH 8 315++uH 9 316++uH 10 317++uH 11 318
set_option maxRecDepth 100000
variable {G:Bg} {h:AH} {L L' M:List HP} {C:bQ} {core:Int} {c:Nat} {s:jJ} {n:aQ}
theorem zx (hC:C.Ok) {p q:Nat} {k:Int} {f:FuncId} {Q:Value->AH->Prop} {r:Tk} (y:Ob G 0 eY) (d:Hs G h (aE q 0 (uH k f)::aE p 0 n.enc::gC G c C core s::L))
  (i:fY Pr f=true) (z:yA C n.line=false->r=(s,[],10)) (x:yA C n.line=true->∀h L,Hs G h (gC G c C core s::L)->∀Q,ib G c C core L Q r->Cl Pr K f [pt c 0 0,.agg ⟨n.enc⟩] h Q) (t:ib G c C core L Q r):
  Dd 217 5 [] Q [(pt c 0 0),(pt p 0 0),(pt q 0 0)] h:=by
 refine bW (aA (am p d rfl (tY (c:=c) (core:=core) (s:=s) hC y d fun h d=>bY (dY (dH (fun g=>?_) (fun g=>?_))))))
 .refine aA (am q d rfl (an p d (l:=n.enc) rfl rfl ?_));refine qN i (x g h (aE q 0 (uH k f)::aE p 0 n.enc::L) d.to _ fun u v w d=>aG rfl (aG rfl (t u v w d.to)))
 .exact qZ t (a:=s) (e:=10) (z g) d.to
theorem Dw (hC:C.Ok) (hb:Bd s) (y:Sts C.bC.toNat s) {Q:Value->AH->Prop} (O:Ob G 0 eY) (P:Ob G 3 iR) (d:Hs G h L) [m:Has (gC G c C core) L s L'] (t:ib G c C core L' Q (iS C core s n)):
  Cl Pr K 217 [pt c 0 0,.agg ⟨n.enc⟩] h Q:=by
 have d:=m.of d
 refine cW (dL d ?_)
 intro p h d
 refine cK (bP (bW (cW ?_)))
 refine aJ (c:=uH 8 315) rfl (aJ (c:=uH 9 316) rfl (aJ (c:=uH 10 317) rfl (aJ (c:=uH 11 318) rfl (aJ (c:=Jz) rfl ?_))))
 refine dC (W:=2) (n:=4) (c:=4) d rfl rfl rfl ?_
 intro a h d
 obtain⟨b,o,J,d⟩:=d.fN (by decide)
 cases J
 refine bH ?_
 have z:yA C n.line=true->0<=n.line:=fun e=>(of_decide_eq_true e).1
 have step:∀(i:Nat) (A:i<4) (k:Int) (f:FuncId) (h:AH) (M:List HP),(Jz.drop (i*2)).take 2=uH k f->fY Pr f=true->Hs G h (aE b o Jz::aE p 0 n.enc::gC G c C core s::L')->
   (n.kind=k->((yA C n.line=false->iS C core s n=(s,[],10))/\(yA C n.line=true->∀h L,Hs G h (gC G c C core s::L)->∀Q,ib G c C core L Q (iS C core s n)->Cl Pr K f [pt c 0 0,.agg ⟨n.enc⟩] h Q)))->
   (n.kind≠k->∀h,Hs G h (aE b o Jz::aE p 0 n.enc::gC G c C core s::L')->Dd 217 2 [] Q [(pt c 0 0),(pt p 0 0),(.slice (some ⟨b,o,none⟩) 4 4),(I 4),(I ((i+1:Nat):Int))] h)->
   Dd 217 2 [] Q [(pt c 0 0),(pt p 0 0),(.slice (some ⟨b,o,none⟩) 4 4),(I 4),(I (i:Int))] h:=by
  intro i A k f h M N w d u x
  refine bW (aI (aad (bW (dO A (Lo (b:=b) (o:=o) d (by decide) (l:=uH k f) (by rw[Nat.add_zero];exact N) rfl (bN d ?_))))))
  intro q h d
  refine ax d ?_
  intro h d
  refine aA (am q d rfl (aA (am p d rfl (aX (aT (fun v=>bW (aac ?_)) (fun v=>?_))))))
  .have:=x (fun e=>v e.symm) h d.to;show Dd _ _ _ _ _ _;simpa using this
  .have v:n.kind=k:=by
    have:k=n.kind:=by simpa using v
    exact this.symm
   exact zx (k:=k) (f:=f) (s:=s) (n:=n) hC O (show Hs G h (aE q 0 (uH k f)::aE p 0 n.enc::gC G c C core s::L') from d.to) w (u v).1 (u v).2 t
 have d:Hs G h (aE b o Jz::aE p 0 n.enc::gC G c C core s::L'):=d.to
 refine step 0 (by decide) 8 315 h [] rfl (by kernel_rfl) d (fun e=>⟨fun g=>by simp[iS,e,g],fun g h L d Q t=>Dj hC hb (z g) d (by simpa [iS,e,g] using t)⟩) fun B h d=>?_
 refine step 1 (by decide) 9 316 h [] rfl (by kernel_rfl) d (fun e=>⟨fun g=>by simp[iS,e,g],fun g h L d Q t=>aBe d (by simpa [iS,e,g] using t)⟩) fun D h d=>?_
 refine step 2 (by decide) 10 317 h [] rfl (by kernel_rfl) d (fun e=>⟨fun g=>by simp[iS,e,g],fun g h L d Q t=>ir d (by simpa [iS,e,g] using t)⟩) fun E h d=>?_
 refine step 3 (by decide) 11 318 h [] rfl (by kernel_rfl) d (fun e=>⟨fun g=>by simp[iS,e,g],fun g h L d Q t=>El hC hb y (z g) P d (by simpa [iS,e,g] using t)⟩) fun F h d=>?_
 refine bW (aI (aaa ?_))
 exact qZ t (a:=s) (e:=15) (by simp[iS,B,D,E,F]) d.to
theorem qx {Q:Value->AH->Prop} (a:Hs G h L) [m:Has (gC G c C core) L s L'] (e:∀d,Hs G d (gC G c C core s::L')->Q (.tuple ⟨[I s.al,.bool s.aw,.bool s.U1]⟩) d):Cl Pr K 60 [pt c 0 0] h Q:=by
 obtain⟨t,a⟩:=iU (m.of a);refine cW (cK (bP (aS a ?_)));intro f h a;refine(aB (aA (aA (am c a rfl (aB (aA (aA (am c a rfl (aB (aA (aA (am c a rfl ?_))))))))))));exact e _ (cR c t C core s a rfl rfl).to
theorem Qf (hC:C.Ok) (hb:Bd s) {Q:Value->AH->Prop} (a:Hs G h L) [m:Has (gC G c C core) L s L'] (f:∀d e,Hs G e (gC G d C core s::gC G c C core s::L')->Q (pt d 0 0) e):Cl Pr K 76 [pt c 0 0] h Q:=by
 obtain⟨t,a⟩:=iU (m.of a);refine cW (cK (bP (bW (aB (an c a (l:=jO t C core s) rfl rfl (bN a ?_))))));intro d h a;refine ax a ?_;intro h a;refine aB (aA (am c a rfl (aB0 (t:=t) (ways:=C.ways.toNat) (n:=C.bC.toNat) (S:=s.S) (lG hC).1 (lG hC).2.1 hb a fun t2 h a=>?_)));refine aA (ay (b:=d) (o:=0) a ?_);intro h a;have a:=a.sg (b:=d) (o:=0) (c:=jO t2 C core s) rfl;have a:=cR d t2 C core s a rfl rfl;have a:=cR c t C core s a rfl rfl;exact f d h a.to
theorem Qd (hC:C.Ok) (d:0<=core/\core<C.aD) {Q:Value->AH->Prop} (i:Ob G 0 eY) (a:Hs G h L) (g:∀c e,Hs G e (gC G c C core jJ.new::L)->Q (.tuple ⟨[pt c 0 0,I 0]⟩) e):Cl Pr K 37 [.agg ⟨C.enc⟩,I core] h Q:=by
 refine cW (dL a ?_);intro p h a;refine an p a (l:=C.enc) rfl rfl (nD i a fun h a=>?_);have f:=hC;unfold bQ.Ok at f;rw[aLy hC];refine aX (aaa (bW (aI (aaa (aA (am p a rfl (dV (aaa (bW ?_)))))))));refine aA (am p a rfl (aA (am p a rfl (Uc (by omega) (by omega) a fun t h a=>aG rfl (aG rfl (aX (aaa ?_)))))));refine an p a (l:=C.enc) rfl rfl (aJ (c:=jO t C core jJ.new) rfl (dL a ?_));intro q h a;have a:=cR q t C core jJ.new a rfl rfl;exact g q h a.to
end
section
set_option maxRecDepth 100000
variable {G:Bg} {h:AH} {L L' M:List HP} {C:bQ} {core:Int} {c:Nat} {s:jJ} {n:aQ}
theorem wo (hC:C.Ok) (d:mF C s) {l at' i:Int} (q:qX C s.S l at' i false=0) {Q:Value->AH->Prop} (w:Ob G 0 eY) (x:Ob G 3 iR) (a:Hs G h L) [m:Has (gC G c C core) L s L'] (f:∀k,Hs G k (gC G c C core (tQ C s l at' i)::L')->Q (.tuple ⟨[I (Mc.S6 C s l at'),I 0]⟩) k):Cl Pr K 212 [pt c 0 0,I l,I at',I i] h Q:=by
 have a:=m.of a;have hb:Bd s:=d.bd (lG hC).2.2.2;unfold tQ at f;refine cW (Er (c:=c) (core:=core) (s:=s) hC hb w x a fun h a=>aX (aaa ?_));rw[aLy q] at f;obtain⟨g,u,y,_⟩:=Mw q;have v:=Uv d.bC y;obtain⟨t,a⟩:=iU a;refine bW (aB (aA (am c a rfl (Gd (t:=t) (ways:=C.ways.toNat) (n:=C.bC.toNat) (S:=s.S) g.1 (lG hC).1 hb a fun h a=>aG rfl (aG rfl (bN a ?_))))));intro p h a;refine ax a ?_;intro h a;have e:=fun {h:AH} a=>(cR c t C core {s with S:=Gf C.bC.toNat C.ways.toNat s.S l} (G:=G) (h:=h) (L:=aE p 0 (cF C.bC.toNat s.S l).1.enc::fU G t C.ways.toNat C.bC.toNat (Gf C.bC.toNat C.ways.toNat s.S l)::aE c 0 (jO t C core s)::L') a rfl rfl);refine aX (aaa (aA ?_));rcases u with rfl|rfl;exact fI (by decide) (by decide) (am p a rfl (f _ (e a).to));exact fI (by decide) (by decide) (am p a rfl (f _ (e a).to))
theorem mh (hC:C.Ok) (e:mF C s) {l at' w v:Int} (z:qX C s.S l at' w true=0) {Q:Value->AH->Prop} (E:Ob G 0 eY) (A:Ob G 3 iR) (a:Hs G h L) [m:Has (gC G c C core) L s L'] (q:∀y,Hs G y (gC G c C core (nJ C s l at' w v)::L')->Q (I 0) y):Cl Pr K 213 [pt c 0 0,I l,I at',I w,I v] h Q:=by
 have a:=m.of a;have hb:Bd s:=e.bd (lG hC).2.2.2;unfold nJ at q;refine cW (Er (c:=c) (core:=core) (s:=s) hC hb E A a fun h a=>aX (aaa ?_));rw[aLy z] at q;obtain⟨u,D,F,d⟩:=Mw z;have d:vV (cF C.bC.toNat s.S l).1.st=true:=d;obtain⟨t,a⟩:=iU a;refine bW (aB (aA (am c a rfl ?_)));refine Ah (t:=t) (ways:=C.ways.toNat) (n:=C.bC.toNat) (S:=s.S) (lG hC).1 hb a fun h a=>aG rfl (aG rfl (bN a ?_));intro p h a;refine ax a ?_;intro h a;refine aX (aaa (bW (aA (am p a rfl (Xl A a d (aG rfl (aG rfl (aA (ay (b:=p) (o:=0) a ?_)))))))));intro h a;refine aX (aaa (bW (aA ?_)));have f:∀{g:Bool} {h:AH},g=true->Hs G h (aE p 0 (pH C.bC.toNat s.S l at' v).enc::fU G t C.ways.toNat C.bC.toNat s.S::aE c 0 (jO t C core s)::L')->
   Nk g h 8 fun _ i=>bA (lT (pt c 0 0)) fun v5=>bA (fZ 0 v5) fun v6=>bA (ld1 i v6) fun J=>bA (rT i 4 (pt p 0 0)) fun N=>Cl Pr K 273 [J,I l,N] i fun v9 B=>Q v9 B:=by
  intro g h k a
  refine aS (hc:=k) a ?_
  intro r h a
  refine aB (aA (am c a rfl (an p a (l:=(pH C.bC.toNat s.S l at' v).enc) rfl rfl ?_)))
  refine zU (t:=t) (ways:=C.ways.toNat) (n:=C.bC.toNat) (S:=s.S) u.1 (lG hC).1 hb a fun h a=>?_
  show Q _ _
  rw[yv (x:=pH C.bC.toNat s.S l at' v) e.bC F]
  exact q _ (cR c t C core {s with S:=(oD C.bC.toNat C.ways.toNat s.S l (pH C.bC.toNat s.S l at' v)).1} (cs:=jO t C core s) a rfl rfl).to
 rcases D with rfl|rfl;refine fI (by decide) (by decide) (ay (b:=p) (o:=0) a ?_);intro h a;exact f (by kernel_rfl) ((a.sg (b:=p) (o:=0) (c:=(pH C.bC.toNat s.S l 0 v).enc) rfl).to);refine fI (by decide) (by decide) (ay (b:=p) (o:=0) a ?_);intro h a;exact f (by kernel_rfl) ((a.sg (b:=p) (o:=0) (c:=(pH C.bC.toNat s.S l 1 v).enc) rfl).to)
end
end Go.Proofs.YtmhapehobfnoiaaGreatDoor.C
end
namespace Go.Proofs.YtmhapehobfnoiaaGreatDoor.N
open Go Go.Ab Go.Hm Go.Nt
section
theorem oR {g n a i:Nat} {k:Value->Prop} (d:i<n) (e:k (pt g (i*a) 0)):bA (nR n a (.pointer (some ⟨g,0,none⟩)) (I i)) k:=
 gF (b:=g) (o:=0) (j:=0) d (by simpa [pt] using e)
set_option maxRecDepth 100000
attribute [local irreducible] bA Br ld1 rT sH A2 lH tD kC Nk fZ lT oX oU nW kS xH sY Ts Pe No M5 Qt Ns Ei Gm Sb jV nR qR iK copyV gZ vD Tg Tm E6 jX Kb Pq Tl mL pD uW vP Cl xS Tb qW qT jA eX cS bZ
variable {G:Bg} {h:AH} {L L':List HP}
theorem yM {k:Int} {Q:Value->AH->Prop} (a:Q (.bool (decide (Rh k))) h):Cl Pr K 286 [I k] h Q:=by
 refine cW (dV (aT (fun d=>aI ?_) (fun d=>?_)));show Q _ _;rw[show decide (k<14)=decide (Rh k) from decide_eq_decide.2 (by unfold Rh;omega)];exact a;show Q _ _;rw[show false=decide (Rh k) from(decide_eq_false (by unfold Rh;omega)).symm];exact a
theorem aIv {k:Int} (h:Rh k):∃n:Nat,k=(n:Int)/\1<=n/\n<14:=⟨k.toNat,by unfold Rh at h;omega,by unfold Rh at h;omega,by unfold Rh at h;omega⟩
theorem fp {k:Int} {Q:Value->AH->Prop} (e:Ob G 2 wP) (i:Hs G h L) (d:Q (if Rh k then .tuple ⟨[I (O9 k.toNat),I 0]⟩ else .tuple ⟨[I 0,I 15]⟩) h):Cl Pr K 229 [I k] h Q:=by
 refine cW (yM (bY (dY (aT (fun a=>?_) (fun a=>?_)))));rw[aLy a] at d;obtain⟨n,rfl,g,f⟩:=aIv a;refine oR f (aA (zO i e (o:=n*9) (j:=1) (aa f) d));rw[aLx a] at d;exact d
theorem Gd {n:aQ} {f:Int} (g:1<=f/\f<=13) {Q:Value->AH->Prop} (d:Hs G h L) (a:∀e,Hs G e L->Q (I (km n f)) e):Cl Pr K 288 [.agg ⟨n.enc⟩,I f] h Q:=by
 refine cW (dL d ?_);intro p h d;have a:=a h d.tail;rcases f13 g with rfl|rfl|rfl|rfl|rfl|rfl|rfl|rfl|rfl|rfl|rfl|rfl|rfl;all_goals
  repeat' first
   |refine bG ?_
   |refine bJ (by decide) ?_
   |refine aH (by decide) ?_
   |refine bW ?_
   |refine bW ?_
   |refine bW ?_
   |refine bW ?_
   |refine bW ?_
   |refine bW ?_
   |refine bW ?_
   |refine bW ?_
   |refine bW ?_
   |refine bW ?_
   |refine bW ?_
   |refine bW ?_
   |refine aA ?_
   |refine fI (by omega) (by omega) ?_
   |refine aC d rfl ?_
 all_goals first|exact a|skip
 refine dH (fun hb=>?_) (fun hb=>?_);unfold km at a;show Q _ _;simpa [hb] using a;unfold km at a;show Q _ _;simpa [hb] using a
theorem aDw {p:Nat} {n:aQ} {f v:Int} (e:1<=f/\f<=13) {Q:Value->AH->Prop} (a:Hs G h (aE p 0 n.enc::L)) (g:∀d,Hs G d (aE p 0 (aDn n f v).enc::L)->Q (.tuple ⟨[]⟩) d):Cl Pr K 290 [pt p 0 0,I f,I v] h Q:=by
 refine cW ?_;rcases f13 e with rfl|rfl|rfl|rfl|rfl|rfl|rfl|rfl|rfl|rfl|rfl|rfl|rfl;all_goals
  repeat' first
   |refine bG ?_
   |refine aX ?_
   |refine bJ (by decide) ?_
   |refine aH (by decide) ?_
   |refine bW ?_
   |refine bW ?_
   |refine bW ?_
   |refine bW ?_
   |refine bW ?_
   |refine bW ?_
   |refine bW ?_
   |refine bW ?_
   |refine bW ?_
   |refine bW ?_
   |refine bW ?_
   |refine aB ?_
   |refine aA ?_
   |refine fI (by omega) (by omega) ?_
  refine ay a ?_
  intro h a
  exact g h a
theorem L0 {a b:Prop} [Decidable a] [Decidable b] {Q:Value->AH->Prop} (d:a↔b) (e:Q (.bool (decide b)) h):Q (.bool (decide a)) h:=by rwa [show decide a=decide b from decide_eq_decide.2 d]
theorem Zd {b:Prop} [Decidable b] {Q:Value->AH->Prop} (a:¬b) (d:Q (.bool (decide b)) h):Q (.bool false) h:=by rwa [decide_eq_false a] at d
theorem Hy {b:Prop} [Decidable b] {Q:Value->AH->Prop} (a:b) (d:Q (.bool (decide b)) h):Q (.bool true) h:=by rwa [decide_eq_true a] at d
theorem R3 {C:bQ} (hC:C.Ok) {f v:Int} (q:1<=f/\f<=13) {Q:Value->AH->Prop} (t:Ob G 0 eY) (e:Hs G h L) (i:∀k,Hs G k L->Q (.bool (decide (xk C f v))) k):Cl Pr K 289 [.agg ⟨C.enc⟩,I f,I v] h Q:=by
 refine cW (dL e ?_);intro p h e;have a:=i h e.tail;unfold xk at i a;rcases f13 q with rfl|rfl|rfl|rfl|rfl|rfl|rfl|rfl|rfl|rfl|rfl|rfl|rfl;all_goals
  repeat' first
   |refine bJ (by decide) ?_
   |refine aH (by decide) ?_
   |refine bG ?_
   |refine bW ?_
   |refine bW ?_
   |refine bW ?_
   |refine bW ?_
   |refine bW ?_
   |refine bW ?_
   |refine bW ?_
   |refine bW ?_
   |refine bW ?_
   |refine bW ?_
   |refine bW ?_
 all_goals simp only[Int.reduceEq,if_true,if_false,or_true,or_self,or_false,decide_true] at i a
 exact dV (aT (fun d=>aA (aC e rfl (aI (L0 (by omega) a)))) (fun d=>Zd (by omega) a));exact dV (aT (fun d=>aN e (by decide) (l:=C.enc) rfl rfl (mV hC t e fun h e=>aI (L0 (by omega) (i h e.tail)))) (fun d=>Zd (by omega) a));exact dV (aT (fun d=>xO (L0 (by omega) a)) (fun d=>Zd (by omega) a));exact dV (aT (fun d=>xO (L0 (by omega) a)) (fun d=>Zd (by omega) a));exact dV (aT (fun d=>xO (L0 (by omega) a)) (fun d=>Zd (by omega) a));exact(aT (fun d=>Hy (by omega) a) (fun d=>bG (aT (fun g=>Hy (by omega) a) (fun g=>bG (L0 (by omega) a)))));exact(aT (fun d=>Hy (by omega) a) (fun g=>bG (L0 (by omega) a)));exact a;exact a;exact(aT (fun d=>Hy (by omega) a) (fun g=>bG (L0 (by omega) a)));exact(aT (fun d=>Hy (by omega) a) (fun g=>bG (L0 (by omega) a)));exact dV (aT (fun d=>aI (L0 (by omega) a)) (fun d=>Zd (by omega) a));exact dV (aT (fun d=>aA (aC e rfl (aI (L0 (by omega) a)))) (fun d=>Zd (by omega) a))
end
section
theorem neN {a n:aQ} {k:Value->Prop} (e:k (.bool (decide (a≠n)))) {d:Bool} (hc:d=true:=by kernel_rfl):Gm d [0,0,0,0,0,0,0,1,0] .neq (.agg ⟨a.enc⟩) (.agg ⟨n.enc⟩) k:=by
 refine⟨hc,_,?_,e⟩;cases a;cases n;simp[Ei,mP,E1,Mm,aQ.enc];rw[Bool.eq_iff_iff];simp
set_option maxRecDepth 100000
attribute [local irreducible] bA Br ld1 rT sH A2 lH tD kC Nk fZ lT oX oU nW kS xH sY Ts Pe No M5 Qt Ns Ei Gm Sb jV nR qR iK copyV gZ vD Tg Tm E6 jX Kb Pq Tl mL pD uW vP Cl xS Tb qW qT jA eX cS bZ
variable {G:Bg} {h:AH} {L L':List HP}
theorem aG3 {P:Program} {f:FuncId} {p:List Nat} {n l d:Nat} {e:Nat->Value} {st:LoopState} {pd:Option Code} {k:Option Code×AH->Prop} (t:Hs G h L) [m:nZ l L ⟨P,f,p,n,e,d,st,pd⟩ L'] (g:st≠.busy) (q:∀i,Hs G i L'->k (pd,i)):bA (qT h l) k:=
 yl (P:=P) (f:=f) (p:=p) (n:=n) (e:=e) (d:=d) (st:=st) (pd:=pd) (k:=fun a b=>k (a,b)) (show Hs G h (fM P f p n e d l (st,pd)::L') from m.of t) g q
theorem at7 {l:List Int} {i:Nat} {k:Value->Prop} (e:l.length=7) (a:i<7) (d:k (I (l.getD i 0))):bA (Kb 7 1 (.agg ⟨l.map I⟩) (I i)) k:=
 dr a (by rw[List.getElem?_map,List.getElem?_eq_getElem (by omega),List.getD_eq_getElem?_getD,List.getElem?_eq_getElem (by omega)];rfl) d
theorem lr {k:Int} {Q:Value->AH->Prop} (a:Hs G h L) (e:∀p d,Hs G d (aE p 0 [I k]::L)->Q (.func (.func 322) #[] #[pt p 0 0]) d):Cl Pr K 287 [I k] h Q:=by
 refine cW (dL a ?_);intro p h a;exact e p h a
theorem sy {p n:Nat} (k:Ob G 2 wP) (e:n<14):cf Pr K G 322 [] [pt p 0 0] (aE p 0 [I n]) ((Ej n).map fun f=>[I f]):=by
 intro u J y L h Q a B t w;refine cW (aC a rfl (oR e (aA (Z2 a k (l:=(ny n).map I) (j8 e) (by rw[List.length_map,cx e]) (by rw[pf];omega) ?_))));have z:=cx e;have loop:∀(f i:Nat) (h:AH),i+f=7->Hs G h (aE p 0 [I n]::u ((ws (ny n) f i).map fun f=>[I f])::L)->Dd 322 1 [] Q [y,(.agg ⟨(ny n).map I⟩),(I i)] h:=by
  intro f;induction f with
  |zero=>
   intro i h x a;exact bW (aI (aaa (t _ h a)))
  |succ f D=>
   intro i h x a;unfold ws at a;refine bW (aI (aad (bW (at7 z (by omega) (bG (aT (fun g=>?_) (fun g=>?_)))))));rw[aLy g] at a;exact t _ h a;rw[aLx g] at a;refine(B _ _ h _ a.lJ).mono fun v q A=>?_;rcases A with⟨rfl,d⟩|⟨rfl,d⟩;exact bY (bP (bW (aac (D (i+1) q (by omega) d.lJ))));exact bY (dN (w _ q d.lJ))
 exact loop 7 0 h rfl a
def ckC (C:bQ) (n:aQ) (p2 g p5 i l d:Nat) (e:Nat->Value) (rest:List (List Value)) (fs:List Int) (a:aQ):List HP:=
 [rN (rest=fs.map fun f=>[I f]),rN (∀f∈fs,1<=f/\f<=13),rN (qK C n fs a=qK C n (Ej n.kind.toNat) (Di n.kind)),fM Pr 228 (fQ 1786) 41 e d l (.ready,none),aE p2 0 C.enc,aE g 0 n.enc,aE p5 0 [.bool true],aE i 0 a.enc]
def ckI (C:bQ) (n:aQ) (p2 a p5 f l d:Nat) (e:Nat->Value) (rest:List (List Value)):HP:=qV fun x:List Int×aQ=>sp (ckC C n p2 a p5 f l d e rest x.1 x.2)
def ckJ (C:bQ) (n:aQ) (p2 f p5 g l d:Nat) (e:Nat->Value):HP:=qV fun a:aQ=>sp [rN ((qK C n (Ej n.kind.toNat) (Di n.kind)).1=false),fM Pr 228 (fQ 1786) 41 e d l (.done,some (.exit 0)),aE p2 0 C.enc,aE f 0 n.enc,aE p5 0 [.bool false],aE g 0 a.enc]
theorem Be {C:bQ} {n:aQ} {p2 g p5 i l d:Nat} {e:Nat->Value} {rest:List (List Value)} {fs:List Int} {a:aQ} (k:rest=fs.map fun f=>[I f]) (q:∀f∈fs,1<=f/\f<=13) (t:qK C n fs a=qK C n (Ej n.kind.toNat) (Di n.kind))
  (u:Hs G h (sp [fM Pr 228 (fQ 1786) 41 e d l (.ready,none),aE p2 0 C.enc,aE g 0 n.enc,aE p5 0 [.bool true],aE i 0 a.enc]::L)):Hs G h (ckI C n p2 g p5 i l d e rest::L):=
 Hs.oZ (A:=fun x:List Int×aQ=>sp (ckC C n p2 g p5 i l d e rest x.1 x.2)) (fs,a) (xT k (xT q (xT t u)))
theorem zA {C:bQ} {n:aQ} {p2 k p5 q l d:Nat} {e:Nat->Value} {rest:List (List Value)} (g:Hs G h (ckI C n p2 k p5 q l d e rest::L)):∃i a,(rest=i.map fun f=>[I f])/\(∀f∈i,1<=f/\f<=13)/\qK C n i a=qK C n (Ej n.kind.toNat) (Di n.kind)/\
  Hs G h (fM Pr 228 (fQ 1786) 41 e d l (.ready,none)::aE p2 0 C.enc::aE k 0 n.enc::aE p5 0 [.bool true]::aE q 0 a.enc::L):=by
 obtain⟨⟨i,a⟩,g⟩:=Hs.rS g
 obtain⟨t,g⟩:=hJ g
 obtain⟨u,g⟩:=hJ g
 obtain⟨v,g⟩:=hJ g
 exact⟨i,a,t,u,v,g.unpack⟩
theorem aFd {C:bQ} {n:aQ} {Q:Value->AH->Prop} (P:Ob G 2 wP) (U:Ob G 0 eY) (i:Hs G h L) (u:∀q,Hs G q L->Q (I (uO C n)) q):Cl Pr K 228 [.agg ⟨C.enc⟩,.agg ⟨n.enc⟩] h Q:=by
 unfold uO at u;refine cW (dL i ?_);intro F h i;refine dL i ?_;intro E h i;refine aA (aC i rfl (yM (bY (dY (aT (fun t=>bW ?_) (fun t=>iT ?_))))));rw[aLy t] at u;refine aN i (by decide) (l:=C.enc) rfl rfl (nD U i fun h i=>?_);by_cases hC:C.Ok;rw[aLy hC] at u ⊢;refine aX (aaa (bW (bN i ?_)));intro T h i;refine ax i ?_;intro h i;refine aA (aC i rfl (aJ (c:=(Di n.kind).enc) rfl (bN i ?_)));intro z h i;refine ax i ?_;intro h i;obtain⟨m,V,Z,D⟩:=aIv t;refine aA (aC i rfl ?_);rw[V];refine lr i fun p h i=>iI i fun d h i=>?_;intro e X;refine jL i fun l h i=>?_;refine oB (by kernel_rfl) ?_;have O:=aBx (k:=m) D;have R:Hs G h (aE p 0 [I m]::ckI C n F E T z l d e ((Ej m).map fun f=>[I f])::mk d ()::L):=by
  refine Hs.lJ (Be (fs:=Ej m) (a:=Di n.kind) rfl O (by rw[V];rfl) ?_);exact i.to
 clear i;refine sy P D _ (ckJ C n F E T z l d e) _ _ h _ R ?_ ?_ ?_;intro x rest h M i;obtain⟨w,a,t,J,B,W⟩:=zA i;clear i;cases w with
 |nil=>cases t
 |cons f w=>
  simp only[List.map_cons,List.cons.injEq] at t;obtain⟨rfl,rfl⟩:=t;have N:=J f List.mem_cons_self;refine rW (nX W) X ?_;refine fG W fun h i=>?_;refine an E i (l:=n.enc) rfl rfl (Gd N i fun h i=>?_);refine an F i (l:=C.enc) rfl rfl (R3 hC N U i fun h i=>bY (dY (aT (fun S=>?_) (fun S=>?_))));refine aDw (p:=z) (n:=a) N (i.front (aE z 0 a.enc)) fun h i=>gK i fun h i=>?_;refine .inl ⟨rfl,Be (fs:=w) (a:=aDn a f (km n f)) rfl (fun g Y=>J g (List.mem_cons_of_mem _ Y)) ?_ i.to⟩;rw[<-B,qK,aLy S];refine ax i ?_;intro h i;refine gK i fun h i=> .inr ⟨rfl,?_⟩;refine Hs.oZ (A:=fun a:aQ=>sp [rN ((qK C n (Ej n.kind.toNat) (Di n.kind)).1=false),fM Pr 228 (fQ 1786) 41 e d l (.done,some (.exit 0)),aE F 0 C.enc,aE E 0 n.enc,aE T 0 [.bool false],aE z 0 a.enc]) a (xT ?_ i.to);rw[<-B,qK,aLx S]
 intro v q i;obtain⟨w,a,t,J,B,i⟩:=zA i.lJ;cases w with
 |cons f w=>cases t
 |nil=>
  rw[qK] at B;rw[<-B] at u;refine jN i fun q i=>jR ?_;refine aC i rfl (bY ?_);refine(bP (an z i (l:=a.enc) rfl rfl (an E i (l:=n.enc) rfl rfl (neN (aT (fun y=>?_) (fun y=>?_))))));refine jW i fun q i=>iT ?_;have:=u q i.to;rwa [aLx (fun e=>y e.2)] at this;refine jW i fun q i=>iT ?_;have:=u q i.to;rwa [aLy ⟨rfl,by simpa using y⟩] at this
 intro v q i;obtain⟨a,i⟩:=Hs.rS i.lJ;obtain⟨t,i⟩:=hJ i;have i:=i.unpack;refine aG3 i (by decide) fun q i=>Q4 rfl ?_;refine aC i rfl (bY ?_);refine(dN (jW i fun q i=>iT ?_));have:=u q i.to;rwa [aLx (fun e=>by rw[t] at e;cases e.1)] at this;rw[aLx hC] at u ⊢;refine aX (aad (iT (u h i.to)));rw[aLx t] at u;exact u h i.to
end
end Go.Proofs.YtmhapehobfnoiaaGreatDoor.N
