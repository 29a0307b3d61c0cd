/- A part of the proof. -/
import Derived.Test.YthgemaaghgpncaaDoorB11
import Derived.Test.YthgemaaghgpncaaDoorB7
import Derived.Test.YthgemaaghgpncaaDoorB9
section
open Go Go.Ab
attribute [local irreducible] aN Br wO yS Jx F5 qD Hu rP Ua qH sH tP Aa Ax vU Hh xJ Wu Y3 Ta X6 Xa S7 S8 Wa Wo vA sI C4 jK copyV mJ uA Yn Xd He oB P6 Yr Ys sU Ai I5 H3 Cl Dm V2 Ak vZ nL mE bP bQ
section
namespace Go.Proofs.YthgemaaghgpncaaDoor.C
open Go Go.Ab Go.Hm Go.Ct
set_option maxRecDepth 100000
variable {G:Bg} {h:AH} {L L' M:List HP} {C:bJ} {core:Int} {c:Nat} {s:eQ}
theorem G1 {s':eQ} {c t:Nat} {cs:List Value} {S:Nat→List Th} {L1 L2:List HP} (h1:cs=gI t C core s') (h2:S=s'.S) (hs:Hs G h L) [m:Has (aO c 0) L cs L1] [m2:Has (fA G t C.ways.toNat C.aD.toNat) L1 S L2]:Hs G h (dX G c C core s'::L2):=aV c t C core s' hs h1 h2
theorem Bi (hC:C.Ok) (hb:Bd s) {l at' ow v:Int} {Q:Value→AH→Prop} (hl:Ob G 0 eJ) (ho:Ob G 1 cK) (hs:Hs G h L) [m:Has (dX G c C core) L s L'] (hk:∀e h',Hs G h' (dX G c C core (gF C s l at' ow v)::L')→Q (I e) h'):Cl Pr K 21 [pt c 0 0,I l,I at',I ow,I v] h Q:=by
 have hs:=m.of hs
 unfold gF at hk
 refine cW (nZ (c:=c) (core:=core) (s:=s) hC hb hl ho hs fun h hs=>bL (bE (fun h1=>?_) (fun h1=>?_)))
 ·rw[if_neg h1] at hk;exact hk _ _ hs
 ·have h1:eZ C s.S l at' ow true=0:=by omega
  rw[if_pos h1] at hk
  obtain⟨hl1,ha,hp,hst⟩:=jT h1
  have hst:iU (aG C.aD.toNat s.S l).1.st=true:=hst
  obtain⟨t,hs⟩:=eW hs
  refine bW (aC (aA (aE (b:=c) (o:=0) hs rfl ?_)))
  refine mP (t:=t) (ways:=C.ways.toNat) (n:=C.aD.toNat) (S:=s.S) (gO hC).1 hb hs fun h hs=>aL rfl (aL rfl (gP hs ?_))
  intro p h hs
  refine dR hs rfl rfl rfl rfl ?_
  intro h hs
  refine bL (aY (by omega) (bW (aA (aE (b:=p) (o:=0) hs rfl (Gs ho hs hst (aL rfl (aL rfl (aA (bM (b:=p) (o:=0) hs rfl rfl rfl rfl ?_)))))))))
  intro h hs
  refine bL (aY (by omega) (bW (aA ?_)))
  have key:∀{c0:Bool} {h:AH},Hs G h (aO p 0 (jI C.aD.toNat s.S l at' v).enc::fA G t C.ways.toNat C.aD.toNat s.S::aO c 0 (gI t C core s)::L')→c0=true→
    Ua c0 h 8 fun _ h3=>aN (sH (pt c 0 0)) fun v5=>aN (qH 0 v5) fun v6=>aN (wO h3 v6) fun v7=>aN (yS h3 4 (pt p 0 0)) fun v8=>Cl Pr K 43 [v7,I l,v8] h3 fun v9 h9=>Q v9 h9:=by
   intro c0 h hs hc0
   refine aZ (hc:=hc0) hs ?_
   intro r h hs
   refine aC (aA (aE (b:=c) (o:=0) hs rfl (aP (b:=p) (o:=0) hs (by decide) (l:=(jI C.aD.toNat s.S l at' v).enc) rfl rfl ?_)))
   refine Be (t:=t) (ways:=C.ways.toNat) (n:=C.aD.toNat) (S:=s.S) hl1.1 (gO hC).1 hb hs fun h hs=>?_
   exact hk _ _ (aV c t C core {s with S:=(gA C.aD.toNat C.ways.toNat s.S l (jI C.aD.toNat s.S l at' v)).1} (cs:=gI t C core s) hs rfl rfl).to
  rcases ha with rfl|rfl
  ·refine fT (by decide) (by decide) (bM (b:=p) (o:=0) hs rfl rfl rfl rfl ?_)
   intro h hs
   exact key ((hs.sg (b:=p) (o:=0) (c:=(jI C.aD.toNat s.S l 0 v).enc) rfl).to) (by kernel_rfl)
  ·refine fT (by decide) (by decide) (bM (b:=p) (o:=0) hs rfl rfl rfl rfl ?_)
   intro h hs
   exact key ((hs.sg (b:=p) (o:=0) (c:=(jI C.aD.toNat s.S l 1 v).enc) rfl).to) (by kernel_rfl)
theorem L9 {t:Nat} {l w:Int} {wr:Bool} {ns:List aF} {a:Option Addr} {cp:Nat} {Q:Value→AH→Prop} (hn:ns.length≤1) (hs:Hs G h (aO c 0 (gI t C core (iR core s l w wr ns).1)::fA G t C.ways.toNat C.aD.toNat s.S::dP 9 77 a cp (ns.length,cT ns)::L))
  (hk:∀a' c' h',Hs G h' (dP 9 77 a' c' ((iR core s l w wr ns).2.1.length,cT (iR core s l w wr ns).2.1)::dX G c C core (iR core s l w wr ns).1::L)→Q (.tuple ⟨[.slice a' (iR core s l w wr ns).2.1.length c',I 0]⟩) h'):
  Br (.bool wr) (Dd 19 10 [] Q [(pt c 0 0),(I l),(I w),(.slice a ns.length cp)] h) (aN (sH (pt c 0 0)) fun v35=>aN (qH 8 v35) fun v36=>aN (wO h v36) fun v37=>
   aN (mR [(I 0),(I 0),(I 0),(I 0),(I 0),(I 0),(I 0),(.bool false),(I 0)] [(0,1,(I 1)),(1,1,v37),(2,1,(I l)),(3,1,(I w))]) fun c38=>
   aN (mR [(I 0),(I 0),(I 0),(I 0),(I 0),(I 0),(I 0),(.bool false),(I 0)] [(0,9,(.agg ⟨c38⟩))]) fun l40=>
   Hu h 9 77 l40 1 1 fun s41 h39=>aN (jK 9 72 77 h39 (.slice a ns.length cp) s41) fun r42=>(fun v43 h44=>Q (.tuple ⟨[v43,(I 0)]⟩) h44) r42.1 r42.2):=by
 have fin:∀{h:AH} {a':Option Addr} {c':Nat} (x:aF),x=⟨if wr then 2 else 1,core,l,w,0,0,0,false,0⟩→Hs G h (dP 9 77 a' c' (ns.length+1,cT ns++x.enc)::aO c 0 (gI t C core (iR core s l w wr ns).1)::fA G t C.ways.toNat C.aD.toNat s.S::L)→Q (.tuple ⟨[.slice a' (ns.length+1) c',I 0]⟩) h:=by
  intro h a' c' x hx hs
  have e1:(iR core s l w wr ns).2.1=ns++[x]:=by rw[hx];rfl
  have:=hk a' c' h
  rw[e1] at this
  simp only[List.length_append,List.length_cons,List.length_nil,cT,List.flatMap_append,List.flatMap_cons,List.flatMap_nil,List.append_nil,Nat.zero_add] at this
  refine this ?_
  have hs:=G1 (s':=(iR core s l w wr ns).1) (t:=t) (c:=c) rfl rfl hs
  exact hs.tE
 cases wr
 ·refine eS (aC (aA (aE (b:=c) (o:=0) hs rfl (aR (c:=(⟨1,core,l,w,0,0,0,false,0⟩:aF).enc) rfl (aR (c:=(⟨1,core,l,w,0,0,0,false,0⟩:aF).enc) rfl (fB (W:=9) (n:=1) (c:=1) hs rfl rfl rfl ?_))))))
  intro a2 h hs
  refine oW (a:=a) (c:=cp) (n:=ns.length) (cs:=cT ns) (a2:=some a2) (c2:=1) (m:=1) (ns:=(⟨1,core,l,w,0,0,0,false,0⟩:aF).enc) hs (by omega) ?_
  intro a' c' h hs
  exact fin ⟨1,core,l,w,0,0,0,false,0⟩ rfl hs.to
 ·refine mV (bW (aC (aA (aE (b:=c) (o:=0) hs rfl (aR (c:=(⟨2,core,l,w,0,0,0,false,0⟩:aF).enc) rfl (aR (c:=(⟨2,core,l,w,0,0,0,false,0⟩:aF).enc) rfl (fB (W:=9) (n:=1) (c:=1) hs rfl rfl rfl ?_)))))))
  intro a2 h hs
  refine oW (a:=a) (c:=cp) (n:=ns.length) (cs:=cT ns) (a2:=some a2) (c2:=1) (m:=1) (ns:=(⟨2,core,l,w,0,0,0,false,0⟩:aF).enc) hs (by omega) ?_
  intro a' c' h hs
  exact fin ⟨2,core,l,w,0,0,0,false,0⟩ rfl hs.to
theorem Oq {t:Nat} {l w:Int} {wr:Bool} {ns:List aF} {a:Option Addr} {cp:Nat} {Q:Value→AH→Prop} (hn:ns.length≤1) (hs:Hs G h (aO c 0 (gI t C core s)::fA G t C.ways.toNat C.aD.toNat s.S::dP 9 77 a cp (ns.length,cT ns)::L))
  (hk:∀a' c' h',Hs G h' (dP 9 77 a' c' ((iR core s l w wr ns).2.1.length,cT (iR core s l w wr ns).2.1)::dX G c C core (iR core s l w wr ns).1::L)→Q (.tuple ⟨[.slice a' (iR core s l w wr ns).2.1.length c',I 0]⟩) h'):
  Dd 19 8 [] Q [(pt c 0 0),(I l),(I w),(.bool wr),(.slice a ns.length cp)] h:=by
 refine bW (aR (c:=[I l,.bool wr,.bool true]) rfl (aC (aA (bM (b:=c) (o:=0) hs rfl rfl rfl rfl ?_))))
 intro h hs
 have hs:=hs.sg (b:=c) (o:=0) (c:=gI t C core (iR core s l w wr ns).1) rfl
 exact L9 (t:=t) hn hs hk
theorem T5 (_:Bd s) {t p:Nat} {l w no:Int} {x:jW} {wr:Bool} {S:Nat→List Th} {Q:Value→AH→Prop} (ho:Ob G 1 cK) (hs:Hs G h (aO p 0 x.enc::aO c 0 (gI t C core s)::fA G t C.ways.toNat C.aD.toNat S::L))
  (hk:∀a' c' h' r,r=iR core {s with S:=S,gl:=no,gc:=x,lA:=true} l w wr [⟨3,core,no,x.w,0,x.d.1,x.d.2,fQ x.st,0⟩]→Hs G h' (dP 9 77 a' c' (r.2.1.length,cT r.2.1)::dX G c C core r.1::L)→Q (.tuple ⟨[.slice a' r.2.1.length c',I 0]⟩) h'):
  Dd 19 11 [] Q [(pt c 0 0),(I l),(I w),(.bool wr),(.slice none 0 0),(I no),(pt p 0 0)] h:=by
 refine bW (aP hs (by decide) (l:=x.enc) rfl rfl (aR (c:=[I no,I x.st,I x.w,I x.d.1,I x.d.2,.bool true]) rfl (aC (aA (bM (b:=c) (o:=0) hs rfl rfl rfl rfl ?_)))))
 intro h hs
 have hs:=hs.sg (b:=c) (o:=0) (c:=gI t C core {s with S:=S,gl:=no,gc:=x,lA:=true}) rfl
 refine aZ hs ?_
 intro rr h hs
 refine aC (aA (aE (b:=c) (o:=0) hs rfl (aA (aE (b:=p) (o:=0) hs rfl (aA (aP (b:=p) (o:=0) hs (by decide) (l:=[I x.d.1,I x.d.2]) rfl rfl (aA (aE (b:=p) (o:=0) hs rfl (Ao ho hs ?_)))))))))
 refine aR (c:=(⟨3,core,no,x.w,0,x.d.1,x.d.2,fQ x.st,0⟩:aF).enc) rfl (aR (c:=(⟨3,core,no,x.w,0,x.d.1,x.d.2,fQ x.st,0⟩:aF).enc) rfl ?_)
 refine oI (i:=14) (N:=17) (D:=[]) hs rfl rfl rfl rfl rfl ?_
 intro a2 h hs
 have hs:=gH (W:=9) (e:=77) hs
 refine oW (a:=none) (c:=0) (n:=0) (cs:=[]) (a2:=some a2) (c2:=1) (m:=1) (ns:=(⟨3,core,no,x.w,0,x.d.1,x.d.2,fQ x.st,0⟩:aF).enc) hs (by omega) ?_
 intro a' c' h2 hs2
 have hsp:Hs G h (aO p 0 x.enc::_):=hs.front (aO p 0 x.enc)
 have hsc:Hs G h (aO c 0 (gI t C core {s with S:=S,gl:=no,gc:=x,lA:=true})::_):=hs.front (aO c 0 (gI t C core {s with S:=S,gl:=no,gc:=x,lA:=true}))
 refine hZ Zg (hZ iN (hZ (aC iN) (hZ (aA iN) (hZ (aE (b:=c) (o:=0) hsc rfl uM) (hZ uM (hZ (aA iN) (hZ (aE (b:=p) (o:=0) hsp rfl uM) (hZ (aA iN) (hZ (aP (b:=p) (o:=0) hsp (by decide) (l:=[I x.d.1,I x.d.2]) rfl rfl (rQ (by simp[mL]))) ?_)))))))))
 refine aR (c:=[I l,.bool wr,.bool true]) rfl (aC (aA (bM (b:=c) (o:=0) hs2 rfl rfl rfl rfl ?_)))
 intro h hs
 have hs:=hs.sg (b:=c) (o:=0) (c:=gI t C core (iR core {s with S:=S,gl:=no,gc:=x,lA:=true} l w wr [⟨3,core,no,x.w,0,x.d.1,x.d.2,fQ x.st,0⟩]).1) rfl
 refine L9 (t:=t) (s:={s with S:=S,gl:=no,gc:=x,lA:=true}) (ns:=[⟨3,core,no,x.w,0,x.d.1,x.d.2,fQ x.st,0⟩]) (a:=a') (cp:=c') (L:=L) (by simp) ?_ (fun a' c' h'=>hk a' c' h' _ rfl)
 exact(show Hs G h (aO c 0 (gI t C core (iR core {s with S:=S,gl:=no,gc:=x,lA:=true} l w wr [⟨3,core,no,x.w,0,x.d.1,x.d.2,fQ x.st,0⟩]).1)::fA G t C.ways.toNat C.aD.toNat S::dP 9 77 a' c' (0+1,[]++(⟨3,core,no,x.w,0,x.d.1,x.d.2,fQ x.st,0⟩:aF).enc)::L) from hs.to)
theorem Ql (hC:C.Ok) (hb:Bd s) {t:Nat} {l w:Int} (h0:0≤l) {wr:Bool} {Q:Value→AH→Prop} (ho:Ob G 1 cK) (hs:Hs G h (aO c 0 (gI t C core s)::fA G t C.ways.toNat C.aD.toNat s.S::L))
  (hk:∀a' c' h',Hs G h' (dP 9 77 a' c' ((sV C core s l w wr).2.1.length,cT (sV C core s l w wr).2.1)::dX G c C core (sV C core s l w wr).1::L)→Q (.tuple ⟨[.slice a' (sV C core s l w wr).2.1.length c',I (sV C core s l w wr).2.2]⟩) h'):
  aN (sH (pt c 0 0)) fun v0=>aN (qH 0 v0) fun v1=>aN (wO h v1) fun v2=>Cl Pr K 37 [v2,I l] h fun v3 h3=>
   aN (tP 0 v3) fun v4=>aN (tP 1 v3) fun v5=>aN (tP 2 v3) fun v6=>aN (xJ .neq v6 (I 0)) fun v7=>
   Br v7 (Q (.tuple ⟨[(.slice none 0 0),v6]⟩) h3) (Dd 19 6 [] Q [(pt c 0 0),(I l),(I w),(.bool wr),(.slice none 0 0),v4,v5] h3):=by
 unfold sV at hk
 refine aC (aA (aE (b:=c) (o:=0) hs rfl ?_))
 refine Ow (t:=t) (ways:=C.ways.toNat) (n:=C.aD.toNat) (S:=s.S) (gO hC).2.2.1 (gO hC).1 h0 hb hs fun h hs=>?_
 cases hv:pY C.aD.toNat C.ways.toNat s.S l with
 |none=>
  simp only[hv] at hk
  refine aL rfl (aL rfl (aL rfl (bL (aY (by omega) (bW (eS ?_))))))
  exact Oq (t:=t) (s:=s) (ns:=[]) (a:=none) (cp:=0) (L:=L) (by simp) (show Hs G h (aO c 0 (gI t C core s)::fA G t C.ways.toNat C.aD.toNat s.S::dP 9 77 none 0 (0,[])::L) from(gH (W:=9) (e:=77) hs).to) hk
 |some v=>
  simp only[hv] at hk
  refine aL rfl (aL rfl (aL rfl (bL (aY (by omega) (bW (mV (bW (aC (aA (aA (aE (b:=c) (o:=0) hs rfl (cS (fun h1=>?_) (fun h1=>?_)))))))))))))
  ·simp only[h1,if_true] at hk
   exact hk none 0 h (gH (W:=9) (e:=77) (G1 (s':=s) (t:=t) (c:=c) rfl rfl hs))
  ·simp only[if_neg (show ¬(s.lA=true) from by rw[h1];simp)] at hk
   refine bW (aC (aA (aE (b:=c) (o:=0) hs rfl ?_)))
   refine Ej (t:=t) (ways:=C.ways.toNat) (n:=C.aD.toNat) (S:=s.S) (gO hC).1 hb hs fun h hs=>aL rfl (aL rfl (gP hs ?_))
   intro p h hs
   refine dR hs rfl rfl rfl rfl ?_
   intro h hs
   refine bL (bE (fun h2=>?_) (fun h2=>?_))
   ·simp only[if_pos h2] at hk
    refine hk none 0 h (gH (W:=9) (e:=77) ?_)
    exact(aV c t C core {s with S:=dM C.aD.toNat s.S v.1} (cs:=gI t C core s) hs rfl rfl).to
   ·simp only[if_neg h2] at hk
    refine T5 (s:=s) hb ho (show Hs G h (aO p 0 (aG C.aD.toNat s.S v.1).1.enc::aO c 0 (gI t C core s)::fA G t C.ways.toNat C.aD.toNat (dM C.aD.toNat s.S v.1)::L) from hs.to) ?_
    intro a' c' h' r hr
    subst hr
    exact hk a' c' h'
theorem Uw (hC:C.Ok) (hb:Bd s) {l w:Int} {wr:Bool} {Q:Value→AH→Prop} (hl:Ob G 0 eJ) (ho:Ob G 1 cK) (hs:Hs G h L) [m:Has (dX G c C core) L s L']
  (hk:∀a' c' h',Hs G h' (dP 9 77 a' c' ((want C core s l w wr).2.1.length,cT (want C core s l w wr).2.1)::dX G c C core (want C core s l w wr).1::L')→Q (.tuple ⟨[.slice a' (want C core s l w wr).2.1.length c',I (want C core s l w wr).2.2]⟩) h'):
  Cl Pr K 19 [pt c 0 0,I l,I w,.bool wr] h Q:=by
 have hs:=m.of hs
 unfold want at hk
 refine cW (iJ (eS (bW (mC (c:=c) (core:=core) (s:=s) hC hl hs fun h hs=>dY (gU (cS (fun h1=>?_) (fun h1=>?_)))))))
 ·simp only[h1,Bool.true_eq_false,if_false] at hk
  have h0:0≤l:=(of_decide_eq_true h1).1
  obtain⟨t,hs⟩:=eW hs
  refine bW (aC (aA (aA (aE (b:=c) (o:=0) hs rfl (cS (fun h2=>?_) (fun h2=>bW ?_))))))
  ·simp only[h2,if_true] at hk
   exact hk none 0 h (gH (W:=9) (e:=77) (aV c t C core s hs rfl rfl))
  ·simp only[h2,Bool.false_eq_true,if_false] at hk
   have key:¬(s.lA=true∧s.gl=l)→(aN (sH (pt c 0 0)) fun v0=>aN (qH 0 v0) fun v1=>aN (wO h v1) fun v2=>Cl Pr K 14 [v2,I l] h fun v3 h3=>
     aN (tP 0 v3) fun v4=>aN (tP 1 v3) fun v5=>F5 h3 (.cells [(I 0),(I 0),(I 0),(I 0)] 50 (0,0) true) fun p7 h6=>aN (Jx h6 4 (pt p7 0 0) v4) fun h8=>aN (xJ .eql v5 (I 0)) fun v9=>
     Br v9 (aN (yS h8 4 (pt p7 0 0)) fun v10=>Cl Pr K 36 [v10,.bool wr] h8 fun v11 h11=>Br v11 (Q (.tuple ⟨[(.slice none 0 0),(I 13)]⟩) h11) (Dd 19 5 [] Q [(pt c 0 0),(I l),(I w),(.bool wr)] h11))
      (aN (sH (pt c 0 0)) fun v0=>aN (qH 0 v0) fun v1=>aN (wO h8 v1) fun v2=>Cl Pr K 37 [v2,I l] h8 fun v3 h3=>
       aN (tP 0 v3) fun v4=>aN (tP 1 v3) fun v5=>aN (tP 2 v3) fun v6=>aN (xJ .neq v6 (I 0)) fun v7=>
       Br v7 (Q (.tuple ⟨[(.slice none 0 0),v6]⟩) h3) (Dd 19 6 [] Q [(pt c 0 0),(I l),(I w),(.bool wr),(.slice none 0 0),v4,v5] h3))):=by
    intro h3
    simp only[if_neg h3] at hk
    refine aC (aA (aE (b:=c) (o:=0) hs rfl ?_))
    refine mP (t:=t) (ways:=C.ways.toNat) (n:=C.aD.toNat) (S:=s.S) (gO hC).1 hb hs fun h hs=>aL rfl (aL rfl (gP hs ?_))
    intro p h hs
    refine dR hs rfl rfl rfl rfl ?_
    intro h hs
    have hsT:Hs G h (aO c 0 (gI t C core s)::fA G t C.ways.toNat C.aD.toNat s.S::aO p 0 (aG C.aD.toNat s.S l).1.enc::L'):=hs.to
    have drop3:∀{a' c' h'} {X:List Value} {n:Nat} {s':eQ},Hs G h' (dP 9 77 a' c' (n,X)::dX G c C core s'::aO p 0 (aG C.aD.toNat s.S l).1.enc::L')→Hs G h' (dP 9 77 a' c' (n,X)::dX G c C core s'::L'):=fun hs=>hs.to
    refine bH (bE (fun h4=>?_) (fun h4=>?_))
    ·refine aP (b:=p) (o:=0) hs (by decide) (l:=(aG C.aD.toNat s.S l).1.enc) rfl rfl (Dg ho hs fun h hs=>cS (fun h5=>?_) (fun h5=>?_))
     ·simp only[if_pos (show(aG C.aD.toNat s.S l).2=0∧iE (aG C.aD.toNat s.S l).1.st wr=true from⟨h4,h5⟩)] at hk
      exact hk none 0 h (gH (W:=9) (e:=77) (aV c t C core s hs rfl rfl).to)
     ·simp only[if_neg (show ¬((aG C.aD.toNat s.S l).2=0∧iE (aG C.aD.toNat s.S l).1.st wr=true) from fun e=>by rw[h5] at e;exact absurd e.2 (by simp))] at hk
      refine bW (Ql hC hb h0 ho (show Hs G h (aO c 0 (gI t C core s)::fA G t C.ways.toNat C.aD.toNat s.S::L') from hs.to) hk)
    ·simp only[if_neg (show ¬((aG C.aD.toNat s.S l).2=0∧iE (aG C.aD.toNat s.S l).1.st wr=true) from fun e=>h4 e.1)] at hk
     exact Ql hC hb h0 ho hsT fun a' c' h' hs=>hk a' c' h' (drop3 hs)
   refine aC (aA (aA (aE (b:=c) (o:=0) hs rfl (cS (fun h3=>?_) (fun h3=>?_)))))
   ·refine aC (aA (aA (aE (b:=c) (o:=0) hs rfl (bH (bE (fun h4=>?_) (fun h4=>bW (key (fun e=>h4 e.2))))))))
    simp only[if_pos (show s.lA=true∧s.gl=l from⟨h3,h4⟩)] at hk
    exact hk none 0 h (gH (W:=9) (e:=77) (aV c t C core s hs rfl rfl))
   ·exact key (fun e=>by rw[h3] at e;exact absurd e.1 (by simp))
 ·simp only[h1,if_true] at hk
  exact hk none 0 h (gH (W:=9) (e:=77) hs)
end Go.Proofs.YthgemaaghgpncaaDoor.C
end
section
namespace Go.Proofs.YthgemaaghgpncaaDoor.C
open Go Go.Ab Go.Hm Go.Ct
set_option maxRecDepth 100000
variable {G:Bg} {h:AH} {L L' M:List HP} {C:bJ} {core:Int} {c:Nat} {s:eQ} {n:aF}
theorem lB {a:eQ} {Q:Value→AH→Prop} {e:Int} {r:Tk} (hk:∀a' c' h',Hs G h' (dP 9 77 a' c' (r.2.1.length,cT r.2.1)::dX G c C core r.1::L)→Q (.tuple ⟨[.slice a' r.2.1.length c',I r.2.2]⟩) h') (hr:r=(a,[],e)) (hs:Hs G h (dX G c C core a::L)):Q (.tuple ⟨[.slice none 0 0,I e]⟩) h:=by
 subst hr
 exact hk none 0 h (gH (W:=9) (e:=77) hs)
theorem B8 {a:eQ} {x:aF} {p:Addr} {Q:Value→AH→Prop} {r:Tk} (hk:∀a' c' h',Hs G h' (dP 9 77 a' c' (r.2.1.length,cT r.2.1)::dX G c C core r.1::L)→Q (.tuple ⟨[.slice a' r.2.1.length c',I r.2.2]⟩) h') (hr:r=(a,[x],0)) (hs:Hs G h (dP 9 77 (some p) 1 (1,x.enc)::dX G c C core a::L)):Q (.tuple ⟨[.slice (some p) 1 1,I 0]⟩) h:=by
 subst hr
 refine hk (some p) 1 h ?_
 have e:cT [x]=x.enc:=by simp[cT]
 simp only[e,List.length_cons,List.length_nil,Nat.zero_add]
 exact hs
abbrev M4 (G:Bg) (c:Nat) (C:bJ) (core:Int) (L:List HP) (Q:Value→AH→Prop) (r:Tk):Prop:=∀a' c' h',Hs G h' (dP 9 77 a' c' (r.2.1.length,cT r.2.1)::dX G c C core r.1::L)→Q (.tuple ⟨[.slice a' r.2.1.length c',I r.2.2]⟩) h'
theorem Uh {Q:Value→AH→Prop} (hs:Hs G h (dX G c C core s::L)) (hk:M4 G c C core L Q (sS s n)):Cl Pr K 65 [pt c 0 0,.agg ⟨n.enc⟩] h Q:=by
 obtain⟨t,hs⟩:=eW hs
 refine cW (iA hs ?_)
 intro p h hs
 refine aZ hs ?_
 intro r h hs
 refine aC (aA (aA (aE (b:=c) (o:=0) hs rfl (dY (gU (cS (fun h1=>?_) (fun h1=>?_)))))))
 ·refine aC (aA (aA (aE (b:=c) (o:=0) hs rfl (aA (aE (b:=p) (o:=0) hs rfl (bL (bE (fun h2=>?_) (fun h2=>?_))))))))
  ·exact lB hk (a:=s) (e:=16) (by simp[sS,h1,h2]) (aV c t C core s hs rfl rfl).to
  ·refine bW (aR (c:=[I 0,.bool false,.bool false]) rfl (aC (aA (bM (b:=c) (o:=0) hs rfl rfl rfl rfl ?_))))
   intro h hs
   have h2:s.al=n.line:=by simpa using h2
   exact lB hk (a:={s with al:=0,aw:=false,sB:=false}) (e:=0) (by simp[sS,h1,h2]) (aV c t C core {s with al:=0,aw:=false,sB:=false} hs rfl rfl).to
 ·exact lB hk (a:=s) (e:=16) (by simp[sS,h1]) (aV c t C core s hs rfl rfl).to
theorem N9 {Q:Value→AH→Prop} (hs:Hs G h (dX G c C core s::L)) (hk:M4 G c C core L Q (kK s n)):Cl Pr K 66 [pt c 0 0,.agg ⟨n.enc⟩] h Q:=by
 obtain⟨t,hs⟩:=eW hs
 refine cW (iA hs ?_)
 intro p h hs
 refine aZ hs ?_
 intro r h hs
 refine aC (aA (aA (aE (b:=c) (o:=0) hs rfl (dY (gU (cS (fun h1=>?_) (fun h1=>?_)))))))
 ·refine aC (aA (aA (aE (b:=c) (o:=0) hs rfl (aA (aE (b:=p) (o:=0) hs rfl (bL (bE (fun h2=>?_) (fun h2=>?_))))))))
  ·exact lB hk (a:=s) (e:=12) (by simp[kK,h1,h2]) (aV c t C core s hs rfl rfl).to
  ·refine bW (aR (c:=[I 0,I 0,I 0,I 0,I 0,.bool false]) rfl (aC (aA (bM (b:=c) (o:=0) hs rfl rfl rfl rfl ?_))))
   intro h hs
   have h2:s.gl=n.line:=by simpa using h2
   exact lB hk (a:={s with gl:=0,gc:=jW.zero,lA:=false}) (e:=0) (by simp[kK,h1,h2]) (aV c t C core {s with gl:=0,gc:=jW.zero,lA:=false} hs rfl rfl).to
 ·exact lB hk (a:=s) (e:=12) (by simp[kK,h1]) (aV c t C core s hs rfl rfl).to
theorem To {t p:Nat} {S:Nat→List Th} {Q:Value→AH→Prop} {r:Tk} (hs:Hs G h (aO p 0 n.enc::aO c 0 (gI t C core s)::fA G t C.ways.toNat C.aD.toNat S::L)) (hk:M4 G c C core L Q r) (hr:r=({s with S:=S,al:=0,aw:=false,sB:=false},[⟨4,core,n.line,0,0,0,0,false,0⟩],0)):
  Dd 64 4 [] Q [(pt c 0 0),(pt p 0 0)] h:=by
 refine bW (aR (c:=[I 0,.bool false,.bool false]) rfl (aC (aA (bM (b:=c) (o:=0) hs rfl rfl rfl rfl ?_))))
 intro h hs
 refine aZ hs ?_
 intro rr h hs
 refine aC (aA (aE (b:=c) (o:=0) hs rfl (aA (aE (b:=p) (o:=0) hs rfl ?_))))
 refine aR (c:=(⟨4,core,n.line,0,0,0,0,false,0⟩:aF).enc) rfl (aR (c:=(⟨4,core,n.line,0,0,0,0,false,0⟩:aF).enc) rfl ?_)
 refine oI (i:=7) (N:=10) (D:=[]) hs rfl rfl rfl rfl rfl ?_
 intro a h hs
 refine B8 hk (p:=a) hr ?_
 have hs:=aV c t C core {s with S:=S,al:=0,aw:=false,sB:=false} hs rfl rfl
 exact hs.to
theorem uG (hC:C.Ok) (hb:Bd s) {Q:Value→AH→Prop} (h0:0≤n.line) (hs:Hs G h (dX G c C core s::L)) (hk:M4 G c C core L Q (lX C core s n)):Cl Pr K 64 [pt c 0 0,.agg ⟨n.enc⟩] h Q:=by
 obtain⟨t,hs⟩:=eW hs
 refine cW (iA hs ?_)
 intro p h hs
 refine aZ hs ?_
 intro r h hs
 refine aC (aA (aA (aE (b:=c) (o:=0) hs rfl (dY (gU (cS (fun h1=>?_) (fun h1=>?_)))))))
 ·refine aC (aA (aA (aE (b:=c) (o:=0) hs rfl (aA (aE (b:=p) (o:=0) hs rfl (bL (bE (fun h2=>?_) (fun h2=>?_))))))))
  ·exact lB hk (a:=s) (e:=16) (by simp[lX,h1,h2]) (aV c t C core s hs rfl rfl).to
  ·have h2:s.al=n.line:=by simpa using h2
   refine bW (aA (aE (b:=p) (o:=0) hs rfl (aA (aE (b:=p) (o:=0) hs rfl (aA (aP (b:=p) (o:=0) hs (by decide) (l:=[I n.d0,I n.d1]) rfl rfl ?_))))))
   refine aR (c:=(⟨n.state,n.world,(n.d0,n.d1)⟩:jW).enc) rfl (gP hs ?_)
   intro p2 h hs
   refine dR hs rfl rfl rfl rfl ?_
   intro h hs
   refine aZ hs ?_
   intro r2 h hs
   refine aC (aA (aE (b:=c) (o:=0) hs rfl (aA (aE (b:=p) (o:=0) hs rfl ?_))))
   refine mP (t:=t) (ways:=C.ways.toNat) (n:=C.aD.toNat) (S:=s.S) (gO hC).1 hb hs fun h hs=>aL rfl (aL rfl ?_)
   refine uV (i:=10) hs rfl rfl ?_
   intro p3 h hs
   refine dR hs rfl rfl rfl rfl ?_
   intro h hs
   have fin:∀{c0:Bool} {h:AH},c0=true→Hs G h (aO p2 0 (fC C s n).enc::aO p 0 n.enc::aO c 0 (gI t C core s)::fA G t C.ways.toNat C.aD.toNat s.S::L)→
     (Ua c0 h 9 fun r1 h0=>aN (sH (pt c 0 0)) fun v2=>aN (qH 0 v2) fun v3=>aN (wO h0 v3) fun v4=>aN (qH 2 (pt p 0 0)) fun v5=>aN (wO h0 v5) fun v6=>aN (yS h0 4 (pt p2 0 0)) fun v7=>
      Cl Pr K 43 [v4,v6,v7] h0 fun v8 h8=>aN (xJ .neq v8 (I 0)) fun v9=>Br v9 (Q (.tuple ⟨[(.slice none 0 0),v8]⟩) h8) (Dd 64 4 [] Q [(pt c 0 0),(pt p 0 0)] h8)):=by
    intro c0 h hc0 hs
    refine aZ (hc:=hc0) hs ?_
    intro r3 h hs
    refine aC (aA (aE (b:=c) (o:=0) hs rfl (aA (aE (b:=p) (o:=0) hs rfl (aP (b:=p2) (o:=0) hs (by decide) (l:=(fC C s n).enc) rfl rfl ?_)))))
    refine Be (t:=t) (ways:=C.ways.toNat) (n:=C.aD.toNat) (S:=s.S) h0 (gO hC).1 hb hs fun h hs=>?_
    refine bL (bE (fun h3=>?_) (fun h3=>?_))
    ·refine lB hk (a:={s with S:=(gA C.aD.toNat C.ways.toNat s.S n.line (fC C s n)).1}) (by simp[lX,h1,h2,h3]) ?_
     exact(aV c t C core {s with S:=(gA C.aD.toNat C.ways.toNat s.S n.line (fC C s n)).1} (cs:=gI t C core s) hs rfl rfl).to
    ·have h3:(gA C.aD.toNat C.ways.toNat s.S n.line (fC C s n)).2=0:=by simpa using h3
     exact To (t:=t) (S:=(gA C.aD.toNat C.ways.toNat s.S n.line (fC C s n)).1) (s:=s) (n:=n) hs.to hk (by simp[lX,h1,h2,h3])
   refine hZ (aL rfl uM) (bH (bE (fun h3=>bW ?_) (fun h3=>bW (fin (by kernel_rfl) ?_))))
   ·refine aA (aP (b:=p3) (o:=0) hs (by decide) (l:=[I (aG C.aD.toNat s.S n.line).1.d.1,I (aG C.aD.toNat s.S n.line).1.d.2]) rfl rfl (aA (bM (b:=p2) (o:=0) hs rfl rfl rfl rfl ?_)))
    intro h hs
    have e:fC C s n=⟨n.state,n.world,(aG C.aD.toNat s.S n.line).1.d⟩:=by simp[fC,h3]
    have hs:=hs.sg (b:=p2) (o:=0) (c:=(fC C s n).enc) (by rw[e];rfl)
    exact fin (by kernel_rfl) hs.to
   ·have e:fC C s n=⟨n.state,n.world,(n.d0,n.d1)⟩:=by simp[fC,h3]
    rw[e]
    exact hs.to
 ·exact lB hk (a:=s) (e:=16) (by simp[lX,h1]) (aV c t C core s hs rfl rfl).to
end Go.Proofs.YthgemaaghgpncaaDoor.C
end
section
namespace Go.Proofs.YthgemaaghgpncaaDoor.C
open Go Go.Ab Go.Hm Go.Ct
set_option maxRecDepth 100000
variable {G:Bg} {h:AH} {L L' M:List HP} {C:bJ} {core:Int} {c:Nat} {s:eQ} {n:aF}
theorem Uy {t p q:Nat} {x:jW} {y:aF} {Q:Value→AH→Prop} {r:Tk} (hs:Hs G h (aO p 0 y.enc::aO q 0 x.enc::aO c 0 (gI t C core s)::fA G t C.ways.toNat C.aD.toNat s.S::L)) (hk:M4 G c C core L Q r) (hr:r=({s with gc:=x},[y],0)):
  Dd 67 8 [] Q [(pt c 0 0),(pt p 0 0),(pt q 0 0)] h:=by
 refine bW (aP (b:=q) (o:=0) hs (by decide) (l:=x.enc) rfl rfl (aC (aA (aA (bM (b:=c) (o:=0) hs rfl rfl rfl rfl ?_)))))
 intro h hs
 refine aP (b:=p) (o:=0) hs (by decide) (l:=y.enc) rfl rfl (aR (c:=y.enc) rfl (fB (W:=9) (n:=1) (c:=1) hs rfl rfl rfl ?_))
 intro a h hs
 refine B8 hk (p:=a) hr ?_
 have hs:=aV c t C core {s with gc:=x} hs rfl rfl
 exact hs.to
theorem T1 (hC:C.Ok) (hb:Bd s) (h0:0≤n.line) {t p0 p q:Nat} {x:jW} {y:aF} {Q:Value→AH→Prop} {r:Tk} (hs:Hs G h (aO p 0 y.enc::aO q 0 x.enc::aO p0 0 n.enc::aO c 0 (gI t C core s)::fA G t C.ways.toNat C.aD.toNat s.S::L)) (hk:M4 G c C core L Q r)
  (hr:r=({s with S:=if x.st=0 then dM C.aD.toNat s.S n.line else(gA C.aD.toNat C.ways.toNat s.S n.line x).1},[y],0)):
  Dd 67 9 [] Q [(pt c 0 0),(pt p0 0 0),(pt p 0 0),(pt q 0 0),(I x.st)] h:=by
 refine bW (bH (bE (fun h1=>bW (aZ hs ?_)) (fun h1=>bW (aZ hs ?_))))
 ·intro rr h hs
  simp only[if_pos h1] at hr
  refine aC (aA (aE (b:=c) (o:=0) hs rfl (aA (aE (b:=p0) (o:=0) hs rfl ?_))))
  refine Ej (t:=t) (ways:=C.ways.toNat) (n:=C.aD.toNat) (S:=s.S) (gO hC).1 hb hs fun h hs=>?_
  refine aP (b:=p) (o:=0) hs (by decide) (l:=y.enc) rfl rfl (aR (c:=y.enc) rfl (fB (W:=9) (n:=1) (c:=1) hs rfl rfl rfl ?_))
  intro a h hs
  refine B8 hk (p:=a) hr ?_
  have hs:=aV c t C core {s with S:=dM C.aD.toNat s.S n.line} (cs:=gI t C core s) hs rfl rfl
  exact hs.to
 ·intro rr h hs
  simp only[if_neg h1] at hr
  refine aC (aA (aE (b:=c) (o:=0) hs rfl (aA (aE (b:=p0) (o:=0) hs rfl (aP (b:=q) (o:=0) hs (by decide) (l:=x.enc) rfl rfl ?_)))))
  refine Be (t:=t) (ways:=C.ways.toNat) (n:=C.aD.toNat) (S:=s.S) h0 (gO hC).1 hb hs fun h hs=>?_
  refine aP (b:=p) (o:=0) hs (by decide) (l:=y.enc) rfl rfl (aR (c:=y.enc) rfl (fB (W:=9) (n:=1) (c:=1) hs rfl rfl rfl ?_))
  intro a h hs
  refine B8 hk (p:=a) hr ?_
  have hs:=aV c t C core {s with S:=(gA C.aD.toNat C.ways.toNat s.S n.line x).1} (cs:=gI t C core s) hs rfl rfl
  exact hs.to
theorem Ms (hC:C.Ok) (hb:Bd s) (h0:0≤n.line) {there:Bool} {t p0 p q:Nat} {x:jW} {Q:Value→AH→Prop} {r:Tk} (hs:Hs G h (aO p 0 (Cr core n).enc::aO q 0 x.enc::aO p0 0 n.enc::aO c 0 (gI t C core s)::fA G t C.ways.toNat C.aD.toNat s.S::L)) (hk:M4 G c C core L Q r)
  (hr:r=if there then({s with S:=if dN x.st n.state=0 then dM C.aD.toNat s.S n.line else(gA C.aD.toNat C.ways.toNat s.S n.line {x with st:=dN x.st n.state}).1},[dQ core n x],0) else({s with gc:={x with st:=dN x.st n.state}},[dQ core n x],0)):
  Dd 67 5 [] Q [(pt c 0 0),(pt p0 0 0),(pt p 0 0),(pt q 0 0),(.bool there),(I (dN x.st n.state)),(.bool (jG x.st)),(.bool (fQ x.st))] h:=by
 have fin:∀{h:AH},Hs G h (aO p 0 (dQ core n x).enc::aO q 0 ({x with st:=dN x.st n.state}:jW).enc::aO p0 0 n.enc::aO c 0 (gI t C core s)::fA G t C.ways.toNat C.aD.toNat s.S::L)→
   (aN (Wo .not (.bool there)) fun v8=>Br v8 (Dd 67 8 [] Q [(pt c 0 0),(pt p 0 0),(pt q 0 0)] h) (Dd 67 9 [] Q [(pt c 0 0),(pt p0 0 0),(pt p 0 0),(pt q 0 0),(I (dN x.st n.state))] h)):=by
  intro h hs
  cases there
  ·simp only[Bool.false_eq_true,if_false] at hr
   exact dY (mV (Uy (t:=t) (x:={x with st:=dN x.st n.state}) (y:=dQ core n x) (s:=s) hs.to hk hr))
  ·simp only[if_true] at hr
   exact dY (eS (T1 hC hb h0 (t:=t) (x:={x with st:=dN x.st n.state}) (y:=dQ core n x) (s:=s) hs hk hr))
 refine bW (aA (bM (b:=p) (o:=0) hs rfl rfl rfl rfl ?_))
 intro h hs
 refine cS (fun h1=>bW ?_) (fun h1=>bW ?_)
 ·refine aA (aP (b:=q) (o:=0) hs (by decide) (l:=[I x.d.1,I x.d.2]) rfl rfl (aA (bM (b:=p) (o:=0) hs rfl rfl rfl rfl ?_)))
  intro h hs
  refine aA (bM (b:=p) (o:=0) hs rfl rfl rfl rfl ?_)
  intro h hs
  refine aA (bM (b:=q) (o:=0) hs rfl rfl rfl rfl ?_)
  intro h hs
  have e:dQ core n x=⟨5,core,n.line,0,dN x.st n.state,x.d.1,x.d.2,fQ x.st,0⟩:=by simp[dQ,h1]
  have hs:=hs.sg (b:=p) (o:=0) (c:=(dQ core n x).enc) (by rw[e];rfl)
  have hs:=hs.sg (b:=q) (o:=0) (c:=({x with st:=dN x.st n.state}:jW).enc) rfl
  exact fin hs.to
 ·refine aA (bM (b:=q) (o:=0) hs rfl rfl rfl rfl ?_)
  intro h hs
  have e:dQ core n x=⟨5,core,n.line,0,dN x.st n.state,0,0,false,0⟩:=by simp[dQ,h1]
  have hs:=hs.sg (b:=p) (o:=0) (c:=(dQ core n x).enc) (by rw[e];rfl)
  have hs:=hs.sg (b:=q) (o:=0) (c:=({x with st:=dN x.st n.state}:jW).enc) rfl
  exact fin hs.to
end Go.Proofs.YthgemaaghgpncaaDoor.C
end
section
namespace Go.Proofs.YthgemaaghgpncaaDoor.C
open Go Go.Ab Go.Hm Go.Ct
set_option maxRecDepth 100000
variable {G:Bg} {h:AH} {L L' M:List HP} {C:bJ} {core:Int} {c:Nat} {s:eQ} {n:aF}
theorem U6 (hC:C.Ok) (hb:Bd s) (hst:cr C.aD.toNat s) (hn:n.state=0∨n.state=1) (h0:0≤n.line) {t p0 p q:Nat} {x:jW} {Q:Value→AH→Prop} (ho:Ob G 1 cK)
  (hs:Hs G h (aO p 0 (Cr core n).enc::aO q 0 x.enc::aO p0 0 n.enc::aO c 0 (gI t C core s)::fA G t C.ways.toNat C.aD.toNat s.S::L)) (hp:(aG C.aD.toNat s.S n.line).2≠0) (hk:M4 G c C core L Q (iH C core s n)):
  Dd 67 2 [] Q [(pt c 0 0),(pt p0 0 0),(pt p 0 0),(pt q 0 0),(.bool false)] h:=by
 have hns:¬(n.state≠1∧n.state≠0):=by omega
 refine bW (aZ hs ?_)
 intro rr h hs
 have none':s.lA=false∨s.gl≠n.line→(aN (yS h 9 (pt p 0 0)) fun v7=>aN (mR [(I 0),(I 0),(I 0),(I 0),(I 0),(I 0),(I 0),(.bool false),(I 0)] [(0,9,v7)]) fun l9=>Hu h 9 77 l9 1 1 fun s10 h8=>Q (.tuple ⟨[s10,(I 0)]⟩) h8):=by
  intro hc
  refine aP (b:=p) (o:=0) hs (by decide) (l:=(Cr core n).enc) rfl rfl (aR (c:=(Cr core n).enc) rfl (fB (W:=9) (n:=1) (c:=1) hs rfl rfl rfl ?_))
  intro a h hs
  refine B8 hk (p:=a) (a:=s) (x:=Cr core n) ?_ ?_
  ·rcases hc with hc|hc
   ·simp[iH,hns,hp,hc,Cr]
   ·by_cases hg:s.lA=false
    ·simp[iH,hns,hp,hg,Cr]
    ·simp only[iH,if_neg hns,if_neg hp,if_neg hg,if_pos hc,Cr]
  ·have hs:=aV c t C core s hs rfl rfl
   exact hs.to
 refine aC (aA (aA (aE (b:=c) (o:=0) hs rfl (dY (gU (cS (fun h1=>?_) (fun h1=>none' (.inl h1))))))))
 refine aC (aA (aA (aE (b:=c) (o:=0) hs rfl (aA (aE (b:=p0) (o:=0) hs rfl (bL (bE (fun h2=>none' (.inr h2)) (fun h2=>bW ?_))))))))
 have h2:s.gl=n.line:=by simpa using h2
 refine aC (aA (aA (aP (b:=c) (o:=0) hs (by decide) (l:=s.gc.enc) rfl rfl (dR (b:=q) (o:=0) hs rfl rfl rfl rfl ?_))))
 intro h hs
 refine aA (aE (b:=q) (o:=0) hs rfl (aA (aE (b:=p0) (o:=0) hs rfl (C3 ho hs (hst.back h1) hn (aL rfl (aL rfl (aL rfl (aL rfl (bL (aY (by omega) ?_))))))))))
 refine Ms hC hb h0 (there:=false) (t:=t) (x:=s.gc) (s:=s) (n:=n) (core:=core) (L:=L) hs.to hk ?_
 have hg:¬s.lA=false:=by rw[h1];simp
 simp only[iH,if_neg hns,if_neg hp,if_neg hg,if_neg (show ¬s.gl≠n.line from fun e=>e h2),Bool.false_eq_true,if_false]
theorem Uq (hC:C.Ok) (hb:Bd s) (hst:cr C.aD.toNat s) (hn:n.state=0∨n.state=1) (h0:0≤n.line) {t p0 p q:Nat} {Q:Value→AH→Prop} (ho:Ob G 1 cK)
  (hs:Hs G h (aO p 0 (Cr core n).enc::aO q 0 (aG C.aD.toNat s.S n.line).1.enc::aO p0 0 n.enc::aO c 0 (gI t C core s)::fA G t C.ways.toNat C.aD.toNat s.S::L)) (hp:(aG C.aD.toNat s.S n.line).2=0) (hk:M4 G c C core L Q (iH C core s n)):
  Dd 67 3 [] Q [(pt c 0 0),(pt p0 0 0),(pt p 0 0),(pt q 0 0),(.bool true)] h:=by
 have hns:¬(n.state≠1∧n.state≠0):=by omega
 refine bW (aA (aE (b:=q) (o:=0) hs rfl (aA (aE (b:=p0) (o:=0) hs rfl (C3 ho hs (hst.Yv _ hp) hn (aL rfl (aL rfl (aL rfl (aL rfl (bL (aY (by omega) ?_)))))))))))
 refine Ms hC hb h0 (there:=true) (t:=t) (x:=(aG C.aD.toNat s.S n.line).1) (s:=s) (n:=n) (core:=core) (L:=L) hs hk ?_
 simp only[iH,if_neg hns,if_pos hp,if_true]
theorem vO (hC:C.Ok) (hb:Bd s) (hst:cr C.aD.toNat s) (h0:0≤n.line) {Q:Value→AH→Prop} (ho:Ob G 1 cK) (hs:Hs G h (dX G c C core s::L)) (hk:M4 G c C core L Q (iH C core s n)):Cl Pr K 67 [pt c 0 0,.agg ⟨n.enc⟩] h Q:=by
 obtain⟨t,hs⟩:=eW hs
 refine cW (iA hs ?_)
 intro p0 h hs
 refine aA (aE (b:=p0) (o:=0) hs rfl (bL (bE (fun h1=>aA (aE (b:=p0) (o:=0) hs rfl (bL (bE (fun h2=>?_) (fun h2=>bW ?_))))) (fun h1=>?_))))
 ·exact lB hk (a:=s) (e:=10) (by simp only[iH];rw[if_pos ⟨by omega,by omega⟩]) (aV c t C core s hs rfl rfl).to
 all_goals
  have hn:n.state=0∨n.state=1:=by omega
  refine aZ hs ?_
  intro rr h hs
  refine aC (aA (aE (b:=c) (o:=0) hs rfl (aA (aE (b:=p0) (o:=0) hs rfl (aR (c:=(Cr core n).enc) rfl ?_)))))
  refine uV (i:=7) hs rfl rfl ?_
  intro p h hs
  refine dR hs rfl rfl rfl rfl ?_
  intro h hs
  refine aZ hs ?_
  intro r2 h hs
  refine aC (aA (aE (b:=c) (o:=0) hs rfl (aA (aE (b:=p0) (o:=0) hs rfl ?_))))
  refine mP (t:=t) (ways:=C.ways.toNat) (n:=C.aD.toNat) (S:=s.S) (gO hC).1 hb hs fun h hs=>aL rfl (aL rfl ?_)
  refine uV (i:=10) hs rfl rfl ?_
  intro q h hs
  refine dR hs rfl rfl rfl rfl ?_
  intro h hs
  refine hZ (aL rfl uM) (bH (dY ?_))
  by_cases hp:(aG C.aD.toNat s.S n.line).2=0
  ·rw[decide_eq_true hp]
   exact eS (Uq hC hb hst hn h0 (t:=t) ho hs.to hp hk)
  ·rw[decide_eq_false hp]
   exact mV (U6 hC hb hst hn h0 (t:=t) (x:=(aG C.aD.toNat s.S n.line).1) ho hs.to hp hk)
end Go.Proofs.YthgemaaghgpncaaDoor.C
end
section
namespace Go.Proofs.YthgemaaghgpncaaDoor.C
open Go Go.Ab Go.Hm Go.Ct
def oJ (k:Int) (f:FuncId):List Value:=[I k,.func (.func f) #[] #[]]
def Cg:List Value:=oJ 8 64++oJ 9 65++oJ 10 66++oJ 11 67
set_option maxRecDepth 100000
variable {G:Bg} {h:AH} {L L' M:List HP} {C:bJ} {core:Int} {c:Nat} {s:eQ} {n:aF}
theorem T8 (hC:C.Ok) {p q:Nat} {k:Int} {f:FuncId} {Q:Value→AH→Prop} {r:Tk} (hl:Ob G 0 eJ) (hs:Hs G h (aO q 0 (oJ k f)::aO p 0 n.enc::dX G c C core s::L))
  (hcl:dS Pr f=true) (hr:lZ C n.line=false→r=(s,[],10)) (hf:lZ C n.line=true→∀h L,Hs G h (dX G c C core s::L)→∀Q,M4 G c C core L Q r→Cl Pr K f [pt c 0 0,.agg ⟨n.enc⟩] h Q) (hk:M4 G c C core L Q r):
  Dd 20 5 [] Q [(pt c 0 0),(pt p 0 0),(pt q 0 0)] h:=by
 refine bW (aA (aE (b:=p) (o:=0) hs rfl (mC (c:=c) (core:=core) (s:=s) hC hl hs fun h hs=>dY (gU (cS (fun h1=>?_) (fun h1=>?_))))))
 ·refine aA (aE (b:=q) (o:=0) hs rfl (aP (b:=p) (o:=0) hs (by decide) (l:=n.enc) rfl rfl ?_))
  refine We hcl (hf h1 h (aO q 0 (oJ k f)::aO p 0 n.enc::L) hs.to _ fun a' c' h' hs=>aL rfl (aL rfl (hk a' c' h' hs.to)))
 ·exact lB hk (a:=s) (e:=10) (hr h1) hs.to
theorem Ga (hC:C.Ok) (hb:Bd s) (hst:cr C.aD.toNat s) {Q:Value→AH→Prop} (hl:Ob G 0 eJ) (ho:Ob G 1 cK) (hs:Hs G h L) [m:Has (dX G c C core) L s L'] (hk:M4 G c C core L' Q (dO C core s n)):
  Cl Pr K 20 [pt c 0 0,.agg ⟨n.enc⟩] h Q:=by
 have hs:=m.of hs
 refine cW (iA hs ?_)
 intro p h hs
 refine iJ (eS (bW (cW ?_)))
 refine aR (c:=oJ 8 64) rfl (aR (c:=oJ 9 65) rfl (aR (c:=oJ 10 66) rfl (aR (c:=oJ 11 67) rfl (aR (c:=Cg) rfl ?_))))
 refine fB (W:=2) (n:=4) (c:=4) hs rfl rfl rfl ?_
 intro a h hs
 obtain⟨b,o,ha,hs⟩:=hs.hM (by decide)
 cases ha
 refine eV ?_
 have h0:lZ C n.line=true→0≤n.line:=fun e=>(of_decide_eq_true e).1
 have step:∀(i:Nat) (hi:i<4) (k:Int) (f:FuncId) (h:AH) (M:List HP),(Cg.drop (i*2)).take 2=oJ k f→dS Pr f=true→Hs G h (aO b o Cg::aO p 0 n.enc::dX G c C core s::L')→
   (n.kind=k→((lZ C n.line=false→dO C core s n=(s,[],10))∧(lZ C n.line=true→∀h L,Hs G h (dX G c C core s::L)→∀Q,M4 G c C core L Q (dO C core s n)→Cl Pr K f [pt c 0 0,.agg ⟨n.enc⟩] h Q)))→
   (n.kind≠k→∀h,Hs G h (aO b o Cg::aO p 0 n.enc::dX G c C core s::L')→Dd 20 2 [] Q [(pt c 0 0),(pt p 0 0),(.slice (some ⟨b,o,none⟩) 4 4),(I 4),(I ((i+1:Nat):Int))] h)→
   Dd 20 2 [] Q [(pt c 0 0),(pt p 0 0),(.slice (some ⟨b,o,none⟩) 4 4),(I 4),(I (i:Int))] h:=by
  intro i hi k f h M hc hcl hs hyes hno
  refine bW (bC (cM (by omega) (bW (dW hi (Bf (b:=b) (o:=o) hs (by decide) (l:=oJ k f) (by rw[Nat.add_zero];exact hc) rfl (gP hs ?_))))))
  intro q h hs
  refine dR hs rfl rfl rfl rfl ?_
  intro h hs
  refine aA (aE (b:=q) (o:=0) hs rfl (aA (aE (b:=p) (o:=0) hs rfl (bL (bE (fun h1=>bW (cL (by omega) ?_)) (fun h1=>?_))))))
  ·have:=hno (fun e=>h1 e.symm) h hs.to
   show Dd _ _ _ _ _ _
   simpa using this
  ·have h1:n.kind=k:=by
    have:k=n.kind:=by simpa using h1
    exact this.symm
   exact T8 (k:=k) (f:=f) (s:=s) (n:=n) hC hl (show Hs G h (aO q 0 (oJ k f)::aO p 0 n.enc::dX G c C core s::L') from hs.to) hcl (hyes h1).1 (hyes h1).2 hk
 have hs:Hs G h (aO b o Cg::aO p 0 n.enc::dX G c C core s::L'):=hs.to
 refine step 0 (by decide) 8 64 h [] rfl (by kernel_rfl) hs (fun e=>⟨fun e2=>by simp[dO,e,e2],fun e2 h L hs Q hk=>uG hC hb (h0 e2) hs (by simpa [dO,e,e2] using hk)⟩) fun e1 h hs=>?_
 refine step 1 (by decide) 9 65 h [] rfl (by kernel_rfl) hs (fun e=>⟨fun e2=>by simp[dO,e,e2],fun e2 h L hs Q hk=>Uh hs (by simpa [dO,e,e2] using hk)⟩) fun e3 h hs=>?_
 refine step 2 (by decide) 10 66 h [] rfl (by kernel_rfl) hs (fun e=>⟨fun e2=>by simp[dO,e,e2],fun e2 h L hs Q hk=>N9 hs (by simpa [dO,e,e2] using hk)⟩) fun e4 h hs=>?_
 refine step 3 (by decide) 11 67 h [] rfl (by kernel_rfl) hs (fun e=>⟨fun e2=>by simp[dO,e,e2],fun e2 h L hs Q hk=>vO hC hb hst (h0 e2) ho hs (by simpa [dO,e,e2] using hk)⟩) fun e5 h hs=>?_
 refine bW (bC (aY (by omega) ?_))
 exact lB hk (a:=s) (e:=15) (by simp[dO,e1,e3,e4,e5]) hs.to
theorem R3 {Q:Value→AH→Prop} (hs:Hs G h L) [m:Has (dX G c C core) L s L'] (hk:∀h',Hs G h' (dX G c C core s::L')→Q (.tuple ⟨[I s.al,.bool s.aw,.bool s.sB]⟩) h'):Cl Pr K 11 [pt c 0 0] h Q:=by
 obtain⟨t,hs⟩:=eW (m.of hs)
 refine cW (iJ (eS (aZ hs ?_)))
 intro rr h hs
 refine(aC (aA (aA (aE (b:=c) (o:=0) hs rfl (aC (aA (aA (aE (b:=c) (o:=0) hs rfl (aC (aA (aA (aE (b:=c) (o:=0) hs rfl ?_))))))))))))
 exact hk _ (aV c t C core s hs rfl rfl).to
theorem Ef (hC:C.Ok) (hcore:0≤core∧core<C.bT) {Q:Value→AH→Prop} (hl:Ob G 0 eJ) (hs:Hs G h L) (hk:∀c h',Hs G h' (dX G c C core eQ.new::L)→Q (.tuple ⟨[pt c 0 0,I 0]⟩) h'):Cl Pr K 17 [.agg ⟨C.enc⟩,I core] h Q:=by
 refine cW (iA hs ?_)
 intro p h hs
 refine aP (b:=p) (o:=0) hs (by decide) (l:=C.enc) rfl rfl (rO hl hs fun h hs=>?_)
 have h1:=hC
 unfold bJ.Ok at h1
 rw[if_pos hC]
 refine bL (aY (by omega) (bW (bC (aY (by omega) (aA (aE (b:=p) (o:=0) hs rfl (lI (aY (by omega) (bW ?_)))))))))
 refine aA (aE (b:=p) (o:=0) hs rfl (aA (aE (b:=p) (o:=0) hs rfl (Ie (by omega) (by omega) hs fun t h hs=>aL rfl (aL rfl (bL (aY (by omega) ?_)))))))
 refine aP (b:=p) (o:=0) hs (by decide) (l:=C.enc) rfl rfl (aR (c:=gI t C core eQ.new) rfl (iA hs ?_))
 intro q h hs
 have hs:=aV q t C core eQ.new hs rfl rfl
 exact hk q h hs.to
end Go.Proofs.YthgemaaghgpncaaDoor.C
end
end
section
namespace Go.Ct
open Go Go.Ab Go.Hm
variable {n ways:Nat} {S:Nat→List Th} {no:Int} {x:jW}
theorem Fk {l:List Th} (h:no∉l.map (·.1)):rem no l=l:=by
 induction l with
 |nil=>rfl
 |cons t l ih=>
  simp only[List.map_cons,List.mem_cons,not_or] at h
  unfold rem
  grind
theorem Ng {l:List Th} (hn:(l.map (·.1)).Nodup):rem no (rem no l)=rem no l:=Fk (yY hn)
theorem A0 {l:List Th} (h:get no l=some x):(rem no l).length<l.length:=by
 rw[zF,h]
 have:=get_mem h
 grind
theorem jE (hp:(aG n S no).2=0):get no (S (aI n no))=some (aG n S no).1∧0≤no:=by
 unfold aG at hp ⊢
 grind
theorem rE (hg:∀i,jC ways (S i)) (hp:(aG n S no).2=0):(gA n ways S no x).2=0:=by
 obtain⟨h1,h2⟩:=jE hp
 have:=A0 h1
 have:=(hg (aI n no)).len
 unfold gA
 grind
theorem D8 (h0:0≤no):dM n S no (aI n no)=rem no (S (aI n no)):=by
 unfold dM aJ
 rw[if_neg (by omega),if_pos rfl]
theorem G3 (hg:∀i,jC ways (S i)) (hp:(aG n S no).2=0):Qi n ways S no=0:=by
 obtain⟨h1,h2⟩:=jE hp
 have:=A0 h1
 have:=(hg (aI n no)).len
 unfold Qi
 rw[if_pos hp]
 unfold gA
 rw[D8 h2,Ng (hg _).nd,if_neg (by omega)]
theorem rJ (hg:∀i,jC ways (S i)) (h0:0≤no) (hf:(gA n ways S no x).2=0):aG n (gA n ways S no x).1 no=(x,0):=by
 unfold gA at hf ⊢
 split at hf
 ·cases hf
 ·rename_i hl
  rw[if_neg hl]
  unfold aG aJ
  rw[if_neg (by omega)]
  dsimp only
  rw[if_pos rfl,Rt (yY (hg _).nd)]
theorem Iy (hg:∀i,jC ways (S i)) (hp:(aG n S no).2=0):aG n (oM n ways S no) no=aG n S no:=by
 obtain⟨h1,h2⟩:=jE hp
 have e:=G3 hg hp
 unfold Qi at e
 rw[if_pos hp] at e
 unfold oM
 rw[if_pos hp,rJ (oO hg) h2 e]
 grind
end Go.Ct
end
section
namespace Go.Mc
open Go Go.Ab Go.Hm Go.At Go.Is Go.Ct Go.Nt
structure O8 where
 owner:Int
 locked:Bool
 deriving DecidableEq
def O8.enc (x:O8):List Value:=[I x.owner,.bool x.locked]
def Gz:O8:=⟨0,false⟩
def Ez (n g:Int):Int:=(n+3)/4+g
def gf (x:O8):Int:=if x.locked then x.owner+8 else x.owner
def Xu (es:List O8) (j:Nat):Bool:=((es.drop (4*j)).take 4).all fun x=>decide (x=⟨(es.getD (4*j) Gz).owner,false⟩)
def fw (es:List O8) (j:Nat):Int:=if Xu es j then 4*(es.getD (4*j) Gz).owner else 4*Ez es.length (4*j:Nat)+1
def Ru (es:List O8):List Int:=(List.range ((es.length+3)/4)).map (fw es)++es.map gf
def cv (es:List O8) (at':Int):Int×Int:=if 0≤at'∧at'<(Ru es).length then((Ru es).getD at'.toNat 0,0) else(0,10)
def Sh (o:Int):Bool:=decide (0≤o∧o≤4)
def ar (n g at' word:Int):Int×O8×Bool×Int:=
 if ¬((1≤n∧n≤16)∧(0≤g∧g<n)) then(0,Gz,false,10)
 else if at'=g/4 then
  if word=4*Ez n (g/4*4)+1 then(Ez n g,Gz,false,0)
  else if word % 4=0∧Sh (word/4)=true then(0,⟨word/4,false⟩,true,0)
  else(0,Gz,false,14)
 else if at'=Ez n g then
  if Sh word=true then(0,⟨word,false⟩,true,0)
  else if 8≤word∧Sh (word - 8)=true then(0,⟨word - 8,true⟩,true,0)
  else(0,Gz,false,14)
 else(0,Gz,false,10)
structure uF where
 Du:Bool
 mA:Int
 at':Int
 Dz:Bool
 known:List (Int×Int)
def fc:uF:=⟨false,0,0,false,[]⟩
def K9 (l:List (Int×Int)) (g:Int):Option Int:=(l.find? fun x=>decide (x.1=g)).map (·.2)
def uF.ask (c:uF) (C:bJ) (world g:Int):Int×Int:=
 if(0≤g∧g<C.eN)∧(0≤world∧world≤3) then
  match K9 c.known g with
  |none=>(3,0)
  |some o=>if Xx world o then(1,0) else(2,0)
 else(0,10)
def uF.start (c:uF) (g:Int):uF:={c with Du:=true,mA:=g,at':=g/4,Dz:=false}
def uF.begin (c:uF) (C:bJ) (g:Int):uF×Int×Int:=
 if ¬(0≤g∧g<C.eN) then(c,0,10)
 else if(K9 c.known g).isSome then(c,0,13)
 else if c.Du then(c,0,16)
 else(c.start g,g/4,0)
def uF.Z6 (c:uF) (C:bJ) (f:Int×Int):uF:={c with known:=(if(c.known.length:Int)≥C.entries then c.known.drop 1 else c.known)++[f]}
def uF.goto (c:uF) (a:Int):uF:={c with at':=a}
def uF.fresh (c:uF):uF:={c with Dz:=false,at':=c.mA/4}
def uF.done (c:uF):uF:={c with Du:=false,mA:=0,at':=0,Dz:=false}
def uF.walked (c:uF) (C:bJ) (at' word:Int):uF×Int×Bool×Int:=
 if c.Du=false then(c,0,false,16)
 else if at'≠c.at' then(c,0,false,1)
 else if c.Dz then(c.fresh,c.mA/4,false,0)
 else
  let r:=ar C.eN c.mA at' word
  if r.2.2.2≠0 then(c,0,false,r.2.2.2)
  else if r.2.2.1=true∧r.2.1.locked=true then(c.goto (c.mA/4),c.mA/4,false,0)
  else if r.2.2.1=false then(c.goto r.1,r.1,false,0)
  else((c.Z6 C (c.mA,r.2.1.owner)).done,0,true,0)
def uF.drop (c:uF) (C:bJ) (g:Int):uF×Int:=
 if g< -1∨g≥C.eN then(c,10)
 else({c with known:=c.known.filter (fun x=> !decide (g= -1∨x.1=g)),Dz:=c.Dz||(c.Du&&decide (g= -1∨c.mA=g))},0)
structure kT where
 core:Int
 world:Int
 call:Int
 mA:Int
 to:Int
 then':Int
 Ly:Bool
 phase:Int
 waits:Nat→Bool
def kT.enc (r:kT):List Value:=[I r.core,I r.world,I r.call,I r.mA,I r.to,I r.then',.bool r.Ly,I r.phase,.bool (r.waits 0),.bool (r.waits 1),.bool (r.waits 2),.bool (r.waits 3)]
structure Mon where
 Qu:List O8
 runs:Nat→Option kT
def Mon.au (m:Mon) (g:Nat) (x:O8):Mon:={m with Qu:=m.Qu.set g x}
def Mon.fV (m:Mon) (g:Nat) (x:Option kT):Mon:={m with runs:=aJ m.runs g x}
def Mon.has (m:Mon) (g:Int):Prop:=0≤g∧g<m.Qu.length
instance (m:Mon) (g:Int):Decidable (m.has g):=by unfold Mon.has;infer_instance
def Mon.cz (m:Mon) (g:Int):O8:=m.Qu.getD g.toNat Gz
def Mon.run (m:Mon) (g:Int):Option kT:=if 0≤g then m.runs g.toNat else none
def Mon.phase (m:Mon) (g:Int):Int:=match m.run g with
 |some r=>r.phase
 |none=>0
def Mon.running (m:Mon):List Nat:=(List.range 16).filter fun g=>(m.runs g).isSome
def Mon.bt (m:Mon) (core:Int) (g:Nat):Bool:=match m.runs g with
 |some r=>decide (r.core=core)
 |none=>false
def Mon.calls (m:Mon) (core:Int):Bool:=m.running.any (m.bt core)
structure Ask where
 core:Int
 world:Int
 call:Int
 mA:Int
 to:Int
def Ask.enc (a:Ask):List Value:=[I a.core,I a.world,I a.call,I a.mA,I a.to]
def Ask.run (a:Ask) (bT:Int) (j:Int×Bool×Int):kT:=⟨a.core,a.world,a.call,a.mA,a.to,j.1,j.2.1,1,fun i=>decide ((i:Int)<bT)⟩
def Mon.call (m:Mon) (bT:Int) (a:Ask):Mon×Bool×Int:=
 if ¬(0≤a.core∧a.core<bT) then(m,false,1)
 else if ¬m.has a.mA then(m,false,10)
 else if m.phase a.mA≠0 then(m,false,17)
 else if m.calls a.core then(m,false,13)
 else
  let j:=Ba a.call a.world (m.cz a.mA).owner a.to
  if j.2.2≠0 then(m,false,j.2.2)
  else((m.au a.mA.toNat ⟨(m.cz a.mA).owner,true⟩).fV a.mA.toNat (some (a.run bT j)),true,0)
def kT.none (r:kT):Bool:= !(r.waits 0||r.waits 1||r.waits 2||r.waits 3)
def kT.heard (r:kT) (core:Int):kT:={r with waits:=eP r.waits core false}
def kT.Dn (r:kT):kT:={r with phase:=if r.none then 2 else r.phase}
def Mon.dropped (m:Mon) (bT g core:Int):Mon×Bool×Int:=
 if ¬m.has g then(m,false,10)
 else match m.run g with
  |none=>(m,false,16)
  |some r=>
   if r.phase≠1 then(m,false,16)
   else if ¬(0≤core∧core<bT)∨r.waits core.toNat=false then(m,false,12)
   else(m.fV g.toNat (some (r.heard core).Dn),(r.heard core).none,0)
def Mon.over (m:Mon) (g:Int):Mon×Option kT×Int:=
 if ¬m.has g then(m,none,10)
 else match m.run g with
  |none=>(m,none,16)
  |some r=>
   if r.phase≠2 then(m,none,16)
   else((m.au r.mA.toNat ⟨r.then',false⟩).fV g.toNat none,some r,0)
def dZ.next? (s:dZ):Option Ch:=if s.over then none else some (Xy s.prog s.at')
def dZ.ev (s:dZ) (i:Nat) (x:Ch) (word value code:Int):Ev:=⟨i,s.at',x.op,s.world,word,value,code⟩
def dZ.step (s:dZ) (a:Int):dZ:=s.turn a
def dZ.X5 (s:dZ) (i:Nat):Option (dZ×Ev):=
 match dZ.next? s with
 |none=>none
 |some x=>
  if x.op=1 then some ((s.fV x.a x.b).turn (s.at'+1),dZ.ev s i x 0 x.b 0)
  else if x.op=2 then some ((s.fV x.a (wr (s.eT x.b.toNat+s.eT x.c.toNat))).turn (s.at'+1),dZ.ev s i x 0 (wr (s.eT x.b.toNat+s.eT x.c.toNat)) 0)
  else if x.op=6 then some (s.turn (s.at'+1),dZ.ev s i x 0 0 0)
  else if x.op=7 then(if s.world=0 then some ((s.Z0 x.a).turn (s.at'+1),dZ.ev s i x 0 x.a 0) else some (s.turn (s.at'+1),dZ.ev s i x 0 x.a 18))
  else if x.op=9 then some (s.turn x.a,dZ.ev s i x 0 x.a 0)
  else if x.op=10 then some (s.turn (if s.eT x.a.toNat=0 then x.b else s.at'+1),dZ.ev s i x 0 (s.eT x.a.toNat) 0)
  else none
def Z5 (op:Int):Bool:=decide (op=3∨op=4∨op=5)
structure Acc where
 word:Int
 write:Bool
 read:Bool
 value:Int
def dZ.Uo (s:dZ):Option Acc:=
 match dZ.next? s with
 |none=>none
 |some x=>if Z5 x.op then some ⟨s.eT x.b.toNat,decide (x.op≠3),decide (x.op≠4),if x.op=3 then 0 else s.eT x.a.toNat⟩ else none
def dZ.fx (s:dZ) (i:Nat):Option Ask:=
 match dZ.next? s with
 |none=>none
 |some x=>if x.op=8 then some ⟨i,s.world,x.a,s.eT x.b.toNat,s.eT x.c.toNat⟩ else none
def dZ.tM (s:dZ) (i:Nat) (value code:Int):dZ×Ev×Int:=
 match dZ.next? s with
 |none=>(s,a7,16)
 |some x=>
  if x.op=8 then((s.fV x.b code).turn (s.at'+1),dZ.ev s i x (s.eT x.b.toNat) (s.eT x.c.toNat) code,0)
  else if Z5 x.op then
   if code≠0∧code≠19 then(s,a7,1)
   else if code=19 then(s.turn (s.at'+1),dZ.ev s i x (s.eT x.b.toNat) 0 19,0)
   else if x.op=4 then(s.turn (s.at'+1),dZ.ev s i x (s.eT x.b.toNat) (s.eT x.a.toNat) 0,0)
   else((s.fV x.a value).turn (s.at'+1),dZ.ev s i x (s.eT x.b.toNat) value 0,0)
  else(s,a7,16)
abbrev Ew:=Nat→Nat→List aF
def Rb (n:aF):Nat:=(dh n.kind.toNat).toNat
def Ew.set (F:Ew) (c w:Nat) (l:List aF):Ew:=fun c' w'=>if c'=c∧w'=w then l else F c' w'
def Ew.put (F:Ew) (n:aF):Ew:=F.set n.core.toNat (Rb n) (F n.core.toNat (Rb n)++[n])
def Ew.Og (d:Int):Ew→List aF→Option Ew
 |F,[]=>some F
 |F,n::l=>if((F n.core.toNat (Rb n)).length:Int)<d then Ew.Og d (F.put n) l else none
def xH (C:bJ):List aF→Int
 |[]=>0
 |n::l=>if ir C n≠0 then ir C n else xH C l
def Ew.send (C:bJ) (F:Ew) (l:List aF):Ew×Int:=
 if xH C l≠0 then(F,xH C l) else match Ew.Og C.depth F l with
  |some F'=>(F',0)
  |none=>(F,11)
def Ew.take (C:bJ) (F:Ew) (core way which:Int):Ew×aF×Int:=
 if ¬((0≤core∧core<C.bT)∧(0≤way∧way<4)) then(F,aF.zero,10)
 else
  let l:=F core.toNat way.toNat
  if l=[] then(F,aF.zero,12)
  else
   let i:=(which % (l.length:Int)).toNat
   (F.set core.toNat way.toNat (l.eraseIdx i),l.getD i aF.zero,0)
structure gS where
 bI:Nat→dZ
 Cm:Nat→eQ
 xH:Nat→uF
 home:iQ
 Pz:Mon
 Uc:Ew
 log:List Ev
abbrev gS.Cz (M:gS) (i:Nat) (s:dZ):gS:={M with bI:=aJ M.bI i s}
abbrev gS.Yl (M:gS) (i:Nat) (s:eQ):gS:={M with Cm:=aJ M.Cm i s}
abbrev gS.Yo (M:gS) (i:Nat) (s:uF):gS:={M with xH:=aJ M.xH i s}
abbrev gS.Tu (M:gS) (h:iQ):gS:={M with home:=h}
abbrev gS.D9 (M:gS) (m:Mon):gS:={M with Pz:=m}
abbrev gS.pJ (M:gS) (l:Ew):gS:={M with Uc:=l}
abbrev gS.cq (M:gS) (v:Ev):gS:={M with log:=M.log++[v]}
def Ij (kind:Int) (core:Int) (no:Int):aF:={aF.zero with kind:=kind,core:=core,no:=no}
def Te (core word no:Int):aF:={Ij 12 core no with d0:=word}
variable (C:bJ)
def gS.waits (M:gS) (i:Int):Bool:=M.Pz.calls i
def gS.tM (M:gS) (i:Nat) (value code:Int):gS×Int:=
 let r:=dZ.tM (M.bI i) i value code
 if r.2.2≠0 then(M,r.2.2) else((M.Cz i r.1).cq r.2.1,0)
def ba (bT g:Int):List aF:=(List.range bT.toNat).map fun i:Nat=>Ij 13 i g
def gS.call (M:gS) (i:Nat) (a:Ask):gS×Int:=
 let r:=M.Pz.call C.bT a
 if r.2.2≠0 then M.tM i 0 r.2.2
 else
  let s:=M.Uc.send C (ba C.bT a.mA)
  if s.2≠0 then(M,s.2) else((M.pJ s.1).D9 r.1,0)
def gS.walk (M:gS) (i:Nat) (g:Int):gS×Int:=
 let r:=(M.xH i).begin C g
 if r.2.2≠0 then(M,r.2.2)
 else
  let s:=M.Uc.send C [Ij 6 i r.2.1]
  if s.2≠0 then(M,s.2) else((M.pJ s.1).Yo i r.1,0)
def gS.want (M:gS) (i:Nat) (line:Int) (write:Bool):gS×Int:=
 let r:=Ct.want C i (M.Cm i) line (M.bI i).world write
 if r.2.2≠0 then(M,r.2.2)
 else
  let s:=M.Uc.send C r.2.1
  if s.2≠0 then(M,s.2) else((M.pJ s.1).Yl i r.1,0)
def gS.known (M:gS) (i:Nat) (g:Int):Int:=(K9 (M.xH i).known g).getD 0
def Fv (d:Ln) (a:Int):Int:=if a=0 then d.1 else d.2
def kI (c:eQ) (l a:Int):Int:=Fv (aG C.aD.toNat c.S l).1.d a
def gS.Yb (M:gS) (i:Nat) (line at' owner:Int) (a:Acc):gS×Int:=
 let c1:=if a.read then jO C (M.Cm i) line at' owner else M.Cm i
 let c2:=if a.write then gF C c1 line at' owner a.value else c1
 (M.Yl i c2).tM i (if a.read then kI C (M.Cm i) line at' else 0) 0
def gS.access (M:gS) (i:Nat) (a:Acc):gS×Int:=
 if ¬(0≤a.word∧a.word<C.lines*2) then M.tM i 0 19
 else
  let line:=a.word/2
  let g:=line/2
  let r:=(M.xH i).ask C (M.bI i).world g
  if r.2≠0 then(M,r.2)
  else if r.1=3 then M.walk C i g
  else if r.1=2 then M.tM i 0 19
  else if yK C.aD.toNat (M.Cm i).S line (M.known i g) a.write=false then M.want C i line a.write
  else M.Yb C i line (a.word % 2) (M.known i g) a
def gS.step (M:gS) (A:Int):gS×Int:=
 if ¬(0≤A∧A<C.bT) then(M,10)
 else
  let i:=A.toNat
  if(M.bI i).over then(M,20)
  else if M.waits A then(M,16)
  else match dZ.X5 (M.bI i) i with
   |some r=>((M.Cz i r.1).cq r.2,0)
   |none=>match dZ.fx (M.bI i) i with
    |some a=>M.call C i a
    |none=>match dZ.Uo (M.bI i) with
     |some a=>M.access C i a
     |none=>(M,16)
def Yz (H:iQ) (g:Int):iQ:=(dI C (dI C H (g*2)).1 (g*2+1)).1
def gS.fK (M:gS) (n:aF):gS×List aF×Int:=
 if n.kind=1∨n.kind=2∨n.kind=3∨n.kind=4∨n.kind=5 then
  let r:=bY C M.home n
  (M.Tu r.1,r.2.1,r.2.2)
 else if n.kind=8∨n.kind=9∨n.kind=10∨n.kind=11 then
  let r:=dO C n.core (M.Cm n.core.toNat) n
  (M.Yl n.core.toNat r.1,r.2.1,r.2.2)
 else if n.kind=6 then
  let r:=cv M.Pz.Qu n.no
  (M,[Te n.core r.1 n.no],r.2)
 else if n.kind=12 then
  let r:=(M.xH n.core.toNat).walked C n.no n.d0
  (M.Yo n.core.toNat r.1,if r.2.2.1 then [] else [Ij 6 n.core r.2.1],r.2.2.2)
 else if n.kind=13 then
  let r:=(M.xH n.core.toNat).drop C n.no
  (M.Yo n.core.toNat r.1,[Ij 7 n.core n.no],r.2)
 else if n.kind=7 then
  let r:=M.Pz.dropped C.bT n.no n.core
  (if r.2.1 then(M.D9 r.1).Tu (Yz C M.home n.no) else M.D9 r.1,[],r.2.2)
 else(M,[],15)
def gS.U1 (M:gS) (A B D:Int):gS×Int:=
 let t:=M.Uc.take C A B D
 if t.2.2≠0 then(M,t.2.2)
 else
  let r:=M.fK C t.2.1
  if r.2.2≠0 then(M,r.2.2)
  else
   let s:=t.1.send C r.2.1
   if s.2≠0 then(M,s.2) else(r.1.pJ s.1,0)
def gS.Ze (M:gS) (line:Int) (world:Int):Int×Bool:=
 if C.has line then((M.Pz.cz (line/2)).owner,!(M.Pz.cz (line/2)).locked&&Xx world (M.Pz.cz (line/2)).owner) else(0,false)
def gS.begin (M:gS) (A:Int):gS×Int:=
 let r:=dL C M.home A (M.Ze C A)
 if r.2.2≠0 then(M,r.2.2)
 else
  let s:=M.Uc.send C r.2.1
  if s.2≠0 then(M,s.2) else((M.pJ s.1).Tu r.1,0)
def Row.tA (r:Row):Int:=(if r.busy=true∧r.served.kind=0 then 1 else 0)+((r.waits.filter fun n=>decide (n.kind=0)).length:Int)
def nT (H:iQ) (l:Int):Int:=if C.has l then Row.tA (H l.toNat).1 else 0
def gS.Dn (M:gS) (g:Int):Bool:=decide (M.Pz.phase g=2)&& !(decide (nT C M.home (g*2)>0))&& !(decide (nT C M.home (g*2+1)>0))
def Xb (H:iQ) (g:Int):iQ:=fun i=>if(i:Int)=g*2∨(i:Int)=g*2+1 then((H i).1,(0,0)) else H i
def gS.finish (M:gS) (A:Int):gS×Int:=
 if ¬(0≤A∧A<C.eN) then(M,10)
 else if M.Dn C A=false then(M,16)
 else
  let r:=M.Pz.over A
  match r.2.1 with
  |none=>(M,r.2.2)
  |some u=>gS.tM (if u.Ly then(M.D9 r.1).Tu (Xb M.home u.mA) else M.D9 r.1) u.core.toNat 0 0
structure Do where
 mF:Int
 a:Int
 b:Int
 c:Int
 deriving DecidableEq
def Do.enc (d:Do):List Value:=[I d.mF,I d.a,I d.b,I d.c]
def gS.jf (M:gS) (d:Do):gS×Int:=
 if d.mF=0 then M.step C d.a else if d.mF=1 then M.U1 C d.a d.b d.c else if d.mF=2 then M.begin C d.a else if d.mF=3 then M.finish C d.a else(M,1)
def gS.runs (M:gS) (l:List Do):gS:=l.foldl (fun M d=>(M.jf C d).1) M
def gS.notes (M:gS):List aF:=(List.range C.bT.toNat).flatMap fun c=>(List.range 4).flatMap fun w=>M.Uc c w
def gS.over (M:gS):Bool:=
 decide (M.notes C=[])&&((List.range C.bT.toNat).all fun i=>(M.bI i).over&& !(M.Cm i).sB&& !(M.xH i).Du)&&((List.range C.lines).all fun l=>decide ((M.home l).1.waits=[]))
def gS.ready (M:gS):List Do:=
 ((List.range C.bT.toNat).filter fun i:Nat=> !(M.bI i).over&& !M.waits i).map (fun i:Nat=>(⟨0,i,0,0⟩:Do))++
 ((List.range C.bT.toNat).flatMap fun c=>((List.range 4).filter fun w=>decide (M.Uc c w≠[])).map fun w:Nat=>(⟨1,c,w,0⟩:Do))++
 ((List.range C.lines).filter fun l=> !(M.home l).1.busy&&decide ((M.home l).1.waits≠[])).map (fun l:Nat=>(⟨2,l,0,0⟩:Do))++
 ((List.range C.eN.toNat).filter fun g:Nat=>M.Dn C g).map fun g:Nat=>(⟨3,g,0,0⟩:Do)
structure MC where
 C:bJ
 Qe:List (List Ch)
 Yx:List Int
 lD:List Int
 words:List Int
def MC.home (c:MC):iQ:=fun i=>((mM c.C.lines i).1,At.words sL c.words 0 i)
def MC.new (c:MC):gS where
 bI:=fun i=>cw (c.Qe.getD i []) (c.Yx.getD i 0)
 Cm:=fun _=>eQ.new
 xH:=fun _=>fc
 home:=c.home
 Pz:=⟨c.lD.map fun o=>⟨o,false⟩,fun _=>none⟩
 Uc:=fun _ _=>[]
 log:=[]
end Go.Mc
end
section
open Go Go.Ab
attribute [local irreducible] aN Br wO yS Jx F5 qD Hu rP Ua qH sH tP Aa Ax vU Hh xJ Wu Y3 Ta X6 Xa S7 S8 Wa Wo vA sI C4 jK copyV mJ uA Yn Xd He oB P6 Yr Ys sU Ai I5 H3 Cl Dm V2 Ak vZ nL mE bP bQ
section
namespace Go.Proofs.YthgemaaghgpncaaDoor.C
open Go Go.Ab Go.Hm Go.Ct
set_option maxRecDepth 100000
variable {G:Bg} {h:AH} {L L' M:List HP} {C:bJ} {core:Int} {c:Nat} {s:eQ} {n:aF}
theorem Qv (hC:C.Ok) (hgd:iF C s) {l at' ow:Int} (h1:eZ C s.S l at' ow false=0) {Q:Value→AH→Prop} (hl:Ob G 0 eJ) (ho:Ob G 1 cK) (hs:Hs G h L) [m:Has (dX G c C core) L s L'] (hk:∀h',Hs G h' (dX G c C core (jO C s l at' ow)::L')→Q (.tuple ⟨[I (Mc.kI C s l at'),I 0]⟩) h'):Cl Pr K 27 [pt c 0 0,I l,I at',I ow] h Q:=by
 have hs:=m.of hs
 have hb:Bd s:=hgd.bd (gO hC).2.2.2
 unfold jO at hk
 refine cW (nZ (c:=c) (core:=core) (s:=s) hC hb hl ho hs fun h hs=>bL (aY (by omega) ?_))
 rw[if_pos h1] at hk
 obtain⟨hl1,ha,hp,_⟩:=jT h1
 have hge:=G3 hgd.aD hp
 obtain⟨t,hs⟩:=eW hs
 refine bW (aC (aA (aE (b:=c) (o:=0) hs rfl (Em (t:=t) (ways:=C.ways.toNat) (n:=C.aD.toNat) (S:=s.S) hl1.1 (gO hC).1 hb hs fun h hs=>aL rfl (aL rfl (gP hs ?_))))))
 intro p h hs
 refine dR hs rfl rfl rfl rfl ?_
 intro h hs
 have hs2:=fun {h:AH} hs=>(aV c t C core {s with S:=oM C.aD.toNat C.ways.toNat s.S l} (G:=G) (h:=h) (L:=aO p 0 (aG C.aD.toNat s.S l).1.enc::fA G t C.ways.toNat C.aD.toNat (oM C.aD.toNat C.ways.toNat s.S l)::aO c 0 (gI t C core s)::L') hs rfl rfl)
 refine bL (aY (by omega) (aA ?_))
 rcases ha with rfl|rfl
 ·exact fT (by decide) (by decide) (aE (b:=p) (o:=0) hs rfl (hk _ (hs2 hs).to))
 ·exact fT (by decide) (by decide) (aE (b:=p) (o:=0) hs rfl (hk _ (hs2 hs).to))
theorem Oe (hC:C.Ok) (hgd:iF C s) {l at' ow v:Int} (h1:eZ C s.S l at' ow true=0) {Q:Value→AH→Prop} (hl:Ob G 0 eJ) (ho:Ob G 1 cK) (hs:Hs G h L) [m:Has (dX G c C core) L s L'] (hk:∀h',Hs G h' (dX G c C core (gF C s l at' ow v)::L')→Q (I 0) h'):Cl Pr K 21 [pt c 0 0,I l,I at',I ow,I v] h Q:=by
 have hs:=m.of hs
 have hb:Bd s:=hgd.bd (gO hC).2.2.2
 unfold gF at hk
 refine cW (nZ (c:=c) (core:=core) (s:=s) hC hb hl ho hs fun h hs=>bL (aY (by omega) ?_))
 ·rw[if_pos h1] at hk
  obtain⟨hl1,ha,hp,hst⟩:=jT h1
  have hst:iU (aG C.aD.toNat s.S l).1.st=true:=hst
  obtain⟨t,hs⟩:=eW hs
  refine bW (aC (aA (aE (b:=c) (o:=0) hs rfl ?_)))
  refine mP (t:=t) (ways:=C.ways.toNat) (n:=C.aD.toNat) (S:=s.S) (gO hC).1 hb hs fun h hs=>aL rfl (aL rfl (gP hs ?_))
  intro p h hs
  refine dR hs rfl rfl rfl rfl ?_
  intro h hs
  refine bL (aY (by omega) (bW (aA (aE (b:=p) (o:=0) hs rfl (Gs ho hs hst (aL rfl (aL rfl (aA (bM (b:=p) (o:=0) hs rfl rfl rfl rfl ?_)))))))))
  intro h hs
  refine bL (aY (by omega) (bW (aA ?_)))
  have key:∀{c0:Bool} {h:AH},c0=true→Hs G h (aO p 0 (jI C.aD.toNat s.S l at' v).enc::fA G t C.ways.toNat C.aD.toNat s.S::aO c 0 (gI t C core s)::L')→
    Ua c0 h 8 fun _ h3=>aN (sH (pt c 0 0)) fun v5=>aN (qH 0 v5) fun v6=>aN (wO h3 v6) fun v7=>aN (yS h3 4 (pt p 0 0)) fun v8=>Cl Pr K 43 [v7,I l,v8] h3 fun v9 h9=>Q v9 h9:=by
   intro c0 h hc0 hs
   refine aZ (hc:=hc0) hs ?_
   intro r h hs
   refine aC (aA (aE (b:=c) (o:=0) hs rfl (aP (b:=p) (o:=0) hs (by decide) (l:=(jI C.aD.toNat s.S l at' v).enc) rfl rfl ?_)))
   refine Be (t:=t) (ways:=C.ways.toNat) (n:=C.aD.toNat) (S:=s.S) hl1.1 (gO hC).1 hb hs fun h hs=>?_
   show Q _ _
   rw[rE (x:=jI C.aD.toNat s.S l at' v) hgd.aD hp]
   exact hk _ (aV c t C core {s with S:=(gA C.aD.toNat C.ways.toNat s.S l (jI C.aD.toNat s.S l at' v)).1} (cs:=gI t C core s) hs rfl rfl).to
  rcases ha with rfl|rfl
  ·refine fT (by decide) (by decide) (bM (b:=p) (o:=0) hs rfl rfl rfl rfl ?_)
   intro h hs
   exact key (by kernel_rfl) ((hs.sg (b:=p) (o:=0) (c:=(jI C.aD.toNat s.S l 0 v).enc) rfl).to)
  ·refine fT (by decide) (by decide) (bM (b:=p) (o:=0) hs rfl rfl rfl rfl ?_)
   intro h hs
   exact key (by kernel_rfl) ((hs.sg (b:=p) (o:=0) (c:=(jI C.aD.toNat s.S l 1 v).enc) rfl).to)
end Go.Proofs.YthgemaaghgpncaaDoor.C
end
end
section
namespace Go.Ab
variable {P:Program} {K:FuncId→List Value→Option fM} {G:Bg} {h:AH} {L L' M:List HP}
theorem Hg {W n c:Nat} {e:TypeId} {a:Option Addr} {cs:List Value} (hs:Hs G h (dP W e a c (n,cs)::L)) (h0:0<n):n≤c∧∃b o x,a=some ⟨b,o,none⟩∧iS h b=some x:=by
 obtain⟨r,r2,⟨hl,hc,hr⟩,hr2,hd,hi,hi2⟩:=hs.fst
 rcases hr with⟨hz,_⟩|⟨hz,_⟩|⟨hcap,b,pre,post,ex,rfl,hle,hrr⟩
 ·simp at hz;omega
 ·simp at hz;omega
 ·simp only at hrr
  subst hrr
  obtain⟨hb,hg⟩:=wW hi hi2
  exact⟨hcap,b,pre.length,ex,rfl,by simp only[iS,hg]⟩
theorem Hx {W n c i m:Nat} {e:TypeId} {b o:Nat} {cs:List Value} (hs:Hs G h (dP W e (some ⟨b,o,none⟩) c (n,cs)::L)) (h0:0<n) (hW:0<W) (him:i+m≤n) (c':Nat):eM h W m (.slice (some ⟨b,o+i*W,none⟩) m c')=some ((cs.drop (i*W)).take (m*W)):=by
 have hl:=hs.Ag
 simp only at hl
 by_cases hm:m=0
 ·subst hm;rw[Nat.zero_mul,List.take_zero];rfl
 ·show(if m=0 then some [] else if m≤m then aW h _ (m*W) else none)=_
  rw[if_neg hm,if_pos (Nat.le_refl m)]
  obtain⟨b',o',ha,hs'⟩:=hs.hM h0
  cases ha
  refine Im hs' (by rw[hl];exact Nat.mul_pos h0 hW) ?_
  rw[hl,←Nat.add_mul]
  exact Nat.mul_le_mul_right _ him
variable {α:Type} {enc:α→List Value} {W:Nat} [F:Fx enc W] {e:TypeId}
theorem Mo {l:List α} {i m:Nat}:((eL enc l).drop (i*W)).take (m*W)=eL enc ((l.drop i).take m):=by
 rw[Mb,Uk]
theorem Tw {bytes c c2 i:Nat} {a a2:Option Addr} {l l2:List α} {k:Value×AH→Prop} (hs:Hs G h L) [m:Has (ls enc W e a2 c2) L l2 L'] [m2:Has (ls enc W e a c) L' l M] (hW:0<W) (hi:i<l.length) (hsz:(l2.length+i)*(bytes+1)≤2^46)
  (hk:∀a' c' h',Hs G h' (ls enc W e a' c' (l2++l.take i)::ls enc W e a c l::M)→k (.slice a' (l2++l.take i).length c',h')):
  aN (uA W h (.slice a l.length c) none (some (I i)) none) fun v=>aN (jK W bytes e h (.slice a2 l2.length c2) v) k:=by
 have hs1:Hs G h (dP W e a c (l.length,eL enc l)::dP W e a2 c2 (l2.length,eL enc l2)::M):=((m.of hs).perm ((m2.perm.cons _).trans (List.Perm.swap _ _ _)))
 obtain⟨hc,b,o,x,rfl,hx⟩:=Hg hs1 (by omega)
 have e1:iX none c c=some c:=rfl
 have e2:iX (some (I i)) l.length c=some i:=by simp[iX];omega
 have e3:iX none 0 i=some 0:=rfl
 have e4:uA W h (.slice (some ⟨b,o,none⟩) l.length c) none (some (I i)) none=some (.slice (some ⟨b,o+0*W,none⟩) i c):=by
  unfold uA
  simp only[e1,e2,e3,Option.isNone_some,Bool.false_and,Bool.false_eq_true,if_false,Option.isSome_none]
  rw[if_pos (by omega),if_neg (by omega),bG];rfl
 refine⟨_,e4,?_⟩
 have hp:=Hx hs1 (by omega) hW (i:=0) (m:=i) (by omega) c
 rw[Mo,List.drop_zero] at hp
 refine Sy (k:=fun x y=>k (x,y)) (hs1.perm (List.Perm.swap _ _ _)) (m:=i) (ns:=eL enc (l.take i)) rfl hp Qb (by rw[R6,List.length_take];congr 1;omega) hsz fun a' c' h' hs'=>?_
 have:=hk a' c' h'
 have el:(l2++l.take i).length=l2.length+i:=by rw[List.length_append,List.length_take];omega
 rw[el] at this
 refine this ?_
 show Hs G h' (dP W e a' c' ((l2++l.take i).length,eL enc (l2++l.take i))::_)
 rw[el,Ll]
 exact hs'
theorem N6 {bytes c c2 i:Nat} {a a2:Option Addr} {l l2:List α} {k:Value×AH→Prop} (hs:Hs G h L) [m:Has (ls enc W e a2 c2) L l2 L'] [m2:Has (ls enc W e a c) L' l M] (hW:0<W) (h0:0<l.length) (hi:i≤l.length) (hsz:(l2.length+(l.length - i))*(bytes+1)≤2^46)
  (hk:∀a' c' h',Hs G h' (ls enc W e a' c' (l2++l.drop i)::ls enc W e a c l::M)→k (.slice a' (l2++l.drop i).length c',h')):
  aN (uA W h (.slice a l.length c) (some (I i)) none none) fun v=>aN (jK W bytes e h (.slice a2 l2.length c2) v) k:=by
 have hs1:Hs G h (dP W e a c (l.length,eL enc l)::dP W e a2 c2 (l2.length,eL enc l2)::M):=((m.of hs).perm ((m2.perm.cons _).trans (List.Perm.swap _ _ _)))
 obtain⟨hc,b,o,x,rfl,hx⟩:=Hg hs1 h0
 have e1:iX none c c=some c:=rfl
 have e2:iX none l.length c=some l.length:=rfl
 have e3:iX (some (I i)) 0 l.length=some i:=by simp[iX];omega
 have fin:∀v,mB v=some (l.length - i)→eM h W (l.length - i) v=some (eL enc (l.drop i))→aN (jK W bytes e h (.slice a2 l2.length c2) v) k:=fun v hv hp=>by
  refine Sy (k:=fun x y=>k (x,y)) (hs1.perm (List.Perm.swap _ _ _)) (m:=l.length - i) (ns:=eL enc (l.drop i)) hv hp Qb (by rw[R6,List.length_drop]) hsz fun a' c' h' hs'=>?_
  have:=hk a' c' h'
  have el:(l2++l.drop i).length=l2.length+(l.length - i):=by rw[List.length_append,List.length_drop]
  rw[el] at this
  refine this ?_
  show Hs G h' (dP W e a' c' ((l2++l.drop i).length,eL enc (l2++l.drop i))::_)
  rw[el,Ll]
  exact hs'
 by_cases hci:c=i
 ·have hil:i=l.length:=by omega
  have hd:l.drop i=[]:=by rw[hil];exact List.drop_length
  have hz:l.length - i=0:=by omega
  cases x with
  |true=>
   refine⟨lF,?_,fin _ (by rw[hz];rfl) (by rw[hz,hd];rfl)⟩
   unfold uA
   simp only[e1,e2,e3,Option.isNone_none,Option.isSome_none,Bool.and_false,Bool.false_eq_true,if_false,hx]
   rw[if_pos hc,if_pos hci]
  |false=>
   refine⟨nW ⟨b,o+i*W,none⟩,?_,fin _ (by rw[hz];rfl) (by rw[hz,hd];rfl)⟩
   unfold uA
   simp only[e1,e2,e3,Option.isNone_none,Option.isSome_none,Bool.and_false,Bool.false_eq_true,if_false,hx,bG]
   rw[if_pos hc,if_pos hci]
 ·refine⟨.slice (some ⟨b,o+i*W,none⟩) (l.length - i) (c - i),?_,fin _ rfl ?_⟩
  ·unfold uA
   simp only[e1,e2,e3,Option.isNone_none,Option.isSome_none,Bool.and_false,Bool.false_eq_true,if_false,bG]
   rw[if_pos hc,if_neg hci]
  ·have hp:=Hx hs1 h0 hW (i:=i) (m:=l.length - i) (by omega) (c - i)
   rw[Mo,List.take_of_length_le (by rw[List.length_drop];omega)] at hp
   exact hp
end Go.Ab
end
section
namespace Go.Hm
open Go Go.Ab
structure oU (k:Nat) (r:Row):Prop where
 core:0≤r.served.core∧r.served.core<4
 owner: -1≤r.owner∧r.owner<4
 waits:∀n∈r.waits,n.line=k∧(0≤n.core∧n.core<4)∧(n.kind=0∨n.kind=1∨n.kind=2∨n.kind=3)
 apart:∀i:Nat,i<4→r.sh i=true→(i:Int)≠r.owner
 want:r.busy=true→r.granted=false→r.served.kind=0∨r.served.kind=2∨r.owner≠r.served.core
 still:r.granted=true∨r.busy=false→r.quiet=true
 gb:r.granted=true→r.busy=true
theorem oU.inv {k:Nat} {r:Row} (h:oU k r):r.Inv:=⟨h.core,h.owner,fun n hn=>(h.waits n hn).2.1⟩
theorem c9 (k:Nat):oU k qK:=⟨by decide,by decide,by simp[qK],by simp[qK],by simp[qK],fun _=>rfl,by simp[qK]⟩
theorem vF {r r':Row} (h:r'.asked=r.asked):r'.quiet=r.quiet:=by unfold Row.quiet;rw[h]
theorem xO {k:Nat} {r:Row} {c:Int} (h:oU k r):oU k (r.leave c) where
 core:=h.core
 owner:=by unfold Row.leave;simp only;split;omega;exact h.owner
 waits:=h.waits
 apart:=fun i hi hs=>by
  unfold Row.leave eP at hs ⊢
  simp only at hs ⊢
  split at hs
  ·cases hs
  ·split
   ·omega
   ·exact h.apart i hi hs
 want:=fun h1 h2=>by
  rcases h.want h1 h2 with h|h|h3
  ·exact .inl h
  ·exact .inr (.inl h)
  ·refine .inr (.inr ?_)
   have:=h.core
   unfold Row.leave
   grind
 still:=fun h1=>(vF (r':=r.leave c) rfl).trans (h.still h1)
 gb:=h.gb
theorem C8 {k:Nat} {r:Row} (h:oU k r) (hq:r.quiet=true):oU k r.free where
 core:=by show(0:Int)≤0∧(0:Int)<4;omega
 owner:=h.owner
 waits:=h.waits
 apart:=h.apart
 want:=fun h1=>by cases h1
 still:=fun _=>(vF (r':=r.free) rfl).trans hq
 gb:=fun h1=>by cases h1
theorem Dt {k:Nat} {r:Row} {n:aF} (h:oU k r) (h1:n.line=k) (h2:0≤n.core∧n.core<4) (h3:n.kind=0∨n.kind=1∨n.kind=2∨n.kind=3):oU k (r.wait n) where
 core:=h.core
 owner:=h.owner
 waits:=fun m hm=>by
  rcases List.mem_append.1 hm with hm|hm
  ·exact h.waits m hm
  grind
 apart:=h.apart
 want:=h.want
 still:=fun h1=>(vF (r':=r.wait n) rfl).trans (h.still h1)
 gb:=h.gb
theorem vY {k:Nat} {r:Row} {n:aF} {w:List aF} (h:oU k r) (hw:r.waits=n::w):oU k (r.next w) where
 core:=h.core
 owner:=h.owner
 waits:=fun m hm=>h.waits m (by rw[hw];exact List.mem_cons_of_mem _ hm)
 apart:=h.apart
 want:=h.want
 still:=fun h1=>(vF (r':=r.next w) rfl).trans (h.still h1)
 gb:=h.gb
structure yG (k:Nat) (r:Row):Prop where
 core:0≤r.served.core∧r.served.core<4
 owner: -1≤r.owner∧r.owner<4
 waits:∀n∈r.waits,n.line=k∧(0≤n.core∧n.core<4)∧(n.kind=0∨n.kind=1∨n.kind=2∨n.kind=3)
 apart:∀i:Nat,i<4→r.sh i=true→(i:Int)≠r.owner
 want:r.served.kind=0∨r.served.kind=2∨r.owner≠r.served.core
 busy:r.busy=true
 gr:r.granted=false
theorem yG.Yw {k:Nat} {r:Row} (h:yG k r):oU k r:=⟨h.core,h.owner,h.waits,h.apart,fun _ _=>h.want,fun h1=>by rw[h.busy,h.gr] at h1;simp at h1,fun h1=>by rw[h.gr] at h1;cases h1⟩
theorem Lq {k:Nat} {r:Row} {line:Int} {d:Ln} (h:yG k r) (h0:r.served.kind≠0) (hq:r.quiet=true):oU k (r.cI line d).1:=by
 have hc:=h.core
 unfold Row.cI
 split
 ·exact⟨h.core,by simp only;omega,h.waits,fun i _ hs=>(by cases hs),fun _ h2=>(by cases h2),fun _=>hq,fun _=>h.busy⟩
 ·rename_i h2
  split
  ·refine⟨h.core,by simp only;omega,h.waits,fun i hi hs=>?_,fun _ h2=>(by cases h2),fun _=>hq,fun _=>h.busy⟩
   simp only[eP] at hs ⊢
   grind
  ·refine⟨h.core,h.owner,h.waits,fun i hi hs=>?_,fun _ h2=>(by cases h2),fun _=>hq,fun _=>h.busy⟩
   simp only[eP] at hs ⊢
   split at hs
   ·rename_i e
    rcases h.want with h|h|h
    ·exact absurd h h0
    ·exact absurd h h2
    grind
   ·exact h.apart i hi hs
theorem Bc {k:Nat} {r:Row} {n:aF} (h:oU k r) (hn:0≤n.core∧n.core<4) (ha:r.asked n.core.toNat=true):yG k (r.heard n):=by
 have hnq:r.quiet=false:=by
  have:n.core.toNat=0∨n.core.toNat=1∨n.core.toNat=2∨n.core.toNat=3:=by omega
  unfold Row.quiet
  grind
 have hg:r.granted=false:=by
  cases hg:r.granted with
  |false=>rfl
  |true=>have:=h.still (.inl hg);grind
 have hb:r.busy=true:=by
  cases hb:r.busy with
  |true=>rfl
  |false=>have:=h.still (.inr hb);grind
 have h1:yG k (r.cO n):=⟨h.core,h.owner,h.waits,h.apart,h.want hb hg,hb,hg⟩
 have h2:yG k ((r.cO n).tU n):=⟨h.core,by show -1≤(-1:Int)∧(-1:Int)<4;omega,h.waits,fun i hi _=>by show(i:Int)≠ -1;omega,by
  have:=h.core
  right;right
  show(-1:Int)≠r.served.core
  omega,hb,hg⟩
 have h3:∀{r:Row},yG k r→yG k (r.gT n):=fun h=>⟨h.core,h.owner,h.waits,h.apart,h.want,h.busy,h.gr⟩
 unfold Row.heard
 split
 ·have:=xO (c:=n.core) h1.Yw
  exact⟨this.core,this.owner,this.waits,this.apart,this.want hb hg,hb,hg⟩
 ·split
  ·split
   ·exact h3 h2
   ·exact h2
  ·split
   ·exact h3 h1
   ·exact h1
def aF.Zr (n:aF):aF:=if n.kind=0 then {n with core:= -1} else n
end Go.Hm
namespace Go.Hm
open Go Go.Ab
theorem gD {r:Row} {line:Int} {d:Ln}:(r.cI line d).1.waits=r.waits:=by
 unfold Row.cI
 grind
theorem eR {r:Row} {n:aF}:(r.heard n).waits=r.waits:=by
 unfold Row.heard
 repeat' split
 all_goals rfl
theorem N3 {r:Row} {line:Int} {m:Ln} {n:aF} {w:Int}:(r.get line m n w).1.waits=r.waits:=by
 have hu:(r.serve n w).jX.waits=r.waits:=by unfold Row.jX;split<;>rfl
 unfold Row.get
 simp only
 split
 ·unfold Row.getM;split
  ·rfl
  ·exact gD
 ·unfold Row.Jb;split
  ·exact hu
  ·rw[gD];exact hu
theorem yF {r:Row} {line:Int} {m:Ln} {n:aF} {j:Int→Int×Bool}:(r.begun line m n j).1.1.waits=r.waits:=by
 unfold Row.begun
 split
 ·rfl
 ·split
  ·split
   ·exact N3
   ·rfl
  ·split<;>rfl
def C0:bJ:=⟨3,2,1,1,4,2,2⟩
def B9 (H:iQ) (R:Nat→List aF) (i:Nat):Prop:=∀k,k<4→oU k (H k).1∧R k=(H k).1.waits.map aF.Zr∧(H k).1.waits.length≤i
theorem B9.h {H:iQ} {R:Nat→List aF} {i:Nat} (h:B9 H R i) (N:Nat) (hN:i≤N):Jy C0 H N:=fun k hk=>⟨(h k hk).1.inv,Nat.le_trans (h k hk).2.2 hN⟩
theorem B9.sG {H:iQ} {R:Nat→List aF} {i l:Nat} {x:eU} {w:List aF} (h:B9 H R i) (h1:oU l x.1) (h2:w=x.1.waits.map aF.Zr) (h3:x.1.waits.length≤i+1):B9 (aJ H l x) (aJ R l w) (i+1):=by
 intro k hk
 unfold aJ
 by_cases e:k=l
 ·grind
 ·simp only[if_neg e]
  obtain⟨a,b,c⟩:=h k hk
  grind
theorem B9.same {H:iQ} {R:Nat→List aF} {i l:Nat} {x:eU} (h:B9 H R i) (hl:l<4) (h1:oU l x.1) (h2:x.1.waits=(H l).1.waits):B9 (aJ H l x) R (i+1):=by
 have:=h.sG (x:=x) (w:=R l) h1 (by rw[h2];exact(h l hl).2.1) (by rw[h2];have:=(h l hl).2.2;omega)
 rwa [show aJ R l (R l)=R from gR] at this
theorem B9.up {H:iQ} {R:Nat→List aF} {i:Nat} (h:B9 H R i):B9 H R (i+1):=fun k hk=>⟨(h k hk).1,(h k hk).2.1,by have:=(h k hk).2.2;omega⟩
theorem Dx {r:Row} {line:Int} {d:Ln}:(r.cI line d).2.length≤4:=by
 unfold Row.cI
 grind
theorem tG {line st:Int} {l:List Nat}:(cQ line st l).length=l.length:=by simp[cQ]
theorem E8 {r:Row} {line:Int} {m:Ln} {n:aF} {w:Int}:(r.get line m n w).2.length≤4:=by
 unfold Row.get
 simp only
 split
 ·unfold Row.getM;split
  ·rw[tG];exact qT
  ·exact Dx
 ·unfold Row.Jb;split
  ·simp[tG]
  ·exact Dx
theorem N5 {r:Row} {line:Int} {m:Ln} {n:aF} {j:Int→Int×Bool}:(r.begun line m n j).2.length≤4:=by
 unfold Row.begun
 split
 ·simp
 ·split
  ·split
   ·exact E8
   ·simp
  ·split
   ·simp
   ·rw[tG];exact qT
theorem E1 {C:bJ} {H:iQ} {l:Int} {j:Int→Int×Bool}:(dL C H l j).2.1.length≤4:=by
 unfold dL
 split
 ·unfold eU.begin
  split
  ·simp
  ·split
   ·simp
   ·exact N5
 ·simp
end Go.Hm
end
section
namespace Go.Pc
open Go Go.Ab Go.Hm Go.Ct
structure CL where
 st:Int
 d:Ln
 iZ:Bool
 aw:Bool
 gi:Bool
 gs:Int
 gd:Ln
abbrev Pe:=Nat→CL
def iq (k:Int) (i l:Nat) (n:aF):Bool:=decide (n.kind=k∧n.core=(i:Int)∧n.line=(l:Int))
def cF (k:Int) (i l:Nat) (N:List aF):Nat:=N.countP (iq k i l)
theorem aU {k:Int} {i l:Nat} {n:aF} {N:List aF}:cF k i l (n::N)=cF k i l N+if n.kind=k∧n.core=(i:Int)∧n.line=(l:Int) then 1 else 0:=by
 unfold cF iq
 rw[List.countP_cons]
 simp only[decide_eq_true_eq]
theorem tN {k:Int} {i l:Nat} {M N:List aF}:cF k i l (M++N)=cF k i l M+cF k i l N:=List.countP_append
theorem uW {k:Int} {i l:Nat}:cF k i l []=0:=rfl
theorem S0 {k:Int} {i l:Nat} {M N:List aF} (h:M.Perm N):cF k i l M=cF k i l N:=h.countP_eq _
theorem zC {k:Int} {i l:Nat} {N:List aF} (h:0<cF k i l N):∃n∈N,n.kind=k∧n.core=(i:Int)∧n.line=(l:Int):=by
 unfold cF at h
 obtain⟨n,hn,h2⟩:=List.countP_pos_iff.1 h
 exact⟨n,hn,of_decide_eq_true h2⟩
theorem dG {k:Int} {i l:Nat} {N:List aF} {n:aF} (h:n∈N) (h1:n.kind=k) (h2:n.core=(i:Int)) (h3:n.line=(l:Int)):0<cF k i l N:=
 List.countP_pos_iff.2 ⟨n,h,decide_eq_true ⟨h1,h2,h3⟩⟩
def hs (c:CL) (p:Nat):Int:=if c.st≠0 then c.st else if c.gi=true∧0<p then c.gs else 0
def lR (c:CL):Ln:=if c.st≠0 then c.d else c.gd
def pd (l:Nat) (r:Row) (N:List aF) (i:Nat):Nat:=cF 3 i l N+cF 3 i l r.waits
def HH (l:Nat) (r:Row) (c:Pe) (N:List aF) (i:Nat):Int:=hs (c i) (pd l r N i)
def qL (r:Row) (i:Nat):Nat:=if r.busy=true∧r.granted=false∧r.served.kind≠0∧r.served.core=(i:Int) then 1 else 0
def mO (r:Row) (i:Nat):Nat:=if r.granted=true∧r.served.core=(i:Int) then 1 else 0
structure Inv (l:Nat) (r:Row) (m V:Ln) (c:Pe) (N:List aF):Prop where
 row:oU l r
 ks:r.busy=true→r.served.kind=0∨r.served.kind=1∨r.served.kind=2
 kg:r.granted=true→r.served.kind≠0
 told:r.told=true→r.granted=true
 nc:∀n∈N,n.line=l∧0≤n.core∧n.core<4
 ex:∀i,i<4→(c i).st≠0∨(c i).iZ=true→(c i).gi=false
 mN:∀i,i<4→(0≤(c i).st∧(c i).st≤4)∧(0≤(c i).gs∧(c i).gs≤4)
 t1:∀i,i<4→cF 1 i l N+cF 2 i l N+cF 1 i l r.waits+cF 2 i l r.waits+qL r i+cF 8 i l N+cF 9 i l N=(c i).iZ.toNat
 t2:∀i,i<4→cF 3 i l N+cF 3 i l r.waits+cF 10 i l N=(c i).gi.toNat
 t3:∀i,i<4→cF 11 i l N+cF 5 i l N=(r.asked i).toNat
 t4:∀i,i<4→cF 8 i l N+cF 4 i l N=mO r i
 a1:∀i,i<4→(c i).iZ=true→HH l r c N i≠2∧HH l r c N i≠4
 a2:∀i,i<4→(c i).iZ=true→(c i).aw=false→HH l r c N i=0
 rq:∀n,n∈N∨n∈r.waits→n.kind=1∨n.kind=2→(n.kind=2↔(c n.core.toNat).aw=true)
 rs:r.busy=true→r.granted=false→r.served.kind≠0→(r.served.kind=2↔(c r.served.core.toNat).aw=true)
 c1:∀i,i<4→cF 5 i l N=0→cF 8 i l N=0→(HH l r c N i=1↔r.sh i=true)∧(2≤HH l r c N i↔r.owner=(i:Int))
 c2:∀i,i<4→HH l r c N i=2∨HH l r c N i=4→∀j,j<4→j≠i→HH l r c N j=0
 sJ:∀i,i<4→HH l r c N i=2∨HH l r c N i=4→∀n∈N,n.kind=5→n.gC=false
 gN:∀n∈N,n.kind=8→(n.state=1∨n.state=2∨n.state=4)∧(n.state=4↔(c n.core.toNat).aw=true)∧
  (n.state=1→r.sh n.core.toNat=true∧HH l r c N n.core.toNat=0∧∀j,j<4→HH l r c N j≠2∧HH l r c N j≠4)∧
  (n.state≠1→r.owner=n.core∧∀j:Nat,j<4→r.sh j=false∧((j:Int)≠n.core→HH l r c N j=0))∧
  (n.state=2→HH l r c N n.core.toNat=0)∧(HH l r c N n.core.toNat=0→(n.d0,n.d1)=V)
 pN:∀n∈N,n.kind=11→n.state=(if r.served.kind=1 then 1 else 0)∧(r.sh n.core.toNat=true∨r.owner=n.core)∧(r.served.kind=1→r.owner=n.core)
 rN:∀n∈N,n.kind=5→(r.served.kind≠1→HH l r c N n.core.toNat=0)∧
  (r.served.kind=1→r.owner=n.core∧n.state=HH l r c N n.core.toNat∧((n.state=1∧n.gC=false)∨(n.state=3∧n.gC=true)))∧(n.gC=true→(n.d0,n.d1)=V)
 uN:∀n,n∈N∨n∈r.waits→n.kind=3→(n.d0,n.d1)=(c n.core.toNat).gd∧((c n.core.toNat).gs=3∨(c n.core.toNat).gs=4→n.gC=true)
 c3:∀i,i<4→HH l r c N i≠0→lR (c i)=V
 c5:(∀i,i<4→HH l r c N i≠3∧HH l r c N i≠4)→(∀n∈N,n.kind=5→n.gC=false)→m=V
 k2:r.busy=true→r.granted=false→r.served.kind≠1→∀j:Nat,j<4→(r.served.kind=2→(j:Int)≠r.served.core)→r.sh j=true∨r.owner=(j:Int)→r.asked j=true
variable {l:Nat} {r:Row} {m V:Ln} {c:Pe} {N N':List aF}
theorem Inv.perm (h:Inv l r m V c N) (p:N.Perm N'):Inv l r m V c N':=by
 have e:∀k i,cF k i l N'=cF k i l N:=fun k i=>(S0 p).symm
 have eH:∀i,HH l r c N' i=HH l r c N i:=fun i=>by unfold HH pd;rw[e]
 have em:∀n,n∈N'↔n∈N:=fun n=>p.symm.mem_iff
 constructor
 case row=>exact h.row
 case ks=>exact h.ks
 case kg=>exact h.kg
 case told=>exact h.told
 case nc=>intro n hn;exact h.nc n ((em n).1 hn)
 case ex=>exact h.ex
 case mN=>exact h.mN
 case t1=>intro i hi;simp only[e];exact h.t1 i hi
 case t2=>intro i hi;simp only[e];exact h.t2 i hi
 case t3=>intro i hi;simp only[e];exact h.t3 i hi
 case t4=>intro i hi;simp only[e];exact h.t4 i hi
 case a1=>simp only[eH];exact h.a1
 case a2=>simp only[eH];exact h.a2
 case rq=>simp only[em];exact h.rq
 case rs=>exact h.rs
 case c1=>simp only[e,eH];exact h.c1
 case c2=>simp only[eH];exact h.c2
 case sJ=>simp only[eH,em];exact h.sJ
 case gN=>simp only[eH,em];exact h.gN
 case pN=>simp only[em];exact h.pN
 case rN=>simp only[eH,em];exact h.rN
 case uN=>simp only[em];exact h.uN
 case c3=>simp only[eH];exact h.c3
 case c5=>simp only[eH,em];exact h.c5
 case k2=>exact h.k2
end Go.Pc
end
section
namespace Go.Pc
open Go Go.Ab Go.Hm Go.Ct
variable {l:Nat} {r:Row} {m V:Ln} {c:Pe} {N:List aF} {n:aF}
theorem dD (h:0≤n.core∧n.core<4):∃i:Nat,i<4∧n.core=(i:Int)∧n.core.toNat=i:=⟨n.core.toNat,by omega,by omega,rfl⟩
theorem Inv.Wt (h:Inv l r m V c (n::N)) (hk:n.kind=1∨n.kind=2∨n.kind=3):Inv l (r.wait n) m V c N:=by
 have hc:=h.nc n (by simp)
 have ew:∀k i,cF k i l (r.wait n).waits=cF k i l r.waits+if n.kind=k∧n.core=(i:Int)∧n.line=(l:Int) then 1 else 0:=fun k i=>by
  show cF k i l (r.waits++[n])=_
  rw[tN,aU,uW];omega
 have eH:∀i,HH l (r.wait n) c N i=HH l r c (n::N) i:=fun i=>by
  unfold HH pd
  rw[ew,aU]
  congr 1
  omega
 have ek:∀k i,(k=4∨k=5∨k=8∨k=9∨k=10∨k=11)→cF k i l (n::N)=cF k i l N:=fun k i hk'=>by
  rw[aU,if_neg (by omega)];omega
 have em:∀x,x∈N→x∈n::N:=fun x hx=>List.mem_cons_of_mem _ hx
 have ewm:∀x,x∈(r.wait n).waits↔x∈r.waits∨x=n:=fun x=>by
  show x∈r.waits++[n]↔_
  simp
 have e1:∀i,qL (r.wait n) i=qL r i:=fun _=>rfl
 have e2:∀i,mO (r.wait n) i=mO r i:=fun _=>rfl
 constructor
 case row=>exact Dt h.row hc.1 hc.2 (by omega)
 case ks=>exact h.ks
 case kg=>exact h.kg
 case told=>exact h.told
 case nc=>intro x hx;exact h.nc x (em x hx)
 case ex=>exact h.ex
 case mN=>exact h.mN
 case t1=>intro i hi;have:=h.t1 i hi;rw[ek 8 i (by omega),ek 9 i (by omega),aU (k:=1),aU (k:=2)] at this;grind
 case t2=>intro i hi;have:=h.t2 i hi;rw[ek 10 i (by omega),aU (k:=3)] at this;rw[ew];omega
 case t3=>intro i hi;have:=h.t3 i hi;rw[ek 11 i (by omega),ek 5 i (by omega)] at this;exact this
 case t4=>intro i hi;have:=h.t4 i hi;grind
 case a1=>simp only[eH];exact h.a1
 case a2=>simp only[eH];exact h.a2
 case rq=>intro x hx;refine h.rq x ?_;rw[ewm] at hx;grind
 case rs=>exact h.rs
 case c1=>intro i hi h5 h8;rw[eH];exact h.c1 i hi (by grind) (by rw[ek 8 i (by omega)];exact h8)
 case c2=>simp only[eH];exact h.c2
 case sJ=>simp only[eH];exact fun i hi h1 x hx=>h.sJ i hi h1 x (em x hx)
 case gN=>simp only[eH];exact fun x hx=>h.gN x (em x hx)
 case pN=>exact fun x hx=>h.pN x (em x hx)
 case rN=>simp only[eH];exact fun x hx=>h.rN x (em x hx)
 case uN=>intro x hx;refine h.uN x ?_;rw[ewm] at hx;grind
 case c3=>simp only[eH];exact h.c3
 case c5=>simp only[eH];exact fun h1 h2=>h.c5 h1 (fun x hx=>by grind)
 case k2=>exact h.k2
theorem Inv.Rd (h:Inv l r m V c (n::N)) (hk:n.kind=4):r.granted=true∧r.served.core=n.core∧Inv l r.free m V c N:=by
 have hc:=h.nc n (by simp)
 obtain⟨i0,hi0,hci,hct⟩:=dD hc.2
 have hg:mO r i0=1:=by
  have:=h.t4 i0 hi0
  rw[aU (k:=4),if_pos ⟨hk,hci,hc.1⟩] at this
  have:mO r i0≤1:=by unfold mO;split<;>omega
  omega
 have hg2:r.granted=true∧r.served.core=n.core:=by unfold mO at hg;split at hg<;>grind
 refine⟨hg2.1,hg2.2,?_⟩
 have hq:=h.row.still (.inl hg2.1)
 have ha:∀i,i<4→r.asked i=false:=fun i hi=>by
  unfold Row.quiet at hq
  grind
 have ek:∀k i,k≠4→cF k i l (n::N)=cF k i l N:=fun k i hk'=>by
  rw[aU,if_neg (by omega)];omega
 have eH:∀i,HH l r.free c N i=HH l r c (n::N) i:=fun i=>by
  unfold HH pd
  rw[ek 3 i (by omega)]
  rfl
 have em:∀x,x∈N→x∈n::N:=fun x hx=>List.mem_cons_of_mem _ hx
 have e5:∀x∈N,x.kind≠5∧x.kind≠11:=fun x hx=>by
  have hx2:=h.nc x (em x hx)
  obtain⟨j,hj,hcj,_⟩:=dD hx2.2
  have h3:=h.t3 j hj
  rw[ha j hj,ek 11 j (by omega),ek 5 j (by omega)] at h3
  refine⟨fun e=>?_,fun e=>?_⟩
  ·have:=dG hx e hcj hx2.1;simp at h3;omega
  ·have:=dG hx e hcj hx2.1;simp at h3;omega
 have e8:∀i,i<4→cF 8 i l N=0∧cF 4 i l N=0:=fun i hi=>by
  have:=h.t4 i hi
  rw[ek 8 i (by omega),aU (k:=4)] at this
  unfold mO at this
  grind
 have e8m:∀x∈N,x.kind≠8:=fun x hx e=>by
  have hx2:=h.nc x (em x hx)
  obtain⟨j,hj,hcj,_⟩:=dD hx2.2
  have:=dG hx e hcj hx2.1
  grind
 constructor
 case row=>exact C8 h.row hq
 case ks=>intro e;cases e
 case kg=>intro e;cases e
 case told=>intro e;cases e
 case nc=>intro x hx;exact h.nc x (em x hx)
 case ex=>exact h.ex
 case mN=>exact h.mN
 case t1=>
  intro i hi
  have:=h.t1 i hi
  rw[ek 1 i (by omega),ek 2 i (by omega),ek 8 i (by omega),ek 9 i (by omega)] at this
  have h0:qL r i=0:=by unfold qL;rw[if_neg (by rw[hg2.1];simp)]
  have h1:qL r.free i=0:=by unfold qL Row.free;simp
  rw[h0] at this
  rw[h1]
  exact this
 case t2=>intro i hi;have:=h.t2 i hi;rw[ek 3 i (by omega),ek 10 i (by omega)] at this;exact this
 case t3=>intro i hi;have:=h.t3 i hi;rw[ek 11 i (by omega),ek 5 i (by omega)] at this;exact this
 case t4=>intro i hi;have:=e8 i hi;unfold mO Row.free;simp;omega
 case a1=>simp only[eH];exact h.a1
 case a2=>simp only[eH];exact h.a2
 case rq=>intro x hx;exact h.rq x (hx.imp (em x) id)
 case rs=>intro e;cases e
 case c1=>intro i hi h5 h8;rw[eH];exact h.c1 i hi (by grind) (by grind)
 case c2=>simp only[eH];exact h.c2
 case sJ=>grind
 case gN=>grind
 case pN=>grind
 case rN=>exact fun x hx e=>absurd e (e5 x hx).1
 case uN=>intro x hx;exact h.uN x (hx.imp (em x) id)
 case c3=>simp only[eH];exact h.c3
 case c5=>simp only[eH];exact fun h1 h2=>h.c5 h1 (fun x hx=>by grind)
 case k2=>intro e;cases e
theorem Inv.ey {i:Nat} (h:Inv l r m V c (n::N)) (hk:n.kind=9) (hi0:i<4) (hci:n.core=(i:Int)):(c i).iZ=true∧Inv l r m V (aJ c i {c i with iZ:=false,aw:=false}) N:=by
 have hc:=h.nc n (by simp)
 have has:(c i).iZ=true:=by
  have:=h.t1 i hi0
  rw[aU (k:=9),if_pos ⟨hk,hci,hc.1⟩] at this
  cases ha:(c i).iZ with
  |true=>rfl
  |false=>grind
 refine⟨has,?_⟩
 have em:∀x,x∈N→x∈n::N:=fun x hx=>List.mem_cons_of_mem _ hx
 have ek:∀k j,k≠9→cF k j l (n::N)=cF k j l N:=fun k j hk'=>by
  rw[aU,if_neg (by omega)];omega
 have hz:cF 1 i l N=0∧cF 2 i l N=0∧cF 1 i l r.waits=0∧cF 2 i l r.waits=0∧qL r i=0∧cF 8 i l N=0∧cF 9 i l N=0:=by
  have:=h.t1 i hi0
  rw[ek 1 i (by omega),ek 2 i (by omega),ek 8 i (by omega),aU (k:=9),if_pos ⟨hk,hci,hc.1⟩,has] at this
  grind
 have eH:∀j,HH l r (aJ c i {c i with iZ:=false,aw:=false}) N j=HH l r c (n::N) j:=fun j=>by
  unfold HH pd
  rw[ek 3 j (by omega)]
  unfold aJ
  split
  ·rename_i e;subst e;rfl
  ·rfl
 have hu:∀j,(aJ c i {c i with iZ:=false,aw:=false}) j=if j=i then {c i with iZ:=false,aw:=false} else c j:=fun j=>rfl
 have hd:∀j,lR ((aJ c i {c i with iZ:=false,aw:=false}) j)=lR (c j):=fun j=>by rw[hu];split<;>simp_all [lR]
 have hgd:∀j,((aJ c i {c i with iZ:=false,aw:=false}) j).gd=(c j).gd∧((aJ c i {c i with iZ:=false,aw:=false}) j).gs=(c j).gs∧((aJ c i {c i with iZ:=false,aw:=false}) j).gi=(c j).gi∧((aJ c i {c i with iZ:=false,aw:=false}) j).st=(c j).st:=fun j=>by grind
 have hne:∀x,x∈N∨x∈r.waits→x.kind=1∨x.kind=2∨x.kind=8→x.core.toNat≠i:=by
  intro x hx hxk e
  have hb:x.line=l∧0≤x.core∧x.core<4:=by
   rcases hx with hx|hx
   ·exact h.nc x (em x hx)
   ·have:=h.row.waits x hx;grind
  have hxc:x.core=(i:Int):=by omega
  rcases hx with hx|hx
  ·rcases hxk with k1|k1|k1<;>(have:=dG hx k1 hxc hb.1;omega)
  ·have hw:=(h.row.waits x hx).2.2
   rcases hxk with k1|k1|k1
   ·have:=dG hx k1 hxc hb.1;omega
   ·have:=dG hx k1 hxc hb.1;omega
   ·omega
 constructor
 case row=>exact h.row
 case ks=>exact h.ks
 case kg=>exact h.kg
 case told=>exact h.told
 case nc=>intro x hx;exact h.nc x (em x hx)
 case ex=>intro j hj hx;rw[(hgd j).2.2.1];rw[(hgd j).2.2.2,hu] at hx;refine h.ex j hj ?_;grind
 case mN=>intro j hj;rw[(hgd j).2.2.2,(hgd j).2.1];exact h.mN j hj
 case t1=>
  intro j hj
  have:=h.t1 j hj
  rw[ek 1 j (by omega),ek 2 j (by omega),ek 8 j (by omega),aU (k:=9)] at this
  grind
 case t2=>intro j hj;have:=h.t2 j hj;grind
 case t3=>intro j hj;have:=h.t3 j hj;grind
 case t4=>intro j hj;have:=h.t4 j hj;grind
 case a1=>intro j hj ha;rw[eH];refine h.a1 j hj ?_;rw[hu] at ha;grind
 case a2=>intro j hj ha hb;rw[eH];rw[hu] at ha hb;refine h.a2 j hj ?_ ?_<;>grind
 case rq=>intro x hx hk1;rw[hu,if_neg (hne x hx (by omega))];exact h.rq x (hx.imp (em x) id) hk1
 case rs=>intro b g k0;have:=hz.2.2.2.2.1;unfold qL at this;rw[hu,if_neg (fun e=>by have:=h.row.core;grind)];exact h.rs b g k0
 case c1=>intro j hj h5 h8;rw[eH];exact h.c1 j hj (by grind) (by grind)
 case c2=>simp only[eH];exact h.c2
 case sJ=>simp only[eH];exact fun j hj h1 x hx=>h.sJ j hj h1 x (em x hx)
 case gN=>intro x hx hk8;simp only[eH];rw[hu,if_neg (hne x (.inl hx) (by omega))];exact h.gN x (em x hx) hk8
 case pN=>exact fun x hx=>h.pN x (em x hx)
 case rN=>simp only[eH];exact fun x hx=>h.rN x (em x hx)
 case uN=>intro x hx hk3;rw[(hgd _).1,(hgd _).2.1];exact h.uN x (hx.imp (em x) id) hk3
 case c3=>intro j hj;rw[eH,hd];exact h.c3 j hj
 case c5=>simp only[eH];exact fun h1 h2=>h.c5 h1 (fun x hx=>by grind)
 case k2=>exact h.k2
end Go.Pc
end
section
namespace Go.Pc
open Go Go.Ab Go.Hm Go.Ct
variable {l:Nat} {r:Row} {m V:Ln} {c:Pe} {N:List aF} {n:aF}
theorem cV {α:Type} {f:Nat→α} {i:Nat} {x:α}:aJ f i x i=x:=by unfold aJ;rw[if_pos rfl]
theorem bK {α:Type} {f:Nat→α} {i j:Nat} {x:α} (h:j≠i):aJ f i x j=f j:=by unfold aJ;rw[if_neg h]
theorem Inv.Wx {i:Nat} (h:Inv l r m V c (n::N)) (hk:n.kind=10) (hi0:i<4) (hci:n.core=(i:Int)) {gd':Ln} {gs':Int} (hg:gs'=0):(c i).gi=true∧Inv l r m V (aJ c i {c i with gi:=false,gs:=gs',gd:=gd'}) N:=by
 have hc:=h.nc n (by simp)
 have ek:∀k j,cF k j l (n::N)=cF k j l N+if k=10∧j=i then 1 else 0:=fun k j=>by
  rw[aU];grind
 have hgi:(c i).gi=true:=by have:=h.t2 i hi0;grind
 refine⟨hgi,?_⟩
 have hz:cF 3 i l N=0∧cF 3 i l r.waits=0:=by have:=h.t2 i hi0;grind
 have em:∀x,x∈N→x∈n::N:=fun x hx=>List.mem_cons_of_mem _ hx
 have hst:=h.ex i hi0
 have eH:∀j,HH l r (aJ c i {c i with gi:=false,gs:=gs',gd:=gd'}) N j=HH l r c (n::N) j:=fun j=>by
  unfold HH pd
  rw[ek 3 j,if_neg (by omega)]
  by_cases e:j=i
  ·subst e;rw[cV,hz.1,hz.2];simp[hs]
  ·rw[bK e];rfl
 have eD:∀j,HH l r c (n::N) j≠0→lR ((aJ c i {c i with gi:=false,gs:=gs',gd:=gd'}) j)=lR (c j):=fun j hj=>by
  by_cases e:j=i
  ·subst e;rw[cV];unfold lR;simp only;split<;>try rfl
   rename_i h0;exfalso;apply hj;rw[←eH,HH,cV];simp[hs,h0]
  ·rw[bK e]
 have h3:∀x,x∈N∨x∈r.waits→x.kind=3→x.core.toNat≠i:=fun x hx k e=>by
  rcases hx with hx|hx
  ·have:=h.nc x (em x hx);have:=dG hx k (i:=i) (by omega) this.1;omega
  ·have:=h.row.waits x hx;have:=dG hx k (i:=i) (by omega) this.1;omega
 constructor
 case row=>exact h.row
 case ks=>exact h.ks
 case kg=>exact h.kg
 case told=>exact h.told
 case nc=>grind [h.nc]
 case ex=>have:=h.ex;grind [aJ]
 case mN=>have:=h.mN;grind [aJ]
 case t1=>have:=h.t1;grind [aJ]
 case t2=>have:=h.t2;grind [aJ]
 case t3=>have:=h.t3;grind [aJ]
 case t4=>have:=h.t4;grind [aJ]
 case a1=>have:=h.a1;grind [aJ]
 case a2=>have:=h.a2;grind [aJ]
 case rq=>have:=h.rq;grind [aJ]
 case rs=>have:=h.rs;grind [aJ]
 case c1=>have:=h.c1;grind [aJ]
 case c2=>have:=h.c2;grind [aJ]
 case sJ=>have:=h.sJ;grind [aJ]
 case gN=>intro x hx k8;simp only[eH];have:=h.gN x (em x hx) k8;grind [aJ]
 case pN=>have:=h.pN;grind [aJ]
 case rN=>have:=h.rN;grind [aJ]
 case uN=>have:=h.uN;grind [aJ]
 case c3=>have:=h.c3;grind
 case c5=>simp only[eH];exact fun h1 h2=>h.c5 h1 (by grind)
 case k2=>have:=h.k2;grind [aJ]
theorem dF (h:r.quiet=true) {i:Nat} (hi:i<4):r.asked i=false:=by
 unfold Row.quiet at h
 grind
theorem Inv.bd (h:Inv l r m V c N) {x:aF} (hx:x∈N∨x∈r.waits):x.line=l∧0≤x.core∧x.core<4:=by
 rcases hx with hx|hx
 ·exact h.nc x hx
 ·have:=h.row.waits x hx;grind
theorem Inv.none (h:Inv l r m V c N) {k:Int} {i:Nat} (h0:cF k i l N=0) {x:aF} (hx:x∈N) (hk:x.kind=k):x.core≠(i:Int):=fun e=>by
 have:=dG hx hk e (h.nc x hx).1;omega
theorem Inv.calm (h:Inv l r m V c N) (hq:r.quiet=true) {x:aF} (hx:x∈N):x.kind≠5∧x.kind≠11:=by
 have hb:=h.nc x hx
 obtain⟨j,hj,hcj,_⟩:=dD hb.2
 have h3:=h.t3 j hj
 rw[dF hq hj] at h3
 refine⟨fun e=>?_,fun e=>?_⟩
 ·have:=dG hx e hcj hb.1;simp at h3;omega
 ·have:=dG hx e hcj hb.1;simp at h3;omega
theorem Inv.Zb (h:Inv l r m V c N) {i:Nat} (hi:i<4) (hg:mO r i=0) {x:aF} (hx:x∈N) (hk:x.kind=8):x.core≠(i:Int):=
 h.none (by have:=h.t4 i hi;omega) hx hk
theorem Inv.own (h:Inv l r m V c N) {i:Nat} (hi:i<4) (h2:2≤HH l r c N i):r.owner=(i:Int):=by
 by_cases h5:cF 5 i l N=0
 ·by_cases h8:cF 8 i l N=0
  ·exact((h.c1 i hi h5 h8).2).1 h2
  ·obtain⟨x,hx,k,e,_⟩:=zC (Nat.pos_of_ne_zero h8)
   have:=h.gN x hx k
   grind
 ·obtain⟨x,hx,k,e,_⟩:=zC (Nat.pos_of_ne_zero h5)
  have:=h.rN x hx k
  grind
def qF (i:Int) (l:Nat):aF:=⟨4,i,l,0,0,0,0,false,0⟩
theorem Inv.granted {i:Nat} (h:Inv l r m V c (n::N)) (hk:n.kind=8) (hi0:i<4) (hci:n.core=(i:Int)) {d':Ln} (hd:d'=if(c i).st≠0 then(c i).d else(n.d0,n.d1)):
  ((c i).iZ=true∧(c i).gi=false∧(n.state=1∨n.state=2∨n.state=4))∧Inv l r m V (aJ c i {c i with st:=n.state,d:=d',iZ:=false,aw:=false}) (qF i l::N):=by
 have hc:=h.nc n (by simp)
 have ek:∀k j,cF k j l (n::N)=cF k j l N+if k=8∧j=i then 1 else 0:=fun k j=>by
  rw[aU];congr 1;simp only[hk,hci,hc.1];grind
 have ek':∀k j,cF k j l (qF i l::N)=cF k j l N+if k=4∧j=i then 1 else 0:=fun k j=>by
  rw[aU];congr 1;simp only[qF];grind
 have hg:r.granted=true∧r.served.core=(i:Int):=by
  have:=h.t4 i hi0;rw[ek,ek] at this;simp at this;unfold mO at this;grind
 have has:(c i).iZ=true:=by have:=h.t1 i hi0;rw[ek 8] at this;cases hx:(c i).iZ<;>simp_all
 have hgi:=h.ex i hi0 (.inr has)
 have hgn:=h.gN n (by simp) hk
 refine⟨⟨has,hgi,hgn.1⟩,?_⟩
 have hq:=h.row.still (.inl hg.1)
 have hcalm:=fun x hx=>h.calm hq (x:=x) hx
 have hz:cF 1 i l N=0∧cF 2 i l N=0∧cF 1 i l r.waits=0∧cF 2 i l r.waits=0∧cF 8 i l N=0∧cF 4 i l N=0∧cF 9 i l N=0:=by
  have:=h.t1 i hi0;have h4:=h.t4 i hi0;simp only[ek,has] at this h4;unfold mO at h4;simp at this h4;split at h4<;>omega
 have h3:cF 3 i l N=0∧cF 3 i l r.waits=0:=by have:=h.t2 i hi0;simp only[ek,hgi] at this;simp at this;omega
 have em:∀x,x∈N→x∈n::N:=fun x hx=>List.mem_cons_of_mem _ hx
 have e8:∀x∈N,x.kind≠8:=fun x hx k=>by
  have hb:=h.nc x (em x hx)
  obtain⟨j,hj,hcj,_⟩:=dD hb.2
  have h4:=h.t4 j hj
  have:=dG hx k hcj hb.1
  simp only[ek] at h4
  by_cases e:j=i
  ·subst e;omega
  ·have:mO r j=0:=by unfold mO;rw[if_neg (fun e2=>e (by omega))]
   omega
 generalize hC:aJ c i {c i with st:=n.state,d:=d',iZ:=false,aw:=false}=c'
 have ci:c' i={c i with st:=n.state,d:=d',iZ:=false,aw:=false}:=by rw[←hC,cV]
 have cj:∀j,j≠i→c' j=c j:=fun j e=>by rw[←hC,bK e]
 have cg:∀j,(c' j).gi=(c j).gi∧(c' j).gs=(c j).gs∧(c' j).gd=(c j).gd:=fun j=>by by_cases e:j=i<;>grind
 have hHi:HH l r c' (qF i l::N) i=n.state:=by
  unfold HH;rw[ci];unfold hs;rw[if_pos (by simp only;omega)]
 have hHo:HH l r c (n::N) i=(c i).st:=by unfold HH hs;rw[hgi];simp;omega
 have eH:∀j,j≠i→HH l r c' (qF i l::N) j=HH l r c (n::N) j:=fun j e=>by
  unfold HH pd;rw[ek 3 j,ek' 3 j,if_neg (by omega),if_neg (by omega),cj j e]
 have hdi:lR (c' i)=V:=by
  rw[ci];unfold lR;rw[if_pos (by simp only;omega)]
  simp only[hd]
  split
  ·rename_i e;have:=h.c3 i hi0 (by rw[hHo];exact e);unfold lR at this;grind
  ·grind
 constructor
 case row=>exact h.row
 case ks=>exact h.ks
 case kg=>exact h.kg
 case told=>exact h.told
 case nc=>intro x hx;rcases List.mem_cons.1 hx with rfl|hx;exact⟨rfl,by simp only[qF];omega⟩;exact h.nc x (em x hx)
 case ex=>have:=h.ex;grind
 case mN=>have:=h.mN;grind
 case t1=>
  intro j hj
  have h1:=h.t1 j hj
  grind
 case t2=>have:=h.t2;grind
 case t3=>have:=h.t3;grind
 case t4=>have:=h.t4;grind
 case a1=>have:=h.a1;grind
 case a2=>have:=h.a2;grind
 case rq=>
  intro x hx k1
  have hx2:x∈N∨x∈r.waits:=hx.imp (fun h=>by rcases List.mem_cons.1 h with rfl|h;simp[qF] at k1;exact h) id
  have hb:=h.bd (hx2.imp (em x) id)
  have hne:x.core≠(i:Int):=by
   rcases hx2 with hx|hx<;>rcases k1 with k1|k1<;>(intro e;have:=dG hx k1 e hb.1;omega)
  rw[cj _ (by omega)];exact h.rq x (hx2.imp (em x) id) k1
 case rs=>grind
 case c1=>
  intro j hj h5 h8
  by_cases e:j=i
  ·subst e;rw[hHi]
   have:=h.row.apart j hj
   grind
  ·rw[eH j e];exact h.c1 j hj (by grind) (by grind)
 case c2=>
  grind
 case sJ=>intro j hj h2 x hx k5;rcases List.mem_cons.1 hx with rfl|hx;simp[qF] at k5;grind
 case gN=>intro x hx k8;rcases List.mem_cons.1 hx with rfl|hx;simp[qF] at k8;grind
 case pN=>intro x hx k;rcases List.mem_cons.1 hx with rfl|hx;simp[qF] at k;grind
 case rN=>intro x hx k;rcases List.mem_cons.1 hx with rfl|hx;simp[qF] at k;grind
 case uN=>
  intro x hx k
  have hx2:x∈N∨x∈r.waits:=hx.imp (fun h=>by rcases List.mem_cons.1 h with rfl|h;simp[qF] at k;exact h) id
  rw[(cg _).2.1,(cg _).2.2];exact h.uN x (hx2.imp (em x) id) k
 case c3=>
  intro j hj h0
  by_cases e:j=i
  ·subst e;exact hdi
  ·rw[cj j e];exact h.c3 j hj (by grind)
 case c5=>
  intro h1 h2
  refine h.c5 (fun j hj=>?_) (fun x hx=>?_)
  ·grind
  grind
 grind
end Go.Pc
end
section
namespace Go.Pc
open Go Go.Ab Go.Hm Go.Ct
variable {l:Nat} {r:Row} {m V:Ln} {c:Pe} {N:List aF} {n:aF}
theorem Dw {c:CL} {p:Nat} (h:hs c p≠0) (h0:c.st=0):c.gi=true∧0<p∧hs c p=c.gs:=by
 unfold hs at h ⊢;rw[if_neg (by simpa using h0)] at h ⊢
 split at h
 ·rename_i e;rw[if_pos e];exact⟨e.1,e.2,rfl⟩
 ·exact absurd rfl h
theorem Inv.found {i:Nat} (h:Inv l r m V c (n::N)) (hk:n.kind=11) (hi0:i<4) (hci:n.core=(i:Int)):
  r.asked i=true∧r.granted=false∧r.busy=true∧HH l r c (n::N) i≠0∧(n.state=0∨n.state=1)∧((c i).st≠0∨((c i).st=0∧(c i).gi=true)):=by
 have hc:=h.nc n (by simp)
 have h11:0<cF 11 i l (n::N):=dG (by simp) hk hci hc.1
 have ha:r.asked i=true:=by have:=h.t3 i hi0;grind
 have hg:r.granted=false:=by
  cases hg:r.granted with
  |false=>rfl
  |true=>have:=dF (h.row.still (.inl hg)) hi0;grind
 have hb:r.busy=true:=by
  cases hb:r.busy with
  |true=>rfl
  |false=>have:=dF (h.row.still (.inr hb)) hi0;grind
 have h0:HH l r c (n::N) i≠0:=by
  have h5:cF 5 i l (n::N)=0:=by have:=h.t3 i hi0;grind
  have h8:cF 8 i l (n::N)=0:=by have:=h.t4 i hi0;unfold mO at this;grind
  have:=h.c1 i hi0 h5 h8
  have hp:=(h.pN n (by simp) hk).2.1
  rw[hci,Int.toNat_natCast] at hp
  rcases hp with hp|hp
  ·grind
  ·grind
 refine⟨ha,hg,hb,h0,?_,?_⟩
 ·have:=(h.pN n (by simp) hk).1;grind
 ·by_cases e:(c i).st=0
  ·exact .inr ⟨e,(Dw h0 e).1⟩
  ·exact .inl e
theorem M7 {x to:Int} (hx:1≤x∧x≤4) (ht:to=0∨to=1):(to=0→dN x to=0)∧(to=1→dN x to=1∨dN x to=3)∧(to=1→2≤x→x=2∧dN x to=1∨(x=3∨x=4)∧dN x to=3)∧(dN x to=3→x=3∨x=4):=by
 unfold dN zG
 grind
theorem Inv.Xi {i:Nat} {ci':CL} {y:aF} (h:Inv l r m V c (n::N)) (hk:n.kind=11) (hi0:i<4) (hci:n.core=(i:Int))
  (hsame:ci'.iZ=(c i).iZ∧ci'.aw=(c i).aw∧ci'.gi=(c i).gi∧ci'.gd=(c i).gd)
  (hst:(c i).st≠0→ci'.st=dN (c i).st n.state∧(ci'.st≠0→ci'.d=(c i).d)∧ci'.gs=(c i).gs)
  (hgs:(c i).st=0→ci'.st=0∧ci'.gs=dN (c i).gs n.state)
  (hy:y.kind=5∧y.core=(i:Int)∧y.line=l∧y.state=dN (HH l r c (n::N) i) n.state∧(y.gC=true↔HH l r c (n::N) i=3∨HH l r c (n::N) i=4)∧(y.gC=true→(y.d0,y.d1)=lR (c i))):
  Inv l r m V (aJ c i ci') (y::N):=by
 have hc:=h.nc n (by simp)
 obtain⟨ha,hg,hb,h0,hto,hw⟩:=h.found hk hi0 hci
 have ek:∀k j,cF k j l (n::N)=cF k j l N+if k=11∧j=i then 1 else 0:=fun k j=>by
  rw[aU];grind
 have ek':∀k j,cF k j l (y::N)=cF k j l N+if k=5∧j=i then 1 else 0:=fun k j=>by
  rw[aU];grind
 have em:∀x,x∈N→x∈n::N:=fun x hx=>List.mem_cons_of_mem _ hx
 have hrng:=h.mN i hi0
 have hex:=h.ex i hi0
 have hdV:lR (c i)=V:=h.c3 i hi0 h0
 have hs14:1≤HH l r c (n::N) i∧HH l r c (n::N) i≤4:=by
  unfold HH at h0 ⊢
  by_cases e:(c i).st=0
  ·have:=Dw h0 e;omega
  ·unfold hs;rw[if_pos e];omega
 have hnx:=M7 hs14 hto
 have hnb:=qX (x:=HH l r c (n::N) i) (to:=n.state) (by omega)
 have e5:cF 5 i l N=0:=by have:=h.t3 i hi0;grind
 have e8:∀x∈N,x.kind≠8:=fun x hx k=>by
  have hb:=h.nc x (em x hx)
  obtain⟨j,hj,hcj,_⟩:=dD hb.2
  exact h.Zb hj (by unfold mO;rw[hg];simp) (em x hx) k hcj
 generalize hC:aJ c i ci'=c'
 have ci:c' i=ci':=by rw[←hC,cV]
 have cj:∀j,j≠i→c' j=c j:=fun j e=>by rw[←hC,bK e]
 have cs:∀j,(c' j).iZ=(c j).iZ∧(c' j).aw=(c j).aw∧(c' j).gi=(c j).gi∧(c' j).gd=(c j).gd:=fun j=>by grind
 have hHi:HH l r c' (y::N) i=dN (HH l r c (n::N) i) n.state:=by
  unfold HH at h0 ⊢
  have ep:pd l r (y::N) i=pd l r (n::N) i:=by unfold pd;rw[ek,ek'];simp
  rw[ep]
  by_cases e:(c i).st=0
  ·have h1:=Dw h0 e
   rw[h1.2.2]
   unfold hs
   grind
  ·have e2:hs (c i) (pd l r (n::N) i)=(c i).st:=by unfold hs;rw[if_pos e]
   rw[e2,←(hst e).1,ci]
   unfold hs
   grind
 have eH:∀j,j≠i→HH l r c' (y::N) j=HH l r c (n::N) j:=fun j e=>by
  unfold HH pd;grind
 have hdi:HH l r c' (y::N) i≠0→lR (c' i)=lR (c i):=fun e0=>by
  rw[ci];unfold lR
  by_cases e:(c i).st=0
  ·grind
  ·by_cases e2:ci'.st=0
   ·exfalso;apply e0;rw[hHi]
    have:HH l r c (n::N) i=(c i).st:=by unfold HH hs;rw[if_pos e]
    grind
   grind
 have hmem:∀x,x∈y::N→x=y∨x∈n::N:=fun x hx=>by grind
 constructor
 case row=>exact h.row
 case ks=>exact h.ks
 case kg=>exact h.kg
 case told=>exact h.told
 case nc=>intro x hx;rcases hmem x hx with rfl|hx;exact⟨hy.2.2.1,by omega⟩;exact h.nc x hx
 case ex=>
  intro j hj h1
  rw[(cs j).2.2.1]
  refine h.ex j hj ?_
  grind
 case mN=>
  intro j hj
  by_cases e:j=i
  ·subst e;rw[ci]
   by_cases e:(c j).st=0
   ·have:=qX (x:=(c j).gs) (to:=n.state) (by omega);have:=hgs e;omega
   ·have:=qX (x:=(c j).st) (to:=n.state) (by omega);have:=hst e;omega
  ·rw[cj j e];exact h.mN j hj
 case t1=>intro j hj;have h1:=h.t1 j hj;grind
 case t2=>intro j hj;have h1:=h.t2 j hj;grind
 case t3=>intro j hj;have h1:=h.t3 j hj;grind
 case t4=>intro j hj;have h1:=h.t4 j hj;grind
 case a1=>intro j hj h1;have:=h.a1 j hj;grind
 case a2=>intro j hj h1;have:=h.a2 j hj;grind
 case rq=>intro x hx k1;rw[(cs _).2.1];exact h.rq x (hx.imp (fun hx=>(hmem x hx).resolve_left (fun e=>by subst e;omega)) id) k1
 case rs=>rw[(cs _).2.1];exact h.rs
 case c1=>
  intro j hj h5 h8
  have e:j≠i:=fun e=>by grind
  rw[eH j e];exact h.c1 j hj (by grind) (by grind)
 case c2=>intro j hj h2;exfalso;have:=h.c2 j hj;grind
 case sJ=>intro j hj h2;exfalso;have:=h.c2 j hj;grind
 case gN=>grind
 case pN=>intro x hx k;rcases hmem x hx with rfl|hx;omega;exact h.pN x hx k
 case rN=>
  intro x hx k
  rcases List.mem_cons.1 hx with rfl|hx
  ·rw[hy.2.1,Int.toNat_natCast,hHi]
   have hp:=h.pN n (by simp) hk
   grind
  ·have hne:x.core≠(i:Int):=fun e=>by have:=dG hx k e (h.nc x (em x hx)).1;omega
   have hb:=h.nc x (em x hx)
   rw[eH _ (by omega)]
   exact h.rN x (em x hx) k
 case uN=>
  intro x hx k
  have hx2:x∈n::N∨x∈r.waits:=hx.imp (fun hx=>(hmem x hx).resolve_left (fun e=>by subst e;omega)) id
  have h1:=h.uN x hx2 k
  rw[(cs _).2.2.2]
  refine⟨h1.1,fun h2=>h1.2 ?_⟩
  by_cases e:x.core.toNat=i
  ·rw[e,ci] at h2;rw[e]
   by_cases e0:(c i).st=0
   ·rw[(hgs e0).2] at h2
    have:1≤(c i).gs∧(c i).gs≤4:=by
     have:=Dw (p:=pd l r (n::N) i) h0 e0
     unfold HH at hs14;omega
    have:=M7 this hto
    grind
   grind
  grind
 case c3=>
  intro j hj e0
  by_cases e:j=i
  ·grind
  ·rw[cj j e];exact h.c3 j hj (by grind)
 case c5=>
  intro h1 h2
  have hyd:=h2 y (by simp) hy.1
  have h34:¬(HH l r c (n::N) i=3∨HH l r c (n::N) i=4):=fun e=>by grind
  refine h.c5 (fun j hj=>?_) (fun x hx k=>?_)
  ·grind
  grind
 case k2=>exact h.k2
theorem Inv.asks {i:Nat} {y:aF} {wr:Bool} (h:Inv l r m V c N) (hi0:i<4) (ha:(c i).iZ=false) (hgi:(c i).gi=false) (hst:if wr then(c i).st≠2∧(c i).st≠4 else(c i).st=0)
  (hy:y.kind=(if wr then 2 else 1)∧y.core=(i:Int)∧y.line=l):
  Inv l r m V (aJ c i {c i with iZ:=true,aw:=wr}) (y::N):=by
 have ek':∀k j,cF k j l (y::N)=cF k j l N+if k=(if wr then 2 else 1)∧j=i then 1 else 0:=fun k j=>by
  rw[aU];grind
 have hy12:y.kind=1∨y.kind=2:=by grind
 have hz:cF 1 i l N=0∧cF 2 i l N=0∧cF 1 i l r.waits=0∧cF 2 i l r.waits=0∧qL r i=0∧cF 8 i l N=0∧cF 9 i l N=0:=by
  have:=h.t1 i hi0;grind
 generalize hC:aJ c i {c i with iZ:=true,aw:=wr}=c'
 have ci:c' i={c i with iZ:=true,aw:=wr}:=by rw[←hC,cV]
 have cj:∀j,j≠i→c' j=c j:=fun j e=>by rw[←hC,bK e]
 have cs:∀j,(c' j).st=(c j).st∧(c' j).d=(c j).d∧(c' j).gi=(c j).gi∧(c' j).gs=(c j).gs∧(c' j).gd=(c j).gd:=fun j=>by by_cases e:j=i<;>grind
 have eH:∀j,HH l r c' (y::N) j=HH l r c N j:=fun j=>by
  have e3:cF 3 j l (y::N)=cF 3 j l N:=by grind
  unfold HH pd hs
  grind
 have hHi:HH l r c N i=(c i).st:=by unfold HH hs;rw[hgi];simp;omega
 have ed:∀j,lR (c' j)=lR (c j):=fun j=>by unfold lR;grind
 have hmem:∀x,x∈y::N→x=y∨x∈N:=fun x hx=>List.mem_cons.1 hx
 constructor
 case row=>exact h.row
 case ks=>exact h.ks
 case kg=>exact h.kg
 case told=>exact h.told
 case nc=>intro x hx;rcases hmem x hx with rfl|hx;exact⟨hy.2.2,by omega⟩;exact h.nc x hx
 case ex=>have:=h.ex;grind
 case mN=>have:=h.mN;grind
 case t1=>
  intro j hj
  have h1:=h.t1 j hj
  grind
 case t2=>intro j hj;have h1:=h.t2 j hj;grind
 case t3=>intro j hj;have h1:=h.t3 j hj;grind
 case t4=>intro j hj;have h1:=h.t4 j hj;grind
 case a1=>intro j hj h1;have:=h.a1 j hj;grind
 case a2=>intro j hj h1 h2;have:=h.a2 j hj;grind
 case rq=>
  intro x hx k1
  have h0:x=y∨(x∈N∨x∈r.waits):=by grind
  rcases h0 with rfl|hx
  ·grind
  ·have hb:=h.bd hx
   have hne:x.core≠(i:Int):=by
    rcases hx with hx|hx<;>rcases k1 with k1|k1<;>(intro e;have:=dG hx k1 e hb.1;omega)
   rw[cj _ (by omega)];exact h.rq x hx k1
 case rs=>intro b g k0;have:=hz.2.2.2.2.1;unfold qL at this;rw[cj _ (fun e=>by have:=h.row.core;grind)];exact h.rs b g k0
 case c1=>intro j hj h5 h8;rw[eH];rw[ek'] at h5 h8;exact h.c1 j hj (by omega) (by omega)
 case c2=>simp only[eH];exact h.c2
 case sJ=>simp only[eH];intro j hj h1 x hx k;rcases hmem x hx with rfl|hx;omega;exact h.sJ j hj h1 x hx k
 case gN=>
  intro x hx k
  rcases hmem x hx with rfl|hx
  ·omega
  ·have hb:=h.nc x hx
   have hne:x.core≠(i:Int):=fun e=>by have:=dG hx k e hb.1;omega
   simp only[eH]
   rw[cj _ (by omega)];exact h.gN x hx k
 case pN=>intro x hx k;rcases hmem x hx with rfl|hx;omega;exact h.pN x hx k
 case rN=>intro x hx k;simp only[eH];rcases hmem x hx with rfl|hx;omega;exact h.rN x hx k
 case uN=>
  intro x hx k
  have hx2:x∈N∨x∈r.waits:=hx.imp (fun hx=>(hmem x hx).resolve_left (fun e=>by subst e;omega)) id
  rw[(cs _).2.2.2.1,(cs _).2.2.2.2];exact h.uN x hx2 k
 case c3=>intro j hj;rw[eH,ed];exact h.c3 j hj
 case c5=>simp only[eH];exact fun h1 h2=>h.c5 h1 (fun x hx=>h2 x (List.mem_cons_of_mem _ hx))
 case k2=>exact h.k2
theorem Inv.Og {i:Nat} {y:aF} {d':Ln} (h:Inv l r m V c N) (hi0:i<4) (ha:(c i).iZ=false) (hst:(c i).st≠0)
  (hy:y.kind=3∧y.core=(i:Int)∧y.line=l∧(y.d0,y.d1)=(c i).d∧y.gC=fQ (c i).st) {aw':Bool} (haw:aw'=(c i).aw∨True):
  Inv l r m V (aJ c i ⟨0,d',false,aw',true,(c i).st,(c i).d⟩) (y::N):=by
 have hgi:=h.ex i hi0 (.inl hst)
 have ek':∀k j,cF k j l (y::N)=cF k j l N+if k=3∧j=i then 1 else 0:=fun k j=>by
  rw[aU];grind
 have hz:cF 1 i l N=0∧cF 2 i l N=0∧cF 1 i l r.waits=0∧cF 2 i l r.waits=0∧qL r i=0∧cF 8 i l N=0∧cF 9 i l N=0:=by
  have:=h.t1 i hi0;grind
 have hz2:cF 3 i l N=0∧cF 3 i l r.waits=0∧cF 10 i l N=0:=by have:=h.t2 i hi0;grind
 generalize hC:aJ c i ⟨0,d',false,aw',true,(c i).st,(c i).d⟩=c'
 have ci:c' i=⟨0,d',false,aw',true,(c i).st,(c i).d⟩:=by rw[←hC,cV]
 have cj:∀j,j≠i→c' j=c j:=fun j e=>by rw[←hC,bK e]
 have cs:∀j,(c' j).iZ=(c j).iZ:=fun j=>by by_cases e:j=i<;>grind
 have hHi:HH l r c N i=(c i).st:=by unfold HH hs;rw[if_pos hst]
 have eH:∀j,HH l r c' (y::N) j=HH l r c N j:=fun j=>by
  by_cases e:j=i
  ·subst e;rw[hHi];unfold HH pd;rw[ek',ci];simp[hs]
  ·unfold HH pd;grind
 have ed:∀j,lR (c' j)=lR (c j):=fun j=>by
  by_cases e:j=i
  ·subst e;rw[ci];unfold lR;rw[if_pos hst];simp
  ·rw[cj j e]
 have hmem:∀x,x∈y::N→x=y∨x∈N:=fun x hx=>List.mem_cons.1 hx
 have haN:∀x,(x∈N∨x∈r.waits)→(x.kind=1∨x.kind=2∨x.kind=3)→x.core≠(i:Int):=fun x hx k1 e=>by
  have hb:=h.bd hx
  rcases hx with hx|hx<;>rcases k1 with k1|k1|k1<;>(have:=dG hx k1 e hb.1;omega)
 constructor
 case row=>exact h.row
 case ks=>exact h.ks
 case kg=>exact h.kg
 case told=>exact h.told
 case nc=>intro x hx;rcases hmem x hx with rfl|hx;exact⟨hy.2.2.1,by omega⟩;exact h.nc x hx
 case ex=>have:=h.ex;grind
 case mN=>have:=h.mN;grind
 case t1=>intro j hj;have h1:=h.t1 j hj;grind
 case t2=>
  intro j hj
  have h1:=h.t2 j hj
  grind
 case t3=>intro j hj;have h1:=h.t3 j hj;grind
 case t4=>intro j hj;have h1:=h.t4 j hj;grind
 case a1=>intro j hj;rw[eH,cs];exact h.a1 j hj
 case a2=>intro j hj h1 h2;rw[cs] at h1;rw[eH];by_cases e:j=i;(subst e;rw[ha] at h1;cases h1);(rw[cj j e] at h2;exact h.a2 j hj h1 h2)
 case rq=>
  intro x hx k1
  have hx2:x∈N∨x∈r.waits:=hx.imp (fun hx=>(hmem x hx).resolve_left (fun e=>by subst e;omega)) id
  have:=haN x hx2 (by omega)
  have hb:=h.bd hx2
  rw[cj _ (by omega)];exact h.rq x hx2 k1
 case rs=>intro b g k0;have:=hz.2.2.2.2.1;unfold qL at this;rw[cj _ (fun e=>by have:=h.row.core;grind)];exact h.rs b g k0
 case c1=>intro j hj h5 h8;rw[eH];rw[ek'] at h5 h8;exact h.c1 j hj (by omega) (by omega)
 case c2=>simp only[eH];exact h.c2
 case sJ=>simp only[eH];intro j hj h1 x hx k;rcases hmem x hx with rfl|hx;omega;exact h.sJ j hj h1 x hx k
 case gN=>
  intro x hx k
  rcases hmem x hx with rfl|hx
  ·omega
  ·have hb:=h.nc x hx
   have hne:x.core≠(i:Int):=fun e=>by have:=dG hx k e hb.1;omega
   simp only[eH]
   rw[cj _ (by omega)];exact h.gN x hx k
 case pN=>intro x hx k;rcases hmem x hx with rfl|hx;omega;exact h.pN x hx k
 case rN=>intro x hx k;simp only[eH];rcases hmem x hx with rfl|hx;omega;exact h.rN x hx k
 case uN=>
  intro x hx k
  have h0:x=y∨(x∈N∨x∈r.waits):=by grind
  rcases h0 with rfl|hx
  ·rw[hy.2.1,Int.toNat_natCast,ci]
   refine⟨hy.2.2.2.1,fun h1=>?_⟩
   rw[hy.2.2.2.2];unfold fQ;simpa using h1
  ·have:=haN x hx (by omega)
   have hb:=h.bd hx
   rw[cj _ (by omega)];exact h.uN x hx k
 case c3=>intro j hj;rw[eH,ed];exact h.c3 j hj
 case c5=>simp only[eH];exact fun h1 h2=>h.c5 h1 (fun x hx=>h2 x (List.mem_cons_of_mem _ hx))
 case k2=>exact h.k2
theorem Inv.wrote {i:Nat} {D:Ln} (h:Inv l r m V c N) (hi0:i<4) (hst:(c i).st=2∨(c i).st=4):
  Inv l r m D (aJ c i {c i with st:=4,d:=D}) N:=by
 have hHi:HH l r c N i=(c i).st:=by unfold HH hs;rw[if_pos (by omega)]
 have h24:HH l r c N i=2∨HH l r c N i=4:=by rw[hHi];exact hst
 have ho:=h.c2 i hi0 h24
 have hoth:∀j,j<4→HH l r c N j≠0→j=i:=fun j hj e=>Classical.byContradiction fun e2=>e (ho j hj e2)
 have hdr:=h.sJ i hi0 h24
 have has:(c i).iZ=false:=by cases e:(c i).iZ with|false=>rfl|true=>have:=h.a1 i hi0 e;omega
 have e8:∀x∈N,x.kind≠8:=fun x hx k=>by
  have hb:=h.nc x hx
  obtain⟨j,hj,hcj,hjt⟩:=dD hb.2
  have hg:=h.gN x hx k
  by_cases e:x.state=1
  ·grind
  ·have h1:=(hg.2.2.2.1 e).2 i hi0
   by_cases e2:j=i
   ·subst e2
    have:=h.t1 j hj
    rw[has] at this
    have:=dG hx k hcj hb.1
    simp at*;omega
   grind
 have e5:∀x∈N,x.kind=5→r.served.kind≠1:=fun x hx k e=>by
  have hb:=h.nc x hx
  obtain⟨j,hj,hcj,hjt⟩:=dD hb.2
  have hr:=((h.rN x hx k).2.1 e)
  grind
 generalize hC:aJ c i {c i with st:=4,d:=D}=c'
 have ci:c' i={c i with st:=4,d:=D}:=by rw[←hC,cV]
 have cj:∀j,j≠i→c' j=c j:=fun j e=>by rw[←hC,bK e]
 have cs:∀j,(c' j).iZ=(c j).iZ∧(c' j).aw=(c j).aw∧(c' j).gi=(c j).gi∧(c' j).gs=(c j).gs∧(c' j).gd=(c j).gd:=fun j=>by grind
 have hHi':HH l r c' N i=4:=by unfold HH;rw[ci];simp[hs]
 have eH:∀j,j≠i→HH l r c' N j=HH l r c N j:=fun j e=>by unfold HH;rw[cj j e]
 constructor
 case row=>exact h.row
 case ks=>exact h.ks
 case kg=>exact h.kg
 case told=>exact h.told
 case nc=>exact h.nc
 case ex=>have:=h.ex;grind
 case mN=>have:=h.mN;grind
 case t1=>intro j hj;rw[(cs j).1];exact h.t1 j hj
 case t2=>intro j hj;rw[(cs j).2.2.1];exact h.t2 j hj
 case t3=>exact h.t3
 case t4=>exact h.t4
 case a1=>grind
 case a2=>grind
 case rq=>intro x hx k;rw[(cs _).2.1];exact h.rq x hx k
 case rs=>rw[(cs _).2.1];exact h.rs
 case c1=>intro j hj h5 h8;have:=h.c1 j hj h5 h8;grind
 case c2=>
  grind
 case sJ=>grind
 case gN=>grind
 case pN=>exact h.pN
 case rN=>
  intro x hx k
  have hb:=h.nc x hx
  have h1:=h.rN x hx k
  grind
 case uN=>intro x hx k;rw[(cs _).2.2.2.1,(cs _).2.2.2.2];exact h.uN x hx k
 case c3=>
  intro j hj e0
  by_cases e:j=i
  ·subst e;rw[ci];unfold lR;simp
  grind
 case c5=>grind
 case k2=>exact h.k2
end Go.Pc
end
section
namespace Go.Pc
open Go Go.Ab Go.Hm Go.Ct
variable {l:Nat} {r:Row} {m V:Ln} {c:Pe} {N:List aF} {n:aF}
theorem oQ {r:Row} {x:Int}:∀(f i:Nat),(∀c,c∈r.eF x f i↔(i≤c∧c<i+f)∧r.holds x c=true)∧(r.eF x f i).Nodup∧(r.pK x f i= -1↔∀c,i≤c→c<i+f→r.holds x c=false):=by
 intro f
 induction f with
 |zero=>intro i;refine⟨fun c=>?_,by simp[Row.eF],?_⟩;simp[Row.eF];omega;simp[Row.pK];omega
 |succ f ih=>
  intro i
  obtain⟨h1,h2,h3⟩:=ih (i+1)
  unfold Row.eF Row.pK
  grind
theorem jF {r:Row} {x:Int} {c:Nat}:c∈r.dB x↔c<4∧r.holds x c=true:=by
 have:=(oQ (r:=r) (x:=x) 4 0).1 c
 unfold Row.dB;grind
theorem Aw {r:Row} {x:Int}:(r.dB x).Nodup:=(oQ 4 0).2.1
theorem oP {r:Row} {x:Int}:r.first x= -1↔∀c:Nat,c<4→(c:Int)≠x→r.sh c=false∧(c:Int)≠r.owner:=by
 have:=(oQ (r:=r) (x:=x) 4 0).2.2
 unfold Row.first
 rw[this]
 unfold Row.holds
 grind
theorem Inv.H4 (h:Inv l r m V c N) (hg:r.granted=false):r.told=false:=by
 cases e:r.told with
 |false=>rfl
 |true=>have:=h.told e;grind
def Row.dz (r:Row) (b:Bool) (d:Ln):Row:={r with told:=b,d0:=d.1,d1:=d.2}
theorem Inv.dz {b:Bool} {d:Ln} (h:Inv l r m V c N) (hg:r.granted=true):Inv l (Row.dz r b d) m V c N:=by
 constructor
 case row=>exact⟨h.row.core,h.row.owner,h.row.waits,h.row.apart,h.row.want,h.row.still,h.row.gb⟩
 case ks=>exact h.ks
 case kg=>exact h.kg
 case told=>intro _;exact hg
 case nc=>exact h.nc
 case ex=>exact h.ex
 case mN=>exact h.mN
 case t1=>exact h.t1
 case t2=>exact h.t2
 case t3=>exact h.t3
 case t4=>exact h.t4
 case a1=>exact h.a1
 case a2=>exact h.a2
 case rq=>exact h.rq
 case rs=>exact h.rs
 case c1=>exact h.c1
 case c2=>exact h.c2
 case sJ=>exact h.sJ
 case gN=>exact h.gN
 case pN=>exact h.pN
 case rN=>exact h.rN
 case uN=>exact h.uN
 case c3=>exact h.c3
 case c5=>exact h.c5
 case k2=>exact h.k2
theorem Inv.bh (h:Inv l r m V c N) (_:r.busy=true) (hg:r.granted=false) (hq:r.quiet=true) (hk:r.served.kind=0):Inv l r.free m V c N:=by
 have hcalm:=fun x hx=>h.calm hq (x:=x) hx
 have e0:∀i,qL r i=0∧qL r.free i=0:=fun i=>by unfold qL Row.free;simp[hk]
 have e1:∀i,mO r i=0∧mO r.free i=0:=fun i=>by unfold mO Row.free;simp[hg]
 constructor
 case row=>exact C8 h.row hq
 case ks=>intro e;cases e
 case kg=>intro e;cases e
 case told=>intro e;cases e
 case nc=>exact h.nc
 case ex=>exact h.ex
 case mN=>exact h.mN
 case t1=>intro i hi;have:=h.t1 i hi;rw[(e0 i).1] at this;rw[(e0 i).2];exact this
 case t2=>exact h.t2
 case t3=>exact h.t3
 case t4=>intro i hi;have:=h.t4 i hi;rw[(e1 i).1] at this;rw[(e1 i).2];exact this
 case a1=>exact h.a1
 case a2=>exact h.a2
 case rq=>exact h.rq
 case rs=>intro e;cases e
 case c1=>exact h.c1
 case c2=>exact h.c2
 case sJ=>exact h.sJ
 case gN=>exact h.gN
 case pN=>exact fun x hx k=>absurd k (hcalm x hx).2
 case rN=>exact fun x hx k=>absurd k (hcalm x hx).1
 case uN=>exact h.uN
 case c3=>exact h.c3
 case c5=>exact h.c5
 case k2=>intro e;cases e
theorem Inv.cI {d:Ln} (h:Inv l r m V c N) (hb:r.busy=true) (hg:r.granted=false) (hq:r.quiet=true) (hk:r.served.kind=1∨r.served.kind=2)
  (hd:HH l r c N r.served.core.toNat=0→d=V) (h1:r.served.kind=1→∀j,j<4→HH l r c N j≠2∧HH l r c N j≠4):
  Inv l (r.cI l d).1 m V c ((r.cI l d).2++N)∧(r.cI l d).1.granted=true:=by
 have hcalm:=fun x hx=>h.calm hq (x:=x) hx
 obtain⟨i,hi,hci,hct⟩:∃i:Nat,i<4∧r.served.core=(i:Int)∧r.served.core.toNat=i:=⟨r.served.core.toNat,by have:=h.row.core;omega,by have:=h.row.core;omega,rfl⟩
 have hrow:=Lq (line:=l) (d:=d) (yG.mk h.row.core h.row.owner h.row.waits h.row.apart (h.row.want hb hg) hb hg) (by omega) hq
 have hsrv:qL r i=1:=by unfold qL;rw[if_pos ⟨hb,hg,by omega,hci⟩]
 have has:(c i).iZ=true:=by have:=h.t1 i hi;cases hx:(c i).iZ<;>simp_all
 have hz:cF 8 i l N=0∧cF 9 i l N=0∧cF 4 i l N=0:=by
  have:=h.t1 i hi;have h4:=h.t4 i hi;unfold mO at h4;rw[hg] at h4;rw[hsrv,has] at this;simp at this h4;omega
 have g0:∀j,mO r j=0:=fun j=>by unfold mO;simp[hg]
 have hrs:=h.rs hb hg (by omega)
 rw[hct] at hrs
 have e8:∀x∈N,x.kind≠8:=fun x hx k=>by
  have hb:=h.nc x hx
  obtain⟨j,hj,hcj,_⟩:=dD hb.2
  exact h.Zb hj (g0 j) hx k hcj
 have hc1:∀j,j<4→(HH l r c N j=1↔r.sh j=true)∧(2≤HH l r c N j↔r.owner=(j:Int)):=fun j hj=>h.c1 j hj (by have:=h.t3 j hj;rw[dF hq hj] at this;simp at this;omega) (by have:=h.t4 j hj;grind)
 have hHr:∀j,0≤HH l r c N j→HH l r c N j≠0→HH l r c N j=1∨2≤HH l r c N j:=fun j _ _=>by omega
 have hH0:∀j,j<4→0≤HH l r c N j:=fun j hj=>by have:=h.mN j hj;unfold HH hs;grind
 rw[hct] at hd
 have main:∀(r':Row) (st:Int),r'={r with owner:=r'.owner,sh:=r'.sh,granted:=true}→oU l r'→(st=1∨st=2∨st=4)→(st=4↔(c i).aw=true)→
   (st=1→r'.sh i=true∧HH l r c N i=0∧∀j,j<4→HH l r c N j≠2∧HH l r c N j≠4)→
   (st≠1→r'.owner=(i:Int)∧∀j:Nat,j<4→r'.sh j=false∧((j:Int)≠(i:Int)→HH l r c N j=0))→(st=2→HH l r c N i=0)→
   (∀j:Nat,j<4→j≠i→(r'.sh j=r.sh j)∧(r'.owner=(j:Int)↔r.owner=(j:Int)))→
   Inv l r' m V c (r.gG l st d::N):=by
  intro r' st er hrow hst haw hs1 hs2 hs3 hoth
  have ekk:(r.gG l st d).kind=8∧(r.gG l st d).core=(i:Int)∧(r.gG l st d).line=l:=⟨rfl,hci,rfl⟩
  have ek':∀k j,cF k j l (r.gG l st d::N)=cF k j l N+if k=8∧j=i then 1 else 0:=fun k j=>by
   rw[aU];congr 1;simp only[ekk];grind
  have e1:r'.waits=r.waits∧r'.busy=true∧r'.granted=true∧r'.asked=r.asked∧r'.told=r.told∧r'.served=r.served:=by grind
  have eH:∀j,HH l r' c (r.gG l st d::N) j=HH l r c N j:=fun j=>by unfold HH pd;rw[ek',if_neg (by omega),e1.1];rfl
  have es:∀j,qL r' j=0:=fun j=>by unfold qL;rw[e1.2.2.1];simp
  have hmem:∀x,x∈r.gG l st d::N→x=r.gG l st d∨x∈N:=fun x hx=>List.mem_cons.1 hx
  constructor
  case row=>exact hrow
  case ks=>grind
  case kg=>grind
  case told=>grind
  case nc=>intro x hx;rcases hmem x hx with rfl|hx;exact⟨ekk.2.2,by rw[ekk.2.1];omega⟩;exact h.nc x hx
  case ex=>exact h.ex
  case mN=>exact h.mN
  case t1=>
   intro j hj
   have h1:=h.t1 j hj
   simp only[ek',es,e1.1]
   by_cases e:j=i
   ·subst e;rw[hsrv] at h1;simp only[and_self,if_true,Int.reduceEq,false_and,if_false];simp;omega
   ·have:qL r j=0:=by unfold qL;rw[if_neg (by omega)]
    simp[e];omega
  case t2=>intro j hj;have h1:=h.t2 j hj;grind
  case t3=>intro j hj;have h1:=h.t3 j hj;simp only[ek',e1.2.2.2.1];simp;exact h1
  case t4=>
   intro j hj
   have h1:=h.t4 j hj
   rw[g0] at h1
   have hgr:mO r' j=if j=i then 1 else 0:=by
    unfold mO;rw[e1.2.2.1,e1.2.2.2.2.2]
    by_cases e:j=i
    ·grind
    ·rw[if_neg (fun e2=>e (by omega)),if_neg e]
   grind
  case a1=>simp only[eH];exact h.a1
  case a2=>simp only[eH];exact h.a2
  case rq=>rw[e1.1];intro x hx k1;exact h.rq x (hx.imp (fun hx=>(hmem x hx).resolve_left (fun e=>by grind)) id) k1
  case rs=>grind
  case c1=>
   grind
  case c2=>grind
  case sJ=>grind
  case gN=>
   intro x hx k
   rcases hmem x hx with rfl|hx
   ·simp only[eH]
    rw[ekk.2.1,Int.toNat_natCast]
    exact⟨hst,haw,hs1,hs2,hs3,hd⟩
   grind
  case pN=>grind
  case rN=>grind
  case uN=>rw[e1.1];intro x hx k;exact h.uN x (hx.imp (fun hx=>(hmem x hx).resolve_left (fun e=>by grind)) id) k
  case c3=>simp only[eH];exact h.c3
  case c5=>simp only[eH];exact fun h1 h2=>h.c5 h1 (fun x hx=>h2 x (List.mem_cons_of_mem _ hx))
  case k2=>grind
 unfold Row.cI at hrow ⊢
 by_cases k2:r.served.kind=2
 ·rw[if_pos k2] at hrow ⊢
  refine⟨main _ 4 rfl hrow (by omega) (by grind) (by omega) ?_ (by omega) ?_,rfl⟩
  ·intro _
   refine⟨hci,fun j hj=>⟨rfl,fun e=>Classical.byContradiction fun e0=>?_⟩⟩
   have hk2:=h.k2 hb hg (by omega) j hj (fun _=>by rw[hci];exact e)
   rw[dF hq hj] at hk2
   grind
  ·intro j hj e
   have hk2:=h.k2 hb hg (by omega) j hj (fun _=>by rw[hci];omega)
   rw[dF hq hj] at hk2
   constructor
   ·show false=r.sh j
    cases hx:r.sh j with
    |false=>rfl
    |true=>have:=hk2 (.inl hx);cases this
   ·show r.served.core=(j:Int)↔r.owner=(j:Int)
    constructor
    ·intro e2;omega
    ·intro e2;have:=hk2 (.inr e2);cases this
 ·rw[if_neg k2] at hrow ⊢
  have k1:r.served.kind=1:=by omega
  have haw:(c i).aw=false:=by cases e:(c i).aw with|false=>rfl|true=>have:=hrs.2 e;omega
  have h0:=h.a2 i hi has haw
  have hci1:=hc1 i hi
  have hshi:r.sh i=false:=by grind
  by_cases hf:r.first r.served.core= -1
  ·rw[if_pos hf] at hrow ⊢
   have hff:=oP.1 hf
   have hall:∀j,j<4→HH l r c N j=0:=fun j hj=>by
    grind
   refine⟨main _ 2 rfl hrow (by omega) (by rw[haw];simp) (by omega) ?_ (fun _=>h0) ?_,rfl⟩
   ·intro _
    refine⟨hci,fun j hj=>⟨?_,fun _=>hall j hj⟩⟩
    show eP r.sh r.served.core false j=false
    unfold eP
    grind
   ·intro j hj e
    have:=hff j hj (by omega)
    constructor
    ·show eP r.sh r.served.core false j=r.sh j
     unfold eP;grind
    grind
  ·rw[if_neg hf] at hrow ⊢
   refine⟨main _ 1 rfl hrow (by omega) (by rw[haw];simp) ?_ (fun e=>absurd rfl e) (by omega) ?_,rfl⟩
   ·intro _
    refine⟨?_,h0,h1 k1⟩
    show eP r.sh r.served.core true i=true
    unfold eP;grind
   ·intro j hj e
    constructor
    ·show eP r.sh r.served.core true j=r.sh j
     unfold eP;grind
    ·exact Iff.rfl
end Go.Pc
end
section
namespace Go.Pc
open Go Go.Ab Go.Hm Go.Ct
variable {l:Nat} {r:Row} {m V:Ln} {c:Pe} {N:List aF} {n:aF}
theorem Inv.Lz {i:Nat} (h:Inv l r m V c (n::N)) (hk:n.kind=5) (hi:i<4) (hci:n.core=(i:Int)):
  r.asked i=true∧r.granted=false∧r.busy=true∧cF 5 i l N=0∧cF 11 i l N=0:=by
 have hc:=h.nc n (by simp)
 have ha:r.asked i=true:=by
  have:=h.t3 i hi;rw[aU (k:=5),if_pos ⟨hk,hci,hc.1⟩] at this;grind
 have hg:r.granted=false:=by
  cases hg:r.granted with
  |false=>rfl
  |true=>have:=dF (h.row.still (.inl hg)) hi;grind
 have hb:r.busy=true:=by
  cases hb:r.busy with
  |true=>rfl
  |false=>have:=dF (h.row.still (.inr hb)) hi;grind
 have:=h.t3 i hi
 rw[aU (k:=5),if_pos ⟨hk,hci,hc.1⟩,aU (k:=11),if_neg (by omega),ha] at this
 grind
theorem Inv.heard {r':Row} {m':Ln} {i:Nat} (h:Inv l r m V c (n::N)) (hk:n.kind=5) (hi:i<4) (hci:n.core=(i:Int))
  (er:r'={r with owner:=r'.owner,sh:=r'.sh,asked:=eP r.asked n.core false}) (hrow:yG l r')
  (hoth:∀j:Nat,j<4→j≠i→(r'.sh j=r.sh j)∧(r'.owner=(j:Int)↔r.owner=(j:Int)))
  (hc1:(HH l r c (n::N) i=1↔r'.sh i=true)∧(2≤HH l r c (n::N) i↔r'.owner=(i:Int)))
  (hm:(∀j,j<4→HH l r c (n::N) j≠3∧HH l r c (n::N) j≠4)→(∀x∈N,x.kind=5→x.gC=false)→m'=V):Inv l r' m' V c N:=by
 obtain⟨ha,hg,hb,h5,h11⟩:=h.Lz hk hi hci
 have hc:=h.nc n (by simp)
 have ek:∀k j,cF k j l (n::N)=cF k j l N+if k=5∧j=i then 1 else 0:=fun k j=>by
  rw[aU];grind
 have em:∀x,x∈N→x∈n::N:=fun x hx=>List.mem_cons_of_mem _ hx
 have e1:r'.waits=r.waits∧r'.busy=true∧r'.granted=false∧r'.asked=eP r.asked n.core false∧r'.told=r.told∧r'.served=r.served:=by grind
 have eH:∀j,HH l r' c N j=HH l r c (n::N) j:=fun j=>by unfold HH pd;rw[ek,if_neg (by omega),e1.1];rfl
 have eas:∀j,r'.asked j=if j=i then false else r.asked j:=fun j=>by rw[e1.2.2.2.1];unfold eP;grind
 have hne:∀x∈N,x.kind=5∨x.kind=11→x.core≠(i:Int):=fun x hx k e=>by
  rcases k with k|k<;>(have:=dG hx k e (h.nc x (em x hx)).1;omega)
 have g0:∀j,mO r j=0∧mO r' j=0:=fun j=>by unfold mO;grind
 have e8:∀x∈N,x.kind≠8:=fun x hx k=>by
  have hb:=h.nc x (em x hx)
  obtain⟨j,hj,hcj,_⟩:=dD hb.2
  exact h.Zb hj (g0 j).1 (em x hx) k hcj
 have es:∀j,qL r' j=qL r j:=fun j=>by unfold qL;grind
 constructor
 case row=>exact hrow.Yw
 case ks=>rw[e1.2.2.2.2.2];exact fun _=>h.ks hb
 case kg=>grind
 case told=>rw[e1.2.2.2.2.1,h.H4 hg];intro e;cases e
 case nc=>exact fun x hx=>h.nc x (em x hx)
 case ex=>exact h.ex
 case mN=>exact h.mN
 case t1=>intro j hj;have h1:=h.t1 j hj;grind
 case t2=>intro j hj;have h1:=h.t2 j hj;grind
 case t3=>
  intro j hj
  have h1:=h.t3 j hj
  grind
 case t4=>intro j hj;have h1:=h.t4 j hj;grind
 case a1=>simp only[eH];exact h.a1
 case a2=>simp only[eH];exact h.a2
 case rq=>rw[e1.1];exact fun x hx=>h.rq x (hx.imp (em x) id)
 case rs=>rw[e1.2.2.2.2.2];exact fun _ _=>h.rs hb hg
 case c1=>
  intro j hj h5 h8
  rw[eH]
  by_cases e:j=i
  ·subst e;exact hc1
  ·rw[(hoth j hj e).1,(hoth j hj e).2];exact h.c1 j hj (by grind) (by grind)
 case c2=>simp only[eH];exact h.c2
 case sJ=>simp only[eH];exact fun j hj h2 x hx=>h.sJ j hj h2 x (em x hx)
 case gN=>grind
 case pN=>
  intro x hx k
  have hb:=h.nc x (em x hx)
  have h1:=h.pN x (em x hx) k
  have h2:=hoth x.core.toNat (by omega) (fun e=>hne x hx (.inr k) (by omega))
  rw[e1.2.2.2.2.2,h2.1]
  have e3:((x.core.toNat:Nat):Int)=x.core:=by omega
  rw[e3] at h2
  rw[h2.2];exact h1
 case rN=>
  intro x hx k
  have hb:=h.nc x (em x hx)
  have h1:=h.rN x (em x hx) k
  have h2:=hoth x.core.toNat (by omega) (fun e=>hne x hx (.inl k) (by omega))
  have e3:((x.core.toNat:Nat):Int)=x.core:=by omega
  rw[e3] at h2
  rw[e1.2.2.2.2.2,eH,h2.2];exact h1
 case uN=>rw[e1.1];exact fun x hx=>h.uN x (hx.imp (em x) id)
 case c3=>simp only[eH];exact h.c3
 case c5=>simp only[eH];exact hm
 case k2=>
  rw[e1.2.2.2.2.2]
  intro _ _ k j hj hx hs
  rw[eas]
  by_cases e:j=i
  ·subst e
   exfalso
   have hr:=(h.rN n (by simp) hk).1 k
   rw[hci,Int.toNat_natCast] at hr
   rw[hr] at hc1
   rcases hs with hs|hs
   ·have:=hc1.1.2 hs;omega
   ·have:=hc1.2.2 hs;omega
  ·rw[if_neg e]
   refine h.k2 hb hg k j hj hx ?_
   rw[(hoth j hj e).1,(hoth j hj e).2] at hs
   exact hs
theorem Inv.fX (h:Inv l r m V c (n::N)) (hk:n.kind=5):
  r.asked n.core.toNat=true∧Inv l (eU.fX (r,m) l n).1.1 (eU.fX (r,m) l n).1.2 V c ((eU.fX (r,m) l n).2++N):=by
 have hc:=h.nc n (by simp)
 obtain⟨i,hi,hci,hct⟩:=dD hc.2
 obtain⟨ha,hg,hb,h5,h11⟩:=h.Lz hk hi hci
 refine⟨by rw[hct];exact ha,?_⟩
 have hls:=Bc h.row hc.2 (by rw[hct];exact ha)
 have ht:=h.H4 hg
 have hrN:=h.rN n (by simp) hk
 rw[hct] at hrN
 have hH0:∀j,j<4→0≤HH l r c (n::N) j:=fun j hj=>by have:=h.mN j hj;unfold HH hs;split<;>(try split)<;>omega
 have hvu:∀(r1:Row) (m1:Ln),Inv l r1 m1 V c N→r1.busy=true→r1.granted=false→r1.quiet=true→r1.served=r.served→(∀j,HH l r1 c N j=HH l r c (n::N) j)→
   ∀j,j<4→(HH l r c (n::N) j=1↔r1.sh j=true)∧(2≤HH l r c (n::N) j↔r1.owner=(j:Int)):=fun r1 m1 h1 b1 g1 q1 _ e1 j hj=>by
  rw[←e1]
  exact h1.c1 j hj (by have:=h1.t3 j hj;rw[dF q1 hj] at this;simp at this;omega) (by have:=h1.t4 j hj;unfold mO at this;rw[g1] at this;simp at this;omega)
 unfold eU.fX
 simp only
 by_cases k1:r.served.kind=1
 ·
  have hr:=hrN.2.1 k1
  have hq:∀r1:Row,r1.asked=eP r.asked n.core false→r1.quiet=true:=fun r1 e=>by
   have hz:∀j:Nat,j<4→r1.asked j=false:=fun j hj=>by
    rw[e];unfold eP
    by_cases ej:(j:Int)=n.core
    ·rw[if_pos ej]
    ·rw[if_neg ej]
     cases hx:r.asked j with
     |false=>rfl
     |true=>
      have h3:=h.t3 j hj
      rw[hx] at h3
      simp at h3
      exfalso
      by_cases hp:cF 11 j l (n::N)=0
      ·obtain⟨x,hx,k,ex,_⟩:=zC (k:=5) (i:=j) (l:=l) (N:=n::N) (by omega)
       have:=((h.rN x hx k).2.1 k1).1;omega
      ·obtain⟨x,hx,k,ex,_⟩:=zC (Nat.pos_of_ne_zero hp)
       have:=(h.pN x hx k).2.2 k1;omega
   unfold Row.quiet
   rw[hz 0 (by omega),hz 1 (by omega),hz 2 (by omega),hz 3 (by omega)];rfl
  have hm1:r.nI m n=m:=by unfold Row.nI;rw[if_neg (fun e=>e.1 k1)]
  rw[hm1]
  rcases hr.2.2 with h1|h3
  ·
   have eh:r.heard n=(r.cO n).tU n:=by unfold Row.heard;rw[if_neg (fun e=>e k1),if_pos (by omega),if_neg (by rw[h1.2];simp)]
   have hHi:HH l r c (n::N) i=1:=by grind
   have hI:Inv l (r.heard n) m V c N:=by
    refine h.heard hk hi hci (by rw[eh];rfl) hls (fun j hj e=>?_) ?_ (fun h1' h2'=>?_)
    ·rw[eh]
     constructor
     ·show eP r.sh n.core (valid n.state) j=r.sh j
      unfold eP;grind
     ·show(-1:Int)=(j:Int)↔r.owner=(j:Int)
      grind
    ·rw[eh,hHi]
     constructor
     ·show _↔eP r.sh n.core (valid n.state) i=true
      unfold eP;rw[if_pos (by omega),h1.1];simp[valid]
     ·show _↔(-1:Int)=(i:Int)
      grind
    ·exact h.c5 h1' (fun x hx k=>by grind)
   have hqq:=hq (r.heard n) (by rw[eh];rfl)
   have hbb:(r.heard n).busy=true:=by rw[eh];exact hb
   have hgg:(r.heard n).granted=false:=by rw[eh];exact hg
   have hss:(r.heard n).served=r.served:=by rw[eh];rfl
   have hoo:(r.heard n).owner= -1:=by rw[eh];rfl
   have hno:∀j,j<4→¬2≤HH l (r.heard n) c N j:=fun j hj e=>by have:=hI.own hj e;grind
   unfold Row.rest
   rw[if_pos hqq,hss,if_neg (by omega)]
   have hdat:(r.heard n).lR m=m:=by unfold Row.lR;rw[if_neg];rw[hI.H4 hgg];simp
   rw[hdat]
   exact(hI.cI hbb hgg hqq (by grind) (fun _=>hI.c5 (fun j hj=>by grind) (fun x hx k=>absurd k (hI.calm hqq hx).1)) (fun _ j hj=>by have:=hno j hj;omega)).1
  ·
   have eh:r.heard n=(r.cO n).gT n:=by unfold Row.heard;rw[if_neg (fun e=>e k1),if_neg (by omega),if_pos h3.2]
   have hHi:HH l r c (n::N) i=3:=by grind
   have hro:r.owner=(i:Int):=by omega
   have hlr:yG l (r.cO n):=⟨h.row.core,h.row.owner,h.row.waits,h.row.apart,h.row.want hb hg,hb,hg⟩
   have hI:Inv l (r.cO n) m V c N:=by
    refine h.heard hk hi hci rfl hlr (fun j hj e=>⟨rfl,Iff.rfl⟩) ?_ (fun h1' _=>by grind)
    rw[hHi]
    constructor
    ·constructor
     ·intro e;omega
     ·intro e;have:=h.row.apart i hi e;omega
    ·exact⟨fun _=>hro,fun _=>by omega⟩
   have hqq:=hq (r.cO n) rfl
   have hqq3:=hq (r.heard n) (by rw[eh];rfl)
   have hgr:=hI.cI (d:=(n.d0,n.d1)) hb hg hqq (.inl k1) (fun _=>hrN.2.2 h3.2) (fun _ j hj=>by
    by_cases e:j=i
    ·rw[e];unfold HH pd at hHi ⊢;rw[aU,if_neg (by omega)] at hHi;show hs (c i) (cF 3 i l N+cF 3 i l r.waits)≠2∧hs (c i) (cF 3 i l N+cF 3 i l r.waits)≠4;grind
    ·have:¬2≤HH l (r.cO n) c N j:=fun e2=>by have:=hI.own hj e2;have:r.owner=(j:Int):=this;omega
     omega)
   unfold Row.rest
   rw[if_pos hqq3,eh,if_neg (by show ¬r.served.kind=0;omega)]
   have hdat:((r.cO n).gT n).lR m=(n.d0,n.d1):=by rfl
   rw[hdat]
   have hgs:((r.cO n).gT n).cI l (n.d0,n.d1)=(Row.dz ((r.cO n).cI l (n.d0,n.d1)).1 true (n.d0,n.d1),((r.cO n).cI l (n.d0,n.d1)).2):=by
    unfold Row.cI
    have e1:((r.cO n).gT n).served.kind=(r.cO n).served.kind:=rfl
    have e2:((r.cO n).gT n).first ((r.cO n).gT n).served.core=(r.cO n).first (r.cO n).served.core:=rfl
    rw[e1,e2]
    split
    ·rfl
    ·split<;>rfl
   rw[hgs]
   exact hgr.1.dz hgr.2
 ·
  have hHi:=hrN.1 k1
  have eh:r.heard n=(r.cO n).leave n.core:=by unfold Row.heard;rw[if_pos k1]
  have hI:Inv l (r.heard n) (r.nI m n) V c N:=by
   refine h.heard hk hi hci (by rw[eh];rfl) hls (fun j hj e=>?_) ?_ (fun h1' h2'=>?_)
   ·rw[eh]
    constructor
    ·show eP r.sh n.core false j=r.sh j
     unfold eP;grind
    ·show(if r.owner=n.core then(-1:Int) else r.owner)=(j:Int)↔r.owner=(j:Int)
     grind
   ·rw[eh,hHi]
    constructor
    ·show _↔eP r.sh n.core false i=true
     unfold eP;grind
    ·show _↔(if r.owner=n.core then(-1:Int) else r.owner)=(i:Int)
     grind
   ·unfold Row.nI
    by_cases hd:n.gC=true
    ·grind
    ·rw[if_neg (fun e=>hd e.2)]
     exact h.c5 h1' (fun x hx k=>by grind)
  have hbb:(r.heard n).busy=true:=by rw[eh];exact hb
  have hgg:(r.heard n).granted=false:=by rw[eh];exact hg
  have hss:(r.heard n).served=r.served:=by rw[eh];rfl
  have ksv:=h.ks hb
  unfold Row.rest
  by_cases hqq:(r.heard n).quiet=true
  ·rw[if_pos hqq]
   by_cases k0:(r.heard n).served.kind=0
   ·rw[if_pos k0];exact hI.bh hbb hgg hqq k0
   ·rw[if_neg k0]
    rw[hss] at k0
    have k2:r.served.kind=2:=by omega
    have hdat:(r.heard n).lR (r.nI m n)=r.nI m n:=by unfold Row.lR;rw[if_neg];rw[hI.H4 hgg];simp
    rw[hdat]
    have hc1':=fun j hj=>hI.c1 j hj (by have:=hI.t3 j hj;rw[dF hqq hj] at this;simp at this;omega) (by have:=hI.t4 j hj;unfold mO at this;grind)
    refine(hI.cI hbb hgg hqq (by grind) (fun h0=>hI.c5 (fun j hj=>?_) (fun x hx k=>absurd k (hI.calm hqq hx).1)) (fun e=>by rw[hss] at e;omega)).1
    by_cases e:(j:Int)=(r.heard n).served.core
    ·grind
    ·have hk2:=hI.k2 hbb hgg (by rw[hss];omega) j hj (fun _=>e)
     rw[dF hqq hj] at hk2
     grind
  grind
end Go.Pc
end
