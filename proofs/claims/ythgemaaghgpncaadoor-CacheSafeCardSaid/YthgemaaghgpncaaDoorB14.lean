/- A part of the proof. -/
import Derived.Test.YthgemaaghgpncaaDoorB13
import Derived.Test.YthgemaaghgpncaaDoorB9
section
open Go Go.Ab
attribute [local irreducible] aN Br wO yS Jx F5 qD Hu rP Ua qH sH tP Aa Ax vU Hh xJ Wu Y3 Ta X6 Xa S7 S8 Wa Wo vA sI C4 jK copyV mJ uA Yn Xd He oB P6 Yr Ys sU Ai I5 H3 Cl Dm V2 Ak vZ nL mE bP bQ
section
namespace Go.Proofs.YthgemaaghgpncaaDoor
open Go Go.Ab Go.Hm Go.Ct Go.Pc
set_option maxRecDepth 100000
variable {G:Bg} {h:AH} {L L':List HP} {Q:Value→AH→Prop} {Cf:bJ} {w:Wd} {N p:Nat}
theorem E5 {q:kL} {bits:Int} (hlim:Ob G 0 eJ) (hrow:Ob G 1 cK) (hw:WT Cf N w) (hN:N≤2^29) (hs:Hs G h L) [mm:Has (wR G Cf p) L w L']
  (hk:∀v h',Hs G h' (wR G Cf p (w.step Cf q (fZ bits))::L')→Q v h'):Cl Pr K 7 [pt p 0 0,.agg ⟨q.enc⟩,.agg ⟨[I bits]⟩] h Q:=by
 have hC:=hw.ok
 have hc3:=hw.c3
 have hl4:=hw.l4
 have hfew:=hw.Y6
 have hwb:=hw.wr.ok.bad
 obtain⟨wh,qa,qb,qv⟩:=q
 obtain⟨i,hi⟩:=Int.eq_ofNat_of_zero_le (show 0≤qa % 3 by omega)
 obtain⟨l,hl⟩:=Int.eq_ofNat_of_zero_le (show 0≤qb % 4 by omega)
 obtain⟨a,ha⟩:=Int.eq_ofNat_of_zero_le (show 0≤qv % 2 by omega)
 have hi3:i<3:=by omega
 have hll:l<4:=by omega
 have ha2:a<2:=by omega
 have b3:=uI (x:=qa) (n:=3) (by decide)
 have b4:=uI (x:=qb) (n:=4) (by decide)
 have b2:=uI (x:=qv) (n:=2) (by decide)
 have hs:=mm.of hs
 have hg:=hw.kS hi3
 have hbd:=hg.bd (gO hC).2.2.2
 refine cW (iA (cs:=(⟨wh,qa,qb,qv⟩:kL).enc) hs fun p2 h hs=>iA (cs:=[I bits]) hs fun p5 h hs=>?_)
 refine aA (aE (b:=p2) (o:=0) hs (v:=I qa) rfl (pQ (by decide) (cL (by omega) (Fc (c:=(i:Int)) (by decide) (by rw[Ee (by decide),hi]) ?_))))
 refine aA (aE (b:=p2) (o:=0) hs (v:=I qb) rfl (pQ (by decide) (cL (by omega) (Fc (c:=(l:Int)) (by decide) (by rw[Ee (by decide),hl]) ?_))))
 refine aA (aE (b:=p2) (o:=0) hs (v:=I qv) rfl (pQ (by decide) (cL (by omega) (Fc (c:=(a:Int)) (by decide) (by rw[Ee (by decide),ha]) ?_))))
 refine aP (b:=p5) (o:=0) hs (by decide) (l:=[I bits]) rfl rfl (Ey hs fun h hs=>aL rfl (aL rfl (aA (aE (b:=p2) (o:=0) hs (v:=I wh) rfl (bH (bE (fun h0=>bW ?_) (fun h0=>bW ?_)))))))
 ·
  have hk:∀v h',Hs G h' (wR G Cf p {w with X:=aJ w.X i (want Cf i (w.X i) l 1 (decide (qv % 2≠0))).1,L:=w.L++(want Cf i (w.X i) l 1 (decide (qv % 2≠0))).2.1}::L')→Q v h':=fun v h' hs=>by
   refine hk v h' ?_
   unfold Wd.step
   dsimp only
   rw[if_pos h0,hi,hl,Int.toNat_natCast]
   exact hs
  obtain⟨x,hxl,hs⟩:=gX (hs.front (wR G Cf p w))
  have hic:i<x.lc.length:=by omega
  refine aZ hs fun rv h hs=>aC (aA (aE (b:=p) (o:=0) hs rfl (H0 hs hic (aA (aE (b:=p2) (o:=0) hs (v:=I qv) rfl (pQ (by decide) (bL ?_)))))))
  rw[show decide (qv.tmod 2≠0)=decide (qv % 2≠0) from decide_eq_decide.2 (by rw[ca])]
  have hs:=pC (R:=oN G Cf) (l:=x.lc) (s:=w.X) hic hs
  refine C.Uw (C:=Cf) (core:=i) (c:=x.lc.getD i 0) (s:=w.X i) hC hbd hlim hrow hs fun a' c' h hs=>aL rfl (aL rfl ?_)
  have ho:=Rc (C:=Cf) (core:=(i:Int)) (s:=w.X i) (l:=l) (w:=1) (wr:=decide (qv % 2≠0))
  generalize want Cf i (w.X i) l 1 (decide (qv % 2≠0))=r at hs hk ho
  have hs:Hs G h (Ny a' c' r.2.1::_):=hs
  have hs:=Eb (Cf:=Cf) (l:=x.lc) (s:=w.X) (i:=i) (t:=r.1) hic hs
  refine aC (aA (aE (b:=p) (o:=0) hs rfl ?_))
  refine pD (enc:=aF.enc) (W:=9) (e:=77) (l:=w.L) (l2:=r.2.1) (a:=x.al) (c:=x.cl) (a2:=a') (c2:=c') hs (by omega) fun a3 c3 h hs=>?_
  refine aC (aA (bM (b:=p) (o:=0) hs rfl rfl rfl rfl fun h hs=>?_))
  have hs:=hs.sg (b:=p) (o:=0) (c:=wE {x with al:=a3,cl:=c3} {w with X:=aJ w.X i r.1,L:=w.L++r.2.1}) rfl
  have hs:=fE (Cf:=Cf) (p:=p) (x:={x with al:=a3,cl:=c3}) {w with X:=aJ w.X i r.1,L:=w.L++r.2.1} hxl hs
  exact hk _ _ hs.to
 refine bH (bE (fun h1=>bW ?_) (fun h1=>bW ?_))
 ·
  have hk:∀v h',Hs G h' (wR G Cf p {w with H:=(dL Cf w.H l (fun x=>fZ bits x l)).1,L:=w.L++(dL Cf w.H l (fun x=>fZ bits x l)).2.1}::L')→Q v h':=fun v h' hs=>by
   refine hk v h' ?_
   unfold Wd.step
   dsimp only
   rw[if_neg h0,if_pos h1,hl]
   exact hs
  obtain⟨x,hxl,hs⟩:=gX (hs.front (wR G Cf p w))
  refine aZ hs fun rv h hs=>aC (aA (aE (b:=p) (o:=0) hs rfl (aP (b:=p5) (o:=0) hs (by decide) (l:=[I bits]) rfl rfl ?_)))
  have hs:=Hs.eg (p:=True) trivial hs
  refine H.Pu (C:=Cf) (H:=w.H) (N:=N) (j:=fZ bits) hC hlim Xv (hw.home (Nat.le_refl _)) (hs.front (H.eK G x.hb Cf w.H)) (List.Perm.refl _) fun v h hs=>aL rfl (aL rfl ?_)
  have ho:=E1 (C:=Cf) (H:=w.H) (l:=l) (j:=fun x=>fZ bits x l)
  generalize dL Cf w.H l (fun x=>fZ bits x l)=r at hs hk ho
  obtain⟨a',c',hv,hs2⟩:=H.Qk hs
  subst hv
  have hs:Hs G h (Ny a' c' r.2.1::_):=hs2
  refine aC (aA (aE (b:=p) (o:=0) hs rfl ?_))
  refine pD (enc:=aF.enc) (W:=9) (e:=77) (l:=w.L) (l2:=r.2.1) (a:=x.al) (c:=x.cl) (a2:=a') (c2:=c') hs (by omega) fun a3 c3 h hs=>?_
  refine aC (aA (bM (b:=p) (o:=0) hs rfl rfl rfl rfl fun h hs=>?_))
  have hs:=hs.sg (b:=p) (o:=0) (c:=wE {x with al:=a3,cl:=c3} {w with H:=r.1,L:=w.L++r.2.1}) rfl
  have hs:=fE (Cf:=Cf) (p:=p) (x:={x with al:=a3,cl:=c3}) {w with H:=r.1,L:=w.L++r.2.1} hxl hs
  exact hk _ _ hs.to
 refine bH (bE (fun h2=>?_) (fun h2=>bW ?_))
 ·
  have hk:∀v h',Hs G h' (wR G Cf p (w.comes Cf qa)::L')→Q v h':=fun v h' hs=>by
   refine hk v h' ?_
   unfold Wd.step
   dsimp only
   rw[if_neg h0,if_neg h1,if_pos h2]
   exact hs
  exact aA (aE (b:=p2) (o:=0) hs (v:=I qa) rfl (I9 (a:=qa) hlim hrow hw hN (hs.front (wR G Cf p w)) fun v h hs=>hk _ _ hs.to))
 refine bH (bE (fun h3=>bW ?_) (fun h3=>bW ?_))
 ·
  obtain⟨x,hxl,hs⟩:=gX (hs.front (wR G Cf p w))
  have hic:i<x.lc.length:=by omega
  refine aZ hs fun rv h hs=>aC (aA (aE (b:=p) (o:=0) hs rfl (H0 hs hic (aA (aE (b:=p2) (o:=0) hs (v:=I qv) rfl ?_)))))
  have hs:=pC (R:=oN G Cf) (l:=x.lc) (s:=w.X) hic hs
  by_cases hr:eZ Cf (w.X i).S l a (fZ bits 1 l).1 true=0
  ·have hk:∀v h',Hs G h' (wR G Cf p {w with X:=aJ w.X i (gF Cf (w.X i) l a (fZ bits 1 l).1 qv),V:=aJ w.V l (Hy (w.V l) a qv)}::L')→Q v h':=fun v h' hs=>by
    refine hk v h' ?_
    unfold Wd.step
    dsimp only
    rw[if_neg h0,if_neg h1,if_neg h2,if_pos h3,hi,hl,ha,Int.toNat_natCast,Int.toNat_natCast,if_pos hr]
    exact hs
   refine C.Oe (C:=Cf) (core:=i) (c:=x.lc.getD i 0) (s:=w.X i) hC hg hr hlim hrow hs fun h hs=>bH (cM rfl (aZ hs fun r2 h hs=>?_))
   have hs:=Eb (Cf:=Cf) (l:=x.lc) (s:=w.X) (i:=i) (t:=gF Cf (w.X i) l a (fZ bits 1 l).1 qv) hic hs
   refine aA (aE (b:=p2) (o:=0) hs (v:=I qv) rfl (aC (aA (nB hll (nB ha2 ?_)))))
   refine bM (b:=p) (o:=0) (j:=0+3+l*2+a*1) (vs:=[I qv]) hs rfl (Nat.ble_eq_true_of_le (by show _≤12;omega)) rfl rfl fun h hs=>?_
   rw[Nat.zero_add,Zd hll ha2] at hs
   have hs:=hs.sg (b:=p) (o:=0) (c:=wE x {w with X:=aJ w.X i (gF Cf (w.X i) l a (fZ bits 1 l).1 qv),V:=aJ w.V l (Hy (w.V l) a qv)}) rfl
   have hs:=fE (Cf:=Cf) (p:=p) (x:=x) {w with X:=aJ w.X i (gF Cf (w.X i) l a (fZ bits 1 l).1 qv),V:=aJ w.V l (Hy (w.V l) a qv)} hxl hs
   exact hk _ _ hs.to
  ·have hk:∀v h',Hs G h' (wR G Cf p w::L')→Q v h':=fun v h' hs=>by
    refine hk v h' ?_
    unfold Wd.step
    dsimp only
    rw[if_neg h0,if_neg h1,if_neg h2,if_pos h3,hi,hl,ha,Int.toNat_natCast,if_neg hr]
    exact hs
   refine C.S2 (C:=Cf) (core:=i) (c:=x.lc.getD i 0) (s:=w.X i) hC hbd hr hlim hrow hs fun h hs=>bH (aY hr ?_)
   have hs:=Eb (Cf:=Cf) (l:=x.lc) (s:=w.X) (i:=i) (t:=w.X i) hic hs
   rw[gR] at hs
   have hs:=fE (Cf:=Cf) (p:=p) (x:=x) w hxl hs
   exact hk _ _ hs.to
 refine bH (bE (fun h4=>bW ?_) (fun h4=>bW ?_))
 ·
  obtain⟨x,hxl,hs⟩:=gX (hs.front (wR G Cf p w))
  refine aC (aA (aE (b:=p) (o:=0) hs rfl (H.Ff (C:=Cf) (H:=w.H) (x:=l) (hw.home (by omega)) hs fun h hs=>bH (bE (fun h5=>?_) (fun h5=>?_)))))
  ·have hk:∀v h',Hs G h' (wR G Cf p {w with H:=(dI Cf w.H l).1}::L')→Q v h':=fun v h' hs=>by
    refine hk v h' ?_
    unfold Wd.step
    dsimp only
    rw[if_neg h0,if_neg h1,if_neg h2,if_neg h3,if_pos h4,hl,if_pos h5]
    exact hs
   refine aC (aA (aE (b:=p) (o:=0) hs rfl (H.Hw (C:=Cf) (H:=w.H) (x:=l) (hw.home (by omega)) hs fun h hs=>?_)))
   have hs:=hs.sg (b:=p) (o:=0) (c:=wE x {w with H:=(dI Cf w.H l).1}) rfl
   have hs:=fE (Cf:=Cf) (p:=p) (x:=x) {w with H:=(dI Cf w.H l).1} hxl hs
   exact hk _ _ hs.to
  ·have hk:∀v h',Hs G h' (wR G Cf p w::L')→Q v h':=fun v h' hs=>by
    refine hk v h' ?_
    unfold Wd.step
    dsimp only
    rw[if_neg h0,if_neg h1,if_neg h2,if_neg h3,if_pos h4,hl,if_neg h5]
    exact hs
   have hs:=fE (Cf:=Cf) (p:=p) (x:=x) w hxl hs
   exact hk _ _ hs.to
 ·
  obtain⟨x,hxl,hs⟩:=gX (hs.front (wR G Cf p w))
  have hic:i<x.lc.length:=by omega
  refine aC (aA (aE (b:=p) (o:=0) hs rfl (H0 hs hic ?_)))
  have hs:=pC (R:=oN G Cf) (l:=x.lc) (s:=w.X) hic hs
  have hk:∀v h',Hs G h' (wR G Cf p {w with X:=aJ w.X i (jO Cf (w.X i) l a (fZ bits 1 l).1),bad:=decide (eZ Cf (w.X i).S l a (fZ bits 1 l).1 false=0∧Mc.kI Cf (w.X i) l a≠Mc.Fv (w.V l) a)}::L')→Q v h':=fun v h' hs=>by
   refine hk v h' ?_
   unfold Wd.step
   dsimp only
   rw[if_neg h0,if_neg h1,if_neg h2,if_neg h3,if_neg h4,hi,hl,ha,Int.toNat_natCast,Int.toNat_natCast,hwb,Bool.false_or]
   exact hs
  by_cases hr:eZ Cf (w.X i).S l a (fZ bits 1 l).1 false=0
  ·refine C.Qv (C:=Cf) (core:=i) (c:=x.lc.getD i 0) (s:=w.X i) hC hg hr hlim hrow hs fun h hs=>aL rfl (aL rfl (aC (aA (aE (b:=p) (o:=0) hs (v:= .bool w.bad) rfl ?_))))
   refine cS (fun e=>by rw[hwb] at e;cases e) (fun _=>bH (cM rfl (aC (aA (nB hll (nB ha2 (aE (b:=p) (o:=0) (j:=0+3+l*2+a*1) hs (by rw[Nat.zero_add];exact gp hll ha2) (bL ?_))))))))
   have hs:=Eb (Cf:=Cf) (l:=x.lc) (s:=w.X) (i:=i) (t:=jO Cf (w.X i) l a (fZ bits 1 l).1) hic hs
   refine aC (aA (bM (b:=p) (o:=0) hs rfl rfl rfl rfl fun h hs=>?_))
   have e:decide (eZ Cf (w.X i).S l a (fZ bits 1 l).1 false=0∧Mc.kI Cf (w.X i) l a≠Mc.Fv (w.V l) a)=decide (Mc.kI Cf (w.X i) l a≠Mc.Fv (w.V l) a):=by simp[hr]
   rw[e] at hk
   have hs:=hs.sg (b:=p) (o:=0) (c:=wE x {w with X:=aJ w.X i (jO Cf (w.X i) l a (fZ bits 1 l).1),bad:=decide (Mc.kI Cf (w.X i) l a≠Mc.Fv (w.V l) a)}) rfl
   have hs:=fE (Cf:=Cf) (p:=p) (x:=x) {w with X:=aJ w.X i (jO Cf (w.X i) l a (fZ bits 1 l).1),bad:=decide (Mc.kI Cf (w.X i) l a≠Mc.Fv (w.V l) a)} hxl hs
   exact hk _ _ hs.to
  ·refine C.Uv (C:=Cf) (core:=i) (c:=x.lc.getD i 0) (s:=w.X i) hC hbd hr hlim hrow hs fun h hs=>aL rfl (aL rfl (aC (aA (aE (b:=p) (o:=0) hs (v:= .bool w.bad) rfl ?_))))
   refine cS (fun e=>by rw[hwb] at e;cases e) (fun _=>bH (aY hr ?_))
   have hs:=Eb (Cf:=Cf) (l:=x.lc) (s:=w.X) (i:=i) (t:=w.X i) hic hs
   rw[gR] at hs
   have e:jO Cf (w.X i) l a (fZ bits 1 l).1=w.X i:=by unfold jO;rw[if_neg hr]
   rw[e,gR] at hk
   have e:decide (eZ Cf (w.X i).S l a (fZ bits 1 l).1 false=0∧Mc.kI Cf (w.X i) l a≠Mc.Fv (w.V l) a)=false:=by simp[hr]
   rw[e] at hk
   refine aC (aA (bM (b:=p) (o:=0) hs rfl rfl rfl rfl fun h hs=>?_))
   have hs:=hs.sg (b:=p) (o:=0) (c:=wE x {w with bad:=false}) rfl
   have hs:=fE (Cf:=Cf) (p:=p) (x:=x) {w with bad:=false} hxl hs
   exact hk _ _ hs.to
end Go.Proofs.YthgemaaghgpncaaDoor
end
section
namespace Go.Proofs.YthgemaaghgpncaaDoor
open Go Go.Ab Go.Hm Go.Ct Go.Pc
def Hj (x:Int):List Value:=[I x]
instance:Fx Hj 1:=⟨fun _=>rfl,fun _=>rfl⟩
theorem Ra {l:List Int}:eL Hj l=l.map I:=by
 induction l with
 |nil=>rfl
 |cons a l ih=>rw[mY,ih];rfl
theorem fq {a b c:Int} (ha:0≤a∧a≤4) (hb:0≤b∧b≤4) (hc:0≤c∧c≤4) (h1:2≤a→b<2∧c<2) (h2:2≤b→a<2∧c<2) (h3:2≤c→a<2∧b<2)
  (k1:a=2∨a=4→b=0∧c=0) (k2:b=2∨b=4→a=0∧c=0) (k3:c=2∨c=4→a=0∧b=0):C.N0 [a,b,c]=true:=by
 have ea:a=0∨a=1∨a=2∨a=3∨a=4:=by omega
 have eb:b=0∨b=1∨b=2∨b=3∨b=4:=by omega
 have ec:c=0∨c=1∨c=2∨c=3∨c=4:=by omega
 rcases ea with rfl|rfl|rfl|rfl|rfl<;>rcases eb with rfl|rfl|rfl|rfl|rfl<;>rcases ec with rfl|rfl|rfl|rfl|rfl<;>first|rfl|omega
set_option maxRecDepth 100000
variable {G:Bg} {h:AH} {L L':List HP} {Q:Value→AH→Prop} {Cf:bJ} {w:Wd} {N p:Nat}
theorem Ks {s y:Int} {hb:Nat} (hC:(eO s y).Ok) (hlim:Ob G 0 eJ) (hk:∀h',Hs G h' (wR G (eO s y) p (Wd.new (eO s y))::L)→Q (pt p 0 0) h'):
  ∀(f k:Nat) (lc:List Nat) (ac:Option Addr) (cc:Nat) (h:AH),k+f=3→lc.length=k→Hs G h (aO p 0 (wE ⟨hb,lc,ac,cc,none,0⟩ (Wd.new (eO s y)))::Yu ac cc lc::Jv (oN G (eO s y)) lc (Wd.new (eO s y)).X::H.eK G hb (eO s y) (Wd.new (eO s y)).H::L)→
   Dd 6 2 [] Q [(I s),(I y),(pt p 0 0),(I k)] h:=by
 intro f
 induction f with
 |zero=>
  intro k lc ac cc h hkf hl hs
  refine bW (bC (aY (by omega) ?_))
  have hs:=F9 (enc:=aF.enc) (W:=9) (e:=77) hs
  have hs:=fE (Cf:=eO s y) (p:=p) (x:=⟨hb,lc,ac,cc,none,0⟩) (Wd.new (eO s y)) (by show lc.length=3;omega) (show Hs G h (Ny none 0 (Wd.new (eO s y)).L::_) from hs)
  exact hk _ hs
 |succ f ih=>
  intro k lc ac cc h hkf hl hs
  refine bW (bC (cM (by omega) (bW (Gw hs fun h hs=>?_))))
  refine C.Ef (C:=eO s y) (core:=k) hC ⟨by omega,by show(k:Int)<3;omega⟩ hlim hs fun c h hs=>?_
  refine aL rfl (aL rfl (bL (aY (by omega) (iJ (eS (bW ?_))))))
  have e:C.dX G c (eO s y) k eQ.new=oN G (eO s y) lc.length c ((Wd.new (eO s y)).X lc.length):=by rw[hl];rfl
  rw[e] at hs
  refine aC (aA (aE (b:=p) (o:=0) hs rfl (aR (c:=[pt c 0 0]) rfl (fB (W:=1) (n:=1) (c:=1) hs rfl rfl rfl fun a h hs=>?_))))
  have hs:=Kv (enc:=pE) (W:=1) (e:=43) (x:=c) hs
  refine pD (enc:=pE) (W:=1) (e:=43) (l:=lc) (l2:=[c]) (a:=ac) (c:=cc) (a2:=some a) (c2:=1) hs (by simp;omega) fun a' c' h hs=>?_
  refine aC (aA (bM (b:=p) (o:=0) hs rfl rfl rfl rfl fun h hs=>lE (c:=((k+1:Nat):Int)) (by omega) (by omega) ?_))
  have hs:=hs.sg (b:=p) (o:=0) (c:=wE ⟨hb,lc++[c],a',c',none,0⟩ (Wd.new (eO s y))) rfl
  have hs:=U3 (R:=oN G (eO s y)) (l:=lc) (q:=c) (s:=(Wd.new (eO s y)).X) (hs.wU (oN G (eO s y) lc.length c ((Wd.new (eO s y)).X lc.length)) (Jv (oN G (eO s y)) lc (Wd.new (eO s y)).X))
  exact ih (k+1) (lc++[c]) a' c' h (by omega) (by simp;omega) hs.to
theorem I0 {s y:Int} (hC:(eO s y).Ok) (hlim:Ob G 0 eJ) (hs:Hs G h L) (hk:∀p h',Hs G h' (wR G (eO s y) p (Wd.new (eO s y))::L)→Q (pt p 0 0) h'):Cl Pr K 6 [I s,I y] h Q:=by
 refine cW (aR (c:=[.pointer none,.slice none 0 0,.slice none 0 0,I 0,I 0,I 0,I 0,I 0,I 0,I 0,I 0,.bool false]) rfl (iA hs fun p h hs=>Gw hs fun h hs=>?_))
 refine H.Km (C:=eO s y) hC hlim hs fun hb h hs=>aL rfl (aL rfl (bL (aY (by omega) (iJ (eS (bW ?_))))))
 refine aC (aA (bM (b:=p) (o:=0) hs rfl rfl rfl rfl fun h hs=>?_))
 have hs:=hs.sg (b:=p) (o:=0) (c:=wE ⟨hb,[],none,0,none,0⟩ (Wd.new (eO s y))) rfl
 have hs:=F9 (enc:=pE) (W:=1) (e:=43) (Uz (R:=oN G (eO s y)) (s:=(Wd.new (eO s y)).X) hs)
 have hs:Hs G h (Yu none 0 []::Jv (oN G (eO s y)) [] (Wd.new (eO s y)).X::aO p 0 (wE ⟨hb,[],none,0,none,0⟩ (Wd.new (eO s y)))::H.eK G hb (eO s y) (Wd.new (eO s y)).H::L):=hs
 exact Ks (hb:=hb) hC hlim (hk p) 3 0 [] none 0 h rfl rfl hs.to
def Jm (Cf:bJ) (w:Wd) (l k:Nat):List Int:=(List.range k).map fun i=>sK Cf w l i
theorem Ni {l k:Nat}:Jm Cf w l (k+1)=Jm Cf w l k++[sK Cf w l k]:=by simp[Jm,List.range_succ]
theorem T0 {l:Nat} (hw:WT Cf N w) (hll:l<4) (hrow:Ob G 1 cK) (hk:∀h',Hs G h' (wR G Cf p w::L)→Dd 8 8 [] Q [(pt p 0 0),(I l)] h'):∀(f k:Nat) (a:Option Addr) (c:Nat) (h:AH),k+f=3→
  Hs G h (ls Hj 1 3 a c (Jm Cf w l k)::wR G Cf p w::L)→Dd 8 3 [] Q [(pt p 0 0),(I l),(.slice a (Jm Cf w l k).length c),(I k)] h:=by
 have hl4:=hw.l4
 intro f
 induction f with
 |zero=>
  intro k a c h hkf hs
  obtain rfl:k=3:=by omega
  have hf:=hw.wr.ok.fit (l:=l) (by omega)
  have hfit:C.N0 (Jm Cf w l 3)=true:=by
   obtain⟨f1,f2,f3⟩:=hf
   show C.N0 [sK Cf w l 0,sK Cf w l 1,sK Cf w l 2]=true
   exact fq (f1 0 (by omega)) (f1 1 (by omega)) (f1 2 (by omega)) (fun e=>⟨f2 0 1 (by omega) (by omega) (by omega) e,f2 0 2 (by omega) (by omega) (by omega) e⟩) (fun e=>⟨f2 1 0 (by omega) (by omega) (by omega) e,f2 1 2 (by omega) (by omega) (by omega) e⟩) (fun e=>⟨f2 2 0 (by omega) (by omega) (by omega) e,f2 2 1 (by omega) (by omega) (by omega) e⟩)
    (fun e=>⟨f3 0 1 (by omega) (by omega) (by omega) e,f3 0 2 (by omega) (by omega) (by omega) e⟩) (fun e=>⟨f3 1 0 (by omega) (by omega) (by omega) e,f3 1 2 (by omega) (by omega) (by omega) e⟩) (fun e=>⟨f3 2 0 (by omega) (by omega) (by omega) e,f3 2 1 (by omega) (by omega) (by omega) e⟩)
  have hs2:Hs G h (dP 1 3 a c ((Jm Cf w l 3).length,(Jm Cf w l 3).map I)::wR G Cf p w::L):=by rw[←Ra];exact hs
  refine bW (bC (aY (by omega) (bW (C.Wr (e:=3) (l:=Jm Cf w l 3) hrow (by simp[Jm]) hs2 ?_))))
  rw[hfit]
  exact dY (gU (mV (hk _ hs.tail)))
 |succ f ih=>
  intro k a c h hkf hs
  obtain⟨x,hxl,hs⟩:=gX (hs.front (wR G Cf p w))
  have hic:k<x.lc.length:=by omega
  have hg:=hw.kS (i:=k) (by omega)
  have hbd:=hg.bd (gO hw.ok).2.2.2
  have hlen:(Jm Cf w l k).length=k:=by simp[Jm]
  refine bW (bC (cM (by omega) (bW (aC (aA (aE (b:=p) (o:=0) hs rfl (H0 hs hic ?_)))))))
  have hs:=pC (R:=oN G Cf) (l:=x.lc) (s:=w.X) hic hs
  obtain⟨t,hs⟩:=C.eW hs
  refine aC (aA (aE (b:=x.lc.getD k 0) (o:=0) hs rfl ?_))
  refine C.mP (t:=t) (ways:=Cf.ways.toNat) (n:=Cf.aD.toNat) (S:=(w.X k).S) (no:=l) (gO hw.ok).1 hbd hs fun h hs=>aL rfl (aL rfl (gP hs fun q h hs=>dR (b:=q) hs rfl rfl rfl rfl fun h hs=>?_))
  have hs:=C.aV (x.lc.getD k 0) t Cf k (w.X k) hs rfl rfl
  have hs:=Eb (Cf:=Cf) (l:=x.lc) (s:=w.X) (i:=k) (t:=w.X k) hic hs
  rw[gR] at hs
  have hs:=fE (Cf:=Cf) (p:=p) (x:=x) w hxl hs
  have hst:sK Cf w l k=if(aG Cf.aD.toNat (w.X k).S l).2=0 then(aG Cf.aD.toNat (w.X k).S l).1.st else 0:=sQ
  refine bL (bE (fun h1=>bW ?_) (fun h1=>bW ?_))
  ·rw[if_neg h1] at hst
   refine aR (c:=[I 0]) rfl (fB (W:=1) (n:=1) (c:=1) hs rfl rfl rfl fun a2 h hs=>?_)
   have hs:=Kv (enc:=Hj) (W:=1) (e:=3) (x:=0) hs
   refine pD (enc:=Hj) (W:=1) (e:=3) (l:=Jm Cf w l k) (l2:=[0]) (a:=a) (c:=c) (a2:=some a2) (c2:=1) hs (by simp;omega) fun a' c' h hs=>?_
   rw[←hst,←Ni] at hs
   rw[←hst,←Ni]
   exact lE (c:=((k+1:Nat):Int)) (by omega) (by omega) (ih (k+1) a' c' h (by omega) hs.to)
  ·have h1:(aG Cf.aD.toNat (w.X k).S l).2=0:=by simpa using h1
   rw[if_pos h1] at hst
   have hd:=hw.wr.ok.data (l:=l) (i:=k) (by omega) (by omega) h1
   generalize aG Cf.aD.toNat (w.X k).S l=r at hs hst hd
   refine aA (aE (b:=q) (o:=0) hs (v:=I r.1.st) rfl (aR (c:=[I r.1.st]) rfl (fB (W:=1) (n:=1) (c:=1) hs rfl rfl rfl fun a2 h hs=>?_)))
   have hs:=Kv (enc:=Hj) (W:=1) (e:=3) (x:=r.1.st) hs
   refine pD (enc:=Hj) (W:=1) (e:=3) (l:=Jm Cf w l k) (l2:=[r.1.st]) (a:=a) (c:=c) (a2:=some a2) (c2:=1) hs (by simp;omega) fun a' c' h hs=>?_
   rw[←hst,←Ni] at hs
   rw[←hst,←Ni]
   refine aZ hs fun rv h hs=>?_
   obtain⟨x,hxl,hs⟩:=gX (hs.front (wR G Cf p w))
   refine aA (aP (b:=q) (o:=0) hs (by decide) (l:=[I r.1.d.1,I r.1.d.2]) rfl rfl (aC (aA (nB hll (aP (b:=p) (o:=0) (j:=0+3+l*2) hs (by decide) (l:=[I r.1.d.1,I r.1.d.2]) (by rw[Nat.zero_add,Q9 hll,hd]) rfl (aj (eS (bW ?_))))))))
   have hs:=fE (Cf:=Cf) (p:=p) (x:=x) w hxl hs
   exact lE (c:=((k+1:Nat):Int)) (by omega) (by omega) (ih (k+1) a' c' h (by omega) hs.to)
theorem Ma (hw:WT Cf N w) (hrow:Ob G 1 cK) (hs:Hs G h L) [mm:Has (wR G Cf p) L w L'] (hk:∀h',Hs G h' (wR G Cf p w::L')→Q (.bool true) h'):Cl Pr K 8 [pt p 0 0] h Q:=by
 have loop:∀(f l:Nat) (h:AH),l+f=4→Hs G h (wR G Cf p w::L')→Dd 8 1 [] Q [(pt p 0 0),(I l)] h:=by
  intro f
  induction f with
  |zero=>intro l h hl hs;exact bW (bC (aY (by omega) (hk _ hs)))
  |succ f ih=>
   intro l h hl hs
   refine bW (bC (cM (by omega) (bW ?_)))
   have hs:=F9 (enc:=Hj) (W:=1) (e:=3) hs
   exact T0 (w:=w) (l:=l) hw (by omega) hrow (fun h hs=>bW (lE (c:=((l+1:Nat):Int)) (by omega) (by omega) (ih (l+1) h (by omega) hs))) 3 0 none 0 h rfl hs
 exact cW (loop 4 0 h rfl (mm.of hs))
end Go.Proofs.YthgemaaghgpncaaDoor
end
section
namespace Go.Proofs.YthgemaaghgpncaaDoor
open Go Go.Ab Go.Hm Go.Ct Go.Pc
def K4 (G:Bg) (v:Value) (l:List kL):Prop:=O2 G 4 v (l.map kL.enc).length (fun i=>(l.map kL.enc).getD i [])
theorem Gk {l:List kL} {i:Nat} {d:kL} (h:l[i]?=some d):(l.map kL.enc)[i]?=some d.enc:=by rw[List.getElem?_map,h];rfl
theorem WT.step {Cf:bJ} {N:Nat} {w:Wd} {q:kL} {bits:Int} (h:WT Cf N w):WT Cf (N+2) (w.step Cf q (fZ bits)):=by
 obtain⟨a,b⟩:=h.wr.step h.ok h.c3 h.l4 (p:=q) (j:=fZ bits)
 exact⟨h.ok,h.c3,h.l4,a,by have:=h.wk;omega⟩
theorem Qw {s y:Int} (hs:1≤s∧s≤2) (hy:1≤y∧y≤2):WT (eO s y) 0 (Wd.new (eO s y)):=by
 refine⟨Tb hs hy,rfl,Lg,⟨xX.new hs hy,fun l hl hb=>?_⟩,Nat.le_refl _⟩
 have e:((Wd.new (eO s y)).H l).1=qK:=by
  show(mM (eO s y).lines l).1=qK
  unfold mM
  rw[if_pos hl]
 rw[e] at hb
 cases hb
set_option maxRecDepth 100000
variable {G:Bg} {h:AH} {L L':List HP} {Q:Value→AH→Prop} {Cf:bJ} {w:Wd} {N p:Nat}
theorem dK (hk:Q (.bool true) h):Cl Pr K 5 [] h Q:=by
 unfold Cl
 exact Qr (v:= .bool true) rfl hk
theorem Mi {v:Value} {l:List kL} (ho:K4 G v l) (hs:Hs G h L):Hs G h (dy G 4 31 v (l.map kL.enc)::L):=Xw (by simp[kL.enc]) ho hs
theorem Nw {v:Value} {l:List kL} {k:Value→Prop} (ho:K4 G v l) (hk:k (I l.length)):aN (vU v) k:=by
 obtain⟨a,c,rfl,_⟩:=ho
 rw[List.length_map]
 exact eV hk
theorem O1 {tv:Value} {l:List kL} {bits:Int} {p5:Nat} (hlim:Ob G 0 eJ) (hrow:Ob G 1 cK) (hl:l.length≤300) (ho:K4 G tv l) (hk:∀h',Q (.bool true) h'):
  ∀(f i:Nat) (w:Wd) (h:AH),i+f=l.length→WT Cf (2*i) w→Hs G h (wR G Cf p w::aO p5 0 [I bits]::L)→Dd 3 3 [] Q [tv,(pt p5 0 0),(pt p 0 0),(I i)] h:=by
 intro f
 induction f with
 |zero=>
  intro i w h hi hw hs
  exact bW (Nw ho (bC (aY (by omega) (dK (hk _)))))
 |succ f ih=>
  intro i w h hi hw hs
  have hx:l[i]?=some (l.getD i ⟨0,0,0,0⟩):=by rw[List.getD_eq_getElem?_getD,List.getElem?_eq_getElem (by omega)];rfl
  generalize l.getD i ⟨0,0,0,0⟩=q at hx
  have hw2:WT Cf (2*(i+1)) (w.step Cf q (fZ bits)):=hw.step
  refine bW (Nw ho (bC (cM (by omega) (bW (aZ hs fun rv h hs=>?_)))))
  have hs:=Mi ho hs
  refine Z4 hs (by decide) (Gk hx) (aP (b:=p5) (o:=0) hs (by decide) (l:=[I bits]) rfl rfl (E5 (w:=w) (q:=q) (bits:=bits) hlim hrow hw (by omega) hs fun v h hs=>?_))
  obtain⟨x,hxl,hs⟩:=gX hs
  refine aC (aA (aE (b:=p) (o:=0) hs (v:= .bool (w.step Cf q (fZ bits)).bad) rfl (cS (fun e=>by rw[hw2.wr.ok.bad] at e;cases e) (fun _=>?_))))
  have hs:=fE (Cf:=Cf) (p:=p) (x:=x) (w.step Cf q (fZ bits)) hxl hs
  refine Ma (w:=w.step Cf q (fZ bits)) hw2 hrow hs fun h hs=>dY (gU (mV (bW ?_)))
  exact lE (c:=((i+1:Nat):Int)) (by omega) (by omega) (ih (i+1) _ h (by omega) hw2 hs.to)
theorem Fj {a b bits:Int} {tv:Value} {l:List kL} (hn:l.length≤9223372036854775807) (hlim:Ob G 0 eJ) (hrow:Ob G 1 cK) (ho:K4 G tv l) (hs:Hs G h L) (hk:∀h',Q (.bool true) h'):
  Cl Pr K 3 [.agg ⟨[I a,I b]⟩,tv,.agg ⟨[I bits]⟩] h Q:=by
 have i0:∀{b:Nat} {k:Value→Prop},k (pt b 0 0)→aN (sI 2 1 (pt b 0 0) (I 0)) k:=fun hk=>fT (by decide) (by decide) hk
 have i1:∀{b:Nat} {k:Value→Prop},k (pt b 0 (0+1))→aN (sI 2 1 (pt b 0 0) (I 1)) k:=fun hk=>fT (by decide) (by decide) hk
 refine cW (iA (cs:=[I a,I b]) hs fun p2 h hs=>iA (cs:=[I bits]) hs fun p5 h hs=>?_)
 refine i0 (aE (b:=p2) (o:=0) hs rfl (bC (bE (fun _=>dK (hk _)) (fun ha1=>?_))))
 refine i0 (aE (b:=p2) (o:=0) hs rfl (qE (bE (fun _=>dK (hk _)) (fun ha2=>?_))))
 refine i1 (aE (b:=p2) (o:=0) hs rfl (bC (bE (fun _=>dK (hk _)) (fun hb1=>?_))))
 refine i1 (aE (b:=p2) (o:=0) hs rfl (qE (bE (fun _=>dK (hk _)) (fun hb2=>?_))))
 refine Nw ho (qE (bE (fun _=>dK (hk _)) (fun h3=>bW ?_)))
 have hw:=Qw (s:=a) (y:=b) (by omega) (by omega)
 refine i0 (aE (b:=p2) (o:=0) hs rfl (i1 (aE (b:=p2) (o:=0) hs rfl (I0 (s:=a) (y:=b) hw.ok hlim hs fun p h hs=>iJ (eS (bW ?_))))))
 exact O1 (bits:=bits) (L:=L) hlim hrow (by omega) ho hk l.length 0 _ h (by omega) hw hs.to
end Go.Proofs.YthgemaaghgpncaaDoor
end
section
namespace Go.Proofs.YthgemaaghgpncaaDoor.H
open Go Go.Ab Go.Hm Go.Ct Go.Pc
set_option maxRecDepth 100000
variable {G:Bg} {h:AH} {L L':List HP}
theorem U5 {C:bJ} {hb:Nat} {H:iQ} {x:Int} {Q:Value→AH→Prop} (hs:Hs G h L) [m:Has (eK G hb C) L H L'] (hk:Hs G h (eK G hb C H::L')→Q (.bool (zA C H x)) h):Cl Pr K 16 [pt hb 0 0,I x] h Q:=by
 have hk:=hk (m.of hs)
 obtain⟨mb,b,o,cap,hs⟩:=kY (m.of hs)
 unfold zA at hk
 refine cW (mC hs (bE (fun h3=>?_) (fun h3=>?_)))
 ·obtain⟨l,rfl⟩:=Int.eq_ofNat_of_zero_le h3.1
  have hl:l<C.lines:=by have:=h3.2;omega
  obtain⟨wa,wc,hs⟩:=bU (uL (H:=H) (b:=b) (o:=o) hl hs)
  rw[decide_eq_true h3,Bool.true_and,Int.toNat_natCast] at hk
  exact aC (aA (aE hs rfl (dW hl (aA (aE hs rfl hk)))))
 ·rw[decide_eq_false h3] at hk;exact hk
end Go.Proofs.YthgemaaghgpncaaDoor.H
namespace Go.Proofs.YthgemaaghgpncaaDoor.C
open Go Go.Ab Go.Hm Go.Ct Go.Pc
set_option maxRecDepth 100000
variable {G:Bg} {h:AH} {L L':List HP}
theorem Sp {C:bJ} {core:Int} {c:Nat} {s:eQ} {Q:Value→AH→Prop} (hs:Hs G h L) [m:Has (dX G c C core) L s L'] (hk:∀h',Hs G h' (dX G c C core s::L')→Q (.tuple ⟨[I s.gl,.bool s.lA]⟩) h'):Cl Pr K 12 [pt c 0 0] h Q:=by
 obtain⟨t,hs⟩:=eW (m.of hs)
 refine cW (iJ (eS (aZ hs fun rr h hs=>?_)))
 refine(aC (aA (aA (aE (b:=c) (o:=0) hs rfl (aC (aA (aA (aE (b:=c) (o:=0) hs rfl ?_))))))))
 exact hk _ (aV c t C core s hs rfl rfl).to
end Go.Proofs.YthgemaaghgpncaaDoor.C
namespace Go.Proofs.YthgemaaghgpncaaDoor
open Go Go.Ab Go.Hm Go.Ct Go.Pc
theorem Zm {a b:Int} {k:Value→Prop} (hk:k (.bool true)) {c0:Bool} (hc:c0=true:=by kernel_rfl):Wa c0 [0,0] .eql (.agg ⟨[I a,I b]⟩) (.agg ⟨[I a,I b]⟩) k:=by unfold Wa aN;exact ⟨hc,_,by simp[S8,kW,Li,Jl],hk⟩
abbrev lN:Int:=1152921504606846975
theorem WT.one {Cf:bJ} {N:Nat} {w:Wd} (h:WT Cf N w) (h0:w.L≠[]):WT Cf N (w.comes Cf 0)∧tC (w.comes Cf 0).L<tC w.L:=by
 rw[R5 h0]
 obtain⟨h1,h2,h3⟩:=h.wr.one h.ok h.l4 (i:=0) (List.length_pos_iff.2 h0)
 exact⟨⟨h.ok,h.c3,h.l4,h1,Nat.le_trans h3 h.wk⟩,h2⟩
theorem WT.Vg {Cf:bJ} {N k:Nat} {w:Wd} (h:WT Cf N w) (hk:k<4):WT Cf N (w.step Cf ⟨1,0,k,0⟩ (fZ lN)):=by
 have hb:=h.wr.Vg h.ok h.c3 h.l4 (j:=fZ lN) hk
 exact⟨h.ok,h.c3,h.l4,hb.wr,Nat.le_trans hb.work h.wk⟩
set_option maxRecDepth 100000
variable {G:Bg} {h:AH} {L L':List HP} {Q:Value→AH→Prop} {Cf:bJ} {w:Wd} {N p p8:Nat} {line turn:Int}
theorem uS {hb:Nat} {Y:iQ} {l:Nat} (hl:l<Cf.lines) (hs:Hs G h L) [m:Has (H.eK G hb Cf) L Y L'] (hk:Hs G h (H.eK G hb Cf Y::L')→Q (I (Y l).1.waits.length) h):Cl Pr K 10 [pt hb 0 0,I l] h Q:=by
 refine H.Sd (C:=Cf) (H:=Y) (x:=l) hs fun hs=>?_
 unfold Cc
 rw[if_pos (by unfold bJ.has;omega),Int.toNat_natCast]
 exact hk hs
theorem Hv {P:Wd→Prop} (hlim:Ob G 0 eJ) (hrow:Ob G 1 cK) (hP:Kept Cf (fZ lN) P) (hN:N+2≤1000) (hw:WT Cf N w) (hp:P w)
  (hk:∀w' h',WT Cf N w'→P w'→w'.L=[]→yL w'.H=0→Hs G h' (wR G Cf p w'::aO p8 0 [I lN]::L)→Dd 4 12 [] Q [(I line),(pt p 0 0),(pt p8 0 0),(I turn)] h')
  (hs:Hs G h (wR G Cf p w::aO p8 0 [I lN]::L)):Dd 4 7 [] Q [(I line),(pt p 0 0),(pt p8 0 0),(I turn)] h:=by
 have hC:=hw.ok
 have hc3:=hw.c3
 have hl4:=hw.l4
 have hlast:=Go.Pc.Up hC hc3 hl4 hP (f:=1000) hw.wr hp (by have:=hw.wk;omega)
 have hfin:∀(w':Wd) h',w'=w.rest Cf (fZ lN) 1000→WT Cf N w'→Hs G h' (wR G Cf p w'::aO p8 0 [I lN]::L)→Dd 4 12 [] Q [(I line),(pt p 0 0),(pt p8 0 0),(I turn)] h':=fun w' h' e hw' hs=>by
  subst e
  exact hk _ h' hw' hlast.2.1 hlast.2.2.1 hlast.2.2.2 hs
 have loop:∀(f i:Nat) (v:Wd) (h:AH),i+f=1000→WT Cf N v→v.rest Cf (fZ lN) f=w.rest Cf (fZ lN) 1000→Hs G h (wR G Cf p v::aO p8 0 [I lN]::L)→Dd 4 9 [] Q [(I line),(pt p 0 0),(pt p8 0 0),(I turn),(I i)] h:=by
  intro f
  induction f with
  |zero=>intro i v h hi hv e hs;exact bW (bC (aY (by omega) (hfin v h e hv hs)))
  |succ f ih=>
   intro i v h hi hv e hs
   refine bW (bC (cM (by omega) (bW ?_)))
   have drain:∀(g k:Nat) (u:Wd) (h:AH),k+g=100→WT Cf N u→tC u.L<g→u.drain Cf g=v.iter Cf (fZ lN)→Hs G h (wR G Cf p u::aO p8 0 [I lN]::L)→Dd 4 21 [] Q [(I line),(pt p 0 0),(pt p8 0 0),(I turn),(I i),(I k)] h:=by
    intro g
    induction g with
    |zero=>intro k u h hkg hu hwt eu hs;omega
    |succ g ihg=>
     intro k u h hkg hu hwt eu hs
     obtain⟨x,hxl,hs⟩:=gX hs
     by_cases h0:u.L=[]
     ·have eu:u=v.iter Cf (fZ lN):=by
       rw[←eu,Wd.drain,if_pos h0]
      refine bW (bC (cM (by omega) (aC (aA (aE (b:=p) (o:=0) hs rfl (eV (qE (aY (by rw[h0];decide) (bW ?_)))))))))
      refine aZ hs fun rv h hs=>aC (aA (aE (b:=p) (o:=0) hs rfl (eV (bH (cM (by rw[h0];rfl) ?_)))))
      refine aC (aA (aE (b:=p) (o:=0) hs rfl (uS (Cf:=Cf) (Y:=u.H) (l:=0) (by omega) hs fun hs=>?_)))
      refine aC (aA (aE (b:=p) (o:=0) hs rfl (uS (Cf:=Cf) (Y:=u.H) (l:=1) (by omega) hs fun hs=>?_)))
      have hwk:=hu.wk
      have htot:yL u.H=(u.H 0).1.waits.length+(u.H 1).1.waits.length+(u.H 2).1.waits.length+(u.H 3).1.waits.length:=rfl
      unfold Wd.work at hwk
      refine cL (by omega) (aC (aA (aE (b:=p) (o:=0) hs rfl (uS (Cf:=Cf) (Y:=u.H) (l:=2) (by omega) hs fun hs=>?_))))
      refine cL (by omega) (aC (aA (aE (b:=p) (o:=0) hs rfl (uS (Cf:=Cf) (Y:=u.H) (l:=3) (by omega) hs fun hs=>?_))))
      refine cL (by omega) (bH ?_)
      iterate 27 refine hZ (by first|exact iN|exact aC iN|exact aA iN|exact aE (b:=p) (o:=0) hs rfl iN|exact cL (by omega) uM) ?_
      have hs:=fE (Cf:=Cf) (p:=p) (x:=x) u hxl hs
      have hs:Hs G h (wR G Cf p u::aO p8 0 [I lN]::L):=hs.to
      refine bE (fun ht=>hfin u h ?_ hu hs) (fun ht=>bW (lE (c:=((i+1:Nat):Int)) (by omega) (by omega) (ih (i+1) u h (by omega) hu ?_ hs)))
      ·rw[←e,Wd.rest,←eu,if_pos ⟨h0,by omega⟩]
      ·rw[←e,Wd.rest,←eu,if_neg (fun q=>ht (by have:=q.2;omega))]
     ·refine bW (bC (cM (by omega) (aC (aA (aE (b:=p) (o:=0) hs rfl (eV (qE (cM (by have:=List.length_pos_iff.2 h0;omega) (bW ?_)))))))))
      have hs:=fE (Cf:=Cf) (p:=p) (x:=x) u hxl hs
      obtain⟨a,b⟩:=hu.one h0
      refine I9 (a:=0) hlim hrow hu (by omega) hs fun z h hs=>lE (c:=((k+1:Nat):Int)) (by omega) (by omega) (ihg (k+1) _ h (by omega) a (by omega) ?_ hs)
      rw[←eu]
      show _=Wd.drain Cf (g+1) u
      rw[Wd.drain,if_neg h0]
   have Cu:∀(g k:Nat) (u:Wd) (h:AH),k+g=4→WT Cf N u→u.Cu Cf (fZ lN) g k=v.Cu Cf (fZ lN) 4 0→Hs G h (wR G Cf p u::aO p8 0 [I lN]::L)→Dd 4 15 [] Q [(I line),(pt p 0 0),(pt p8 0 0),(I turn),(I i),(I k)] h:=by
    intro g
    induction g with
    |zero=>
     intro k u h hk4 hu eu hs
     refine bW (bC (aY (by omega) (bW ?_)))
     exact drain 100 0 u h rfl hu (by have:=hu.wr.Y6 hc3 hl4;omega) (by unfold Wd.iter;rw[←eu];rfl) hs
    |succ g ihg=>
     intro k u h hk4 hu eu hs
     refine bW (bC (cM (by omega) (bW (aR (c:=(⟨1,0,k,0⟩:kL).enc) rfl (aP (b:=p8) (o:=0) hs (by decide) (l:=[I lN]) rfl rfl ?_)))))
     exact E5 (q:=⟨1,0,k,0⟩) (bits:=lN) hlim hrow hu (by omega) hs fun z h hs=>lE (c:=((k+1:Nat):Int)) (by omega) (by omega) (ihg (k+1) _ h (by omega) (hu.Vg (by omega)) eu hs)
   exact Cu 4 0 v h rfl hv rfl hs
 exact bW (loop 1000 0 w h rfl hw rfl hs)
end Go.Proofs.YthgemaaghgpncaaDoor
end
section
namespace Go.Proofs.YthgemaaghgpncaaDoor
open Go Go.Ab Go.Hm Go.Ct Go.Pc
set_option maxRecDepth 100000
variable {G:Bg} {h:AH} {L L':List HP} {Q:Value→AH→Prop} {Cf:bJ} {w:Wd} {N p p8:Nat} {line turn:Int}
theorem Tl (hw:WT Cf N w) (h0:w.L=[]) (ht:yL w.H=0) (hk:∀h',Hs G h' (wR G Cf p w::L)→Dd 4 23 [] Q [(I line),(pt p 0 0),(pt p8 0 0),(I turn)] h'):
  ∀(f k:Nat) (h:AH),k+f=3→Hs G h (wR G Cf p w::L)→Dd 4 20 [] Q [(I line),(pt p 0 0),(pt p8 0 0),(I turn),(I k)] h:=by
 intro f
 induction f with
 |zero=>intro k h hkf hs;exact bW (bC (aY (by omega) (hk h hs)))
 |succ f ih=>
  intro k h hkf hs
  obtain⟨e1,e2⟩:=hw.wr.calm hw.l4 h0 ht (i:=k) (by omega)
  obtain⟨x,hxl,hs⟩:=gX hs
  have hic:k<x.lc.length:=by omega
  refine bW (bC (cM (by omega) (bW (aC (aA (aE (b:=p) (o:=0) hs rfl (H0 hs hic ?_)))))))
  have hs:=pC (R:=oN G Cf) (l:=x.lc) (s:=w.X) hic hs
  refine C.R3 (C:=Cf) (core:=k) (c:=x.lc.getD k 0) (s:=w.X k) hs fun h hs=>aL rfl (aL rfl (aL rfl (aC (aA (aE (b:=p) (o:=0) hs rfl (H0 hs hic ?_))))))
  refine C.Sp (C:=Cf) (core:=k) (c:=x.lc.getD k 0) (s:=w.X k) hs fun h hs=>aL rfl (aL rfl ?_)
  rw[e1,e2]
  refine eS (eS (bW (lE (c:=((k+1:Nat):Int)) (by omega) (by omega) (ih (k+1) h (by omega) ?_))))
  have hs:=Eb (Cf:=Cf) (l:=x.lc) (s:=w.X) (i:=k) (t:=w.X k) hic hs
  rw[gR] at hs
  have hs:=fE (Cf:=Cf) (p:=p) (x:=x) w hxl hs
  exact hs.to
theorem Mn (hw:WT Cf N w) (h0:w.L=[]) (ht:yL w.H=0) (hrow:Ob G 1 cK) (hk:∀h',Hs G h' (wR G Cf p w::L)→Dd 4 23 [] Q [(I line),(pt p 0 0),(pt p8 0 0),(I turn)] h') (hs:Hs G h (wR G Cf p w::L)):Dd 4 12 [] Q [(I line),(pt p 0 0),(pt p8 0 0),(I turn)] h:=by
 obtain⟨x,hxl,hs⟩:=gX hs
 refine bW (aC (aA (aE (b:=p) (o:=0) hs (v:= .bool w.bad) rfl (cS (fun e=>by rw[hw.wr.ok.bad] at e;cases e) (fun _=>?_)))))
 refine aC (aA (aE (b:=p) (o:=0) hs rfl (eV (bL (aY (by rw[h0];decide) ?_)))))
 have hs:=fE (Cf:=Cf) (p:=p) (x:=x) w hxl hs
 exact Ma (w:=w) hw hrow hs fun h hs=>dY (gU (mV (bW (Tl hw h0 ht hk 3 0 h rfl hs))))
theorem Vh {l:Nat} (hlim:Ob G 0 eJ) (_:Ob G 1 cK) (hw:WT Cf N w) (hl:l<4) (hx:∀i,i<4→(aG Cf.aD.toNat (w.X i).S l).2=12) (hm:(w.H l).2=w.V l) (hb:(w.H l).1.busy=false) (hk:∀h',Q (.bool true) h') (hs:Hs G h (wR G Cf p w::L)):
  Dd 4 8 [] Q [(I l),(pt p 0 0)] h:=by
 have hl4:=hw.l4
 have loop:∀(f k:Nat) (h:AH),k+f=3→Hs G h (wR G Cf p w::L)→Dd 4 10 [] Q [(I l),(pt p 0 0),(I k)] h:=by
  intro f
  induction f with
  |zero=>
   intro k h hkf hs
   obtain⟨x,hxl,hs⟩:=gX hs
   obtain⟨mb,b,o,cap,hs2⟩:=H.kY (hs.front (H.eK G x.hb Cf w.H))
   refine bW (bC (aY (by omega) (bW (aC (aA (aE (b:=p) (o:=0) hs2 rfl (aC (aA (aE (b:=x.hb) (o:=0) hs2 rfl ?_)))))))))
   refine Eh (C:=Cf) (mb:=mb) (l:=l) (mem:=fun i=>(w.H i).2) hw.ok hlim hs2 (by omega) fun h hs=>aL rfl (aL rfl ?_)
   dsimp only
   rw[hm]
   refine gP hs fun q h hs=>dR (b:=q) (vs:=Jj (w.V l)) hs rfl rfl rfl rfl fun h hs=>aZ hs fun rv h hs=>bH (cM rfl ?_)
   refine aP (b:=q) (o:=0) hs (by decide) (l:=[I (w.V l).1,I (w.V l).2]) rfl rfl (aC (aA (nB hl (aP (b:=p) (o:=0) (j:=0+3+l*2) hs (by decide) (l:=[I (w.V l).1,I (w.V l).2]) (by rw[Nat.zero_add,Q9 hl]) rfl (Zm (mV ?_))))))
   have hs:=H.pP Cf w.H x.hb mb b o cap hs
   refine aC (aA (aE (b:=p) (o:=0) hs rfl (H.U5 (C:=Cf) (H:=w.H) (x:=l) hs fun hs=>?_)))
   have hbz:zA Cf w.H l=false:=by unfold zA;rw[Int.toNat_natCast,hb,Bool.and_false]
   rw[hbz]
   exact dY (gU (eS (dK (hk _))))
  |succ f ih=>
   intro k h hkf hs
   obtain⟨x,hxl,hs⟩:=gX hs
   have hic:k<x.lc.length:=by omega
   have hbd:=(hw.kS (i:=k) (by omega)).bd (gO hw.ok).2.2.2
   refine bW (bC (cM (by omega) (bW (aC (aA (aE (b:=p) (o:=0) hs rfl (H0 hs hic ?_)))))))
   have hs:=pC (R:=oN G Cf) (l:=x.lc) (s:=w.X) hic hs
   obtain⟨t,hs⟩:=C.eW hs
   refine aC (aA (aE (b:=x.lc.getD k 0) (o:=0) hs rfl ?_))
   refine C.mP (t:=t) (ways:=Cf.ways.toNat) (n:=Cf.aD.toNat) (S:=(w.X k).S) (no:=l) (gO hw.ok).1 hbd hs fun h hs=>aL rfl (aL rfl (gP hs fun q h hs=>dR (b:=q) hs rfl rfl rfl rfl fun h hs=>?_))
   refine bL (aY (by rw[hx k (by omega)];omega) (bW ?_))
   have hs:=C.aV (x.lc.getD k 0) t Cf k (w.X k) hs rfl rfl
   have hs:=Eb (Cf:=Cf) (l:=x.lc) (s:=w.X) (i:=k) (t:=w.X k) hic hs
   rw[gR] at hs
   have hs:=fE (Cf:=Cf) (p:=p) (x:=x) w hxl hs
   exact lE (c:=((k+1:Nat):Int)) (by omega) (by omega) (ih (k+1) h (by omega) hs.to)
 exact bW (loop 3 0 h rfl hs)
theorem Ld {tv:Value} {l:List kL} {ln:Nat} (hlim:Ob G 0 eJ) (hrow:Ob G 1 cK) (hln:ln<4) (hl:l.length≤300) (ho:K4 G tv l) (hk:∀h',Q (.bool true) h'):
  ∀(f i:Nat) (w:Wd) (h:AH),i+f=l.length→WT Cf (2*i) w→Hs G h (wR G Cf p w::aO p8 0 [I lN]::L)→Dd 4 3 [] Q [tv,(I ln),(pt p 0 0),(pt p8 0 0),(I i)] h:=by
 intro f
 induction f with
 |zero=>
  intro i w h hi hw hs
  refine bW (Nw ho (bC (aY (by omega) (bW (bW (bC (cM (by omega) ?_)))))))
  refine Hv (P:=fun _=>True) (N:=2*i) (turn:=0) hlim hrow ⟨fun _ _ _ _=>trivial,fun _ _ _ _ _=>trivial⟩ (by omega) hw trivial (fun w1 h hw1 _ h0 ht hs=>?_) hs
  refine Mn hw1 h0 ht hrow (fun h hs=>bW (bH (cM rfl (bW ?_)))) hs
  obtain⟨wr2,os2,wk2⟩:=hw1.wr.Dn hw1.l4 h0 ht hln
  obtain⟨x,hxl,hs⟩:=gX hs
  refine aC (aA (aE (b:=p) (o:=0) hs rfl (H.Hw (C:=Cf) (H:=w1.H) (x:=ln) (hw1.home (by omega)) hs fun h hs=>?_)))
  have hs:=hs.sg (b:=p) (o:=0) (c:=wE x {w1 with H:=(dI Cf w1.H ln).1}) rfl
  have hs:=fE (Cf:=Cf) (p:=p) (x:=x) {w1 with H:=(dI Cf w1.H ln).1} hxl hs
  refine cL (by omega) (bW (bC (cM (by omega) ?_)))
  refine Hv (P:=OS Cf ln) (N:=1) (turn:=0+1) hlim hrow (Vd hw1.ok hw1.c3 hw1.l4 hln) (by omega) ⟨hw1.ok,hw1.c3,hw1.l4,wr2,by omega⟩ os2 (fun w3 h hw3 hp3 h0 ht hs=>?_) hs
  refine Mn hw3 h0 ht hrow (fun h hs=>bW (bH (aY (by decide) (bW (cL (by omega) (bW (bC (aY (by omega) ?_)))))))) hs
  obtain⟨e1,e2,e3⟩:=hw3.wr.ends hw3.l4 hln hp3 h0 ht
  exact Vh hlim hrow hw3 hln e1 e2 e3 hk hs
 |succ f ih=>
  intro i w h hi hw hs
  have hx:l[i]?=some (l.getD i ⟨0,0,0,0⟩):=by rw[List.getD_eq_getElem?_getD,List.getElem?_eq_getElem (by omega)];rfl
  generalize l.getD i ⟨0,0,0,0⟩=q at hx
  have hw2:WT Cf (2*(i+1)) (w.step Cf q (fZ lN)):=hw.step
  refine bW (Nw ho (bC (cM (by omega) (bW (aZ hs fun rv h hs=>?_)))))
  have hs:=Mi ho hs
  refine Z4 hs (by decide) (Gk hx) (aP (b:=p8) (o:=0) hs (by decide) (l:=[I lN]) rfl rfl (E5 (w:=w) (q:=q) (bits:=lN) hlim hrow hw (by omega) hs fun v h hs=>?_))
  exact lE (c:=((i+1:Nat):Int)) (by omega) (by omega) (ih (i+1) _ h (by omega) hw2 hs.to)
theorem Cq {a b line:Int} {tv:Value} {l:List kL} (hn:l.length≤9223372036854775807) (hlim:Ob G 0 eJ) (hrow:Ob G 1 cK) (ho:K4 G tv l) (hs:Hs G h L) (hk:∀h',Q (.bool true) h'):
  Cl Pr K 4 [.agg ⟨[I a,I b]⟩,tv,I line] h Q:=by
 have i0:∀{b:Nat} {k:Value→Prop},k (pt b 0 0)→aN (sI 2 1 (pt b 0 0) (I 0)) k:=fun hk=>fT (by decide) (by decide) hk
 have i1:∀{b:Nat} {k:Value→Prop},k (pt b 0 (0+1))→aN (sI 2 1 (pt b 0 0) (I 1)) k:=fun hk=>fT (by decide) (by decide) hk
 refine cW (iA (cs:=[I a,I b]) hs fun p2 h hs=>?_)
 refine i0 (aE (b:=p2) (o:=0) hs rfl (bC (bE (fun _=>dK (hk _)) (fun ha1=>?_))))
 refine i0 (aE (b:=p2) (o:=0) hs rfl (qE (bE (fun _=>dK (hk _)) (fun ha2=>?_))))
 refine i1 (aE (b:=p2) (o:=0) hs rfl (bC (bE (fun _=>dK (hk _)) (fun hb1=>?_))))
 refine i1 (aE (b:=p2) (o:=0) hs rfl (qE (bE (fun _=>dK (hk _)) (fun hb2=>?_))))
 refine Nw ho (qE (bE (fun _=>dK (hk _)) (fun h3=>bC (bE (fun _=>dK (hk _)) (fun h4=>qE (bE (fun _=>dK (hk _)) (fun h5=>bW ?_)))))))
 have hw:=Qw (s:=a) (y:=b) (by omega) (by omega)
 obtain⟨ln,rfl⟩:=Int.eq_ofNat_of_zero_le (show 0≤line by omega)
 refine i0 (aE (b:=p2) (o:=0) hs rfl (i1 (aE (b:=p2) (o:=0) hs rfl (I0 (s:=a) (y:=b) hw.ok hlim hs fun p h hs=>iJ (eS (bW ?_))))))
 refine aR (c:=[I lN]) rfl (gP hs fun p8 h hs=>dR (b:=p8) hs rfl rfl rfl rfl fun h hs=>?_)
 exact Ld (L:=L) hlim hrow (by omega) (by omega) ho hk l.length 0 _ h (by omega) hw hs.to
end Go.Proofs.YthgemaaghgpncaaDoor
end
end
