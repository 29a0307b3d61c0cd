/- A part of the proof. -/
import Derived.Test.YtajjljbmfdboaaaGreatDoorR13
import Derived.Test.YtajjljbmfdboaaaGreatDoorR12
import Derived.Test.YtajjljbmfdboaaaGreatDoorR11
import Derived.Test.YtajjljbmfdboaaaGreatDoorR9
section
open Go Go.Ab
attribute [local irreducible] bG Br pK sD tZ Cq mN wW lR Rs gX mT rA rG pJ kU zA vE V9 V4 Ro Ps Vv Qm Jp Nb Vm lB oL tX jK copyV iQ xK V7 V8 Hn lG Nc Sp V2 oA rY yU Ao Cl yO Vx tE sC kJ hT setLoop cT
namespace Go.Proofs.YtajjljbmfdboaaaGreatDoor.C
open Go Go.Ab Go.Hm Go.Ct
section
set_option maxRecDepth 100000
variable {G:Bg} {h:AH} {L L' M:List HP} {C:bP} {core:Int} {c:Nat} {s:gV} {n:aJ}
theorem aA9 {t p q:Nat} {x:pI} {y:aJ} {Q:Value->AH->Prop} {r:Tk} (d:Hs G h (aG p 0 y.enc::aG q 0 x.enc::aG c 0 (jP t C core s)::hM G t C.ways.toNat C.aI.toNat s.S::L)) (e:Zs G c C core L Q r) (f:r=({s with gc:=x},[y],0)):
  Dd 301 8 [] Q [(pt c 0 0),(pt p 0 0),(pt q 0 0)] h:=by
 refine bW (an q d (l:=x.enc) rfl rfl (aB (aA (aA (ay (b:=c) (o:=0) d ?_)))))
 intro h d
 refine an p d (l:=y.enc) rfl rfl (aQ (c:=y.enc) rfl (dL (W:=9) (n:=1) (c:=1) d rfl rfl rfl ?_))
 intro a h d
 refine Lv e (p:=a) f ?_
 have d:=cX c t C core {s with gc:=x} d rfl rfl
 exact d.to
theorem yx (hC:C.Ok) (hb:Bd s) (k:0<=n.line) {t f p q:Nat} {x:pI} {y:aJ} {Q:Value->AH->Prop} {r:Tk} (d:Hs G h (aG p 0 y.enc::aG q 0 x.enc::aG f 0 n.enc::aG c 0 (jP t C core s)::hM G t C.ways.toNat C.aI.toNat s.S::L)) (j:Zs G c C core L Q r)
  (e:r=({s with S:=if x.st=0 then gE C.aI.toNat s.S n.line else(jY C.aI.toNat C.ways.toNat s.S n.line x).1},[y],0)):
  Dd 301 9 [] Q [(pt c 0 0),(pt f 0 0),(pt p 0 0),(pt q 0 0),(I x.st)] h:=by
 refine bW (bH (aX (fun g=>bW (aY d ?_)) (fun g=>bW (aY d ?_))))
 .intro m h d;simp only[aJ7 g] at e;refine aB (aA (am c d rfl (aA (am f d rfl ?_))));refine Q2 (t:=t) (ways:=C.ways.toNat) (n:=C.aI.toNat) (S:=s.S) (lF hC).1 hb d fun h d=>?_;refine an p d (l:=y.enc) rfl rfl (aQ (c:=y.enc) rfl (dL (W:=9) (n:=1) (c:=1) d rfl rfl rfl ?_));intro a h d;refine Lv j (p:=a) e ?_;have d:=cX c t C core {s with S:=gE C.aI.toNat s.S n.line} (cs:=jP t C core s) d rfl rfl;exact d.to
 .intro m h d;simp only[aJ6 g] at e;refine aB (aA (am c d rfl (aA (am f d rfl (an q d (l:=x.enc) rfl rfl ?_)))));refine Ac (t:=t) (ways:=C.ways.toNat) (n:=C.aI.toNat) (S:=s.S) k (lF hC).1 hb d fun h d=>?_;refine an p d (l:=y.enc) rfl rfl (aQ (c:=y.enc) rfl (dL (W:=9) (n:=1) (c:=1) d rfl rfl rfl ?_));intro a h d;refine Lv j (p:=a) e ?_;have d:=cX c t C core {s with S:=(jY C.aI.toNat C.ways.toNat s.S n.line x).1} (cs:=jP t C core s) d rfl rfl;exact d.to
theorem br (hC:C.Ok) (hb:Bd s) (k:0<=n.line) {there:Bool} {t f p q:Nat} {x:pI} {Q:Value->AH->Prop} {r:Tk} (a:Hs G h (aG p 0 (Nw core n).enc::aG q 0 x.enc::aG f 0 n.enc::aG c 0 (jP t C core s)::hM G t C.ways.toNat C.aI.toNat s.S::L)) (j:Zs G c C core L Q r)
  (d:r=if there then({s with S:=if gG x.st n.state=0 then gE C.aI.toNat s.S n.line else(jY C.aI.toNat C.ways.toNat s.S n.line {x with st:=gG x.st n.state}).1},[gR core n x],0) else({s with gc:={x with st:=gG x.st n.state}},[gR core n x],0)):
  Dd 301 5 [] Q [(pt c 0 0),(pt f 0 0),(pt p 0 0),(pt q 0 0),(.bool there),(I (gG x.st n.state)),(.bool (C7 x.st)),(.bool (jF x.st))] h:=by
 have fin:∀{h:AH},Hs G h (aG p 0 (gR core n x).enc::aG q 0 ({x with st:=gG x.st n.state}:pI).enc::aG f 0 n.enc::aG c 0 (jP t C core s)::hM G t C.ways.toNat C.aI.toNat s.S::L)->
   (bG (Vm .not (.bool there)) fun m=>Br m (Dd 301 8 [] Q [(pt c 0 0),(pt p 0 0),(pt q 0 0)] h) (Dd 301 9 [] Q [(pt c 0 0),(pt f 0 0),(pt p 0 0),(pt q 0 0),(I (gG x.st n.state))] h)):=by
  intro h a
  cases there
  .simp only[Bool.false_eq_true,if_false] at d;exact cH (eU (aA9 (t:=t) (x:={x with st:=gG x.st n.state}) (y:=gR core n x) (s:=s) a.to j d))
  .simp only[if_true] at d;exact cH (cG (yx hC hb k (t:=t) (x:={x with st:=gG x.st n.state}) (y:=gR core n x) (s:=s) a j d))
 refine bW (aA (ay (b:=p) (o:=0) a ?_))
 intro h a
 refine dI (fun g=>bW ?_) (fun g=>bW ?_)
 .refine aA (an q a (l:=[I x.d.1,I x.d.2]) rfl rfl (aA (ay (b:=p) (o:=0) a ?_)));intro h a;refine aA (ay (b:=p) (o:=0) a ?_);intro h a;refine aA (ay (b:=q) (o:=0) a ?_);intro h a;have e:gR core n x=⟨5,core,n.line,0,gG x.st n.state,x.d.1,x.d.2,jF x.st,0⟩:=by simp[gR,g]
  have a:=a.sg (b:=p) (o:=0) (c:=(gR core n x).enc) (by rw[e];rfl)
  have a:=a.sg (b:=q) (o:=0) (c:=({x with st:=gG x.st n.state}:pI).enc) rfl
  exact fin a.to
 .refine aA (ay (b:=q) (o:=0) a ?_);intro h a;have e:gR core n x=⟨5,core,n.line,0,gG x.st n.state,0,0,false,0⟩:=by simp[gR,g]
  have a:=a.sg (b:=p) (o:=0) (c:=(gR core n x).enc) (by rw[e];rfl)
  have a:=a.sg (b:=q) (o:=0) (c:=({x with st:=gG x.st n.state}:pI).enc) rfl
  exact fin a.to
end
section
set_option maxRecDepth 100000
variable {G:Bg} {h:AH} {L L' M:List HP} {C:bP} {core:Int} {c:Nat} {s:gV} {n:aJ}
theorem z6 (hC:C.Ok) (hb:Bd s) (w:Sts C.aI.toNat s) (D:n.state=0\/n.state=1) (A:0<=n.line) {t v p q:Nat} {x:pI} {Q:Value->AH->Prop} (E:Ob G 3 jD)
  (d:Hs G h (aG p 0 (Nw core n).enc::aG q 0 x.enc::aG v 0 n.enc::aG c 0 (jP t C core s)::hM G t C.ways.toNat C.aI.toNat s.S::L)) (u:(bB C.aI.toNat s.S n.line).2≠0) (z:Zs G c C core L Q (nJ C core s n)):
  Dd 301 2 [] Q [(pt c 0 0),(pt v 0 0),(pt p 0 0),(pt q 0 0),(.bool false)] h:=by
 have g:¬(n.state≠1/\n.state≠0):=by omega
 refine bW (aY d ?_)
 intro J h d
 have f:s.sE=false\/s.gl≠n.line->(bG (sD h 9 (pt p 0 0)) fun H=>bG (oN [(I 0),(I 0),(I 0),(I 0),(I 0),(I 0),(I 0),(.bool false),(I 0)] [(0,9,H)]) fun F=>wW h 9 175 F 1 1 fun y B=>Q (.tuple ⟨[y,(I 0)]⟩) B):=by
  intro k;refine an p d (l:=(Nw core n).enc) rfl rfl (aQ (c:=(Nw core n).enc) rfl (dL (W:=9) (n:=1) (c:=1) d rfl rfl rfl ?_));intro a h d;refine Lv z (p:=a) (a:=s) (x:=Nw core n) ?_ ?_;rcases k with k|k;simp[nJ,g,u,k,Nw];by_cases r:s.sE=false;simp[nJ,g,u,r,Nw];simp only[nJ,aJ6 g,aJ6 u,aJ6 r,aJ7 k,Nw];have d:=cX c t C core s d rfl rfl;exact d.to
 refine aB (aA (aA (am c d rfl (cH (eB (dI (fun m=>?_) (fun m=>f (.inl m))))))))
 refine aB (aA (aA (am c d rfl (aA (am v d rfl (bC (aX (fun j=>f (.inr j)) (fun j=>bW ?_))))))))
 have j:s.gl=n.line:=by simpa using j
 refine aB (aA (aA (an c d (l:=s.gc.enc) rfl rfl (ax (b:=q) (o:=0) d ?_))))
 intro h d
 refine aA (am q d rfl (aA (am v d rfl (Oj E d (w.back m) D (aH rfl (aH rfl (aH rfl (aH rfl (bC (aab ?_))))))))))
 refine br hC hb A (there:=false) (t:=t) (x:=s.gc) (s:=s) (n:=n) (core:=core) (L:=L) d.to z ?_
 have r:¬s.sE=false:=by rw[m];simp
 simp only[nJ,aJ6 g,aJ6 u,aJ6 r,aJ6 (show ¬s.gl≠n.line from fun e=>e j),Bool.false_eq_true,if_false]
theorem y4 (hC:C.Ok) (hb:Bd s) (e:Sts C.aI.toNat s) (l:n.state=0\/n.state=1) (j:0<=n.line) {t f p q:Nat} {Q:Value->AH->Prop} (m:Ob G 3 jD)
  (a:Hs G h (aG p 0 (Nw core n).enc::aG q 0 (bB C.aI.toNat s.S n.line).1.enc::aG f 0 n.enc::aG c 0 (jP t C core s)::hM G t C.ways.toNat C.aI.toNat s.S::L)) (g:(bB C.aI.toNat s.S n.line).2=0) (k:Zs G c C core L Q (nJ C core s n)):
  Dd 301 3 [] Q [(pt c 0 0),(pt f 0 0),(pt p 0 0),(pt q 0 0),(.bool true)] h:=by
 have d:¬(n.state≠1/\n.state≠0):=by omega
 refine bW (aA (am q a rfl (aA (am f a rfl (Oj m a (e.aC5 _ g) l (aH rfl (aH rfl (aH rfl (aH rfl (bC (aab ?_)))))))))))
 refine br hC hb j (there:=true) (t:=t) (x:=(bB C.aI.toNat s.S n.line).1) (s:=s) (n:=n) (core:=core) (L:=L) a k ?_
 simp only[nJ,aJ6 d,aJ7 g,if_true]
theorem E6 (hC:C.Ok) (hb:Bd s) (f:Sts C.aI.toNat s) (l:0<=n.line) {Q:Value->AH->Prop} (r:Ob G 3 jD) (d:Hs G h (gY G c C core s::L)) (k:Zs G c C core L Q (nJ C core s n)):Cl Pr K 301 [pt c 0 0,.agg ⟨n.enc⟩] h Q:=by
 obtain⟨t,d⟩:=kQ d;refine cW (dR d ?_);intro j h d;refine aA (am j d rfl (bC (aX (fun u=>aA (am j d rfl (bC (aX (fun v=>?_) (fun v=>bW ?_))))) (fun u=>?_))));exact rJ k (a:=s) (e:=10) (by simp only[nJ];rw[aJ7 ⟨by omega,by omega⟩]) (cX c t C core s d rfl rfl).to;all_goals
  have m:n.state=0\/n.state=1:=by omega
  refine aY d ?_
  intro y h d
  refine aB (aA (am c d rfl (aA (am j d rfl (aQ (c:=(Nw core n).enc) rfl ?_)))))
  refine jM (i:=7) d rfl rfl ?_
  intro p h d
  refine ax d ?_
  intro h d
  refine aY d ?_
  intro w h d
  refine aB (aA (am c d rfl (aA (am j d rfl ?_))))
  refine Bz (t:=t) (ways:=C.ways.toNat) (n:=C.aI.toNat) (S:=s.S) (lF hC).1 hb d fun h d=>aH rfl (aH rfl ?_)
  refine jM (i:=10) d rfl rfl ?_
  intro q h d
  refine ax d ?_
  intro h d
  refine bT (aH rfl gF) (bH (cH ?_))
  by_cases g:(bB C.aI.toNat s.S n.line).2=0
  .rw[decide_eq_true g];exact cG (y4 hC hb f m l (t:=t) r d.to g k)
  .rw[decide_eq_false g];exact eU (z6 hC hb f m l (t:=t) (x:=(bB C.aI.toNat s.S n.line).1) r d.to g k)
end
section
def wQ (k:Int) (f:FuncId):List Value:=[I k,.func (.func f) #[] #[]]
def Lt:List Value:=wQ 8 298++wQ 9 299++wQ 10 300++wQ 11 301
set_option maxRecDepth 100000
variable {G:Bg} {h:AH} {L L' M:List HP} {C:bP} {core:Int} {c:Nat} {s:gV} {n:aJ}
theorem aAp (hC:C.Ok) {p q:Nat} {k:Int} {f:FuncId} {Q:Value->AH->Prop} {r:Tk} (x:Ob G 0 eT) (d:Hs G h (aG q 0 (wQ k f)::aG p 0 n.enc::gY G c C core s::L))
  (j:callable Pr f=true) (y:rS C n.line=false->r=(s,[],10)) (w:rS C n.line=true->∀h L,Hs G h (gY G c C core s::L)->∀Q,Zs G c C core L Q r->Cl Pr K f [pt c 0 0,.agg ⟨n.enc⟩] h Q) (m:Zs G c C core L Q r):
  Dd 202 5 [] Q [(pt c 0 0),(pt p 0 0),(pt q 0 0)] h:=by
 refine bW (aA (am p d rfl (xP (c:=c) (core:=core) (s:=s) hC x d fun h d=>cH (eB (dI (fun g=>?_) (fun g=>?_))))))
 .refine aA (am q d rfl (an p d (l:=n.enc) rfl rfl ?_));refine mZ j (w g h (aG q 0 (wQ k f)::aG p 0 n.enc::L) d.to _ fun t u v d=>aH rfl (aH rfl (m t u v d.to)))
 .exact rJ m (a:=s) (e:=10) (y g) d.to
theorem Fg (hC:C.Ok) (hb:Bd s) (w:Sts C.aI.toNat s) {Q:Value->AH->Prop} (H:Ob G 0 eT) (J:Ob G 3 jD) (d:Hs G h L) [m:Has (gY G c C core) L s L'] (j:Zs G c C core L' Q (fT C core s n)):
  Cl Pr K 202 [pt c 0 0,.agg ⟨n.enc⟩] h Q:=by
 have d:=m.of d
 refine cW (dR d ?_)
 intro p h d
 refine dD (cG (bW (cW ?_)))
 refine aQ (c:=wQ 8 298) rfl (aQ (c:=wQ 9 299) rfl (aQ (c:=wQ 10 300) rfl (aQ (c:=wQ 11 301) rfl (aQ (c:=Lt) rfl ?_))))
 refine dL (W:=2) (n:=4) (c:=4) d rfl rfl rfl ?_
 intro a h d
 obtain⟨b,o,E,d⟩:=d.gD (by decide)
 cases E
 refine bU ?_
 have x:rS C n.line=true->0<=n.line:=fun e=>(of_decide_eq_true e).1
 have step:∀(i:Nat) (y:i<4) (k:Int) (f:FuncId) (h:AH) (M:List HP),(Lt.drop (i*2)).take 2=wQ k f->callable Pr f=true->Hs G h (aG b o Lt::aG p 0 n.enc::gY G c C core s::L')->
   (n.kind=k->((rS C n.line=false->fT C core s n=(s,[],10))/\(rS C n.line=true->∀h L,Hs G h (gY G c C core s::L)->∀Q,Zs G c C core L Q (fT C core s n)->Cl Pr K f [pt c 0 0,.agg ⟨n.enc⟩] h Q)))->
   (n.kind≠k->∀h,Hs G h (aG b o Lt::aG p 0 n.enc::gY G c C core s::L')->Dd 202 2 [] Q [(pt c 0 0),(pt p 0 0),(.slice (some ⟨b,o,none⟩) 4 4),(I 4),(I ((i+1:Nat):Int))] h)->
   Dd 202 2 [] Q [(pt c 0 0),(pt p 0 0),(.slice (some ⟨b,o,none⟩) 4 4),(I 4),(I (i:Int))] h:=by
  intro i y k f h M F u d r v
  refine bW (bA (aae (bW (dM y (Lq (b:=b) (o:=o) d (by decide) (l:=wQ k f) (by rw[Nat.add_zero];exact F) rfl (bQ d ?_))))))
  intro q h d
  refine ax d ?_
  intro h d
  refine aA (am q d rfl (aA (am p d rfl (bC (aX (fun t=>bW (aad ?_)) (fun t=>?_))))))
  .have:=v (fun e=>t e.symm) h d.to;show Dd _ _ _ _ _ _;simpa using this
  .have t:n.kind=k:=by
    have:k=n.kind:=by simpa using t
    exact this.symm
   exact aAp (k:=k) (f:=f) (s:=s) (n:=n) hC H (show Hs G h (aG q 0 (wQ k f)::aG p 0 n.enc::gY G c C core s::L') from d.to) u (r t).1 (r t).2 j
 have d:Hs G h (aG b o Lt::aG p 0 n.enc::gY G c C core s::L'):=d.to
 refine step 0 (by decide) 8 298 h [] rfl (by kernel_rfl) d (fun e=>⟨fun g=>by simp[fT,e,g],fun g h L d Q j=>Es hC hb (x g) d (by simpa [fT,e,g] using j)⟩) fun z h d=>?_
 refine step 1 (by decide) 9 299 h [] rfl (by kernel_rfl) d (fun e=>⟨fun g=>by simp[fT,e,g],fun g h L d Q j=>yc d (by simpa [fT,e,g] using j)⟩) fun A h d=>?_
 refine step 2 (by decide) 10 300 h [] rfl (by kernel_rfl) d (fun e=>⟨fun g=>by simp[fT,e,g],fun g h L d Q j=>ez d (by simpa [fT,e,g] using j)⟩) fun B h d=>?_
 refine step 3 (by decide) 11 301 h [] rfl (by kernel_rfl) d (fun e=>⟨fun g=>by simp[fT,e,g],fun g h L d Q j=>E6 hC hb w (x g) J d (by simpa [fT,e,g] using j)⟩) fun D h d=>?_
 refine bW (bA (aab ?_))
 exact rJ j (a:=s) (e:=15) (by simp[fT,z,A,B,D]) d.to
theorem Zv (hC:C.Ok) (hb:Bd s) {Q:Value->AH->Prop} (a:Hs G h L) [m:Has (gY G c C core) L s L'] (f:∀d e,Hs G e (gY G d C core s::gY G c C core s::L')->Q (pt d 0 0) e):Cl Pr K 80 [pt c 0 0] h Q:=by
 obtain⟨t,a⟩:=kQ (m.of a);refine cW (dD (cG (bW (aB (an c a (l:=jP t C core s) rfl rfl (bQ a ?_))))));intro d h a;refine ax a ?_;intro h a;refine aB (aA (am c a rfl (yz (t:=t) (ways:=C.ways.toNat) (n:=C.aI.toNat) (S:=s.S) (lF hC).1 (lF hC).2.1 hb a fun t2 h a=>?_)));refine aA (ay (b:=d) (o:=0) a ?_);intro h a;have a:=a.sg (b:=d) (o:=0) (c:=jP t2 C core s) rfl;have a:=cX d t2 C core s a rfl rfl;have a:=cX c t C core s a rfl rfl;exact f d h a.to
theorem P7 (hC:C.Ok) (d:0<=core/\core<C.aE) {Q:Value->AH->Prop} (j:Ob G 0 eT) (a:Hs G h L) (g:∀c e,Hs G e (gY G c C core gV.new::L)->Q (.tuple ⟨[pt c 0 0,I 0]⟩) e):Cl Pr K 83 [.agg ⟨C.enc⟩,I core] h Q:=by
 refine cW (dR a ?_);intro p h a;refine an p a (l:=C.enc) rfl rfl (nB j a fun h a=>?_);have f:=hC;unfold bP.Ok at f;rw[aJ7 hC];refine bC (aab (bW (bA (aab (aA (am p a rfl (dW (aab (bW ?_)))))))));refine aA (am p a rfl (aA (am p a rfl (U9 (by omega) (by omega) a fun t h a=>aH rfl (aH rfl (bC (aab ?_)))))));refine an p a (l:=C.enc) rfl rfl (aQ (c:=jP t C core gV.new) rfl (dR a ?_));intro q h a;have a:=cX q t C core gV.new a rfl rfl;exact g q h a.to
end
section
set_option maxRecDepth 100000
variable {G:Bg} {h:AH} {L L' M:List HP} {C:bP} {core:Int} {c:Nat} {s:gV} {n:aJ}
theorem uo (hC:C.Ok) (d:iG C s) {l at' j:Int} (q:lZ C s.S l at' j false=0) {Q:Value->AH->Prop} (w:Ob G 0 eT) (x:Ob G 3 jD) (a:Hs G h L) [m:Has (gY G c C core) L s L'] (f:∀k,Hs G k (gY G c C core (mL C s l at' j)::L')->Q (.tuple ⟨[I (Mc.Er C s l at'),I 0]⟩) k):Cl Pr K 197 [pt c 0 0,I l,I at',I j] h Q:=by
 have a:=m.of a;have r:Bd s:=d.bd (lF hC).2.2.2;unfold mL at f;refine cW (D4 (c:=c) (core:=core) (s:=s) hC r w x a fun h a=>bC (aab ?_));rw[aJ7 q] at f;obtain⟨g,u,y,_⟩:=qJ q;have v:=Ve d.aI y;obtain⟨t,a⟩:=kQ a;refine bW (aB (aA (am c a rfl (zE (t:=t) (ways:=C.ways.toNat) (n:=C.aI.toNat) (S:=s.S) g.1 (lF hC).1 r a fun h a=>aH rfl (aH rfl (bQ a ?_))))));intro p h a;refine ax a ?_;intro h a;have e:=fun {h:AH} a=>(cX c t C core {s with S:=vR C.aI.toNat C.ways.toNat s.S l} (G:=G) (h:=h) (L:=aG p 0 (bB C.aI.toNat s.S l).1.enc::hM G t C.ways.toNat C.aI.toNat (vR C.aI.toNat C.ways.toNat s.S l)::aG c 0 (jP t C core s)::L') a rfl rfl);refine bC (aab (aA ?_));rcases u with rfl|rfl;exact dX (by decide) (by decide) (am p a rfl (f _ (e a).to));exact dX (by decide) (by decide) (am p a rfl (f _ (e a).to))
theorem fk (hC:C.Ok) (e:iG C s) {l at' y v:Int} (A:lZ C s.S l at' y true=0) {Q:Value->AH->Prop} (F:Ob G 0 eT) (B:Ob G 3 jD) (a:Hs G h L) [m:Has (gY G c C core) L s L'] (u:∀z,Hs G z (gY G c C core (iU C s l at' y v)::L')->Q (I 0) z):Cl Pr K 198 [pt c 0 0,I l,I at',I y,I v] h Q:=by
 have a:=m.of a;have k:Bd s:=e.bd (lF hC).2.2.2;unfold iU at u;refine cW (D4 (c:=c) (core:=core) (s:=s) hC k F B a fun h a=>bC (aab ?_));rw[aJ7 A] at u;obtain⟨w,E,H,d⟩:=qJ A;have d:tP (bB C.aI.toNat s.S l).1.st=true:=d;obtain⟨t,a⟩:=kQ a;refine bW (aB (aA (am c a rfl ?_)));refine Bz (t:=t) (ways:=C.ways.toNat) (n:=C.aI.toNat) (S:=s.S) (lF hC).1 k a fun h a=>aH rfl (aH rfl (bQ a ?_));intro p h a;refine ax a ?_;intro h a;refine bC (aab (bW (aA (am p a rfl (Vn B a d (aH rfl (aH rfl (aA (ay (b:=p) (o:=0) a ?_)))))))));intro h a;refine bC (aab (bW (aA ?_)));have f:∀{g:Bool} {h:AH},g=true->Hs G h (aG p 0 (nZ C.aI.toNat s.S l at' v).enc::hM G t C.ways.toNat C.aI.toNat s.S::aG c 0 (jP t C core s)::L')->
   Rs g h 8 fun _ j=>bG (mT (pt c 0 0)) fun v5=>bG (gX 0 v5) fun v6=>bG (pK j v6) fun J=>bG (sD j 4 (pt p 0 0)) fun N=>Cl Pr K 251 [J,I l,N] j fun v9 D=>Q v9 D:=by
  intro g h q a
  refine aY (hc:=q) a ?_
  intro r h a
  refine aB (aA (am c a rfl (an p a (l:=(nZ C.aI.toNat s.S l at' v).enc) rfl rfl ?_)))
  refine Ac (t:=t) (ways:=C.ways.toNat) (n:=C.aI.toNat) (S:=s.S) w.1 (lF hC).1 k a fun h a=>?_
  show Q _ _
  rw[Aj (x:=nZ C.aI.toNat s.S l at' v) e.aI H]
  exact u _ (cX c t C core {s with S:=(jY C.aI.toNat C.ways.toNat s.S l (nZ C.aI.toNat s.S l at' v)).1} (cs:=jP t C core s) a rfl rfl).to
 rcases E with rfl|rfl;refine dX (by decide) (by decide) (ay (b:=p) (o:=0) a ?_);intro h a;exact f (by kernel_rfl) ((a.sg (b:=p) (o:=0) (c:=(nZ C.aI.toNat s.S l 0 v).enc) rfl).to);refine dX (by decide) (by decide) (ay (b:=p) (o:=0) a ?_);intro h a;exact f (by kernel_rfl) ((a.sg (b:=p) (o:=0) (c:=(nZ C.aI.toNat s.S l 1 v).enc) rfl).to)
end
end Go.Proofs.YtajjljbmfdboaaaGreatDoor.C
end
namespace Go.Proofs.YtajjljbmfdboaaaGreatDoor.N
open Go Go.Ab Go.Hm Go.Nt
section
theorem oU {g n a i:Nat} {k:Value->Prop} (d:i<n) (e:k (pt g (i*a) 0)):bG (oL n a (.pointer (some ⟨g,0,none⟩)) (I i)) k:=
 fQ (b:=g) (o:=0) (j:=0) d (by simpa [pt] using e)
set_option maxRecDepth 100000
attribute [local irreducible] bG Br pK sD tZ Cq mN wW lR Rs gX mT rA rG pJ kU zA vE V9 V4 Ro Ps Vv Qm Jp Nb Vm lB oL tX jK copyV iQ xK V7 V8 Hn lG Nc Sp V2 oA rY yU Ao Cl yO Vx tE sC kJ hT setLoop cT
variable {G:Bg} {h:AH} {L L':List HP}
theorem zF {k:Int} {Q:Value->AH->Prop} (a:Q (.bool (decide (Nu k))) h):Cl Pr K 264 [I k] h Q:=by
 refine cW (dW (aX (fun b=>bA ?_) (fun b=>?_)));show Q _ _;rw[show decide (k<14)=decide (Nu k) from decide_eq_decide.2 (by unfold Nu;omega)];exact a;show Q _ _;rw[show false=decide (Nu k) from(decide_eq_false (by unfold Nu;omega)).symm];exact a
theorem aGo {k:Int} (h:Nu k):∃n:Nat,k=(n:Int)/\1<=n/\n<14:=⟨k.toNat,by unfold Nu at h;omega,by unfold Nu at h;omega,by unfold Nu at h;omega⟩
theorem Z9 {k:Int} {Q:Value->AH->Prop} (d:Ob G 2 xW) (g:Hs G h L) (b:Q (if Nu k then .tuple ⟨[I (On k.toNat),I 0]⟩ else .tuple ⟨[I 0,I 15]⟩) h):Cl Pr K 214 [I k] h Q:=by
 refine cW (zF (cH (eB (aX (fun a=>?_) (fun a=>?_)))));rw[aJ7 a] at b;obtain⟨n,rfl,f,e⟩:=aGo a;refine oU e (aA (zQ g d (o:=n*9) (j:=1) (W1 e) b));rw[aJ6 a] at b;exact b
theorem zE {n:aJ} {f:Int} (g:1<=f/\f<=13) {Q:Value->AH->Prop} (b:Hs G h L) (a:∀e,Hs G e L->Q (I (jy n f)) e):Cl Pr K 266 [.agg ⟨n.enc⟩,I f] h Q:=by
 refine cW (dR b ?_);intro p h b;have a:=a h b.tail;rcases f13 g with rfl|rfl|rfl|rfl|rfl|rfl|rfl|rfl|rfl|rfl|rfl|rfl|rfl;all_goals
  repeat' first
   |refine bH ?_
   |refine bS (by decide) ?_
   |refine aU (by decide) ?_
   |refine bW ?_
   |refine bW ?_
   |refine bW ?_
   |refine bW ?_
   |refine bW ?_
   |refine bW ?_
   |refine bW ?_
   |refine bW ?_
   |refine bW ?_
   |refine bW ?_
   |refine bW ?_
   |refine bW ?_
   |refine aA ?_
   |refine dX (by omega) (by omega) ?_
   |refine aD b rfl ?_
 all_goals first|exact a|skip
 refine dI (fun d=>?_) (fun d=>?_);unfold jy at a;show Q _ _;simpa [d] using a;unfold jy at a;show Q _ _;simpa [d] using a
theorem aE0 {p:Nat} {n:aJ} {f v:Int} (d:1<=f/\f<=13) {Q:Value->AH->Prop} (a:Hs G h (aG p 0 n.enc::L)) (e:∀b,Hs G b (aG p 0 (aDk n f v).enc::L)->Q (.tuple ⟨[]⟩) b):Cl Pr K 268 [pt p 0 0,I f,I v] h Q:=by
 refine cW ?_;rcases f13 d with rfl|rfl|rfl|rfl|rfl|rfl|rfl|rfl|rfl|rfl|rfl|rfl|rfl;all_goals
  repeat' first
   |refine bH ?_
   |refine bC ?_
   |refine bS (by decide) ?_
   |refine aU (by decide) ?_
   |refine bW ?_
   |refine bW ?_
   |refine bW ?_
   |refine bW ?_
   |refine bW ?_
   |refine bW ?_
   |refine bW ?_
   |refine bW ?_
   |refine bW ?_
   |refine bW ?_
   |refine bW ?_
   |refine aB ?_
   |refine aA ?_
   |refine dX (by omega) (by omega) ?_
  refine ay a ?_
  intro h a
  exact e h a
theorem Js {a b:Prop} [Decidable a] [Decidable b] {Q:Value->AH->Prop} (d:a↔b) (e:Q (.bool (decide b)) h):Q (.bool (decide a)) h:=by rwa [show decide a=decide b from decide_eq_decide.2 d]
theorem Xt {b:Prop} [Decidable b] {Q:Value->AH->Prop} (a:¬b) (d:Q (.bool (decide b)) h):Q (.bool false) h:=by rwa [decide_eq_false a] at d
theorem yV {b:Prop} [Decidable b] {Q:Value->AH->Prop} (a:b) (d:Q (.bool (decide b)) h):Q (.bool true) h:=by rwa [decide_eq_true a] at d
theorem Qo {C:bP} (hC:C.Ok) {f v:Int} (k:1<=f/\f<=13) {Q:Value->AH->Prop} (m:Ob G 0 eT) (d:Hs G h L) (g:∀j,Hs G j L->Q (.bool (decide (ng C f v))) j):Cl Pr K 267 [.agg ⟨C.enc⟩,I f,I v] h Q:=by
 refine cW (dR d ?_);intro p h d;have a:=g h d.tail;unfold ng at g a;rcases f13 k with rfl|rfl|rfl|rfl|rfl|rfl|rfl|rfl|rfl|rfl|rfl|rfl|rfl;all_goals
  repeat' first
   |refine bS (by decide) ?_
   |refine aU (by decide) ?_
   |refine bH ?_
   |refine bW ?_
   |refine bW ?_
   |refine bW ?_
   |refine bW ?_
   |refine bW ?_
   |refine bW ?_
   |refine bW ?_
   |refine bW ?_
   |refine bW ?_
   |refine bW ?_
   |refine bW ?_
 all_goals simp only[Int.reduceEq,if_true,if_false,or_true,or_self,or_false,decide_true] at g a
 exact dW (aX (fun b=>aA (aD d rfl (bA (Js (by omega) a)))) (fun b=>Xt (by omega) a));exact dW (aX (fun b=>aR d (by decide) (l:=C.enc) rfl rfl (rB hC m d fun h d=>bA (Js (by omega) (g h d.tail)))) (fun b=>Xt (by omega) a));exact dW (aX (fun b=>zB (Js (by omega) a)) (fun b=>Xt (by omega) a));exact dW (aX (fun b=>zB (Js (by omega) a)) (fun b=>Xt (by omega) a));exact dW (aX (fun b=>zB (Js (by omega) a)) (fun b=>Xt (by omega) a));exact(aX (fun b=>yV (by omega) a) (fun b=>bH (aX (fun e=>yV (by omega) a) (fun e=>bH (Js (by omega) a)))));exact(aX (fun b=>yV (by omega) a) (fun e=>bH (Js (by omega) a)));exact a;exact a;exact(aX (fun b=>yV (by omega) a) (fun e=>bH (Js (by omega) a)));exact(aX (fun b=>yV (by omega) a) (fun e=>bH (Js (by omega) a)));exact dW (aX (fun b=>bA (Js (by omega) a)) (fun b=>Xt (by omega) a));exact dW (aX (fun b=>aA (aD d rfl (bA (Js (by omega) a)))) (fun b=>Xt (by omega) a))
end
section
theorem neN {a n:aJ} {k:Value->Prop} (d:k (.bool (decide (a≠n)))) {b:Bool} (hc:b=true:=by kernel_rfl):Nb b [0,0,0,0,0,0,0,1,0] .neq (.agg ⟨a.enc⟩) (.agg ⟨n.enc⟩) k:=by
 refine⟨hc,_,?_,d⟩;cases a;cases n;simp[Jp,oM,Nl,Qe,aJ.enc];rw[Bool.eq_iff_iff];simp
set_option maxRecDepth 100000
attribute [local irreducible] bG Br pK sD tZ Cq mN wW lR Rs gX mT rA rG pJ kU zA vE V9 V4 Ro Ps Vv Qm Jp Nb Vm lB oL tX jK copyV iQ xK V7 V8 Hn lG Nc Sp V2 oA rY yU Ao Cl yO Vx tE sC kJ hT setLoop cT
variable {G:Bg} {h:AH} {L L':List HP}
theorem aD5 {P:Program} {f:FuncId} {p:List Nat} {n l d:Nat} {e:Nat->Value} {st:LoopState} {pd:Option Code} {k:Option Code×AH->Prop} (q:Hs G h L) [m:oY l L ⟨P,f,p,n,e,d,st,pd⟩ L'] (g:st≠.busy) (o:∀j,Hs G j L'->k (pd,j)):bG (sC h l) k:=
 uu (P:=P) (f:=f) (p:=p) (n:=n) (e:=e) (d:=d) (st:=st) (pd:=pd) (k:=fun a b=>k (a,b)) (show Hs G h (pH P f p n e d l (st,pd)::L') from m.of q) g o
theorem at7 {l:List Int} {i:Nat} {k:Value->Prop} (d:l.length=7) (a:i<7) (b:k (I (l.getD i 0))):bG (Nc 7 1 (.agg ⟨l.map I⟩) (I i)) k:=
 cv a (by rw[List.getElem?_map,List.getElem?_eq_getElem (by omega),List.getD_eq_getElem?_getD,List.getElem?_eq_getElem (by omega)];rfl) b
theorem mq {k:Int} {Q:Value->AH->Prop} (a:Hs G h L) (d:∀p b,Hs G b (aG p 0 [I k]::L)->Q (.func (.func 305) #[] #[pt p 0 0]) b):Cl Pr K 265 [I k] h Q:=by
 refine cW (dR a ?_);intro p h a;exact d p h a
theorem sy {p n:Nat} (g:Ob G 2 xW) (d:n<14):uc Pr K G 305 [] [pt p 0 0] (aG p 0 [I n]) ((C4 n).map fun f=>[I f]):=by
 intro m J y L h Q a u k o;refine cW (aD a rfl (oU d (aA (Ym a g (l:=(fh n).map I) (jc d) (by rw[List.length_map,aa d]) (by rw[jn];omega) ?_))));have r:=aa d;have loop:∀(f i:Nat) (h:AH),i+f=7->Hs G h (aG p 0 [I n]::m ((ws (fh n) f i).map fun f=>[I f])::L)->Dd 305 1 [] Q [y,(.agg ⟨(fh n).map I⟩),(I i)] h:=by
  intro f;induction f with
  |zero=>
   intro i h q a;exact bW (bA (aab (k _ h a)))
  |succ f w=>
   intro i h q a;unfold ws at a;refine bW (bA (aae (bW (at7 r (by omega) (bH (aX (fun e=>?_) (fun e=>?_)))))));rw[aJ7 e] at a;exact k _ h a;rw[aJ6 e] at a;refine(u _ _ h _ a.lK).mono fun v j t=>?_;rcases t with⟨rfl,b⟩|⟨rfl,b⟩;exact cH (cG (bW (aad (w (i+1) j (by omega) b.lK))));exact cH (eU (o _ j b.lK))
 exact loop 7 0 h rfl a
def ckC (C:bP) (n:aJ) (p2 b p5 g l d:Nat) (e:Nat->Value) (rest:List (List Value)) (fs:List Int) (a:aJ):List HP:=
 [B6 (rest=fs.map fun f=>[I f]),B6 (∀f∈fs,1<=f/\f<=13),B6 (oJ C n fs a=oJ C n (C4 n.kind.toNat) (Et n.kind)),pH Pr 213 (pD 1786) 41 e d l (.ready,none),aG p2 0 C.enc,aG b 0 n.enc,aG p5 0 [.bool true],aG g 0 a.enc]
def ckI (C:bP) (n:aJ) (p2 a p5 b l d:Nat) (e:Nat->Value) (rest:List (List Value)):HP:=vD fun x:List Int×aJ=>sp (ckC C n p2 a p5 b l d e rest x.1 x.2)
def ckJ (C:bP) (n:aJ) (p2 b p5 f l d:Nat) (e:Nat->Value):HP:=vD fun a:aJ=>sp [B6 ((oJ C n (C4 n.kind.toNat) (Et n.kind)).1=false),pH Pr 213 (pD 1786) 41 e d l (.done,some (.exit 0)),aG p2 0 C.enc,aG b 0 n.enc,aG p5 0 [.bool false],aG f 0 a.enc]
theorem Ci {C:bP} {n:aJ} {p2 b p5 g l d:Nat} {e:Nat->Value} {rest:List (List Value)} {fs:List Int} {a:aJ} (j:rest=fs.map fun f=>[I f]) (k:∀f∈fs,1<=f/\f<=13) (m:oJ C n fs a=oJ C n (C4 n.kind.toNat) (Et n.kind))
  (o:Hs G h (sp [pH Pr 213 (pD 1786) 41 e d l (.ready,none),aG p2 0 C.enc,aG b 0 n.enc,aG p5 0 [.bool true],aG g 0 a.enc]::L)):Hs G h (ckI C n p2 b p5 g l d e rest::L):=
 Hs.zX (A:=fun x:List Int×aJ=>sp (ckC C n p2 b p5 g l d e rest x.1 x.2)) (fs,a) (yP j (yP k (yP m o)))
theorem zK {C:bP} {n:aJ} {p2 j p5 k l d:Nat} {e:Nat->Value} {rest:List (List Value)} (b:Hs G h (ckI C n p2 j p5 k l d e rest::L)):∃g a,(rest=g.map fun f=>[I f])/\(∀f∈g,1<=f/\f<=13)/\oJ C n g a=oJ C n (C4 n.kind.toNat) (Et n.kind)/\
  Hs G h (pH Pr 213 (pD 1786) 41 e d l (.ready,none)::aG p2 0 C.enc::aG j 0 n.enc::aG p5 0 [.bool true]::aG k 0 a.enc::L):=by
 obtain⟨⟨g,a⟩,b⟩:=Hs.B4 b
 obtain⟨m,b⟩:=iD b
 obtain⟨o,b⟩:=iD b
 obtain⟨q,b⟩:=iD b
 exact⟨g,a,m,o,q,b.unpack⟩
theorem aDv {C:bP} {n:aJ} {Q:Value->AH->Prop} (N:Ob G 2 xW) (S:Ob G 0 eT) (j:Hs G h L) (t:∀q,Hs G q L->Q (I (pG C n)) q):Cl Pr K 213 [.agg ⟨C.enc⟩,.agg ⟨n.enc⟩] h Q:=by
 unfold pG at t;refine cW (dR j ?_);intro E h j;refine dR j ?_;intro D h j;refine aA (aD j rfl (zF (cH (eB (aX (fun r=>bW ?_) (fun r=>mB ?_))))));rw[aJ7 r] at t;refine aR j (by decide) (l:=C.enc) rfl rfl (nB S j fun h j=>?_);by_cases hC:C.Ok;rw[aJ7 hC] at t ⊢;refine bC (aab (bW (bQ j ?_)));intro R h j;refine ax j ?_;intro h j;refine aA (aD j rfl (aQ (c:=(Et n.kind).enc) rfl (bQ j ?_)));intro y h j;refine ax j ?_;intro h j;obtain⟨m,T,X,B⟩:=aGo r;refine aA (aD j rfl ?_);rw[T];refine mq j fun p h j=>oF j fun d h j=>?_;intro e V;refine sV j fun l h j=>?_;refine Ah (by kernel_rfl) ?_;have J:=zg (k:=m) B;have O:Hs G h (aG p 0 [I m]::ckI C n E D R y l d e ((C4 m).map fun f=>[I f])::mk d ()::L):=by
  refine Hs.lK (Ci (fs:=C4 m) (a:=Et n.kind) rfl J (by rw[T];rfl) ?_);exact j.to
 clear j;refine sy N B _ (ckJ C n E D R y l d e) _ _ h _ O ?_ ?_ ?_;intro x rest h M j;obtain⟨u,a,r,F,z,U⟩:=zK j;clear j;cases u with
 |nil=>cases r
 |cons f u=>
  simp only[List.map_cons,List.cons.injEq] at r;obtain⟨rfl,rfl⟩:=r;have H:=F f List.mem_cons_self;refine rW (Aa U) V ?_;refine lT U fun h j=>?_;refine an D j (l:=n.enc) rfl rfl (zE H j fun h j=>?_);refine an E j (l:=C.enc) rfl rfl (Qo hC H S j fun h j=>cH (eB (aX (fun P=>?_) (fun P=>?_))));refine aE0 (p:=y) (n:=a) H (j.front (aG y 0 a.enc)) fun h j=>mD j fun h j=>?_;refine .inl ⟨rfl,Ci (fs:=u) (a:=aDk a f (jy n f)) rfl (fun g W=>F g (List.mem_cons_of_mem _ W)) ?_ j.to⟩;rw[<-z,oJ,aJ7 P];refine ax j ?_;intro h j;refine mD j fun h j=> .inr ⟨rfl,?_⟩;refine Hs.zX (A:=fun a:aJ=>sp [B6 ((oJ C n (C4 n.kind.toNat) (Et n.kind)).1=false),pH Pr 213 (pD 1786) 41 e d l (.done,some (.exit 0)),aG E 0 C.enc,aG D 0 n.enc,aG R 0 [.bool false],aG y 0 a.enc]) a (yP ?_ j.to);rw[<-z,oJ,aJ6 P]
 intro v q j;obtain⟨u,a,r,F,z,j⟩:=zK j.lK;cases u with
 |cons f u=>cases r
 |nil=>
  rw[oJ] at z;rw[<-z] at t;refine tR j fun q j=>tA ?_;refine aD j rfl (cH ?_);refine(cG (an y j (l:=a.enc) rfl rfl (an D j (l:=n.enc) rfl rfl (neN (aX (fun w=>?_) (fun w=>?_))))));refine oT j fun q j=>mB ?_;have:=t q j.to;rwa [aJ6 (fun e=>w e.2)] at this;refine oT j fun q j=>mB ?_;have:=t q j.to;rwa [aJ7 ⟨rfl,by simpa using w⟩] at this
 intro v q j;obtain⟨a,j⟩:=Hs.B4 j.lK;obtain⟨r,j⟩:=iD j;have j:=j.unpack;refine aD5 j (by decide) fun q j=>Qp rfl ?_;refine aD j rfl (cH ?_);refine(eU (oT j fun q j=>mB ?_));have:=t q j.to;rwa [aJ6 (fun e=>by rw[r] at e;cases e.1)] at this;rw[aJ6 hC] at t ⊢;refine bC (aae (mB (t h j.to)));rw[aJ6 r] at t;exact t h j.to
end
end Go.Proofs.YtajjljbmfdboaaaGreatDoor.N
section
open Go Go.Ab
attribute [local irreducible] bG Br pK sD tZ Cq mN wW lR Rs gX mT rA rG pJ kU zA vE V9 V4 Ro Ps Vv Qm Jp Nb Vm lB oL tX jK copyV iQ xK V7 V8 Hn lG Nc Sp V2 oA rY yU Ao Cl yO Vx tE sC kJ hT setLoop cT
namespace Go.Proofs.YtajjljbmfdboaaaGreatDoor
open Go Go.Ab Go.Hm Go.At Go.Mc
section
instance:Fx dK 2:=⟨fun _=>rfl,fun _=>rfl⟩
def xe (p:Int×Int->Bool):List (Int×Int)->Nat->Int
 |[],_=> -1
 |x::l,i=>if p x then(i:Int) else xe p l (i+1)
theorem K5 {p:Int×Int->Bool}:∀{l:List (Int×Int)} {i:Nat},(xe p l i= -1/\(∀x∈l,p x=false))\/∃j x,xe p l i=((i+j:Nat):Int)/\l[j]?=some x/\p x=true/\∀y∈l.take j,p y=false
 |[],i=> .inl ⟨rfl,fun _ h=>by cases h⟩
 |x::l,i=>by
  unfold xe;split;rename_i b;exact .inr ⟨0,x,by simp,rfl,b,fun _ h=>by cases h⟩;rename_i b;have b:p x=false:=by simpa using b
  rcases K5 (p:=p) (l:=l) (i:=i+1) with⟨d,e⟩|⟨j,y,d,e,f,g⟩;refine .inl ⟨d,fun z a=>?_⟩;rcases List.mem_cons.1 a with rfl|a;exact b;exact e z a;refine .inr ⟨j+1,y,by rw[d];congr 1;omega,by simpa using e,f,fun z a=>?_⟩;rw[List.take_succ_cons] at a;rcases List.mem_cons.1 a with rfl|a;exact b;exact g z a
def isG (g:Int) (x:Int×Int):Bool:=decide (x.1=g)
theorem Bi {g:Int} {l:List (Int×Int)}:(xe (isG g) l 0= -1/\jT l g=none)\/∃(j:Nat) (x:Int×Int),xe (isG g) l 0=(j:Int)/\l[j]?=some x/\jT l g=some x.2:=by
 rcases K5 (p:=isG g) (l:=l) (i:=0) with⟨b,a⟩|⟨j,x,b,a,d,f⟩;refine .inl ⟨b,?_⟩;unfold jT;rw[List.find?_eq_none.2 fun x m=>by have:=a x m;unfold isG at this;simpa using this];rfl;refine .inr ⟨j,x,by rw[b,Nat.zero_add],a,?_⟩;unfold jT;have:l.find? (fun x=>decide (x.1=g))=some x:=by
  rw[List.find?_eq_some_iff_append];refine⟨d,l.take j,l.drop (j+1),?_,fun y o=>by have:=f y o;unfold isG at this;simpa using this⟩;obtain⟨k,e⟩:=List.getElem?_eq_some_iff.1 a;rw[<-e,<-List.drop_eq_getElem_cons k,List.take_append_drop]
 rw[this];rfl
set_option maxRecDepth 100000
variable {G:Bg} {h:AH} {L L':List HP} {Q:Value->AH->Prop} {C:bP}
def yW (C:bP) (s:kE) (a:Option Addr) (c:Nat):List Value:=[.bool s.kY,I s.bK,I s.at',.bool s.mX,I C.entries,I C.aN,.slice a s.known.length c]
def kN (p:Nat) (C:bP) (s:kE):HP:=vD fun x:Option Addr×Nat=>sp [aG p 0 (yW C s x.1 x.2),ls dK 2 261 x.1 x.2 s.known]
theorem lQ {p:Nat} {s:kE} (b:Hs G h (kN p C s::L)):∃a c,Hs G h (aG p 0 (yW C s a c)::ls dK 2 261 a c s.known::L):=by
 obtain⟨⟨a,c⟩,b⟩:=b.B4;exact⟨a,c,b.G5⟩
theorem eK (p:Nat) (C:bP) (s:kE) {a:Option Addr} {c:Nat} {cs:List Value} {l:List (Int×Int)} {b L2:List HP} (f:Hs G h L) [m:Has (aG p 0) L cs b] [g:Has (ls dK 2 261 a c) b l L2] (d:cs=yW C s a c) (e:l=s.known):Hs G h (kN p C s::L2):=by
 subst d;subst e;exact Hs.zX (A:=fun x:Option Addr×Nat=>sp [aG p 0 (yW C s x.1 x.2),ls dK 2 261 x.1 x.2 s.known]) (a,c) (Hs.pack (A:=[_,_]) (f.perm (m.perm.trans (g.perm.cons _))))
theorem fe (hC:C.Ok) (d:Hs G h L) (g:∀p f,Hs G f (kN p C Ha::L)->Q (.tuple ⟨[pt p 0 0,I 0]⟩) f):Cl Pr K 84 [I C.entries,I C.aN] h Q:=by
 have b:=hC;unfold bP.Ok at b;refine cW (bA (aab (mC (aab (bA (aab (mC (aab ?_))))))));refine aQ (c:=yW C Ha none 0) rfl (dR d fun p h d=>g _ _ ?_);exact eK p C Ha (a:=none) (c:=0) ((vC (enc:=dK) (W:=2) (e:=261) d)) rfl rfl
theorem D7 {a:Option Addr} {c:Nat} {l:List (Int×Int)} (hb:l.length<=100) (j:Hs G h L) [m:Has (ls dK 2 261 a c) L l L']
  (g:∀b d f,Hs G f (ls dK 2 261 b d l::ls dK 2 261 a c l::L')->Q (.slice b l.length d) f):Cl Pr K 131 [.slice a l.length c] h Q:=
 cW (sF (e:=261) (show Hs G h (cN 2 261 a c (l.length,eL dK l)::L') from m.of j) (by omega) g)
theorem Cz {p:Nat} {s:kE} (hb:s.known.length<=100) (d:Hs G h L) [m:Has (kN p C) L s L'] (j:∀q e,Hs G e (kN q C s::kN p C s::L')->Q (pt q 0 0) e):Cl Pr K 81 [pt p 0 0] h Q:=by
 obtain⟨a,c,d⟩:=lQ (m.of d);refine cW (dD (cG (bW (aB (an p d (l:=yW C s a c) rfl rfl (bQ d fun q h d=>ax d fun h d=>?_))))));refine aB (aA (am p d rfl (D7 (a:=a) (c:=c) (l:=s.known) hb d fun f g h d=>aA (ay (b:=q) (o:=0) d fun h d=>j _ _ ?_))));have d:=eK p C s (a:=a) (c:=c) (d.cI (aG p 0 (yW C s a c)) (ls dK 2 261 a c s.known)) rfl rfl;exact(eK q C s (a:=f) (c:=g) d rfl rfl)
def aAa (G:Bg) (f:Value) (A:HP) (p:Int×Int->Bool):Prop:=∀(x:Int×Int) (h:AH) (L:List HP) (Q:Value->AH->Prop),Hs G h (A::L)->(∀a,Hs G a (A::L)->Q (.bool (p x)) a)->yO Pr K f [.agg ⟨dK x⟩] h Q
theorem Ut {f:Value} {A:HP} {p:Int×Int->Bool} (q:aAa G f A p) {a:Option Addr} {c:Nat} {l:List (Int×Int)} (hb:l.length<=1000) (b:Hs G h (A::ls dK 2 261 a c l::L))
  (m:∀j,Hs G j (A::ls dK 2 261 a c l::L)->Q (I (xe p l 0)) j):Cl Pr K 287 [.slice a l.length c,f] h Q:=by
 refine cW (bU ?_)
 have loop:∀(k i:Nat) (h:AH),i+k=l.length->xe p l 0=xe p (l.drop i) i->Hs G h (A::ls dK 2 261 a c l::L)->Dd 287 1 [] Q [(.slice a l.length c),f,(I l.length),(I i)] h:=by
  intro k;induction k with
  |zero=>
   intro i h r d b;rw[List.drop_of_length_le (by omega)] at d;refine bW (bA (aab ?_));have:=m _ b;rw[d] at this;exact this
  |succ k u=>
   intro i h r d b;obtain⟨x,t,o⟩:=nA (l:=l) (i:=i) (by omega);rw[o,xe] at d;refine bW (bA (aae (bW (tO (l:=l) (a:=a) (c:=c) (enc:=dK) (e:=261) b (by decide) (by omega) (by rw[Int.toNat_natCast];exact t) (q x h _ _ b fun h b=>dI (fun g=>?_) (fun g=>?_))))));have:=m _ b;rw[d,aJ7 g] at this;exact this;rw[aJ6 (by rw[g];simp)] at d;exact bW (aad (u (i+1) h (by omega) d b))
 exact loop l.length 0 h (by omega) (by rw[List.drop_zero]) b
theorem aDz {p:Nat} {g:Int}:aAa G (.func (.func 288) #[] #[pt p 0 0]) (aG p 0 [I g]) (isG g):=by
 intro x h L Q a d;refine mZ rfl (cW (dR a fun q h a=>aA (am q a rfl (am p a rfl (bH (d _ a.tail))))))
theorem Ki {p:Nat} {s:kE} {g:Int} (hb:s.known.length<=100) (d:Hs G h L) [m:Has (kN p C) L s L'] (f:∀e,Hs G e (kN p C s::L')->Q (I (xe (isG g) s.known 0)) e):Cl Pr K 242 [pt p 0 0,I g] h Q:=by
 obtain⟨a,c,d⟩:=lQ (m.of d);refine cW (dR d fun q h d=>aB (aA (am p d rfl ?_)));have d:Hs G h (aG q 0 [I g]::ls dK 2 261 a c s.known::aG p 0 (yW C s a c)::L'):=d.to;refine Ut aDz (by omega) d fun h d=>f _ ?_;exact(eK p C s (a:=a) (c:=c) d rfl rfl).to
theorem fi {p:Nat} {s:kE} {w g:Int} (hb:s.known.length<=100) (d:Hs G h L) [m:Has (kN p C) L s L'] (f:∀v,Hs G v (kN p C s::L')->Q (.tuple ⟨[I (s.ask C w g).1,I (s.ask C w g).2]⟩) v):Cl Pr K 192 [pt p 0 0,I w,I g] h Q:=by
 obtain⟨a,c,d⟩:=lQ (m.of d);unfold kE.ask at f;have k:∀{h:AH},Hs G h (aG p 0 (yW C s a c)::ls dK 2 261 a c s.known::L')->Hs G h (kN p C s::L'):=fun d=>eK p C s (a:=a) (c:=c) d rfl rfl;refine cW (dD (cG (bW (bA (aX (fun y=>?_) (fun y=>aB (aA (am p d rfl (dW (aX (fun z=>?_) (fun z=>bA (aX (fun A=>?_) (fun A=>mC (aX (fun B=>?_) (fun B=>?_)))))))))))))));rw[aaa] at f;exact f _ (k d);rw[aaa] at f;exact f _ (k d);rw[aaa] at f;exact f _ (k d);rw[aaa] at f;exact f _ (k d);rw[aac] at f;refine bW (Ki (C:=C) hb (k d) fun h d=>bA (aX (fun D=>?_) (fun D=>?_)));rcases Bi (g:=g) (l:=s.known) with⟨r,q⟩|⟨j,x,r,q,u⟩;rw[q] at f;exact f _ d;omega;rcases Bi (g:=g) (l:=s.known) with⟨r,q⟩|⟨j,x,r,q,u⟩;omega;rw[u] at f;rw[r];obtain⟨a,c,d⟩:=lQ d;refine bW (aB (aA (am p d rfl (cy (l:=s.known) (a:=a) (c:=c) (enc:=dK) (e:=261) d (by omega) (by rw[Int.toNat_natCast];exact q) rfl (Qg (dI (fun t=>?_) (fun t=>?_)))))));simp only[t,if_true] at f;exact f _ (eK p C s (a:=a) (c:=c) d rfl rfl);simp only[t] at f;exact f _ (eK p C s (a:=a) (c:=c) d rfl rfl)
theorem Ub {p:Nat} {s:kE} {g:Int} (hC:C.Ok) (hb:s.known.length<=100) (d:Hs G h L) [m:Has (kN p C) L s L'] (e:∀u,Hs G u (kN p C (s.begin C g).1::L')->Q (.tuple ⟨[I (s.begin C g).2.1,I (s.begin C g).2.2]⟩) u):Cl Pr K 244 [pt p 0 0,I g] h Q:=by
 have z:=hC.2.1.2;obtain⟨a,c,d⟩:=lQ (m.of d);unfold kE.begin at e;have f:∀{h:AH},Hs G h (aG p 0 (yW C s a c)::ls dK 2 261 a c s.known::L')->Hs G h (kN p C s::L'):=fun d=>eK p C s (a:=a) (c:=c) d rfl rfl;refine cW (dD (cG (bW (bA (aX (fun v=>?_) (fun v=>aB (aA (am p d rfl (dW (aX (fun w=>?_) (fun w=>?_)))))))))));rw[aac] at e;exact e _ (f d);rw[aac] at e;exact e _ (f d);rw[aaa] at e;refine bW (Ki (C:=C) hb (f d) fun h d=>dW (aX (fun y=>?_) (fun y=>?_)));rcases Bi (g:=g) (l:=s.known) with⟨q,k⟩|⟨j,x,q,k,t⟩;omega;rw[t] at e;exact e _ d;rcases Bi (g:=g) (l:=s.known) with⟨q,k⟩|⟨j,x,q,k,t⟩;rw[k] at e;simp only[Option.isSome_none,Bool.false_eq_true,if_false] at e;obtain⟨a,c,d⟩:=lQ d;refine bW (aB (aA (aA (am p d rfl (dI (fun r=>?_) (fun r=>?_))))));simp only[r,if_true] at e;exact e _ (eK p C s (a:=a) (c:=c) d rfl rfl);simp only[r,Bool.false_eq_true,if_false] at e;refine bW (qX (by omega) (aH rfl (aH rfl (bC (aab (bW (aQ (c:=[.bool true,I g,I (g/4),.bool false]) rfl (aB (aA (ay (b:=p) (o:=0) d fun h d=>e _ ?_))))))))));exact eK p C (s.start g) (a:=a) (c:=c) d rfl rfl;omega
end
section
theorem aCu (m:Nat):(eJ [I 0,I 0] m).length=m*2/\(eJ [I 0,I 0] m).all eF=true:=by
 have:eJ [I 0,I 0] m=eL dK (List.replicate m (0,0)):=by
  induction m with
  |zero=>rfl
  |succ m a=>rw[List.replicate_succ,qM,<-a];rfl
 rw[this];exact⟨by rw[sS,List.length_replicate],F2⟩
set_option maxRecDepth 100000
variable {G:Bg} {h:AH} {L L':List HP} {Q:Value->AH->Prop} {C:bP}
theorem Yw {a:Option Addr} {c:Nat} {l:List (Int×Int)} (q:0<l.length) (d:Hs G h L) [m:Has (ls dK 2 261 a c) L l L']
  (y:∀k,Hs G k (ls dK 2 261 a c (l.drop 1)::L')->Q (.slice a (l.drop 1).length c) k):Cl Pr K 304 [.slice a l.length c,I 0,I 1] h Q:=by
 have d:Hs G h (cN 2 261 a c (l.length,eL dK l)::L'):=m.of d
 have f:l.length<=c:=by
  obtain⟨r,A,⟨_,_,z⟩,_⟩:=d.fst;rcases z with⟨j,_⟩|⟨j,_⟩|⟨f,_⟩;simp only at j;omega;simp only at j;omega;exact f
 obtain⟨b,o,x,_⟩:=d.oG q
 refine cW (bU ?_)
 refine Xb (v:= .slice (some ⟨b,o+0*2,none⟩) (0+1 - 0) (l.length - 0)) ?_ ?_
 .subst x;have t:lI (some (I l.length)) c c=some l.length:=by simp only[lI];rw[aac];simp
  have u:lI (some (I 1)) l.length l.length=some 1:=by simp only[lI];rw[aac];rfl
  have w:lI (some (I 0)) 0 1=some 0:=by simp only[lI];rw[aac];rfl
  have g:¬l.length=0:=by omega
  simp only[xK,t,u,w,Option.isNone_some,Bool.false_and,Option.isSome_none,Bool.false_eq_true,if_false,g,dE]
  rw[aac]
 refine bH (aab (bW (bU (aY d ?_))))
 intro r h d
 refine aB1 (i:=0) (by decide) rfl rfl q d ?_
 intro h d
 have e:(eL dK l).take (0*2)++(eL dK l).drop ((0+1)*2)=eL dK (l.drop 1):=by rw[P6];simp
 rw[e] at d
 have:=y h
 rw[List.length_drop] at this
 refine this ?_
 unfold ls
 rw[List.length_drop]
 exact d.to
theorem q9 {p:Nat} {s:kE} {x:Int×Int} (hC:C.Ok) (hb:s.known.length<=100) (d:Hs G h L) [m:Has (kN p C) L s L'] (g:∀u,Hs G u (kN p C (s.A8 C x)::L')->Q (.tuple ⟨[]⟩) u):Cl Pr K 259 [pt p 0 0,.agg ⟨dK x⟩] h Q:=by
 have w:1<=C.entries/\C.entries<=8:=hC.2.2.2.2.2.1;obtain⟨a,c,d⟩:=lQ (m.of d);unfold kE.A8 at g;refine cW (dR d fun q h d=>aY d fun y h d=>?_);refine aB (aA (am p d rfl (bU (aB (aA (am p d rfl (dW (aX (fun t=>?_) (fun t=>?_)))))))));rw[aJ7 t] at g;refine bW (aB (aA (am p d rfl (Yw (a:=a) (c:=c) (l:=s.known) (by omega) d fun h d=>?_))));refine aB (aA (ay (b:=p) (o:=0) d fun h d=>aY d fun v h d=>aB (aA (am p d rfl (an q d (l:=dK x) rfl rfl (aQ (c:=dK x) rfl (jV (i:=6) (N:=11) (D:=[]) d rfl rfl rfl rfl rfl fun f h d=>?_)))))));refine uM (enc:=dK) (W:=2) (e:=261) (a:=a) (c:=c) (l:=s.known.drop 1) (a2:=some f) (c2:=1) (l2:=[x]) (show Hs G h (ls dK 2 261 (some f) 1 [x]::_) from d) (by simp;omega) fun j k h d=>?_;refine aB (aA (ay (b:=p) (o:=0) d fun h d=>bT bZ (g _ ?_)));exact(eK p C {s with known:=s.known.drop 1++[x]} (a:=j) (c:=k) d rfl rfl).to;rw[aJ6 t] at g;refine aY d fun v h d=>aB (aA (am p d rfl (an q d (l:=dK x) rfl rfl (aQ (c:=dK x) rfl (jV (r:=v) (i:=6) (N:=11) (D:=[]) d rfl rfl rfl rfl rfl fun f h d=>?_)))));refine uM (enc:=dK) (W:=2) (e:=261) (a:=a) (c:=c) (l:=s.known) (a2:=some f) (c2:=1) (l2:=[x]) (show Hs G h (ls dK 2 261 (some f) 1 [x]::_) from d) (by simp;omega) fun j k h d=>?_;refine aB (aA (ay (b:=p) (o:=0) d fun h d=>bT bZ (g _ ?_)));exact(eK p C {s with known:=s.known++[x]} (a:=j) (c:=k) d rfl rfl).to
theorem dc {p:Nat} {s:kE} {at' w:Int} (hC:C.Ok) (hb:s.known.length<=100) (H:0<=s.bK/\s.bK<C.aN) (R:0<=w/\w<=1000000) (d:Hs G h L) [m:Has (kN p C) L s L']
  (f:∀l,Hs G l (kN p C (s.walked C at' w).1::L')->Q (.tuple ⟨[I (s.walked C at' w).2.1,.bool (s.walked C at' w).2.2.1,I (s.walked C at' w).2.2.2]⟩) l):Cl Pr K 206 [pt p 0 0,I at',I w] h Q:=by
 have P:=hC.2.1
 obtain⟨a,c,d⟩:=lQ (m.of d)
 unfold kE.walked at f
 have t:∀{h:AH},Hs G h (aG p 0 (yW C s a c)::ls dK 2 261 a c s.known::L')->Hs G h (kN p C s::L'):=fun d=>eK p C s (a:=a) (c:=c) d rfl rfl
 refine cW (dD (cG (bW (aB (aA (aA (am p d rfl (cH (eB (dI (fun y=>?_) (fun y=>?_)))))))))))
 rotate_left
 .rw[aJ7 y] at f;exact f _ (t d)
 rw[aJ6 (by rw[y];simp)] at f
 refine bW (aB (aA (aA (am p d rfl (bC (aX (fun z=>?_) (fun z=>?_)))))))
 .rw[aJ7 z] at f;exact f _ (t d)
 rw[aJ6 z] at f
 refine bW (aB (aA (aA (am p d rfl (qX (by omega) (aH rfl (aH rfl (bC (aab (bW (aB (aA (aA (am p d rfl (dI (fun A=>?_) (fun A=>?_))))))))))))))))
 .rw[aJ7 A] at f;refine bW (aB (aA (aA (ay (b:=p) (o:=0) d fun h d=>aB (aA (aA (ay (b:=p) (o:=0) d fun h d=>f _ ?_)))))));exact eK p C s.fresh (a:=a) (c:=c) d rfl rfl
 rw[aJ6 (by rw[A];simp)] at f
 refine bW (aY d fun T h d=>aB (aA (am p d rfl (aB (aA (aA (am p d rfl (r8 (n:=C.aN) (g:=s.bK) ⟨P,H⟩ R d fun h d=>?_))))))))
 generalize iP C.aN s.bK at' w=r at f
 obtain⟨nx,x,S,e⟩:=r
 simp only at f ⊢
 refine aH rfl (aH rfl (aH rfl (aH rfl (jM (i:=17) (n:=22) (D:=[]) d rfl rfl fun j h d=>ax (b:=j) d fun h d=>bT (aH rfl aFx) (bT (aH rfl gF) (bC (aX (fun B=>?_) (fun B=>?_))))))))
 .rw[aJ7 B] at f;exact f _ (t d.to)
 rw[aJ6 B] at f
 have k:∀{h:AH} {M:List HP} (v:Int) (u:kE),[Sub M L']->yW C u a c=dN (yW C s a c) 2 [I v]->u.known=s.known->Hs G h (aG p 0 (yW C s a c)::ls dK 2 261 a c s.known::M)->(∀l,Hs G l (kN p C u::L')->Q (.tuple ⟨[I v,.bool false,I 0]⟩) l)->Dd 206 10 [] Q [(pt p 0 0),(I v)] h:=by
  intro h M v u _ O J d N;refine bW (aB (aA (aA (ay (b:=p) (o:=0) d fun h d=>N _ ?_))));have:=eK p C u (a:=a) (c:=c) d O.symm J.symm;exact this.to
 have q:∀{h:AH},Hs G h (aG j 0 x.enc::aG p 0 (yW C s a c)::ls dK 2 261 a c s.known::L')->(∀l,Hs G l (kN p C (s.A8 C (s.bK,x.owner)).done::L')->Q (.tuple ⟨[I 0,.bool true,I 0]⟩) l)->Dd 206 11 [] Q [(pt p 0 0),(pt j 0 0)] h:=by
  intro h d N;refine bW (aY d fun U h d=>aB (aA (aA (am p d rfl (aA (am j d rfl (aQ (c:=dK (s.bK,x.owner)) rfl ?_)))))));have d:=eK p C s (a:=a) (c:=c) d rfl rfl;refine q9 hC hb d fun h d=>?_;obtain⟨a3,c3,d⟩:=lQ d;refine aQ (c:=[.bool false,I 0,I 0,.bool false]) rfl (aB (aA (ay (b:=p) (o:=0) d fun h d=>N _ ?_)));exact(eK p C (s.A8 C (s.bK,x.owner)).done (a:=a3) (c:=c3) d rfl rfl).to
 have d:Hs G h (aG j 0 x.enc::aG p 0 (yW C s a c)::ls dK 2 261 a c s.known::L'):=d.to
 refine bW (dI (fun E=>?_) (fun E=>?_))
 .subst E;refine aA (am j d rfl (dI (fun F=>?_) (fun F=>?_)))
  .rw[aJ7 ⟨rfl,F⟩] at f;exact bW (cH (eU (k (M:=aG j 0 x.enc::L') (s.bK/4) (s.goto (s.bK/4)) rfl rfl d.to f)))
  .rw[aJ6 (by rw[F];simp),aJ6 (by simp)] at f;exact bW (cH (cG (q d f)))
 .subst E;rw[aJ6 (by simp),aJ7 rfl] at f;exact cH (eU (k (M:=aG j 0 x.enc::L') nx (s.goto nx) rfl rfl d.to f))
def pQ (g:Int) (x:Int×Int):Bool:=decide (g= -1\/x.1=g)
theorem kn {p q:Nat} {g:Int}:aAa G (.func (.func 262) #[] #[pt p 0 0]) (sp [aG p 0 [.func (.func 260) #[] #[pt q 0 0]],aG q 0 [I g]]) (pQ g):=by
 intro x h L Q a j;have a:=a.G5;have d:∀{h:AH} {M:List HP} {b:Bool},[Sub M L]->b=pQ g x->Hs G h (aG p 0 [.func (.func 260) #[] #[pt q 0 0]]::aG q 0 [I g]::M)->Q (.bool b) h:=by
  intro h M b _ f a;show Q _ _;rw[f];exact j _ (Hs.Hu a.to)
 refine mZ rfl (cW (dR a fun r h a=>am p a rfl (aA (am r a rfl ?_))));refine mZ rfl (cW (am q a rfl (bH (aX (fun e=>?_) (fun e=>am q a rfl (bH ?_))))));exact d (M:=aG r 0 (dK x)::L) (by unfold pQ;rw[decide_eq_true (.inl e)]) a.to;exact d (M:=aG r 0 (dK x)::L) (by unfold pQ;exact decide_eq_decide.2 (by omega)) a.to
theorem W7 {f:Value} {A:HP} {p:Int×Int->Bool} (P:aAa G f A p) {a:Option Addr} {c:Nat} {l:List (Int×Int)} (hb:l.length<=1000) (d:Hs G h (A::ls dK 2 261 a c l::L))
  (F:∀O,Hs G O (A::ls dK 2 261 a c (l.filter fun x=> !p x)::L)->Q (.slice a (l.filter fun x=> !p x).length c) O):Cl Pr K 261 [.slice a l.length c,f] h Q:=by
 refine cW (Ut P hb d fun h d=>?_)
 rcases K5 (p:=p) (l:=l) (i:=0) with⟨B,r⟩|⟨j,x,B,r,T,U⟩
 .rw[B];have W:l.filter (fun x=> !p x)=l:=List.filter_eq_self.2 fun x hx=>by rw[r x hx];rfl
  rw[W] at F
  exact bH (aae (F _ d))
 rw[B]
 have Z:=(List.getElem?_eq_some_iff.1 r).1
 refine bH (aab (bW (aad ?_)))
 have loop:∀(k i:Nat) (m:List (Int×Int)) (h:AH),i+k=l.length->m.length<i->m=(l.take i).filter (fun x=> !p x)->∀t:List (Int×Int),(m++t).length=i->Hs G h (A::ls dK 2 261 a c (m++t++l.drop i)::L)->
   Dd 261 2 [] Q [(.slice a l.length c),f,(I m.length),(I i)] h:=by
  intro k
  induction k with
  |zero=>
   intro i m h X hm u t q d
   have v:i=l.length:=by omega
   refine bW (bU (bA (aab (bW ?_))))
   rw[v,List.take_length] at u
   rw[v,List.drop_length,List.append_nil] at d
   have d:Hs G h (cN 2 261 a c ((m++t).length,eL dK (m++t))::A::L):=d.lK
   have H:(m++t).length=l.length:=by omega
   rw[<-H]
   refine aF2 (n:=(m++t).length) (i:=m.length) (e:=261) (cs:=eL dK (m++t)) (by decide) aCu (by omega) d fun h d=>?_
   have:=F h
   rw[<-u] at this
   refine this ?_
   rw[Y7,List.take_left] at d
   exact d.lK
  |succ k R=>
   intro i m h X hm u t q d
   obtain⟨y,J,E⟩:=nA (l:=l) (i:=i) (by omega)
   have g:(m++t++l.drop i).length=l.length:=by rw[List.length_append,q,List.length_drop];omega
   have N:(m++t++l.drop i)[i]?=some y:=by rw[List.getElem?_append_right (by omega),q,Nat.sub_self,E];rfl
   have w:l.take (i+1)=l.take i++[y]:=by rw[List.take_add_one,J];rfl
   refine bW (bU (bA (aae (bW ?_))))
   rw[<-g]
   refine tO (l:=m++t++l.drop i) (a:=a) (c:=c) (enc:=dK) (e:=261) d (by decide) (by omega) (by rw[Int.toNat_natCast];exact N) (bQ d fun S h d=>ax d fun h d=>an S d (l:=dK y) rfl rfl ?_)
   refine P y h _ _ (d.front A) fun h d=>cH (eB (dI (fun D=>?_) (fun D=>?_)))
   .refine bW (aad ?_);have:=R (i+1) m h (by omega) (by omega) (by rw[w,List.filter_append,<-u];simp[D]) (t++[y]) (by simp at q ⊢;omega);rw[g];refine this ?_;rw[show m++(t++[y])++l.drop (i+1)=m++t++l.drop i by rw[E];simp];exact d.to
   .refine bW (an S d (l:=dK y) rfl rfl ?_);refine Im (l:=m++t++l.drop i) (a:=a) (c:=c) (enc:=dK) (e:=261) (y:=y) d (by decide) (by omega) (by omega) fun h d=>?_;cases t with
    |nil=>simp at q;omega
    |cons z t=>
     refine aad (aad ?_)
     have:=R (i+1) (m++[y]) h (by omega) (by simp;omega) (by rw[w,List.filter_append,<-u];simp[D]) (t++[y]) (by simp at q ⊢;omega)
     rw[List.length_append] at this
     rw[g]
     refine this ?_
     have V:(m++z::t++l.drop i).set ((m.length:Int)).toNat y=m++[y]++(t++[y])++l.drop (i+1):=by
      rw[Int.toNat_natCast,E,List.append_assoc,List.set_append_right _ _ (Nat.le_refl _),Nat.sub_self];simp
     rw[<-V]
     exact d.to
 have:=loop (l.length - (j+1)) (j+1) (l.take j) h (by omega) (by rw[List.length_take];omega) ?_ [x] ?_ ?_
 .rw[List.length_take,Nat.min_eq_left (by omega)] at this;rw[Nat.zero_add];exact this
 .rw[List.take_add_one,r,List.filter_append];rw[List.filter_eq_self.2 fun y J=>by rw[U y J];rfl];simp[T]
 .simp;omega
 .rw[show l.take j++[x]++l.drop (j+1)=l by
   obtain⟨Y,ex⟩:=List.getElem?_eq_some_iff.1 r;rw[<-ex,List.append_assoc,List.singleton_append,<-List.drop_eq_getElem_cons Y,List.take_append_drop]]
  exact d
end
section
set_option maxRecDepth 100000
variable {G:Bg} {h:AH} {L L':List HP} {Q:Value->AH->Prop} {C:bP}
theorem Y1 {p:Nat} {s:kE} {g:Int} (hb:s.known.length<=100) (d:Hs G h L) [m:Has (kN p C) L s L']
  (e:∀n v,Hs G v (kN p C (s.drop C g).1::L')->Q (.tuple ⟨[I n,I (s.drop C g).2]⟩) v):Cl Pr K 208 [pt p 0 0,I g] h Q:=by
 obtain⟨a,c,d⟩:=lQ (m.of d)
 unfold kE.drop at e
 have j:∀{h:AH} {M:List HP},[Sub M L']->Hs G h (aG p 0 (yW C s a c)::ls dK 2 261 a c s.known::M)->Hs G h (kN p C s::L'):=fun d=>(eK p C s (a:=a) (c:=c) d rfl rfl).to
 refine cW (dR d fun q h d=>dD (cG (bW (aY d fun r h d=>am q d rfl (bA (aX (fun w=>?_) (fun w=>?_)))))))
 .rw[aJ7 (.inl w)] at e;exact e _ _ (j (M:=aG q 0 [I g]::L') d.to)
 refine am q d rfl (aB (aA (am p d rfl (dW (aX (fun y=>?_) (fun y=>?_))))))
 .rw[aJ7 (.inr y)] at e;exact e _ _ (j (M:=aG q 0 [I g]::L') d.to)
 rw[aaa] at e
 dsimp only at e
 refine bW (bQ d fun p1 h d=>ax (b:=p1) d fun h d=>aB (aA (am p d rfl (bU (aB (aA (am p d rfl ?_)))))))
 have d:=d.cI (aG p1 0 [.func (.func 260) #[] #[pt q 0 0]]) (aG q 0 [I g])
 have d:=d.Hu
 have d:=d.cI (sp [aG p1 0 [.func (.func 260) #[] #[pt q 0 0]],aG q 0 [I g]]) (ls dK 2 261 a c s.known)
 refine W7 (kn (p:=p1) (q:=q) (g:=g)) (by omega) d fun h d=>?_
 have d:=d.G5
 refine aB (aA (ay (b:=p) (o:=0) d fun h d=>aY d fun B h d=>aB (aA (aA (am p d rfl ?_)))))
 have A:s.known.filter (fun x=> !pQ g x)=s.known.filter (fun x=> !decide (g= -1\/x.1=g)):=rfl
 have tail:∀{h:AH} {M:List HP} (st:Bool),[Sub M L']->Hs G h (aG p 0 [.bool s.kY,I s.bK,I s.at',.bool st,I C.entries,I C.aN,.slice a (s.known.filter fun x=> !pQ g x).length c]::ls dK 2 261 a c (s.known.filter fun x=> !pQ g x)::M)->
   st=(s.mX||(s.kY&&decide (g= -1\/s.bK=g)))->∀n:Int,Q (.tuple ⟨[I n,I 0]⟩) h:=by
  intro h M st _ d u n
  refine e n h ?_
  rw[<-u]
  have:=eK p C {s with known:=s.known.filter fun x=> !pQ g x,mX:=st} (a:=a) (c:=c) d rfl rfl
  exact(show Hs G h (kN p C {s with known:=s.known.filter (fun x=> !decide (g= -1\/x.1=g)),mX:=st}::M) from this).to
 refine dI (fun k=>?_) (fun k=>?_)
 .refine am p1 d rfl (aB (aA (aA (am p d rfl ?_))));refine mZ rfl (cW (am q d rfl (bH ?_)));have go:∀{b:Bool},b=decide (g= -1\/s.bK=g)->Br (.bool b) (Dd 208 3 [] Q [(pt p 0 0),(I s.known.length)] h) (bG (mT (pt p 0 0)) fun v26=>bG (gX 6 v26) fun v27=>bG (pK h v27) fun v28=>bG (kU v28) fun v29=>bG (vE .sub (I s.known.length) v29) fun v30=>Q (.tuple ⟨[v30,(I 0)]⟩) h):=by
   intro b f;have t:=List.length_filter_le (fun x=> !pQ g x) s.known;refine dI (fun l=>?_) (fun l=>?_);refine bW (aB (aA (aA (ay (b:=p) (o:=0) d fun h d=>aB (aA (am p d rfl (bU (rL (by omega) ?_))))))));refine tail (M:=aG p1 0 [.func (.func 260) #[] #[pt q 0 0]]::aG q 0 [I g]::L') true (d.sg (b:=p) (o:=0) (c:=[.bool s.kY,I s.bK,I s.at',.bool true,I C.entries,I C.aN,.slice a (s.known.filter fun x=> !pQ g x).length c]) rfl).to ?_ _;rw[<-f,l,k];simp;refine aB (aA (am p d rfl (bU (rL (by omega) ?_))));refine tail (M:=aG p1 0 [.func (.func 260) #[] #[pt q 0 0]]::aG q 0 [I g]::L') s.mX (d.sg (b:=p) (o:=0) (c:=[.bool s.kY,I s.bK,I s.at',.bool s.mX,I C.entries,I C.aN,.slice a (s.known.filter fun x=> !pQ g x).length c]) rfl).to ?_ _;rw[<-f,l,k];simp
  refine aX (fun z=>go (by rw[decide_eq_true (.inl z)])) (fun z=>am q d rfl (bH (go (decide_eq_decide.2 (by omega)))))
 .have t:=List.length_filter_le (fun x=> !pQ g x) s.known;refine aB (aA (am p d rfl (bU (rL (by omega) ?_))));refine tail (M:=aG p1 0 [.func (.func 260) #[] #[pt q 0 0]]::aG q 0 [I g]::L') s.mX (d.sg (b:=p) (o:=0) (c:=[.bool s.kY,I s.bK,I s.at',.bool s.mX,I C.entries,I C.aN,.slice a (s.known.filter fun x=> !pQ g x).length c]) rfl).to ?_ _;rw[k];simp
def Sg (q:Nat) (l:List (Int×Int)):HP:=vD fun x:Option Addr×Nat=>sp [aG q 0 [.slice x.1 l.length x.2],ls dK 2 261 x.1 x.2 l]
theorem me {p:Nat} {s:kE} (hb:s.known.length<=100) (d:Hs G h L) [m:Has (kN p C) L s L'] (j:∀q g,Hs G g (Sg q s.known::kN p C s::L')->Q (.func (.func 132) #[] #[pt q 0 0]) g):Cl Pr K 71 [pt p 0 0] h Q:=by
 obtain⟨a,c,d⟩:=lQ (m.of d);refine cW (bQ d fun q h d=>ui (eU (bW (aB (aA (am p d rfl (D7 (a:=a) (c:=c) (l:=s.known) hb d fun e f h d=>ax (b:=q) d fun h d=>j q _ ?_)))))));have d:=eK p C s (a:=a) (c:=c) (d.cI (aG p 0 (yW C s a c)) (ls dK 2 261 a c s.known)) rfl rfl;have d:=d.cI (aG q 0 [.slice e s.known.length f]) (ls dK 2 261 e f s.known);exact Hs.zX (A:=fun x:Option Addr×Nat=>sp [aG q 0 [.slice x.1 s.known.length x.2],ls dK 2 261 x.1 x.2 s.known]) (e,f) d.Hu
theorem yi {q:Nat} {l:List (Int×Int)} (hb:l.length<=1000):uc Pr K G 132 [] [pt q 0 0] (Sg q l) (l.map dK):=by
 intro k J y L h Q d E t u;obtain⟨⟨a,c⟩,d⟩:=d.B4;have d:=d.G5;have g:∀{h:AH} {M:List HP},Hs G h (aG q 0 [.slice a l.length c]::ls dK 2 261 a c l::M)->Hs G h (Sg q l::M):=fun d=>Hs.zX (A:=fun x:Option Addr×Nat=>sp [aG q 0 [.slice x.1 l.length x.2],ls dK 2 261 x.1 x.2 l]) (a,c) d.Hu;refine cW (am q d rfl (bU ?_));have loop:∀(f i:Nat) (h:AH),i+f=l.length->Hs G h (aG q 0 [.slice a l.length c]::ls dK 2 261 a c l::k ((l.drop i).map dK)::L)->Dd 132 1 [] Q [y,(.slice a l.length c),(I l.length),(I i)] h:=by
  intro f;induction f with
  |zero=>
   intro i h z d;rw[List.drop_of_length_le (by omega)] at d;exact bW (bA (aab (t _ _ (g d))))
  |succ f F=>
   intro i h z d;obtain⟨x,D,w⟩:=nA (l:=l) (i:=i) (by omega);rw[w,List.map_cons] at d;refine bW (bA (aae (bW (tO (l:=l) (a:=a) (c:=c) (enc:=dK) (e:=261) d (by decide) (by omega) (by rw[Int.toNat_natCast];exact D) (bQ d fun m h d=>ax d fun h d=>aA (am m d rfl (aA (am m d rfl ?_))))))));refine(E _ _ h _ (d.front (k (dK x::((l.drop (i+1)).map dK))))).mono fun v r B=>?_;rcases B with⟨rfl,j⟩|⟨rfl,j⟩;exact cH (cG (bW (aad (F (i+1) r (by omega) j.to))));exact cH (eU (u _ _ (g j.to)))
 exact loop l.length 0 h (by omega) (by rw[List.drop_zero];exact d)
end
section
instance:Fx aJ.enc 9:=⟨fun _=>rfl,fun _=>rfl⟩
set_option maxRecDepth 100000
variable {G:Bg} {h:AH} {L L':List HP} {Q:Value->AH->Prop} {C:bP}
abbrev uZ (a:Option Addr) (c:Nat) (l:List aJ):HP:=ls aJ.enc 9 175 a c l
def qE (C:bP) (p:Nat) (l:List aJ):HP:=vD fun x:Option Addr×Nat=>sp [aG p 0 [I C.depth,.slice x.1 l.length x.2],uZ x.1 x.2 l]
theorem E5 {p:Nat} {l:List aJ} (b:Hs G h (qE C p l::L)):∃a c,Hs G h (aG p 0 [I C.depth,.slice a l.length c]::uZ a c l::L):=by
 obtain⟨⟨a,c⟩,b⟩:=b.B4;exact⟨a,c,b.G5⟩
theorem pU {p:Nat} {l:List aJ} {a:Option Addr} {c:Nat} (b:Hs G h (aG p 0 [I C.depth,.slice a l.length c]::uZ a c l::L)):Hs G h (qE C p l::L):=
 Hs.zX (A:=fun x:Option Addr×Nat=>sp [aG p 0 [I C.depth,.slice x.1 l.length x.2],uZ x.1 x.2 l]) (a,c) b.Hu
theorem eu (hC:C.Ok) (a:Hs G h L) (d:∀p b,Hs G b (qE C p []::L)->Q (.tuple ⟨[pt p 0 0,I 0]⟩) b):Cl Pr K 147 [I C.depth] h Q:=by
 have f:1<=C.depth/\C.depth<=16:=hC.2.2.2.2.1;refine cW (bA (aab (mC (aab (aQ (c:=[I C.depth,.slice none 0 0]) rfl (dR a fun p h a=>d _ _ ?_))))));have a:=(vC (enc:=aJ.enc) (W:=9) (e:=175) a).lK;exact pU a
theorem Fs {a:Option Addr} {c:Nat} {l:List aJ} (hb:l.length<=2^30) (g:Hs G h L) [m:Has (uZ a c) L l L']
  (f:∀b c' d,Hs G d (uZ b c' l::uZ a c l::L')->Q (.slice b l.length c') d):Cl Pr K 139 [.slice a l.length c] h Q:=
 cW (sF (e:=175) (show Hs G h (cN 9 175 a c (l.length,eL aJ.enc l)::L') from m.of g) (by omega) f)
theorem ag {p:Nat} {l:List aJ} (g:1<=C.depth/\C.depth<=16) (hb:l.length<=1000) (d:Hs G h L) [m:Has (qE C p) L l L'] (f:∀e,Hs G e (qE C p l::L')->Q (I (C.depth - l.length)) e):Cl Pr K 269 [pt p 0 0] h Q:=by
 obtain⟨a,c,d⟩:=E5 (m.of d);refine cW (dD (cG (aY d fun r h d=>aB (aA (am p d rfl (aB (aA (am p d rfl (bU (rL (by omega) (f _ ?_)))))))))));exact pU (a:=a) (c:=c) d.to
theorem x7 {p:Nat} {l:List aJ} {n:aJ} {a2:Option Addr} {c2:Nat} (k:1<=C.depth/\C.depth<=16) (hb:(l.length:Int)<C.depth) (d:Hs G h L) [m:Has (qE C p) L l L'] {M:List HP} [r:dY (uZ a2 c2 [n]) L' M] (q:∀j,Hs G j (qE C p (l++[n])::M)->Q (I 0) j):
  Cl Pr K 216 [pt p 0 0,.slice a2 1 c2] h Q:=by
 have d:Hs G h (qE C p l::uZ a2 c2 [n]::M):=(m.of d).perm (r.perm.cons _)
 refine cW (dD (cG (bW (bU (ag (C:=C) (p:=p) (l:=l) k (by omega) d fun h d=>mC (aab ?_))))))
 obtain⟨a,c,d⟩:=E5 d
 refine bW (aB (aA (am p d rfl ?_)))
 refine uM (enc:=aJ.enc) (W:=9) (e:=175) (a:=a) (c:=c) (l:=l) (a2:=a2) (c2:=c2) (l2:=[n]) d (by simp;omega) fun f g h d=>?_
 refine aB (aA (ay (b:=p) (o:=0) d fun h d=>q _ ?_))
 have d:Hs G h (aG p 0 [I C.depth,.slice f (l++[n]).length g]::uZ f g (l++[n])::M):=(d.sg (b:=p) (o:=0) (c:=[I C.depth,.slice f (l++[n]).length g]) rfl).to
 exact pU d
theorem Fg {p:Nat} {l:List aJ} {w:Int} (hb:l.length<=1000) (g:Hs G h L) [m:Has (qE C p) L l L']
  (h0:l=[]->∀u,Hs G u (qE C p l::L')->Q (.tuple ⟨[.agg ⟨aJ.zero.enc⟩,I 12]⟩) u)
  (U:l≠[]->∀u,Hs G u (qE C p (l.eraseIdx (w % (l.length:Int)).toNat)::L')->Q (.tuple ⟨[.agg ⟨(l.getD (w % (l.length:Int)).toNat aJ.zero).enc⟩,I 0]⟩) u):Cl Pr K 199 [pt p 0 0,I w] h Q:=by
 obtain⟨a,c,g⟩:=E5 (m.of g)
 refine cW (bQ (cs:=aJ.zero.enc) g fun j h g=>dD (cG (bW (aB (aA (am p g rfl (bU (bH (aX (fun H=>?_) (fun H=>?_))))))))))
 .have E:l=[]:=List.eq_nil_of_length_eq_zero (by omega);refine aQ (c:=aJ.zero.enc) rfl (ax (b:=j) g fun h g=>an j g (l:=aJ.zero.enc) rfl rfl (h0 E _ (pU (a:=a) (c:=c) g.to)))
 have E:l≠[]:=fun e=>by rw[e] at H;simp at H
 have V:0<l.length:=List.length_pos_iff.2 E
 refine bW (aB (aA (am p g rfl (bU (Yb (by omega) ?_)))))
 obtain⟨k,r,α⟩:∃k:Nat,(k:Int)=w % (l.length:Int)/\k<l.length:=by
  have B:=Int.emod_nonneg w (b:=(l.length:Int)) (by omega);have S:=Int.emod_lt_of_pos w (b:=(l.length:Int)) (by omega);exact⟨(w % (l.length:Int)).toNat,by omega,by omega⟩
 rw[<-r,Int.toNat_natCast] at U
 have v:∀(M:List HP) (h:AH) (q:Nat),[Sub M L']->Hs G h (aG q 0 aJ.zero.enc::aG j 0 aJ.zero.enc::aG p 0 [I C.depth,.slice a l.length c]::uZ a c l::M)->Dd 199 5 [] Q [(pt p 0 0),(pt j 0 0),(I k),(pt q 0 0),(.slice none 0 0),(.slice a l.length c),(I l.length),(I 0)] h:=by
  intro M h q _ g;have loop:∀(f i:Nat) (b:Option Addr) (d:Nat) (x:aJ) (h:AH),i+f=l.length->x=(if i<=k then aJ.zero else l.getD k aJ.zero)->
    Hs G h (uZ b d ((l.take i).eraseIdx k)::aG q 0 x.enc::aG j 0 aJ.zero.enc::aG p 0 [I C.depth,.slice a l.length c]::uZ a c l::M)->
    Dd 199 5 [] Q [(pt p 0 0),(pt j 0 0),(I k),(pt q 0 0),(.slice b ((l.take i).eraseIdx k).length d),(.slice a l.length c),(I l.length),(I i)] h:=by
   intro f
   induction f with
   |zero=>
    intro i b d x h hi F g
    have N:i=l.length:=by omega
    rw[aaa] at F
    subst N
    rw[List.take_length] at g ⊢
    refine bW (bA (aab (bW (aB (aA (ay (b:=p) (o:=0) g fun h g=>an q g (l:=x.enc) rfl rfl (ax (b:=j) g fun h g=>an j g (l:=x.enc) rfl rfl ?_)))))))
    rw[F]
    refine U E h ?_
    have g:Hs G h (aG p 0 [I C.depth,.slice b (l.eraseIdx k).length d]::uZ b d (l.eraseIdx k)::M):=(g.sg (b:=p) (o:=0) (c:=[I C.depth,.slice b (l.eraseIdx k).length d]) rfl).to
    exact(pU g).to
   |succ f X=>
    intro i b d x h hi F g
    obtain⟨y,O,hd⟩:=nA (l:=l) (i:=i) (by omega)
    have A:l.take (i+1)=l.take i++[y]:=by rw[List.take_add_one,O];rfl
    have hle:((l.take i).eraseIdx k).length<=l.length:=by
     have:=List.length_eraseIdx_le (l.take i) k;rw[List.length_take] at this;omega
    refine bW (bA (aae (bW (tO (l:=l) (a:=a) (c:=c) (enc:=aJ.enc) (e:=175) g.tail (by decide) (by omega) (by rw[Int.toNat_natCast];exact O) (bQ g fun P h g=>ax (b:=P) g fun h g=>bH (aX (fun T=>?_) (fun T=>?_)))))))
    .have J:i=k:=by omega
     refine bW (an P g (l:=y.enc) rfl rfl (ax (b:=q) g fun h g=>aad ?_))
     have z:(l.take i).length=i:=by rw[List.length_take];omega
     have B:(l.take (i+1)).eraseIdx k=(l.take i).eraseIdx k:=by
      have S:(l.take i).eraseIdx k=l.take i:=List.eraseIdx_of_length_le (by omega);rw[A,List.eraseIdx_append_of_length_le (by omega),z,show k - i=0 by omega,S];simp
     have:=X (i+1) b d y h (by omega) (by rw[aaa,<-J,List.getD_eq_getElem?_getD,O];rfl)
     rw[B] at this
     exact this g.to
    .refine bW (an P g (l:=y.enc) rfl rfl (aQ (c:=y.enc) rfl (dL (W:=9) (n:=1) (c:=1) g rfl rfl rfl fun R h g=>?_)));refine uM (enc:=aJ.enc) (W:=9) (e:=175) (a:=b) (c:=d) (l:=(l.take i).eraseIdx k) (a2:=some R) (c2:=1) (l2:=[y]) (xV g) (by simp;omega) fun Y Z h g=>aad ?_;have B:(l.take (i+1)).eraseIdx k=(l.take i).eraseIdx k++[y]:=by
      rw[A];by_cases z:k<i;rw[List.eraseIdx_append_of_lt_length (by rw[List.length_take];omega)];rw[List.eraseIdx_of_length_le (by simp;omega),List.eraseIdx_of_length_le (by rw[List.length_take];omega)]
     have:=X (i+1) Y Z x h (by omega) (by rw[F];by_cases e:i<=k;rw[aJ7 e,aac];rw[aJ6 e,aaa])
     rw[B] at this
     exact this g.to
  have:=loop l.length 0 none 0 aJ.zero h (by omega) (by simp) (by simpa using vC (enc:=aJ.enc) (W:=9) (e:=175) g);simpa using this
 by_cases t:w.tmod (l.length:Int)<0
 .refine bA (bS t (bW (aB (aA (am p g rfl (bU ?_))))));have e:w.tmod (l.length:Int)+(l.length:Int)=(k:Int):=by
   rw[r];rw[Int.tmod_eq_emod] at t ⊢;split at t;have:=Int.emod_nonneg w (b:=(l.length:Int)) (by omega);omega;rename_i D;rw[aJ6 D];simp
  refine aad ?_
  rw[e]
  exact bQ (cs:=aJ.zero.enc) g fun q h g=>aB (aA (am p g rfl (bU (v L' h q g.to))))
 .refine bA (aU t (bW ?_));have e:w.tmod (l.length:Int)=(k:Int):=by
   rw[r];rw[Int.tmod_eq_emod] at t ⊢;split at t;rename_i D;rw[aJ7 D];simp;rename_i D;exfalso;have T:=Int.emod_lt_of_pos w (b:=(l.length:Int)) (by omega);have h3:=Int.emod_nonneg w (b:=(l.length:Int)) (by omega);simp at t;omega
  rw[e]
  exact bQ (cs:=aJ.zero.enc) g fun q h g=>aB (aA (am p g rfl (bU (v L' h q g.to))))
theorem Wx {p:Nat} {l:List aJ} (hb:l.length<=1000) (d:Hs G h L) [m:Has (qE C p) L l L'] (j:∀q g,Hs G g (qE C q l::qE C p l::L')->Q (pt q 0 0) g):Cl Pr K 141 [pt p 0 0] h Q:=by
 obtain⟨a,c,d⟩:=E5 (m.of d);refine cW (dD (cG (aY d fun r h d=>aB (aA (am p d rfl (aB (aA (am p d rfl (Fs (a:=a) (c:=c) (l:=l) (by omega) d fun e f h d=>?_)))))))));refine aQ (c:=[I C.depth,.slice e l.length f]) rfl (xD (i:=10) (r:=r) d rfl rfl fun q h d=>bT bZ (bT (aB bZ) (bT (aA bZ) (bT (am p d rfl gF) (j _ _ ?_)))));have d:Hs G h (aG p 0 [I C.depth,.slice a l.length c]::uZ a c l::aG q 0 [I C.depth,.slice e l.length f]::uZ e f l::L'):=d.to;have d:=pU d;exact(pU (show Hs G h (aG q 0 [I C.depth,.slice e l.length f]::uZ e f l::qE C p l::L') from d.to)).to
end
end Go.Proofs.YtajjljbmfdboaaaGreatDoor
namespace Go.Proofs.YtajjljbmfdboaaaGreatDoor
open Go Go.Ab Go.Hm Go.At Go.Mc Go.Nt
section
theorem aFy {k:Nat} (h:1<=k/\k<14):∃a,C4 k=1::a:=by
 rcases k14 h.2 with rfl|rfl|rfl|rfl|rfl|rfl|rfl|rfl|rfl|rfl|rfl|rfl|rfl|rfl;omega;all_goals exact⟨_,rfl⟩
theorem wq {C:bP} {n:aJ} (h:pG C n=0):Nu n.kind/\0<=n.core/\n.core<C.aE:=by
 unfold pG at h;split at h;rename_i b;split at h;split at h;rename_i d;refine⟨b,?_⟩;unfold Nu at b;obtain⟨g,e⟩:=aFy (k:=n.kind.toNat) (by omega);rw[e] at d;have a:=d.1;unfold oJ at a;split at a;rename_i f;exact f;cases a;cases h;cases h;cases h
theorem rf {k:Nat} (h:k<14):0<=On k/\On k<4:=by
 rcases k14 h with rfl|rfl|rfl|rfl|rfl|rfl|rfl|rfl|rfl|rfl|rfl|rfl|rfl|rfl<;>decide
theorem zT {n:aJ} (h:Nu n.kind):fX n<4/\On n.kind.toNat=(fX n:Int):=by
 unfold Nu at h;have:=rf (k:=n.kind.toNat) (by omega);unfold fX;omega
theorem K8 {_α:Type} {n j:Nat} {g:Nat->Value} {v:Value} (d:j<n):dN ((List.range n).map g) j [v]=(List.range n).map fun k=>if k=j then v else g k:=by
 rw[<-lS _ _ _ (by simp;omega)];apply List.ext_getElem?;intro i;unfold cC;simp only[List.length_singleton];by_cases h:i<j;rw[List.append_assoc,List.getElem?_append_left (by simp;omega),List.getElem?_take_of_lt h,List.getElem?_map,List.getElem?_map];by_cases a:i<n;rw[List.getElem?_range a];simp;intro e;omega;omega;rw[List.append_assoc,List.getElem?_append_right (by simp;omega)];have f:min j n=j:=by omega
 simp only[List.length_take,List.length_map,List.length_range,f];by_cases b:i=j;subst b;rw[List.getElem?_append_left (by simp),Nat.sub_self,List.getElem?_map,List.getElem?_range d];simp;rw[List.getElem?_append_right (by rw[List.length_singleton];omega),List.getElem?_drop,List.length_singleton,show j+1+(i - j - 1)=i by omega,List.getElem?_map,List.getElem?_map];by_cases a:i<n;rw[List.getElem?_range a];simp[b];rw[List.getElem?_eq_none (by simp;omega)];rfl
set_option maxRecDepth 100000
variable {G:Bg} {h:AH} {L L' M:List HP} {Q:Value->AH->Prop} {C:bP}
def mQ (C:bP) (pl:Nat->Nat):List Value:=C.enc++(List.range 16).map fun k=>if k<4*C.aE.toNat then pt (pl k) 0 0 else .pointer none
theorem xz {pl:Nat->Nat} {k:Nat} (a:k<16):(mQ C pl)[7+k]?=some (if k<4*C.aE.toNat then pt (pl k) 0 0 else .pointer none):=by
 unfold mQ;rw[List.getElem?_append_right (by simp[bP.enc])];simp[bP.enc,List.getElem?_range a]
abbrev nV (C:bP) (pl:Nat->Nat) (F:gL) (k:Nat):HP:=qE C (pl k) (F (k/4) (k % 4))
def vF (C:bP) (f:Nat) (F:gL):HP:=vD fun pl:Nat->Nat=>sp [aG f 0 (mQ C pl),dF (4*C.aE.toNat) (nV C pl F)]
theorem Mk {f:Nat} {F:gL} (a:Hs G h (vF C f F::L)):∃pl,Hs G h (aG f 0 (mQ C pl)::dF (4*C.aE.toNat) (nV C pl F)::L):=by
 obtain⟨pl,a⟩:=a.B4;exact⟨pl,a.G5⟩
theorem pT {f:Nat} {F:gL} {pl:Nat->Nat} (a:Hs G h (aG f 0 (mQ C pl)::dF (4*C.aE.toNat) (nV C pl F)::L)):Hs G h (vF C f F::L):=
 Hs.zX (A:=fun pl:Nat->Nat=>sp [aG f 0 (mQ C pl),dF (4*C.aE.toNat) (nV C pl F)]) pl a.Hu
def lr (C:bP) (pl:Nat->Nat) (F:gL) (k:Nat):HP:=sp (((List.range (4*C.aE.toNat)).erase k).map (nV C pl F))
theorem Ir {F:gL} {pl:Nat->Nat} {k:Nat} (a:k<4*C.aE.toNat) (b:Hs G h (dF (4*C.aE.toNat) (nV C pl F)::L)):Hs G h (qE C (pl k) (F (k/4) (k % 4))::lr C pl F k::L):=b.jX k a
theorem o9 {F:gL} {k j:Nat} {l:List aJ}:(F.set (k/4) (k % 4) l) (j/4) (j % 4)=if j=k then l else F (j/4) (j % 4):=by
 unfold gL.set;by_cases e:j=k;subst e;simp;rw[aJ6 e,aaa]
theorem R4 {F:gL} {pl:Nat->Nat} {k:Nat} {l:List aJ} (b:k<4*C.aE.toNat) (d:Hs G h (qE C (pl k) l::lr C pl F k::L)):Hs G h (dF (4*C.aE.toNat) (nV C pl (F.set (k/4) (k % 4) l))::L):=by
 refine Hs.aB8 (i:=k) (f:=nV C pl F) (g:=nV C pl (F.set (k/4) (k % 4) l)) b (fun j a=>?_) ?_;unfold nV;rw[o9,aJ6 a];have e:nV C pl (F.set (k/4) (k % 4) l) k=qE C (pl k) l:=by unfold nV;rw[o9,aJ7 rfl]
 rw[e];exact d
theorem Cy {f:Nat} {pl:Nat->Nat} {x y:Int} (hC:C.Ok) (d:Hs G h L) [m:Has (aG f 0) L (mQ C pl) L'] (a:Q (if(0<=x/\x<C.aE)/\(0<=y/\y<4) then pt (pl (x.toNat*4+y.toNat)) 0 0 else .pointer none) h):Cl Pr K 115 [pt f 0 0,I x,I y] h Q:=by
 have l:=hC.1;refine cW (dD (cG (bA (aX (fun e=>?_) (fun e=>aB (aA (aA (am f d rfl (dW (aX (fun g=>?_) (fun g=>bA (aX (fun j=>?_) (fun j=>dW (aX (fun k=>?_) (fun k=>?_)))))))))))))));rw[aaa] at a;exact a;rw[aaa] at a;exact a;rw[aaa] at a;exact a;rw[aaa] at a;exact a;rw[aac] at a;refine aB (aA (dX (by omega) (by omega) (dX (by omega) (by omega) (am f d (v:=pt (pl (x.toNat*4+y.toNat)) 0 0) ?_ a))));rw[show 0+7+x.toNat*4+y.toNat*1=7+(x.toNat*4+y.toNat) by omega,xz (by omega),aac]
theorem wu {f:Nat} {F:gL} {pl:Nat->Nat} {x:Nat} {y:Nat} (hC:C.Ok) (m:∀c w,(F c w).length<=1000) (r:(x:Int)<C.aE) (t:y<4) (a:Hs G h (aG f 0 (mQ C pl)::dF (4*C.aE.toNat) (nV C pl F)::L)) (o:∀j,Hs G j (aG f 0 (mQ C pl)::dF (4*C.aE.toNat) (nV C pl F)::L)->Q (I (C.depth - (F x y).length)) j):Cl Pr K 215 [pt f 0 0,I x,I y] h Q:=by
 have q:=hC.1;have d:1<=C.depth/\C.depth<=16:=hC.2.2.2.2.1;refine cW (Cy (C:=C) (pl:=pl) hC a ?_);rw[aac];have b:x*4+y<4*C.aE.toNat:=by omega
 have a:=Ir b a.lK;rw[show((x:Int)).toNat*4+((y:Int)).toNat=x*4+y by omega];refine ag (C:=C) (l:=F ((x*4+y)/4) ((x*4+y) % 4)) d (m _ _) a fun h a=>?_;have g:(x*4+y)/4=x/\(x*4+y) % 4=y:=by omega
 have:=o h;rw[g.1,g.2];refine this ?_;have a:=R4 b a;have k:F.set ((x*4+y)/4) ((x*4+y) % 4) (F ((x*4+y)/4) ((x*4+y) % 4))=F:=by
  funext c w;unfold gL.set;split;rename_i e;rw[e.1,e.2];rfl
 rw[k] at a;exact a.lK
def wY (F a:gL):List Value:=(List.range 16).map fun k=>I (((a (k/4) (k % 4)).length:Int) - (F (k/4) (k % 4)).length)
theorem vx {F a:gL} {x y:Nat} (d:x<4) (e:y<4):(wY F a)[x*4+y]?=some (I (((a x y).length:Int) - (F x y).length)):=by
 unfold wY;rw[List.getElem?_map,List.getElem?_range (by omega)];have b:(x*4+y)/4=x/\(x*4+y) % 4=y:=by omega
 simp[b.1,b.2]
theorem xj {F a:gL} {n:aJ} {x y:Nat} (f:n.core.toNat=x) (j:fX n=y) (g:x<4) (l:y<4):dN (wY F a) (x*4+y) [I (((a x y).length:Int) - (F x y).length+1)]=wY F (a.put n):=by
 unfold wY;rw[K8 (_α:=Nat) (by omega)];refine List.map_congr_left fun k d=>?_;have d:=List.mem_range.1 d;unfold gL.put;rw[f,j];by_cases e:k=x*4+y;subst e;have b:(x*4+y)/4=x/\(x*4+y) % 4=y:=by omega
 rw[aJ7 rfl,b.1,b.2];unfold gL.set;rw[aJ7 ⟨rfl,rfl⟩,List.length_append];congr 1;simp;omega;rw[aJ6 e];unfold gL.set;rw[aaa]
end
section
set_option maxRecDepth 100000
variable {G:Bg} {h:AH} {L L' M:List HP} {Q:Value->AH->Prop} {C:bP}
theorem kx {d:Int} {F:gL} {n:aJ} {l:List aJ}:gL.yX d F (n::l)=if((F n.core.toNat (fX n)).length:Int)<d then gL.yX d (F.put n) l else none:=rfl
theorem mo {n:aJ} {l:List aJ}:cQ C (n::l)=if pG C n≠0 then pG C n else cQ C l:=rfl
theorem Uv {l:List aJ} (h:cQ C l=0):∀n∈l,pG C n=0:=by
 induction l with
 |nil=>intro n a;cases a
 |cons x l d=>
  unfold cQ at h;split at h;rename_i b;exact absurd h b;rename_i b;intro n a;rcases List.mem_cons.1 a with rfl|a;omega;exact d h n a
theorem ry {f:Nat} {F:gL} {n:aJ} {a2:Option Addr} {c2:Nat} (hC:C.Ok) (m:pG C n=0) (o:((F n.core.toNat (fX n)).length:Int)<C.depth) {pl:Nat->Nat} {Q:Value->AH->Prop}
  (a:Hs G h (uZ a2 c2 [n]::aG f 0 (mQ C pl)::dF (4*C.aE.toNat) (nV C pl F)::L)) (j:∀g,Hs G g (aG f 0 (mQ C pl)::dF (4*C.aE.toNat) (nV C pl (F.put n))::L)->Q (I 0) g):
  Cl Pr K 216 [pt (pl (n.core.toNat*4+fX n)) 0 0,.slice a2 1 c2] h Q:=by
 obtain⟨e,k⟩:=wq m
 have r:=(zT e).1
 have q:=hC.1
 have b:n.core.toNat*4+fX n<4*C.aE.toNat:=by omega
 have d:(n.core.toNat*4+fX n)/4=n.core.toNat/\(n.core.toNat*4+fX n) % 4=fX n:=by omega
 have a:=Ir b (a.front (dF (4*C.aE.toNat) (nV C pl F)))
 rw[d.1,d.2] at a
 refine x7 (C:=C) (l:=F n.core.toNat (fX n)) (n:=n) hC.2.2.2.2.1 o a fun h a=>?_
 have a:Hs G h (qE C (pl (n.core.toNat*4+fX n)) (F n.core.toNat (fX n)++[n])::lr C pl F (n.core.toNat*4+fX n)::aG f 0 (mQ C pl)::L):=a.to
 have a:=R4 b a
 rw[d.1,d.2] at a
 exact j _ a.lK
theorem Fq {f:Nat} {F:gL} {l:List aJ} {a:Option Addr} {c:Nat} (hC:C.Ok) (hd:∀c w,(F c w).length<=500) (hl:l.length<=100) (T:Ob G 2 xW) (ε:Ob G 0 eT) (d:Hs G h L) [m:Has (vF C f) L F L'] [m2:dY (uZ a c l) L' M]
  (S:∀h',Hs G h' (vF C f (gL.send C F l).1::uZ a c l::M)->Q (I (gL.send C F l).2) h'):Cl Pr K 157 [pt f 0 0,.slice a l.length c] h Q:=by
 have hc:=hC.1
 have ι:1<=C.depth/\C.depth<=16:=hC.2.2.2.2.1
 obtain⟨pl,d⟩:=Mk (m.of d)
 have d:Hs G h (uZ a c l::aG f 0 (mQ C pl)::dF (4*C.aE.toNat) (nV C pl F)::M):=d.perm (((m2.perm.cons _).cons _).trans (((List.Perm.swap _ _ _).cons _).trans (List.Perm.swap _ _ _)))
 unfold gL.send at S
 have P:∀{h:AH} {L2:List HP} {J:gL},[Sub L2 M]->Hs G h (uZ a c l::aG f 0 (mQ C pl)::dF (4*C.aE.toNat) (nV C pl J)::L2)->Hs G h (vF C f J::uZ a c l::M):=by
  intro h L2 J _ d;have d:=d.cI (aG f 0 (mQ C pl)) (dF (4*C.aE.toNat) (nV C pl J));exact(pT d).to
 have α:∀(k i:Nat) (j Fe:gL) (L2:List HP) (h:AH),[Sub L2 M]->i+k=l.length->cQ C l=0->gL.yX C.depth F l=some Fe->gL.yX C.depth j (l.drop i)=some Fe->Hs G h (uZ a c l::aG f 0 (mQ C pl)::dF (4*C.aE.toNat) (nV C pl j)::L2)->
   Dd 157 10 [] Q [(pt f 0 0),(.slice a l.length c),(I l.length),(I i)] h:=by
  intro k
  induction k with
  |zero=>
   intro i j Fe L2 h _ hi q g O d
   rw[List.drop_of_length_le (by omega)] at O
   cases O
   rw[aaa,g] at S
   exact bW (bA (aab (S _ (P d))))
  |succ k ih=>
   intro i j Fe L2 h _ hi q g O d
   obtain⟨x,W,v⟩:=nA (l:=l) (i:=i) (by omega)
   have E:=Uv q x (List.mem_of_getElem? W)
   obtain⟨z,δ⟩:=wq E
   obtain⟨t,U⟩:=zT z
   rw[v] at O
   unfold gL.yX at O
   split at O
   .rename_i V;refine bW (bA (aae (bW (tO (l:=l) (a:=a) (c:=c) (enc:=aJ.enc) (e:=175) d (by decide) (by omega) (by rw[Int.toNat_natCast];exact W) (bQ d fun u h d=>ax (b:=u) d fun h d=>aA (am u d rfl (N.Z9 T d ?_)))))));rw[aJ7 z,U];refine aH rfl (aH rfl (bC (aab (bW (aY d fun r1 h0 B=>aA (am u B rfl (Cy (C:=C) (pl:=pl) hC B ?_)))))));rw[aac];refine an u B (l:=x.enc) rfl rfl (aQ (c:=x.enc) rfl (jV (r:=r1) (i:=6) (N:=9) (D:=[]) B rfl rfl rfl rfl rfl fun a2 h d=>?_));have d:=xV d;have d:Hs G h (uZ (some a2) 1 [x]::aG f 0 (mQ C pl)::dF (4*C.aE.toNat) (nV C pl j)::uZ a c l::L2):=d.to;rw[show(x.core.toNat*4+((fX x:Nat):Int).toNat)=x.core.toNat*4+fX x by omega];refine ry (f:=f) hC E V d fun h d=>bT (an u B (l:=x.enc) rfl rfl (oP ?_)) (bC (aab (bW (aad (ih (i+1) (j.put x) Fe L2 h (by omega) q g O d.to)))));simp[aJ.enc,nG]
   .cases O
 have Z:∀(k i p:Nat) (j:gL) (L2:List HP) (h:AH),[Sub L2 M]->i+k=l.length->cQ C l=0->gL.yX C.depth F l=gL.yX C.depth j (l.drop i)->(∀c w,(j c w).length<=500+i)->Hs G h (aG p 0 (wY F j)::uZ a c l::aG f 0 (mQ C pl)::dF (4*C.aE.toNat) (nV C pl F)::L2)->
   Dd 157 6 [] Q [(pt f 0 0),(.slice a l.length c),(pt p 0 0),(.slice a l.length c),(I l.length),(I i)] h:=by
  intro k
  induction k with
  |zero=>
   intro i p j L2 h _ hi q g A d
   rw[List.drop_of_length_le (by omega)] at g
   refine bW (bA (aab (bW (bU ?_))))
   exact α l.length 0 F j L2 h (by omega) q g (by rw[List.drop_zero];exact g) d.tail
  |succ k ih=>
   intro i p j L2 h _ hi q g A d
   obtain⟨x,W,v⟩:=nA (l:=l) (i:=i) (by omega)
   have E:=Uv q x (List.mem_of_getElem? W)
   obtain⟨z,δ⟩:=wq E
   obtain⟨t,U⟩:=zT z
   obtain⟨y,hy⟩:∃y:Nat,x.core=(y:Int):=⟨x.core.toNat,by omega⟩
   have X:x.core.toNat=y:=by omega
   rw[v,kx,X] at g
   have η:=A y (fX x)
   have θ:=hd y (fX x)
   refine bW (bA (aae (bW (tO (l:=l) (a:=a) (c:=c) (enc:=aJ.enc) (e:=175) d (by decide) (by omega) (by rw[Int.toNat_natCast];exact W) (bQ d fun u h d=>ax (b:=u) d fun h d=>aA (am u d rfl (N.Z9 T d ?_)))))))
   rw[aJ7 z,U]
   have H:x.enc[0+1]?=some (I (y:Int)):=by rw[<-hy];rfl
   have R:∀{J:gL},(wY F J)[0+y*4+fX x*1]?=some (I (((J y (fX x)).length:Int) - (F y (fX x)).length)):=by
    intro J;rw[show 0+y*4+fX x*1=y*4+fX x by omega];exact vx (by omega) t
   have γ:dN (wY F j) (0+y*4+fX x*1) [I (((j y (fX x)).length:Int) - (F y (fX x)).length+1)]=wY F (j.put x):=by
    rw[show 0+y*4+fX x*1=y*4+fX x by omega];exact xj X rfl (by omega) t
   have β:(wY F j).length=16:=by simp[wY]
   refine aH rfl (aH rfl (bC (aab (bW (aY d fun r1 h d=>aA (am u d H (fQ (by omega) (fQ t (am p d R (aad (fQ (by omega) (fQ t ?_))))))))))))
   refine bJ (b:=p) (o:=0) d rfl (by rw[β];exact Nat.ble_eq_true_of_le (by omega)) rfl (by rw[β];rfl) fun h d=>?_
   rw[γ] at d
   refine aY d fun r2 h d=>aA (am u d H (fQ (by omega) (fQ t (am p d R (aA (am u d H ?_))))))
   have ζ:((j.put x) y (fX x)).length=(j y (fX x)).length+1:=by unfold gL.put gL.set;rw[X,aJ7 ⟨rfl,rfl⟩,List.length_append];rfl
   have d:=d.cI (aG f 0 (mQ C pl)) (dF (4*C.aE.toNat) (nV C pl F))
   refine wu (C:=C) (F:=F) (x:=y) (y:=fX x) hC (fun c w=>by have:=hd c w;omega) (by omega) t d fun h d=>mC ?_
   refine bT (aA bZ) (bT (am u d H gF) (bT gF (bT (fQ (by omega) bZ) (bT (fQ t bZ) (bT (am p d R gF) ?_)))))
   rw[ζ]
   refine aX (fun h1=>?_) (fun h1=>?_)
   .rw[aaa] at g;rw[aaa,g] at S;refine S _ ?_;have d:=d.cI (aG f 0 (mQ C pl)) (dF (4*C.aE.toNat) (nV C pl F));exact(pT d).to
   .rw[aac] at g;refine bW (aad (ih (i+1) p (j.put x) L2 h (by omega) q g (fun c w=>?_) d.to));have h2:((j.put x) c w).length<=(j c w).length+1:=by
     unfold gL.put gL.set;split;rename_i e;rw[e.1,e.2];simp;omega
    have:=A c w
    omega
 have Y:∀(k i:Nat) (h:AH),i+k=l.length->cQ C l=cQ C (l.drop i)->Hs G h (uZ a c l::aG f 0 (mQ C pl)::dF (4*C.aE.toNat) (nV C pl F)::M)->
   Dd 157 2 [] Q [(pt f 0 0),(.slice a l.length c),(.slice a l.length c),(I l.length),(I i)] h:=by
  intro k
  induction k with
  |zero=>
   intro i h hi g d
   rw[List.drop_of_length_le (by omega)] at g
   refine bW (bA (aab (bW (bQ d fun p h d=>bU ?_))))
   refine Z l.length 0 p F M h (by omega) g (by rw[List.drop_zero]) (fun c w=>by have:=hd c w;omega) ?_
   have e:wY F F=[I 0,I 0,I 0,I 0,I 0,I 0,I 0,I 0,I 0,I 0,I 0,I 0,I 0,I 0,I 0,I 0]:=by
    unfold wY;simp only[Int.sub_self];rfl
   rw[e];exact d
  |succ k ih=>
   intro i h hi g d
   obtain⟨x,W,v⟩:=nA (l:=l) (i:=i) (by omega)
   rw[v,mo] at g
   refine bW (bA (aae (bW (tO (l:=l) (a:=a) (c:=c) (enc:=aJ.enc) (e:=175) d (by decide) (by omega) (by rw[Int.toNat_natCast];exact W) (bQ d fun u h d=>ax (b:=u) d fun h d=>aY d fun r1 h d=>aB (aA (an f d (l:=C.enc) rfl rfl (an u d (l:=x.enc) rfl rfl ?_))))))))
   refine N.aDv (C:=C) (n:=x) T ε d fun h d=>bC (aX (fun h1=>?_) (fun h1=>?_))
   .rw[aJ7 h1] at g;rw[aJ7 (by rw[g];exact h1),g] at S;exact S _ (P (L2:=aG u 0 x.enc::M) d.to)
   .rw[aJ6 h1] at g;exact bW (aad (ih (i+1) h (by omega) g d.to))
 refine cW (dD (cG (bW (bU ?_))))
 exact Y l.length 0 h (by omega) (by rw[List.drop_zero]) d
end
end Go.Proofs.YtajjljbmfdboaaaGreatDoor
end
namespace Go.Proofs.YtajjljbmfdboaaaGreatDoor
open Go Go.Ab Go.Hm Go.At Go.Mc Go.Nt
section
theorem Iq {k:Value->Prop} (a:k (.bool true)):bG (Ro .eql (.pointer none) (.pointer none)) k:=⟨_,rfl,a⟩
set_option maxRecDepth 100000
attribute [local irreducible] bG Br pK sD tZ Cq mN wW lR Rs gX mT rA rG pJ kU zA vE V9 V4 Ro Ps Vv Qm Jp Nb Vm lB oL tX jK copyV iQ xK V7 V8 Hn lG Nc Sp V2 oA rY yU Ao Cl yO Vx tE sC kJ hT setLoop cT
variable {G:Bg} {h:AH} {L L' M:List HP} {Q:Value->AH->Prop} {C:bP}
theorem Xm {f:Nat} {F:gL} {x y w:Int} (hC:C.Ok) (v:∀c w,(F c w).length<=500) (a:Hs G h L) [m:Has (vF C f) L F L']
  (d:∀g,Hs G g (vF C f (gL.take C F x y w).1::L')->Q (.tuple ⟨[.agg ⟨(gL.take C F x y w).2.1.enc⟩,I (gL.take C F x y w).2.2]⟩) g):Cl Pr K 155 [pt f 0 0,I x,I y,I w] h Q:=by
 have A:=hC.1
 obtain⟨pl,a⟩:=Mk (m.of a)
 unfold gL.take at d
 refine cW (bQ (cs:=aJ.zero.enc) a fun p h a=>dD (cG (bW (Cy (C:=C) (pl:=pl) hC a ?_))))
 by_cases q:(0<=x/\x<C.aE)/\(0<=y/\y<4)
 .rw[aaa] at d;rw[aJ7 q];refine dD (cG ?_);have j:x.toNat*4+y.toNat<4*C.aE.toNat:=by omega
  have k:(x.toNat*4+y.toNat)/4=x.toNat/\(x.toNat*4+y.toNat) % 4=y.toNat:=by omega
  have a:=Ir j (a.front (dF (4*C.aE.toNat) (nV C pl F)))
  rw[k.1,k.2] at a
  have fin:∀{h:AH} (l:List aJ) (n:aJ) (e:Int),Hs G h (qE C (pl (x.toNat*4+y.toNat)) l::lr C pl F (x.toNat*4+y.toNat)::aG p 0 aJ.zero.enc::aG f 0 (mQ C pl)::L')->(∀g,Hs G g (vF C f (F.set x.toNat y.toNat l)::L')->Q (.tuple ⟨[.agg ⟨n.enc⟩,I e]⟩) g)->
    bG (rA 0 (.tuple ⟨[.agg ⟨n.enc⟩,I e]⟩)) fun v3=>bG (rA 1 (.tuple ⟨[.agg ⟨n.enc⟩,I e]⟩)) fun v4=>bG (tZ h 9 (pt p 0 0) v3) fun t=>bG (sD t 9 (pt p 0 0)) fun v6=>Q (.tuple ⟨[v6,v4]⟩) t:=by
   intro h l n e a z
   refine aH rfl (aH rfl (ax (b:=p) a fun h a=>an p a (l:=n.enc) rfl rfl (z _ ?_)))
   have a:=R4 j (a.cI (qE C (pl (x.toNat*4+y.toNat)) l) (lr C pl F (x.toNat*4+y.toNat)))
   rw[k.1,k.2] at a
   have a:=a.cI (aG f 0 (mQ C pl)) (dF (4*C.aE.toNat) (nV C pl (F.set x.toNat y.toNat l)))
   exact(pT a).to
  dsimp only at d
  refine Fg (C:=C) (l:=F x.toNat y.toNat) (by have:=v x.toNat y.toNat;omega) a (fun r h a=>?_) (fun r h a=>?_)
  .rw[aJ7 r] at d;refine fin _ _ _ a fun h a=>d _ ?_;have u:F.set x.toNat y.toNat (F x.toNat y.toNat)=F:=by
    funext c w;unfold gL.set;split;rename_i e;rw[e.1,e.2];rfl
   rw[u] at a
   exact a
  .rw[aJ6 r] at d;exact fin _ _ _ a d
 .rw[aJ7 q] at d;rw[aJ6 q];refine Iq (eU (aQ (c:=aJ.zero.enc) rfl ?_));refine ax (b:=p) a fun h a=>?_;refine an p a (l:=aJ.zero.enc) rfl rfl (d _ ?_);exact pT a.tail
def uC (C:bP) (pl:Nat->Nat) (n:Nat):List Value:=C.enc++(List.range 16).map fun k=>if k<n then pt (pl k) 0 0 else .pointer none
theorem Tn {pl:Nat->Nat} {n p:Nat} (f:n<16):dN (uC C pl n) (7+n) [pt p 0 0]=uC C (aS pl n p) (n+1):=by
 unfold uC;have e:∀(A B:List Value) (j:Nat) (v:List Value),j+v.length<=B.length->dN (A++B) (A.length+j) v=A++dN B j v:=by
  intro A;induction A with
  |nil=>intro B j v d;simp
  |cons x A g=>intro B j v d;rw[List.cons_append,List.length_cons,show A.length+1+j=(A.length+j)+1 by omega];show x::dN (A++B) (A.length+j) v=_;rw[g B j v d];rfl
 rw[show 7+n=C.enc.length+n by simp[bP.enc],e _ _ _ _ (by simp;omega),K8 (_α:=Nat) f];congr 1;refine List.map_congr_left fun k _=>?_;by_cases a:k=n;subst a;rw[aJ7 rfl,aac,cJ];rw[aJ6 a];by_cases b:k<n;rw[aJ7 b,aac,cF a];rw[aJ6 b,aaa]
theorem Ec {pl:Nat->Nat} {n:Nat}:(uC C pl n).length=23:=by unfold uC;simp[bP.enc]
theorem cu {n p:Nat} {pl:Nat->Nat} {F:gL} (a:Hs G h (qE C p (F (n/4) (n % 4))::dF n (nV C pl F)::L)):Hs G h (dF (n+1) (nV C (aS pl n p) F)::L):=by
 refine Hs.Tz ?_;have b:nV C (aS pl n p) F n=qE C p (F (n/4) (n % 4)):=by unfold nV;rw[cJ]
 rw[b];have a:=a.lK;have a:=qB (g:=nV C (aS pl n p) F) (fun j d=>by unfold nV;rw[cF (by omega)]) a;exact a.lK
theorem ln (hC:C.Ok) (g:Ob G 0 eT) (a:Hs G h L) (t:∀f r,Hs G r (vF C f (fun _ _=>[])::L)->Q (.tuple ⟨[pt f 0 0,I 0]⟩) r):Cl Pr K 88 [.agg ⟨C.enc⟩] h Q:=by
 have v:=hC.1;refine cW (dR a fun p h a=>an p a (l:=C.enc) rfl rfl (nB g a fun h a=>?_));rw[aJ7 hC];refine bC (aab (bW (an p a (l:=C.enc) rfl rfl (aQ (c:=uC C (fun _=>0) 0) rfl (dR a fun f h a=>aA (am p a rfl ?_))))));have inner:∀(k w x:Nat) (pl:Nat->Nat) (h:AH),w+k=4->(x:Int)<C.aE->(∀(pl:Nat->Nat) (h:AH),Hs G h (aG f 0 (uC C pl (4*x+4))::aG p 0 C.enc::dF (4*x+4) (nV C pl fun _ _=>[])::L)->Dd 88 6 [] Q [(pt p 0 0),(pt f 0 0),(I C.aE),(I x)] h)->
   Hs G h (aG f 0 (uC C pl (4*x+w))::aG p 0 C.enc::dF (4*x+w) (nV C pl fun _ _=>[])::L)->Dd 88 4 [] Q [(pt p 0 0),(pt f 0 0),(I x),(I C.aE),(I x),(I w)] h:=by
  intro k
  induction k with
  |zero=>
   intro w x pl h u d j a
   have:w=4:=by omega
   subst this
   exact bW (bA (aab (j pl h a)))
  |succ k m=>
   intro w x pl h u d j a
   refine bW (bA (aae (bW (aA (am p a rfl (eu hC a fun q h a=>aH rfl (aH rfl (bC (aab (bW (aB (aA (fQ (by omega) (fQ (by omega) ?_))))))))))))))
   refine bJ (b:=f) (o:=0) a rfl (by rw[Ec];exact Nat.ble_eq_true_of_le (by simp;omega)) rfl (by rw[Ec];rfl) fun h a=>aad ?_
   rw[show 0+7+x*4+w*1=7+(4*x+w) by omega,Tn (by omega)] at a
   refine m (w+1) x (aS pl (4*x+w) q) h (by omega) d j ?_
   have a:=a.cI (qE C q []) (dF (4*x+w) (nV C pl fun _ _=>[]))
   have a:=cu (F:=fun _ _=>[]) a
   exact(show Hs G h (aG f 0 (uC C (aS pl (4*x+w) q) (4*x+(w+1)))::aG p 0 C.enc::dF (4*x+(w+1)) (nV C (aS pl (4*x+w) q) fun _ _=>[])::L) from a.to)
 have outer:∀(k x:Nat) (pl:Nat->Nat) (h:AH),x+k=C.aE.toNat->Hs G h (aG f 0 (uC C pl (4*x))::aG p 0 C.enc::dF (4*x) (nV C pl fun _ _=>[])::L)->Dd 88 2 [] Q [(pt p 0 0),(pt f 0 0),(I C.aE),(I x)] h:=by
  intro k;induction k with
  |zero=>
   intro x pl h d a;refine bW (bA (aab (t f h ?_)));have e:x=C.aE.toNat:=by omega
   subst e;have a:Hs G h (aG f 0 (mQ C pl)::aG p 0 C.enc::dF (4*C.aE.toNat) (nV C pl fun _ _=>[])::L):=a;exact(pT (show Hs G h (aG f 0 (mQ C pl)::dF (4*C.aE.toNat) (nV C pl fun _ _=>[])::L) from a.to))
  |succ k m=>
   intro x pl h d a;refine bW (bA (aae (bW ?_)));refine inner 4 0 x pl h (by omega) (by omega) (fun pl h a=>bW (aad (m (x+1) pl h (by omega) ?_))) a;exact(show Hs G h (aG f 0 (uC C pl (4*(x+1)))::aG p 0 C.enc::dF (4*(x+1)) (nV C pl fun _ _=>[])::L) from by rw[show 4*(x+1)=4*x+4 by omega];exact a)
 have a:=Hs.Tw (f:=nV C (fun _=>0) fun _ _=>[]) a;exact outer C.aE.toNat 0 (fun _=>0) h (by omega) (show Hs G h (aG f 0 (uC C (fun _=>0) 0)::aG p 0 C.enc::dF 0 (nV C (fun _=>0) fun _ _=>[])::L) from a.to)
end
section
theorem aBv {n a i:Nat} {l m:List Value} {k:Value->Prop} (f:i<n) (d:i*a+a<=l.length) (e:(l.drop (i*a)).take a=m) (b:k (.agg ⟨m⟩)):bG (Sp n a (.agg ⟨l⟩) (I i)) k:=
 ⟨.agg ⟨m⟩,by unfold Sp;simp only;rw[aJ7 ⟨by omega,by omega,by simpa using d⟩];simp[e],b⟩
set_option maxRecDepth 100000
attribute [local irreducible] bG Br pK sD tZ Cq mN wW lR Rs gX mT rA rG pJ kU zA vE V9 V4 Ro Ps Vv Qm Jp Nb Vm lB oL tX jK copyV iQ xK V7 V8 Hn lG Nc Sp V2 oA rY yU Ao Cl yO Vx tE sC kJ hT setLoop cT
variable {G:Bg} {h:AH} {L L' M:List HP} {Q:Value->AH->Prop} {C:bP}
def lD (C:bP) (pl:Nat->Nat):List Value:=(List.range 16).map fun k=>if k<4*C.aE.toNat then pt (pl k) 0 0 else .pointer none
theorem Dw {pl:Nat->Nat}:(lD C pl).length=16:=by simp[lD]
theorem np {pl:Nat->Nat} {x w:Nat} (b:x<4) (a:w<4):(((lD C pl).drop (x*4)).take 4)[w]?=some (if x*4+w<4*C.aE.toNat then pt (pl (x*4+w)) 0 0 else .pointer none):=by
 rw[List.getElem?_take_of_lt a,List.getElem?_drop];unfold lD;rw[List.getElem?_map,List.getElem?_range (by omega)];rfl
theorem l8 (a:Q (.pointer none) h):Cl Pr K 141 [.pointer none] h Q:=
 cW (Iq (eU a))
theorem ja {pl:Nat->Nat} {n j:Nat} (f:n<=j) (a:j<16):dN (uC C pl n) (7+j) [.pointer none]=uC C pl n:=by
 unfold uC;have e:∀(A B:List Value) (j:Nat) (v:List Value),j+v.length<=B.length->dN (A++B) (A.length+j) v=A++dN B j v:=by
  intro A;induction A with
  |nil=>intro B j v a;simp
  |cons x A d=>intro B j v a;rw[List.cons_append,List.length_cons,show A.length+1+j=(A.length+j)+1 by omega];show x::dN (A++B) (A.length+j) v=_;rw[d B j v a];rfl
 rw[show 7+j=C.enc.length+j by simp[bP.enc],e _ _ _ _ (by simp;omega),K8 (_α:=Nat) a];congr 1;refine List.map_congr_left fun k _=>?_;by_cases b:k=j;rw[aJ7 b,aaa];rw[aJ6 b]
theorem Xw {f:Nat} {F:gL} (hC:C.Ok) (U:∀c w,(F c w).length<=500) (a:Hs G h L) [m:Has (vF C f) L F L'] (W:∀g P,Hs G P (vF C g F::vF C f F::L')->Q (pt g 0 0) P):Cl Pr K 78 [pt f 0 0] h Q:=by
 have hc:=hC.1;obtain⟨pl,a⟩:=Mk (m.of a);refine cW (dD (cG (bW (aB (aA (an f a (l:=C.enc) rfl rfl (aQ (c:=uC C (fun _=>0) 0) rfl (dR a fun g h a=>aB (aA (an f a (l:=lD C pl) ?_ Dw ?_))))))))));unfold mQ lD;rw[show 0+7=C.enc.length by simp[bP.enc],List.drop_left,List.take_of_length_le (by simp)];let N:=4*C.aE.toNat;have inner:∀(k w x:Nat) (d:Nat->Nat) (t:List HP) (h:AH),[Sub t L']->w+k=4->x<4->(∀(d:Nat->Nat) (h:AH),Hs G h (aG g 0 (uC C d (min N (4*x+4)))::dF (min N (4*x+4)) (nV C d F)::aG f 0 (mQ C pl)::dF N (nV C pl F)::t)->Dd 78 6 [] Q [(pt g 0 0),(.agg ⟨lD C pl⟩),(I x)] h)->
   Hs G h (aG g 0 (uC C d (min N (4*x+w)))::dF (min N (4*x+w)) (nV C d F)::aG f 0 (mQ C pl)::dF N (nV C pl F)::t)->Dd 78 4 [] Q [(pt g 0 0),(I x),(.agg ⟨lD C pl⟩),(I x),(.agg ⟨((lD C pl).drop (x*4)).take 4⟩),(I w)] h:=by
  intro k
  induction k with
  |zero=>
   intro w x d t h _ X z E a
   have:w=4:=by omega
   subst this
   exact bW (bA (aab (E d h a)))
  |succ k J=>
   intro w x d t h _ X z E a
   refine bW (bA (aae (bW (cv (by omega) (np z (by omega)) (aY a fun r h a=>?_)))))
   have fin:∀(v:Value) (y:Nat->Nat) (h:AH),eF v=true->Cv v [v]->dN (uC C d (min N (4*x+w))) (7+(4*x+w)) [v]=uC C y (min N (4*x+(w+1)))->
     Hs G h (aG g 0 (uC C d (min N (4*x+w)))::dF (min N (4*x+(w+1))) (nV C y F)::aG f 0 (mQ C pl)::dF N (nV C pl F)::t)->
     bG (mT (pt g 0 0)) fun v4=>bG (gX 7 v4) fun v5=>bG (oL 4 4 v5 (I x)) fun v6=>bG (oL 4 1 v6 (I w)) fun Y=>bG (tZ h 1 Y v) fun S=>(nG (pt g 0 0) (pt g 0 0)=true)/\((nG (I x) (I x)=true)/\((nG (I w) (I w)=true)/\((bG (mT (pt g 0 0)) fun v9=>nG v9 v4=true)/\((bG (gX 7 v4) fun v10=>nG v10 v5=true)/\((bG (oL 4 4 v5 (I x)) fun v11=>nG v11 v6=true)/\(bG (vE .add (I w) (I 1)) fun O=>Dd 78 4 [] Q [(pt g 0 0),(I x),(.agg ⟨lD C pl⟩),(I x),(.agg ⟨((lD C pl).drop (x*4)).take 4⟩),O] S)))))):=by
    intro v y h H T V a
    refine aB (aA (fQ z (fQ (by omega) ?_)))
    refine bJ (b:=g) (o:=0) a rfl (by rw[Ec];exact Nat.ble_eq_true_of_le (by simp;omega)) (by simp[H]) (by rw[Ec];rfl) fun h a=>?_
    rw[show 0+7+x*4+w*1=7+(4*x+w) by omega,V] at a
    refine bT bZ (bT gF (bT gF (bT (aB bZ) (bT (aA bZ) (bT (fQ z bZ) (aad ?_))))))
    exact J (w+1) x y t h (by omega) z E a
   by_cases B:x*4+w<4*C.aE.toNat
   .rw[aJ7 B];have Z:dF N (nV C pl F)=dF (4*C.aE.toNat) (nV C pl F):=rfl;have a:=Ir B (a.front (dF N (nV C pl F)));refine Wx (C:=C) (l:=F ((x*4+w)/4) ((x*4+w) % 4)) (by have:=U ((x*4+w)/4) ((x*4+w) % 4);omega) a fun q h a=>?_;have a:=R4 B (a.cI (qE C (pl (x*4+w)) (F ((x*4+w)/4) ((x*4+w) % 4))) (lr C pl F (x*4+w)));have R:F.set ((x*4+w)/4) ((x*4+w) % 4) (F ((x*4+w)/4) ((x*4+w) % 4))=F:=by
     funext c w;unfold gL.set;split;rename_i e;rw[e.1,e.2];rfl
    rw[R] at a
    have j:min N (4*x+w)=4*x+w:=by show min (4*C.aE.toNat) _=_;omega
    have u:min N (4*x+(w+1))=4*x+w+1:=by show min (4*C.aE.toNat) _=_;omega
    rw[j] at a
    rw[show x*4+w=4*x+w by omega] at a
    have a:=a.cI (qE C q (F ((4*x+w)/4) ((4*x+w) % 4))) (dF (4*x+w) (nV C d F))
    have a:=cu a
    refine fin (pt q 0 0) (aS d (4*x+w) q) h rfl inferInstance ?_ ?_
    .rw[j,u,Tn (by omega)]
    .rw[j,u];exact a.to
   .rw[aJ6 B];have j:min N (4*x+w)=N:=by show min (4*C.aE.toNat) _=4*C.aE.toNat;omega
    have u:min N (4*x+(w+1))=N:=by show min (4*C.aE.toNat) _=4*C.aE.toNat;omega
    refine l8 (fin (.pointer none) d h rfl inferInstance ?_ ?_)
    .rw[j,u];exact ja (by show 4*C.aE.toNat<=_;omega) (by omega)
    .rw[j] at a;rw[j,u];exact a.to
 have outer:∀(k x:Nat) (d:Nat->Nat) (t:List HP) (h:AH),[Sub t L']->x+k=4->Hs G h (aG g 0 (uC C d (min N (4*x)))::dF (min N (4*x)) (nV C d F)::aG f 0 (mQ C pl)::dF N (nV C pl F)::t)->Dd 78 2 [] Q [(pt g 0 0),(.agg ⟨lD C pl⟩),(I x)] h:=by
  intro k;induction k with
  |zero=>
   intro x d t h _ z a;refine bW (bA (aab (W g h ?_)));have j:min N (4*x)=N:=by show min (4*C.aE.toNat) _=4*C.aE.toNat;omega
   rw[j] at a;have a:Hs G h (aG g 0 (mQ C d)::dF (4*C.aE.toNat) (nV C d F)::aG f 0 (mQ C pl)::dF (4*C.aE.toNat) (nV C pl F)::t):=a;have a:=pT a;have a:=a.cI (aG f 0 (mQ C pl)) (dF (4*C.aE.toNat) (nV C pl F));have a:=pT a;exact a.to
  |succ k J=>
   intro x d t h _ z a;refine bW (bA (aae (bW (aBv (by omega) (by rw[Dw];omega) rfl (bQ a fun p h a=>?_)))));have A:(((lD C pl).drop (x*4)).take 4).length=4:=by rw[List.length_take,List.length_drop,Dw];omega
   have D:(((lD C pl).drop (x*4)).take 4).all eF=true:=by
    refine List.all_eq_true.2 fun v H=>?_;have:=List.mem_of_mem_drop (List.mem_of_mem_take H);unfold lD at this;obtain⟨k,_,rfl⟩:=List.mem_map.1 this;split<;>rfl
   refine bE (b:=p) a rfl rfl A D fun h a=>an p a (l:=((lD C pl).drop (x*4)).take 4) (by rw[List.drop_zero];exact List.take_of_length_le (by omega)) A ?_;refine inner 4 0 x d (aG p 0 (((lD C pl).drop (x*4)).take 4)::t) h (by omega) (by omega) (fun d h a=>bW (aad (J (x+1) d (aG p 0 (((lD C pl).drop (x*4)).take 4)::t) h (by omega) (by rw[show 4*(x+1)=4*x+4 by omega];exact a)))) ?_;exact a.to
 have a:=Hs.Tw (f:=nV C (fun _=>0) F) a;refine outer 4 0 (fun _=>0) L' h (by omega) ?_;rw[show min N (4*0)=0 by omega];exact a.to
end
end Go.Proofs.YtajjljbmfdboaaaGreatDoor
section
open Go Go.Ab
attribute [local irreducible] bG Br pK sD tZ Cq mN wW lR Rs gX mT rA rG pJ kU zA vE V9 V4 Ro Ps Vv Qm Jp Nb Vm lB oL tX jK copyV iQ xK V7 V8 Hn lG Nc Sp V2 oA rY yU Ao Cl yO Vx tE sC kJ hT setLoop cT
namespace Go.Proofs.YtajjljbmfdboaaaGreatDoor
open Go Go.Ab Go.Hm Go.At Go.Is Go.Mc
section
instance:Fx Ins.enc 4:=⟨fun _=>rfl,fun _=>rfl⟩
set_option maxRecDepth 100000
variable {G:Bg} {h:AH} {L L' M:List HP} {Q:Value->AH->Prop} {s:aK} {i p:Nat}
abbrev T7 (a:Option Addr) (c:Nat) (l:List Ins):HP:=ls Ins.enc 4 86 a c l
def sJ (i:Nat) (s:aK) (a:Option Addr) (c:Nat):List Value:=s.core++[I i,.slice a s.prog.length c]
def mE (i:Nat) (p:Nat) (s:aK):HP:=vD fun x:Option Addr×Nat=>sp [aG p 0 (sJ i s x.1 x.2),T7 x.1 x.2 s.prog]
theorem rF (b:Hs G h (mE i p s::L)):∃a c,Hs G h (aG p 0 (sJ i s a c)::T7 a c s.prog::L):=by
 obtain⟨⟨a,c⟩,b⟩:=b.B4;exact⟨a,c,b.G5⟩
theorem mF (p i:Nat) (s:aK) {a:Option Addr} {c:Nat} {cs:List Value} {l:List Ins} {b L2:List HP} (f:Hs G h L) [m:Has (aG p 0) L cs b] [g:Has (T7 a c) b l L2] (d:cs=sJ i s a c) (e:l=s.prog):Hs G h (mE i p s::L2):=by
 subst d;subst e;exact Hs.zX (A:=fun x:Option Addr×Nat=>sp [aG p 0 (sJ i s x.1 x.2),T7 x.1 x.2 s.prog]) (a,c) (Hs.pack (A:=[_,_]) (f.perm (m.perm.trans (g.perm.cons _))))
theorem aCz {a:Option Addr} {c:Nat} {k:Int} (b:0<=k/\k<4):(sJ i s a c)[0+0+0+k.toNat*1]?=some (I (s.cB k.toNat)):=by
 have:k=0\/k=1\/k=2\/k=3:=by omega
 rcases this with rfl|rfl|rfl|rfl<;>rfl
theorem aAq {a:Option Addr} {c:Nat} {k v:Int} (b:0<=k/\k<4):dN (sJ i s a c) (0+0+0+k.toNat*1) [I v]=sJ i (s.cR k v) a c:=by
 have:k=0\/k=1\/k=2\/k=3:=by omega
 rcases this with rfl|rfl|rfl|rfl<;>rfl
theorem A4 {a:Option Addr} {c:Nat} {k:Int} {q:Value->Prop} (f:Hs G h L) [m:Has (aG p 0) L (sJ i s a c) L'] (d:0<=k/\k<4) (e:q (I (s.cB k.toNat))):bG (mT (pt p 0 0)) fun v4=>bG (gX 0 v4) fun v5=>bG (gX 0 v5) fun v6=>bG (oL 4 1 v6 (I k)) fun g=>bG (pK h g) q:=
 aB (aA (aA (dX d.1 d.2 (am p f (aCz d) e))))
theorem vK {a:Option Addr} {c:Nat} {k v:Int} {q:AH->Prop} (d:Hs G h L) [m:Has (aG p 0) L (sJ i s a c) L'] (e:0<=k/\k<4) (j:∀f,Hs G f (aG p 0 (sJ i (s.cR k v) a c)::L')->q f):bG (mT (pt p 0 0)) fun v4=>bG (gX 0 v4) fun v5=>bG (gX 0 v5) fun v6=>bG (oL 4 1 v6 (I k)) fun l=>bG (tZ h 1 l (I v)) q:=by
 refine aB (aA (aA (dX e.1 e.2 ?_)));have g:(sJ i s a c).length=9:=rfl;refine bJ (b:=p) (o:=0) d rfl (by rw[g];exact Nat.ble_eq_true_of_le (by simp;omega)) rfl rfl fun h d=>?_;rw[aAq e] at d;exact j _ d
theorem a7 {a:Option Addr} {c:Nat} {x:Int} {cs:List Value} (r:0<=x) (d:cs[8]?=some (.slice a s.prog.length c)) (g:Hs G h L) [m:Has (aG p 0) L cs L'] [t:Has (T7 a c) L' s.prog M] (f:∀q,Hs G q L->Q (.bool (Cg s.prog x)) q):Cl Pr K 100 [pt p 0 0,I x] h Q:=by
 have k:Hs G h (aG p 0 cs::T7 a c s.prog::M):=g.perm (m.perm.trans (t.perm.cons _));unfold Cg at f;refine cW (bA (aab (aB (aA (am p g d (bU (dW (aX (fun j=>?_) (fun j=>?_)))))))));rw[aJ7 j] at f;exact f _ g;rw[aJ6 j] at f;refine aB (aA (am p g d (cy (l:=s.prog) (a:=a) (c:=c) (enc:=Ins.enc) (e:=86) (x:=kI s.prog x) k r ?_ rfl (bH ?_))));unfold kI;rw[List.getD_eq_getElem?_getD,List.getElem?_eq_getElem (by omega)];rfl;exact f _ g
theorem Fb {x:Int} (g:0<=x) (d:Hs G h L) [m:Has (mE i p) L s L'] (f:∀e,Hs G e (mE i p (s.fM x)::L')->Q (.tuple ⟨[]⟩) e):Cl Pr K 98 [pt p 0 0,I x] h Q:=by
 obtain⟨a,c,d⟩:=rF (m.of d);refine cW (aB (aA (aA (ay (b:=p) (o:=0) d fun h d=>?_))));refine a7 (s:=s) (a:=a) (c:=c) g rfl d fun h d=>aB (aA (aA (ay (b:=p) (o:=0) d fun h d=>f _ ?_)));exact mF p i (s.fM x) (a:=a) (c:=c) d rfl rfl
theorem Su {x:Ins} {a:Option Addr} {c:Nat} (d:Hs G h L) [m:Has (aG p 0) L (sJ i s a c) L'] (f:∀e,Hs G e L->Q (.agg ⟨(aK.ev s i x 0 0 0).enc⟩) e):Cl Pr K 99 [pt p 0 0,.agg ⟨x.enc⟩] h Q:=by
 refine cW (dR d fun q h d=>bQ d fun r h d=>aY d fun g h d=>?_);refine aB (aA (am p d rfl (aB (aA (aA (am p d rfl (aA (am q d rfl (aB (aA (aA (am p d rfl (aQ (c:=(aK.ev s i x 0 0 0).enc) rfl ?_)))))))))))));refine ax (b:=r) d fun h d=>an r d (l:=(aK.ev s i x 0 0 0).enc) rfl rfl (f _ d.to)
def aDq:Ins:=⟨0,0,0,0⟩
theorem Ih (j:s.Ok) (d:Hs G h L) [m:Has (mE i p) L s L'] (g:∀k,Hs G k (mE i p s::L')->Q (if s.over then .tuple ⟨[.agg ⟨aDq.enc⟩,.bool false]⟩ else .tuple ⟨[.agg ⟨(kI s.prog s.at').enc⟩,.bool true]⟩) k):Cl Pr K 39 [pt p 0 0] h Q:=by
 obtain⟨a,c,d⟩:=rF (m.of d);refine cW (bQ d fun q h d=>dD (cG (aB (aA (aA (am p d rfl (a7 (s:=s) (a:=a) (c:=c) j.1 rfl d fun h d=>?_)))))));rw[<-j.2.2.1];refine dI (fun f=>?_) (fun f=>?_);rw[f,aJ7 rfl] at g;refine aQ (c:=aDq.enc) rfl (ax (b:=q) d fun h d=>an q d (l:=aDq.enc) rfl rfl (g _ ?_));exact(mF p i s (a:=a) (c:=c) d rfl rfl).to;rw[f] at g;have t:=E0 (p:=s.prog) (a:=s.at') (by rw[<-j.2.2.1];exact f);have r:=j.1;refine aY d fun u h d=>aB (aA (am p d rfl (aB (aA (aA (am p d rfl ?_))))));refine tO (l:=s.prog) (a:=a) (c:=c) (enc:=Ins.enc) (e:=86) (x:=kI s.prog s.at') d (by decide) r ?_ ?_;unfold kI;rw[List.getD_eq_getElem?_getD,List.getElem?_eq_getElem (by omega)];rfl;refine ax (b:=q) d fun h d=>an q d (l:=(kI s.prog s.at').enc) rfl rfl (g _ ?_);exact(mF p i s (a:=a) (c:=c) d rfl rfl).to
theorem vV {x:Int} (a:Q (.bool (xN x)) h):Cl Pr K 50 [I x] h Q:=by
 unfold xN at a;refine cW (bH (aX (fun b=>?_) (fun b=>bH (aX (fun d=>?_) (fun d=>bH ?_)))));rw[decide_eq_true (by omega)] at a;exact a;rw[decide_eq_true (by omega)] at a;exact a;rw[show decide (x=3\/x=4\/x=5)=decide (x=5) from decide_eq_decide.2 (by omega)] at a;exact a
end
section
theorem Bl {s:aK} (a:s.Ok) (h:s.over=false):Fits (kI s.prog s.at') s.prog.length:=
 D5 (a.2.2.2.2 _ (zP a.1 (E0 (by rw[<-a.2.2.1];exact h))))
set_option maxRecDepth 100000
variable {G:Bg} {h:AH} {L L' M:List HP} {Q:Value->AH->Prop} {s:aK} {i p:Nat}
theorem kW {v:Ev} {x:Int} {f g:Nat} {z:List Value} {b:Value} (t:z.length=7) (r:0<=x) (a:Hs G h (mE i p s::aG g 0 v.enc::aG f 0 z::L)) (q:∀m,Hs G m (mE i p (s.fM x)::L)->Q (.tuple ⟨[.agg ⟨v.enc⟩,b]⟩) m):
  Cl Pr K 98 [pt p 0 0,I x] h fun _ d=>bG (sD d 7 (pt g 0 0)) fun j=>bG (tZ d 7 (pt f 0 0) j) fun e=>bG (sD e 7 (pt f 0 0)) fun k=>Q (.tuple ⟨[k,b]⟩) e:=by
 refine Fb (i:=i) (s:=s) r a fun h a=>an g a (l:=v.enc) rfl rfl (bE (b:=f) a (by rw[t];rfl) rfl rfl rfl fun h a=>an f a (l:=v.enc) rfl rfl (q _ a.to))
theorem tk (D:s.Ok) (d:Hs G h L) [m:Has (mE i p) L s L']
  (f:∀I,Hs G I (mE i p (match aK.gU s i with|some r=>r.1|none=>s)::L')->Q (match aK.gU s i with|some r=> .tuple ⟨[.agg ⟨r.2.enc⟩,.bool true]⟩|none=> .tuple ⟨[.agg ⟨Ga.enc⟩,.bool false]⟩) I):Cl Pr K 37 [pt p 0 0] h Q:=by
 have d:=m.of d
 have O:=D.1
 unfold aK.gU aK.next? at f
 refine cW (bQ (cs:=Ga.enc) d fun w h d=>Ih (i:=i) (s:=s) D d fun h d=>?_)
 cases hov:s.over with
 |true=>
  simp only[hov,if_true] at f ⊢
  refine aH rfl (aH rfl (bQ d fun j h d=>ax (b:=j) d fun h d=>cH (eU (aQ (c:=Ga.enc) rfl ?_))))
  refine ax (b:=w) d fun h d=>an w d (l:=Ga.enc) rfl rfl (f _ d.to)
 |false=>
  have t:=Bl D hov
  simp only[hov,Bool.false_eq_true,if_false] at f ⊢
  generalize P:kI s.prog s.at'=x at f t
  refine aH rfl (aH rfl (bQ d fun j h d=>ax (b:=j) d fun h d=>cH (cG ?_)))
  obtain⟨a,c,d⟩:=rF (d.front (mE i p s))
  refine bW (an j d (l:=x.enc) rfl rfl (Su (a:=a) (c:=c) (s:=s) d fun h d=>bQ d fun g h d=>ax (b:=g) d fun h d=>?_))
  refine aB (aA (aA (am p d rfl (bN (by have:=D.2.1;omega) (aA (am j d rfl ?_))))))
  have d:Hs G h (aG j 0 x.enc::aG g 0 (aK.ev s i x 0 0 0).enc::aG w 0 Ga.enc::aG p 0 (sJ i s a c)::T7 a c s.prog::L'):=d.to
  have e:∀{h:AH} {s':aK} {M:List HP} {v:Ev},s'.prog=s.prog->Hs G h (aG g 0 v.enc::aG w 0 Ga.enc::aG p 0 (sJ i s' a c)::T7 a c s.prog::L')->Hs G h (mE i p s'::aG g 0 v.enc::aG w 0 Ga.enc::L'):=by
   intro h s' M v E d;exact mF p i s' (a:=a) (c:=c) d rfl E.symm
  refine bH (aX (fun q=>?_) (fun q=>bW (bH (aX (fun c2=>?_) (fun c2=>bW (bH (aX (fun y=>?_) (fun y=>bW (bH (aX (fun z=>?_) (fun z=>bW (bH (aX (fun B=>?_) (fun B=>bW (bH (aX (fun u=>?_) (fun u=>?_)))))))))))))))))
  .simp only[q,if_true] at f;have A:=t.r1 (by omega);refine bW (aA (am j d rfl (aA (ay (b:=g) (o:=0) d fun h d=>aY d fun J h d=>aA (am j d rfl (aA (am g d rfl (vK (s:=s) (a:=a) (c:=c) d A fun h d=>?_))))))));have d:=d.sg (b:=g) (o:=0) (c:=(aK.ev s i x 0 x.b 0).enc) rfl;exact kW (s:=s.cR x.a x.b) (v:=aK.ev s i x 0 x.b 0) rfl (by omega) (e (M:=L) (s':=s.cR x.a x.b) rfl d.to) f
  .simp only[c2,if_true] at f;have A:=t.r1 (by omega);have F:=t.r2 (by omega);have H:=t.r3 (by omega);refine bW (aY d fun J h d=>aA (am j d rfl (A4 (s:=s) (i:=i) (a:=a) (c:=c) d F (aA (am j d rfl (A4 (s:=s) (i:=i) (a:=a) (c:=c) d H (Li (aA ?_))))))));refine ay (b:=g) (o:=0) d fun h d=>aY d fun N h d=>aA (am j d rfl (aA (am g d rfl (vK (s:=s) (a:=a) (c:=c) d A fun h d=>?_))));have d:=d.sg (b:=g) (o:=0) (c:=(aK.ev s i x 0 (wr (s.cB x.b.toNat+s.cB x.c.toNat)) 0).enc) rfl;exact kW (s:=s.cR x.a (wr (s.cB x.b.toNat+s.cB x.c.toNat))) (v:=aK.ev s i x 0 (wr (s.cB x.b.toNat+s.cB x.c.toNat)) 0) rfl (by omega) (e (M:=L) (s':=s.cR x.a (wr (s.cB x.b.toNat+s.cB x.c.toNat))) rfl d.to) f
  .simp only[y,if_true] at f;exact bW (kW (s:=s) (v:=aK.ev s i x 0 0 0) rfl (by omega) (e (M:=L) (s':=s) rfl d.to) f)
  .simp only[z,if_true] at f;refine bW (aA (am j d rfl (aA (ay (b:=g) (o:=0) d fun h d=>aB (aA (aA (am p d rfl (bH (aX (fun k=>?_) (fun k=>?_))))))))))
   .simp only[k,if_true] at f;refine bW (aA (am j d rfl (aB (aA (aA (ay (b:=p) (o:=0) d fun h d=>?_))))));have d:=(d.sg (b:=g) (o:=0) (c:=(aK.ev s i x 0 x.a 0).enc) rfl).sg (b:=p) (o:=0) (c:=sJ i (s.Qv x.a) a c) rfl;exact kW (s:=s.Qv x.a) (v:=aK.ev s i x 0 x.a 0) rfl (by omega) (e (M:=L) (s':=s.Qv x.a) rfl d.to) f
   .simp only[aJ6 k] at f;refine bW (aA (ay (b:=g) (o:=0) d fun h d=>?_));have d:=d.sg (b:=g) (o:=0) (c:=(aK.ev s i x 0 x.a 18).enc) rfl;exact kW (s:=s) (v:=aK.ev s i x 0 x.a 18) rfl (by omega) (e (M:=L) (s':=s) rfl d.to) f
  .simp only[B,if_true] at f;have E:=t.p1 (by omega);refine bW (aA (am j d rfl (aA (ay (b:=g) (o:=0) d fun h d=>aA (am j d rfl ?_)))));have d:=d.sg (b:=g) (o:=0) (c:=(aK.ev s i x 0 x.a 0).enc) rfl;exact kW (s:=s) (v:=aK.ev s i x 0 x.a 0) rfl (by omega) (e (M:=L) (s':=s) rfl d.to) f
  .simp only[u,if_true] at f;have A:=t.r1 (by omega);have E:=t.p2 (by omega);refine bW (aY d fun J h d=>aA (am j d rfl (A4 (s:=s) (i:=i) (a:=a) (c:=c) d A (aA ?_))));refine ay (b:=g) (o:=0) d fun h d=>aA (am g d rfl (bH (aX (fun k=>?_) (fun k=>?_))))
   .have k:s.cB x.a.toNat=0:=k;simp only[aJ7 k] at f;have d:=d.sg (b:=g) (o:=0) (c:=(aK.ev s i x 0 (s.cB x.a.toNat) 0).enc) rfl;refine bW (aA (am j d rfl ?_));exact kW (s:=s) (v:=aK.ev s i x 0 (s.cB x.a.toNat) 0) rfl (by omega) (e (M:=L) (s':=s) rfl d.to) f
   .have k:¬s.cB x.a.toNat=0:=k;simp only[aJ6 k] at f;have d:=d.sg (b:=g) (o:=0) (c:=(aK.ev s i x 0 (s.cB x.a.toNat) 0).enc) rfl;exact bW (kW (s:=s) (v:=aK.ev s i x 0 (s.cB x.a.toNat) 0) rfl (by omega) (e (M:=L) (s':=s) rfl d.to) f)
  .simp only[aJ6 q,aJ6 c2,aJ6 y,aJ6 z,aJ6 B,aJ6 u] at f;refine aQ (c:=Ga.enc) rfl (ax (b:=w) d fun h d=>an w d (l:=Ga.enc) rfl rfl (f _ ?_));exact(mF p i s (a:=a) (c:=c) d rfl rfl).to
end
section
def sY (a:Acc):List Value:=[I a.word,.bool a.write,.bool a.read,I a.value]
def Qr:Acc:=⟨0,false,false,0⟩
def fy:Mc.Ask:=⟨0,0,0,0,0⟩
set_option maxRecDepth 100000
variable {G:Bg} {h:AH} {L L' M:List HP} {Q:Value->AH->Prop} {s:aK} {i p:Nat}
theorem G1 (z:s.Ok) (d:Hs G h L) [m:Has (mE i p) L s L']
  (f:∀q,Hs G q (mE i p s::L')->Q (match aK.iF s with|some a=> .tuple ⟨[.agg ⟨sY a⟩,.bool true]⟩|none=> .tuple ⟨[.agg ⟨sY Qr⟩,.bool false]⟩) q):Cl Pr K 41 [pt p 0 0] h Q:=by
 have d:=m.of d
 unfold aK.iF aK.next? at f
 refine cW (bQ (cs:=sY Qr) d fun g h d=>Ih (i:=i) (s:=s) z d fun h d=>?_)
 cases hov:s.over with
 |true=>
  simp only[hov,if_true] at f ⊢
  refine aH rfl (aH rfl (bQ d fun j h d=>ax (b:=j) d fun h d=>cH (eU (aQ (c:=sY Qr) rfl ?_))))
  refine ax (b:=g) d fun h d=>an g d (l:=sY Qr) rfl rfl (f _ d.to)
 |false=>
  have t:=Bl z hov
  simp only[hov,Bool.false_eq_true,if_false] at f ⊢
  generalize H:kI s.prog s.at'=x at f t
  refine aH rfl (aH rfl (bQ d fun j h d=>ax (b:=j) d fun h d=>cH (cG (aA (am j d rfl (vV (cH (eB (dI (fun k=>?_) (fun k=>?_))))))))))
  .have k:xN x.op=true:=k;have E:x.op=3\/x.op=4\/x.op=5:=of_decide_eq_true k;simp only[k,if_true] at f;have A:=t.r1 (by omega);have u:=t.r2 (by omega);obtain⟨a,c,d⟩:=rF (d.front (mE i p s));have d:Hs G h (aG j 0 x.enc::aG g 0 (sY Qr)::aG p 0 (sJ i s a c)::T7 a c s.prog::L'):=d.to;have fin:∀{h:AH} {M:List HP} (e:Nat) (v:Acc),[Sub M L']->Hs G h (aG e 0 (sY v)::aG g 0 (sY Qr)::aG p 0 (sJ i s a c)::T7 a c s.prog::M)->(∀q,Hs G q (mE i p s::L')->Q (.tuple ⟨[.agg ⟨sY v⟩,.bool true]⟩) q)->
     bG (sD h 4 (pt e 0 0)) fun v1=>bG (tZ h 4 (pt g 0 0) v1) fun y=>bG (sD y 4 (pt g 0 0)) fun v3=>Q (.tuple ⟨[v3,.bool true]⟩) y:=by
    intro h M e v _ d F
    refine an e d (l:=sY v) rfl rfl (ax (b:=g) d fun h d=>an g d (l:=sY v) rfl rfl (F _ ?_))
    exact(mF p i s (a:=a) (c:=c) d rfl rfl).to
   refine bW (aY d fun w h d=>aA (am j d rfl (A4 (s:=s) (i:=i) (a:=a) (c:=c) d u (aQ (c:=sY ⟨s.cB x.b.toNat,false,false,0⟩) rfl ?_))))
   refine jM (r:=w) (i:=9) (n:=11) (D:=[]) (cs:=sY Qr) d rfl rfl fun e h d=>ax (b:=e) d fun h d=>aA (am j d rfl (bH (aX (fun c3=>?_) (fun c3=>bW (bH (aX (fun c5=>?_) (fun c5=>bW (bH (aX (fun B=>?_) (fun B=>?_))))))))))
   .rw[decide_eq_false (by omega),decide_eq_true (show x.op≠4 by omega),aJ7 (show x.op=3 by omega)] at f;refine bW (aA (ay (b:=e) (o:=0) d fun h d=>?_));have d:=d.sg (b:=e) (o:=0) (c:=sY ⟨s.cB x.b.toNat,false,true,0⟩) rfl;exact fin (M:=L') e ⟨s.cB x.b.toNat,false,true,0⟩ d.to f
   .rw[decide_eq_true (show x.op≠3 by omega),decide_eq_true (show x.op≠4 by omega),aJ6 (show ¬x.op=3 by omega)] at f;refine bW (aA (ay (b:=e) (o:=0) d fun h d=>aA (ay (b:=e) (o:=0) d fun h d=>aY d fun w h d=>aA (am j d rfl (A4 (s:=s) (i:=i) (a:=a) (c:=c) d A (aA (ay (b:=e) (o:=0) d fun h d=>?_)))))));have d:=d.sg (b:=e) (o:=0) (c:=sY ⟨s.cB x.b.toNat,true,true,s.cB x.a.toNat⟩) rfl;exact fin (M:=L') e ⟨s.cB x.b.toNat,true,true,s.cB x.a.toNat⟩ d.to f
   .rw[decide_eq_true (show x.op≠3 by omega),decide_eq_false (by omega),aJ6 (show ¬x.op=3 by omega)] at f;refine bW (aA (ay (b:=e) (o:=0) d fun h d=>aY d fun w h d=>aA (am j d rfl (A4 (s:=s) (i:=i) (a:=a) (c:=c) d A (aA (ay (b:=e) (o:=0) d fun h d=>?_))))));have d:=d.sg (b:=e) (o:=0) (c:=sY ⟨s.cB x.b.toNat,true,false,s.cB x.a.toNat⟩) rfl;exact fin (M:=L') e ⟨s.cB x.b.toNat,true,false,s.cB x.a.toNat⟩ d.to f
   .omega
  .have k:xN x.op=false:=k;simp only[k,Bool.false_eq_true,if_false] at f;refine aQ (c:=sY Qr) rfl (ax (b:=g) d fun h d=>an g d (l:=sY Qr) rfl rfl (f _ d.to))
theorem aE7 (u:s.Ok) (d:Hs G h L) [m:Has (mE i p) L s L']
  (e:∀t,Hs G t (mE i p s::L')->Q (match aK.sL s i with|some a=> .tuple ⟨[.agg ⟨a.enc⟩,.bool true]⟩|none=> .tuple ⟨[.agg ⟨fy.enc⟩,.bool false]⟩) t):Cl Pr K 42 [pt p 0 0] h Q:=by
 have d:=m.of d
 unfold aK.sL aK.next? at e
 refine cW (bQ (cs:=fy.enc) d fun j h d=>Ih (i:=i) (s:=s) u d fun h d=>?_)
 cases hov:s.over with
 |true=>
  simp only[hov,if_true] at e ⊢
  refine aH rfl (aH rfl (bQ d fun g h d=>ax (b:=g) d fun h d=>cH (eU (aQ (c:=fy.enc) rfl ?_))))
  refine ax (b:=j) d fun h d=>an j d (l:=fy.enc) rfl rfl (e _ d.to)
 |false=>
  have k:=Bl u hov
  simp only[hov,Bool.false_eq_true,if_false] at e ⊢
  generalize v:kI s.prog s.at'=x at e k
  refine aH rfl (aH rfl (bQ d fun g h d=>ax (b:=g) d fun h d=>cH (cG (aA (am g d rfl (bC (aX (fun f=>?_) (fun f=>?_))))))))
  .have f:¬x.op=8:=f;rw[aJ6 f] at e;refine aQ (c:=fy.enc) rfl (ax (b:=j) d fun h d=>an j d (l:=fy.enc) rfl rfl (e _ d.to))
  .have f:x.op=8:=by have:¬x.op≠8:=f;omega
   rw[aJ7 f] at e
   have q:=k.r2 (by omega)
   have r:=k.r3 (by omega)
   obtain⟨a,c,d⟩:=rF (d.front (mE i p s))
   refine aY d fun w h d=>aB (aA (am p d rfl (aB (aA (aA (am p d rfl (aA (am g d rfl (aA (am g d rfl ?_))))))))))
   refine A4 (s:=s) (i:=i) (a:=a) (c:=c) d q (aA (am g d rfl (A4 (s:=s) (i:=i) (a:=a) (c:=c) d r ?_)))
   refine aQ (c:=(⟨i,s.world,x.a,s.cB x.b.toNat,s.cB x.c.toNat⟩:Mc.Ask).enc) rfl (ax (b:=j) d fun h d=>an j d (l:=(⟨i,s.world,x.a,s.cB x.b.toNat,s.cB x.c.toNat⟩:Mc.Ask).enc) rfl rfl (e _ ?_))
   exact(mF p i s (a:=a) (c:=c) d rfl rfl).to
theorem Ye {x:Ins} {e A:Nat} {code:Int} {a:Option Addr} {c:Nat} {k:AH->Nat->Prop} {y:Bool} (r:y=true) (H:0<=x.b/\x.b<4) (d:Hs G h (aG e 0 x.enc::aG A 0 Ga.enc::aG p 0 (sJ i s a c)::T7 a c s.prog::L))
  (F:∀q z,Hs G z (aG q 0 (aK.ev s i x (s.cB x.b.toNat) 0 code).enc::aG e 0 x.enc::aG A 0 Ga.enc::aG p 0 (sJ i s a c)::T7 a c s.prog::L)->k z q):
  bG (sD h 4 (pt e 0 0)) fun v0=>Cl Pr K 99 [pt p 0 0,v0] h fun v1 B=>Cq B (.cells [(I 0),(I 0),(I 0),(I 0),(I 0),(I 0),(I 0)] 80 (0,0) true) fun f D=>bG (tZ D 7 (pt f 0 0) v1) fun E=>Rs y E 13 fun _ m=>
   bG (gX 2 (pt e 0 0)) fun J=>bG (pK m J) fun N=>bG (mT (pt p 0 0)) fun v9=>bG (gX 0 v9) fun v10=>bG (gX 0 v10) fun v11=>bG (oL 4 1 v11 N) fun t=>bG (pK m t) fun u=>bG (gX 4 (pt f 0 0)) fun v=>bG (tZ m 1 v u) fun g=>bG (gX 6 (pt f 0 0)) fun w=>bG (tZ g 1 w (I code)) fun j=>
   (nG (I code) (I code)=true)/\k j f:=by
 refine an e d (l:=x.enc) rfl rfl (Su (a:=a) (c:=c) (s:=s) (i:=i) d fun h d=>bQ d fun q h d=>ax (b:=q) d fun h d=>aY (hc:=r) d fun O h d=>aA (am e d rfl ?_))
 refine A4 (s:=s) (i:=i) (a:=a) (c:=c) d H (aA (ay (b:=q) (o:=0) d fun h d=>aA (ay (b:=q) (o:=0) d fun h d=>bT gF (F _ _ ?_))))
 have d:=d.sg (b:=q) (o:=0) (c:=(aK.ev s i x (s.cB x.b.toNat) 0 code).enc) rfl
 exact d.to
theorem j4 {value code:Int} (N:s.Ok) (d:Hs G h L) [m:Has (mE i p) L s L']
  (g:∀J,Hs G J (mE i p (aK.bI s i value code).1::L')->Q (.tuple ⟨[.agg ⟨(aK.bI s i value code).2.1.enc⟩,I (aK.bI s i value code).2.2]⟩) J):Cl Pr K 38 [pt p 0 0,I value,I code] h Q:=by
 have d:=m.of d
 have h0:=N.1
 have W:=N.2.1
 unfold aK.bI aK.next? at g
 refine cW (bQ (cs:=Ga.enc) d fun j h d=>dD (cG (bW (Ih (i:=i) (s:=s) N d fun h d=>?_))))
 have bad:∀{h:AH} {M:List HP} (e:Int),[Sub M (mE i p s::L')]->Hs G h (aG j 0 Ga.enc::M)->(∀J,Hs G J (mE i p s::L')->Q (.tuple ⟨[.agg ⟨Ga.enc⟩,I e]⟩) J)->
   bG (oN [(I 0),(I 0),(I 0),(I 0),(I 0),(I 0),(I 0)] []) fun c5=>bG (tZ h 7 (pt j 0 0) (.agg ⟨c5⟩)) fun T=>bG (sD T 7 (pt j 0 0)) fun Z=>Q (.tuple ⟨[Z,(I e)]⟩) T:=by
  intro h M e _ d Y
  refine aQ (c:=Ga.enc) rfl (ax (b:=j) d fun h d=>an j d (l:=Ga.enc) rfl rfl (Y _ ?_))
  exact d.tail.to
 cases hov:s.over with
 |true=>
  simp only[hov,if_true] at g ⊢
  refine aH rfl (aH rfl (bQ d fun f h d=>ax (b:=f) d fun h d=>cH (eU ?_)))
  exact bad (M:=mE i p s::L') 16 d.to g
 |false=>
  have F:=Bl N hov
  simp only[hov,Bool.false_eq_true,if_false] at g ⊢
  generalize hx:kI s.prog s.at'=x at g F
  refine aH rfl (aH rfl (bQ d fun f h d=>ax (b:=f) d fun h d=>cH (cG (aA (am f d rfl ?_)))))
  have tail:∀{h:AH} {a:Option Addr} {c q:Nat},(x.op=8\/xN x.op=true/\(code=0\/code=19))->Hs G h (aG q 0 (aK.ev s i x (s.cB x.b.toNat) 0 code).enc::aG f 0 x.enc::aG j 0 Ga.enc::aG p 0 (sJ i s a c)::T7 a c s.prog::L')->
    bG (gX 0 (pt f 0 0)) fun t=>bG (pK h t) fun u=>bG (vE .eql u (I 8)) fun v20=>Br v20 (Dd 38 4 [] Q [(pt p 0 0),(I code),(pt j 0 0),(pt f 0 0),(pt q 0 0)] h) (Dd 38 5 [] Q [(pt p 0 0),(I value),(I code),(pt j 0 0),(pt f 0 0),(pt q 0 0)] h):=by
   intro h a c q U d
   have w:∀{h:AH} {s':aK} {v:Ev},s'.prog=s.prog->Hs G h (aG q 0 v.enc::aG j 0 Ga.enc::aG p 0 (sJ i s' a c)::T7 a c s.prog::L')->Hs G h (mE i p s'::aG q 0 v.enc::aG j 0 Ga.enc::L'):=by
    intro h s' v X d;exact mF p i s' (a:=a) (c:=c) d rfl X.symm
   refine aA (am f d rfl (bH (aX (fun r=>?_) (fun r=>bW ?_))))
   .have r:x.op=8:=r;simp only[r,if_true] at g;have z:=F.r2 (by omega);have P:=F.r3 (by omega);refine bW (aY d fun R h d=>aA (am f d rfl (A4 (s:=s) (i:=i) (a:=a) (c:=c) d P (aA (ay (b:=q) (o:=0) d fun h d=>aY d fun R h d=>aA (am f d rfl (vK (s:=s) (a:=a) (c:=c) d z fun h d=>?_)))))));refine aB (aA (aA (am p d rfl (bN (by show -9223372036854775808<=s.at'+1/\s.at'+1<=_;omega) ?_))));have d:=d.sg (b:=q) (o:=0) (c:=(aK.ev s i x (s.cB x.b.toNat) (s.cB x.c.toNat) code).enc) rfl;exact kW (s:=s.cR x.b code) (v:=aK.ev s i x (s.cB x.b.toNat) (s.cB x.c.toNat) code) (x:=s.at'+1) rfl (by omega) (w (s':=s.cR x.b code) rfl d.to) g
   .have r:¬x.op=8:=r;obtain⟨y,U⟩:xN x.op=true/\(code=0\/code=19):=by rcases U with h|h;exact absurd h r;exact h
    have O:x.op=3\/x.op=4\/x.op=5:=of_decide_eq_true y
    have V:=F.r1 (by omega)
    simp only[aJ6 r,y,if_true] at g
    rw[aaa] at g
    refine bH (aX (fun A=>?_) (fun A=>bW (aA (am f d rfl (bH (aX (fun B=>?_) (fun B=>?_)))))))
    .simp only[A,if_true] at g;subst A;refine bW (aB (aA (aA (am p d rfl (aad ?_)))));exact kW (s:=s) (v:=aK.ev s i x (s.cB x.b.toNat) 0 19) (x:=s.at'+1) rfl (by omega) (w (s':=s) rfl d.to) g
    .have B:x.op=4:=B;simp only[aJ6 A,B,if_true] at g;have D:code=0:=by omega
     subst D
     refine bW (aY d fun R h d=>aA (am f d rfl (A4 (s:=s) (i:=i) (a:=a) (c:=c) d V (aA (ay (b:=q) (o:=0) d fun h d=>aB (aA (aA (am p d rfl (bN (by show -9223372036854775808<=s.at'+1/\s.at'+1<=_;omega) ?_)))))))))
     have d:=d.sg (b:=q) (o:=0) (c:=(aK.ev s i x (s.cB x.b.toNat) (s.cB x.a.toNat) 0).enc) rfl
     exact kW (s:=s) (v:=aK.ev s i x (s.cB x.b.toNat) (s.cB x.a.toNat) 0) (x:=s.at'+1) rfl (by omega) (w (s':=s) rfl d.to) g
    .have B:¬x.op=4:=B;simp only[aJ6 A,aJ6 B] at g;have D:code=0:=by omega
     subst D
     refine bW (aA (ay (b:=q) (o:=0) d fun h d=>aY d fun R h d=>aA (am f d rfl (vK (s:=s) (a:=a) (c:=c) d V fun h d=>aB (aA (aA (am p d rfl (bN (by show -9223372036854775808<=s.at'+1/\s.at'+1<=_;omega) ?_))))))))
     have d:=d.sg (b:=q) (o:=0) (c:=(aK.ev s i x (s.cB x.b.toNat) value 0).enc) rfl
     exact kW (s:=s.cR x.a value) (v:=aK.ev s i x (s.cB x.b.toNat) value 0) (x:=s.at'+1) rfl (by omega) (w (s':=s.cR x.a value) rfl d.to) g
  have E:∀{h:AH} {M:List HP},[Sub M L']->Hs G h (aG f 0 x.enc::aG j 0 Ga.enc::mE i p s::M)->∃a c,Hs G h (aG f 0 x.enc::aG j 0 Ga.enc::aG p 0 (sJ i s a c)::T7 a c s.prog::L'):=by
   intro h M _ d;obtain⟨a,c,d⟩:=rF (d.front (mE i p s));exact⟨a,c,d.to⟩
  have d:Hs G h (aG f 0 x.enc::aG j 0 Ga.enc::mE i p s::L'):=d.to
  refine bC (aX (fun r=>?_) (fun r=>?_))
  .have r:¬x.op=8:=r;refine aA (am f d rfl (vV (cH (eB (dI (fun y=>?_) (fun y=>?_))))))
   .have y:xN x.op=true:=y;have O:x.op=3\/x.op=4\/x.op=5:=of_decide_eq_true y;have z:=F.r2 (by omega);refine bW (aA (am f d rfl (bC (bS r (bC (aX (fun S=>bC (aX (fun H=>?_) (fun H=>?_))) (fun S=>?_)))))))
    .simp only[aJ6 r,y,if_true] at g;rw[aJ7 ⟨S,H⟩] at g;exact bad (M:=mE i p s::L') 1 d.to g
    .obtain⟨a,c,d⟩:=E (M:=L') d;refine bW (Ye (k:=fun h q=>bG (gX 0 (pt f 0 0)) fun t=>bG (pK h t) fun u=>bG (vE .eql u (I 8)) fun v20=>Br v20 (Dd 38 4 [] Q [(pt p 0 0),(I code),(pt j 0 0),(pt f 0 0),(pt q 0 0)] h) (Dd 38 5 [] Q [(pt p 0 0),(I value),(I code),(pt j 0 0),(pt f 0 0),(pt q 0 0)] h)) (by kernel_rfl) z d fun q h d=>tail (.inr ⟨y,by omega⟩) d)
    .obtain⟨a,c,d⟩:=E (M:=L') d;exact Ye (k:=fun h q=>bG (gX 0 (pt f 0 0)) fun t=>bG (pK h t) fun u=>bG (vE .eql u (I 8)) fun v20=>Br v20 (Dd 38 4 [] Q [(pt p 0 0),(I code),(pt j 0 0),(pt f 0 0),(pt q 0 0)] h) (Dd 38 5 [] Q [(pt p 0 0),(I value),(I code),(pt j 0 0),(pt f 0 0),(pt q 0 0)] h)) (by kernel_rfl) z d fun q h d=>tail (.inr ⟨y,by omega⟩) d
   .have y:xN x.op=false:=y;simp only[aJ6 r,y,Bool.false_eq_true,if_false] at g;exact bad (M:=mE i p s::L') 16 d.to g
  .have r:x.op=8:=by have:¬x.op≠8:=r;omega
   have z:=F.r2 (by omega)
   refine aA (am f d rfl (bC (aU (by show ¬x.op≠8;omega) ?_)))
   obtain⟨a,c,d⟩:=E (M:=L') d
   exact Ye (k:=fun h q=>bG (gX 0 (pt f 0 0)) fun t=>bG (pK h t) fun u=>bG (vE .eql u (I 8)) fun v20=>Br v20 (Dd 38 4 [] Q [(pt p 0 0),(I code),(pt j 0 0),(pt f 0 0),(pt q 0 0)] h) (Dd 38 5 [] Q [(pt p 0 0),(I value),(I code),(pt j 0 0),(pt f 0 0),(pt q 0 0)] h)) (by kernel_rfl) z d fun q h d=>tail (.inl r) d
end
section
set_option maxRecDepth 100000
variable {G:Bg} {h:AH} {L L' M:List HP} {Q:Value->AH->Prop} {s:aK} {i p:Nat}
theorem Y8 {α:Type} {enc:α->List Value} {l:List α}:(l.map enc).flatten=eL enc l:=by simp[eL,List.flatMap]
theorem Q3 {v:Value} {e:TypeId} {l:List Ins} (hb:l.length<=1000) (b:Hs G h (Ae G 4 e v (l.map Ins.enc)::L)) (f:∀a c d,Hs G d (T7 a c l::Ae G 4 e v (l.map Ins.enc)::L)->Q (.slice a l.length c) d):Cl Pr K 95 [v] h Q:=by
 refine cW (Ly (bytes:=32) (e:=86) b (by decide) (List.length_map ..) (by rw[Y8];exact F2) (by omega) fun a c h b=>f a c h ?_);rw[Y8] at b;exact b
theorem di {v:Value} {w:Int} {e:TypeId} {pr:List Ins} (m:i<4) (q:0<=w/\w<=3) (j:Ob G 1 sI) (hc:(kL pr).2=0) (d:Hs G h (Ae G 4 e v (pr.map Ins.enc)::L))
  (k:∀p f,Hs G f (mE i p (tT pr w)::Ae G 4 e v (pr.map Ins.enc)::L)->Q (.tuple ⟨[pt p 0 0,I 0]⟩) f):Cl Pr K 36 [I i,I w,v] h Q:=by
 have g:pr.length<=32:=by
  unfold kL at hc;split at hc;cases hc;omega
 refine cW (bA (aab (dW (aab (bA (aab (mC (aab (bW (Ei j d fun h d=>aH rfl (aH rfl (bC (aab (bW ?_))))))))))))))
 refine Q3 (l:=pr) (by omega) d fun a c h d=>?_
 refine aQ (c:=sJ i ⟨fun _=>0,0,0,false,pr⟩ a c) rfl (dR d fun p h d=>aB (aA (aA (ay (b:=p) (o:=0) d fun h d=>?_))))
 have d:Hs G h (aG p 0 (sJ i ⟨fun _=>0,0,w,false,pr⟩ a c)::T7 a c pr::Ae G 4 e v (pr.map Ins.enc)::L):=d
 have d:=mF p i ⟨fun _=>0,0,w,false,pr⟩ (a:=a) (c:=c) d rfl rfl
 exact Fb (i:=i) (s:=⟨fun _=>0,0,w,false,pr⟩) (by omega) d fun h d=>k _ _ d
end
end Go.Proofs.YtajjljbmfdboaaaGreatDoor
end
