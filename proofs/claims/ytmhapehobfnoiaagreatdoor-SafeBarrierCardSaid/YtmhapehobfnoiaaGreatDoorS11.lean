/- A part of the proof. -/
import Derived.Test.YtmhapehobfnoiaaGreatDoorS10
import Derived.Test.YtmhapehobfnoiaaGreatDoorS9
import Derived.Test.YtmhapehobfnoiaaGreatDoorS8
import Derived.Test.YtmhapehobfnoiaaGreatDoorS7
section
open Go Go.Ab
attribute [local irreducible] bG Br ld1 uF uG B4 mA uX lK P3 hQ mY qG pZ pS lH zE uE Uh Ty Oa Mr Rk Ol Md Ny Rn lN oT sF iV copyV iJ wV Tu U3 Gk kX Mb Qq Sb nL rR xM zA Cl zB Ro sM sC jS fL setLoop cH
namespace Go.Proofs.YtmhapehobfnoiaaGreatDoor.H
open Go Go.Ab Go.Hm
section
set_option maxRecDepth 100000
variable {G:Bg} {h:AH} {L L':List HP}
theorem Ya {b o:Nat} {x:Int} {c':List Value} {a:Option Addr} {c:Nat} {v:Bool} {k:AH->Prop} (r:Row) (g:Hs G h L) [m:Has (aE b o) L c' L'] (hc:c'=r.enc a c) (i:0<=x/\x<4) (f:∀e,Hs G e (aE b o (({r with sh:=gQ r.sh x v}:Row).enc a c)::L')->k e):bG (uG h 1 (pt b o (0+1+x.toNat*1)) (.bool v)) k:=by
 subst hc;have:x=0\/x=1\/x=2\/x=3:=by omega
 rcases this with rfl|rfl|rfl|rfl;all_goals
  refine ay g ?_
  exact f
theorem aDw {b o:Nat} {x:Int} {c':List Value} {a:Option Addr} {c:Nat} {v:Bool} {k:AH->Prop} (r:Row) (g:Hs G h L) [m:Has (aE b o) L c' L'] (hc:c'=r.enc a c) (i:0<=x/\x<4) (f:∀e,Hs G e (aE b o (({r with asked:=gQ r.asked x v}:Row).enc a c)::L')->k e):bG (uG h 1 (pt b o (0+17+x.toNat*1)) (.bool v)) k:=by
 subst hc;have:x=0\/x=1\/x=2\/x=3:=by omega
 rcases this with rfl|rfl|rfl|rfl;all_goals
  refine ay g ?_
  exact f
def mH (mb:Nat) (C:bN) (b o cap:Nat):List Value:=[pt mb 0 0,I C.aD,I C.aQ,I C.aG,I C.ways,I C.depth,I C.entries,I C.aK,.slice (some ⟨b,o,none⟩) C.lines cap]
structure HmA where
 mb:Nat
 b:Nat
 o:Nat
 cap:Nat
def aEy (G:Bg) (hb:Nat) (C:bN) (H:lT) (x:HmA):List HP:=
 [aE hb 0 (mH x.mb C x.b x.o x.cap),eW G C.lines x.mb C (fun i=>(H i).2),hole G 25 222 (some ⟨x.b,x.o,none⟩) x.cap C.lines x.b x.o,dE C.lines fun i=>eF x.b (x.o+i*25) (H i).1]
def gG (G:Bg) (hb:Nat) (C:bN) (H:lT):HP:=sB fun x:HmA=>sp (aEy G hb C H x)
def zN (b o n:Nat) (H:lT) (l:Nat):HP:=sp (((List.range n).erase l).map fun i=>eF b (o+i*25) (H i).1)
theorem pT {hb:Nat} {C:bN} {H:lT} (a:Hs G h (gG G hb C H::L)):∃mb b o cap,Hs G h (aE hb 0 (mH mb C b o cap)::eW G C.lines mb C (fun i=>(H i).2)::hole G 25 222 (some ⟨b,o,none⟩) cap C.lines b o::dE C.lines (fun i=>eF b (o+i*25) (H i).1)::L):=by
 obtain⟨⟨mb,b,o,cap⟩,a⟩:=a.tW;exact⟨mb,b,o,cap,a.unpack⟩
theorem Ds {hb l:Nat} {C:bN} {H:lT} (c:l<C.lines) (a:Hs G h (gG G hb C H::L)):∃mb b o cap,Hs G h (eF b (o+l*25) (H l).1::aE hb 0 (mH mb C b o cap)::eW G C.lines mb C (fun i=>(H i).2)::hole G 25 222 (some ⟨b,o,none⟩) cap C.lines b o::zN b o C.lines H l::L):=by
 obtain⟨mb,b,o,cap,a⟩:=pT a;have a:=(a.front (dE C.lines fun i=>eF b (o+i*25) (H i).1)).kO l c;exact⟨mb,b,o,cap,(show Hs G h (eF b (o+l*25) (H l).1::zN b o C.lines H l::_) from a).to⟩
theorem qO {hb:Nat} {C:bN} {H:lT} {mb b o cap:Nat} (a:Hs G h (aE hb 0 (mH mb C b o cap)::eW G C.lines mb C (fun i=>(H i).2)::hole G 25 222 (some ⟨b,o,none⟩) cap C.lines b o::dE C.lines (fun i=>eF b (o+i*25) (H i).1)::L)):Hs G h (gG G hb C H::L):=
 Hs.qU (A:=fun x=>sp (aEy G hb C H x)) ⟨mb,b,o,cap⟩ (Hs.pack (A:=aEy G hb C H ⟨mb,b,o,cap⟩) a)
theorem mem_of {H:lT} {l:Nat} {x:mT}:(fun i=>(aX H l x i).2)=aX (fun i=>(H i).2) l x.2:=by
 funext i;unfold aX;split<;>rfl
theorem eO {f L2 g k c:List HP} (hb:Nat) (C:bN) (H:lT) (l:Nat) (r:Row) (m:Ln) (mem:Nat->Ln) (mb b o cap:Nat) (s:l<C.lines) (t:mem=aX (fun i=>(H i).2) l m) (a:Hs G h L) [u:dT (eF b (o+l*25) r) L f] [v:dT (aE hb 0 (mH mb C b o cap)) f L2] [w:dT (eW G C.lines mb C mem) L2 g]
  [y:dT (hole G 25 222 (some ⟨b,o,none⟩) cap C.lines b o) g k] [z:dT (zN b o C.lines H l) k c]:Hs G h (gG G hb C (aX H l (r,m))::c):=by
 subst t
 have a:Hs G h (eF b (o+l*25) r::zN b o C.lines H l::aE hb 0 (mH mb C b o cap)::eW G C.lines mb C (aX (fun i=>(H i).2) l m)::hole G 25 222 (some ⟨b,o,none⟩) cap C.lines b o::c):=
  (a.perm (u.perm.trans ((v.perm.trans ((w.perm.trans ((y.perm.trans (z.perm.cons _)).cons _)).cons _)).cons _))).to
 have q:(fun i=>eF b (o+i*25) (aX H l (r,m) i).1) l=eF b (o+l*25) r:=by simp only[dQ]
 rw[<-q] at a
 unfold zN at a
 have a:=a.oB (n:=C.lines) (i:=l) (fun i=>eF b (o+i*25) (H i).1) (fun i=>eF b (o+i*25) (aX H l (r,m) i).1) s (fun j _ e=>by simp only[cX e])
 rw[<-mem_of (x:=(r,m))] at a
 exact qO (mb:=mb) (b:=b) (o:=o) (cap:=cap) a.to
theorem Cy {a:Addr} {n:aH} {cs:List Value} (hc:cs=n.enc) (c:Hs G h (dH 9 162 (some a) 1 (1,cs)::L)):Hs G h (eM (.slice (some a) 1 1) [n]::L):=Gd rfl (by rw[hc];simp) c
theorem qP (a:Hs G h L):Hs G h (eM (.slice none 0 0) []::L):=Gd rfl rfl (gL a)
section
variable {b o p:Nat} {r:Row} {wa:Option Addr} {wc:Nat} {line:Int} {d:Ln} {Q:Value->AH->Prop}
theorem eA (b o:Nat) (r:Row) (a:Option Addr) (c:Nat) {c':List Value} {n:Nat} {cs:List Value} {f L2:List HP} (i:Hs G h L) [m:Has (aE b o) L c' f] (hc:c'=r.enc a c) [m2:Has (dH 9 162 a c) f (n,cs) L2] (g:n=r.waits.length) (e:cs=eI r.waits):Hs G h (eF b o r::L2):=by
 subst hc;subst g;subst e;exact kT r (i.perm (m.perm.trans (m2.perm.cons _)))
theorem xu (e:r.served.kind=2) (c:Hs G h (aE p 0 (r.jZ line 0 d).enc::aE b o (r.enc wa wc)::dH 9 162 wa wc (r.waits.length,eI r.waits)::L)) (g:∀v f,Hs G f (eM v (r.eC line d).2::eF b o (r.eC line d).1::L)->Q v f):
  Dd 293 3 [] Q [(pt b o 0),(I r.served.core),(pt p 0 0)] h:=by
 simp only[Row.eC,aKj e] at g
 refine bW ?_
 repeat' first
  |refine aA ?_
  |refine aB ?_
  |refine aR c (by decide) rfl rfl ?_
  |(refine ay c ?_;intro h c)
  |(refine dK c rfl rfl rfl ?_;intro a h c)
  |refine aN rfl ?_
 refine g _ _ ?_
 have c:=Cy (n:=r.jZ line 4 d) rfl c
 exact(eA b o {r with owner:=r.served.core,sh:=fun _=>false,granted:=true} wa wc c rfl rfl rfl).to
theorem aAw (g:r.served.kind≠2) (hc:0<=r.served.core/\r.served.core<4) (c:Hs G h (aE p 0 (r.jZ line 0 d).enc::aE b o (r.enc wa wc)::dH 9 162 wa wc (r.waits.length,eI r.waits)::L)) (e:∀v i,Hs G i (eM v (r.eC line d).2::eF b o (r.eC line d).1::L)->Q v i):
  Dd 293 4 [] Q [(pt b o 0),(I r.served.core),(pt p 0 0)] h:=by
 simp only[Row.eC,aKi g] at e
 have c:=eA b o r wa wc c rfl rfl rfl
 refine bW (vQ c fun c=>?_)
 obtain⟨wa,wc,c⟩:=dV c
 refine bJ (aZ (fun f=>?_) (fun f=>?_))
 .rw[aKj f] at e;refine bW (aA (ay c ?_));intro h c;refine aB (aA (ay c ?_));intro h c;refine aB (aA (jJ hc.1 hc.2 (Ya {r with owner:=r.served.core} c rfl hc ?_)));intro h c;repeat' first
   |refine aA ?_
   |refine aB ?_
   |refine aR c (by decide) rfl rfl ?_
   |(refine ay c ?_;intro h c)
   |(refine dK c rfl rfl rfl ?_;intro a h c)
   |refine aN rfl ?_
  refine e _ _ ?_
  have c:=Cy (n:=r.jZ line 2 d) rfl c
  exact(eA b o {r with owner:=r.served.core,sh:=gQ r.sh r.served.core false,granted:=true} wa wc c rfl rfl rfl).to
 .rw[aKi f] at e;refine bW (aA (ay c ?_));intro h c;refine aB (aA (jJ hc.1 hc.2 (Ya r c rfl hc ?_)));intro h c;repeat' first
   |refine aA ?_
   |refine aB ?_
   |refine aR c (by decide) rfl rfl ?_
   |(refine ay c ?_;intro h c)
   |(refine dK c rfl rfl rfl ?_;intro a h c)
   |refine aN rfl ?_
  refine e _ _ ?_
  have c:=Cy (n:=r.jZ line 1 d) rfl c
  exact(eA b o {r with sh:=gQ r.sh r.served.core true,granted:=true} wa wc c rfl rfl rfl).to
end
theorem eU {H:lT} {l:Nat}:aX (fun i=>(H i).2) l (H l).2=fun i=>(H i).2:=wN
theorem D1 {C:bN} (hC:C.Ok) {hb l:Nat} {H:lT} {Q:Value->AH->Prop} (k:Ob G 0 fJ) (a:Hs G h L) [m:Has (gG G hb C) L H L'] (s:l<C.lines) (hc:0<=(H l).1.served.core/\(H l).1.served.core<4)
  (w:∀v e,Hs G e (eM v ((H l).1.eC l ((H l).1.sW (H l).2)).2::gG G hb C (aX H l (((H l).1.eC l ((H l).1.sW (H l).2)).1,(H l).2))::L')->Q v e):
  Cl Pr K 293 [pt hb 0 0,I l] h Q:=by
 obtain⟨mb,b,o,cap,a⟩:=Ds s (m.of a)
 refine cW ?_
 have q:∀d,d=(H l).1.sW (H l).2->∀p wa wc h,Hs G h (aE p 0 ((H l).1.jZ l 0 d).enc::aE b (o+l*25) ((H l).1.enc wa wc)::dH 9 162 wa wc ((H l).1.waits.length,eI (H l).1.waits)::aE hb 0 (mH mb C b o cap)::eW G C.lines mb C (fun i=>(H i).2)::hole G 25 222 (some ⟨b,o,none⟩) cap C.lines b o::zN b o C.lines H l::L')->
   (((H l).1.served.kind=2->Dd 293 3 [] Q [(pt b (o+l*25) 0),(I (H l).1.served.core),(pt p 0 0)] h)/\((H l).1.served.kind≠2->Dd 293 4 [] Q [(pt b (o+l*25) 0),(I (H l).1.served.core),(pt p 0 0)] h)):=by
  intro d u p wa wc h a
  subst u
  have g:∀v e,Hs G e (eM v ((H l).1.eC l ((H l).1.sW (H l).2)).2::eF b (o+l*25) ((H l).1.eC l ((H l).1.sW (H l).2)).1::aE hb 0 (mH mb C b o cap)::eW G C.lines mb C (fun i=>(H i).2)::hole G 25 222 (some ⟨b,o,none⟩) cap C.lines b o::zN b o C.lines H l::L')->Q v e:=fun v e a=>
   w v e (eO hb C H l ((H l).1.eC l ((H l).1.sW (H l).2)).1 (H l).2 (fun i=>(H i).2) mb b o cap s eU.symm a).to
  exact⟨fun f=>xu f a g,fun f=>aAw f hc a g⟩
 obtain⟨wa,wc,a⟩:=dV a
 refine aB (aA (aC a rfl (dN s (aB (aA (aA (aC a rfl ?_)))))))
 refine bE a ?_
 intro y h a
 refine aB (aA (aC a rfl (aB (aA (aR a (by decide) (l:=[I (H l).1.d0,I (H l).1.d1]) rfl rfl (aN (c:=((H l).1.jZ l 0 ((H l).1.d0,(H l).1.d1)).enc) rfl ?_))))))
 refine kQ a rfl rfl ?_
 intro p h a
 refine ax a ?_
 intro h a
 refine aB (aA (aC a rfl (bX (eN (dG (fun t=>?_) (fun t=>?_))))))
 .refine bW (aB (aA (aA (aC a rfl (bJ ?_)))));have:=q ((H l).1.d0,(H l).1.d1) (by simp[Row.sW,t]) p wa wc h a.to;exact aZ this.1 this.2
 .refine bW (aB (aA (aC a rfl (aA9 hC k a s fun h a=>?_))));refine aI rfl (aI rfl (aA (ay a ?_)));intro h a;refine aB (aA (aA (aC a rfl (bJ ?_))));have:=q (H l).2 (by simp[Row.sW,t]) p wa wc h (a.sg (b:=p) (o:=0) (c:=((H l).1.jZ l 0 (H l).2).enc) rfl).to;exact aZ this.1 this.2
end
section
set_option maxRecDepth 100000
variable {G:Bg} {h:AH} {L L':List HP}
def Mo (e:TypeId) (p:Nat) (a:Option Addr) (c:Nat) (xs:List Int):HP:=sp [aE p 0 [.slice a xs.length c],dH 1 e a c (xs.length,xs.map I)]
theorem Oz {e:TypeId} {a:Option Addr} {c n:Nat} {xs:List Int} {Q:Value->AH->Prop} (k:n=xs.length) (f:Hs G h L) [m:Has (dH 1 e a c) L (n,xs.map I) L'] (i:∀p g,Hs G g (Mo e p a c xs::L')->Q (.func (.func 152) #[] #[pt p 0 0]) g):Cl Pr K 99 [.slice a n c] h Q:=by
 subst k;have f:=m.of f;refine cW (dF f ?_);intro p h f;exact i p _ (Hs.pack (A:=[_,_]) f)
theorem Fa {e:TypeId} {p:Nat} {a:Option Addr} {c:Nat} {xs:List Int} (E:xs.length<2^62):Xn Pr K G 152 [] [pt p 0 0] (Mo e p a c xs) (xs.map fun x=>[I x]):=by
 intro s J y L h Q g B u w;refine cW ?_;refine aC g.unpack rfl (bP ?_);have loop:∀(f i:Nat) (h:AH),i+f=xs.length->Hs G h (Mo e p a c xs::s ((xs.drop i).map fun x=>[I x])::L)->Dd 152 1 [] Q [y,(.slice a xs.length c),(I xs.length),(I i)] h:=by
  intro f;induction f with
  |zero=>
   intro i h z g;refine bW (aS (aaa ?_));rw[List.drop_eq_nil_of_le (by omega)] at g;exact u _ _ g
  |succ f D=>
   intro i h z g;have k:i<xs.length:=by omega
   refine bW (aS (aae (bW ?_)));obtain⟨b,o,rfl,H,q,_⟩:=(g.unpack.front (dH 1 e a c (xs.length,xs.map I))).oZ (by omega);refine dN k (aBa q (v:=I xs[i]) (by simp[k]) ?_);rw[List.drop_eq_getElem_cons k] at g;refine(B _ _ h _ g.lU).mono fun v t A=>?_;rcases A with⟨rfl,g⟩|⟨rfl,g⟩;exact bX (bV (bW (aad (D (i+1) t (by omega) g.lU))));exact bX (eZ (w _ _ g.lU))
 exact loop xs.length 0 h (by omega) g
section
variable {hb p mb b o cap l:Nat} {C:bN} {H:lT} {n:aH} {r:Row} {m:Ln} {Q:Value->AH->Prop}
def rM (G:Bg) (hb p mb b o cap l:Nat) (C:bN) (H:lT) (n:aH) (r:Row) (m:Ln):List HP:=
 [eF b (o+l*25) r,aE p 0 n.enc,aE hb 0 (mH mb C b o cap),eW G C.lines mb C (aX (fun i=>(H i).2) l m),hole G 25 222 (some ⟨b,o,none⟩) cap C.lines b o,zN b o C.lines H l]
theorem Wr (hC:C.Ok) (e:Ob G 0 fJ) (i:l<C.lines) (k:n.line=l) (hc:0<=r.served.core/\r.served.core<4) (s:r.quiet=true) (a:Hs G h (rM G hb p mb b o cap l C H n r m++L))
  (c:∀v q,Hs G q (eM v (r.rest l m).2::gG G hb C (aX H l ((r.rest l m).1,m))::L)->Q v q):Dd 275 7 [] Q [(pt hb 0 0),(pt p 0 0),(pt b (o+l*25) 0)] h:=by
 simp only[rM,List.cons_append,List.nil_append] at a
 simp only[Row.rest,aKj s] at c
 have f:=a
 obtain⟨wa,wc,a⟩:=dV (show Hs G h (eF b (o+l*25) r::_) from a)
 refine bW (aB (aA (aA (aC a rfl (bJ (aZ (fun g=>?_) (fun g=>?_)))))))
 .rw[aKj g] at c;refine bW (Yl f fun h a=>c _ _ ?_);exact(qP (eO hb C H l r.free m _ mb b o cap i rfl a)).to
 .rw[aKi g] at c;refine aA (aC a rfl ?_);rw[k];have a:=eO hb C H l r m _ mb b o cap i rfl f;refine D1 hC e a i (by simp only[dQ];exact hc) fun v h a=>c _ _ ?_;simp only[dQ,wW] at a;exact a.to
theorem V3 (hC:C.Ok) (f:Ob G 0 fJ) (t:l<C.lines) (k:n.line=l) (hc:0<=r.served.core/\r.served.core<4) (e:Hs G h (rM G hb p mb b o cap l C H n r m++L))
  (i:∀v s,Hs G s (eM v (r.rest l m).2::gG G hb C (aX H l ((r.rest l m).1,m))::L)->Q v s):Dd 275 4 [] Q [(pt hb 0 0),(pt p 0 0),(pt b (o+l*25) 0)] h:=by
 have g:=e
 simp only[rM,List.cons_append,List.nil_append] at e
 have q:=e
 obtain⟨wa,wc,e⟩:=dV (show Hs G h (eF b (o+l*25) r::_) from e)
 refine bW (aB (aA (aR e (by decide) (l:=[.bool (r.asked 0),.bool (r.asked 1),.bool (r.asked 2),.bool (r.asked 3)]) rfl rfl (aN (c:=[.bool false,.bool false,.bool false,.bool false]) rfl (tu (dG (fun a=>?_) (fun a=>?_)))))))
 .have a:r.quiet=false:=by unfold Row.quiet;rw[a];rfl
  simp only[Row.rest,a,Bool.false_eq_true,if_false] at i
  refine i _ _ ?_
  exact(qP (eO hb C H l r m _ mb b o cap t rfl (show Hs G h (eF b (o+l*25) r::_) from q))).to
 .have a:r.quiet=true:=by unfold Row.quiet;rw[a];rfl
  exact Wr hC f t k hc a g i
end
end
end Go.Proofs.YtmhapehobfnoiaaGreatDoor.H
namespace Go.Proofs.YtmhapehobfnoiaaGreatDoor
open Go Go.Ab Go.Hm Go.At Go.Mc
section
def Bw:Mc.jG:=⟨0,0,0,0,0,0,false,0,fun _=>false⟩
def Aq (r:Mc.jG):List Value:=[I r.core,I r.world,I r.call,I r.bI,I r.to]
def nS (r:Mc.jG):List Value:=[I r.core,I r.world,I r.call,I r.bI,I r.to,I r.then',.bool r.lC]
def fS (f:Nat->Option Mc.jG) (k:Nat):Option Value:=(f k).map fun r=> .agg ⟨r.enc⟩
theorem F5 {f:Nat->Option Mc.jG} {g:Nat} {x:Option Mc.jG}:Jq (fS f) g (x.map fun r=> .agg ⟨r.enc⟩)=fS (aX f g x):=by
 funext k;unfold Jq fS aX;split<;>rfl
theorem ik {m:Mon}:B3 (fS m.runs)=m.running:=by
 unfold B3 Mon.running;congr 1;funext k;unfold fS;cases m.runs k<;>rfl
theorem w6 {m:Mon} {g:Int}:(if 0<=g then fS m.runs g.toNat else none)=(m.run g).map fun r=>Value.agg ⟨r.enc⟩:=by
 unfold Mon.run fS;split<;>rfl
set_option maxRecDepth 100000
variable {G:Bg} {h:AH} {L L' M:List HP} {Q:Value->AH->Prop} {C:bN} {m:Mon} {p:Nat}
def fO (C:bN) (p:Nat) (m:Mon):HP:=sB fun x:Nat×Nat=>sp [aE p 0 [pt x.1 0 0,I C.aD,gA x.2],gP x.1 m.cE,iG x.2 (fS m.runs)]
theorem kE (a:Hs G h (fO C p m::L)):∃t b,Hs G h (aE p 0 [pt t 0 0,I C.aD,gA b]::gP t m.cE::iG b (fS m.runs)::L):=by
 obtain⟨⟨t,b⟩,a⟩:=a.tW;exact⟨t,b,a.B5⟩
theorem dO {t b:Nat} (a:Hs G h (aE p 0 [pt t 0 0,I C.aD,gA b]::gP t m.cE::iG b (fS m.runs)::L)):Hs G h (fO C p m::L):=
 Hs.qU (A:=fun x:Nat×Nat=>sp [aE p 0 [pt x.1 0 0,I C.aD,gA x.2],gP x.1 m.cE,iG x.2 (fS m.runs)]) (t,b) a.Rp
theorem N0 {b:Nat} {g:Int} {k:Value->Prop} (c:Hs G h L) [e:Has (iG b) L (fS m.runs) L'] (a:k (.agg ⟨((m.run g).getD Bw).enc⟩)):bG (lkV (.agg ⟨[(I 0),(I 0),(I 0),(I 0),(I 0),(I 0),(.bool false),(I 0),(.bool false),(.bool false),(.bool false),(.bool false)]⟩) h (gA b) (I g) false) k:=by
 refine aIc c ?_;rw[w6];cases hr:m.run g with
 |none=>rw[hr] at a;exact a
 |some r=>rw[hr] at a;exact a
theorem dc {g:Int}:((m.run g).getD Bw).phase=m.phase g:=by
 unfold Mon.phase;cases m.run g<;>rfl
theorem Kk {g:Int} (a:Hs G h L) [f:Has (fO C p) L m L'] (e:∀c,Hs G c (fO C p m::L')->Q (I (m.phase g)) c):Cl Pr K 102 [pt p 0 0,I g] h Q:=by
 obtain⟨t,b,a⟩:=kE (f.of a);refine cW (dD (bV (aB (aA (am p a rfl (N0 (m:=m) a (aa rfl ?_)))))));show Q _ _;rw[dc];exact e _ (dO a)
theorem aFw {g:Int} (a:Hs G h L) [s:Has (fO C p) L m L'] (k:∀l i,Hs G i (fO C p m::L')->(m.phase g≠0->l=Aq ((m.run g).getD Bw))->l.length=5->l.all eJ=true->Q (.tuple ⟨[.agg ⟨l⟩,.bool (decide (m.phase g≠0))]⟩) i):Cl Pr K 52 [pt p 0 0,I g] h Q:=by
 refine cW (bM a fun q h a=>Kk (C:=C) (m:=m) a fun h a=>bJ (aZ (fun f=>?_) (fun f=>?_)));refine aN (c:=(Aq Bw)) rfl (ax (b:=q) a fun h a=>an q a (l:=(Aq Bw)) rfl rfl ?_);have:=k (Aq Bw) h a.to (fun e=>absurd f e) rfl rfl;rw[decide_eq_false (by omega)] at this;exact this;obtain⟨t,b,a⟩:=kE a;refine aB (aA (am p a rfl (N0 (m:=m) a (Il (m:=nS ((m.run g).getD Bw)) rfl rfl (Il (m:=Aq ((m.run g).getD Bw)) rfl rfl ?_)))));refine ax (b:=q) a fun h a=>an q a (l:=Aq ((m.run g).getD Bw)) rfl rfl ?_;have:=k _ h (dO (t:=t) (b:=b) a.to) (fun _=>rfl) rfl rfl;rw[decide_eq_true f] at this;exact this
theorem Dk (f:Hs G h L) [v:Has (fO C p) L m L'] (u:∀q a c i,Hs G i (H.Mo 3 q a c (m.running.map fun k:Nat=>(k:Int))::fO C p m::L')->Q (.func (.func 152) #[] #[pt q 0 0]) i):Cl Pr K 51 [pt p 0 0] h Q:=by
 obtain⟨t,b,f⟩:=kE (v.of f);refine cW (dD (bV (aB (aA (am p f rfl ?_)))));refine cW (aFm f fun q h f=>?_);have f:Hs G h (aE q 0 [gA b]::mt q (157,true,1)::iG b (fS m.runs)::aE p 0 [pt t 0 0,I C.aD,gA b]::gP t m.cE::L'):=f.to;refine vu (e:=3) rfl f fun a g h f=>?_;rw[ik (m:=m)] at f ⊢;have e:(m.running.map fun k:Nat=>I k)=(m.running.map fun k:Nat=>(k:Int)).map I:=by rw[List.map_map];rfl
 rw[e] at f;refine H.Oz (e:=3) (xs:=m.running.map fun k:Nat=>(k:Int)) (by simp) f fun s h f=>?_;have f:Hs G h (aE p 0 [pt t 0 0,I C.aD,gA b]::gP t m.cE::iG b (fS m.runs)::H.Mo 3 s a g (m.running.map fun k:Nat=>(k:Int))::L'):=f.to;exact u s a g _ (dO f).lU
end
end Go.Proofs.YtmhapehobfnoiaaGreatDoor
end
namespace Go.Ct
open Go Go.Ab Go.Hm
section
variable {n ways:Nat} {S:Nat->List Th} {no:Int} {x:pW}
theorem Rb {l:List Th} (h:no∉l.map (·.1)):rem no l=l:=by
 induction l with
 |nil=>rfl
 |cons t l a=>
  simp only[List.map_cons,List.mem_cons,not_or] at h;unfold rem;grind
theorem Ze {l:List Th} (a:(l.map (·.1)).Nodup):rem no (rem no l)=rem no l:=Rb (Ia a)
theorem Kb {l:List Th} (h:get no l=some x):(rem no l).length<l.length:=by
 rw[H0,h];have:=get_mem h;grind
theorem oM (a:(bB n S no).2=0):get no (S (setOf n no))=some (bB n S no).1/\0<=no:=by
 unfold bB at a ⊢;grind
theorem Ag (c:∀i,mC ways (S i)) (e:(bB n S no).2=0):(kK n ways S no x).2=0:=by
 obtain⟨a,f⟩:=oM e;have:=Kb a;have:=(c (setOf n no)).len;unfold kK;grind
theorem Pn (a:0<=no):gB n S no (setOf n no)=rem no (S (setOf n no)):=by
 unfold gB aX;rw[aab,aKj rfl]
theorem Sy (a:∀i,mC ways (S i)) (c:(bB n S no).2=0):rb n ways S no=0:=by
 obtain⟨e,f⟩:=oM c;have:=Kb e;have:=(a (setOf n no)).len;unfold rb;rw[aKj c];unfold kK;rw[Pn f,Ze (a _).nd,aab]
theorem A3 (c:∀i,mC ways (S i)) (f:0<=no) (a:(kK n ways S no x).2=0):bB n (kK n ways S no x).1 no=(x,0):=by
 unfold kK at a ⊢;split at a;cases a;rename_i e;rw[aKi e];unfold bB aX;rw[aab];dsimp only;rw[aKj rfl,vr (Ia (c _).nd)]
theorem Em (c:∀i,mC ways (S i)) (a:(bB n S no).2=0):bB n (yW n ways S no) no=bB n S no:=by
 obtain⟨g,f⟩:=oM a;have e:=Sy c a;unfold rb at e;rw[aKj a] at e;unfold yW;rw[aKj a,A3 (qN c) f e];grind
theorem Jy {S:Nat->List Th} {l a:Int} {w:Bool} (h:mZ n S l a w=true):mZ n S l a false=true:=by
 unfold mZ at h ⊢;unfold mM at h ⊢;grind [vA,O3]
end
end Go.Ct
section
namespace Go.Hm
open Go Go.Ab
structure rJ (k:Nat) (r:Row):Prop where
 core:0<=r.served.core/\r.served.core<4
 owner: -1<=r.owner/\r.owner<4
 waits:∀n∈r.waits,n.line=k/\(0<=n.core/\n.core<4)/\(n.kind=0\/n.kind=1\/n.kind=2\/n.kind=3)
 apart:∀i:Nat,i<4->r.sh i=true->(i:Int)≠r.owner
 want:r.busy=true->r.granted=false->r.served.kind=0\/r.served.kind=2\/r.owner≠r.served.core
 still:r.granted=true\/r.busy=false->r.quiet=true
 gb:r.granted=true->r.busy=true
theorem rJ.inv {k:Nat} {r:Row} (h:rJ k r):r.Inv:=⟨h.core,h.owner,fun n a=>(h.waits n a).2.1⟩
theorem aB8 (k:Nat):rJ k vL:=⟨by decide,by decide,by simp[vL],by simp[vL],by simp[vL],fun _=>rfl,by simp[vL]⟩
theorem quiet_of {r r':Row} (h:r'.asked=r.asked):r'.quiet=r.quiet:=by unfold Row.quiet;rw[h]
theorem Aj {k:Nat} {r:Row} {c:Int} (h:rJ k r):rJ k (r.leave c) where
 core:=h.core
 owner:=by unfold Row.leave;simp only;split;omega;exact h.owner
 waits:=h.waits
 apart:=fun i g a=>by
  unfold Row.leave gQ at a ⊢;simp only at a ⊢;split at a;cases a;split;omega;exact h.apart i g a
 want:=fun e f=>by
  rcases h.want e f with h|h|q;exact .inl h;exact .inr (.inl h);refine .inr (.inr ?_);have:=h.core;unfold Row.leave;grind
 still:=fun e=>(quiet_of (r':=r.leave c) rfl).trans (h.still e)
 gb:=h.gb
theorem A9 {k:Nat} {r:Row} (h:rJ k r) (c:r.quiet=true):rJ k r.free where
 core:=by show(0:Int)<=0/\(0:Int)<4;omega
 owner:=h.owner
 waits:=h.waits
 apart:=h.apart
 want:=fun a=>by cases a
 still:=fun _=>(quiet_of (r':=r.free) rfl).trans c
 gb:=fun a=>by cases a
theorem Bb {k:Nat} {r:Row} {n:aH} (h:rJ k r) (a:n.line=k) (c:0<=n.core/\n.core<4) (e:n.kind=0\/n.kind=1\/n.kind=2\/n.kind=3):rJ k (r.wait n) where
 core:=h.core
 owner:=h.owner
 waits:=fun m hm=>by
  rcases List.mem_append.1 hm with hm|hm;exact h.waits m hm;grind
 apart:=h.apart
 want:=h.want
 still:=fun a=>(quiet_of (r':=r.wait n) rfl).trans (h.still a)
 gb:=h.gb
theorem A6 {k:Nat} {r:Row} {n:aH} {w:List aH} (h:rJ k r) (e:r.waits=n::w):rJ k (r.next w) where
 core:=h.core
 owner:=h.owner
 waits:=fun m c=>h.waits m (by rw[e];exact List.mem_cons_of_mem _ c)
 apart:=h.apart
 want:=h.want
 still:=fun a=>(quiet_of (r':=r.next w) rfl).trans (h.still a)
 gb:=h.gb
structure A2 (k:Nat) (r:Row):Prop where
 core:0<=r.served.core/\r.served.core<4
 owner: -1<=r.owner/\r.owner<4
 waits:∀n∈r.waits,n.line=k/\(0<=n.core/\n.core<4)/\(n.kind=0\/n.kind=1\/n.kind=2\/n.kind=3)
 apart:∀i:Nat,i<4->r.sh i=true->(i:Int)≠r.owner
 want:r.served.kind=0\/r.served.kind=2\/r.owner≠r.served.core
 busy:r.busy=true
 gr:r.granted=false
theorem A2.jg {k:Nat} {r:Row} (h:A2 k r):rJ k r:=⟨h.core,h.owner,h.waits,h.apart,fun _ _=>h.want,fun a=>by rw[h.busy,h.gr] at a;simp at a,fun a=>by rw[h.gr] at a;cases a⟩
theorem yD {k:Nat} {r:Row} {line:Int} {d:Ln} (h:A2 k r) (q:r.served.kind≠0) (f:r.quiet=true):rJ k (r.eC line d).1:=by
 have s:=h.core;unfold Row.eC;split;exact⟨h.core,by simp only;omega,h.waits,fun i _ c=>(by cases c),fun _ a=>(by cases a),fun _=>f,fun _=>h.busy⟩;rename_i a;split;refine⟨h.core,by simp only;omega,h.waits,fun i g c=>?_,fun _ a=>(by cases a),fun _=>f,fun _=>h.busy⟩;simp only[gQ] at c ⊢;grind;refine⟨h.core,h.owner,h.waits,fun i g c=>?_,fun _ a=>(by cases a),fun _=>f,fun _=>h.busy⟩;simp only[gQ] at c ⊢;split at c;rename_i e;rcases h.want with h|h|h;exact absurd h q;exact absurd h a;grind;exact h.apart i g c
theorem A4 {k:Nat} {r:Row} {l:List Nat} (h:A2 k r):rJ k (r.gW l):=A2.jg ⟨h.core,h.owner,h.waits,h.apart,h.want,h.busy,h.gr⟩
theorem cu {k:Nat} {r:Row} {line:Int} {m:Ln} (h:A2 k r):rJ k (r.rest line m).1:=by
 unfold Row.rest;split;rename_i a;split;exact A9 h.jg a;rename_i c;exact yD h c a;exact h.jg
theorem C4 {k:Nat} {r:Row} {n:aH} (h:rJ k r) (u:0<=n.core/\n.core<4) (s:r.asked n.core.toNat=true):A2 k (r.heard n):=by
 have q:r.quiet=false:=by
  have:n.core.toNat=0\/n.core.toNat=1\/n.core.toNat=2\/n.core.toNat=3:=by omega
  unfold Row.quiet;grind
 have a:r.granted=false:=by
  cases a:r.granted with
  |false=>rfl
  |true=>have:=h.still (.inl a);grind
 have hb:r.busy=true:=by
  cases hb:r.busy with
  |true=>rfl
  |false=>have:=h.still (.inr hb);grind
 have e:A2 k (r.eT n):=⟨h.core,h.owner,h.waits,h.apart,h.want hb a,hb,a⟩;have f:A2 k ((r.eT n).Dj n):=⟨h.core,by show -1<=(-1:Int)/\(-1:Int)<4;omega,h.waits,fun i t _=>by show(i:Int)≠ -1;omega,by
  have:=h.core;right;right;show(-1:Int)≠r.served.core;omega,hb,a⟩
 have g:∀{r:Row},A2 k r->A2 k (r.lI n):=fun h=>⟨h.core,h.owner,h.waits,h.apart,h.want,h.busy,h.gr⟩;unfold Row.heard;split;have:=Aj (c:=n.core) e.jg;exact⟨this.core,this.owner,this.waits,this.apart,this.want hb a,hb,a⟩;split;split;exact g f;exact f;split;exact g e;exact e
theorem dr {k:Nat} {x:mT} {n:aH} (h:rJ k x.1) (i:fG n.kind) (e:n.line=k) (c:0<=n.core/\n.core<4):rJ k (mT.take x k n).1.1:=by
 unfold mT.take;split;split;exact h;rename_i f;have a:x.1.granted=true:=by
  cases a:x.1.granted with
  |true=>rfl
  |false=>exact absurd (.inl a) f
 exact A9 h (h.still (.inl a));split;split;exact h;rename_i g;exact cu (C4 h c (by simpa using g));rename_i q s;exact Bb h e c (by unfold fG at i;omega)
theorem Hn {r:Row} {x:Int}:∀(f i:Nat),r.tR x f i≠ -1->r.eX x f i≠[]:=by
 intro f;induction f with
 |zero=>intro i h;exact absurd rfl h
 |succ f a=>
  intro i h;unfold Row.tR at h;unfold Row.eX;grind
theorem S0 {r:Row} {x:Int}:∀(f i:Nat),∀c∈r.eX x f i,(c:Int)≠x:=by
 intro f;induction f with
 |zero=>intro i c a;simp[Row.eX] at a
 |succ f g=>
  intro i c a;unfold Row.eX at a;split at a;rename_i e;rcases List.mem_cons.1 a with rfl|a;unfold Row.holds at e;simp at e;exact e.1;exact g _ c a;exact g _ c a
def aH.vZ (n:aH):aH:=if n.kind=0 then {n with core:= -1} else n
theorem Iu {k:Nat} {r:Row} {d:Ln} {n:aH} (f:r.served.core=n.core) (c:n.kind=1\/n.kind=2) (e:n.line=k):(∀m∈(r.eC k d).2,m.fits n.vZ (r.eC k d).2.length)/\(r.eC k d).2≠[]:=by
 have g:n.vZ=n:=by unfold aH.vZ;rw[aab]
 rw[g];unfold Row.eC;split;refine⟨fun m a=>?_,by simp⟩;rw[List.mem_singleton.1 a];exact⟨e.symm,rfl,.inl ⟨rfl,f,rfl,c⟩⟩;split;refine⟨fun m a=>?_,by simp⟩;rw[List.mem_singleton.1 a];exact⟨e.symm,rfl,.inl ⟨rfl,f,rfl,c⟩⟩;refine⟨fun m a=>?_,by simp⟩;rw[List.mem_singleton.1 a];exact⟨e.symm,rfl,.inl ⟨rfl,f,rfl,c⟩⟩
theorem zJ {k:Nat} {n:aH} {st:Int} {l:List Nat} (f:n.line=k) (q:n.kind=1\/n.kind=2\/(n.kind=0/\st=0)) (hc:∀c∈l,(c:Int)≠n.vZ.core) {len:Nat}:∀m∈eB k st l,m.fits n.vZ len:=by
 intro m g;obtain⟨c,a,rfl⟩:=List.mem_map.1 g;have e:n.vZ.line=k:=by unfold aH.vZ;split<;>exact f
 have i:n.vZ.kind=n.kind:=by unfold aH.vZ;split<;>rfl
 refine⟨e.symm,rfl,.inr (.inr (.inr ⟨rfl,rfl,hc c a,?_⟩))⟩;grind
theorem zk {k:Nat} {r:Row} {n:aH} {w:Int} {m:Ln} (h:rJ k r) (hb:r.busy=false) (g:n.line=k) (t:0<=n.core/\n.core<4) (y:n.kind=1\/n.kind=2):
  rJ k (r.get k m n w).1/\(∀x∈(r.get k m n w).2,x.fits n.vZ (r.get k m n w).2.length)/\(r.get k m n w).2≠[]:=by
 have z:=h.still (.inr hb)
 have f:r.granted=false:=by
  cases f:r.granted with
  |false=>rfl
  |true=>have:=h.gb f;grind
 have v:n.vZ=n:=by unfold aH.vZ;rw[aab]
 unfold Row.get
 simp only
 split
 .rename_i q;have A:A2 k (r.serve n w):=⟨t,h.owner,h.waits,h.apart,.inr (.inl q),rfl,f⟩;unfold Row.getM;split
  .rename_i a;refine⟨A4 A,?_,?_⟩
   .exact zJ g (.inr (.inl q)) (fun c s=>by rw[v];exact S0 4 0 c s)
   .have:=Hn 4 0 a;intro e;exact this (List.map_eq_nil_iff.1 e)
  .exact⟨yD A (by show n.kind≠0;omega) z,Iu rfl y g⟩
 .rename_i q;have E:n.kind=1:=by omega
  have B:(r.serve n w).oF.served=n/\(r.serve n w).oF.asked=r.asked/\((r.serve n w).oF.owner= -1\/((r.serve n w).oF.owner=r.owner/\r.owner≠n.core))/\A2 k (r.serve n w).oF:=by
   unfold Row.oF;split;refine⟨rfl,rfl,.inl rfl,⟨t,by grind,h.waits,fun i _ _=>by grind,.inr (.inr ?_),rfl,f⟩⟩;show(-1:Int)≠n.core;omega;rename_i a;exact⟨rfl,rfl,.inr ⟨rfl,a⟩,⟨t,h.owner,h.waits,h.apart,.inr (.inr a),rfl,f⟩⟩
  generalize(r.serve n w).oF=r2 at B
  obtain⟨D,F,I,u⟩:=B
  unfold Row.S3
  split
  .rename_i a;refine⟨A4 u,?_,by simp[eB]⟩;refine zJ g (.inl E) (fun c s=>?_);rw[List.mem_singleton.1 s,v];have:=u.owner;omega
  .exact⟨yD u (by rw[D];omega) (by rw[quiet_of F];exact z),Iu (by rw[D]) y g⟩
theorem j0 {k:Nat} {r:Row} {n:aH} {m:Ln} {j:Int->Int×Bool} (h:rJ k r) (hb:r.busy=false) (i:n.line=k) (u:0<=n.core/\n.core<4) (v:n.kind=0\/n.kind=1\/n.kind=2\/n.kind=3):
  rJ k (r.begun k m n j).1.1/\(∀x∈(r.begun k m n j).2,x.fits n.vZ (r.begun k m n j).2.length)/\((r.begun k m n j).2≠[]\/n.vZ.kind=0):=by
 have y:=h.still (.inr hb)
 have q:r.granted=false:=by
  cases q:r.granted with
  |false=>rfl
  |true=>have:=h.gb q;rw[hb] at this;cases this
 unfold Row.begun
 split
 .rename_i t;have f:n.vZ=n:=by unfold aH.vZ;rw[aab]
  refine⟨Aj h,fun x s=>?_,.inl (by simp)⟩
  rw[List.mem_singleton.1 s,f]
  exact⟨i.symm,rfl,.inr (.inr (.inl ⟨rfl,rfl,rfl,rfl,t⟩))⟩
 .rename_i t;split
  .rename_i e;have f:n.vZ=n:=by unfold aH.vZ;rw[aab]
   split
   .obtain⟨a,b,c⟩:=zk (m:=m) (w:=(j n.world).1) h hb i u e;grind
   .refine⟨h,fun x s=>?_,.inl (by simp)⟩;rw[List.mem_singleton.1 s,f];exact⟨i.symm,rfl,.inr (.inl ⟨rfl,rfl,rfl,rfl,e⟩)⟩
  .rename_i e;have g:n.kind=0:=by omega
   have f:n.vZ={n with core:= -1}:=by unfold aH.vZ;rw[aKj g]
   split
   .grind
   .refine⟨A4 (r:=r.Lr n) ⟨u,h.owner,h.waits,h.apart,.inl g,rfl,q⟩,?_,.inr (by rw[f];exact g)⟩;exact zJ i (.inr (.inr ⟨g,rfl⟩)) (fun c _=>by grind)
end Go.Hm
namespace Go.Hm
open Go Go.Ab
theorem rQ {r:Row} {line:Int} {d:Ln}:(r.eC line d).1.waits=r.waits:=by
 unfold Row.eC;grind
theorem Vm {r:Row} {line:Int} {m:Ln}:(r.rest line m).1.waits=r.waits:=by
 unfold Row.rest;split;split;rfl;exact rQ;rfl
theorem rB {r:Row} {n:aH}:(r.heard n).waits=r.waits:=by
 unfold Row.heard;repeat' split
 all_goals rfl
theorem dy {r:Row} {line:Int} {m:Ln} {n:aH} {w:Int}:(r.get line m n w).1.waits=r.waits:=by
 have a:(r.serve n w).oF.waits=r.waits:=by unfold Row.oF;split<;>rfl
 unfold Row.get;simp only;split;unfold Row.getM;split;rfl;exact rQ;unfold Row.S3;split;exact a;rw[rQ];exact a
theorem Ti {r:Row} {line:Int} {m:Ln} {n:aH} {j:Int->Int×Bool}:(r.begun line m n j).1.1.waits=r.waits:=by
 unfold Row.begun;split;rfl;split;split;exact dy;rfl;split<;>rfl
theorem Fl {r:Row} {line:Int} {d:Ln}:(r.eC line d).2.length<=4:=by
 unfold Row.eC;grind
theorem Cq {line st:Int} {l:List Nat}:(eB line st l).length=l.length:=by simp[eB]
theorem P2 {r:Row} {line:Int} {m:Ln} {n:aH} {w:Int}:(r.get line m n w).2.length<=4:=by
 unfold Row.get;simp only;split;unfold Row.getM;split;rw[Cq];exact uJ;exact Fl;unfold Row.S3;split;simp[Cq];exact Fl
theorem et {r:Row} {line:Int} {m:Ln} {n:aH} {j:Int->Int×Bool}:(r.begun line m n j).2.length<=4:=by
 unfold Row.begun;split;simp;split;split;exact P2;simp;split;simp;rw[Cq];exact uJ
theorem P0 {C:bN} {H:lT} {l:Int} {j:Int->Int×Bool}:(iB C H l j).2.1.length<=4:=by
 unfold iB;split;unfold mT.begin;split;simp;split;simp;exact et;simp
end Go.Hm
end
namespace Go.Mc
open Go Go.Ab Go.Hm Go.At Go.Is Go.Ct Go.Nt
section
structure iA (C:bN) (m:Mon):Prop where
 len:m.cE.length=C.aQ.toNat
 own:∀x∈m.cE,0<=x.owner/\x.owner<=4
 run:∀g r,m.runs g=some r->(g:Int)<C.aQ/\r.bI=g/\(r.phase=1\/r.phase=2)/\(0<=r.core/\r.core<C.aD)/\(0<=r.then'/\r.then'<=4)
def lh (Cf:bN) (F:fM):Prop:=∀c w,(F c w).length<=Cf.depth
theorem iA.kJ {C:bN} {m:Mon} (h:iA C m) {g:Int} (a:m.has g):0<=(m.kJ g).owner/\(m.kJ g).owner<=4:=by
 refine h.own _ ?_;unfold Mon.has at a;unfold Mon.kJ;grind
theorem iA.aGj {C:bN} {m:Mon} (hC:C.Ok) (a:iA C m):∀g r,m.runs g=some r->g<16:=by
 intro g r c;have:=(a.run g r c).1;have:=hC.2.1;omega
theorem lh.S1 {Cf:bN} {F:fM} (hC:Cf.Ok) (h:lh Cf F):∀c w,(F c w).length<=500:=by
 intro c w;have:=h c w;have:=hC.2.2.2.2.1;omega
structure s7 (Cf:bN) (M:cU) (i:Nat):Prop where
 bZ:iA Cf M.bZ
 E9:(M.bC i).Ok
 Mt:gU Cf (M.cG i)
 nC:(M.cA i).known.length<=100
 iC:lh Cf M.iC
 log:M.log.length<=2^30
structure xI (Cf:bN) (M:cU) (n:aH):Prop where
 core:0<=n.core/\n.core<Cf.aD
 bZ:iA Cf M.bZ
 home:zC Cf M.home (2^30 - 4)
 Mt:gU Cf (M.cG n.core.toNat)
 nC:(M.cA n.core.toNat).known.length<=100
 bI:0<=(M.cA n.core.toNat).bI/\(M.cA n.core.toNat).bI<Cf.aQ
 word:n.kind=12->0<=n.d0/\n.d0<=1000000
structure iu (C:bN) (n:aH):Prop where
 nC:nC C n=0
 word:n.kind=12->0<=n.d0/\n.d0<=1000000
def Rq (C:bN) (N:Nat) (H:lT):Prop:=∀l,l<C.lines->rJ l (H l).1/\(H l).1.waits.length<=N
structure K9 (C:bN) (F:fM):Prop where
 len:lh C F
 note:∀c w,∀n∈F c w,iu C n/\n.core.toNat=c/\fR n=w
def yR (C:bN) (c:jP):Prop:=(c.known.length:Int)<=C.entries/\0<=c.bI/\c.bI<C.aQ
structure dU (C:bN) (N:Nat) (M:cU):Prop where
 bZ:iA C M.bZ
 E9:∀i:Nat,(i:Int)<C.aD->(M.bC i).Ok
 Mt:∀i:Nat,(i:Int)<C.aD->gU C (M.cG i)
 nC:∀i:Nat,(i:Int)<C.aD->yR C (M.cA i)
 home:Rq C N M.home
 iC:K9 C M.iC
 log:M.log.length<=N
variable {C:bN} {N:Nat} {M:cU}
theorem Rq.h {H:lT} (h:Rq C N H) {K:Nat} (c:N<=K):zC C H K:=fun l a=>⟨(h l a).1.inv,Nat.le_trans (h l a).2 c⟩
theorem yR.len (hC:C.Ok) {c:jP} (h:yR C c):c.known.length<=100:=by
 have:=h.1;have:C.entries<=8:=by unfold bN.Ok at hC;omega
 omega
theorem dU.step (h:dU C N M) (hC:C.Ok) (c:N<=2^29) {i:Nat} (a:(i:Int)<C.aD):s7 C M i:=⟨h.bZ,h.E9 i a,h.Mt i a,(h.nC i a).len hC,h.iC.len,by have:=h.log;omega⟩
theorem vR {n:aH} (h:nC C n=0):Ms n.kind/\0<=n.core/\n.core<C.aD:=by
 unfold Nt.nC at h;split at h
 .rename_i f;split at h
  .split at h
   .rename_i q;refine⟨f,?_⟩;have a:=q.1;unfold Ms at f;have:∃c,Cs n.kind.toNat=1::c:=by
     rcases k14 (k:=n.kind.toNat) (by omega) with e|e|e|e|e|e|e|e|e|e|e|e|e|e;omega;all_goals rw[e];exact⟨_,rfl⟩
    obtain⟨c,g⟩:=this;rw[g] at a;unfold mE at a;split at a;rename_i i;exact i;cases a
   cases h
  cases h
 cases h
theorem kj {n:aH} (h:nC C n=0) (c:n.kind=8):n.state=1\/n.state=2\/n.state=4:=by
 unfold Nt.nC at h;rw[c] at h;split at h;split at h;split at h;rename_i f;have a:=f.1;rw[show Cs (8:Int).toNat=[1,2,4,6,8,9] from rfl] at a;simp only[mE] at a;split at a;split at a;split at a;split at a;rename_i e;exact e;cases a;cases a;cases a;cases a;cases h;cases h;cases h
theorem Ku {F:fM} {a b c:Int} (hF:K9 C F) (e:(F.take C a b c).2.2=0):iu C (F.take C a b c).2.1/\(F.take C a b c).2.1∈F a.toNat b.toNat:=by
 unfold fM.take at e ⊢;by_cases i:(0<=a/\a<C.aD)/\(0<=b/\b<4);rw[aKi (fun h=>h i)] at e ⊢;dsimp only at e ⊢;by_cases f:F a.toNat b.toNat=[];grind;rw[aKi f];have s:0<(F a.toNat b.toNat).length:=List.length_pos_iff.2 f;have hb:(c % ((F a.toNat b.toNat).length:Int)).toNat<(F a.toNat b.toNat).length:=by
  have k:=Int.emod_nonneg c (show((F a.toNat b.toNat).length:Int)≠0 by omega);have q:=Int.emod_lt_of_pos c (show(0:Int)<((F a.toNat b.toNat).length:Int) by omega);omega
 have g:(F a.toNat b.toNat).getD (c % ((F a.toNat b.toNat).length:Int)).toNat aH.zero∈F a.toNat b.toNat:=by
  grind
 exact⟨(hF.note _ _ _ g).1,g⟩;grind
theorem T5 {F:fM} {a b c:Int} (hF:K9 C F):K9 C (F.take C a b c).1:=by
 unfold fM.take;split;exact hF;dsimp only;split;exact hF;constructor;intro x y;unfold fM.set;dsimp only;split;rename_i e;have:=hF.len x y;grind;exact hF.len x y;intro x y n f;unfold fM.set at f;dsimp only at f;split at f;rename_i e;have:=hF.note _ _ n (List.mem_of_mem_eraseIdx f);grind;exact hF.note x y n f
theorem zo {F:fM} {n:aH} (hF:K9 C F) (c:iu C n) (a:((F n.core.toNat (fR n)).length:Int)<C.depth):K9 C (F.put n):=by
 constructor;intro x y;unfold fM.put fM.set;split;grind;exact hF.len x y;intro x y k hk;unfold fM.put fM.set at hk;split at hk;rename_i e;rcases List.mem_append.1 hk with hk|hk;rw[e.1,e.2];exact hF.note _ _ k hk;grind;exact hF.note x y k hk
theorem sa:∀{l:List aH} {F a:fM},K9 C F->(∀n∈l,iu C n)->fM.zD C.depth F l=some a->K9 C a:=by
 intro l;induction l with
 |nil=>intro F a hF _ h;cases h;exact hF
 |cons n l g=>
  intro F a hF c h;unfold fM.zD at h;split at h;rename_i e;exact g (zo hF (c n List.mem_cons_self) e) (fun k f=>c k (List.mem_cons_of_mem _ f)) h;cases h
theorem D4:∀{l:List aH},cA C l=0->∀n∈l,Nt.nC C n=0
 |[],_,n,a=>by cases a
 |k::l,h,n,a=>by
  unfold cA at h;split at h;grind;rename_i c;rcases List.mem_cons.1 a with rfl|a;simpa using c;exact D4 h n a
theorem zV {F:fM} {l:List aH} (hF:K9 C F) (f:∀n∈l,n.kind=12->0<=n.d0/\n.d0<=1000000):K9 C (F.send C l).1:=by
 unfold fM.send;split;exact hF;rename_i c;split;rename_i g e;exact sa hF (fun n a=>⟨D4 (by simpa using c) n a,f n a⟩) e;exact hF
theorem Sq {s:aT} (a:s.Ok) (h:s.over=false):Fits (Ak s.prog s.at') s.prog.length/\s.at'<s.prog.length:=by
 have c:=a.2.2.1;rw[h] at c;have e:=Qe c.symm;exact⟨R2 (a.2.2.2.2 _ (S4 a.1 e)),e⟩
theorem pU {s t:aT} {a:Int} (c:s.Ok) (f:t.prog=s.prog) (e:0<=a) (g:a<=s.prog.length):(t.lF a).Ok:=by
 unfold aT.Ok aT.lF;dsimp only;rw[f];exact⟨e,by have:=c.2.2.2.1;omega,rfl,c.2.2.2.1,c.2.2.2.2⟩
theorem ou {s:aT} {i:Nat} {r:aT×Ev} (a:s.Ok) (h:aT.nV s i=some r):r.1.Ok:=by
 unfold aT.nV aT.next? at h;cases hov:s.over with
 |true=>grind
 |false=>
  rw[hov] at h;simp only[Bool.false_eq_true,if_false] at h;obtain⟨c,g⟩:=Sq a hov;have f:=a.1;split at h;cases h;exact pU a rfl (by omega) (by omega);split at h;cases h;exact pU a rfl (by omega) (by omega);split at h;cases h;exact pU a rfl (by omega) (by omega);split at h;split at h;cases h;exact pU a rfl (by omega) (by omega);cases h;exact pU a rfl (by omega) (by omega);split at h;rename_i e;have:=c.p1 e;cases h;exact pU a rfl (by omega) (by omega);split at h;rename_i e;have:=c.p2 e;cases h;refine pU a rfl ?_ ?_;split<;>omega;split<;>omega;cases h
theorem ky {s:aT} {i:Nat} {v c:Int} (a:s.Ok):(aT.bQ s i v c).1.Ok:=by
 unfold aT.bQ;cases hn:aT.next? s with
 |none=>exact a
 |some x=>
  have e:s.over=false:=by
   unfold aT.next? at hn;cases h:s.over with
   |false=>rfl
   |true=>rw[h] at hn;simp at hn
  obtain⟨g,k⟩:=Sq a e;have f:=a.1;dsimp only;split;exact pU a rfl (by omega) (by omega);split;split;exact a;split;exact pU a rfl (by omega) (by omega);split;exact pU a rfl (by omega) (by omega);exact pU a rfl (by omega) (by omega);exact a
theorem wm (hC:C.Ok) {c:jP} {f:Int×Int} (h:yR C c):yR C (c.Ar C f):=by
 have a:1<=C.entries:=by unfold bN.Ok at hC;omega
 refine⟨?_,h.2⟩;unfold jP.Ar;dsimp only;have:=h.1;grind
theorem ga {c:jP} {g:Int} (h:yR C c):yR C (c.begin C g).1:=by
 unfold jP.begin;split;exact h;rename_i a;split;exact h;split;exact h;refine⟨h.1,?_⟩;show 0<=g/\g<C.aQ;simpa using a
theorem ib (hC:C.Ok) {c:jP} {a w:Int} (h:yR C c):yR C (c.walked C a w).1:=by
 have e:1<=C.aQ:=hC.2.1.1;unfold jP.walked;split;exact h;split;exact h;split;exact h;dsimp only;split;exact h;split;exact h;split;exact h;refine⟨(wm hC h).1,?_⟩;show(0:Int)<=0/\(0:Int)<C.aQ;omega
theorem xi {c:jP} {g:Int} (h:yR C c):yR C (c.drop C g).1:=by
 unfold jP.drop;split;exact h;refine⟨?_,h.2⟩;have:=List.length_filter_le (fun x:Int×Int=> !decide (g= -1\/x.1=g)) c.known;have:=h.1;dsimp only;omega
end
section
variable {C:bN} {N:Nat} {M:cU}
theorem dU.mono {K:Nat} (h:dU C N M) (c:N<=K):dU C K M:=⟨h.bZ,h.E9,h.Mt,h.nC,fun l a=>⟨(h.home l a).1,Nat.le_trans (h.home l a).2 c⟩,h.iC,Nat.le_trans h.log c⟩
theorem Pb {α:Type} {P:α->Prop} {s:Nat->α} {i:Nat} {t:α} {n:Int} (h:∀j:Nat,(j:Int)<n->P (s j)) (c:P t):∀j:Nat,(j:Int)<n->P (aX s i t j):=by
 intro j a;unfold aX;grind
theorem dU.dS (h:dU C N M) {F:fM} (hF:K9 C F):dU C N (M.dS F):={h with iC:=hF}
theorem dU.nE (h:dU C N M) {m:Mon} (a:iA C m):dU C N (M.nE m):={h with bZ:=a}
theorem dU.pV (h:dU C N M) {H:lT} {K:Nat} (a:N<=K) (hH:Rq C K H):dU C K (M.pV H):={h.mono a with home:=hH}
theorem dU.uB (h:dU C N M) {i:Nat} {c:iH} (hc:gU C c):dU C N (M.uB i c):={h with Mt:=Pb h.Mt hc}
theorem dU.Dl (h:dU C N M) {i:Nat} {c:jP} (hc:yR C c):dU C N (M.Dl i c):={h with nC:=Pb h.nC hc}
theorem dU.Mu (h:dU C N M) {i:Nat} {c:aT} (hc:c.Ok):dU C N (M.Mu i c):={h with E9:=Pb h.E9 hc}
theorem dU.Mv (h:dU C N M) {v:Ev}:dU C (N+1) (M.Mv v):={h.mono (Nat.le_succ N) with log:=by show(M.log++[v]).length<=N+1;rw[List.length_append,List.length_singleton];have:=h.log;omega}
theorem zd {m:Mon} (h:iA C m) {g:Int} (a:m.has g):0<=(m.kJ g).owner/\(m.kJ g).owner<=4:=by
 refine h.own _ ?_;unfold Mon.has at a;unfold Mon.kJ;grind
theorem Y3 {m:Mon} (h:iA C m) {g:Nat} {x:gZ} (c:0<=x.owner/\x.owner<=4):iA C (m.oY g x):=
 ⟨by show(m.cE.set g x).length=_;rw[List.length_set];exact h.len,fun y a=>by
  rcases List.mem_or_eq_of_mem_set a with a|rfl;exact h.own y a;exact c,h.run⟩
theorem O6 {m:Mon} (h:iA C m) {g:Nat} {x:Option Mc.jG} (c:∀r,x=some r->(g:Int)<C.aQ/\r.bI=g/\(r.phase=1\/r.phase=2)/\(0<=r.core/\r.core<C.aD)/\(0<=r.then'/\r.then'<=4)):iA C (m.cQ g x):=
 ⟨h.len,h.own,fun k r a=>by
  unfold Mon.cQ aX at a;dsimp only at a;split at a;grind;exact h.run k r a⟩
theorem oq {c w o t:Int}:0<=(gX c w o t).1/\(gX c w o t).1<=4:=by
 unfold gX;grind
theorem vk {m:Mon} (h:iA C m) {a:Mc.Ask}:iA C (m.call C.aD a).1:=by
 unfold Mon.call;split;exact h;rename_i f;split;exact h;rename_i c;have c:m.has a.bI:=Decidable.not_not.1 c;split;exact h;split;exact h;dsimp only;split;exact h;have i:=h.len;have e:=c;unfold Mon.has at e;refine O6 (Y3 h (x:=⟨(m.kJ a.bI).owner,true⟩) (zd h c)) fun r g=>?_;cases g;refine⟨by omega,?_,.inl rfl,Decidable.not_not.1 f,oq⟩;show a.bI=_;omega
theorem Hg {m:Mon} (h:iA C m) {g c:Int}:iA C (m.dropped C.aD g c).1:=by
 unfold Mon.dropped;split;exact h;rename_i k;have k:m.has g:=Decidable.not_not.1 k;split;exact h;rename_i r f;split;exact h;split;exact h;unfold Mon.run at f;split at f;refine O6 h fun q i=>?_;cases i;obtain⟨a,b,c,d,e⟩:=h.run _ r f;refine⟨a,b,?_,d,e⟩;unfold jG.hZ jG.heard;grind;cases f
theorem Uw {m:Mon} (h:iA C m) {g:Int}:iA C (m.over g).1/\∀u,(m.over g).2.1=some u->0<=u.core/\u.core<C.aD:=by
 unfold Mon.over;split;grind;split;grind;rename_i r f;split;grind;unfold Mon.run at f;split at f;obtain⟨a,b,c,d,e⟩:=h.run _ r f;exact⟨O6 (Y3 h e) (fun r f=>by cases f),(fun u i=>by cases i;exact d)⟩;cases f
theorem Rq.vH {H:lT} (h:Rq C N H) {l:Nat} {x:mT} (c:rJ l x.1) (e:x.1.waits.length<=N+1):Rq C (N+1) (aX H l x):=by
 intro k a;unfold aX;split;grind;exact⟨(h k a).1,Nat.le_succ_of_le (h k a).2⟩
theorem Rq.mono {H:lT} {K:Nat} (h:Rq C N H) (c:N<=K):Rq C K H:=fun l a=>⟨(h l a).1,Nat.le_trans (h l a).2 c⟩
theorem N4 {H:lT} {l:Int} (h:Rq C N H):Rq C (N+1) (jF C H l).1:=by
 unfold jF;split;rename_i a;obtain⟨k,rfl⟩:=Int.eq_ofNat_of_zero_le a.1;have e:k<C.lines:=by have:=a.2;omega
 simp only[Int.toNat_natCast];obtain⟨c,f⟩:=h k e;refine h.vH (Bb c rfl (by show(0:Int)<=0/\(0:Int)<4;omega) (.inl rfl)) ?_;show((H k).1.waits++[mW k]).length<=N+1;simp;omega;exact h.mono (Nat.le_succ N)
theorem r9 {H:lT} {n:aH} (hC:C.Ok) (h:Rq C N H):Rq C (N+1) (fA C H n).1:=by
 have t:=hC.1;unfold fA;split;exact h.mono (Nat.le_succ N);rename_i f;have f:fG n.kind:=Decidable.not_not.1 f;split;rename_i v;obtain⟨w,i⟩:=v;obtain⟨l,a⟩:=Int.eq_ofNat_of_zero_le i.1;have u:l<C.lines:=by have:=i.2;omega
 have e:n.line.toNat=l:=by omega
 simp only[e];obtain⟨k,q⟩:=h l u;have s:=dr (x:=H l) k f a (by omega);rw[a];refine h.vH s ?_;by_cases c:n.kind=4;unfold mT.take;rw[aKj c];split;grind;exact Nat.le_succ_of_le q;by_cases g:n.kind=5;unfold mT.take;rw[aKi c,aKj g];split;grind;simp only[mT.nI,Vm,rB];omega;unfold mT.take;rw[aKi c,aKi g];show((H l).1.waits++[n]).length<=N+1;simp;omega;exact h.mono (Nat.le_succ N)
theorem j1 {H:lT} {l:Int} {j:Int->Int×Bool} (h:Rq C N H):Rq C (N+1) (iB C H l j).1:=by
 unfold iB;split;rename_i i;obtain⟨k,rfl⟩:=Int.eq_ofNat_of_zero_le i.1;have q:k<C.lines:=by have:=i.2;omega
 simp only[Int.toNat_natCast];obtain⟨e,g⟩:=h k q;unfold mT.begin;split;exact h.vH e (Nat.le_succ_of_le g);rename_i hb;cases hw:(H k).1.waits with
 |nil=>exact h.vH e (Nat.le_succ_of_le g)
 |cons n w=>
  simp only;have f:=e.waits n (by grind);obtain⟨a,b,c⟩:=j0 (m:=(H k).2) (j:=j) (A6 e hw) (show((H k).1.next w).busy=false from(by simpa using hb:(H k).1.busy=false)) f.1 f.2.1 f.2.2;refine h.vH a ?_;rw[Ti];show w.length<=N+1;grind
 exact h.mono (Nat.le_succ N)
theorem kx {H:lT} {g:Int} (h:Rq C N H):Rq C N (jW H g):=by
 intro l a;unfold jW;split;exact h l a;exact h l a
theorem bh {n g:Int} (c:0<=n/\n<=16) (a:0<=g/\g<=100):0<=iW n g/\iW n g<=1000:=by unfold iW;omega
theorem nr {es:List gZ} (s:es.length<=16) (i:∀x∈es,0<=x.owner/\x.owner<=4) {a:Int}:0<=(iS es a).1/\(iS es a).1<=1000000:=by
 have f:∀k,0<=(es.getD k iO).owner/\(es.getD k iO).owner<=4:=by
  intro k;rw[List.getD_eq_getElem?_getD];cases hk:es[k]? with
  |none=>show(0:Int)<=0/\(0:Int)<=4;omega
  |some x=>grind
 have c:∀w∈iD es,0<=w/\w<=1000000:=by
  intro w hw;unfold iD at hw;rcases List.mem_append.1 hw with hw|hw;obtain⟨j,e,rfl⟩:=List.mem_map.1 hw;have e:=List.mem_range.1 e;unfold Mh;split;grind;have:=bh (n:=es.length) (g:=((4*j:Nat):Int)) (by omega) (by omega);omega;obtain⟨x,q,rfl⟩:=List.mem_map.1 hw;have:=i x q;unfold Qj;split<;>omega
 unfold iS;split;simp_all;grind
theorem Ap (h:dU C N M) {i:Nat} {v c:Int} (a:(i:Int)<C.aD):dU C (N+1) (M.bQ i v c).1:=by
 unfold cU.bQ;dsimp only;split;exact h.mono (Nat.le_succ N);exact(h.Mu (ky (h.E9 i a))).Mv
def KK (k:Int):Prop:=k=6\/k=7\/k=12\/k=13
theorem aDk {l:List aH} (h:∀n∈l,n.kind≠12):∀n∈l,n.kind=12->0<=n.d0/\n.d0<=1000000:=fun n a e=>absurd e (h n a)
theorem noK {l:List aH} (h:∀n∈l,¬KK n.kind):∀n∈l,n.kind=12->0<=n.d0/\n.d0<=1000000:=aDk fun n a e=>h n a (by unfold KK;omega)
theorem aE0 (h:dU C N M) {i:Nat} {a:Mc.Ask} (e:(i:Int)<C.aD):dU C (N+1) (M.call C i a).1:=by
 unfold cU.call;dsimp only;split;exact Ap h e;split;exact h.mono (Nat.le_succ N);refine((h.dS (zV h.iC (aDk ?_))).nE (vk h.bZ)).mono (Nat.le_succ N);intro n c;unfold tH at c;obtain⟨k,_,rfl⟩:=List.mem_map.1 c;show(13:Int)≠12;omega
theorem aDd (h:dU C N M) {i:Nat} {g:Int} (a:(i:Int)<C.aD):dU C (N+1) (M.walk C i g).1:=by
 unfold cU.walk;dsimp only;split;exact h.mono (Nat.le_succ N);split;exact h.mono (Nat.le_succ N);refine((h.dS (zV h.iC (aDk ?_))).Dl (ga (h.nC i a))).mono (Nat.le_succ N);intro n c;rw[List.mem_singleton.1 c];show(6:Int)≠12;omega
theorem wk {core:Int} {s:iH} {l w:Int} {wr:Bool}:∀n∈(want C core s l w wr).2.1,¬KK n.kind:=by
 intro n a;unfold want at a;split at a;cases a;split at a;cases a;split at a;cases a;split at a;cases a;unfold zI at a;split at a;simp only[mU,List.nil_append,List.mem_singleton] at a;rw[a];unfold KK;grind;split at a;cases a;split at a;cases a;simp only[mU,List.mem_append,List.mem_singleton] at a;rcases a with rfl|rfl;unfold KK;dsimp only;omega;unfold KK;grind
theorem aE3 (h:dU C N M) {i:Nat} {l:Int} {wr:Bool} (a:(i:Int)<C.aD):dU C (N+1) (M.want C i l wr).1:=by
 unfold cU.want;dsimp only;split;exact h.mono (Nat.le_succ N);split;exact h.mono (Nat.le_succ N);exact((h.dS (zV h.iC (noK wk))).uB (jk (h.Mt i a))).mono (Nat.le_succ N)
theorem aDo (h:dU C N M) {i:Nat} {l a o:Int} {x:Acc} (c:(i:Int)<C.aD):dU C (N+1) (M.Jd C i l a o x).1:=by
 unfold cU.Jd;dsimp only;refine Ap (h.uB ?_) c;have e:gU C (if x.read=true then oK C (M.cG i) l a o else M.cG i):=by
  split;exact F7 (h.Mt i c);exact h.Mt i c
 split;exact Jg e;exact e
theorem vx (h:dU C N M) {i:Nat} {a:Acc} (c:(i:Int)<C.aD):dU C (N+1) (M.access C i a).1:=by
 unfold cU.access;split;exact Ap h c;dsimp only;split;exact h.mono (Nat.le_succ N);split;exact aDd h c;split;exact Ap h c;split;exact aE3 h c;exact aDo h c
theorem aCc (h:dU C N M) {a:Int}:dU C (N+1) (M.step C a).1:=by
 unfold cU.step;split;exact h.mono (Nat.le_succ N);rename_i e;have e:0<=a/\a<C.aD:=Decidable.not_not.1 e;have c:((a.toNat:Nat):Int)<C.aD:=by omega
 dsimp only;split;exact h.mono (Nat.le_succ N);split;exact h.mono (Nat.le_succ N);split;rename_i r f;exact(h.Mu (ou (h.E9 _ c) f)).Mv;split;exact aE0 h c;split;exact vx h c;exact h.mono (Nat.le_succ N)
theorem Q6 {r:Row} {line:Int} {d:Ln}:∀n∈(r.eC line d).2,¬KK n.kind:=by
 intro n a;unfold Row.eC at a;have e:∀s,(r.jZ line s d).kind=8:=fun _=>rfl;unfold KK;grind
theorem Le {line st:Int} {l:List Nat}:∀n∈eB line st l,¬KK n.kind:=by
 intro n a;unfold eB at a;obtain⟨k,_,rfl⟩:=List.mem_map.1 a;show ¬KK 11;unfold KK;omega
theorem aEm {r:Row} {line:Int} {m:Ln}:∀n∈(r.rest line m).2,¬KK n.kind:=by
 intro n a;unfold Row.rest at a;have c:= @Q6;grind
theorem N9 {H:lT} {n:aH}:∀x∈(fA C H n).2.1,¬KK x.kind:=by
 intro x a;unfold fA at a;split at a;cases a;split at a;unfold mT.take at a;split at a;split at a<;>cases a;split at a;split at a;cases a;exact aEm x a;cases a;cases a
theorem aFz {r:Row} {line:Int} {m:Ln} {n:aH} {w:Int}:∀x∈(r.get line m n w).2,¬KK x.kind:=by
 intro x a;unfold Row.get at a;dsimp only at a;split at a;unfold Row.getM at a;split at a;exact Le x a;exact Q6 x a;unfold Row.S3 at a;split at a;exact Le x a;exact Q6 x a
theorem Lo {H:lT} {l:Int} {j:Int->Int×Bool}:∀x∈(iB C H l j).2.1,¬KK x.kind:=by
 intro x a;unfold iB at a;split at a;unfold mT.begin at a;split at a;cases a;split at a;cases a;dsimp only at a;unfold Row.begun at a;split at a;rw[List.mem_singleton.1 a];show ¬KK 10;unfold KK;omega;split at a;split at a;exact aFz x a;rw[List.mem_singleton.1 a];show ¬KK 9;unfold KK;omega;split at a;cases a;exact Le x a;cases a
theorem Yw {core:Int} {s:iH} {n:aH}:∀x∈(fQ C core s n).2.1,¬KK x.kind:=by
 intro x a;have e:∀y,(gS core n y).kind=5:=fun y=>by unfold gS;split<;>rfl
 unfold fQ vE Et sP oA at a;repeat' split at a
 all_goals (unfold KK;grind)
theorem dU.take (h:dU C N M) (hC:C.Ok) (g:N<=2^29) {n:aH} (c:iu C n):xI C M n:=by
 obtain⟨f,e⟩:=vR c.nC;have a:((n.core.toNat:Nat):Int)<C.aD:=by omega
 exact⟨e,h.bZ,h.home.h (by omega),h.Mt _ a,(h.nC _ a).len hC,(h.nC _ a).2,c.word⟩
theorem zw (h:dU C N M) (hC:C.Ok) {n:aH} (f:iu C n):dU C (N+2) (M.fG C n).1/\∀x∈(M.fG C n).2.1,x.kind=12->0<=x.d0/\x.d0<=1000000:=by
 obtain⟨k,q⟩:=vR f.nC;have c:((n.core.toNat:Nat):Int)<C.aD:=by omega
 have s:=h.bZ.len;have i:=hC.2.1;unfold cU.fG;split;exact⟨(h.pV (Nat.le_succ N) (r9 hC h.home)).mono (Nat.le_succ _),noK N9⟩;split;refine⟨(h.uB (Mz ?_ (h.Mt _ c))).mono (by omega),noK Yw⟩;intro g;have:=kj f.nC g;omega;split;refine⟨h.mono (by omega),fun x a _=>?_⟩;rw[List.mem_singleton.1 a];exact nr (by omega) h.bZ.own;split;refine⟨(h.Dl (ib hC (h.nC _ c))).mono (by omega),fun x a e=>?_⟩;dsimp only at a;split at a;cases a;rw[List.mem_singleton.1 a] at e;exact absurd e (by show(6:Int)≠12;omega);split;refine⟨(h.Dl (xi (h.nC _ c))).mono (by omega),fun x a e=>?_⟩;rw[List.mem_singleton.1 a] at e;exact absurd e (by show(7:Int)≠12;omega);split;refine⟨?_,fun x a _=>by cases a⟩;dsimp only;split;exact(h.nE (Hg h.bZ)).pV (by omega) (N4 (N4 h.home));exact(h.nE (Hg h.bZ)).mono (by omega);exact⟨h.mono (by omega),fun x a _=>by cases a⟩
theorem kz (h:dU C N M) (hC:C.Ok) {a b c:Int}:dU C (N+2) (M.sK C a b c).1:=by
 unfold cU.sK;dsimp only;split;exact h.mono (by omega);rename_i g;obtain⟨e,f⟩:=zw h hC (Ku (a:=a) (b:=b) (c:=c) h.iC (Decidable.not_not.1 g)).1;split;exact h.mono (by omega);split;exact h.mono (by omega);exact e.dS (zV (T5 h.iC) f)
theorem zj (h:dU C N M) {a:Int}:dU C (N+2) (M.begin C a).1:=by
 unfold cU.begin;dsimp only;split;exact h.mono (by omega);split;exact h.mono (by omega);exact((h.dS (zV h.iC (noK Lo))).pV (Nat.le_succ N) (j1 h.home)).mono (by omega)
theorem Ue (h:dU C N M) {a:Int}:dU C (N+2) (M.finish C a).1:=by
 obtain⟨c,e⟩:=Uw (g:=a) h.bZ;unfold cU.finish;split;exact h.mono (by omega);split;exact h.mono (by omega);dsimp only;split;exact h.mono (by omega);rename_i u f;have i:=e u f;refine(Ap (N:=N) ?_ (by omega)).mono (by omega);split;exact(h.nE c).pV (Nat.le_refl N) (kx h.home);exact h.nE c
theorem aBl (h:dU C N M) (hC:C.Ok) {d:Do}:dU C (N+2) (M.Dp C d).1:=by
 unfold cU.Dp;split;exact(aCc h).mono (by omega);split;exact kz h hC;split;exact zj h;split;exact Ue h;exact h.mono (by omega)
end
end Go.Mc
section
open Go Go.Ab
attribute [local irreducible] bG Br ld1 uF uG B4 mA uX lK P3 hQ mY qG pZ pS lH zE uE Uh Ty Oa Mr Rk Ol Md Ny Rn lN oT sF iV copyV iJ wV Tu U3 Gk kX Mb Qq Sb nL rR xM zA Cl zB Ro sM sC jS fL setLoop cH
namespace Go.Proofs.YtmhapehobfnoiaaGreatDoor
open Go Go.Ab Go.Hm Go.At
section
set_option maxRecDepth 100000
variable {G:Bg} {h:AH} {L L':List HP} {Q:Value->AH->Prop}
theorem uj {C:bN} (hC:C.Ok) {mb l:Nat} {mem:Nat->Ln} (s:l<C.lines) (e:Hs G h (eW G C.lines mb C mem::L)):
  ∃(b o cap:Nat) (r w:Int) (b2 o2 cp:Nat) (H:HP),Hs G h (aE mb 0 (C.enc++[.slice (some ⟨b,o,none⟩) C.aK.toNat cap])::aE b (o+(l % C.aK.toNat)*3) [I r,I w,.slice (some ⟨b2,o2,none⟩) (gT C.lines C.aK.toNat (l % C.aK.toNat)) cp]::aE b2 (o2+l/C.aK.toNat*2) (oG (mem l))::H::L)/\
   ∀v g M,Hs G g (aE mb 0 (C.enc++[.slice (some ⟨b,o,none⟩) C.aK.toNat cap])::aE b (o+(l % C.aK.toNat)*3) [I r,I w,.slice (some ⟨b2,o2,none⟩) (gT C.lines C.aK.toNat (l % C.aK.toNat)) cp]::aE b2 (o2+l/C.aK.toNat*2) (oG v)::H::M)->Hs G g (eW G C.lines mb C (aX mem l v)::M):=by
 have hb:=bN.bk hC
 obtain⟨b,o,cap,e⟩:=rF e
 have e:=(e.front (dE C.aK.toNat fun i=>fF C.lines C.aK.toNat b (o+i*3) i mem)).kO (l % C.aK.toNat) (Nat.mod_lt _ hb.2.1)
 obtain⟨r,w,a,cp,e⟩:=vN e
 have k:=Ec hb.2.1 s
 obtain⟨b2,o2,rfl,H,e,f⟩:=Hs.Y7 (H4 (B:=C.aK.toNat) (i:=l % C.aK.toNat) (mem:=mem)) k (e.front (dH 2 68 a cp (gT C.lines C.aK.toNat (l % C.aK.toNat),(List.range (gT C.lines C.aK.toNat (l % C.aK.toNat))).flatMap (Lb C.aK.toNat (l % C.aK.toNat) mem))))
 rw[Xb hb.2.1] at e
 refine⟨b,o,cap,r,w,b2,o2,cp,sp [H,sp (((List.range C.aK.toNat).erase (l % C.aK.toNat)).map fun i=>fF C.lines C.aK.toNat b (o+i*3) i mem),hole G 3 245 (some ⟨b,o,none⟩) cap C.aK.toNat b o],e.to,?_⟩
 intro v g M e
 have e:=(e.front (sp [H,sp (((List.range C.aK.toNat).erase (l % C.aK.toNat)).map fun i=>fF C.lines C.aK.toNat b (o+i*3) i mem),hole G 3 245 (some ⟨b,o,none⟩) cap C.aK.toNat b o])).B5
 have e:=f _ _ _ rfl rfl (e.cC (aE b2 (o2+l/C.aK.toNat*2) (oG v)) H)
 rw[Hp hb.2.1] at e
 have e:=nU (e.sg (b:=b) (o:=o+l % C.aK.toNat*3) (c:=[I r,I w,.slice (some ⟨b2,o2,none⟩) (gT C.lines C.aK.toNat (l % C.aK.toNat)) cp]) rfl)
 exact oJ (b:=b) (o:=o) (cap:=cap) ((e.oB (n:=C.aK.toNat) (i:=l % C.aK.toNat) (fun i=>fF C.lines C.aK.toNat b (o+i*3) i mem) (fun i=>fF C.lines C.aK.toNat b (o+i*3) i (aX mem l v)) (Nat.mod_lt _ hb.2.1) (fun i t q=>by simp only[fF,qo t q])).to)
theorem zp {C:bN} (hC:C.Ok) {mb w:Nat} {mem:Nat->Ln} (k:Ob G 0 fJ) (a:Hs G h (eW G C.lines mb C mem::L)) (t:w<C.lines*2)
  (s:∀(b2 o2:Nat) (H:HP) c,Hs G c (aE b2 o2 (oG (mem (w/2)))::H::L)->(∀v c M,Hs G c (aE b2 o2 (oG v)::H::M)->Hs G c (eW G C.lines mb C (aX mem (w/2) v)::M))->Q (.tuple ⟨[pt b2 o2 (0+w % 2*1),I 0]⟩) c):Cl Pr K 94 [pt mb 0 0,I w] h Q:=by
 have hb:=bN.bk hC
 have f:w/2<C.lines:=by omega
 obtain⟨b,o,cap,r,q,b2,o2,i,H,a,e⟩:=uj hC f a
 refine cW (dD (bV (bW (aB (aA (an mb a (l:=C.enc) rfl rfl (Ou hC k a fun h a=>?_)))))))
 rw[aac]
 refine aI rfl (aI rfl (aI rfl (bA (aaa (bW ?_)))))
 rw[Int.toNat_natCast]
 refine sO hC k a f fun h a=>aI rfl (aI rfl (aI rfl (bA (aaa (aB (aA (aC (b:=b) (o:=o+(w/2) % C.aK.toNat*3) a rfl ?_)))))))
 have g:=Ec hb.2.1 f
 refine dN g (gK (by omega) ?_)
 refine s _ _ (sp [aE mb 0 (C.enc++[.slice (some ⟨b,o,none⟩) C.aK.toNat cap]),aE b (o+(w/2 % C.aK.toNat)*3) [I r,I q,.slice (some ⟨b2,o2,none⟩) (gT C.lines C.aK.toNat (w/2 % C.aK.toNat)) i],H]) _ a.to fun v c M a=>?_
 have a:=(a.front (sp [aE mb 0 (C.enc++[.slice (some ⟨b,o,none⟩) C.aK.toNat cap]),aE b (o+(w/2 % C.aK.toNat)*3) [I r,I q,.slice (some ⟨b2,o2,none⟩) (gT C.lines C.aK.toNat (w/2 % C.aK.toNat)) i],H])).B5
 exact e v c M a.to
theorem M5 {C:bN} (hC:C.Ok) {mb w:Nat} {v:Int} {mem:Nat->Ln} (s:Ob G 0 fJ) (a:Hs G h L) [m:Has (eW G C.lines mb C) L mem L'] (q:w<C.lines*2)
  (i:∀g,Hs G g (eW G C.lines mb C (J9 mem w v)::L')->Q (I 0) g):Cl Pr K 40 [pt mb 0 0,I w,I v] h Q:=by
 refine cW (zp hC s (m.of a) q fun f k H h a c=>aI rfl (aI rfl (bA (aaa (bW (aB ?_))))))
 have e:w % 2=0\/w % 2=1:=by omega
 rcases e with e|e
 .rw[e];refine ay (b:=f) (o:=k) a fun h a=>?_;have a:=c (v,(mem (w/2)).2) _ _ a;have:=i _ (by unfold J9;rw[aKj e];exact a);exact this
 .rw[e];refine ay (b:=f) (o:=k) a fun h a=>?_;have a:=c ((mem (w/2)).1,v) _ _ a;have:=i _ (by unfold J9;rw[aab];exact a);exact this
end
end Go.Proofs.YtmhapehobfnoiaaGreatDoor
namespace Go.Proofs.YtmhapehobfnoiaaGreatDoor.A
open Go Go.Ab Go.Hm Go.At Go.Is
section
set_option maxRecDepth 100000
variable {G:Bg} {h:AH} {L L':List HP} {Q:Value->AH->Prop}
theorem Um {v:Value} {a b:Int} {l:List Int} {e:TypeId} (A:l.length<1000) (q:∀s,Hs G s (Al G 1 e v (l.map fun x=>[I x])::L)->Q (.bool (within a b l)) s):
  ∀(f i:Nat) (h:AH),i+f=l.length->within a b l=within a b (l.drop i)->Hs G h (Al G 1 e v (l.map fun x=>[I x])::L)->Dd 46 1 [] Q [(I a),(I b),v,(I l.length),(I i)] h:=by
 intro f
 induction f with
 |zero=>
  intro i h w g k
  rw[List.drop_of_length_le (by omega)] at g
  refine bW (aS (aaa ?_))
  have:=q _ k
  rw[g] at this
  exact this
 |succ f z=>
  intro i h w g k
  obtain⟨x,y,u⟩:=mB (l:=l) (i:=i) (by omega)
  rw[u] at g
  have t:within a b (x::l.drop (i+1))=(decide (a<=x/\x<=b)&&within a b (l.drop (i+1))):=rfl
  rw[t] at g
  refine bW (aS (aae (bW (yO k (x:=[I x]) (by simp[y]) rfl (aS (aZ (fun c=>?_) (fun c=>mR (aZ (fun d=>?_) (fun d=>?_)))))))))
  .have:=q _ k;rw[g,decide_eq_false (by omega)] at this;exact this
  .have:=q _ k;rw[g,decide_eq_false (by omega)] at this;exact this
  .rw[decide_eq_true (by omega),Bool.true_and] at g;exact bW (aad (z (i+1) h (by omega) g k))
theorem Gi {v:Value} {a b:Int} {l:List Int} {e:TypeId} (k:l.length<1000) (g:Hs G h (Al G 1 e v (l.map fun x=>[I x])::L)) (i:∀f,Hs G f (Al G 1 e v (l.map fun x=>[I x])::L)->Q (.bool (within a b l)) f):Cl Pr K 46 [I a,I b,v] h Q:=by
 obtain⟨s,t,q⟩:=wF g;refine cW ?_;have c:=Um (L:=L) (a:=a) (b:=b) k i l.length 0 h (by omega) rfl g;rw[q] at c ⊢;simp only[List.length_map] at c ⊢;exact bP c
theorem xE {g:Addr} {a b x:Int} {e:TypeId} (c:Hs G h (dH 1 e (some g) 1 (1,[I x])::L)) (i:∀f,Hs G f L->Q (.bool (decide (a<=x/\x<=b))) f):Cl Pr K 46 [I a,I b,.slice (some g) 1 1] h Q:=by
 have c:=qs (l:=[x].map fun x=>[I x]) (by simp) rfl rfl c;refine Gi (l:=[x]) (by simp) c fun f c=>?_;have:=i _ c.tail;rw[show within a b [x]=decide (a<=x/\x<=b) by simp[within]];exact this
end
section
set_option maxRecDepth 100000
variable {G:Bg} {h:AH} {L L':List HP} {Q:Value->AH->Prop}
theorem qw {c w o t:Int} (f:Hs G h L) (e:∀q,Hs G q L->Q (.tuple ⟨[I (gX c w o t).1,.bool (gX c w o t).2.1,I (gX c w o t).2.2]⟩) q):Cl Pr K 263 [I c,I w,I o,I t] h Q:=by
 refine cW (aN (c:=[I w]) rfl (dK f rfl rfl rfl fun a h f=>xE f fun h f=>bX (eN (aZ (fun u=>?_) (fun u=>?_)))));rotate_left;have:=e _ f;unfold gX at this;rw[aac] at this;exact this;refine aN (c:=[I o]) rfl (dK f rfl rfl rfl fun a h f=>xE f fun h f=>bX (eN (aZ (fun v=>?_) (fun v=>?_))));rotate_left;have:=e _ f;unfold gX at this;rw[aac] at this;exact this;unfold gX at e;rw[aab] at e;refine bW (bJ (aZ (fun g=>?_) (fun i=>bW (bJ (aZ (fun g=>?_) (fun k=>bW (bJ (aZ (fun g=>?_) (fun s=>bW (bJ (aZ (fun g=>?_) (fun n4=>?_))))))))))));rw[aKj g] at e;refine bW (bA (aZ (fun g1=>?_) (fun g1=>?_)));rw[aKj g1] at e;exact e _ f;rw[aKi g1] at e;refine bW (bA (aZ (fun g2=>?_) (fun g2=>?_)));rw[aKj g2] at e;exact e _ f;rw[aKi g2] at e;refine bW (aN (c:=[I t]) rfl (dK f rfl rfl rfl fun a h f=>xE f fun h f=>bX (eN (aZ (fun g3=>?_) (fun g3=>?_)))));rw[aab] at e;exact e _ f;rw[aac] at e;exact e _ f;rw[aKi i,aKj g] at e;refine bW (bJ (aZ (fun g1=>?_) (fun g1=>?_)));rw[aKj g1] at e;exact e _ f;rw[aKi g1] at e;refine bW (bA (aZ (fun g2=>bA (aZ (fun g3=>?_) (fun g3=>?_))) (fun g2=>?_)));rw[aac] at e;exact e _ f;rw[aab] at e;exact e _ f;rw[aab] at e;exact e _ f;rw[aKi i,aKi k,aKj g] at e;refine bW (bJ (aZ (fun g1=>?_) (fun g1=>bA (aZ (fun g2=>?_) (fun g2=>?_)))));rw[aac] at e;exact e _ f;rw[aac] at e;exact e _ f;rw[aab] at e;refine bW (aN (c:=[I t]) rfl (dK f rfl rfl rfl fun a h f=>xE f fun h f=>bX (eN (aZ (fun g3=>bJ (aZ (fun g4=>?_) (fun g4=>?_))) (fun g3=>?_)))));rw[aac] at e;exact e _ f;rw[aab] at e;exact e _ f;rw[aac] at e;exact e _ f;rw[aKi i,aKi k,aKi s,aKj g] at e;refine bW (bJ (aZ (fun g1=>?_) (fun g1=>?_)));rw[aKj g1] at e;exact e _ f;rw[aKi g1] at e;refine bW (bA (aZ (fun g2=>?_) (fun g2=>?_)));rw[aKj g2] at e;exact e _ f;rw[aKi g2] at e;exact e _ f;rw[aKi i,aKi k,aKi s,aKi n4] at e;exact e _ f
def Ao (p:List Ins):List Value:=p.flatMap Ins.enc
theorem ya {p:List Ins} {i:Nat} (c:i<p.length):((Ao p).drop (i*4)).take 4=(p.getD i ⟨0,0,0,0⟩).enc:=by
 have a:=(xB (W:=4) (l:=p.map Ins.enc) (i:=i) (x:=(p.getD i ⟨0,0,0,0⟩).enc) (by simp[Ins.enc]) (by simp[List.getD_eq_getElem?_getD,List.getElem?_eq_getElem c])).1;rw[<-a];rfl
theorem xe {p:List Ins} {i:Nat} (e:i<p.length):(Ao p)[i*4+0]?=some (I (p.getD i ⟨0,0,0,0⟩).op):=by
 have c:=ya e;have a:(((Ao p).drop (i*4)).take 4)[0]?=some (I (p.getD i ⟨0,0,0,0⟩).op):=by rw[c];rfl
 rw[List.getElem?_take_of_lt (by omega),List.getElem?_drop] at a;exact a
theorem H2 {s:aT} {b q c:Nat} {a:Option Addr} {at':Int} (t:0<=at') (f:Hs G h (aE b q (s.core++[.slice a s.prog.length c])::dH 4 76 a c (s.prog.length,Ao s.prog)::L))
  (k:∀i,Hs G i (aE b q ((s.lF at').core++[.slice a s.prog.length c])::dH 4 76 a c (s.prog.length,Ao s.prog)::L)->Q (.tuple ⟨[]⟩) i):Cl Pr K 50 [pt b q 0,I at'] h Q:=by
 refine cW (aB (aA (aA (ay f fun h f=>aB (aA (aC (b:=b) (o:=q) f rfl (bP (dR (aZ (fun g=>?_) (fun g=>?_))))))))))
 .refine aB (aA (aA (ay (b:=b) (o:=q) f fun h f=>?_)));refine k _ ?_;have e:s.lF at'={s with at':=at',over:=true}:=by unfold aT.lF Ca;rw[aKj g]
  rw[e]
  exact f
 .obtain⟨n,rfl⟩:∃n:Nat,at'=n:=⟨at'.toNat,by omega⟩;refine aB (aA (aC (b:=b) (o:=q) f rfl (mg (W:=4) (e:=76) (cs:=Ao s.prog) f (by omega) (xe (by omega)) (bJ (aB (aA (aA (ay (b:=b) (o:=q) f fun h f=>?_))))))));refine k _ ?_;have e:s.lF n={s with at':=n,over:=decide ((s.prog.getD n ⟨0,0,0,0⟩).op=11)}:=by unfold aT.lF Ca;rw[aKi g];rfl
  rw[e]
  exact f
end
end Go.Proofs.YtmhapehobfnoiaaGreatDoor.A
namespace Go.Proofs.YtmhapehobfnoiaaGreatDoor
open Go Go.Ab Go.Hm Go.At Go.Mc
section
theorem rH {m:Mon} {g:Nat}:g∈m.running↔g<16/\(m.runs g).isSome:=by unfold Mon.running;simp[List.mem_filter]
set_option maxRecDepth 100000
variable {G:Bg} {h:AH} {L L' M:List HP} {Q:Value->AH->Prop} {C:bN} {m:Mon} {p:Nat}
theorem Bm {t:Nat} {g:Int} (e:Hs G h L) [f:Has (gP t) L m.cE L'] (c:∀a,Hs G a (gP t m.cE::L')->Q (if m.has g then .tuple ⟨[.agg ⟨(m.kJ g).enc⟩,I 0]⟩ else .tuple ⟨[.agg ⟨iO.enc⟩,I 10]⟩) a):Cl Pr K 55 [pt t 0 0,I g] h Q:=
 M9 e c
abbrev na (C:bN) (m:Mon) (p p2 f g p5:Nat) (a:Mc.Ask) (e:Nat->Value) (d l:Nat) (st:LoopState×Option Code) (b:Bool) (c:Int) (pr:Prop):HP:=
 sp [tX pr,gF Pr 204 (gI 1018) 113 e d l st,sp [aE p2 0 [pt p 0 0],aE f 0 a.enc,aE g 0 [.bool b],aE p5 0 [I c]],fO C p m]
theorem Yh {a:Mc.Ask} (hC:C.Ok) (hm:iA C m) (s:Hs G h L) [mm:Has (fO C p) L m L'] (B:∀T,Hs G T (fO C p (m.call C.aD a).1::L')->Q (.tuple ⟨[.bool (m.call C.aD a).2.1,I (m.call C.aD a).2.2]⟩) T):Cl Pr K 204 [pt p 0 0,.agg ⟨a.enc⟩] h Q:=by
 have hc:=hC.1;have μ:=hC.2.1;have κ:=hm.len;have s:=mm.of s;unfold Mon.call at B;refine cW (dF s fun z h s=>dF s fun u h s=>bM s fun w h s=>bM s fun y h s=>am z s rfl (dD (bV ?_)));have bad:∀{h:AH} {M:List HP} (e:Int),[Sub M (fO C p m::L')]->Hs G h (aE w 0 [.bool false]::aE y 0 [I 0]::M)->(∀T,Hs G T (fO C p m::L')->Q (.tuple ⟨[.bool false,I e]⟩) T)->
   bG (uG h 1 (pt w 0 0) (.bool false)) fun U=>bG (uG U 1 (pt y 0 0) (I e)) fun h6=>bG (cH [] h6) fun h7=>bG (ld1 h7 (pt w 0 0)) fun v8=>bG (ld1 h7 (pt y 0 0)) fun v9=>Q (.tuple ⟨[v8,v9]⟩) h7:=by
  intro h M e _ s hq
  exact ax (b:=w) s fun h s=>ax (b:=y) s fun h s=>iU (am w s rfl (am y s rfl (hq _ s.to)))
 obtain⟨t,b,s⟩:=kE (s.front (fO C p m));have F:∀{h:AH} {M:List HP},Hs G h (aE p 0 [pt t 0 0,I C.aD,gA b]::gP t m.cE::iG b (fS m.runs)::M)->Hs G h (fO C p m::M):=fun s=>dO s;refine bW (bE s fun r1 h s=>aA (am u s rfl (aS (aZ (fun h1=>?_) (fun h1=>?_)))));rw[aac] at B;have s:=F (s.cI (aE p 0 [pt t 0 0,I C.aD,gA b]) (gP t m.cE) (iG b (fS m.runs)));exact bad (M:=fO C p m::L') 1 s.to B;refine aA (am u s rfl (am z s rfl (aB (aA (am p s rfl (dR (aZ (fun h2=>?_) (fun h2=>?_))))))));rw[aac] at B;have s:=F (s.cI (aE p 0 [pt t 0 0,I C.aD,gA b]) (gP t m.cE) (iG b (fS m.runs)));exact bad (M:=fO C p m::L') 1 s.to B;rw[aab] at B;refine bW (bE s fun r2 h s=>am z s rfl (aB (aA (am p s rfl (aA (am u s rfl (Bm (m:=m) s fun h s=>?_)))))));by_cases P:m.has a.bI;rotate_left;rw[aKi P];rw[aKj P] at B;refine aI rfl (aI rfl (kQ (r:=r2) (i:=10) (n:=13) (D:=[]) s rfl rfl fun E h s=>ax (b:=E) s fun h s=>cZ (aI rfl jA) (bA (aae ?_))));have s:=F (s.cI (aE p 0 [pt t 0 0,I C.aD,gA b]) (gP t m.cE) (iG b (fS m.runs)));exact bad (M:=fO C p m::L') 10 s.to B;rw[aKj P];rw[aKi (by simpa using P)] at B;have η:=hm.kJ P;have α:0<=a.bI/\a.bI<C.aQ:=by unfold Mon.has at P;omega
 refine aI rfl (aI rfl (kQ (r:=r2) (i:=10) (n:=13) (D:=[]) s rfl rfl fun E h s=>ax (b:=E) s fun h s=>cZ (aI rfl jA) (bA (aaa ?_))));have s:=F (s.cI (aE p 0 [pt t 0 0,I C.aD,gA b]) (gP t m.cE) (iG b (fS m.runs)));refine bW (am z s rfl (aA (am u s rfl (Kk (C:=C) (m:=m) s fun h s=>bA (aZ (fun h3=>?_) (fun h3=>?_))))));rw[aKj h3] at B;exact bad (M:=fO C p m::L') 17 s.to B;rw[aKi h3] at B;refine bW (am z s rfl (Dk (C:=C) (m:=m) s fun q qa qc h s=>iR s fun d h s=>?_));intro e he;refine jI s fun l h s=>nF rfl ?_;have s:Hs G h (H.Mo 3 q qa qc (m.running.map fun k:Nat=>(k:Int))::na C m p z u w y a e d l (.ready,none) false 0 (∀g∈([]:List Int),m.lY a.core g.toNat=false)::sp [mk d (),aE E 0 (m.kJ a.bI).enc]::L'):=by
  have s:=(s.cC (mk d ()) (aE E 0 (m.kJ a.bI).enc)).yS;have s:=(s.fX (aE z 0 [pt p 0 0]) (aE u 0 a.enc) (aE w 0 [.bool false]) (aE y 0 [I 0])).El;have s:=s.cI (gF Pr 204 (gI 1018) 113 e d l (.ready,none)) (sp [aE z 0 [pt p 0 0],aE u 0 a.enc,aE w 0 [.bool false],aE y 0 [I 0]]) (fO C p m);have s:=Hs.El (Hs.U5 (p:=∀g∈([]:List Int),m.lY a.core g.toNat=false) (by simp) s);exact s.to
 refine(H.Fa (e:=3) (p:=q) (a:=qa) (c:=qc) (xs:=m.running.map fun k:Nat=>(k:Int)) (by have:=List.length_filter_le (fun g=>(m.runs g).isSome) (List.range 16);simp[Mon.running] at this ⊢;omega)).fold
  (X:=fun done=>na C m p z u w y a e d l (.ready,none) false 0 (∀g∈done,m.lY a.core g.toNat=false)) (Z:=fun _ x=>na C m p z u w y a e d l (.done,some .ret) false 13 (x∈(m.running.map fun k:Nat=>(k:Int))/\m.lY a.core x.toNat=true)) s ?_ ?_ ?_
 .intro done x h M hp s;obtain⟨R,s⟩:=gH s;have s:=s.B5;obtain⟨k,V,rfl⟩:∃k∈m.running,(k:Int)=x:=by
   obtain⟨ys,ι⟩:=hp;have:x∈m.running.map fun k:Nat=>(k:Int):=by rw[<-ι];simp
   obtain⟨k,h1,h2⟩:=List.mem_map.1 this;exact⟨k,h1,h2⟩
  obtain⟨r,hr⟩:=Option.isSome_iff_exists.1 (rH.1 V).2;have θ:m.run (k:Int)=some r:=by unfold Mon.run;rw[aac];exact hr
  have s:=(s.front (sp [aE z 0 [pt p 0 0],aE u 0 a.enc,aE w 0 [.bool false],aE y 0 [I 0]])).Vg;refine rW (oW s) he (fU s fun h s=>bE s fun rr h s=>?_);obtain⟨t,b,s⟩:=kE (s.front (fO C p m));refine am z s rfl (aB (aA (am p s rfl (N0 (m:=m) s ?_))));rw[θ];refine Il (m:=nS r) rfl rfl (Il (m:=Aq r) rfl rfl (aa rfl (aA (am u s rfl (bJ (aZ (fun c1=>?_) (fun c1=>?_)))))));refine ax (b:=w) s fun h s=>ax (b:=y) s fun h s=>gM s fun h s=> .inr ⟨rfl,?_⟩;have s:=dO (s.cI (aE p 0 [pt t 0 0,I C.aD,gA b]) (gP t m.cE) (iG b (fS m.runs)));have s:=(s.fX (aE z 0 [pt p 0 0]) (aE u 0 a.enc) (aE w 0 [.bool false]) (aE y 0 [I 13])).El;have s:=s.cI (gF Pr 204 (gI 1018) 113 e d l (.done,some .ret)) (sp [aE z 0 [pt p 0 0],aE u 0 a.enc,aE w 0 [.bool false],aE y 0 [I 13]]) (fO C p m);refine(Hs.El (Hs.U5 (p:=((k:Int)∈(m.running.map fun k:Nat=>(k:Int))/\m.lY a.core ((k:Int)).toNat=true)) ⟨List.mem_map.2 ⟨k,V,rfl⟩,?_⟩ s)).to;unfold Mon.lY;rw[Int.toNat_natCast,hr];exact decide_eq_true c1
  .refine gM s fun h s=> .inl ⟨rfl,?_⟩;have s:=dO (s.cI (aE p 0 [pt t 0 0,I C.aD,gA b]) (gP t m.cE) (iG b (fS m.runs)));have s:=(s.fX (aE z 0 [pt p 0 0]) (aE u 0 a.enc) (aE w 0 [.bool false]) (aE y 0 [I 0])).El;have s:=s.cI (gF Pr 204 (gI 1018) 113 e d l (.ready,none)) (sp [aE z 0 [pt p 0 0],aE u 0 a.enc,aE w 0 [.bool false],aE y 0 [I 0]]) (fO C p m);refine(Hs.El (Hs.U5 (p:=∀g∈done++[((k:Nat):Int)],m.lY a.core g.toNat=false) ?_ s)).to;intro g O;rcases List.mem_append.1 O with O|O;exact R g O;rw[List.mem_singleton.1 O,Int.toNat_natCast];unfold Mon.lY;rw[hr];exact decide_eq_false c1
 .intro v h s;obtain⟨R,s⟩:=gH (s.front (na C m p z u w y a e d l (.ready,none) false 0 (∀g∈m.running.map (fun k:Nat=>(k:Int)),m.lY a.core g.toNat=false)));have s:=s.B5;have ζ:m.calls a.core=false:=by
   unfold Mon.calls;rw[List.any_eq_false];intro g O;have:=R g (List.mem_map.2 ⟨g,O,rfl⟩);rw[Int.toNat_natCast] at this;rw[this];simp
  rw[aKi (by rw[ζ];simp)] at B;have s:=(s.front (sp [aE z 0 [pt p 0 0],aE u 0 a.enc,aE w 0 [.bool false],aE y 0 [I 0]])).Vg;have s:=(s.front (sp [mk d (),aE E 0 (m.kJ a.bI).enc])).zH;refine jL s fun h s=>jK ?_;refine aA (am u s rfl (aA (am u s rfl (aA (am E s rfl (aA (am u s rfl (A.qw s fun h s=>?_))))))));dsimp only at B;have γ:0<=(gX a.call a.world (m.kJ a.bI).owner a.to).1/\(gX a.call a.world (m.kJ a.bI).owner a.to).1<=4:=by
   unfold gX;repeat' split
   all_goals first|omega|(simp only[];omega)
  generalize gX a.call a.world (m.kJ a.bI).owner a.to=jj at B γ ⊢;refine aI rfl (aI rfl (aI rfl (bA (aZ (fun U=>?_) (fun U=>?_)))));rw[aKj U] at B;refine ax (b:=w) s fun h s=>ax (b:=y) s fun h s=>kG s fun h s=>iU (am w s rfl (am y s rfl (B _ s.to)));rw[aKi U] at B;obtain⟨t,b,s⟩:=kE (s.front (fO C p m));refine bW (bE s fun rr h s=>am z s rfl (aB (aA (am p s rfl (aA (am u s rfl (aA (am E s rfl (aN (c:=(⟨(m.kJ a.bI).owner,true⟩:gZ).enc) rfl ?_)))))))));refine Gf (x:=⟨(m.kJ a.bI).owner,true⟩) s fun h s=>?_;have J:(0<=a.bI/\a.bI<m.cE.length)/\(0<=(m.kJ a.bI).owner/\(m.kJ a.bI).owner<=4):=⟨P,η⟩;rw[aKj J] at s;rw[aKj J];refine bA (aaa (bW (an u s (l:=a.enc) rfl rfl (aN (c:=[I a.core,I a.world,I a.call,I a.bI,I a.to,I jj.1,.bool jj.2.1]) rfl (aN (c:=(⟨a.core,a.world,a.call,a.bI,a.to,jj.1,jj.2.1,1,fun _=>false⟩:Mc.jG).enc) rfl (bM s fun Y h s=>ax (b:=Y) s fun h s=>am z s rfl (aB (aA (am p s rfl ?_)))))))));have loop:∀(k i:Nat) (h:AH),i+k=C.aD.toNat->Hs G h (aE Y 0 (⟨a.core,a.world,a.call,a.bI,a.to,jj.1,jj.2.1,1,fun j=>decide (j<i)⟩:Mc.jG).enc::aE p 0 [pt t 0 0,I C.aD,gA b]::gP t (m.cE.set a.bI.toNat ⟨(m.kJ a.bI).owner,true⟩)::iG b (fS m.runs)::aE z 0 [pt p 0 0]::aE u 0 a.enc::aE w 0 [.bool false]::aE y 0 [I 0]::mk d ()::L')->
    Dd 204 8 [d] Q [(pt z 0 0),(pt u 0 0),(pt w 0 0),(pt y 0 0),(pt Y 0 0),(I C.aD),(I i)] h:=by
   intro k
   induction k with
   |zero=>
    intro i h hi s
    refine bW (aS (aaa (bW (bE s fun rr h s=>am z s rfl (aB (aA (am p s rfl (aA (am u s rfl (an Y s (l:=(⟨a.core,a.world,a.call,a.bI,a.to,jj.1,jj.2.1,1,fun j=>decide (j<i)⟩:Mc.jG).enc) rfl rfl ?_))))))))))
    obtain⟨g,O⟩:=Int.eq_ofNat_of_zero_le α.1
    rw[show(a.bI)=((g:Nat):Int) from O]
    refine P1 s (by omega) fun h s=>?_
    rw[<-O] at s
    refine ax (b:=w) s fun h s=>ax (b:=y) s fun h s=>kG s fun h s=>iU (am w s rfl (am y s rfl (B _ ?_)))
    have hw:(⟨a.core,a.world,a.call,a.bI,a.to,jj.1,jj.2.1,1,fun j=>decide (j<i)⟩:Mc.jG)=a.run C.aD jj:=by
     unfold Ask.run;congr 1;funext j;exact decide_eq_decide.2 (by omega)
    have e1:=F5 (f:=m.runs) (g:=g) (x:=some (a.run C.aD jj))
    rw[Option.map_some] at e1
    have s:=s.cI (aE p 0 [pt t 0 0,I C.aD,gA b]) (gP t (m.cE.set a.bI.toNat ⟨(m.kJ a.bI).owner,true⟩)) (iG b (Jq (fS m.runs) g (some (.agg ⟨(⟨a.core,a.world,a.call,a.bI,a.to,jj.1,jj.2.1,1,fun j=>decide (j<i)⟩:Mc.jG).enc⟩))))
    rw[hw,e1] at s
    have β:g=a.bI.toNat:=by omega
    rw[β] at s
    exact(dO (m:=(m.oY a.bI.toNat ⟨(m.kJ a.bI).owner,true⟩).cQ a.bI.toNat (some (a.run C.aD jj))) s).to
   |succ k ih=>
    intro i h hi s
    refine bW (aS (aae (bW (aA (gK (by omega) ?_)))))
    have hl:(⟨a.core,a.world,a.call,a.bI,a.to,jj.1,jj.2.1,1,fun j=>decide (j<i)⟩:Mc.jG).enc.length=12:=rfl
    refine bL (b:=Y) (o:=0) s rfl (by rw[hl];exact Nat.ble_eq_true_of_le (by simp;omega)) rfl rfl fun h s=>aad (ih (i+1) h (by omega) ?_)
    have e:dS (⟨a.core,a.world,a.call,a.bI,a.to,jj.1,jj.2.1,1,fun j=>decide (j<i)⟩:Mc.jG).enc (0+8+i*1) [.bool true]=(⟨a.core,a.world,a.call,a.bI,a.to,jj.1,jj.2.1,1,fun j=>decide (j<i+1)⟩:Mc.jG).enc:=by
     have:i=0\/i=1\/i=2\/i=3:=by omega
     rcases this with rfl|rfl|rfl|rfl<;>rfl
    rw[e] at s
    exact s.to
  refine loop C.aD.toNat 0 h (by omega) ?_;have e:(⟨a.core,a.world,a.call,a.bI,a.to,jj.1,jj.2.1,1,fun _=>false⟩:Mc.jG).enc=(⟨a.core,a.world,a.call,a.bI,a.to,jj.1,jj.2.1,1,fun j=>decide (j<0)⟩:Mc.jG).enc:=rfl;rw[e] at s;exact s.to
 .intro done x v h hp s;obtain⟨R,s⟩:=gH (s.front (na C m p z u w y a e d l (.done,some .ret) false 13 (x∈(m.running.map fun k:Nat=>(k:Int))/\m.lY a.core x.toNat=true)));have s:=s.B5;have W:m.calls a.core=true:=by
   unfold Mon.calls;rw[List.any_eq_true];obtain⟨k,δ,ε⟩:=List.mem_map.1 R.1;refine⟨k,δ,?_⟩;have:=R.2;rw[<-ε,Int.toNat_natCast] at this;exact this
  rw[aKj W] at B;have s:=(s.front (sp [aE z 0 [pt p 0 0],aE u 0 a.enc,aE w 0 [.bool false],aE y 0 [I 13]])).Vg;have s:=(s.front (sp [mk d (),aE E 0 (m.kJ a.bI).enc])).zH;refine F0 s fun h s=>Wg (kG s fun h s=>iU (am w s rfl (am y s rfl (B _ s.to))))
end
end Go.Proofs.YtmhapehobfnoiaaGreatDoor
namespace Go.Proofs.YtmhapehobfnoiaaGreatDoor.A
open Go Go.Ab Go.Hm Go.At Go.Is
section
set_option maxRecDepth 100000
variable {G:Bg} {h:AH} {L L':List HP} {Q:Value->AH->Prop}
def sw (mem:Nat->Ln) (done:List Nat):Nat->Ln:=done.foldl (fun m l=>aX m l (0,0)) mem
abbrev scX (G:Bg) (C:bN) (mb p2:Nat) (mem:Nat->Ln) (e:Nat->Value) (d l:Nat) (done:List Nat):HP:=sp [gF Pr 173 (gI 122) 34 e d l (.ready,none),aE p2 0 [pt mb 0 0],eW G C.lines mb C (sw mem done)]
theorem vy {C:bN} (hC:C.Ok) {mb g:Nat} {mem:Nat->Ln} (t:Ob G 0 fJ) (a:Hs G h L) [m:Has (eW G C.lines mb C) L mem L'] (A:(g:Int)<C.aQ)
  (D:∀v s,Hs G s (eW G C.lines mb C (lC mem g)::L')->Q v s):Cl Pr K 173 [pt mb 0 0,I g] h Q:=by
 have hb:C.aQ<=16:=hC.2.1.2
 have E:=bN.eE hC
 have a:=m.of a
 refine cW (dF a fun f h a=>bM a fun i h a=>am f a rfl (dD (bV (bW (aS (aaa ?_))))))
 obtain⟨b,o,cap,a⟩:=rF (a.front (eW G C.lines mb C mem))
 refine am f a rfl (aB (aA (aA (am mb a rfl (dR (aaa (bW ?_)))))))
 refine am f a rfl (aB (aA (an mb a (l:=C.enc) rfl rfl (tK a fun p q h a=>iR a fun d h a=>?_))))
 have a:=Lq C.lines mb C mem b o cap a
 intro e B
 refine jI a fun l h a=>nF rfl ?_
 have a:Hs G h (sp [aE p 0 C.enc,aE q 0 [I g]]::scX G C mb f mem e d l []::sp [aE i 0 [I 0],mk d ()]::L'):=by
  have a:=a.cI (gF Pr 173 (gI 122) 34 e d l (.ready,none)) (aE f 0 [pt mb 0 0]) (eW G C.lines mb C mem);have a:Hs G h (scX G C mb f mem e d l []::_):=a.Rp;have a:=(a.cC (aE i 0 [I 0]) (mk d ())).yS;exact a.cI (sp [aE p 0 C.enc,aE q 0 [I g]]) (scX G C mb f mem e d l []) (sp [aE i 0 [I 0],mk d ()])
 refine(vU (p:=p) (q:=q) hC A t).fold (X:=scX G C mb f mem e d l) (Z:=fun _ _=>tX False) a ?_ ?_ ?_
 .intro done y h M u a;have F:y<C.lines:=by
   obtain⟨J,k⟩:=u;have:y∈[g*2,g*2+1]:=by rw[<-k];simp
   simp at this;omega
  have a:=a.B5
  refine rW (oW a) B (fU a fun h a=>am f a rfl (aN (c:=oG (0,0)) rfl (Jb hC t a F fun h a=>bA (aaa ?_))))
  refine gM a fun h a=> .inl ⟨rfl,Hs.Rp ?_⟩
  have w:sw mem (done++[y])=aX (sw mem done) y (0,0):=by unfold sw;rw[List.foldl_append];rfl
  rw[w]
  exact a.to
 .intro v h a;have a:=(a.front (scX G C mb f mem e d l [g*2,g*2+1])).B5;refine jL a fun h a=>jK ?_;have a:=(a.front (sp [aE i 0 [I 0],mk d ()])).zH;refine ax (b:=i) (o:=0) a fun h a=>kG a fun h a=>iU (am i a rfl (D _ _ ?_));have z:sw mem [g*2,g*2+1]=lC mem g:=rfl;rw[z] at a;exact a.to
 .intro done y v h u a;exact(a.front (tX False)).Vd.1.elim
abbrev hdA (pm:Nat) (C:bN) (v:Value) (a:Option Addr) (n c mb:Nat):HP:=aE pm 0 (C.enc++[v,.slice a n c,pt mb 0 0])
end
section
set_option maxRecDepth 100000
variable {G:Bg} {h:AH} {L L':List HP} {Q:Value->AH->Prop}
end
section
set_option maxRecDepth 100000
variable {G:Bg} {h:AH} {L L':List HP} {Q:Value->AH->Prop}
def yT (b o:Nat) (s:aT):HP:=sB fun x:Option Addr×Nat=>sp [aE b o (s.core++[.slice x.1 s.prog.length x.2]),dH 4 76 x.1 x.2 (s.prog.length,Ao s.prog)]
theorem Wy {b o c:Nat} {a:Option Addr} {s:aT} (e:Hs G h (aE b o (s.core++[.slice a s.prog.length c])::dH 4 76 a c (s.prog.length,Ao s.prog)::L)):Hs G h (yT b o s::L):=
 Hs.qU (A:=fun x:Option Addr×Nat=>sp [aE b o (s.core++[.slice x.1 s.prog.length x.2]),dH 4 76 x.1 x.2 (s.prog.length,Ao s.prog)]) (a,c) (Hs.pack (A:=[_,_]) e)
structure AtA where
 b:Nat
 o:Nat
 cap:Nat
 a:Option Addr
 c:Nat
 mb:Nat
def Dn (G:Bg) (pm:Nat) (m:AM) (x:AtA):List HP:=[hdA pm m.cfg (.slice (some ⟨x.b,x.o,none⟩) m.cfg.aD.toNat x.cap) x.a m.zP.length x.c x.mb,dH 1 3 x.a x.c (m.zP.length,m.zP.map I),eW G m.cfg.lines x.mb m.cfg m.mem,
  hole G 8 127 (some ⟨x.b,x.o,none⟩) x.cap m.cfg.aD.toNat x.b x.o,dE m.cfg.aD.toNat fun i=>yT x.b (x.o+i*8) (m.bC i)]
def aHe (G:Bg) (pm:Nat) (m:AM):HP:=sB fun x:AtA=>sp (Dn G pm m x)
theorem ar {pm:Nat} {m:AM} {b o cap c mb:Nat} {a:Option Addr} (e:Hs G h (hdA pm m.cfg (.slice (some ⟨b,o,none⟩) m.cfg.aD.toNat cap) a m.zP.length c mb::dH 1 3 a c (m.zP.length,m.zP.map I)::eW G m.cfg.lines mb m.cfg m.mem::
  hole G 8 127 (some ⟨b,o,none⟩) cap m.cfg.aD.toNat b o::dE m.cfg.aD.toNat (fun i=>yT b (o+i*8) (m.bC i))::L)):Hs G h (aHe G pm m::L):=
 Hs.qU (A:=fun x:AtA=>sp (Dn G pm m x)) ⟨b,o,cap,a,c,mb⟩ (Hs.pack (A:=Dn G pm m ⟨b,o,cap,a,c,mb⟩) e)
end
section
set_option maxRecDepth 100000
variable {G:Bg} {h:AH} {L L':List HP} {Q:Value->AH->Prop}
end
section
set_option maxRecDepth 100000
variable {G:Bg} {h:AH} {L L':List HP} {Q:Value->AH->Prop}
theorem aF5 {n c:Nat} {a:Option Addr} {cs:List Value} (q:n<=100) (k:Hs G h L) [m:Has (dH 2 68 a c) L (n,cs) L'] (i:∀e f g,Hs G g (dH 2 68 e f (n,cs)::dH 2 68 a c (n,cs)::L')->Q (.slice e n f) g):Cl Pr K 176 [.slice a n c] h Q:=
 cW (Bv (bytes:=16) k (by omega) i)
theorem aCj {n c:Nat} {a:Option Addr} {cs:List Value} (q:n<=100) (k:Hs G h L) [m:Has (dH 3 245 a c) L (n,cs) L'] (i:∀e f g,Hs G g (dH 3 245 e f (n,cs)::dH 3 245 a c (n,cs)::L')->Q (.slice e n f) g):Cl Pr K 175 [.slice a n c] h Q:=
 cW (Bv (bytes:=40) k (by omega) i)
theorem y0 {v:Value} {l:List (List Value)} {e:TypeId} (k:l.length<=100) (hc:l.flatten.all eJ=true) (i:Hs G h (Al G 1 e v l::L)) (g:∀a c f,Hs G f (dH 1 3 a c (l.length,l.flatten)::Al G 1 e v l::L)->Q (.slice a l.length c) f):Cl Pr K 48 [v] h Q:=
 cW (Iw (bytes:=8) i (by decide) rfl hc (by omega) g)
theorem xq {v:Value} {l:List (List Value)} {e:TypeId} (k:l.length<=100) (hc:l.flatten.all eJ=true) (i:Hs G h (Al G 4 e v l::L)) (g:∀a c f,Hs G f (dH 4 76 a c (l.length,l.flatten)::Al G 4 e v l::L)->Q (.slice a l.length c) f):Cl Pr K 49 [v] h Q:=
 cW (Iw (bytes:=32) i (by decide) rfl hc (by omega) g)
def Fu (n B:Nat) (i:Nat) (x:BkA):List Value:=[I x.r,I x.w,.slice x.a (gT n B i) x.cap]
def jw (n B:Nat) (mem:Nat->Ln) (i:Nat) (x:BkA):HP:=dH 2 68 x.a x.cap (gT n B i,(List.range (gT n B i)).flatMap (Lb B i mem))
theorem Xs {n B p b o cap:Nat} {C:bN} {mem:Nat->Ln} {f:Nat->BkA} (hB:B<=4) (K:n<=32) (E:∀u,Hs G u (aE p 0 (C.enc++[.slice (some ⟨b,o,none⟩) B cap])::dE B (fun i=>fF n B b (o+i*3) i mem)::dE B (fun i=>jw n B mem i (f i))::L)->Q (pt p 0 0) u):
  ∀(r i:Nat) (h:AH) (_M:List HP),i+r=B->Hs G h (aE p 0 (C.enc++[.slice (some ⟨b,o,none⟩) B cap])::dE B (fun j=>if j<i then fF n B b (o+j*3) j mem else aE b (o+j*3) (Fu n B j (f j)))::dE B (fun i=>jw n B mem i (f i))::L)->
  Dd 121 2 [] Q [(pt p 0 0),(I B),(I i)] h:=by
 intro r
 induction r with
 |zero=>
  intro i h M A a
  obtain rfl:i=B:=by omega
  refine bW (aS (aaa (E _ ?_)))
  have a:=a.front (dE i fun j=>if j<i then fF n i b (o+j*3) j mem else aE b (o+j*3) (Fu n i j (f j)))
  have a:=sV (g:=fun j=>fF n i b (o+j*3) j mem) (fun j D=>by rw[aKj D]) a
  exact a.cI (aE p 0 (C.enc++[.slice (some ⟨b,o,none⟩) i cap])) (dE i fun j=>fF n i b (o+j*3) j mem) (dE i fun j=>jw n i mem j (f j))
 |succ r J=>
  intro i h M A a
  have k:i<B:=by omega
  have z:=Z4 (n:=n) (B:=B) (i:=i) (by omega)
  refine bW (aS (aae (bW (bE a fun O h a=>?_))))
  have a:=(a.front (dE B fun j=>if j<i then fF n B b (o+j*3) j mem else aE b (o+j*3) (Fu n B j (f j)))).kO i k
  simp only[Nat.lt_irrefl,if_false] at a
  have a:=(a.front (dE B fun j=>jw n B mem j (f j))).kO i k
  refine aB (aA (am p a rfl (aB (aA (am p a rfl (dN k (aA (aC (b:=b) (o:=o+i*3) a rfl ?_))))))))
  have a:Hs G h (dH 2 68 (f i).a (f i).cap (gT n B i,(List.range (gT n B i)).flatMap (Lb B i mem))::_):=a
  refine aF5 (by omega) a fun s t h a=>?_
  refine dN k (aA (ay (b:=b) (o:=o+i*3) a fun y q=>?_))
  refine cZ dJ (cZ (aB dJ) (cZ (aA dJ) (cZ (am p a rfl Sw) (cZ jA (aad ?_)))))
  refine J (i+1) y [] (by omega) ?_
  have q:=q.sg (b:=b) (o:=o+i*3) (c:=[I (f i).r,I (f i).w,.slice s (gT n B i) t]) rfl
  have e:=nU (b:=b) (o:=o+i*3) (q.cC (aE b (o+i*3) [I (f i).r,I (f i).w,.slice s (gT n B i) t]) (dH 2 68 s t (gT n B i,(List.range (gT n B i)).flatMap (Lb B i mem))))
  have v:fF n B b (o+i*3) i mem=(fun j=>if j<i+1 then fF n B b (o+j*3) j mem else aE b (o+j*3) (Fu n B j (f j))) i:=by simp only[Nat.lt_succ_self,if_true]
  rw[v] at e
  have e:=e.oB (n:=B) (i:=i) (fun j=>if j<i then fF n B b (o+j*3) j mem else aE b (o+j*3) (Fu n B j (f j))) (fun j=>if j<i+1 then fF n B b (o+j*3) j mem else aE b (o+j*3) (Fu n B j (f j))) k (fun j _ F=>by
   have:(j<i+1)=(j<i):=propext ⟨fun h=>by omega,fun h=>by omega⟩;simp only[this])
  have w:(dH 2 68 (f i).a (f i).cap (gT n B i,(List.range (gT n B i)).flatMap (Lb B i mem)))=(fun j=>jw n B mem j (f j)) i:=rfl
  rw[w] at e
  have e:=e.oB (n:=B) (i:=i) (fun j=>jw n B mem j (f j)) (fun j=>jw n B mem j (f j)) k (fun _ _ _=>rfl)
  exact e.to
theorem Vr {C:bN} (hC:C.Ok) {mb:Nat} {mem:Nat->Ln} (a:Hs G h L) [m:Has (eW G C.lines mb C) L mem L'] (v:∀s u,Hs G u (eW G C.lines s C mem::eW G C.lines mb C mem::L')->Q (pt s 0 0) u):Cl Pr K 121 [pt mb 0 0] h Q:=by
 have hb:=bN.bk hC;have t:=bN.eE hC;obtain⟨b,o,cap,a⟩:=rF (m.of a);refine cW (dD (bV (bW (bE a fun y h a=>?_))));have q:Hs G h (dE C.aK.toNat (fun i=>sB fun x=>sp [aE b (o+i*3) (Fu C.lines C.aK.toNat i x),jw C.lines C.aK.toNat mem i x])::hole G 3 245 (some ⟨b,o,none⟩) cap C.aK.toNat b o::_):=a.cC (dE C.aK.toNat fun i=>fF C.lines C.aK.toNat b (o+i*3) i mem) (hole G 3 245 (some ⟨b,o,none⟩) cap C.aK.toNat b o);obtain⟨f,a⟩:=Hs.Zs (W:=3) (c:=Fu C.lines C.aK.toNat) (d:=jw C.lines C.aK.toNat mem) (⟨0,0,none,0⟩:BkA) (fun _ _=>rfl) (fun _ _=>rfl) (by decide) hb.2.1 q;clear q;refine aB (aA (an mb a (l:=C.enc) rfl rfl (aB (aA (am mb a rfl ?_)))));refine aCj (by omega) a fun w k h a=>?_;obtain⟨e,g,rfl,a⟩:=Hs.Wf (W:=3) (c:=fun i=>Fu C.lines C.aK.toNat i (f i)) (fun _=>rfl) hb.2.1 a;refine aN (c:=C.enc++[.slice (some ⟨e,g,none⟩) C.aK.toNat k]) rfl (Ai a rfl rfl fun p h a=>?_);refine cZ dJ (cZ (aB dJ) (cZ (aA dJ) (cZ (an mb a (l:=C.enc) rfl rfl (qY (by simp[bN.enc,jA]))) ?_)));refine aB (aA (am p a rfl (bP ?_)));have a:=a.cI (aE p 0 (C.enc++[.slice (some ⟨e,g,none⟩) C.aK.toNat k])) (dE C.aK.toNat fun i=>aE e (g+i*3) (Fu C.lines C.aK.toNat i (f i))) (dE C.aK.toNat fun i=>jw C.lines C.aK.toNat mem i (f i));have a:=(a.lU).cI (aE p 0 (C.enc++[.slice (some ⟨e,g,none⟩) C.aK.toNat k])) (dE C.aK.toNat fun i=>aE e (g+i*3) (Fu C.lines C.aK.toNat i (f i))) (dE C.aK.toNat fun i=>jw C.lines C.aK.toNat mem i (f i));refine Xs (n:=C.lines) (B:=C.aK.toNat) (b:=e) (o:=g) (cap:=k) (C:=C) (mem:=mem) (f:=f) hb.2.2 t.2.2 ?_ C.aK.toNat 0 h [] (by omega) (by simpa using a);intro h a;refine v p _ ?_;have a:=oJ (b:=e) (o:=g) (cap:=k) (a.cI (aE p 0 (C.enc++[.slice (some ⟨e,g,none⟩) C.aK.toNat k])) (hole G 3 245 (some ⟨e,g,none⟩) k C.aK.toNat e g) (dE C.aK.toNat fun i=>fF C.lines C.aK.toNat e (g+i*3) i mem));have a:=a.cC (dH 3 245 (some ⟨b,o,none⟩) cap (C.aK.toNat,(List.range C.aK.toNat).flatMap fun i=>Fu C.lines C.aK.toNat i (f i))) (dE C.aK.toNat fun i=>jw C.lines C.aK.toNat mem i (f i));have a:Hs G h (dE C.aK.toNat (fun i=>fF C.lines C.aK.toNat b (o+i*3) i mem)::hole G 3 245 (some ⟨b,o,none⟩) cap C.aK.toNat b o::_):=Hs.wx (W:=3) (c:=Fu C.lines C.aK.toNat) (d:=jw C.lines C.aK.toNat mem) f (fun _ _=>rfl) hb.2.1 a;have a:=oJ (b:=b) (o:=o) (cap:=cap) (a.cI (aE mb 0 (C.enc++[.slice (some ⟨b,o,none⟩) C.aK.toNat cap])) (hole G 3 245 (some ⟨b,o,none⟩) cap C.aK.toNat b o) (dE C.aK.toNat fun i=>fF C.lines C.aK.toNat b (o+i*3) i mem));exact a.to
end
section
set_option maxRecDepth 100000
variable {G:Bg} {h:AH} {L L':List HP} {Q:Value->AH->Prop}
end
section
set_option maxRecDepth 100000
variable {G:Bg} {h:AH} {L L':List HP} {Q:Value->AH->Prop}
def Dz (l:List Int):List (List Value):=l.map fun x=>[I x]
theorem tJ (l:List Int):(Dz l).length=l.length:=by simp[Dz]
theorem Og (l:List Int):(Dz l).flatten=l.map I:=by
 unfold Dz;induction l with
 |nil=>rfl
 |cons x l a=>rw[List.map_cons,List.flatten_cons,a];rfl
theorem Xu (l:List Int):(l.map I).all eJ=true:=by
 induction l with
 |nil=>rfl
 |cons x l a=>rw[List.map_cons,List.all_cons,a];rfl
def Rc (p:List Ins):List (List Value):=p.map Ins.enc
theorem Js (p:List Ins):(Rc p).length=p.length:=by simp[Rc]
theorem M7 (p:List Ins):(Rc p).flatten=Ao p:=by
 unfold Rc Ao;rw[List.flatMap_def]
theorem Vi (p:List Ins):(Ao p).all eJ=true:=by
 unfold Ao;induction p with
 |nil=>rfl
 |cons x l a=>rw[List.flatMap_cons,List.all_append,a];rfl
def Hh (G:Bg) (v:Value) (l:List Int):Prop:=uA G 1 v (Dz l).length (fun i=>(Dz l).getD i [])
def T2 (G:Bg) (v:Value) (p:List Ins):Prop:=uA G 4 v (Rc p).length (fun i=>(Rc p).getD i [])
structure jl (G:Bg) (pv wv ov vv:Value) (ps:List (List Ins)) (ws os vs:List Int):Prop where
 ps:∃vi:List Value,vi.length=ps.length/\uA G 1 pv (vi.map fun x=>[x]).length (fun i=>(vi.map fun x=>[x]).getD i [])/\∀(i:Nat) (v:Value) (p:List Ins),vi[i]?=some v->ps[i]?=some p->T2 G v p
 ws:Hh G wv ws
 os:Hh G ov os
 vs:Hh G vv vs
theorem sI {v:Value} {l:List Int} (a:Hh G v l) (c:Hs G h L):Hs G h (Al G 1 3 v (Dz l)::L):=Ah (by simp[Dz]) a c
theorem Ib {v:Value} {p:List Ins} (a:T2 G v p) (c:Hs G h L):Hs G h (Al G 4 76 v (Rc p)::L):=Ah (by simp[Rc,Ins.enc]) a c
theorem uM {W n:Nat} {v:Value} {at':Nat->List Value} {k:Value->Prop} (f:uA G W v n at') (e:k (I n)):bG (lH v) k:=by
 obtain⟨a,c,rfl,_⟩:=f;exact bP e
theorem Yg {_C:bN} {pv:Value} {t2 t3 t4 t5:Value} {s:List Value} {ps:List (List Ins)} (J:s.length=ps.length) (z:uA G 1 pv (s.map fun x=>[x]).length (fun i=>(s.map fun x=>[x]).getD i []))
  (w:∀(i:Nat) (v:Value) (p:List Ins),s[i]?=some v->ps[i]?=some p->T2 G v p) (u:Ob G 1 yM) (F:ps.length<=1000)
  (D:uV ps≠0->∀k,Hs G k L->Q (.tuple ⟨[.pointer none,I (uV ps)]⟩) k) (E:uV ps=0->∀k,Hs G k L->Dd 12 5 [] Q [pv,t2,t3,t4,t5] k):
  ∀(f i:Nat) (h:AH),i+f=ps.length->uV ps=uV (ps.drop i)->Hs G h L->Dd 12 3 [] Q [pv,t2,t3,t4,t5,pv,(I ps.length),(I i)] h:=by
 intro f
 induction f with
 |zero=>
  intro i h y a g
  rw[List.drop_of_length_le (by omega)] at a
  exact bW (aS (aaa (E a _ g)))
 |succ f B=>
  intro i h y a g
  obtain⟨p,A,t⟩:=mB (l:=ps) (i:=i) (by omega)
  obtain⟨v,q,_⟩:=mB (l:=s) (i:=i) (by omega)
  rw[t,uV] at a
  have g:=Ah (e:=3) (by simp) z g
  refine bW (aS (aae (bW (yO g (x:=[v]) (by simp[q]) rfl (Ff (p:=p) u (Ib (w i v p q A) g.tail) fun h g=>aI rfl (aI rfl (bA (aZ (fun c=>?_) (fun c=>?_)))))))))
  .rw[aKj c] at a;rw[<-a];exact D (by rw[a];exact c) _ g.tail
  .rw[aKi c] at a;exact bW (aad (B (i+1) h (by omega) a g.tail))
theorem X0 {C:bN} (hC:C.Ok) {t1 t2 t3 t5 vv:Value} {mb:Nat} {vs:List Int} (u:Hh G vv vs) (s:Ob G 0 fJ) (y:vs.length=C.lines*2)
  (k:∀e,Hs G e (eW G C.lines mb C (words oC vs 0)::L)->Dd 12 11 [] Q [t1,t2,t3,t5,(pt mb 0 0)] e):
  ∀(f i:Nat) (mem:Nat->Ln) (h:AH),i+f=vs.length->words oC vs 0=words mem (vs.drop i) i->Hs G h (eW G C.lines mb C mem::L)->Dd 12 9 [] Q [t1,t2,t3,t5,(pt mb 0 0),vv,(I vs.length),(I i)] h:=by
 have t:=bN.eE hC
 intro f
 induction f with
 |zero=>
  intro i mem h q c a
  rw[List.drop_of_length_le (by omega),words] at c
  rw[c] at k
  exact bW (aS (aaa (k _ a)))
 |succ f w=>
  intro i mem h q c a
  obtain⟨x,v,g⟩:=mB (l:=vs) (i:=i) (by omega)
  rw[g,words] at c
  have a:=sI u a
  refine bW (aS (aae (bW (yO a (x:=[I x]) (by simp[Dz,v]) rfl (M5 hC s a.tail (by omega) fun h a=>bA (aaa (bW (aad (w (i+1) _ h (by omega) c a)))))))))
end
end Go.Proofs.YtmhapehobfnoiaaGreatDoor.A
namespace Go.Proofs.YtmhapehobfnoiaaGreatDoor.H
open Go Go.Ab Go.Hm
section
set_option maxRecDepth 100000
variable {G:Bg} {h:AH} {L L':List HP}
section
variable {hb p mb b o cap l:Nat} {C:bN} {H:lT} {n:aH} {r:Row} {m:Ln} {Q:Value->AH->Prop}
theorem mj (hC:C.Ok) (e:Ob G 0 fJ) (u:l<C.lines) (k:n.line=l) (hc:0<=r.served.core/\r.served.core<4) (a:Hs G h (rM G hb p mb b o cap l C H n r m++L))
  (i:∀v t,Hs G t (eM v ((r.lI n).rest l m).2::gG G hb C (aX H l (((r.lI n).rest l m).1,m))::L)->Q v t):Dd 275 8 [] Q [(pt hb 0 0),(pt p 0 0),(pt b (o+l*25) 0)] h:=by
 simp only[rM,List.cons_append,List.nil_append] at a
 obtain⟨wa,wc,a⟩:=dV a
 refine bW (bE a ?_)
 intro w h a
 refine aA (aR a (by decide) (l:=[I n.d0,I n.d1]) rfl rfl (aB (aA (ay a ?_))))
 intro h a
 have s:=a
 refine aB (aA (ay a ?_))
 intro h a
 refine cZ dJ (cZ (aA dJ) (cZ (aR s (by decide) (l:=[I n.d0,I n.d1]) rfl rfl (qY (by simp[pY]))) ?_))
 have a:=eA b (o+l*25) (r.lI n) wa wc a rfl rfl rfl
 have a:Hs G h (rM G hb p mb b o cap l C H n (r.lI n) m++L):=by
  simp only[rM,List.cons_append,List.nil_append];exact a.to
 have g:=a
 simp only[rM,List.cons_append,List.nil_append] at a
 have q:=a
 obtain⟨wa,wc,a⟩:=dV a
 refine(aB (aA (aR a (by decide) (l:=[.bool (r.asked 0),.bool (r.asked 1),.bool (r.asked 2),.bool (r.asked 3)]) rfl rfl (aN (c:=[.bool false,.bool false,.bool false,.bool false]) rfl (tu (dG (fun f=>?_) (fun f=>?_)))))))
 .have f:(r.lI n).quiet=false:=by unfold Row.quiet;rw[show(r.lI n).asked=r.asked from rfl,f];rfl
  simp only[Row.rest,f,Bool.false_eq_true,if_false] at i
  exact i _ _ (qP (eO hb C H l (r.lI n) m _ mb b o cap u rfl q)).to
 .exact Wr (r:=r.lI n) hC e u k hc (by unfold Row.quiet;rw[show(r.lI n).asked=r.asked from rfl,f];rfl) g i
end
theorem o8 {C:bN} (hC:C.Ok) {hb l:Nat} {H:lT} {n:aH} {Q:Value->AH->Prop} (f:Ob G 0 fJ) (a:Hs G h L) [m:Has (gG G hb C) L H L'] (s:l<C.lines) (k:n.line=l) (q:0<=n.core/\n.core<4) (hc:0<=(H l).1.served.core/\(H l).1.served.core<4)
  (g:∀v F,Hs G F (eM v (mT.nI (H l) l n).2::gG G hb C (aX H l (mT.nI (H l) l n).1)::L')->Q v F):
  Cl Pr K 275 [pt hb 0 0,.agg ⟨n.enc⟩] h Q:=by
 have a:=m.of a
 simp only[mT.nI] at g
 refine cW (dF a ?_)
 intro p h a
 refine bE a ?_
 intro O h a
 obtain⟨mb,b,o,cap,a⟩:=Ds s (a.front (gG G hb C H))
 obtain⟨wa,wc,a⟩:=dV a
 refine aB (aA (aC a rfl (aA (aC a rfl ?_))))
 rw[k]
 refine dN s (bE a ?_)
 intro J h a
 refine aA (aC a rfl (aB (aA (jJ q.1 q.2 (aDw (H l).1 a rfl q ?_)))))
 intro h a
 have i:=eA b (o+l*25) ((H l).1.eT n) wa wc a rfl rfl rfl
 refine aB (aA (aA (aC a rfl (bA (aZ (fun y=>bW ?_) (fun y=>bW ?_))))))
 .simp only[Row.heard,aKj y] at g;unfold Row.vD at g;refine aA (aC i rfl (Fc i q fun h a=>?_));refine aA (aC a rfl (dG (fun t=>bW ?_) (fun t=>?_)))
  .rw[aKj ⟨y,t⟩] at g;refine bE a ?_;intro E h a;refine aB (aA (aC a rfl (aA (aC a rfl ?_))));rw[k];refine aA (aR a (by decide) (l:=oG (n.d0,n.d1)) rfl rfl (Jb hC f a s fun h a=>?_));generalize B:((H l).1.eT n).leave n.core=r2 at a g;have w:0<=r2.served.core/\r2.served.core<4:=by rw[<-B];exact hc
   have a:Hs G h (rM G hb p mb b o cap l C H n r2 (n.d0,n.d1)++L'):=by
    simp only[rM,List.cons_append,List.nil_append];exact a.to
   have A:=a
   simp only[rM,List.cons_append,List.nil_append] at a
   have i:=a
   obtain⟨wa,wc,a⟩:=dV a
   refine(aB (aA (aR a (by decide) (l:=[.bool (r2.asked 0),.bool (r2.asked 1),.bool (r2.asked 2),.bool (r2.asked 3)]) rfl rfl (aN (c:=[.bool false,.bool false,.bool false,.bool false]) rfl (tu (dG (fun z=>?_) (fun z=>?_)))))))
   .have z:r2.quiet=false:=by unfold Row.quiet;rw[z];rfl
    simp only[Row.rest,z,Bool.false_eq_true,if_false] at g
    exact g _ _ (qP (eO hb C H l r2 (n.d0,n.d1) _ mb b o cap s rfl i)).to
   .exact Wr hC f s k w (by unfold Row.quiet;rw[z];rfl) A g
  .rw[aKi (by rw[t];simp)] at g;generalize B:((H l).1.eT n).leave n.core=r2 at a g;have w:0<=r2.served.core/\r2.served.core<4:=by rw[<-B];exact hc
   refine V3 hC f s k w (m:=(H l).2) (H:=H) (mb:=mb) (b:=b) (o:=o) (cap:=cap) (L:=L') ?_ g
   simp only[rM,List.cons_append,List.nil_append,eU]
   exact a.to
 .have I:(H l).1.vD (H l).2 n=(H l).2:=by unfold Row.vD;rw[aKi (fun e=>y e.1)]
  simp only[Row.heard,aKi y,I] at g
  refine aA (aC a rfl (bA (aZ (fun t=>bW ?_) (fun t=>bW ?_))))
  .simp only[aKj t] at g;refine aB (aA (ay a ?_));intro h a;refine bE a ?_;intro E h a;refine aA (aC a rfl (aA (aC a rfl (oa ?_))));have D:=a;refine aB (aA (jJ q.1 q.2 (Ya {(H l).1.eT n with owner:= -1} a rfl q ?_)));intro h a;refine cZ dJ (cZ (aA dJ) (cZ (aC D rfl jA) (cZ (aB dJ) (cZ (aA dJ) ?_))));have i:=eA b (o+l*25) (((H l).1.eT n).Dj n) wa wc a rfl rfl rfl;refine aA (aC a rfl (dG (fun u=>?_) (fun u=>?_)))
   .simp only[u,if_true] at g;refine mj (r:=((H l).1.eT n).Dj n) hC f s k hc (m:=(H l).2) (H:=H) (mb:=mb) (b:=b) (o:=o) (cap:=cap) (L:=L') ?_ g;simp only[rM,List.cons_append,List.nil_append,eU];exact i.to
   .simp only[u,Bool.false_eq_true,if_false] at g;refine V3 (r:=((H l).1.eT n).Dj n) hC f s k hc (m:=(H l).2) (H:=H) (mb:=mb) (b:=b) (o:=o) (cap:=cap) (L:=L') ?_ g;simp only[rM,List.cons_append,List.nil_append,eU];exact i.to
  .simp only[aKi t] at g;refine aA (aC a rfl (dG (fun u=>?_) (fun u=>?_)))
   .simp only[u,if_true] at g;refine mj (r:=(H l).1.eT n) hC f s k hc (m:=(H l).2) (H:=H) (mb:=mb) (b:=b) (o:=o) (cap:=cap) (L:=L') ?_ g;simp only[rM,List.cons_append,List.nil_append,eU];exact i.to
   .simp only[u,Bool.false_eq_true,if_false] at g;refine V3 (r:=(H l).1.eT n) hC f s k hc (m:=(H l).2) (H:=H) (mb:=mb) (b:=b) (o:=o) (cap:=cap) (L:=L') ?_ g;simp only[rM,List.cons_append,List.nil_append,eU];exact i.to
end
section
set_option maxRecDepth 100000
variable {G:Bg} {h:AH} {L L':List HP}
theorem Nh {b o:Nat} {line state x:Int} {r:Row} {Q:Value->AH->Prop} (a:Hs G h L) [m:Has (eF b o) L r L'] (e:∀v c,Hs G c (eM v (eB line state (r.fY x))::eF b o (r.gW (r.fY x))::L')->Q v c):
  Cl Pr K 238 [pt b o 0,I x] h fun v c=>Cl Pr K 237 [pt b o 0,I line,I state,v] c Q:=by
 refine W4 (m.of a) fun p q h a=>?_
 have a:=Kv (a.front (eF b o r))
 refine Fh (G:=G) (r:=r) (A:=Eg b o p q x r) (L:=L') db Wn uJ (by kernel_rfl) ?_ fun v h a=>e v h ?_
 .simp only[Eg];exact a.to
 .have a:=a.lU.unpack;have a:Hs G h (cm b o r::Kt b o (r.gW (r.fY x))::eM v (eB line state (r.fY x))::L'):=a.to;exact(Od (r:=r.gW (r.fY x)) a).lU
theorem ia {b o:Nat} {line state:Int} {e:TypeId} {a:Option Addr} {c:Nat} {r:Row} {x:Int} {cs:List Value} {Q:Value->AH->Prop} (s:0<=x/\x<4) (f:Hs G h L) [m:Has (dH 1 e a c) L (1,cs) L'] (i:cs=[I x]) {M:List HP} [m2:Has (eF b o) L' r M] (q:∀v g,Hs G g (eM v (eB line state [x.toNat])::eF b o (r.gW [x.toNat])::M)->Q v g):
  Cl Pr K 99 [.slice a 1 c] h fun v g=>Cl Pr K 237 [pt b o 0,I line,I state,v] g Q:=by
 subst i
 have f:Hs G h (dH 1 e a c (1,[x].map I)::eF b o r::M):=f.perm (m.perm.trans (m2.perm.cons _))
 refine Oz (e:=e) (xs:=[x]) rfl f fun p h f=>?_
 have f:=Kv (f.front (eF b o r))
 have t:Xn Pr K G 152 [] [pt p 0 0] (Mo e p a c [x]) ([x.toNat].map fun(c:Nat)=>[I c]):=by
  have:=Fa (G:=G) (e:=e) (p:=p) (a:=a) (c:=c) (xs:=[x]) (by simp);simp only[List.map_cons,List.map_nil,Int.toNat_of_nonneg s.1] at this ⊢;exact this
 refine Fh (G:=G) (r:=r) (A:=Mo e p a c [x]) (L:=cm b o r::M) t (fun c k=>by simp at k;omega) (by simp) (by kernel_rfl) ?_ fun v h f=>q v h ?_
 .exact f.to
 .have f:Hs G h (cm b o r::Kt b o (r.gW [x.toNat])::eM v (eB line state [x.toNat])::M):=f.to;exact(Od (r:=r.gW [x.toNat]) f).lU
end
section
set_option maxRecDepth 100000
variable {G:Bg} {h:AH} {L L':List HP}
set_option maxHeartbeats 2000000 in
theorem Iz {C:bN} (hC:C.Ok) {hb l:Nat} {H:lT} {n:aH} {world:Int} {Q:Value->AH->Prop} (z:Ob G 0 fJ) (f:Hs G h L) [m:Has (gG G hb C) L H L'] (y:l<C.lines) (E:0<=n.core/\n.core<4) (u: -1<=(H l).1.owner/\(H l).1.owner<4)
  (g:∀v w,Hs G w (eM v ((H l).1.get l (H l).2 n world).2::gG G hb C (aX H l (((H l).1.get l (H l).2 n world).1,(H l).2))::L')->Q v w):
  Cl Pr K 235 [pt hb 0 0,I l,I world,.agg ⟨n.enc⟩] h Q:=by
 have f:=m.of f
 simp only[Row.get] at g
 refine cW (dF f ?_)
 intro p h f
 obtain⟨mb,b,o,cap,f⟩:=Ds y (f.front (gG G hb C H))
 obtain⟨wa,wc,f⟩:=dV f
 refine aB (aA (aC f rfl (dN y (bE f ?_))))
 intro R h f
 refine aR f (by decide) (l:=n.enc) rfl rfl (aB (aA (ay f ?_)))
 intro h f
 have F:=f
 refine aB (aA (ay f ?_))
 intro h f
 refine aB (aA (ay f ?_))
 intro h f
 refine cZ dJ (cZ dJ (cZ dJ (cZ (aR F (by decide) (l:=n.enc) rfl rfl (qY (by simp[pY,aH.enc]))) (cZ jA (cZ jA ?_)))))
 refine aA (aC f rfl (bJ ?_))
 have f:=eA b (o+l*25) ((H l).1.serve n world) wa wc f rfl rfl rfl
 have k:((H l).1.serve n world).served.core=n.core:=rfl
 have u: -1<=((H l).1.serve n world).owner/\((H l).1.serve n world).owner<4:=u
 generalize P:(H l).1.serve n world=r at f g k u
 have eC:∀(q:Row),q.served.core=n.core->∀h,Hs G h (eF b (o+l*25) q::aE hb 0 (mH mb C b o cap)::eW G C.lines mb C (fun i=>(H i).2)::hole G 25 222 (some ⟨b,o,none⟩) cap C.lines b o::zN b o C.lines H l::L')->
   (∀v w,Hs G w (eM v (q.eC l (q.sW (H l).2)).2::gG G hb C (aX H l ((q.eC l (q.sW (H l).2)).1,(H l).2))::L')->Q v w)->Cl Pr K 293 [pt hb 0 0,I l] h Q:=fun q D h f g=>by
  have f:=eO hb C H l q (H l).2 _ mb b o cap y eU.symm f
  refine D1 hC z f y (by simp only[dQ,D];exact E) fun v h f=>g _ _ ?_
  simp only[dQ,wW] at f
  exact f.to
 have s:∀(q:Row) (N:List aH) v h,Hs G h (eM v N::eF b (o+l*25) q::aE hb 0 (mH mb C b o cap)::eW G C.lines mb C (fun i=>(H i).2)::hole G 25 222 (some ⟨b,o,none⟩) cap C.lines b o::zN b o C.lines H l::L')->Hs G h (eM v N::gG G hb C (aX H l (q,(H l).2))::L'):=fun q N v h f=>
  (eO hb C H l q (H l).2 _ mb b o cap y eU.symm f).to
 refine aZ (fun A=>?_) (fun A=>?_)
 .simp only[aKj A,Row.getM,k] at g;refine bW (aA (aC f rfl (vQ f fun f=>bA (aZ (fun t=>?_) (fun t=>?_)))))
  .rw[aKj t] at g;refine aA (aC f rfl (Nh f fun v h f=>g _ _ ?_));exact s _ _ _ _ f.to
  .rw[aKi t] at g;exact eC r k _ f.to g
 .simp only[aKi A,Row.S3] at g;refine bW (bE f ?_);intro O h f;obtain⟨wa,wc,f⟩:=dV (f.front (eF b (o+l*25) r));refine aB (aA (aC f rfl (aA (aC f rfl (bJ (aZ (fun t=>bW ?_) (fun t=>bW ?_)))))))
  .have J:r.oF={r with owner:= -1}:=by unfold Row.oF;rw[aKj (by rw[k];exact t)]
   rw[J] at g
   simp only[ne_eq,not_true_eq_false,if_false] at g
   refine aB (aA (ay f ?_))
   intro h f
   refine aB (aA (aC f rfl (bA (aJ (by simp) ?_))))
   have f:=eA b (o+l*25) {r with owner:= -1} wa wc f rfl rfl rfl
   exact eC {r with owner:= -1} k _ f.to g
  .have J:r.oF=r:=by unfold Row.oF;rw[aKi (by rw[k];exact t)]
   rw[J] at g
   refine aB (aA (aC f rfl (bA (aZ (fun B=>?_) (fun B=>?_)))))
   .rw[aKj B] at g;refine aB (aA (aC f rfl (aN (c:=[I r.owner]) rfl (dK f rfl rfl rfl ?_))));intro a h f;have f:=eA b (o+l*25) r wa wc f rfl rfl rfl;refine ia (e:=3) (by omega) f rfl fun v h f=>g _ _ ?_;exact s _ _ _ _ f.to
   .rw[aKi B] at g;have f:=eA b (o+l*25) r wa wc f rfl rfl rfl;exact eC r k _ f.to g
end
section
set_option maxRecDepth 100000
variable {G:Bg} {h:AH} {L L':List HP}
theorem xD {C:bN} {hb mb b o cap:Nat} {x:Int} {Q:Value->AH->Prop} (e:Hs G h L) [m:Has (aE hb 0) L (mH mb C b o cap) L'] (c:Q (.bool (decide (C.has x))) h):Cl Pr K 115 [pt hb 0 0,I x] h Q:=by
 refine cW (K6 (eZ (dR (aZ (fun a=>?_) (fun a=>?_)))));refine aB (aA (aC e rfl (bP (aS ?_))));show Q _ _;rw[show decide (x<(C.lines:Int))=decide (C.has x) from decide_eq_decide.2 ⟨fun h=>⟨a,h⟩,fun h=>h.2⟩];exact c;show Q _ _;rw[show false=decide (C.has x) from(decide_eq_false (fun h=>a h.1)).symm];exact c
theorem Qx {C:bN} {H:lT} {b o l:Nat} (a:l<C.lines) (c:Hs G h L) [k:dT (dE C.lines fun i=>eF b (o+i*25) (H i).1) L L']:Hs G h (eF b (o+l*25) (H l).1::zN b o C.lines H l::L'):=
 (c.front (dE C.lines fun i=>eF b (o+i*25) (H i).1)).kO l a
theorem Bh (C:bN) (H:lT) (hb mb b o cap:Nat) {a L2 c e:List HP} (f:Hs G h L) [g:dT (aE hb 0 (mH mb C b o cap)) L a] [k:dT (eW G C.lines mb C (fun i=>(H i).2)) a L2]
  [q:dT (hole G 25 222 (some ⟨b,o,none⟩) cap C.lines b o) L2 c] [s:dT (dE C.lines fun i=>eF b (o+i*25) (H i).1) c e]:Hs G h (gG G hb C H::e):=
 qO (mb:=mb) (b:=b) (o:=o) (cap:=cap) (f.perm (g.perm.trans ((k.perm.trans ((q.perm.trans (s.perm.cons _)).cons _)).cons _)))
section
variable {C:bN} {hb mb b o cap p l:Nat} {H:lT} {n:aH} {Q:Value->AH->Prop}
theorem aEj (hC:C.Ok) (u:Ob G 0 fJ) (s:l<C.lines) (w:n.line=l) (t:0<=n.core/\n.core<4) (B:(H l).1.Inv) (E:(H l).1.waits.length<2^30)
  (f:Hs G h (aE p 0 n.enc::aE hb 0 (mH mb C b o cap)::eW G C.lines mb C (fun i=>(H i).2)::hole G 25 222 (some ⟨b,o,none⟩) cap C.lines b o::dE C.lines (fun i=>eF b (o+i*25) (H i).1)::L))
  (g:∀v A,Hs G A (eM v (mT.take (H l) l n).2.1::gG G hb C (aX H l (mT.take (H l) l n).1)::L)->Q (.tuple ⟨[v,I (mT.take (H l) l n).2.2]⟩) A):
  Dd 215 6 [] Q [(pt hb 0 0),(pt p 0 0)] h:=by
 unfold mT.take at g
 refine bW (bE f ?_)
 intro F h f
 have f:=Qx (H:=H) (b:=b) (o:=o) s f
 have same:∀h,Hs G h (eF b (o+l*25) (H l).1::zN b o C.lines H l::aE p 0 n.enc::aE hb 0 (mH mb C b o cap)::eW G C.lines mb C (fun i=>(H i).2)::hole G 25 222 (some ⟨b,o,none⟩) cap C.lines b o::L)->Hs G h (eM (.slice none 0 0) []::gG G hb C (aX H l (H l))::L):=fun h f=>
  qP ((eO hb C H l (H l).1 (H l).2 _ mb b o cap s eU.symm f).to)
 have D:Hs G h (eF b (o+l*25) (H l).1::zN b o C.lines H l::aE p 0 n.enc::aE hb 0 (mH mb C b o cap)::eW G C.lines mb C (fun i=>(H i).2)::hole G 25 222 (some ⟨b,o,none⟩) cap C.lines b o::L):=f.to
 obtain⟨wa,wc,f⟩:=dV f
 refine aB (aA (aC f rfl (aA (aC f rfl ?_))))
 rw[w]
 refine dN s (aA (aC f rfl (bJ (aZ (fun z=>bW ?_) (fun z=>bW ?_)))))
 .rw[aKj z] at g;refine bE f ?_;intro y h f;refine aB (aA (aC f rfl (bX (eN (dG (fun k=>?_) (fun k=>?_))))))
  .refine aB (aA (aA (aC f rfl (aA (aC f rfl (bA (aZ (fun q=>?_) (fun q=>bW ?_))))))))
   .rw[aKj (.inr q)] at g;exact g _ _ (same _ (eA b (o+l*25) (H l).1 wa wc f rfl rfl rfl).to)
   .rw[aKi (by rw[k];simpa using q)] at g;have f:=eA b (o+l*25) (H l).1 wa wc f rfl rfl rfl;refine Yl f fun h f=>g _ _ ?_;exact qP ((eO hb C H l (H l).1.free (H l).2 _ mb b o cap s eU.symm f).to)
  .rw[aKj (.inl k)] at g;exact g _ _ (same _ (eA b (o+l*25) (H l).1 wa wc f rfl rfl rfl).to)
 .rw[aKi z] at g;refine bJ (aZ (fun k=>bW ?_) (fun k=>bW ?_))
  .rw[aKj k] at g;refine bE f ?_;intro y h f;refine aA (aC f rfl (aB (aA (jJ t.1 t.2 (aC f (v:= .bool ((H l).1.asked n.core.toNat)) ?_ (bX (eN (dG (fun q=>?_) (fun q=>?_)))))))))
   .have:n.core.toNat=0\/n.core.toNat=1\/n.core.toNat=2\/n.core.toNat=3:=by omega
    rcases this with e|e|e|e<;>rw[e]<;>rfl
   .rw[aKi (by rw[q];simp)] at g;refine aR f (by decide) (l:=n.enc) rfl rfl ?_;have f:=eA b (o+l*25) (H l).1 wa wc f rfl rfl rfl;have f:=eO hb C H l (H l).1 (H l).2 _ mb b o cap s eU.symm f;rw[show aX H l ((H l).1,(H l).2)=H from wN] at f;exact o8 hC u f s w t B.core fun v h f=>g _ _ f.to
   .rw[aKj q] at g;exact g _ _ (same _ (eA b (o+l*25) (H l).1 wa wc f rfl rfl rfl).to)
  .rw[aKi k] at g;refine bE f ?_;intro y h f;refine aB (aA (aC f rfl (aR f (by decide) (l:=n.enc) rfl rfl (aN (c:=n.enc) rfl ?_))));refine kD f rfl rfl rfl rfl rfl ?_;intro a h f;refine rV f (by omega) ?_;intro a4 c4 h f;dsimp only;refine aB (aA (ay f ?_));intro h f;refine cZ dJ (g _ _ ?_);have f:=eA b (o+l*25) ((H l).1.wait n) a4 c4 f (by simp[Row.enc,dS,Row.wait]) (by simp[Row.wait]) (by simp[yI,Row.wait]);exact qP ((eO hb C H l ((H l).1.wait n) (H l).2 _ mb b o cap s eU.symm f).to)
end
end
section
set_option maxRecDepth 100000
variable {G:Bg} {h:AH} {L L':List HP}
section
variable {C:bN} {hb mb b o cap p l:Nat} {H:lT} {n:aH} {Q:Value->AH->Prop}
theorem aCz (hC:C.Ok) (k:Ob G 0 fJ) (w:zC C H (2^30 - 1)) {t:Value}
  (a:Hs G h (aE p 0 n.enc::aE hb 0 (mH mb C b o cap)::eW G C.lines mb C (fun i=>(H i).2)::hole G 25 222 (some ⟨b,o,none⟩) cap C.lines b o::dE C.lines (fun i=>eF b (o+i*25) (H i).1)::L)) (s:fG n.kind)
  (c:∀v u,Hs G u (eM v (fA C H n).2.1::gG G hb C (fA C H n).1::L)->Q (.tuple ⟨[v,I (fA C H n).2.2]⟩) u):Dd 215 4 [] Q [(pt hb 0 0),(pt p 0 0),t] h:=by
 unfold fA at c
 rw[aKi (by simpa using s)] at c
 have A:C.aD<=4:=hC.1.2
 have no:¬((0<=n.core/\n.core<C.aD)/\C.has n.line)->∀h,Hs G h (aE p 0 n.enc::aE hb 0 (mH mb C b o cap)::eW G C.lines mb C (fun i=>(H i).2)::hole G 25 222 (some ⟨b,o,none⟩) cap C.lines b o::dE C.lines (fun i=>eF b (o+i*25) (H i).1)::L)->Q (.tuple ⟨[.slice none 0 0,I 10]⟩) h:=fun B h a=>by
  rw[aKi B] at c;exact c _ _ (qP (Bh C H hb mb b o cap a)).to
 refine bW (bE a ?_)
 intro D h a
 refine aA (aC a rfl (aS (aZ (fun y=>no (by omega) _ a.to) (fun y=>?_))))
 refine aA (aC a rfl (aB (aA (aA (aC a rfl (dR (aZ (fun z=>no (by omega) _ a.to) (fun z=>?_))))))))
 refine aA (aC a rfl (xD a (bX (eN (aZ (fun g=>?_) (fun g=>no (fun e=>g e.2) _ a.to))))))
 rw[aKj ⟨by omega,g⟩] at c
 obtain⟨l,q⟩:=Int.eq_ofNat_of_zero_le g.1
 have f:l<C.lines:=by have:=g.2;omega
 have e:n.line.toNat=l:=by omega
 rw[e] at c
 rw[q] at c
 dsimp only at c
 exact aEj (mb:=mb) (b:=b) (o:=o) (cap:=cap) hC k f q (by omega) (w l f).1 (by have:=(w l f).2;omega) a.to c
end
theorem Dw {C:bN} (hC:C.Ok) {hb:Nat} {H:lT} {n:aH} {Q:Value->AH->Prop} (e:Ob G 0 fJ) (y:zC C H (2^30 - 1)) (c:Hs G h L) [m:Has (gG G hb C) L H L']
  (f:∀v i,Hs G i (eM v (fA C H n).2.1::gG G hb C (fA C H n).1::L')->Q (.tuple ⟨[v,I (fA C H n).2.2]⟩) i):Cl Pr K 215 [pt hb 0 0,.agg ⟨n.enc⟩] h Q:=by
 refine cW (dF (m.of c) ?_)
 intro p h c
 obtain⟨mb,b,o,cap,c⟩:=pT c.lU
 have a:∀t,fG n.kind->Dd 215 4 [] Q [(pt hb 0 0),(pt p 0 0),t] h:=fun t g=>aCz (mb:=mb) (b:=b) (o:=o) (cap:=cap) hC e y c.to g f
 have no:¬fG n.kind->Q (.tuple ⟨[.slice none 0 0,I 15]⟩) h:=fun z=>by
  unfold fA at f;rw[aKj z] at f;exact f _ _ (qP (Bh C H hb mb b o cap c)).to
 refine dD (bV (bW (aA (aC c rfl (bJ (aZ (fun k=>bW (bS k (a _ (by unfold fG;omega)))) (fun k=>bW (bJ (aZ (fun q=>bW (bS q (a _ (by unfold fG;omega)))) (fun q=>bW ?_))))))))))
 refine bJ (aZ (fun s=>bW (bS s (a _ (by unfold fG;omega)))) (fun s=>bW ?_))
 refine bJ (aZ (fun u=>bW (bS u (a _ (by unfold fG;omega)))) (fun u=>bW ?_))
 exact bJ (aZ (fun w=>a _ (by unfold fG;omega)) (fun w=>no (by unfold fG;omega)))
theorem qz {C:bN} {hb:Nat} {H:lT} {x:Int} {Q:Value->AH->Prop} (q:zC C H (2^30 - 1)) (e:Hs G h L) [m:Has (gG G hb C) L H L']
  (f:∀k,Hs G k (gG G hb C (jF C H x).1::L')->Q (I (jF C H x).2) k):Cl Pr K 285 [pt hb 0 0,I x] h Q:=by
 obtain⟨mb,b,o,cap,e⟩:=pT (m.of e)
 unfold jF at f
 refine cW (dD (bV (bW (xD e (bX (eN (aZ (fun g=>bW ?_) (fun g=>?_))))))))
 .rw[aKj g] at f;obtain⟨l,rfl⟩:=Int.eq_ofNat_of_zero_le g.1;simp only[mT.mh,Int.toNat_natCast] at f;have i:l<C.lines:=by have:=g.2;omega
  have e:=Qx (H:=H) (b:=b) (o:=o) i e
  obtain⟨wa,wc,e⟩:=dV e
  have s:=(q l i).2
  refine aB (aA (aC e rfl (dN i (aB (aA (aC e rfl (aN (c:=(mW l).enc) rfl (aN (c:=(mW l).enc) rfl ?_))))))))
  refine dK e rfl rfl rfl ?_
  intro a h e
  refine rV e (by omega) ?_
  intro a4 c4 h e
  dsimp only
  refine aB (aA (ay e ?_))
  intro h e
  refine f _ ?_
  have e:=eA b (o+l*25) ((H l).1.wait (mW l)) a4 c4 e (by simp[Row.enc,dS,Row.wait]) (by simp[Row.wait]) (by simp[yI,Row.wait])
  exact(eO hb C H l ((H l).1.wait (mW l)) (H l).2 _ mb b o cap i eU.symm e).to
 .rw[aKi g] at f;exact f _ (Bh C H hb mb b o cap e).to
structure Vp (G:Bg) (A:HP) (jv:Value) (j:Int->Int->Int×Bool):Prop where
 ne:∀k:Value->Prop,k (.bool false)->bG (Ol true .eql jv .nilIface) k
 may:∀(h:AH) (L M:List HP) (w l:Int) (Q:Value->AH->Prop),L.Perm (A::M)->Hs G h L->(∀h',Hs G h' L->Q (.tuple ⟨[I (j w l).1,.bool (j w l).2]⟩) h')->Cl Pr K 234 [jv,I w,I l] h Q
section
variable {C:bN} {hb mb b o cap p l:Nat} {H:lT} {n:aH} {r:Row} {Q:Value->AH->Prop} {j:Int->Int->Int×Bool} {jv:Value}
def I7 (G:Bg) (hb p mb b o cap l:Nat) (C:bN) (H:lT) (n:aH) (r:Row):List HP:=
 [eF b (o+l*25) r,aE p 0 n.enc,aE hb 0 (mH mb C b o cap),eW G C.lines mb C (fun i=>(H i).2),hole G 25 222 (some ⟨b,o,none⟩) cap C.lines b o,zN b o C.lines H l]
theorem mz (q:l<C.lines) (g:n.kind≠3/\n.kind≠1/\n.kind≠2) (a:Hs G h (I7 G hb p mb b o cap l C H n r++L)) {t:Value}
  (c:∀v k,Hs G k (eM v (r.begun l (H l).2 n (fun w=>j w l)).2::gG G hb C (aX H l (r.begun l (H l).2 n (fun w=>j w l)).1)::L)->Q (.tuple ⟨[v,I 0]⟩) k):Dd 171 13 [] Q [(pt hb 0 0),(I l),jv,(pt b (o+l*25) 0),(pt p 0 0),t] h:=by
 unfold Row.begun at c
 rw[aKi g.1,aab] at c
 simp only[I7,List.cons_append,List.nil_append] at a
 refine bW (vQ a fun a=>bJ (aZ (fun f=>?_) (fun f=>bW (bE a ?_))))
 .rw[aKj f] at c;exact c _ _ (qP ((eO hb C H l r (H l).2 _ mb b o cap q eU.symm a).to))
 .rw[aKi f] at c;intro s h a;refine aR a (by decide) (l:=n.enc) rfl rfl ?_;obtain⟨wa,wc,a⟩:=dV (a.front (eF b (o+l*25) r));refine aB (aA (ay a ?_));intro h a;have i:=a;refine aB (aA (ay a ?_));intro h a;refine cZ dJ (cZ (aR i (by decide) (l:=n.enc) rfl rfl (qY (by simp[pY,aH.enc]))) ?_);have a:=eA b (o+l*25) (r.Lr n) wa wc a rfl rfl rfl;have e:(r.Lr n).fY (-1)=r.fY (-1):=rfl;refine Nh a fun v h a=>c _ _ ?_;rw[e] at a;exact(eO hb C H l ((r.Lr n).gW (r.fY (-1))) (H l).2 _ mb b o cap q eU.symm a).to
theorem Ur (hC:C.Ok) (g:Ob G 0 fJ) {A:HP} {y:List HP} (z:Vp G A jv j) (hA:L.Perm (A::y)) (q:l<C.lines) (s:0<=n.core/\n.core<4) (t: -1<=r.owner/\r.owner<4) (k:n.kind=1\/n.kind=2) (e:Hs G h (I7 G hb p mb b o cap l C H n r++L))
  (f:∀v u,Hs G u (eM v (r.begun l (H l).2 n (fun w=>j w l)).2::gG G hb C (aX H l (r.begun l (H l).2 n (fun w=>j w l)).1)::L)->Q (.tuple ⟨[v,I 0]⟩) u):Dd 171 12 [] Q [(pt hb 0 0),(I l),jv,(pt p 0 0)] h:=by
 unfold Row.begun at f
 rw[aab,aKj k] at f
 simp only[I7,List.cons_append,List.nil_append] at e
 refine bW (aA (aC e rfl (z.may _ _ _ _ _ _ ((hA.append_left (I7 G hb p mb b o cap l C H n r)).trans List.perm_middle) e fun h e=>?_)))
 simp only[I7,List.cons_append,List.nil_append] at e
 refine aI rfl (aI rfl (bX (eN (dG (fun i=>?_) (fun i=>?_)))))
 .rw[aKj i] at f;refine aR e (by decide) (l:=n.enc) rfl rfl ?_;have e:=eO hb C H l r (H l).2 _ mb b o cap q eU.symm e;refine Iz hC g e q s (by simp only[dQ];exact t) fun v h e=>f _ _ ?_;simp only[dQ,wW] at e;exact e.to
 .rw[aKi (by rw[i];simp)] at f;refine aA (aC e rfl (aN (c:=(nA 9 n.core l).enc) rfl (aN (c:=(nA 9 n.core l).enc) rfl (dK e rfl rfl rfl ?_))));intro a h e;refine f _ _ ?_;have e:=Cy (n:=nA 9 n.core l) rfl e;exact(eO hb C H l r (H l).2 _ mb b o cap q eU.symm e).to
theorem aA1 (hC:C.Ok) (k:Ob G 0 fJ) (q:l<C.lines) (i:0<=n.core/\n.core<4) (u:n.kind=3) (f:Hs G h (I7 G hb p mb b o cap l C H n r++L))
  (g:∀v y,Hs G y (eM v (r.begun l (H l).2 n (fun w=>j w l)).2::gG G hb C (aX H l (r.begun l (H l).2 n (fun w=>j w l)).1)::L)->Q (.tuple ⟨[v,I 0]⟩) y):Dd 171 6 [] Q [(pt hb 0 0),(I l),(pt b (o+l*25) 0),(pt p 0 0)] h:=by
 unfold Row.begun at g
 rw[aKj u] at g
 simp only[I7,List.cons_append,List.nil_append] at f
 refine bW (bE f ?_)
 intro z h f
 obtain⟨wa,wc,f⟩:=dV (f.front (eF b (o+l*25) r))
 refine aB (aA (aC f rfl (aA (aC f rfl (bJ (aZ (fun s=>?_) (fun s=>?_)))))))
 .have f:=eA b (o+l*25) r wa wc f rfl rfl rfl;refine aA (aC f rfl (dG (fun t=>bW (bE f ?_)) (fun t=>bW ?_)))
  .rw[aKj ⟨s,t⟩] at g;intro z h f;refine aB (aA (aC f rfl (aA (aR f (by decide) (l:=oG (n.d0,n.d1)) rfl rfl (Jb hC k f q fun h f=>?_)))));refine aA (aC f rfl (Fc f i fun h f=>?_));refine aA (aC f rfl (aN (c:=(nA 10 n.core l).enc) rfl (aN (c:=(nA 10 n.core l).enc) rfl (dK f rfl rfl rfl ?_))));intro a h f;refine g _ _ ?_;have f:=Cy (n:=nA 10 n.core l) rfl f;exact(eO hb C H l (r.leave n.core) (n.d0,n.d1) _ mb b o cap q rfl f).to
  .rw[aKi (by rw[t];simp)] at g;refine aA (aC f rfl (Fc f i fun h f=>?_));refine aA (aC f rfl (aN (c:=(nA 10 n.core l).enc) rfl (aN (c:=(nA 10 n.core l).enc) rfl (dK f rfl rfl rfl ?_))));intro a h f;refine g _ _ ?_;have f:=Cy (n:=nA 10 n.core l) rfl f;exact(eO hb C H l (r.leave n.core) (H l).2 _ mb b o cap q eU.symm f).to
 .rw[aKi (fun e=>s e.1)] at g;have f:=eA b (o+l*25) r wa wc f rfl rfl rfl;refine aA (aC f rfl (Fc f i fun h f=>?_));refine aA (aC f rfl (aN (c:=(nA 10 n.core l).enc) rfl (aN (c:=(nA 10 n.core l).enc) rfl (dK f rfl rfl rfl ?_))));intro a h f;refine g _ _ ?_;have f:=Cy (n:=nA 10 n.core l) rfl f;exact(eO hb C H l (r.leave n.core) (H l).2 _ mb b o cap q eU.symm f).to
end
theorem ma {C:bN} (hC:C.Ok) {hb:Nat} {H:lT} {x:Int} {jv:Value} {j:Int->Int->Int×Bool} {N:Nat} {Q:Value->AH->Prop} (g:Ob G 0 fJ) {A:HP} {R:List HP} (F:Vp G A jv j) (V:zC C H N) (a:Hs G h L) [m:Has (gG G hb C) L H L'] (hA:L'.Perm (A::R))
  (c:∀v P,Hs G P (eM v (iB C H x (fun w=>j w x)).2.1::gG G hb C (iB C H x (fun w=>j w x)).1::L')->Q (.tuple ⟨[v,I (iB C H x (fun w=>j w x)).2.2]⟩) P):Cl Pr K 171 [pt hb 0 0,I x,jv] h Q:=by
 obtain⟨mb,b,o,cap,a⟩:=pT (m.of a)
 unfold iB at c
 refine cW (dD (bV (bW (xD a (bX (eN (aZ (fun u=>bW (F.ne _ (bV (bW ?_)))) (fun u=>?_))))))))
 rotate_left
 .rw[aKi u] at c;exact c _ _ (qP (Bh C H hb mb b o cap a)).to
 rw[aKj u] at c
 obtain⟨l,rfl⟩:=Int.eq_ofNat_of_zero_le u.1
 have k:l<C.lines:=by have:=u.2;omega
 simp only[Int.toNat_natCast] at c
 have a:=Qx (H:=H) (b:=b) (o:=o) k a
 obtain⟨wa,wc,a⟩:=dV a
 have same:∀h,Hs G h (eF b (o+l*25) (H l).1::zN b o C.lines H l::aE hb 0 (mH mb C b o cap)::eW G C.lines mb C (fun i=>(H i).2)::hole G 25 222 (some ⟨b,o,none⟩) cap C.lines b o::L')->Hs G h (eM (.slice none 0 0) []::gG G hb C (aX H l (H l))::L'):=fun h a=>
  qP ((eO hb C H l (H l).1 (H l).2 _ mb b o cap k eU.symm a).to)
 unfold mT.begin at c
 refine aB (aA (aC a rfl (dN k (aB (aA (aC a rfl (dG (fun D=>?_) (fun D=>bW ?_))))))))
 .rw[aKj D] at c;exact c _ _ (same _ (eA b (o+l*25) (H l).1 wa wc a rfl rfl rfl).to)
 rw[aKi (by rw[D];simp)] at c
 refine aB (aA (aC a rfl (bP (bJ (aZ (fun E=>?_) (fun E=>bW ?_))))))
 .have q:(H l).1.waits=[]:=List.eq_nil_of_length_eq_zero (by omega);rw[q] at c;exact c _ _ (same _ (eA b (o+l*25) (H l).1 wa wc a rfl rfl rfl).to)
 .cases q:(H l).1.waits with
  |nil=>rw[q] at E;simp at E
  |cons n w=>
   rw[q] at c
   dsimp only at c
   have s:=(V l k).1
   have t:=s.waits n (by rw[q];exact List.mem_cons_self)
   have f:=a.front (dH 9 162 wa wc ((H l).1.waits.length,eI (H l).1.waits))
   rw[q] at f
   simp only[List.length_cons,I3] at f
   obtain⟨W,X,rfl,HH,z,_⟩:=f.oZ (by omega)
   refine aB (aA (aC a rfl ?_))
   rw[q]
   refine dN (i:=0) (by simp) (Kq z (by decide) (l:=n.enc) (by simp[aH.enc]) rfl ?_)
   clear z
   refine bM f ?_
   intro p h a
   refine ax a ?_
   intro h a
   refine aB (aA (aC a rfl ?_))
   rw[q]
   refine ti (e:=162) a ?_
   intro T U a
   refine aB (aA (ay a ?_))
   intro h a
   have a:=eA b (o+l*25) ((H l).1.next w) T U a rfl rfl (by simp[Row.next,aH.enc])
   have a:Hs G h (I7 G hb p mb b o cap l C H n ((H l).1.next w)++L'):=by
    simp only[I7,List.cons_append,List.nil_append];exact a.to
   have y:=a
   simp only[I7,List.cons_append,List.nil_append] at y
   refine aA (aC y rfl (bJ (aZ (fun J=>aA1 (j:=j) hC g k t J a c) (fun J=>bW (bJ (aZ (fun B=>bW (bS B (Ur (r:=(H l).1.next w) hC g F hA k t s.owner (.inl B) a c))) (fun B=>bW (bJ (aZ (fun O=>Ur (r:=(H l).1.next w) hC g F hA k t s.owner (.inr O) a c) (fun O=>mz k ⟨J,B,O⟩ a c))))))))))
end
end Go.Proofs.YtmhapehobfnoiaaGreatDoor.H
end
namespace Go.Proofs.YtmhapehobfnoiaaGreatDoor
open Go Go.Ab Go.Hm Go.At Go.Mc
section
theorem aEg {a b c d:Bool} {k:Value->Prop} (g:k (.bool (!(a||b||c||d)))) {f:Bool} (hc:f=true:=by kernel_rfl):Ny f [1,1,1,1] .eql (.agg ⟨[.bool a,.bool b,.bool c,.bool d]⟩) (.agg ⟨[.bool false,.bool false,.bool false,.bool false]⟩) k:=by
 have e:Md [1,1,1,1] .eql (.agg ⟨[.bool a,.bool b,.bool c,.bool d]⟩) (.agg ⟨[.bool false,.bool false,.bool false,.bool false]⟩)=some (.bool (!(a||b||c||d))):=by cases a<;>cases b<;>cases c<;>cases d<;>kernel_rfl
 exact⟨hc,_,e,g⟩
set_option maxRecDepth 100000
attribute [local irreducible] bG Br ld1 uF uG B4 mA uX lK P3 hQ mY qG pZ pS lH zE uE Uh Ty Oa Mr Rk Ol Md Ny Rn lN oT sF iV copyV iJ wV Tu U3 Gk kX Mb Qq Sb nL rR xM zA Cl zB Ro sM sC jS fL setLoop cH
variable {G:Bg} {h:AH} {L L' M:List HP} {Q:Value->AH->Prop} {C:bN} {m:Mon} {p:Nat}
theorem Pe {g:Int} (c:iA C m) (hC:C.Ok) (a:m.has g):∃n:Nat,g=n/\n<m.cE.length/\n<16:=by
 have:=c.len;have:=hC.2.1;unfold Mon.has at a;exact⟨g.toNat,by omega,by omega,by omega⟩
theorem jm {r:Mc.jG} {i:Nat} (a:i<4):dS r.enc (0+8+i*1) [.bool false]=(r.heard i).enc:=by
 have:i=0\/i=1\/i=2\/i=3:=by omega
 rcases this with rfl|rfl|rfl|rfl<;>rfl
theorem N2 {f:Nat->Option Mc.jG} {g:Nat} {r:Mc.jG}:Jq (fS f) g (some (.agg ⟨r.enc⟩))=fS (aX f g (some r)):=F5 (x:=some r)
theorem Mx {g core:Int} (hC:C.Ok) (J:iA C m) (a:Hs G h L) [O:Has (fO C p) L m L'] (f:∀z,Hs G z (fO C p (m.dropped C.aD g core).1::L')->Q (.tuple ⟨[.bool (m.dropped C.aD g core).2.1,I (m.dropped C.aD g core).2.2]⟩) z):Cl Pr K 225 [pt p 0 0,I g,I core] h Q:=by
 have R:=hC.1;unfold Mon.dropped at f;obtain⟨t,b,a⟩:=kE (O.of a);refine cW (dD (bV (bW (aB (aA (am p a rfl (Bm (m:=m) a fun h a=>?_)))))));by_cases w:m.has g;rotate_left;rw[aKi w];rw[aKj w] at f;exact aI rfl (aI rfl (bM a fun q h a=>ax (b:=q) a fun h a=>bA (aae (f _ (dO (t:=t) (b:=b) a.to)))));rw[aKj w];rw[aKi (by simpa using w)] at f;obtain⟨n,rfl,T,u⟩:=Pe J hC w;refine aI rfl (aI rfl (bM a fun q h a=>ax (b:=q) a fun h a=>bA (aaa (bW (aB (aA (am p a rfl (N0 (m:=m) a (bM a fun v h a=>ax (b:=v) a fun h a=>aA (am v a rfl (bA (aZ (fun s=>?_) (fun s=>?_)))))))))))));cases hr:m.run (n:Int) with
 |none=>rw[hr] at f;exact f _ (dO (t:=t) (b:=b) a.to)
 |some r=>
  rw[hr] at s f;simp only[Option.getD_some] at s;dsimp only at f;rw[aKj s] at f;exact f _ (dO (t:=t) (b:=b) a.to)
 cases hr:m.run (n:Int) with
 |none=>rw[hr] at s;exact absurd (show(0:Int)≠1 by omega) s
 |some r=>
 rw[hr] at s a f;simp only[Option.getD_some] at s a;dsimp only at f;rw[aKi s] at f;by_cases A:0<=core/\core<C.aD;rotate_left;rw[aKj (Or.inl A)] at f;refine bW (aS (aZ (fun D=>f _ (dO (t:=t) (b:=b) a.to)) fun D=>aB (aA (am p a rfl (dR (aae (f _ (dO (t:=t) (b:=b) a.to))))))));obtain⟨i,rfl⟩:=Int.eq_ofNat_of_zero_le A.1;have E:i<4:=by omega
 have y:r.enc[0+8+i*1]?=some (.bool (r.waits i)):=by
  have:i=0\/i=1\/i=2\/i=3:=by omega
  rcases this with rfl|rfl|rfl|rfl<;>rfl
 refine bW (aS (aaa (aB (aA (am p a rfl (dR (aaa (aA (gK (by omega) (am v a y (bX (eN ?_))))))))))));rw[Int.toNat_natCast] at f;cases hw:r.waits i with
 |false=>
  rw[aKj (Or.inr hw)] at f;exact bV (f _ (dO (t:=t) (b:=b) a.to))
 |true=>
 rw[aKi (by rw[hw];simp;omega)] at f;have F:r.enc.length=12:=rfl;refine eZ (bW (aA (gK (by omega) (bL (b:=v) (o:=0) a rfl (by rw[F];exact Nat.ble_eq_true_of_le (by simp;omega)) rfl rfl fun h a=>?_))));rw[jm E] at a;refine aA (kS (b:=v) (o:=0) a (by decide) (l:=[.bool ((r.heard i).waits 0),.bool ((r.heard i).waits 1),.bool ((r.heard i).waits 2),.bool ((r.heard i).waits 3)]) rfl rfl (aN (c:=[.bool false,.bool false,.bool false,.bool false]) rfl (aEg (dG (fun k=>?_) (fun k=>?_)))));have e:({(r.heard i) with phase:=2}:Mc.jG)=(r.heard i).hZ:=by unfold jG.hZ;rw[show(r.heard i).none=true from k];rfl
 refine bW (aA (ay (b:=v) (o:=0) a fun h a=>bE a fun P h a=>?_));have B:dS (r.heard i).enc (0+7) [I 2]=({(r.heard i) with phase:=2}:Mc.jG).enc:=rfl;rw[B,e] at a;refine aB (aA (am p a rfl (an v a (l:=(r.heard i).hZ.enc) rfl rfl (P1 a u fun h a=>?_))));rw[N2] at a;have a:Hs G h (fO C p (m.cQ n (some (r.heard i).hZ))::L'):=(dO (m:=m.cQ n (some (r.heard i).hZ)) (a.cI (aE p 0 [pt t 0 0,I C.aD,gA b]) (gP t m.cE) (iG b (fS (aX m.runs n (some (r.heard i).hZ)))))).to;have:=f h a;rw[k];rw[show(r.heard i).none=true from k] at this;exact this;have e:r.heard i=(r.heard i).hZ:=by unfold jG.hZ;rw[show(r.heard i).none=false from k];rfl
 rw[e] at a;refine bW (bE a fun P h a=>aB (aA (am p a rfl (an v a (l:=(r.heard i).hZ.enc) rfl rfl (P1 a u fun h a=>?_)))));rw[N2] at a;have a:Hs G h (fO C p (m.cQ n (some (r.heard i).hZ))::L'):=(dO (m:=m.cQ n (some (r.heard i).hZ)) (a.cI (aE p 0 [pt t 0 0,I C.aD,gA b]) (gP t m.cE) (iG b (fS (aX m.runs n (some (r.heard i).hZ)))))).to;have:=f h a;rw[k];rw[show(r.heard i).none=false from k] at this;exact this
theorem u6 {n:Nat} {r:Mc.jG} (h:m.run (n:Int)=some r):m.runs n=some r:=by
 unfold Mon.run at h;rw[aac] at h;exact h
theorem W7 {g:Int} (hC:C.Ok) (D:iA C m) (a:Hs G h L) [J:Has (fO C p) L m L'] (i:∀v,Hs G v (fO C p (m.over g).1::L')->Q (.tuple ⟨[.agg ⟨nS ((m.over g).2.1.getD Bw)⟩,I (m.over g).2.2]⟩) v):Cl Pr K 172 [pt p 0 0,I g] h Q:=by
 unfold Mon.over at i;refine cW (bM (cs:=nS Bw) (J.of a) fun u h a=>?_);obtain⟨t,b,a⟩:=kE (a.front (fO C p m));refine dD (bV (bW (aB (aA (am p a rfl (Bm (m:=m) a fun h a=>?_))))));have bad:∀{h:AH} {M:List HP} {e:Int},[Sub M L']->Hs G h (aE u 0 (nS Bw)::aE p 0 [pt t 0 0,I C.aD,gA b]::gP t m.cE::iG b (fS m.runs)::M)->(∀v,Hs G v (fO C p m::L')->Q (.tuple ⟨[.agg ⟨nS Bw⟩,I e]⟩) v)->
   bG (pJ [(I 0),(I 0),(I 0),(I 0),(I 0),(I 0),(.bool false)] []) fun A=>bG (uG h 7 (pt u 0 0) (.agg ⟨A⟩)) fun w=>bG (uF w 7 (pt u 0 0)) fun v12=>Q (.tuple ⟨[v12,I e]⟩) w:=by
  intro h M e _ a F
  exact aN (c:=nS Bw) rfl (ax (b:=u) a fun h a=>an u a (l:=nS Bw) rfl rfl (F _ (dO (t:=t) (b:=b) a.to)))
 by_cases y:m.has g;rotate_left;rw[aKi y];rw[aKj y] at i;exact aI rfl (aI rfl (bM a fun q h a=>ax (b:=q) a fun h a=>bA (aae (bad (M:=L') a.to i))));rw[aKj y];rw[aKi (by simpa using y)] at i;obtain⟨n,rfl,R,E⟩:=Pe D hC y;refine aI rfl (aI rfl (bM a fun q h a=>ax (b:=q) a fun h a=>bA (aaa (bW (aB (aA (am p a rfl (N0 (m:=m) a (bM a fun z h a=>ax (b:=z) a fun h a=>aA (am z a rfl (bA (aZ (fun s=>?_) (fun s=>?_)))))))))))));cases hr:m.run (n:Int) with
 |none=>rw[hr] at i;exact bad (M:=L') a.to i
 |some r=>
  rw[hr] at s i;simp only[Option.getD_some] at s;dsimp only at i;rw[aKj s] at i;exact bad (M:=L') a.to i
 cases hr:m.run (n:Int) with
 |none=>rw[hr] at s;exact absurd (show(0:Int)≠2 by omega) s
 |some r=>
 rw[hr] at s a i;simp only[Option.getD_some] at s a;dsimp only at i;rw[aKi s] at i;obtain⟨T,O,U,V,P⟩:=D.run n r (u6 hr);refine bW (bE a fun W h a=>aB (aA (am p a rfl (aA (aA (aA (am z a rfl (aA (aA (am z a rfl (aN (c:=(⟨r.then',false⟩:gZ).enc) rfl (Gf (x:=⟨r.then',false⟩) a fun h a=>?_))))))))))));have k:(0<=r.bI/\r.bI<m.cE.length)/\(0<=r.then'/\r.then'<=4):=⟨by rw[O];omega,P⟩;rw[aKj k] at a;rw[aKj k];refine bA (aaa (bW (aB (aA (am p a rfl (aF4 a fun h a=>aA (an z a (l:=nS r) rfl rfl (ax (b:=u) a fun h a=>an u a (l:=nS r) rfl rfl (i _ ?_)))))))));have B:=F5 (f:=m.runs) (g:=n) (x:=none);rw[Option.map_none] at B;rw[B] at a;have a:Hs G h (fO C p ((m.oY r.bI.toNat ⟨r.then',false⟩).cQ n none)::L'):=(dO (m:=(m.oY r.bI.toNat ⟨r.then',false⟩).cQ n none) (a.cI (aE p 0 [pt t 0 0,I C.aD,gA b]) (gP t (m.cE.set r.bI.toNat ⟨r.then',false⟩)) (iG b (fS (aX m.runs n none))))).to;exact a
end
end Go.Proofs.YtmhapehobfnoiaaGreatDoor
