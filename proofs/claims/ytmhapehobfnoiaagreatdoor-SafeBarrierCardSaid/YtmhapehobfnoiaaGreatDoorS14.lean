/- A part of the proof. -/
import Derived.Test.YtmhapehobfnoiaaGreatDoorS13
import Derived.Test.YtmhapehobfnoiaaGreatDoorS11
import Derived.Test.YtmhapehobfnoiaaGreatDoorS10
import Derived.Test.YtmhapehobfnoiaaGreatDoorS9
import Derived.Test.YtmhapehobfnoiaaGreatDoorS12
import Derived.Test.YtmhapehobfnoiaaGreatDoorS7
import Derived.Test.YtmhapehobfnoiaaGreatDoorS8
section
open Go Go.Ab
attribute [local irreducible] bG Br ld1 uF uG B4 mA uX lK P3 hQ mY qG pZ pS lH zE uE Uh Ty Oa Mr Rk Ol Md Ny Rn lN oT sF iV copyV iJ wV Tu U3 Gk kX Mb Qq Sb nL rR xM zA Cl zB Ro sM sC jS fL setLoop cH
namespace Go.Proofs.YtmhapehobfnoiaaGreatDoor
open Go Go.Ab Go.Hm Go.At Go.Mc Go.Ct Go.Nt
section
set_option maxRecDepth 100000
variable {G:Bg} {h:AH} {L L':List HP} {Q:Value->AH->Prop} {Cf:bN} {m:Nat} {M:cU} {n:aH}
def aF3 (G:Bg) (Cf:bN) (m:Nat) (Z:HP) (b:Value) (A B:cU):Prop:=∀(h:AH) (L:List HP) (Q:Value->AH->Prop),Hs G h (Z::bU G Cf m A::L)->(∀v a,Hs G a (bU G Cf m B::L)->Q v a)->zB Pr K b [] h Q
abbrev TK (G:Bg) (Cf:bN) (m:Nat) (M:cU) (L:List HP) (Q:Value->AH->Prop) (r:cU×List aH×Int):Prop:=∀v a Z b,Hs G b (H.eM v r.2.1::Z::bU G Cf m M::L)->(r.2.2=0->∀F,aF3 G Cf m Z a (M.dS F) (r.1.dS F))->Q (.tuple ⟨[v,a,I r.2.2]⟩) b
theorem Fp {C:bN} {H:lT} {N N':Nat} (h:zC C H N) (b:N<=N'):zC C H N':=fun k a=>⟨(h k a).1,Nat.le_trans (h k a).2 b⟩
theorem yh {p2 j:Nat} (hC:Cf.Ok) (hG:Gb G) (k:xI Cf M n) (a:Hs G h (aE p2 0 [pt m 0 0]::aE j 0 n.enc::bU G Cf m M::L)) (g:TK G Cf m M L Q (M.pV (fA Cf M.home n).1,(fA Cf M.home n).2.1,(fA Cf M.home n).2.2)):Dd 169 3 [] Q [(pt p2 0 0),(pt j 0 0)] h:=by
 obtain⟨x,i,a⟩:=cY (a.front (bU G Cf m M));refine bW (am p2 a rfl (aB (aA (am m a rfl (H.J1 (C:=Cf) hC (Fp k.home (by omega)) a fun q h a=>bM a fun c h a=>ax (b:=c) a fun h a=>am c a rfl (an j a (l:=n.enc) rfl rfl ?_))))));refine H.Dw (C:=Cf) (hb:=q) (H:=M.home) (n:=n) hC hG.lim (Fp k.home (by omega)) a fun v h a=>aI rfl (aI rfl ?_);have a:=bK (m:=m) (x:=x) M i a;have a:=(a.cI (aE c 0 [pt q 0 0]) (aE p2 0 [pt m 0 0]) (H.gG G q Cf (fA Cf M.home n).1)).Rp;refine g v _ (sp [aE c 0 [pt q 0 0],aE p2 0 [pt m 0 0],H.gG G q Cf (fA Cf M.home n).1]) h a.to fun _ F=>?_;intro h L Q a g;have a:=a.B5;obtain⟨x,i,a⟩:=cY (a.front (bU G Cf m (M.dS F)));refine rC rfl (cW (f:=216) (am p2 a rfl (am c a rfl (aB (aA (ay (b:=m) (o:=0) a fun h a=>g _ _ ?_))))));have e:dS (fH Cf x M.log.length) (0+10) [pt q 0 0]=fH Cf {x with hb:=q} M.log.length:=rfl;rw[e] at a;exact(bK (m:=m) (x:={x with hb:=q}) ((M.pV (fA Cf M.home n).1).dS F) i a).to
theorem qi {p2 v:Nat} (hC:Cf.Ok) (hG:Gb G) (A:xI Cf M n) (g:Hs G h (aE p2 0 [pt m 0 0]::aE v 0 n.enc::bU G Cf m M::L)) (z:TK G Cf m M L Q (M.uB n.core.toNat (fQ Cf n.core (M.cG n.core.toNat) n).1,(fQ Cf n.core (M.cG n.core.toNat) n).2.1,(fQ Cf n.core (M.cG n.core.toNat) n).2.2)):Dd 169 9 [] Q [(pt p2 0 0),(pt v 0 0)] h:=by
 have p:Bd (M.cG n.core.toNat):=A.Mt.bd (nH hC).2.2.2;obtain⟨i,B⟩:=Int.eq_ofNat_of_zero_le A.core.1;have O:(i:Int)<Cf.aD:=by have:=A.core.2;omega
 rw[B,Int.toNat_natCast] at z;have k:=A.Mt;rw[B,Int.toNat_natCast] at k p;obtain⟨x,u,g⟩:=cY (g.front (bU G Cf m M));have j:i<x.lk.length:=by have:=u.2.1;omega
 have E:n.enc[0+1]?=some (I i):=by show some (I n.core)=_;rw[B]
 refine bW (bE g fun J h g=>am p2 g rfl (aB (aA (am m g rfl (aA (am v g E (Ft g j ?_)))))));have g:=gV (R:=qC G Cf) (l:=x.lk) (s:=M.cG) j g;refine C.Zu (C:=Cf) (core:=(i:Int)) (c:=x.lk.getD i 0) (s:=M.cG i) hC p g fun q h g=>kQ (r:=J) (i:=9) (n:=11) (D:=[]) g rfl rfl fun y h g=>ax (b:=y) g fun h g=>am y g rfl (an v g (l:=n.enc) rfl rfl ?_);refine C.Dw (C:=Cf) (core:=(i:Int)) (c:=q) (s:=M.cG i) (n:=n) hC p k.sts hG.lim hG.row g fun a c h g=>aI rfl (aI rfl ?_);have g:=xY (Cf:=Cf) (l:=x.lk) (s:=M.cG) (i:=i) (t:=M.cG i) j g;rw[bT] at g;have g:=bK (m:=m) (x:=x) M u g;have g:=(g.fX (aE y 0 [pt q 0 0]) (aE p2 0 [pt m 0 0]) (aE v 0 n.enc) (C.iF G q Cf i (fQ Cf i (M.cG i) n).1)).El;have g:=H.Gd (l:=(fQ Cf i (M.cG i) n).2.1) rfl rfl (g.front (dH 9 162 a c ((fQ Cf i (M.cG i) n).2.1.length,eI (fQ Cf i (M.cG i) n).2.1)));refine z _ _ (sp [aE y 0 [pt q 0 0],aE p2 0 [pt m 0 0],aE v 0 n.enc,C.iF G q Cf i (fQ Cf i (M.cG i) n).1]) h g.to fun _ F=>?_;intro h L Q g z;have g:=g.Vg;obtain⟨x,u,g⟩:=cY (g.front (bU G Cf m (M.dS F)));have j:i<x.lk.length:=by have:=u.2.1;omega
 refine rC rfl (cW (f:=218) (bE g fun J h g=>am p2 g rfl (aB (aA (am m g rfl (aA (am v g E (am y g rfl (Zx g j fun h g=>z _ _ ?_)))))))));have g:=gV (R:=qC G Cf) (l:=x.lk) (s:=M.cG) j g;have g:=Ep (R:=qC G Cf) (l:=x.lk) (s:=M.cG) (i:=i) (q:=q) (t:=(fQ Cf i (M.cG i) n).1) j g;have e:fH Cf x M.log.length=fH Cf {x with lk:=x.lk.set i q} M.log.length:=by unfold fH;rw[List.length_set]
 rw[e] at g;exact(bK (m:=m) (x:={x with lk:=x.lk.set i q}) ((M.uB i (fQ Cf i (M.cG i) n).1).dS F) ⟨u.1,by rw[List.length_set];exact u.2.1,u.2.2⟩ g).to
end
section
theorem Tb {m:Mon} {c g x:Int} (h:(m.dropped c g x).2.1=true):m.has g:=by
 unfold Mon.dropped at h;by_cases a:m.has g;exact a;rw[aKj a] at h;cases h
set_option maxRecDepth 100000
variable {G:Bg} {h:AH} {L L':List HP} {Q:Value->AH->Prop} {Cf:bN} {m:Nat} {M:cU} {n:aH}
theorem px {v:Value} {l:List aH} (a:Hs G h (H.eM v l::L)):Hs G h (H.eM v l::sp []::L):=(Hs.pack (A:=[]) a).lU
theorem No {a:Addr} {c:Nat} {x:aH} (b:Hs G h (dH 9 162 (some a) c (1,x.enc)::L)):Hs G h (H.eM (.slice (some a) 1 c) [x]::L):=H.Gd (l:=[x]) rfl (by simp[eI]) b
theorem Gc (a:Hs G h L):Hs G h (H.eM (.slice none 0 0) []::L):=H.qP a
theorem yv {p2 i:Nat} (hC:Cf.Ok) (l:xI Cf M n) (g:Hs G h (aE p2 0 [pt m 0 0]::aE i 0 n.enc::bU G Cf m M::L)) (j:TK G Cf m M L Q (M,[sL n.core (iS M.bZ.cE n.no).1 n.no],(iS M.bZ.cE n.no).2)):Dd 169 13 [] Q [(pt p2 0 0),(pt i 0 0)] h:=by
 have k:=l.bZ.len;have p:=hC.2.1;obtain⟨x,q,g⟩:=cY (g.front (bU G Cf m M));obtain⟨t,b,g⟩:=kE (g.front (fO Cf x.mb M.bZ));refine bW (bE g fun r h g=>am p2 g rfl (aB (aA (am m g rfl (aB (aA (aC (b:=x.mb) (o:=0) g rfl (aA (am i g rfl (ub (es:=M.bZ.cE) (by omega) l.bZ.own g fun h g=>?_))))))))));refine aI rfl (aI rfl (aA (am i g rfl (aN (c:=[I (iS M.bZ.cE n.no).1,I 0]) rfl (aA (am i g rfl (aN (c:=(sL n.core (iS M.bZ.cE n.no).1 n.no).enc) rfl (aN (c:=(sL n.core (iS M.bZ.cE n.no).1 n.no).enc) rfl (dK (W:=9) (n:=1) (c:=1) g rfl rfl rfl fun a h g=>?_)))))))));have g:=dO (g.cI (aE x.mb 0 [pt t 0 0,I Cf.aD,gA b]) (gP t M.bZ.cE) (iG b (fS M.bZ.runs)));have g:=bK (m:=m) (x:=x) M q g;have g:=No (g.front (dH 9 162 (some a) 1 (1,(sL n.core (iS M.bZ.cE n.no).1 n.no).enc)));refine j _ _ (sp []) h (px g.to) fun _ F=>?_;intro h L Q g j;exact rC rfl (cW (f:=220) (j _ _ g.tail))
theorem wj {q k p2 j i:Nat} {t:jP} (_:Cf.Ok) (p:n.enc[0+1]?=some (I i)) (r:(i:Int)<Cf.aD) (F:fM):aF3 G Cf m (sp [aE k 0 [pt q 0 0],aE p2 0 [pt m 0 0],aE j 0 n.enc,kU q Cf t]) (.func (.func 222) #[] #[pt k 0 0,pt p2 0 0,pt j 0 0]) (M.dS F) ((M.Dl i t).dS F):=by
 intro h L Q a u;have a:=a.Vg;obtain⟨x,g,a⟩:=cY (a.front (bU G Cf m (M.dS F)));have c:i<x.lq.length:=by have:=g.2.2;omega
 refine rC rfl (cW (f:=222) (bE a fun v h a=>am p2 a rfl (aB (aA (am m a rfl (aA (am j a p (am k a rfl (Pd a c fun h a=>u _ _ ?_)))))))));have a:=gV (R:=pA Cf) (l:=x.lq) (s:=M.cA) c a;have a:=Ep (R:=pA Cf) (l:=x.lq) (s:=M.cA) (i:=i) (q:=q) (t:=t) c a;have e:fH Cf x M.log.length=fH Cf {x with lq:=x.lq.set i q} M.log.length:=by unfold fH;rw[List.length_set]
 rw[e] at a;exact(bK (m:=m) (x:={x with lq:=x.lq.set i q}) ((M.Dl i t).dS F) ⟨g.1,g.2.1,by rw[List.length_set];exact g.2.2⟩ a).to
theorem ye {q k p2 j i:Nat} {t:jP} (_:Cf.Ok) (p:n.enc[0+1]?=some (I i)) (r:(i:Int)<Cf.aD) (F:fM):aF3 G Cf m (sp [aE k 0 [pt q 0 0],aE p2 0 [pt m 0 0],aE j 0 n.enc,kU q Cf t]) (.func (.func 224) #[] #[pt k 0 0,pt p2 0 0,pt j 0 0]) (M.dS F) ((M.Dl i t).dS F):=by
 intro h L Q a u;have a:=a.Vg;obtain⟨x,g,a⟩:=cY (a.front (bU G Cf m (M.dS F)));have c:i<x.lq.length:=by have:=g.2.2;omega
 refine rC rfl (cW (f:=224) (bE a fun v h a=>am p2 a rfl (aB (aA (am m a rfl (aA (am j a p (am k a rfl (Pd a c fun h a=>u _ _ ?_)))))))));have a:=gV (R:=pA Cf) (l:=x.lq) (s:=M.cA) c a;have a:=Ep (R:=pA Cf) (l:=x.lq) (s:=M.cA) (i:=i) (q:=q) (t:=t) c a;have e:fH Cf x M.log.length=fH Cf {x with lq:=x.lq.set i q} M.log.length:=by unfold fH;rw[List.length_set]
 rw[e] at a;exact(bK (m:=m) (x:={x with lq:=x.lq.set i q}) ((M.Dl i t).dS F) ⟨g.1,g.2.1,by rw[List.length_set];exact g.2.2⟩ a).to
theorem bf {p2 g:Nat} (hC:Cf.Ok) (B:xI Cf M n) (U:0<=n.d0/\n.d0<=1000000) (f:Hs G h (aE p2 0 [pt m 0 0]::aE g 0 n.enc::bU G Cf m M::L))
  (z:TK G Cf m M L Q (M.Dl n.core.toNat ((M.cA n.core.toNat).walked Cf n.no n.d0).1,if((M.cA n.core.toNat).walked Cf n.no n.d0).2.2.1 then [] else [dM 6 n.core ((M.cA n.core.toNat).walked Cf n.no n.d0).2.1],((M.cA n.core.toNat).walked Cf n.no n.d0).2.2.2)):Dd 169 16 [] Q [(pt p2 0 0),(pt g 0 0)] h:=by
 obtain⟨i,T⟩:=Int.eq_ofNat_of_zero_le B.core.1
 have y:(i:Int)<Cf.aD:=by have:=B.core.2;omega
 have k:=B.nC
 have v:=B.bI
 have A:n.enc[0+1]?=some (I i):=by show some (I n.core)=_;rw[T]
 rw[T,Int.toNat_natCast] at z k v
 obtain⟨x,J,f⟩:=cY (f.front (bU G Cf m M))
 have j:i<x.lq.length:=by have:=J.2.2;omega
 refine bW (bE f fun V h f=>am p2 f rfl (aB (aA (am m f rfl (aA (am g f A (Ga f j ?_)))))))
 have f:=gV (R:=pA Cf) (l:=x.lq) (s:=M.cA) j f
 refine Da (C:=Cf) (p:=x.lq.getD i 0) (s:=M.cA i) k f fun q h f=>kQ (r:=V) (i:=9) (n:=11) (D:=[]) f rfl rfl fun u h f=>ax (b:=u) f fun h f=>am u f rfl (aA (am g f rfl (aA (jJ (by decide) (by decide) (am g f rfl ?_)))))
 refine dt (C:=Cf) (p:=q) (s:=M.cA i) hC k v U f fun h f=>aI rfl (aI rfl (aI rfl (bX (eN (dG (fun E=>?_) (fun E=>?_))))))
 .rw[E,aKj rfl] at z;have f:=uI (Cf:=Cf) (l:=x.lq) (s:=M.cA) (i:=i) (t:=M.cA i) j f;rw[bT] at f;have f:=bK (m:=m) (x:=x) M J f;have f:=(f.fX (aE u 0 [pt q 0 0]) (aE p2 0 [pt m 0 0]) (aE g 0 n.enc) (kU q Cf ((M.cA i).walked Cf n.no n.d0).1)).El;exact z _ _ (sp [aE u 0 [pt q 0 0],aE p2 0 [pt m 0 0],aE g 0 n.enc,kU q Cf ((M.cA i).walked Cf n.no n.d0).1]) h (Gc f.to) fun _ F=>wj hC A y F
 .rw[E,aKi (by simp)] at z;have f:=mF (enc:=aH.enc) (e:=162) f;refine bW (aA (am g f A (aN (c:=(dM 6 i ((M.cA i).walked Cf n.no n.d0).2.1).enc) rfl (aN (c:=(dM 6 i ((M.cA i).walked Cf n.no n.d0).2.1).enc) rfl (dK (W:=9) (n:=1) (c:=1) f rfl rfl rfl fun a h f=>?_)))));have f:=nX (enc:=aH.enc) (x:=dM 6 i ((M.cA i).walked Cf n.no n.d0).2.1) f;refine kL (enc:=aH.enc) (e:=162) (l:=[]) (l2:=[dM 6 i ((M.cA i).walked Cf n.no n.d0).2.1]) (a:=none) (c:=0) (a2:=some a) (c2:=1) f (by simp) fun O S h f=>?_;have f:=uI (Cf:=Cf) (l:=x.lq) (s:=M.cA) (i:=i) (t:=M.cA i) j f;rw[bT] at f;have f:=bK (m:=m) (x:=x) M J f;have f:=(f.fX (aE u 0 [pt q 0 0]) (aE p2 0 [pt m 0 0]) (aE g 0 n.enc) (kU q Cf ((M.cA i).walked Cf n.no n.d0).1)).El;have f:=f.front (ls aH.enc 9 162 O S ([]++[dM 6 i ((M.cA i).walked Cf n.no n.d0).2.1]));unfold ls at f;have f:=H.Gd (l:=[dM 6 i ((M.cA i).walked Cf n.no n.d0).2.1]) rfl (by simp[eL,eI]) f;exact z (.slice O [dM 6 i ((M.cA i).walked Cf n.no n.d0).2.1].length S) _ (sp [aE u 0 [pt q 0 0],aE p2 0 [pt m 0 0],aE g 0 n.enc,kU q Cf ((M.cA i).walked Cf n.no n.d0).1]) h f.to fun _ F=>wj hC A y F
theorem xk {p2 g:Nat} (hC:Cf.Ok) (z:xI Cf M n) (f:Hs G h (aE p2 0 [pt m 0 0]::aE g 0 n.enc::bU G Cf m M::L))
  (B:TK G Cf m M L Q (M.Dl n.core.toNat ((M.cA n.core.toNat).drop Cf n.no).1,[dM 7 n.core n.no],((M.cA n.core.toNat).drop Cf n.no).2)):Dd 169 19 [] Q [(pt p2 0 0),(pt g 0 0)] h:=by
 obtain⟨i,A⟩:=Int.eq_ofNat_of_zero_le z.core.1
 have y:(i:Int)<Cf.aD:=by have:=z.core.2;omega
 have k:=z.nC
 have v:n.enc[0+1]?=some (I i):=by show some (I n.core)=_;rw[A]
 rw[A,Int.toNat_natCast] at B k
 obtain⟨x,E,f⟩:=cY (f.front (bU G Cf m M))
 have j:i<x.lq.length:=by have:=E.2.2;omega
 refine bW (bE f fun J h f=>am p2 f rfl (aB (aA (am m f rfl (aA (am g f v (Ga f j ?_)))))))
 have f:=gV (R:=pA Cf) (l:=x.lq) (s:=M.cA) j f
 refine Da (C:=Cf) (p:=x.lq.getD i 0) (s:=M.cA i) k f fun q h f=>kQ (r:=J) (i:=9) (n:=11) (D:=[]) f rfl rfl fun u h f=>ax (b:=u) f fun h f=>am u f rfl (aA (am g f rfl ?_))
 refine Yd (C:=Cf) (p:=q) (s:=M.cA i) k f fun _ h f=>aI rfl (aI rfl (aA (am g f v (aA (am g f rfl (aN (c:=(dM 7 i n.no).enc) rfl (aN (c:=(dM 7 i n.no).enc) rfl (dK (W:=9) (n:=1) (c:=1) f rfl rfl rfl fun a h f=>?_))))))))
 have f:=uI (Cf:=Cf) (l:=x.lq) (s:=M.cA) (i:=i) (t:=M.cA i) j f
 rw[bT] at f
 have f:=bK (m:=m) (x:=x) M E f
 have f:=(f.fX (aE u 0 [pt q 0 0]) (aE p2 0 [pt m 0 0]) (aE g 0 n.enc) (kU q Cf ((M.cA i).drop Cf n.no).1)).El
 have f:=No (f.front (dH 9 162 (some a) 1 (1,(dM 7 i n.no).enc)))
 exact B _ _ (sp [aE u 0 [pt q 0 0],aE p2 0 [pt m 0 0],aE g 0 n.enc,kU q Cf ((M.cA i).drop Cf n.no).1]) h f.to fun _ F=>ye hC v y F
theorem Xd {p2 c:Nat} (hC:Cf.Ok) (hG:Gb G) (l:xI Cf M n) (a:Hs G h (aE p2 0 [pt m 0 0]::aE c 0 n.enc::bU G Cf m M::L))
  (i:TK G Cf m M L Q (if(M.bZ.dropped Cf.aD n.no n.core).2.1 then(M.nE (M.bZ.dropped Cf.aD n.no n.core).1).pV (xV Cf M.home n.no) else M.nE (M.bZ.dropped Cf.aD n.no n.core).1,[],(M.bZ.dropped Cf.aD n.no n.core).2.2)):Dd 169 21 [] Q [(pt p2 0 0),(pt c 0 0)] h:=by
 obtain⟨x,t,a⟩:=cY (a.front (bU G Cf m M))
 refine bW (am p2 a rfl (aB (aA (am m a rfl (Kg (C:=Cf) (m:=M.bZ) hC l.bZ a fun q h a=>bM a fun r h a=>ax (b:=r) a fun h a=>am r a rfl (aA (am c a rfl (aA (am c a rfl ?_)))))))))
 refine Mx (C:=Cf) (m:=M.bZ) (p:=q) hC l.bZ a fun h a=>aI rfl (aI rfl (bM a fun j h a=>ax (b:=j) a fun h a=>?_))
 have a:=bK (m:=m) (x:=x) M t a
 have a:=(a.cC (aE j 0 [.bool (M.bZ.dropped Cf.aD n.no n.core).2.1]) (aE c 0 n.enc)).yS
 have a:=(a.fX (aE r 0 [pt q 0 0]) (aE p2 0 [pt m 0 0]) (sp [aE j 0 [.bool (M.bZ.dropped Cf.aD n.no n.core).2.1],aE c 0 n.enc]) (fO Cf q (M.bZ.dropped Cf.aD n.no n.core).1)).El
 refine i _ _ (sp [aE r 0 [pt q 0 0],aE p2 0 [pt m 0 0],sp [aE j 0 [.bool (M.bZ.dropped Cf.aD n.no n.core).2.1],aE c 0 n.enc],fO Cf q (M.bZ.dropped Cf.aD n.no n.core).1]) h (Gc a.to) fun _ F=>?_
 intro h L Q a i
 have a:=a.Vg
 have a:=(a.front (sp [aE j 0 [.bool (M.bZ.dropped Cf.aD n.no n.core).2.1],aE c 0 n.enc])).zH
 obtain⟨x,t,a⟩:=cY (a.front (bU G Cf m (M.dS F)))
 refine rC rfl (cW (f:=226) (am p2 a rfl (am r a rfl (aB (aA (ay (b:=m) (o:=0) a fun h a=>am j a rfl (dG (fun s=>?_) (fun s=>?_))))))))
 .have y:=Tb s;obtain⟨g,k,z,_⟩:=Pe l.bZ hC y;have A:=l.bZ.len;rw[aKj s] at i;have e:dS (fH Cf x M.log.length) (0+11) [pt q 0 0]=fH Cf {x with mb:=q} M.log.length:=rfl;rw[e] at a;have u:n.enc[0+8]?=some (I g):=by show some (I n.no)=_;rw[k]
  refine am p2 a rfl (aA (am c a u ?_))
  have a:=bK (m:=m) (x:={x with mb:=q}) ((M.nE (M.bZ.dropped Cf.aD n.no n.core).1).dS F) t a
  rw[k] at i a
  exact jx (Cf:=Cf) (M:=(M.nE (M.bZ.dropped Cf.aD g n.core).1).dS F) hC hG (by omega) l.home a fun v h a=>i _ _ a.to
 .rw[aKi (by rw[s];simp)] at i;have e:dS (fH Cf x M.log.length) (0+11) [pt q 0 0]=fH Cf {x with mb:=q} M.log.length:=rfl;rw[e] at a;exact i _ _ (bK (m:=m) (x:={x with mb:=q}) ((M.nE (M.bZ.dropped Cf.aD n.no n.core).1).dS F) t a).to
end
section
set_option maxRecDepth 100000
variable {G:Bg} {h:AH} {L L':List HP} {Q:Value->AH->Prop} {Cf:bN} {m:Nat} {M:cU} {n:aH}
theorem ur (hC:Cf.Ok) (hG:Gb G) (i:xI Cf M n) (c:Hs G h L) [E:Has (bU G Cf m) L M L'] (a:TK G Cf m M L' Q (M.fG Cf n)):Cl Pr K 169 [pt m 0 0,.agg ⟨n.enc⟩] h Q:=by
 refine cW (dF (E.of c) fun t h c=>dF c fun l h c=>aA (am l c rfl ?_));have c:Hs G h (aE t 0 [pt m 0 0]::aE l 0 n.enc::bU G Cf m M::L'):=c.to;have home:(n.kind=1\/n.kind=2\/n.kind=3\/n.kind=4\/n.kind=5)->Dd 169 3 [] Q [(pt t 0 0),(pt l 0 0)] h:=fun g=>by
  unfold cU.fG at a;rw[aKj g] at a;exact yh hC hG i c a
 have cache:¬(n.kind=1\/n.kind=2\/n.kind=3\/n.kind=4\/n.kind=5)->(n.kind=8\/n.kind=9\/n.kind=10\/n.kind=11)->Dd 169 9 [] Q [(pt t 0 0),(pt l 0 0)] h:=fun B g=>by
  unfold cU.fG at a;rw[aKi B,aKj g] at a;exact qi hC hG i c a
 refine bJ (aZ (fun u=>bW (bS u (home (by omega)))) (fun u=>bW ?_));refine bJ (aZ (fun v=>bW (bS v (home (by omega)))) (fun v=>bW ?_));refine bJ (aZ (fun x=>bW (bS x (home (by omega)))) (fun x=>bW ?_));refine bJ (aZ (fun y=>bW (bS y (home (by omega)))) (fun y=>bW ?_));refine bJ (aZ (fun D=>home (by omega)) (fun D=>bW ?_));refine bJ (aZ (fun z=>bW (bS z (cache (by omega) (by omega)))) (fun z=>bW ?_));refine bJ (aZ (fun A=>bW (bS A (cache (by omega) (by omega)))) (fun A=>bW ?_));refine bJ (aZ (fun k=>bW (bS k (cache (by omega) (by omega)))) (fun k=>bW ?_));refine bJ (aZ (fun q=>cache (by omega) (by omega)) (fun q=>bW ?_));unfold cU.fG at a;rw[aab,aab] at a;refine bJ (aZ (fun r=>?_) (fun r=>bW ?_));rw[aKj r] at a;exact yv hC i c a;rw[aKi r] at a;refine bJ (aZ (fun f=>?_) (fun f=>bW ?_));rw[aKj f] at a;exact bf hC i (i.word f) c a;rw[aKi f] at a;refine bJ (aZ (fun j=>?_) (fun j=>bW ?_));rw[aKj j] at a;exact xk hC i c a;rw[aKi j] at a;refine bJ (aZ (fun s=>?_) (fun s=>?_));rw[aKj s] at a;exact Xd hC hG i c a;rw[aKi s] at a;have c:Hs G h (bU G Cf m M::L'):=c.to;exact a _ _ (sp []) h (px (Gc c)) fun p=>absurd p (by show ¬(15:Int)=0;omega)
theorem gy (_:Cf.Ok):(M.fG Cf n).2.1.length<=100:=by
 unfold cU.fG;split;unfold fA;split;simp;split;unfold mT.take;split;split<;>simp;split;split;simp;unfold mT.nI;dsimp only;have a:= @Fl;have b:= @uJ;grind [Row.rest];simp;simp
 .split;have:=ug (C:=Cf) (core:=n.core) (s:=M.cG n.core.toNat) (nt:=n);dsimp only;omega
  .repeat' split
   all_goals simp
   all_goals split<;>simp
theorem Tm {d:Do} (hC:Cf.Ok) (hG:Gb G) (A:lh Cf M.iC) (E:∀n,(M.iC.take Cf d.a d.b d.c).2.2=0->(M.iC.take Cf d.a d.b d.c).2.1=n->xI Cf M n) (j:lh Cf (M.iC.take Cf d.a d.b d.c).1) (g:Hs G h L) [O:Has (bU G Cf m) L M L'] (i:∀z,Hs G z (bU G Cf m (M.sK Cf d.a d.b d.c).1::L')->Q (I (M.sK Cf d.a d.b d.c).2) z):Cl Pr K 118 [pt m 0 0,.agg ⟨d.enc⟩] h Q:=by
 unfold cU.sK at i;refine cW (dF (cs:=d.enc) (O.of g) fun y h g=>?_);obtain⟨x,r,g⟩:=cY (g.front (bU G Cf m M));refine aB (aA (am m g rfl (Xa (C:=Cf) (F:=M.iC) hC (A.S1 hC) g fun q h g=>?_)));refine aA (am y g rfl (aA (am y g rfl (aA (am y g rfl ?_)))));refine V5 (C:=Cf) (f:=q) (F:=M.iC) hC (A.S1 hC) g fun h g=>aI rfl (aI rfl (bM g fun D h g=>ax (b:=D) g fun h g=>bA (aZ (fun p=>?_) (fun p=>?_))));rw[aKj p] at i;exact i _ (bK (m:=m) (x:=x) M r g).to;rw[aKi p] at i;have B:=E _ (by omega) rfl;generalize M.iC.take Cf d.a d.b d.c=tt at i g p B j;have g:=bK (m:=m) (x:=x) M r g;refine bW (an D g (l:=tt.2.1.enc) rfl rfl (ur (Cf:=Cf) (M:=M) (n:=tt.2.1) hC hG B g ?_));intro v R Z h g k;refine aI rfl (aI rfl (aI rfl (bA (aZ (fun s=>?_) (fun s=>?_)))));dsimp only at i;rw[aKj s] at i;exact i _ g.to;dsimp only at i;rw[aKi s] at i;obtain⟨a,c,J,u⟩:=H.q5 g;subst J;have g:Hs G h (hJ a c (M.fG Cf tt.2.1).2.1::_):=u;refine bW ?_;refine Du (C:=Cf) (f:=q) (F:=tt.1) (l:=(M.fG Cf tt.2.1).2.1) (a:=a) (c:=c) hC (j.S1 hC) (gy hC) hG.kin hG.lim g fun h g=>bA (aZ (fun t=>?_) (fun t=>?_));rw[aKj t] at i;exact i _ g.to;rw[aKi t] at i;obtain⟨x,r,g⟩:=cY (g.front (bU G Cf m M));refine bW (aB (aA (ay (b:=m) (o:=0) g fun h g=>?_)));have e:dS (fH Cf x M.log.length) (0+12) [pt q 0 0]=fH Cf {x with fb:=q} M.log.length:=rfl;rw[e] at g;have g:=bK (m:=m) (x:={x with fb:=q}) (M.dS (tt.1.send Cf (M.fG Cf tt.2.1).2.1).1) r g;exact k (by omega) _ h _ _ (g.cC Z (bU G Cf m (M.dS (tt.1.send Cf (M.fG Cf tt.2.1).2.1).1))) fun v h g=>i _ g.to
end
section
set_option maxRecDepth 100000
variable {G:Bg} {h:AH} {L L':List HP} {Q:Value->AH->Prop} {Cf:bN} {m:Nat} {M:cU}
theorem ju {d:Do} (hC:Cf.Ok) (hG:Gb G) (E:iA Cf M.bZ) (A:zC Cf M.home (2^30 - 4)) (D:lh Cf M.iC) (g:Hs G h L) [O:Has (bU G Cf m) L M L'] (i:∀z,Hs G z (bU G Cf m (M.begin Cf d.a).1::L')->Q (I (M.begin Cf d.a).2) z):Cl Pr K 119 [pt m 0 0,.agg ⟨d.enc⟩] h Q:=by
 unfold cU.begin at i;refine cW (dF (cs:=d.enc) (O.of g) fun R h g=>?_);obtain⟨x,u,g⟩:=cY (g.front (bU G Cf m M));refine aB (aA (am m g rfl (H.J1 (C:=Cf) hC (Fp A (by omega)) g fun q h g=>bE g fun S h g=>aA (am R g rfl ?_))));refine aB (aA (kS (b:=m) (o:=0) g (by decide) (l:=Cf.enc) rfl rfl (aB (aA (am m g rfl (aN (c:=Cf.enc++[pt x.mb 0 0]) rfl ?_))))));have g:=g.cC (H.gG G q Cf M.home) (fO Cf x.mb M.bZ);refine H.ma (C:=Cf) (hb:=q) (H:=M.home) hC hG.lim (Q7 (p:=x.mb) hC E hG.lim) A g (List.Perm.refl _) fun v h g=>aI rfl (aI rfl ?_);have B:(fun w=>I1 Cf M.bZ w d.a)=M.E4 Cf d.a:=rfl;rw[B] at g ⊢;have t:=P0 (C:=Cf) (H:=M.home) (l:=d.a) (j:=M.E4 Cf d.a);generalize iB Cf M.home d.a (M.E4 Cf d.a)=r at i g t ⊢;refine bA (aZ (fun s=>?_) (fun s=>?_));rw[aKj s] at i;exact i _ (bK (m:=m) (x:=x) M u g).to;dsimp only at i;rw[aKi s] at i;obtain⟨a,c,J,y⟩:=H.q5 g;subst J;have g:Hs G h (hJ a c r.2.1::_):=y;refine bW (aB (aA (am m g rfl ?_)));refine Du (C:=Cf) (f:=x.fb) (F:=M.iC) (l:=r.2.1) (a:=a) (c:=c) hC (D.S1 hC) (by omega) hG.kin hG.lim g fun h g=>bA (aZ (fun k=>?_) (fun k=>?_));rw[aKj k] at i;rw[Ee k] at g;exact i _ (bK (m:=m) (x:=x) M u g).to;rw[aKi k] at i;refine bW (aB (aA (ay (b:=m) (o:=0) g fun h g=>i _ ?_)));have e:dS (fH Cf x M.log.length) (0+10) [pt q 0 0]=fH Cf {x with hb:=q} M.log.length:=rfl;rw[e] at g;exact(bK (m:=m) (x:={x with hb:=q}) ((M.dS (fM.send Cf M.iC r.2.1).1).pV r.1) u g).to
abbrev sdX (G:Bg) (Cf:bN) (m p2 a:Nat) (M:cU) (b:Bool) (e:Nat->Value) (d l:Nat) (st:LoopState×Option Code) (pr:Prop):HP:=sp [tX pr,gF Pr 91 (gI 218) 29 e d l st,sp [aE p2 0 [pt m 0 0],aE a 0 [.bool b]],bU G Cf m M]
theorem fu {g:Nat} (hC:Cf.Ok) (hG:Gb G) (T:(g:Int)<Cf.aQ) (U:zC Cf M.home (2^30)) (a:Hs G h L) [Y:Has (bU G Cf m) L M L'] (k:∀A,Hs G A (bU G Cf m M::L')->Q (.bool (M.hZ Cf g)) A):Cl Pr K 91 [pt m 0 0,I g] h Q:=by
 refine cW (dF (Y.of a) fun f h a=>?_);obtain⟨x,t,a⟩:=cY (a.front (bU G Cf m M));refine am f a rfl (aB (aA (am m a rfl (Kk (C:=Cf) (m:=M.bZ) a fun h a=>bJ (bM a fun c h a=>ax (b:=c) a fun h a=>?_)))));generalize R:decide (M.bZ.phase g=2)=b at a;refine am f a rfl (aB (aA (kS (b:=m) (o:=0) a (by decide) (l:=Cf.enc) rfl rfl (tK (C:=Cf) a fun J O h a=>?_))));have a:=bK (m:=m) (x:=x) M t a;refine iR a fun d h a=>?_;intro e S;refine jI a fun l h a=>nF rfl ?_;have a:Hs G h (sp [aE J 0 Cf.enc,aE O 0 [I g]]::sdX G Cf m f c M b e d l (.ready,none) (∀l∈([]:List Nat),¬fC Cf M.home l>0)::mk d ()::L'):=by
  have a:=(a.cC (aE f 0 [pt m 0 0]) (aE c 0 [.bool b])).yS;have a:=a.cI (gF Pr 91 (gI 218) 29 e d l (.ready,none)) (sp [aE f 0 [pt m 0 0],aE c 0 [.bool b]]) (bU G Cf m M);have a:=Hs.El (Hs.U5 (p:=∀l∈([]:List Nat),¬fC Cf M.home l>0) (by simp) a);exact a.to
 refine(vU (C:=Cf) hC T (p:=J) (q:=O) hG.lim).fold (X:=fun done=>sdX G Cf m f c M b e d l (.ready,none) (∀l∈done,¬fC Cf M.home l>0)) (Z:=fun _ y=>sdX G Cf m f c M false e d l (.done,some (.exit 0)) (fC Cf M.home y>0/\(y=g*2\/y=g*2+1))) a ?_ ?_ ?_
 .intro done y h N E a;obtain⟨i,a⟩:=gH a;have a:=a.B5;have V:y=g*2\/y=g*2+1:=by
   obtain⟨ys,u⟩:=E;have:y∈[g*2,g*2+1]:=by rw[<-u];simp
   simpa using this
  have a:=(a.front (sp [aE f 0 [pt m 0 0],aE c 0 [.bool b]])).zH;obtain⟨x,t,a⟩:=cY (a.front (bU G Cf m M));refine rW (oW a) S (fU a fun h a=>am f a rfl (aB (aA (am m a rfl (H.P9 (C:=Cf) (H:=M.home) U a fun h a=>?_)))));have a:=bK (m:=m) (x:=x) M t a;refine mR (aZ (fun r=>?_) (fun r=>?_));refine ax (b:=c) a fun h a=>gM a fun h a=> .inr ⟨rfl,?_⟩;have a:=(a.cC (aE f 0 [pt m 0 0]) (aE c 0 [.bool false])).yS;have a:=a.cI (gF Pr 91 (gI 218) 29 e d l (.done,some (.exit 0))) (sp [aE f 0 [pt m 0 0],aE c 0 [.bool false]]) (bU G Cf m M);exact(Hs.El (Hs.U5 (p:=fC Cf M.home y>0/\(y=g*2\/y=g*2+1)) ⟨r,V⟩ a)).to
  .refine gM a fun h a=> .inl ⟨rfl,?_⟩;have a:=(a.cC (aE f 0 [pt m 0 0]) (aE c 0 [.bool b])).yS;have a:=a.cI (gF Pr 91 (gI 218) 29 e d l (.ready,none)) (sp [aE f 0 [pt m 0 0],aE c 0 [.bool b]]) (bU G Cf m M);refine(Hs.El (Hs.U5 (p:=∀l∈done++[y],¬fC Cf M.home l>0) ?_ a)).to;intro z j;rcases List.mem_append.1 j with j|j;exact i z j;rw[List.mem_singleton.1 j];exact r
 intro v h a;obtain⟨i,a⟩:=gH (a.front (sdX G Cf m f c M b e d l (.ready,none) (∀l∈[g*2,g*2+1],¬fC Cf M.home l>0)));have a:=a.B5;have s:M.hZ Cf g=b:=by
  have B:=i (g*2) (by simp);have D:=i (g*2+1) (by simp);rw[<-R];unfold cU.hZ;simp only[Int.natCast_mul,Int.natCast_add] at B D;rw[decide_eq_false (p:=fC Cf M.home (g*2)>0) B,decide_eq_false (p:=fC Cf M.home (g*2+1)>0) D];simp
 rw[s] at k;have a:=(a.front (sp [aE f 0 [pt m 0 0],aE c 0 [.bool b]])).zH;exact jL a fun h a=>jK (am c a rfl (kG a fun h a=>iU (k _ a.to)))
 .intro done y v h E a;obtain⟨i,a⟩:=gH (a.front (sdX G Cf m f c M false e d l (.done,some (.exit 0)) (fC Cf M.home y>0/\(y=g*2\/y=g*2+1))));have a:=a.B5;have s:M.hZ Cf g=false:=by
   unfold cU.hZ;rcases i.2 with e|e;have:=i.1;rw[e] at this;simp only[Int.natCast_mul] at this;rw[decide_eq_true (p:=fC Cf M.home (g*2)>0) this];simp;have:=i.1;rw[e] at this;simp only[Int.natCast_mul,Int.natCast_add] at this;rw[decide_eq_true (p:=fC Cf M.home (g*2+1)>0) this];simp
  rw[s] at k;have a:=(a.front (sp [aE f 0 [pt m 0 0],aE c 0 [.bool false]])).zH;exact F0 a fun h a=>Q3 rfl (am c a rfl (kG a fun h a=>iU (k _ a.to)))
end
section
theorem Wu {H:lT} {g:Nat}:jW H g=fun i=>((H i).1,lC (fun i=>(H i).2) g i):=by
 funext i;unfold jW lC aX;by_cases a:i=g*2+1;subst a;simp;by_cases b:i=g*2;subst b;simp;rw[aab,aKi a,aKi b]
theorem On {m:Mon} {g:Int} {u:Mc.jG} (h:(m.over g).2.1=some u):m.run g=some u/\(m.over g).2.2=0/\m.has g:=by
 unfold Mon.over at h ⊢;by_cases a:m.has g;rw[aKi (by simpa using a)] at h ⊢;cases hr:m.run g with
 |none=>rw[hr] at h;cases h
 |some r=>
  rw[hr] at h;dsimp only at h ⊢;split at h;cases h;rename_i b;cases h;rw[aKi b];exact⟨rfl,rfl,a⟩
 rw[aKj a] at h;cases h
theorem Oy {m:Mon} {g:Int} (h:(m.over g).2.1=none):(m.over g).1=m/\(m.over g).2.2≠0:=by
 unfold Mon.over at h ⊢;split;exact⟨rfl,by dsimp only;omega⟩;rename_i a;rw[aKi a] at h;split;exact⟨rfl,by dsimp only;omega⟩;rename_i r c;rw[c] at h;dsimp only at h;split;exact⟨rfl,by dsimp only;omega⟩;rename_i b;rw[aKi b] at h;cases h
set_option maxRecDepth 100000
variable {G:Bg} {h:AH} {L L':List HP} {Q:Value->AH->Prop} {Cf:bN} {m:Nat} {M:cU}
theorem X2 {d:Do} (hC:Cf.Ok) (hG:Gb G) (V:iA Cf M.bZ) (Z:zC Cf M.home (2^30)) (v:∀i:Nat,(i:Int)<Cf.aD->(M.bC i).Ok) (q:M.log.length<=2^30) (f:Hs G h L) [mm:Has (bU G Cf m) L M L'] (j:∀R,Hs G R (bU G Cf m (M.finish Cf d.a).1::L')->Q (I (M.finish Cf d.a).2) R):Cl Pr K 120 [pt m 0 0,.agg ⟨d.enc⟩] h Q:=by
 unfold cU.finish at j;refine cW (dF (cs:=d.enc) (mm.of f) fun z h f=>bE f fun rr h f=>?_);obtain⟨x,s,f⟩:=cY (f.front (bU G Cf m M));refine aA (am z f rfl (aS (aZ (fun S=>?_) (fun S=>?_))));rw[aac] at j;exact j _ (bK (m:=m) (x:=x) M s f).to;refine aA (am z f rfl (aB (aA (aA (am m f rfl (dR (aZ (fun T=>?_) (fun T=>?_))))))));rw[aac] at j;exact j _ (bK (m:=m) (x:=x) M s f).to;rw[aab] at j;obtain⟨w,a,b,c⟩:=d;dsimp only at S T j;obtain⟨g,rfl⟩:=Int.eq_ofNat_of_zero_le (show 0<=a by omega);have f:=bK (m:=m) (x:=x) M s f;refine bW (aA (am z f rfl (fu (Cf:=Cf) (M:=M) hC hG (by omega) Z f fun h f=>bX (eN (dG (fun B=>?_) (fun B=>?_))))));rotate_left;rw[aKj B] at j;exact j _ f.to;rw[aKi (by rw[B];simp)] at j;obtain⟨x,s,f⟩:=cY (f.front (bU G Cf m M));refine bW (bE f fun r2 h f=>aB (aA (am m f rfl (aA (am z f rfl ?_)))));refine W7 (C:=Cf) (m:=M.bZ) (p:=x.mb) hC V f fun h f=>aI rfl (aI rfl (kQ (r:=r2) (i:=10) (n:=13) (D:=[]) f rfl rfl fun y h f=>ax (b:=y) f fun h f=>cZ (aI rfl jA) (bA (aZ (fun E=>?_) (fun E=>?_)))));cases hu:(M.bZ.over (g:Int)).2.1 with
 |some u=>exact absurd (On hu).2.1 E
 |none=>
  rw[hu] at j;dsimp only at j;rw[(Oy hu).1] at f;exact j _ (bK (m:=m) (x:=x) M s f).to
 cases hu:(M.bZ.over (g:Int)).2.1 with
 |none=>exact absurd (Oy hu).2 E
 |some u=>
 obtain⟨u1,_,u2⟩:=On hu;obtain⟨o1,X,o3,o4,o5⟩:=V.run g u (u6 u1);rw[hu] at j f;dsimp only at j;simp only[Option.getD_some] at f;obtain⟨i,U⟩:=Int.eq_ofNat_of_zero_le o4.1;have l:(i:Int)<Cf.aD:=by omega
 have O:(nS u)[0+0+0]?=some (I i):=by show some (I u.core)=_;rw[U]
 have Y:(nS u)[0+0+3]?=some (I g):=by show some (I u.bI)=_;rw[X]
 rw[show u.core.toNat=i by rw[U];rfl,X] at j;refine bW (aA (am y f rfl (dG (fun J=>?_) (fun J=>?_))));rw[aKj J] at j;obtain⟨t,b,o,k,f⟩:=H.pT (f.front (H.gG G x.hb Cf M.home));refine bW (bE f fun r3 h f=>aB (aA (am m f rfl (aB (aA (aC (b:=x.hb) (o:=0) f rfl (aA (aA (am y f Y ?_)))))))));refine A.vy (C:=Cf) (mb:=t) (g:=g) (mem:=fun i=>(M.home i).2) hC hG.lim f (by omega) fun _ h f=>aA (aA (am y f O ?_));have f:=H.qO (H:=jW M.home g) (hb:=x.hb) (C:=Cf) (mb:=t) (b:=b) (o:=o) (cap:=k) (by rw[Wu];exact f.fX (aE x.hb 0 (H.mH t Cf b o k)) (eW G Cf.lines t Cf (lC (fun i=>(M.home i).2) g)) (hole G 25 222 (some ⟨b,o,none⟩) k Cf.lines b o) (dE Cf.lines fun i=>H.eF b (o+i*25) (M.home i).1));have f:=bK (m:=m) (x:=x) ((M.nE (M.bZ.over g).1).pV (jW M.home g)) s f;exact nW (Cf:=Cf) (M:=(M.nE (M.bZ.over g).1).pV (jW M.home g)) l (v i l) q f fun h f=>j _ f.to;rw[aKi (by rw[J];simp)] at j;have f:=bK (m:=m) (x:=x) (M.nE (M.bZ.over g).1) s f;exact aA (aA (am y f O (nW (Cf:=Cf) (M:=M.nE (M.bZ.over g).1) l (v i l) q f fun h f=>j _ f.to)))
end
section
def Cx:List Value:=[.func (.func 117) #[] #[],.func (.func 118) #[] #[],.func (.func 119) #[] #[],.func (.func 120) #[] #[]]
set_option maxRecDepth 100000
variable {G:Bg} {h:AH} {L L':List HP} {Q:Value->AH->Prop} {Cf:bN} {m N:Nat} {M:cU}
theorem rh (a:Hs G h L) (g:∀f,Hs G f L->Q (.agg ⟨Cx⟩) f):Cl Pr K 70 [] h Q:=
 cW (bM a fun p h a=>aN (c:=Cx) rfl (ax (b:=p) a fun h a=>an p a (l:=Cx) rfl rfl (g _ a.tail)))
theorem aA0 {d:Do} {f:Value} (hC:Cf.Ok) (hG:Gb G) (a:dU Cf N M) (j:N<=2^29) (o:0<=d.nN/\d.nN<=3) (k:Cx[d.nN.toNat]?=some f) (c:Hs G h L) [s:Has (bU G Cf m) L M L'] (b:∀g,Hs G g (bU G Cf m (M.Dp Cf d).1::L')->Q (I (M.Dp Cf d).2) g):zB Pr K f [pt m 0 0,.agg ⟨d.enc⟩] h Q:=by
 unfold cU.Dp at b;have o:d.nN=0\/d.nN=1\/d.nN=2\/d.nN=3:=by omega
 have l:=a.log;rcases o with e|e|e|e;all_goals
  rw[e] at k
  cases k
 rw[aKj e] at b;exact rC rfl (qd hC hG (fun i q=>a.step hC j q) c b);rw[aab,aKj e] at b;exact rC rfl (Tm hC hG a.iC.len (fun n p r=>by rw[<-r];exact a.take hC j (Ku a.iC p).1) (T5 a.iC).len c b);rw[aab,aab,aKj e] at b;exact rC rfl (ju hC hG a.bZ (a.home.h (by omega)) a.iC.len c b);rw[aab,aab,aab,aKj e] at b;exact rC rfl (X2 hC hG a.bZ (a.home.h (by omega)) a.E9 (by omega) c b)
theorem mi {l:List Do} {i:Nat} {d:Do} (h:l[i]?=some d):(l.map Do.enc)[i]?=some d.enc:=by rw[List.getElem?_map,h];rfl
theorem aBw {l:List Do} {e:TypeId} {v:Value} (hC:Cf.Ok) (hG:Gb G) (s:dU Cf N M) (B:N+2*l.length<=2^29) (g:Hs G h (Al G 4 e v (l.map Do.enc)::bU G Cf m M::L)) (j:∀r,Hs G r (Al G 4 e v (l.map Do.enc)::bU G Cf m (M.tI Cf l 0).1::L)->Q (.tuple ⟨[I (M.tI Cf l 0).2.1,I (M.tI Cf l 0).2.2]⟩) r):Cl Pr K 22 [pt m 0 0,v] h Q:=by
 obtain⟨a,c,E⟩:=wF g;rw[List.length_map] at E;have q:∀{k:Value->Prop},k (I l.length)->bG (lH v) k:=fun j=>by rw[E];exact bP j
 refine cW (dD (bV (bW (rh g fun h g=>bM g fun p h g=>ax (b:=p) g fun h g=>q ?_))));have loop:∀(f i N:Nat) (M:cU) (h:AH),i+f=l.length->dU Cf N M->N+2*f<=2^29->(∀r,Hs G r (Al G 4 e v (l.map Do.enc)::bU G Cf m (M.tI Cf (l.drop i) i).1::L)->Q (.tuple ⟨[I (M.tI Cf (l.drop i) i).2.1,I (M.tI Cf (l.drop i) i).2.2]⟩) r)->
   Hs G h (Al G 4 e v (l.map Do.enc)::aE p 0 Cx::bU G Cf m M::L)->Dd 22 2 [] Q [(pt m 0 0),v,(pt p 0 0),v,(I l.length),(I i)] h:=by
  intro f
  induction f with
  |zero=>
   intro i N M h S s B j g
   rw[List.drop_of_length_le (by omega)] at j
   unfold cU.tI at j
   have A:i=l.length:=by omega
   subst A
   exact bW (aS (aaa (q (j _ g.to))))
  |succ f T=>
   intro i N M h S s B j g
   obtain⟨d,R,z⟩:=jY (l:=l) (i:=i) (by omega)
   rw[z] at j
   unfold cU.tI at j
   refine bW (aS (aae (bW (zr g (by decide) (mi R) (bM g fun u h g=>ax (b:=u) g fun h g=>aA (am u g rfl (aS (aZ (fun J=>?_) (fun J=>?_)))))))))
   .have x:M.Dp Cf d=(M,1):=by unfold cU.Dp;rw[aab,aab,aab,aab]
    rw[x,aKj (show(M,(1:Int)).2≠0 by show(1:Int)≠0;omega)] at j
    exact j _ g.to
   refine aA (am u g rfl (mR (aZ (fun O=>?_) (fun O=>?_))))
   .have x:M.Dp Cf d=(M,1):=by unfold cU.Dp;rw[aab,aab,aab,aab]
    rw[x,aKj (show(M,(1:Int)).2≠0 by show(1:Int)≠0;omega)] at j
    exact j _ g.to
   have t:d.nN.toNat<4:=by omega
   have D:Cx[d.nN.toNat]?=some (Cx[d.nN.toNat]'t):=List.getElem?_eq_getElem t
   refine bW (bE g fun U h g=>aA (am u g rfl (jJ (by omega) (by omega) (am p g (by simpa using D) (an u g (l:=d.enc) rfl rfl ?_)))))
   refine aA0 hC hG s (by omega) (by omega) D g fun h g=>bA (aZ (fun y=>?_) (fun y=>?_))
   .rw[aKj y] at j;exact j _ g.to
   .rw[aKi y] at j;refine bW (aad ?_);exact T (i+1) (N+2) _ h (by omega) (aBl s hC) (by omega) j g.to
 exact loop l.length 0 N M h (by omega) s (by omega) (by simpa using j) g.to
end
end Go.Proofs.YtmhapehobfnoiaaGreatDoor
namespace Go.Proofs.YtmhapehobfnoiaaGreatDoor.A
open Go Go.Ab Go.Hm Go.At Go.Is
section
set_option maxRecDepth 100000
variable {G:Bg} {h:AH} {L L':List HP} {Q:Value->AH->Prop}
abbrev zS:List Value:=[I 0,I 0,I 0,I 0,I 0,I 0,.bool false,.slice none 0 0]
theorem Vl {B p b o cap E c mb:Nat} {a:Option Addr} {C:bN} {pv wv:Value} {y:List Value} {ps:List (List Ins)} {ws:List Int} (hB:B<=4) (Z:ps.length=B) (β:ws.length=B) (X:∀p∈ps,p.length<=32)
  (hv:y.length=ps.length) (V:uA G 1 pv (y.map fun x=>[x]).length (fun i=>(y.map fun x=>[x]).getD i [])) (O:∀(i:Nat) (v:Value) (p:List Ins),y[i]?=some v->ps[i]?=some p->T2 G v p) (hw:Hh G wv ws)
  (T:∀D,Hs G D (hdA p C (.slice (some ⟨b,o,none⟩) B cap) a E c mb::dE B (fun i=>yT b (o+i*8) (tU (ps.getD i []) (ws.getD i 0)))::L)->Q (.tuple ⟨[pt p 0 0,I 0]⟩) D):
  ∀(r i:Nat) (h:AH),i+r=B->Hs G h (hdA p C (.slice (some ⟨b,o,none⟩) B cap) a E c mb::dE B (fun j=>if j<i then yT b (o+j*8) (tU (ps.getD j []) (ws.getD j 0)) else aE b (o+j*8) zS)::L)->
  Dd 12 13 [] Q [pv,wv,(pt p 0 0),(I B),(I i)] h:=by
 intro r
 induction r with
 |zero=>
  intro i h k f
  obtain rfl:i=B:=by omega
  refine bW (aS (aaa (T _ ?_)))
  exact(sV (g:=fun j=>yT b (o+j*8) (tU (ps.getD j []) (ws.getD j 0))) (fun j S=>by rw[aKj S]) f.lU).lU
 |succ r ih=>
  intro i h R f
  have k:i<B:=by omega
  obtain⟨pp,q,_⟩:=mB (l:=ps) (i:=i) (by omega)
  obtain⟨v,t,_⟩:=mB (l:=y) (i:=i) (by omega)
  obtain⟨w,u,_⟩:=mB (l:=ws) (i:=i) (by omega)
  have Y:pp.length<=32:=X pp (List.mem_of_getElem? q)
  have f:=(f.front (dE B fun j=>if j<i then yT b (o+j*8) (tU (ps.getD j []) (ws.getD j 0)) else aE b (o+j*8) zS)).kO i k
  simp only[Nat.lt_irrefl,if_false] at f
  refine bW (aS (aae (bW (aB (aA (am p f rfl (dN k ?_)))))))
  refine yO (Ah (e:=3) (by simp) V f) (x:=[v]) (by simp[t]) rfl ?_
  refine xq (by rw[Js];omega) (by rw[M7];exact Vi _) (Ib (O i v pp t q) f) fun z A h f=>?_
  rw[Js,M7] at f
  rw[Js]
  refine aB (aA (ay (b:=b) (o:=o+i*8) f fun h f=>?_))
  refine yO (sI hw f) (x:=[I w]) (by simp[Dz,u]) rfl ?_
  refine aB (aA (aA (ay (b:=b) (o:=o+i*8) f fun h f=>?_)))
  have f:=f.sg (b:=b) (o:=o+i*8) (c:=(⟨fun _=>0,0,w,false,pp⟩:aT).core++[.slice z pp.length A]) rfl
  refine H2 (s:=⟨fun _=>0,0,w,false,pp⟩) (a:=z) (c:=A) (by omega) (f.cC (aE b (o+i*8) ((⟨fun _=>0,0,w,false,pp⟩:aT).core++[.slice z pp.length A])) (dH 4 76 z A (pp.length,Ao pp))) fun h f=>aad ?_
  refine ih (i+1) h (by omega) ?_
  have f:=Wy (b:=b) (o:=o+i*8) (s:=(⟨fun _=>0,0,w,false,pp⟩:aT).lF 0) f
  have e:(⟨fun _=>0,0,w,false,pp⟩:aT).lF 0=tU (ps.getD i []) (ws.getD i 0):=by
   rw[List.getD_eq_getElem?_getD,List.getD_eq_getElem?_getD,q,u];rfl
  rw[e] at f
  have J:yT b (o+i*8) (tU (ps.getD i []) (ws.getD i 0))=(fun j=>if j<i+1 then yT b (o+j*8) (tU (ps.getD j []) (ws.getD j 0)) else aE b (o+j*8) zS) i:=by simp only[Nat.lt_succ_self,if_true]
  rw[J] at f
  have f:=f.oB (n:=B) (i:=i) (fun j=>if j<i then yT b (o+j*8) (tU (ps.getD j []) (ws.getD j 0)) else aE b (o+j*8) zS) (fun j=>if j<i+1 then yT b (o+j*8) (tU (ps.getD j []) (ws.getD j 0)) else aE b (o+j*8) zS) k (fun j _ U=>by
   have:(j<i+1)=(j<i):=propext ⟨fun h=>by omega,fun h=>by omega⟩;simp only[this])
  exact f.to
theorem Eh:∀{ps:List (List Ins)},uV ps=0->∀p∈ps,(nB p).2=0
 |[],_,p,a=>by simp at a
 |q::l,h,p,a=>by
  rw[uV] at h;split at h;rename_i b;exact absurd h b;rename_i b;rcases List.mem_cons.1 a with rfl|a;omega;exact Eh h p a
theorem N1 {p:List Ins} (h:(nB p).2=0):p.length<=32:=by
 unfold nB at h;split at h;cases h;omega
theorem aEl {C:bN} {pv wv ov vv:Value} {ps:List (List Ins)} {ws os vs:List Int} (R:ps.length<=1000/\ws.length<1000/\os.length<1000) (O:Ob G 0 fJ) (X:Ob G 1 yM) (ho:jl G pv wv ov vv ps ws os vs) (f:Hs G h L)
  (q:Gt C ps ws os vs≠0->∀j,Hs G j L->Q (.tuple ⟨[.pointer none,I (Gt C ps ws os vs)]⟩) j)
  (y:Gt C ps ws os vs=0->∀p j,Hs G j (aHe G p (aGp C ps ws os vs)::L)->Q (.tuple ⟨[pt p 0 0,I 0]⟩) j):Cl Pr K 12 [.agg ⟨C.enc⟩,pv,wv,ov,vv] h Q:=by
 obtain⟨⟨vi,S,v,D⟩,x,u,E⟩:=ho
 have lp:∀{k:Value->Prop},k (I ps.length)->bG (lH pv) k:=fun t=>uM v (by simpa [S] using t)
 have lw:∀{k:Value->Prop},k (I ws.length)->bG (lH wv) k:=fun t=>uM x (by simpa [tJ] using t)
 have lo:∀{k:Value->Prop},k (I os.length)->bG (lH ov) k:=fun t=>uM u (by simpa [tJ] using t)
 have T:∀{k:Value->Prop},k (I vs.length)->bG (lH vv) k:=fun t=>uM E (by simpa [tJ] using t)
 unfold Gt at q y
 refine cW (dF f fun r h f=>aR f (by decide) (l:=C.enc) rfl rfl (nJ O f fun h f=>?_))
 by_cases hC:C.Ok
 rotate_left
 .rw[aKj hC] at q;rw[aKi hC];exact bA (aae (q (by omega) _ f.tail))
 rw[aKi (by simpa using hC)] at q y
 rw[aKj hC]
 have Z:=bN.eE hC
 have J:=bN.bk hC
 have V:C.aD<=4/\1<=C.aD:=⟨hC.1.2,hC.1.1⟩
 have Y:C.aQ<=16:=hC.2.1.2
 have bad:((ps.length:Int)≠C.aD\/(ws.length:Int)≠C.aD\/(os.length:Int)≠C.aQ\/vs.length≠C.lines*2)->∀j,Hs G j (aE r 0 C.enc::L)->Q (.tuple ⟨[.pointer none,I 1]⟩) j:=fun J j f=>by
  rw[aKj J] at q;exact q (by omega) _ f.tail
 refine bA (aaa (bW (lp (aA (am r f rfl (bA (aZ (fun g=>bad (.inl g) _ f) (fun g1=>lw (aA (am r f rfl (bA (aZ (fun g=>bad (.inr (.inl g)) _ f) (fun g2=>lo (aA (am r f rfl (bA (aZ (fun g=>bad (.inr (.inr (.inl g))) _ f) (fun g3=>T (an r f (l:=C.enc) rfl rfl (Uf hC O f fun h f=>bA (aZ (fun g=>bad (.inr (.inr (.inr (by omega)))) _ f) (fun g4=>?_))))))))))))))))))))))
 clear bad
 rw[aab] at q y
 refine bW (lp (Yg (_C:=C) S v D X R.1 (fun e h f=>?_) (fun e h f=>?_) ps.length 0 h (by omega) rfl f))
 .rw[aKj e] at q;exact q e _ f.tail
 rw[aKi (by simpa using e)] at q y
 have s:¬(within 0 3 ws=true/\within 0 4 os=true)->∀j,Hs G j (aE r 0 C.enc::L)->Q (.tuple ⟨[.pointer none,I 10]⟩) j:=fun J j f=>by
  rw[aKj J] at q;exact q (by omega) _ f.tail
 refine bW (Gi (l:=ws) R.2.1 (sI x f) fun h f=>bX (eN (dG (fun g1=>?_) (fun g1=>s (by simp[g1]) _ f.tail))))
 refine Gi (l:=os) R.2.2 (sI u f.tail) fun h f=>bX (eN (dG (fun g2=>?_) (fun g2=>s (by simp[g2]) _ f.tail)))
 clear s
 rw[aKi (by simp[g1,g2])] at q y
 have f:=f.tail
 refine bW (an r f (l:=C.enc) rfl rfl (Oj hC O f fun z h f=>aI rfl (aI rfl (bA (aaa (bW (T ?_)))))))
 refine X0 (L:=aE r 0 C.enc::L) hC E O (by omega) (fun h f=>?_) vs.length 0 oC h (by omega) rfl f
 refine bW (bE f fun rv h f=>an r f (l:=C.enc) rfl rfl (aA (am r f rfl (Pm (by omega) (by omega) (by omega) ?_))))
 dsimp only
 refine kD f rfl rfl ?_ rfl ?_ ?_
 .rw[gR,rK (W:=8) (fun _=>rfl)]
 .rw[gR];exact qK (fun _=>rfl) _
 intro a h f
 obtain⟨b,o,U,f⟩:=Hs.Jl (W:=8) rfl (by omega) f
 cases U
 refine y0 (by rw[tJ];omega) (by rw[Og];exact Xu _) (sI u f) fun A c2 h f=>?_
 rw[tJ,Og] at f
 rw[tJ]
 refine aN (c:=C.enc++[.slice (some ⟨b,o,none⟩) C.aD.toNat C.aD.toNat,.slice A os.length c2,pt z 0 0]) rfl (Ai f rfl rfl fun p h f=>?_)
 refine cZ (an r f (l:=C.enc) rfl rfl (qY (by simp[bN.enc,jA]))) (cZ (aA dJ) (cZ (am r f rfl jA) (cZ dJ (aB (aA (am p f rfl (bP ?_)))))))
 have f:=f.cC (hdA p C (.slice (some ⟨b,o,none⟩) C.aD.toNat C.aD.toNat) A os.length c2 z) (dE C.aD.toNat fun i=>aE b (o+i*8) zS)
 refine Vl (B:=C.aD.toNat) (b:=b) (o:=o) (C:=C) (ps:=ps) (ws:=ws) (by omega) (by omega) (by omega) (fun p hp=>N1 (Eh e p hp)) S v D x ?_ C.aD.toNat 0 h (by omega) (by simpa using f)
 intro h f
 refine y rfl p _ ?_
 have f:=ar (b:=b) (o:=o) (cap:=C.aD.toNat) (a:=A) (c:=c2) (mb:=z) (m:=aGp C ps ws os vs) ((f.fX (hdA p C (.slice (some ⟨b,o,none⟩) C.aD.toNat C.aD.toNat) A os.length c2 z) (dH 1 3 A c2 (os.length,os.map I)) (eW G C.lines z C (words oC vs 0)) (hole G 8 127 (some ⟨b,o,none⟩) C.aD.toNat C.aD.toNat b o)).Yc (dE C.aD.toNat fun i=>yT b (o+i*8) (tU (ps.getD i []) (ws.getD i 0))))
 exact f.to
end
end Go.Proofs.YtmhapehobfnoiaaGreatDoor.A
namespace Go.Proofs.YtmhapehobfnoiaaGreatDoor
open Go Go.Ab Go.Hm Go.At Go.Mc Go.Ct Go.Nt Go.Is
section
def Py (C:bN) (pv wv ov vv:Value):List Value:=C.enc++[pv,wv,ov,vv]
def X7 (ps:List (List Ins)) (ws:List Int) (i:Nat):aT:=tU (ps.getD i []) (ws.getD i 0)
set_option maxRecDepth 100000
variable {G:Bg} {h:AH} {L L':List HP} {Q:Value->AH->Prop} {Cf:bN} {m N:Nat} {M:cU}
def mkE (C:bN) (a1 a2 a3:Option Addr) (n a c2 c3:Nat):List Value:=C.enc++[.slice a1 n a,.slice a2 n c2,.slice a3 n c3,.pointer none,.pointer none,.pointer none,.slice none 0 0]
theorem P6 {e:TypeId} {a a2:Option Addr} {c c2 q:Nat} {l:List Nat} {k:Value×AH->Prop} {N:List HP} (hb:l.length<=100) (b:Hs G h L) [r:Has (ls pE 1 e a c) L l L'] [m2:dT (dH 1 e a2 c2 (1,[pt q 0 0])) L' N]
  (p:∀f g o,Hs G o (ls pE 1 e f g (l++[q])::N)->k (.slice f (l.length+1) g,o)):bG (iV 1 8 e h (.slice a l.length c) (.slice a2 1 c2)) k:=by
 have b:=r.of b
 have i:Hs G h (dH 1 e a2 c2 (1,[pt q 0 0])::ls pE 1 e a c l::N):=(b.perm (m2.perm.cons _)).lU
 have j:=(nX (enc:=pE) (x:=q) i).lU
 have:=kL (enc:=pE) (e:=e) (l:=l) (l2:=[q]) (a:=a) (c:=c) (a2:=a2) (c2:=c2) (bytes:=8) (k:=k) j (by simp;omega) fun f g h b=>by
  have:=p f g h b.lU.tail;rw[List.length_append,List.length_singleton];exact this
 exact this
theorem Kf {p2 p5:Nat} {pv wv ov vv:Value} {U:List Value} {ps:List (List Ins)} {ws:List Int} (hC:Cf.Ok) (hG:Gb G) (hg:Ob G 1 yM) (ε:ps.length=Cf.aD.toNat) (ζ:ws.length=Cf.aD.toNat) (δ:∀w∈ws,0<=w/\w<=3) (Z:∀p∈ps,(nB p).2=0)
  (hv:U.length=ps.length) (ho:uA G 1 pv (U.map fun x=>[x]).length (fun i=>(U.map fun x=>[x]).getD i [])) (hi:∀(i:Nat) (v:Value) (p:List Ins),U[i]?=some v->ps[i]?=some p->A.T2 G v p) (hw:A.Hh G wv ws)
  (hk:∀lc lk lq a1 a2 a3 j c2 c3 h',lc.length=Cf.aD.toNat->lk.length=Cf.aD.toNat->lq.length=Cf.aD.toNat->Hs G h' (aE p5 0 (mkE Cf a1 a2 a3 Cf.aD.toNat j c2 c3)::gh a1 j lc::Vf a2 c2 lk::Ve a3 c3 lq::mX tS lc (X7 ps ws)::mX (qC G Cf) lk (fun _=>iH.new)::mX (pA Cf) lq (fun _=>F2)::aE p2 0 (Py Cf pv wv ov vv)::L)->Dd 11 4 [] Q [(pt p2 0 0),(pt p5 0 0)] h'):
  ∀(f i:Nat) (lc lk lq:List Nat) (a1 a2 a3:Option Addr) (j c2 c3:Nat) (h:AH),i+f=Cf.aD.toNat->lc.length=i->lk.length=i->lq.length=i->Hs G h (aE p5 0 (mkE Cf a1 a2 a3 i j c2 c3)::gh a1 j lc::Vf a2 c2 lk::Ve a3 c3 lq::mX tS lc (X7 ps ws)::mX (qC G Cf) lk (fun _=>iH.new)::mX (pA Cf) lq (fun _=>F2)::aE p2 0 (Py Cf pv wv ov vv)::L)->
  Dd 11 2 [] Q [(pt p2 0 0),(pt p5 0 0),(I Cf.aD),(I i)] h:=by
 have hc:=hC.1
 intro f
 induction f with
 |zero=>
  intro i lc lk lq a1 a2 a3 j c2 c3 h X V B E g
  obtain rfl:i=Cf.aD.toNat:=by omega
  exact bW (aS (aaa (hk _ _ _ _ _ _ _ _ _ _ V B E g)))
 |succ f ih=>
  intro i lc lk lq a1 a2 a3 j c2 c3 h X V B E g
  obtain⟨p,Y,_⟩:=jY (l:=ps) (i:=i) (by omega)
  obtain⟨v,J,_⟩:=jY (l:=U) (i:=i) (by omega)
  obtain⟨w,D,_⟩:=jY (l:=ws) (i:=i) (by omega)
  have γ:=δ w (List.mem_of_getElem? D)
  have β:=Z p (List.mem_of_getElem? Y)
  have eS:X7 ps ws i=tU p w:=by unfold X7;rw[List.getD_eq_getElem?_getD,List.getD_eq_getElem?_getD,Y,D];rfl
  refine bW (aS (aae (bW (bE g fun rr h g=>aA (am p2 g rfl ?_)))))
  have g:=A.sI hw g
  refine yO g (x:=[I w]) (by simp[A.Dz,D]) rfl ?_
  have g:=g.tail
  refine aA (am p2 g rfl ?_)
  have g:=Ah (e:=3) (by simp) ho g
  refine yO g (x:=[v]) (by simp[J]) rfl ?_
  have g:=A.Ib (hi i v p J Y) g.tail
  refine az (i:=i) (pr:=p) (w:=w) (by omega) γ hg β g fun O h g=>aI rfl (aI rfl (bA (aaa (bW ?_))))
  rw[<-eS] at g
  refine aA (kS (b:=p2) (o:=0) g (by decide) (l:=Cf.enc) rfl rfl ?_)
  refine C.Qk (C:=Cf) (core:=(i:Int)) hC (by omega) hG.lim g fun S h g=>aI rfl (aI rfl (bA (aaa (bW ?_))))
  refine aA (aA (am p2 g rfl (aA (aA (am p2 g rfl ?_)))))
  refine dh (C:=Cf) hC g fun T h g=>aI rfl (aI rfl (bA (aaa (bW ?_))))
  subst V
  refine aB (aA (am p5 g rfl (aN (c:=[pt O 0 0]) rfl (dK (W:=1) (n:=1) (c:=1) g rfl rfl rfl fun b1 h g=>?_))))
  refine P6 (l:=lc) (a:=a1) (c:=j) (e:=95) (q:=O) (a2:=some b1) (c2:=1) (by omega) g fun k u h g=>aB (aA (ay (b:=p5) (o:=0) g fun h g=>?_))
  refine aB (aA (am p5 g rfl (aN (c:=[pt S 0 0]) rfl (dK (W:=1) (n:=1) (c:=1) g rfl rfl rfl fun b2 h g=>?_))))
  rw[<-B]
  refine P6 (l:=lk) (a:=a2) (c:=c2) (e:=98) (q:=S) (a2:=some b2) (c2:=1) (by omega) g fun r y h g=>aB (aA (ay (b:=p5) (o:=0) g fun h g=>?_))
  rw[B]
  refine aB (aA (am p5 g rfl (aN (c:=[pt T 0 0]) rfl (dK (W:=1) (n:=1) (c:=1) g rfl rfl rfl fun b3 h g=>?_))))
  rw[<-E]
  refine P6 (l:=lq) (a:=a3) (c:=c3) (e:=101) (q:=T) (a2:=some b3) (c2:=1) (by omega) g fun t z h g=>aB (aA (ay (b:=p5) (o:=0) g fun h g=>?_))
  have e5:dS (dS (dS (mkE Cf a1 a2 a3 lc.length j c2 c3) (0+7) [.slice k (lc.length+1) u]) (0+8) [.slice r (lk.length+1) y]) (0+9) [.slice t (lq.length+1) z]=mkE Cf k r t (lc.length+1) u y z:=by rw[B,E];rfl
  rw[e5] at g
  have g:=Ig (R:=tS) (l:=lc) (q:=O) (s:=X7 ps ws) (g.cC (lX lc.length O (X7 ps ws lc.length)) (mX tS lc (X7 ps ws)))
  rw[<-B] at g
  have g:=Ig (R:=qC G Cf) (l:=lk) (q:=S) (s:=fun _=>iH.new) (g.cC (C.iF G S Cf lk.length iH.new) (mX (qC G Cf) lk (fun _=>iH.new)))
  have g:=Ig (R:=pA Cf) (l:=lq) (q:=T) (s:=fun _=>F2) (g.cC (kU T Cf F2) (mX (pA Cf) lq (fun _=>F2)))
  rw[B] at g
  rw[E]
  exact aad (ih (lc.length+1) (lc++[O]) (lk++[S]) (lq++[T]) k r t u y z h (by omega) (by simp) (by simp;omega) (by simp;omega) g.to)
end
section
def mkF (C:bN) (a1 a2 a3:Option Addr) (n a c2 c3:Nat) (x y z:Value):List Value:=C.enc++[.slice a1 n a,.slice a2 n c2,.slice a3 n c3,x,y,z,.slice none 0 0]
theorem Kx {a b:Int} {l:List Int} (h:within a b l=true):∀x∈l,a<=x/\x<=b:=by
 unfold within at h;intro x c;exact of_decide_eq_true (List.all_eq_true.1 h x c)
theorem Ko {C:bN} {ps:List (List Ins)} {ws os vs:List Int} (h:Gt C ps ws os vs=0):C.Ok/\ps.length=C.aD.toNat/\ws.length=C.aD.toNat/\os.length=C.aQ.toNat/\vs.length=C.lines*2/\uV ps=0/\(∀w∈ws,0<=w/\w<=3)/\∀o∈os,0<=o/\o<=4:=by
 unfold Gt at h;split at h;cases h;rename_i hC;split at h;cases h;rename_i c;split at h;rename_i b;exact absurd h b;rename_i b;split at h;cases h;rename_i a;have a:=Decidable.not_not.1 a;exact⟨Decidable.not_not.1 hC,by omega,by omega,by omega,by omega,Decidable.not_not.1 b,Kx a.1,Kx a.2⟩
set_option maxRecDepth 100000
variable {G:Bg} {h:AH} {L L':List HP} {Q:Value->AH->Prop} {Cf:bN} {m N:Nat} {M:cU}
theorem jy {p2 p5 hb mb:Nat} {hE:List Value} {pv wv ov vv:Value} {vs:List Int} {z:List Value} (hC:Cf.Ok) (hG:Gb G) (B:vs.length=Cf.lines*2) (s:A.Hh G vv vs) (u:z[10]?=some (pt hb 0 0)) (g:hE[0]?=some (pt mb 0 0))
  (k:∀j,Hs G j (eW G Cf.lines mb Cf (At.words oC vs 0)::aE hb 0 hE::aE p5 0 z::aE p2 0 (Py Cf pv wv ov vv)::L)->Dd 11 11 [] Q [(pt p2 0 0),(pt p5 0 0)] j):
  ∀(f i:Nat) (mem:Nat->Ln) (h:AH),i+f=vs.length->At.words oC vs 0=At.words mem (vs.drop i) i->Hs G h (eW G Cf.lines mb Cf mem::aE hb 0 hE::aE p5 0 z::aE p2 0 (Py Cf pv wv ov vv)::L)->
  Dd 11 8 [] Q [(pt p2 0 0),(pt p5 0 0),vv,(I vs.length),(I i)] h:=by
 have r:=bN.eE hC
 intro f
 induction f with
 |zero=>
  intro i mem h q c a
  rw[List.drop_of_length_le (by omega),At.words] at c
  rw[c] at k
  exact bW (aS (aaa (k _ a)))
 |succ f y=>
  intro i mem h q c a
  obtain⟨x,t,p⟩:=jY (l:=vs) (i:=i) (by omega)
  rw[p,At.words] at c
  have a:=A.sI s a
  refine bW (aS (aae (bW (yO a (x:=[I x]) (by simp[A.Dz,t]) rfl (aB (aA (am p5 a u (aB (aA (am hb a g ?_))))))))))
  exact M5 (C:=Cf) (mb:=mb) (mem:=mem) (w:=i) (v:=x) hC hG.lim a.tail (by omega) fun h a=>bA (aaa (bW (aad (y (i+1) _ h (by omega) c a))))
theorem yz {pv wv ov vv:Value} {ps:List (List Ins)} {ws os vs:List Int} (hn:ps.length<=1000/\ws.length<1000/\os.length<1000) (hG:Gb G) (O:Ob G 1 yM) (S:A.jl G pv wv ov vv ps ws os vs) (a:Hs G h L)
  (k1:Gt Cf ps ws os vs≠0->∀u,Hs G u L->Q (.tuple ⟨[.pointer none,I (Gt Cf ps ws os vs)]⟩) u)
  (k2:Gt Cf ps ws os vs=0->∀m u,Hs G u (bU G Cf m (MC.new ⟨Cf,ps,ws,os,vs⟩)::L)->Q (.tuple ⟨[pt m 0 0,I 0]⟩) u):Cl Pr K 11 [.agg ⟨Py Cf pv wv ov vv⟩] h Q:=by
 refine cW (dF a fun f h a=>aA (kS (b:=f) (o:=0) a (by decide) (l:=Cf.enc) rfl rfl (aA (am f a rfl (aA (am f a rfl (aA (am f a rfl (aA (am f a rfl ?_))))))))))
 refine A.aEl (C:=Cf) hn hG.lim O S a (fun v h a=>aI rfl (aI rfl (bA (bS v (k1 v _ a.tail))))) fun v pa h a=>aI rfl (aI rfl (bA (aaa ?_)))
 obtain⟨hC,T,U,V,X,Y,Z,e7⟩:=Ko v
 have a:Hs G h (aE f 0 (Py Cf pv wv ov vv)::L):=a.to
 have hc:=hC.1
 obtain⟨⟨vi,hv,E,D⟩,J,B,y⟩:=S
 refine bW (aA (kS (b:=f) (o:=0) a (by decide) (l:=Cf.enc) rfl rfl (aN (c:=mkE Cf none none none 0 0 0 0) rfl (dF a fun p h a=>aA (aA (am f a rfl ?_))))))
 have a:=Hv (R:=pA Cf) (s:=fun _=>F2) a
 have a:=Hv (R:=qC G Cf) (s:=fun _=>iH.new) a
 have a:=Hv (R:=tS) (s:=X7 ps ws) a
 have a:=mF (enc:=pE) (e:=95) a
 have a:=mF (enc:=pE) (e:=98) a
 have a:=mF (enc:=pE) (e:=101) a
 refine Kf (L:=L) (ov:=ov) (vv:=vv) (Cf:=Cf) hC hG O T U Z (A.Eh Y) hv E D J ?_ Cf.aD.toNat 0 [] [] [] none none none 0 0 0 h (by omega) rfl rfl rfl a.to
 intro lc lk lq a1 r a3 t c2 c3 h l1 l2 l3 a
 refine bW (aA (kS (b:=f) (o:=0) a (by decide) (l:=Cf.enc) rfl rfl ?_))
 refine H.Yf (C:=Cf) hC hG.lim a fun g h a=>aI rfl (aI rfl (aB (aA (ay (b:=p) (o:=0) a fun h a=>bA (aaa ?_)))))
 have e8:dS (mkE Cf a1 r a3 Cf.aD.toNat t c2 c3) (0+10) [pt g 0 0]=mkF Cf a1 r a3 Cf.aD.toNat t c2 c3 (pt g 0 0) (.pointer none) (.pointer none):=rfl
 rw[e8] at a
 obtain⟨k,b,o,j,a⟩:=H.pT (a.front (H.gG G g Cf (rX Cf.lines)))
 have em:(fun i=>(rX Cf.lines i).2)=oC:=by
  funext i;unfold rX oC;split<;>rfl
 rw[em] at a
 have a:=a.fX (eW G Cf.lines k Cf oC) (aE g 0 (H.mH k Cf b o j)) (aE p 0 (mkF Cf a1 r a3 Cf.aD.toNat t c2 c3 (pt g 0 0) (.pointer none) (.pointer none))) (aE f 0 (Py Cf pv wv ov vv))
 refine bW (aA (am f a rfl (Pw y ?_)))
 refine jy (Cf:=Cf) (p2:=f) (p5:=p) (hb:=g) (mb:=k) (hE:=H.mH k Cf b o j) (z:=mkF Cf a1 r a3 Cf.aD.toNat t c2 c3 (pt g 0 0) (.pointer none) (.pointer none)) hC hG X y rfl rfl ?_ vs.length 0 oC h (by omega) rfl a
 intro h a
 have a:=H.qO (H:=MC.home ⟨Cf,ps,ws,os,vs⟩) (hb:=g) (C:=Cf) (mb:=k) (b:=b) (o:=o) (cap:=j) (a.fX (aE g 0 (H.mH k Cf b o j)) (eW G Cf.lines k Cf (At.words oC vs 0)) (hole G 25 222 (some ⟨b,o,none⟩) j Cf.lines b o) (dE Cf.lines fun i=>H.eF b (o+i*25) (rX Cf.lines i).1))
 refine bW (aA (aA (am f a rfl (aA (am f a rfl ?_)))))
 refine kq (C:=Cf) hC B V e7 a fun q h a=>aI rfl (aI rfl (aB (aA (ay (b:=p) (o:=0) a fun h a=>bA (aaa (bW ?_))))))
 refine aA (kS (b:=f) (o:=0) a (by decide) (l:=Cf.enc) rfl rfl ?_)
 refine dv (C:=Cf) hC hG.lim a fun fb h a=>aI rfl (aI rfl (aB (aA (ay (b:=p) (o:=0) a fun h a=>bA (aaa (k2 v _ _ ?_))))))
 have a:=mF (enc:=Ev.enc) (e:=74) a
 have e9:dS (dS (mkF Cf a1 r a3 Cf.aD.toNat t c2 c3 (pt g 0 0) (.pointer none) (.pointer none)) (0+11) [pt q 0 0]) (0+12) [pt fb 0 0]=fH Cf ⟨lc,lk,lq,a1,r,a3,none,t,c2,c3,0,g,q,fb⟩ 0:=by
  unfold fH;dsimp only;rw[l1,l2,l3];rfl
 rw[e9] at a
 have a:Hs G h (bU G Cf p (⟨X7 ps ws,fun _=>iH.new,fun _=>F2,MC.home ⟨Cf,ps,ws,os,vs⟩,⟨tM os,fun _=>none⟩,fun _ _=>[],[]⟩:cU)::L):=(bK (m:=p) (x:=⟨lc,lk,lq,a1,r,a3,none,t,c2,c3,0,g,q,fb⟩) (⟨X7 ps ws,fun _=>iH.new,fun _=>F2,MC.home ⟨Cf,ps,ws,os,vs⟩,⟨tM os,fun _=>none⟩,fun _ _=>[],[]⟩:cU) ⟨l1,l2,l3⟩ a).to
 exact a
end
end Go.Proofs.YtmhapehobfnoiaaGreatDoor
end
namespace Go.Proofs.YtmhapehobfnoiaaGreatDoor
open Go Go.Ab Go.Hm Go.At Go.Mc Go.Ct Go.Nt Go.Is
section
theorem aCw {g:FuncId} {a b:Array Value} {k:Value->Prop} (c:k (.bool false)):bG (Rk .eql (.func (.func g) a b) .nilFunc) k:=⟨_,rfl,c⟩
set_option maxRecDepth 100000
attribute [local irreducible] bG Br ld1 uF uG B4 mA uX lK P3 hQ mY qG pZ pS lH zE uE Uh Ty Oa Mr Rk Ol Md Ny Rn lN oT sF iV copyV iJ wV Tu U3 Gk kX Mb Qq Sb nL rR xM zA Cl zB Ro sM sC jS fL setLoop cH
variable {G:Bg} {h:AH} {L L':List HP} {Q:Value->AH->Prop} {Cf:bN} {m N:Nat} {M:cU}
theorem yG (a:Q (.bool true) h):Cl Pr K 25 [] h Q:=by
 unfold Cl;exact qt (v:= .bool true) rfl a
theorem aD8 {C:bN} {pv wv ov vv:Value} {ps:List (List Ins)} {ws os vs:List Int} (X:ps.length<=9223372036854775807) (D:A.jl G pv wv ov vv ps ws os vs) (a:Hs G h L)
  (R:ps.length<=6/\ws.length<=6/\os.length<=20/\vs.length<=80->∀j,Hs G j L->Q (.bool true) j) (s:∀j,Hs G j L->Q (.bool false) j):Cl Pr K 9 [.agg ⟨Py C pv wv ov vv⟩] h Q:=by
 obtain⟨⟨U,J,q,u⟩,z,t,y⟩:=D
 have lp:∀{k:Value->Prop},k (I ps.length)->bG (lH pv) k:=fun g=>A.uM q (by simpa [J] using g)
 have lw:∀{k:Value->Prop},k (I ws.length)->bG (lH wv) k:=fun g=>Pw z g
 have S:∀{k:Value->Prop},k (I os.length)->bG (lH ov) k:=fun g=>Pw t g
 have T:∀{k:Value->Prop},k (I vs.length)->bG (lH vv) k:=fun g=>Pw y g
 refine cW (dF a fun c h a=>?_)
 have loop:∀(f i:Nat) (h:AH),i+f=ps.length->Hs G h (aE c 0 (Py C pv wv ov vv)::L)->Dd 9 1 [] Q [(pt c 0 0),(I i)] h:=by
  intro f;induction f with
  |zero=>
   intro i h B a;refine bW (aA (am c a (v:=pv) rfl (lp (aS (aaa (aA (am c a (v:=pv) rfl (lp (yV (aZ (fun g1=>?_) (fun g1=>s _ a.tail)))))))))));refine aA (am c a (v:=wv) rfl (lw (yV (aZ (fun g2=>?_) (fun g2=>s _ a.tail)))));refine aA (am c a (v:=ov) rfl (S (yV (aZ (fun g3=>?_) (fun g3=>s _ a.tail)))));refine aA (am c a (v:=vv) rfl (T (yV ?_)));by_cases g4:(vs.length:Int)<=80;rw[decide_eq_true g4];exact R ⟨by omega,by omega,by omega,by omega⟩ _ a.tail;rw[decide_eq_false g4];exact s _ a.tail
  |succ f O=>
   intro i h B a;obtain⟨p,E,V⟩:=jY (l:=ps) (i:=i) (by omega);obtain⟨v,r,_⟩:=jY (l:=U) (i:=i) (by omega);refine bW (aA (am c a (v:=pv) rfl (lp (aS (aae (bW (aA (am c a (v:=pv) rfl ?_))))))));refine yO (Ah (e:=3) (by simp) q a) (x:=[v]) (by simp[r]) rfl (A.uM (u i v p r E) (mR (aZ (fun _=>s _ a.tail) (fun _=>bW (aad (O (i+1) h (by omega) a))))))
 exact loop ps.length 0 h (by omega) a
def veR (q:Nat) (a:Option Addr) (c:Nat) (l:List Ev):HP:=sp [aE q 0 [.slice a l.length c],H7 a c l]
theorem aIz {q c:Nat} {a:Option Addr} {l:List Ev} (hb:l.length<=100000):Xn Pr K G 162 [] [pt q 0 0] (veR q a c l) (l.map fun n=>[.agg ⟨n.enc⟩]):=by
 intro p J y L h Q g E t u;have g:=g.zH;have j:∀{h:AH} {M:List HP},Hs G h (aE q 0 [.slice a l.length c]::H7 a c l::M)->Hs G h (veR q a c l::M):=fun g=>g.yS;refine cW (am q g rfl (bP ?_));have loop:∀(f i:Nat) (h:AH),i+f=l.length->Hs G h (aE q 0 [.slice a l.length c]::H7 a c l::p ((l.drop i).map fun n=>[.agg ⟨n.enc⟩])::L)->Dd 162 1 [] Q [y,(.slice a l.length c),(I l.length),(I i)] h:=by
  intro f;induction f with
  |zero=>
   intro i h A g;rw[List.drop_of_length_le (by omega)] at g;exact bW (aS (aaa (t _ _ (j g))))
  |succ f O=>
   intro i h A g;obtain⟨x,D,z⟩:=jY (l:=l) (i:=i) (by omega);rw[z,List.map_cons] at g;refine bW (aS (aae (bW (jV (l:=l) (a:=a) (c:=c) (enc:=Ev.enc) (e:=74) g (by decide) (by omega) (by rw[Int.toNat_natCast];exact D) (bM g fun r h g=>ax (b:=r) g fun h g=>an r g (l:=x.enc) rfl rfl ?_)))));refine(E _ _ h _ (g.front (p ([.agg ⟨x.enc⟩]::((l.drop (i+1)).map fun n=>[.agg ⟨n.enc⟩]))))).mono fun v s B=>?_;rcases B with⟨rfl,k⟩|⟨rfl,k⟩;exact bX (bV (bW (aad (O (i+1) s (by omega) k.to))));exact bX (eZ (u _ _ (j k.to)))
 exact loop l.length 0 h (by omega) (by rw[List.drop_zero];exact g)
abbrev evX (p:Nat) (e:Nat->Value) (d l:Nat) (done:List Ev):HP:=sB fun x:Option Addr×Nat=>sp [gF Pr 19 (gI 250) 20 e d l (.ready,none),aE p 0 [.slice x.1 done.length x.2],H7 x.1 x.2 done]
theorem Wc (k:M.log.length<2000) (f:Hs G h L) [E:Has (bU G Cf m) L M L'] (B:∀a c j,Hs G j (H7 a c M.log::bU G Cf m M::L')->Q (.slice a M.log.length c) j):Cl Pr K 19 [pt m 0 0] h Q:=by
 obtain⟨y,D,f⟩:=cY (E.of f);refine cW ?_;refine cW (dD (bV (aB (aA (am m f rfl ?_)))));refine cW (dF f fun q h f=>?_);refine aCw (bV (bW (bM f fun p h f=>iR f fun d h f=>?_)));intro e u;refine jI f fun l h f=>nF rfl ?_;have f:=mF (enc:=Ev.enc) (e:=74) f;have f:Hs G h (veR q y.al y.cl M.log::evX p e d l []::mk d ()::aE m 0 (fH Cf y M.log.length)::gh y.ac y.cc y.lc::Vf y.ak y.ck y.lk::Ve y.aq y.cq y.lq::
  mX tS y.lc M.bC::mX (qC G Cf) y.lk M.cG::mX (pA Cf) y.lq M.cA::H.gG G y.hb Cf M.home::fO Cf y.mb M.bZ::oD Cf y.fb M.iC::L'):=by
  have f:=(f.cC (aE q 0 [.slice y.al M.log.length y.cl]) (H7 y.al y.cl M.log)).yS
  have f:Hs G h (veR q y.al y.cl M.log::_):=f
  have f:=(f.cI (gF Pr 19 (gI 250) 20 e d l (.ready,none)) (aE p 0 [.slice none 0 0]) (H7 none 0 [])).Rp
  have f:=Hs.qU (A:=fun x:Option Addr×Nat=>sp [gF Pr 19 (gI 250) 20 e d l (.ready,none),aE p 0 [.slice x.1 ([]:List Ev).length x.2],H7 x.1 x.2 []]) (none,0) f
  exact f.to
 refine(aIz (q:=q) (a:=y.al) (c:=y.cl) (l:=M.log) (by omega)).fold (X:=fun done=>evX p e d l done) (Z:=fun _ _=>tX False) f ?_ ?_ ?_
 .intro done x h T r f;have t:done.length<1999:=by have:=r.length_le;simp at this;omega
  obtain⟨⟨a,c⟩,f⟩:=f.tW;have f:=f.B5;refine rW (oW f) u (bM f fun p1 h f=>ax (b:=p1) f fun h f=>fU f fun h f=>am p f rfl (an p1 f (l:=x.enc) rfl rfl (aN (c:=x.enc) rfl (dK (W:=7) (n:=1) (c:=1) f rfl rfl rfl fun I h f=>?_))));have f:=nX (enc:=Ev.enc) (x:=x) f;refine Qh (l:=done) (v:=x) (a:=a) (c:=c) (by omega) f fun g i h f=>ax (b:=p) f fun h f=>am p f rfl (bP (dR (aJ (by simp;omega) (gM f fun h f=> .inl ⟨rfl,?_⟩))));have f:=(f.cI (gF Pr 19 (gI 250) 20 e d l (.ready,none)) (aE p 0 [.slice g (done++[x]).length i]) (H7 g i (done++[x]))).Rp;exact(Hs.qU (A:=fun z:Option Addr×Nat=>sp [gF Pr 19 (gI 250) 20 e d l (.ready,none),aE p 0 [.slice z.1 (done++[x]).length z.2],H7 z.1 z.2 (done++[x])]) (g,i) f).to
 intro v h f;obtain⟨⟨a,c⟩,f⟩:=(f.front (evX p e d l M.log)).tW;have f:=f.B5;have f:=(f.front (veR q y.al y.cl M.log)).zH;refine jL f fun h f=>jK (am p f rfl (kG f fun h f=>iU (B a c _ ?_)));exact(bK (m:=m) (x:=y) M D f).to
 .intro done x v h r f;obtain⟨s,_⟩:=(f.front (tX False)).Vd;exact s.elim
end
end Go.Proofs.YtmhapehobfnoiaaGreatDoor
namespace Go.Mc
open Go Go.Ab Go.Hm Go.At Go.Is Go.Ct Go.Nt
section
variable {C:bN} {N:Nat} {M:cU}
def rp (i:Nat) (s:aT) (x:Ev):Option aT:=match aT.nV s i with
 |some r=>if r.2=x then some r.1 else none
 |none=>if(aT.bQ s i x.value x.code).2.2=0/\(aT.bQ s i x.value x.code).2.1=x then some (aT.bQ s i x.value x.code).1 else none
theorem Wx {s:aT} {i:Nat} {r:aT×Ev} (h:aT.nV s i=some r):r.2.core=i:=by
 unfold aT.nV at h;cases hn:aT.next? s with
 |none=>rw[hn] at h;cases h
 |some x=>
  rw[hn] at h;dsimp only at h;repeat' split at h
  all_goals first|cases h|skip
  all_goals rfl
theorem we {s:aT} {i:Nat} {r:aT×Ev} (h:aT.nV s i=some r):rp i s r.2=some r.1:=by
 unfold rp;grind
theorem Qp {s:aT} {i:Nat} {v c:Int} (h:(aT.bQ s i v c).2.2=0):aT.nV s i=none:=by
 unfold aT.bQ at h;unfold aT.nV;cases hn:aT.next? s with
 |none=>rfl
 |some x=>
  rw[hn] at h;dsimp only at h ⊢;unfold Fo at h;grind
theorem Gz {s:aT} {i:Nat} {v c:Int} (h:(aT.bQ s i v c).2.2=0):(aT.bQ s i v c).2.1.core=i:=by
 unfold aT.bQ at h ⊢;cases hn:aT.next? s with
 |none=>rw[hn] at h;cases h
 |some x=>
  rw[hn] at h;dsimp only at h ⊢;repeat' split at h
  all_goals first|cases h|skip
  all_goals simp_all [aT.ev]
theorem Na {s:aT} {i:Nat} {v c:Int} (h:(aT.bQ s i v c).2.2=0):rp i s (aT.bQ s i v c).2.1=some (aT.bQ s i v c).1:=by
 unfold rp;rw[Qp h];dsimp only;have e:aT.bQ s i (aT.bQ s i v c).2.1.value (aT.bQ s i v c).2.1.code=aT.bQ s i v c:=by
  unfold aT.bQ at h ⊢;cases hn:aT.next? s with
  |none=>rfl
  |some x=>
   rw[hn] at h;dsimp only at h ⊢;unfold aT.ev;grind
 grind
def rc (m:Mon) (g:Nat):Option Int:=(m.runs g).map jG.core
structure Qb (M:cU):Prop where
 op:∀g c,rc M.bZ g=some c->∃x,aT.next? (M.bC c.toNat)=some x/\x.op=8
 one:∀g g' c,rc M.bZ g=some c->rc M.bZ g'=some c->g=g'
theorem Ov (hC:C.Ok) {m:Mon} (a:iA C m) {c:Int}:m.calls c=true↔∃g,rc m g=some c:=by
 unfold Mon.calls Mon.running rc;rw[List.any_eq_true];constructor;rintro ⟨g,b,h⟩;unfold Mon.lY at h;grind;rintro ⟨g,h⟩;cases hr:m.runs g with
 |none=>rw[hr] at h;cases h
 |some r=>
  rw[hr] at h;have:=a.aGj hC g r hr;refine⟨g,List.mem_filter.2 ⟨List.mem_range.2 this,by rw[hr];rfl⟩,?_⟩;unfold Mon.lY;grind
inductive Out (C:bN) (d:Do) (M M':cU):Prop where
 |same (h1:M'.bC=M.bC) (h2:M'.log=M.log) (h3:∀g,rc M'.bZ g=rc M.bZ g)
 |ev (i:Nat) (s:aT) (v:Ev) (hi:(i:Int)<C.aD) (hd:d.nN=0/\d.a=i) (hw:M.bZ.calls i=false) (h1:M'.bC=aX M.bC i s) (h2:M'.log=M.log++[v]) (hc:v.core=i) (hr:rp i (M.bC i) v=some s) (h3:∀g,rc M'.bZ g=rc M.bZ g)
 |ask (i g:Nat) (hi:(i:Int)<C.aD) (hd:d.nN=0/\d.a=i) (hw:M.bZ.calls i=false) (h1:M'.bC=M.bC) (h2:M'.log=M.log) (hx:∃x,aT.next? (M.bC i)=some x/\x.op=8) (h3:∀g',rc M'.bZ g'=if g'=g then some (i:Int) else rc M.bZ g') (h0:rc M.bZ g=none)
 |fin (i g:Nat) (s:aT) (v:Ev) (hi:(i:Int)<C.aD) (hd:d.nN=3) (hg:rc M.bZ g=some (i:Int)) (h1:M'.bC=aX M.bC i s) (h2:M'.log=M.log++[v]) (hc:v.core=i) (ho:v.op=8/\v.code=0) (ha:s.at'=(M.bC i).at'+1) (hr:rp i (M.bC i) v=some s) (h3:∀g',rc M'.bZ g'=if g'=g then none else rc M.bZ g')
theorem yH {d:Do} {i:Nat} {v c:Int} (b:(i:Int)<C.aD) (a:d.nN=0/\d.a=i) (f:M.bZ.calls i=false):Out C d M (M.bQ i v c).1:=by
 unfold cU.bQ;dsimp only;split;exact .same rfl rfl fun _=>rfl;rename_i h;have h:(aT.bQ (M.bC i) i v c).2.2=0:=Decidable.not_not.1 h;exact .ev i _ _ b a f rfl rfl (Gz h) (Na h) fun _=>rfl
theorem aCh {s:aT} {i:Nat} {a:Mc.Ask} (h:aT.Bx s i=some a):a.core=i/\∃x,aT.next? s=some x/\x.op=8:=by
 unfold aT.Bx at h;grind
theorem vf {d:Do} {i:Nat} {a:Mc.Ask} (t:dU C N M) (k:(i:Int)<C.aD) (j:d.nN=0/\d.a=i) (l:M.bZ.calls i=false) (u:aT.Bx (M.bC i) i=some a):Out C d M (M.call C i a).1:=by
 obtain⟨q,s⟩:=aCh u;unfold cU.call;dsimp only;split;exact yH k j l
 .rename_i b;split;exact .same rfl rfl fun _=>rfl
  .have b:(M.bZ.call C.aD a).2.2=0:=Decidable.not_not.1 b;have f:rc M.bZ a.bI.toNat=none:=by
    unfold Mon.call at b;split at b;cases b;split at b;cases b;rename_i g;split at b;cases b;rename_i c;have p:0<=a.bI:=(Decidable.not_not.1 g).1;have c:M.bZ.phase a.bI=0:=Decidable.not_not.1 c;unfold Mon.phase Mon.run at c;rw[aKj p] at c;unfold rc;cases hr:M.bZ.runs a.bI.toNat with
    |none=>rfl
    |some r=>rw[hr] at c;have:=(t.bZ.run _ r hr).2.2.1;grind
   refine .ask i a.bI.toNat k j l rfl rfl s (fun o=>?_) f;show rc (M.bZ.call C.aD a).1 o=_;unfold Mon.call at b ⊢;repeat' split at b
   all_goals first|(exfalso;revert b;simp;done)|skip
   rename_i v g c n4;rw[aKi v,aKi g,aKi c,aKi n4];dsimp only at b ⊢;split at b;grind;rename_i n5;rw[aKi n5];unfold rc Mon.cQ aX;dsimp only;split;show some a.core=_;rw[q];rfl
theorem Xz {d:Do} {i:Nat} {a:Acc} (q:(i:Int)<C.aD) (j:d.nN=0/\d.a=i) (t:M.bZ.calls i=false):Out C d M (M.access C i a).1:=by
 have same:∀{r:cU},r.bC=M.bC->r.log=M.log->r.bZ=M.bZ->Out C d M r:=fun a b c=> .same a b fun g=>by rw[c]
 unfold cU.access;split;exact yH q j t;dsimp only;split;grind;split;unfold cU.walk;grind;split;exact yH q j t;split;unfold cU.want;grind;unfold cU.Jd;dsimp only;rcases yH (C:=C) (M:=M.uB i (if a.write=true then kC C (if a.read=true then oK C (M.cG i) (a.word/2) (a.word % 2) (M.known i (a.word/2/2)) else M.cG i) (a.word/2) (a.word % 2) (M.known i (a.word/2/2)) a.value else if a.read=true then oK C (M.cG i) (a.word/2) (a.word % 2) (M.known i (a.word/2/2)) else M.cG i)) (d:=d) (v:=if a.read=true then Pk C (M.cG i) (a.word/2) (a.word % 2) else 0) (c:=0) q j t with⟨a,b,c⟩|⟨i,s,v,a,b,c,e,f,g,k,l⟩|⟨i,g,a,b,c,e,f,k,l,z⟩|⟨i,g,s,v,a,b,c,e,f,k,l,n,o,p⟩;exact .same a b c;exact .ev i s v a b c e f g k l;exact .ask i g a b c e f k l z;grind
theorem Lk {m:Mon} {g c:Int}:∀k,rc (m.dropped C.aD g c).1 k=rc m k:=by
 intro k;unfold Mon.dropped;split;rfl;split;rfl;rename_i r a;split;rfl;split;rfl;unfold Mon.run at a;split at a;unfold rc Mon.cQ aX;dsimp only;split;rename_i e;subst e;rw[a];rfl;rfl;cases a
theorem Gp {n:aH}:(M.fG C n).1.bC=M.bC/\(M.fG C n).1.log=M.log/\∀g,rc (M.fG C n).1.bZ g=rc M.bZ g:=by
 unfold cU.fG;repeat' split
 all_goals first
  |exact⟨rfl,rfl,fun _=>rfl⟩
  |skip
 dsimp only;split;exact⟨rfl,rfl,fun g=>Lk g⟩;exact⟨rfl,rfl,fun g=>Lk g⟩
theorem ze {m:Mon} {g:Int} {u:Mc.jG} (h:(m.over g).2.1=some u):rc m g.toNat=some u.core/\∀k,rc (m.over g).1 k=if k=g.toNat then none else rc m k:=by
 unfold Mon.over at h ⊢;split at h;cases h;rename_i a;rw[aKi a];cases hr:m.run g with
 |none=>rw[hr] at h;cases h
 |some r=>
  rw[hr] at h;dsimp only at h ⊢;split at h;cases h;rename_i b;rw[aKi b];cases h;unfold Mon.run at hr;split at hr;refine⟨by unfold rc;rw[hr];rfl,fun k=>?_⟩;unfold rc Mon.cQ aX;dsimp only;split;rfl;rfl;cases hr
theorem yy (_:C.Ok) (t:dU C N M) (B:Qb M) {d:Do}:Out C d M (M.Dp C d).1:=by
 have same:∀{r:cU},r.bC=M.bC->r.log=M.log->(∀g,rc r.bZ g=rc M.bZ g)->Out C d M r:=fun a b c=> .same a b c;unfold cU.Dp;split;rename_i p;unfold cU.step;split;grind;rename_i o;have o:0<=d.a/\d.a<C.aD:=Decidable.not_not.1 o;have k:((d.a.toNat:Nat):Int)<C.aD:=by omega
 have f:d.nN=0/\d.a=(d.a.toNat:Nat):=⟨p,by omega⟩;dsimp only;split;grind;split;grind;rename_i j;have j:M.bZ.calls ((d.a.toNat:Nat):Int)=false:=by
  rw[<-f.2];unfold cU.waits at j;simpa using j
 split;rename_i r v;exact .ev _ _ _ k f j rfl rfl (Wx v) (we v) fun _=>rfl;split;rename_i a o;exact vf t k f j o;split;exact Xz k f j;grind
 .split
  .unfold cU.sK;dsimp only;repeat' split
   all_goals first
    |exact same rfl rfl fun _=>rfl
    |exact same Gp.1 Gp.2.1 Gp.2.2
  split;unfold cU.begin;grind;split;rename_i p;unfold cU.finish;split;grind;split;grind;dsimp only;split;grind;rename_i u y;obtain⟨s,O⟩:=ze y;have D:=(Uw (g:=d.a) t.bZ).2 u y;obtain⟨i,k⟩:=Int.eq_ofNat_of_zero_le D.1;obtain⟨x,E,A⟩:=B.op _ _ s;have z:u.core.toNat=i:=by omega
  rw[z] at E ⊢;have I:∀P:cU,P.bC=M.bC->P.log=M.log->(∀g,rc P.bZ g=if g=d.a.toNat then none else rc M.bZ g)->Out C d M (P.bQ i 0 0).1:=by
   intro P p1 R J;have l:aT.bQ (P.bC i) i 0 0=(((M.bC i).cQ x.b 0).lF ((M.bC i).at'+1),aT.ev (M.bC i) i x ((M.bC i).dX x.b.toNat) ((M.bC i).dX x.c.toNat) 0,0):=by
    rw[p1];unfold aT.bQ;grind
   have q:(aT.bQ (M.bC i) i 0 0).2.2=0:=by rw[<-p1,l]
   unfold cU.bQ;dsimp only;rw[aKi (by rw[l];simp)];refine .fin i d.a.toNat (aT.bQ (P.bC i) i 0 0).1 (aT.bQ (P.bC i) i 0 0).2.1 (by omega) p (by rw[s,k]) (by grind) (by grind) ?_ ?_ ?_ ?_ J;rw[p1];exact Gz q;rw[l];exact⟨A,rfl⟩;rw[l];rfl;rw[p1];exact Na q
  grind;grind
end
section
variable {C:bN} {N:Nat} {M M':cU} {d:Do}
theorem Zy {m:Mon} (a:iA C m) {g:Nat} {c:Int} (h:rc m g=some c):0<=c/\c<C.aD:=by
 unfold rc at h;cases hr:m.runs g with
 |none=>rw[hr] at h;cases h
 |some r=>
  rw[hr] at h;cases h;exact(a.run g r hr).2.2.2.1
theorem Qb.out (hC:C.Ok) (r:dU C N M) (l:Qb M) (B:Out C d M M'):Qb M':=by
 have t:∀{i:Nat},M.bZ.calls i=false->∀g c,rc M.bZ g=some c->c.toNat≠i:=by
  intro i O g c f e;have p:=Zy r.bZ f;have:c=i:=by omega
  subst this;have:=(Ov hC r.bZ).2 ⟨g,f⟩;grind
 cases B with
 |same p q j=>exact⟨fun g c f=>by rw[p];exact l.op g c (by rw[<-j];exact f),fun g o c a b=>l.one g o c (by rw[<-j];exact a) (by rw[<-j];exact b)⟩
 |ev i s v y x z p q A D j=>
  refine⟨fun g c f=>?_,fun g o c a b=>l.one g o c (by rw[<-j];exact a) (by rw[<-j];exact b)⟩;rw[j] at f;rw[p];unfold aX;rw[aKi (t z g c f)];exact l.op g c f
 |ask i g y x z p q E j=>
  constructor;intro o c f;rw[j] at f;rw[p];split at f;cases f;exact E;exact l.op o c f;intro g1 g2 c a b;rw[j] at a b;split at a;grind;split at b;grind;exact l.one g1 g2 c a b
 |fin i g s v y x f p q A R J D j=>
  constructor;intro o c k;rw[j] at k;split at k;cases k;rename_i u;rw[p];unfold aX;have I:=Zy r.bZ k;rw[aKi (fun e=>u (l.one o g c k (by grind)))];exact l.op o c k;intro g1 g2 c a b;rw[j] at a b;split at a;cases a;split at b;cases b;exact l.one g1 g2 c a b
def jz (i:Nat) (s:aT):List Ev->Option aT
 |[]=>some s
 |x::l=>if x.core=i then(match rp i s x with|some t=>jz i t l|none=>none) else jz i s l
theorem Ra {i:Nat}:∀{l:List Ev} {s t:aT} {x:Ev},jz i s l=some t->jz i s (l++[x])=if x.core=i then rp i t x else some t
 |[],s,t,x,h=>by
  cases h;show jz i s [x]=_;unfold jz;split;cases rp i s x<;>rfl;rfl
 |y::l,s,t,x,h=>by
  rw[List.cons_append];unfold jz at h ⊢;split;rename_i e;rw[aKj e] at h;cases hr:rp i s y with
  |none=>rw[hr] at h;cases h
  |some u=>rw[hr] at h;exact Ra h
  rename_i e;rw[aKi e] at h;exact Ra h
def RPs (C:bN) (S:Nat->aT) (M:cU):Prop:=∀i:Nat,(i:Int)<C.aD->jz i (S i) M.log=some (M.bC i)
theorem RPs.out {S:Nat->aT} (h:RPs C S M) (q:Out C d M M'):RPs C S M':=by
 have one:∀{i:Nat} {s:aT} {v:Ev},M'.bC=aX M.bC i s->M'.log=M.log++[v]->v.core=i->rp i (M.bC i) v=some s->RPs C S M':=by
  intro i s v a b f k j p;rw[a,b,Ra (h j p)];unfold aX;by_cases e:j=i;subst e;rw[aKj f,aKj rfl];exact k;grind
 cases q with
 |same a b l=>intro i c;rw[a,b];exact h i c
 |ev i s v c o r a b f k l=>exact one a b f k
 |ask i g c o r a b y l=>intro i c;rw[a,b];exact h i c
 |fin i g s v c o u a b f x t k l=>exact one a b f k
structure All (C:bN) (S:Nat->aT) (N:Nat) (M:cU):Prop where
 inv:dU C N M
 wait:Qb M
 jz:RPs C S M
theorem All.Dp {S:Nat->aT} (hC:C.Ok) (h:All C S N M):All C S (N+2) (M.Dp C d).1:=by
 have a:=yy (d:=d) hC h.inv h.wait;exact⟨aBl h.inv hC,h.wait.out hC h.inv a,h.jz.out a⟩
theorem All.len {S:Nat->aT} (h:All C S N M):M.log.length<=N:=h.inv.log
theorem qe:(M.tI C [d] 0).1=(M.Dp C d).1:=by
 unfold cU.tI;split;rfl;rfl
end
end Go.Mc
namespace Go.Proofs.YtmhapehobfnoiaaGreatDoor
open Go Go.Ab Go.Hm Go.At Go.Mc Go.Ct Go.Nt Go.Is
section
theorem en {C:bN} {ps:List (List Ins)} {ws os vs:List Int} (h:Gt C ps ws os vs=0):∀i:Nat,(i:Int)<C.aD->(X7 ps ws i).Ok:=by
 obtain⟨hC,k,l,o,p,c,q,r⟩:=Ko h;intro i s;have b:i<ps.length:=by omega
 have g:ps.getD i []∈ps:=by rw[List.getD_eq_getElem?_getD,List.getElem?_eq_getElem b];exact List.getElem_mem _
 have a:=A.Eh c _ g;have f:=A.N1 a;refine⟨show(0:Int)<=0 by decide,show(0:Int)<=32 by decide,rfl,f,fun x j=>?_⟩;unfold nB at a;rw[aab] at a;exact nz _ _ a x j
theorem y8 {C:bN} {ps:List (List Ins)} {ws os vs:List Int} (h:Gt C ps ws os vs=0):dU C 0 (MC.new ⟨C,ps,ws,os,vs⟩):=by
 obtain⟨hC,t,u,a,v,y,z,b⟩:=Ko h;refine⟨⟨?_,?_,fun g r q=>by cases q⟩,en h,fun i f=>Ua,fun i f=>⟨?_,?_⟩,fun l j=>?_,⟨fun c w=>?_,fun c w n k=>by cases k⟩,Nat.le_refl 0⟩;show(os.map fun o=>(⟨o,false⟩:gZ)).length=_;rw[List.length_map];exact a;intro x s;obtain⟨o,p,rfl⟩:=List.mem_map.1 s;exact b o p;show((0:Nat):Int)<=C.entries;have:1<=C.entries:=by unfold bN.Ok at hC;omega
 omega;show(0:Int)<=0/\(0:Int)<C.aQ;have:=hC.2.1.1;omega;have e:((MC.new ⟨C,ps,ws,os,vs⟩).home l).1=vL:=by
  show(rX C.lines l).1=vL;unfold rX;rw[aKj j]
 rw[e];exact⟨aB8 l,Nat.zero_le _⟩;show((0:Nat):Int)<=C.depth;have:1<=C.depth:=hC.2.2.2.2.1.1;omega
theorem aAe {C:bN} {ps:List (List Ins)} {ws os vs:List Int} (h:Gt C ps ws os vs=0):Mc.All C (X7 ps ws) 0 (MC.new ⟨C,ps,ws,os,vs⟩):=
 ⟨y8 h,⟨(fun g c a=>by cases a),(fun g b c a=>by cases a)⟩,fun i f=>rfl⟩
set_option maxRecDepth 100000
attribute [local irreducible] bG Br ld1 uF uG B4 mA uX lK P3 hQ mY qG pZ pS lH zE uE Uh Ty Oa Mr Rk Ol Md Ny Rn lN oT sF iV copyV iJ wV Tu U3 Gk kX Mb Qq Sb nL rR xM zA Cl zB Ro sM sC jS fL setLoop cH
variable {G:Bg} {h:AH} {L L':List HP} {Q:Value->AH->Prop} {Cf:bN} {m N:Nat} {M:cU}
def Wi (G:Bg) (v:Value) (l:List Do):Prop:=uA G 4 v (l.map Do.enc).length (fun i=>(l.map Do.enc).getD i [])
theorem zi {v:Value} {l:List Do} (a:Wi G v l) (b:Hs G h L):Hs G h (Al G 4 62 v (l.map Do.enc)::L):=Ah (by simp[Do.enc]) a b
theorem aDj {v:Value} {l:List Do} {k:Value->Prop} (b:Wi G v l) (a:k (I l.length)):bG (lH v) k:=A.uM b (by rw[List.length_map];exact a)
theorem aDt {d:Do} {a:Addr} {c:Nat} {k:Value->AH->Prop} (hC:Cf.Ok) (hG:Gb G) (g:dU Cf N M) (j:N<=2^28) (b:Hs G h (dH 4 62 (some a) c (1,d.enc)::bU G Cf m M::L))
  (i:∀f,Hs G f (bU G Cf m (M.Dp Cf d).1::L)->k (.tuple ⟨[I (M.tI Cf [d] 0).2.1,I (M.tI Cf [d] 0).2.2]⟩) f):Cl Pr K 22 [pt m 0 0,.slice (some a) 1 c] h k:=by
 have b:=qs (l:=[d].map Do.enc) (n:=1) (cs:=d.enc) (by simp[Do.enc]) rfl (by simp) b
 refine aBw (l:=[d]) (v:= .slice (some a) 1 c) hC hG g (by simp;omega) b fun h b=>i h ?_
 rw[qe] at b
 exact b.tail
end
end Go.Proofs.YtmhapehobfnoiaaGreatDoor
namespace Go.Ab
open Go Go.RowKit Go.ChangeShapes Go.WideShapes Go.ChangeAt
section
variable {P:Program} {H:Type} {enc:TypeId×Value->H} {w:World} {base:Nat} {spare:Nat->Bool} {held:Bool}
theorem yo {ρ:iP} {v:Value}:aF ρ top v:=by simp[top,aF]
theorem Yt {ρ:iP}:∀{l l':List Value},l.length=l'.length->(∀(j:Nat) (u v:Value),l[j]?=some u->l'[j]?=some v->aF ρ u v)->aU ρ l l'
 |[],[],_,_=>aU.nil
 |u::l,v::l',h,k=>aU.cons (k 0 u v rfl rfl) (Yt (by simpa using h) fun j a b c f=>k (j+1) a b (by simpa using c) (by simpa using f))
 |[],_::_,h,_=>by simp at h
 |_::_,[],h,_=>by simp at h
def aDa (P:Program) (w:World) (ρ:iP) (r:OB):Prop:=
 (∀o,r.1=some o->∀b s,r.2=some (b,s)->∃a,w.heap[b]?=some a/\tZ P ρ s o a)/\(∀b s,r.2=some (b,s)->b<w.heap.size)
theorem W3.at' {r:OB} (h:W3 P w r) (ρ:iP):aDa P w ρ r:=⟨fun o g b s f=>let⟨i,a,c⟩:=h.1 o g b s f;⟨i,a,c ρ⟩,h.2⟩
theorem iq {g:Nat} {gl:Nat->Option oS} {rs:List OB} (v:P.globals.size<=g) (t:g<=w.heap.size) (f:zz P g gl w) (k:∀r∈rs,aDa P w (sH g rs) r):Reads P (g+rs.length) (yU g gl rs) (sH g rs) w where
 nD:=fun i o j c b s a=>by
  have q:=a;unfold yU at c;unfold sH at a;split at c;rename_i h;rw[aKj h] at a;cases a;obtain⟨u,l,p⟩:=f i o h c;exact⟨u,l,p _⟩;rename_i h;rw[aKi h] at a;rw[List.getElem?_eq_getElem (by omega)] at c a;exact(k _ (List.getElem_mem (by omega))).1 o c b s a
 low:=fun i b s j a=>by
  unfold sH at a;split at a;cases a;omega;rw[List.getElem?_eq_getElem (by omega)] at a;exact(k _ (List.getElem_mem (by omega))).2 b s a
 none:=fun i j=>by unfold sH;rw[aab,List.getElem?_eq_none (by omega)];rfl
 qR:=fun i j=>by unfold sH;rw[aac]
def Ed (j:List (Option IntKind)) (w:World) (a:Option Addr) (len cap:Nat):Prop:=
 (a=none/\len=0/\cap=0)\/(∃x,a=some x/\len=0)\/
 ∃x cc e g,a=some x/\0<len/\x.spot=none/\len<=cap/\w.heap[x.block]?=some (.cells cc e g)/\x.off+len<=cc.size/\
  ∀i,i<len->∃b f c,cc.toList[x.off+i]?=some (.slice b f c)/\jQ j w b f c
theorem j9 {t e e2:TypeId} {n fuel:Nat} {r:List (Option IntKind)} {cs:List Value} {x:DataW H×List MemPlace} (ht:P.underlying t=some (.slice e)) (U:P.underlying e=some (.slice e2)) (V:sG P n e2=some r) (A:P.cellsOf e2=r.length) (hc:P.cellsOf e=1) (S:0<r.length)
  (h:DataW.trod enc P w base spare held fuel t cs=some x):∃a len k,cs=[.slice a len k]/\len<=maxLen/\Ed r w a len k:=by
 rcases DataW.trod_slice ht h with⟨rfl,_⟩|⟨a,len,k,elems,rest,m,_,rfl,_,v,X,hm,J,D,_,_⟩
 .exact⟨none,0,0,rfl,Nat.zero_le _,.inl ⟨rfl,rfl,rfl⟩⟩
 refine⟨some a,len,k,rfl,by omega,?_⟩
 rcases Nat.eq_zero_or_pos len with z|z
 .exact .inr (.inl ⟨a,rfl,z⟩)
 refine .inr (.inr ?_)
 have each:∀i,i<len->∃f j g,w.cell? (a.add i)=some (.slice f j g)/\jQ r w f j g:=by
  intro i E;have p:=D i E;rw[List.getElem?_eq_getElem (by omega),hc,Option.bind_eq_some_iff] at p;obtain⟨c,l,hy⟩:=p;obtain⟨f,j,g,B,Y⟩:=F1 U V A S hy;subst B;refine⟨f,j,g,?_,Y⟩;unfold World.cells? at l;split at l;have:=mapM_some_get l 0 0 (by simp);rw[Nat.mul_one] at this;have R:(a.add i).add 0=a.add i:=rfl;rw[R] at this;simpa using this;cases l
 obtain⟨a0,l0,c0,b,Z⟩:=each 0 z
 obtain⟨cc,O,s,v,y⟩:∃cc e s,w.heap[a.block]?=some (.cells cc e s)/\a.spot=none:=by
  have I:a.add 0=a:=rfl;rw[I] at b;unfold World.cell? at b;split at b;rename_i c e s v;split at b;cases b;rename_i y;exact⟨c,e,s,v,by simpa using y⟩;cases b
 have q:∀o,w.cell? ⟨a.block,o,none⟩=cc[o]?:=by
  intro o;unfold World.cell?;rw[v];simp
 have u:∀i,i<len->∃f j g,cc.toList[a.off+i]?=some (.slice f j g)/\jQ r w f j g:=by
  intro i E;obtain⟨f,j,g,p,T⟩:=each i E;rw[Vs y,q] at p;exact⟨f,j,g,by rw[Array.getElem?_toList];exact p,T⟩
 refine⟨a,cc,O,s,rfl,z,y,X,v,?_,u⟩
 obtain⟨f,j,g,p,_⟩:=u (len - 1) (by omega)
 have:=(List.getElem?_eq_some_iff.1 p).1
 simp at this
 omega
theorem Jf {W:World} {t:TypeId} {fs:Array Field} {i:Nat} {f:Field} {l:List Value} {d:DataW H} {p:List MemPlace} {n:Nat} {k:List (Option IntKind)} (q:P.underlying t=some (.struct fs)) (g:fs[i]?=some f) (o:sG P n f.type=some k)
  (h:DataW.Trod enc P W 0 (fun _=>true) true t (.agg ⟨l⟩) d p):Flat k ((l.drop f.offset).take (P.cellsOf f.type)):=by
 obtain⟨fuel,b⟩:=h
 obtain⟨s,m,_,_,u,r,a⟩:=DataW.trod_struct q b
 have j:=a i f g
 have c:i<s.length:=by rw[r];exact(Array.getElem?_eq_some_iff.1 g).1
 rw[List.getElem?_eq_getElem c] at j
 have:=Ot n o j
 simpa [Value.cells] using this
theorem Jp {W:World} {t e e2:TypeId} {fs:Array Field} {i:Nat} {f:Field} {l:List Value} {d:DataW H} {p:List MemPlace} {n:Nat} {j:List (Option IntKind)} (D:P.underlying t=some (.struct fs)) (r:fs[i]?=some f)
  (E:P.underlying f.type=some (.slice e)) (q:P.underlying e=some (.slice e2)) (v:P.cellsOf f.type=1) (x:P.cellsOf e=1) (y:sG P n e2=some j) (hc:P.cellsOf e2=j.length) (u:0<j.length)
  (h:DataW.Trod enc P W 0 (fun _=>true) true t (.agg ⟨l⟩) d p):∃a len b,l[f.offset]?=some (.slice a len b)/\len<=maxLen/\Ed j W a len b:=by
 obtain⟨fuel,k⟩:=h
 obtain⟨J,m,_,_,R,I,c⟩:=DataW.trod_struct D k
 have s:=c i f r
 have o:i<J.length:=by rw[I];exact(Array.getElem?_eq_some_iff.1 r).1
 rw[List.getElem?_eq_getElem o] at s
 obtain⟨a,len,b,g,A,B⟩:=j9 E q y hc x u s
 refine⟨a,len,b,?_,A,B⟩
 rw[v] at g
 have O:(Value.cells (.agg ⟨l⟩)).toList=l:=by simp[Value.cells]
 have:=congrArg (fun z=>z[0]?) g
 simpa [Value.cells] using this
structure aGg (P:Program) (w:World) (ks:List (Option IntKind)) (k0:Nat) (a:Option Addr) (len cap:Nat) (r:OB) (rs:List OB) (t:Nat->Value) (vs:List Value) (ns:List Nat) (at':Nat->Nat->List Value):Prop where
 ok:∀x∈rs,W3 P w x
 out:∀ρ:iP,(∀i x,rs[i]?=some x->ρ (k0+i)=x.2)->aDa P w ρ r
 rel:∀ρ k,ρ k=r.2->aF ρ (t k) (.slice a len cap)
 lvs:vs.length=len
 iC:ns.length=len
 flat:∀i n,ns[i]?=some n->∀j,j<n->Flat ks (at' i j)
 old:∀(G:Bg) k,k<G.base->G.old k=r.1->(∀i x,rs[i]?=some x->k0+i<G.base/\G.old (k0+i)=x.1)->
  uA G 1 (t k) len (fun i=>[vs.getD i undef])/\qb G (t k) len/\∀i v n,vs[i]?=some v->ns[i]?=some n->uA G ks.length v n (at' i)/\qb G v n
theorem mf (P:Program) {B:List (Option IntKind)} {a:Option Addr} {len cap:Nat} (l:Nat) (h:Ed B w a len cap):∃r rs t vs ns at',aGg P w B l a len cap r rs t vs ns at':=by
 rcases h with⟨rfl,rfl,rfl⟩|⟨x,rfl,rfl⟩|⟨x,cc,e,S,rfl,h0,hs,hl,hb,γ,hf⟩;exact⟨(none,none),[],fun _=> .slice none 0 0,[],[],fun _ _=>[],⟨fun x Z=>(by cases Z),fun ρ _=>⟨fun o h=>(by cases h),fun b s h=>(by cases h)⟩,fun ρ k _=>(by simp only[aF]),rfl,rfl,fun i n q=>(by simp at q),fun G k _ _ _=>⟨⟨none,0,rfl,fun i c=>(by omega)⟩,.inl ⟨rfl,rfl⟩,fun i v n f=>(by simp at f)⟩⟩⟩;refine⟨(none,none),[],fun _=> .slice (some ⟨0,0,some 0⟩) 0 0,[],[],fun _ _=>[],⟨fun x Z=>(by cases Z),fun ρ _=>⟨fun o h=>(by cases h),fun b s h=>(by cases h)⟩,fun ρ k _=>?_,rfl,rfl,fun i n q=>(by simp at q),fun G k _ _ _=>⟨⟨some ⟨0,0,some 0⟩,0,rfl,fun i c=>(by omega)⟩,.inr (.inl ⟨rfl,rfl⟩),fun i v n f=>(by simp at f)⟩⟩⟩;simp only[aF];exact⟨trivial,trivial,x,cap,fun h=>by omega,fun h=>by omega,rfl⟩;have E:∀i,∃(y:OB×(Nat->Value)×(Nat->List Value)×Nat×Value),i<len->cc.toList[x.off+i]?=some y.2.2.2.2/\W3 P w y.1/\(∀ρ k,ρ k=y.1.2->aF ρ (y.2.1 k) y.2.2.2.2)/\(∀j,j<y.2.2.2.1->Flat B (y.2.2.1 j))/\
   ∀(G:Bg) k,k<G.base->G.old k=y.1.1->uA G B.length (y.2.1 k) y.2.2.2.1 y.2.2.1/\qb G (y.2.1 k) y.2.2.2.1:=by
  intro i
  by_cases c:i<len
  .obtain⟨a',l',c',p,T⟩:=hf i c;obtain⟨r,t,U,h4,at',h5,h6⟩:=wK P T;exact⟨(r,t,at',l',.slice a' l' c'),fun _=>⟨p,U,h4,h5,h6⟩⟩
  .exact⟨((none,none),fun _=>undef,fun _=>[],0,undef),fun h=>absurd h c⟩
 obtain⟨Y,J⟩:∃Y:Nat->OB×(Nat->Value)×(Nat->List Value)×Nat×Value,∀i,i<len->cc.toList[x.off+i]?=some (Y i).2.2.2.2/\W3 P w (Y i).1/\(∀ρ k,ρ k=(Y i).1.2->aF ρ ((Y i).2.1 k) (Y i).2.2.2.2)/\(∀j,j<(Y i).2.2.2.1->Flat B ((Y i).2.2.1 j))/\
   ∀(G:Bg) k,k<G.base->G.old k=(Y i).1.1->uA G B.length ((Y i).2.1 k) (Y i).2.2.2.1 (Y i).2.2.1/\qb G ((Y i).2.1 k) (Y i).2.2.2.1:=
  ⟨fun i=>(E i).choose,fun i c=>(E i).choose_spec c⟩
 have A:∀{α:Type} (g:Nat->α) (i:Nat) (z:α),((List.range len).map g)[i]?=some z->i<len/\z=g i:=by
  intro α g i z R;have c:i<len:=by have:=(List.getElem?_eq_some_iff.1 R).1;simpa using this
  rw[List.getElem?_map,List.getElem?_range c] at R;simp only[Option.map_some,Option.some.injEq] at R;exact⟨c,R.symm⟩
 refine⟨(some (.cells ((List.range cc.size).map fun j=>if x.off<=j/\j<x.off+len then(Y (j - x.off)).2.1 (l+(j - x.off)) else top) e S false),some (x.block,(0,0))),(List.range len).map fun i=>(Y i).1,fun k=> .slice (some ⟨k,x.off,none⟩) len cap,
     (List.range len).map fun i=>(Y i).2.1 (l+i),(List.range len).map fun i=>(Y i).2.2.2.1,fun i=>(Y i).2.2.1,⟨?_,?_,?_,by simp,by simp,?_,?_⟩⟩
 intro y hy;obtain⟨i,c,rfl⟩:=List.mem_map.1 hy;exact(J i (List.mem_range.1 c)).2.1;intro ρ hρ;refine⟨fun o ho b s I=>?_,fun b s I=>?_⟩;cases ho;cases I;refine⟨_,hb,cc,rfl,?_,by simp,fun h=>by cases h⟩;rw[List.drop_zero,List.take_of_length_le (by simp)];refine Yt (by simp) fun j u v O f=>?_;rw[List.getElem?_map] at O;have V:j<cc.size:=by have:=(List.getElem?_eq_some_iff.1 f).1;simpa using this
 rw[List.getElem?_range V] at O;simp only[Option.map_some,Option.some.injEq] at O;subst O;split;rename_i hc;obtain⟨p,_,U,_,_⟩:=J (j - x.off) (by omega);rw[show x.off+(j - x.off)=j by omega,f] at p;simp only[Option.some.injEq] at p;rw[p];refine U ρ _ (hρ (j - x.off) _ ?_);rw[List.getElem?_map,List.getElem?_range (by omega)];rfl;exact yo;cases I;exact(Array.getElem?_eq_some_iff.1 hb).1;intro ρ k I;simp only[aF];exact⟨x.block,(0,0),cap,I,Nat.le_refl _,by simp,by cases x;simp at hs;subst hs;rfl⟩;intro i n q j V;obtain⟨c,rfl⟩:=A _ i n q;exact(J i c).2.2.2.1 j V;intro G k hk hg D;refine⟨⟨_,_,rfl,fun i c=>⟨k,x.off,_,rfl,⟨hk,e,S,false,hg⟩,?_,by simp;omega⟩⟩,.inr (.inr ⟨k,x.off,cap,_,e,S,rfl,h0,hl,hk,hg⟩),fun i v n f q=>?_⟩;have β:x.off+i*1<cc.size:=by omega
 have X:x.off+i*1<((List.range cc.size).map fun j=>if x.off<=j/\j<x.off+len then(Y (j - x.off)).2.1 (l+(j - x.off)) else top).length:=by simp;omega
 rw[List.drop_eq_getElem_cons X,List.take_succ_cons,List.take_zero];have e1:((List.range len).map fun i=>(Y i).2.1 (l+i)).getD i undef=(Y i).2.1 (l+i):=by
  rw[List.getD_eq_getElem?_getD,List.getElem?_map,List.getElem?_range c];rfl
 show[_]=[((List.range len).map fun i=>(Y i).2.1 (l+i)).getD i undef];rw[e1];simp only[List.getElem_map,List.getElem_range];rw[aac,show x.off+i*1 - x.off=i by omega];obtain⟨c,rfl⟩:=A _ i v f;obtain⟨_,rfl⟩:=A _ i n q;obtain⟨p,T⟩:=D i (Y i).1 (by rw[List.getElem?_map,List.getElem?_range c];rfl);exact(J i c).2.2.2.2 G (l+i) p T
end
end Go.Ab
section
open Go Go.Ab
attribute [local irreducible] bG Br ld1 uF uG B4 mA uX lK P3 hQ mY qG pZ pS lH zE uE Uh Ty Oa Mr Rk Ol Md Ny Rn lN oT sF iV copyV iJ wV Tu U3 Gk kX Mb Qq Sb nL rR xM zA Cl zB Ro sM sC jS fL setLoop cH
namespace Go.Proofs.YtmhapehobfnoiaaGreatDoor
open Go Go.Ab Go.Hm Go.At Go.Mc Go.Ct Go.Nt Go.Is
section
instance:Fx oG 2:=⟨fun _=>rfl,fun _=>rfl⟩
set_option maxRecDepth 100000
variable {G:Bg} {h:AH} {L L':List HP} {Q:Value->AH->Prop}
end
section
set_option maxRecDepth 100000
variable {G:Bg} {h:AH} {L L':List HP} {Q:Value->AH->Prop}
end
section
set_option maxRecDepth 100000
variable {G:Bg} {h:AH} {L L':List HP} {Q:Value->AH->Prop} {C:bN}
def xp (p:Nat) (l:List Ln):HP:=sB fun x:Option Addr×Nat=>sp [aE p 0 [.slice x.1 l.length x.2],ls oG 2 68 x.1 x.2 l]
theorem aJb {p:Nat} {l:List Ln} (hb:l.length<=1000):Xn Pr K G 161 [] [pt p 0 0] (xp p l) ((l.zipIdx).map fun x=>[I x.2,.agg ⟨oG x.1⟩]):=by
 intro q J y L h Q g O t u;obtain⟨⟨a,c⟩,g⟩:=g.tW;have g:=g.zH;have j:∀{h:AH} {M:List HP},Hs G h (aE p 0 [.slice a l.length c]::ls oG 2 68 a c l::M)->Hs G h (xp p l::M):=fun g=>Hs.qU (A:=fun x:Option Addr×Nat=>sp [aE p 0 [.slice x.1 l.length x.2],ls oG 2 68 x.1 x.2 l]) (a,c) g.yS;refine cW (am p g rfl (bP ?_));have loop:∀(f i:Nat) (h:AH),i+f=l.length->Hs G h (aE p 0 [.slice a l.length c]::ls oG 2 68 a c l::q (((l.drop i).zipIdx i).map fun x=>[I x.2,.agg ⟨oG x.1⟩])::L)->Dd 161 1 [] Q [y,(.slice a l.length c),(I l.length),(I i)] h:=by
  intro f;induction f with
  |zero=>
   intro i h B g;rw[List.drop_of_length_le (by omega)] at g;exact bW (aS (aaa (t _ _ (j g))))
  |succ f R=>
   intro i h B g;obtain⟨x,E,z⟩:=mB (l:=l) (i:=i) (by omega);rw[z,List.zipIdx_cons,List.map_cons] at g;refine bW (aS (aae (bW (jV (l:=l) (a:=a) (c:=c) (enc:=oG) (e:=68) g (by decide) (by omega) (by rw[Int.toNat_natCast];exact E) (bM g fun r h g=>ax (b:=r) g fun h g=>an r g (l:=oG x) rfl rfl ?_)))));refine(O _ _ h _ (g.front (q ([I i,.agg ⟨oG x⟩]::(((l.drop (i+1)).zipIdx (i+1)).map fun x=>[I x.2,.agg ⟨oG x.1⟩]))))).mono fun v s D=>?_;rcases D with⟨rfl,k⟩|⟨rfl,k⟩;exact bX (bV (bW (aad (R (i+1) s (by omega) k.to))));exact bX (eZ (u _ _ (j k.to)))
 exact loop l.length 0 h (by omega) (by rw[List.drop_zero];exact g)
end
section
def a7 (n k:Nat) (mem:Nat->Ln):List Ln:=(List.range n).map fun j=>if j<k then mem j else(0,0)
theorem O8 {n k:Nat} {mem:Nat->Ln}:(a7 n k mem).length=n:=by simp[a7]
theorem y1 {n k:Nat} {mem:Nat->Ln}:(a7 n k mem).set k (mem k)=a7 n (k+1) mem:=by
 apply List.ext_getElem?;intro i;simp only[a7,List.getElem?_set,List.length_map,List.length_range,List.getElem?_map];grind
theorem y5 {n:Nat} {mem:Nat->Ln}:a7 n n mem=(List.range n).map mem:=by
 apply List.map_congr_left;intro j a;rw[aKj (by simpa using a)]
theorem bx (n:Nat):dY [I 0,I 0] n=eL oG (List.replicate n (0,0)):=by
 induction n with
 |zero=>rfl
 |succ n a=>rw[List.replicate_succ,pQ,<-a];rfl
theorem wb {n:Nat} {mem:Nat->Ln}:dY [I 0,I 0] n=eL oG (a7 n 0 mem):=by
 rw[bx];congr 1;apply List.ext_getElem?;intro i;simp only[a7,List.getElem?_map,List.getElem?_replicate];grind
set_option maxRecDepth 100000
variable {G:Bg} {h:AH} {L L':List HP} {Q:Value->AH->Prop} {C:bN}
theorem Xg {mb:Nat} {mem:Nat->Ln} (hC:C.Ok) (D:Ob G 0 fJ) (g:Hs G h L) [m:Has (eW G C.lines mb C) L mem L']
  (S:∀a c q,Hs G q (ls oG 2 68 a c ((List.range C.lines).map mem)::eW G C.lines mb C mem::L')->Q (.slice a C.lines c) q):Cl Pr K 114 [pt mb 0 0] h Q:=by
 have t:=bN.bk hC
 have T:=bN.eE hC
 have O:=hC.2.1
 have loop:∀(f i:Nat) (a:Option Addr) (c:Nat) (h:AH),i+f=C.lines->Hs G h (ls oG 2 68 a c (a7 C.lines i mem)::eW G C.lines mb C mem::L')->Dd 114 2 [] Q [pt mb 0 0,.slice a C.lines c,I C.lines,I i] h:=by
  intro f;induction f with
  |zero=>
   intro i a c h R g;obtain rfl:i=C.lines:=by omega
   rw[y5] at g;exact bW (aS (aaa (S a c h g)))
  |succ f U=>
   intro i a c h R g;have A:i<C.lines:=by omega
   obtain⟨b,o,j,g⟩:=rF (g.front (eW G C.lines mb C mem));refine bW (aS (aae (bW (sO hC D g A fun h g=>aI rfl (aI rfl (aI rfl (bJ (bS rfl (bW ?_)))))))));have g:=(g.front (dE C.aK.toNat fun i=>fF C.lines C.aK.toNat b (o+i*3) i mem)).kO (i % C.aK.toNat) (Nat.mod_lt _ t.2.1);obtain⟨r,w,J,z,g⟩:=vN g;refine aB (aA (aC g rfl ?_));have s:=Ec t.2.1 A;obtain⟨x,E,rfl,H,g,p⟩:=Hs.Y7 (H4 (B:=C.aK.toNat) (i:=i % C.aK.toNat) (mem:=mem)) s (g.front (dH 2 68 J z (gT C.lines C.aK.toNat (i % C.aK.toNat),(List.range (gT C.lines C.aK.toNat (i % C.aK.toNat))).flatMap (Lb C.aK.toNat (i % C.aK.toNat) mem))));rw[Xb t.2.1] at g;refine dN s (aR g (by decide) (l:=oG (mem i)) rfl rfl ?_);have g:=p _ _ _ rfl rfl (g.cC (aE x (E+i/C.aK.toNat*2) (oG (mem i))) H);rw[Hp t.2.1,wN] at g;have g:=nU (g.sg (b:=b) (o:=o+i % C.aK.toNat*3) (c:=[I r,I w,.slice (some ⟨x,E,none⟩) (gT C.lines C.aK.toNat (i % C.aK.toNat)) z]) rfl);have g:Hs _ _ (eW G C.lines mb C mem::ls oG 2 68 a c (a7 C.lines i mem)::L'):=oJ (b:=b) (o:=o) (cap:=j) ((g.oB (n:=C.aK.toNat) (i:=i % C.aK.toNat) (fun i=>fF C.lines C.aK.toNat b (o+i*3) i mem) (fun i=>fF C.lines C.aK.toNat b (o+i*3) i mem) (Nat.mod_lt _ t.2.1) (fun _ _ _=>rfl)).to);have e:(a7 C.lines i mem).length=C.lines:=O8;have:=Q5 (l:=a7 C.lines i mem) (a:=a) (c:=c) (enc:=oG) (e:=68) (i:=(i:Int)) (y:=mem i) (h:=_) (k:=fun q=>bG (uE .add (I i) (I 1)) fun v=>Dd 114 2 [] Q [pt mb 0 0,.slice a C.lines c,I C.lines,v] q) (g.front (ls oG 2 68 a c (a7 C.lines i mem))) (by decide) (by omega) (by rw[e];omega) fun q u=>?_;rw[e] at this;exact this;rw[Int.toNat_natCast,y1] at u;exact aad (U (i+1) a c q (by omega) u.to)
 obtain⟨b,o,j,g⟩:=rF (show Hs G h (eW G C.lines mb C mem::L') from m.of g)
 refine cW (dD (bV (bW (aB (aA (aR g (by decide) (l:=C.enc) rfl rfl (pK hC D g fun h g=>ud (by omega) (by omega) ?_)))))))
 have g:=oJ g
 refine dK (W:=2) (n:=C.lines) (c:=C.lines) g (by rw[wb (mem:=mem),Ac,O8]) rfl (by rw[wb (mem:=mem)];exact Fy) fun a h g=>?_
 rw[wb (mem:=mem)] at g
 refine bP (loop C.lines 0 (some a) C.lines h (by omega) ?_)
 unfold ls
 rw[O8]
 exact g
end
end Go.Proofs.YtmhapehobfnoiaaGreatDoor
namespace Go.Proofs.YtmhapehobfnoiaaGreatDoor
open Go Go.Ab Go.Hm Go.At Go.Mc Go.Nt
section
def fE (q:Nat):List Value:=[.func (.func 248) #[] #[pt q 0 0]]
instance:Fx fE 1:=⟨fun _=>rfl,fun _=>rfl⟩
abbrev fns (a:Option Addr) (c:Nat) (l:List Nat):HP:=ls fE 1 164 a c l
def dW (F:fM):Nat->List aH:=fun k=>F (k/4) (k % 4)
theorem r6 {l done:List Nat} {y:Nat} (h:done++[y]<+:l):done.length<l.length/\l.getD done.length 0=y:=by
 obtain⟨t,rfl⟩:=h;refine⟨by simp,?_⟩;simp[List.getD_eq_getElem?_getD]
set_option maxRecDepth 100000
variable {G:Bg} {h:AH} {L L' M:List HP} {Q:Value->AH->Prop} {C:bN}
abbrev Hk:Nat->Nat->List aH->HP:=fun _ q l=>pz q l
theorem aHf {a:Option Addr} {c i:Nat} {l:List Nat} {k:Value->Prop} (f:Hs G h L) [m:Has (fns a c) L l L'] (q:i<l.length) (s:k (.func (.func 248) #[] #[pt (l.getD i 0) 0 0])):bG (lN 1 (.slice a l.length c) (I i)) fun p=>bG (ld1 h p) k:=by
 have t:l[i]?=some (l.getD i 0):=by rw[List.getD_eq_getElem?_getD,List.getElem?_eq_getElem q];rfl
 have f:Hs G h (dH 1 164 a c (l.length,eL fE l)::L'):=m.of f;obtain⟨b,o,rfl,g⟩:=f.fV (by omega);refine dN q ?_;rw[show pt b (o+i*1) 0=pt b o (i*1) by simp[pt]];have r:(eL fE l)[i*1]?=some (.func (.func 248) #[] #[pt (l.getD i 0) 0 0]):=Hw (enc:=fE) (W:=1) (j:=0) t rfl;exact aC (b:=b) (o:=o) (j:=i*1) g r s
def J4 (z:Nat) (l:List Nat):HP:=sB fun x:Option Addr×Nat=>sp [aE z 0 [.slice x.1 l.length x.2],fns x.1 x.2 l]
theorem aAa {f i:Nat} {F:fM} {t:Value} (hC:C.Ok) (v:∀c w,(F c w).length<=500) (z:(i:Int)<C.aD)
  (A:∀ql a c k,ql.length=4*i+4->Hs G k (fns a c ql::mX Hk ql (dW F)::oD C f F::L)->Dd 111 6 [] Q [(pt f 0 0),(.slice a ql.length c),t,(I i)] k):
  ∀(g w:Nat) (ql:List Nat) (a:Option Addr) (c:Nat) (h:AH),w+g=4->ql.length=4*i+w->Hs G h (fns a c ql::mX Hk ql (dW F)::oD C f F::L)->Dd 111 4 [] Q [(pt f 0 0),(.slice a ql.length c),(I i),t,(I i),(I w)] h:=by
 have E:=hC.1
 intro g
 induction g with
 |zero=>
  intro w ql a c h B o b
  exact bW (aS (aaa (A ql a c h (by omega) b)))
 |succ g D=>
  intro w ql a c h B o b
  refine bW (aS (aae (bW (ml (C:=C) (F:=F) (x:=i) (y:=w) hC v z (by omega) b fun q h b=>?_))))
  have u:dW F ql.length=F i w:=by
   unfold dW;rw[o,show(4*i+w)/4=i by omega,show(4*i+w) % 4=w by omega]
  have b:Hs G h (Hk ql.length q (dW F ql.length)::oD C f F::fns a c ql::mX Hk ql (dW F)::L):=by rw[u];exact b.to
  refine aN (c:=fE q) rfl (dK (W:=1) (n:=1) (c:=1) b rfl rfl rfl fun j h b=>?_)
  have b:=nX (enc:=fE) (W:=1) (e:=164) (x:=q) b
  refine kL (enc:=fE) (W:=1) (e:=164) (l:=ql) (l2:=[q]) (a:=a) (c:=c) (a2:=some j) (c2:=1) b (by simp;omega) fun p r h b=>?_
  have b:=Ig (R:=Hk) (l:=ql) (q:=q) (s:=dW F) (b.cC (Hk ql.length q (dW F ql.length)) (mX Hk ql (dW F)))
  exact aad (D (w+1) (ql++[q]) p r h (by omega) (by simp;omega) b.to)
theorem yw {f:Nat} {F:fM} (hC:C.Ok) (p:∀c w,(F c w).length<=500) (j:Hs G h L) [m:Has (oD C f) L F L']
  (r:∀z ql k,ql.length=4*C.aD.toNat->Hs G k (J4 z ql::mX Hk ql (dW F)::oD C f F::L')->Q (.func (.func 201) #[] #[pt z 0 0]) k):Cl Pr K 111 [pt f 0 0] h Q:=by
 have y:=hC.1
 have loop:∀(g i:Nat) (ql:List Nat) (a:Option Addr) (c:Nat) (h:AH),i+g=C.aD.toNat->ql.length=4*i->Hs G h (fns a c ql::mX Hk ql (dW F)::oD C f F::L')->Dd 111 2 [] Q [(pt f 0 0),(.slice a ql.length c),(I C.aD),(I i)] h:=by
  intro g;induction g with
  |zero=>
   intro i ql a c h q l j;refine bW (aS (aaa (cW (dF j fun z h j=>r z ql h (by omega) ?_))));exact Hs.qU (A:=fun x:Option Addr×Nat=>sp [aE z 0 [.slice x.1 ql.length x.2],fns x.1 x.2 ql]) (a,c) j.yS
  |succ g u=>
   intro i ql a c h q l j;refine bW (aS (aae (bW ?_)));refine aAa (f:=f) (i:=i) (t:=I C.aD) hC p (by omega) (fun ql a c h l j=>?_) 4 0 ql a c h rfl (by omega) j;exact bW (aad (u (i+1) ql a c h (by omega) (by omega) j))
 obtain⟨pl,j⟩:=Aw (m.of j)
 refine cW (K6 (eZ (bW (aB (aA (aA (am f j (v:=I C.aD) rfl ?_)))))))
 have j:=mF (enc:=fE) (W:=1) (e:=164) (Hv (R:=Hk) (s:=dW F) (mK j))
 exact loop C.aD.toNat 0 [] none 0 h (by omega) rfl j
theorem aEo {z:Nat} {l:List Nat} (hb:l.length<=1000):Xn Pr K G 201 [] [pt z 0 0] (J4 z l) (l.map fE):=by
 intro q J y L h Q g E s t;obtain⟨⟨a,c⟩,g⟩:=g.tW;have g:=g.zH;have j:∀{h:AH} {M:List HP},Hs G h (aE z 0 [.slice a l.length c]::fns a c l::M)->Hs G h (J4 z l::M):=fun g=>Hs.qU (A:=fun x:Option Addr×Nat=>sp [aE z 0 [.slice x.1 l.length x.2],fns x.1 x.2 l]) (a,c) g.yS;refine cW (am z g rfl (bP ?_));have loop:∀(f i:Nat) (h:AH),i+f=l.length->Hs G h (aE z 0 [.slice a l.length c]::fns a c l::q ((l.drop i).map fE)::L)->Dd 201 1 [] Q [y,(.slice a l.length c),(I l.length),(I i)] h:=by
  intro f;induction f with
  |zero=>
   intro i h B g;rw[List.drop_of_length_le (by omega)] at g;exact bW (aS (aaa (s _ _ (j g))))
  |succ f O=>
   intro i h B g;have k:i<l.length:=by omega
   have u:l.drop i=l.getD i 0::l.drop (i+1):=by rw[List.drop_eq_getElem_cons k,List.getD_eq_getElem?_getD,List.getElem?_eq_getElem k];rfl
   rw[u,List.map_cons] at g;refine bW (aS (aae (bW (aHf (l:=l) (a:=a) (c:=c) g k ?_))));refine(E _ _ h _ (g.front (q (fE (l.getD i 0)::((l.drop (i+1)).map fE))))).mono fun v r D=>?_;rcases D with⟨rfl,p⟩|⟨rfl,p⟩;exact bX (bV (bW (aad (O (i+1) r (by omega) p.to))));exact bX (eZ (t _ _ (j p.to)))
 exact loop l.length 0 h (by omega) (by rw[List.drop_zero];exact g)
end
end Go.Proofs.YtmhapehobfnoiaaGreatDoor
namespace Go.Proofs.YtmhapehobfnoiaaGreatDoor
open Go Go.Ab Go.Hm Go.At Go.Mc Go.Ct Go.Nt Go.Is
section
set_option maxRecDepth 100000
variable {G:Bg} {h:AH} {L L':List HP} {Q:Value->AH->Prop} {C:bN}
abbrev yF (l:Nat):Value:= .func (.yield l) #[] #[]
abbrev rwF (z:Nat):Value:= .func (.func 201) #[] #[pt z 0 0]
theorem bq {f:Nat} {F:fM} (hC:C.Ok) (k:∀c w,(F c w).length<=500) (a:Hs G h L) [m:Has (oD C f) L F L']
  (l:∀z g p j,g.length=4*C.aD.toNat->Hs G j (aE p 0 [rwF z]::J4 z g::mX Hk g (dW F)::oD C f F::L')->Q (.func (.func 112) #[] #[pt p 0 0]) j):Cl Pr K 57 [pt f 0 0] h Q:=
 cW (yw (C:=C) (F:=F) hC k (m.of a) fun z g h i a=>bM a fun p h a=>ax (b:=p) a fun h a=>l z g p h i a)
end
end Go.Proofs.YtmhapehobfnoiaaGreatDoor
end
namespace Go.Proofs.YtmhapehobfnoiaaGreatDoor.C
open Go Go.Ab Go.Hm Go.Ct
section
theorem aEf {h:AH} {W bytes:Nat} {e:TypeId} {a:Option Addr} {c:Nat} {k:Value×AH->Prop} (b:k (.slice none 0 0,h)):bG (iV W bytes e h (.slice none 0 0) (.slice a 0 c)) k:=
 ⟨_,by cases a<;>simp[iV,tG,gE],b⟩
theorem aHh {k:Value->Prop} (a:k (.int .u64 0)):bG (nL .u64 (I (0:Nat))) k:=⟨_,rfl,a⟩
set_option maxRecDepth 100000
attribute [local irreducible] bG Br ld1 uF uG B4 mA uX lK P3 hQ mY qG pZ pS lH zE uE Uh Ty Oa Mr Rk Ol Md Ny Rn lN oT sF iV copyV iJ wV Tu U3 Gk kX Mb Qq Sb nL rR xM zA Cl zB Ro sM sC jS fL setLoop cH
variable {G:Bg} {h:AH} {L L' M:List HP} {Q:Value->AH->Prop}
theorem Qn {b o cap n i:Nat} {S:Nat->List Th} {k:Value->Prop} (g:i<n) (f:Hs G h L) [m:dT (dE n fun i=>cQ b (o+i*1) (S i)) L L'] (j:∀a c,k (.slice a (S i).length c)):bG (lN 1 (.slice (some ⟨b,o,none⟩) n cap) (I i)) fun p=>bG (ld1 h p) k:=by
 have f:=(f.perm m.perm).kO i g;obtain⟨a,c,f⟩:=pI f;exact dN g (aC f rfl (j a c))
theorem va (a:Q (.slice none 0 0) h):Cl Pr K 156 [.slice none 0 0,I 0] h Q:=
 Be (F:=G5 256 0) rfl (by unfold G5;rw[aKj rfl]) a
theorem Wz {b o cap n:Nat} {S:Nat->List Th} (q:n<=1000) (k:∀i,i<n->S i=[]) (l:Hs G h L) [m:dT (dE n fun i=>cQ b (o+i*1) (S i)) L L'] (p:Q (.slice none 0 0) h):
  Cl Pr K 103 [.slice (some ⟨b,o,none⟩) n cap] h Q:=by
 have two:∀(f i:Nat),i+f=n->Dd 103 6 [] Q [.slice none 0 0,.slice (some ⟨b,o,none⟩) n cap,I n,I i] h:=by
  intro f;induction f with
  |zero=>intro i g;exact bW (aS (aaa p))
  |succ f j=>
   intro i g;refine bW (aS (aae (bW (Qn (S:=S) (by omega) l fun a c=>?_))));rw[k i (by omega)];exact aEf (aad (j (i+1) (by omega)))
 have one:∀(f i:Nat),i+f=n->Dd 103 1 [] Q [.slice (some ⟨b,o,none⟩) n cap,I 0,.slice (some ⟨b,o,none⟩) n cap,I n,I i] h:=by
  intro f;induction f with
  |zero=>intro i g;exact bW (aS (aaa (bW (va (bP (two n 0 (by omega)))))))
  |succ f j=>
   intro i g;refine bW (aS (aae (bW (Qn (S:=S) (by omega) l fun a c=>?_))));rw[k i (by omega)];exact bP (bH (by decide) (aS (aJ (by decide) (bW (aad (j (i+1) (by omega)))))))
 exact cW (bP (one n 0 (by omega)))
theorem tq (c:Q (I 0) h):Cl Pr K 200 [.int .u64 0] h Q:=by
 refine cW (yC (v:=Value.bool false) (by kernel_rfl) (bV (bW ?_)));refine yC (v:=Value.bool false) (by kernel_rfl) (bV (bW ?_));refine yC (v:=Value.bool false) (by kernel_rfl) (bV ?_);refine yC (v:=Value.int .u8 0) (by kernel_rfl) (yC (v:=Value.int .u8 0) (by kernel_rfl) (yC (v:=I 0) (by kernel_rfl) ?_));exact bH (a:=0) (b:=0) (by decide) c
theorem tn (a:Q (.tuple ⟨[]⟩) h):Cl Pr K 104 [.slice none 0 0,.func (.func 105) #[] #[]] h Q:=by
 refine cW (bP (aHh (cW (tq ?_))));refine cW (bW (xP (by decide) (yV (bS (by decide) ?_))));exact cW (bH (by decide) (bW (aS (aJ (by decide) a))))
theorem zb {t ways n:Nat} {S:Nat->List Th} (k:n<=1000) (g:∀i,i<n->S i=[]) (a:Hs G h L) [m:Has (gJ G t ways n) L S L']
  (j:∀p f,Hs G f (aE p 0 [.slice none 0 0]::gJ G t ways n S::L')->Q (.func (.func 107) #[] #[pt p 0 0]) f):Cl Pr K 53 [pt t 0 0] h Q:=by
 obtain⟨b,o,c,a⟩:=D8 (show Hs G h (gJ G t ways n S::L') from m.of a)
 refine cW (bM a fun p h a=>K6 (eZ (bW (aB (aA (am t a rfl (Wz (S:=S) k g a ?_)))))))
 refine ax (b:=p) (o:=0) a fun h a=>am p a rfl (tn (j _ _ ?_))
 have a:=a.cI (aE t 0 (qI ways n b o c)) (hole G 1 253 (some ⟨b,o,none⟩) c n b o) (dE n fun i=>cQ b (o+i*1) (S i))
 exact(sR a).to
end
end Go.Proofs.YtmhapehobfnoiaaGreatDoor.C
section
open Go Go.Ab
attribute [local irreducible] bG Br ld1 uF uG B4 mA uX lK P3 hQ mY qG pZ pS lH zE uE Uh Ty Oa Mr Rk Ol Md Ny Rn lN oT sF iV copyV iJ wV Tu U3 Gk kX Mb Qq Sb nL rR xM zA Cl zB Ro sM sC jS fL setLoop cH
namespace Go.Proofs.YtmhapehobfnoiaaGreatDoor
open Go Go.Ab Go.Hm Go.At Go.Mc Go.Ct Go.Nt Go.Is
section
set_option maxRecDepth 100000
variable {G:Bg} {h:AH} {L L':List HP} {Q:Value->AH->Prop} {Cf:bN} {m:Nat} {M:cU}
def Vc (a:List Nat):HP:=sp (a.map fun d=>mk d ())
theorem tz:∀{b:List Nat} {h:AH} {k:AH->Prop},Hs G h (Vc b::L)->(∀f,Hs G f L->k f)->bG (cH b h) k
 |[],h,k,a,c=>iU (c h a.unpack)
 |d::b,h,k,a,c=>by
  have a:Hs G h (mk d ()::(b.map (fun d=>mk d ())++L)):=a.unpack;exact kG a fun h a=>tz (Hs.pack (A:=b.map fun d=>mk d ()) a) c
theorem xw {d1 d2:Nat} {a:List Nat} (b:Hs G h (mk d2 ()::mk d1 ()::Vc a::L)):Hs G h (Vc (d2::d1::a)::L):=by
 have b:Hs G h (Vc a::mk d2 ()::mk d1 ()::L):=b.to;have b:=b.unpack;refine Hs.pack (A:=mk d2 ()::mk d1 ()::a.map fun d=>mk d ()) ?_;refine b.perm ?_;have c:= @List.perm_middle _ (mk d2 ()) (a.map fun d=>mk d ()) (mk d1 ()::L);have f:= @List.perm_middle _ (mk d1 ()) (a.map fun d=>mk d ()) L;exact c.trans (f.cons _)
abbrev yj:List Value:=[.slice none 0 0,.slice none 0 0,.slice none 0 0,.slice none 0 0,.slice none 0 0]
theorem py {α:Type} {f:Nat->α} {i:Nat}:aX f i (f i)=f:=by
 funext j;unfold aX;split;rename_i e;rw[e];rfl
end
section
set_option maxRecDepth 100000
variable {G:Bg} {h:AH} {L L':List HP} {Q:Value->AH->Prop} {Cf:bN} {m:Nat} {M:cU}
end
section
def Df (l:List (Ln×Nat)):List Ln:=l.map Prod.fst
theorem nw {l:List (Ln×Nat)} {y:Ln×Nat}:Df l++[y.1]=Df (l++[y]):=by simp[Df]
theorem tf {l:List (Ln×Nat)}:(Df l).length=l.length:=by simp[Df]
theorem oz {l:List Ln}:Df l.zipIdx=l:=by simp[Df]
set_option maxRecDepth 100000
variable {G:Bg} {h:AH} {L L':List HP} {Q:Value->AH->Prop} {Cf:bN} {m:Nat} {M:cU}
theorem nu {mb:Nat} {mem:Nat->Ln} (hC:Cf.Ok) (i:Ob G 0 fJ) (b:Hs G h L) [j:Has (eW G Cf.lines mb Cf) L mem L']
  (g:∀p f,Hs G f (xp p ((List.range Cf.lines).map mem)::eW G Cf.lines mb Cf mem::L')->Q (.func (.func 161) #[] #[pt p 0 0]) f):Cl Pr K 58 [pt mb 0 0] h Q:=by
 refine cW (Xg hC i b fun a c h b=>cW (dF (cs:=[.slice a Cf.lines c]) b fun p h b=>g p h ?_))
 have e:((List.range Cf.lines).map mem).length=Cf.lines:=by simp
 have b:=Hs.qU (A:=fun x:Option Addr×Nat=>sp [aE p 0 [.slice x.1 ((List.range Cf.lines).map mem).length x.2],ls oG 2 68 x.1 x.2 ((List.range Cf.lines).map mem)]) (a,c) (Hs.yS (by rw[e];exact b))
 exact b
end
end Go.Proofs.YtmhapehobfnoiaaGreatDoor
end
section
namespace Go.Ab
variable {P:Program} {K:FuncId->List Value->Option kA} {G:Bg} {h:AH} {L L' M:List HP}
theorem re {W n c:Nat} {e:TypeId} {a:Option Addr} {cs:List Value} (u:Hs G h (dH W e a c (n,cs)::L)) (v:0<n):n<=c/\∃b o x,a=some ⟨b,o,none⟩/\nR h b=some x:=by
 obtain⟨r,D,⟨B,z,s⟩,t,A,q,i⟩:=u.fst;rcases s with⟨j,_⟩|⟨j,_⟩|⟨f,b,k,l,ex,rfl,hle,g⟩;simp at j;omega;simp at j;omega;simp only at g;subst g;obtain⟨y,p⟩:=Fz q i;exact⟨f,b,k.length,ex,rfl,by simp only[nR,p]⟩
variable {α:Type} {enc:α->List Value} {W:Nat} [F:Fx enc W] {e:TypeId}
end Go.Ab
end
namespace Go.Ab
open Go.Ct
section
variable {P:Program} {K:FuncId->List Value->Option kA} {G:Bg} {h:AH} {L L' M:List HP}
instance:Fx xA 5:=⟨fun _=>rfl,fun _=>rfl⟩
theorem zu {W:Nat} {f:FuncId} {e:TypeId} {n:Int} {Q:Value->AH->Prop} (g:K f [.slice none 0 0,I n]=some (.host (G5 e n))) (o:0<=n) (p:n<=1000) (j:Hs G h L)
  (i:∀a b,Hs G b (dH W e a 0 (0,[])::L)->Q (.slice a 0 0) b):Cl P K f [.slice none 0 0,I n] h Q:=by
 by_cases k:n=0
 .exact Be g (by unfold G5;rw[aKj k]) (i none h (gL j))
 .refine Be g (by unfold G5;rw[aKi k,aac]) (i _ _ ?_);have:=j.new (c:=[]) (e:=e) (x:=false);refine Hs.join (A:=[_,_]) this fun r l=>?_;refine⟨by simp,rfl,.inr (.inl ⟨rfl,rfl,h.next,0,[],rfl,Nat.le_refl _,?_⟩)⟩;simpa using rL l
theorem aAm {f:FuncId} {e:TypeId} {b o c n:Nat} {l:List Th} {args:List Value} {Q:Value->AH->Prop} (z:K f args=some (.host (Ei b o n))) (q:l.length=n) (J:0<n) (hle:n<=1000) (B:Gw l=true)
  (t:Hs G h (ls xA 5 e (some ⟨b,o,none⟩) c l::L)) (D:∀g,Hs G g (ls xA 5 e (some ⟨b,o,none⟩) c (nM l)::L)->Q (.tuple ⟨[]⟩) g):Cl P K f args h Q:=by
 have a:(nM l).length=l.length:=(kP l).length_eq
 have t:Hs G h (dH 5 e (some ⟨b,o,none⟩) c (l.length,cS l)::L):=t
 obtain⟨I,R,A,i⟩:=t.fV (by omega)
 cases A
 have E:cJ h ⟨b,o,none⟩ (n*5)=some (cS l):=by
  obtain⟨v,x,rfl⟩:=aR (b:=b) (o:=o) (c:=cS l) (l:=cS l) (n:=n*5) (j:=0) (k:=fun v=>v= .agg ⟨cS l⟩) i (by omega) (by rw[List.drop_zero,List.take_of_length_le (by rw[jT,q];exact Nat.le_refl _)]) (by rw[jT,q]) rfl;simp only[uF,pt,Nat.add_zero,Option.map_eq_some_iff] at x;obtain⟨O,y,r⟩:=x;rw[y];injection r with r;injection r with r;rw[r]
 obtain⟨g,p,u⟩:=aY (b:=b) (o:=o) (c:=cS l) (n:=n*5) (vs:=cS (nM l)) (v:= .agg ⟨cS (nM l)⟩) (k:=fun g=>Hs G g (aE b o (cS (nM l))::hole G 5 e (some ⟨b,o,none⟩) c l.length b o::L)) i
  (by rw[jT,q];exact Nat.beq_refl _) (Nat.ble_eq_true_of_le (by omega)) (by rw[jT,a,q]) (qQ _) fun g i=>i
 have p:dI h ⟨b,o,none⟩ (cS (nM l))=some g:=by
  have s:(cS (nM l)).length=n*5:=by rw[jT,a,q]
  simpa [uG,pt,iK,vS,Value.cells,s] using p
 refine Be z (v:= .tuple ⟨[]⟩) (h':=g) ?_ (D g ?_)
 .unfold Ei;rw[E];simp only;rw[<-q,N3];simp only;rw[aKj (by rw[B,Nat.ble_eq_true_of_le (show l.length<=1000 by omega)];rfl),p];rfl
 .unfold ls;rw[a];exact Hs.mQ u (by show(cS (nM l)).length=_;rw[jT,a]) (qQ _)
end
end Go.Ab
namespace Go.Mc
open Go Go.Ab Go.Hm Go.At Go.Is Go.Ct Go.Nt
section
def yX (n:Nat) (S:Nat->List Th):List Th:=nM ((List.range n).flatMap S)
theorem Rw:∀{l:List Th},(l.map (·.1)).Nodup->Gw l=true
 |[],_=>rfl
 |x::l,h=>by
  rw[List.map_cons,List.nodup_cons] at h;simp only[Gw,Bool.and_eq_true,List.all_eq_true,Bool.not_eq_true',beq_eq_false_iff_ne];exact⟨fun y a e=>h.1 (List.mem_map.2 ⟨y,a,e⟩),Rw h.2⟩
theorem Oo {n ways:Nat} {S:Nat->List Th} (g:∀i,mC ways (S i)) (c:Pl n S):∀k,(((List.range k).flatMap S).map (·.1)).Nodup
 |0=>by simp
 |k+1=>by
  rw[List.range_succ,List.flatMap_append,List.map_append,List.nodup_append];refine⟨Oo g c k,by simpa using(g k).nd,fun a p b q e=>?_⟩;obtain⟨x,f,rfl⟩:=List.mem_map.1 p;obtain⟨i,r,f⟩:=List.mem_flatMap.1 f;obtain⟨y,j,rfl⟩:=List.mem_map.1 q;simp only[List.flatMap_cons,List.flatMap_nil,List.append_nil] at j;have l:=(c i x f).2;have o:=(c k y j).2;rw[e,o] at l;have:=List.mem_range.1 r;omega
theorem xJ {ways:Nat} {S:Nat->List Th} (a:∀i,mC ways (S i)):∀k,((List.range k).flatMap S).length<=k*ways
 |0=>by simp
 |k+1=>by
  rw[List.range_succ,List.flatMap_append,List.length_append,Nat.succ_mul];have:=xJ a k;have:=(a k).len;simp only[List.flatMap_cons,List.flatMap_nil,List.append_nil];omega
theorem Ja {n:Nat} {S:Nat->List Th}:(yX n S).length=((List.range n).flatMap S).length:=(kP _).length_eq
theorem sb {n:Nat} {S:Nat->List Th} {t:Th}:t∈yX n S↔∃i,i<n/\t∈S i:=by
 unfold yX;rw[(kP _).mem_iff,List.mem_flatMap];simp
theorem pq {n:Nat} {S:Nat->List Th} (h:((List.range n).flatMap S).length=0):yX n S=[]/\∀i,i<n->S i=[]:=by
 have a:=List.eq_nil_of_length_eq_zero h;refine⟨by unfold yX;rw[a];rfl,fun i b=>?_⟩;rw[List.flatMap_eq_nil_iff] at a;exact a i (List.mem_range.2 b)
def cpE (x:Nat×Th):List Value:=I x.1::xA x.2
def z8 (x:Nat×(Int×Int)):List Value:=I x.1::dB x.2
instance:Fx cpE 6:=⟨fun _=>rfl,fun _=>rfl⟩
instance:Fx z8 3:=⟨fun _=>rfl,fun _=>rfl⟩
def tag {α:Type} (i:Nat) (l:List α):List (Nat×α):=l.map fun t=>(i,t)
def mS (n:Nat) (X:Nat->iH) (k:Nat):List (Nat×Th):=(List.range k).flatMap fun i=>tag i (yX n (X i).S)
def lQ (X:Nat->jP) (k:Nat):List (Nat×(Int×Int)):=(List.range k).flatMap fun i=>tag i (X i).known
theorem I5 {n k:Nat} {X:Nat->iH}:mS n X (k+1)=mS n X k++tag k (yX n (X k).S):=by simp[mS,List.range_succ]
theorem J2 {k:Nat} {X:Nat->jP}:lQ X (k+1)=lQ X k++tag k (X k).known:=by simp[lQ,List.range_succ]
theorem Yo {α:Type} {i:Nat} {l:List α} {x:α}:tag i (l++[x])=tag i l++[(i,x)]:=by simp[tag]
theorem Hx {α:Type} {i:Nat} {l:List α}:(tag i l).length=l.length:=by simp[tag]
theorem Gq {n b:Nat} {X:Nat->iH}:∀{k},(∀i,i<k->(yX n (X i).S).length<=b)->(mS n X k).length<=k*b
 |0,_=>by simp[mS]
 |k+1,h=>by
  rw[I5,List.length_append,Hx,Nat.succ_mul];have:=Gq (k:=k) fun i a=>h i (by omega);have:=h k (by omega);omega
theorem Fs {X:Nat->jP} {b:Nat}:∀{k},(∀i,i<k->(X i).known.length<=b)->(lQ X k).length<=k*b
 |0,_=>by simp[lQ]
 |k+1,h=>by
  rw[J2,List.length_append,Hx,Nat.succ_mul];have:=Fs (k:=k) fun i a=>h i (by omega);have:=h k (by omega);omega
end
end Go.Mc
section
open Go Go.Ab
attribute [local irreducible] bG Br ld1 uF uG B4 mA uX lK P3 hQ mY qG pZ pS lH zE uE Uh Ty Oa Mr Rk Ol Md Ny Rn lN oT sF iV copyV iJ wV Tu U3 Gk kX Mb Qq Sb nL rR xM zA Cl zB Ro sM sC jS fL setLoop cH
namespace Go.Proofs.YtmhapehobfnoiaaGreatDoor.C
open Go Go.Ab Go.Hm Go.Ct Go.Mc
section
set_option maxRecDepth 100000
variable {G:Bg} {h:AH} {L L' M:List HP} {Q:Value->AH->Prop}
abbrev Tw (a:Option Addr) (c:Nat) (l:List Th):HP:=ls xA 5 256 a c l
theorem T8 {S:Nat->List Th} {i:Nat}:(List.range i).flatMap S++S i=(List.range (i+1)).flatMap S:=by simp[List.range_succ]
theorem Hy {S:Nat->List Th} {i:Nat}:((List.range (i+1)).flatMap S).length=((List.range i).flatMap S).length+(S i).length:=by rw[<-T8,List.length_append]
theorem pn {S:Nat->List Th} {n:Nat}:∀{i:Nat},i<=n->((List.range i).flatMap S).length<=((List.range n).flatMap S).length:=by
 intro i b;induction n with
 |zero=>
  obtain rfl:i=0:=by omega
  exact Nat.le_refl _
 |succ n a=>
  by_cases e:i=n+1;subst e;exact Nat.le_refl _;have:=a (by omega);rw[Hy];omega
theorem fe {b o cap n:Nat} {S:Nat->List Th} (x:n<=1000) (v:((List.range n).flatMap S).length<=1000) (g:Hs G h (dE n (fun i=>cQ b (o+i*1) (S i))::L))
  (u:∀a c r,Hs G r (Tw a c ((List.range n).flatMap S)::dE n (fun i=>cQ b (o+i*1) (S i))::L)->Q (.slice a ((List.range n).flatMap S).length c) r):
  Cl Pr K 103 [.slice (some ⟨b,o,none⟩) n cap] h Q:=by
 have two:∀(f i:Nat) (a:Option Addr) (c:Nat) (h:AH),i+f=n->Hs G h (Tw a c ((List.range i).flatMap S)::dE n (fun i=>cQ b (o+i*1) (S i))::L)->
   Dd 103 6 [] Q [.slice a ((List.range i).flatMap S).length c,.slice (some ⟨b,o,none⟩) n cap,I n,I i] h:=by
  intro f
  induction f with
  |zero=>
   intro i a c h p g
   obtain rfl:i=n:=by omega
   exact bW (aS (aaa (u a c h g)))
  |succ f q=>
   intro i a c h p g
   have k:i<n:=by omega
   have hle:=pn (S:=S) (show i+1<=n by omega)
   rw[Hy] at hle
   have g:=(g.front (dE n fun i=>cQ b (o+i*1) (S i))).kO i k
   have g:Hs G h (cQ b (o+i*1) (S i)::Lf b o n S i::_):=g
   obtain⟨j,c2,g⟩:=pI g
   refine bW (aS (aae (bW (dN k (aC g rfl ?_)))))
   have g:=g.cC (aE b (o+i*1) [.slice j (S i).length c2]) (dH 5 256 j c2 ((S i).length,cS (S i)))
   have g:Hs G h (aE b (o+i*1) [.slice j (S i).length c2]::Tw j c2 (S i)::_):=g
   refine kL (enc:=xA) (W:=5) (e:=256) (l:=(List.range i).flatMap S) (l2:=S i) (a:=a) (c:=c) (a2:=j) (c2:=c2) (g.cC (Tw a c ((List.range i).flatMap S)) (Tw j c2 (S i))) (by omega) fun s t h g=>?_
   rw[T8] at g ⊢
   have g:=g.cC (aE b (o+i*1) [.slice j (S i).length c2]) (Tw j c2 (S i))
   have g:Hs G h (aE b (o+i*1) [.slice j (S i).length c2]::dH 5 256 j c2 ((S i).length,cS (S i))::_):=g
   have g:=iZ b (o+i*1) (S i) g rfl rfl
   have g:=g.cC (cQ b (o+i*1) (S i)) (Lf b o n S i)
   unfold Lf at g
   have g:=g.oB (n:=n) (i:=i) (fun i=>cQ b (o+i*1) (S i)) (fun i=>cQ b (o+i*1) (S i)) k (fun _ _ _=>rfl)
   exact aad (q (i+1) s t h (by omega) g.to)
 have one:∀(f i:Nat),i+f=n->Dd 103 1 [] Q [.slice (some ⟨b,o,none⟩) n cap,I ((List.range i).flatMap S).length,.slice (some ⟨b,o,none⟩) n cap,I n,I i] h:=by
  intro f;induction f with
  |zero=>
   intro i p;obtain rfl:i=n:=by omega
   refine bW (aS (aaa (bW (zu (W:=5) (e:=256) rfl (by omega) (by omega) g fun a h g=>bP ?_))));have g:Hs G h (Tw a 0 []::dE i (fun i=>cQ b (o+i*1) (S i))::L):=g;exact two i 0 a 0 h (by omega) g
  |succ f q=>
   intro i p;have hle:=pn (S:=S) (show i+1<=n by omega);rw[Hy] at hle;refine bW (aS (aae (bW (Qn (S:=S) (by omega) g fun a c=>bP (aad (aS (aaa (bW (aad ?_)))))))));have:=q (i+1) (by omega);rw[Hy] at this;rw[show(((List.range i).flatMap S).length:Int)+((S i).length:Int)=((((List.range i).flatMap S).length+(S i).length:Nat):Int) by omega];exact this
 exact cW (bP (one n 0 (by omega)))
def Xh (p:Nat) (l:List Th):HP:=sB fun x:Option Addr×Nat=>sp [aE p 0 [.slice x.1 l.length x.2],Tw x.1 x.2 l]
theorem aCv {t ways n:Nat} {S:Nat->List Th} (z:n<=8) (E:ways<=4) (r:∀i,mC ways (S i)) (D:Pl n S) (f:Hs G h L) [m:Has (gJ G t ways n) L S L']
  (s:∀p q,Hs G q (Xh p (yX n S)::gJ G t ways n S::L')->Q (.func (.func 107) #[] #[pt p 0 0]) q):Cl Pr K 53 [pt t 0 0] h Q:=by
 by_cases I:((List.range n).flatMap S).length=0
 .obtain⟨v,y⟩:=pq I;refine zb (t:=t) (ways:=ways) (n:=n) (S:=S) (by omega) y f fun p h f=>s p h ?_;rw[v];have f:=(mF (enc:=xA) (e:=256) f).cC (aE p 0 [.slice none 0 0]) (Tw none 0 []);exact Hs.qU (A:=fun x:Option Addr×Nat=>sp [aE p 0 [.slice x.1 ([]:List Th).length x.2],Tw x.1 x.2 []]) (none,0) f.yS
 have u:=xJ r n
 have B:n*ways<=8*4:=Nat.mul_le_mul z E
 obtain⟨b,o,j,f⟩:=D8 (show Hs G h (gJ G t ways n S::L') from m.of f)
 refine cW (bM f fun p h f=>K6 (eZ (bW (aB (aA (am t f rfl ?_))))))
 refine fe (by omega) (by omega) (f.front (dE n fun i=>cQ b (o+i*1) (S i))) fun a c h f=>?_
 refine ax (b:=p) (o:=0) f fun h f=>am p f rfl ?_
 have f:Hs G h (dH 5 256 a c (((List.range n).flatMap S).length,cS ((List.range n).flatMap S))::_):=f.front (Tw a c ((List.range n).flatMap S))
 obtain⟨_,g,k,J,rfl,_⟩:=re f (by omega)
 refine aAm (b:=g) (o:=k) (c:=c) (n:=((List.range n).flatMap S).length) (l:=(List.range n).flatMap S) (e:=256) rfl rfl (by omega) (by omega) (Rw (Oo r D n)) f fun h f=>s p h ?_
 have f:Hs G h (Tw (some ⟨g,k,none⟩) c (yX n S)::_):=f
 have f:=f.cI (aE t 0 (qI ways n b o j)) (hole G 1 253 (some ⟨b,o,none⟩) j n b o) (dE n fun i=>cQ b (o+i*1) (S i))
 have f:=sR f
 have f:=(f.cC (aE p 0 [.slice (some ⟨g,k,none⟩) ((List.range n).flatMap S).length c]) (Tw (some ⟨g,k,none⟩) c (yX n S))).yS
 rw[<-Ja] at f
 have f:=Hs.qU (A:=fun x:Option Addr×Nat=>sp [aE p 0 [.slice x.1 (yX n S).length x.2],Tw x.1 x.2 (yX n S)]) (some ⟨g,k,none⟩,c) f
 have f:Hs G h (Xh p (yX n S)::_):=f
 exact f.to
theorem aGt {q:Nat} {l:List Th} (hb:l.length<=1000):Xn Pr K G 107 [] [pt q 0 0] (Xh q l) (l.map fun t=>[I t.1,.agg ⟨t.2.enc⟩]):=by
 intro r J y L h Q g R u z;obtain⟨⟨a,c⟩,g⟩:=g.tW;have g:=g.zH;have j:∀{h:AH} {M:List HP},Hs G h (aE q 0 [.slice a l.length c]::Tw a c l::M)->Hs G h (Xh q l::M):=fun g=>Hs.qU (A:=fun x:Option Addr×Nat=>sp [aE q 0 [.slice x.1 l.length x.2],Tw x.1 x.2 l]) (a,c) g.yS;refine cW (am q g rfl (bP ?_));have loop:∀(f i:Nat) (h:AH),i+f=l.length->Hs G h (aE q 0 [.slice a l.length c]::Tw a c l::r ((l.drop i).map fun t=>[I t.1,.agg ⟨t.2.enc⟩])::L)->Dd 107 1 [] Q [y,(.slice a l.length c),(I l.length),(I i)] h:=by
  intro f;induction f with
  |zero=>
   intro i h D g;rw[List.drop_of_length_le (by omega)] at g;exact bW (aS (aaa (u _ _ (j g))))
  |succ f S=>
   intro i h D g;obtain⟨x,O,B⟩:=mB (l:=l) (i:=i) (by omega);rw[B,List.map_cons] at g;refine bW (aS (aae (bW (jV (l:=l) (a:=a) (c:=c) (enc:=xA) (e:=256) g (by decide) (by omega) (by rw[Int.toNat_natCast];exact O) (bM g fun p h g=>ax (b:=p) g fun h g=>aA (am p g rfl (aA (an p g (l:=x.2.enc) rfl rfl ?_))))))));refine(R _ _ h _ (g.front (r ([I x.1,.agg ⟨x.2.enc⟩]::((l.drop (i+1)).map fun t=>[I t.1,.agg ⟨t.2.enc⟩]))))).mono fun v s E=>?_;rcases E with⟨rfl,k⟩|⟨rfl,k⟩;exact bX (bV (bW (aad (S (i+1) s (by omega) k.to))));exact bX (eZ (z _ _ (j k.to)))
 exact loop l.length 0 h (by omega) (by rw[List.drop_zero];exact g)
end
end Go.Proofs.YtmhapehobfnoiaaGreatDoor.C
end
