/- A part of the proof. -/
import Derived.Test.YtcjlkjeeifemhaaGreatDoorB13
import Derived.Test.YtcjlkjeeifemhaaGreatDoorB9
import Derived.Test.YtcjlkjeeifemhaaGreatDoorB12
import Derived.Test.YtcjlkjeeifemhaaGreatDoorTie
import Derived.Test.YtcjlkjeeifemhaaGreatDoorCards
import Derived.LaidMore
import Derived.SevenTiedAt
section
open Go Go.Ab
attribute [local irreducible] aK Br vH sW vI tX iM tM gT Q2 qF uH sB mL mI eO rX vM Hb Oy K8 Kr N1 Hq Jd O5 Kq kK oK nZ gF copyV iP sL P0 Ha yK hQ Ku P1 Pn jL mP sA sN Cl yC Lu nO mZ fP eD aY aR
namespace Go.Proofs.YtcjlkjeeifemhaaGreatDoor
open Go Go.Ab Go.Hm Go.At Go.Mc Go.Ct
section
instance:Fx Ev.enc 7 where
 len _:=rfl
 mw _:=rfl
structure MN where
 lc:List Nat
 lk:List Nat
 lq:List Nat
 ac:Option Addr
 ak:Option Addr
 aq:Option Addr
 al:Option Addr
 cc:Nat
 ck:Nat
 cq:Nat
 cl:Nat
 hb:Nat
 mb:Nat
 fb:Nat
def Kh (Cf:aZ) (x:MN) (n:Nat):List Value:=Cf.enc++[.slice x.ac x.lc.length x.cc,.slice x.ak x.lk.length x.ck,.slice x.aq x.lq.length x.cq,pt x.hb 0 0,pt x.mb 0 0,pt x.fb 0 0,.slice x.al n x.cl]
def er (Cf:aZ) (x:MN):Prop:=x.lc.length=Cf.aS.toNat/\x.lk.length=Cf.aS.toNat/\x.lq.length=Cf.aS.toNat
abbrev H4:Nat->Nat->cA->HP:=fun i p s=>L0 i p s
abbrev Ih (G:Bg) (Cf:aZ):Nat->Nat->tO->HP:=fun i p s=>C.Xw G p Cf i s
abbrev Hw (Cf:aZ):Nat->Nat->da->HP:=fun _ p s=>W9 p Cf s
abbrev nf (a:Option Addr) (c:Nat) (l:List Ev):HP:=ls Ev.enc 7 24 a c l
abbrev kg (a:Option Addr) (c:Nat) (l:List Nat):HP:=ls pE 1 107 a c l
abbrev kl (a:Option Addr) (c:Nat) (l:List Nat):HP:=ls pE 1 110 a c l
abbrev iy (a:Option Addr) (c:Nat) (l:List Nat):HP:=ls pE 1 113 a c l
def Tl (G:Bg) (Cf:aZ) (m:Nat) (M:kL) (x:MN):List HP:=[Kw (er Cf x),aM m 0 (Kh Cf x M.log.length),kg x.ac x.cc x.lc,kl x.ak x.ck x.lk,iy x.aq x.cq x.lq,
  B6 H4 x.lc M.mK,B6 (Ih G Cf) x.lk M.Qz,B6 (Hw Cf) x.lq M.Te,H.xY G x.hb Cf M.home,Wf Cf x.mb M.Wn,To Cf x.fb M.Ve,nf x.al x.cl M.log]
def Hy (G:Bg) (Cf:aZ) (m:Nat) (M:kL):HP:=B9 fun x:MN=>sp (Tl G Cf m M x)
set_option maxRecDepth 100000
variable {G:Bg} {h:AH} {L L':List HP} {Q:Value->AH->Prop} {Cf:aZ} {m:Nat} {M:kL}
theorem Nr {x:MN} (a:er Cf x) (b:Hs G h (aM m 0 (Kh Cf x M.log.length)::kg x.ac x.cc x.lc::kl x.ak x.ck x.lk::iy x.aq x.cq x.lq::
  B6 H4 x.lc M.mK::B6 (Ih G Cf) x.lk M.Qz::B6 (Hw Cf) x.lq M.Te::H.xY G x.hb Cf M.home::Wf Cf x.mb M.Wn::To Cf x.fb M.Ve::nf x.al x.cl M.log::L)):Hs G h (Hy G Cf m M::L):=
 Hs.B8 (A:=fun x:MN=>sp (Tl G Cf m M x)) x (Hs.pack (A:=Tl G Cf m M x) (Hs.nk a b))
theorem Qo {x:MN} (M:kL) (q:er Cf x) {e f g i j k l o p a b:List HP} (r:Hs G h L) [s:dJ (aM m 0 (Kh Cf x M.log.length)) L e] [t:dJ (kg x.ac x.cc x.lc) e f] [u:dJ (kl x.ak x.ck x.lk) f g] [v:dJ (iy x.aq x.cq x.lq) g i] [w:dJ (B6 H4 x.lc M.mK) i j] [y:dJ (B6 (Ih G Cf) x.lk M.Qz) j k] [z:dJ (B6 (Hw Cf) x.lq M.Te) k l] [A:dJ (H.xY G x.hb Cf M.home) l o] [B:dJ (Wf Cf x.mb M.Wn) o p] [c:dJ (To Cf x.fb M.Ve) p a] [d:dJ (nf x.al x.cl M.log) a b]:Hs G h (Hy G Cf m M::b):=
 Nr (x:=x) q (r.perm (s.perm.trans ((t.perm.trans ((u.perm.trans ((v.perm.trans ((w.perm.trans ((y.perm.trans ((z.perm.trans ((A.perm.trans ((B.perm.trans ((c.perm.trans ((d.perm).cons _)).cons _)).cons _)).cons _)).cons _)).cons _)).cons _)).cons _)).cons _)).cons _)))
end
section
set_option maxRecDepth 100000
variable {G:Bg} {h:AH} {L L':List HP} {Q:Value->AH->Prop} {Cf:aZ} {m:Nat} {M:kL}
end
section
set_option maxRecDepth 100000
variable {G:Bg} {h:AH} {L L':List HP} {Q:Value->AH->Prop} {Cf:aZ} {m:Nat} {x:MN} {M:kL}
end
section
set_option maxRecDepth 100000
variable {G:Bg} {h:AH} {L L':List HP} {Q:Value->AH->Prop} {Cf:aZ} {m:Nat} {M:kL}
end
end Go.Proofs.YtcjlkjeeifemhaaGreatDoor
namespace Go.Proofs.YtcjlkjeeifemhaaGreatDoor
open Go Go.Ab Go.Hm Go.At Go.Mc Go.Ct Go.Nt Go.Is
section
structure Gb (G:Bg):Prop where
 lim:Ob G 1 jM
 rf:Ob G 3 Vs
 row:Ob G 5 Zu
set_option maxRecDepth 100000
variable {G:Bg} {h:AH} {L L':List HP} {Q:Value->AH->Prop} {Cf:aZ} {m:Nat} {M:kL}
end
section
set_option maxRecDepth 100000
variable {G:Bg} {h:AH} {L L':List HP} {Q:Value->AH->Prop} {Cf:aZ} {m:Nat} {M:kL}
end
section
set_option maxRecDepth 100000
variable {G:Bg} {h:AH} {L L':List HP} {Q:Value->AH->Prop} {Cf:aZ} {m:Nat} {M:kL}
end
end Go.Proofs.YtcjlkjeeifemhaaGreatDoor
namespace Go.Proofs.YtcjlkjeeifemhaaGreatDoor
open Go Go.Ab Go.Hm Go.At Go.Mc Go.Ct Go.Nt
section
set_option maxRecDepth 100000
variable {G:Bg} {h:AH} {L L':List HP} {Q:Value->AH->Prop} {Cf:aZ} {m:Nat} {M:kL}
end
section
set_option maxRecDepth 100000
variable {G:Bg} {h:AH} {L L':List HP} {Q:Value->AH->Prop} {Cf:aZ} {m:Nat} {M:kL}
end
end Go.Proofs.YtcjlkjeeifemhaaGreatDoor
namespace Go.Proofs.YtcjlkjeeifemhaaGreatDoor.H
open Go Go.Ab Go.Hm
section
set_option maxRecDepth 100000
variable {G:Bg} {h:AH} {L L':List HP}
end
section
set_option maxRecDepth 100000
variable {G:Bg} {h:AH} {L L':List HP}
theorem Ux (n:Nat):(fun i=>(nC n i).2)=iS:=by funext i;unfold nC iS;split<;>rfl
theorem yZ {C:aZ} (hC:C.Ok) {hb:Nat} {Q:Value->AH->Prop} (k:∀e,Hs G e (xY G hb C (nC C.lines)::L)->Q (.tuple ⟨[pt hb 0 0,I 0]⟩) e):∀(f n:Nat) (h:AH),n+f=C.lines->Hs G h (xY G hb C (nC n)::L)->Dd 45 3 [] Q [(pt hb 0 0),(I C.lines),(I n)] h:=by
 have l:=aZ.fC hC;intro f;induction f with
 |zero=>
  intro n h p a;have:n=C.lines:=by omega
  subst this;exact bW (aI (aaa (k _ a)))
 |succ f q=>
  intro n h p a;have d:n<C.lines:=by omega
  refine bW (aI (aad (bW ?_)));obtain⟨r,b,o,c,a⟩:=Wy d a;obtain⟨s,t,a⟩:=Qy a;refine bI (aB (aL a rfl (gB d (aB (ay a ?_)))));intro h a;refine aac (q (n+1) h (by omega) ?_);have g:(nC n n).1={Lj with owner:=0}:=by unfold nC;rw[aab]
  have j:(nC n n).2=(0,0):=by unfold nC;rw[aab]
  rw[g] at a;have a:=T9 b (o+n*25) Lj s t a rfl rfl rfl;have a:=Vi hb C (nC n) n Lj (0,0) (fun i=>(nC n i).2) r b o c d (by rw[<-j];exact Wi.symm) a;rw[P4] at a;exact a
theorem Mq {C:aZ} (hC:C.Ok) {Q:Value->AH->Prop} (e:Ob G 1 jM) (d:Hs G h L) (r:∀f j,Hs G j (xY G f C (nC C.lines)::L)->Q (.tuple ⟨[pt f 0 0,I 0]⟩) j):Cl Pr K 45 [.agg ⟨C.enc⟩] h Q:=by
 have s:=aZ.fC hC;refine cW (fK d ?_);intro p h d;refine bE d (by decide) (l:=C.enc) rfl rfl (eK e d fun h d=>?_);rw[tu hC];refine bC (aaa (bW (bE d (by decide) (l:=C.enc) rfl rfl (Df hC e d fun k h d=>?_))));refine aE rfl (aE rfl (bC (aaa (bW (dW d ?_)))));intro u h d;refine bE d (by decide) (l:=C.enc) rfl rfl (bE d (by decide) (l:=C.enc) rfl rfl (tU hC e d fun h d=>Z9 (by omega) (by omega) ?_));dsimp only;refine qN d rfl rfl ?_ rfl ?_ ?_;rw[eB,oJ (W:=25) (fun _=>rfl)];rw[eB];exact pK (fun _=>rfl) _;intro a h d;obtain⟨b,o,q,d⟩:=Hs.G1 (W:=25) rfl (by omega) d;cases q;refine bG (c:=A9 k C b o C.lines) rfl (No d rfl rfl ?_);intro f h d;refine nN xR (nN (bE d (by decide) (l:=C.enc) rfl rfl (Ol (by simp[mA,aZ.enc]))) (bI (aB (aL d rfl (cM ?_)))));refine yZ hC (r f) C.lines 0 h (by omega) ?_;have d:=(d.front (iT C.lines fun i=>aM b (o+i*25) [I 0,.bool false,.bool false,.bool false,.bool false,.slice none 0 0,.bool false,I 0,I 0,I 0,I 0,I 0,I 0,I 0,.bool false,I 0,I 0,.bool false,.bool false,.bool false,.bool false,.bool false,.bool false,I 0,I 0]));have d:=Hs.Lg (g:=fun i=>oX b (o+i*25) (nC 0 i).1) C.lines _ (fun i t h L d=>Bo {Lj with owner:=0} (a:=none) (c:=0) (eU d).pS) d;rw[<-Ux 0] at d;exact(Yt C (nC 0) f k b o C.lines d).to
end
section
set_option maxRecDepth 100000
variable {G:Bg} {h:AH} {L L':List HP} {Q:Value->AH->Prop}
end
end Go.Proofs.YtcjlkjeeifemhaaGreatDoor.H
namespace Go.Proofs.YtcjlkjeeifemhaaGreatDoor.H
open Go Go.Ab Go.Hm Go.Mc
section
set_option maxRecDepth 100000
variable {G:Bg} {h:AH} {L L':List HP} {Q:Value->AH->Prop}
end
end Go.Proofs.YtcjlkjeeifemhaaGreatDoor.H
namespace Go.Proofs.YtcjlkjeeifemhaaGreatDoor
open Go Go.Ab Go.Hm Go.At Go.Mc Go.Ct Go.Nt
section
set_option maxRecDepth 100000
variable {G:Bg} {h:AH} {L L':List HP} {Q:Value->AH->Prop} {Cf:aZ} {m:Nat} {M:kL}
end
section
set_option maxRecDepth 100000
variable {G:Bg} {h:AH} {L L':List HP} {Q:Value->AH->Prop} {Cf:aZ} {m:Nat} {M:kL} {n:eC}
end
section
set_option maxRecDepth 100000
variable {G:Bg} {h:AH} {L L':List HP} {Q:Value->AH->Prop} {Cf:aZ} {m:Nat} {M:kL} {n:eC}
end
section
set_option maxRecDepth 100000
variable {G:Bg} {h:AH} {L L':List HP} {Q:Value->AH->Prop} {Cf:aZ} {m:Nat} {M:kL} {n:eC}
end
section
set_option maxRecDepth 100000
variable {G:Bg} {h:AH} {L L':List HP} {Q:Value->AH->Prop} {Cf:aZ} {m:Nat} {M:kL}
end
section
set_option maxRecDepth 100000
variable {G:Bg} {h:AH} {L L':List HP} {Q:Value->AH->Prop} {Cf:aZ} {m:Nat} {M:kL}
end
section
set_option maxRecDepth 100000
variable {G:Bg} {h:AH} {L L':List HP} {Q:Value->AH->Prop} {Cf:aZ} {m N:Nat} {M:kL}
end
end Go.Proofs.YtcjlkjeeifemhaaGreatDoor
namespace Go.Proofs.YtcjlkjeeifemhaaGreatDoor.A
open Go Go.Ab Go.Hm Go.At Go.Is
section
set_option maxRecDepth 100000
variable {G:Bg} {h:AH} {L L':List HP} {Q:Value->AH->Prop}
abbrev zS:List Value:=[I 0,I 0,I 0,I 0,I 0,I 0,.bool false,.slice none 0 0]
theorem K7 {B p b o cap A c mb:Nat} {a:Option Addr} {C:aZ} {pv wv:Value} {vi:List Value} {ps:List (List Ins)} {ws:List Int} (hB:B<=4) (S:ps.length=B) (U:ws.length=B) (P:∀p∈ps,p.length<=32)
  (W:vi.length=ps.length) (O:eJ G 1 pv (vi.map fun x=>[x]).length (fun i=>(vi.map fun x=>[x]).getD i [])) (E:∀(i:Nat) (v:Value) (p:List Ins),vi[i]?=some v->ps[i]?=some p->Hr G v p) (T:qM G wv ws)
  (J:∀z,Hs G z (gu p C (.slice (some ⟨b,o,none⟩) B cap) a A c mb::iT B (fun i=>qA b (o+i*8) (kY (ps.getD i []) (ws.getD i 0)))::L)->Q (.tuple ⟨[pt p 0 0,I 0]⟩) z):
  ∀(r i:Nat) (h:AH),i+r=B->Hs G h (gu p C (.slice (some ⟨b,o,none⟩) B cap) a A c mb::iT B (fun j=>if j<i then qA b (o+j*8) (kY (ps.getD j []) (ws.getD j 0)) else aM b (o+j*8) zS)::L)->
  Dd 28 13 [] Q [pv,wv,(pt p 0 0),(I B),(I i)] h:=by
 intro r
 induction r with
 |zero=>
  intro i h f d
  obtain rfl:i=B:=by omega
  refine bW (aI (aaa (J _ ?_)))
  exact(wO (g:=fun j=>qA b (o+j*8) (kY (ps.getD j []) (ws.getD j 0))) (fun j H=>by rw[tu H]) d.pS).pS
 |succ r V=>
  intro i h F d
  have f:i<B:=by omega
  obtain⟨pp,k,_⟩:=kI (l:=ps) (i:=i) (by omega)
  obtain⟨v,q,_⟩:=kI (l:=vi) (i:=i) (by omega)
  obtain⟨w,t,_⟩:=kI (l:=ws) (i:=i) (by omega)
  have R:pp.length<=32:=P pp (List.mem_of_getElem? k)
  have d:=(d.front (iT B fun j=>if j<i then qA b (o+j*8) (kY (ps.getD j []) (ws.getD j 0)) else aM b (o+j*8) zS)).Ga i f
  simp only[Nat.lt_irrefl,if_false] at d
  refine bW (aI (aad (bW (bI (aB (am p d rfl (gB f ?_)))))))
  refine fZ (eV (e:=3) (by simp) O d) (x:=[v]) (by simp[q]) rfl ?_
  refine Zl (by rw[qT];omega) (by rw[Ed];exact Kz _) (rP (E i v pp q k) d) fun u y h d=>?_
  rw[qT,Ed] at d
  rw[qT]
  refine bI (aB (ay (b:=b) (o:=o+i*8) d fun h d=>?_))
  refine fZ (iG T d) (x:=[I w]) (by simp[nA,t]) rfl ?_
  refine bI (aB (aB (ay (b:=b) (o:=o+i*8) d fun h d=>?_)))
  have d:=d.sg (b:=b) (o:=o+i*8) (c:=(⟨fun _=>0,0,w,false,pp⟩:cA).core++[.slice u pp.length y]) rfl
  refine Fp (s:=⟨fun _=>0,0,w,false,pp⟩) (a:=u) (c:=y) (by omega) (d.lT (aM b (o+i*8) ((⟨fun _=>0,0,w,false,pp⟩:cA).core++[.slice u pp.length y])) (cB 4 155 u y (pp.length,qZ pp))) fun h d=>aac ?_
  refine V (i+1) h (by omega) ?_
  have d:=Mr (b:=b) (o:=o+i*8) (s:=(⟨fun _=>0,0,w,false,pp⟩:cA).nY 0) d
  have e:(⟨fun _=>0,0,w,false,pp⟩:cA).nY 0=kY (ps.getD i []) (ws.getD i 0):=by
   rw[List.getD_eq_getElem?_getD,List.getD_eq_getElem?_getD,k,t];rfl
  rw[e] at d
  have D:qA b (o+i*8) (kY (ps.getD i []) (ws.getD i 0))=(fun j=>if j<i+1 then qA b (o+j*8) (kY (ps.getD j []) (ws.getD j 0)) else aM b (o+j*8) zS) i:=by simp only[Nat.lt_succ_self,if_true]
  rw[D] at d
  have d:=d.Gv (n:=B) (i:=i) (fun j=>if j<i then qA b (o+j*8) (kY (ps.getD j []) (ws.getD j 0)) else aM b (o+j*8) zS) (fun j=>if j<i+1 then qA b (o+j*8) (kY (ps.getD j []) (ws.getD j 0)) else aM b (o+j*8) zS) f (fun j _ K=>by
   have:(j<i+1)=(j<i):=propext ⟨fun h=>by omega,fun h=>by omega⟩;simp only[this])
  exact d.to
theorem nH:∀{ps:List (List Ins)},mQ ps=0->∀p∈ps,(cQ p).2=0
 |[],_,p,a=>by simp at a
 |q::l,h,p,a=>by
  rw[mQ] at h;split at h;rename_i b;exact absurd h b;rename_i b;rcases List.mem_cons.1 a with rfl|a;omega;exact nH h p a
theorem Dp {p:List Ins} (h:(cQ p).2=0):p.length<=32:=by
 unfold cQ at h;split at h;cases h;omega
theorem fj {C:aZ} {pv wv ov vv:Value} {ps:List (List Ins)} {ws os vs:List Int} (H:ps.length<=1000000/\ws.length<1000000/\os.length<1000000) (F:Ob G 1 jM) (S:Ob G 0 eP) (V:Ho G pv wv ov vv ps ws os vs) (d:Hs G h L)
  (j:oW C ps ws os vs≠0->∀f,Hs G f L->Q (.tuple ⟨[.pointer none,I (oW C ps ws os vs)]⟩) f)
  (w:oW C ps ws os vs=0->∀p f,Hs G f (jm G p (ky C ps ws os vs)::L)->Q (.tuple ⟨[pt p 0 0,I 0]⟩) f):Cl Pr K 28 [.agg ⟨C.enc⟩,pv,wv,ov,vv] h Q:=by
 obtain⟨⟨vi,J,u,A⟩,v,t,D⟩:=V
 have lp:∀{k:Value->Prop},k (I ps.length)->aK (eO pv) k:=fun s=>gQ u (by simpa [J] using s)
 have lw:∀{k:Value->Prop},k (I ws.length)->aK (eO wv) k:=fun s=>gQ v (by simpa [jK] using s)
 have Y:∀{k:Value->Prop},k (I os.length)->aK (eO ov) k:=fun s=>gQ t (by simpa [jK] using s)
 have O:∀{k:Value->Prop},k (I vs.length)->aK (eO vv) k:=fun s=>gQ D (by simpa [jK] using s)
 unfold oW at j w
 refine cW (fK d fun q h d=>bE d (by decide) (l:=C.enc) rfl rfl (eK F d fun h d=>?_))
 by_cases hC:C.Ok
 rotate_left
 .rw[tu hC] at j;rw[tt hC];exact bC (aad (j (by omega) _ d.tail))
 rw[tt (by simpa using hC)] at j w
 rw[tu hC]
 have U:=aZ.fC hC
 have E:=aZ.bk hC
 have R:C.aS<=4/\1<=C.aS:=⟨hC.1.2,hC.1.1⟩
 have T:C.cH<=16:=hC.2.1.2
 have bad:((ps.length:Int)≠C.aS\/(ws.length:Int)≠C.aS\/(os.length:Int)≠C.cH\/vs.length≠C.lines*2)->∀f,Hs G f (aM q 0 C.enc::L)->Q (.tuple ⟨[.pointer none,I 1]⟩) f:=fun E f d=>by
  rw[tu E] at j;exact j (by omega) _ d.tail
 refine bC (aaa (bW (lp (aB (am q d rfl (bC (bK (fun g=>bad (.inl g) _ d) (fun g1=>lw (aB (am q d rfl (bC (bK (fun g=>bad (.inr (.inl g)) _ d) (fun g2=>Y (aB (am q d rfl (bC (bK (fun g=>bad (.inr (.inr (.inl g))) _ d) (fun g3=>O (an q d (l:=C.enc) rfl rfl (I9 hC F d fun h d=>bC (bK (fun g=>bad (.inr (.inr (.inr (by omega)))) _ d) (fun g4=>?_))))))))))))))))))))))
 clear bad
 rw[aab] at j w
 refine bW (lp (K6 (_C:=C) J u A S H.1 (fun e h d=>?_) (fun e h d=>?_) ps.length 0 h (by omega) rfl d))
 .rw[tu e] at j;exact j e _ d.tail
 rw[tt (by simpa using e)] at j w
 have r:¬(within 0 3 ws=true/\within 0 4 os=true)->∀f,Hs G f (aM q 0 C.enc::L)->Q (.tuple ⟨[.pointer none,I 10]⟩) f:=fun E f d=>by
  rw[tu E] at j;exact j (by omega) _ d.tail
 refine bW (D1 (l:=ws) H.2.1 (iG v d) fun h d=>cC (xA (xC (fun g1=>?_) (fun g1=>r (by simp[g1]) _ d.tail))))
 refine D1 (l:=os) H.2.2 (iG t d.tail) fun h d=>cC (xA (xC (fun g2=>?_) (fun g2=>r (by simp[g2]) _ d.tail)))
 clear r
 rw[tt (by simp[g1,g2])] at j w
 have d:=d.tail
 refine bW (an q d (l:=C.enc) rfl rfl (Df hC F d fun y h d=>aE rfl (aE rfl (bC (aaa (bW (O ?_)))))))
 refine Mg (L:=aM q 0 C.enc::L) hC D F (by omega) (fun h d=>?_) vs.length 0 iS h (by omega) rfl d
 refine bW (dW d fun Z h d=>an q d (l:=C.enc) rfl rfl (aB (am q d rfl (G4 (by omega) (by omega) (by omega) ?_))))
 dsimp only
 refine qN d rfl rfl ?_ rfl ?_ ?_
 .rw[eB,oJ (W:=8) (fun _=>rfl)]
 .rw[eB];exact pK (fun _=>rfl) _
 intro a h d
 obtain⟨b,o,P,d⟩:=Hs.G1 (W:=8) rfl (by omega) d
 cases P
 refine Xb (by rw[jK];omega) (by rw[vW];exact K3 _) (iG t d) fun z c2 h d=>?_
 rw[jK,vW] at d
 rw[jK]
 refine bG (c:=C.enc++[.slice (some ⟨b,o,none⟩) C.aS.toNat C.aS.toNat,.slice z os.length c2,pt y 0 0]) rfl (No d rfl rfl fun p h d=>?_)
 refine nN (an q d (l:=C.enc) rfl rfl (Ol (by simp[aZ.enc,C6]))) (nN (aB xR) (nN (am q d rfl C6) (nN xR (bI (aB (am p d rfl (cM ?_)))))))
 have d:=d.lT (gu p C (.slice (some ⟨b,o,none⟩) C.aS.toNat C.aS.toNat) z os.length c2 y) (iT C.aS.toNat fun i=>aM b (o+i*8) zS)
 refine K7 (B:=C.aS.toNat) (b:=b) (o:=o) (C:=C) (ps:=ps) (ws:=ws) (by omega) (by omega) (by omega) (fun p X=>Dp (nH e p X)) J u A v ?_ C.aS.toNat 0 h (by omega) (by simpa using d)
 intro h d
 refine w rfl p _ ?_
 have d:=Rn (b:=b) (o:=o) (cap:=C.aS.toNat) (a:=z) (c:=c2) (mb:=y) (m:=ky C ps ws os vs) ((d.Lx (gu p C (.slice (some ⟨b,o,none⟩) C.aS.toNat C.aS.toNat) z os.length c2 y) (cB 1 3 z c2 (os.length,os.map I)) (hU G C.lines y C (words iS vs 0)) (hole G 8 177 (some ⟨b,o,none⟩) C.aS.toNat C.aS.toNat b o)).eb (iT C.aS.toNat fun i=>qA b (o+i*8) (kY (ps.getD i []) (ws.getD i 0))))
 exact d.to
end
end Go.Proofs.YtcjlkjeeifemhaaGreatDoor.A
namespace Go.Proofs.YtcjlkjeeifemhaaGreatDoor
open Go Go.Ab Go.Hm Go.At Go.Mc Go.Ct Go.Nt Go.Is
section
def tG (C:aZ) (pv wv ov vv:Value):List Value:=C.enc++[pv,wv,ov,vv]
def Wl (ps:List (List Ins)) (ws:List Int) (i:Nat):cA:=kY (ps.getD i []) (ws.getD i 0)
set_option maxRecDepth 100000
variable {G:Bg} {h:AH} {L L':List HP} {Q:Value->AH->Prop} {Cf:aZ} {m N:Nat} {M:kL}
def ig (C:aZ) (a a2 a3:Option Addr) (n b c2 c3:Nat):List Value:=C.enc++[.slice a n b,.slice a2 n c2,.slice a3 n c3,.pointer none,.pointer none,.pointer none,.slice none 0 0]
theorem F8 {e:TypeId} {a a2:Option Addr} {c c2 q:Nat} {l:List Nat} {k:Value×AH->Prop} {N:List HP} (hb:l.length<=100) (b:Hs G h L) [p:Has (ls pE 1 e a c) L l L'] [m2:dJ (cB 1 e a2 c2 (1,[pt q 0 0])) L' N]
  (o:∀d f j,Hs G j (ls pE 1 e d f (l++[q])::N)->k (.slice d (l.length+1) f,j)):aK (gF 1 8 e h (.slice a l.length c) (.slice a2 1 c2)) k:=by
 have b:=p.of b
 have g:Hs G h (cB 1 e a2 c2 (1,[pt q 0 0])::ls pE 1 e a c l::N):=(b.perm (m2.perm.cons _)).pS
 have i:=(fk (enc:=pE) (x:=q) g).pS
 have:=Zn (enc:=pE) (e:=e) (l:=l) (l2:=[q]) (a:=a) (c:=c) (a2:=a2) (c2:=c2) (bytes:=8) (k:=k) i (by simp;omega) fun d f h b=>by
  have:=o d f h b.pS.tail;rw[List.length_append,List.length_singleton];exact this
 exact this
theorem yZ {p2 p5:Nat} {pv wv ov vv:Value} {vi:List Value} {ps:List (List Ins)} {ws:List Int} (hC:Cf.Ok) (hG:Gb G) (hg:Ob G 0 eP) (α:ps.length=Cf.aS.toNat) (β:ws.length=Cf.aS.toNat) (X:∀w∈ws,0<=w/\w<=3) (T:∀p∈ps,(cQ p).2=0)
  (hv:vi.length=ps.length) (ho:eJ G 1 pv (vi.map fun x=>[x]).length (fun i=>(vi.map fun x=>[x]).getD i [])) (hi:∀(i:Nat) (v:Value) (p:List Ins),vi[i]?=some v->ps[i]?=some p->A.Hr G v p) (hw:A.qM G wv ws)
  (hk:∀lc lk lq g a2 a3 j c2 c3 Y,lc.length=Cf.aS.toNat->lk.length=Cf.aS.toNat->lq.length=Cf.aS.toNat->Hs G Y (aM p5 0 (ig Cf g a2 a3 Cf.aS.toNat j c2 c3)::kg g j lc::kl a2 c2 lk::iy a3 c3 lq::B6 H4 lc (Wl ps ws)::B6 (Ih G Cf) lk (fun _=>tO.new)::B6 (Hw Cf) lq (fun _=>xX)::aM p2 0 (tG Cf pv wv ov vv)::L)->Dd 16 4 [] Q [(pt p2 0 0),(pt p5 0 0)] Y):
  ∀(f i:Nat) (lc lk lq:List Nat) (g a2 a3:Option Addr) (j c2 c3:Nat) (h:AH),i+f=Cf.aS.toNat->lc.length=i->lk.length=i->lq.length=i->Hs G h (aM p5 0 (ig Cf g a2 a3 i j c2 c3)::kg g j lc::kl a2 c2 lk::iy a3 c3 lq::B6 H4 lc (Wl ps ws)::B6 (Ih G Cf) lk (fun _=>tO.new)::B6 (Hw Cf) lq (fun _=>xX)::aM p2 0 (tG Cf pv wv ov vv)::L)->
  Dd 16 2 [] Q [(pt p2 0 0),(pt p5 0 0),(I Cf.aS),(I i)] h:=by
 have hc:=hC.1
 intro f
 induction f with
 |zero=>
  intro i lc lk lq g a2 a3 j c2 c3 h P O B E d
  obtain rfl:i=Cf.aS.toNat:=by omega
  exact bW (aI (aaa (hk _ _ _ _ _ _ _ _ _ _ O B E d)))
 |succ f ih=>
  intro i lc lk lq g a2 a3 j c2 c3 h P O B E d
  obtain⟨p,S,_⟩:=rG (l:=ps) (i:=i) (by omega)
  obtain⟨v,F,_⟩:=rG (l:=vi) (i:=i) (by omega)
  obtain⟨w,D,_⟩:=rG (l:=ws) (i:=i) (by omega)
  have V:=X w (List.mem_of_getElem? D)
  have U:=T p (List.mem_of_getElem? S)
  have eS:Wl ps ws i=kY p w:=by unfold Wl;rw[List.getD_eq_getElem?_getD,List.getD_eq_getElem?_getD,S,D];rfl
  refine bW (aI (aad (bW (dW d fun rr h d=>aB (am p2 d rfl ?_)))))
  have d:=A.iG hw d
  refine fZ d (x:=[I w]) (by simp[A.nA,D]) rfl ?_
  have d:=d.tail
  refine aB (am p2 d rfl ?_)
  have d:=eV (e:=3) (by simp) ho d
  refine fZ d (x:=[v]) (by simp[F]) rfl ?_
  have d:=A.rP (hi i v p F S) d.tail
  refine R1 (i:=i) (pr:=p) (w:=w) (by omega) V hg U d fun H h d=>aE rfl (aE rfl (bC (aaa (bW ?_))))
  rw[<-eS] at d
  refine aB (kN (b:=p2) (o:=0) d (by decide) (l:=Cf.enc) rfl rfl ?_)
  refine C.Gm (C:=Cf) (core:=(i:Int)) hC (by omega) hG.lim d fun J h d=>aE rfl (aE rfl (bC (aaa (bW ?_))))
  refine aB (aB (am p2 d rfl (aB (aB (am p2 d rfl ?_)))))
  refine Qv (C:=Cf) hC d fun K h d=>aE rfl (aE rfl (bC (aaa (bW ?_))))
  subst O
  refine bI (aB (am p5 d rfl (bG (c:=[pt H 0 0]) rfl (fS (W:=1) (n:=1) (c:=1) d rfl rfl rfl fun Z h d=>?_))))
  refine F8 (l:=lc) (a:=g) (c:=j) (e:=107) (q:=H) (a2:=some Z) (c2:=1) (by omega) d fun k u h d=>bI (aB (ay (b:=p5) (o:=0) d fun h d=>?_))
  refine bI (aB (am p5 d rfl (bG (c:=[pt J 0 0]) rfl (fS (W:=1) (n:=1) (c:=1) d rfl rfl rfl fun b2 h d=>?_))))
  rw[<-B]
  refine F8 (l:=lk) (a:=a2) (c:=c2) (e:=110) (q:=J) (a2:=some b2) (c2:=1) (by omega) d fun r y h d=>bI (aB (ay (b:=p5) (o:=0) d fun h d=>?_))
  rw[B]
  refine bI (aB (am p5 d rfl (bG (c:=[pt K 0 0]) rfl (fS (W:=1) (n:=1) (c:=1) d rfl rfl rfl fun b3 h d=>?_))))
  rw[<-E]
  refine F8 (l:=lq) (a:=a3) (c:=c3) (e:=113) (q:=K) (a2:=some b3) (c2:=1) (by omega) d fun t z h d=>bI (aB (ay (b:=p5) (o:=0) d fun h d=>?_))
  have e5:kR (kR (kR (ig Cf g a2 a3 lc.length j c2 c3) (0+7) [.slice k (lc.length+1) u]) (0+8) [.slice r (lk.length+1) y]) (0+9) [.slice t (lq.length+1) z]=ig Cf k r t (lc.length+1) u y z:=by rw[B,E];rfl
  rw[e5] at d
  have d:=Gt (R:=H4) (l:=lc) (q:=H) (s:=Wl ps ws) (d.lT (L0 lc.length H (Wl ps ws lc.length)) (B6 H4 lc (Wl ps ws)))
  rw[<-B] at d
  have d:=Gt (R:=Ih G Cf) (l:=lk) (q:=J) (s:=fun _=>tO.new) (d.lT (C.Xw G J Cf lk.length tO.new) (B6 (Ih G Cf) lk (fun _=>tO.new)))
  have d:=Gt (R:=Hw Cf) (l:=lq) (q:=K) (s:=fun _=>xX) (d.lT (W9 K Cf xX) (B6 (Hw Cf) lq (fun _=>xX)))
  rw[B] at d
  rw[E]
  exact aac (ih (lc.length+1) (lc++[H]) (lk++[J]) (lq++[K]) k r t u y z h (by omega) (by simp) (by simp;omega) (by simp;omega) d.to)
end
section
def mq (C:aZ) (a a2 a3:Option Addr) (n b c2 c3:Nat) (x y z:Value):List Value:=C.enc++[.slice a n b,.slice a2 n c2,.slice a3 n c3,x,y,z,.slice none 0 0]
theorem Bi {a b:Int} {l:List Int} (h:within a b l=true):∀x∈l,a<=x/\x<=b:=by
 unfold within at h;intro x c;exact of_decide_eq_true (List.all_eq_true.1 h x c)
theorem vT {C:aZ} {ps:List (List Ins)} {ws os vs:List Int} (h:oW C ps ws os vs=0):C.Ok/\ps.length=C.aS.toNat/\ws.length=C.aS.toNat/\os.length=C.cH.toNat/\vs.length=C.lines*2/\mQ ps=0/\(∀w∈ws,0<=w/\w<=3)/\∀o∈os,0<=o/\o<=4:=by
 unfold oW at h;split at h;cases h;rename_i hC;split at h;cases h;rename_i c;split at h;rename_i b;exact absurd h b;rename_i b;split at h;cases h;rename_i a;have a:=Decidable.not_not.1 a;exact⟨Decidable.not_not.1 hC,by omega,by omega,by omega,by omega,Decidable.not_not.1 b,Bi a.1,Bi a.2⟩
set_option maxRecDepth 100000
variable {G:Bg} {h:AH} {L L':List HP} {Q:Value->AH->Prop} {Cf:aZ} {m N:Nat} {M:kL}
theorem Rf {p2 p5 hb mb:Nat} {hE:List Value} {pv wv ov vv:Value} {vs:List Int} {z:List Value} (hC:Cf.Ok) (hG:Gb G) (u:vs.length=Cf.lines*2) (q:A.qM G vv vs) (s:z[10]?=some (pt hb 0 0)) (d:hE[0]?=some (pt mb 0 0))
  (g:∀e,Hs G e (hU G Cf.lines mb Cf (At.words iS vs 0)::aM hb 0 hE::aM p5 0 z::aM p2 0 (tG Cf pv wv ov vv)::L)->Dd 16 11 [] Q [(pt p2 0 0),(pt p5 0 0)] e):
  ∀(f i:Nat) (mem:Nat->Ln) (h:AH),i+f=vs.length->At.words iS vs 0=At.words mem (vs.drop i) i->Hs G h (hU G Cf.lines mb Cf mem::aM hb 0 hE::aM p5 0 z::aM p2 0 (tG Cf pv wv ov vv)::L)->
  Dd 16 8 [] Q [(pt p2 0 0),(pt p5 0 0),vv,(I vs.length),(I i)] h:=by
 have p:=aZ.fC hC
 intro f
 induction f with
 |zero=>
  intro i mem h k c a
  rw[List.drop_of_length_le (by omega),At.words] at c
  rw[c] at g
  exact bW (aI (aaa (g _ a)))
 |succ f t=>
  intro i mem h k c a
  obtain⟨x,r,j⟩:=rG (l:=vs) (i:=i) (by omega)
  rw[j,At.words] at c
  have a:=A.iG q a
  refine bW (aI (aad (bW (fZ a (x:=[I x]) (by simp[A.nA,r]) rfl (bI (aB (am p5 a s (bI (aB (am hb a d ?_))))))))))
  exact Eo (C:=Cf) (mb:=mb) (mem:=mem) (w:=i) (v:=x) hC hG.lim a.tail (by omega) fun h a=>bC (aaa (bW (aac (t (i+1) _ h (by omega) c a))))
theorem Pp {pv wv ov vv:Value} {ps:List (List Ins)} {ws os vs:List Int} (hn:ps.length<=1000000/\ws.length<1000000/\os.length<1000000) (hG:Gb G) (F:Ob G 0 eP) (J:A.Ho G pv wv ov vv ps ws os vs) (a:Hs G h L)
  (k1:oW Cf ps ws os vs≠0->∀u,Hs G u L->Q (.tuple ⟨[.pointer none,I (oW Cf ps ws os vs)]⟩) u)
  (k2:oW Cf ps ws os vs=0->∀m u,Hs G u (Hy G Cf m (MC.new ⟨Cf,ps,ws,os,vs⟩)::L)->Q (.tuple ⟨[pt m 0 0,I 0]⟩) u):Cl Pr K 16 [.agg ⟨tG Cf pv wv ov vv⟩] h Q:=by
 refine cW (fK a fun d h a=>aB (kN (b:=d) (o:=0) a (by decide) (l:=Cf.enc) rfl rfl (aB (am d a rfl (aB (am d a rfl (aB (am d a rfl (aB (am d a rfl ?_))))))))))
 refine A.fj (C:=Cf) hn hG.lim F J a (fun v h a=>aE rfl (aE rfl (bC (bV v (k1 v _ a.tail))))) fun v pa h a=>aE rfl (aE rfl (bC (aaa ?_)))
 obtain⟨hC,T,U,V,W,X,Y,Z⟩:=vT v
 have a:Hs G h (aM d 0 (tG Cf pv wv ov vv)::L):=a.to
 have hc:=hC.1
 obtain⟨⟨vi,hv,D,B⟩,E,y,w⟩:=J
 refine bW (aB (kN (b:=d) (o:=0) a (by decide) (l:=Cf.enc) rfl rfl (bG (c:=ig Cf none none none 0 0 0 0) rfl (fK a fun k h a=>aB (aB (am d a rfl ?_))))))
 have a:=F9 (R:=Hw Cf) (s:=fun _=>xX) a
 have a:=F9 (R:=Ih G Cf) (s:=fun _=>tO.new) a
 have a:=F9 (R:=H4) (s:=Wl ps ws) a
 have a:=vX (enc:=pE) (e:=107) a
 have a:=vX (enc:=pE) (e:=110) a
 have a:=vX (enc:=pE) (e:=113) a
 refine yZ (L:=L) (ov:=ov) (vv:=vv) (Cf:=Cf) hC hG F T U Y (A.nH X) hv D B E ?_ Cf.aS.toNat 0 [] [] [] none none none 0 0 0 h (by omega) rfl rfl rfl a.to
 intro lc lk lq p r a3 t c2 c3 h O P S a
 refine bW (aB (kN (b:=d) (o:=0) a (by decide) (l:=Cf.enc) rfl rfl ?_))
 refine H.Mq (C:=Cf) hC hG.lim a fun f h a=>aE rfl (aE rfl (bI (aB (ay (b:=k) (o:=0) a fun h a=>bC (aaa ?_)))))
 have e8:kR (ig Cf p r a3 Cf.aS.toNat t c2 c3) (0+10) [pt f 0 0]=mq Cf p r a3 Cf.aS.toNat t c2 c3 (pt f 0 0) (.pointer none) (.pointer none):=rfl
 rw[e8] at a
 obtain⟨j,b,o,g,a⟩:=H.I1 (a.front (H.xY G f Cf (nC Cf.lines)))
 have em:(fun i=>(nC Cf.lines i).2)=iS:=by
  funext i;unfold nC iS;split<;>rfl
 rw[em] at a
 have a:=a.Lx (hU G Cf.lines j Cf iS) (aM f 0 (H.A9 j Cf b o g)) (aM k 0 (mq Cf p r a3 Cf.aS.toNat t c2 c3 (pt f 0 0) (.pointer none) (.pointer none))) (aM d 0 (tG Cf pv wv ov vv))
 refine bW (aB (am d a rfl (vQ w ?_)))
 refine Rf (Cf:=Cf) (p2:=d) (p5:=k) (hb:=f) (mb:=j) (hE:=H.A9 j Cf b o g) (z:=mq Cf p r a3 Cf.aS.toNat t c2 c3 (pt f 0 0) (.pointer none) (.pointer none)) hC hG W w rfl rfl ?_ vs.length 0 iS h (by omega) rfl a
 intro h a
 have a:=H.vO (H:=MC.home ⟨Cf,ps,ws,os,vs⟩) (hb:=f) (C:=Cf) (mb:=j) (b:=b) (o:=o) (cap:=g) (a.Lx (aM f 0 (H.A9 j Cf b o g)) (hU G Cf.lines j Cf (At.words iS vs 0)) (hole G 25 230 (some ⟨b,o,none⟩) g Cf.lines b o) (iT Cf.lines fun i=>H.oX b (o+i*25) (nC Cf.lines i).1))
 refine bW (aB (aB (am d a rfl (aB (am d a rfl ?_)))))
 refine Rp (C:=Cf) hC y V Z a fun q h a=>aE rfl (aE rfl (bI (aB (ay (b:=k) (o:=0) a fun h a=>bC (aaa (bW ?_))))))
 refine aB (kN (b:=d) (o:=0) a (by decide) (l:=Cf.enc) rfl rfl ?_)
 refine P8 (C:=Cf) hC hG.lim a fun fb h a=>aE rfl (aE rfl (bI (aB (ay (b:=k) (o:=0) a fun h a=>bC (aaa (k2 v _ _ ?_))))))
 have a:=vX (enc:=Ev.enc) (e:=24) a
 have e9:kR (kR (mq Cf p r a3 Cf.aS.toNat t c2 c3 (pt f 0 0) (.pointer none) (.pointer none)) (0+11) [pt q 0 0]) (0+12) [pt fb 0 0]=Kh Cf ⟨lc,lk,lq,p,r,a3,none,t,c2,c3,0,f,q,fb⟩ 0:=by
  unfold Kh;dsimp only;rw[O,P,S];rfl
 rw[e9] at a
 have a:Hs G h (Hy G Cf k (⟨Wl ps ws,fun _=>tO.new,fun _=>xX,MC.home ⟨Cf,ps,ws,os,vs⟩,⟨lA os,fun _=>none⟩,fun _ _=>[],[]⟩:kL)::L):=(Qo (m:=k) (x:=⟨lc,lk,lq,p,r,a3,none,t,c2,c3,0,f,q,fb⟩) (⟨Wl ps ws,fun _=>tO.new,fun _=>xX,MC.home ⟨Cf,ps,ws,os,vs⟩,⟨lA os,fun _=>none⟩,fun _ _=>[],[]⟩:kL) ⟨O,P,S⟩ a).to
 exact a
end
section
set_option maxRecDepth 100000
variable {G:Bg} {h:AH} {L L':List HP} {Q:Value->AH->Prop} {Cf:aZ} {m N:Nat} {M:kL}
theorem bt {C:aZ} {pv wv ov vv:Value} {ps:List (List Ins)} {ws os vs:List Int} (R:ps.length<=9223372036854775807) (z:A.Ho G pv wv ov vv ps ws os vs) (a:Hs G h L)
  (F:ps.length<=6/\ws.length<=6/\os.length<=20/\vs.length<=80->∀g,Hs G g L->Q (.bool true) g) (r:∀g,Hs G g L->Q (.bool false) g):Cl Pr K 38 [.agg ⟨tG C pv wv ov vv⟩] h Q:=by
 obtain⟨⟨O,D,j,t⟩,w,s,u⟩:=z
 have lp:∀{k:Value->Prop},k (I ps.length)->aK (eO pv) k:=fun d=>A.gQ j (by simpa [D] using d)
 have lw:∀{k:Value->Prop},k (I ws.length)->aK (eO wv) k:=fun d=>vQ w d
 have H:∀{k:Value->Prop},k (I os.length)->aK (eO ov) k:=fun d=>vQ s d
 have J:∀{k:Value->Prop},k (I vs.length)->aK (eO vv) k:=fun d=>vQ u d
 refine cW (fK a fun c h a=>?_)
 have loop:∀(f i:Nat) (h:AH),i+f=ps.length->Hs G h (aM c 0 (tG C pv wv ov vv)::L)->Dd 38 1 [] Q [(pt c 0 0),(I i)] h:=by
  intro f;induction f with
  |zero=>
   intro i h y a;refine bW (aB (am c a (v:=pv) rfl (lp (aI (aaa (aB (am c a (v:=pv) rfl (lp (mC (bK (fun g1=>?_) (fun g1=>r _ a.tail)))))))))));refine aB (am c a (v:=wv) rfl (lw (mC (bK (fun g2=>?_) (fun g2=>r _ a.tail)))));refine aB (am c a (v:=ov) rfl (H (mC (bK (fun g3=>?_) (fun g3=>r _ a.tail)))));refine aB (am c a (v:=vv) rfl (J (mC ?_)));by_cases g4:(vs.length:Int)<=80;rw[decide_eq_true g4];exact F ⟨by omega,by omega,by omega,by omega⟩ _ a.tail;rw[decide_eq_false g4];exact r _ a.tail
  |succ f E=>
   intro i h y a;obtain⟨p,B,P⟩:=rG (l:=ps) (i:=i) (by omega);obtain⟨v,q,_⟩:=rG (l:=O) (i:=i) (by omega);refine bW (aB (am c a (v:=pv) rfl (lp (aI (aad (bW (aB (am c a (v:=pv) rfl ?_))))))));refine fZ (eV (e:=3) (by simp) j a) (x:=[v]) (by simp[q]) rfl (A.gQ (t i v p q B) (fY (bK (fun _=>r _ a.tail) (fun _=>bW (aac (E (i+1) h (by omega) a))))))
 exact loop ps.length 0 h (by omega) a
end
end Go.Proofs.YtcjlkjeeifemhaaGreatDoor
end
namespace Go.Proofs.YtcjlkjeeifemhaaGreatDoor
open Go Go.Ab Go.Hm Go.At Go.Mc Go.Ct Go.Nt Go.Is
section
set_option maxRecDepth 100000
attribute [local irreducible] aK Br vH sW vI tX iM tM gT Q2 qF uH sB mL mI eO rX vM Hb Oy K8 Kr N1 Hq Jd O5 Kq kK oK nZ gF copyV iP sL P0 Ha yK hQ Ku P1 Pn jL mP sA sN Cl yC Lu nO mZ fP eD aY aR
variable {G:Bg} {h:AH} {L L':List HP} {Q:Value->AH->Prop} {Cf:aZ} {m N:Nat} {M:kL}
def Re (G:Bg) (v:Value) (l:List Do):Prop:=eJ G 4 v (l.map Do.enc).length (fun i=>(l.map Do.enc).getD i [])
theorem Pu {v:Value} {l:List Do} (a:Re G v l) (b:Hs G h L):Hs G h (lX G 4 52 v (l.map Do.enc)::L):=eV (by simp[Do.enc]) a b
theorem Mz {v:Value} {l:List Do} {k:Value->Prop} (b:Re G v l) (a:k (I l.length)):aK (eO v) k:=A.gQ b (by rw[List.length_map];exact a)
end
end Go.Proofs.YtcjlkjeeifemhaaGreatDoor
section
open Go Go.Ab
attribute [local irreducible] aK Br vH sW vI tX iM tM gT Q2 qF uH sB mL mI eO rX vM Hb Oy K8 Kr N1 Hq Jd O5 Kq kK oK nZ gF copyV iP sL P0 Ha yK hQ Ku P1 Pn jL mP sA sN Cl yC Lu nO mZ fP eD aY aR
namespace Go.Proofs.YtcjlkjeeifemhaaGreatDoor
open Go Go.Ab Go.Hm Go.At Go.Mc Go.Ct Go.Nt Go.Is Go.Sc
section
def gW (C:aZ) (ps:List (List Ins)) (ws os vs:List Int) (dl:List Do):Int:=if oW C ps ws os vs≠0 then oW C ps ws os vs else Ax dl
structure Mw (G:Bg) (pv wv ov vv dv:Value) (ps:List (List Ins)) (ws os vs:List Int) (dl:List Do):Prop where
 old:A.Ho G pv wv ov vv ps ws os vs
 Ig:Re G dv dl
 pr:∀p∈ps,∀x∈p,x.dN
 wr:∀w∈ws,dN w
 vr:∀v∈vs,dN v
 dr:∀d∈dl,Sg d
structure Wz (ps:List (List Ins)) (ws os vs:List Int) (dl:List Do):Prop where
 p:ps.length<=6
 w:ws.length<=6
 o:os.length<=20
 v:vs.length<=80
 d:dl.length<=500
structure db (ps:List (List Ins)) (ws os vs:List Int) (dl:List Do):Prop where
 p:ps.length<=1000000
 w:ws.length<1000000
 o:os.length<1000000
 d:dl.length<=1000
theorem Wz.l {ps:List (List Ins)} {ws os vs:List Int} {dl:List Do} (h:Wz ps ws os vs dl):db ps ws os vs dl:=by
 obtain⟨a,b,c,d,e⟩:=h;exact⟨by omega,by omega,by omega,by omega⟩
set_option maxRecDepth 100000
variable {G:Bg} {h:AH} {L L':List HP} {Q:Value->AH->Prop} {C:aZ} {pv wv ov vv dv:Value} {ps:List (List Ins)} {ws os vs:List Int} {dl:List Do}
theorem Xx (f:db ps ws os vs dl) (hG:Gb G) (i:Ob G 0 eP) (hA:Mw G pv wv ov vv dv ps ws os vs dl) (a:Hs G h L) (c:∀g,Hs G g L->Q (I (gW C ps ws os vs dl)) g):
  Cl Pr K 55 [.agg ⟨jY C pv wv ov vv dv⟩] h Q:=by
 have q:=f.p
 have r:=f.w
 have k:=f.o
 have j:=f.d
 unfold gW at c
 refine cW (fK (cs:=jY C pv wv ov vv dv) a fun p h a=>aB (kN (b:=p) (o:=0) a (by decide) (l:=tG C pv wv ov vv) rfl rfl ?_))
 refine Pp (Cf:=C) (by omega) hG i hA.old a (fun d h a=>?_) fun d m h a=>?_
 .rw[tu d] at c;exact aE rfl (aE rfl (bC (bV d (c h a.tail))))
 .rw[tt (fun e=>e d)] at c;refine aE rfl (aE rfl (bC (aaa (bW (aB (am p a (v:=dv) rfl (Mz hA.Ig (fY (aaa (bW (aB (am p a (v:=dv) rfl (Mz hA.Ig ?_)))))))))))));exact Hn (L:=Hy G C m (MC.new ⟨C,ps,ws,os,vs⟩)::aM p 0 (jY C pv wv ov vv dv)::L) (by have:=hA.Ig;unfold Re at this;rwa [List.length_map] at this) (by omega) (fun h a=>c h a.tail.tail) dl.length 0 h (by omega) rfl a
theorem A3 (k:db ps ws os vs dl) (hG:Gb G) (T:Ob G 0 eP) (hA:Mw G pv wv ov vv dv ps ws os vs dl) (c:Hs G h L)
  (Z:gW C ps ws os vs dl≠0->∀j,Hs G j L->Q (.tuple ⟨[tx [],I (gW C ps ws os vs dl)]⟩) j) (k2:gW C ps ws os vs dl=0->∀j,Hs G j L->Q (.tuple ⟨[tx (gE C os vs (ws.zip ps) dl),I 0]⟩) j):
  Cl Pr K 20 [.agg ⟨jY C pv wv ov vv dv⟩] h Q:=by
 have hp:=k.p
 have hw:=k.w
 have ho:=k.o
 have hd:=k.d
 obtain⟨⟨O,X,E,D⟩,J,B,F⟩:=id hA.old
 have r:gW C ps ws os vs dl=0->oW C ps ws os vs=0:=fun e=>by
  unfold gW at e;by_cases w:oW C ps ws os vs=0;exact w;rw[tu w] at e;exact absurd e w
 have R:oW C ps ws os vs=0->O.length=(ws.zip ps).length/\(ws.zip ps).map (·.1)=ws:=fun e=>by
  obtain⟨hC,R,e2,_⟩:=vT e;refine⟨by rw[List.length_zip];omega,?_⟩;exact List.map_fst_zip (by omega)
 have u:∀{i:Nat} {x:Int×List Ins},(ws.zip ps)[i]?=some x->ps[i]?=some x.2:=fun {i x} f=>by
  have:=List.getElem?_zip_eq_some.1 f;exact this.2
 have d:oW C ps ws os vs=0->∀p∈ps,(eT p).2=0/\(eT p).1=bN p/\(bN p).length<=5000:=fun e p o=>by
  obtain⟨_,_,_,_,_,W,_⟩:=vT e;have S:=A.nH W p o;obtain⟨hl,s⟩:=Is.eK S;have ht:=P.nQ (p:=p) fun x f=>⟨qS (s x f),hA.pr p o x f⟩;unfold eT;rw[tu S];exact⟨rfl,rfl,by omega⟩
 refine B4 (e:=gW C ps ws os vs dl) (os:=os) (vs:=vs) (vi:=O) (l:=ws.zip ps) (dl:=dl) (fun c z=>Xx k hG T hA c z) (fun e=>?_) (fun e i v x H f h L Q c z=>?_) c Z k2
 .have g:=r e;obtain⟨hC,n1,n2,n3,n4,n5,n6,n7⟩:=vT g;obtain⟨z1,z2⟩:=R g;have U:=(aZ.fC hC).2.2;have y:=hC;unfold aZ.Ok at y;have Y:(ws.zip ps).length<=6:=by rw[List.length_zip];omega
  refine⟨?_,fun v t=>Xd (by have:=n7 v t;omega),hA.vr,by omega,by omega,z1,by omega,fun x f=>?_,hA.dr,by omega,?_,?_,?_,?_,?_⟩
  .intro v t;unfold aZ.Ok at hC;simp only[rY,List.mem_cons,List.not_mem_nil,or_false] at t;exact Xd (by rcases t with rfl|rfl|rfl|rfl|rfl|rfl|rfl<;>omega)
  .obtain⟨a,b⟩:=x;have:=List.of_mem_zip f;exact⟨hA.wr a this.1,(d g b this.2).2.2⟩
  .have:=B;unfold A.qM A.nA at this;rwa [List.length_map] at this
  .have:=F;unfold A.qM A.nA at this;rwa [List.length_map] at this
  .exact E
  .rw[z2];have:=J;unfold A.qM A.nA at this;rwa [List.length_map] at this
  .have:=hA.Ig;unfold Re at this;rwa [List.length_map] at this
 .have g:=r e;have q:=u f;have s:=List.mem_of_getElem? q;obtain⟨V,c2,_⟩:=d g x.2 s;have c:=A.rP (D i v x.2 H q) c;refine P.B4 (p:=x.2) (hA.pr x.2 s) T c fun h c=>?_;rw[V,c2];exact z h c.tail
end
end Go.Proofs.YtcjlkjeeifemhaaGreatDoor
end
section
namespace Go.Ab
open Go Go.RowKit Go.ChangeShapes Go.WideShapes Go.ChangeAt
theorem Cw {P:Program} {H:Type} {enc:TypeId×Value->H} {W:World} {t:TypeId} {fs:Array Field} {i:Nat} {f:Field} {l:List Value} {d:DataW H} {p:List MemPlace} (o:P.underlying t=some (.struct fs)) (g:fs[i]?=some f)
  (h:DataW.Trod enc P W 0 (fun _=>true) true t (.agg ⟨l⟩) d p):∃k r,DataW.Trod enc P W 0 (fun _=>true) true f.type (.agg ⟨(l.drop f.offset).take (P.cellsOf f.type)⟩) k r:=by
 obtain⟨fuel,b⟩:=h
 obtain⟨e,m,_,_,s,q,a⟩:=DataW.trod_struct o b
 have j:=a i f g
 have c:i<e.length:=by rw[q];exact(Array.getElem?_eq_some_iff.1 g).1
 rw[List.getElem?_eq_getElem c] at j
 exact⟨(e[i]).1,(e[i]).2,m,by simpa [Value.cells] using j⟩
end Go.Ab
namespace Go.Proofs.YtcjlkjeeifemhaaGreatDoor
open Go Go.Ab Go.Hm Go.Is Go.At Go.Mc Go.Sc Go.RowKit
noncomputable def qv (B:Nat) (hB:12<=B):Ctx Pr B K:=(mg B hB).add 12 (.bool true) rfl fun _w a=>J0 a
theorem mh:_root_.Go.Proofs.YtcjlkjeeifemhaaGreatDoor.jM=Go.Hm.jM:=by kernel_rfl
theorem j1:_root_.Go.Proofs.YtcjlkjeeifemhaaGreatDoor.eP=Go.Is.eP:=by kernel_rfl
theorem ke:_root_.Go.Proofs.YtcjlkjeeifemhaaGreatDoor.S5=Go.Nt.Vs:=by kernel_rfl
theorem jb:_root_.Go.Proofs.YtcjlkjeeifemhaaGreatDoor.Vm=Go.Ct.Zu:=by kernel_rfl
theorem own:ownKnob Tryz.prog.godebug=none:=by kernel_rfl
theorem laidOut:laidOutB Tryz.prog=true:=by kernel_rfl
theorem qx:Tryz.prog.globalNamed "donjon/isa.ops"=some 0:=by kernel_rfl
theorem px:Tryz.prog.globalNamed "donjon/place.limits"=some 1:=by kernel_rfl
theorem qt:Tryz.prog.globalNamed "donjon/note.kinds"=some 3:=by kernel_rfl
theorem pz:Tryz.prog.globalNamed "donjon/moesi.rows"=some 5:=by kernel_rfl
theorem pf:Tryz.prog.globalNamed "strconv.ErrSyntax"=some 8:=by kernel_rfl
theorem nh:Tryz.prog.globalNamed "strconv.ErrRange"=some 9:=by kernel_rfl
theorem pw:Tryz.prog.globalNamed "math/bits.deBruijn64tab"=some 11:=by kernel_rfl
theorem iu {W:World} {l:List (String×DataW Unit)} (a:(l.all fun x=>x.2.handleName?.isNone)=true) (h:laidMetH Tryz.prog l W) (m0:("donjon/isa.ops",Rows.laid_donjon_isa_ops)∈l) (m1:("donjon/place.limits",Rows.laid_donjon_place_limits)∈l) (m2:("donjon/note.kinds",Rows.laid_donjon_note_kinds)∈l) (m3:("donjon/moesi.rows",Rows.laid_donjon_moesi_rows)∈l)
  (m4:("internal/strconv.uint64pow10",Rows.laid_internal_strconv_uint64pow10)∈l) (m5:("strconv.ErrSyntax",Rows.laid_strconv_ErrSyntax)∈l) (m6:("strconv.ErrRange",Rows.laid_strconv_ErrRange)∈l) (m11:("math/bits.deBruijn64tab",Rows.laid_math_bits_deBruijn64tab)∈l):Gl W:=by
 obtain⟨c,d,b⟩:=iZ (l:=((vL Tryz.prog 8 543 (Rows.laid_math_bits_deBruijn64tab (H:=Unit))).getD [])) 8 a h m11 pw (t:=543) (by kernel_rfl) (by kernel_rfl)
 exact⟨iZ (l:=eP) 8 a h m0 qx (t:=252) (by kernel_rfl) (by kernel_rfl),iZ (l:=jM) 8 a h m1 px (t:=282) (by kernel_rfl) (by kernel_rfl),iZ (l:=S5) 8 a h m2 qt (t:=471) (by kernel_rfl) (by kernel_rfl),
    iZ (l:=Vm) 8 a h m3 pz (t:=509) (by kernel_rfl) (by kernel_rfl),iZ (l:=ju) 8 a h m4 j9 (t:=498) (by kernel_rfl) (by kernel_rfl),zY a h m5 pf (t:=143) (by kernel_rfl) Tryz.underlying143,zY a h m6 nh (t:=143) (by kernel_rfl) Tryz.underlying143,(Array.getElem?_eq_some_iff.1 b).1⟩
abbrev i7:List (Option IntKind):=[some .i64,some .i64,some .i64,some .i64,some .i64,some .i64,some .i64]
abbrev i4:List (Option IntKind):=[some .i64,some .i64,some .i64,some .i64]
abbrev i1:List (Option IntKind):=[some .i64]
theorem W4:kZ Tryz.prog 8 32=some i7:=by kernel_rfl
theorem Xt:kZ Tryz.prog 8 155=some i4:=by kernel_rfl
theorem Fu:kZ Tryz.prog 8 3=some i1:=by kernel_rfl
theorem dk:kZ Tryz.prog 8 52=some i4:=by kernel_rfl
theorem Ub:Tryz.prog.cellsOf 155=i4.length:=by kernel_rfl
theorem Ap:Tryz.prog.cellsOf 3=i1.length:=by kernel_rfl
theorem Yx:Tryz.prog.cellsOf 52=i4.length:=by kernel_rfl
theorem Wb:Tryz.prog.cellsOf 32=7:=by kernel_rfl
theorem Ex:Tryz.prog.cellsOf 28=1:=by kernel_rfl
theorem Vq:Tryz.prog.cellsOf 75=1:=by kernel_rfl
theorem Vy:Tryz.prog.cellsOf 33=1:=by kernel_rfl
theorem Wa:Tryz.prog.cellsOf 36=1:=by kernel_rfl
theorem Qw:Tryz.prog.cellsOf 35=11:=by kernel_rfl
theorem Uj:Tryz.prog.cellsOf 38=12:=by kernel_rfl
theorem T3 {l:List Value} (t:Flat i7 l):∃a b c d e f g:Int,l=[I a,I b,I c,I d,I e,I f,I g]:=by
 obtain⟨a,D,i,u⟩:=lJ t;obtain⟨b,E,j,v⟩:=lJ u;obtain⟨c,F,k,w⟩:=lJ v;obtain⟨d,H,o,y⟩:=lJ w;obtain⟨e,J,p,z⟩:=lJ y;obtain⟨f,K,q,A⟩:=lJ z;obtain⟨g,O,r,B⟩:=lJ A;have s:=Bb B;subst s r q p o k j i;exact⟨a,b,c,d,e,f,g,rfl⟩
theorem Pk {l:List Value} (g:Flat i4 l):∃a b c d:Int,l=[I a,I b,I c,I d]/\dN a/\dN b/\dN c/\dN d:=by
 obtain⟨e,m1,f1,i,g1⟩:=oF g;obtain⟨f,m2,f2,j,g2⟩:=oF g1;obtain⟨a3,m3,f3,k,g3⟩:=oF g2;obtain⟨a4,m4,f4,o,g4⟩:=oF g3;have f5:=Bb g4;subst f5 f4 f3 f2 f1;exact⟨e,f,a3,a4,rfl,wf_i64 i,wf_i64 j,wf_i64 k,wf_i64 o⟩
theorem Wq {l:List Value} (f:Flat i4 l):∃x:Ins,l=x.enc/\x.dN:=by
 obtain⟨a,b,c,d,e,_,g,i,j⟩:=Pk f;exact⟨⟨a,b,c,d⟩,e,g,i,j⟩
theorem dt {l:List Value} (f:Flat i4 l):∃x:Do,l=x.enc/\Sg x:=by
 obtain⟨a,b,c,d,e,h⟩:=Pk f;exact⟨⟨a,b,c,d⟩,e,h⟩
theorem Na {l:List Value} (b:Flat i1 l):∃x:Int,l=[I x]/\dN x:=by
 obtain⟨a,m1,f1,c,g1⟩:=oF b;have f2:=Bb g1;subst f2 f1;exact⟨a,rfl,wf_i64 c⟩
theorem cu {l:List Value} (h:l.length=11) {a b c d:Value} (j:l[7]?=some a) (k:l[8]?=some b) (o:l[9]?=some c) (f:l[10]?=some d):l=l.take 7++[a,b,c,d]:=by
 apply List.ext_getElem?;intro i;by_cases p:i<7;rw[List.getElem?_append_left (by simp;omega),List.getElem?_take_of_lt p];rw[List.getElem?_append_right (by simp;omega)];have e:(l.take 7).length=7:=by simp;omega
 rw[e];by_cases g:i<11;have:i=7\/i=8\/i=9\/i=10:=by omega
 rcases this with rfl|rfl|rfl|rfl;exact j;exact k;exact o;exact f;rw[List.getElem?_eq_none (by omega),List.getElem?_eq_none (by simp;omega)]
set_option maxRecDepth 100000 in
theorem Rx {H:Type} {enc:TypeId×Value->H} {W:World} {l:List Value} {d:DataW H} {p:List MemPlace} (O:l.length=11) (h:DataW.Trod enc Tryz.prog W 0 (fun _=>true) true 35 (.agg ⟨l⟩) d p):
  ∃(C:aZ) (q:Option Addr) (k u:Nat) (s:Option Addr) (A cW:Nat) (o:Option Addr) (y t:Nat) (r:Option Addr) (z v:Nat),l=C.enc++[.slice q k u,.slice s A cW,.slice o y t,.slice r z v]/\k<=maxLen/\uQ i4 W q k u/\fT i1 W s A cW/\fT i1 W o y t/\fT i1 W r z v:=by
 have j:=Tryz.underlying35
 have w:=Al (i:=0) (n:=8) j rfl W4 h
 obtain⟨q,k,u,I,P,hP⟩:=Af (i:=1) (n:=8) j rfl Tryz.underlying33 Tryz.underlying75 Vy Vq Xt Ub (by decide) h
 obtain⟨s,A,cW,J,hW⟩:=jH (i:=2) (n:=8) j rfl Tryz.underlying28 Ex Fu Ap (by decide) h
 obtain⟨o,y,t,K,hO⟩:=jH (i:=3) (n:=8) j rfl Tryz.underlying28 Ex Fu Ap (by decide) h
 obtain⟨r,z,v,D,hV⟩:=jH (i:=4) (n:=8) j rfl Tryz.underlying28 Ex Fu Ap (by decide) h
 have e:=cu O I J K D
 have w:Flat i7 ((l.drop 0).take (Tryz.prog.cellsOf 32)):=w
 rw[Wb,List.drop_zero] at w
 obtain⟨a,b,c,E,F,f,g,B⟩:=T3 w
 rw[B] at e
 exact⟨⟨a,b,c,E,F,f,g⟩,q,k,u,s,A,cW,o,y,t,r,z,v,e,P,hP,hW,hO,hV⟩
structure V2 (W:World) (C:aZ) (aP:Option Addr) (lP cP:Nat) (aW:Option Addr) (lW cW:Nat) (aO:Option Addr) (lO cO:Nat) (aV:Option Addr) (lV cV:Nat) (aD:Option Addr) (lD cD:Nat):Prop where
 hm:lP<=maxLen
 hP:uQ i4 W aP lP cP
 hW:fT i1 W aW lW cW
 hO:fT i1 W aO lO cO
 hV:fT i1 W aV lV cV
 hD:fT i4 W aD lD cD
set_option maxRecDepth 100000 in
theorem Ii {H:Type} {enc:TypeId×Value->H} {W:World} {f:Nat} {v:Value} {d:DataW H} {p:List MemPlace} (A:Value.okWide Tryz.prog W .any f 38 v) (h:DataW.Trod enc Tryz.prog W 0 (fun _=>true) true 38 v d p):
  ∃(C:aZ) (j:Option Addr) (w r:Nat) (o:Option Addr) (z cW:Nat) (g:Option Addr) (u q:Nat) (k:Option Addr) (y s:Nat) (b:Option Addr) (c cD:Nat),v= .agg ⟨jY C (.slice j w r) (.slice o z cW) (.slice g u q) (.slice k y s) (.slice b c cD)⟩/\V2 W C j w r o z cW g u q k y s b c cD:=by
 have B:=Tryz.underlying38
 obtain⟨l,rfl,I⟩:=Uk B A
 rw[Uj] at I
 obtain⟨E,K,t⟩:=Cw (i:=0) B rfl h
 obtain⟨b,c,cD,a,hD⟩:=jH (i:=1) (n:=8) B rfl Tryz.underlying36 Wa dk Yx (by decide) h
 have t:DataW.Trod enc Tryz.prog W 0 (fun _=>true) true 35 (.agg ⟨(l.drop 0).take (Tryz.prog.cellsOf 35)⟩) E K:=t
 rw[Qw,List.drop_zero] at t
 have a:l[11]?=some (.slice b c cD):=a
 obtain⟨C,j,w,r,o,z,cW,g,u,q,k,y,s,e,J,hP,hW,hO,hV⟩:=Rx (by rw[List.length_take];omega) t
 refine⟨C,j,w,r,o,z,cW,g,u,q,k,y,s,b,c,cD,?_,J,hP,hW,hO,hV,hD⟩
 have D:l=l.take 11++[.slice b c cD]:=by
  have F:l.drop 11=[.slice b c cD]:=by
   rw[List.drop_eq_getElem_cons (by omega),List.drop_of_length_le (by omega)];rw[List.getElem?_eq_getElem (by omega)] at a;rw[Option.some.inj a]
  rw[<-F,List.take_append_drop]
 rw[e] at D
 rw[D]
 simp[jY]
theorem U6 {E:Nat} {W:World} {a:Option Addr} {len cap:Nat} {r:OB} {rs:List OB} {t:Nat->Value} {vs:List Value} {ns:List Nat} {at':Nat->Nat->List Value} (g:ka Pr W i4 E a len cap r rs t vs ns at'):
  ∃ps:List (List Ins),ps.length=len/\(∀p∈ps,∀x∈p,x.dN)/\∀(G:Bg) k,k<G.base->G.old k=r.1->(∀i x,rs[i]?=some x->E+i<G.base/\G.old (E+i)=x.1)->
   ∃y:List Value,y.length=ps.length/\eJ G 1 (t k) (y.map fun x=>[x]).length (fun i=>(y.map fun x=>[x]).getD i [])/\∀(i:Nat) (v:Value) (p:List Ins),y[i]?=some v->ps[i]?=some p->A.Hr G v p:=by
 have d:∀i,∃l:List Ins,(∀x∈l,x.dN)/\∀n,ns[i]?=some n->∀G v,eJ G 4 v n (at' i)->A.Hr G v l:=fun i=>by
  cases h:ns[i]? with
  |none=>exact⟨[],by simp,fun n g=>by cases g⟩
  |some n=>
   obtain⟨l,hl,X,k⟩:=lC (W:=4) (f:=Ins.enc) (R:=Ins.dN) (fun j T=>Wq (g.flat i n h j T));exact⟨l,X,fun n' B=>by cases B;exact fun G v V=>k G v V⟩
 refine⟨(List.range len).map fun i=>(d i).choose,by simp,fun p w=>?_,fun G k U P q=>?_⟩
 .obtain⟨i,_,rfl⟩:=List.mem_map.1 w;exact(d i).choose_spec.1
 obtain⟨Y,_,Z⟩:=g.old G k U P q
 refine⟨vs,by simp[g.ib],?_,fun i v p H w=>?_⟩
 .rw[List.length_map,g.ib];obtain⟨a,c,e,S⟩:=Y;refine⟨a,c,e,fun i F=>?_⟩;obtain⟨b,o,cells,I,J,K,O⟩:=S i F;refine⟨b,o,cells,I,J,K.trans ?_,O⟩;have z:i<vs.length:=by rw[g.ib];exact F
  simp[List.getD_eq_getElem?_getD,List.getElem?_eq_getElem z]
 .have s:i<len:=by have:=(List.getElem?_eq_some_iff.1 H).1;rw[g.ib] at this;exact this
  have D:p=(d i).choose:=by
   rw[List.getElem?_map,List.getElem?_range s] at w;simpa using w.symm
  subst D
  have u:ns[i]?=some (ns[i]'(by rw[g.Ve];exact s)):=List.getElem?_eq_getElem _
  exact(d i).choose_spec.2 _ u G v (Z i v _ H u).1
theorem Mn {W:World} (hL:Gl W) {C:aZ} {O S J P H:Option Addr} {lP U lW cW lO T lV V lD cD:Nat} (hR:V2 W C O lP U S lW cW J lO T P lV V H lD cD) {f:FuncId}
  (mk:Value->List Value) (α:∀ρ c c',aA ρ c c'->aC ρ (mk c) (mk c'))
  (β:∀(G:Bg) (h:AH) (pv wv ov vv dv:Value) (ps:List (List Ins)) (ws os vs:List Int) (dl:List Do),ps.length<=9223372036854775807->Gb G->Ob G 0 Go.Is.eP->Mw G pv wv ov vv dv ps ws os vs dl->Qd G dv dl.length->Hs G h []->Cl Pr K f (mk (.agg ⟨jY C pv wv ov vv dv⟩)) h fun v _=>v= .bool true):
  Calls Pr f ⟨mk (.agg ⟨jY C (.slice O lP U) (.slice S lW cW) (.slice J lO T) (.slice P lV V) (.slice H lD cD)⟩)⟩ W fun e W'=>e= .returned (.bool true)/\Below W.heap.size W W':=by
 obtain⟨hm,hP,hW,hO,hV,hD⟩:=hR
 obtain⟨D,tw,bw,vw,υ,fw,ow⟩:=qP Pr hW
 obtain⟨ro,to,bo,vo,ρ,fo,oo⟩:=qP Pr hO
 obtain⟨rv,tv,bv,ξ,τ,fv,κ⟩:=qP Pr hV
 obtain⟨rd,td,bd,vd,π,fd,od⟩:=qP Pr hD
 obtain⟨rp,d,tp,vs,ns,σ,F⟩:=Sn Pr 17 hP
 obtain⟨ι,ψ,rws,kw⟩:=lC (W:=1) (f:=fun x:Int=>[I x]) (R:=dN) (fun i j=>Na (fw i j))
 obtain⟨θ,φ,_,ko⟩:=lC (W:=1) (f:=fun x:Int=>[I x]) (R:=dN) (fun i j=>Na (fo i j))
 obtain⟨ib,χ,ν,kv⟩:=lC (W:=1) (f:=fun x:Int=>[I x]) (R:=dN) (fun i j=>Na (fv i j))
 obtain⟨η,Z,μ,kd⟩:=lC (W:=4) (f:=Do.enc) (R:=Sg) (fun i j=>dt (fd i j))
 obtain⟨ps,ε,gx,kp⟩:=U6 F
 have X:=hL
 obtain⟨⟨q,u,h1⟩,⟨p,z0,h0⟩,⟨r,z2,h2⟩,⟨s,z3,h3⟩,_,_,_,w⟩:=hL
 let R:List OB:=D::ro::rv::rd::rp::d
 have A:∀i x,d[i]?=some x->R[5+i]?=some x:=fun i x a=>by
  rw[Nat.add_comm];exact a
 have reads:Reads Pr (12+R.length) (qC 12 (X0 p z0 q u r z2 s z3) R) (kD 12 R) W:=Q9 (by rw[Ec];exact Nat.le_refl _) w (Z4 h0 h1 h2 h3) (fun x a=>by
  rcases List.mem_cons.1 a with rfl|a;exact bw.at' _;rcases List.mem_cons.1 a with rfl|a;exact bo.at' _;rcases List.mem_cons.1 a with rfl|a;exact bv.at' _;rcases List.mem_cons.1 a with rfl|a;exact bd.at' _;rcases List.mem_cons.1 a with rfl|a;exact F.out _ fun i y hy=>by
   have:=nG (g:=12) (A i y hy);rwa [show 12+(5+i)=17+i by omega] at this
  exact(F.ok x a).at' _)
 have ο:R.length=5+d.length:=by show d.length+1+1+1+1+1=_;omega
 let G:Bg:=⟨12+R.length,qC 12 (X0 p z0 q u r z2 s z3) R,12+R.length⟩
 have t:∀i x,R[i]?=some x->12+i<G.base/\G.old (12+i)=x.1:=fun i x a=>⟨by have:=(List.getElem?_eq_some_iff.1 a).1;show 12+i<12+R.length;omega,Sp a⟩
 have gw:=t 0 D rfl
 have go:=t 1 ro rfl
 have gv:=t 2 rv rfl
 have E:=t 3 rd rfl
 have gp:=t 4 rp rfl
 obtain⟨vi,ζ,δ,γ⟩:=kp G 16 gp.1 gp.2 (fun i x a=>by
  have:=t (5+i) x (A i x a);rwa [show 12+(5+i)=17+i by omega] at this)
 have gb:∀(b:Nat) (l:List Value) (e:TypeId) (z:Nat×Nat),b<12->X0 p z0 q u r z2 s z3 b=some (.cells l e z true)->Ob G b l:=fun b l e z Y hg=>⟨by show b<12+R.length;omega,e,z,true,(Vo (g:=12) (i:=b) (gl:=X0 p z0 q u r z2 s z3) (rs:=R) Y).trans hg⟩
 have ok:=β G (Go.Ab.start G.base G.old) (tp 16) (tw 12) (to 13) (tv 14) (td 15) ps ι θ ib η (by rw[ε];unfold maxLen at hm;omega)
  ⟨by first|exact gb _ _ p z0 (by omega) rfl|(rw[<-mh];exact gb _ _ p z0 (by omega) rfl),by first|exact gb _ _ r z2 (by omega) rfl|(rw[<-ke];exact gb _ _ r z2 (by omega) rfl),by first|exact gb _ _ s z3 (by omega) rfl|(rw[<-jb];exact gb _ _ s z3 (by omega) rfl)⟩ (by first|exact gb _ _ q u (by omega) rfl|(rw[<-j1];exact gb _ _ q u (by omega) rfl))
  ⟨⟨⟨vi,ζ,δ,γ⟩,kw G _ (ow G 12 gw.1 gw.2).1,ko G _ (oo G 13 go.1 go.2).1,kv G _ (κ G 14 gv.1 gv.2).1⟩,kd G _ (od G 15 E.1 E.2).1,gx,rws,ν,μ⟩ (by rw[Z];exact(od G 15 E.1 E.2).2) Vv
 have B:aC (kD 12 R) (mk (.agg ⟨jY C (tp 16) (tw 12) (to 13) (tv 14) (td 15)⟩)) (mk (.agg ⟨jY C (.slice O lP U) (.slice S lW cW) (.slice J lO T) (.slice P lV V) (.slice H lD cD)⟩)):=by
  refine α _ _ _ ?_;simp only[aA];exact⟨_,aC.append (gS _ (by rfl)) (aC.cons (F.rel _ 16 (nG (g:=12) (i:=4) (rs:=R) rfl)) (aC.cons (vw _ 12 (nG (g:=12) (i:=0) (rs:=R) rfl)) (aC.cons (vo _ 13 (nG (g:=12) (i:=1) (rs:=R) rfl)) (aC.cons (ξ _ 14 (nG (g:=12) (i:=2) (rs:=R) rfl)) (aC.cons (vd _ 15 (nG (g:=12) (i:=3) (rs:=R) rfl)) aC.nil))))),rfl⟩
 have:=Jw (qv W.heap.size w) X reads B ok
 intro cs
 obtain⟨e,w',fr,⟨ρ',o,h',v',he,k,hq,_,Y⟩,a⟩:=this cs
 rw[hq] at k
 simp only[aA] at k
 exact⟨e,w',fr,⟨by rw[he,k],Y⟩,a⟩
end Go.Proofs.YtcjlkjeeifemhaaGreatDoor
end
namespace Go.Proofs.YtcjlkjeeifemhaaGreatDoor
open Go Go.Ab Go.RowKit
section
set_option maxRecDepth 100000
theorem gV {a b:Bool} (c:a=true) (hb:b=true):(a&&b)=true:=by rw[c,hb];rfl
theorem bu:mapsRowed Tryz.prog=true:=by kernel_rfl
theorem W1:(Tryz.prog.stops==[])=true:=by kernel_rfl
theorem Y4:(Tryz.prog.stopKnobs==[])=true:=by kernel_rfl
theorem W7:(Rows.scriptRunsRow.plainKeys==Tryz.prog.plainKeys)=true:=by kernel_rfl
theorem Xh:Tryz.prog.stopsHeard=true:=by kernel_rfl
theorem W2:Tryz.prog.mayEnter=true:=by kernel_rfl
theorem Ww:(Rows.scriptRunsRow.lifted==Tryz.prog.liftsFinal)=true:=by kernel_rfl
theorem ee:(Tryz.prog.make==some Rows.scriptRunsRow.make)=true:=by kernel_rfl
theorem cx:Tryz.prog.mainIs=some (Rows.scriptRunsCard.stood.harness.1,Rows.scriptRunsCard.stood.harness.2.toList):=by kernel_rfl
theorem Xz:true=Tryz.prog.looks []:=by kernel_rfl
end
end Go.Proofs.YtcjlkjeeifemhaaGreatDoor
namespace Go.Proofs.YtcjlkjeeifemhaaGreatDoor.P
open Go Go.Ab Go.Is
section
theorem oE {f:FuncId} {args:List Value} {a:dU} (b:(f=12/\args.isEmpty=true)↔False) (h:K0 f args=some a):K f args=some a:=by
 show tK K0 12 (.bool true) f args=_;unfold tK;rw[tt (fun c=>b.1 c),h]
theorem S4 {k:Value->Prop} (a:k (.bool false)):aK (Hq true .neq .nilIface .nilIface) k:=⟨_,rfl,a⟩
theorem V3 {t:TypeId} {v:Value} {k:Value->Prop} (a:k (.bool true)):aK (Hq true .neq (.iface t v) .nilIface) k:=⟨_,rfl,a⟩
theorem G2 (l:List UInt8):(⟨l.toArray⟩:ByteArray).data.toList=l:=rfl
theorem Gf (l:List UInt8):(⟨l.toArray⟩:ByteArray).size=l.length:=rfl
theorem Ws {l:List UInt8} {v:Int} (a:l.length<=281474976710656) (h:Lib.atoiAll l= .ok v):K 171 [tx l]=some (.val (.tuple ⟨[I v,.nilIface]⟩)):=by
 refine oE (by simp) ?_;show(if _ then _ else _)=_;rw[tu (by rw[Gf];exact a),G2,h]
theorem X6 {l:List UInt8} (a:l.length<=281474976710656) (h:Lib.atoiAll l= .syntax):K 171 [tx l]=some (.val (.tuple ⟨[I 0,.iface 480 top]⟩)):=by
 refine oE (by simp) ?_;show(if _ then _ else _)=_;rw[tu (by rw[Gf];exact a),G2,h]
theorem Yj {l:List UInt8} (a:l.length<=281474976710656) (h:Lib.atoiAll l= .range):K 171 [tx l]=some (.val (.tuple ⟨[I (Lib.atoiSat l),.iface 480 top]⟩)):=by
 refine oE (by simp) ?_;show(if _ then _ else _)=_;rw[tu (by rw[Gf];exact a),G2,h]
theorem eg {a b:Int} {k:Value->Prop} (h:a<=b) (c:k (I a)):aK (sA (I a) (I b)) k:=⟨_,rfl,by rw[aab];exact c⟩
set_option maxRecDepth 100000
attribute [local irreducible] aK Br vH sW vI tX iM tM gT Q2 qF uH sB mL mI eO rX vM Hb Oy K8 Kr N1 Hq Jd O5 Kq kK oK nZ gF copyV iP sL P0 Ha yK hQ Ku P1 Pn jL mP sA sN Cl yC Lu nO mZ fP eD aY aR
variable {G:Bg} {h:AH} {L L' M:List HP} {Q:Value->AH->Prop}
theorem Kp {l:List UInt8} {c:UInt8} (a:Q (I (l.count c:Nat)) h):Cl Pr K 109 [tx l,tx [c]] h Q:=by
 unfold Cl;exact jX (v:=I (l.count c:Nat)) (oE (by simp) rfl) a
theorem U0 {l:List UInt8} {c:UInt8} (a:Q (I (Lib.indexByte l c)) h):Cl Pr K 161 [tx l,tx [c]] h Q:=by
 unfold Cl;exact jX (v:=I (Lib.indexByte l c)) (oE (by simp) rfl) a
theorem Ru {l:List UInt8} {c:UInt8} (a:Q (I (Lib.indexByte l c)) h):Cl Pr K 245 [tx l,tx [c]] h Q:=by
 unfold Cl;exact jX (v:=I (Lib.indexByte l c)) (oE (by simp) rfl) a
theorem O7 {l:List UInt8} (b:l.length<=281474976710656) (d:∀v,Lib.atoiAll l= .ok v->Q (.tuple ⟨[I v,.nilIface]⟩) h) (c:∀n,(∀v,Lib.atoiAll l≠.ok v)->Q (.tuple ⟨[I n,.iface 480 top]⟩) h):Cl Pr K 171 [tx l] h Q:=by
 unfold Cl;cases e:Lib.atoiAll l with
 |ok v=>exact jX (Ws b e) (d v e)
 |range=>exact jX (Yj b e) (c _ fun v a=>by rw[e] at a;cases a)
 |_=>exact jX (X6 b e) (c 0 fun v a=>by rw[e] at a;cases a)
theorem dh {l:List UInt8} {c:UInt8} (o:l.length<=2^40) (g:Hs G h L) (i:∀a b f,jW c l=some (a,b)->Hs G f L->Q (.tuple ⟨[tx a,tx b,.bool true]⟩) f) (j:jW c l=none->∀f,Hs G f L->Q (.tuple ⟨[tx l,tx [],.bool false]⟩) f):
  Cl Pr K 110 [tx l,tx [c]] h Q:=by
 refine cW (cW (Ru ?_))
 cases e:jW c l with
 |none=>
  rw[Jr e]
  exact gJ (aaa (aE rfl (aE rfl (aE rfl (j e h g)))))
 |some x=>
  obtain⟨a,b⟩:=x
  obtain⟨d,_⟩:=qR e
  rw[Bs e]
  have k:a.length+1+b.length=l.length:=by rw[d];simp;omega
  refine gJ (aad (dW g fun r h g=>G0 (by omega) (pC (l:=[c]) (bB (by simp;omega) ?_))))
  rw[show((a.length:Int)+([c].length:Nat))=((a.length+1:Nat):Int) by simp]
  refine Dv (by omega) (aE rfl (aE rfl (aE rfl ?_)))
  rw[show l.take a.length=a by rw[d];simp,show l.drop (a.length+1)=b by rw[d];simp]
  exact i a b h e g.tail
theorem O3 {ws:List Value} {k:Nat} {v z:Value}:(ws++List.replicate (k+1) z).set ws.length v=(ws++[v])++List.replicate k z:=by
 rw[List.set_append_right _ _ (Nat.le_refl _),Nat.sub_self,List.replicate_succ,List.set_cons_zero];simp
theorem Lb {l:List UInt8} {c:UInt8} {n cap:Nat} {a:Option Addr} (E:n<2^40) (y:∀u,Hs G u (cB 1 9 a cap (n,(bJ c l).map tx)::L)->Q (.slice a n cap) u):
  ∀(f:Nat) (s:List UInt8) (ws:List (List UInt8)) (h:AH),s.count c=f->s.length<2^40->ws.length+f+1=n->bJ c l=ws++bJ c s->Hs G h (cB 1 9 a cap (n,ws.map tx++List.replicate (f+1) (tx []))::L)->
   Dd 104 5 [] Q [(tx s),(tx [c]),(I 0),(I ((n:Int) - 1)),(.slice a n cap),(I ws.length)] h:=by
 intro f
 induction f with
 |zero=>
  intro s ws h o r A j b
  refine bW (aI (aaa (bW ?_)))
  refine Kk (e:=9) b rfl (by omega) fun h b=>aac ?_
  rw[show(ws.length:Int)+1=((n:Nat):Int) by omega]
  refine Yi (e:=9) b (by omega) (y h ?_)
  have w:(ws.map tx++List.replicate (0+1) (tx [])).set ws.length (tx s)=(bJ c l).map tx:=by
   rw[j,oR (lM.2 (List.count_eq_zero.1 o))];have:=O3 (ws:=ws.map tx) (k:=0) (v:=tx s) (z:=tx []);rw[List.length_map] at this;rw[this];simp
  rw[w] at b
  exact b
 |succ f B=>
  intro s ws h o r A j b
  refine bW (aI (aad (bW (U0 ?_))))
  cases e:jW c s with
  |none=>rw[lM,<-List.count_eq_zero] at e;omega
  |some x=>
   obtain⟨p,q⟩:=x
   obtain⟨d,g⟩:=qR e
   have D:p.length+1+q.length=s.length:=by rw[d];simp;omega
   rw[Bs e]
   refine aI (aaa (bW (aac ?_)))
   rw[show((p.length:Int)+0)=((p.length:Nat):Int) by omega]
   refine G0 (by omega) (Kk (e:=9) b rfl (by omega) fun h b=>pC (l:=[c]) (bB (by simp;omega) ?_))
   rw[show((p.length:Int)+([c].length:Nat))=((p.length+1:Nat):Int) by simp]
   refine Dv (by omega) (aac ?_)
   rw[show s.take p.length=p by rw[d];simp] at b
   rw[show s.drop (p.length+1)=q by rw[d];simp]
   have i:q.count c=f:=by
    rw[d,List.count_append,List.count_eq_zero.2 g,List.count_cons_self] at o;omega
   have:=B q (ws++[p]) h i (by omega) (by simp;omega) (by rw[j,pO e];simp) (by
    have t:=O3 (ws:=ws.map tx) (k:=f+1) (v:=tx p) (z:=tx []);rw[List.length_map] at t;rw[t] at b;rw[List.map_append];exact b)
   rw[List.length_append] at this
   exact this
theorem zG {l:List UInt8} {c:UInt8} (q:l.length<2^32) (e:Hs G h L) (j:∀a d n f,n=(bJ c l).length->Hs G f (cB 1 9 a d (n,(bJ c l).map tx)::L)->Q (.slice a n d) f):
  Cl Pr K 61 [tx l,tx [c]] h Q:=by
 have p:l.count c<=l.length:=List.count_le_length
 refine cW (cW (dH (aG (by decide) (bW (Ei (a:=[c]) (b:=[]) (aG (by simp) (bW (aI (bV (by decide) (bW (Kp (aac (pC (aac ?_))))))))))))))
 refine eg (by omega) ?_
 rw[show((l.count c:Nat):Int)+1=((l.count c+1:Nat):Int) by omega]
 refine Z9 (by omega) (by omega) (fS e ?_ rfl ?_ fun a h e=>K2 (by omega) ?_)
 .simp[cS]
 .unfold cS;rw[List.all_eq_true];intro x g;obtain⟨y,k,g⟩:=List.mem_flatten.1 g;rw[List.eq_of_mem_replicate k] at g;rw[List.mem_singleton.1 g];rfl
 .have o:cS [Value.string ⟨#[]⟩] (l.count c+1)=List.replicate (l.count c+1) (tx []):=by
   unfold cS;rw[List.flatten_replicate_singleton]
  dsimp only at e ⊢
  rw[o] at e
  have:=Lb (L:=L) (l:=l) (c:=c) (n:=l.count c+1) (cap:=l.count c+1) (a:=some a) (Q:=Q) (by omega) (fun f i=>j _ _ _ f (rQ l).symm i) (l.count c) l [] h rfl (by omega) (by simp) rfl (by simpa using e)
  exact this
end
end Go.Proofs.YtcjlkjeeifemhaaGreatDoor.P
section
open Go Go.Ab
attribute [local irreducible] aK Br vH sW vI tX iM tM gT Q2 qF uH sB mL mI eO rX vM Hb Oy K8 Kr N1 Hq Jd O5 Kq kK oK nZ gF copyV iP sL P0 Ha yK hQ Ku P1 Pn jL mP sA sN Cl yC Lu nO mZ fP eD aY aR
namespace Go.Proofs.YtcjlkjeeifemhaaGreatDoor.P
open Go Go.Ab Go.Is
section
set_option maxRecDepth 100000
variable {G:Bg} {h:AH} {L L' M:List HP} {Q:Value->AH->Prop}
theorem Yf {w:List UInt8} (j:Ob G 0 eP) (l:Hs G h L) (e:Q (I (oO w:Nat)) h):Cl Pr K 169 [tx w] h Q:=by
 refine cW ?_;have loop:∀(f i:Nat),i+f=12->oO w=Vr w f i->Dd 169 1 [] Q [(tx w),(I i)] h:=by
  intro f;induction f with
  |zero=>
   intro i k a;rw[a] at e;exact bW (aI (aaa e))
  |succ f g=>
   intro i k a;rw[Vr] at a;refine bW (aI (aad (bW (oL (xC (fun c=>vV (i:=i) rfl (by omega) (aB (zE l j (Hi (by omega)) (Ei (bK (fun d=>?_) (fun d=>?_)))))) (fun c=>?_))))));rw[tu ⟨c,d⟩] at a;rw[a] at e;exact e;rw[tt (fun b=>d b.2)] at a;exact bW (aac (g (i+1) (by omega) a));rw[tt (fun b=>by rw[c] at b;exact absurd b.1 (by decide))] at a;exact aac (g (i+1) (by omega) a)
 exact loop 12 0 rfl rfl
theorem ew {o:Nat} {vs:List Int} {v:Int} (h:vs.length<3):kR (Dx o vs).enc (1+vs.length) [I v]=(Dx o (vs++[v])).enc:=by
 match vs,h with
 |[],_=>rfl
 |[a],_=>rfl
 |[a,b],_=>rfl
 |_::_::_::_,h=>simp at h;omega
theorem M4 {o p1 A:Nat} {l:List UInt8} (_α:1<=o) (P:o<12) (hg:Ob G 0 eP) (X:∀y B,(∀x,eW l=some x->y=x)->Hs G B L->Q (.tuple ⟨[.agg ⟨Ins.enc y⟩,.bool (eW l).isSome]⟩) B):
  ∀(f i:Nat) (vs:List Int) (ps:List (List UInt8)) (a:Option Addr) (n c:Nat) (h:AH),i+f=3->i=vs.length->n=ps.length->(∀p∈ps,p.length<=2^40)->eW l=(uP ((jU o).drop i) ps).map (fun Y=>Dx o (vs++Y))->
   Hs G h (aM p1 0 [I 0,I 0,I 0,I 0]::aM A 0 (Dx o vs).enc::cB 1 9 a c (n,ps.map tx)::L)->Dd 111 2 [] Q [(pt p1 0 0),(.slice a n c),(pt A 0 0),(.agg ⟨[pt A 0 1,pt A 0 2,pt A 0 3]⟩),(I i)] h:=by
 have fin:∀(vs:List Int) (ps:List (List UInt8)) (a:Option Addr) (n c:Nat) (h:AH),n=ps.length->eW l=(if ps=[] then some (Dx o vs) else none)->
   Hs G h (aM p1 0 [I 0,I 0,I 0,I 0]::aM A 0 (Dx o vs).enc::cB 1 9 a c (n,ps.map tx)::L)->
   aK (sW h 4 (pt A 0 0)) fun v1=>aK (eO (.slice a n c)) fun v2=>aK (vM .eql v2 (I 0)) fun v3=>aK (vI h 4 (pt p1 0 0) v1) fun V=>aK (sW V 4 (pt p1 0 0)) fun v5=>Q (.tuple ⟨[v5,v3]⟩) V:=fun vs ps a n c h s k g=>by
  refine an A g (l:=(Dx o vs).enc) rfl rfl (cM (dH (ax (b:=p1) (o:=0) g fun h g=>an p1 g (l:=(Dx o vs).enc) rfl rfl ?_)))
  have:=X (Dx o vs) h (fun x D=>by
   rw[k] at D;split at D;cases D;rfl;cases D) g.to
  rw[k] at this
  by_cases E:ps=[]
  .rw[tu E] at this;rw[decide_eq_true (by rw[s,E];rfl)];exact this
  .rw[tt E] at this;rw[decide_eq_false (by rw[s];have:=List.length_pos_iff.2 E;omega)];exact this
 have bad:∀(h:AH) (M:List HP),eW l=none->Hs G h (aM p1 0 [I 0,I 0,I 0,I 0]::M)->(∀B,Hs G B (aM p1 0 [I 0,I 0,I 0,I 0]::M)->Hs G B L)->
   aK (jS [I 0,I 0,I 0,I 0] []) fun c2=>aK (vI h 4 (pt p1 0 0) (.agg ⟨c2⟩)) fun U=>aK (sW U 4 (pt p1 0 0)) fun v4=>Q (.tuple ⟨[v4,.bool false]⟩) U:=fun h M k g hM=>by
  refine bG (c:=[I 0,I 0,I 0,I 0]) rfl (ax g fun h g=>bE g (by decide) (l:=[I 0,I 0,I 0,I 0]) rfl rfl ?_)
  have:=X ⟨0,0,0,0⟩ h (fun x D=>by rw[k] at D;cases D) (hM h g)
  rw[k] at this
  exact this
 intro f
 induction f with
 |zero=>
  intro i vs ps a n c h hi F s t k g
  rw[List.drop_of_length_le (by rw[nX P];omega)] at k
  refine bW (aI (aaa (fin vs ps a n c h s ?_ g)))
  rw[k,uP]
  split<;>simp
 |succ f ih=>
  intro i vs ps a n c h hi S s t k g
  have hd:(jU o).drop i=(jU o).getD i 0::(jU o).drop (i+1):=by
   have H:i<(jU o).length:=by rw[nX P];omega
   rw[List.drop_eq_getElem_cons H,List.getD_eq_getElem?_getD,List.getElem?_eq_getElem H];rfl
  rw[hd,sX] at k
  have e0:i=0\/i=1\/i=2:=by omega
  refine bW (aI (aad (bW (Pd (v:=pt A 0 (1+i)) (by omega) (by rcases e0 with rfl|rfl|rfl<;>rfl) (aB (am A g rfl (vV (i:=o) (x:=(Dx o vs).op) rfl (by omega) (aB (mO (by omega) ?_)))))))))
  refine zE g hg (Ae P (by omega)) (dH (bK (fun O=>?_) (fun O=>bW (cM (dH (bK (fun n0=>?_) (fun n0=>bW ?_)))))))
  .rw[tu O] at k;refine fin vs ps a n c h s ?_ g;rw[k];split<;>simp
  .rw[tt O] at k;have R:ps=[]:=List.eq_nil_of_length_eq_zero (by omega);subst R;exact bad h _ (by rw[k];rfl) g fun B z=>z.to
  .rw[tt O] at k;match ps,s,t,k,g with
   |[],s,_,_,_=>simp at s;omega
   |q::K,s,t,k,g=>
    simp only at k
    have hq:=t q List.mem_cons_self
    refine gU (e:=9) (u:=tx q) g rfl (O7 (by omega) (fun v F=>?_) (fun m hm=>?_))
    .refine aE rfl (aE rfl (dW g fun r h g=>S4 (dK (uM (Gg F) ?_))));obtain⟨b2,o2,rfl,H2,J,_⟩:=(g.front (cB 1 9 a c (n,(q::K).map tx))).F5 (by omega);refine gB (i:=0) (by omega) (ae J (v:=tx q) rfl (Du (nN Tv (nN (gB (i:=0) (by omega) xR) (nN (ae J (v:=tx q) rfl Zr) (bK (fun d=>?_) (fun d=>bW ?_)))))))
     .have w:gL q=none:=by
       unfold gL;rw[F];simp only;rw[tt d]
      rw[w] at k
      exact bad h _ (by rw[k];rfl) (g.front (aM p1 0 [I 0,I 0,I 0,I 0])) fun B z=>z.to
     .have T:Lib.itoa v=q:=by simpa using d
      have w:gL q=some v:=by
       unfold gL;rw[F];simp only;rw[tu T]
      rw[w] at k
      simp only at k
      refine bI (dL (b:=A) (o:=0) (j:=1+i) g rfl (by show Nat.ble (1+i+1) 4=true;rw[Nat.ble_eq];omega) rfl rfl fun h g=>?_)
      rw[S,ew (by omega)] at g
      obtain rfl:n=K.length+1:=by simpa using s
      refine I2 (e:=9) (W:=1) g fun Z c' g=>aac (ih (i+1) (vs++[v]) K Z K.length c' h (by omega) (by simp;omega) rfl (fun p E=>t p (List.mem_cons_of_mem _ E)) ?_ ?_)
      .rw[k,Option.map_map];congr 1;funext Y;simp
      .simp only[List.map_cons,List.drop_succ_cons,List.drop_zero] at g;exact g.to
    .refine aE rfl (aE rfl (dW g fun r h g=>V3 (fO ?_)));have w:gL q=none:=by
      unfold gL;split;rename_i v F;exact absurd F (hm v);rfl
     rw[w] at k
     exact bad h _ (by rw[k];rfl) (g.front (aM p1 0 [I 0,I 0,I 0,I 0])) fun B z=>z.to
theorem sU {c:UInt8}:∀(l:List UInt8),∀p∈bJ c l,p.length<=l.length
 |[],p,h=>by
  rw[List.mem_singleton.1 (show p∈[([]:List UInt8)] from h)];exact Nat.le_refl _
 |b::l,p,h=>by
  have a:=sU (c:=c) l;rw[bJ] at h;split at h;rcases List.mem_cons.1 h with rfl|h;simp;have:=a p h;simp;omega;cases hs:bJ c l with
  |nil=>exact absurd hs (nV l)
  |cons w ws=>
   rw[hs] at h a;rcases List.mem_cons.1 h with rfl|h;have:=a w List.mem_cons_self;simp;omega;have:=a p (List.mem_cons_of_mem _ h);simp;omega
theorem T8 {l:List UInt8} (E:l.length<2^32) (k:Ob G 0 eP) (d:Hs G h L) (r:∀y j,(∀x,eW l=some x->y=x)->Hs G j L->Q (.tuple ⟨[.agg ⟨Ins.enc y⟩,.bool (eW l).isSome]⟩) j):Cl Pr K 111 [tx l] h Q:=by
 refine cW (eN d fun p1 h d=>zG (c:=32) E d fun a B n h s d=>?_);have f:=sU (c:=32) l;match hsp:bJ 32 l with
 |[]=>exact absurd hsp (nV l)
 |w::ps=>
  rw[hsp] at s d f;refine gU (e:=9) (i:=0) (u:=tx w) d rfl (Yf k d (bG (c:=[I (oO w:Nat),I 0,I 0,I 0]) rfl (eN d fun g h d=>ax d fun h d=>aB (am g d rfl (oL (cC (xA (xC (fun c=>?_) (fun c=>?_)))))))));have J:=of_decide_eq_true c;obtain rfl:n=ps.length+1:=by simpa using s
  refine bW (I2 (e:=9) (W:=1) d fun z A d=>aB (aB (aB (bG (c:=[pt g 0 1,pt g 0 2,pt g 0 3]) rfl ?_))));simp only[List.map_cons,List.drop_succ_cons,List.drop_zero] at d;refine M4 (L:=L) (o:=oO w) (l:=l) (by omega) (by omega) k r 3 0 [] ps z ps.length A h rfl rfl rfl (fun p F=>by have:=f p (List.mem_cons_of_mem _ F);omega) ?_ ?_;unfold eW;rw[hsp];simp only;rw[aab];rfl;have d:=d.sg (b:=g) (o:=0) (c:=(Dx (oO w) []).enc) rfl;exact d.to;have D:oO w=0:=by
   have H:=of_decide_eq_false c;by_cases v:oO w=0;exact v;have:=Aw (w:=w) 12 0 (by omega) v;have e:Vr w 12 0=oO w:=rfl;omega
  have q:eW l=none:=by
   unfold eW;rw[hsp];simp only;rw[tu D]
  refine bG (c:=[I 0,I 0,I 0,I 0]) rfl (ax (b:=p1) (o:=0) d fun h d=>an p1 d (l:=[I 0,I 0,I 0,I 0]) rfl rfl ?_);have:=r ⟨0,0,0,0⟩ h (fun x t=>by rw[q] at t;cases t) d.to;rw[q] at this;exact this
theorem K9 {many:Int} {res:List Ins×Int×Int} (B:Ob G 0 eP) (D:∀v A,Hs G A (Hz 4 155 v (res.1.map Ins.enc)::L)->Q (.tuple ⟨[v,I res.2.1,I res.2.2]⟩) A):
  ∀(f:Nat) (s:List UInt8) (acc:List Ins) (no:Nat) (a:Option Addr) (n c:Nat) (h:AH),s.length<f->f<=2^31->acc.length+f<=2^32->no+f<=2^33->n=acc.length->res=gD many f s acc no->Hs G h (cB 4 155 a c (n,(acc.map Ins.enc).flatten)::L)->
   Dd 64 2 [] Q [(tx s),(I many),(.slice a n c),(I no)] h:=by
 have bad:∀(h:AH) (M:List HP) (no e:Int),res=([],no,e)->Hs G h L->Q (.tuple ⟨[.slice none 0 0,I no,I e]⟩) h:=fun h M no e j i=>by
  have:=D (.slice none 0 0) h (by
   rw[j];exact wN (by simp) (by simp) rfl (eU (W:=4) (e:=155) i))
  rw[j] at this;exact this
 intro f
 induction f with
 |zero=>intro s acc no a n c h O;omega
 |succ f V=>
  intro s acc no a n c h O P Y T F j i
  rw[gD] at j
  refine bW (Du (b:=[]) (bK (fun d=>?_) (fun d=>?_)))
  rotate_left
  .have d:s=[]:=by simpa using d
   rw[tu d] at j
   have:=D (.slice a n c) h (by
    rw[j];exact wN (Ti (f:=Ins.enc) (W:=4) (fun x=>rfl) acc) (by simp[F]) rfl i)
   rw[j] at this
   exact this
  rw[tt d] at j
  have line:∀(r rest:List UInt8) (ended:Bool) (h:AH),r.length<=s.length->Hs G h (cB 4 155 a c (n,(acc.map Ins.enc).flatten)::L)->(ended=true->rest.length<s.length)->
    (res=match eW r with|none=>([],(no:Int),14)|some x=>if ended=false then([],(no:Int),14) else if lZ x many≠0 then([],(no:Int),lZ x many) else gD many f rest (acc++[x]) (no+1))->
    Cl Pr K 111 [tx r] h fun v4 H=>aK (sB 0 v4) fun v5=>aK (sB 1 v4) fun v6=>tX H (.cells [I 0,I 0,I 0,I 0] 155 (0,0) true) fun t J=>aK (vI J 4 (pt t 0 0) v5) fun w=>aK (Kq .not v6) fun v10=>Br v10 (Q (.tuple ⟨[.slice none 0 0,I no,I 14]⟩) w) (
     aK (Kq .not (.bool ended)) fun v11=>Br v11 (Q (.tuple ⟨[.slice none 0 0,I no,I 14]⟩) w) (Dd 64 4 [] Q [(I many),(.slice a n c),(I no),(tx rest),(pt t 0 0)] w)):=fun r rest ended h S i k g=>by
   refine T8 (by omega) B i fun y h U i=>aE rfl (aE rfl (eN i fun t h i=>ax i fun h i=>?_))
   cases hi:eW r with
   |none=>
    rw[hi] at g
    exact cC (fO (bad h L no 14 g i.to))
   |some x=>
    obtain rfl:=U x hi
    rw[hi] at g
    simp only at g
    refine cC (dK (cC ?_))
    cases ended with
    |false=>
     rw[tu rfl] at g
     exact fO (bad h L no 14 g i.to)
    |true=>
     rw[tt (by decide)] at g
     refine dK (bW (an t i (l:=y.enc) rfl rfl (oP B i fun h i=>bC (bK (fun m=>?_) (fun m=>bW ?_)))))
     .rw[tu m] at g;exact bad h L no _ g i.to
     .rw[tt m] at g;refine an t i (l:=y.enc) rfl rfl (bG (c:=y.enc) rfl (fS i rfl rfl rfl fun X h i=>pA i (by omega) fun a3 c3 h i=>?_));dsimp only;have Z:=k rfl;refine aac (V rest (acc++[y]) (no+1) a3 (n+1) c3 h (by omega) (by omega) (by simp;omega) (by omega) (by simp[F]) g ?_);rw[List.map_append,List.flatten_append];simp only[List.map_cons,List.map_nil,List.flatten_cons,List.flatten_nil,List.append_nil];exact i.to
  refine bW (dh (c:=10) (by omega) i (fun p q h u i=>?_) (fun u h i=>?_))
  .obtain⟨z,_⟩:=qR u;have E:p.length+1+q.length=s.length:=by rw[z];simp;omega
   rw[u] at j
   refine aE rfl (aE rfl (aE rfl (line p q true h (by omega) i (fun _=>by omega) ?_)))
   rw[j]
   cases hi:eW p with
   |none=>simp[hi]
   |some x=>simp[hi]
  .rw[u] at j;refine aE rfl (aE rfl (aE rfl (line s [] false h (by omega) i (fun R=>by cases R) ?_)));rw[j];cases hi:eW s with
   |none=>simp
   |some x=>simp
theorem Vz {s:List UInt8} (i:s.length<2^30) (f:Ob G 0 eP) (c:Hs G h L) (b:∀v a,Hs G a (Hz 4 155 v ((cX s).1.map Ins.enc)::L)->Q (.tuple ⟨[v,I (cX s).2.1,I (cX s).2.2]⟩) a):
  Cl Pr K 64 [tx s] h Q:=by
 have g:s.count 10<=s.length:=List.count_le_length
 refine cW (Kp (fY (bK (fun d=>?_) (fun d=>bW ?_))))
 .have e:cX s=([],0,11):=by unfold cX;rw[aae]
  have:=b (.slice none 0 0) h (by
   rw[e];exact wN (by simp) (by simp) rfl (eU (W:=4) (e:=155) c))
  rw[e] at this
  exact this
 .have e:cX s=gD (s.count 10:Nat) (s.length+1) s [] 1:=by unfold cX;rw[aab]
  exact K9 (L:=L) (res:=cX s) f b (s.length+1) s [] 1 none 0 0 h (by omega) (by omega) (by simp;omega) (by omega) rfl e (eU (W:=4) (e:=155) c)
end
end Go.Proofs.YtcjlkjeeifemhaaGreatDoor.P
namespace Go.Proofs.YtcjlkjeeifemhaaGreatDoor
open Go Go.Ab Go.Hm Go.Is Go.At Go.Mc Go.Sc
section
set_option maxRecDepth 100000
variable {G:Bg} {h:AH} {L L' M:List HP} {Q:Value->AH->Prop}
theorem Qr {p:List UInt8} (e:p.length<=281474976710656) (c:∀v,gL p=some v->Q (.tuple ⟨[I v,.bool true]⟩) h) (b:gL p=none->Q (.tuple ⟨[I 0,.bool false]⟩) h):Cl Pr K 246 [tx p] h Q:=by
 refine cW (P.O7 e (fun v a=>?_) (fun m f=>?_));refine aE rfl (aE rfl (P.S4 (dK (uM (Gg a) (Du (bK (fun d=>?_) (fun d=>?_)))))));exact b (by unfold gL;rw[a];simp only;rw[tt d]);exact c v (by unfold gL;rw[a];simp only;rw[tu (Decidable.not_not.1 d)]);refine aE rfl (aE rfl (P.V3 (fO (b ?_))));unfold gL;split;rename_i v a;exact absurd a (f v);rfl
theorem Sy {l:List UInt8} (X:l.length<2^32) (k:Hs G h L) (k1:Rj l=none->∀t,Hs G t L->Q (.tuple ⟨[tx [],.slice none 0 0,.bool false]⟩) t)
  (k2:∀w n a c t,Rj l=some (w,n)->Hs G t (cB 1 3 a c (n.length,n.map I)::L)->Q (.tuple ⟨[tx w,.slice a n.length c,.bool true]⟩) t):Cl Pr K 165 [tx l] h Q:=by
 refine cW (P.zG (c:=32) X k fun a z m F H k=>?_)
 have j:=P.sU (c:=32) l
 have g:=rQ (c:=32) l
 have U:l.count 32<=l.length:=List.count_le_length
 cases hsp:bJ 32 l with
 |nil=>exact absurd hsp (nV l)
 |cons w ps=>
  rw[hsp] at k j H g
  have B:m=ps.length+1:=H
  subst B
  have O:=uS.of k
  have b:=k.B7
  refine vR (i:=1) b O (by simp) (by simp) fun v' s=>?_
  rw[List.map_cons,List.drop_succ_cons,List.drop_zero] at s
  refine iJ s ?_
  rw[List.length_map]
  have loop:∀(f i:Nat) (d:List Int) (o:Option Addr) (c2:Nat) (h:AH),i+f=ps.length->d.length=i->kE ps=(kE (ps.drop i)).map (fun r=>d++r)->Hs (B7 G F) h (cB 1 3 o c2 (i,d.map I)::[])->
    Dd 165 1 [] Q [.slice a (ps.length+1) z,.slice o i c2,v',I ps.length,I i] h:=by
   intro f
   induction f with
   |zero=>
    intro i d o c2 h V A q b
    obtain rfl:i=ps.length:=by omega
    rw[List.drop_of_length_le (Nat.le_refl _)] at q
    have q:kE ps=some d:=by rw[q];show some (d++[])=_;rw[List.append_nil]
    have D:Rj l=some (w,d):=by unfold Rj;rw[hsp];show(kE ps).map _=_;rw[q];rfl
    refine bW (aI (aaa (iB (i:=0) b O (u:=tx w) rfl ?_)))
    have hq:=(k.Ij b).perm (List.Perm.refl _)
    have:=k2 w d o c2 h D (by
     rw[A];exact(k.Ij b).to)
    rw[A] at this
    exact this
   |succ f Z=>
    intro i d o c2 h V A q b
    obtain⟨p,J,y⟩:∃p,ps[i]?=some p/\ps.drop i=p::ps.drop (i+1):=⟨ps[i],List.getElem?_eq_getElem (by omega),List.drop_eq_getElem_cons (by omega)⟩
    have Y:=j p (List.mem_cons_of_mem _ (List.mem_of_getElem? J))
    have bad:gL p=none->Rj l=none:=fun e=>by
     unfold Rj;rw[hsp];show(kE ps).map _=none;rw[q,y];unfold kE;rw[e];rfl
    refine bW (aI (aad (bW (iB b s (i:=i) (u:=tx p) (by rw[List.getElem?_map,J];rfl) (Qr (by omega) (fun v E=>?_) (fun e=>?_))))))
    .refine aE rfl (aE rfl (cC (dK (bW (bG (c:=[I v]) rfl (fS (W:=1) (n:=1) (c:=1) b rfl rfl rfl fun a3 h b=>?_))))));refine pA (a:=o) (c:=c2) (n:=i) (cs:=d.map I) (a2:=some a3) (c2:=1) (m:=1) (ns:=[I v]) b (by omega) fun R S h b=>aac (Z (i+1) (d++[v]) R S h (by omega) (by simp;omega) ?_ ?_)
     .rw[q,y];show(match gL p with|some v=>(kE (ps.drop (i+1))).map fun l=>v::l|none=>none).map _=_;rw[E];simp only[Option.map_map];congr 1;funext r;simp
     .have T:(d++[v]).map I=d.map I++[I v]:=by simp
      rw[T]
      exact b.to
    .refine aE rfl (aE rfl (cC (fO (k1 (bad e) h ?_))));exact(k.Ij b).to
  exact loop ps.length 0 [] none 0 F (by omega) rfl (by rw[List.drop_zero];cases kE ps<;>rfl) (eU (W:=1) (e:=3) b)
theorem tT {l w:List UInt8} (i:l.length<2^32) (b:Hs G h L) (g:Cd l w=none->∀f,Hs G f L->Q (.tuple ⟨[.slice none 0 0,.bool false]⟩) f)
  (j:∀n a c f,Cd l w=some n->Hs G f (cB 1 3 a c (n.length,n.map I)::L)->Q (.tuple ⟨[.slice a n.length c,.bool true]⟩) f):Cl Pr K 162 [tx l,tx w] h Q:=by
 refine cW (Sy i b (fun e h b=>?_) fun k n a c h e b=>?_)
 .exact aE rfl (aE rfl (aE rfl (cC (fO (g (by unfold Cd;rw[e]) h b)))))
 .refine aE rfl (aE rfl (aE rfl (cC (dK (Du (bK (fun d=>?_) (fun d=>?_)))))))
  .exact g (by unfold Cd;rw[e];exact tt d) h b.tail
  .exact j n a c h (by unfold Cd;rw[e];exact tu (Decidable.not_not.1 d)) b
end
section
def Zt (what:Int) (w:List UInt8) (n:List Int):Option Do:=
 if w=cL what then(if what=1 then(if n.length=3 then some ⟨1,n.getD 0 0,n.getD 1 0,n.getD 2 0⟩ else none) else(if n.length=1 then some ⟨what,n.getD 0 0,0,0⟩ else none)) else none
theorem Ym {w:List UInt8} {n:List Int}:ku w n=(Zt 0 w n).or ((Zt 1 w n).or ((Zt 2 w n).or (Zt 3 w n))):=by
 have f:cL 1≠cL 0:=by decide
 have g:cL 2≠cL 0:=by decide
 have i:cL 3≠cL 0:=by decide
 have j:cL 2≠cL 1:=by decide
 have n5:cL 3≠cL 1:=by decide
 have n6:cL 3≠cL 2:=by decide
 unfold ku Zt;by_cases b:w=cL 0;subst b;by_cases a:n.length=1<;>simp[a,f.symm,g.symm,i.symm];by_cases c:w=cL 1;subst c;by_cases a:n.length=3<;>simp[a,f,j.symm,n5.symm];by_cases d:w=cL 2;subst d;by_cases a:n.length=1<;>simp[a,g,j,n6.symm];by_cases e:w=cL 3;subst e;by_cases a:n.length=1<;>simp[a,i,n5,n6];simp[b,c,d,e]
abbrev dy:Do:=⟨0,0,0,0⟩
set_option maxRecDepth 100000
variable {G:Bg} {h:AH} {L L' M:List HP} {Q:Value->AH->Prop}
theorem yR {p1 c:Nat} {a:Option Addr} {what:Int} {w:List UInt8} {n:List Int} (v:0<=what/\what<=3) (f:Hs G h (cB 1 3 a c (n.length,n.map I)::aM p1 0 dy.enc::L))
  (g:∀d,Zt what w n=some d->∀q,Hs G q L->Q (.tuple ⟨[.agg ⟨d.enc⟩,.bool true]⟩) q) (j:Zt what w n=none->Dd 108 2 [] Q [pt p1 0 0,tx w,.slice a n.length c,I (what+1)] h):
  Dd 108 2 [] Q [pt p1 0 0,tx w,.slice a n.length c,I what] h:=by
 unfold Zt at g j
 refine bW (mC (aad (bW (F0 (Du (bK (fun d=>bW ?_) (fun d=>bW ?_)))))))
 .exact aac (j (tt d))
 have d:=Decidable.not_not.1 d
 rw[tu d] at g j
 have one:what≠1->n.length=1->∃x,n=[x]:=fun _ s=>⟨_,fQ s⟩
 refine dH (bK (fun p=>?_) (fun p=>?_))
 .subst p;rw[tu rfl] at g j;refine cM (dH (bK (fun u=>?_) (fun u=>bW ?_)))
  .rw[aae] at g;have k:=tQ (n:=n) (by omega);generalize n.getD 0 0=x at g k;generalize n.getD 1 0=y at g k;generalize n.getD 2 0=z at g k;subst k;refine dW f fun r h f=>gU (i:=0) (a:=a) (c:=c) (e:=3) f rfl (gU (i:=1) (a:=a) (c:=c) (e:=3) f rfl (gU (i:=2) (a:=a) (c:=c) (e:=3) f rfl ?_));refine bG (c:=(⟨1,x,y,z⟩:Do).enc) rfl (ax (b:=p1) f fun h f=>an p1 f (l:=(⟨1,x,y,z⟩:Do).enc) rfl rfl (g _ rfl h f.to))
  .rw[aab] at j;exact bC (aaa (aac (j rfl)))
 .rw[tt p] at g j;refine bC (bV p (cM (dH (bK (fun t=>?_) (fun t=>bW ?_)))))
  .rw[aae] at g;have k:=fQ (n:=n) (by omega);generalize n.getD 0 0=x at g k;subst k;refine gU (i:=0) (a:=a) (c:=c) (e:=3) f rfl (bG (c:=(⟨what,x,0,0⟩:Do).enc) rfl (ax (b:=p1) f fun h f=>an p1 f (l:=(⟨what,x,0,0⟩:Do).enc) rfl rfl (g _ rfl h f.to)))
  .rw[aab] at j;exact aac (j rfl)
theorem Xs {l:List UInt8} (t:l.length<2^32) (f:Hs G h L) (q:Vl l=none->∀i,Hs G i L->Q (.tuple ⟨[.agg ⟨dy.enc⟩,.bool false]⟩) i) (j:∀d,Vl l=some d->∀i,Hs G i L->Q (.tuple ⟨[.agg ⟨d.enc⟩,.bool true]⟩) i):
  Cl Pr K 108 [tx l] h Q:=by
 refine cW (eN (cs:=dy.enc) f fun p1 h f=>Sy t f (fun e h f=>?_) fun w n a c h e f=>?_)
 .exact aE rfl (aE rfl (aE rfl (cC (fO (bG (c:=dy.enc) rfl (ax (b:=p1) f fun h f=>an p1 f (l:=dy.enc) rfl rfl (q (by unfold Vl;rw[e]) h f.tail)))))))
 have g:Vl l=ku w n:=by unfold Vl;rw[e]
 rw[g,Ym] at q j
 refine aE rfl (aE rfl (aE rfl (cC (dK (bW ?_)))))
 refine yR (what:=0) (by omega) f (fun d g=>j d (by rw[g];rfl)) fun k=>?_
 refine yR (what:=1) (by omega) f (fun d g=>j d (by rw[k,g];rfl)) fun p=>?_
 refine yR (what:=2) (by omega) f (fun d g=>j d (by rw[k,p,g];rfl)) fun r=>?_
 refine yR (what:=3) (by omega) f (fun d g=>j d (by rw[k,p,r,g];rfl)) fun s=>?_
 exact bW (mC (aaa (bG (c:=dy.enc) rfl (ax (b:=p1) f fun h f=>an p1 f (l:=dy.enc) rfl rfl (q (by rw[k,p,r,s];rfl) h f.to)))))
end
end Go.Proofs.YtcjlkjeeifemhaaGreatDoor
end
namespace Go.Proofs.YtcjlkjeeifemhaaGreatDoor
open Go Go.Ab Go.Hm Go.Is Go.At Go.Mc Go.Sc
section
abbrev Fo:aZ:=⟨0,0,0,0,0,0,0⟩
abbrev bX:Value:= .slice none 0 0
theorem My {G:Bg} {h:AH} {L:List HP} {v:Value} {l:List Value} {i:Nat} {k:Value->Prop} (q:Hs G h L) (r:uS G v l) (j:0<l.length) (w:i<=l.length)
  (y:∀d,uS G d (l.drop i)->mA d d=true->(∀(h':AH) (L':List HP),Hs G h' L'->sL 1 h' v (some (I i)) none none=some d)->k d):aK (sL 1 h v (some (I i)) none none) k:=by
 obtain⟨d,e,f⟩:∃d,sL 1 h v (some (I i)) none none=some d/\uS G d (l.drop i):=vR q r j w fun d f=>f
 refine⟨d,e,y d f ?_ fun t A g=>?_⟩
 .obtain⟨a,c,rfl⟩:=f.is;exact Tv
 .obtain⟨b,o,c,cells,B,D,x,s,u,p,E,F,H⟩:=r.at' j;have z:fX t b=fX h b:=by
   unfold fX;rw[q.wP p,g.wP p]
  rw[<-e,s]
  unfold sL
  simp only[z]
theorem Yv {G:Bg} {v:Value} {l:List Value} (b:uS G v l):mA v v=true:=by
 obtain⟨a,c,rfl⟩:=b.is;exact Tv
theorem Q4 {o:Option Value} {v:Value} (h:o=some v) (a:mA v v=true):aK o fun x=>mA x v=true:=⟨v,h,a⟩
theorem na {n:List Int} (h:n.length=7):∃a b c d e f g,n=[a,b,c,d,e,f,g]:=by
 match n,h with
 |[a,b,c,d,e,f,g],_=>exact⟨a,b,c,d,e,f,g,rfl⟩
set_option maxRecDepth 100000
attribute [local irreducible] aK Br vH sW vI tX iM tM gT Q2 qF uH sB mL mI eO rX vM Hb Oy K8 Kr N1 Hq Jd O5 Kq kK oK nZ gF copyV iP sL P0 Ha yK hQ Ku P1 Pn jL mP sA sN Cl yC Lu nO mZ fP eD aY aR
variable {G:Bg} {h:AH} {L L' M:List HP} {Q:Value->AH->Prop}
theorem Co {v:Value} {ls:List (List UInt8)} (J:∀l∈ls,l.length<2^32) (t:uS G v (ls.map tx)) (f:Hs G h L)
  (U:Sj ls=none->∀k,Hs G k L->Q (.tuple ⟨[.agg ⟨tG Fo bX bX bX bX⟩,bX,.bool false]⟩) k)
  (V:∀C o w r g co aw j vr k,Sj ls=some ((C,o,w),r)->uS G vr (r.map tx)->Hs G k (cB 1 3 aw j (w.length,w.map I)::cB 1 3 g co (o.length,o.map I)::L)->
   Q (.tuple ⟨[.agg ⟨tG C bX bX (.slice g o.length co) (.slice aw w.length j)⟩,vr,.bool true]⟩) k):
  Cl Pr K 105 [v] h Q:=by
 have bad:∀{p1:Nat} {c:List Value} {h:AH} {M:List HP},c.length=11->Sj ls=none->Hs G h (aM p1 0 c::M)->(∀k,Hs G k M->Hs G k L)->
   (aK (jS (tG Fo bX bX bX bX) []) fun c4=>aK (vI h 11 (pt p1 0 0) (.agg ⟨c4⟩)) fun R=>aK (sW R 11 (pt p1 0 0)) fun v6=>Q (.tuple ⟨[v6,bX,.bool false]⟩) R):=by
  intro p1 c h M p T f S
  refine bG (c:=tG Fo bX bX bX bX) rfl (cY (b:=p1) f (by rw[p];rfl) rfl rfl rfl fun h f=>an p1 f (l:=tG Fo bX bX bX bX) rfl rfl (U T h (S h f.tail)))
 refine cW (eN (cs:=tG Fo bX bX bX bX) f fun p1 h f=>iJ t (aI (bK (fun d=>?_) fun d=>bW ?_)))
 .rw[List.length_map] at d;refine bad rfl ?_ f fun h f=>f;match ls,d with
  |[],_=>rfl
  |[_],_=>rfl
  |[_,_],_=>rfl
  |_::_::_::l,d=>simp at d;omega
 rw[List.length_map] at d
 obtain⟨x,y,z,r,rfl⟩:∃x y z r,ls=x::y::z::r:=by
  match ls,d with
  |x::y::z::r,_=>exact⟨x,y,z,r,rfl⟩
  |[],d=>simp at d
  |[_],d=>simp at d
  |[_,_],d=>simp at d
 refine iB (i:=0) f t (u:=tx x) rfl (tT (w:=kO) (J x (by simp)) f (fun e h f=>?_) fun n a c h e f=>?_)
 .refine aE rfl (aE rfl (cC (fO (bad rfl ?_ f fun h f=>f))));unfold Sj;dsimp only;rw[e]
 refine aE rfl (aE rfl (cC (dK (cM (bC (bK (fun H=>?_) fun H=>bW ?_))))))
 .refine bad (p1:=p1) rfl ?_ f.tail fun h f=>f;unfold Sj;dsimp only;rw[e];dsimp only;rw[aab]
 have H:n.length=7:=by omega
 have p:Sj (x::y::z::r)=match Cd y kQ with
   |some o=>(match Cd z oY with
    |some v=>some ((Au n,o,v),r)
    |none=>none)
   |none=>none:=by
  unfold Sj;dsimp only;rw[e];dsimp only;rw[tu H]
  rfl
 obtain⟨A,B,D,E,F,n5,n6,rfl⟩:=na H
 refine dW f fun q h f=>gU (i:=0) (a:=a) (c:=c) (e:=3) f rfl (gU (i:=1) (a:=a) (c:=c) (e:=3) f rfl (gU (i:=2) (a:=a) (c:=c) (e:=3) f rfl (gU (i:=3) (a:=a) (c:=c) (e:=3) f rfl (gU (i:=4) (a:=a) (c:=c) (e:=3) f rfl (gU (i:=5) (a:=a) (c:=c) (e:=3) f rfl (gU (i:=6) (a:=a) (c:=c) (e:=3) f rfl ?_))))))
 have f:Hs G h (cB 1 3 a c ([A,B,D,E,F,n5,n6].length,[A,B,D,E,F,n5,n6].map I)::aM p1 0 (tG Fo bX bX bX bX)::L):=f.to
 refine bG (c:=(Au [A,B,D,E,F,n5,n6]).enc) rfl (aB (ay (b:=p1) (o:=0) f fun h f=>?_))
 have f:Hs G h (aM p1 0 (tG (Au [A,B,D,E,F,n5,n6]) bX bX bX bX)::L):=(f.sg (b:=p1) (o:=0) (c:=tG (Au [A,B,D,E,F,n5,n6]) bX bX bX bX) rfl).to
 generalize Au [A,B,D,E,F,n5,n6]=C at f p
 refine iB (i:=1) f t (u:=tx y) rfl (tT (w:=kQ) (J y (by simp)) f (fun e h f=>?_) fun o g co h e f=>?_)
 .refine aE rfl (aE rfl (aB (ay (b:=p1) (o:=0) f fun h f=>cC (fO (bad rfl ?_ f fun h f=>f)))));rw[p,e]
 refine aE rfl (aE rfl (aB (ay (b:=p1) (o:=0) f fun h f=>cC (dK (bW ?_)))))
 have f:Hs G h (aM p1 0 (tG C bX bX (.slice g o.length co) bX)::cB 1 3 g co (o.length,o.map I)::L):=(f.sg (b:=p1) (o:=0) (c:=tG C bX bX (.slice g o.length co) bX) rfl).to
 rw[e] at p
 refine iB (i:=2) f t (u:=tx z) rfl (tT (w:=oY) (J z (by simp)) f (fun e h f=>?_) fun w aw j h e f=>?_)
 .refine aE rfl (aE rfl (aB (ay (b:=p1) (o:=0) f fun h f=>cC (fO (bad rfl ?_ f fun h f=>f.tail)))));rw[p,e]
 rw[e] at p
 refine aE rfl (aE rfl (aB (ay (b:=p1) (o:=0) f fun h f=>cC (dK ?_))))
 have f:Hs G h (aM p1 0 (tG C bX bX (.slice g o.length co) (.slice aw w.length j))::cB 1 3 aw j (w.length,w.map I)::cB 1 3 g co (o.length,o.map I)::L):=(f.sg (b:=p1) (o:=0) (c:=tG C bX bX (.slice g o.length co) (.slice aw w.length j)) rfl).to
 refine dW f fun q h f=>an p1 f (l:=tG C bX bX (.slice g o.length co) (.slice aw w.length j)) rfl rfl ?_
 refine My (i:=3) f t (by simp) (by simp) fun vr O P s=>?_
 have f:Hs G h (aM p1 0 (tG C bX bX (.slice g o.length co) (.slice aw w.length j))::cB 1 3 aw j (w.length,w.map I)::cB 1 3 g co (o.length,o.map I)::L):=f.to
 refine ax (b:=p1) f fun h f=>nN (Yv t) (nN (Q4 (s h _ f) P) ?_)
 exact an p1 f (l:=tG C bX bX (.slice g o.length co) (.slice aw w.length j)) rfl rfl (V C o w r g co aw j vr h p O f.tail)
end
section
theorem vP:∀{ls:List (List UInt8)} {i:Nat},ls[i]?=some jQ->(∀j<i,ls[j]?≠some jQ)->zV ls=some (ls.take i,ls.drop (i+1))
 |[],i,h,_=>by simp at h
 |l::ls,0,h,_=>by
  have:l=jQ:=by simpa using h
  unfold zV;rw[tu this];rfl
 |l::ls,i+1,h,a=>by
  have b:l≠jQ:=fun e=>a 0 (by omega) (by rw[e];rfl);unfold zV;rw[tt b,vP (i:=i) (by simpa using h) fun j c=>by simpa using a (j+1) (by omega)];rfl
theorem lM:∀{ls:List (List UInt8)},jQ∉ls->zV ls=none
 |[],_=>rfl
 |l::ls,h=>by
  unfold zV;rw[tt (fun e=>h (by rw[e];exact List.mem_cons_self)),lM fun e=>h (List.mem_cons_of_mem _ e)];rfl
theorem Xv {G:Bg} {h:AH} {L:List HP} {k:Nat->AH->Prop} (d:Hs G h L) (b:∀p a,Hs G a (aM p 0 [.pointer none,.slice none 0 0]::mt p (141,true,2)::L)->k p a):tX h (.cells [.pointer none,.slice none 0 0] 141 (0,0) true) k:=by
 have t:=d.new (c:=[.pointer none,.slice none 0 0]) (e:=141) (x:=true);exact b _ _ t
theorem cf {w:List UInt8} {n:List Int} (h:Cd w mM=some n):w≠jQ:=fun e=>by
 rw[e] at h;revert h;unfold Cd Rj;have:bJ 32 jQ=[jQ]:=rfl;rw[this];simp[kE,jQ,mM]
set_option maxRecDepth 100000
attribute [local irreducible] aK Br vH sW vI tX iM tM gT Q2 qF uH sB mL mI eO rX vM Hb Oy K8 Kr N1 Hq Jd O5 Kq kK oK nZ gF copyV iP sL P0 Ha yK hQ Ku P1 Pn jL mP sA sN Cl yC Lu nO mZ fP eD aY aR
variable {G:Bg} {h:AH} {L L' M:List HP} {Q:Value->AH->Prop}
theorem Up {v:Value} {l:List (List UInt8)} {w:List UInt8} (t:l.length<2^32) (g:uS G v (l.map tx)) (p:Hs G h L) (r:w∉l->Q (I (-1)) h) (s:∀i:Nat,l[i]?=some w->(∀j<i,l[j]?≠some w)->Q (I i) h):
  Cl Pr K 164 [v,tx w] h Q:=by
 refine cW (iJ g ?_)
 rw[List.length_map]
 have loop:∀(f i:Nat),i+f=l.length->(∀j<i,l[j]?≠some w)->Dd 164 1 [] Q [v,tx w,I l.length,I i] h:=by
  intro f;induction f with
  |zero=>
   intro i o b;refine bW (aI (aaa (r fun a=>?_)));obtain⟨j,c,e⟩:=List.mem_iff_getElem.1 a;exact b j (by omega) (by rw[List.getElem?_eq_getElem c,e])
  |succ f q=>
   intro i o b;have a:=List.getElem?_eq_getElem (l:=l) (i:=i) (by omega);refine bW (aI (aad (bW (iB p g (i:=i) (u:=tx l[i]) (by rw[List.getElem?_map,a];rfl) (Ei (bK (fun e=>?_) fun e=>bW (aac ?_)))))));exact s i (by rw[a,e]) b;refine q (i+1) (by omega) fun j c=>?_;by_cases d:j=i;subst d;rw[a];exact fun k=>e (Option.some.inj k).symm;exact b j (by omega)
 exact loop l.length 0 (by omega) fun j c=>by omega
theorem W5 {b:Nat} {v0 v1 v2 v3:Value} {l:List (List UInt8)} (_q:l≠[]) (t:(iA l).length<=900000) (k:uS G v3 (l.map tx))
  (e:∀d,Hs G d (sQ b (iA l)::L)->Dd 107 4 [] Q [v0,v1,v2,pt b 0 0] d):
  ∀(f i:Nat) (h:AH),i+f=l.length->Hs G h (sQ b (iA (l.take i))::L)->Dd 107 2 [] Q [v0,v1,v2,pt b 0 0,v3,I l.length,I i] h:=by
 have g:l.length<=(iA l).length:=by
  clear t k e _q;induction l with
  |nil=>simp
  |cons x l p=>rw[dE];simp only[List.length_cons,List.length_append];omega
 have c:∀i,(iA (l.take i)).length<=(iA l).length:=fun i=>by
  have:iA l=iA (l.take i)++iA (l.drop i):=by rw[<-pI,List.take_append_drop]
  rw[this];simp
 intro f
 induction f with
 |zero=>
  intro i h r a
  rw[List.take_of_length_le (by omega)] at a
  exact bW (aI (aaa (e h a)))
 |succ f p=>
  intro i h r a
  have o:=List.getElem?_eq_getElem (l:=l) (i:=i) (by omega)
  have j:iA (l.take (i+1))=iA (l.take i)++l[i]++[10]:=by
   rw[List.take_add_one,o];rw[pI];simp[iA]
  have hle:=c (i+1)
  rw[j] at hle
  simp only[List.length_append,List.length_cons,List.length_nil] at hle
  refine bW (aI (aad (bW (iB a k (i:=i) (u:=tx l[i]) (by rw[List.getElem?_map,o];rfl) ?_))))
  refine nD (by omega) a fun h a=>nD (s:=[10]) (by simp only[List.length_append,List.length_cons,List.length_nil];omega) a fun h a=>aac (p (i+1) h (by omega) ?_)
  rw[j];exact a
theorem Uz {v:Value} {l:List Value} {t:List UInt8} {a:Option Addr} {c b:Nat} {idx:Nat} {w:Int} (j:∀p:Value->AH->Prop,(∀f,Hs G f (cB 1 3 a c (1,[I w])::L)->p (tx t) f)->Cl Pr K 60 [pt b 0 0] h p)
  (y:t.length<2^30) (s:Ob G 0 eP) (z:uS G v l) (u:idx+1<=l.length/\l.length<2^32) (r:0<l.length)
  (A:(cX t).2.2≠0->∀f,Hs G f L->Q (.tuple ⟨[I 0,bX,bX,.bool false]⟩) f)
  (B:(cX t).2.2=0->∀k vr f,uS G vr (l.drop (idx+1))->Hs G f (Hz 4 155 k ((cX t).1.map Ins.enc)::L)->Q (.tuple ⟨[I w,k,vr,.bool true]⟩) f):Dd 107 4 [] Q [v,.slice a 1 c,I idx,pt b 0 0] h:=by
 refine bW (j _ fun h g=>P.Vz y s g fun k h g=>aE rfl (aE rfl (aE rfl (bC (bK (fun d=>A d h g.tail.tail) fun d=>dW g fun q h g=>gU (i:=0) (a:=a) (c:=c) (e:=3) g rfl (aac ?_))))))
 exact vR (i:=idx+1) g z r u.1 fun vr o=>B (by omega) k vr h o g.to
theorem Cs {v:Value} {l:List UInt8} {ls:List (List UInt8)} (X:l.length<2^32) (hb:(iA ls).length<=900000) (V:Ob G 0 eP) (o:uS G v ((l::ls).map tx)) (f:Hs G h L)
  (q:Po l ls=none->∀k,Hs G k L->Q (.tuple ⟨[I 0,bX,bX,.bool false]⟩) k)
  (S:∀w p r F vr k,Po l ls=some ((w,p),r)->uS G vr (r.map tx)->Hs G k (Hz 4 155 F (p.map Ins.enc)::L)->Q (.tuple ⟨[I w,F,vr,.bool true]⟩) k):
  Cl Pr K 107 [v] h Q:=by
 have P:ls.length<=(iA ls).length:=by
  clear hb o q S;induction ls with
  |nil=>simp
  |cons x l ih=>rw[dE];simp only[List.length_cons,List.length_append];omega
 refine cW (iB (i:=0) f o (u:=tx l) rfl (tT (w:=mM) X f (fun e h f=>?_) fun n a c h e f=>?_))
 .have y:Po l ls=none:=by unfold Po;rw[e]
  refine aE rfl (aE rfl (Up (l:=l::ls) (w:=jQ) (by simp;omega) o f (fun _=>cC (fO (q y h f))) fun i _ _=>cC (fO (q y h f))))
 have J:=cf e
 refine aE rfl (aE rfl (Up (l:=l::ls) (w:=jQ) (by simp;omega) o f (fun H=>?_) fun i t H=>?_))
 .have y:Po l ls=none:=by
   unfold Po;rw[e];dsimp only;split;rfl;rw[lM fun x=>H (List.mem_cons_of_mem _ x)]
  exact cC (dK (cM (bC (bK (fun d=>q y h f.tail) fun d=>aI (aad (q y h f.tail))))))
 obtain⟨i,rfl⟩:∃j,i=j+1:=by
  cases i with
  |zero=>exact absurd (by simpa using t) J
  |succ i=>exact⟨i,rfl⟩
 have t:ls[i]?=some jQ:=by simpa using t
 have s:=vP t fun j hj=>by simpa using H (j+1) (by omega)
 have W:=(List.getElem?_eq_some_iff.1 t).1
 have E:Po l ls=if n.length≠1 then none else if(cX (iA (ls.take i))).2.2=0 then some ((n.getD 0 0,(cX (iA (ls.take i))).1),ls.drop (i+1)) else none:=by
  unfold Po;rw[e];dsimp only;rw[s]
 refine cC (dK (cM (bC (bK (fun d=>?_) fun d=>?_))))
 .exact q (by rw[E,aae]) h f.tail
 rw[aab] at E
 refine aI (aaa (bW ?_))
 have Y:(iA (ls.take i)).length<=(iA ls).length:=by
  have:iA ls=iA (ls.take i)++iA (ls.drop i):=by rw[<-pI,List.take_append_drop]
  rw[this];simp
 have Z:uS G v (tx l::ls.map tx):=o
 have n1:n.length=1:=by omega
 obtain⟨w,rfl⟩:∃w,n=[w]:=⟨_,fQ n1⟩
 have U:((l::ls).map tx).drop (i+1+1)=(ls.drop (i+1)).map tx:=by rw[List.map_cons,List.drop_succ_cons,List.map_drop]
 have R:(((l::ls).map tx).drop 1).take (i+1 - 1)=(ls.take i).map tx:=by rw[List.map_cons,List.drop_succ_cons,List.drop_zero,List.map_take];rfl
 have fin:∀(b:Nat) (h:AH),(∀A:Value->AH->Prop,(∀k,Hs G k (cB 1 3 a c (1,[I w])::L)->A (tx (iA (ls.take i))) k)->Cl Pr K 60 [pt b 0 0] h A)->
   Dd 107 4 [] Q [v,.slice a 1 c,I (i+1:Nat),pt b 0 0] h:=fun b h z=>
  Uz z (by omega) V o (by simp;omega) (by simp) (fun d=>q (by rw[E,tt d])) fun d F vr k O f=>S w _ _ F vr k (by rw[E,tu d];rfl) (by rw[<-U];exact O) f
 by_cases B:ls.take i=[]
 .refine Xv f fun b h f=>J2 (i:=1) (j:=i+1) o (by omega) (by simp;omega) (by simp;omega) fun v3 g=>?_;rw[R,B] at g;refine iJ g (bW (aI (aG (by simp) (fin b h fun A D=>?_))));rw[B] at D;exact Za (u:=5) Bf f (D h f.tail.tail)
 .refine Sw f fun b h f=>J2 (i:=1) (j:=i+1) o (by omega) (by simp;omega) (by simp;omega) fun v3 g=>?_;rw[R] at g;refine iJ g ?_;rw[List.length_map];have T:0<(iA (ls.take i)).length:=by
   cases hx:ls.take i with
   |nil=>exact absurd hx B
   |cons x l=>rw[dE];simp only[List.length_append,List.length_cons];omega
  exact W5 (L:=cB 1 3 a c (1,[I w])::L) B (by omega) g (fun h f=>fin b h fun A D=>Ps T (by omega) f D) (ls.take i).length 0 h (by omega) f
end
end Go.Proofs.YtcjlkjeeifemhaaGreatDoor
section
open Go Go.Ab
attribute [local irreducible] aK Br vH sW vI tX iM tM gT Q2 qF uH sB mL mI eO rX vM Hb Oy K8 Kr N1 Hq Jd O5 Kq kK oK nZ gF copyV iP sL P0 Ha yK hQ Ku P1 Pn jL mP sA sN Cl yC Lu nO mZ fP eD aY aR
namespace Go.Proofs.YtcjlkjeeifemhaaGreatDoor
open Go Go.Ab Go.Hm Go.Is Go.At Go.Mc Go.Sc
section
section
variable {G:Bg} {h:AH} {L L':List HP}
def zZ (l:List (Value×List Ins)):HP:=sp (l.map fun x=>Hz 4 155 x.1 (A.qV x.2))
theorem Um (a:Hs G h L):Hs G h (zZ []::L):=Hs.pack (A:=[]) a
theorem V4 {l:List (Value×List Ins)} {v:Value} {p:List Ins} (c:Hs G h (Hz 4 155 v (p.map Ins.enc)::zZ l::L)):Hs G h (zZ (l++[(v,p)])::L):=by
 have a:Hs G h (zZ l::Hz 4 155 v (p.map Ins.enc)::L):=c.perm (List.Perm.swap _ _ _);have b:=a.unpack;refine Hs.pack (A:=(l++[(v,p)]).map fun x=>Hz 4 155 x.1 (A.qV x.2)) ?_;rw[List.map_append,List.append_assoc];exact b
theorem Jc:∀{l:List (Value×List Ins)} {L:List HP},Hs G h (zZ l::L)->∀x∈l,A.Hr (B7 G h) x.1 x.2
 |[],_,_,x,a=>by cases a
 |y::l,L,d,x,a=>by
  have b:Hs G h (Hz 4 155 y.1 (A.qV y.2)::(l.map (fun x=>Hz 4 155 x.1 (A.qV x.2))++L)):=d.unpack;rcases List.mem_cons.1 a with rfl|a;exact Gc (by decide) b;have c:Hs G h ((l.map (fun x=>Hz 4 155 x.1 (A.qV x.2))++Hz 4 155 y.1 (A.qV y.2)::L)):=b.perm List.perm_middle.symm;exact Jc (L:=Hz 4 155 y.1 (A.qV y.2)::L) (Hs.pack c) x a
end
theorem Vt {l:List UInt8} (h:l.length<5):¬zM l:=fun e=>by
 have:=congrArg List.length e;rw[List.length_take] at this;simp at this;omega
theorem Ox {ls:List (List UInt8)}:ls.length<=(iA ls).length/\∀x∈ls,x.length<=(iA ls).length:=by
 induction ls with
 |nil=>simp
 |cons x l b=>
  rw[dE];simp only[List.length_cons,List.length_append,List.mem_cons];refine⟨by omega,fun y a=>?_⟩;rcases a with rfl|a;omega;have:=b.2 y a;omega
abbrev qG:List Value:=jY Fo bX bX bX bX bX
set_option maxRecDepth 100000
variable {G:Bg} {h:AH} {L L' M:List HP} {Q:Value->AH->Prop}
theorem Qk {l:List UInt8} (b:zM l->Q (.bool true) h) (a:¬zM l->Q (.bool false) h):Cl Pr K 106 [tx l,tx [99,111,114,101,32]] h Q:=by
 refine cW (cW (pC (pC (gJ (bK (fun d=>?_) fun d=>a (Vt (by simp at d;omega)))))));refine pC (G0 (n:=5) (by simp at d;omega) (Ei ?_));by_cases e:zM l;rw[decide_eq_true (show l.take 5=_ from e)];exact b e;rw[decide_eq_false (show ¬l.take 5=_ from e)];exact a e
theorem Ak {p1:Nat} {c:List Value} {M:List HP} (g:c.length=12) (d:Hs G h (aM p1 0 c::M)) (f:∀a,Hs G a M->Hs G a L) (i:∀a,Hs G a L->Q (.tuple ⟨[.agg ⟨qG⟩,.bool false]⟩) a):
  aK (jS qG []) fun c4=>aK (vI h 12 (pt p1 0 0) (.agg ⟨c4⟩)) fun e=>aK (sW e 12 (pt p1 0 0)) fun v6=>Q (.tuple ⟨[v6,.bool false]⟩) e:=
 bG (c:=qG) rfl (cY (b:=p1) d (by rw[g];rfl) rfl rfl rfl fun h d=>an p1 d (l:=qG) rfl rfl (i h (f h d.tail)))
theorem S7 {p1 k:Nat} {C:aZ} {v:Value} {ap aw ao av:Option Addr} {np cp nw cw no co nv cv:Nat} {ls:List (List UInt8)} {n:Nat} (F:∀l∈ls,l.length<2^32) (R:ls.length<2^20) (H:uS G v (ls.map tx)) (t:n=ls.length)
  (O:Ks ls=none->∀p,Hs G p L->Q (.tuple ⟨[.agg ⟨qG⟩,.bool false]⟩) p)
  (P:∀dl a c p,Ks ls=some dl->Hs G p (cB 4 52 a c (dl.length,dl.flatMap Do.enc)::L)->Q (.tuple ⟨[.agg ⟨jY C (.slice ap np cp) (.slice aw nw cw) (.slice ao no co) (.slice av nv cv) (.slice a dl.length c)⟩,.bool true]⟩) p):
  ∀(f i:Nat) (dl:List Do) (a:Option Addr) (c:Nat) (h:AH),i+f=ls.length->dl.length=i->Ks ls=(Ks (ls.drop i)).map (fun x=>dl++x)->
   Hs G h (aM p1 0 qG::aM k 0 (jY C (.slice ap np cp) (.slice aw nw cw) (.slice ao no co) (.slice av nv cv) (.slice a dl.length c))::cB 4 52 a c (dl.length,dl.flatMap Do.enc)::L)->
   Dd 62 5 [] Q [pt p1 0 0,pt k 0 0,.bool true,v,I n,I i] h:=by
 subst t
 intro f
 induction f with
 |zero=>
  intro i dl a c h E D j g
  obtain rfl:i=ls.length:=by omega
  rw[List.drop_of_length_le (Nat.le_refl _)] at j
  have j:Ks ls=some dl:=by rw[j];show some (dl++[])=_;rw[List.append_nil]
  refine bW (aI (aaa (bW (cC (dK (an k g (l:=jY C (.slice ap np cp) (.slice aw nw cw) (.slice ao no co) (.slice av nv cv) (.slice a dl.length c)) rfl rfl (ax (b:=p1) g fun h g=>an p1 g (l:=jY C (.slice ap np cp) (.slice aw nw cw) (.slice ao no co) (.slice av nv cv) (.slice a dl.length c)) rfl rfl ?_)))))))
  exact P dl a c h j g.to
 |succ f K=>
  intro i dl a c h E D j g
  have J:=List.getElem?_eq_getElem (l:=ls) (i:=i) (by omega)
  have q:ls.drop i=ls[i]::ls.drop (i+1):=List.drop_eq_getElem_cons (by omega)
  refine bW (aI (aad (bW (iB g H (i:=i) (u:=tx ls[i]) (by rw[List.getElem?_map,J];rfl) (Xs (F _ (List.getElem_mem _)) g (fun e h g=>?_) fun d e h g=>?_)))))
  .refine aE rfl (aE rfl (eN g fun s h g=>ax (b:=s) g fun h g=>cC (fO (bW (cC (fO ?_))))));have g:=g.front (aM p1 0 qG);refine Ak rfl g (fun h g=>g.tail.tail.tail) (O ?_);rw[j,q];unfold Ks;rw[e];rfl
  .refine aE rfl (aE rfl (eN g fun s h g=>ax (b:=s) g fun h g=>cC (dK (bW ?_))));refine aB (am k g (v:= .slice a dl.length c) rfl (an s g (l:=d.enc) rfl rfl (bG (c:=d.enc) rfl (fS (W:=4) (n:=1) (c:=1) g rfl rfl rfl fun y h g=>?_))));refine pA (a:=a) (c:=c) (n:=dl.length) (cs:=dl.flatMap Do.enc) (a2:=some y) (c2:=1) (m:=1) (ns:=d.enc) g (by omega) fun w z h g=>aB (ay (b:=k) (o:=0) g fun h g=>aac ?_);refine K (i+1) (dl++[d]) w z h (by omega) (by simp;omega) ?_ ?_
   .rw[j,q];conv=>lhs;unfold Ks
    rw[e]
    simp only[Option.map_map]
    congr 1
    funext r
    simp
   .have A:(dl++[d]).flatMap Do.enc=dl.flatMap Do.enc++d.enc:=by simp
    have B:(dl++[d]).length=dl.length+1:=by simp
    rw[A,B]
    exact(g.sg (b:=k) (o:=0) (c:=jY C (.slice ap np cp) (.slice aw nw cw) (.slice ao no co) (.slice av nv cv) (.slice w (dl.length+1) z)) rfl).to
end
section
abbrev Gn (ap aw ao av b:Option Addr) (cp cw co cv cd:Nat) (a:List (Value×List Ins)) (ws os vs:List Int) (dl:List Do) (L:List HP):List HP:=
 cB 1 75 ap cp (a.length,a.map (·.1))::zZ a::cB 1 3 aw cw (ws.length,ws.map I)::cB 1 3 ao co (os.length,os.map I)::cB 1 3 av cv (vs.length,vs.map I)::cB 4 52 b cd (dl.length,dl.flatMap Do.enc)::L
abbrev Ai (C:aZ) (ap aw ao av a:Option Addr) (cp cw co cv cd:Nat) (np nw no nv nd:Nat):List Value:=jY C (.slice ap np cp) (.slice aw nw cw) (.slice ao no co) (.slice av nv cv) (.slice a nd cd)
def jl (C:aZ) (os vs:List Int) (cs:List (Int×List Ins)) (o:Option (List (Int×List Ins)×List (List UInt8))):Option C5:=match o with
 |some y=>(Ks y.2).map fun d=>⟨C,os,vs,cs++y.1,d⟩
 |none=>none
set_option maxRecDepth 100000
variable {G:Bg} {h:AH} {L L' M:List HP} {Q:Value->AH->Prop}
theorem Nu {p1 j:Nat} {C:aZ} {os vs:List Int} {ao av:Option Addr} {co cv:Nat} {res:Option C5} (hg:Ob G 0 eP)
  (k1:res=none->∀H,Hs G H L->Q (.tuple ⟨[.agg ⟨qG⟩,.bool false]⟩) H)
  (k2:∀s ap aw X cp cw cd d H,res=some s->s.C=C/\s.os=os/\s.vs=vs/\d.map (·.2)=s.cs.map (·.2)->Hs G H (Gn ap aw ao av X cp cw co cv cd d (s.cs.map (·.1)) s.os s.vs s.ds L)->
   Q (.tuple ⟨[.agg ⟨Ai s.C ap aw ao av X cp cw co cv cd d.length s.cs.length s.os.length s.vs.length s.ds.length⟩,.bool true]⟩) H):
  ∀(f:Nat) (ls:List (List UInt8)) (v:Value) (d:List (Value×List Ins)) (wl:List Int) (ap aw:Option Addr) (cp cw:Nat) (h:AH),
      res=jl C os vs (wl.zip (d.map (·.2))) (Ny f ls)->ls.length<f->wl.length=d.length->d.length+ls.length<2^20->(iA ls).length<=900000->uS G v (ls.map tx)->
   Hs G h (aM p1 0 qG::aM j 0 (jY C (.slice ap d.length cp) (.slice aw wl.length cw) (.slice ao os.length co) (.slice av vs.length cv) bX)::cB 1 75 ap cp (d.length,d.map (·.1))::zZ d::cB 1 3 aw cw (wl.length,wl.map I)::
    cB 1 3 ao co (os.length,os.map I)::cB 1 3 av cv (vs.length,vs.map I)::L)->
   Dd 62 2 [] Q [v,pt p1 0 0,pt j 0 0] h:=by
 intro f
 induction f with
 |zero=>intro ls v d wl ap aw cp cw h _ Z;omega
 |succ f ih=>
  intro ls v d wl ap aw cp cw h q Z V T Y A g
  have t:=Ox (ls:=ls)
  have Ig:Ny (f+1) ls=some ([],ls)->Dd 62 5 [] Q [pt p1 0 0,pt j 0 0,.bool true,v,I ls.length,I 0] h:=by
   intro J;rw[J] at q;unfold jl at q;dsimp only at q;refine S7 (L:=cB 1 75 ap cp (d.length,d.map (·.1))::zZ d::cB 1 3 aw cw (wl.length,wl.map I)::cB 1 3 ao co (os.length,os.map I)::cB 1 3 av cv (vs.length,vs.map I)::L)
    (ap:=ap) (aw:=aw) (ao:=ao) (av:=av) (np:=d.length) (nw:=wl.length) (no:=os.length) (nv:=vs.length) (cp:=cp) (cw:=cw) (co:=co) (cv:=cv) (C:=C)
    (fun l hl=>by have:=t.2 l hl;omega) (by omega) A rfl (fun e h g=>?_) (fun dl a c h e g=>?_) ls.length 0 [] none 0 h (by omega) rfl (by rw[List.drop_zero];cases Ks ls<;>rfl) ?_
   refine k1 (by rw[q,e];rfl) h g.tail.tail.tail.tail.tail;rw[e] at q;have K:(wl.zip (d.map (·.2))++([]:List (Int×List Ins))).map (·.1)=wl:=by
    rw[List.append_nil,List.map_fst_zip (by rw[List.length_map];omega)]
   have O:(wl.zip (d.map (·.2))++([]:List (Int×List Ins))).map (·.2)=d.map (·.2):=by
    rw[List.append_nil,List.map_snd_zip (by rw[List.length_map];omega)]
   have P:(wl.zip (d.map (·.2))++([]:List (Int×List Ins))).length=wl.length:=by
    rw[List.append_nil,List.length_zip,List.length_map];omega
   have:=k2 ⟨C,os,vs,wl.zip (d.map (·.2))++[],dl⟩ ap aw a cp cw c d h q ⟨rfl,rfl,rfl,O.symm⟩;dsimp only at this;rw[K,P] at this;exact this g.to;have g:=eU (W:=4) (e:=52) g;have g:Hs G h (aM p1 0 qG::aM j 0 (jY C (.slice ap d.length cp) (.slice aw wl.length cw) (.slice ao os.length co) (.slice av vs.length cv) bX)::cB 4 52 none 0 (0,[])::cB 1 75 ap cp (d.length,d.map (·.1))::zZ d::cB 1 3 aw cw (wl.length,wl.map I)::
    cB 1 3 ao co (os.length,os.map I)::cB 1 3 av cv (vs.length,vs.map I)::L):=g.to
   exact g
  cases ls with
  |nil=>
   refine bW (iJ A (fY (aG (by simp) (iJ A ?_))))
   exact Ig rfl
  |cons l ls=>
   refine bW (iJ A (fY (bV (by rw[List.length_map,List.length_cons];omega) (iB (i:=0) g A (u:=tx l) rfl (Qk (fun S=>fO (bW ?_)) fun S=>dK (bW ?_))))))
   .have J:Ny (f+1) (l::ls)=match Po l ls with
      |some x=>(Ny f x.2).map fun y=>(x.1::y.1,y.2)
      |none=>none:=by
     conv=>lhs;unfold Ny
     rw[tu S]
     rfl
    have R:(iA ls).length<=900000:=by
     rw[dE] at Y;simp only[List.length_append] at Y;omega
    refine Cs (by have:=t.2 l List.mem_cons_self;omega) R hg A g (fun e h g=>?_) fun w p r k vr h e U g=>?_
    .refine aE rfl (aE rfl (aE rfl (aE rfl (cC (fO ?_)))));refine Ak rfl g (fun h g=>g.tail.tail.tail.tail.tail.tail) (k1 ?_);rw[q,J,e];rfl
    .refine aE rfl (aE rfl (aE rfl (aE rfl (cC (dK (bW ?_))))));obtain⟨b1,_,b3⟩:=Ov e;have b2:=congrArg List.length b1;rw[List.length_append] at b2;simp only[List.length_cons] at Z T;obtain⟨pa,pc,z⟩:=Tt g;rw[List.length_map] at z;refine aB (aB (am j g (v:= .slice aw wl.length cw) rfl (bG (c:=[I w]) rfl (fS (W:=1) (n:=1) (c:=1) g rfl rfl rfl fun a3 h g=>?_))));refine pA (a:=aw) (c:=cw) (n:=wl.length) (cs:=wl.map I) (a2:=some a3) (c2:=1) (m:=1) (ns:=[I w]) g (by omega) fun D F h g=>aB (aB (ay (b:=j) (o:=0) g fun h g=>?_));refine aB (aB (am j g (v:= .slice ap d.length cp) rfl (bG (c:=[k]) (by rw[z];rfl) (fS (W:=1) (n:=1) (c:=1) g rfl rfl (by rw[z];rfl) fun a4 h g=>?_))));refine pA (a:=ap) (c:=cp) (n:=d.length) (cs:= @List.map (Value×List Ins) Value (fun x=>x.1) d) (a2:=some a4) (c2:=1) (m:=1) (ns:=[k]) g (by omega) fun B E h g=>aB (aB (ay (b:=j) (o:=0) g fun h g=>?_));refine ih r vr (d++[(k,p)]) (wl++[w]) B D E F h ?_ (by omega) (by simp[V]) (by rw[List.length_append];show _+1+_<_;omega) (by omega) U ?_
     .have ez:(wl++[w]).zip ((d++[(k,p)]).map (·.2))=wl.zip (d.map (·.2))++[(w,p)]:=by
       rw[List.map_append,List.zip_append (by rw[List.length_map];omega)];rfl
      rw[q,J,e,ez]
      dsimp only
      unfold jl
      cases Ny f r with
      |none=>rfl
      |some y=>simp
     .have g:=(g.sg (b:=j) (o:=0) (c:=jY C (.slice B (d.length+1) E) (.slice D (wl.length+1) F) (.slice ao os.length co) (.slice av vs.length cv) bX) rfl);have g:=V4 (l:=d) (v:=k) (p:=p) (g.lT (Hz 4 155 k (p.map Ins.enc)) (zZ d));have K:(wl++[w]).length=wl.length+1:=by simp
      have O:(d++[(k,p)]).length=d.length+1:=by simp
      have P:(wl++[w]).map I=wl.map I++[I w]:=by simp
      have e4:(d++[(k,p)]).map (·.1)=d.map (·.1)++[k]:=by simp
      rw[K,O,P,e4]
      exact g.to
   .refine iJ A ?_;rw[List.length_map];refine Ig ?_;conv=>lhs;unfold Ny
    rw[tt S]
theorem Tb {v:Value} {ls:List (List UInt8)} (hb:(iA ls).length<=900000) (H:Ob G 0 eP) (P:uS G v (ls.map tx)) (a:Hs G h L)
  (F:Sf ls=none->∀g,Hs G g L->Q (.tuple ⟨[.agg ⟨qG⟩,.bool false]⟩) g)
  (R:∀s ap aw d t k p f co z cd j g,Sf ls=some s->j.map (·.2)=s.cs.map (·.2)->Hs G g (Gn ap aw d t k p f co z cd j (s.cs.map (·.1)) s.os s.vs s.ds L)->
   Q (.tuple ⟨[.agg ⟨Ai s.C ap aw d t k p f co z cd j.length s.cs.length s.os.length s.vs.length s.ds.length⟩,.bool true]⟩) g):
  Cl Pr K 62 [v] h Q:=by
 have i:=Ox (ls:=ls)
 refine cW (eN (cs:=qG) a fun p1 h a=>eN (cs:=qG) a fun E h a=>Co (fun l O=>by have:=i.2 l O;omega) P a (fun e h a=>?_) fun C o w r d co aw f vr h e D a=>?_)
 .refine aE rfl (aE rfl (aE rfl (eN (cs:=tG Fo bX bX bX bX) a fun q h a=>ax (b:=q) a fun h a=>cC (fO ?_))));have a:=a.front (aM p1 0 qG);refine Ak rfl a (fun h a=>a.tail.tail) (F ?_);unfold Sf;rw[e]
 .refine aE rfl (aE rfl (aE rfl (eN (cs:=tG Fo bX bX bX bX) a fun q h a=>ax (b:=q) a fun h a=>cC (dK (bW ?_)))));refine an q a (l:=tG C bX bX (.slice d o.length co) (.slice aw w.length f)) rfl rfl (aB (ay (b:=E) (o:=0) a fun h a=>?_));have a:=a.sg (b:=E) (o:=0) (c:=jY C (.slice none 0 0) (.slice none 0 0) (.slice d o.length co) (.slice aw w.length f) bX) rfl;have S:(iA r).length<=(iA ls).length/\r.length<=ls.length:=by
   unfold Sj at e;split at e;split at e;split at e;split at e;split at e;cases e;simp only[dE,List.length_append,List.length_cons];omega;cases e;cases e;cases e;cases e;cases e
  have B:Sf ls=jl C o w [] (Ny (r.length+1) r):=by
   unfold Sf jl;rw[e];dsimp only;cases Ny (r.length+1) r with
   |none=>rfl
   |some y=>
    dsimp only;cases Ks y.2<;>rfl
  refine Nu (res:=Sf ls) (C:=C) (os:=o) (vs:=w) (ao:=d) (av:=aw) (co:=co) (cv:=f) H (fun e h a=>F e h a) (fun s ap u k p A cd j h e J a=>R s ap u d aw k p A co f cd j h e J.2.2.2 a) (r.length+1) r vr [] [] none none 0 0 h B (by omega) rfl (by simp;omega) (by omega) D ?_
  have a:=eU (W:=1) (e:=3) (Um (eU (W:=1) (e:=75) a))
  have a:Hs G h (aM p1 0 qG::aM E 0 (jY C (.slice none 0 0) (.slice none 0 0) (.slice d o.length co) (.slice aw w.length f) bX)::cB 1 75 none 0 (0,[])::zZ []::cB 1 3 none 0 (0,[])::cB 1 3 d co (o.length,o.map I)::cB 1 3 aw f (w.length,w.map I)::L):=a.to
  exact a
end
section
theorem gP {l:List Int}:l.length<=(cZ l).length:=by
 induction l with
 |nil=>simp
 |cons x l a=>
  have:cZ (x::l)=32::Lib.itoa x++cZ l:=rfl;rw[this];simp only[List.length_cons,List.length_append];omega
theorem Mi {l:List (Int×List Ins)}:l.length<=(fF l).length:=by
 induction l with
 |nil=>simp
 |cons x l a=>
  have:fF (x::l)=pZ x.1 x.2++fF l:=rfl;rw[this];unfold pZ;simp only[List.length_cons,List.length_append];omega
theorem Hh:∀{l:List Do},(∀d∈l,uF d)->4*l.length<=(pM l).length
 |[],_=>by simp
 |d::l,h=>by
  have f:=Hh (l:=l) fun x a=>h x (List.mem_cons_of_mem _ a);have b:=(h d List.mem_cons_self).1;have e:pM (d::l)=Si d++pM l:=rfl;have c:4<=(cL d.what).length:=by
   unfold cL;have:d.what=0\/d.what=1\/d.what=2\/d.what=3:=by omega
   rcases this with e|e|e|e<;>rw[e]<;>decide
  rw[e,Lw];unfold N3;simp only[List.length_cons,List.length_append];omega
theorem Em {s:C5} {n:Nat} (h:s.Good) (a:(gE s.C s.os s.vs s.cs s.ds).length=n):s.cs.length<=n/\s.os.length<=n/\s.vs.length<=n/\4*s.ds.length<=n:=by
 have c:=Mi (l:=s.cs);have e:=gP (l:=s.os);have f:=gP (l:=s.vs);have g:=Hh (l:=s.ds) fun d b=>(h.2.2.2.2 d b).1;unfold gE nS at a;rw[dQ,dQ,dQ] at a;unfold vA at a;simp only[List.length_append] at a;omega
def ia (t:List UInt8) (s:C5):Prop:=∃ls,bJ 10 t=ls++[[]]/\Sf ls=some s
theorem Ro {s:C5} (h:s.Good):ia (gE s.C s.os s.vs s.cs s.ds) s:=⟨_,(Ki h).1,(Ki h).2⟩
theorem Il {t:List UInt8} {s:C5} (h:ia t s):t=gE s.C s.os s.vs s.cs s.ds/\s.Good:=by
 obtain⟨ls,a,b⟩:=h;obtain⟨c,d⟩:=Yl b;exact⟨(Dl a).trans c,d⟩
theorem Fz {t:List UInt8} {s s':C5} (h:ia t s) (h':ia t s'):s=s':=by
 obtain⟨ls,c,d⟩:=h;obtain⟨e,a,b⟩:=h';rw[c] at a;obtain⟨rfl,_⟩:=List.append_inj' a rfl;rw[d] at b;exact Option.some.inj b
abbrev Ky (s:C5):List Int:=s.cs.map (·.1)
abbrev Xe (s:C5):List (List Ins):=s.cs.map (·.2)
abbrev ry (s:C5):Int:=oW s.C (Xe s) (Ky s) s.os s.vs
structure Px (t:List UInt8) (s:C5):Prop where
 rd:ia t s
 len:t.length<=262144
 ds:s.ds.length<=4096
 new:ry s=0
section
variable {G:Bg} {h:AH} {L L':List HP}
theorem Gb.mono {b:Bg} (a:G.Le b) (h:Gb G):Gb b:=⟨h.lim.mono a,h.rf.mono a,h.row.mono a⟩
theorem E9 {a:Option Addr} {c:Nat} {l:List Int} (b:Hs G h (cB 1 3 a c (l.length,l.map I)::L)):A.qM (B7 G h) (.slice a l.length c) l:=
 Gc (e:=3) (by decide) (wN (l:=A.nA l) (by simp[A.nA]) (A.jK l).symm (A.vW l).symm b)
theorem ft {a:Option Addr} {c:Nat} {l:List Do} (b:Hs G h (cB 4 52 a c (l.length,l.flatMap Do.enc)::L)):Re (B7 G h) (.slice a l.length c) l:=
 Gc (e:=52) (by decide) (wN (l:=l.map Do.enc) (by simp[Do.enc]) (List.length_map _).symm rfl b)
theorem Xj {e:TypeId} {a:Option Addr} {c:Nat} {l:List Value} (b:Hs G h (cB 1 e a c (l.length,l)::L)):eJ (B7 G h) 1 (.slice a l.length c) (l.map fun x=>[x]).length (fun i=>(l.map fun x=>[x]).getD i []):=
 Gc (e:=e) (by decide) (wN (l:=l.map fun x=>[x]) (by simp) (List.length_map _).symm (by clear b;induction l with|nil=>rfl|cons x l d=>rw[List.map_cons,List.flatten_cons,<-d];rfl) b)
theorem Fq {s:C5} {ap aw ao av o:Option Addr} {cp cw co cv cd:Nat} {f:List (Value×List Ins)} (g:f.map (·.2)=(Xe s)) (q:s.Good) (b:Hs G h (Gn ap aw ao av o cp cw co cv cd f (Ky s) s.os s.vs s.ds L)):
  Mw (B7 G h) (.slice ap f.length cp) (.slice aw s.cs.length cw) (.slice ao s.os.length co) (.slice av s.vs.length cv) (.slice o s.ds.length cd) (Xe s) (Ky s) s.os s.vs s.ds:=by
 have r:f.length=s.cs.length:=by
  have:=congrArg List.length g;simpa using this
 obtain⟨g1,g2,g3,g4,g5⟩:=q
 refine⟨⟨⟨f.map (·.1),?_,?_,?_⟩,?_,?_,?_⟩,?_,?_,?_,g3,fun d A=>(g5 d A).2⟩
 .simpa using r
 .have:=Xj (e:=75) (l:=f.map (·.1)) (a:=ap) (c:=cp) (by rw[List.length_map];exact b);rw[List.length_map] at this;exact this
 .intro i v p u j;rw[List.getElem?_map] at u;obtain⟨x,k,rfl⟩:=Option.map_eq_some_iff.1 u;rw[<-g,List.getElem?_map,k] at j;obtain rfl:x.2=p:=Option.some.inj j;exact Jc b.pS x (List.mem_of_getElem? k)
 .have z:=(b.front (cB 1 3 aw cw ((Ky s).length,(Ky s).map I)));have:=E9 z;rw[List.length_map] at this;exact this
 .exact E9 (b.front (cB 1 3 ao co (s.os.length,s.os.map I)))
 .exact E9 (b.front (cB 1 3 av cv (s.vs.length,s.vs.map I)))
 .exact ft (b.front (cB 4 52 o cd (s.ds.length,s.ds.flatMap Do.enc)))
 .intro p j x k;obtain⟨y,t,rfl⟩:=List.mem_map.1 j;exact(g4 y t).2.1 x k
 .intro w B;obtain⟨y,t,rfl⟩:=List.mem_map.1 B;exact(g4 y t).1
end
set_option maxRecDepth 100000
variable {G:Bg} {h:AH} {L L' M:List HP} {Q:Value->AH->Prop}
theorem Ee {t:List UInt8} (ht:t.length<2^30) (hG:Gb G) (hg:Ob G 0 eP) (f:Hs G h L)
  (k1:(∀s,¬Px t s)->∀e D,e≠0->Hs G D L->Q (.tuple ⟨[.agg ⟨qG⟩,I e]⟩) D)
  (k2:∀s ap aw q r p w z co y cd j D,Px t s->j.map (·.2)=(Xe s)->Hs G D (Gn ap aw q r p w z co y cd j (Ky s) s.os s.vs s.ds L)->
   Q (.tuple ⟨[.agg ⟨Ai s.C ap aw q r p w z co y cd j.length s.cs.length s.os.length s.vs.length s.ds.length⟩,I 0]⟩) D):
  Cl Pr K 21 [tx t] h Q:=by
 have bad:∀{p1:Nat} {c:List Value} {h:AH} {M:List HP} {e:Int},c.length=12->(∀s,¬Px t s)->e≠0->Hs G h (aM p1 0 c::M)->(∀D,Hs G D M->Hs G D L)->
   aK (jS qG []) fun c4=>aK (vI h 12 (pt p1 0 0) (.agg ⟨c4⟩)) fun h5=>aK (sW h5 12 (pt p1 0 0)) fun v6=>Q (.tuple ⟨[v6,I e]⟩) h5:=fun hc α F f hM=>
  bG (c:=qG) rfl (cY f (by rw[hc];rfl) rfl rfl rfl fun h f=>bE f (by decide) (l:=qG) rfl rfl (k1 α _ h F (hM h f.tail)))
 refine cW (eN (cs:=qG) f fun p1 h f=>pC (fY (bK (fun d=>?_) fun d=>bW ?_)))
 .exact bad rfl (fun s A=>by have:=A.len;omega) (by decide) f fun h f=>f
 refine P.zG (c:=10) (by omega) f fun a δ m h0 hm f=>?_
 obtain⟨k,hk⟩:∃k,(bJ 10 t).length=k+1:=⟨(bJ 10 t).length - 1,by have:=List.length_pos_iff.2 (nV (c:=10) t);omega⟩
 rw[hk] at hm
 subst hm
 have ε:k<=t.length:=by
  have h1:=rQ (c:=10) t;have h2:t.count 10<=t.length:=List.count_le_length;omega
 have hv:=uS.of f
 have B:=f.B7
 obtain⟨lt,T⟩:∃x,(bJ 10 t)[k]?=some x:=⟨_,List.getElem?_eq_getElem (by omega)⟩
 have g:bJ 10 t=(bJ 10 t).take k++[lt]:=by
  conv=>lhs;rw[<-List.take_append_drop k (bJ 10 t)]
  rw[List.drop_eq_getElem_cons (by omega)];rw[List.drop_of_length_le (by omega)];congr 2;exact Option.some.inj ((List.getElem?_eq_getElem (by omega)).symm.trans T)
 have O:((k+1:Nat):Int) - 1=(k:Nat):=by omega
 refine cM (K2 (by omega) ?_)
 rw[O]
 refine iB (i:=k) B hv (u:=tx lt) (by rw[List.getElem?_map,T];rfl) (Du (b:=[]) (bK (fun d=>?_) fun d=>bW ?_))
 .refine bad (p1:=p1) (c:=qG) (e:=14) rfl (fun s A=>?_) (by decide) (f.front (aM p1 0 qG)) fun h f=>f.tail;obtain⟨ls,X,_⟩:=A.rd;rw[X] at g;have:=(List.append_inj' g rfl).2;exact d (by simpa using this.symm)
 have d:lt=[]:=Decidable.not_not.1 d
 subst d
 generalize(bJ 10 t).take k=ls at g
 have S:ls.length=k:=by
  have:=congrArg List.length g;rw[hk] at this;simp at this;omega
 refine cM (K2 (by omega) ?_)
 rw[O]
 refine Xc (n:=k) hv (by rw[List.length_map];omega) (by rw[List.length_map];omega) fun v2 W=>?_
 have Z:((bJ 10 t).map tx).take k=ls.map tx:=by
  rw[g,List.map_append,List.take_left' (by rw[List.length_map];exact S)]
 rw[Z] at W
 have γ:t=iA ls:=Dl g
 have V:∀s,ia t s↔Sf ls=some s:=fun s=>⟨fun⟨l,X,e2⟩=>by
  rw[g] at X;rw[(List.append_inj' X rfl).1];exact e2,fun e=>⟨ls,g,e⟩⟩
 by_cases R:t.length<=262144
 rotate_left
 .omega
 refine Tb (by rw[<-γ];omega) (hg.mono f.De) W B (fun e h B=>?_) fun s ap aw q r p w z co y cd j h e U B=>?_
 .have f:=f.Ij B;have f:Hs G h (aM p1 0 qG::L):=f.tail;refine aE rfl (aE rfl (eN (cs:=qG) f fun E h f=>ax (b:=E) f fun h f=>cC (fO ?_)));refine bad (p1:=p1) (c:=qG) (e:=14) rfl (fun s A=>?_) (by decide) (f.front (aM p1 0 qG)) fun h f=>f.tail;have:=(V s).1 A.rd;rw[e] at this;cases this
 have f:=f.Ij B
 have Y:=(V s).2 e
 obtain⟨β,J⟩:=Il Y
 obtain⟨l1,l2,l3,l4⟩:=Em J (congrArg List.length β.symm)
 have f:Hs G h (Gn ap aw q r p w z co y cd j (Ky s) s.os s.vs s.ds (aM p1 0 qG::L)):=f.to
 refine aE rfl (aE rfl (eN (cs:=qG) f fun E h f=>ax (b:=E) f fun h f=>cC (dK (bW ?_))))
 refine aB (am E f (v:= .slice p s.ds.length cd) rfl (cM (fY (bK (fun d=>?_) fun d=>bW ?_))))
 .refine bad (p1:=p1) (c:=qG) (e:=11) rfl (fun s' A=>?_) (by decide) (f.front (aM p1 0 qG)) fun h f=>f.tail.tail.tail.tail.tail.tail.tail;have:=A.ds;rw[Fz A.rd Y] at this;omega
 refine aB (an E f (l:=tG s.C (.slice ap j.length w) (.slice aw s.cs.length z) (.slice q s.os.length co) (.slice r s.vs.length y)) rfl rfl ?_)
 have H:Hs G h (Gn ap aw q r p w z co y cd j (Ky s) s.os s.vs s.ds (aM E 0 (Ai s.C ap aw q r p w z co y cd j.length s.cs.length s.os.length s.vs.length s.ds.length)::aM p1 0 qG::L)):=f.to
 have hA:=Fq U J H
 refine Pp (G:=B7 G h) (Cf:=s.C) (ps:=(Xe s)) (ws:=(Ky s)) (os:=s.os) (vs:=s.vs) (by simp only[List.length_map];omega) (hG.mono f.De) (hg.mono f.De) hA.old f.B7 (fun F h B=>?_) fun F m h B=>?_
 .have f:=H.Ij B;refine aE rfl (aE rfl (bC (bV F ?_)));refine bad (p1:=p1) (c:=qG) (e:=ry s) rfl (fun s' A=>?_) F (f.front (aM p1 0 qG)) fun h f=>f.tail.tail.tail.tail.tail.tail.tail;have:=A.new;rw[Fz A.rd Y] at this;exact F this
 .have f:Hs G h (Gn ap aw q r p w z co y cd j (Ky s) s.os s.vs s.ds (aM E 0 (Ai s.C ap aw q r p w z co y cd j.length s.cs.length s.os.length s.vs.length s.ds.length)::aM p1 0 qG::L)):=(H.Ij B).tail;refine aE rfl (aE rfl (bC (aG (by decide) ?_)));refine an E f (l:=Ai s.C ap aw q r p w z co y cd j.length s.cs.length s.os.length s.vs.length s.ds.length) rfl rfl (ax (b:=p1) f fun h f=>an p1 f (l:=Ai s.C ap aw q r p w z co y cd j.length s.cs.length s.os.length s.vs.length s.ds.length) rfl rfl ?_);exact k2 s ap aw q r p w z co y cd j h ⟨Y,R,by omega,F⟩ U f.to
end
end Go.Proofs.YtcjlkjeeifemhaaGreatDoor
end
