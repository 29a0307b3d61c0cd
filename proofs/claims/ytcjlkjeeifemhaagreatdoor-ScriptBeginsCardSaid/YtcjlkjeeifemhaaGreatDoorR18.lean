/- A part of the proof. -/
import Derived.Test.YtcjlkjeeifemhaaGreatDoorR17
import Derived.Test.YtcjlkjeeifemhaaGreatDoorR9
import Derived.Test.YtcjlkjeeifemhaaGreatDoorR15
import Derived.Test.YtcjlkjeeifemhaaGreatDoorR14
import Derived.Test.YtcjlkjeeifemhaaGreatDoorR10
import Derived.Test.YtcjlkjeeifemhaaGreatDoorR13
import Derived.Test.YtcjlkjeeifemhaaGreatDoorTie
import Derived.Test.YtcjlkjeeifemhaaGreatDoorCards
import Derived.LaidMore
import Derived.SevenTiedAt
section
open Go Go.Ab
attribute [local irreducible] aY Br oM tU tZ Bj kK tW jJ Oy gO lN oP nQ nD iK vN tD I5 Q2 Nf M1 Sb Nl J1 Nj Pc kA mM qI iH copyV gW uU S4 S7 Fa jD Le O1 Ta lS oS wJ yB Cl yG Rz qY qM iP eP cI bS
namespace Go.Proofs.YtcjlkjeeifemhaaGreatDoor
open Go Go.Ab Go.Hm Go.At Go.Mc Go.Ct Go.Nt
section
set_option maxRecDepth 100000
variable {G:Bg} {h:AH} {L L':List HP} {Q:Value->AH->Prop} {Cf:bM} {m:Nat} {M:cN} {n:aK}
theorem yp (hC:Cf.Ok) (hG:Gb G) (f:xW Cf M n) (c:Hs G h L) [A:Has (bI G Cf m) L M L'] (a:TK G Cf m M L' Q (M.fT Cf n)):Cl Pr K 149 [pt m 0 0,.agg ⟨n.enc⟩] h Q:=by
 refine cW (dB (A.of c) fun r h c=>dB c fun j h c=>aA (am j c rfl ?_));have c:Hs G h (aF r 0 [pt m 0 0]::aF j 0 n.enc::bI G Cf m M::L'):=c.to;have home:(n.kind=1\/n.kind=2\/n.kind=3\/n.kind=4\/n.kind=5)->Dd 149 3 [] Q [(pt r 0 0),(pt j 0 0)] h:=fun e=>by
  unfold cN.fT at a;rw[aNa e] at a;exact aAv hC hG f c a
 have cache:¬(n.kind=1\/n.kind=2\/n.kind=3\/n.kind=4\/n.kind=5)->(n.kind=8\/n.kind=9\/n.kind=10\/n.kind=11)->Dd 149 9 [] Q [(pt r 0 0),(pt j 0 0)] h:=fun y e=>by
  unfold cN.fT at a;rw[aN9 y,aNa e] at a;exact aA0 hC hG f c a
 refine aZ (aQ (fun s=>bW (bE s (home (by omega)))) (fun s=>bW ?_));refine aZ (aQ (fun t=>bW (bE t (home (by omega)))) (fun t=>bW ?_));refine aZ (aQ (fun u=>bW (bE u (home (by omega)))) (fun u=>bW ?_));refine aZ (aQ (fun v=>bW (bE v (home (by omega)))) (fun v=>bW ?_));refine aZ (aQ (fun z=>home (by omega)) (fun z=>bW ?_));refine aZ (aQ (fun w=>bW (bE w (cache (by omega) (by omega)))) (fun w=>bW ?_));refine aZ (aQ (fun x=>bW (bE x (cache (by omega) (by omega)))) (fun x=>bW ?_));refine aZ (aQ (fun i=>bW (bE i (cache (by omega) (by omega)))) (fun i=>bW ?_));refine aZ (aQ (fun l=>cache (by omega) (by omega)) (fun l=>bW ?_));unfold cN.fT at a;rw[aab,aab] at a;refine aZ (aQ (fun p=>?_) (fun p=>bW ?_));rw[aNa p] at a;exact aAk hC f c a;rw[aN9 p] at a;refine aZ (aQ (fun d=>?_) (fun d=>bW ?_));rw[aNa d] at a;exact mj hC f (f.word d) c a;rw[aN9 d] at a;refine aZ (aQ (fun g=>?_) (fun g=>bW ?_));rw[aNa g] at a;exact aD2 hC f c a;rw[aN9 g] at a;refine aZ (aQ (fun q=>?_) (fun q=>?_));rw[aNa q] at a;exact Zw hC hG f c a;rw[aN9 q] at a;have c:Hs G h (bI G Cf m M::L'):=c.to;exact a _ _ (sp []) h (vp (Ft c)) fun k=>absurd k (by show ¬(15:Int)=0;omega)
theorem qd (_:Cf.Ok):(M.fT Cf n).2.1.length<=100:=by
 unfold cN.fT;split;unfold fF;split;simp;split;unfold sV.take;split;split<;>simp;split;split;simp;unfold sV.Oj;dsimp only;have a:= @Fv;have b:= @uI;grind [Row.rest];simp;simp
 .split;have:=zl (C:=Cf) (core:=n.core) (s:=M.cX n.core.toNat) (nt:=n);dsimp only;omega
  .repeat' split
   all_goals simp
   all_goals split<;>simp
theorem Vb {d:Do} (hC:Cf.Ok) (hG:Gb G) (z:qe Cf M.jT) (D:∀n,(M.jT.take Cf d.a d.b d.c).2.2=0->(M.jT.take Cf d.a d.b d.c).2.1=n->xW Cf M n) (j:qe Cf (M.jT.take Cf d.a d.b d.c).1) (g:Hs G h L) [J:Has (bI G Cf m) L M L'] (i:∀y,Hs G y (bI G Cf m (M.uN Cf d.a d.b d.c).1::L')->Q (I (M.uN Cf d.a d.b d.c).2) y):Cl Pr K 97 [pt m 0 0,.agg ⟨d.enc⟩] h Q:=by
 unfold cN.uN at i;refine cW (dB (cs:=d.enc) (J.of g) fun w h g=>?_);obtain⟨x,r,g⟩:=cJ (g.front (bI G Cf m M));refine aB (aA (am m g rfl (au (C:=Cf) (F:=M.jT) hC (z.W9 hC) g fun q h g=>?_)));refine aA (am w g rfl (aA (am w g rfl (aA (am w g rfl ?_)))));refine Y9 (C:=Cf) (f:=q) (F:=M.jT) hC (z.W9 hC) g fun h g=>aH rfl (aH rfl (bG g fun B h g=>ax (b:=B) g fun h g=>aT (aQ (fun p=>?_) (fun p=>?_))));rw[aNa p] at i;exact i _ (bB (m:=m) (x:=x) M r g).to;rw[aN9 p] at i;have A:=D _ (by omega) rfl;generalize M.jT.take Cf d.a d.b d.c=tt at i g p A j;have g:=bB (m:=m) (x:=x) M r g;refine bW (an B g (l:=tt.2.1.enc) rfl rfl (yp (Cf:=Cf) (M:=M) (n:=tt.2.1) hC hG A g ?_));intro v O Z h g k;refine aH rfl (aH rfl (aH rfl (aT (aQ (fun s=>?_) (fun s=>?_)))));dsimp only at i;rw[aNa s] at i;exact i _ g.to;dsimp only at i;rw[aN9 s] at i;obtain⟨a,c,E,u⟩:=H.zi g;subst E;have g:Hs G h (rP a c (M.fT Cf tt.2.1).2.1::_):=u;refine bW ?_;refine Ei (C:=Cf) (f:=q) (F:=tt.1) (l:=(M.fT Cf tt.2.1).2.1) (a:=a) (c:=c) hC (j.W9 hC) (qd hC) hG.kin hG.lim g fun h g=>aT (aQ (fun t=>?_) (fun t=>?_));rw[aNa t] at i;exact i _ g.to;rw[aN9 t] at i;obtain⟨x,r,g⟩:=cJ (g.front (bI G Cf m M));refine bW (aB (aA (ay (b:=m) (o:=0) g fun h g=>?_)));have e:dH (eQ Cf x M.log.length) (0+12) [pt q 0 0]=eQ Cf {x with fb:=q} M.log.length:=rfl;rw[e] at g;have g:=bB (m:=m) (x:={x with fb:=q}) (M.dH (tt.1.send Cf (M.fT Cf tt.2.1).2.1).1) r g;exact k (by omega) _ h _ _ (g.cF Z (bI G Cf m (M.dH (tt.1.send Cf (M.fT Cf tt.2.1).2.1).1))) fun v h g=>i _ g.to
end
section
set_option maxRecDepth 100000
variable {G:Bg} {h:AH} {L L':List HP} {Q:Value->AH->Prop} {Cf:bM} {m:Nat} {M:cN}
theorem ni {d:Do} (hC:Cf.Ok) (hG:Gb G) (E:hJ Cf M.dS) (A:yD Cf M.home (2^30 - 4)) (D:qe Cf M.jT) (g:Hs G h L) [O:Has (bI G Cf m) L M L'] (i:∀z,Hs G z (bI G Cf m (M.begin Cf d.a).1::L')->Q (I (M.begin Cf d.a).2) z):Cl Pr K 98 [pt m 0 0,.agg ⟨d.enc⟩] h Q:=by
 unfold cN.begin at i;refine cW (dB (cs:=d.enc) (O.of g) fun P h g=>?_);obtain⟨x,u,g⟩:=cJ (g.front (bI G Cf m M));refine aB (aA (am m g rfl (H.Ki (C:=Cf) hC (Fj A (by omega)) g fun q h g=>aU g fun R h g=>aA (am P g rfl ?_))));refine aB (aA (gD (b:=m) (o:=0) g (by decide) (l:=Cf.enc) rfl rfl (aB (aA (am m g rfl (aI (c:=Cf.enc++[pt x.mb 0 0]) rfl ?_))))));have g:=g.cF (H.fP G q Cf M.home) (fD Cf x.mb M.dS);refine H.vm (C:=Cf) (hb:=q) (H:=M.home) hC hG.lim (Ru (p:=x.mb) hC E hG.lim) A g (List.Perm.refl _) fun v h g=>aH rfl (aH rfl ?_);have B:(fun w=>Ji Cf M.dS w d.a)=M.W7 Cf d.a:=rfl;rw[B] at g ⊢;have t:=Rq (C:=Cf) (H:=M.home) (l:=d.a) (j:=M.W7 Cf d.a);generalize iA Cf M.home d.a (M.W7 Cf d.a)=r at i g t ⊢;refine aT (aQ (fun s=>?_) (fun s=>?_));rw[aNa s] at i;exact i _ (bB (m:=m) (x:=x) M u g).to;dsimp only at i;rw[aN9 s] at i;obtain⟨a,c,J,y⟩:=H.zi g;subst J;have g:Hs G h (rP a c r.2.1::_):=y;refine bW (aB (aA (am m g rfl ?_)));refine Ei (C:=Cf) (f:=x.fb) (F:=M.jT) (l:=r.2.1) (a:=a) (c:=c) hC (D.W9 hC) (by omega) hG.kin hG.lim g fun h g=>aT (aQ (fun k=>?_) (fun k=>?_));rw[aNa k] at i;rw[D6 k] at g;exact i _ (bB (m:=m) (x:=x) M u g).to;rw[aN9 k] at i;refine bW (aB (aA (ay (b:=m) (o:=0) g fun h g=>i _ ?_)));have e:dH (eQ Cf x M.log.length) (0+10) [pt q 0 0]=eQ Cf {x with hb:=q} M.log.length:=rfl;rw[e] at g;exact(bB (m:=m) (x:={x with hb:=q}) ((M.dH (fM.send Cf M.jT r.2.1).1).rX r.1) u g).to
abbrev sdX (G:Bg) (Cf:bM) (m p2 a:Nat) (M:cN) (b:Bool) (e:Nat->Value) (d l:Nat) (st:LoopState×Option Code) (pr:Prop):HP:=sp [uH pr,kE Pr 153 (kI 218) 29 e d l st,sp [aF p2 0 [pt m 0 0],aF a 0 [.bool b]],bI G Cf m M]
theorem mr {g:Nat} (hC:Cf.Ok) (hG:Gb G) (P:(g:Int)<Cf.bU) (R:yD Cf M.home (2^30)) (a:Hs G h L) [T:Has (bI G Cf m) L M L'] (k:∀w,Hs G w (bI G Cf m M::L')->Q (.bool (M.mH Cf g)) w):Cl Pr K 153 [pt m 0 0,I g] h Q:=by
 refine cW (dB (T.of a) fun f h a=>?_);obtain⟨x,t,a⟩:=cJ (a.front (bI G Cf m M));refine am f a rfl (aB (aA (am m a rfl (Jl (C:=Cf) (m:=M.dS) a fun h a=>aZ (bG a fun c h a=>ax (b:=c) a fun h a=>?_)))));generalize J:decide (M.dS.phase g=2)=b at a;refine am f a rfl (aB (aA (gD (b:=m) (o:=0) a (by decide) (l:=Cf.enc) rfl rfl (Cy (C:=Cf) a fun E F h a=>?_))));have a:=bB (m:=m) (x:=x) M t a;refine jM a fun d h a=>?_;intro e O;refine lY a fun l h a=>rL rfl ?_;have a:Hs G h (sp [aF E 0 Cf.enc,aF F 0 [I g]]::sdX G Cf m f c M b e d l (.ready,none) (∀l∈([]:List Nat),¬fL Cf M.home l>0)::mk d ()::L'):=by
  have a:=(a.cF (aF f 0 [pt m 0 0]) (aF c 0 [.bool b])).A9;have a:=a.cK (kE Pr 153 (kI 218) 29 e d l (.ready,none)) (sp [aF f 0 [pt m 0 0],aF c 0 [.bool b]]) (bI G Cf m M);have a:=Hs.M3 (Hs.T2 (p:=∀l∈([]:List Nat),¬fL Cf M.home l>0) (by simp) a);exact a.to
 refine(Fo (C:=Cf) hC P (p:=E) (q:=F) hG.lim).fold (X:=fun done=>sdX G Cf m f c M b e d l (.ready,none) (∀l∈done,¬fL Cf M.home l>0)) (Z:=fun _ y=>sdX G Cf m f c M false e d l (.done,some (.exit 0)) (fL Cf M.home y>0/\(y=g*2\/y=g*2+1))) a ?_ ?_ ?_
 .intro done y h N D a;obtain⟨i,a⟩:=eV a;have a:=a.wP;have S:y=g*2\/y=g*2+1:=by
   obtain⟨U,u⟩:=D;have:y∈[g*2,g*2+1]:=by rw[<-u];simp
   simpa using this
  have a:=(a.front (sp [aF f 0 [pt m 0 0],aF c 0 [.bool b]])).Bq;obtain⟨x,t,a⟩:=cJ (a.front (bI G Cf m M));refine rW (rK a) O (gS a fun h a=>am f a rfl (aB (aA (am m a rfl (H.P8 (C:=Cf) (H:=M.home) R a fun h a=>?_)))));have a:=bB (m:=m) (x:=x) M t a;refine gZ (aQ (fun r=>?_) (fun r=>?_));refine ax (b:=c) a fun h a=>gV a fun h a=> .inr ⟨rfl,?_⟩;have a:=(a.cF (aF f 0 [pt m 0 0]) (aF c 0 [.bool false])).A9;have a:=a.cK (kE Pr 153 (kI 218) 29 e d l (.done,some (.exit 0))) (sp [aF f 0 [pt m 0 0],aF c 0 [.bool false]]) (bI G Cf m M);exact(Hs.M3 (Hs.T2 (p:=fL Cf M.home y>0/\(y=g*2\/y=g*2+1)) ⟨r,S⟩ a)).to
  .refine gV a fun h a=> .inl ⟨rfl,?_⟩;have a:=(a.cF (aF f 0 [pt m 0 0]) (aF c 0 [.bool b])).A9;have a:=a.cK (kE Pr 153 (kI 218) 29 e d l (.ready,none)) (sp [aF f 0 [pt m 0 0],aF c 0 [.bool b]]) (bI G Cf m M);refine(Hs.M3 (Hs.T2 (p:=∀l∈done++[y],¬fL Cf M.home l>0) ?_ a)).to;intro z j;rcases List.mem_append.1 j with j|j;exact i z j;rw[List.mem_singleton.1 j];exact r
 intro v h a;obtain⟨i,a⟩:=eV (a.front (sdX G Cf m f c M b e d l (.ready,none) (∀l∈[g*2,g*2+1],¬fL Cf M.home l>0)));have a:=a.wP;have s:M.mH Cf g=b:=by
  have A:=i (g*2) (by simp);have B:=i (g*2+1) (by simp);rw[<-J];unfold cN.mH;simp only[Int.natCast_mul,Int.natCast_add] at A B;rw[decide_eq_false (p:=fL Cf M.home (g*2)>0) A,decide_eq_false (p:=fL Cf M.home (g*2+1)>0) B];simp
 rw[s] at k;have a:=(a.front (sp [aF f 0 [pt m 0 0],aF c 0 [.bool b]])).Bq;exact mC a fun h a=>lT (am c a rfl (kN a fun h a=>iF (k _ a.to)))
 .intro done y v h D a;obtain⟨i,a⟩:=eV (a.front (sdX G Cf m f c M false e d l (.done,some (.exit 0)) (fL Cf M.home y>0/\(y=g*2\/y=g*2+1))));have a:=a.wP;have s:M.mH Cf g=false:=by
   unfold cN.mH;rcases i.2 with e|e;have:=i.1;rw[e] at this;simp only[Int.natCast_mul] at this;rw[decide_eq_true (p:=fL Cf M.home (g*2)>0) this];simp;have:=i.1;rw[e] at this;simp only[Int.natCast_mul,Int.natCast_add] at this;rw[decide_eq_true (p:=fL Cf M.home (g*2+1)>0) this];simp
  rw[s] at k;have a:=(a.front (sp [aF f 0 [pt m 0 0],aF c 0 [.bool false]])).Bq;exact Cx a fun h a=>Gg rfl (am c a rfl (kN a fun h a=>iF (k _ a.to)))
end
section
theorem Xy {H:kP} {g:Nat}:vE H g=fun i=>((H i).1,Ep (fun i=>(H i).2) g i):=by
 funext i;unfold vE Ep bY;by_cases a:i=g*2+1;subst a;simp;by_cases b:i=g*2;subst b;simp;rw[aab,aN9 a,aN9 b]
theorem Px {m:Mon} {g:Int} {u:Mc.iU} (h:(m.over g).2.1=some u):m.run g=some u/\(m.over g).2.2=0/\m.has g:=by
 unfold Mon.over at h ⊢;by_cases a:m.has g;rw[aN9 (by simpa using a)] at h ⊢;cases hr:m.run g with
 |none=>rw[hr] at h;cases h
 |some r=>
  rw[hr] at h;dsimp only at h ⊢;split at h;cases h;rename_i b;cases h;rw[aN9 b];exact⟨rfl,rfl,a⟩
 rw[aNa a] at h;cases h
theorem O5 {m:Mon} {g:Int} (h:(m.over g).2.1=none):(m.over g).1=m/\(m.over g).2.2≠0:=by
 unfold Mon.over at h ⊢;split;exact⟨rfl,by dsimp only;omega⟩;rename_i a;rw[aN9 a] at h;split;exact⟨rfl,by dsimp only;omega⟩;rename_i r c;rw[c] at h;dsimp only at h;split;exact⟨rfl,by dsimp only;omega⟩;rename_i b;rw[aN9 b] at h;cases h
set_option maxRecDepth 100000
variable {G:Bg} {h:AH} {L L':List HP} {Q:Value->AH->Prop} {Cf:bM} {m:Nat} {M:cN}
theorem ae {d:Do} (hC:Cf.Ok) (hG:Gb G) (S:hJ Cf M.dS) (V:yD Cf M.home (2^30)) (t:∀i:Nat,(i:Int)<Cf.aG->(M.bJ i).Ok) (l:M.log.length<=2^30) (e:Hs G h L) [W:Has (bI G Cf m) L M L'] (f:∀J,Hs G J (bI G Cf m (M.finish Cf d.a).1::L')->Q (I (M.finish Cf d.a).2) J):Cl Pr K 99 [pt m 0 0,.agg ⟨d.enc⟩] h Q:=by
 unfold cN.finish at f;refine cW (dB (cs:=d.enc) (W.of e) fun y h e=>aU e fun rr h e=>?_);obtain⟨x,q,e⟩:=cJ (e.front (bI G Cf m M));refine aA (am y e rfl (aM (aQ (fun O=>?_) (fun O=>?_))));rw[aae] at f;exact f _ (bB (m:=m) (x:=x) M q e).to;refine aA (am y e rfl (aB (aA (aA (am m e rfl (dE (aQ (fun P=>?_) (fun P=>?_))))))));rw[aae] at f;exact f _ (bB (m:=m) (x:=x) M q e).to;rw[aab] at f;obtain⟨w,a,b,c⟩:=d;dsimp only at O P f;obtain⟨g,rfl⟩:=Int.eq_ofNat_of_zero_le (show 0<=a by omega);have e:=bB (m:=m) (x:=x) M q e;refine bW (aA (am y e rfl (mr (Cf:=Cf) (M:=M) hC hG (by omega) V e fun h e=>bT (dT (cZ (fun z=>?_) (fun z=>?_))))));rotate_left;rw[aNa z] at f;exact f _ e.to;rw[aN9 (by rw[z];simp)] at f;obtain⟨x,q,e⟩:=cJ (e.front (bI G Cf m M));refine bW (aU e fun Y h e=>aB (aA (am m e rfl (aA (am y e rfl ?_)))));refine Zs (C:=Cf) (m:=M.dS) (p:=x.mb) hC S e fun h e=>aH rfl (aH rfl (kM (r:=Y) (i:=10) (n:=13) (D:=[]) e rfl rfl fun v h e=>ax (b:=v) e fun h e=>bP (aH rfl eG) (aT (aQ (fun B=>?_) (fun B=>?_)))));cases hu:(M.dS.over (g:Int)).2.1 with
 |some u=>exact absurd (Px hu).2.1 B
 |none=>
  rw[hu] at f;dsimp only at f;rw[(O5 hu).1] at e;exact f _ (bB (m:=m) (x:=x) M q e).to
 cases hu:(M.dS.over (g:Int)).2.1 with
 |none=>exact absurd (O5 hu).2 B
 |some u=>
 obtain⟨Z,_,u2⟩:=Px hu;obtain⟨o1,T,o3,X,o5⟩:=S.run g u (tu Z);rw[hu] at f e;dsimp only at f;simp only[Option.getD_some] at e;obtain⟨i,R⟩:=Int.eq_ofNat_of_zero_le X.1;have k:(i:Int)<Cf.aG:=by omega
 have F:(mN u)[0+0+0]?=some (I i):=by show some (I u.core)=_;rw[R]
 have U:(mN u)[0+0+3]?=some (I g):=by show some (I u.cE)=_;rw[T]
 rw[show u.core.toNat=i by rw[R];rfl,T] at f;refine bW (aA (am v e rfl (cZ (fun E=>?_) (fun E=>?_))));rw[aNa E] at f;obtain⟨s,b,o,j,e⟩:=H.oA (e.front (H.fP G x.hb Cf M.home));refine bW (aU e fun r3 h e=>aB (aA (am m e rfl (aB (aA (aC (b:=x.hb) (o:=0) e rfl (aA (aA (am v e U ?_)))))))));refine A.xr (C:=Cf) (mb:=s) (g:=g) (mem:=fun i=>(M.home i).2) hC hG.lim e (by omega) fun _ h e=>aA (aA (am v e F ?_));have e:=H.sH (H:=vE M.home g) (hb:=x.hb) (C:=Cf) (mb:=s) (b:=b) (o:=o) (cap:=j) (by rw[Xy];exact e.mB (aF x.hb 0 (H.lF s Cf b o j)) (fJ G Cf.lines s Cf (Ep (fun i=>(M.home i).2) g)) (hole G 25 230 (some ⟨b,o,none⟩) j Cf.lines b o) (dC Cf.lines fun i=>H.eC b (o+i*25) (M.home i).1));have e:=bB (m:=m) (x:=x) ((M.sC (M.dS.over g).1).rX (vE M.home g)) q e;exact mW (Cf:=Cf) (M:=(M.sC (M.dS.over g).1).rX (vE M.home g)) k (t i k) l e fun h e=>f _ e.to;rw[aN9 (by rw[E];simp)] at f;have e:=bB (m:=m) (x:=x) (M.sC (M.dS.over g).1) q e;exact aA (aA (am v e F (mW (Cf:=Cf) (M:=M.sC (M.dS.over g).1) k (t i k) l e fun h e=>f _ e.to)))
end
section
def B5:List Value:=[.func (.func 96) #[] #[],.func (.func 97) #[] #[],.func (.func 98) #[] #[],.func (.func 99) #[] #[]]
set_option maxRecDepth 100000
variable {G:Bg} {h:AH} {L L':List HP} {Q:Value->AH->Prop} {Cf:bM} {m N:Nat} {M:cN}
theorem rq (a:Hs G h L) (e:∀d,Hs G d L->Q (.agg ⟨B5⟩) d):Cl Pr K 49 [] h Q:=
 cW (bG a fun p h a=>aI (c:=B5) rfl (ax (b:=p) a fun h a=>an p a (l:=B5) rfl rfl (e _ a.tail)))
theorem aC5 {d:Do} {f:Value} (hC:Cf.Ok) (hG:Gb G) (a:eK Cf N M) (j:N<=2^29) (o:0<=d.eI/\d.eI<=3) (k:B5[d.eI.toNat]?=some f) (c:Hs G h L) [s:Has (bI G Cf m) L M L'] (b:∀g,Hs G g (bI G Cf m (M.vJ Cf d).1::L')->Q (I (M.vJ Cf d).2) g):yG Pr K f [pt m 0 0,.agg ⟨d.enc⟩] h Q:=by
 unfold cN.vJ at b;have o:d.eI=0\/d.eI=1\/d.eI=2\/d.eI=3:=by omega
 have l:=a.log;rcases o with e|e|e|e;all_goals
  rw[e] at k
  cases k
 rw[aNa e] at b;exact qJ rfl (ym hC hG (fun i q=>a.step hC j q) c b);rw[aab,aNa e] at b;exact qJ rfl (Vb hC hG a.jT.len (fun n p r=>by rw[<-r];exact a.take hC j (V4 a.jT p).1) (Wd a.jT).len c b);rw[aab,aab,aNa e] at b;exact qJ rfl (ni hC hG a.dS (a.home.h (by omega)) a.jT.len c b);rw[aab,aab,aab,aNa e] at b;exact qJ rfl (ae hC hG a.dS (a.home.h (by omega)) a.vF (by omega) c b)
theorem Ff {l:List Do} {i:Nat} {d:Do} (h:l[i]?=some d):(l.map Do.enc)[i]?=some d.enc:=by rw[List.getElem?_map,h];rfl
theorem aFw {l:List Do} {e:TypeId} {v:Value} (hC:Cf.Ok) (hG:Gb G) (s:eK Cf N M) (A:N+2*l.length<=2^29) (g:Hs G h (qU G 4 e v (l.map Do.enc)::bI G Cf m M::L)) (j:∀r,Hs G r (qU G 4 e v (l.map Do.enc)::bI G Cf m (M.tH Cf l 0).1::L)->Q (.tuple ⟨[I (M.tH Cf l 0).2.1,I (M.tH Cf l 0).2.2]⟩) r):Cl Pr K 17 [pt m 0 0,v] h Q:=by
 obtain⟨a,c,D⟩:=kZ g;rw[List.length_map] at D;have q:∀{k:Value->Prop},k (I l.length)->aY (iK v) k:=fun j=>by rw[D];exact bH j
 refine cW (cS (bX (bW (rq g fun h g=>bG g fun p h g=>ax (b:=p) g fun h g=>q ?_))));have loop:∀(f i N:Nat) (M:cN) (h:AH),i+f=l.length->eK Cf N M->N+2*f<=2^29->(∀r,Hs G r (qU G 4 e v (l.map Do.enc)::bI G Cf m (M.tH Cf (l.drop i) i).1::L)->Q (.tuple ⟨[I (M.tH Cf (l.drop i) i).2.1,I (M.tH Cf (l.drop i) i).2.2]⟩) r)->
   Hs G h (qU G 4 e v (l.map Do.enc)::aF p 0 B5::bI G Cf m M::L)->Dd 17 2 [] Q [(pt m 0 0),v,(pt p 0 0),v,(I l.length),(I i)] h:=by
  intro f
  induction f with
  |zero=>
   intro i N M h J s A j g
   rw[List.drop_of_length_le (by omega)] at j
   unfold cN.tH at j
   have z:i=l.length:=by omega
   subst z
   exact bW (aM (aaa (q (j _ g.to))))
  |succ f O=>
   intro i N M h J s A j g
   obtain⟨d,H,y⟩:=mU (l:=l) (i:=i) (by omega)
   rw[y] at j
   unfold cN.tH at j
   refine bW (aM (aad (bW (Ul g (by decide) (Ff H) (bG g fun u h g=>ax (b:=u) g fun h g=>aA (am u g rfl (aM (aQ (fun E=>?_) (fun E=>?_)))))))))
   .have w:M.vJ Cf d=(M,1):=by unfold cN.vJ;rw[aab,aab,aab,aab]
    rw[w,aNa (show(M,(1:Int)).2≠0 by show(1:Int)≠0;omega)] at j
    exact j _ g.to
   refine aA (am u g rfl (gZ (aQ (fun F=>?_) (fun F=>?_))))
   .have w:M.vJ Cf d=(M,1):=by unfold cN.vJ;rw[aab,aab,aab,aab]
    rw[w,aNa (show(M,(1:Int)).2≠0 by show(1:Int)≠0;omega)] at j
    exact j _ g.to
   have t:d.eI.toNat<4:=by omega
   have B:B5[d.eI.toNat]?=some (B5[d.eI.toNat]'t):=List.getElem?_eq_getElem t
   refine bW (aU g fun P h g=>aA (am u g rfl (iI (by omega) (by omega) (am p g (by simpa using B) (an u g (l:=d.enc) rfl rfl ?_)))))
   refine aC5 hC hG s (by omega) (by omega) B g fun h g=>aT (aQ (fun x=>?_) (fun x=>?_))
   .rw[aNa x] at j;exact j _ g.to
   .rw[aN9 x] at j;refine bW (aac ?_);exact O (i+1) (N+2) _ h (by omega) (yy s hC) (by omega) j g.to
 exact loop l.length 0 N M h (by omega) s (by omega) (by simpa using j) g.to
end
end Go.Proofs.YtcjlkjeeifemhaaGreatDoor
namespace Go.Proofs.YtcjlkjeeifemhaaGreatDoor.A
open Go Go.Ab Go.Hm Go.At Go.Is
section
set_option maxRecDepth 100000
variable {G:Bg} {h:AH} {L L':List HP} {Q:Value->AH->Prop}
abbrev zS:List Value:=[I 0,I 0,I 0,I 0,I 0,I 0,.bool false,.slice none 0 0]
theorem Ze {B p b o cap A c mb:Nat} {a:Option Addr} {C:bM} {pv wv:Value} {vi:List Value} {ps:List (List Ins)} {ws:List Int} (hB:B<=4) (S:ps.length=B) (U:ws.length=B) (P:∀p∈ps,p.length<=32)
  (W:vi.length=ps.length) (O:kU G 1 pv (vi.map fun x=>[x]).length (fun i=>(vi.map fun x=>[x]).getD i [])) (E:∀(i:Nat) (v:Value) (p:List Ins),vi[i]?=some v->ps[i]?=some p->Yu G v p) (T:Di G wv ws)
  (J:∀z,Hs G z (hdA p C (.slice (some ⟨b,o,none⟩) B cap) a A c mb::dC B (fun i=>yH b (o+i*8) (tJ (ps.getD i []) (ws.getD i 0)))::L)->Q (.tuple ⟨[pt p 0 0,I 0]⟩) z):
  ∀(r i:Nat) (h:AH),i+r=B->Hs G h (hdA p C (.slice (some ⟨b,o,none⟩) B cap) a A c mb::dC B (fun j=>if j<i then yH b (o+j*8) (tJ (ps.getD j []) (ws.getD j 0)) else aF b (o+j*8) zS)::L)->
  Dd 28 13 [] Q [pv,wv,(pt p 0 0),(I B),(I i)] h:=by
 intro r
 induction r with
 |zero=>
  intro i h f d
  obtain rfl:i=B:=by omega
  refine bW (aM (aaa (J _ ?_)))
  exact(sF (g:=fun j=>yH b (o+j*8) (tJ (ps.getD j []) (ws.getD j 0))) (fun j H=>by rw[aNa H]) d.jN).jN
 |succ r V=>
  intro i h F d
  have f:i<B:=by omega
  obtain⟨pp,k,_⟩:=jP (l:=ps) (i:=i) (by omega)
  obtain⟨v,q,_⟩:=jP (l:=vi) (i:=i) (by omega)
  obtain⟨w,t,_⟩:=jP (l:=ws) (i:=i) (by omega)
  have R:pp.length<=32:=P pp (List.mem_of_getElem? k)
  have d:=(d.front (dC B fun j=>if j<i then yH b (o+j*8) (tJ (ps.getD j []) (ws.getD j 0)) else aF b (o+j*8) zS)).mD i f
  simp only[Nat.lt_irrefl,if_false] at d
  refine bW (aM (aad (bW (aB (aA (am p d rfl (dF f ?_)))))))
  refine uK (pI (e:=3) (by simp) O d) (x:=[v]) (by simp[q]) rfl ?_
  refine aD5 (by rw[Kp];omega) (by rw[Po];exact ah _) (Iv (E i v pp q k) d) fun u y h d=>?_
  rw[Kp,Po] at d
  rw[Kp]
  refine aB (aA (ay (b:=b) (o:=o+i*8) d fun h d=>?_))
  refine uK (sB T d) (x:=[I w]) (by simp[zH,t]) rfl ?_
  refine aB (aA (aA (ay (b:=b) (o:=o+i*8) d fun h d=>?_)))
  have d:=d.sg (b:=b) (o:=o+i*8) (c:=(⟨fun _=>0,0,w,false,pp⟩:aX).core++[.slice u pp.length y]) rfl
  refine Ip (s:=⟨fun _=>0,0,w,false,pp⟩) (a:=u) (c:=y) (by omega) (d.cF (aF b (o+i*8) ((⟨fun _=>0,0,w,false,pp⟩:aX).core++[.slice u pp.length y])) (cU 4 155 u y (pp.length,Ak pp))) fun h d=>aac ?_
  refine V (i+1) h (by omega) ?_
  have d:=Ys (b:=b) (o:=o+i*8) (s:=(⟨fun _=>0,0,w,false,pp⟩:aX).rA 0) d
  have e:(⟨fun _=>0,0,w,false,pp⟩:aX).rA 0=tJ (ps.getD i []) (ws.getD i 0):=by
   rw[List.getD_eq_getElem?_getD,List.getD_eq_getElem?_getD,k,t];rfl
  rw[e] at d
  have D:yH b (o+i*8) (tJ (ps.getD i []) (ws.getD i 0))=(fun j=>if j<i+1 then yH b (o+j*8) (tJ (ps.getD j []) (ws.getD j 0)) else aF b (o+j*8) zS) i:=by simp only[Nat.lt_succ_self,if_true]
  rw[D] at d
  have d:=d.oZ (n:=B) (i:=i) (fun j=>if j<i then yH b (o+j*8) (tJ (ps.getD j []) (ws.getD j 0)) else aF b (o+j*8) zS) (fun j=>if j<i+1 then yH b (o+j*8) (tJ (ps.getD j []) (ws.getD j 0)) else aF b (o+j*8) zS) f (fun j _ K=>by
   have:(j<i+1)=(j<i):=propext ⟨fun h=>by omega,fun h=>by omega⟩;simp only[this])
  exact d.to
theorem zN:∀{ps:List (List Ins)},uR ps=0->∀p∈ps,(fO p).2=0
 |[],_,p,a=>by simp at a
 |q::l,h,p,a=>by
  rw[uR] at h;split at h;rename_i b;exact absurd h b;rename_i b;rcases List.mem_cons.1 a with rfl|a;omega;exact zN h p a
theorem P5 {p:List Ins} (h:(fO p).2=0):p.length<=32:=by
 unfold fO at h;split at h;cases h;omega
theorem aGa {C:bM} {pv wv ov vv:Value} {ps:List (List Ins)} {ws os vs:List Int} (F:ps.length<=1000/\ws.length<1000/\os.length<1000) (E:Ob G 1 gA) (R:Ob G 0 mY) (U:aAg G pv wv ov vv ps ws os vs) (d:Hs G h L)
  (j:wF C ps ws os vs≠0->∀f,Hs G f L->Q (.tuple ⟨[.pointer none,I (wF C ps ws os vs)]⟩) f)
  (w:wF C ps ws os vs=0->∀p f,Hs G f (aK8 G p (aJo C ps ws os vs)::L)->Q (.tuple ⟨[pt p 0 0,I 0]⟩) f):Cl Pr K 28 [.agg ⟨C.enc⟩,pv,wv,ov,vv] h Q:=by
 obtain⟨⟨Z,H,u,z⟩,v,t,A⟩:=U
 have lp:∀{k:Value->Prop},k (I ps.length)->aY (iK pv) k:=fun s=>uQ u (by simpa [H] using s)
 have lw:∀{k:Value->Prop},k (I ws.length)->aY (iK wv) k:=fun s=>uQ v (by simpa [tT] using s)
 have X:∀{k:Value->Prop},k (I os.length)->aY (iK ov) k:=fun s=>uQ t (by simpa [tT] using s)
 have J:∀{k:Value->Prop},k (I vs.length)->aY (iK vv) k:=fun s=>uQ A (by simpa [tT] using s)
 unfold wF at j w
 refine cW (dB d fun q h d=>aN d (by decide) (l:=C.enc) rfl rfl (jS E d fun h d=>?_))
 by_cases hC:C.Ok
 rotate_left
 .rw[aNa hC] at j;rw[aN9 hC];exact aT (aad (j (by omega) _ d.tail))
 rw[aN9 (by simpa using hC)] at j w
 rw[aNa hC]
 have T:=bM.gI hC
 have D:=bM.bk hC
 have P:C.aG<=4/\1<=C.aG:=⟨hC.1.2,hC.1.1⟩
 have S:C.bU<=16:=hC.2.1.2
 have bad:((ps.length:Int)≠C.aG\/(ws.length:Int)≠C.aG\/(os.length:Int)≠C.bU\/vs.length≠C.lines*2)->∀f,Hs G f (aF q 0 C.enc::L)->Q (.tuple ⟨[.pointer none,I 1]⟩) f:=fun D f d=>by
  rw[aNa D] at j;exact j (by omega) _ d.tail
 refine aT (aaa (bW (lp (aA (am q d rfl (aT (aQ (fun g=>bad (.inl g) _ d) (fun g1=>lw (aA (am q d rfl (aT (aQ (fun g=>bad (.inr (.inl g)) _ d) (fun g2=>X (aA (am q d rfl (aT (aQ (fun g=>bad (.inr (.inr (.inl g))) _ d) (fun g3=>J (an q d (l:=C.enc) rfl rfl (Wp hC E d fun h d=>aT (aQ (fun g=>bad (.inr (.inr (.inr (by omega)))) _ d) (fun g4=>?_))))))))))))))))))))))
 clear bad
 rw[aab] at j w
 refine bW (lp (Y0 (_C:=C) H u z R F.1 (fun e h d=>?_) (fun e h d=>?_) ps.length 0 h (by omega) rfl d))
 .rw[aNa e] at j;exact j e _ d.tail
 rw[aN9 (by simpa using e)] at j w
 have r:¬(within 0 3 ws=true/\within 0 4 os=true)->∀f,Hs G f (aF q 0 C.enc::L)->Q (.tuple ⟨[.pointer none,I 10]⟩) f:=fun D f d=>by
  rw[aNa D] at j;exact j (by omega) _ d.tail
 refine bW (Gp (l:=ws) F.2.1 (sB v d) fun h d=>bT (dT (cZ (fun g1=>?_) (fun g1=>r (by simp[g1]) _ d.tail))))
 refine Gp (l:=os) F.2.2 (sB t d.tail) fun h d=>bT (dT (cZ (fun g2=>?_) (fun g2=>r (by simp[g2]) _ d.tail)))
 clear r
 rw[aN9 (by simp[g1,g2])] at j w
 have d:=d.tail
 refine bW (an q d (l:=C.enc) rfl rfl (Pm hC E d fun x h d=>aH rfl (aH rfl (aT (aaa (bW (J ?_)))))))
 refine Yv (L:=aF q 0 C.enc::L) hC A E (by omega) (fun h d=>?_) vs.length 0 oN h (by omega) rfl d
 refine bW (aU d fun Y h d=>an q d (l:=C.enc) rfl rfl (aA (am q d rfl (Qo (by omega) (by omega) (by omega) ?_))))
 dsimp only
 refine gT d rfl rfl ?_ rfl ?_ ?_
 .rw[gG,qK (W:=8) (fun _=>rfl)]
 .rw[gG];exact pN (fun _=>rfl) _
 intro a h d
 obtain⟨b,o,O,d⟩:=Hs.Mi (W:=8) rfl (by omega) d
 cases O
 refine aA4 (by rw[tT];omega) (by rw[Nz];exact Zq _) (sB t d) fun y c2 h d=>?_
 rw[tT,Nz] at d
 rw[tT]
 refine aI (c:=C.enc++[.slice (some ⟨b,o,none⟩) C.aG.toNat C.aG.toNat,.slice y os.length c2,pt x 0 0]) rfl (zK d rfl rfl fun p h d=>?_)
 refine bP (an q d (l:=C.enc) rfl rfl (pW (by simp[bM.enc,eG]))) (bP (aA cG) (bP (am q d rfl eG) (bP cG (aB (aA (am p d rfl (bH ?_)))))))
 have d:=d.cF (hdA p C (.slice (some ⟨b,o,none⟩) C.aG.toNat C.aG.toNat) y os.length c2 x) (dC C.aG.toNat fun i=>aF b (o+i*8) zS)
 refine Ze (B:=C.aG.toNat) (b:=b) (o:=o) (C:=C) (ps:=ps) (ws:=ws) (by omega) (by omega) (by omega) (fun p V=>P5 (zN e p V)) H u z v ?_ C.aG.toNat 0 h (by omega) (by simpa using d)
 intro h d
 refine w rfl p _ ?_
 have d:=nu (b:=b) (o:=o) (cap:=C.aG.toNat) (a:=y) (c:=c2) (mb:=x) (m:=aJo C ps ws os vs) ((d.mB (hdA p C (.slice (some ⟨b,o,none⟩) C.aG.toNat C.aG.toNat) y os.length c2 x) (cU 1 3 y c2 (os.length,os.map I)) (fJ G C.lines x C (words oN vs 0)) (hole G 8 177 (some ⟨b,o,none⟩) C.aG.toNat C.aG.toNat b o)).aHf (dC C.aG.toNat fun i=>yH b (o+i*8) (tJ (ps.getD i []) (ws.getD i 0))))
 exact d.to
end
end Go.Proofs.YtcjlkjeeifemhaaGreatDoor.A
namespace Go.Proofs.YtcjlkjeeifemhaaGreatDoor
open Go Go.Ab Go.Hm Go.At Go.Mc Go.Ct Go.Nt Go.Is
section
def cu (C:bM) (pv wv ov vv:Value):List Value:=C.enc++[pv,wv,ov,vv]
def qg (ps:List (List Ins)) (ws:List Int) (i:Nat):aX:=tJ (ps.getD i []) (ws.getD i 0)
set_option maxRecDepth 100000
variable {G:Bg} {h:AH} {L L':List HP} {Q:Value->AH->Prop} {Cf:bM} {m N:Nat} {M:cN}
def mkE (C:bM) (a1 a2 a3:Option Addr) (n c1 c2 c3:Nat):List Value:=C.enc++[.slice a1 n c1,.slice a2 n c2,.slice a3 n c3,.pointer none,.pointer none,.pointer none,.slice none 0 0]
theorem R1 {e:TypeId} {a a2:Option Addr} {c c2 q:Nat} {l:List Nat} {k:Value×AH->Prop} {N:List HP} (hb:l.length<=100) (b:Hs G h L) [p:Has (ls pE 1 e a c) L l L'] [m2:dQ (cU 1 e a2 c2 (1,[pt q 0 0])) L' N]
  (o:∀d f j,Hs G j (ls pE 1 e d f (l++[q])::N)->k (.slice d (l.length+1) f,j)):aY (iH 1 8 e h (.slice a l.length c) (.slice a2 1 c2)) k:=by
 have b:=p.of b
 have g:Hs G h (cU 1 e a2 c2 (1,[pt q 0 0])::ls pE 1 e a c l::N):=(b.perm (m2.perm.cons _)).jN
 have i:=(tO (enc:=pE) (x:=q) g).jN
 have:=rR (enc:=pE) (e:=e) (l:=l) (l2:=[q]) (a:=a) (c:=c) (a2:=a2) (c2:=c2) (bytes:=8) (k:=k) i (by simp;omega) fun d f h b=>by
  have:=o d f h b.jN.tail;rw[List.length_append,List.length_singleton];exact this
 exact this
theorem Kv {p2 p5:Nat} {pv wv ov vv:Value} {vi:List Value} {ps:List (List Ins)} {ws:List Int} (hC:Cf.Ok) (hG:Gb G) (hg:Ob G 0 mY) (α:ps.length=Cf.aG.toNat) (β:ws.length=Cf.aG.toNat) (U:∀w∈ws,0<=w/\w<=3) (P:∀p∈ps,(fO p).2=0)
  (hv:vi.length=ps.length) (ho:kU G 1 pv (vi.map fun x=>[x]).length (fun i=>(vi.map fun x=>[x]).getD i [])) (hi:∀(i:Nat) (v:Value) (p:List Ins),vi[i]?=some v->ps[i]?=some p->A.Yu G v p) (hw:A.Di G wv ws)
  (hk:∀lc lk lq a1 a2 a3 c1 c2 c3 V,lc.length=Cf.aG.toNat->lk.length=Cf.aG.toNat->lq.length=Cf.aG.toNat->Hs G V (aF p5 0 (mkE Cf a1 a2 a3 Cf.aG.toNat c1 c2 c3)::fq a1 c1 lc::W0 a2 c2 lk::Xd a3 c3 lq::nF rU lc (qg ps ws)::nF (oI G Cf) lk (fun _=>lE.new)::nF (nO Cf) lq (fun _=>Hx)::aF p2 0 (cu Cf pv wv ov vv)::L)->Dd 16 4 [] Q [(pt p2 0 0),(pt p5 0 0)] V):
  ∀(f i:Nat) (lc lk lq:List Nat) (a1 a2 a3:Option Addr) (c1 c2 c3:Nat) (h:AH),i+f=Cf.aG.toNat->lc.length=i->lk.length=i->lq.length=i->Hs G h (aF p5 0 (mkE Cf a1 a2 a3 i c1 c2 c3)::fq a1 c1 lc::W0 a2 c2 lk::Xd a3 c3 lq::nF rU lc (qg ps ws)::nF (oI G Cf) lk (fun _=>lE.new)::nF (nO Cf) lq (fun _=>Hx)::aF p2 0 (cu Cf pv wv ov vv)::L)->
  Dd 16 2 [] Q [(pt p2 0 0),(pt p5 0 0),(I Cf.aG),(I i)] h:=by
 have hc:=hC.1
 intro f
 induction f with
 |zero=>
  intro i lc lk lq a1 a2 a3 c1 c2 c3 h K J y B d
  obtain rfl:i=Cf.aG.toNat:=by omega
  exact bW (aM (aaa (hk _ _ _ _ _ _ _ _ _ _ J y B d)))
 |succ f ih=>
  intro i lc lk lq a1 a2 a3 c1 c2 c3 h K J y B d
  obtain⟨p,O,_⟩:=mU (l:=ps) (i:=i) (by omega)
  obtain⟨v,D,_⟩:=mU (l:=vi) (i:=i) (by omega)
  obtain⟨w,z,_⟩:=mU (l:=ws) (i:=i) (by omega)
  have T:=U w (List.mem_of_getElem? z)
  have S:=P p (List.mem_of_getElem? O)
  have eS:qg ps ws i=tJ p w:=by unfold qg;rw[List.getD_eq_getElem?_getD,List.getD_eq_getElem?_getD,O,z];rfl
  refine bW (aM (aad (bW (aU d fun rr h d=>aA (am p2 d rfl ?_)))))
  have d:=A.sB hw d
  refine uK d (x:=[I w]) (by simp[A.zH,z]) rfl ?_
  have d:=d.tail
  refine aA (am p2 d rfl ?_)
  have d:=pI (e:=3) (by simp) ho d
  refine uK d (x:=[v]) (by simp[D]) rfl ?_
  have d:=A.Iv (hi i v p D O) d.tail
  refine pz (i:=i) (pr:=p) (w:=w) (by omega) T hg S d fun E h d=>aH rfl (aH rfl (aT (aaa (bW ?_))))
  rw[<-eS] at d
  refine aA (gD (b:=p2) (o:=0) d (by decide) (l:=Cf.enc) rfl rfl ?_)
  refine C.Qv (C:=Cf) (core:=(i:Int)) hC (by omega) hG.lim d fun F h d=>aH rfl (aH rfl (aT (aaa (bW ?_))))
  refine aA (aA (am p2 d rfl (aA (aA (am p2 d rfl ?_)))))
  refine qb (C:=Cf) hC d fun H h d=>aH rfl (aH rfl (aT (aaa (bW ?_))))
  subst J
  refine aB (aA (am p5 d rfl (aI (c:=[pt E 0 0]) rfl (dA (W:=1) (n:=1) (c:=1) d rfl rfl rfl fun X h d=>?_))))
  refine R1 (l:=lc) (a:=a1) (c:=c1) (e:=107) (q:=E) (a2:=some X) (c2:=1) (by omega) d fun g r h d=>aB (aA (ay (b:=p5) (o:=0) d fun h d=>?_))
  refine aB (aA (am p5 d rfl (aI (c:=[pt F 0 0]) rfl (dA (W:=1) (n:=1) (c:=1) d rfl rfl rfl fun Y h d=>?_))))
  rw[<-y]
  refine R1 (l:=lk) (a:=a2) (c:=c2) (e:=110) (q:=F) (a2:=some Y) (c2:=1) (by omega) d fun j t h d=>aB (aA (ay (b:=p5) (o:=0) d fun h d=>?_))
  rw[y]
  refine aB (aA (am p5 d rfl (aI (c:=[pt H 0 0]) rfl (dA (W:=1) (n:=1) (c:=1) d rfl rfl rfl fun Z h d=>?_))))
  rw[<-B]
  refine R1 (l:=lq) (a:=a3) (c:=c3) (e:=113) (q:=H) (a2:=some Z) (c2:=1) (by omega) d fun k u h d=>aB (aA (ay (b:=p5) (o:=0) d fun h d=>?_))
  have e5:dH (dH (dH (mkE Cf a1 a2 a3 lc.length c1 c2 c3) (0+7) [.slice g (lc.length+1) r]) (0+8) [.slice j (lk.length+1) t]) (0+9) [.slice k (lq.length+1) u]=mkE Cf g j k (lc.length+1) r t u:=by rw[y,B];rfl
  rw[e5] at d
  have d:=Iw (R:=rU) (l:=lc) (q:=E) (s:=qg ps ws) (d.cF (kY lc.length E (qg ps ws lc.length)) (nF rU lc (qg ps ws)))
  rw[<-y] at d
  have d:=Iw (R:=oI G Cf) (l:=lk) (q:=F) (s:=fun _=>lE.new) (d.cF (C.gQ G F Cf lk.length lE.new) (nF (oI G Cf) lk (fun _=>lE.new)))
  have d:=Iw (R:=nO Cf) (l:=lq) (q:=H) (s:=fun _=>Hx) (d.cF (jC H Cf Hx) (nF (nO Cf) lq (fun _=>Hx)))
  rw[y] at d
  rw[B]
  exact aac (ih (lc.length+1) (lc++[E]) (lk++[F]) (lq++[H]) g j k r t u h (by omega) (by simp) (by simp;omega) (by simp;omega) d.to)
end
section
def mkF (C:bM) (a1 a2 a3:Option Addr) (n c1 c2 c3:Nat) (x y z:Value):List Value:=C.enc++[.slice a1 n c1,.slice a2 n c2,.slice a3 n c3,x,y,z,.slice none 0 0]
theorem Mj {a b:Int} {l:List Int} (h:within a b l=true):∀x∈l,a<=x/\x<=b:=by
 unfold within at h;intro x c;exact of_decide_eq_true (List.all_eq_true.1 h x c)
theorem xT {C:bM} {ps:List (List Ins)} {ws os vs:List Int} (h:wF C ps ws os vs=0):C.Ok/\ps.length=C.aG.toNat/\ws.length=C.aG.toNat/\os.length=C.bU.toNat/\vs.length=C.lines*2/\uR ps=0/\(∀w∈ws,0<=w/\w<=3)/\∀o∈os,0<=o/\o<=4:=by
 unfold wF at h;split at h;cases h;rename_i hC;split at h;cases h;rename_i c;split at h;rename_i b;exact absurd h b;rename_i b;split at h;cases h;rename_i a;have a:=Decidable.not_not.1 a;exact⟨Decidable.not_not.1 hC,by omega,by omega,by omega,by omega,Decidable.not_not.1 b,Mj a.1,Mj a.2⟩
set_option maxRecDepth 100000
variable {G:Bg} {h:AH} {L L':List HP} {Q:Value->AH->Prop} {Cf:bM} {m N:Nat} {M:cN}
theorem lu {p2 p5 hb mb:Nat} {hE:List Value} {pv wv ov vv:Value} {vs:List Int} {z:List Value} (hC:Cf.Ok) (hG:Gb G) (u:vs.length=Cf.lines*2) (q:A.Di G vv vs) (s:z[10]?=some (pt hb 0 0)) (d:hE[0]?=some (pt mb 0 0))
  (g:∀e,Hs G e (fJ G Cf.lines mb Cf (At.words oN vs 0)::aF hb 0 hE::aF p5 0 z::aF p2 0 (cu Cf pv wv ov vv)::L)->Dd 16 11 [] Q [(pt p2 0 0),(pt p5 0 0)] e):
  ∀(f i:Nat) (mem:Nat->Ln) (h:AH),i+f=vs.length->At.words oN vs 0=At.words mem (vs.drop i) i->Hs G h (fJ G Cf.lines mb Cf mem::aF hb 0 hE::aF p5 0 z::aF p2 0 (cu Cf pv wv ov vv)::L)->
  Dd 16 8 [] Q [(pt p2 0 0),(pt p5 0 0),vv,(I vs.length),(I i)] h:=by
 have p:=bM.gI hC
 intro f
 induction f with
 |zero=>
  intro i mem h k c a
  rw[List.drop_of_length_le (by omega),At.words] at c
  rw[c] at g
  exact bW (aM (aaa (g _ a)))
 |succ f t=>
  intro i mem h k c a
  obtain⟨x,r,j⟩:=mU (l:=vs) (i:=i) (by omega)
  rw[j,At.words] at c
  have a:=A.sB q a
  refine bW (aM (aad (bW (uK a (x:=[I x]) (by simp[A.zH,r]) rfl (aB (aA (am p5 a s (aB (aA (am hb a d ?_))))))))))
  exact N0 (C:=Cf) (mb:=mb) (mem:=mem) (w:=i) (v:=x) hC hG.lim a.tail (by omega) fun h a=>aT (aaa (bW (aac (t (i+1) _ h (by omega) c a))))
theorem Iy {pv wv ov vv:Value} {ps:List (List Ins)} {ws os vs:List Int} (hn:ps.length<=1000/\ws.length<1000/\os.length<1000) (hG:Gb G) (F:Ob G 0 mY) (J:A.aAg G pv wv ov vv ps ws os vs) (a:Hs G h L)
  (k1:wF Cf ps ws os vs≠0->∀u,Hs G u L->Q (.tuple ⟨[.pointer none,I (wF Cf ps ws os vs)]⟩) u)
  (k2:wF Cf ps ws os vs=0->∀m u,Hs G u (bI G Cf m (MC.new ⟨Cf,ps,ws,os,vs⟩)::L)->Q (.tuple ⟨[pt m 0 0,I 0]⟩) u):Cl Pr K 16 [.agg ⟨cu Cf pv wv ov vv⟩] h Q:=by
 refine cW (dB a fun d h a=>aA (gD (b:=d) (o:=0) a (by decide) (l:=Cf.enc) rfl rfl (aA (am d a rfl (aA (am d a rfl (aA (am d a rfl (aA (am d a rfl ?_))))))))))
 refine A.aGa (C:=Cf) hn hG.lim F J a (fun v h a=>aH rfl (aH rfl (aT (bE v (k1 v _ a.tail))))) fun v pa h a=>aH rfl (aH rfl (aT (aaa ?_)))
 obtain⟨hC,T,U,V,W,X,Y,Z⟩:=xT v
 have a:Hs G h (aF d 0 (cu Cf pv wv ov vv)::L):=a.to
 have hc:=hC.1
 obtain⟨⟨vi,hv,D,B⟩,E,y,w⟩:=J
 refine bW (aA (gD (b:=d) (o:=0) a (by decide) (l:=Cf.enc) rfl rfl (aI (c:=mkE Cf none none none 0 0 0 0) rfl (dB a fun k h a=>aA (aA (am d a rfl ?_))))))
 have a:=Ig (R:=nO Cf) (s:=fun _=>Hx) a
 have a:=Ig (R:=oI G Cf) (s:=fun _=>lE.new) a
 have a:=Ig (R:=rU) (s:=qg ps ws) a
 have a:=qZ (enc:=pE) (e:=107) a
 have a:=qZ (enc:=pE) (e:=110) a
 have a:=qZ (enc:=pE) (e:=113) a
 refine Kv (L:=L) (ov:=ov) (vv:=vv) (Cf:=Cf) hC hG F T U Y (A.zN X) hv D B E ?_ Cf.aG.toNat 0 [] [] [] none none none 0 0 0 h (by omega) rfl rfl rfl a.to
 intro lc lk lq p r a3 t c2 c3 h O P S a
 refine bW (aA (gD (b:=d) (o:=0) a (by decide) (l:=Cf.enc) rfl rfl ?_))
 refine H.bp (C:=Cf) hC hG.lim a fun f h a=>aH rfl (aH rfl (aB (aA (ay (b:=k) (o:=0) a fun h a=>aT (aaa ?_)))))
 have e8:dH (mkE Cf p r a3 Cf.aG.toNat t c2 c3) (0+10) [pt f 0 0]=mkF Cf p r a3 Cf.aG.toNat t c2 c3 (pt f 0 0) (.pointer none) (.pointer none):=rfl
 rw[e8] at a
 obtain⟨j,b,o,g,a⟩:=H.oA (a.front (H.fP G f Cf (qX Cf.lines)))
 have em:(fun i=>(qX Cf.lines i).2)=oN:=by
  funext i;unfold qX oN;split<;>rfl
 rw[em] at a
 have a:=a.mB (fJ G Cf.lines j Cf oN) (aF f 0 (H.lF j Cf b o g)) (aF k 0 (mkF Cf p r a3 Cf.aG.toNat t c2 c3 (pt f 0 0) (.pointer none) (.pointer none))) (aF d 0 (cu Cf pv wv ov vv))
 refine bW (aA (am d a rfl (R6 w ?_)))
 refine lu (Cf:=Cf) (p2:=d) (p5:=k) (hb:=f) (mb:=j) (hE:=H.lF j Cf b o g) (z:=mkF Cf p r a3 Cf.aG.toNat t c2 c3 (pt f 0 0) (.pointer none) (.pointer none)) hC hG W w rfl rfl ?_ vs.length 0 oN h (by omega) rfl a
 intro h a
 have a:=H.sH (H:=MC.home ⟨Cf,ps,ws,os,vs⟩) (hb:=f) (C:=Cf) (mb:=j) (b:=b) (o:=o) (cap:=g) (a.mB (aF f 0 (H.lF j Cf b o g)) (fJ G Cf.lines j Cf (At.words oN vs 0)) (hole G 25 230 (some ⟨b,o,none⟩) g Cf.lines b o) (dC Cf.lines fun i=>H.eC b (o+i*25) (qX Cf.lines i).1))
 refine bW (aA (aA (am d a rfl (aA (am d a rfl ?_)))))
 refine o6 (C:=Cf) hC y V Z a fun q h a=>aH rfl (aH rfl (aB (aA (ay (b:=k) (o:=0) a fun h a=>aT (aaa (bW ?_))))))
 refine aA (gD (b:=d) (o:=0) a (by decide) (l:=Cf.enc) rfl rfl ?_)
 refine np (C:=Cf) hC hG.lim a fun fb h a=>aH rfl (aH rfl (aB (aA (ay (b:=k) (o:=0) a fun h a=>aT (aaa (k2 v _ _ ?_))))))
 have a:=qZ (enc:=Ev.enc) (e:=24) a
 have e9:dH (dH (mkF Cf p r a3 Cf.aG.toNat t c2 c3 (pt f 0 0) (.pointer none) (.pointer none)) (0+11) [pt q 0 0]) (0+12) [pt fb 0 0]=eQ Cf ⟨lc,lk,lq,p,r,a3,none,t,c2,c3,0,f,q,fb⟩ 0:=by
  unfold eQ;dsimp only;rw[O,P,S];rfl
 rw[e9] at a
 have a:Hs G h (bI G Cf k (⟨qg ps ws,fun _=>lE.new,fun _=>Hx,MC.home ⟨Cf,ps,ws,os,vs⟩,⟨sW os,fun _=>none⟩,fun _ _=>[],[]⟩:cN)::L):=(bB (m:=k) (x:=⟨lc,lk,lq,p,r,a3,none,t,c2,c3,0,f,q,fb⟩) (⟨qg ps ws,fun _=>lE.new,fun _=>Hx,MC.home ⟨Cf,ps,ws,os,vs⟩,⟨sW os,fun _=>none⟩,fun _ _=>[],[]⟩:cN) ⟨O,P,S⟩ a).to
 exact a
end
end Go.Proofs.YtcjlkjeeifemhaaGreatDoor
end
namespace Go.Proofs.YtcjlkjeeifemhaaGreatDoor
open Go Go.Ab Go.Hm Go.At Go.Mc Go.Ct Go.Nt Go.Is
section
theorem aGx {g:FuncId} {a b:Array Value} {k:Value->Prop} (c:k (.bool false)):aY (Sb .eql (.func (.func g) a b) .nilFunc) k:=⟨_,rfl,c⟩
set_option maxRecDepth 100000
attribute [local irreducible] aY Br oM tU tZ Bj kK tW jJ Oy gO lN oP nQ nD iK vN tD I5 Q2 Nf M1 Sb Nl J1 Nj Pc kA mM qI iH copyV gW uU S4 S7 Fa jD Le O1 Ta lS oS wJ yB Cl yG Rz qY qM iP eP cI bS
variable {G:Bg} {h:AH} {L L':List HP} {Q:Value->AH->Prop} {Cf:bM} {m N:Nat} {M:cN}
theorem aEu {C:bM} {pv wv ov vv:Value} {ps:List (List Ins)} {ws os vs:List Int} (R:ps.length<=9223372036854775807) (z:A.aAg G pv wv ov vv ps ws os vs) (a:Hs G h L)
  (F:ps.length<=6/\ws.length<=6/\os.length<=20/\vs.length<=80->∀g,Hs G g L->Q (.bool true) g) (r:∀g,Hs G g L->Q (.bool false) g):Cl Pr K 38 [.agg ⟨cu C pv wv ov vv⟩] h Q:=by
 obtain⟨⟨O,D,j,t⟩,w,s,u⟩:=z
 have lp:∀{k:Value->Prop},k (I ps.length)->aY (iK pv) k:=fun d=>A.uQ j (by simpa [D] using d)
 have lw:∀{k:Value->Prop},k (I ws.length)->aY (iK wv) k:=fun d=>R6 w d
 have H:∀{k:Value->Prop},k (I os.length)->aY (iK ov) k:=fun d=>R6 s d
 have J:∀{k:Value->Prop},k (I vs.length)->aY (iK vv) k:=fun d=>R6 u d
 refine cW (dB a fun c h a=>?_)
 have loop:∀(f i:Nat) (h:AH),i+f=ps.length->Hs G h (aF c 0 (cu C pv wv ov vv)::L)->Dd 38 1 [] Q [(pt c 0 0),(I i)] h:=by
  intro f;induction f with
  |zero=>
   intro i h y a;refine bW (aA (am c a (v:=pv) rfl (lp (aM (aaa (aA (am c a (v:=pv) rfl (lp (sN (aQ (fun g1=>?_) (fun g1=>r _ a.tail)))))))))));refine aA (am c a (v:=wv) rfl (lw (sN (aQ (fun g2=>?_) (fun g2=>r _ a.tail)))));refine aA (am c a (v:=ov) rfl (H (sN (aQ (fun g3=>?_) (fun g3=>r _ a.tail)))));refine aA (am c a (v:=vv) rfl (J (sN ?_)));by_cases g4:(vs.length:Int)<=80;rw[decide_eq_true g4];exact F ⟨by omega,by omega,by omega,by omega⟩ _ a.tail;rw[decide_eq_false g4];exact r _ a.tail
  |succ f E=>
   intro i h y a;obtain⟨p,B,P⟩:=mU (l:=ps) (i:=i) (by omega);obtain⟨v,q,_⟩:=mU (l:=O) (i:=i) (by omega);refine bW (aA (am c a (v:=pv) rfl (lp (aM (aad (bW (aA (am c a (v:=pv) rfl ?_))))))));refine uK (pI (e:=3) (by simp) j a) (x:=[v]) (by simp[q]) rfl (A.uQ (t i v p q B) (gZ (aQ (fun _=>r _ a.tail) (fun _=>bW (aac (E (i+1) h (by omega) a))))))
 exact loop ps.length 0 h (by omega) a
def veR (q:Nat) (a:Option Addr) (c:Nat) (l:List Ev):HP:=sp [aF q 0 [.slice a l.length c],vH a c l]
theorem aJx {q c:Nat} {a:Option Addr} {l:List Ev} (hb:l.length<=100000):ez Pr K G 136 [] [pt q 0 0] (veR q a c l) (l.map fun n=>[.agg ⟨n.enc⟩]):=by
 intro k J y L h Q d B s t;have d:=d.Bq;have g:∀{h:AH} {M:List HP},Hs G h (aF q 0 [.slice a l.length c]::vH a c l::M)->Hs G h (veR q a c l::M):=fun d=>d.A9;refine cW (am q d rfl (bH ?_));have loop:∀(f i:Nat) (h:AH),i+f=l.length->Hs G h (aF q 0 [.slice a l.length c]::vH a c l::k ((l.drop i).map fun n=>[.agg ⟨n.enc⟩])::L)->Dd 136 1 [] Q [y,(.slice a l.length c),(I l.length),(I i)] h:=by
  intro f;induction f with
  |zero=>
   intro i h w d;rw[List.drop_of_length_le (by omega)] at d;exact bW (aM (aaa (s _ _ (g d))))
  |succ f D=>
   intro i h w d;obtain⟨x,A,u⟩:=mU (l:=l) (i:=i) (by omega);rw[u,List.map_cons] at d;refine bW (aM (aad (bW (qC (l:=l) (a:=a) (c:=c) (enc:=Ev.enc) (e:=24) d (by decide) (by omega) (by rw[Int.toNat_natCast];exact A) (bG d fun p h d=>ax (b:=p) d fun h d=>an p d (l:=x.enc) rfl rfl ?_)))));refine(B _ _ h _ (d.front (k ([.agg ⟨x.enc⟩]::((l.drop (i+1)).map fun n=>[.agg ⟨n.enc⟩]))))).mono fun v r z=>?_;rcases z with⟨rfl,j⟩|⟨rfl,j⟩;exact bT (bX (bW (aac (D (i+1) r (by omega) j.to))));exact bT (eN (t _ _ (g j.to)))
 exact loop l.length 0 h (by omega) (by rw[List.drop_zero];exact d)
abbrev evX (p:Nat) (e:Nat->Value) (d l:Nat) (done:List Ev):HP:=tV fun x:Option Addr×Nat=>sp [kE Pr 18 (kI 250) 20 e d l (.ready,none),aF p 0 [.slice x.1 done.length x.2],vH x.1 x.2 done]
theorem Xt (k:M.log.length<2000) (f:Hs G h L) [D:Has (bI G Cf m) L M L'] (w:∀a c j,Hs G j (vH a c M.log::bI G Cf m M::L')->Q (.slice a M.log.length c) j):Cl Pr K 18 [pt m 0 0] h Q:=by
 obtain⟨y,B,f⟩:=cJ (D.of f);refine cW ?_;refine cW (cS (bX (aB (aA (am m f rfl ?_)))));refine cW (dB f fun q h f=>?_);refine aGx (bX (bW (bG f fun p h f=>jM f fun d h f=>?_)));intro e u;refine lY f fun l h f=>rL rfl ?_;have f:=qZ (enc:=Ev.enc) (e:=24) f;have f:Hs G h (veR q y.al y.cl M.log::evX p e d l []::mk d ()::aF m 0 (eQ Cf y M.log.length)::fq y.ac y.cc y.lc::W0 y.ak y.ck y.lk::Xd y.aq y.cq y.lq::
  nF rU y.lc M.bJ::nF (oI G Cf) y.lk M.cX::nF (nO Cf) y.lq M.cL::H.fP G y.hb Cf M.home::fD Cf y.mb M.dS::lU Cf y.fb M.jT::L'):=by
  have f:=(f.cF (aF q 0 [.slice y.al M.log.length y.cl]) (vH y.al y.cl M.log)).A9
  have f:Hs G h (veR q y.al y.cl M.log::_):=f
  have f:=(f.cK (kE Pr 18 (kI 250) 20 e d l (.ready,none)) (aF p 0 [.slice none 0 0]) (vH none 0 [])).Gn
  have f:=Hs.vA (A:=fun x:Option Addr×Nat=>sp [kE Pr 18 (kI 250) 20 e d l (.ready,none),aF p 0 [.slice x.1 ([]:List Ev).length x.2],vH x.1 x.2 []]) (none,0) f
  exact f.to
 refine(aJx (q:=q) (a:=y.al) (c:=y.cl) (l:=M.log) (by omega)).fold (X:=fun done=>evX p e d l done) (Z:=fun _ _=>uH False) f ?_ ?_ ?_
 .intro done x h T r f;have t:done.length<1999:=by have:=r.length_le;simp at this;omega
  obtain⟨⟨a,c⟩,f⟩:=f.yP;have f:=f.wP;refine rW (rK f) u (bG f fun p1 h f=>ax (b:=p1) f fun h f=>gS f fun h f=>am p f rfl (an p1 f (l:=x.enc) rfl rfl (aI (c:=x.enc) rfl (dA (W:=7) (n:=1) (c:=1) f rfl rfl rfl fun E h f=>?_))));have f:=tO (enc:=Ev.enc) (x:=x) f;refine H5 (l:=done) (v:=x) (a:=a) (c:=c) (by omega) f fun g i h f=>ax (b:=p) f fun h f=>am p f rfl (bH (dE (aJ (by simp;omega) (gV f fun h f=> .inl ⟨rfl,?_⟩))));have f:=(f.cK (kE Pr 18 (kI 250) 20 e d l (.ready,none)) (aF p 0 [.slice g (done++[x]).length i]) (vH g i (done++[x]))).Gn;exact(Hs.vA (A:=fun z:Option Addr×Nat=>sp [kE Pr 18 (kI 250) 20 e d l (.ready,none),aF p 0 [.slice z.1 (done++[x]).length z.2],vH z.1 z.2 (done++[x])]) (g,i) f).to
 intro v h f;obtain⟨⟨a,c⟩,f⟩:=(f.front (evX p e d l M.log)).yP;have f:=f.wP;have f:=(f.front (veR q y.al y.cl M.log)).Bq;refine mC f fun h f=>lT (am p f rfl (kN f fun h f=>iF (w a c _ ?_)));exact(bB (m:=m) (x:=y) M B f).to
 .intro done x v h r f;obtain⟨s,_⟩:=(f.front (uH False)).jr;exact s.elim
end
section
theorem ly {C:bM} {ps:List (List Ins)} {ws os vs:List Int} (h:wF C ps ws os vs=0):∀i:Nat,(i:Int)<C.aG->(qg ps ws i).Ok:=by
 obtain⟨hC,g,j,k,l,c,o,p⟩:=xT h;intro i q;have b:i<ps.length:=by omega
 have e:ps.getD i []∈ps:=by rw[List.getD_eq_getElem?_getD,List.getElem?_eq_getElem b];exact List.getElem_mem _
 have a:=A.zN c _ e;have d:=A.P5 a;refine⟨show(0:Int)<=0 by decide,show(0:Int)<=32 by decide,rfl,d,fun x f=>?_⟩;unfold fO at a;rw[aab] at a;exact bh _ _ a x f
theorem aCr {C:bM} {ps:List (List Ins)} {ws os vs:List Int} (h:wF C ps ws os vs=0):eK C 0 (MC.new ⟨C,ps,ws,os,vs⟩):=by
 obtain⟨hC,s,t,a,u,v,y,b⟩:=xT h;refine⟨⟨?_,?_,fun g r p=>by cases p⟩,ly h,fun i d=>zj,fun i d=>⟨?_,?_⟩,fun l f=>?_,⟨fun c w=>?_,fun c w n j=>by cases j⟩,Nat.le_refl 0⟩;show(os.map fun o=>(⟨o,false⟩:kR)).length=_;rw[List.length_map];exact a;intro x q;obtain⟨o,k,rfl⟩:=List.mem_map.1 q;exact b o k;show((0:Nat):Int)<=C.entries;have:1<=C.entries:=by unfold bM.Ok at hC;omega
 omega;show(0:Int)<=0/\(0:Int)<C.bU;have:=hC.2.1.1;omega;have e:((MC.new ⟨C,ps,ws,os,vs⟩).home l).1=Ee:=by
  show(qX C.lines l).1=Ee;unfold qX;rw[aNa f]
 rw[e];exact⟨aK2 l,Nat.zero_le _⟩;show((0:Nat):Int)<=C.depth;have:1<=C.depth:=hC.2.2.2.2.1.1;omega
theorem Sq {C:bM} {ps:List (List Ins)} {ws os vs:List Int} (h:wF C ps ws os vs=0):Mc.cj C (qg ps ws) 0 (MC.new ⟨C,ps,ws,os,vs⟩):=
 ⟨aCr h,⟨(fun g c a=>by cases a),(fun g b c a=>by cases a)⟩,fun i d=>rfl⟩
theorem tf {a b:Ev} {k:Value->Prop} (c:k (.bool (decide (a≠b)))) {c0:Bool} (hc:c0=true:=by kernel_rfl):Nj c0 [0,0,0,0,0,0,0] .neq (.agg ⟨a.enc⟩) (.agg ⟨b.enc⟩) k:=by
 refine⟨hc,_,?_,c⟩;cases a;cases b;simp[J1,oX,V2,Uo,Ev.enc];rw[Bool.eq_iff_iff];simp
set_option maxRecDepth 100000
attribute [local irreducible] aY Br oM tU tZ Bj kK tW jJ Oy gO lN oP nQ nD iK vN tD I5 Q2 Nf M1 Sb Nl J1 Nj Pc kA mM qI iH copyV gW uU S4 S7 Fa jD Le O1 Ta lS oS wJ yB Cl yG Rz qY qM iP eP cI bS
variable {G:Bg} {h:AH} {L L':List HP} {Q:Value->AH->Prop} {Cf:bM} {m N:Nat} {M:cN}
def Hn (G:Bg) (v:Value) (l:List Do):Prop:=kU G 4 v (l.map Do.enc).length (fun i=>(l.map Do.enc).getD i [])
theorem Si {v:Value} {l:List Do} (a:Hn G v l) (b:Hs G h L):Hs G h (qU G 4 52 v (l.map Do.enc)::L):=pI (by simp[Do.enc]) a b
theorem Jb {v:Value} {l:List Do} {k:Value->Prop} (b:Hn G v l) (a:k (I l.length)):aY (iK v) k:=A.uQ b (by rw[List.length_map];exact a)
theorem uu {d:Do} {a:Addr} {c:Nat} {k:Value->AH->Prop} (hC:Cf.Ok) (hG:Gb G) (f:eK Cf N M) (i:N<=2^28) (b:Hs G h (cU 4 52 (some a) c (1,d.enc)::bI G Cf m M::L))
  (g:∀e,Hs G e (bI G Cf m (M.vJ Cf d).1::L)->k (.tuple ⟨[I (M.tH Cf [d] 0).2.1,I (M.tH Cf [d] 0).2.2]⟩) e):Cl Pr K 17 [pt m 0 0,.slice (some a) 1 c] h k:=by
 have b:=su (l:=[d].map Do.enc) (n:=1) (cs:=d.enc) (by simp[Do.enc]) rfl (by simp) b
 refine aFw (l:=[d]) (v:= .slice (some a) 1 c) hC hG f (by simp;omega) b fun h b=>g h ?_
 rw[wg] at b
 exact b.tail
end
end Go.Proofs.YtcjlkjeeifemhaaGreatDoor
section
open Go Go.Ab
attribute [local irreducible] aY Br oM tU tZ Bj kK tW jJ Oy gO lN oP nQ nD iK vN tD I5 Q2 Nf M1 Sb Nl J1 Nj Pc kA mM qI iH copyV gW uU S4 S7 Fa jD Le O1 Ta lS oS wJ yB Cl yG Rz qY qM iP eP cI bS
namespace Go.Proofs.YtcjlkjeeifemhaaGreatDoor
open Go Go.Ab Go.Hm Go.At Go.Mc Go.Ct Go.Nt Go.Is Go.Sc
section
def jK (C:bM) (ps:List (List Ins)) (ws os vs:List Int) (dl:List Do):Int:=if wF C ps ws os vs≠0 then wF C ps ws os vs else Bk dl
structure ScA (G:Bg) (pv wv ov vv dv:Value) (ps:List (List Ins)) (ws os vs:List Int) (dl:List Do):Prop where
 old:A.aAg G pv wv ov vv ps ws os vs
 Y1:Hn G dv dl
 pr:∀p∈ps,∀x∈p,x.fU
 wr:∀w∈ws,fU w
 vr:∀v∈vs,fU v
 dr:∀d∈dl,doR d
structure j9 (ps:List (List Ins)) (ws os vs:List Int) (dl:List Do):Prop where
 p:ps.length<=6
 w:ws.length<=6
 o:os.length<=20
 v:vs.length<=80
 d:dl.length<=500
set_option maxRecDepth 100000
variable {G:Bg} {h:AH} {L L':List HP} {Q:Value->AH->Prop} {C:bM} {pv wv ov vv dv:Value} {ps:List (List Ins)} {ws os vs:List Int} {dl:List Do}
theorem aD8 (f:j9 ps ws os vs dl) (hG:Gb G) (i:Ob G 0 mY) (hA:ScA G pv wv ov vv dv ps ws os vs dl) (a:Hs G h L) (c:∀g,Hs G g L->Q (I (jK C ps ws os vs dl)) g):
  Cl Pr K 55 [.agg ⟨qV C pv wv ov vv dv⟩] h Q:=by
 have q:=f.p
 have r:=f.w
 have k:=f.o
 have j:=f.d
 unfold jK at c
 refine cW (dB (cs:=qV C pv wv ov vv dv) a fun p h a=>aA (gD (b:=p) (o:=0) a (by decide) (l:=cu C pv wv ov vv) rfl rfl ?_))
 refine Iy (Cf:=C) (by omega) hG i hA.old a (fun d h a=>?_) fun d m h a=>?_
 .rw[aNa d] at c;exact aH rfl (aH rfl (aT (bE d (c h a.tail))))
 .rw[aN9 (fun e=>e d)] at c;refine aH rfl (aH rfl (aT (aaa (bW (aA (am p a (v:=dv) rfl (Jb hA.Y1 (gZ (aaa (bW (aA (am p a (v:=dv) rfl (Jb hA.Y1 ?_)))))))))))));exact Uk (L:=bI G C m (MC.new ⟨C,ps,ws,os,vs⟩)::aF p 0 (qV C pv wv ov vv dv)::L) (by have:=hA.Y1;unfold Hn at this;rwa [List.length_map] at this) (by omega) (fun h a=>c h a.tail.tail) dl.length 0 h (by omega) rfl a
theorem Zj (g:j9 ps ws os vs dl) (hG:Gb G) (S:Ob G 0 mY) (hA:ScA G pv wv ov vv dv ps ws os vs dl) (c:Hs G h L)
  (X:jK C ps ws os vs dl≠0->∀k,Hs G k L->Q (.tuple ⟨[tx [],I (jK C ps ws os vs dl)]⟩) k) (Y:jK C ps ws os vs dl=0->∀k,Hs G k L->Q (.tuple ⟨[tx (xz C os vs (ws.zip ps) dl),I 0]⟩) k):
  Cl Pr K 20 [.agg ⟨qV C pv wv ov vv dv⟩] h Q:=by
 have hp:=g.p
 have hw:=g.w
 have ho:=g.o
 have r:=g.v
 have hd:=g.d
 obtain⟨⟨J,V,D,B⟩,H,z,E⟩:=id hA.old
 have s:jK C ps ws os vs dl=0->wF C ps ws os vs=0:=fun e=>by
  unfold jK at e;by_cases w:wF C ps ws os vs=0;exact w;rw[aNa w] at e;exact absurd e w
 have O:wF C ps ws os vs=0->J.length=(ws.zip ps).length/\(ws.zip ps).map (·.1)=ws:=fun e=>by
  obtain⟨hC,O,e2,_⟩:=xT e;refine⟨by rw[List.length_zip];omega,?_⟩;exact List.map_fst_zip (by omega)
 have u:∀{i:Nat} {x:Int×List Ins},(ws.zip ps)[i]?=some x->ps[i]?=some x.2:=fun {i x} f=>by
  have:=List.getElem?_zip_eq_some.1 f;exact this.2
 have d:wF C ps ws os vs=0->∀p∈ps,(Al p).2=0/\(Al p).1=hQ p/\(hQ p).length<=5000:=fun e p o=>by
  obtain⟨_,_,_,_,_,U,_⟩:=xT e;have R:=A.zN U p o;obtain⟨hl,t⟩:=Is.jS R;have ht:=P.zW (p:=p) fun x f=>⟨qk (t x f),hA.pr p o x f⟩;unfold Al;rw[aNa R];exact⟨rfl,rfl,by omega⟩
 refine Ly (e:=jK C ps ws os vs dl) (os:=os) (vs:=vs) (vi:=J) (l:=ws.zip ps) (dl:=dl) (fun c y=>aD8 g hG S hA c y) (fun e=>?_) (fun e i v x F f h L Q c y=>?_) c X Y
 .have j:=s e;obtain⟨hC,n1,n2,n3,n4,n5,n6,n7⟩:=xT j;obtain⟨Z,z2⟩:=O j;have W:(ws.zip ps).length<=6:=by rw[List.length_zip];omega
  refine⟨?_,fun v r=>Jr (by have:=n7 v r;omega),hA.vr,by omega,by omega,Z,by omega,fun x f=>?_,hA.dr,by omega,?_,?_,?_,?_,?_⟩
  .intro v r;unfold bM.Ok at hC;simp only[Su,List.mem_cons,List.not_mem_nil,or_false] at r;exact Jr (by rcases r with rfl|rfl|rfl|rfl|rfl|rfl|rfl<;>omega)
  .obtain⟨a,b⟩:=x;have:=List.of_mem_zip f;exact⟨hA.wr a this.1,(d j b this.2).2.2⟩
  .have:=z;unfold A.Di A.zH at this;rwa [List.length_map] at this
  .have:=E;unfold A.Di A.zH at this;rwa [List.length_map] at this
  .exact D
  .rw[z2];have:=H;unfold A.Di A.zH at this;rwa [List.length_map] at this
  .have:=hA.Y1;unfold Hn at this;rwa [List.length_map] at this
 .have j:=s e;have q:=u f;have t:=List.mem_of_getElem? q;obtain⟨T,c2,_⟩:=d j x.2 t;have c:=A.Iv (B i v x.2 F q) c;refine P.Ly (p:=x.2) (hA.pr x.2 t) S c fun h c=>?_;rw[T,c2];exact y h c.tail
end
end Go.Proofs.YtcjlkjeeifemhaaGreatDoor
end
section
namespace Go.Ab
open Go Go.RowKit Go.ChangeShapes Go.WideShapes Go.ChangeAt
theorem Nc {P:Program} {H:Type} {enc:TypeId×Value->H} {W:World} {t:TypeId} {fs:Array Field} {i:Nat} {f:Field} {l:List Value} {d:DataW H} {p:List MemPlace} (o:P.underlying t=some (.struct fs)) (g:fs[i]?=some f)
  (h:DataW.Trod enc P W 0 (fun _=>true) true t (.agg ⟨l⟩) d p):∃k r,DataW.Trod enc P W 0 (fun _=>true) true f.type (.agg ⟨(l.drop f.offset).take (P.cellsOf f.type)⟩) k r:=by
 obtain⟨fuel,b⟩:=h
 obtain⟨e,m,_,_,s,q,a⟩:=DataW.trod_struct o b
 have j:=a i f g
 have c:i<e.length:=by rw[q];exact(Array.getElem?_eq_some_iff.1 g).1
 rw[List.getElem?_eq_getElem c] at j
 exact⟨(e[i]).1,(e[i]).2,m,by simpa [Value.cells] using j⟩
end Go.Ab
namespace Go.Proofs.YtcjlkjeeifemhaaGreatDoor
open Go Go.Ab Go.Hm Go.Is Go.At Go.Mc Go.Sc Go.RowKit
noncomputable def aM2 (B:Nat) (hB:12<=B):Ctx Pr B K:=(aIw B hB).add 12 (.bool true) rfl fun _w a=>W8 a
theorem aIi:_root_.Go.Proofs.YtcjlkjeeifemhaaGreatDoor.gA=Go.Hm.gA:=by kernel_rfl
theorem aIy:_root_.Go.Proofs.YtcjlkjeeifemhaaGreatDoor.mY=Go.Is.mY:=by kernel_rfl
theorem aIv:_root_.Go.Proofs.YtcjlkjeeifemhaaGreatDoor.s9=Go.Nt.xR:=by kernel_rfl
theorem aJ4:_root_.Go.Proofs.YtcjlkjeeifemhaaGreatDoor.ug=Go.Ct.iW:=by kernel_rfl
theorem own:ownKnob Tryz.prog.godebug=none:=by kernel_rfl
theorem laidOut:laidOutB Tryz.prog=true:=by kernel_rfl
theorem aM7:Tryz.prog.globalNamed "donjon/isa.ops"=some 0:=by kernel_rfl
theorem aKo:Tryz.prog.globalNamed "donjon/place.limits"=some 1:=by kernel_rfl
theorem aKr:Tryz.prog.globalNamed "donjon/note.kinds"=some 3:=by kernel_rfl
theorem aLm:Tryz.prog.globalNamed "donjon/moesi.rows"=some 5:=by kernel_rfl
theorem aLp:Tryz.prog.globalNamed "strconv.ErrSyntax"=some 8:=by kernel_rfl
theorem aM0:Tryz.prog.globalNamed "strconv.ErrRange"=some 9:=by kernel_rfl
theorem aKy:Tryz.prog.globalNamed "math/bits.deBruijn64tab"=some 11:=by kernel_rfl
theorem aEh {W:World} {l:List (String×DataW Unit)} (a:(l.all fun x=>x.2.handleName?.isNone)=true) (h:laidMetH Tryz.prog l W) (m0:("donjon/isa.ops",Rows.laid_donjon_isa_ops)∈l) (m1:("donjon/place.limits",Rows.laid_donjon_place_limits)∈l) (m2:("donjon/note.kinds",Rows.laid_donjon_note_kinds)∈l) (m3:("donjon/moesi.rows",Rows.laid_donjon_moesi_rows)∈l)
  (m4:("internal/strconv.uint64pow10",Rows.laid_internal_strconv_uint64pow10)∈l) (m5:("strconv.ErrSyntax",Rows.laid_strconv_ErrSyntax)∈l) (m6:("strconv.ErrRange",Rows.laid_strconv_ErrRange)∈l) (m11:("math/bits.deBruijn64tab",Rows.laid_math_bits_deBruijn64tab)∈l):Gl W:=by
 obtain⟨c,d,b⟩:=pR (l:=((F2 Tryz.prog 8 543 (Rows.laid_math_bits_deBruijn64tab (H:=Unit))).getD [])) 8 a h m11 aKy (t:=543) (by kernel_rfl) (by kernel_rfl)
 exact⟨pR (l:=mY) 8 a h m0 aM7 (t:=252) (by kernel_rfl) (by kernel_rfl),pR (l:=gA) 8 a h m1 aKo (t:=282) (by kernel_rfl) (by kernel_rfl),pR (l:=s9) 8 a h m2 aKr (t:=471) (by kernel_rfl) (by kernel_rfl),
    pR (l:=ug) 8 a h m3 aLm (t:=509) (by kernel_rfl) (by kernel_rfl),pR (l:=aIo) 8 a h m4 aId (t:=498) (by kernel_rfl) (by kernel_rfl),I7 a h m5 aLp (t:=143) (by kernel_rfl) Tryz.underlying143,I7 a h m6 aM0 (t:=143) (by kernel_rfl) Tryz.underlying143,(Array.getElem?_eq_some_iff.1 b).1⟩
abbrev i7:List (Option IntKind):=[some .i64,some .i64,some .i64,some .i64,some .i64,some .i64,some .i64]
abbrev i4:List (Option IntKind):=[some .i64,some .i64,some .i64,some .i64]
abbrev i1:List (Option IntKind):=[some .i64]
theorem aBm:tF Tryz.prog 8 32=some i7:=by kernel_rfl
theorem aB5:tF Tryz.prog 8 155=some i4:=by kernel_rfl
theorem Q0:tF Tryz.prog 8 3=some i1:=by kernel_rfl
theorem aHh:tF Tryz.prog 8 52=some i4:=by kernel_rfl
theorem qo:Tryz.prog.cellsOf 155=i4.length:=by kernel_rfl
theorem Lf:Tryz.prog.cellsOf 3=i1.length:=by kernel_rfl
theorem aCa:Tryz.prog.cellsOf 52=i4.length:=by kernel_rfl
theorem yj:Tryz.prog.cellsOf 32=7:=by kernel_rfl
theorem Ry:Tryz.prog.cellsOf 28=1:=by kernel_rfl
theorem x7:Tryz.prog.cellsOf 75=1:=by kernel_rfl
theorem zz:Tryz.prog.cellsOf 33=1:=by kernel_rfl
theorem zy:Tryz.prog.cellsOf 36=1:=by kernel_rfl
theorem pw:Tryz.prog.cellsOf 35=11:=by kernel_rfl
theorem xk:Tryz.prog.cellsOf 38=12:=by kernel_rfl
theorem sw {l:List Value} (t:Flat i7 l):∃a b c d e f g:Int,l=[I a,I b,I c,I d,I e,I f,I g]:=by
 obtain⟨a,B,i,u⟩:=tE t;obtain⟨b,D,j,v⟩:=tE u;obtain⟨c,E,k,w⟩:=tE v;obtain⟨d,F,o,x⟩:=tE w;obtain⟨e,H,p,y⟩:=tE x;obtain⟨f,J,q,z⟩:=tE y;obtain⟨g,K,r,A⟩:=tE z;have s:=Km A;subst s r q p o k j i;exact⟨a,b,c,d,e,f,g,rfl⟩
theorem cf {l:List Value} (g:Flat i4 l):∃a b c d:Int,l=[I a,I b,I c,I d]/\fU a/\fU b/\fU c/\fU d:=by
 obtain⟨e,m1,f1,i,g1⟩:=wI g;obtain⟨f,m2,f2,j,g2⟩:=wI g1;obtain⟨a3,m3,f3,k,g3⟩:=wI g2;obtain⟨a4,m4,f4,o,g4⟩:=wI g3;have f5:=Km g4;subst f5 f4 f3 f2 f1;exact⟨e,f,a3,a4,rfl,wf_i64 i,wf_i64 j,wf_i64 k,wf_i64 o⟩
theorem aD1 {l:List Value} (f:Flat i4 l):∃x:Ins,l=x.enc/\x.fU:=by
 obtain⟨a,b,c,d,e,_,g,i,j⟩:=cf f;exact⟨⟨a,b,c,d⟩,e,g,i,j⟩
theorem aG7 {l:List Value} (f:Flat i4 l):∃x:Do,l=x.enc/\doR x:=by
 obtain⟨a,b,c,d,e,h⟩:=cf f;exact⟨⟨a,b,c,d⟩,e,h⟩
theorem Z7 {l:List Value} (b:Flat i1 l):∃x:Int,l=[I x]/\fU x:=by
 obtain⟨a,m1,f1,c,g1⟩:=wI b;have f2:=Km g1;subst f2 f1;exact⟨a,rfl,wf_i64 c⟩
theorem aEr {l:List Value} (h:l.length=11) {a b c d:Value} (j:l[7]?=some a) (k:l[8]?=some b) (o:l[9]?=some c) (f:l[10]?=some d):l=l.take 7++[a,b,c,d]:=by
 apply List.ext_getElem?;intro i;by_cases p:i<7;rw[List.getElem?_append_left (by simp;omega),List.getElem?_take_of_lt p];rw[List.getElem?_append_right (by simp;omega)];have e:(l.take 7).length=7:=by simp;omega
 rw[e];by_cases g:i<11;have:i=7\/i=8\/i=9\/i=10:=by omega
 rcases this with rfl|rfl|rfl|rfl;exact j;exact k;exact o;exact f;rw[List.getElem?_eq_none (by omega),List.getElem?_eq_none (by simp;omega)]
set_option maxRecDepth 100000 in
theorem me {H:Type} {enc:TypeId×Value->H} {W:World} {l:List Value} {d:DataW H} {p:List MemPlace} (K:l.length=11) (h:DataW.Trod enc Tryz.prog W 0 (fun _=>true) true 35 (.agg ⟨l⟩) d p):
  ∃(C:bM) (q:Option Addr) (k u:Nat) (s:Option Addr) (z cW:Nat) (o:Option Addr) (x t:Nat) (r:Option Addr) (y v:Nat),l=C.enc++[.slice q k u,.slice s z cW,.slice o x t,.slice r y v]/\k<=maxLen/\Er i4 W q k u/\lL i1 W s z cW/\lL i1 W o x t/\lL i1 W r y v:=by
 have j:=Tryz.underlying35
 have w:=Jg (i:=0) (n:=8) j rfl aBm h
 obtain⟨q,k,u,F,O,hP⟩:=Lm (i:=1) (n:=8) j rfl Tryz.underlying33 Tryz.underlying75 zz x7 aB5 qo (by decide) h
 obtain⟨s,z,cW,I,hW⟩:=pY (i:=2) (n:=8) j rfl Tryz.underlying28 Ry Q0 Lf (by decide) h
 obtain⟨o,x,t,J,hO⟩:=pY (i:=3) (n:=8) j rfl Tryz.underlying28 Ry Q0 Lf (by decide) h
 obtain⟨r,y,v,B,hV⟩:=pY (i:=4) (n:=8) j rfl Tryz.underlying28 Ry Q0 Lf (by decide) h
 have e:=aEr K F I J B
 have w:Flat i7 ((l.drop 0).take (Tryz.prog.cellsOf 32)):=w
 rw[yj,List.drop_zero] at w
 obtain⟨a,b,c,D,E,f,g,A⟩:=sw w
 rw[A] at e
 exact⟨⟨a,b,c,D,E,f,g⟩,q,k,u,s,z,cW,o,x,t,r,y,v,e,O,hP,hW,hO,hV⟩
structure re (W:World) (C:bM) (aP:Option Addr) (lP cP:Nat) (aW:Option Addr) (lW cW:Nat) (aO:Option Addr) (lO cO:Nat) (aV:Option Addr) (lV cV:Nat) (aD:Option Addr) (lD cD:Nat):Prop where
 hm:lP<=maxLen
 hP:Er i4 W aP lP cP
 hW:lL i1 W aW lW cW
 hO:lL i1 W aO lO cO
 hV:lL i1 W aV lV cV
 hD:lL i4 W aD lD cD
set_option maxRecDepth 100000 in
theorem Gx {H:Type} {enc:TypeId×Value->H} {W:World} {f:Nat} {v:Value} {d:DataW H} {p:List MemPlace} (z:Value.okWide Tryz.prog W .any f 38 v) (h:DataW.Trod enc Tryz.prog W 0 (fun _=>true) true 38 v d p):
  ∃(C:bM) (j:Option Addr) (w r:Nat) (o:Option Addr) (y cW:Nat) (g:Option Addr) (u q:Nat) (k:Option Addr) (x s:Nat) (b:Option Addr) (c cD:Nat),v= .agg ⟨qV C (.slice j w r) (.slice o y cW) (.slice g u q) (.slice k x s) (.slice b c cD)⟩/\re W C j w r o y cW g u q k x s b c cD:=by
 have A:=Tryz.underlying38
 obtain⟨l,rfl,F⟩:=tm A z
 rw[xk] at F
 obtain⟨D,J,t⟩:=Nc (i:=0) A rfl h
 obtain⟨b,c,cD,a,hD⟩:=pY (i:=1) (n:=8) A rfl Tryz.underlying36 zy aHh aCa (by decide) h
 have t:DataW.Trod enc Tryz.prog W 0 (fun _=>true) true 35 (.agg ⟨(l.drop 0).take (Tryz.prog.cellsOf 35)⟩) D J:=t
 rw[pw,List.drop_zero] at t
 have a:l[11]?=some (.slice b c cD):=a
 obtain⟨C,j,w,r,o,y,cW,g,u,q,k,x,s,e,I,hP,hW,hO,hV⟩:=me (by rw[List.length_take];omega) t
 refine⟨C,j,w,r,o,y,cW,g,u,q,k,x,s,b,c,cD,?_,I,hP,hW,hO,hV,hD⟩
 have B:l=l.take 11++[.slice b c cD]:=by
  have E:l.drop 11=[.slice b c cD]:=by
   rw[List.drop_eq_getElem_cons (by omega),List.drop_of_length_le (by omega)];rw[List.getElem?_eq_getElem (by omega)] at a;rw[Option.some.inj a]
  rw[<-E,List.take_append_drop]
 rw[e] at B
 rw[B]
 simp[qV]
theorem z7 {E:Nat} {W:World} {a:Option Addr} {len cap:Nat} {r:OB} {rs:List OB} {t:Nat->Value} {vs:List Value} {ns:List Nat} {at':Nat->Nat->List Value} (g:aJq Pr W i4 E a len cap r rs t vs ns at'):
  ∃ps:List (List Ins),ps.length=len/\(∀p∈ps,∀x∈p,x.fU)/\∀(G:Bg) k,k<G.base->G.old k=r.1->(∀i x,rs[i]?=some x->E+i<G.base/\G.old (E+i)=x.1)->
   ∃y:List Value,y.length=ps.length/\kU G 1 (t k) (y.map fun x=>[x]).length (fun i=>(y.map fun x=>[x]).getD i [])/\∀(i:Nat) (v:Value) (p:List Ins),y[i]?=some v->ps[i]?=some p->A.Yu G v p:=by
 have d:∀i,∃l:List Ins,(∀x∈l,x.fU)/\∀n,ns[i]?=some n->∀G v,kU G 4 v n (at' i)->A.Yu G v l:=fun i=>by
  cases h:ns[i]? with
  |none=>exact⟨[],by simp,fun n g=>by cases g⟩
  |some n=>
   obtain⟨l,hl,X,k⟩:=sX (W:=4) (f:=Ins.enc) (R:=Ins.fU) (fun j T=>aD1 (g.flat i n h j T));exact⟨l,X,fun n' B=>by cases B;exact fun G v V=>k G v V⟩
 refine⟨(List.range len).map fun i=>(d i).choose,by simp,fun p w=>?_,fun G k U P q=>?_⟩
 .obtain⟨i,_,rfl⟩:=List.mem_map.1 w;exact(d i).choose_spec.1
 obtain⟨Y,_,Z⟩:=g.old G k U P q
 refine⟨vs,by simp[g.lvs],?_,fun i v p H w=>?_⟩
 .rw[List.length_map,g.lvs];obtain⟨a,c,e,S⟩:=Y;refine⟨a,c,e,fun i F=>?_⟩;obtain⟨b,o,cells,I,J,K,O⟩:=S i F;refine⟨b,o,cells,I,J,K.trans ?_,O⟩;have z:i<vs.length:=by rw[g.lvs];exact F
  simp[List.getD_eq_getElem?_getD,List.getElem?_eq_getElem z]
 .have s:i<len:=by have:=(List.getElem?_eq_some_iff.1 H).1;rw[g.lvs] at this;exact this
  have D:p=(d i).choose:=by
   rw[List.getElem?_map,List.getElem?_range s] at w;simpa using w.symm
  subst D
  have u:ns[i]?=some (ns[i]'(by rw[g.jT];exact s)):=List.getElem?_eq_getElem _
  exact(d i).choose_spec.2 _ u G v (Z i v _ H u).1
theorem La {W:World} (hL:Gl W) {C:bM} {O S J P H:Option Addr} {lP U lW cW lO T lV V lD cD:Nat} (hR:re W C O lP U S lW cW J lO T P lV V H lD cD) {f:FuncId}
  (mk:Value->List Value) (α:∀ρ c c',aE ρ c c'->aR ρ (mk c) (mk c'))
  (β:∀(G:Bg) (h:AH) (pv wv ov vv dv:Value) (ps:List (List Ins)) (ws os vs:List Int) (dl:List Do),ps.length<=9223372036854775807->Gb G->Ob G 0 Go.Is.mY->ScA G pv wv ov vv dv ps ws os vs dl->Vd G dv dl.length->Hs G h []->Cl Pr K f (mk (.agg ⟨qV C pv wv ov vv dv⟩)) h fun v _=>v= .bool true):
  Calls Pr f ⟨mk (.agg ⟨qV C (.slice O lP U) (.slice S lW cW) (.slice J lO T) (.slice P lV V) (.slice H lD cD)⟩)⟩ W fun e W'=>e= .returned (.bool true)/\Below W.heap.size W W':=by
 obtain⟨hm,hP,hW,hO,hV,hD⟩:=hR
 obtain⟨D,tw,bw,vw,υ,fw,ow⟩:=Ac Pr hW
 obtain⟨ro,to,bo,vo,ρ,fo,oo⟩:=Ac Pr hO
 obtain⟨rv,tv,bv,ξ,τ,fv,κ⟩:=Ac Pr hV
 obtain⟨rd,td,bd,vd,π,fd,od⟩:=Ac Pr hD
 obtain⟨rp,d,tp,vs,ns,σ,F⟩:=qt Pr 17 hP
 obtain⟨ι,ψ,rws,kw⟩:=sX (W:=1) (f:=fun x:Int=>[I x]) (R:=fU) (fun i j=>Z7 (fw i j))
 obtain⟨θ,φ,_,ko⟩:=sX (W:=1) (f:=fun x:Int=>[I x]) (R:=fU) (fun i j=>Z7 (fo i j))
 obtain⟨lvs,χ,ν,kv⟩:=sX (W:=1) (f:=fun x:Int=>[I x]) (R:=fU) (fun i j=>Z7 (fv i j))
 obtain⟨η,Z,μ,kd⟩:=sX (W:=4) (f:=Do.enc) (R:=doR) (fun i j=>aG7 (fd i j))
 obtain⟨ps,ε,qf,kp⟩:=z7 F
 have X:=hL
 obtain⟨⟨q,u,h1⟩,⟨p,z0,h0⟩,⟨r,z2,h2⟩,⟨s,z3,h3⟩,_,_,_,w⟩:=hL
 let R:List OB:=D::ro::rv::rd::rp::d
 have A:∀i x,d[i]?=some x->R[5+i]?=some x:=fun i x a=>by
  rw[Nat.add_comm];exact a
 have reads:Reads Pr (12+R.length) (yM 12 (glM p z0 q u r z2 s z3) R) (rH 12 R) W:=nr (by rw[Pg];exact Nat.le_refl _) w (aE3 h0 h1 h2 h3) (fun x a=>by
  rcases List.mem_cons.1 a with rfl|a;exact bw.at' _;rcases List.mem_cons.1 a with rfl|a;exact bo.at' _;rcases List.mem_cons.1 a with rfl|a;exact bv.at' _;rcases List.mem_cons.1 a with rfl|a;exact bd.at' _;rcases List.mem_cons.1 a with rfl|a;exact F.out _ fun i y hy=>by
   have:=vW (g:=12) (A i y hy);rwa [show 12+(5+i)=17+i by omega] at this
  exact(F.ok x a).at' _)
 have ο:R.length=5+d.length:=by show d.length+1+1+1+1+1=_;omega
 let G:Bg:=⟨12+R.length,yM 12 (glM p z0 q u r z2 s z3) R,12+R.length⟩
 have t:∀i x,R[i]?=some x->12+i<G.base/\G.old (12+i)=x.1:=fun i x a=>⟨by have:=(List.getElem?_eq_some_iff.1 a).1;show 12+i<12+R.length;omega,zh a⟩
 have gw:=t 0 D rfl
 have go:=t 1 ro rfl
 have gv:=t 2 rv rfl
 have E:=t 3 rd rfl
 have gp:=t 4 rp rfl
 obtain⟨vi,ζ,δ,γ⟩:=kp G 16 gp.1 gp.2 (fun i x a=>by
  have:=t (5+i) x (A i x a);rwa [show 12+(5+i)=17+i by omega] at this)
 have gb:∀(b:Nat) (l:List Value) (e:TypeId) (z:Nat×Nat),b<12->glM p z0 q u r z2 s z3 b=some (.cells l e z true)->Ob G b l:=fun b l e z Y hg=>⟨by show b<12+R.length;omega,e,z,true,(yh (g:=12) (i:=b) (gl:=glM p z0 q u r z2 s z3) (rs:=R) Y).trans hg⟩
 have ok:=β G (Go.Ab.start G.base G.old) (tp 16) (tw 12) (to 13) (tv 14) (td 15) ps ι θ lvs η (by rw[ε];unfold maxLen at hm;omega)
  ⟨by first|exact gb _ _ p z0 (by omega) rfl|(rw[<-aIi];exact gb _ _ p z0 (by omega) rfl),by first|exact gb _ _ r z2 (by omega) rfl|(rw[<-aIv];exact gb _ _ r z2 (by omega) rfl),by first|exact gb _ _ s z3 (by omega) rfl|(rw[<-aJ4];exact gb _ _ s z3 (by omega) rfl)⟩ (by first|exact gb _ _ q u (by omega) rfl|(rw[<-aIy];exact gb _ _ q u (by omega) rfl))
  ⟨⟨⟨vi,ζ,δ,γ⟩,kw G _ (ow G 12 gw.1 gw.2).1,ko G _ (oo G 13 go.1 go.2).1,kv G _ (κ G 14 gv.1 gv.2).1⟩,kd G _ (od G 15 E.1 E.2).1,qf,rws,ν,μ⟩ (by rw[Z];exact(od G 15 E.1 E.2).2) qn
 have B:aR (rH 12 R) (mk (.agg ⟨qV C (tp 16) (tw 12) (to 13) (tv 14) (td 15)⟩)) (mk (.agg ⟨qV C (.slice O lP U) (.slice S lW cW) (.slice J lO T) (.slice P lV V) (.slice H lD cD)⟩)):=by
  refine α _ _ _ ?_;simp only[aE];exact⟨_,aR.append (mX _ (by rfl)) (aR.cons (F.rel _ 16 (vW (g:=12) (i:=4) (rs:=R) rfl)) (aR.cons (vw _ 12 (vW (g:=12) (i:=0) (rs:=R) rfl)) (aR.cons (vo _ 13 (vW (g:=12) (i:=1) (rs:=R) rfl)) (aR.cons (ξ _ 14 (vW (g:=12) (i:=2) (rs:=R) rfl)) (aR.cons (vd _ 15 (vW (g:=12) (i:=3) (rs:=R) rfl)) aR.nil))))),rfl⟩
 have:=Vy (aM2 W.heap.size w) X reads B ok
 intro cs
 obtain⟨e,w',fr,⟨ρ',o,h',v',he,k,hq,_,Y⟩,a⟩:=this cs
 rw[hq] at k
 simp only[aE] at k
 exact⟨e,w',fr,⟨by rw[he,k],Y⟩,a⟩
end Go.Proofs.YtcjlkjeeifemhaaGreatDoor
end
namespace Go.Proofs.YtcjlkjeeifemhaaGreatDoor
open Go Go.Ab Go.RowKit
section
set_option maxRecDepth 100000
theorem fB {a b:Bool} (c:a=true) (hb:b=true):(a&&b)=true:=by rw[c,hb];rfl
theorem wu:mapsRowed Tryz.prog=true:=by kernel_rfl
theorem ff:(Tryz.prog.stops==[])=true:=by kernel_rfl
theorem ew:(Tryz.prog.stopKnobs==[])=true:=by kernel_rfl
theorem fu:(Rows.scriptRunsRow.plainKeys==Tryz.prog.plainKeys)=true:=by kernel_rfl
theorem fx:Tryz.prog.stopsHeard=true:=by kernel_rfl
theorem ep:Tryz.prog.mayEnter=true:=by kernel_rfl
theorem fe:(Rows.scriptRunsRow.lifted==Tryz.prog.liftsFinal)=true:=by kernel_rfl
theorem xe:(Tryz.prog.make==some Rows.scriptRunsRow.make)=true:=by kernel_rfl
theorem q5:Tryz.prog.mainIs=some (Rows.scriptRunsCard.stood.harness.1,Rows.scriptRunsCard.stood.harness.2.toList):=by kernel_rfl
theorem da:true=Tryz.prog.looks []:=by kernel_rfl
end
end Go.Proofs.YtcjlkjeeifemhaaGreatDoor
section
open Go Go.Ab
attribute [local irreducible] aY Br oM tU tZ Bj kK tW jJ Oy gO lN oP nQ nD iK vN tD I5 Q2 Nf M1 Sb Nl J1 Nj Pc kA mM qI iH copyV gW uU S4 S7 Fa jD Le O1 Ta lS oS wJ yB Cl yG Rz qY qM iP eP cI bS
namespace Go.Proofs.YtcjlkjeeifemhaaGreatDoor
open Go Go.Ab Go.Hm Go.At Go.Mc Go.Nt
section
def fE (q:Nat):List Value:=[.func (.func 364) #[] #[pt q 0 0]]
instance:Fx fE 1:=⟨fun _=>rfl,fun _=>rfl⟩
abbrev fns (a:Option Addr) (c:Nat) (l:List Nat):HP:=ls fE 1 213 a c l
def eO (F:fM):Nat->List aK:=fun k=>F (k/4) (k % 4)
def xH (F:fM):Nat->Nat
 |0=>0
 |n+1=>xH F n+(eO F n).length
theorem Qi {F:fM} (a:∀c w,(F c w).length<=500):∀n,xH F n<=500*n
 |0=>Nat.le_refl _
 |n+1=>by
  have b:=Qi a n;have d:=a (n/4) (n % 4);show xH F n+(F (n/4) (n % 4)).length<=_;omega
theorem y1 {l done:List Nat} {y:Nat} (h:done++[y]<+:l):done.length<l.length/\l.getD done.length 0=y:=by
 obtain⟨t,rfl⟩:=h;refine⟨by simp,?_⟩;simp[List.getD_eq_getElem?_getD]
set_option maxRecDepth 100000
variable {G:Bg} {h:AH} {L L' M:List HP} {Q:Value->AH->Prop} {C:bM}
abbrev Rf:Nat->Nat->List aK->HP:=fun _ q l=>vnR q l
theorem aK1 {a:Option Addr} {c i:Nat} {l:List Nat} {k:Value->Prop} (d:Hs G h L) [m:Has (fns a c) L l L'] (f:i<l.length) (q:k (.func (.func 364) #[] #[pt (l.getD i 0) 0 0])):aY (kA 1 (.slice a l.length c) (I i)) fun p=>aY (oM h p) k:=by
 have r:l[i]?=some (l.getD i 0):=by rw[List.getD_eq_getElem?_getD,List.getElem?_eq_getElem f];rfl
 have d:Hs G h (cU 1 213 a c (l.length,eL fE l)::L'):=m.of d;obtain⟨b,o,rfl,e⟩:=d.eZ (by omega);refine dF f ?_;rw[show pt b (o+i*1) 0=pt b o (i*1) by simp[pt]];have g:(eL fE l)[i*1]?=some (.func (.func 364) #[] #[pt (l.getD i 0) 0 0]):=S0 (enc:=fE) (W:=1) (j:=0) r rfl;exact aC (b:=b) (o:=o) (j:=i*1) e g q
def cv (z:Nat) (l:List Nat):HP:=tV fun x:Option Addr×Nat=>sp [aF z 0 [.slice x.1 l.length x.2],fns x.1 x.2 l]
theorem aDl {f i:Nat} {F:fM} {t:Value} (hC:C.Ok) (v:∀c w,(F c w).length<=500) (z:(i:Int)<C.aG)
  (A:∀b a c k,b.length=4*i+4->Hs G k (fns a c b::nF Rf b (eO F)::lU C f F::L)->Dd 100 6 [] Q [(pt f 0 0),(.slice a b.length c),t,(I i)] k):
  ∀(g w:Nat) (b:List Nat) (a:Option Addr) (c:Nat) (h:AH),w+g=4->b.length=4*i+w->Hs G h (fns a c b::nF Rf b (eO F)::lU C f F::L)->Dd 100 4 [] Q [(pt f 0 0),(.slice a b.length c),(I i),t,(I i),(I w)] h:=by
 have E:=hC.1
 intro g
 induction g with
 |zero=>
  intro w b a c h B o d
  exact bW (aM (aaa (A b a c h (by omega) d)))
 |succ g D=>
  intro w b a c h B o d
  refine bW (aM (aad (bW (wo (C:=C) (F:=F) (x:=i) (y:=w) hC v z (by omega) d fun q h d=>?_))))
  have u:eO F b.length=F i w:=by
   unfold eO;rw[o,show(4*i+w)/4=i by omega,show(4*i+w) % 4=w by omega]
  have d:Hs G h (Rf b.length q (eO F b.length)::lU C f F::fns a c b::nF Rf b (eO F)::L):=by rw[u];exact d.to
  refine aI (c:=fE q) rfl (dA (W:=1) (n:=1) (c:=1) d rfl rfl rfl fun j h d=>?_)
  have d:=tO (enc:=fE) (W:=1) (e:=213) (x:=q) d
  refine rR (enc:=fE) (W:=1) (e:=213) (l:=b) (l2:=[q]) (a:=a) (c:=c) (a2:=some j) (c2:=1) d (by simp;omega) fun p r h d=>?_
  have d:=Iw (R:=Rf) (l:=b) (q:=q) (s:=eO F) (d.cF (Rf b.length q (eO F b.length)) (nF Rf b (eO F)))
  exact aac (D (w+1) (b++[q]) p r h (by omega) (by simp;omega) d.to)
theorem aCm {f:Nat} {F:fM} (hC:C.Ok) (p:∀c w,(F c w).length<=500) (j:Hs G h L) [m:Has (lU C f) L F L']
  (r:∀z d k,d.length=4*C.aG.toNat->Hs G k (cv z d::nF Rf d (eO F)::lU C f F::L')->Q (.func (.func 243) #[] #[pt z 0 0]) k):Cl Pr K 100 [pt f 0 0] h Q:=by
 have y:=hC.1
 have loop:∀(g i:Nat) (d:List Nat) (a:Option Addr) (c:Nat) (h:AH),i+g=C.aG.toNat->d.length=4*i->Hs G h (fns a c d::nF Rf d (eO F)::lU C f F::L')->Dd 100 2 [] Q [(pt f 0 0),(.slice a d.length c),(I C.aG),(I i)] h:=by
  intro g;induction g with
  |zero=>
   intro i d a c h q l j;refine bW (aM (aaa (cW (dB j fun z h j=>r z d h (by omega) ?_))));exact Hs.vA (A:=fun x:Option Addr×Nat=>sp [aF z 0 [.slice x.1 d.length x.2],fns x.1 x.2 d]) (a,c) j.A9
  |succ g u=>
   intro i d a c h q l j;refine bW (aM (aad (bW ?_)));refine aDl (f:=f) (i:=i) (t:=I C.aG) hC p (by omega) (fun d a c h l j=>?_) 4 0 d a c h rfl (by omega) j;exact bW (aac (u (i+1) d a c h (by omega) (by omega) j))
 obtain⟨pl,j⟩:=zP (m.of j)
 refine cW (Yy (eN (bW (aB (aA (aA (am f j (v:=I C.aG) rfl ?_)))))))
 have j:=qZ (enc:=fE) (W:=1) (e:=213) (Ig (R:=Rf) (s:=eO F) (lK j))
 exact loop C.aG.toNat 0 [] none 0 h (by omega) rfl j
theorem aGt {z:Nat} {l:List Nat} (hb:l.length<=1000):ez Pr K G 243 [] [pt z 0 0] (cv z l) (l.map fE):=by
 intro k J y L h Q d w q r;obtain⟨⟨a,c⟩,d⟩:=d.yP;have d:=d.Bq;have e:∀{h:AH} {M:List HP},Hs G h (aF z 0 [.slice a l.length c]::fns a c l::M)->Hs G h (cv z l::M):=fun d=>Hs.vA (A:=fun x:Option Addr×Nat=>sp [aF z 0 [.slice x.1 l.length x.2],fns x.1 x.2 l]) (a,c) d.A9;refine cW (am z d rfl (bH ?_));have loop:∀(f i:Nat) (h:AH),i+f=l.length->Hs G h (aF z 0 [.slice a l.length c]::fns a c l::k ((l.drop i).map fE)::L)->Dd 243 1 [] Q [y,(.slice a l.length c),(I l.length),(I i)] h:=by
  intro f;induction f with
  |zero=>
   intro i h t d;rw[List.drop_of_length_le (by omega)] at d;exact bW (aM (aaa (q _ _ (e d))))
  |succ f B=>
   intro i h t d;have g:i<l.length:=by omega
   have s:l.drop i=l.getD i 0::l.drop (i+1):=by rw[List.drop_eq_getElem_cons g,List.getD_eq_getElem?_getD,List.getElem?_eq_getElem g];rfl
   rw[s,List.map_cons] at d;refine bW (aM (aad (bW (aK1 (l:=l) (a:=a) (c:=c) d g ?_))));refine(w _ _ h _ (d.front (k (fE (l.getD i 0)::((l.drop (i+1)).map fE))))).mono fun v p u=>?_;rcases u with⟨rfl,j⟩|⟨rfl,j⟩;exact bT (bX (bW (aac (B (i+1) p (by omega) j.to))));exact bT (eN (r _ _ (e j.to)))
 exact loop l.length 0 h (by omega) (by rw[List.drop_zero];exact d)
abbrev flX (p:Nat) (e:Nat->Value) (d l:Nat) (a:List Nat) (F:fM) (done:List Nat):HP:=sp [kE Pr 50 (kI 58) 13 e d l (.ready,none),aF p 0 [I (xH F done.length)],nF Rf a (eO F)]
abbrev flY (p n:Nat) (e e2:Nat->Value) (d l l2:Nat) (done:List aK):HP:=sp [kE Pr 50 (kI 938) 13 e2 d l2 (.ready,none),kE Pr 50 (kI 58) 13 e d l (.busy,none),aF p 0 [I (n+done.length:Nat)]]
theorem kg {f:Nat} {F:fM} (hC:C.Ok) (D:∀c w,(F c w).length<=500) (a:Hs G h L) [m:Has (lU C f) L F L']
  (hk:∀O,Hs G O (lU C f F::L')->Q (I (xH F (4*C.aG.toNat))) O):Cl Pr K 50 [pt f 0 0] h Q:=by
 have hc:=hC.1
 refine cW (bG (m.of a) fun p h a=>ax (b:=p) a fun h a=>aCm (C:=C) (F:=F) hC D a fun z g h J a=>?_)
 refine jM a fun d h a=>?_
 intro e Y
 refine lY a fun l h a=>rL rfl ?_
 have a:Hs G h (cv z g::flX p e d l g F []::mk d ()::lU C f F::L'):=by
  have a:=(a.cK (kE Pr 50 (kI 58) 13 e d l (.ready,none)) (aF p 0 [I 0]) (nF Rf g (eO F))).Gn;have a:Hs G h (flX p e d l g F []::_):=a;exact a.to
 refine(aGt (z:=z) (l:=g) (by omega)).fold (X:=flX p e d l g F) (Z:=fun _ _=>uH False) a ?_ ?_ ?_
 .intro done y h N S a;have a:=a.wP;obtain⟨t,U⟩:=y1 S;have a:=gN (R:=Rf) (l:=g) (s:=eO F) t a;rw[U] at a;refine rW (rK a) Y (gS a fun h a=>kl a ?_);intro r E;refine lY a fun A h a=>rL rfl ?_;have a:Hs G h (vnR y (eO F done.length)::flY p (xH F done.length) e r d l A []::Dg Rf g (eO F) done.length::N):=by
   have a:=(a.cK (kE Pr 50 (kI 938) 13 r d A (.ready,none)) (kE Pr 50 (kI 58) 13 e d l (.busy,none)) (aF p 0 [I (xH F done.length)])).Gn;exact a.to
  have P:(eO F done.length).length<=500:=D _ _
  have T:=Qi D done.length
  refine(aL9 (q:=y) (l:=eO F done.length) (by omega)).fold (X:=flY p (xH F done.length) e r d l A) (Z:=fun _ _=>uH False) a ?_ ?_ ?_
  .intro k x h N u a;have a:=a.wP;have α:k.length<=500:=by have:=u.length_le;simp at this;omega
   refine rW (rK a) E (gS a fun h a=>am p a rfl (aac (ax (b:=p) a fun h a=>gV a fun h a=> .inl ⟨rfl,?_⟩)))
   have B:((xH F done.length+k.length:Nat):Int)+1=((xH F done.length+(k++[x]).length:Nat):Int):=by simp;omega
   rw[B] at a
   exact((a.cK (kE Pr 50 (kI 938) 13 r d A (.ready,none)) (kE Pr 50 (kI 58) 13 e d l (.busy,none)) (aF p 0 [I (xH F done.length+(k++[x]).length:Nat)])).Gn).to
  .intro v h a;have a:=(a.front (flY p (xH F done.length) e r d l A (eO F done.length))).wP;refine mC a fun h a=>lT (gV a fun h a=> .inl ⟨rfl,?_⟩);have B:xH F done.length+(eO F done.length).length=xH F (done++[y]).length:=by rw[List.length_append];rfl
   rw[B] at a
   have W:vnR y (eO F done.length)=Rf done.length (g.getD done.length 0) (eO F done.length):=by rw[U]
   rw[W] at a
   have a:=zE (R:=Rf) (l:=g) (s:=eO F) (i:=done.length) (x:=eO F done.length) t (a.cF (Rf done.length (g.getD done.length 0) (eO F done.length)) (Dg Rf g (eO F) done.length))
   have V:(fun j=>if j=done.length then eO F done.length else eO F j)=eO F:=by funext j;split<;>simp_all
   rw[V] at a
   exact((a.cK (kE Pr 50 (kI 58) 13 e d l (.ready,none)) (aF p 0 [I (xH F (done++[y]).length)]) (nF Rf g (eO F))).Gn).to
  .intro k x v h u a;obtain⟨H,a⟩:=(a.front (uH False)).jr;exact H.elim
 .intro v h a;have a:=(a.front (flX p e d l g F g)).wP;rw[J] at a;exact mC a fun h a=>lT (am p a rfl (kN a fun h a=>iF (hk _ a.to)))
 .intro done y v h S a;obtain⟨H,a⟩:=(a.front (uH False)).jr;exact H.elim
end
end Go.Proofs.YtcjlkjeeifemhaaGreatDoor
namespace Go.Proofs.YtcjlkjeeifemhaaGreatDoor
open Go Go.Ab Go.Hm Go.At Go.Mc Go.Ct Go.Nt
section
theorem O8 {F:fM}:∀n,((List.range n).flatMap fun c=>(List.range 4).flatMap fun w=>F c w).length=xH F (4*n)
 |0=>rfl
 |n+1=>by
  rw[List.range_succ (n:=n),List.flatMap_append,List.length_append,O8 n];have e:xH F (4*(n+1))=xH F (4*n)+(F n 0).length+(F n 1).length+(F n 2).length+(F n 3).length:=by
   show xH F (4*n)+(F ((4*n)/4) ((4*n) % 4)).length+(F ((4*n+1)/4) ((4*n+1) % 4)).length+(F ((4*n+2)/4) ((4*n+2) % 4)).length+(F ((4*n+3)/4) ((4*n+3) % 4)).length=_;rw[show(4*n)/4=n by omega,show(4*n) % 4=0 by omega,show(4*n+1)/4=n by omega,show(4*n+1) % 4=1 by omega,show(4*n+2)/4=n by omega,show(4*n+2) % 4=2 by omega,show(4*n+3)/4=n by omega,show(4*n+3) % 4=3 by omega]
  have a:(([n]:List Nat).flatMap fun c=>(List.range 4).flatMap fun w=>F c w).length=(F n 0).length+(F n 1).length+(F n 2).length+(F n 3).length:=by
   simp[List.range_succ];omega
  rw[e,a];omega
theorem y8 {n i:Nat} {p:Nat->Bool} (a:i<n) (h:p i=false):(List.range n).all p=false:=by
 rw[List.all_eq_false];exact⟨i,List.mem_range.2 a,by rw[h];decide⟩
theorem dh {n:Nat} {p:Nat->Bool} (h:∀i,i<n->p i=true):(List.range n).all p=true:=List.all_eq_true.2 fun i a=>h i (List.mem_range.1 a)
set_option maxRecDepth 100000
variable {G:Bg} {h:AH} {L L':List HP} {Q:Value->AH->Prop} {Cf:bM} {m N:Nat} {M:cN}
theorem W4 (hC:Cf.Ok) (hG:Gb G) (hL:qe Cf M.jT) (_:yD Cf M.home (2^30)) (d:Hs G h L) [mm:Has (bI G Cf m) L M L'] (q:∀U,Hs G U (bI G Cf m M::L')->Q (.bool (M.over Cf)) U):Cl Pr K 19 [pt m 0 0] h Q:=by
 have hc:=hC.1;have β:=bM.gI hC;have u:=hL.W9 hC;have A:=O8 (F:=M.jT) Cf.aG.toNat;have V:=Qi u (4*Cf.aG.toNat);obtain⟨x,k,d⟩:=cJ (mm.of d);refine cW (cS (bX (aB (aA (am m d rfl (kg (C:=Cf) (F:=M.jT) hC u d fun h d=>?_))))));have d:=bB (m:=m) (x:=x) M k d;unfold cN.over cN.notes at q;refine gZ (aQ (fun h1=>?_) (fun h1=>bW ?_));rw[decide_eq_false (fun e=>by rw[e] at A;simp at A;omega),Bool.false_and,Bool.false_and] at q;exact q _ d;rw[decide_eq_true (List.eq_nil_of_length_eq_zero (by omega)),Bool.true_and] at q;have lines:∀(f l:Nat) (h:AH),(List.range Cf.aG.toNat).all (fun i=>(M.bJ i).over&& !(M.cX i).Xe&& !(M.cL i).rQ)=true->l+f=Cf.lines->(∀j,j<l->(M.home j).1.waits=[])->Hs G h (bI G Cf m M::L')->Dd 19 6 [] Q [(pt m 0 0),(I Cf.lines),(I l)] h:=by
  intro f;induction f with
  |zero=>
   intro l h B P v d;rw[B,Bool.true_and,dh (fun j r=>decide_eq_true (v j (by omega)))] at q;exact bW (aM (aaa (q _ d)))
  |succ f T=>
   intro l h B P v d;obtain⟨x,k,d⟩:=cJ d;refine bW (aM (aad (bW (aB (aA (am m d rfl (H.th (C:=Cf) (H:=M.home) (x:=l) d fun d=>?_)))))));have d:=bB (m:=m) (x:=x) M k d;have e:Db Cf M.home l=(M.home l).1.waits.length:=by unfold Db;rw[aNa (by unfold bM.has;omega),Int.toNat_natCast]
   rw[e];refine gZ (aQ (fun J=>?_) (fun J=>bW (aac (T (l+1) h B (by omega) (fun j r=>?_) d))));rw[B,Bool.true_and,y8 (i:=l) (by omega) (decide_eq_false (fun e=>by rw[e] at J;simp at J))] at q;exact q _ d;by_cases e:j=l;subst e;exact List.eq_nil_of_length_eq_zero (by omega);exact v j (by omega)
 have aG:∀(f i:Nat) (x:MN) (h:AH),ba Cf x->i+f=Cf.aG.toNat->(∀j,j<i->((M.bJ j).over&& !(M.cX j).Xe&& !(M.cL j).rQ)=true)->Hs G h (uB G Cf m x M::L')->Dd 19 2 [] Q [(pt m 0 0),(.slice x.ac x.lc.length x.cc),(I x.lc.length),(I i)] h:=by
  intro f;induction f with
  |zero=>
   intro i x h k O v d;have α:=k.1;refine bW (aM (aaa (bW ?_)));obtain⟨k,d⟩:=mZ d;refine aB (aA (gD (b:=m) (o:=0) d (by decide) (l:=Cf.enc) rfl rfl (qB (C:=Cf) hC hG.lim d fun h d=>?_)));have d:=bB (m:=m) (x:=x) M k d;exact lines Cf.lines 0 h (dh fun j r=>v j (by omega)) (by omega) (fun j r=>by omega) d
  |succ f T=>
   intro i x h k O v d;obtain⟨_,d⟩:=mZ d;obtain⟨W,X,Y⟩:=k;have z:i<x.lc.length:=by omega
   have w:i<x.lk.length:=by omega
   have y:i<x.lq.length:=by omega
   refine bW (aM (aad (bW (I8 d z (aB (aA (am m d rfl (Gs d w ?_))))))));have d:=gN (R:=oI G Cf) (l:=x.lk) (s:=M.cX) w d;refine C.tn (C:=Cf) (core:=i) (c:=x.lk.getD i 0) (s:=M.cX i) d fun h d=>aH rfl (aH rfl (aH rfl ?_));have d:=zE (R:=oI G Cf) (l:=x.lk) (s:=M.cX) (i:=i) (x:=M.cX i) w (d.cF (C.gQ G (x.lk.getD i 0) Cf i (M.cX i)) (Dg (oI G Cf) x.lk M.cX i));have Z:(fun j=>if j=i then M.cX i else M.cX j)=M.cX:=by funext j;split<;>simp_all
   rw[Z] at d;refine aB (aA (am m d rfl (Gt d y ?_)));have d:=gN (R:=nO Cf) (l:=x.lq) (s:=M.cL) y d;refine Z1 (C:=Cf) (p:=x.lq.getD i 0) (s:=M.cL i) d fun g a h d=>aH rfl (aH rfl (aH rfl ?_));have d:=uM (Cf:=Cf) (l:=x.lq) (s:=M.cL) (i:=i) (t:=M.cL i) y d;rw[bL] at d;refine bx (l:=x.lc) (S:=M.bJ) z d ?_;have d:=sZ (m:=m) (x:=x) M ⟨W,X,Y⟩ d;have no:((M.bJ i).over&& !(M.cX i).Xe&& !(M.cL i).rQ)=false->Q (.bool false) h:=fun e=>by
    rw[y8 (i:=i) (by omega) e,Bool.false_and] at q;exact q _ (qp d)
   refine bT (dT (cZ (fun D=>cZ (fun E=>no (by rw[E];simp)) (fun E=>cZ (fun a3=>no (by rw[a3];simp)) (fun a3=>bW (aac ?_)))) (fun D=>no (by rw[D];rfl))));refine T (i+1) x h ⟨W,X,Y⟩ (by omega) (fun j r=>?_) d;by_cases e:j=i;subst e;rw[D,E,a3];rfl;exact v j (by omega)
 obtain⟨x,d⟩:=rh d;obtain⟨k,d⟩:=mZ d;refine aB (aA (am m d rfl (bH ?_)));have d:=sZ (m:=m) (x:=x) M k d;exact aG Cf.aG.toNat 0 x h k (by omega) (fun j v=>by omega) d
end
end Go.Proofs.YtcjlkjeeifemhaaGreatDoor
namespace Go.Proofs.YtcjlkjeeifemhaaGreatDoor
open Go Go.Ab Go.Hm Go.At Go.Mc Go.Ct Go.Nt Go.Is Go.Sc
section
set_option maxRecDepth 100000
variable {G:Bg} {h:AH} {L L':List HP} {Q:Value->AH->Prop} {C Cf:bM} {m N:Nat} {M:cN} {pv wv ov vv dv:Value} {ps:List (List Ins)} {ws os vs:List Int} {dl:List Do}
abbrev clX (p:Nat) (e:Nat->Value) (d l:Nat) (done:List Ev):HP:=tV fun x:Option Addr×Nat=>sp [kE Pr 88 (kI 26) 13 e d l (.ready,none),aF p 0 [.slice x.1 done.length x.2],vH x.1 x.2 done]
theorem aBs (k:M.log.length<2000) (f:Hs G h L) [D:Has (bI G Cf m) L M L'] (w:∀a c j,Hs G j (vH a c M.log::bI G Cf m M::L')->Q (.slice a M.log.length c) j):
  Cl Pr K 40 [pt m 0 0] h fun v h=>Cl Pr K 39 [v] h Q:=by
 obtain⟨y,B,f⟩:=cJ (D.of f)
 refine cW (cS (bX (aB (aA (am m f rfl ?_)))))
 refine cW (dB f fun q h f=>?_)
 refine cW (cW (dB (cs:=[.slice none 0 0]) f fun p h f=>jM f fun d h f=>?_))
 intro e u
 refine lY f fun l h f=>rL rfl ?_
 have f:=qZ (enc:=Ev.enc) (e:=24) f
 have f:Hs G h (veR q y.al y.cl M.log::clX p e d l []::mk d ()::aF m 0 (eQ Cf y M.log.length)::fq y.ac y.cc y.lc::W0 y.ak y.ck y.lk::Xd y.aq y.cq y.lq::
  nF rU y.lc M.bJ::nF (oI G Cf) y.lk M.cX::nF (nO Cf) y.lq M.cL::H.fP G y.hb Cf M.home::fD Cf y.mb M.dS::lU Cf y.fb M.jT::L'):=by
  have f:=(f.cF (aF q 0 [.slice y.al M.log.length y.cl]) (vH y.al y.cl M.log)).A9
  have f:Hs G h (veR q y.al y.cl M.log::_):=f
  have f:=(f.cK (kE Pr 88 (kI 26) 13 e d l (.ready,none)) (aF p 0 [.slice none 0 0]) (vH none 0 [])).Gn
  have f:=Hs.vA (A:=fun x:Option Addr×Nat=>sp [kE Pr 88 (kI 26) 13 e d l (.ready,none),aF p 0 [.slice x.1 ([]:List Ev).length x.2],vH x.1 x.2 []]) (none,0) f
  exact f.to
 refine(aJx (q:=q) (a:=y.al) (c:=y.cl) (l:=M.log) (by omega)).fold (X:=fun done=>clX p e d l done) (Z:=fun _ _=>uH False) f ?_ ?_ ?_
 .intro done x h T r f;have t:done.length<1999:=by have:=r.length_le;simp at this;omega
  obtain⟨⟨a,c⟩,f⟩:=f.yP
  have f:=f.wP
  refine rW (rK f) u (bG f fun p1 h f=>ax (b:=p1) f fun h f=>gS f fun h f=>am p f rfl (an p1 f (l:=x.enc) rfl rfl (aI (c:=x.enc) rfl (dA (W:=7) (n:=1) (c:=1) f rfl rfl rfl fun E h f=>?_))))
  have f:=tO (enc:=Ev.enc) (x:=x) f
  refine H5 (l:=done) (v:=x) (a:=a) (c:=c) (by omega) f fun g i h f=>ax (b:=p) f fun h f=>gV f fun h f=> .inl ⟨rfl,?_⟩
  have f:=(f.cK (kE Pr 88 (kI 26) 13 e d l (.ready,none)) (aF p 0 [.slice g (done++[x]).length i]) (vH g i (done++[x]))).Gn
  exact(Hs.vA (A:=fun z:Option Addr×Nat=>sp [kE Pr 88 (kI 26) 13 e d l (.ready,none),aF p 0 [.slice z.1 (done++[x]).length z.2],vH z.1 z.2 (done++[x])]) (g,i) f).to
 .intro v h f;obtain⟨⟨a,c⟩,f⟩:=(f.front (clX p e d l M.log)).yP;have f:=f.wP;have f:=(f.front (veR q y.al y.cl M.log)).Bq;refine mC f fun h f=>lT (am p f rfl (kN f fun h f=>iF (w a c _ ?_)));exact(bB (m:=m) (x:=y) M B f).to
 .intro done x v h r f;obtain⟨s,_⟩:=(f.front (uH False)).jr;exact s.elim
def kV (d r:Int) (o:Bool) (v:Value):List Value:=[I d,I r,.bool o,v]
theorem aCl {p2 pr f:Nat} {d r:Int} {sv:List Value} (hC:Cf.Ok) (hG:Gb G) (g:eK Cf N M) (t:N<2000) (q:sv.length=4) (s:sv.all dV=true) (e:Hs G h (bI G Cf m M::aF f 0 (kV d r false (.slice none 0 0))::aF pr 0 sv::aF p2 0 (qV Cf pv wv ov vv dv)::L))
  (p:∀a c i,Hs G i (vH a c M.log::L)->Q (.tuple ⟨[.agg ⟨kV d r (M.over Cf) (.slice a M.log.length c)⟩,I 0]⟩) i):Dd 14 5 [] Q [pt pr 0 0,pt m 0 0,pt f 0 0] h:=by
 have k:=g.log
 match sv,q with
 |[u,s1,s2,s3],_=>
 refine bW (W4 hC hG g.jT.len (g.home.h (by omega)) e fun h e=>aA (bC (b:=f) (o:=0) (j:=2) (c:=kV d r false (.slice none 0 0)) (vs:=[.bool (M.over Cf)]) e rfl rfl rfl rfl fun h e=>?_))
 refine aBs (Cf:=Cf) (M:=M) (m:=m) (by omega) e fun a c h e=>aA (bC (b:=f) (o:=0) (j:=3) (c:=kV d r (M.over Cf) (.slice none 0 0)) (vs:=[.slice a M.log.length c]) e rfl rfl rfl rfl fun h e=>?_)
 refine an f e (l:=kV d r (M.over Cf) (.slice a M.log.length c)) rfl rfl (ax (b:=pr) e fun h e=>an pr e (l:=kV d r (M.over Cf) (.slice a M.log.length c)) rfl rfl (p a c h ?_))
 exact e.to
end
section
set_option maxRecDepth 100000
variable {G:Bg} {h:AH} {L L':List HP} {Q:Value->AH->Prop} {C Cf:bM} {m N:Nat} {M:cN} {pv wv ov vv dv:Value} {ps:List (List Ins)} {ws os vs:List Int} {dl:List Do}
abbrev tl0:List Value:=[I 0,I 0,.bool false,.slice none 0 0]
theorem zx {p2 pr p1:Nat} {S:Nat->aX} {M0:cN} (hC:C.Ok) (hG:Gb G) (y:Hn G dv dl) (F:dl.length<=500) (t:Mc.cj C S 0 M0)
  (B:∀a c s,Hs G s (vH a c (M0.runs C dl).log::L)->Q (.tuple ⟨[.agg ⟨kV (M0.iG C dl) ((dl.length:Int) - M0.iG C dl) ((M0.runs C dl).over C) (.slice a (M0.runs C dl).log.length c)⟩,I 0]⟩) s):
  ∀(f i:Nat) (h:AH),i+f=dl.length->Hs G h (bI G C m (M0.runs C (dl.take i))::aF p1 0 (kV (M0.iG C (dl.take i)) ((i:Int) - M0.iG C (dl.take i)) false (.slice none 0 0))::aF pr 0 tl0::aF p2 0 (qV C pv wv ov vv dv)::L)->
   Dd 14 3 [] Q [pt pr 0 0,pt m 0 0,pt p1 0 0,dv,I dl.length,I i] h:=by
 intro f
 induction f with
 |zero=>
  intro i h A g
  obtain rfl:i=dl.length:=by omega
  have hA:=t.runs (l:=dl) hC
  rw[List.take_length] at g
  exact bW (aM (aaa (aCl (sv:=tl0) hC hG hA.inv (by omega) rfl rfl g B)))
 |succ f k=>
  intro i h A g
  obtain⟨d,r,z⟩:=mU (l:=dl) (i:=i) (by omega)
  have hA:=t.runs (l:=dl.take i) hC
  have E:(dl.take i).length=i:=by rw[List.length_take];omega
  have q:=qD (C:=C) (l:=dl.take i) (M:=M0)
  have k:=k (i+1)
  rw[Js r,<-P4 r] at k
  generalize x:M0.runs C (dl.take i)=M at g k hA
  generalize w:M0.iG C (dl.take i)=D at g k q
  have g:=Si y g
  refine bW (aM (aad (bW (Ul g (by decide) (Ff r) (bG g.tail fun u h g=>ax (b:=u) g fun h g=>an u g (l:=d.enc) rfl rfl (aI (c:=d.enc) rfl (dA (W:=4) (n:=1) (c:=1) g rfl rfl rfl fun a h g=>?_)))))))
  have g:=g.cF (cU 4 52 (some a) 1 (1,d.enc)) (bI G C m M)
  refine uu (M:=M) (m:=m) hC hG hA.inv (by omega) g fun h g=>?_
  rw[Wu]
  by_cases e:(M.vJ C d).2=0
  .rw[aNa e] at k ⊢;refine aH rfl (aH rfl (aZ (bE rfl (bW ?_))));refine aA (am p1 g (v:=I D) rfl (aac (aA (bC (b:=p1) (o:=0) (j:=0) (c:=kV D ((i:Int) - D) false (.slice none 0 0)) (vs:=[I ((D:Int)+1)]) g rfl rfl rfl rfl fun h g=>aac (k h (by omega) ?_)))));have p:kV ((D+1:Nat):Int) (((i+1:Nat):Int) - ((D+1:Nat):Int)) false (.slice none 0 0)=dH (kV D ((i:Int) - D) false (.slice none 0 0)) (0+0) [I ((D:Int)+1)]:=by
    show[_,_,_,_]=[_,_,_,_];rw[show(((i+1:Nat):Int) - ((D+1:Nat):Int))=(i:Int) - D by omega];rfl
   rw[p]
   exact g.to
  .rw[aN9 e] at k ⊢;refine aH rfl (aH rfl (aZ (aJ e (bW ?_))));refine aA (am p1 g (v:=I ((i:Int) - D)) rfl (aac (aA (bC (b:=p1) (o:=0) (j:=1) (c:=kV D ((i:Int) - D) false (.slice none 0 0)) (vs:=[I ((i:Int) - D+1)]) g rfl rfl rfl rfl fun h g=>aac (k h (by omega) ?_)))));have p:kV ((D+0:Nat):Int) (((i+1:Nat):Int) - ((D+0:Nat):Int)) false (.slice none 0 0)=dH (kV D ((i:Int) - D) false (.slice none 0 0)) (0+1) [I ((i:Int) - D+1)]:=by
    show[_,_,_,_]=[_,_,_,_];rw[show(((i+1:Nat):Int) - ((D+0:Nat):Int))=(i:Int) - D+1 by omega];rfl
   rw[p]
   exact g.to
theorem Zc {e:Int} (h:jK C ps ws os vs dl=e) (a:e=0):wF C ps ws os vs=0/\Bk dl=0:=by
 subst h;unfold jK at a;by_cases b:wF C ps ws os vs=0;rw[aN9 (fun n=>n b)] at a;exact⟨b,a⟩;rw[aNa b] at a;exact absurd a b
abbrev C7 (C:bM) (ps:List (List Ins)) (ws os vs:List Int):cN:=MC.new ⟨C,ps,ws,os,vs⟩
theorem F0 (i:j9 ps ws os vs dl) (hG:Gb G) (k:Ob G 0 mY) (hA:ScA G pv wv ov vv dv ps ws os vs dl) (d:Hs G h L)
  (q:jK C ps ws os vs dl≠0->∀g,Hs G g L->Q (.tuple ⟨[.agg ⟨tl0⟩,I (jK C ps ws os vs dl)]⟩) g)
  (r:jK C ps ws os vs dl=0->∀a c g,Hs G g (vH a c ((C7 C ps ws os vs).runs C dl).log::L)->
   Q (.tuple ⟨[.agg ⟨kV ((C7 C ps ws os vs).iG C dl) ((dl.length:Int) - (C7 C ps ws os vs).iG C dl) (((C7 C ps ws os vs).runs C dl).over C) (.slice a ((C7 C ps ws os vs).runs C dl).log.length c)⟩,I 0]⟩) g):
  Cl Pr K 14 [.agg ⟨qV C pv wv ov vv dv⟩] h Q:=by
 have t:=i.p
 have u:=i.w
 have s:=i.o
 have p:=i.d
 refine cW (dB (cs:=qV C pv wv ov vv dv) d fun f h d=>bG d fun pr h d=>an f d (l:=qV C pv wv ov vv dv) rfl rfl ?_)
 refine Zj i hG k hA d (fun e h d=>?_) fun e h d=>?_
 .exact aH rfl (aH rfl (aT (bE e (aI (c:=tl0) rfl (ax (b:=pr) d fun h d=>an pr d (l:=tl0) rfl rfl (q e h d.to))))))
 obtain⟨j,_⟩:=Zc e rfl
 obtain⟨hC,_⟩:=xT j
 refine aH rfl (aH rfl (aT (aaa (bW (aA (gD (b:=f) (o:=0) d (by decide) (l:=cu C pv wv ov vv) rfl rfl ?_))))))
 refine Iy (Cf:=C) (by omega) hG k hA.old d (fun e h d=>absurd j e) fun _ m h d=>?_
 refine aH rfl (aH rfl (aT (aaa (bW (bG d fun p1 h d=>aA (am f d (v:=dv) rfl (Jb hA.Y1 ?_)))))))
 refine zx (p2:=f) (pr:=pr) (p1:=p1) (m:=m) (M0:=C7 C ps ws os vs) (pv:=pv) (wv:=wv) (ov:=ov) (vv:=vv) hC hG hA.Y1 p (Sq j) (fun a c h d=>r e a c h d) dl.length 0 h (by omega) ?_
 have d:Hs G h (bI G C m (C7 C ps ws os vs)::aF p1 0 tl0::aF pr 0 tl0::aF f 0 (qV C pv wv ov vv dv)::L):=d.to
 exact d
theorem Xb (f:ps.length<=9223372036854775807) (hA:ScA G pv wv ov vv dv ps ws os vs dl) (a:Hs G h L) (g:j9 ps ws os vs dl->dl.length<=200->∀c,Hs G c L->Q (.bool true) c) (e:∀c,Hs G c L->Q (.bool false) c):
  Cl Pr K 13 [.agg ⟨qV C pv wv ov vv dv⟩] h Q:=by
 refine cW (dB (cs:=qV C pv wv ov vv dv) a fun p h a=>aA (gD (b:=p) (o:=0) a (by decide) (l:=cu C pv wv ov vv) rfl rfl ?_))
 refine aEu f hA.old a (fun d h a=>eN (aA (am p a (v:=dv) rfl (Jb hA.Y1 (sN ?_))))) (fun h a=>bX (e h a.tail))
 by_cases g4:(dl.length:Int)<=200
 .rw[decide_eq_true g4];exact g ⟨d.1,d.2.1,d.2.2.1,d.2.2.2,by omega⟩ (by omega) _ a.tail
 .rw[decide_eq_false g4];exact e _ a.tail
theorem Uj (t:j9 ps ws os vs dl) (hG:Gb G) (A:Ob G 0 mY) (hA:ScA G pv wv ov vv dv ps ws os vs dl) (a:Hs G h L) (y:∀k,Hs G k L->Q (I (jK C ps ws os vs dl)) k):
  Cl Pr K 15 [.agg ⟨qV C pv wv ov vv dv⟩] h Q:=by
 have H:=t.p
 have J:=t.w
 have F:=t.o
 have E:=t.d
 refine cW (dB (cs:=qV C pv wv ov vv dv) a fun p h a=>aA (gD (b:=p) (o:=0) a (by decide) (l:=cu C pv wv ov vv) rfl rfl ?_))
 have loop:∀{M:List HP} (f i:Nat) (e:Int) (h:AH),i+f=dl.length->jK C ps ws os vs dl=(if e≠0 then e else Bk (dl.drop i))->(∀k,Hs G k M->Hs G k L)->Hs G h (aF p 0 (qV C pv wv ov vv dv)::M)->Dd 15 1 [] Q [pt p 0 0,I e,I i] h:=by
  intro M f;induction f with
  |zero=>
   intro i e h B g q a;have:=y h (q h a.tail);rw[g,List.drop_of_length_le (by omega)] at this;have z:(if e≠0 then e else Bk [])=e:=by split;rfl;rename_i n;exact(Decidable.not_not.1 n).symm
   rw[z] at this;exact bW (aA (am p a (v:=dv) rfl (Jb hA.Y1 (aM (aaa this)))))
  |succ f D=>
   intro i e h B g q a;obtain⟨d,x,w⟩:=mU (l:=dl) (i:=i) (by omega);refine bW (aA (am p a (v:=dv) rfl (Jb hA.Y1 (aM (aad (aZ (aQ (fun c=>bW ?_) (fun c=>?_))))))));subst c;rw[aN9 (fun n=>n rfl),w] at g;refine aU a fun r h a=>?_;have a:=Si hA.Y1 a;refine aA (am p a (v:=dv) rfl (xa a (Ff x) (j:=0) (u:=I d.eI) rfl ?_));refine aA (am p a (v:=dv) rfl (xa a (Ff x) (j:=2) (u:=I d.b) rfl ?_));refine aA (am p a (v:=dv) rfl (xa a (Ff x) (j:=3) (u:=I d.c) rfl ?_));refine Wv (aac (D (i+1) _ h (by omega) ?_ q ?_));rw[g];show(if rC d=true then 1 else Bk (dl.drop (i+1)))=_;by_cases s:rC d=true;rw[aNa s,aNa s,aNa (by decide)];rw[aN9 s,aN9 s,aN9 (fun n=>n rfl)];exact a.to;have:=y h (q h a.tail);rw[g,aNa c] at this;exact this
 refine Iy (Cf:=C) (by omega) hG A hA.old a (fun g h a=>?_) fun g m h a=>?_
 .refine aH rfl (aH rfl (loop (M:=L) dl.length 0 _ h (by omega) ?_ (fun h a=>a) a));unfold jK;rw[aNa g,aNa g]
 .refine aH rfl (aH rfl (loop (M:=bI G C m (MC.new ⟨C,ps,ws,os,vs⟩)::L) dl.length 0 _ h (by omega) ?_ (fun h a=>a.tail) a.to));unfold jK;rw[aN9 (fun n=>n g),aN9 (fun n=>n rfl)];rfl
end
end Go.Proofs.YtcjlkjeeifemhaaGreatDoor
end
namespace Go.Proofs.YtcjlkjeeifemhaaGreatDoor
open Go Go.Ab Go.Hm Go.At Go.Mc Go.Ct Go.Nt Go.Is Go.Sc
section
theorem aGj {a:Bool} {k:Value->Prop} (b:k (.bool false)):aY (Q2 .neq (.bool a) (.bool a)) k:=⟨_,by cases a<;>rfl,b⟩
set_option maxRecDepth 100000
attribute [local irreducible] aY Br oM tU tZ Bj kK tW jJ Oy gO lN oP nQ nD iK vN tD I5 Q2 Nf M1 Sb Nl J1 Nj Pc kA mM qI iH copyV gW uU S4 S7 Fa jD Le O1 Ta lS oS wJ yB Cl yG Rz qY qM iP eP cI bS
variable {G:Bg} {h:AH} {L L':List HP} {Q:Value->AH->Prop} {C Cf:bM} {m N:Nat} {M:cN} {pv wv ov vv dv:Value} {ps:List (List Ins)} {ws os vs:List Int} {dl:List Do}
theorem aC1 {p2 p5:Nat} {S:Nat->aX} {M0:cN} (hC:C.Ok) (hG:Gb G) (k:Hn G dv dl) (A:dl.length<=500) (t:Mc.cj C S 0 M0)
  (y:∀r,Hs G r (bI G C m (M0.runs C dl)::aF p2 0 (qV C pv wv ov vv dv)::L)->Dd 4 6 [] Q [pt p2 0 0,pt p5 0 0,I 0,pt m 0 0,I (M0.iG C dl)] r):
  ∀(f i:Nat) (h:AH),i+f=dl.length->Hs G h (bI G C m (M0.runs C (dl.take i))::aF p2 0 (qV C pv wv ov vv dv)::L)->
   Dd 4 4 [] Q [pt p2 0 0,pt p5 0 0,I 0,pt m 0 0,I (M0.iG C (dl.take i)),I i] h:=by
 intro f
 induction f with
 |zero=>
  intro i h x g
  obtain rfl:i=dl.length:=by omega
  rw[List.take_length] at g ⊢
  exact bW (aA (am p2 g (v:=dv) rfl (Jb k (aM (aaa (y h g))))))
 |succ f j=>
  intro i h x g
  obtain⟨d,q,w⟩:=mU (l:=dl) (i:=i) (by omega)
  have hA:=t.runs (l:=dl.take i) hC
  have z:(dl.take i).length=i:=by rw[List.length_take];omega
  have p:=qD (C:=C) (l:=dl.take i) (M:=M0)
  have j:=j (i+1)
  rw[Js q,<-P4 q] at j
  generalize u:M0.runs C (dl.take i)=M at g j hA
  generalize s:M0.iG C (dl.take i)=D at j p ⊢
  have g:=Si k g
  refine bW (aA (am p2 g (v:=dv) rfl (Jb k (aM (aad (bW (aA (am p2 g (v:=dv) rfl (Ul g (by decide) (Ff q) (aI (c:=d.enc) rfl (dA (W:=4) (n:=1) (c:=1) g.tail rfl rfl rfl fun a h g=>?_)))))))))))
  have g:=g.cF (cU 4 52 (some a) 1 (1,d.enc)) (bI G C m M)
  refine uu (M:=M) (m:=m) hC hG hA.inv (by omega) g fun h g=>?_
  rw[Wu]
  by_cases e:(M.vJ C d).2=0
  .rw[aNa e] at j ⊢;exact aH rfl (aH rfl (bA (by dsimp only;omega) (aac (j h (by omega) g))))
  .rw[aN9 e] at j ⊢;exact aH rfl (aH rfl (bA (by dsimp only;omega) (aac (j h (by omega) g))))
theorem xq {p5 w:Nat} {a1 a2:Option Addr} {c1 c2:Nat} {tv:List Value} {l:List Ev} (F:w=l.length) (hb:l.length<2000) (H:tv[3]?=some (.slice a1 w c1)) (hR:∀v∈l,eR v) (s:∀y,Q (.bool true) y):
  ∀(f i:Nat) (h:AH),i+f=l.length->Hs G h (vH a1 c1 l::vH a2 c2 l::aF p5 0 tv::L)->Dd 4 8 [] Q [pt p5 0 0,.slice a2 l.length c2,I i] h:=by
 subst F
 intro f
 induction f with
 |zero=>
  intro i h B d
  exact bW (bH (aM (aaa (jI (s h)))))
 |succ f K=>
  intro i h B d
  obtain⟨x,t,A⟩:=mU (l:=l) (i:=i) (by omega)
  have q:∀v∈evL x,fU v:=hR x (List.mem_of_getElem? t)
  refine bW (bH (aM (aad (bW (qC (l:=l) (a:=a2) (c:=c2) (enc:=Ev.enc) (e:=24) d (by decide) (by omega) (by rw[Int.toNat_natCast];exact t) (bG d fun g h d=>ax (b:=g) d fun h d=>aU d fun P h d=>?_))))))
  refine aA (am p5 d H (qC (l:=l) (a:=a1) (c:=c1) (enc:=Ev.enc) (e:=24) d (by decide) (by omega) (by rw[Int.toNat_natCast];exact t) (an g d (l:=x.enc) rfl rfl (tf (aJ (fun n=>n rfl) ?_)))))
  have p:=d
  refine an g d (l:=x.enc) rfl rfl (aAw q d fun h d=>?_)
  have E:(F3 x).length<=147:=qL q
  have cat:∀{k:Value->Prop},k (tx (F3 x++[10]))->aY (I5 .add (tx (F3 x)) (tx [10])) k:=fun s=>jE (by simp;omega) s
  have u:fU x.core:=q _ (by simp[evL])
  have r:∀v∈[x.at',x.op,x.world,x.word,x.value,x.code],fU v:=fun v J=>q v (List.mem_cons_of_mem _ J)
  have j:=d
  refine cat (aA (am g d (v:=I x.core) rfl (zf u d fun O d=>?_)))
  refine aA (am g d (v:=I x.at') rfl (aA (am g d (v:=I x.op) rfl (aA (am g d (v:=I x.world) rfl (aA (am g d (v:=I x.word) rfl (aA (am g d (v:=I x.value) rfl (aA (am g d (v:=I x.code) rfl (?_))))))))))))
  refine aI (c:=[I x.at',I x.op,I x.world,I x.word,I x.value,I x.code]) rfl (gT (W:=1) (i:=26) (N:=30) (D:=[]) (n:=6) (c:=6) d rfl rfl rfl rfl rfl fun a h d=>?_)
  have z:=vV u
  refine aCn (l:=[x.at',x.op,x.world,x.word,x.value,x.code]) (a:=some a) (c:=6) r (by omega) (by show 6<=100;omega) d fun h d=>?_
  rw[<-Xr]
  refine aIe ?_
  exact bP (cat xp) (bP (cat xp) (bP (aA cG) (bP (am g p (v:=I x.core) rfl eG) (bP (aA cG) (bP (aA cG) (bP (am g p (v:=I x.at') rfl eG) (bP (am g j (v:=I x.at') rfl eG) (bP (aA cG) (bP (aA cG) (bP (am g p (v:=I x.op) rfl eG) (bP (am g j (v:=I x.op) rfl eG) (bP (aA cG) (bP (aA cG) (bP (am g p (v:=I x.world) rfl eG) (bP (am g j (v:=I x.world) rfl eG) (bP (aA cG) (bP (aA cG) (bP (am g p (v:=I x.word) rfl eG) (bP (am g j (v:=I x.word) rfl eG) (bP (aA cG) (bP (aA cG) (bP (am g p (v:=I x.value) rfl eG) (bP (am g j (v:=I x.value) rfl eG) (bP (aA cG) (bP (aA cG) (bP (am g p (v:=I x.code) rfl eG) (bP (am g j (v:=I x.code) rfl eG) (aJ (by simp) (bW (aac (K (i+1) h (by omega) d.to)))))))))))))))))))))))))))))))
theorem yu {p2 p5 D:Nat} {a1:Option Addr} {c1:Nat} (hC:C.Ok) (hG:Gb G) (f:Hn G dv dl) (k:dl.length<=500) (c:eK C N M) (j:N<2000) (hD:D<=dl.length) (hR:∀v∈M.log,eR v) (g:∀e,Q (.bool true) e)
  (a:Hs G h (bI G C m M::aF p2 0 (qV C pv wv ov vv dv)::vH a1 c1 M.log::aF p5 0 (kV D ((dl.length:Int) - D) (M.over C) (.slice a1 M.log.length c1))::L)):
  Dd 4 6 [] Q [pt p2 0 0,pt p5 0 0,I 0,pt m 0 0,I D] h:=by
 have d:=c.log
 refine bW (Xt (Cf:=C) (M:=M) (m:=m) (by omega) a fun i c2 h a=>aU a fun l h a=>aT (aaa (aA (am p5 a (v:=I D) rfl (aT (aaa (aA (am p5 a (v:=I ((dl.length:Int) - D)) rfl ?_))))))))
 refine aA (am p2 a (v:=dv) rfl (Jb f (zL (by omega) (aT (aaa (aA (am p5 a (v:= .bool (M.over C)) rfl ?_)))))))
 refine W4 hC hG c.jT.len (c.home.h (by omega)) a fun h a=>aGj (bX (aA (am p5 a (v:= .slice a1 M.log.length c1) rfl (bH (bH (aT (bP (aA cG) (bP (am p5 a (v:= .bool (M.over C)) rfl aEk) (aaa (bW ?_))))))))))
 exact xq (L:=L) (p5:=p5) (tv:=kV D ((dl.length:Int) - D) (M.over C) (.slice a1 M.log.length c1)) rfl (by omega) rfl hR g M.log.length 0 h (by omega) a.to
theorem M8 (u:ps.length<=9223372036854775807) (hG:Gb G) (k:Ob G 0 mY) (hA:ScA G pv wv ov vv dv ps ws os vs dl) (a:Hs G h L) (r:∀t,Q (.bool true) t):
  Cl Pr K 4 [.agg ⟨qV C pv wv ov vv dv⟩] h Q:=by
 refine cW (dB (cs:=qV C pv wv ov vv dv) a fun e h a=>an e a (l:=qV C pv wv ov vv dv) rfl rfl ?_)
 refine Xb u hA a (fun d s h a=>bT (dT (eN ?_))) (fun h a=>bT (dT (bX (jI (r _)))))
 have y:=d.p
 have z:=d.w
 have x:=d.o
 have w:=d.d
 refine bW (an e a (l:=qV C pv wv ov vv dv) rfl rfl (F0 d hG k hA a (fun g h a=>?_) fun g i j h a=>?_))
 .refine aH rfl (aH rfl (bG a fun c h a=>ax (b:=c) a fun h a=>an e a (l:=qV C pv wv ov vv dv) rfl rfl (Uj d hG k hA a fun h a=>aT (bE g (aZ (bE rfl ?_))))));refine aA (am c a (v:=I 0) rfl (aZ (bE rfl (aA (am c a (v:=I 0) rfl (aZ (bE rfl ?_)))))));exact aA (am c a (v:= .bool false) rfl (bT (eN (aA (am c a (v:= .slice none 0 0) rfl (bH (aZ (bE rfl (jI (r _))))))))))
 .obtain⟨p,_⟩:=Zc g rfl;obtain⟨hC,_⟩:=xT p;have f:=Sq p;have q:=f.runs (l:=dl) hC;have hR:=(xj hC (l:=dl) f.inv (aJe hA.pr hA.wr hA.vr)).log;refine aH rfl (aH rfl (bG a fun c h a=>ax (b:=c) a fun h a=>an e a (l:=qV C pv wv ov vv dv) rfl rfl (Uj d hG k hA a fun h a=>aT (aaa (bW ?_)))));refine aA (gD (b:=e) (o:=0) a (by decide) (l:=cu C pv wv ov vv) rfl rfl (Iy (Cf:=C) (by omega) hG k hA.old a (fun g h a=>absurd p g) fun _ m h a=>?_));refine aH rfl (aH rfl (aT (aaa (cS (bX (bW ?_))))));refine aC1 (p2:=e) (p5:=c) (m:=m) (pv:=pv) (wv:=wv) (ov:=ov) (vv:=vv) (M0:=C7 C ps ws os vs) (L:=vH i j ((C7 C ps ws os vs).runs C dl).log::aF c 0 (kV ((C7 C ps ws os vs).iG C dl) ((dl.length:Int) - (C7 C ps ws os vs).iG C dl) (((C7 C ps ws os vs).runs C dl).over C) (.slice i ((C7 C ps ws os vs).runs C dl).log.length j))::L) hC hG hA.Y1 d.d f
   (fun h a=>yu hC hG hA.Y1 d.d q.inv (by omega) qD hR r a) dl.length 0 h (by omega) ?_
  have a:Hs G h (bI G C m (C7 C ps ws os vs)::aF e 0 (qV C pv wv ov vv dv)::vH i j ((C7 C ps ws os vs).runs C dl).log::aF c 0 (kV ((C7 C ps ws os vs).iG C dl) ((dl.length:Int) - (C7 C ps ws os vs).iG C dl) (((C7 C ps ws os vs).runs C dl).over C) (.slice i ((C7 C ps ws os vs).runs C dl).log.length j))::L):=a.to
  exact a
end
end Go.Proofs.YtcjlkjeeifemhaaGreatDoor
