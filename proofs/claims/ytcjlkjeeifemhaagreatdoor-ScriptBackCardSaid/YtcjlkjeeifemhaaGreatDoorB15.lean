/- A part of the proof. -/
import Derived.Test.YtcjlkjeeifemhaaGreatDoorB14
import Derived.Test.YtcjlkjeeifemhaaGreatDoorB13
import Derived.Test.YtcjlkjeeifemhaaGreatDoorB9
namespace Go.Proofs.YtcjlkjeeifemhaaGreatDoor
open Go Go.Ab Go.Hm Go.Is Go.At Go.Mc Go.Sc
section
theorem Y7 {C:aZ} {k:Value->Prop} (b:k (.bool false)) {c0:Bool} (a:c0=true:=by kernel_rfl):O5 c0 [0,0,0,0,0,0,0] .neq (.agg ⟨C.enc⟩) (.agg ⟨C.enc⟩) k:=⟨a,_,by simp[Jd,jP,K1,Kv,aZ.enc],b⟩
theorem Z0 {a b c d:Int} {k:Value->Prop} (f:k (.bool false)) {c0:Bool} (e:c0=true:=by kernel_rfl):O5 c0 [0,0,0,0] .neq (.agg ⟨[I a,I b,I c,I d]⟩) (.agg ⟨[I a,I b,I c,I d]⟩) k:=⟨e,_,by simp[Jd,jP,K1,Kv],f⟩
set_option maxRecDepth 100000
attribute [local irreducible] aK Br vH sW vI tX iM tM gT Q2 qF uH sB mL mI eO rX vM Hb Oy K8 Kr N1 Hq Jd O5 Kq kK oK nZ gF copyV iP sL P0 Ha yK hQ Ku P1 Pn jL mP sA sN Cl yC Lu nO mZ fP eD aY aR
variable {G:Bg} {h:AH} {L L' M:List HP} {Q:Value->AH->Prop}
theorem F1 {v u:Value} {l:List Int} (n:l.length<2^32) (b:A.qM G v l) (d:A.qM G u l) (a:Hs G h L) (j:∀c,Hs G c L->Q (.bool true) c):Cl Pr K 63 [v,u] h Q:=by
 refine cW (vQ b (vQ d (bC (aaa (bW ?_)))));have loop:∀(f i:Nat) (h:AH),i+f=l.length->Hs G h L->Dd 63 2 [] Q [v,u,I i] h:=by
  intro f;induction f with
  |zero=>intro i h g a;exact bW (vQ b (aI (aaa (j h a))))
  |succ f k=>
   intro i h g a;have e:=List.getElem?_eq_getElem (l:=l) (i:=i) (by omega);refine bW (vQ b (aI (aad (bW (dW a fun q h a=>?_)))));refine fZ (A.iG b a) (x:=[I l[i]]) (by simp[A.nA,e]) rfl (fZ (A.iG d a) (x:=[I l[i]]) (by simp[A.nA,e]) rfl (bC (aaa (bW (aac ?_)))));exact k (i+1) h (by omega) a.tail
 exact loop l.length 0 h (by omega) a
theorem Zh {C:aZ} {pv wv ov vv dv pu D z B y:Value} {ps:List (List Ins)} {ws os vs:List Int} {dl:List Do} (T:ps.length<2^32/\ws.length<2^32/\os.length<2^32/\vs.length<2^32/\dl.length<2^32) (hp:∀p∈ps,p.length<2^32)
  (hA:Mw G pv wv ov vv dv ps ws os vs dl) (hB:Mw G pu D z B y ps ws os vs dl) (g:Hs G h L) (w:∀h',Hs G h' L->Q (.bool true) h'):
  Cl Pr K 22 [.agg ⟨jY C pv wv ov vv dv⟩,.agg ⟨jY C pu D z B y⟩] h Q:=by
 obtain⟨⟨vi,Y,s,V⟩,α,U,Z⟩:=hA.old
 obtain⟨⟨ui,X,t,J⟩,R,H,P⟩:=hB.old
 have lp:∀{k:Value->Prop},k (I ps.length)->aK (eO pv) k:=fun w=>A.gQ s (by simpa [Y] using w)
 have δ:∀{k:Value->Prop},k (I ps.length)->aK (eO pu) k:=fun w=>A.gQ t (by simpa [X] using w)
 refine cW (fK (cs:=jY C pv wv ov vv dv) g fun n h g=>fK (cs:=jY C pu D z B y) g fun r h g=>?_)
 refine aB (aB (kN (b:=n) (o:=0) g (by decide) (l:=C.enc) rfl rfl (aB (aB (kN (b:=r) (o:=0) g (by decide) (l:=C.enc) rfl rfl (Y7 (dK ?_)))))))
 refine aB (aB (am n g (v:=ov) rfl (aB (aB (am r g (v:=z) rfl (F1 T.2.2.1 U H g fun h g=>cC (dK ?_)))))))
 refine aB (aB (am n g (v:=vv) rfl (aB (aB (am r g (v:=B) rfl (F1 T.2.2.2.1 Z P g fun h g=>cC (dK ?_)))))))
 refine aB (aB (am n g (v:=wv) rfl (aB (aB (am r g (v:=D) rfl (F1 T.2.1 α R g fun h g=>cC (dK ?_)))))))
 refine aB (aB (am n g (v:=pv) rfl (lp (aB (aB (am r g (v:=pu) rfl (δ (bC (aaa ?_)))))))))
 refine aB (am n g (v:=dv) rfl (Mz hA.Ig (aB (am r g (v:=y) rfl (Mz hB.Ig (bC (aaa (bW ?_))))))))
 have Ig:∀(f i:Nat) (h:AH),i+f=dl.length->Hs G h (aM r 0 (jY C pu D z B y)::aM n 0 (jY C pv wv ov vv dv)::L)->Dd 22 6 [] Q [pt n 0 0,pt r 0 0,I i] h:=by
  intro f;induction f with
  |zero=>intro i h S g;exact bW (aB (am n g (v:=dv) rfl (Mz hA.Ig (aI (aaa (w h g.tail.tail))))))
  |succ f ih=>
   intro i h S g;have E:=List.getElem?_eq_getElem (l:=dl) (i:=i) (by omega);refine bW (aB (am n g (v:=dv) rfl (Mz hA.Ig (aI (aad (bW (dW g fun q h g=>?_)))))));refine aB (am n g (v:=dv) rfl (E5 (Pu hA.Ig g) (by decide) (x:=dl[i].enc) (by simp[E]) (aB (am r g (v:=y) rfl (E5 (Pu hB.Ig g) (by decide) (x:=dl[i].enc) (by simp[E]) (Z0 (a:=dl[i].what) (b:=dl[i].a) (c:=dl[i].b) (d:=dl[i].c) (dK ?_)))))));exact bW (aac (ih (i+1) h (by omega) g.to))
 have Wm:∀(f i:Nat) (h:AH),i+f=ps.length->Hs G h (aM r 0 (jY C pu D z B y)::aM n 0 (jY C pv wv ov vv dv)::L)->Dd 22 2 [] Q [pt n 0 0,pt r 0 0,I i] h:=by
  intro f;induction f with
  |zero=>intro i h S g;exact bW (aB (aB (am n g (v:=pv) rfl (lp (aI (aaa (bW (Ig dl.length 0 h (by omega) g))))))))
  |succ f ih=>
   intro i h S g;obtain⟨p,E,_⟩:=kI (l:=ps) (i:=i) (by omega);obtain⟨v,O,_⟩:=kI (l:=vi) (i:=i) (by omega);obtain⟨u,W,_⟩:=kI (l:=ui) (i:=i) (by omega);have hP:=V i v p O E;have F:=J i u p W E;have ε:=hp p (List.mem_of_getElem? E);have lv:∀{k:Value->Prop},k (I p.length)->aK (eO v) k:=fun w=>A.gQ hP (by rw[A.qT];exact w);have lu:∀{k:Value->Prop},k (I p.length)->aK (eO u) k:=fun w=>A.gQ F (by rw[A.qT];exact w);refine bW (aB (aB (am n g (v:=pv) rfl (lp (aI (aad (bW (dW g fun q h g=>?_))))))));refine aB (aB (am n g (v:=pv) rfl (fZ (eV (e:=3) (by simp) s g) (x:=[v]) (by simp[O]) rfl (lv ?_))));refine aB (aB (am r g (v:=pu) rfl (fZ (eV (e:=3) (by simp) t g) (x:=[u]) (by simp[W]) rfl (lu (bC (aaa (bW ?_)))))));have γ:∀(f j:Nat) (h:AH),j+f=p.length->Hs G h (aM r 0 (jY C pu D z B y)::aM n 0 (jY C pv wv ov vv dv)::L)->Dd 22 7 [] Q [pt n 0 0,pt r 0 0,I i,I j] h:=by
    intro f;induction f with
    |zero=>
     intro j h hj g;refine bW (aB (aB (am n g (v:=pv) rfl (fZ (eV (e:=3) (by simp) s g) (x:=[v]) (by simp[O]) rfl (lv (aI (aaa (bW (aac ?_)))))))));exact ih (i+1) h (by omega) g
    |succ f β=>
     intro j h hj g;have hy:=List.getElem?_eq_getElem (l:=p) (i:=j) (by omega);refine bW (aB (aB (am n g (v:=pv) rfl (fZ (eV (e:=3) (by simp) s g) (x:=[v]) (by simp[O]) rfl (lv (aI (aad (bW (dW g fun q h g=>?_)))))))));refine aB (aB (am n g (v:=pv) rfl (fZ (eV (e:=3) (by simp) s g) (x:=[v]) (by simp[O]) rfl (E5 (A.rP hP g) (by decide) (x:=p[j].enc) (by simp[A.qV,hy]) ?_))));refine aB (aB (am r g (v:=pu) rfl (fZ (eV (e:=3) (by simp) t g) (x:=[u]) (by simp[W]) rfl (E5 (A.rP F g) (by decide) (x:=p[j].enc) (by simp[A.qV,hy]) (Z0 (a:=p[j].op) (b:=p[j].a) (c:=p[j].b) (d:=p[j].c) (dK ?_))))));exact bW (aac (β (j+1) h (by omega) g.to))
   exact γ p.length 0 h (by omega) g.to
 exact Wm ps.length 0 h (by omega) g.to
end
end Go.Proofs.YtcjlkjeeifemhaaGreatDoor
section
open Go Go.Ab
attribute [local irreducible] aK Br vH sW vI tX iM tM gT Q2 qF uH sB mL mI eO rX vM Hb Oy K8 Kr N1 Hq Jd O5 Kq kK oK nZ gF copyV iP sL P0 Ha yK hQ Ku P1 Pn jL mP sA sN Cl yC Lu nO mZ fP eD aY aR
namespace Go.Proofs.YtcjlkjeeifemhaaGreatDoor
open Go Go.Ab Go.Hm Go.At Go.Mc Go.Nt
section
set_option maxRecDepth 100000
variable {G:Bg} {h:AH} {L L' M:List HP} {Q:Value->AH->Prop} {C:aZ}
end
end Go.Proofs.YtcjlkjeeifemhaaGreatDoor
namespace Go.Proofs.YtcjlkjeeifemhaaGreatDoor
open Go Go.Ab Go.Hm Go.At Go.Mc Go.Ct Go.Nt
section
set_option maxRecDepth 100000
variable {G:Bg} {h:AH} {L L':List HP} {Q:Value->AH->Prop} {Cf:aZ} {m N:Nat} {M:kL}
end
end Go.Proofs.YtcjlkjeeifemhaaGreatDoor
namespace Go.Proofs.YtcjlkjeeifemhaaGreatDoor
open Go Go.Ab Go.Hm Go.At Go.Mc Go.Ct Go.Nt Go.Is Go.Sc
section
set_option maxRecDepth 100000
variable {G:Bg} {h:AH} {L L':List HP} {Q:Value->AH->Prop} {C Cf:aZ} {m N:Nat} {M:kL} {pv wv ov vv dv:Value} {ps:List (List Ins)} {ws os vs:List Int} {dl:List Do}
end
section
set_option maxRecDepth 100000
variable {G:Bg} {h:AH} {L L':List HP} {Q:Value->AH->Prop} {C Cf:aZ} {m N:Nat} {M:kL} {pv wv ov vv dv:Value} {ps:List (List Ins)} {ws os vs:List Int} {dl:List Do}
theorem T6 (f:ps.length<=9223372036854775807) (hA:Mw G pv wv ov vv dv ps ws os vs dl) (a:Hs G h L) (g:Wz ps ws os vs dl->dl.length<=200->∀c,Hs G c L->Q (.bool true) c) (e:∀c,Hs G c L->Q (.bool false) c):
  Cl Pr K 13 [.agg ⟨jY C pv wv ov vv dv⟩] h Q:=by
 refine cW (fK (cs:=jY C pv wv ov vv dv) a fun p h a=>aB (kN (b:=p) (o:=0) a (by decide) (l:=tG C pv wv ov vv) rfl rfl ?_))
 refine bt f hA.old a (fun d h a=>fO (aB (am p a (v:=dv) rfl (Mz hA.Ig (mC ?_))))) (fun h a=>dK (e h a.tail))
 by_cases g4:(dl.length:Int)<=200
 .rw[decide_eq_true g4];exact g ⟨d.1,d.2.1,d.2.2.1,d.2.2.2,by omega⟩ (by omega) _ a.tail
 .rw[decide_eq_false g4];exact e _ a.tail
end
end Go.Proofs.YtcjlkjeeifemhaaGreatDoor
namespace Go.Proofs.YtcjlkjeeifemhaaGreatDoor
open Go Go.Ab Go.Hm Go.Is Go.At Go.Mc Go.Sc
section
theorem Ut:∀{l:List (Int×List Ins)},(l.map (·.1)).zip (l.map (·.2))=l
 |[]=>rfl
 |x::l=>by rw[List.map_cons,List.map_cons,List.zip_cons_cons,Ut]
theorem Ho.mono {G b:Bg} {pv wv ov vv:Value} {ps:List (List Ins)} {ws os vs:List Int} (a:G.Le b) (h:A.Ho G pv wv ov vv ps ws os vs):A.Ho b pv wv ov vv ps ws os vs:=by
 obtain⟨⟨n,c,d,e⟩,f,g,j⟩:=h;exact⟨⟨n,c,d.mono a,fun i v p l k=>eJ.mono a (e i v p l k)⟩,eJ.mono a f,eJ.mono a g,eJ.mono a j⟩
theorem Mw.mono {G a:Bg} {pv wv ov vv dv:Value} {ps:List (List Ins)} {ws os vs:List Int} {dl:List Do} (b:G.Le a) (h:Mw G pv wv ov vv dv ps ws os vs dl):Mw a pv wv ov vv dv ps ws os vs dl:=
 ⟨Ho.mono b h.old,eJ.mono b h.Ig,h.pr,h.wr,h.vr,h.dr⟩
theorem Gz {C:aZ} {ps:List (List Ins)} {ws os vs:List Int} {dl:List Do} (h:gW C ps ws os vs dl=0):oW C ps ws os vs=0/\Ax dl=0:=by
 unfold gW at h;by_cases a:oW C ps ws os vs=0;rw[tt (fun e=>e a)] at h;exact⟨a,h⟩;rw[tu a] at h;exact absurd h a
theorem xV {G:Bg} {C:aZ} {pv wv ov vv dv:Value} {ps:List (List Ins)} {ws os vs:List Int} {dl:List Do} (hA:Mw G pv wv ov vv dv ps ws os vs dl) (h:gW C ps ws os vs dl=0):
  (⟨C,os,vs,ws.zip ps,dl⟩:C5).Good/\(ws.zip ps).map (·.1)=ws/\(ws.zip ps).map (·.2)=ps/\(dl.length<=200->(gE C os vs (ws.zip ps) dl).length<=262144):=by
 obtain⟨s,t⟩:=Gz h
 obtain⟨hC,D,E,F,H,n5,n6,n7⟩:=vT s
 have o:=(aZ.fC hC).2.2
 have j:=hC
 unfold aZ.Ok at j
 have w:(ws.zip ps).map (·.1)=ws:=List.map_fst_zip (by omega)
 have z2:(ws.zip ps).map (·.2)=ps:=List.map_snd_zip (by omega)
 have e:∀p∈ps,(eT p).2=0/\(bN p).length<=5000:=fun p g=>by
  have n:=A.nH n5 p g;obtain⟨z,u⟩:=Is.eK n;have B:=P.nQ (p:=p) fun x c=>⟨qS (u x c),hA.pr p g x c⟩;unfold eT;rw[tu n];exact⟨rfl,by omega⟩
 have k:∀v∈rY C,dN v:=by
  intro v i;simp only[rY,List.mem_cons,List.not_mem_nil,or_false] at i;exact Xd (by rcases i with rfl|rfl|rfl|rfl|rfl|rfl|rfl<;>omega)
 have go:∀v∈os,dN v:=fun v i=>Xd (by have:=n7 v i;omega)
 have r:∀x∈ws.zip ps,dN x.1/\(bN x.2).length<=5000:=fun x c=>by
  have:=List.of_mem_zip (a:=x.1) (b:=x.2) c;exact⟨hA.wr _ this.1,(e _ this.2).2⟩
 refine⟨⟨k,go,hA.vr,fun x c=>?_,fun d f=>⟨Ml.1 t d f,hA.dr d f⟩⟩,w,z2,fun l=>?_⟩
 .have:=List.of_mem_zip (a:=x.1) (b:=x.2) c;exact⟨hA.wr _ this.1,hA.pr _ this.2,(e _ this.2).1⟩
 .have y:=Ja k go hA.vr (by omega) (by omega);have q:=rN r;have a3:=yV hA.dr;rw[List.length_zip] at q;unfold gE;simp only[List.length_append];omega
theorem M1 {G:Bg} {C:aZ} {pv wv ov vv dv:Value} {ps:List (List Ins)} {ws os vs:List Int} {dl:List Do} (b:dl.length<=200) (hA:Mw G pv wv ov vv dv ps ws os vs dl) (e:gW C ps ws os vs dl=0):Px (gE C os vs (ws.zip ps) dl) ⟨C,os,vs,ws.zip ps,dl⟩:=by
 obtain⟨d,i,z2,a⟩:=xV hA e;have a:=a b;have g:dl.length<=4096:=Nat.le_trans b (by decide);have c:oW C ((ws.zip ps).map (·.2)) ((ws.zip ps).map (·.1)) os vs=0:=by
  rw[i,z2];exact(Gz e).1
 have f:=Ro d;dsimp only at f;exact⟨f,a,g,c⟩
set_option maxRecDepth 100000
variable {G:Bg} {h:AH} {L L' M:List HP} {Q:Value->AH->Prop} {C:aZ} {pv wv ov vv dv:Value} {ps:List (List Ins)} {ws os vs:List Int} {dl:List Do}
theorem Ko {x:List UInt8} (F:x.length<=4000) (hG:Gb G) (w:Ob G 0 eP) (a:Hs G h L) (y:∀z,Q (.bool true) z):Dd 6 3 [] Q [tx x] h:=by
 refine bW (Ee (by omega) hG w a (fun _ e h D a=>?_) fun s ap aw j k i n q co p cd u h hP r a=>?_);refine aE rfl (aE rfl (eN (cs:=qG) a fun f h a=>ax (b:=f) a fun h a=>bC (bV D ?_)));refine aB (am f a (v:=bX) rfl (cM (dH (bV rfl (aB (aB (am f a (v:=bX) rfl (cM (dH (bV rfl (pU (y _))))))))))));obtain⟨g,c⟩:=Il hP.rd;obtain⟨H,I,J,K⟩:=Em c (congrArg List.length g.symm);refine aE rfl (aE rfl (eN (cs:=qG) a fun f h a=>ax (b:=f) a fun h a=>bC (aaa (bW ?_))));refine an f a (l:=Ai s.C ap aw j k i n q co p cd u.length s.cs.length s.os.length s.vs.length s.ds.length) rfl rfl ?_;have t:Hs G h (Gn ap aw j k i n q co p cd u (Ky s) s.os s.vs s.ds (aM f 0 (Ai s.C ap aw j k i n q co p cd u.length s.cs.length s.os.length s.vs.length s.ds.length)::L)):=a.to;have hA:=Fq r c t;have A:gW s.C (Xe s) (Ky s) s.os s.vs s.ds=0:=by
  unfold gW;rw[tt (fun e=>e hP.new)];exact Ml.2 fun d B=>(c.2.2.2.2 d B).1
 refine A3 (G:=B7 G h) (C:=s.C) ⟨by rw[List.length_map];omega,by rw[List.length_map];omega,by omega,by omega⟩ (hG.mono a.De) (w.mono a.De) hA a.B7 (fun e=>absurd A e) fun _ h E=>?_;rw[show(Ky s).zip (Xe s)=s.cs from Ut,<-g];exact aE rfl (aE rfl (dH (bV rfl (Ei (bV rfl (pU (y _)))))))
theorem Tn {x:List UInt8} {p2:Nat} (f:Wz ps ws os vs dl) (d:dl.length<=200) (z:gW C ps ws os vs dl=0) (hG:Gb G) (S:Ob G 0 eP) (hA:Mw G pv wv ov vv dv ps ws os vs dl) (F:x.length<=4000) (Y:∀T,Q (.bool true) T)
  (a:Hs G h (aM p2 0 (jY C pv wv ov vv dv)::L)):Dd 6 2 [] Q [tx x,pt p2 0 0,tx (gE C os vs (ws.zip ps) dl)] h:=by
 obtain⟨B,z1,z2,c⟩:=xV hA z
 have c:=c d
 have hP:=M1 d hA z
 have i:∀p∈ps,p.length<2^32:=fun p Z=>by
  have:=A.Dp (A.nH (vT (Gz z).1).2.2.2.2.2.1 p Z);omega
 have D:ps.length<2^32/\ws.length<2^32/\os.length<2^32/\vs.length<2^32/\dl.length<2^32:=by
  have U:=f.p;have V:=f.w;have W:=f.o;have X:=f.v;omega
 have same:∀(h:AH) (M:List HP) (pu P H O w:Value),Hs G h M->Mw (B7 G h) pu P H O w ps ws os vs dl->Cl Pr K 22 [.agg ⟨jY C pu P H O w⟩,.agg ⟨jY C pv wv ov vv dv⟩] h fun v9 R=>aK (Kq .not v9) fun v10=>Br v10 (Q (.bool false) R) (Dd 6 3 [] Q [tx x] R):=
  fun h M pu P H O w a hB=>Zh (G:=B7 G h) (C:=C) D i hB (hA.mono a.De) a.B7 fun h f=>cC (dK (Ko F hG S (a.Ij f) Y))
 generalize gE C os vs (ws.zip ps) dl=t at hP c
 refine bW (Ee (by omega) hG S a (fun E e h he a=>absurd hP (E _)) fun s ap aw n q k r v co u cd J h y g a=>?_)
 obtain rfl:=Fz y.rd hP.rd
 dsimp only[Ky,Xe] at a g
 dsimp only
 refine aE rfl (aE rfl (eN (cs:=qG) a fun I h a=>ax (b:=I) a fun h a=>bC (aaa ?_)))
 refine an I a (l:=Ai C ap aw n q k r v co u cd J.length (ws.zip ps).length os.length vs.length dl.length) rfl rfl (an p2 a (l:=jY C pv wv ov vv dv) rfl rfl ?_)
 have j:Hs G h (Gn ap aw n q k r v co u cd J ((ws.zip ps).map (·.1)) os vs dl (aM I 0 (Ai C ap aw n q k r v co u cd J.length (ws.zip ps).length os.length vs.length dl.length)::aM p2 0 (jY C pv wv ov vv dv)::L)):=a.to
 have hB:=Fq (s:=⟨C,os,vs,ws.zip ps,dl⟩) g B j
 dsimp only[Ky,Xe] at hB
 rw[z1,z2] at hB
 exact same h _ _ _ _ _ _ j hB
theorem Cb {x:List UInt8} (q:ps.length<=9223372036854775807) (hG:Gb G) (g:Ob G 0 eP) (hA:Mw G pv wv ov vv dv ps ws os vs dl) (a:Hs G h L) (f:∀k,Q (.bool true) k):
  Cl Pr K 6 [.agg ⟨jY C pv wv ov vv dv⟩,tx x] h Q:=by
 refine cW (fK (cs:=jY C pv wv ov vv dv) a fun j h a=>an j a (l:=jY C pv wv ov vv dv) rfl rfl ?_)
 refine T6 q hA a (fun i c h a=>cC (dK (pC (fY (bK (fun d=>pU (f _)) fun d=>bW ?_))))) (fun h a=>cC (fO (pU (f _))))
 have e:x.length<=4000:=by omega
 refine an j a (l:=jY C pv wv ov vv dv) rfl rfl (A3 i.l hG g hA a (fun p h a=>?_) fun n h a=>?_)
 .exact aE rfl (aE rfl (dH (aG p (Ko e hG g a f))))
 .exact aE rfl (aE rfl (dH (bV rfl (Tn i c n hG g hA e f a))))
end
end Go.Proofs.YtcjlkjeeifemhaaGreatDoor
end
