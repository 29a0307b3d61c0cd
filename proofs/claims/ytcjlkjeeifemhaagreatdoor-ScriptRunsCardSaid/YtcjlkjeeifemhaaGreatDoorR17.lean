/- A part of the proof. -/
import Derived.Test.YtcjlkjeeifemhaaGreatDoorR16
import Derived.Test.YtcjlkjeeifemhaaGreatDoorR14
import Derived.Test.YtcjlkjeeifemhaaGreatDoorR15
import Derived.Test.YtcjlkjeeifemhaaGreatDoorR9
section
open Go Go.Ab
attribute [local irreducible] aY Br oM tU tZ Bj kK tW jJ Oy gO lN oP nQ nD iK vN tD I5 Q2 Nf M1 Sb Nl J1 Nj Pc kA mM qI iH copyV gW uU S4 S7 Fa jD Le O1 Ta lS oS wJ yB Cl yG Rz qY qM iP eP cI bS
namespace Go.Proofs.YtcjlkjeeifemhaaGreatDoor
open Go Go.Ab Go.Hm Go.At Go.Mc Go.Nt
section
set_option maxRecDepth 100000
variable {G:Bg} {h:AH} {L L' M:List HP} {Q:Value->AH->Prop} {C:bM}
theorem jm {d:Int} {F:fM} {n:aK} {l:List aK}:fM.Du d F (n::l)=if((F n.core.toNat (fV n)).length:Int)<d then fM.Du d (F.put n) l else none:=rfl
theorem mf {n:aK} {l:List aK}:cL C (n::l)=if An C n≠0 then An C n else cL C l:=rfl
theorem U4 {l:List aK} (h:cL C l=0):∀n∈l,An C n=0:=by
 induction l with
 |nil=>intro n a;cases a
 |cons x l c=>
  unfold cL at h;split at h;rename_i b;exact absurd h b;rename_i b;intro n a;rcases List.mem_cons.1 a with rfl|a;omega;exact c h n a
theorem vx {f:Nat} {F:fM} {n:aK} {a2:Option Addr} {c2:Nat} (hC:C.Ok) (k:An C n=0) (o:((F n.core.toNat (fV n)).length:Int)<C.depth) {pl:Nat->Nat} {Q:Value->AH->Prop}
  (a:Hs G h (rP a2 c2 [n]::aF f 0 (lH C pl)::dC (4*C.aG.toNat) (nL C pl F)::L)) (g:∀e,Hs G e (aF f 0 (lH C pl)::dC (4*C.aG.toNat) (nL C pl (F.put n))::L)->Q (I 0) e):
  Cl Pr K 229 [pt (pl (n.core.toNat*4+fV n)) 0 0,.slice a2 1 c2] h Q:=by
 obtain⟨d,j⟩:=ye k
 have r:=(Jv d).1
 have q:=hC.1
 have b:n.core.toNat*4+fV n<4*C.aG.toNat:=by omega
 have c:(n.core.toNat*4+fV n)/4=n.core.toNat/\(n.core.toNat*4+fV n) % 4=fV n:=by omega
 have a:=Dq b (a.front (dC (4*C.aG.toNat) (nL C pl F)))
 rw[c.1,c.2] at a
 refine aBk (C:=C) (l:=F n.core.toNat (fV n)) (n:=n) hC.2.2.2.2.1 o a fun h a=>?_
 have a:Hs G h (nM C (pl (n.core.toNat*4+fV n)) (F n.core.toNat (fV n)++[n])::Yi C pl F (n.core.toNat*4+fV n)::aF f 0 (lH C pl)::L):=a.to
 have a:=Kl b a
 rw[c.1,c.2] at a
 exact g _ a.jN
theorem Ei {f:Nat} {F:fM} {l:List aK} {a:Option Addr} {c:Nat} (hC:C.Ok) (hd:∀c w,(F c w).length<=500) (hl:l.length<=100) (T:Ob G 3 xR) (ε:Ob G 1 gA) (d:Hs G h L) [m:Has (lU C f) L F L'] [m2:dQ (rP a c l) L' M]
  (S:∀h',Hs G h' (lU C f (fM.send C F l).1::rP a c l::M)->Q (I (fM.send C F l).2) h'):Cl Pr K 150 [pt f 0 0,.slice a l.length c] h Q:=by
 have hc:=hC.1
 have ι:1<=C.depth/\C.depth<=16:=hC.2.2.2.2.1
 obtain⟨pl,d⟩:=zP (m.of d)
 have d:Hs G h (rP a c l::aF f 0 (lH C pl)::dC (4*C.aG.toNat) (nL C pl F)::M):=d.perm (((m2.perm.cons _).cons _).trans (((List.Perm.swap _ _ _).cons _).trans (List.Perm.swap _ _ _)))
 unfold fM.send at S
 have P:∀{h:AH} {L2:List HP} {J:fM},[Sub L2 M]->Hs G h (rP a c l::aF f 0 (lH C pl)::dC (4*C.aG.toNat) (nL C pl J)::L2)->Hs G h (lU C f J::rP a c l::M):=by
  intro h L2 J _ d;have d:=d.cF (aF f 0 (lH C pl)) (dC (4*C.aG.toNat) (nL C pl J));exact(lK d).to
 have α:∀(k i:Nat) (j Fe:fM) (L2:List HP) (h:AH),[Sub L2 M]->i+k=l.length->cL C l=0->fM.Du C.depth F l=some Fe->fM.Du C.depth j (l.drop i)=some Fe->Hs G h (rP a c l::aF f 0 (lH C pl)::dC (4*C.aG.toNat) (nL C pl j)::L2)->
   Dd 150 10 [] Q [(pt f 0 0),(.slice a l.length c),(I l.length),(I i)] h:=by
  intro k
  induction k with
  |zero=>
   intro i j Fe L2 h _ hi q g O d
   rw[List.drop_of_length_le (by omega)] at O
   cases O
   rw[aab,g] at S
   exact bW (aM (aaa (S _ (P d))))
  |succ k ih=>
   intro i j Fe L2 h _ hi q g O d
   obtain⟨x,W,v⟩:=jP (l:=l) (i:=i) (by omega)
   have E:=U4 q x (List.mem_of_getElem? W)
   obtain⟨z,δ⟩:=ye E
   obtain⟨t,U⟩:=Jv z
   rw[v] at O
   unfold fM.Du at O
   split at O
   .rename_i V;refine bW (aM (aad (bW (qC (l:=l) (a:=a) (c:=c) (enc:=aK.enc) (e:=211) d (by decide) (by omega) (by rw[Int.toNat_natCast];exact W) (bG d fun u h d=>ax (b:=u) d fun h d=>aA (am u d rfl (N.fc T d ?_)))))));rw[aNa z,U];refine aH rfl (aH rfl (aT (aaa (bW (aU d fun r1 h0 B=>aA (am u B rfl (xF (C:=C) (pl:=pl) hC B ?_)))))));rw[aae];refine an u B (l:=x.enc) rfl rfl (aI (c:=x.enc) rfl (gT (r:=r1) (i:=6) (N:=9) (D:=[]) B rfl rfl rfl rfl rfl fun a2 h d=>?_));have d:=tO d;have d:Hs G h (rP (some a2) 1 [x]::aF f 0 (lH C pl)::dC (4*C.aG.toNat) (nL C pl j)::rP a c l::L2):=d.to;rw[show(x.core.toNat*4+((fV x:Nat):Int).toNat)=x.core.toNat*4+fV x by omega];refine vx (f:=f) hC E V d fun h d=>bP (an u B (l:=x.enc) rfl rfl (pW ?_)) (aT (aaa (bW (aac (ih (i+1) (j.put x) Fe L2 h (by omega) q g O d.to)))));simp[aK.enc,nN]
   .cases O
 have Z:∀(k i p:Nat) (j:fM) (L2:List HP) (h:AH),[Sub L2 M]->i+k=l.length->cL C l=0->fM.Du C.depth F l=fM.Du C.depth j (l.drop i)->(∀c w,(j c w).length<=500+i)->Hs G h (aF p 0 (vZ F j)::rP a c l::aF f 0 (lH C pl)::dC (4*C.aG.toNat) (nL C pl F)::L2)->
   Dd 150 6 [] Q [(pt f 0 0),(.slice a l.length c),(pt p 0 0),(.slice a l.length c),(I l.length),(I i)] h:=by
  intro k
  induction k with
  |zero=>
   intro i p j L2 h _ hi q g A d
   rw[List.drop_of_length_le (by omega)] at g
   refine bW (aM (aaa (bW (bH ?_))))
   exact α l.length 0 F j L2 h (by omega) q g (by rw[List.drop_zero];exact g) d.tail
  |succ k ih=>
   intro i p j L2 h _ hi q g A d
   obtain⟨x,W,v⟩:=jP (l:=l) (i:=i) (by omega)
   have E:=U4 q x (List.mem_of_getElem? W)
   obtain⟨z,δ⟩:=ye E
   obtain⟨t,U⟩:=Jv z
   obtain⟨y,hy⟩:∃y:Nat,x.core=(y:Int):=⟨x.core.toNat,by omega⟩
   have X:x.core.toNat=y:=by omega
   rw[v,jm,X] at g
   have η:=A y (fV x)
   have θ:=hd y (fV x)
   refine bW (aM (aad (bW (qC (l:=l) (a:=a) (c:=c) (enc:=aK.enc) (e:=211) d (by decide) (by omega) (by rw[Int.toNat_natCast];exact W) (bG d fun u h d=>ax (b:=u) d fun h d=>aA (am u d rfl (N.fc T d ?_)))))))
   rw[aNa z,U]
   have H:x.enc[0+1]?=some (I (y:Int)):=by rw[<-hy];rfl
   have R:∀{J:fM},(vZ F J)[0+y*4+fV x*1]?=some (I (((J y (fV x)).length:Int) - (F y (fV x)).length)):=by
    intro J;rw[show 0+y*4+fV x*1=y*4+fV x by omega];exact qy (by omega) t
   have γ:dH (vZ F j) (0+y*4+fV x*1) [I (((j y (fV x)).length:Int) - (F y (fV x)).length+1)]=vZ F (j.put x):=by
    rw[show 0+y*4+fV x*1=y*4+fV x by omega];exact zp X rfl (by omega) t
   have β:(vZ F j).length=16:=by simp[vZ]
   refine aH rfl (aH rfl (aT (aaa (bW (aU d fun r1 h d=>aA (am u d H (fS (by omega) (fS t (am p d R (aac (fS (by omega) (fS t ?_))))))))))))
   refine bC (b:=p) (o:=0) d rfl (by rw[β];exact Nat.ble_eq_true_of_le (by omega)) rfl (by rw[β];rfl) fun h d=>?_
   rw[γ] at d
   refine aU d fun r2 h d=>aA (am u d H (fS (by omega) (fS t (am p d R (aA (am u d H ?_))))))
   have ζ:((j.put x) y (fV x)).length=(j y (fV x)).length+1:=by unfold fM.put fM.set;rw[X,aNa ⟨rfl,rfl⟩,List.length_append];rfl
   have d:=d.cF (aF f 0 (lH C pl)) (dC (4*C.aG.toNat) (nL C pl F))
   refine qq (C:=C) (F:=F) (x:=y) (y:=fV x) hC (fun c w=>by have:=hd c w;omega) (by omega) t d fun h d=>gZ ?_
   refine bP (aA cG) (bP (am u d H eG) (bP eG (bP (fS (by omega) cG) (bP (fS t cG) (bP (am p d R eG) ?_)))))
   rw[ζ]
   refine aQ (fun h1=>?_) (fun h1=>?_)
   .rw[aab] at g;rw[aab,g] at S;refine S _ ?_;have d:=d.cF (aF f 0 (lH C pl)) (dC (4*C.aG.toNat) (nL C pl F));exact(lK d).to
   .rw[aae] at g;refine bW (aac (ih (i+1) p (j.put x) L2 h (by omega) q g (fun c w=>?_) d.to));have h2:((j.put x) c w).length<=(j c w).length+1:=by
     unfold fM.put fM.set;split;rename_i e;rw[e.1,e.2];simp;omega
    have:=A c w
    omega
 have Y:∀(k i:Nat) (h:AH),i+k=l.length->cL C l=cL C (l.drop i)->Hs G h (rP a c l::aF f 0 (lH C pl)::dC (4*C.aG.toNat) (nL C pl F)::M)->
   Dd 150 2 [] Q [(pt f 0 0),(.slice a l.length c),(.slice a l.length c),(I l.length),(I i)] h:=by
  intro k
  induction k with
  |zero=>
   intro i h hi g d
   rw[List.drop_of_length_le (by omega)] at g
   refine bW (aM (aaa (bW (bG d fun p h d=>bH ?_))))
   refine Z l.length 0 p F M h (by omega) g (by rw[List.drop_zero]) (fun c w=>by have:=hd c w;omega) ?_
   have e:vZ F F=[I 0,I 0,I 0,I 0,I 0,I 0,I 0,I 0,I 0,I 0,I 0,I 0,I 0,I 0,I 0,I 0]:=by
    unfold vZ;simp only[Int.sub_self];rfl
   rw[e];exact d
  |succ k ih=>
   intro i h hi g d
   obtain⟨x,W,v⟩:=jP (l:=l) (i:=i) (by omega)
   rw[v,mf] at g
   refine bW (aM (aad (bW (qC (l:=l) (a:=a) (c:=c) (enc:=aK.enc) (e:=211) d (by decide) (by omega) (by rw[Int.toNat_natCast];exact W) (bG d fun u h d=>ax (b:=u) d fun h d=>aU d fun r1 h d=>aB (aA (an f d (l:=C.enc) rfl rfl (an u d (l:=x.enc) rfl rfl ?_))))))))
   refine N.aFt (C:=C) (n:=x) T ε d fun h d=>aT (aQ (fun h1=>?_) (fun h1=>?_))
   .rw[aNa h1] at g;rw[aNa (by rw[g];exact h1),g] at S;exact S _ (P (L2:=aF u 0 x.enc::M) d.to)
   .rw[aN9 h1] at g;exact bW (aac (ih (i+1) h (by omega) g d.to))
 refine cW (cS (bX (bW (bH ?_))))
 exact Y l.length 0 h (by omega) (by rw[List.drop_zero]) d
end
end Go.Proofs.YtcjlkjeeifemhaaGreatDoor
end
namespace Go.Proofs.YtcjlkjeeifemhaaGreatDoor
open Go Go.Ab Go.Hm Go.At Go.Mc Go.Nt
section
theorem ic {k:Value->Prop} (a:k (.bool true)):aY (Nf .eql (.pointer none) (.pointer none)) k:=⟨_,rfl,a⟩
set_option maxRecDepth 100000
attribute [local irreducible] aY Br oM tU tZ Bj kK tW jJ Oy gO lN oP nQ nD iK vN tD I5 Q2 Nf M1 Sb Nl J1 Nj Pc kA mM qI iH copyV gW uU S4 S7 Fa jD Le O1 Ta lS oS wJ yB Cl yG Rz qY qM iP eP cI bS
variable {G:Bg} {h:AH} {L L' M:List HP} {Q:Value->AH->Prop} {C:bM}
theorem Y9 {f:Nat} {F:fM} {x y w:Int} (hC:C.Ok) (v:∀c w,(F c w).length<=500) (a:Hs G h L) [m:Has (lU C f) L F L']
  (d:∀g,Hs G g (lU C f (fM.take C F x y w).1::L')->Q (.tuple ⟨[.agg ⟨(fM.take C F x y w).2.1.enc⟩,I (fM.take C F x y w).2.2]⟩) g):Cl Pr K 148 [pt f 0 0,I x,I y,I w] h Q:=by
 have A:=hC.1
 obtain⟨pl,a⟩:=zP (m.of a)
 unfold fM.take at d
 refine cW (bG (cs:=aK.zero.enc) a fun p h a=>cS (bX (bW (xF (C:=C) (pl:=pl) hC a ?_))))
 by_cases q:(0<=x/\x<C.aG)/\(0<=y/\y<4)
 .rw[aab] at d;rw[aNa q];refine cS (bX ?_);have j:x.toNat*4+y.toNat<4*C.aG.toNat:=by omega
  have k:(x.toNat*4+y.toNat)/4=x.toNat/\(x.toNat*4+y.toNat) % 4=y.toNat:=by omega
  have a:=Dq j (a.front (dC (4*C.aG.toNat) (nL C pl F)))
  rw[k.1,k.2] at a
  have fin:∀{h:AH} (l:List aK) (n:aK) (e:Int),Hs G h (nM C (pl (x.toNat*4+y.toNat)) l::Yi C pl F (x.toNat*4+y.toNat)::aF p 0 aK.zero.enc::aF f 0 (lH C pl)::L')->(∀g,Hs G g (lU C f (F.set x.toNat y.toNat l)::L')->Q (.tuple ⟨[.agg ⟨n.enc⟩,I e]⟩) g)->
    aY (oP 0 (.tuple ⟨[.agg ⟨n.enc⟩,I e]⟩)) fun v3=>aY (oP 1 (.tuple ⟨[.agg ⟨n.enc⟩,I e]⟩)) fun v4=>aY (tZ h 9 (pt p 0 0) v3) fun t=>aY (tU t 9 (pt p 0 0)) fun v6=>Q (.tuple ⟨[v6,v4]⟩) t:=by
   intro h l n e a z
   refine aH rfl (aH rfl (ax (b:=p) a fun h a=>an p a (l:=n.enc) rfl rfl (z _ ?_)))
   have a:=Kl j (a.cF (nM C (pl (x.toNat*4+y.toNat)) l) (Yi C pl F (x.toNat*4+y.toNat)))
   rw[k.1,k.2] at a
   have a:=a.cF (aF f 0 (lH C pl)) (dC (4*C.aG.toNat) (nL C pl (F.set x.toNat y.toNat l)))
   exact(lK a).to
  dsimp only at d
  refine Dt (C:=C) (l:=F x.toNat y.toNat) (by have:=v x.toNat y.toNat;omega) a (fun r h a=>?_) (fun r h a=>?_)
  .rw[aNa r] at d;refine fin _ _ _ a fun h a=>d _ ?_;have u:F.set x.toNat y.toNat (F x.toNat y.toNat)=F:=by
    funext c w;unfold fM.set;split;rename_i e;rw[e.1,e.2];rfl
   rw[u] at a
   exact a
  .rw[aN9 r] at d;exact fin _ _ _ a d
 .rw[aNa q] at d;rw[aN9 q];refine ic (eN (aI (c:=aK.zero.enc) rfl ?_));refine ax (b:=p) a fun h a=>?_;refine an p a (l:=aK.zero.enc) rfl rfl (d _ ?_);exact lK a.tail
theorem wo {f:Nat} {F:fM} {x y:Nat} (hC:C.Ok) (k:∀c w,(F c w).length<=500) (t:(x:Int)<C.aG) (u:y<4) (a:Hs G h L) [m:Has (lU C f) L F L']
  (o:∀q g,Hs G g (vnR q (F x y)::lU C f F::L')->Q (.func (.func 364) #[] #[pt q 0 0]) g):Cl Pr K 156 [pt f 0 0,I x,I y] h Q:=by
 have r:=hC.1
 obtain⟨pl,a⟩:=zP (m.of a)
 refine cW (xF (C:=C) (pl:=pl) hC a ?_)
 rw[aae]
 have b:x*4+y<4*C.aG.toNat:=by omega
 have d:(x*4+y)/4=x/\(x*4+y) % 4=y:=by omega
 have a:=Dq b a.jN
 rw[show((x:Int)).toNat*4+((y:Int)).toNat=x*4+y by omega]
 rw[d.1,d.2] at a
 refine nj (C:=C) (l:=F x y) (by have:=k x y;omega) a fun q h a=>o q _ ?_
 have a:=Kl b (a.cF (nM C (pl (x*4+y)) (F x y)) (Yi C pl F (x*4+y)))
 rw[d.1,d.2] at a
 have j:F.set x y (F x y)=F:=by
  funext c w;unfold fM.set;split;rename_i e;rw[e.1,e.2];rfl
 rw[j] at a
 have a:=a.cF (aF f 0 (lH C pl)) (dC (4*C.aG.toNat) (nL C pl F))
 exact(lK a).to
def tY (C:bM) (pl:Nat->Nat) (n:Nat):List Value:=C.enc++(List.range 16).map fun k=>if k<n then pt (pl k) 0 0 else .pointer none
theorem W5 {pl:Nat->Nat} {n p:Nat} (d:n<16):dH (tY C pl n) (7+n) [pt p 0 0]=tY C (bY pl n p) (n+1):=by
 unfold tY;have e:∀(A B:List Value) (j:Nat) (v:List Value),j+v.length<=B.length->dH (A++B) (A.length+j) v=A++dH B j v:=by
  intro A;induction A with
  |nil=>intro B j v c;simp
  |cons x A f=>intro B j v c;rw[List.cons_append,List.length_cons,show A.length+1+j=(A.length+j)+1 by omega];show x::dH (A++B) (A.length+j) v=_;rw[f B j v c];rfl
 rw[show 7+n=C.enc.length+n by simp[bM.enc],e _ _ _ _ (by simp;omega),Lq (_α:=Nat) d];congr 1;refine List.map_congr_left fun k _=>?_;by_cases a:k=n;subst a;rw[aNa rfl,aae,jA];rw[aN9 a];by_cases b:k<n;rw[aNa b,aae,Bh a];rw[aN9 b,aab]
theorem Es {pl:Nat->Nat} {n:Nat}:(tY C pl n).length=23:=by unfold tY;simp[bM.enc]
theorem fp {n p:Nat} {pl:Nat->Nat} {F:fM} (a:Hs G h (nM C p (F (n/4) (n % 4))::dC n (nL C pl F)::L)):Hs G h (dC (n+1) (nL C (bY pl n p) F)::L):=by
 refine Hs.V9 ?_;have b:nL C (bY pl n p) F n=nM C p (F (n/4) (n % 4)):=by unfold nL;rw[jA]
 rw[b];have a:=a.jN;have a:=sF (g:=nL C (bY pl n p) F) (fun j c=>by unfold nL;rw[Bh (by omega)]) a;exact a.jN
theorem np (hC:C.Ok) (g:Ob G 1 gA) (a:Hs G h L) (u:∀f t,Hs G t (lU C f (fun _ _=>[])::L)->Q (.tuple ⟨[pt f 0 0,I 0]⟩) t):Cl Pr K 48 [.agg ⟨C.enc⟩] h Q:=by
 have y:=hC.1;refine cW (dB a fun p h a=>an p a (l:=C.enc) rfl rfl (jS g a fun h a=>?_));rw[aNa hC];refine aT (aaa (bW (an p a (l:=C.enc) rfl rfl (aI (c:=tY C (fun _=>0) 0) rfl (dB a fun f h a=>aA (am p a rfl ?_))))));have inner:∀(k w x:Nat) (pl:Nat->Nat) (h:AH),w+k=4->(x:Int)<C.aG->(∀(pl:Nat->Nat) (h:AH),Hs G h (aF f 0 (tY C pl (4*x+4))::aF p 0 C.enc::dC (4*x+4) (nL C pl fun _ _=>[])::L)->Dd 48 6 [] Q [(pt p 0 0),(pt f 0 0),(I C.aG),(I x)] h)->
   Hs G h (aF f 0 (tY C pl (4*x+w))::aF p 0 C.enc::dC (4*x+w) (nL C pl fun _ _=>[])::L)->Dd 48 4 [] Q [(pt p 0 0),(pt f 0 0),(I x),(I C.aG),(I x),(I w)] h:=by
  intro k
  induction k with
  |zero=>
   intro w x pl h v d j a
   have:w=4:=by omega
   subst this
   exact bW (aM (aaa (j pl h a)))
  |succ k r=>
   intro w x pl h v d j a
   refine bW (aM (aad (bW (aA (am p a rfl (iw hC a fun q h a=>aH rfl (aH rfl (aT (aaa (bW (aB (aA (fS (by omega) (fS (by omega) ?_))))))))))))))
   refine bC (b:=f) (o:=0) a rfl (by rw[Es];exact Nat.ble_eq_true_of_le (by simp;omega)) rfl (by rw[Es];rfl) fun h a=>aac ?_
   rw[show 0+7+x*4+w*1=7+(4*x+w) by omega,W5 (by omega)] at a
   refine r (w+1) x (bY pl (4*x+w) q) h (by omega) d j ?_
   have a:=a.cF (nM C q []) (dC (4*x+w) (nL C pl fun _ _=>[]))
   have a:=fp (F:=fun _ _=>[]) a
   exact(show Hs G h (aF f 0 (tY C (bY pl (4*x+w) q) (4*x+(w+1)))::aF p 0 C.enc::dC (4*x+(w+1)) (nL C (bY pl (4*x+w) q) fun _ _=>[])::L) from a.to)
 have outer:∀(k x:Nat) (pl:Nat->Nat) (h:AH),x+k=C.aG.toNat->Hs G h (aF f 0 (tY C pl (4*x))::aF p 0 C.enc::dC (4*x) (nL C pl fun _ _=>[])::L)->Dd 48 2 [] Q [(pt p 0 0),(pt f 0 0),(I C.aG),(I x)] h:=by
  intro k;induction k with
  |zero=>
   intro x pl h d a;refine bW (aM (aaa (u f h ?_)));have e:x=C.aG.toNat:=by omega
   subst e;have a:Hs G h (aF f 0 (lH C pl)::aF p 0 C.enc::dC (4*C.aG.toNat) (nL C pl fun _ _=>[])::L):=a;exact(lK (show Hs G h (aF f 0 (lH C pl)::dC (4*C.aG.toNat) (nL C pl fun _ _=>[])::L) from a.to))
  |succ k r=>
   intro x pl h d a;refine bW (aM (aad (bW ?_)));refine inner 4 0 x pl h (by omega) (by omega) (fun pl h a=>bW (aac (r (x+1) pl h (by omega) ?_))) a;exact(show Hs G h (aF f 0 (tY C pl (4*(x+1)))::aF p 0 C.enc::dC (4*(x+1)) (nL C pl fun _ _=>[])::L) from by rw[show 4*(x+1)=4*x+4 by omega];exact a)
 have a:=Hs.Wj (f:=nL C (fun _=>0) fun _ _=>[]) a;exact outer C.aG.toNat 0 (fun _=>0) h (by omega) (show Hs G h (aF f 0 (tY C (fun _=>0) 0)::aF p 0 C.enc::dC 0 (nL C (fun _=>0) fun _ _=>[])::L) from a.to)
end
section
theorem aH3 {n a i:Nat} {l m:List Value} {k:Value->Prop} (e:i<n) (c:i*a+a<=l.length) (d:(l.drop (i*a)).take a=m) (b:k (.agg ⟨m⟩)):aY (O1 n a (.agg ⟨l⟩) (I i)) k:=
 ⟨.agg ⟨m⟩,by unfold O1;simp only;rw[aNa ⟨by omega,by omega,by simpa using c⟩];simp[d],b⟩
set_option maxRecDepth 100000
attribute [local irreducible] aY Br oM tU tZ Bj kK tW jJ Oy gO lN oP nQ nD iK vN tD I5 Q2 Nf M1 Sb Nl J1 Nj Pc kA mM qI iH copyV gW uU S4 S7 Fa jD Le O1 Ta lS oS wJ yB Cl yG Rz qY qM iP eP cI bS
variable {G:Bg} {h:AH} {L L' M:List HP} {Q:Value->AH->Prop} {C:bM}
def kH (C:bM) (pl:Nat->Nat):List Value:=(List.range 16).map fun k=>if k<4*C.aG.toNat then pt (pl k) 0 0 else .pointer none
theorem C6 {pl:Nat->Nat}:(kH C pl).length=16:=by simp[kH]
theorem tq {pl:Nat->Nat} {x w:Nat} (b:x<4) (a:w<4):(((kH C pl).drop (x*4)).take 4)[w]?=some (if x*4+w<4*C.aG.toNat then pt (pl (x*4+w)) 0 0 else .pointer none):=by
 rw[List.getElem?_take_of_lt a,List.getElem?_drop];unfold kH;rw[List.getElem?_map,List.getElem?_range (by omega)];rfl
theorem j0 (a:Q (.pointer none) h):Cl Pr K 208 [.pointer none] h Q:=
 cW (ic (eN a))
theorem nk {pl:Nat->Nat} {n j:Nat} (d:n<=j) (a:j<16):dH (tY C pl n) (7+j) [.pointer none]=tY C pl n:=by
 unfold tY;have e:∀(A B:List Value) (j:Nat) (v:List Value),j+v.length<=B.length->dH (A++B) (A.length+j) v=A++dH B j v:=by
  intro A;induction A with
  |nil=>intro B j v a;simp
  |cons x A c=>intro B j v a;rw[List.cons_append,List.length_cons,show A.length+1+j=(A.length+j)+1 by omega];show x::dH (A++B) (A.length+j) v=_;rw[c B j v a];rfl
 rw[show 7+j=C.enc.length+j by simp[bM.enc],e _ _ _ _ (by simp;omega),Lq (_α:=Nat) a];congr 1;refine List.map_congr_left fun k _=>?_;by_cases b:k=j;rw[aNa b,aab];rw[aN9 b]
theorem au {f:Nat} {F:fM} (hC:C.Ok) (T:∀c w,(F c w).length<=500) (a:Hs G h L) [m:Has (lU C f) L F L'] (V:∀g O,Hs G O (lU C g F::lU C f F::L')->Q (pt g 0 0) O):Cl Pr K 147 [pt f 0 0] h Q:=by
 have Z:=hC.1;obtain⟨pl,a⟩:=zP (m.of a);refine cW (cS (bX (bW (aB (aA (an f a (l:=C.enc) rfl rfl (aI (c:=tY C (fun _=>0) 0) rfl (dB a fun g h a=>aB (aA (an f a (l:=kH C pl) ?_ C6 ?_))))))))));unfold lH kH;rw[show 0+7=C.enc.length by simp[bM.enc],List.drop_left,List.take_of_length_le (by simp)];let N:=4*C.aG.toNat;have inner:∀(k w x:Nat) (d:Nat->Nat) (t:List HP) (h:AH),[Sub t L']->w+k=4->x<4->(∀(d:Nat->Nat) (h:AH),Hs G h (aF g 0 (tY C d (min N (4*x+4)))::dC (min N (4*x+4)) (nL C d F)::aF f 0 (lH C pl)::dC N (nL C pl F)::t)->Dd 147 6 [] Q [(pt g 0 0),(.agg ⟨kH C pl⟩),(I x)] h)->
   Hs G h (aF g 0 (tY C d (min N (4*x+w)))::dC (min N (4*x+w)) (nL C d F)::aF f 0 (lH C pl)::dC N (nL C pl F)::t)->Dd 147 4 [] Q [(pt g 0 0),(I x),(.agg ⟨kH C pl⟩),(I x),(.agg ⟨((kH C pl).drop (x*4)).take 4⟩),(I w)] h:=by
  intro k
  induction k with
  |zero=>
   intro w x d t h _ W z E a
   have:w=4:=by omega
   subst this
   exact bW (aM (aaa (E d h a)))
  |succ k J=>
   intro w x d t h _ W z E a
   refine bW (aM (aad (bW (Tz (by omega) (tq z (by omega)) (aU a fun r h a=>?_)))))
   have fin:∀(v:Value) (y:Nat->Nat) (h:AH),dV v=true->Cv v [v]->dH (tY C d (min N (4*x+w))) (7+(4*x+w)) [v]=tY C y (min N (4*x+(w+1)))->
     Hs G h (aF g 0 (tY C d (min N (4*x+w)))::dC (min N (4*x+(w+1))) (nL C y F)::aF f 0 (lH C pl)::dC N (nL C pl F)::t)->
     aY (lN (pt g 0 0)) fun v4=>aY (gO 7 v4) fun v5=>aY (mM 4 4 v5 (I x)) fun v6=>aY (mM 4 1 v6 (I w)) fun X=>aY (tZ h 1 X v) fun R=>(nN (pt g 0 0) (pt g 0 0)=true)/\((nN (I x) (I x)=true)/\((nN (I w) (I w)=true)/\((aY (lN (pt g 0 0)) fun v9=>nN v9 v4=true)/\((aY (gO 7 v4) fun v10=>nN v10 v5=true)/\((aY (mM 4 4 v5 (I x)) fun v11=>nN v11 v6=true)/\(aY (tD .add (I w) (I 1)) fun v12=>Dd 147 4 [] Q [(pt g 0 0),(I x),(.agg ⟨kH C pl⟩),(I x),(.agg ⟨((kH C pl).drop (x*4)).take 4⟩),v12] R)))))):=by
    intro v y h H S U a
    refine aB (aA (fS z (fS (by omega) ?_)))
    refine bC (b:=g) (o:=0) a rfl (by rw[Es];exact Nat.ble_eq_true_of_le (by simp;omega)) (by simp[H]) (by rw[Es];rfl) fun h a=>?_
    rw[show 0+7+x*4+w*1=7+(4*x+w) by omega,U] at a
    refine bP cG (bP eG (bP eG (bP (aB cG) (bP (aA cG) (bP (fS z cG) (aac ?_))))))
    exact J (w+1) x y t h (by omega) z E a
   by_cases B:x*4+w<4*C.aG.toNat
   .rw[aNa B];have Y:dC N (nL C pl F)=dC (4*C.aG.toNat) (nL C pl F):=rfl;have a:=Dq B (a.front (dC N (nL C pl F)));refine Xg (C:=C) (l:=F ((x*4+w)/4) ((x*4+w) % 4)) (by have:=T ((x*4+w)/4) ((x*4+w) % 4);omega) a fun q h a=>?_;have a:=Kl B (a.cF (nM C (pl (x*4+w)) (F ((x*4+w)/4) ((x*4+w) % 4))) (Yi C pl F (x*4+w)));have P:F.set ((x*4+w)/4) ((x*4+w) % 4) (F ((x*4+w)/4) ((x*4+w) % 4))=F:=by
     funext c w;unfold fM.set;split;rename_i e;rw[e.1,e.2];rfl
    rw[P] at a
    have j:min N (4*x+w)=4*x+w:=by show min (4*C.aG.toNat) _=_;omega
    have u:min N (4*x+(w+1))=4*x+w+1:=by show min (4*C.aG.toNat) _=_;omega
    rw[j] at a
    rw[show x*4+w=4*x+w by omega] at a
    have a:=a.cF (nM C q (F ((4*x+w)/4) ((4*x+w) % 4))) (dC (4*x+w) (nL C d F))
    have a:=fp a
    refine fin (pt q 0 0) (bY d (4*x+w) q) h rfl inferInstance ?_ ?_
    .rw[j,u,W5 (by omega)]
    .rw[j,u];exact a.to
   .rw[aN9 B];have j:min N (4*x+w)=N:=by show min (4*C.aG.toNat) _=4*C.aG.toNat;omega
    have u:min N (4*x+(w+1))=N:=by show min (4*C.aG.toNat) _=4*C.aG.toNat;omega
    refine j0 (fin (.pointer none) d h rfl inferInstance ?_ ?_)
    .rw[j,u];exact nk (by show 4*C.aG.toNat<=_;omega) (by omega)
    .rw[j] at a;rw[j,u];exact a.to
 have outer:∀(k x:Nat) (d:Nat->Nat) (t:List HP) (h:AH),[Sub t L']->x+k=4->Hs G h (aF g 0 (tY C d (min N (4*x)))::dC (min N (4*x)) (nL C d F)::aF f 0 (lH C pl)::dC N (nL C pl F)::t)->Dd 147 2 [] Q [(pt g 0 0),(.agg ⟨kH C pl⟩),(I x)] h:=by
  intro k;induction k with
  |zero=>
   intro x d t h _ z a;refine bW (aM (aaa (V g h ?_)));have j:min N (4*x)=N:=by show min (4*C.aG.toNat) _=4*C.aG.toNat;omega
   rw[j] at a;have a:Hs G h (aF g 0 (lH C d)::dC (4*C.aG.toNat) (nL C d F)::aF f 0 (lH C pl)::dC (4*C.aG.toNat) (nL C pl F)::t):=a;have a:=lK a;have a:=a.cF (aF f 0 (lH C pl)) (dC (4*C.aG.toNat) (nL C pl F));have a:=lK a;exact a.to
  |succ k J=>
   intro x d t h _ z a;refine bW (aM (aad (bW (aH3 (by omega) (by rw[C6];omega) rfl (bG a fun p h a=>?_)))));have A:(((kH C pl).drop (x*4)).take 4).length=4:=by rw[List.length_take,List.length_drop,C6];omega
   have D:(((kH C pl).drop (x*4)).take 4).all dV=true:=by
    refine List.all_eq_true.2 fun v H=>?_;have:=List.mem_of_mem_drop (List.mem_of_mem_take H);unfold kH at this;obtain⟨k,_,rfl⟩:=List.mem_map.1 this;split<;>rfl
   refine aS (b:=p) a rfl rfl A D fun h a=>an p a (l:=((kH C pl).drop (x*4)).take 4) (by rw[List.drop_zero];exact List.take_of_length_le (by omega)) A ?_;refine inner 4 0 x d (aF p 0 (((kH C pl).drop (x*4)).take 4)::t) h (by omega) (by omega) (fun d h a=>bW (aac (J (x+1) d (aF p 0 (((kH C pl).drop (x*4)).take 4)::t) h (by omega) (by rw[show 4*(x+1)=4*x+4 by omega];exact a)))) ?_;exact a.to
 have a:=Hs.Wj (f:=nL C (fun _=>0) F) a;refine outer 4 0 (fun _=>0) L' h (by omega) ?_;rw[show min N (4*0)=0 by omega];exact a.to
end
end Go.Proofs.YtcjlkjeeifemhaaGreatDoor
section
open Go Go.Ab
attribute [local irreducible] aY Br oM tU tZ Bj kK tW jJ Oy gO lN oP nQ nD iK vN tD I5 Q2 Nf M1 Sb Nl J1 Nj Pc kA mM qI iH copyV gW uU S4 S7 Fa jD Le O1 Ta lS oS wJ yB Cl yG Rz qY qM iP eP cI bS
namespace Go.Proofs.YtcjlkjeeifemhaaGreatDoor
open Go Go.Ab Go.Hm Go.At Go.Is Go.Mc
section
instance:Fx Ins.enc 4:=⟨fun _=>rfl,fun _=>rfl⟩
set_option maxRecDepth 100000
variable {G:Bg} {h:AH} {L L' M:List HP} {Q:Value->AH->Prop} {s:aX} {i p:Nat}
abbrev U5 (a:Option Addr) (c:Nat) (l:List Ins):HP:=ls Ins.enc 4 155 a c l
def rT (i:Nat) (s:aX) (a:Option Addr) (c:Nat):List Value:=s.core++[I i,.slice a s.prog.length c]
def kY (i:Nat) (p:Nat) (s:aX):HP:=tV fun x:Option Addr×Nat=>sp [aF p 0 (rT i s x.1 x.2),U5 x.1 x.2 s.prog]
theorem qG (b:Hs G h (kY i p s::L)):∃a c,Hs G h (aF p 0 (rT i s a c)::U5 a c s.prog::L):=by
 obtain⟨⟨a,c⟩,b⟩:=b.yP;exact⟨a,c,b.Bq⟩
theorem lG (p i:Nat) (s:aX) {a:Option Addr} {c:Nat} {cs:List Value} {l:List Ins} {b L2:List HP} (f:Hs G h L) [m:Has (aF p 0) L cs b] [m2:Has (U5 a c) b l L2] (d:cs=rT i s a c) (e:l=s.prog):Hs G h (kY i p s::L2):=by
 subst d;subst e;exact Hs.vA (A:=fun x:Option Addr×Nat=>sp [aF p 0 (rT i s x.1 x.2),U5 x.1 x.2 s.prog]) (a,c) (Hs.pack (A:=[_,_]) (f.perm (m.perm.trans (m2.perm.cons _))))
theorem aHm {a:Option Addr} {c:Nat} {k:Int} (b:0<=k/\k<4):(rT i s a c)[0+0+0+k.toNat*1]?=some (I (s.eB k.toNat)):=by
 have:k=0\/k=1\/k=2\/k=3:=by omega
 rcases this with rfl|rfl|rfl|rfl<;>rfl
theorem aCe {a:Option Addr} {c:Nat} {k v:Int} (b:0<=k/\k<4):dH (rT i s a c) (0+0+0+k.toNat*1) [I v]=rT i (s.dX k v) a c:=by
 have:k=0\/k=1\/k=2\/k=3:=by omega
 rcases this with rfl|rfl|rfl|rfl<;>rfl
theorem zR {a:Option Addr} {c:Nat} {k:Int} {q:Value->Prop} (f:Hs G h L) [m:Has (aF p 0) L (rT i s a c) L'] (d:0<=k/\k<4) (e:q (I (s.eB k.toNat))):aY (lN (pt p 0 0)) fun v4=>aY (gO 0 v4) fun v5=>aY (gO 0 v5) fun v6=>aY (mM 4 1 v6 (I k)) fun g=>aY (oM h g) q:=
 aB (aA (aA (iI d.1 d.2 (am p f (aHm d) e))))
theorem Qy {a:Option Addr} {c:Nat} {k v:Int} {q:AH->Prop} (d:Hs G h L) [m:Has (aF p 0) L (rT i s a c) L'] (e:0<=k/\k<4) (j:∀f,Hs G f (aF p 0 (rT i (s.dX k v) a c)::L')->q f):aY (lN (pt p 0 0)) fun v4=>aY (gO 0 v4) fun v5=>aY (gO 0 v5) fun v6=>aY (mM 4 1 v6 (I k)) fun l=>aY (tZ h 1 l (I v)) q:=by
 refine aB (aA (aA (iI e.1 e.2 ?_)));have g:(rT i s a c).length=9:=rfl;refine bC (b:=p) (o:=0) d rfl (by rw[g];exact Nat.ble_eq_true_of_le (by simp;omega)) rfl rfl fun h d=>?_;rw[aCe e] at d;exact j _ d
theorem gf {a:Option Addr} {c:Nat} {x:Int} {cs:List Value} (r:0<=x) (d:cs[8]?=some (.slice a s.prog.length c)) (g:Hs G h L) [m:Has (aF p 0) L cs L'] [m2:Has (U5 a c) L' s.prog M] (f:∀q,Hs G q L->Q (.bool (E7 s.prog x)) q):Cl Pr K 137 [pt p 0 0,I x] h Q:=by
 have k:Hs G h (aF p 0 cs::U5 a c s.prog::M):=g.perm (m.perm.trans (m2.perm.cons _));unfold E7 at f;refine cW (aM (aaa (aB (aA (am p g d (bH (dE (aQ (fun j=>?_) (fun j=>?_)))))))));rw[aNa j] at f;exact f _ g;rw[aN9 j] at f;refine aB (aA (am p g d (xy (l:=s.prog) (a:=a) (c:=c) (enc:=Ins.enc) (e:=155) (x:=vM s.prog x) k r ?_ rfl (aZ ?_))));unfold vM;rw[List.getD_eq_getElem?_getD,List.getElem?_eq_getElem (by omega)];rfl;exact f _ g
theorem Ip {x:Int} (g:0<=x) (d:Hs G h L) [m:Has (kY i p) L s L'] (f:∀e,Hs G e (kY i p (s.rA x)::L')->Q (.tuple ⟨[]⟩) e):Cl Pr K 90 [pt p 0 0,I x] h Q:=by
 obtain⟨a,c,d⟩:=qG (m.of d);refine cW (aB (aA (aA (ay (b:=p) (o:=0) d fun h d=>?_))));refine gf (s:=s) (a:=a) (c:=c) g rfl d fun h d=>aB (aA (aA (ay (b:=p) (o:=0) d fun h d=>f _ ?_)));exact lG p i (s.rA x) (a:=a) (c:=c) d rfl rfl
theorem Ub {x:Ins} {a:Option Addr} {c:Nat} (d:Hs G h L) [m:Has (aF p 0) L (rT i s a c) L'] (f:∀e,Hs G e L->Q (.agg ⟨(aX.ev s i x 0 0 0).enc⟩) e):Cl Pr K 197 [pt p 0 0,.agg ⟨x.enc⟩] h Q:=by
 refine cW (dB d fun q h d=>bG d fun r h d=>aU d fun g h d=>?_);refine aB (aA (am p d rfl (aB (aA (aA (am p d rfl (aA (am q d rfl (aB (aA (aA (am p d rfl (aI (c:=(aX.ev s i x 0 0 0).enc) rfl ?_)))))))))))));refine ax (b:=r) d fun h d=>an r d (l:=(aX.ev s i x 0 0 0).enc) rfl rfl (f _ d.to)
def aGl:Ins:=⟨0,0,0,0⟩
theorem Ic (j:s.Ok) (d:Hs G h L) [m:Has (kY i p) L s L'] (g:∀k,Hs G k (kY i p s::L')->Q (if s.over then .tuple ⟨[.agg ⟨aGl.enc⟩,.bool false]⟩ else .tuple ⟨[.agg ⟨(vM s.prog s.at').enc⟩,.bool true]⟩) k):Cl Pr K 196 [pt p 0 0] h Q:=by
 obtain⟨a,c,d⟩:=qG (m.of d);refine cW (bG d fun q h d=>cS (bX (aB (aA (aA (am p d rfl (gf (s:=s) (a:=a) (c:=c) j.1 rfl d fun h d=>?_)))))));rw[<-j.2.2.1];refine cZ (fun f=>?_) (fun f=>?_);rw[f,aNa rfl] at g;refine aI (c:=aGl.enc) rfl (ax (b:=q) d fun h d=>an q d (l:=aGl.enc) rfl rfl (g _ ?_));exact(lG p i s (a:=a) (c:=c) d rfl rfl).to;rw[f] at g;have t:=Sz (p:=s.prog) (a:=s.at') (by rw[<-j.2.2.1];exact f);have r:=j.1;refine aU d fun u h d=>aB (aA (am p d rfl (aB (aA (aA (am p d rfl ?_))))));refine qC (l:=s.prog) (a:=a) (c:=c) (enc:=Ins.enc) (e:=155) (x:=vM s.prog s.at') d (by decide) r ?_ ?_;unfold vM;rw[List.getD_eq_getElem?_getD,List.getElem?_eq_getElem (by omega)];rfl;refine ax (b:=q) d fun h d=>an q d (l:=(vM s.prog s.at').enc) rfl rfl (g _ ?_);exact(lG p i s (a:=a) (c:=c) d rfl rfl).to
theorem N6 {x:Int} (a:Q (.bool (J5 x)) h):Cl Pr K 200 [I x] h Q:=by
 unfold J5 at a;refine cW (aZ (aQ (fun b=>?_) (fun b=>aZ (aQ (fun c=>?_) (fun c=>aZ ?_)))));rw[decide_eq_true (by omega)] at a;exact a;rw[decide_eq_true (by omega)] at a;exact a;rw[show decide (x=3\/x=4\/x=5)=decide (x=5) from decide_eq_decide.2 (by omega)] at a;exact a
end
section
theorem A2 {s:aX} (a:s.Ok) (h:s.over=false):Fits (vM s.prog s.at') s.prog.length:=
 Ui (a.2.2.2.2 _ (J4 a.1 (Sz (by rw[<-a.2.2.1];exact h))))
set_option maxRecDepth 100000
variable {G:Bg} {h:AH} {L L' M:List HP} {Q:Value->AH->Prop} {s:aX} {i p:Nat}
theorem kC {v:Ev} {x:Int} {e f:Nat} {z:List Value} {b:Value} (t:z.length=7) (r:0<=x) (a:Hs G h (kY i p s::aF f 0 v.enc::aF e 0 z::L)) (q:∀k,Hs G k (kY i p (s.rA x)::L)->Q (.tuple ⟨[.agg ⟨v.enc⟩,b]⟩) k):
  Cl Pr K 90 [pt p 0 0,I x] h fun _ c=>aY (tU c 7 (pt f 0 0)) fun g=>aY (tZ c 7 (pt e 0 0) g) fun d=>aY (tU d 7 (pt e 0 0)) fun j=>Q (.tuple ⟨[j,b]⟩) d:=by
 refine Ip (i:=i) (s:=s) r a fun h a=>an f a (l:=v.enc) rfl rfl (aS (b:=e) a (by rw[t];rfl) rfl rfl rfl fun h a=>an e a (l:=v.enc) rfl rfl (q _ a.to))
theorem r8 (B:s.Ok) (d:Hs G h L) [m:Has (kY i p) L s L']
  (f:∀H,Hs G H (kY i p (match aX.mT s i with|some r=>r.1|none=>s)::L')->Q (match aX.mT s i with|some r=> .tuple ⟨[.agg ⟨r.2.enc⟩,.bool true]⟩|none=> .tuple ⟨[.agg ⟨Fw.enc⟩,.bool false]⟩) H):Cl Pr K 142 [pt p 0 0] h Q:=by
 have d:=m.of d
 have N:=B.1
 unfold aX.mT aX.next? at f
 refine cW (bG (cs:=Fw.enc) d fun w h d=>Ic (i:=i) (s:=s) B d fun h d=>?_)
 cases hov:s.over with
 |true=>
  simp only[hov,if_true] at f ⊢
  refine aH rfl (aH rfl (bG d fun j h d=>ax (b:=j) d fun h d=>bT (eN (aI (c:=Fw.enc) rfl ?_))))
  refine ax (b:=w) d fun h d=>an w d (l:=Fw.enc) rfl rfl (f _ d.to)
 |false=>
  have t:=A2 B hov
  simp only[hov,Bool.false_eq_true,if_false] at f ⊢
  generalize O:vM s.prog s.at'=x at f t
  refine aH rfl (aH rfl (bG d fun j h d=>ax (b:=j) d fun h d=>bT (bX ?_)))
  obtain⟨a,c,d⟩:=qG (d.front (kY i p s))
  refine bW (an j d (l:=x.enc) rfl rfl (Ub (a:=a) (c:=c) (s:=s) d fun h d=>bG d fun g h d=>ax (b:=g) d fun h d=>?_))
  refine aB (aA (aA (am p d rfl (bA (by have:=B.2.1;omega) (aA (am j d rfl ?_))))))
  have d:Hs G h (aF j 0 x.enc::aF g 0 (aX.ev s i x 0 0 0).enc::aF w 0 Fw.enc::aF p 0 (rT i s a c)::U5 a c s.prog::L'):=d.to
  have e:∀{h:AH} {s':aX} {M:List HP} {v:Ev},s'.prog=s.prog->Hs G h (aF g 0 v.enc::aF w 0 Fw.enc::aF p 0 (rT i s' a c)::U5 a c s.prog::L')->Hs G h (kY i p s'::aF g 0 v.enc::aF w 0 Fw.enc::L'):=by
   intro h s' M v D d;exact lG p i s' (a:=a) (c:=c) d rfl D.symm
  refine aZ (aQ (fun q=>?_) (fun q=>bW (aZ (aQ (fun c2=>?_) (fun c2=>bW (aZ (aQ (fun y=>?_) (fun y=>bW (aZ (aQ (fun z=>?_) (fun z=>bW (aZ (aQ (fun c9=>?_) (fun c9=>bW (aZ (aQ (fun u=>?_) (fun u=>?_)))))))))))))))))
  .simp only[q,if_true] at f;have A:=t.r1 (by omega);refine bW (aA (am j d rfl (aA (ay (b:=g) (o:=0) d fun h d=>aU d fun I h d=>aA (am j d rfl (aA (am g d rfl (Qy (s:=s) (a:=a) (c:=c) d A fun h d=>?_))))))));have d:=d.sg (b:=g) (o:=0) (c:=(aX.ev s i x 0 x.b 0).enc) rfl;exact kC (s:=s.dX x.a x.b) (v:=aX.ev s i x 0 x.b 0) rfl (by omega) (e (M:=L) (s':=s.dX x.a x.b) rfl d.to) f
  .simp only[c2,if_true] at f;have A:=t.r1 (by omega);have E:=t.r2 (by omega);have F:=t.r3 (by omega);refine bW (aU d fun I h d=>aA (am j d rfl (zR (s:=s) (i:=i) (a:=a) (c:=c) d E (aA (am j d rfl (zR (s:=s) (i:=i) (a:=a) (c:=c) d F (Zv (aA ?_))))))));refine ay (b:=g) (o:=0) d fun h d=>aU d fun J h d=>aA (am j d rfl (aA (am g d rfl (Qy (s:=s) (a:=a) (c:=c) d A fun h d=>?_))));have d:=d.sg (b:=g) (o:=0) (c:=(aX.ev s i x 0 (wr (s.eB x.b.toNat+s.eB x.c.toNat)) 0).enc) rfl;exact kC (s:=s.dX x.a (wr (s.eB x.b.toNat+s.eB x.c.toNat))) (v:=aX.ev s i x 0 (wr (s.eB x.b.toNat+s.eB x.c.toNat)) 0) rfl (by omega) (e (M:=L) (s':=s.dX x.a (wr (s.eB x.b.toNat+s.eB x.c.toNat))) rfl d.to) f
  .simp only[y,if_true] at f;exact bW (kC (s:=s) (v:=aX.ev s i x 0 0 0) rfl (by omega) (e (M:=L) (s':=s) rfl d.to) f)
  .simp only[z,if_true] at f;refine bW (aA (am j d rfl (aA (ay (b:=g) (o:=0) d fun h d=>aB (aA (aA (am p d rfl (aZ (aQ (fun k=>?_) (fun k=>?_))))))))))
   .simp only[k,if_true] at f;refine bW (aA (am j d rfl (aB (aA (aA (ay (b:=p) (o:=0) d fun h d=>?_))))));have d:=(d.sg (b:=g) (o:=0) (c:=(aX.ev s i x 0 x.a 0).enc) rfl).sg (b:=p) (o:=0) (c:=rT i (s.zc x.a) a c) rfl;exact kC (s:=s.zc x.a) (v:=aX.ev s i x 0 x.a 0) rfl (by omega) (e (M:=L) (s':=s.zc x.a) rfl d.to) f
   .simp only[aN9 k] at f;refine bW (aA (ay (b:=g) (o:=0) d fun h d=>?_));have d:=d.sg (b:=g) (o:=0) (c:=(aX.ev s i x 0 x.a 18).enc) rfl;exact kC (s:=s) (v:=aX.ev s i x 0 x.a 18) rfl (by omega) (e (M:=L) (s':=s) rfl d.to) f
  .simp only[c9,if_true] at f;have D:=t.p1 (by omega);refine bW (aA (am j d rfl (aA (ay (b:=g) (o:=0) d fun h d=>aA (am j d rfl ?_)))));have d:=d.sg (b:=g) (o:=0) (c:=(aX.ev s i x 0 x.a 0).enc) rfl;exact kC (s:=s) (v:=aX.ev s i x 0 x.a 0) rfl (by omega) (e (M:=L) (s':=s) rfl d.to) f
  .simp only[u,if_true] at f;have A:=t.r1 (by omega);have D:=t.p2 (by omega);refine bW (aU d fun I h d=>aA (am j d rfl (zR (s:=s) (i:=i) (a:=a) (c:=c) d A (aA ?_))));refine ay (b:=g) (o:=0) d fun h d=>aA (am g d rfl (aZ (aQ (fun k=>?_) (fun k=>?_))))
   .have k:s.eB x.a.toNat=0:=k;simp only[aNa k] at f;have d:=d.sg (b:=g) (o:=0) (c:=(aX.ev s i x 0 (s.eB x.a.toNat) 0).enc) rfl;refine bW (aA (am j d rfl ?_));exact kC (s:=s) (v:=aX.ev s i x 0 (s.eB x.a.toNat) 0) rfl (by omega) (e (M:=L) (s':=s) rfl d.to) f
   .have k:¬s.eB x.a.toNat=0:=k;simp only[aN9 k] at f;have d:=d.sg (b:=g) (o:=0) (c:=(aX.ev s i x 0 (s.eB x.a.toNat) 0).enc) rfl;exact bW (kC (s:=s) (v:=aX.ev s i x 0 (s.eB x.a.toNat) 0) rfl (by omega) (e (M:=L) (s':=s) rfl d.to) f)
  .simp only[aN9 q,aN9 c2,aN9 y,aN9 z,aN9 c9,aN9 u] at f;refine aI (c:=Fw.enc) rfl (ax (b:=w) d fun h d=>an w d (l:=Fw.enc) rfl rfl (f _ ?_));exact(lG p i s (a:=a) (c:=c) d rfl rfl).to
end
section
def tK (a:Acc):List Value:=[I a.word,.bool a.write,.bool a.read,I a.value]
def S1:Acc:=⟨0,false,false,0⟩
def kf:Mc.Ask:=⟨0,0,0,0,0⟩
set_option maxRecDepth 100000
variable {G:Bg} {h:AH} {L L' M:List HP} {Q:Value->AH->Prop} {s:aX} {i p:Nat}
theorem j5 (z:s.Ok) (d:Hs G h L) [m:Has (kY i p) L s L']
  (f:∀q,Hs G q (kY i p s::L')->Q (match aX.Ej s with|some a=> .tuple ⟨[.agg ⟨tK a⟩,.bool true]⟩|none=> .tuple ⟨[.agg ⟨tK S1⟩,.bool false]⟩) q):Cl Pr K 145 [pt p 0 0] h Q:=by
 have d:=m.of d
 unfold aX.Ej aX.next? at f
 refine cW (bG (cs:=tK S1) d fun g h d=>Ic (i:=i) (s:=s) z d fun h d=>?_)
 cases hov:s.over with
 |true=>
  simp only[hov,if_true] at f ⊢
  refine aH rfl (aH rfl (bG d fun j h d=>ax (b:=j) d fun h d=>bT (eN (aI (c:=tK S1) rfl ?_))))
  refine ax (b:=g) d fun h d=>an g d (l:=tK S1) rfl rfl (f _ d.to)
 |false=>
  have t:=A2 z hov
  simp only[hov,Bool.false_eq_true,if_false] at f ⊢
  generalize F:vM s.prog s.at'=x at f t
  refine aH rfl (aH rfl (bG d fun j h d=>ax (b:=j) d fun h d=>bT (bX (aA (am j d rfl (N6 (bT (dT (cZ (fun k=>?_) (fun k=>?_))))))))))
  .have k:J5 x.op=true:=k;have B:x.op=3\/x.op=4\/x.op=5:=of_decide_eq_true k;simp only[k,if_true] at f;have A:=t.r1 (by omega);have u:=t.r2 (by omega);obtain⟨a,c,d⟩:=qG (d.front (kY i p s));have d:Hs G h (aF j 0 x.enc::aF g 0 (tK S1)::aF p 0 (rT i s a c)::U5 a c s.prog::L'):=d.to;have fin:∀{h:AH} {M:List HP} (e:Nat) (v:Acc),[Sub M L']->Hs G h (aF e 0 (tK v)::aF g 0 (tK S1)::aF p 0 (rT i s a c)::U5 a c s.prog::M)->(∀q,Hs G q (kY i p s::L')->Q (.tuple ⟨[.agg ⟨tK v⟩,.bool true]⟩) q)->
     aY (tU h 4 (pt e 0 0)) fun v1=>aY (tZ h 4 (pt g 0 0) v1) fun y=>aY (tU y 4 (pt g 0 0)) fun v3=>Q (.tuple ⟨[v3,.bool true]⟩) y:=by
    intro h M e v _ d E
    refine an e d (l:=tK v) rfl rfl (ax (b:=g) d fun h d=>an g d (l:=tK v) rfl rfl (E _ ?_))
    exact(lG p i s (a:=a) (c:=c) d rfl rfl).to
   refine bW (aU d fun w h d=>aA (am j d rfl (zR (s:=s) (i:=i) (a:=a) (c:=c) d u (aI (c:=tK ⟨s.eB x.b.toNat,false,false,0⟩) rfl ?_))))
   refine kM (r:=w) (i:=9) (n:=11) (D:=[]) (cs:=tK S1) d rfl rfl fun e h d=>ax (b:=e) d fun h d=>aA (am j d rfl (aZ (aQ (fun c3=>?_) (fun c3=>bW (aZ (aQ (fun c5=>?_) (fun c5=>bW (aZ (aQ (fun c4=>?_) (fun c4=>?_))))))))))
   .rw[decide_eq_false (by omega),decide_eq_true (show x.op≠4 by omega),aNa (show x.op=3 by omega)] at f;refine bW (aA (ay (b:=e) (o:=0) d fun h d=>?_));have d:=d.sg (b:=e) (o:=0) (c:=tK ⟨s.eB x.b.toNat,false,true,0⟩) rfl;exact fin (M:=L') e ⟨s.eB x.b.toNat,false,true,0⟩ d.to f
   .rw[decide_eq_true (show x.op≠3 by omega),decide_eq_true (show x.op≠4 by omega),aN9 (show ¬x.op=3 by omega)] at f;refine bW (aA (ay (b:=e) (o:=0) d fun h d=>aA (ay (b:=e) (o:=0) d fun h d=>aU d fun w h d=>aA (am j d rfl (zR (s:=s) (i:=i) (a:=a) (c:=c) d A (aA (ay (b:=e) (o:=0) d fun h d=>?_)))))));have d:=d.sg (b:=e) (o:=0) (c:=tK ⟨s.eB x.b.toNat,true,true,s.eB x.a.toNat⟩) rfl;exact fin (M:=L') e ⟨s.eB x.b.toNat,true,true,s.eB x.a.toNat⟩ d.to f
   .rw[decide_eq_true (show x.op≠3 by omega),decide_eq_false (by omega),aN9 (show ¬x.op=3 by omega)] at f;refine bW (aA (ay (b:=e) (o:=0) d fun h d=>aU d fun w h d=>aA (am j d rfl (zR (s:=s) (i:=i) (a:=a) (c:=c) d A (aA (ay (b:=e) (o:=0) d fun h d=>?_))))));have d:=d.sg (b:=e) (o:=0) (c:=tK ⟨s.eB x.b.toNat,true,false,s.eB x.a.toNat⟩) rfl;exact fin (M:=L') e ⟨s.eB x.b.toNat,true,false,s.eB x.a.toNat⟩ d.to f
   .omega
  .have k:J5 x.op=false:=k;simp only[k,Bool.false_eq_true,if_false] at f;refine aI (c:=tK S1) rfl (ax (b:=g) d fun h d=>an g d (l:=tK S1) rfl rfl (f _ d.to))
theorem aF3 (u:s.Ok) (d:Hs G h L) [m:Has (kY i p) L s L']
  (e:∀t,Hs G t (kY i p s::L')->Q (match aX.Xk s i with|some a=> .tuple ⟨[.agg ⟨a.enc⟩,.bool true]⟩|none=> .tuple ⟨[.agg ⟨kf.enc⟩,.bool false]⟩) t):Cl Pr K 143 [pt p 0 0] h Q:=by
 have d:=m.of d
 unfold aX.Xk aX.next? at e
 refine cW (bG (cs:=kf.enc) d fun j h d=>Ic (i:=i) (s:=s) u d fun h d=>?_)
 cases hov:s.over with
 |true=>
  simp only[hov,if_true] at e ⊢
  refine aH rfl (aH rfl (bG d fun g h d=>ax (b:=g) d fun h d=>bT (eN (aI (c:=kf.enc) rfl ?_))))
  refine ax (b:=j) d fun h d=>an j d (l:=kf.enc) rfl rfl (e _ d.to)
 |false=>
  have k:=A2 u hov
  simp only[hov,Bool.false_eq_true,if_false] at e ⊢
  generalize v:vM s.prog s.at'=x at e k
  refine aH rfl (aH rfl (bG d fun g h d=>ax (b:=g) d fun h d=>bT (bX (aA (am g d rfl (aT (aQ (fun f=>?_) (fun f=>?_))))))))
  .have f:¬x.op=8:=f;rw[aN9 f] at e;refine aI (c:=kf.enc) rfl (ax (b:=j) d fun h d=>an j d (l:=kf.enc) rfl rfl (e _ d.to))
  .have f:x.op=8:=by have:¬x.op≠8:=f;omega
   rw[aNa f] at e
   have q:=k.r2 (by omega)
   have r:=k.r3 (by omega)
   obtain⟨a,c,d⟩:=qG (d.front (kY i p s))
   refine aU d fun w h d=>aB (aA (am p d rfl (aB (aA (aA (am p d rfl (aA (am g d rfl (aA (am g d rfl ?_))))))))))
   refine zR (s:=s) (i:=i) (a:=a) (c:=c) d q (aA (am g d rfl (zR (s:=s) (i:=i) (a:=a) (c:=c) d r ?_)))
   refine aI (c:=(⟨i,s.world,x.a,s.eB x.b.toNat,s.eB x.c.toNat⟩:Mc.Ask).enc) rfl (ax (b:=j) d fun h d=>an j d (l:=(⟨i,s.world,x.a,s.eB x.b.toNat,s.eB x.c.toNat⟩:Mc.Ask).enc) rfl rfl (e _ ?_))
   exact(lG p i s (a:=a) (c:=c) d rfl rfl).to
theorem Ya {x:Ins} {e z:Nat} {code:Int} {a:Option Addr} {c:Nat} {k:AH->Nat->Prop} {c0:Bool} (t:c0=true) (F:0<=x.b/\x.b<4) (d:Hs G h (aF e 0 x.enc::aF z 0 Fw.enc::aF p 0 (rT i s a c)::U5 a c s.prog::L))
  (E:∀q y,Hs G y (aF q 0 (aX.ev s i x (s.eB x.b.toNat) 0 code).enc::aF e 0 x.enc::aF z 0 Fw.enc::aF p 0 (rT i s a c)::U5 a c s.prog::L)->k y q):
  aY (tU h 4 (pt e 0 0)) fun v0=>Cl Pr K 197 [pt p 0 0,v0] h fun v1 A=>Bj A (.cells [(I 0),(I 0),(I 0),(I 0),(I 0),(I 0),(I 0)] 24 (0,0) true) fun f B=>aY (tZ B 7 (pt f 0 0) v1) fun D=>Oy c0 D 13 fun _ r=>
   aY (gO 2 (pt e 0 0)) fun H=>aY (oM r H) fun J=>aY (lN (pt p 0 0)) fun v9=>aY (gO 0 v9) fun v10=>aY (gO 0 v10) fun v11=>aY (mM 4 1 v11 J) fun v12=>aY (oM r v12) fun u=>aY (gO 4 (pt f 0 0)) fun v=>aY (tZ r 1 v u) fun g=>aY (gO 6 (pt f 0 0)) fun w=>aY (tZ g 1 w (I code)) fun j=>
   (nN (I code) (I code)=true)/\k j f:=by
 refine an e d (l:=x.enc) rfl rfl (Ub (a:=a) (c:=c) (s:=s) (i:=i) d fun h d=>bG d fun q h d=>ax (b:=q) d fun h d=>aU (hc:=t) d fun N h d=>aA (am e d rfl ?_))
 refine zR (s:=s) (i:=i) (a:=a) (c:=c) d F (aA (ay (b:=q) (o:=0) d fun h d=>aA (ay (b:=q) (o:=0) d fun h d=>bP eG (E _ _ ?_))))
 have d:=d.sg (b:=q) (o:=0) (c:=(aX.ev s i x (s.eB x.b.toNat) 0 code).enc) rfl
 exact d.to
theorem nz {value code:Int} (J:s.Ok) (d:Hs G h L) [m:Has (kY i p) L s L']
  (g:∀H,Hs G H (kY i p (aX.cC s i value code).1::L')->Q (.tuple ⟨[.agg ⟨(aX.cC s i value code).2.1.enc⟩,I (aX.cC s i value code).2.2]⟩) H):Cl Pr K 241 [pt p 0 0,I value,I code] h Q:=by
 have d:=m.of d
 have Z:=J.1
 have V:=J.2.1
 unfold aX.cC aX.next? at g
 refine cW (bG (cs:=Fw.enc) d fun j h d=>cS (bX (bW (Ic (i:=i) (s:=s) J d fun h d=>?_))))
 have bad:∀{h:AH} {M:List HP} (e:Int),[Sub M (kY i p s::L')]->Hs G h (aF j 0 Fw.enc::M)->(∀H,Hs G H (kY i p s::L')->Q (.tuple ⟨[.agg ⟨Fw.enc⟩,I e]⟩) H)->
   aY (oD [(I 0),(I 0),(I 0),(I 0),(I 0),(I 0),(I 0)] []) fun c5=>aY (tZ h 7 (pt j 0 0) (.agg ⟨c5⟩)) fun S=>aY (tU S 7 (pt j 0 0)) fun Y=>Q (.tuple ⟨[Y,(I e)]⟩) S:=by
  intro h M e _ d X
  refine aI (c:=Fw.enc) rfl (ax (b:=j) d fun h d=>an j d (l:=Fw.enc) rfl rfl (X _ ?_))
  exact d.tail.to
 cases hov:s.over with
 |true=>
  simp only[hov,if_true] at g ⊢
  refine aH rfl (aH rfl (bG d fun f h d=>ax (b:=f) d fun h d=>bT (eN ?_)))
  exact bad (M:=kY i p s::L') 16 d.to g
 |false=>
  have E:=A2 J hov
  simp only[hov,Bool.false_eq_true,if_false] at g ⊢
  generalize hx:vM s.prog s.at'=x at g E
  refine aH rfl (aH rfl (bG d fun f h d=>ax (b:=f) d fun h d=>bT (bX (aA (am f d rfl ?_)))))
  have tail:∀{h:AH} {a:Option Addr} {c q:Nat},(x.op=8\/J5 x.op=true/\(code=0\/code=19))->Hs G h (aF q 0 (aX.ev s i x (s.eB x.b.toNat) 0 code).enc::aF f 0 x.enc::aF j 0 Fw.enc::aF p 0 (rT i s a c)::U5 a c s.prog::L')->
    aY (gO 0 (pt f 0 0)) fun t=>aY (oM h t) fun u=>aY (tD .eql u (I 8)) fun v20=>Br v20 (Dd 241 4 [] Q [(pt p 0 0),(I code),(pt j 0 0),(pt f 0 0),(pt q 0 0)] h) (Dd 241 5 [] Q [(pt p 0 0),(I value),(I code),(pt j 0 0),(pt f 0 0),(pt q 0 0)] h):=by
   intro h a c q T d
   have w:∀{h:AH} {s':aX} {v:Ev},s'.prog=s.prog->Hs G h (aF q 0 v.enc::aF j 0 Fw.enc::aF p 0 (rT i s' a c)::U5 a c s.prog::L')->Hs G h (kY i p s'::aF q 0 v.enc::aF j 0 Fw.enc::L'):=by
    intro h s' v W d;exact lG p i s' (a:=a) (c:=c) d rfl W.symm
   refine aA (am f d rfl (aZ (aQ (fun r=>?_) (fun r=>bW ?_))))
   .have r:x.op=8:=r;simp only[r,if_true] at g;have z:=E.r2 (by omega);have O:=E.r3 (by omega);refine bW (aU d fun P h d=>aA (am f d rfl (zR (s:=s) (i:=i) (a:=a) (c:=c) d O (aA (ay (b:=q) (o:=0) d fun h d=>aU d fun P h d=>aA (am f d rfl (Qy (s:=s) (a:=a) (c:=c) d z fun h d=>?_)))))));refine aB (aA (aA (am p d rfl (bA (by show -9223372036854775808<=s.at'+1/\s.at'+1<=_;omega) ?_))));have d:=d.sg (b:=q) (o:=0) (c:=(aX.ev s i x (s.eB x.b.toNat) (s.eB x.c.toNat) code).enc) rfl;exact kC (s:=s.dX x.b code) (v:=aX.ev s i x (s.eB x.b.toNat) (s.eB x.c.toNat) code) (x:=s.at'+1) rfl (by omega) (w (s':=s.dX x.b code) rfl d.to) g
   .have r:¬x.op=8:=r;obtain⟨y,T⟩:J5 x.op=true/\(code=0\/code=19):=by rcases T with h|h;exact absurd h r;exact h
    have N:x.op=3\/x.op=4\/x.op=5:=of_decide_eq_true y
    have U:=E.r1 (by omega)
    simp only[aN9 r,y,if_true] at g
    rw[aab] at g
    refine aZ (aQ (fun A=>?_) (fun A=>bW (aA (am f d rfl (aZ (aQ (fun c4=>?_) (fun c4=>?_)))))))
    .simp only[A,if_true] at g;subst A;refine bW (aB (aA (aA (am p d rfl (aac ?_)))));exact kC (s:=s) (v:=aX.ev s i x (s.eB x.b.toNat) 0 19) (x:=s.at'+1) rfl (by omega) (w (s':=s) rfl d.to) g
    .have c4:x.op=4:=c4;simp only[aN9 A,c4,if_true] at g;have B:code=0:=by omega
     subst B
     refine bW (aU d fun P h d=>aA (am f d rfl (zR (s:=s) (i:=i) (a:=a) (c:=c) d U (aA (ay (b:=q) (o:=0) d fun h d=>aB (aA (aA (am p d rfl (bA (by show -9223372036854775808<=s.at'+1/\s.at'+1<=_;omega) ?_)))))))))
     have d:=d.sg (b:=q) (o:=0) (c:=(aX.ev s i x (s.eB x.b.toNat) (s.eB x.a.toNat) 0).enc) rfl
     exact kC (s:=s) (v:=aX.ev s i x (s.eB x.b.toNat) (s.eB x.a.toNat) 0) (x:=s.at'+1) rfl (by omega) (w (s':=s) rfl d.to) g
    .have c4:¬x.op=4:=c4;simp only[aN9 A,aN9 c4] at g;have B:code=0:=by omega
     subst B
     refine bW (aA (ay (b:=q) (o:=0) d fun h d=>aU d fun P h d=>aA (am f d rfl (Qy (s:=s) (a:=a) (c:=c) d U fun h d=>aB (aA (aA (am p d rfl (bA (by show -9223372036854775808<=s.at'+1/\s.at'+1<=_;omega) ?_))))))))
     have d:=d.sg (b:=q) (o:=0) (c:=(aX.ev s i x (s.eB x.b.toNat) value 0).enc) rfl
     exact kC (s:=s.dX x.a value) (v:=aX.ev s i x (s.eB x.b.toNat) value 0) (x:=s.at'+1) rfl (by omega) (w (s':=s.dX x.a value) rfl d.to) g
  have D:∀{h:AH} {M:List HP},[Sub M L']->Hs G h (aF f 0 x.enc::aF j 0 Fw.enc::kY i p s::M)->∃a c,Hs G h (aF f 0 x.enc::aF j 0 Fw.enc::aF p 0 (rT i s a c)::U5 a c s.prog::L'):=by
   intro h M _ d;obtain⟨a,c,d⟩:=qG (d.front (kY i p s));exact⟨a,c,d.to⟩
  have d:Hs G h (aF f 0 x.enc::aF j 0 Fw.enc::kY i p s::L'):=d.to
  refine aT (aQ (fun r=>?_) (fun r=>?_))
  .have r:¬x.op=8:=r;refine aA (am f d rfl (N6 (bT (dT (cZ (fun y=>?_) (fun y=>?_))))))
   .have y:J5 x.op=true:=y;have N:x.op=3\/x.op=4\/x.op=5:=of_decide_eq_true y;have z:=E.r2 (by omega);refine bW (aA (am f d rfl (aT (bE r (aT (aQ (fun R=>aT (aQ (fun F=>?_) (fun F=>?_))) (fun R=>?_)))))))
    .simp only[aN9 r,y,if_true] at g;rw[aNa ⟨R,F⟩] at g;exact bad (M:=kY i p s::L') 1 d.to g
    .obtain⟨a,c,d⟩:=D (M:=L') d;refine bW (Ya (k:=fun h q=>aY (gO 0 (pt f 0 0)) fun t=>aY (oM h t) fun u=>aY (tD .eql u (I 8)) fun v20=>Br v20 (Dd 241 4 [] Q [(pt p 0 0),(I code),(pt j 0 0),(pt f 0 0),(pt q 0 0)] h) (Dd 241 5 [] Q [(pt p 0 0),(I value),(I code),(pt j 0 0),(pt f 0 0),(pt q 0 0)] h)) (by kernel_rfl) z d fun q h d=>tail (.inr ⟨y,by omega⟩) d)
    .obtain⟨a,c,d⟩:=D (M:=L') d;exact Ya (k:=fun h q=>aY (gO 0 (pt f 0 0)) fun t=>aY (oM h t) fun u=>aY (tD .eql u (I 8)) fun v20=>Br v20 (Dd 241 4 [] Q [(pt p 0 0),(I code),(pt j 0 0),(pt f 0 0),(pt q 0 0)] h) (Dd 241 5 [] Q [(pt p 0 0),(I value),(I code),(pt j 0 0),(pt f 0 0),(pt q 0 0)] h)) (by kernel_rfl) z d fun q h d=>tail (.inr ⟨y,by omega⟩) d
   .have y:J5 x.op=false:=y;simp only[aN9 r,y,Bool.false_eq_true,if_false] at g;exact bad (M:=kY i p s::L') 16 d.to g
  .have r:x.op=8:=by have:¬x.op≠8:=r;omega
   have z:=E.r2 (by omega)
   refine aA (am f d rfl (aT (aJ (by show ¬x.op≠8;omega) ?_)))
   obtain⟨a,c,d⟩:=D (M:=L') d
   exact Ya (k:=fun h q=>aY (gO 0 (pt f 0 0)) fun t=>aY (oM h t) fun u=>aY (tD .eql u (I 8)) fun v20=>Br v20 (Dd 241 4 [] Q [(pt p 0 0),(I code),(pt j 0 0),(pt f 0 0),(pt q 0 0)] h) (Dd 241 5 [] Q [(pt p 0 0),(I value),(I code),(pt j 0 0),(pt f 0 0),(pt q 0 0)] h)) (by kernel_rfl) z d fun q h d=>tail (.inl r) d
end
section
set_option maxRecDepth 100000
variable {G:Bg} {h:AH} {L L' M:List HP} {Q:Value->AH->Prop} {s:aX} {i p:Nat}
theorem dj {α:Type} {enc:α->List Value} {l:List α}:(l.map enc).flatten=eL enc l:=by simp[eL,List.flatMap]
theorem Qq {v:Value} {e:TypeId} {l:List Ins} (hb:l.length<=1000) (b:Hs G h (qU G 4 e v (l.map Ins.enc)::L)) (f:∀a c d,Hs G d (U5 a c l::qU G 4 e v (l.map Ins.enc)::L)->Q (.slice a l.length c) d):Cl Pr K 75 [v] h Q:=by
 refine cW (Jc (bytes:=32) (e:=155) b (by decide) (List.length_map ..) (by rw[dj];exact Ls) (by omega) fun a c h b=>f a c h ?_);rw[dj] at b;exact b
theorem pz {v:Value} {w:Int} {e:TypeId} {pr:List Ins} (q:i<4) (r:0<=w/\w<=3) (j:Ob G 0 mY) (hc:(fO pr).2=0) (d:Hs G h (qU G 4 e v (pr.map Ins.enc)::L))
  (k:∀p f,Hs G f (kY i p (tJ pr w)::qU G 4 e v (pr.map Ins.enc)::L)->Q (.tuple ⟨[pt p 0 0,I 0]⟩) f):Cl Pr K 42 [I i,I w,v] h Q:=by
 have g:pr.length<=32:=by
  unfold fO at hc;split at hc;cases hc;omega
 refine cW (aM (aaa (dE (aaa (aM (aaa (gZ (aaa (bW (rZ j d fun h d=>aH rfl (aH rfl (aT (aaa (bW ?_))))))))))))))
 refine Qq (l:=pr) (by omega) d fun a c h d=>?_
 refine aI (c:=rT i ⟨fun _=>0,0,0,false,pr⟩ a c) rfl (dB d fun p h d=>aB (aA (aA (ay (b:=p) (o:=0) d fun h d=>?_))))
 have d:Hs G h (aF p 0 (rT i ⟨fun _=>0,0,w,false,pr⟩ a c)::U5 a c pr::qU G 4 e v (pr.map Ins.enc)::L):=d
 have d:=lG p i ⟨fun _=>0,0,w,false,pr⟩ (a:=a) (c:=c) d rfl rfl
 exact Ip (i:=i) (s:=⟨fun _=>0,0,w,false,pr⟩) (by omega) d fun h d=>k _ _ d
end
end Go.Proofs.YtcjlkjeeifemhaaGreatDoor
namespace Go.Proofs.YtcjlkjeeifemhaaGreatDoor
open Go Go.Ab Go.Hm Go.At Go.Mc Go.Ct
section
instance:Fx Ev.enc 7 where
 len _:=rfl
 cel _:=rfl
structure MN where
 lc:List Nat
 lk:List Nat
 lq:List Nat
 ac:Option Addr
 ak:Option Addr
 aq:Option Addr
 al:Option Addr
 cc:Nat
 ck:Nat
 cq:Nat
 cl:Nat
 hb:Nat
 mb:Nat
 fb:Nat
def eQ (Cf:bM) (x:MN) (n:Nat):List Value:=Cf.enc++[.slice x.ac x.lc.length x.cc,.slice x.ak x.lk.length x.ck,.slice x.aq x.lq.length x.cq,pt x.hb 0 0,pt x.mb 0 0,pt x.fb 0 0,.slice x.al n x.cl]
def ba (Cf:bM) (x:MN):Prop:=x.lc.length=Cf.aG.toNat/\x.lk.length=Cf.aG.toNat/\x.lq.length=Cf.aG.toNat
abbrev rU:Nat->Nat->aX->HP:=fun i p s=>kY i p s
abbrev oI (G:Bg) (Cf:bM):Nat->Nat->lE->HP:=fun i p s=>C.gQ G p Cf i s
abbrev nO (Cf:bM):Nat->Nat->mP->HP:=fun _ p s=>jC p Cf s
abbrev vH (a:Option Addr) (c:Nat) (l:List Ev):HP:=ls Ev.enc 7 24 a c l
abbrev fq (a:Option Addr) (c:Nat) (l:List Nat):HP:=ls pE 1 107 a c l
abbrev W0 (a:Option Addr) (c:Nat) (l:List Nat):HP:=ls pE 1 110 a c l
abbrev Xd (a:Option Addr) (c:Nat) (l:List Nat):HP:=ls pE 1 113 a c l
def Od (G:Bg) (Cf:bM) (m:Nat) (M:cN) (x:MN):List HP:=[uH (ba Cf x),aF m 0 (eQ Cf x M.log.length),fq x.ac x.cc x.lc,W0 x.ak x.ck x.lk,Xd x.aq x.cq x.lq,
  nF rU x.lc M.bJ,nF (oI G Cf) x.lk M.cX,nF (nO Cf) x.lq M.cL,H.fP G x.hb Cf M.home,fD Cf x.mb M.dS,lU Cf x.fb M.jT,vH x.al x.cl M.log]
def uB (G:Bg) (Cf:bM) (m:Nat) (x:MN) (M:cN):HP:=sp (Od G Cf m M x)
def bI (G:Bg) (Cf:bM) (m:Nat) (M:cN):HP:=tV fun x:MN=>sp (Od G Cf m M x)
set_option maxRecDepth 100000
variable {G:Bg} {h:AH} {L L':List HP} {Q:Value->AH->Prop} {Cf:bM} {m:Nat} {M:cN}
theorem cJ (a:Hs G h (bI G Cf m M::L)):∃x,ba Cf x/\Hs G h (aF m 0 (eQ Cf x M.log.length)::fq x.ac x.cc x.lc::W0 x.ak x.ck x.lk::Xd x.aq x.cq x.lq::
  nF rU x.lc M.bJ::nF (oI G Cf) x.lk M.cX::nF (nO Cf) x.lq M.cL::H.fP G x.hb Cf M.home::fD Cf x.mb M.dS::lU Cf x.fb M.jT::vH x.al x.cl M.log::L):=by
 obtain⟨x,a⟩:=a.yP
 obtain⟨b,a⟩:=Hs.jr a.unpack
 exact⟨x,b,a⟩
theorem xB {x:MN} (a:ba Cf x) (b:Hs G h (aF m 0 (eQ Cf x M.log.length)::fq x.ac x.cc x.lc::W0 x.ak x.ck x.lk::Xd x.aq x.cq x.lq::
  nF rU x.lc M.bJ::nF (oI G Cf) x.lk M.cX::nF (nO Cf) x.lq M.cL::H.fP G x.hb Cf M.home::fD Cf x.mb M.dS::lU Cf x.fb M.jT::vH x.al x.cl M.log::L)):Hs G h (bI G Cf m M::L):=
 Hs.vA (A:=fun x:MN=>sp (Od G Cf m M x)) x (Hs.pack (A:=Od G Cf m M x) (Hs.T2 a b))
theorem bB {x:MN} (M:cN) (r:ba Cf x) {e L2 f g j k l o q a b:List HP} (t:Hs G h L) [u:dQ (aF m 0 (eQ Cf x M.log.length)) L e] [v:dQ (fq x.ac x.cc x.lc) e L2] [w:dQ (W0 x.ak x.ck x.lk) L2 f] [y:dQ (Xd x.aq x.cq x.lq) f g] [z:dQ (nF rU x.lc M.bJ) g j] [A:dQ (nF (oI G Cf) x.lk M.cX) j k] [B:dQ (nF (nO Cf) x.lq M.cL) k l] [D:dQ (H.fP G x.hb Cf M.home) l o] [E:dQ (fD Cf x.mb M.dS) o q] [c:dQ (lU Cf x.fb M.jT) q a] [d:dQ (vH x.al x.cl M.log) a b]:Hs G h (bI G Cf m M::b):=
 xB (x:=x) r (t.perm (u.perm.trans ((v.perm.trans ((w.perm.trans ((y.perm.trans ((z.perm.trans ((A.perm.trans ((B.perm.trans ((D.perm.trans ((E.perm.trans ((c.perm.trans ((d.perm).cons _)).cons _)).cons _)).cons _)).cons _)).cons _)).cons _)).cons _)).cons _)).cons _)))
theorem sZ {x:MN} (M:cN) (r:ba Cf x) {e L2 f g j k l o q a b:List HP} (t:Hs G h L) [u:dQ (aF m 0 (eQ Cf x M.log.length)) L e] [v:dQ (fq x.ac x.cc x.lc) e L2] [w:dQ (W0 x.ak x.ck x.lk) L2 f] [y:dQ (Xd x.aq x.cq x.lq) f g] [z:dQ (nF rU x.lc M.bJ) g j] [B:dQ (nF (oI G Cf) x.lk M.cX) j k] [D:dQ (nF (nO Cf) x.lq M.cL) k l] [E:dQ (H.fP G x.hb Cf M.home) l o] [F:dQ (fD Cf x.mb M.dS) o q] [c:dQ (lU Cf x.fb M.jT) q a] [d:dQ (vH x.al x.cl M.log) a b]:Hs G h (uB G Cf m x M::b):=
 Hs.pack (A:=Od G Cf m M x) (Hs.T2 r (t.perm (u.perm.trans ((v.perm.trans ((w.perm.trans ((y.perm.trans ((z.perm.trans ((B.perm.trans ((D.perm.trans ((E.perm.trans ((F.perm.trans ((c.perm.trans ((d.perm).cons _)).cons _)).cons _)).cons _)).cons _)).cons _)).cons _)).cons _)).cons _)).cons _))))
theorem mZ {x:MN} (a:Hs G h (uB G Cf m x M::L)):ba Cf x/\Hs G h (aF m 0 (eQ Cf x M.log.length)::fq x.ac x.cc x.lc::W0 x.ak x.ck x.lk::Xd x.aq x.cq x.lq::
  nF rU x.lc M.bJ::nF (oI G Cf) x.lk M.cX::nF (nO Cf) x.lq M.cL::H.fP G x.hb Cf M.home::fD Cf x.mb M.dS::lU Cf x.fb M.jT::vH x.al x.cl M.log::L):=Hs.jr a.unpack
theorem rh (a:Hs G h (bI G Cf m M::L)):∃x,Hs G h (uB G Cf m x M::L):=a.yP
theorem qp {x:MN} (a:Hs G h (uB G Cf m x M::L)):Hs G h (bI G Cf m M::L):=Hs.vA (A:=fun x:MN=>sp (Od G Cf m M x)) x a
theorem I8 {a:Option Addr} {c i:Nat} {l:List Nat} {k:Value->Prop} (f:Hs G h L) [g:Has (fq a c) L l L'] (b:i<l.length) (d:k (pt (l.getD i 0) 0 0)):aY (kA 1 (.slice a l.length c) (I i)) fun p=>aY (oM h p) k:=
 xi (e:=107) (show Hs G h (fq a c l::L') from g.of f) b d
theorem Gs {a:Option Addr} {c i:Nat} {l:List Nat} {k:Value->Prop} (f:Hs G h L) [g:Has (W0 a c) L l L'] (b:i<l.length) (d:k (pt (l.getD i 0) 0 0)):aY (kA 1 (.slice a l.length c) (I i)) fun p=>aY (oM h p) k:=
 xi (e:=110) (show Hs G h (W0 a c l::L') from g.of f) b d
theorem ey {a:Option Addr} {c i q:Nat} {l:List Nat} {k:AH->Prop} (g:Hs G h L) [j:Has (W0 a c) L l L'] (d:i<l.length) (f:∀b,Hs G b (W0 a c (l.set i q)::L')->k b):aY (kA 1 (.slice a l.length c) (I i)) fun p=>aY (tZ h 1 p (pt q 0 0)) k:=
 va (e:=110) (show Hs G h (W0 a c l::L') from j.of g) d f
theorem Gt {a:Option Addr} {c i:Nat} {l:List Nat} {k:Value->Prop} (f:Hs G h L) [g:Has (Xd a c) L l L'] (b:i<l.length) (d:k (pt (l.getD i 0) 0 0)):aY (kA 1 (.slice a l.length c) (I i)) fun p=>aY (oM h p) k:=
 xi (e:=113) (show Hs G h (Xd a c l::L') from g.of f) b d
theorem Qk {a:Option Addr} {c i q:Nat} {l:List Nat} {k:AH->Prop} (g:Hs G h L) [j:Has (Xd a c) L l L'] (d:i<l.length) (f:∀b,Hs G b (Xd a c (l.set i q)::L')->k b):aY (kA 1 (.slice a l.length c) (I i)) fun p=>aY (tZ h 1 p (pt q 0 0)) k:=
 va (e:=113) (show Hs G h (Xd a c l::L') from j.of g) d f
theorem Ia {l:List Nat} {s:Nat->aX} {i:Nat} {t:aX} (a:i<l.length) (b:Hs G h L) [k:dQ (kY i (l.getD i 0) t) L L'] {N:List HP} [c:dQ (Dg rU l s i) L' N]:Hs G h (nF rU l (bY s i t)::N):=zE a (b.cF (kY i (l.getD i 0) t) (Dg rU l s i))
theorem H5 {a:Option Addr} {c:Nat} {l:List Ev} {v:Ev} {a2:Option Addr} {c2:Nat} {k:Value×AH->Prop} {N:List HP} (hb:l.length<=2^30) (b:Hs G h L) [o:Has (vH a c) L l L'] [m2:dQ (vH a2 c2 [v]) L' N]
  (j:∀d e g,Hs G g (vH d e (l++[v])::N)->k (.slice d (l++[v]).length e,g)):aY (iH 7 56 24 h (.slice a l.length c) (.slice a2 1 c2)) k:=by
 have b:=o.of b
 have f:Hs G h (vH a c l::vH a2 c2 [v]::N):=b.perm (m2.perm.cons _)
 exact rR (l:=l) (l2:=[v]) (a:=a) (c:=c) (a2:=a2) (c2:=c2) f (by simp;omega) fun d e h b=>j d e h b.jN.tail
end
section
set_option maxRecDepth 100000
variable {G:Bg} {h:AH} {L L':List HP} {Q:Value->AH->Prop} {Cf:bM} {m:Nat} {M:cN}
theorem mW {i:Nat} {v c:Int} (J:(i:Int)<Cf.aG) (E:(M.bJ i).Ok) (k:M.log.length<=2^30) (d:Hs G h L) [F:Has (bI G Cf m) L M L'] (g:∀B,Hs G B (bI G Cf m (M.cC i v c).1::L')->Q (I (M.cC i v c).2) B):Cl Pr K 155 [pt m 0 0,I i,I v,I c] h Q:=by
 obtain⟨x,A,d⟩:=cJ (F.of d);have f:i<x.lc.length:=by have:=A.1;omega
 unfold cN.cC at g;refine cW (aB (aA (am m d rfl (I8 d f ?_))));have d:=gN (R:=rU) (l:=x.lc) (s:=M.bJ) f d;refine nz (i:=i) (p:=x.lc.getD i 0) (s:=M.bJ i) E d fun h d=>?_;have d:=Ia (l:=x.lc) (s:=M.bJ) (i:=i) (t:=(aX.cC (M.bJ i) i v c).1) f d;refine aH rfl (aH rfl (bG d fun q h d=>ax (b:=q) d fun h d=>aT (aQ (fun u=>?_) (fun u=>?_))));rw[aNa u] at g;refine g _ ?_;have e:bY M.bJ i (aX.cC (M.bJ i) i v c).1=M.bJ:=by
  have:(aX.cC (M.bJ i) i v c).1=M.bJ i:=by
   unfold aX.cC at u ⊢;cases hn:aX.next? (M.bJ i) with
   |none=>rfl
   |some y=>grind
  rw[this];funext j;unfold bY;split;rename_i e;rw[e];rfl
 rw[e] at d;exact xB A d.to;rw[aN9 u] at g;refine bW (aU d fun H h d=>aB (aA (am m d rfl (an q d (l:=(aX.cC (M.bJ i) i v c).2.1.enc) rfl rfl (aI (c:=(aX.cC (M.bJ i) i v c).2.1.enc) rfl ?_)))));refine gT (r:=H) (i:=6) (N:=11) (D:=[]) (W:=7) d rfl rfl rfl rfl rfl fun a h d=>?_;have d:=tO (enc:=Ev.enc) (x:=(aX.cC (M.bJ i) i v c).2.1) d;refine H5 (l:=M.log) (v:=(aX.cC (M.bJ i) i v c).2.1) k d fun w z h d=>aB (aA (ay (b:=m) (o:=0) d fun h d=>bP cG (g _ ?_)));have e:dH (eQ Cf x M.log.length) (0+13) [.slice w (M.log++[(aX.cC (M.bJ i) i v c).2.1]).length z]=eQ Cf {x with al:=w,cl:=z} (M.log++[(aX.cC (M.bJ i) i v c).2.1]).length:=rfl;rw[e] at d;exact xB (M:=(M.Ho i (aX.cC (M.bJ i) i v c).1).Hu (aX.cC (M.bJ i) i v c).2.1) (x:={x with al:=w,cl:=z}) A d.to
end
section
set_option maxRecDepth 100000
variable {G:Bg} {h:AH} {L L':List HP} {Q:Value->AH->Prop} {Cf:bM} {m:Nat} {x:MN} {M:cN}
abbrev wtX (G:Bg) (Cf:bM) (m:Nat) (x:MN) (M:cN) (p2 a c:Nat) (co:Int) (e:Nat->Value) (d l:Nat) (st:LoopState×Option Code) (b:Bool) (pr:Prop):HP:=
 sp [uH pr,kE Pr 141 (kI 58) 32 e d l st,sp [aF p2 0 [pt m 0 0],aF a 0 [I co],aF c 0 [.bool b]],uB G Cf m x M]
theorem oa {co:Int} (hm:hJ Cf M.dS) (f:Hs G h L) [mm:Has (uB G Cf m x) L M L'] (A:∀W,Hs G W (uB G Cf m x M::L')->Q (.bool (M.waits co)) W):Cl Pr K 141 [pt m 0 0,I co] h Q:=by
 unfold cN.waits at A;refine cW (dB (mm.of f) fun t h f=>dB f fun u h f=>bG f fun j h f=>am t f rfl (cS (bX ?_)));obtain⟨T,f⟩:=mZ (f.front (uB G Cf m x M));refine bW (am t f rfl (aB (aA (am m f rfl (Cu (C:=Cf) (m:=M.dS) f fun q qa qc h f=>?_)))));have f:=sZ (m:=m) (x:=x) M T f;refine jM f fun d h f=>?_;intro e he;refine lY f fun l h f=>rL rfl ?_;have f:Hs G h (H.Nv 3 q qa qc (M.dS.running.map fun k:Nat=>(k:Int))::wtX G Cf m x M t u j co e d l (.ready,none) false (∀g∈([]:List Int),M.dS.kS co g.toNat=false)::mk d ()::L'):=by
  have f:=(f.cK (aF t 0 [pt m 0 0]) (aF u 0 [I co]) (aF j 0 [.bool false])).Gn;have f:=f.cK (kE Pr 141 (kI 58) 32 e d l (.ready,none)) (sp [aF t 0 [pt m 0 0],aF u 0 [I co],aF j 0 [.bool false]]) (uB G Cf m x M);have f:=Hs.M3 (Hs.T2 (p:=∀g∈([]:List Int),M.dS.kS co g.toNat=false) (by simp) f);exact f.to
 refine(H.Ez (e:=3) (p:=q) (a:=qa) (c:=qc) (xs:=M.dS.running.map fun k:Nat=>(k:Int)) (by have:=List.length_filter_le (fun g=>(M.dS.runs g).isSome) (List.range 16);simp[Mon.running] at this ⊢;omega)).fold
  (X:=fun done=>wtX G Cf m x M t u j co e d l (.ready,none) false (∀g∈done,M.dS.kS co g.toNat=false)) (Z:=fun _ y=>wtX G Cf m x M t u j co e d l (.done,some .ret) true (y∈(M.dS.running.map fun k:Nat=>(k:Int))/\M.dS.kS co y.toNat=true)) f ?_ ?_ ?_
 .intro done y h N Y f;obtain⟨z,f⟩:=eV f;have f:=f.wP;obtain⟨k,B,rfl⟩:∃k∈M.dS.running,(k:Int)=y:=by
   obtain⟨ys,V⟩:=Y;have:y∈M.dS.running.map fun k:Nat=>(k:Int):=by rw[<-V];simp
   obtain⟨k,h1,h2⟩:=List.mem_map.1 this;exact⟨k,h1,h2⟩
  obtain⟨r,J⟩:=Option.isSome_iff_exists.1 (qP.1 B).2;have E:M.dS.run (k:Int)=some r:=by unfold Mon.run;rw[aae];exact J
  have D:M.dS.phase (k:Int)≠0:=by
   unfold Mon.phase;rw[E];have:=(hm.run k r J).2.2.1;dsimp only;omega
  have f:=(f.front (sp [aF t 0 [pt m 0 0],aF u 0 [I co],aF j 0 [.bool false]])).wP;obtain⟨T,f⟩:=mZ (f.front (uB G Cf m x M));refine rW (rK f) he (gS f fun h f=>am t f rfl (aB (aA (am m f rfl (aKa (C:=Cf) (m:=M.dS) f fun a h f P α β=>?_)))));rw[P D,E,decide_eq_true D];have f:=sZ (m:=m) (x:=x) M T f;refine aH rfl (aH rfl (bG f fun p9 h f=>aS (b:=p9) (vs:=yT r) f rfl rfl rfl rfl fun h f=>eN (aA (am p9 f rfl (am u f rfl (aZ (aQ (fun O=>?_) (fun O=>?_))))))));refine ax (b:=j) f fun h f=>gV f fun h f=> .inr ⟨rfl,?_⟩;have f:=(f.cK (aF t 0 [pt m 0 0]) (aF u 0 [I co]) (aF j 0 [.bool true])).Gn;have f:=f.cK (kE Pr 141 (kI 58) 32 e d l (.done,some .ret)) (sp [aF t 0 [pt m 0 0],aF u 0 [I co],aF j 0 [.bool true]]) (uB G Cf m x M);refine(Hs.M3 (Hs.T2 (p:=((k:Int)∈(M.dS.running.map fun k:Nat=>(k:Int))/\M.dS.kS co ((k:Int)).toNat=true)) ⟨List.mem_map.2 ⟨k,B,rfl⟩,?_⟩ f)).to;unfold Mon.kS;rw[Int.toNat_natCast,J];exact decide_eq_true O
  .refine gV f fun h f=> .inl ⟨rfl,?_⟩;have f:=(f.cK (aF t 0 [pt m 0 0]) (aF u 0 [I co]) (aF j 0 [.bool false])).Gn;have f:=f.cK (kE Pr 141 (kI 58) 32 e d l (.ready,none)) (sp [aF t 0 [pt m 0 0],aF u 0 [I co],aF j 0 [.bool false]]) (uB G Cf m x M);refine(Hs.M3 (Hs.T2 (p:=∀g∈done++[((k:Nat):Int)],M.dS.kS co g.toNat=false) ?_ f)).to;intro g w;rcases List.mem_append.1 w with w|w;exact z g w;rw[List.mem_singleton.1 w,Int.toNat_natCast];unfold Mon.kS;rw[J];exact decide_eq_false O
 intro v h f;obtain⟨z,f⟩:=eV (f.front (wtX G Cf m x M t u j co e d l (.ready,none) false (∀g∈M.dS.running.map (fun k:Nat=>(k:Int)),M.dS.kS co g.toNat=false)));have f:=f.wP;have U:M.dS.calls co=false:=by
  unfold Mon.calls;rw[List.any_eq_false];intro g w;have:=z g (List.mem_map.2 ⟨g,w,rfl⟩);rw[Int.toNat_natCast] at this;rw[this];simp
 rw[U] at A;have f:=(f.front (sp [aF t 0 [pt m 0 0],aF u 0 [I co],aF j 0 [.bool false]])).wP;exact mC f fun h f=>lT (ax (b:=j) f fun h f=>kN f fun h f=>iF (am j f rfl (A _ f.to)))
 .intro done y v h Y f;obtain⟨z,f⟩:=eV (f.front (wtX G Cf m x M t u j co e d l (.done,some .ret) true (y∈(M.dS.running.map fun k:Nat=>(k:Int))/\M.dS.kS co y.toNat=true)));have f:=f.wP;have F:M.dS.calls co=true:=by
   unfold Mon.calls;rw[List.any_eq_true];obtain⟨k,R,S⟩:=List.mem_map.1 z.1;refine⟨k,R,?_⟩;have:=z.2;rw[<-S,Int.toNat_natCast] at this;exact this
  rw[F] at A;have f:=(f.front (sp [aF t 0 [pt m 0 0],aF u 0 [I co],aF j 0 [.bool true]])).wP;exact Cx f fun h f=>y7 (kN f fun h f=>iF (am j f rfl (A _ f.to)))
end
section
theorem j4 {l done:List (Int×Int)} {y:Int×Int} {g:Int} (b:done++[y]<+:l) (a:∀z∈done,z.1≠g) (c:y.1=g):oC l g=some y.2:=by
 obtain⟨r,rfl⟩:=b;unfold oC;rw[List.append_assoc,List.find?_append,List.find?_eq_none.2 (by simpa using a)];simp[c]
theorem Yc {l:List (Int×Int)} {g:Int} (a:∀z∈l,z.1≠g):oC l g=none:=by
 unfold oC;rw[List.find?_eq_none.2 (by simpa using a)];rfl
set_option maxRecDepth 100000
variable {G:Bg} {h:AH} {L L':List HP} {Q:Value->AH->Prop} {Cf:bM} {m:Nat} {M:cN}
abbrev knX (G:Bg) (Cf:bM) (m:Nat) (M:cN) (p2 a:Nat) (g v:Int) (e:Nat->Value) (d l:Nat) (st:LoopState×Option Code) (pr:Prop):HP:=
 sp [uH pr,kE Pr 203 (kI 218) 25 e d l st,sp [aF p2 0 [I g],aF a 0 [I v]],bI G Cf m M]
theorem uM {l:List Nat} {s:Nat->mP} {i:Nat} {t:mP} (a:i<l.length) (b:Hs G h L) [k:dQ (jC (l.getD i 0) Cf t) L L'] {N:List HP} [c:dQ (Dg (nO Cf) l s i) L' N]:Hs G h (nF (nO Cf) l (bY s i t)::N):=zE a (b.cF (jC (l.getD i 0) Cf t) (Dg (nO Cf) l s i))
theorem bL {α:Type} {s:Nat->α} {i:Nat}:bY s i (s i)=s:=by
 funext j;unfold bY;split;rename_i e;rw[e];rfl
theorem l8 {i:Nat} {g:Int} (H:(i:Int)<Cf.aG) (hb:(M.cL i).known.length<=100) (a:Hs G h L) [F:Has (bI G Cf m) L M L'] (r:∀A,Hs G A (bI G Cf m M::L')->Q (I (M.known i g)) A):Cl Pr K 203 [pt m 0 0,I i,I g] h Q:=by
 unfold cN.known at r;refine cW (dB (F.of a) fun f h a=>bG a fun c h a=>ax (b:=c) a fun h a=>?_);obtain⟨x,B,a⟩:=cJ (a.front (bI G Cf m M));have j:i<x.lq.length:=by have:=B.2.2;omega
 refine aB (aA (am m a rfl (Gt a j ?_)));have a:=gN (R:=nO Cf) (l:=x.lq) (s:=M.cL) j a;refine mv (C:=Cf) (p:=x.lq.getD i 0) (s:=M.cL i) hb a fun q h a=>?_;have a:=uM (Cf:=Cf) (l:=x.lq) (s:=M.cL) (i:=i) (t:=M.cL i) j a;rw[bL] at a;have a:=bB (m:=m) (x:=x) M B a;refine jM a fun d h a=>?_;intro e E;refine lY a fun l h a=>rL rfl ?_;have a:Hs G h (Rw q (M.cL i).known::knX G Cf m M f c g 0 e d l (.ready,none) (∀z∈([]:List (Int×Int)),z.1≠g)::mk d ()::L'):=by
  have a:=(a.cF (aF f 0 [I g]) (aF c 0 [I 0])).A9;have a:=a.cK (kE Pr 203 (kI 218) 25 e d l (.ready,none)) (sp [aF f 0 [I g],aF c 0 [I 0]]) (bI G Cf m M);have a:=Hs.M3 (Hs.T2 (p:=∀z∈([]:List (Int×Int)),z.1≠g) (by simp) a);exact a.to
 refine(aC6 (q:=q) (l:=(M.cL i).known) (by omega)).fold
  (X:=fun done=>knX G Cf m M f c g 0 e d l (.ready,none) (∀z∈done,z.1≠g)) (Z:=fun done y=>knX G Cf m M f c g y.2 e d l (.done,some (.exit 0)) (oC (M.cL i).known g=some y.2)) a ?_ ?_ ?_
 .intro done y h N D a;obtain⟨k,a⟩:=eV a;have a:=a.wP;have a:=(a.front (sp [aF f 0 [I g],aF c 0 [I 0]])).Bq;refine rW (rK a) E (gS a fun h a=>am f a rfl (aZ (aQ (fun w=>?_) (fun w=>?_))));refine ax (b:=c) a fun h a=>gV a fun h a=> .inr ⟨rfl,?_⟩;have a:=(a.cF (aF f 0 [I g]) (aF c 0 [I y.2])).A9;have a:=a.cK (kE Pr 203 (kI 218) 25 e d l (.done,some (.exit 0))) (sp [aF f 0 [I g],aF c 0 [I y.2]]) (bI G Cf m M);exact(Hs.M3 (Hs.T2 (p:=oC (M.cL i).known g=some y.2) (j4 D k w) a)).to
  .refine gV a fun h a=> .inl ⟨rfl,?_⟩;have a:=(a.cF (aF f 0 [I g]) (aF c 0 [I 0])).A9;have a:=a.cK (kE Pr 203 (kI 218) 25 e d l (.ready,none)) (sp [aF f 0 [I g],aF c 0 [I 0]]) (bI G Cf m M);refine(Hs.M3 (Hs.T2 (p:=∀z∈done++[y],z.1≠g) ?_ a)).to;intro z u;rcases List.mem_append.1 u with u|u;exact k z u;rw[List.mem_singleton.1 u];exact w
 intro v h a;obtain⟨k,a⟩:=eV (a.front (knX G Cf m M f c g 0 e d l (.ready,none) (∀z∈(M.cL i).known,z.1≠g)));have a:=a.wP;rw[Yc k] at r;have a:=(a.front (sp [aF f 0 [I g],aF c 0 [I 0]])).Bq;exact mC a fun h a=>lT (am c a rfl (kN a fun h a=>iF (r _ a.to)))
 .intro done y v h D a;obtain⟨k,a⟩:=eV (a.front (knX G Cf m M f c g y.2 e d l (.done,some (.exit 0)) (oC (M.cL i).known g=some y.2)));have a:=a.wP;rw[k] at r;have a:=(a.front (sp [aF f 0 [I g],aF c 0 [I y.2]])).Bq;exact Cx a fun h a=>Gg rfl (am c a rfl (kN a fun h a=>iF (r _ a.to)))
end
end Go.Proofs.YtcjlkjeeifemhaaGreatDoor
namespace Go.Proofs.YtcjlkjeeifemhaaGreatDoor
open Go Go.Ab Go.Hm Go.At Go.Mc Go.Ct Go.Nt Go.Is
section
instance:Fx aK.enc 9:=inferInstance
structure Gb (G:Bg):Prop where
 lim:Ob G 1 gA
 kin:Ob G 3 xR
 row:Ob G 5 iW
set_option maxRecDepth 100000
variable {G:Bg} {h:AH} {L L':List HP} {Q:Value->AH->Prop} {Cf:bM} {m:Nat} {M:cN}
theorem D3 {α:Type} {R:Nat->Nat->α->HP} {l:List Nat} {s:Nat->α} {i q:Nat} {t:α} (a:i<l.length) (b:Hs G h L) [k:dQ (R i q t) L L'] {N:List HP} [c:dQ (Dg R l s i) L' N]:Hs G h (nF R (l.set i q) (bY s i t)::N):=zu a (b.cF (R i q t) (Dg R l s i))
theorem D6 {F:fM} {l:List aK} (h:(fM.send Cf F l).2≠0):(fM.send Cf F l).1=F:=by
 unfold fM.send at h ⊢;split;rfl;rename_i a;rw[aN9 a] at h;cases hp:fM.Du Cf.depth F l with
 |none=>rfl
 |some b=>rw[hp] at h;exact absurd rfl h
theorem aA1 {i:Nat} {g:Int} (hC:Cf.Ok) (hG:Gb G) (A:(i:Int)<Cf.aG) (hb:(M.cL i).known.length<=100) (y:qe Cf M.jT) (d:Hs G h L) [z:Has (bI G Cf m) L M L'] (k:∀w,Hs G w (bI G Cf m (M.walk Cf i g).1::L')->Q (I (M.walk Cf i g).2) w):Cl Pr K 202 [pt m 0 0,I i,I g] h Q:=by
 unfold cN.walk at k;obtain⟨x,r,d⟩:=cJ (z.of d);have j:i<x.lq.length:=by have:=r.2.2;omega
 refine cW (aB (aA (am m d rfl (Gt d j ?_))));have d:=gN (R:=nO Cf) (l:=x.lq) (s:=M.cL) j d;refine C4 (C:=Cf) (p:=x.lq.getD i 0) (s:=M.cL i) hb d fun q h d=>?_;refine Um (C:=Cf) (p:=q) (s:=M.cL i) hC hb d fun h d=>aH rfl (aH rfl (aT (aQ (fun v=>?_) (fun v=>?_))));rw[aNa v] at k;have d:=uM (Cf:=Cf) (l:=x.lq) (s:=M.cL) (i:=i) (t:=M.cL i) j d;rw[bL] at d;exact k _ (bB (m:=m) (x:=x) M r d).to;rw[aN9 v] at k;refine bW (aB (aA (am m d rfl (aI (c:=(eX 6 i ((M.cL i).begin Cf g).2.1).enc) rfl (aI (c:=(eX 6 i ((M.cL i).begin Cf g).2.1).enc) rfl (dA (W:=9) (n:=1) (c:=1) d rfl rfl rfl fun a h d=>?_))))));have d:=tO (enc:=aK.enc) (x:=eX 6 i ((M.cL i).begin Cf g).2.1) d;refine Ei (C:=Cf) (f:=x.fb) (F:=M.jT) (l:=[eX 6 i ((M.cL i).begin Cf g).2.1]) (a:=some a) (c:=1) hC (y.W9 hC) (by simp) hG.kin hG.lim d fun h d=>aT (aQ (fun u=>?_) (fun u=>?_));dsimp only at k;rw[aNa u] at k;rw[D6 u] at d;have d:=uM (Cf:=Cf) (l:=x.lq) (s:=M.cL) (i:=i) (t:=M.cL i) j d;rw[bL] at d;exact k _ (bB (m:=m) (x:=x) M r d).to;dsimp only at k;rw[aN9 u] at k;refine bW (aB (aA (am m d rfl (Qk d j fun h d=>k _ ?_))));have d:=D3 (R:=nO Cf) (l:=x.lq) (s:=M.cL) (i:=i) (q:=q) (t:=((M.cL i).begin Cf g).1) j d;have e:eQ Cf x M.log.length=eQ Cf {x with lq:=x.lq.set i q} M.log.length:=by unfold eQ;rw[List.length_set]
 rw[e] at d;exact(bB (m:=m) (x:={x with lq:=x.lq.set i q}) ((M.dH (fM.send Cf M.jT [eX 6 i ((M.cL i).begin Cf g).2.1]).1).Cj i ((M.cL i).begin Cf g).1) ⟨r.1,r.2.1,by rw[List.length_set];exact r.2.2⟩ d).to
end
section
set_option maxRecDepth 100000
variable {G:Bg} {h:AH} {L L':List HP} {Q:Value->AH->Prop} {Cf:bM} {m:Nat} {M:cN}
theorem Tb {l:List Nat} {S:Nat->aX} {i:Nat} {k:Value->Prop} (e:i<l.length) (d:Hs G h L) [g:Has (nF rU l) L S L'] (f:k (I (S i).world)):aY (lN (pt (l.getD i 0) 0 0)) fun v=>aY (gO 0 v) fun v=>aY (gO 5 v) fun v=>aY (oM h v) k:=by
 have d:=gN (R:=rU) (l:=l) (s:=S) e d;obtain⟨a,c,d⟩:=qG d;exact aB (aA (aA (aC (b:=l.getD i 0) (o:=0) d rfl f)))
theorem A5 {l:List Nat} {s:Nat->lE} {i:Nat} {t:lE} (a:i<l.length) (b:Hs G h L) [k:dQ (C.gQ G (l.getD i 0) Cf i t) L L'] {N:List HP} [c:dQ (Dg (oI G Cf) l s i) L' N]:Hs G h (nF (oI G Cf) l (bY s i t)::N):=zE a (b.cF (C.gQ G (l.getD i 0) Cf i t) (Dg (oI G Cf) l s i))
theorem tg {i:Nat} {line:Int} {wr:Bool} (hC:Cf.Ok) (hG:Gb G) (D:(i:Int)<Cf.aG) (hb:mL Cf (M.cX i)) (A:qe Cf M.jT) (d:Hs G h L) [B:Has (bI G Cf m) L M L'] (j:∀z,Hs G z (bI G Cf m (M.want Cf i line wr).1::L')->Q (I (M.want Cf i line wr).2) z):Cl Pr K 205 [pt m 0 0,I i,I line,.bool wr] h Q:=by
 unfold cN.want at j;have r:Bd (M.cX i):=hb.bd (nE hC).2.2.2;obtain⟨x,k,d⟩:=cJ (B.of d);have u:i<x.lc.length:=by have:=k.1;omega
 have g:i<x.lk.length:=by have:=k.2.1;omega
 refine cW (aB (aA (am m d rfl (Gs d g ?_))));have d:=gN (R:=oI G Cf) (l:=x.lk) (s:=M.cX) g d;refine C.gx (C:=Cf) (core:=(i:Int)) (c:=x.lk.getD i 0) (s:=M.cX i) hC r d fun q h d=>?_;refine aB (aA (am m d rfl (I8 d u (Tb (l:=x.lc) (S:=M.bJ) u d ?_))));refine C.aBd (C:=Cf) (core:=(i:Int)) (c:=q) (s:=M.cX i) hC r hG.lim hG.row d fun a c h d=>aH rfl (aH rfl (aT (aQ (fun y=>?_) (fun y=>?_))));rw[aNa y] at j;have d:=A5 (Cf:=Cf) (l:=x.lk) (s:=M.cX) (i:=i) (t:=M.cX i) g d;rw[bL] at d;exact j _ (bB (m:=m) (x:=x) M k d).to;rw[aN9 y] at j;have d:Hs G h (rP a c (want Cf i (M.cX i) line (M.bJ i).world wr).2.1::_):=d;refine bW (aB (aA (am m d rfl ?_)));refine Ei (C:=Cf) (f:=x.fb) (F:=M.jT) (l:=(want Cf i (M.cX i) line (M.bJ i).world wr).2.1) (a:=a) (c:=c) hC (A.W9 hC) (by have:=uo (C:=Cf) (core:=(i:Int)) (s:=M.cX i) (l:=line) (w:=(M.bJ i).world) (wr:=wr);omega) hG.kin hG.lim d fun h d=>aT (aQ (fun v=>?_) (fun v=>?_));dsimp only at j;rw[aNa v] at j;rw[D6 v] at d;have d:=A5 (Cf:=Cf) (l:=x.lk) (s:=M.cX) (i:=i) (t:=M.cX i) g d;rw[bL] at d;exact j _ (bB (m:=m) (x:=x) M k d).to;dsimp only at j;rw[aN9 v] at j;refine bW (aB (aA (am m d rfl (ey d g fun h d=>j _ ?_))));have d:=D3 (R:=oI G Cf) (l:=x.lk) (s:=M.cX) (i:=i) (q:=q) (t:=(want Cf i (M.cX i) line (M.bJ i).world wr).1) g d;have e:eQ Cf x M.log.length=eQ Cf {x with lk:=x.lk.set i q} M.log.length:=by unfold eQ;rw[List.length_set]
 rw[e] at d;exact(bB (m:=m) (x:={x with lk:=x.lk.set i q}) ((M.dH (fM.send Cf M.jT (want Cf i (M.cX i) line (M.bJ i).world wr).2.1).1).qF i (want Cf i (M.cX i) line (M.bJ i).world wr).1) ⟨k.1,by rw[List.length_set];exact k.2.1,k.2.2⟩ d).to
end
section
theorem Zk {g:Int} {i:Nat}:(List.range (i+1)).map (fun i:Nat=>eX 13 i g)=(List.range i).map (fun i:Nat=>eX 13 i g)++[eX 13 i g]:=by
 rw[List.range_succ,List.map_append];rfl
set_option maxRecDepth 100000
variable {G:Bg} {h:AH} {L L':List HP} {Q:Value->AH->Prop} {Cf:bM} {m:Nat} {M:cN}
theorem wj {i:Nat} {a:Mc.Ask} (hC:Cf.Ok) (hG:Gb G) (R:(i:Int)<Cf.aG) (N:hJ Cf M.dS) (U:(M.bJ i).Ok) (v:M.log.length<=2^30) (O:qe Cf M.jT) (d:Hs G h L) [Y:Has (bI G Cf m) L M L'] (g:∀t,Hs G t (bI G Cf m (M.call Cf i a).1::L')->Q (I (M.call Cf i a).2) t):Cl Pr K 144 [pt m 0 0,I i,.agg ⟨a.enc⟩] h Q:=by
 unfold cN.call at g;have Z:=hC.1;refine cW (dB (Y.of d) fun D h d=>?_);obtain⟨x,B,d⟩:=cJ (d.front (bI G Cf m M));refine aB (aA (am m d rfl (Mw (C:=Cf) (m:=M.dS) hC N d fun q h d=>?_)));have V:=d.tail;refine an D d (l:=a.enc) rfl rfl (Zx (C:=Cf) (m:=M.dS) (p:=q) hC N d fun h d=>aH rfl (aH rfl (aT (aQ (fun E=>?_) (fun E=>?_)))));rw[aNa E] at g;have d:=bB (m:=m) (x:=x) M B d;exact mW (Cf:=Cf) (M:=M) R U v d fun h d=>g _ d.to;rw[aN9 E] at g;generalize P:M.dS.call Cf.aG a=rc at g d;have loop:∀(f j:Nat) (h:AH) (b:Option Addr) (c:Nat),j+f=Cf.aG.toNat->Hs G h (rP b c ((List.range j).map fun i:Nat=>eX 13 i a.cE)::fD Cf q rc.1::aF m 0 (eQ Cf x M.log.length)::fq x.ac x.cc x.lc::W0 x.ak x.ck x.lk::Xd x.aq x.cq x.lq::
   nF rU x.lc M.bJ::nF (oI G Cf) x.lk M.cX::nF (nO Cf) x.lq M.cL::H.fP G x.hb Cf M.home::fD Cf x.mb M.dS::lU Cf x.fb M.jT::vH x.al x.cl M.log::aF D 0 a.enc::L')->
   Dd 144 2 [] Q [(pt m 0 0),(pt D 0 0),(pt q 0 0),(.slice b j c),(I Cf.aG),(I j)] h:=by
  intro f
  induction f with
  |zero=>
   intro j h b c S d
   have J:j=Cf.aG.toNat:=by omega
   have r:((List.range j).map fun i:Nat=>eX 13 i a.cE)=Hj Cf.aG a.cE:=by rw[J];rfl
   rw[r] at d
   have u:(Hj Cf.aG a.cE).length=j:=by rw[<-r];simp
   refine bW (aM (aaa (bW (aB (aA (am m d rfl ?_))))))
   rw[<-u]
   refine Ei (C:=Cf) (f:=x.fb) (F:=M.jT) (l:=Hj Cf.aG a.cE) (a:=b) (c:=c) hC (O.W9 hC) (by omega) hG.kin hG.lim d fun h d=>aT (aQ (fun A=>?_) (fun A=>?_))
   .dsimp only at g;rw[aNa A] at g;rw[D6 A] at d;exact g _ (bB (m:=m) (x:=x) M B d).to
   .dsimp only at g;rw[aN9 A] at g;refine bW (aB (aA (ay (b:=m) (o:=0) d fun h d=>g _ ?_)));have e:dH (eQ Cf x M.log.length) (0+11) [pt q 0 0]=eQ Cf {x with mb:=q} M.log.length:=rfl;rw[e] at d;exact(bB (m:=m) (x:={x with mb:=q}) ((M.dH (fM.send Cf M.jT (Hj Cf.aG a.cE)).1).sC rc.1) B d).to
  |succ f X=>
   intro j h b c S d
   refine bW (aM (aad (bW (aA (am D d rfl (aI (c:=(eX 13 j a.cE).enc) rfl (aI (c:=(eX 13 j a.cE).enc) rfl (dA (W:=9) (n:=1) (c:=1) d rfl rfl rfl fun y h d=>?_))))))))
   have d:=tO (enc:=aK.enc) (x:=eX 13 j a.cE) d
   have r:((List.range j).map fun i:Nat=>eX 13 i a.cE).length=j:=by simp
   have ap:∀k:Value×AH->Prop,(∀w z t,Hs G t (rP w z ((List.range j).map (fun i:Nat=>eX 13 i a.cE)++[eX 13 j a.cE])::rP (some y) 1 [eX 13 j a.cE]::_)->k (.slice w ((List.range j).map (fun i:Nat=>eX 13 i a.cE)++[eX 13 j a.cE]).length z,t))->aY (iH 9 72 211 h (.slice b ((List.range j).map fun i:Nat=>eX 13 i a.cE).length c) (.slice (some y) [eX 13 j a.cE].length 1)) k:=fun k g=>rR (enc:=aK.enc) (e:=211) (l:=(List.range j).map fun i:Nat=>eX 13 i a.cE) (l2:=[eX 13 j a.cE]) (a:=b) (c:=c) (a2:=some y) (c2:=1) d (by simp;omega) g
   rw[r] at ap
   refine ap _ fun w z h d=>aac ?_
   rw[<-Zk] at d ⊢
   have:=X (j+1) h w z (by omega) d.to
   rw[show((List.range (j+1)).map fun i:Nat=>eX 13 i a.cE).length=j+1 by simp]
   exact this
 have T:x.lc.length=Cf.aG.toNat:=B.1;refine bW (aB (aA (am m d rfl (bH ?_))));have d:Hs G h (rP none 0 ((List.range 0).map fun i:Nat=>eX 13 i a.cE)::_):=qZ (enc:=aK.enc) (e:=211) d;have e:(x.lc.length:Int)=Cf.aG:=by omega
 rw[e];exact loop Cf.aG.toNat 0 h none 0 (by omega) d.to
end
end Go.Proofs.YtcjlkjeeifemhaaGreatDoor
namespace Go.Proofs.YtcjlkjeeifemhaaGreatDoor
open Go Go.Ab Go.Hm Go.At Go.Mc Go.Ct Go.Nt
section
theorem Fs {C:bM} {S:Nat->List Th} {l at' a:Int} {w:Bool} (b:0<=l/\l<C.lines) (d:0<=at'/\at'<2) (c:lJ C.bK.toNat S l a w=true):uY C S l at' a w=0:=by
 unfold uY yO;rw[decide_eq_true b,aN9 (by simp),aab,aab,aN9 (by rw[c];simp)]
theorem aCk {C:bM} {s:lE} (e:mL C s) {l b at':Int} {w:Bool} (c:0<=l/\l<C.lines) (d:0<=at'/\at'<2) (a:lJ C.bK.toNat s.S l b w=true):lJ C.bK.toNat (rN C s l at' b).S l b w=true:=by
 unfold rN;rw[aNa (Fs c d (Wo a))];have f:(cA C.bK.toNat s.S l).2=0:=by
  unfold lJ at a;grind
 unfold lJ at a ⊢;rw[qs e.bK f];exact a
set_option maxRecDepth 100000
variable {G:Bg} {h:AH} {L L':List HP} {Q:Value->AH->Prop} {Cf:bM} {m:Nat} {M:cN}
theorem vz {i:Nat} {a:Acc} {p2:Nat} {line at' g:Int} (hC:Cf.Ok) (hG:Gb G) (D:(i:Int)<Cf.aG) (hb:mL Cf (M.cX i)) (E:(M.bJ i).Ok) (q:M.log.length<=2^30) (A:0<=line/\line<Cf.lines) (B:0<=at'/\at'<2) (u:lJ Cf.bK.toNat (M.cX i).S line g a.write=true)
  (d:Hs G h (bI G Cf m M::aF p2 0 (tK a)::L)) (k:∀r,Hs G r (bI G Cf m (M.Wn Cf i line at' g a).1::L)->Q (I (M.Wn Cf i line at' g a).2) r):Dd 146 6 [] Q [(pt m 0 0),(I i),(pt p2 0 0),(I line),(I at'),(I g)] h:=by
 unfold cN.Wn at k
 have wr:∀(s:lE) (v:Int) (h:AH),mL Cf s->lJ Cf.bK.toNat s.S line g a.write=true->Hs G h (bI G Cf m (M.qF i s)::aF p2 0 (tK a)::L)->
   (∀r,Hs G r (bI G Cf m ((M.qF i (if a.write then mS Cf s line at' g a.value else s)).cC i v 0).1::L)->Q (I ((M.qF i (if a.write then mS Cf s line at' g a.value else s)).cC i v 0).2) r)->
   Dd 146 8 [] Q [(pt m 0 0),(I i),(pt p2 0 0),(I line),(I at'),(I g),(I v)] h:=by
  intro s v h hb u d k
  refine bW (aA (am p2 d rfl (cZ (fun z=>?_) (fun z=>?_))))
  .rw[z] at u;rw[aNa z] at k;obtain⟨x,w,d⟩:=cJ d;have f:i<x.lk.length:=by have:=w.2.1;omega
   refine bW (aU d fun F h d=>aB (aA (am m d rfl (Gs d f (aA (am p2 d rfl ?_))))))
   have d:=gN (R:=oI G Cf) (l:=x.lk) (s:=bY M.cX i s) f d
   rw[show bY M.cX i s i=s by unfold bY;rw[aNa rfl]] at d
   refine C.lj (C:=Cf) (core:=(i:Int)) (c:=x.lk.getD i 0) (s:=s) hC hb (Fs A B u) hG.lim hG.row d fun h d=>aT (aaa ?_)
   have d:=A5 (Cf:=Cf) (l:=x.lk) (s:=bY M.cX i s) (i:=i) (t:=mS Cf s line at' g a.value) f d
   rw[show bY (bY M.cX i s) i (mS Cf s line at' g a.value)=bY M.cX i (mS Cf s line at' g a.value) by funext j;unfold bY;split<;>rfl] at d
   have d:=bB (m:=m) (x:=x) (M.qF i (mS Cf s line at' g a.value)) w d
   exact mW (Cf:=Cf) (M:=M.qF i (mS Cf s line at' g a.value)) D E q d fun h d=>k _ d.to
  .rw[aN9 (by rw[z];simp)] at k;exact mW (Cf:=Cf) (M:=M.qF i s) D E q d fun h d=>k _ d.to
 refine bW (aA (am p2 d rfl (cZ (fun y=>?_) (fun y=>?_))))
 .rw[aNa y] at k;rw[aNa y] at k;obtain⟨x,w,d⟩:=cJ d;have f:i<x.lk.length:=by have:=w.2.1;omega
  refine bW (aB (aA (am m d rfl (Gs d f ?_))))
  have d:=gN (R:=oI G Cf) (l:=x.lk) (s:=M.cX) f d
  refine C.yr (C:=Cf) (core:=(i:Int)) (c:=x.lk.getD i 0) (s:=M.cX i) hC hb (Fs A B (Wo u)) hG.lim hG.row d fun h d=>aH rfl (aH rfl (aT (aaa ?_)))
  have d:=A5 (Cf:=Cf) (l:=x.lk) (s:=M.cX) (i:=i) (t:=rN Cf (M.cX i) line at' g) f d
  have d:=bB (m:=m) (x:=x) (M.qF i (rN Cf (M.cX i) line at' g)) w d
  refine wr _ _ h (Gd hb) (aCk hb A B u) d.to fun r d=>?_
  exact k _ d
 .rw[aN9 (by rw[y];simp)] at k;rw[aN9 (by rw[y];simp)] at k;refine wr (M.cX i) 0 h hb u ?_ fun r d=>k _ d;have e:M.qF i (M.cX i)=M:=by unfold cN.qF;rw[bL]
  rw[e]
  exact d.to
theorem Zn {i:Nat} {a:Acc} (hC:Cf.Ok) (hG:Gb G) (r:(i:Int)<Cf.aG) (hb:mL Cf (M.cX i)) (E:(M.bJ i).Ok) (q:(M.cL i).known.length<=100) (O:qe Cf M.jT) (f:M.log.length<=2^30) (d:Hs G h L) [W:Has (bI G Cf m) L M L'] (e:∀J,Hs G J (bI G Cf m (M.access Cf i a).1::L')->Q (I (M.access Cf i a).2) J):Cl Pr K 146 [pt m 0 0,I i,.agg ⟨tK a⟩] h Q:=by
 unfold cN.access at e;have V:=(bM.gI hC).2.2;refine cW (dB (cs:=tK a) (W.of d) fun F h d=>aU d fun Y h d=>?_);obtain⟨x,g,d⟩:=cJ (d.front (bI G Cf m M));have P:∀{h:AH} {N:List HP},Hs G h (aF m 0 (eQ Cf x M.log.length)::fq x.ac x.cc x.lc::W0 x.ak x.ck x.lk::Xd x.aq x.cq x.lq::
  nF rU x.lc M.bJ::nF (oI G Cf) x.lk M.cX::nF (nO Cf) x.lq M.cL::H.fP G x.hb Cf M.home::fD Cf x.mb M.dS::lU Cf x.fb M.jT::vH x.al x.cl M.log::N)->Hs G h (bI G Cf m M::N):=fun d=>xB g d
 have k:i<x.lq.length:=by have:=g.2.2;omega
 have u:i<x.lc.length:=by have:=g.1;omega
 refine aB (aA (gD (b:=m) (o:=0) d (by decide) (l:=Cf.enc) rfl rfl (aA (am F d rfl (Ot (C:=Cf) hC hG.lim d fun h d=>?_)))));by_cases y:0<=a.word/\a.word<Cf.lines*2;rotate_left;rw[aN9 y];rw[aNa y] at e;have d:=bB (m:=m) (x:=x) M g d;exact aH rfl (aH rfl (aH rfl (aT (aad (mW (Cf:=Cf) (M:=M) r E f d fun h d=>e _ d.to)))));rw[aNa y];rw[aN9 (by simpa using y)] at e;obtain⟨w,z⟩:=Int.eq_ofNat_of_zero_le y.1;have T:((a.word.toNat/2:Nat):Int)=a.word/2:=by rw[z];simp
 have U:((a.word.toNat % 2:Nat):Int)=a.word % 2:=by rw[z];simp
 rw[T,U];have v:0<=a.word/2/\a.word/2<Cf.lines:=by omega
 refine aH rfl (aH rfl (aH rfl (aT (aaa (bW (aB (aA (gD (b:=m) (o:=0) d (by decide) (l:=Cf.enc) rfl rfl (Hl (C:=Cf) hC hG.lim d fun h d=>?_)))))))));rw[aNa (show Cf.has (a.word/2) from v)];refine aH rfl (aH rfl (aT (aaa (bW (aU d fun X h d=>aB (aA (am m d rfl (Gt d k (aB (aA (am m d rfl (I8 d u (Tb (l:=x.lc) (S:=M.bJ) u d ?_)))))))))))));have d:=gN (R:=nO Cf) (l:=x.lq) (s:=M.cL) k d;refine ou (C:=Cf) (p:=x.lq.getD i 0) (s:=M.cL i) q d fun h d=>?_;have d:=uM (Cf:=Cf) (l:=x.lq) (s:=M.cL) (i:=i) (t:=M.cL i) k d;rw[bL] at d;have d:=bB (m:=m) (x:=x) M g d;dsimp only at e;refine aH rfl (aH rfl (aT (aQ (fun A=>?_) (fun A=>?_))));rw[aNa A] at e;exact e _ d.to;rw[aN9 A] at e;refine bW (aZ (aQ (fun B=>?_) (fun B=>?_)));rw[aNa B] at e;exact aA1 (Cf:=Cf) (M:=M) hC hG r q O d fun h d=>e _ d.to;rw[aN9 B] at e;refine bW (aZ (aQ (fun D=>?_) (fun D=>?_)));rw[aNa D] at e;exact mW (Cf:=Cf) (M:=M) r E f d fun h d=>e _ d.to;rw[aN9 D] at e;refine bW (l8 (Cf:=Cf) (M:=M) r q d fun h d=>aU d fun r3 h d=>?_);obtain⟨x,g,d⟩:=cJ (d.front (bI G Cf m M));have j:i<x.lk.length:=by have:=g.2.1;omega
 refine aB (aA (am m d rfl (Gs d j (aA (am F d rfl ?_)))));have d:=gN (R:=oI G Cf) (l:=x.lk) (s:=M.cX) j d;refine C.Rt (C:=Cf) (core:=(i:Int)) (c:=x.lk.getD i 0) (s:=M.cX i) hC (hb.bd (nE hC).2.2.2) hG.row d fun h d=>?_;have d:=A5 (Cf:=Cf) (l:=x.lk) (s:=M.cX) (i:=i) (t:=M.cX i) j d;rw[bL] at d;have d:=bB (m:=m) (x:=x) M g d;cases hmy:lJ Cf.bK.toNat (M.cX i).S (a.word/2) (M.known i (a.word/2/2)) a.write with
 |false=>
  rw[aNa hmy] at e;exact bT (dT (bX (aA (am F d rfl (tg (Cf:=Cf) (M:=M) hC hG r hb O d fun h d=>e _ d.to)))))
 |true=>
  rw[aN9 (by rw[hmy];simp)] at e;exact bT (dT (eN (vz (L:=L') (Cf:=Cf) (M:=M) hC hG r hb E f v (by omega) hmy d.to fun h d=>e _ d.to)))
end
section
set_option maxRecDepth 100000
variable {G:Bg} {h:AH} {L L':List HP} {Q:Value->AH->Prop} {Cf:bM} {m:Nat} {M:cN}
theorem bx {l:List Nat} {S:Nat->aX} {i:Nat} {k:Value->Prop} (e:i<l.length) (d:Hs G h L) [g:Has (nF rU l) L S L'] (f:k (.bool (S i).over)):aY (lN (pt (l.getD i 0) 0 0)) fun v=>aY (gO 0 v) fun v=>aY (gO 6 v) fun v=>aY (oM h v) k:=by
 have d:=gN (R:=rU) (l:=l) (s:=S) e d;obtain⟨a,c,d⟩:=qG d;exact aB (aA (aA (aC (b:=l.getD i 0) (o:=0) d rfl f)))
theorem ym {d:Do} (hC:Cf.Ok) (hG:Gb G) (O:∀i:Nat,(i:Int)<Cf.aG->uf Cf M i) (f:Hs G h L) [X:Has (bI G Cf m) L M L'] (g:∀P,Hs G P (bI G Cf m (M.step Cf d.a).1::L')->Q (I (M.step Cf d.a).2) P):Cl Pr K 96 [pt m 0 0,.agg ⟨d.enc⟩] h Q:=by
 unfold cN.step at g;have Y:=hC.1;refine cW (dB (cs:=d.enc) (X.of f) fun y h f=>aU f fun rr h f=>?_);obtain⟨x,f⟩:=rh (f.front (bI G Cf m M));obtain⟨u,f⟩:=mZ f;refine aA (am y f rfl (aM (aQ (fun T=>?_) (fun T=>?_))));rw[aae] at g;exact g _ (bB (m:=m) (x:=x) M u f).to;have V:=u.1;refine aA (am y f rfl (aB (aA (am m f rfl (bH (dE (aQ (fun U=>?_) (fun U=>?_))))))));rw[aae] at g;exact g _ (bB (m:=m) (x:=x) M u f).to;rw[aab] at g;obtain⟨w,a,b,c⟩:=d;dsimp only at T U g;obtain⟨i,rfl⟩:=Int.eq_ofNat_of_zero_le (show 0<=a by omega);rw[Int.toNat_natCast] at g;have k:i<x.lc.length:=by omega
 have J:(i:Int)<Cf.aG:=by omega
 have j:=O i J;refine bW (aU f fun Z h f=>aB (aA (am m f rfl (aA (am y f rfl (I8 f k (bx (l:=x.lc) (S:=M.bJ) k f (cZ (fun F=>?_) (fun F=>?_)))))))));rw[aNa F] at g;exact g _ (bB (m:=m) (x:=x) M u f).to;rw[aN9 (by rw[F];simp)] at g;have f:=sZ (m:=m) (x:=x) M u f;refine bW (aA (am y f rfl (oa (x:=x) (M:=M) j.dS f fun h f=>cZ (fun H=>?_) (fun H=>?_))));rw[aNa H] at g;exact g _ (qp f).to;rw[aN9 (by rw[H];simp)] at g;obtain⟨u,f⟩:=mZ (f.front (uB G Cf m x M));have f:=gN (R:=rU) (l:=x.lc) (s:=M.bJ) k f;refine bW (r8 (i:=i) (p:=x.lc.getD i 0) (s:=M.bJ i) j.vF f fun h f=>?_);cases hlo:aX.mT (M.bJ i) i with
 |some r=>
  rw[hlo] at f g;dsimp only at f g;have f:=Ia (l:=x.lc) (s:=M.bJ) (i:=i) (t:=r.1) k f;refine aH rfl (aH rfl (bG f fun q h f=>ax (b:=q) f fun h f=>eN (bW (aU f fun r3 h f=>aB (aA (am m f rfl (an q f (l:=r.2.enc) rfl rfl (aI (c:=r.2.enc) rfl ?_))))))));refine gT (r:=r3) (i:=6) (N:=11) (D:=[]) (W:=7) f rfl rfl rfl rfl rfl fun a h f=>?_;have f:=tO (enc:=Ev.enc) (x:=r.2) f;refine H5 (l:=M.log) (v:=r.2) j.log f fun B E h f=>aB (aA (ay (b:=m) (o:=0) f fun h f=>bP cG (g _ ?_)));have e:dH (eQ Cf x M.log.length) (0+13) [.slice B (M.log++[r.2]).length E]=eQ Cf {x with al:=B,cl:=E} (M.log++[r.2]).length:=rfl;rw[e] at f;exact(bB (m:=m) (x:={x with al:=B,cl:=E}) ((M.Ho i r.1).Hu r.2) u f).to
 |none=>
  rw[hlo] at f g;dsimp only at f g;refine aH rfl (aH rfl (bG f fun q h f=>ax (b:=q) f fun h f=>bX (bW (aF3 (i:=i) (p:=x.lc.getD i 0) (s:=M.bJ i) j.vF f fun h f=>?_))));cases has:aX.Xk (M.bJ i) i with
  |some r=>
   rw[has] at g;dsimp only at g;have f:=Ia (l:=x.lc) (s:=M.bJ) (i:=i) (t:=M.bJ i) k f;rw[bL] at f;have f:=bB (m:=m) (x:=x) M u f;exact aH rfl (aH rfl (bG f fun z h f=>ax (b:=z) f fun h f=>eN (aA (am y f rfl (an z f (l:=r.enc) rfl rfl (wj (Cf:=Cf) (M:=M) hC hG J j.dS j.vF j.log j.jT f fun h f=>g _ f.to))))))
  |none=>
   rw[has] at g;dsimp only at g;refine aH rfl (aH rfl (bG f fun z h f=>ax (b:=z) f fun h f=>bX (bW (j5 (i:=i) (p:=x.lc.getD i 0) (s:=M.bJ i) j.vF f fun h f=>?_))));have f:=Ia (l:=x.lc) (s:=M.bJ) (i:=i) (t:=M.bJ i) k f;rw[bL] at f;have f:=bB (m:=m) (x:=x) M u f;cases hac:aX.Ej (M.bJ i) with
   |some r=>
    rw[hac] at g;dsimp only at g;exact aH rfl (aH rfl (bG f fun A h f=>ax (b:=A) f fun h f=>bT (dT (eN (aA (am y f rfl (an A f (l:=tK r) rfl rfl (Zn (Cf:=Cf) (M:=M) hC hG J j.Hh j.vF j.An j.jT j.log f fun h f=>g _ f.to))))))))
   |none=>
    rw[hac] at g;dsimp only at g;exact aH rfl (aH rfl (bG f fun A h f=>ax (b:=A) f fun h f=>bT (dT (bX (g _ f.to)))))
end
end Go.Proofs.YtcjlkjeeifemhaaGreatDoor
namespace Go.Proofs.YtcjlkjeeifemhaaGreatDoor.H
open Go Go.Ab Go.Hm
section
set_option maxRecDepth 100000
variable {G:Bg} {h:AH} {L L':List HP}
theorem th {C:bM} {hb:Nat} {H:kP} {x:Int} {Q:Value->AH->Prop} (a:Hs G h L) [m:Has (fP G hb C) L H L'] (c:Hs G h (fP G hb C H::L')->Q (I (Db C H x)) h):Cl Pr K 54 [pt hb 0 0,I x] h Q:=by
 have c:=c (m.of a);obtain⟨g,b,o,f,a⟩:=oA (m.of a);unfold Db at c;refine cW (vB a (bT (dT (aQ (fun d=>?_) (fun d=>?_)))));obtain⟨l,rfl⟩:=Int.eq_ofNat_of_zero_le d.1;have e:l<C.lines:=by have:=d.2;omega
 obtain⟨j,k,a⟩:=dK (Ib (H:=H) (b:=b) (o:=o) e a);rw[aNa d,Int.toNat_natCast] at c;exact aB (aA (aC a rfl (dF e (aA (aC a rfl (bH c))))));rw[aN9 d] at c;exact c
end
section
set_option maxRecDepth 100000
variable {G:Bg} {h:AH} {L L':List HP}
theorem wb (n:Nat):(fun i=>(qX n i).2)=oN:=by funext i;unfold qX oN;split<;>rfl
theorem Kv {C:bM} (hC:C.Ok) {hb:Nat} {Q:Value->AH->Prop} (k:∀e,Hs G e (fP G hb C (qX C.lines)::L)->Q (.tuple ⟨[pt hb 0 0,I 0]⟩) e):∀(f n:Nat) (h:AH),n+f=C.lines->Hs G h (fP G hb C (qX n)::L)->Dd 45 3 [] Q [(pt hb 0 0),(I C.lines),(I n)] h:=by
 have l:=bM.gI hC;intro f;induction f with
 |zero=>
  intro n h q a;have:n=C.lines:=by omega
  subst this;exact bW (aM (aaa (k _ a)))
 |succ f r=>
  intro n h q a;have d:n<C.lines:=by omega
  refine bW (aM (aad (bW ?_)));obtain⟨t,b,o,c,a⟩:=D9 d a;obtain⟨u,v,a⟩:=dK a;refine aB (aA (aC a rfl (dF d (aA (ay a ?_)))));intro h a;refine aac (r (n+1) h (by omega) ?_);have g:(qX n n).1={Ee with owner:=0}:=by unfold qX;rw[aab]
  have j:(qX n n).2=(0,0):=by unfold qX;rw[aab]
  rw[g] at a;have a:=dU b (o+n*25) Ee u v a rfl rfl rfl;have a:=eD hb C (qX n) n Ee (0,0) (fun i=>(qX n i).2) t b o c d (by rw[<-j];exact eJ.symm) a;rw[im] at a;exact a
theorem bp {C:bM} (hC:C.Ok) {Q:Value->AH->Prop} (e:Ob G 1 gA) (d:Hs G h L) (r:∀f j,Hs G j (fP G f C (qX C.lines)::L)->Q (.tuple ⟨[pt f 0 0,I 0]⟩) j):Cl Pr K 45 [.agg ⟨C.enc⟩] h Q:=by
 have t:=bM.gI hC;refine cW (dB d ?_);intro p h d;refine aN d (by decide) (l:=C.enc) rfl rfl (jS e d fun h d=>?_);rw[aNa hC];refine aT (aaa (bW (aN d (by decide) (l:=C.enc) rfl rfl (Pm hC e d fun k h d=>?_))));refine aH rfl (aH rfl (aT (aaa (bW (aU d ?_)))));intro v h d;refine aN d (by decide) (l:=C.enc) rfl rfl (aN d (by decide) (l:=C.enc) rfl rfl (qB hC e d fun h d=>aE2 (by omega) (by omega) ?_));dsimp only;refine gT d rfl rfl ?_ rfl ?_ ?_;rw[gG,qK (W:=25) (fun _=>rfl)];rw[gG];exact pN (fun _=>rfl) _;intro a h d;obtain⟨b,o,q,d⟩:=Hs.Mi (W:=25) rfl (by omega) d;cases q;refine aI (c:=lF k C b o C.lines) rfl (zK d rfl rfl ?_);intro f h d;refine bP cG (bP (aN d (by decide) (l:=C.enc) rfl rfl (pW (by simp[nN,bM.enc]))) (aB (aA (aC d rfl (bH ?_)))));refine Kv hC (r f) C.lines 0 h (by omega) ?_;have d:=(d.front (dC C.lines fun i=>aF b (o+i*25) [I 0,.bool false,.bool false,.bool false,.bool false,.slice none 0 0,.bool false,I 0,I 0,I 0,I 0,I 0,I 0,I 0,.bool false,I 0,I 0,.bool false,.bool false,.bool false,.bool false,.bool false,.bool false,I 0,I 0]));have d:=Hs.Mu (g:=fun i=>eC b (o+i*25) (qX 0 i).1) C.lines _ (fun i u h L d=>jH {Ee with owner:=0} (a:=none) (c:=0) (fG d).jN) d;rw[<-wb 0] at d;exact(Bc C (qX 0) f k b o C.lines d).to
end
section
set_option maxRecDepth 100000
variable {G:Bg} {h:AH} {L L':List HP} {Q:Value->AH->Prop}
def S5 (H:kP) (i:Nat) (x:Option Addr×Nat):List Value:=(H i).1.enc x.1 x.2
def T3 (H:kP) (i:Nat) (x:Option Addr×Nat):HP:=rP x.1 x.2 (H i).1.waits
theorem aBr {b o n:Nat} {H:kP} (d:Hs G h (dC n (fun i=>eC b (o+i*25) (H i).1)::L)):Hs G h (dC n (fun i=>tV fun x=>sp [aF b (o+i*25) (S5 H i x),T3 H i x])::L):=
 Hs.Mu n L (fun i _ h L d=>by
  obtain⟨a,c,d⟩:=dK d;exact Hs.vA (A:=fun x:Option Addr×Nat=>sp [aF b (o+i*25) (S5 H i x),T3 H i x]) (a,c) d.A9) d
theorem aCu {b o n:Nat} {H:kP} (d:Hs G h (dC n (fun i=>tV fun x=>sp [aF b (o+i*25) (S5 H i x),T3 H i x])::L)):Hs G h (dC n (fun i=>eC b (o+i*25) (H i).1)::L):=
 Hs.Mu n L (fun i _ h L d=>by
  obtain⟨⟨a,c⟩,d⟩:=d.yP;exact jH (H i).1 (a:=a) (c:=c) d.Bq) d
theorem jg {n c:Nat} {a:Option Addr} {cs:List Value} (j:n<=100) (g:Hs G h L) [m:Has (cU 25 230 a c) L (n,cs) L'] (f:∀b d e,Hs G e (cU 25 230 b d (n,cs)::cU 25 230 a c (n,cs)::L')->Q (.slice b n d) e):Cl Pr K 231 [.slice a n c] h Q:=
 cW (Ax (bytes:=152) g (by omega) f)
theorem aa {B p b o cap mb:Nat} {C:bM} {H:kP} {f:Nat->Option Addr×Nat} (hB:B<=32) (D:C.lines=B) (N:∀i,i<B->(H i).1.waits.length<=2^30)
  (J:∀w,Hs G w (aF p 0 (lF mb C b o cap)::dC B (fun i=>eC b (o+i*25) (H i).1)::dC B (fun i=>T3 H i (f i))::L)->Q (pt p 0 0) w):
  ∀(r i:Nat) (h:AH),i+r=B->Hs G h (aF p 0 (lF mb C b o cap)::dC B (fun j=>if j<i then eC b (o+j*25) (H j).1 else aF b (o+j*25) (S5 H j (f j)))::dC B (fun i=>T3 H i (f i))::L)->
  Dd 151 2 [] Q [(pt p 0 0),(I B),(I i)] h:=by
 intro r
 induction r with
 |zero=>
  intro i h E d
  obtain rfl:i=B:=by omega
  refine bW (aM (aaa (J _ ?_)))
  have d:=d.front (dC i fun j=>if j<i then eC b (o+j*25) (H j).1 else aF b (o+j*25) (S5 H j (f j)))
  have d:=sF (g:=fun j=>eC b (o+j*25) (H j).1) (fun j F=>by rw[aNa F]) d
  exact d.cK (aF p 0 (lF mb C b o cap)) (dC i fun j=>eC b (o+j*25) (H j).1) (dC i fun j=>T3 H j (f j))
 |succ r P=>
  intro i h E d
  have k:i<B:=by omega
  have t:i<C.lines:=by omega
  have O:=N i k
  refine bW (aM (aad (bW (aU d fun R h d=>?_))))
  have d:=(d.front (dC B fun j=>if j<i then eC b (o+j*25) (H j).1 else aF b (o+j*25) (S5 H j (f j)))).mD i k
  simp only[Nat.lt_irrefl,if_false] at d
  have d:=(d.front (dC B fun j=>T3 H j (f j))).mD i k
  refine aB (aA (am p d rfl (aB (aA (am p d rfl (dF t (aA (aC (b:=b) (o:=o+i*25) d rfl ?_))))))))
  have d:Hs G h (rP (f i).1 (f i).2 (H i).1.waits::_):=d
  refine xZ (l:=(H i).1.waits) (a:=(f i).1) (c:=(f i).2) (by omega) d fun u v h d=>?_
  refine dF t (aA (ay (b:=b) (o:=o+i*25) d fun A q=>?_))
  refine bP cG (bP (aB cG) (bP (aA cG) (bP (am p d rfl T4) (bP eG (aac ?_)))))
  refine P (i+1) A (by omega) ?_
  have q:=q.sg (b:=b) (o:=o+i*25) (c:=(H i).1.enc u v) rfl
  have e:=jH (b:=b) (o:=o+i*25) (H i).1 (a:=u) (c:=v) (q.cF (aF b (o+i*25) ((H i).1.enc u v)) (rP u v (H i).1.waits))
  have y:eC b (o+i*25) (H i).1=(fun j=>if j<i+1 then eC b (o+j*25) (H j).1 else aF b (o+j*25) (S5 H j (f j))) i:=by simp only[Nat.lt_succ_self,if_true]
  rw[y] at e
  have e:=e.oZ (n:=B) (i:=i) (fun j=>if j<i then eC b (o+j*25) (H j).1 else aF b (o+j*25) (S5 H j (f j))) (fun j=>if j<i+1 then eC b (o+j*25) (H j).1 else aF b (o+j*25) (S5 H j (f j))) k (fun j _ K=>by
   have:(j<i+1)=(j<i):=propext ⟨fun h=>by omega,fun h=>by omega⟩;simp only[this])
  have z:rP (f i).1 (f i).2 (H i).1.waits=(fun j=>T3 H j (f j)) i:=rfl
  rw[z] at e
  have e:=e.oZ (n:=B) (i:=i) (fun j=>T3 H j (f j)) (fun j=>T3 H j (f j)) k (fun _ _ _=>rfl)
  exact e.to
theorem Ki {C:bM} {H:kP} (hC:C.Ok) {hb:Nat} (O:yD C H (2^30)) (a:Hs G h L) [R:Has (fP G hb C) L H L'] (P:∀p2 I,Hs G I (fP G p2 C H::fP G hb C H::L')->Q (pt p2 0 0) I):Cl Pr K 151 [pt hb 0 0] h Q:=by
 have T:=(bM.gI hC);have y:0<C.lines:=by omega
 obtain⟨F,b,o,e,a⟩:=oA (R.of a);refine cW (cS (bX (bW (aU a fun U h a=>?_))));have a:=aBr (a.front (dC C.lines fun i=>eC b (o+i*25) (H i).1));have v:Hs G h (dC C.lines (fun i=>tV fun x=>sp [aF b (o+i*25) (S5 H i x),T3 H i x])::hole G 25 230 (some ⟨b,o,none⟩) e C.lines b o::_):=a.cF (dC C.lines fun i=>tV fun x=>sp [aF b (o+i*25) (S5 H i x),T3 H i x]) (hole G 25 230 (some ⟨b,o,none⟩) e C.lines b o);obtain⟨f,a⟩:=Hs.ib (W:=25) (c:=S5 H) (d:=T3 H) (none,0) (fun _ _=>rfl) (fun _ _=>rfl) (by decide) y v;clear v;refine aB (aA (am hb a rfl (A.X4 hC a fun k S q=>?_)));refine aB (aA (gD (b:=hb) (o:=0) q (by decide) (l:=C.enc) rfl rfl (aB (aA (am hb q rfl ?_)))));refine jg (by omega) q fun J u N g=>?_;obtain⟨r,t,rfl,g⟩:=Hs.Yb (W:=25) (c:=fun i=>S5 H i (f i)) (fun _=>rfl) y (g.front (cU 25 230 J u (C.lines,(List.range C.lines).flatMap fun i=>S5 H i (f i))));refine aI (c:=lF k C r t u) rfl (zK (i:=15) (n:=17) (D:=[]) g rfl rfl fun p z j=>?_);have w:nN (.agg ⟨C.enc⟩) (.agg ⟨C.enc⟩)=true:=pW (by simp[bM.enc,eG]);refine bP cG (bP cG (bP (aB cG) (bP (aB cG) (bP (aA cG) (bP (aA cG) ?_)))));refine bP (gD (b:=hb) (o:=0) a (by decide) (l:=C.enc) rfl rfl w) (bP (gD (b:=hb) (o:=0) j (by decide) (l:=C.enc) rfl rfl w) ?_);refine bP cG (bP (aB cG) (bP (aA cG) (bP (am hb a rfl T4) ?_)));clear a q g;refine aB (aA (am p j rfl (bH ?_)));have a:=j.cK (aF p 0 (lF k C r t u)) (dC C.lines fun i=>aF r (t+i*25) (S5 H i (f i))) (dC C.lines fun i=>T3 H i (f i));refine aa (B:=C.lines) (C:=C) (b:=r) (o:=t) (cap:=u) (mb:=k) (H:=H) (f:=f) (by omega) rfl (fun i E=>(O i E).2) ?_ C.lines 0 z (by omega) (by simpa using a);intro h a;refine P p _ ?_;have a:=sH (a.mB (aF p 0 (lF k C r t u)) (fJ G C.lines k C fun i=>(H i).2) (hole G 25 230 (some ⟨r,t,none⟩) u C.lines r t) (dC C.lines fun i=>eC r (t+i*25) (H i).1));have a:=a.cF (cU 25 230 (some ⟨b,o,none⟩) e (C.lines,(List.range C.lines).flatMap fun i=>S5 H i (f i))) (dC C.lines fun i=>T3 H i (f i));have a:Hs G h (dC C.lines (fun i=>tV fun x=>sp [aF b (o+i*25) (S5 H i x),T3 H i x])::hole G 25 230 (some ⟨b,o,none⟩) e C.lines b o::_):=Hs.uk (W:=25) (c:=S5 H) (d:=T3 H) f (fun _ _=>rfl) y a;have a:=aCu a;have a:=sH (a.mB (aF hb 0 (lF F C b o e)) (fJ G C.lines F C fun i=>(H i).2) (hole G 25 230 (some ⟨b,o,none⟩) e C.lines b o) (dC C.lines fun i=>eC b (o+i*25) (H i).1));exact a.to
end
end Go.Proofs.YtcjlkjeeifemhaaGreatDoor.H
namespace Go.Proofs.YtcjlkjeeifemhaaGreatDoor.H
open Go Go.Ab Go.Hm Go.Mc
section
set_option maxRecDepth 100000
variable {G:Bg} {h:AH} {L L':List HP} {Q:Value->AH->Prop}
theorem aGy {α:Type} {l:List α} {i:Nat} (h:i<l.length):∃x,l[i]?=some x/\l.drop i=x::l.drop (i+1):=⟨l[i],by simp,List.drop_eq_getElem_cons h⟩
def M9 (l:List aK):Int:=((l.filter fun n=>decide (n.kind=0)).length:Int)
theorem rb {l:List aK} {i:Nat} {n:aK} (h:l[i]?=some n):M9 (l.take (i+1))=M9 (l.take i)+if n.kind=0 then 1 else 0:=by
 unfold M9;rw[List.take_add_one,h];simp only[Option.toList_some,List.filter_append,List.filter_cons,List.filter_nil];split<;>simp_all
theorem Af {a:Option Addr} {c:Nat} {l:List aK} {k:Int} (hb:l.length<=2^30) (z:0<=k/\k<=1) (y:∀q,Hs G q (rP a c l::L)->Q (I (k+M9 l)) q):
  ∀(f i:Nat) (h:AH),i+f=l.length->Hs G h (rP a c l::L)->Dd 240 4 [] Q [(I (k+M9 (l.take i))),(.slice a l.length c),(I l.length),(I i)] h:=by
 intro f
 induction f with
 |zero=>
  intro i h w d
  rw[List.take_of_length_le (by omega)]
  exact bW (aM (aaa (y _ d)))
 |succ f t=>
  intro i h w d
  obtain⟨n,r,A⟩:=aGy (l:=l) (i:=i) (by omega)
  have v:M9 (l.take i)<=2^30/\0<=M9 (l.take i):=by
   unfold M9;have:=List.length_filter_le (fun n:aK=>decide (n.kind=0)) (l.take i);have:=List.length_take_le i l;omega
  have g:=rb r
  refine bW (aM (aad (bW (qC (l:=l) (a:=a) (c:=c) (enc:=aK.enc) (e:=211) d (by decide) (by omega) (by rw[Int.toNat_natCast];exact r) (bG d fun u h d=>ax (b:=u) d fun h d=>aA (am u d rfl (aZ (aQ (fun j=>?_) (fun j=>?_)))))))))
  .rw[aNa j] at g;refine bW (aac (aac ?_));have:=t (i+1) h (by omega) d.to;rw[g] at this;rw[show k+M9 (l.take i)+1=k+(M9 (l.take i)+1) by omega];exact this
  .rw[aN9 j] at g;refine bW (aac ?_);have:=t (i+1) h (by omega) d.to;rw[g,Int.add_zero] at this;exact this
theorem P8 {C:bM} {H:kP} {hb:Nat} {x:Int} (B:yD C H (2^30)) (d:Hs G h L) [D:Has (fP G hb C) L H L'] (q:∀A,Hs G A (fP G hb C H::L')->Q (I (fL C H x)) A):Cl Pr K 240 [pt hb 0 0,I x] h Q:=by
 have d:=D.of d;unfold fL at q;by_cases u:C.has x;rotate_left;rw[aN9 u] at q;obtain⟨t,b,o,f,d⟩:=oA d;refine cW (vB d (bT (dT (aJ u (q _ (Bc C H hb t b o f d).to)))));rw[aNa u] at q;obtain⟨l,rfl⟩:=Int.eq_ofNat_of_zero_le u.1;have w:l<C.lines:=by have:=u.2;omega
 rw[Int.toNat_natCast] at q;obtain⟨t,b,o,f,d⟩:=D9 w d;obtain⟨a,c,d⟩:=dK d;have r:=(B l w).2;have d:Hs G h (aF b (o+l*25) ((H l).1.enc a c)::rP a c (H l).1.waits::aF hb 0 (lF t C b o f)::fJ G C.lines t C (fun i=>(H i).2)::hole G 25 230 (some ⟨b,o,none⟩) f C.lines b o::yX b o C.lines H l::L'):=d;have g:∀{h:AH},Hs G h (rP a c (H l).1.waits::aF b (o+l*25) ((H l).1.enc a c)::aF hb 0 (lF t C b o f)::fJ G C.lines t C (fun i=>(H i).2)::hole G 25 230 (some ⟨b,o,none⟩) f C.lines b o::yX b o C.lines H l::L')->Hs G h (fP G hb C H::L'):=by
  intro h d;have d:=jH (H l).1 (a:=a) (c:=c) d.jN;have d:=eD hb C H l (H l).1 (H l).2 _ t b o f w eJ.symm d;have e:bY H l ((H l).1,(H l).2)=H:=by funext j;unfold bY;split<;>simp_all
  rw[e] at d;exact d
 refine cW (vB d (bT (dT (bE u (bW (aB (aA (am hb d rfl (dF w (aB (aA (aC (b:=b) (o:=o+l*25) d rfl (cZ (fun y=>?_) (fun y=>?_))))))))))))));refine aB (aA (aA (aC (b:=b) (o:=o+l*25) d rfl (aZ (aQ (fun z=>?_) (fun z=>?_))))));refine bW (aac (aB (aA (aC (b:=b) (o:=o+l*25) d rfl (bH ?_)))));refine Af (a:=a) (c:=c) (l:=(H l).1.waits) (k:=1) r (by omega) (fun h d=>?_) (H l).1.waits.length 0 h (by omega) d.jN;have:=q h (g d);unfold Row.Qd at this;rw[aNa ⟨y,z⟩] at this;exact this;refine bW (aB (aA (aC (b:=b) (o:=o+l*25) d rfl (bH ?_))));refine Af (a:=a) (c:=c) (l:=(H l).1.waits) (k:=0) r (by omega) (fun h d=>?_) (H l).1.waits.length 0 h (by omega) d.jN;have:=q h (g d);unfold Row.Qd at this;rw[aN9 (fun v=>z v.2)] at this;exact this;refine aB (aA (aC (b:=b) (o:=o+l*25) d rfl (bH ?_)));refine Af (a:=a) (c:=c) (l:=(H l).1.waits) (k:=0) r (by omega) (fun h d=>?_) (H l).1.waits.length 0 h (by omega) d.jN;have:=q h (g d);unfold Row.Qd at this;rw[aN9 (fun v=>by rw[y] at v;cases v.1)] at this;exact this
end
end Go.Proofs.YtcjlkjeeifemhaaGreatDoor.H
namespace Go.Proofs.YtcjlkjeeifemhaaGreatDoor
open Go Go.Ab Go.Hm Go.At Go.Mc Go.Ct Go.Nt
section
def pL (C:bM) (H:kP) (l:List Nat):kP:=l.foldl (fun H (l:Nat)=>(iV C H l).1) H
theorem Yw {C:bM} {H:kP} {l:List Nat} {k:Nat}:pL C H (l++[k])=(iV C (pL C H l) k).1:=by unfold pL;rw[List.foldl_append];rfl
theorem X3 {C:bM} {H:kP} {N:Nat} {l:Int} (h:yD C H N):yD C (iV C H l).1 (N+1):=by
 intro k d;obtain⟨a,c⟩:=h k d;unfold iV;split;rename_i f;unfold bY;dsimp only;split;rename_i e;subst e;refine⟨⟨a.core,a.owner,?_⟩,?_⟩;intro n b;rcases List.mem_append.1 b with b|b;exact a.waits n b;rw[List.mem_singleton.1 b];show(0:Int)<=0/\(0:Int)<4;omega;show((H l.toNat).1.waits++[Ca l]).length<=N+1;rw[List.length_append,List.length_singleton];omega;exact⟨a,by omega⟩;exact⟨a,Nat.le_succ_of_le c⟩
theorem Ts {C:bM} {N:Nat}:∀{l:List Nat} {H:kP},yD C H N->yD C (pL C H l) (N+l.length):=by
 intro l;induction l generalizing N with
 |nil=>intro H h;exact h
 |cons k l a=>
  intro H h;have:=a (X3 (l:=k) h);rw[List.length_cons,show N+(l.length+1)=N+1+l.length by omega];exact this
set_option maxRecDepth 100000
variable {G:Bg} {h:AH} {L L':List HP} {Q:Value->AH->Prop} {Cf:bM} {m:Nat} {M:cN}
abbrev swX (G:Bg) (Cf:bM) (m p2:Nat) (M:cN) (e:Nat->Value) (d l:Nat) (done:List Nat):HP:=sp [kE Pr 225 (kI 14) 18 e d l (.ready,none),aF p2 0 [pt m 0 0],bI G Cf m (M.rX (pL Cf M.home done))]
theorem jb {g:Nat} (hC:Cf.Ok) (hG:Gb G) (E:(g:Int)<Cf.bU) (F:yD Cf M.home (2^30 - 4)) (a:Hs G h L) [J:Has (bI G Cf m) L M L'] (f:∀v r,Hs G r (bI G Cf m (M.rX (Mn Cf M.home g))::L')->Q v r):Cl Pr K 225 [pt m 0 0,I g] h Q:=by
 refine cW (dB (J.of a) fun c h a=>?_);obtain⟨x,j,a⟩:=cJ (a.front (bI G Cf m M));refine am c a rfl (aB (aA (gD (b:=m) (o:=0) a (by decide) (l:=Cf.enc) rfl rfl (Cy (C:=Cf) a fun u w h a=>?_))));have a:Hs G h (bI G Cf m (M.rX (pL Cf M.home []))::_):=bB (m:=m) (x:=x) M j a;refine jM a fun d h a=>?_;intro e D;refine lY a fun l h a=>rL rfl ?_;have a:Hs G h (sp [aF u 0 Cf.enc,aF w 0 [I g]]::swX G Cf m c M e d l []::mk d ()::L'):=by
  have a:=(a.cK (kE Pr 225 (kI 14) 18 e d l (.ready,none)) (aF c 0 [pt m 0 0]) (bI G Cf m (M.rX (pL Cf M.home [])))).Gn;exact a.to
 refine(Fo (C:=Cf) hC E (p:=u) (q:=w) hG.lim).fold (X:=fun done=>swX G Cf m c M e d l done) (Z:=fun _ _=>uH False) a ?_ ?_ ?_
 .intro done y h N t a;have a:=a.wP;have B:done.length<=1:=by have:=t.length_le;simp at this;omega
  obtain⟨x,j,a⟩:=cJ (a.front (bI G Cf m (M.rX (pL Cf M.home done))));refine rW (rK a) D (gS a fun h a=>am c a rfl (aB (aA (am m a rfl ?_))));refine H.vu (C:=Cf) (H:=pL Cf M.home done) (fun k f=>by have:=Ts (l:=done) F k f;exact⟨this.1,by omega⟩) a fun h a=>gV a fun h a=> .inl ⟨rfl,?_⟩;rw[<-Yw] at a;have a:=bB (m:=m) (x:=x) (M.rX (pL Cf M.home (done++[y]))) j a;have a:=(a.cK (kE Pr 225 (kI 14) 18 e d l (.ready,none)) (aF c 0 [pt m 0 0]) (bI G Cf m (M.rX (pL Cf M.home (done++[y]))))).Gn;exact a.to
 intro v h a;have a:=(a.front (swX G Cf m c M e d l [g*2,g*2+1])).wP;have z:pL Cf M.home [g*2,g*2+1]=Mn Cf M.home g:=by unfold pL Mn;simp
 rw[z] at a;exact mC a fun h a=>lT (kN a fun h a=>iF (f _ _ a.to))
 .intro done y v h t a;obtain⟨A,_⟩:=(a.front (uH False)).jr;exact A.elim
end
section
set_option maxRecDepth 100000
variable {G:Bg} {h:AH} {L L':List HP} {Q:Value->AH->Prop} {Cf:bM} {m:Nat} {M:cN} {n:aK}
def aGr (G:Bg) (Cf:bM) (m:Nat) (Z:HP) (b:Value) (A B:cN):Prop:=∀(h:AH) (L:List HP) (Q:Value->AH->Prop),Hs G h (Z::bI G Cf m A::L)->(∀v a,Hs G a (bI G Cf m B::L)->Q v a)->yG Pr K b [] h Q
abbrev TK (G:Bg) (Cf:bM) (m:Nat) (M:cN) (L:List HP) (Q:Value->AH->Prop) (r:cN×List aK×Int):Prop:=∀v a Z b,Hs G b (H.eF v r.2.1::Z::bI G Cf m M::L)->(r.2.2=0->∀F,aGr G Cf m Z a (M.dH F) (r.1.dH F))->Q (.tuple ⟨[v,a,I r.2.2]⟩) b
theorem Fj {C:bM} {H:kP} {N a:Nat} (h:yD C H N) (c:N<=a):yD C H a:=fun k b=>⟨(h k b).1,Nat.le_trans (h k b).2 c⟩
theorem aAv {p2 j:Nat} (hC:Cf.Ok) (hG:Gb G) (k:xW Cf M n) (a:Hs G h (aF p2 0 [pt m 0 0]::aF j 0 n.enc::bI G Cf m M::L)) (d:TK G Cf m M L Q (M.rX (fF Cf M.home n).1,(fF Cf M.home n).2.1,(fF Cf M.home n).2.2)):Dd 149 3 [] Q [(pt p2 0 0),(pt j 0 0)] h:=by
 obtain⟨x,g,a⟩:=cJ (a.front (bI G Cf m M));refine bW (am p2 a rfl (aB (aA (am m a rfl (H.Ki (C:=Cf) hC (Fj k.home (by omega)) a fun q h a=>bG a fun c h a=>ax (b:=c) a fun h a=>am c a rfl (an j a (l:=n.enc) rfl rfl ?_))))));refine H.Dt (C:=Cf) (hb:=q) (H:=M.home) (n:=n) hC hG.lim (Fj k.home (by omega)) a fun v h a=>aH rfl (aH rfl ?_);have a:=bB (m:=m) (x:=x) M g a;have a:=(a.cK (aF c 0 [pt q 0 0]) (aF p2 0 [pt m 0 0]) (H.fP G q Cf (fF Cf M.home n).1)).Gn;refine d v _ (sp [aF c 0 [pt q 0 0],aF p2 0 [pt m 0 0],H.fP G q Cf (fF Cf M.home n).1]) h a.to fun _ F=>?_;intro h L Q a d;have a:=a.wP;obtain⟨x,g,a⟩:=cJ (a.front (bI G Cf m (M.dH F)));refine qJ rfl (cW (f:=212) (am p2 a rfl (am c a rfl (aB (aA (ay (b:=m) (o:=0) a fun h a=>d _ _ ?_))))));have e:dH (eQ Cf x M.log.length) (0+10) [pt q 0 0]=eQ Cf {x with hb:=q} M.log.length:=rfl;rw[e] at a;exact(bB (m:=m) (x:={x with hb:=q}) ((M.rX (fF Cf M.home n).1).dH F) g a).to
theorem aA0 {p2 v:Nat} (hC:Cf.Ok) (hG:Gb G) (z:xW Cf M n) (d:Hs G h (aF p2 0 [pt m 0 0]::aF v 0 n.enc::bI G Cf m M::L)) (y:TK G Cf m M L Q (M.qF n.core.toNat (gY Cf n.core (M.cX n.core.toNat) n).1,(gY Cf n.core (M.cX n.core.toNat) n).2.1,(gY Cf n.core (M.cX n.core.toNat) n).2.2)):Dd 149 9 [] Q [(pt p2 0 0),(pt v 0 0)] h:=by
 have k:Bd (M.cX n.core.toNat):=z.Hh.bd (nE hC).2.2.2;obtain⟨i,A⟩:=Int.eq_ofNat_of_zero_le z.core.1;have J:(i:Int)<Cf.aG:=by have:=z.core.2;omega
 rw[A,Int.toNat_natCast] at y;have j:=z.Hh;rw[A,Int.toNat_natCast] at j k;obtain⟨x,u,d⟩:=cJ (d.front (bI G Cf m M));have g:i<x.lk.length:=by have:=u.2.1;omega
 have B:n.enc[0+1]?=some (I i):=by show some (I n.core)=_;rw[A]
 refine bW (aU d fun E h d=>am p2 d rfl (aB (aA (am m d rfl (aA (am v d B (Gs d g ?_)))))));have d:=gN (R:=oI G Cf) (l:=x.lk) (s:=M.cX) g d;refine C.gx (C:=Cf) (core:=(i:Int)) (c:=x.lk.getD i 0) (s:=M.cX i) hC k d fun q h d=>kM (r:=E) (i:=9) (n:=11) (D:=[]) d rfl rfl fun w h d=>ax (b:=w) d fun h d=>am w d rfl (an v d (l:=n.enc) rfl rfl ?_);refine C.Dt (C:=Cf) (core:=(i:Int)) (c:=q) (s:=M.cX i) (n:=n) hC k j.sts hG.lim hG.row d fun a c h d=>aH rfl (aH rfl ?_);have d:=A5 (Cf:=Cf) (l:=x.lk) (s:=M.cX) (i:=i) (t:=M.cX i) g d;rw[bL] at d;have d:=bB (m:=m) (x:=x) M u d;have d:=(d.mB (aF w 0 [pt q 0 0]) (aF p2 0 [pt m 0 0]) (aF v 0 n.enc) (C.gQ G q Cf i (gY Cf i (M.cX i) n).1)).M3;have d:=H.F6 (l:=(gY Cf i (M.cX i) n).2.1) rfl rfl (d.front (cU 9 211 a c ((gY Cf i (M.cX i) n).2.1.length,eA (gY Cf i (M.cX i) n).2.1)));refine y _ _ (sp [aF w 0 [pt q 0 0],aF p2 0 [pt m 0 0],aF v 0 n.enc,C.gQ G q Cf i (gY Cf i (M.cX i) n).1]) h d.to fun _ F=>?_;intro h L Q d y;have d:=d.un4;obtain⟨x,u,d⟩:=cJ (d.front (bI G Cf m (M.dH F)));have g:i<x.lk.length:=by have:=u.2.1;omega
 refine qJ rfl (cW (f:=215) (aU d fun E h d=>am p2 d rfl (aB (aA (am m d rfl (aA (am v d B (am w d rfl (ey d g fun h d=>y _ _ ?_)))))))));have d:=gN (R:=oI G Cf) (l:=x.lk) (s:=M.cX) g d;have d:=D3 (R:=oI G Cf) (l:=x.lk) (s:=M.cX) (i:=i) (q:=q) (t:=(gY Cf i (M.cX i) n).1) g d;have e:eQ Cf x M.log.length=eQ Cf {x with lk:=x.lk.set i q} M.log.length:=by unfold eQ;rw[List.length_set]
 rw[e] at d;exact(bB (m:=m) (x:={x with lk:=x.lk.set i q}) ((M.qF i (gY Cf i (M.cX i) n).1).dH F) ⟨u.1,by rw[List.length_set];exact u.2.1,u.2.2⟩ d).to
end
section
theorem U1 {m:Mon} {c g x:Int} (h:(m.dropped c g x).2.1=true):m.has g:=by
 unfold Mon.dropped at h;by_cases a:m.has g;exact a;rw[aNa a] at h;cases h
set_option maxRecDepth 100000
variable {G:Bg} {h:AH} {L L':List HP} {Q:Value->AH->Prop} {Cf:bM} {m:Nat} {M:cN} {n:aK}
theorem vp {v:Value} {l:List aK} (a:Hs G h (H.eF v l::L)):Hs G h (H.eF v l::sp []::L):=(Hs.pack (A:=[]) a).jN
theorem Pd {a:Addr} {c:Nat} {x:aK} (b:Hs G h (cU 9 211 (some a) c (1,x.enc)::L)):Hs G h (H.eF (.slice (some a) 1 c) [x]::L):=H.F6 (l:=[x]) rfl (by simp[eA]) b
theorem Ft (a:Hs G h L):Hs G h (H.eF (.slice none 0 0) []::L):=H.pP a
theorem aAk {p2 e:Nat} (hC:Cf.Ok) (k:xW Cf M n) (d:Hs G h (aF p2 0 [pt m 0 0]::aF e 0 n.enc::bI G Cf m M::L)) (g:TK G Cf m M L Q (M,[E0 n.core (sQ M.dS.fY n.no).1 n.no],(sQ M.dS.fY n.no).2)):Dd 149 13 [] Q [(pt p2 0 0),(pt e 0 0)] h:=by
 have j:=k.dS.len;have l:=hC.2.1;obtain⟨x,q,d⟩:=cJ (d.front (bI G Cf m M));obtain⟨t,b,d⟩:=kB (d.front (fD Cf x.mb M.dS));refine bW (aU d fun r h d=>am p2 d rfl (aB (aA (am m d rfl (aB (aA (aC (b:=x.mb) (o:=0) d rfl (aA (am e d rfl (yv (es:=M.dS.fY) (by omega) k.dS.own d fun h d=>?_))))))))));refine aH rfl (aH rfl (aA (am e d rfl (aI (c:=[I (sQ M.dS.fY n.no).1,I 0]) rfl (aA (am e d rfl (aI (c:=(E0 n.core (sQ M.dS.fY n.no).1 n.no).enc) rfl (aI (c:=(E0 n.core (sQ M.dS.fY n.no).1 n.no).enc) rfl (dA (W:=9) (n:=1) (c:=1) d rfl rfl rfl fun a h d=>?_)))))))));have d:=dJ (d.cK (aF x.mb 0 [pt t 0 0,I Cf.aG,fN b]) (gL t M.dS.fY) (iD b (fH M.dS.runs)));have d:=bB (m:=m) (x:=x) M q d;have d:=Pd (d.front (cU 9 211 (some a) 1 (1,(E0 n.core (sQ M.dS.fY n.no).1 n.no).enc)));refine g _ _ (sp []) h (vp d.to) fun _ F=>?_;intro h L Q d g;exact qJ rfl (cW (f:=217) (g _ _ d.tail))
theorem yz {q j p2 g i:Nat} {t:mP} (_:Cf.Ok) (k:n.enc[0+1]?=some (I i)) (r:(i:Int)<Cf.aG) (F:fM):aGr G Cf m (sp [aF j 0 [pt q 0 0],aF p2 0 [pt m 0 0],aF g 0 n.enc,jC q Cf t]) (.func (.func 220) #[] #[pt j 0 0,pt p2 0 0,pt g 0 0]) (M.dH F) ((M.Cj i t).dH F):=by
 intro h L Q a u;have a:=a.un4;obtain⟨x,d,a⟩:=cJ (a.front (bI G Cf m (M.dH F)));have c:i<x.lq.length:=by have:=d.2.2;omega
 refine qJ rfl (cW (f:=220) (aU a fun v h a=>am p2 a rfl (aB (aA (am m a rfl (aA (am g a k (am j a rfl (Qk a c fun h a=>u _ _ ?_)))))))));have a:=gN (R:=nO Cf) (l:=x.lq) (s:=M.cL) c a;have a:=D3 (R:=nO Cf) (l:=x.lq) (s:=M.cL) (i:=i) (q:=q) (t:=t) c a;have e:eQ Cf x M.log.length=eQ Cf {x with lq:=x.lq.set i q} M.log.length:=by unfold eQ;rw[List.length_set]
 rw[e] at a;exact(bB (m:=m) (x:={x with lq:=x.lq.set i q}) ((M.Cj i t).dH F) ⟨d.1,d.2.1,by rw[List.length_set];exact d.2.2⟩ a).to
theorem aDd {q j p2 g i:Nat} {t:mP} (_:Cf.Ok) (k:n.enc[0+1]?=some (I i)) (r:(i:Int)<Cf.aG) (F:fM):aGr G Cf m (sp [aF j 0 [pt q 0 0],aF p2 0 [pt m 0 0],aF g 0 n.enc,jC q Cf t]) (.func (.func 222) #[] #[pt j 0 0,pt p2 0 0,pt g 0 0]) (M.dH F) ((M.Cj i t).dH F):=by
 intro h L Q a u;have a:=a.un4;obtain⟨x,d,a⟩:=cJ (a.front (bI G Cf m (M.dH F)));have c:i<x.lq.length:=by have:=d.2.2;omega
 refine qJ rfl (cW (f:=222) (aU a fun v h a=>am p2 a rfl (aB (aA (am m a rfl (aA (am g a k (am j a rfl (Qk a c fun h a=>u _ _ ?_)))))))));have a:=gN (R:=nO Cf) (l:=x.lq) (s:=M.cL) c a;have a:=D3 (R:=nO Cf) (l:=x.lq) (s:=M.cL) (i:=i) (q:=q) (t:=t) c a;have e:eQ Cf x M.log.length=eQ Cf {x with lq:=x.lq.set i q} M.log.length:=by unfold eQ;rw[List.length_set]
 rw[e] at a;exact(bB (m:=m) (x:={x with lq:=x.lq.set i q}) ((M.Cj i t).dH F) ⟨d.1,d.2.1,by rw[List.length_set];exact d.2.2⟩ a).to
theorem mj {p2 f:Nat} (hC:Cf.Ok) (z:xW Cf M n) (N:0<=n.d0/\n.d0<=1000000) (d:Hs G h (aF p2 0 [pt m 0 0]::aF f 0 n.enc::bI G Cf m M::L))
  (w:TK G Cf m M L Q (M.Cj n.core.toNat ((M.cL n.core.toNat).walked Cf n.no n.d0).1,if((M.cL n.core.toNat).walked Cf n.no n.d0).2.2.1 then [] else [eX 6 n.core ((M.cL n.core.toNat).walked Cf n.no n.d0).2.1],((M.cL n.core.toNat).walked Cf n.no n.d0).2.2.2)):Dd 149 16 [] Q [(pt p2 0 0),(pt f 0 0)] h:=by
 obtain⟨i,K⟩:=Int.eq_ofNat_of_zero_le z.core.1
 have v:(i:Int)<Cf.aG:=by have:=z.core.2;omega
 have j:=z.An
 have u:=z.cE
 have y:n.enc[0+1]?=some (I i):=by show some (I n.core)=_;rw[K]
 rw[K,Int.toNat_natCast] at w j u
 obtain⟨x,B,d⟩:=cJ (d.front (bI G Cf m M))
 have g:i<x.lq.length:=by have:=B.2.2;omega
 refine bW (aU d fun O h d=>am p2 d rfl (aB (aA (am m d rfl (aA (am f d y (Gt d g ?_)))))))
 have d:=gN (R:=nO Cf) (l:=x.lq) (s:=M.cL) g d
 refine C4 (C:=Cf) (p:=x.lq.getD i 0) (s:=M.cL i) j d fun q h d=>kM (r:=O) (i:=9) (n:=11) (D:=[]) d rfl rfl fun k h d=>ax (b:=k) d fun h d=>am k d rfl (aA (am f d rfl (aA (iI (by decide) (by decide) (am f d rfl ?_)))))
 refine py (C:=Cf) (p:=q) (s:=M.cL i) hC j u N d fun h d=>aH rfl (aH rfl (aH rfl (bT (dT (cZ (fun A=>?_) (fun A=>?_))))))
 .rw[A,aNa rfl] at w;have d:=uM (Cf:=Cf) (l:=x.lq) (s:=M.cL) (i:=i) (t:=M.cL i) g d;rw[bL] at d;have d:=bB (m:=m) (x:=x) M B d;have d:=(d.mB (aF k 0 [pt q 0 0]) (aF p2 0 [pt m 0 0]) (aF f 0 n.enc) (jC q Cf ((M.cL i).walked Cf n.no n.d0).1)).M3;exact w _ _ (sp [aF k 0 [pt q 0 0],aF p2 0 [pt m 0 0],aF f 0 n.enc,jC q Cf ((M.cL i).walked Cf n.no n.d0).1]) h (Ft d.to) fun _ F=>yz hC y v F
 .rw[A,aN9 (by simp)] at w;have d:=qZ (enc:=aK.enc) (e:=211) d;refine bW (aA (am f d y (aI (c:=(eX 6 i ((M.cL i).walked Cf n.no n.d0).2.1).enc) rfl (aI (c:=(eX 6 i ((M.cL i).walked Cf n.no n.d0).2.1).enc) rfl (dA (W:=9) (n:=1) (c:=1) d rfl rfl rfl fun a h d=>?_)))));have d:=tO (enc:=aK.enc) (x:=eX 6 i ((M.cL i).walked Cf n.no n.d0).2.1) d;refine rR (enc:=aK.enc) (e:=211) (l:=[]) (l2:=[eX 6 i ((M.cL i).walked Cf n.no n.d0).2.1]) (a:=none) (c:=0) (a2:=some a) (c2:=1) d (by simp) fun E J h d=>?_;have d:=uM (Cf:=Cf) (l:=x.lq) (s:=M.cL) (i:=i) (t:=M.cL i) g d;rw[bL] at d;have d:=bB (m:=m) (x:=x) M B d;have d:=(d.mB (aF k 0 [pt q 0 0]) (aF p2 0 [pt m 0 0]) (aF f 0 n.enc) (jC q Cf ((M.cL i).walked Cf n.no n.d0).1)).M3;have d:=d.front (ls aK.enc 9 211 E J ([]++[eX 6 i ((M.cL i).walked Cf n.no n.d0).2.1]));unfold ls at d;have d:=H.F6 (l:=[eX 6 i ((M.cL i).walked Cf n.no n.d0).2.1]) rfl (by simp[eL,eA]) d;exact w (.slice E [eX 6 i ((M.cL i).walked Cf n.no n.d0).2.1].length J) _ (sp [aF k 0 [pt q 0 0],aF p2 0 [pt m 0 0],aF f 0 n.enc,jC q Cf ((M.cL i).walked Cf n.no n.d0).1]) h d.to fun _ F=>yz hC y v F
theorem aD2 {p2 e:Nat} (hC:Cf.Ok) (v:xW Cf M n) (d:Hs G h (aF p2 0 [pt m 0 0]::aF e 0 n.enc::bI G Cf m M::L))
  (y:TK G Cf m M L Q (M.Cj n.core.toNat ((M.cL n.core.toNat).drop Cf n.no).1,[eX 7 n.core n.no],((M.cL n.core.toNat).drop Cf n.no).2)):Dd 149 19 [] Q [(pt p2 0 0),(pt e 0 0)] h:=by
 obtain⟨i,w⟩:=Int.eq_ofNat_of_zero_le v.core.1
 have u:(i:Int)<Cf.aG:=by have:=v.core.2;omega
 have g:=v.An
 have k:n.enc[0+1]?=some (I i):=by show some (I n.core)=_;rw[w]
 rw[w,Int.toNat_natCast] at y g
 obtain⟨x,z,d⟩:=cJ (d.front (bI G Cf m M))
 have f:i<x.lq.length:=by have:=z.2.2;omega
 refine bW (aU d fun A h d=>am p2 d rfl (aB (aA (am m d rfl (aA (am e d k (Gt d f ?_)))))))
 have d:=gN (R:=nO Cf) (l:=x.lq) (s:=M.cL) f d
 refine C4 (C:=Cf) (p:=x.lq.getD i 0) (s:=M.cL i) g d fun q h d=>kM (r:=A) (i:=9) (n:=11) (D:=[]) d rfl rfl fun j h d=>ax (b:=j) d fun h d=>am j d rfl (aA (am e d rfl ?_))
 refine Zo (C:=Cf) (p:=q) (s:=M.cL i) g d fun _ h d=>aH rfl (aH rfl (aA (am e d k (aA (am e d rfl (aI (c:=(eX 7 i n.no).enc) rfl (aI (c:=(eX 7 i n.no).enc) rfl (dA (W:=9) (n:=1) (c:=1) d rfl rfl rfl fun a h d=>?_))))))))
 have d:=uM (Cf:=Cf) (l:=x.lq) (s:=M.cL) (i:=i) (t:=M.cL i) f d
 rw[bL] at d
 have d:=bB (m:=m) (x:=x) M z d
 have d:=(d.mB (aF j 0 [pt q 0 0]) (aF p2 0 [pt m 0 0]) (aF e 0 n.enc) (jC q Cf ((M.cL i).drop Cf n.no).1)).M3
 have d:=Pd (d.front (cU 9 211 (some a) 1 (1,(eX 7 i n.no).enc)))
 exact y _ _ (sp [aF j 0 [pt q 0 0],aF p2 0 [pt m 0 0],aF e 0 n.enc,jC q Cf ((M.cL i).drop Cf n.no).1]) h d.to fun _ F=>aDd hC k u F
theorem Zw {p2 c:Nat} (hC:Cf.Ok) (hG:Gb G) (l:xW Cf M n) (a:Hs G h (aF p2 0 [pt m 0 0]::aF c 0 n.enc::bI G Cf m M::L))
  (d:TK G Cf m M L Q (if(M.dS.dropped Cf.aG n.no n.core).2.1 then(M.sC (M.dS.dropped Cf.aG n.no n.core).1).rX (Mn Cf M.home n.no) else M.sC (M.dS.dropped Cf.aG n.no n.core).1,[],(M.dS.dropped Cf.aG n.no n.core).2.2)):Dd 149 21 [] Q [(pt p2 0 0),(pt c 0 0)] h:=by
 obtain⟨x,u,a⟩:=cJ (a.front (bI G Cf m M))
 refine bW (am p2 a rfl (aB (aA (am m a rfl (Mw (C:=Cf) (m:=M.dS) hC l.dS a fun q h a=>bG a fun r h a=>ax (b:=r) a fun h a=>am r a rfl (aA (am c a rfl (aA (am c a rfl ?_)))))))))
 refine Nx (C:=Cf) (m:=M.dS) (p:=q) hC l.dS a fun h a=>aH rfl (aH rfl (bG a fun j h a=>ax (b:=j) a fun h a=>?_))
 have a:=bB (m:=m) (x:=x) M u a
 have a:=(a.cF (aF j 0 [.bool (M.dS.dropped Cf.aG n.no n.core).2.1]) (aF c 0 n.enc)).A9
 have a:=(a.mB (aF r 0 [pt q 0 0]) (aF p2 0 [pt m 0 0]) (sp [aF j 0 [.bool (M.dS.dropped Cf.aG n.no n.core).2.1],aF c 0 n.enc]) (fD Cf q (M.dS.dropped Cf.aG n.no n.core).1)).M3
 refine d _ _ (sp [aF r 0 [pt q 0 0],aF p2 0 [pt m 0 0],sp [aF j 0 [.bool (M.dS.dropped Cf.aG n.no n.core).2.1],aF c 0 n.enc],fD Cf q (M.dS.dropped Cf.aG n.no n.core).1]) h (Ft a.to) fun _ F=>?_
 intro h L Q a d
 have a:=a.un4
 have a:=(a.front (sp [aF j 0 [.bool (M.dS.dropped Cf.aG n.no n.core).2.1],aF c 0 n.enc])).Bq
 obtain⟨x,u,a⟩:=cJ (a.front (bI G Cf m (M.dH F)))
 refine qJ rfl (cW (f:=224) (am p2 a rfl (am r a rfl (aB (aA (ay (b:=m) (o:=0) a fun h a=>am j a rfl (cZ (fun t=>?_) (fun t=>?_))))))))
 .have y:=U1 t;obtain⟨g,k,z,_⟩:=Qx l.dS hC y;have A:=l.dS.len;rw[aNa t] at d;have e:dH (eQ Cf x M.log.length) (0+11) [pt q 0 0]=eQ Cf {x with mb:=q} M.log.length:=rfl;rw[e] at a;have w:n.enc[0+8]?=some (I g):=by show some (I n.no)=_;rw[k]
  refine am p2 a rfl (aA (am c a w ?_))
  have a:=bB (m:=m) (x:={x with mb:=q}) ((M.sC (M.dS.dropped Cf.aG n.no n.core).1).dH F) u a
  rw[k] at d a
  exact jb (Cf:=Cf) (M:=(M.sC (M.dS.dropped Cf.aG g n.core).1).dH F) hC hG (by omega) l.home a fun v h a=>d _ _ a.to
 .rw[aN9 (by rw[t];simp)] at d;have e:dH (eQ Cf x M.log.length) (0+11) [pt q 0 0]=eQ Cf {x with mb:=q} M.log.length:=rfl;rw[e] at a;exact d _ _ (bB (m:=m) (x:={x with mb:=q}) ((M.sC (M.dS.dropped Cf.aG n.no n.core).1).dH F) u a).to
end
end Go.Proofs.YtcjlkjeeifemhaaGreatDoor
end
