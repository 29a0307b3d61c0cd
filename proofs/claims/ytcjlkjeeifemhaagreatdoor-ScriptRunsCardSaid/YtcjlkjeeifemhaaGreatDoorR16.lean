/- A part of the proof. -/
import Derived.Test.YtcjlkjeeifemhaaGreatDoorR15
import Derived.Test.YtcjlkjeeifemhaaGreatDoorR9
import Derived.Test.YtcjlkjeeifemhaaGreatDoorR14
section
open Go Go.Ab
attribute [local irreducible] aY Br oM tU tZ Bj kK tW jJ Oy gO lN oP nQ nD iK vN tD I5 Q2 Nf M1 Sb Nl J1 Nj Pc kA mM qI iH copyV gW uU S4 S7 Fa jD Le O1 Ta lS oS wJ yB Cl yG Rz qY qM iP eP cI bS
namespace Go.Proofs.YtcjlkjeeifemhaaGreatDoor.C
open Go Go.Ab Go.Hm Go.Ct
section
theorem zB {n:Nat} {S:Nat->List Th} {no:Int}:bY S (setOf n no) (S (setOf n no))=S:=aBg
theorem aHj {l:List Th} (h:0<l.length):(eE l)[0*5+(0+0)]?=some (I (l[0]).1):=by
 cases l with
 |nil=>simp at h
 |cons y l=>rfl
theorem gu {no:Int} {l:List Th} {i:Nat} {x:rI} (h:l[i]?=some (no,x)):((eE l).drop (i*5+1)).take 4=x.enc:=by
 have:=Wa h;rw[<-List.drop_drop];have a:(((eE l).drop (i*5)).take 5).drop 1=x.enc:=by rw[this];rfl
 rw[List.drop_take] at a;exact a
set_option maxRecDepth 100000
variable {G:Bg} {h:AH} {L L' M:List HP}
theorem E1 {t ways n:Nat} {no:Int} {S:Nat->List Th} {Q:Value->AH->Prop} (j:0<n) (hb:∀i,(S i).length<=4) (d:Hs G h L) [m:Has (gX G t ways n) L S L']
  (g:∀r,Hs G r (gX G t ways n S::L')->Q (.tuple ⟨[.agg ⟨(cA n S no).1.enc⟩,I (cA n S no).2]⟩) r):Cl Pr K 278 [pt t 0 0,I no] h Q:=by
 have d:=m.of d
 refine cW (bG d ?_)
 intro p h d
 unfold cA at g
 by_cases k:no<0
 .rw[aNa k] at g;refine Ud k d fun h d=>aH rfl (aH rfl (aH rfl (aT (aad (aN d (by decide) (l:=rI.zero.enc) rfl rfl ?_)))));refine ax d ?_;intro h d;exact aN d (by decide) (l:=rI.zero.enc) rfl rfl (g _ d.tail)
 .rw[aN9 k] at g;obtain⟨b,o,f,d⟩:=Iz (kD (no:=no) j) (d.front (gX G t ways n S));refine uP (t:=t) (ways:=ways) (n:=n) (b:=b) (o:=o) (cap:=f) (l:=S (setOf n no)) j (by omega) (hb _) d fun h d=>aH rfl (aH rfl (aH rfl (aT (aaa ?_))));refine bW ?_;cases hx:ix no (S (setOf n no)) with
  |none=>
   rw[(Au hx).1] at g
   simp only[qh,hx]
   refine aM (aad (an p d (l:=rI.zero.enc) rfl rfl ?_))
   refine ax (b:=p) (o:=0) d ?_
   intro h d
   refine aN d (by decide) (l:=rI.zero.enc) rfl rfl (g _ ?_)
   have:=sS t ways n S (setOf n no) (S (setOf n no)) b o f (kD j) d
   rw[zB] at this
   exact this.to
  |some i=>
   obtain⟨x,v,w,A,y⟩:=xX hx
   rw[w] at g
   simp only[qh,hx]
   obtain⟨a,c,d⟩:=tI (d.front (dX b (o+setOf n no*1) (S (setOf n no))))
   obtain⟨q,u,z,e⟩:=(d.front (cU 5 297 a c ((S (setOf n no)).length,eE (S (setOf n no))))).eZ (by omega)
   subst z
   refine aM (aaa (aB (aC (b:=b) (o:=o+setOf n no*1) e rfl (dF y (aA (Ku (b:=q) (o:=u) e (by decide) (l:=x.enc) (by rw[Nat.zero_add];exact gu v) rfl ?_))))))
   have e:=e.nH (A6 _) (xN _)
   refine ax (b:=p) (o:=0) e ?_
   intro h d
   refine aN d (by decide) (l:=x.enc) rfl rfl (g _ ?_)
   have d:=iX b (o+setOf n no*1) (S (setOf n no)) (a:=some ⟨q,u,none⟩) (c:=c) d rfl rfl
   have:=sS t ways n S (setOf n no) (S (setOf n no)) b o f (kD j) d
   rw[zB] at this
   exact this.to
theorem jx {t ways n:Nat} {no:Int} {S:Nat->List Th} {Q:Value->AH->Prop} (H:0<ways) (p:0<n) (B:0<=no) (hb:∀i,(S i).length<=4) (d:Hs G h L) [m:Has (gX G t ways n) L S L']
  (g:∀u,Hs G u (gX G t ways n S::L')->Q (match Ik n ways S no with|some v=> .tuple ⟨[I v.1,.bool true,I 0]⟩|none=> .tuple ⟨[I 0,.bool false,I 0]⟩) u):Cl Pr K 348 [pt t 0 0,I no] h Q:=by
 have d:=m.of d
 unfold Ik at g
 refine cW ?_
 obtain⟨b,o,e,d⟩:=Iz (kD (no:=no) p) (d.front (gX G t ways n S))
 refine uP (t:=t) (ways:=ways) (n:=n) (b:=b) (o:=o) (cap:=e) (l:=S (setOf n no)) p (by omega) (hb _) d fun h d=>aH rfl (aH rfl (aH rfl (aT (aaa ?_))))
 refine bW (aU d ?_)
 intro r h d
 have back:∀{h:AH},Hs G h (ia r (13,[])::aF t 0 (rD ways n b o e)::dX b (o+setOf n no*1) (S (setOf n no))::hole G 1 294 (some ⟨b,o,none⟩) e n b o::Uf b o n S (setOf n no)::L')->Hs G h (gX G t ways n S::L'):=fun d=>by
  have:=sS t ways n S (setOf n no) (S (setOf n no)) b o e (kD p) d;rw[zB] at this;exact this.to
 cases hx:ix no (S (setOf n no)) with
 |some i=>
  obtain⟨x,D,y,E,F⟩:=xX hx
  rw[y] at g
  simp only[qh,hx]
  exact dE (aad (g _ (back d)))
 |none=>
  rw[(Au hx).1] at g
  simp only[qh,hx]
  obtain⟨a,c,d⟩:=tI (d.front (dX b (o+setOf n no*1) (S (setOf n no))))
  refine dE (aaa (aB (aC (b:=b) (o:=o+setOf n no*1) d rfl (bH (aB (aA (am t d rfl (aM (aQ (fun A=>?_) (fun A=>?_))))))))))
  .simp only[aNa (show(S (setOf n no)).length<ways by omega)] at g;refine g _ (back ?_);exact(iX b (o+setOf n no*1) (S (setOf n no)) (a:=a) (c:=c) d rfl rfl).to
  .have k:0<(S (setOf n no)).length:=by omega
   simp only[aN9 (show ¬(S (setOf n no)).length<ways by omega),List.getElem?_eq_getElem k] at g
   obtain⟨q,w,z,f⟩:=(d.front (cU 5 297 a c ((S (setOf n no)).length,eE (S (setOf n no))))).eZ k
   subst z
   refine aB (aC (b:=b) (o:=o+setOf n no*1) f rfl (dF (i:=0) k (aA (aE8 (b:=q) (o:=w) (i:=0*5) (j:=0+0) f (v:=I ((S (setOf n no))[0]).1) ?_ (g _ ?_)))))
   .exact aHj k
   .have f:=f.nH (A6 _) (xN _);refine back ?_;exact(iX b (o+setOf n no*1) (S (setOf n no)) (a:=some ⟨q,w,none⟩) (c:=c) f rfl rfl).to
theorem N7 {l:List Th} {i c:Nat} {a:Option Addr} {Q:Value->AH->Prop} (u:i<l.length) (hb:l.length<=4) (d:Hs G h L) [m:Has (cU 5 297 a c) L (l.length,eE l) L']
  (w:∀j,Hs G j (cU 5 297 a c (l.length - 1,eE (l.take i++l.drop (i+1)))::L')->Q (.slice a (l.length - 1) c) j):Cl Pr K 352 [.slice a l.length c,I i,I ((i:Int)+1)] h Q:=by
 have d:=m.of d
 have e:l.length<=c:=by
  obtain⟨r,y,⟨_,_,x⟩,_⟩:=d.fst;rcases x with⟨g,_⟩|⟨g,_⟩|⟨e,_⟩;simp only at g;omega;simp only at g;omega;exact e
 obtain⟨b,o,t,_⟩:=d.oJ (by omega)
 refine cW (bH ?_)
 refine ar (v:= .slice (some ⟨b,o+i*5,none⟩) (i+1 - i) (l.length - i)) ?_ ?_
 .subst t;have k:jZ (some (I l.length)) c c=some l.length:=by simp only[jZ];rw[aae];simp
  have p:jZ (some (I ((i:Int)+1))) l.length l.length=some (i+1):=by simp only[jZ];rw[aae];congr 1
  have q:jZ (some (I i)) 0 (i+1)=some i:=by simp only[jZ];rw[aae];simp
  have f:¬l.length=i:=by omega
  simp only[uU,k,p,q,Option.isNone_some,Bool.false_and,Option.isSome_none,Bool.false_eq_true,if_false,f,cT]
  rw[aae]
 refine aZ (aaa (bW (bH (aU d ?_))))
 intro r h d
 refine aDz (i:=i) (by decide) rfl rfl u d ?_
 intro h d
 refine w _ ?_
 rw[mg,<-X9,<-Lw]
 exact d.to
theorem Vn {no:Int} {l:List Th} {i:Nat} (h:ix no l=some i):rem no l=l.take i++l.drop (i+1):=by obtain⟨_,_,_,a,_⟩:=xX h;exact a
theorem Ug {no:Int} {l:List Th} {i:Nat} (h:ix no l=some i):l.length - 1=(rem no l).length:=by
 obtain⟨x,b,a,d,e⟩:=xX h;rw[Iu,a];rfl
theorem Qu {t ways n:Nat} {no:Int} {S:Nat->List Th} {Q:Value->AH->Prop} (k:0<n) (hb:∀i,(S i).length<=4) (d:Hs G h L) [m:Has (gX G t ways n) L S L']
  (g:∀r,Hs G r (gX G t ways n (kL n S no)::L')->Q (.tuple ⟨[.agg ⟨(cA n S no).1.enc⟩,I (cA n S no).2]⟩) r):Cl Pr K 349 [pt t 0 0,I no] h Q:=by
 have d:=m.of d
 refine cW (bG d ?_)
 intro p h d
 unfold cA kL at g
 by_cases j:no<0
 .rw[aNa j,aNa j] at g;refine Ud j d fun h d=>aH rfl (aH rfl (aH rfl (aT (aad (aN d (by decide) (l:=rI.zero.enc) rfl rfl ?_)))));refine ax d ?_;intro h d;exact aN d (by decide) (l:=rI.zero.enc) rfl rfl (g _ d.tail)
 .rw[aN9 j,aN9 j] at g;obtain⟨b,o,f,d⟩:=Iz (kD (no:=no) k) (d.front (gX G t ways n S));refine uP (t:=t) (ways:=ways) (n:=n) (b:=b) (o:=o) (cap:=f) (l:=S (setOf n no)) k (by omega) (hb _) d fun h d=>aH rfl (aH rfl (aH rfl (aT (aaa ?_))));refine bW ?_;cases hx:ix no (S (setOf n no)) with
  |none=>
   rw[(Au hx).1,(Au hx).2,zB] at g
   simp only[qh,hx]
   refine aM (aad (an p d (l:=rI.zero.enc) rfl rfl ?_))
   refine ax (b:=p) (o:=0) d ?_
   intro h d
   refine aN d (by decide) (l:=rI.zero.enc) rfl rfl (g _ ?_)
   have:=sS t ways n S (setOf n no) (S (setOf n no)) b o f (kD k) d
   rw[zB] at this
   exact this.to
  |some i=>
   obtain⟨x,w,y,A,u⟩:=xX hx
   rw[y] at g
   simp only[qh,hx]
   obtain⟨a,c,d⟩:=tI (d.front (dX b (o+setOf n no*1) (S (setOf n no))))
   obtain⟨q,v,z,e⟩:=(d.front (cU 5 297 a c ((S (setOf n no)).length,eE (S (setOf n no))))).eZ (by omega)
   subst z
   refine aM (aaa (bW (aB (aC (b:=b) (o:=o+setOf n no*1) e rfl (dF u (aA (Ku (b:=q) (o:=v) e (by decide) (l:=x.enc) (by rw[Nat.zero_add];exact gu w) rfl ?_)))))))
   have e:=e.nH (A6 _) (xN _)
   refine ax (b:=p) (o:=0) e ?_
   intro h d
   refine aB (aC (b:=b) (o:=o+setOf n no*1) d rfl (bA (by have:=hb (setOf n no);omega) (N7 u (hb _) d fun h d=>?_)))
   refine aB (ay (b:=b) (o:=o+setOf n no*1) d ?_)
   intro h d
   refine an p d (l:=x.enc) rfl rfl ?_
   refine ax (b:=p) (o:=0) d ?_
   intro h d
   refine aN d (by decide) (l:=x.enc) rfl rfl (g _ ?_)
   rw[Ug hx,<-Vn hx] at d
   have d:=iX b (o+setOf n no*1) (rem no (S (setOf n no))) (a:=some ⟨q,v,none⟩) (c:=c) d rfl rfl
   exact(sS t ways n S (setOf n no) (rem no (S (setOf n no))) b o f (kD k) d).to
end
section
set_option maxRecDepth 100000
variable {G:Bg} {h:AH} {L L' M:List HP}
theorem aJk {_t _ways n b o _cap p c:Nat} {no:Int} {x:rI} {l:List Th} {a:Option Addr} {Q:Value->AH->Prop} (hb:l.length<=4)
  (d:Hs G h (aF p 0 x.enc::aF b (o+setOf n no*1) [.slice a l.length c]::cU 5 297 a c (l.length,eE l)::L))
  (q:∀f,Hs G f (dX b (o+setOf n no*1) (l++[(no,x)])::L)->Q (I 0) f):Dd 284 4 [] Q [(I no),(pt p 0 0),(pt b (o+setOf n no*1) 0)] h:=by
 refine bW (aU d ?_)
 intro r h d
 refine aB (aC (b:=b) (o:=o+setOf n no*1) d rfl (an p d (l:=x.enc) rfl rfl ?_))
 refine aI (c:=I no::x.enc) rfl (aI (c:=zw (no,x)) rfl ?_)
 refine gT (i:=7) (N:=11) (D:=[]) d rfl rfl rfl rfl rfl ?_
 intro e h d
 refine nY (a:=a) (c:=c) (n:=l.length) (cs:=eE l) (a2:=some e) (c2:=1) (m:=1) (ns:=zw (no,x)) d (by omega) ?_
 intro g j h d
 refine aB (ay (b:=b) (o:=o+setOf n no*1) d ?_)
 intro h d
 refine bP (show nN _ _=true by simp[nN,pt]) (q _ ?_)
 have k:eE l++zw (no,x)=eE (l++[(no,x)]):=by simp[eE]
 have d:=iX b (o+setOf n no*1) (l++[(no,x)]) (a:=g) (c:=j) (n:=l.length+1) d (by simp) k
 exact d.to
theorem B9 {t ways n:Nat} {no:Int} {x:rI} {S:Nat->List Th} {Q:Value->AH->Prop} (B:0<=no) (k:0<n) (hb:∀i,(S i).length<=4) (d:Hs G h L) [m:Has (gX G t ways n) L S L']
  (g:∀v,Hs G v (gX G t ways n (mV n ways S no x).1::L')->Q (I (mV n ways S no x).2) v):Cl Pr K 284 [pt t 0 0,I no,.agg ⟨x.enc⟩] h Q:=by
 have d:=m.of d
 refine cW (dB d ?_)
 intro p h d
 obtain⟨b,o,f,d⟩:=Iz (kD (no:=no) k) (d.front (gX G t ways n S))
 refine uP (t:=t) (ways:=ways) (n:=n) (b:=b) (o:=o) (cap:=f) (l:=S (setOf n no)) k (by omega) (hb _) d fun h d=>aH rfl (aH rfl (aH rfl (aT (aaa ?_))))
 obtain⟨a,c,d⟩:=tI (d.front (dX b (o+setOf n no*1) (S (setOf n no))))
 refine bW ?_
 have fin:∀{h:AH} {M:List HP},Hs G h (aF t 0 (rD ways n b o f)::aF p 0 x.enc::aF b (o+setOf n no*1) [.slice a (rem no (S (setOf n no))).length c]::cU 5 297 a c ((rem no (S (setOf n no))).length,eE (rem no (S (setOf n no))))::
   hole G 1 294 (some ⟨b,o,none⟩) f n b o::Uf b o n S (setOf n no)::L')->
   (aY (lN (pt b (o+setOf n no*1) 0)) fun A=>aY (oM h A) fun v9=>aY (iK v9) fun v10=>aY (lN (pt t 0 0)) fun v11=>aY (gO 0 v11) fun v12=>aY (oM h v12) fun q=>aY (tD .geq v10 q) fun u=>
    Br u (Q (I 11) h) (Dd 284 4 [] Q [(I no),(pt p 0 0),(pt b (o+setOf n no*1) 0)] h)):=by
  intro h M d
  have j:(rem no (S (setOf n no))).length<=4:=by rw[Iu];have:=hb (setOf n no);split<;>omega
  unfold mV at g
  refine aB (aC (b:=b) (o:=o+setOf n no*1) d rfl (bH (aB (aA (am t d rfl (dE (aQ (fun z=>?_) (fun z=>?_))))))))
  .rw[aae] at g;refine g _ ?_;have d:=iX b (o+setOf n no*1) (rem no (S (setOf n no))) (a:=a) (c:=c) d rfl rfl;exact(sS t ways n S (setOf n no) (rem no (S (setOf n no))) b o f (kD k) d).to
  .rw[aab] at g;refine aJk (_t:=t) (_ways:=ways) (_cap:=f) (l:=rem no (S (setOf n no))) (a:=a) (c:=c) j (show Hs G h (aF p 0 x.enc::aF b (o+setOf n no*1) [.slice a (rem no (S (setOf n no))).length c]::cU 5 297 a c ((rem no (S (setOf n no))).length,eE (rem no (S (setOf n no))))::aF t 0 (rD ways n b o f)::
    hole G 1 294 (some ⟨b,o,none⟩) f n b o::Uf b o n S (setOf n no)::L') from d.to) ?_
   intro h d
   exact g _ (sS t ways n S (setOf n no) (rem no (S (setOf n no))++[(no,x)]) b o f (kD k) d).to
 cases hx:ix no (S (setOf n no)) with
 |none=>
  have e:=(Au hx).2
  simp only[qh,hx]
  refine dE (aaa (bW (aU d ?_)))
  intro r h d
  refine fin (M:=[]) ?_
  rw[e]
  exact d.to
 |some i=>
  obtain⟨y,D,E,F,w⟩:=xX hx
  simp only[qh,hx]
  refine dE (aad (bW ?_))
  refine aB (aC (b:=b) (o:=o+setOf n no*1) d rfl (bA (by have:=hb (setOf n no);omega) (N7 w (hb _) d fun h d=>?_)))
  refine aB (ay (b:=b) (o:=o+setOf n no*1) d ?_)
  intro h d
  refine aU d ?_
  intro r h d
  refine fin (M:=[]) ?_
  rw[Ug hx,<-Vn hx] at d
  have d:=d.sg (b:=b) (o:=o+setOf n no*1) (c:=[.slice a (rem no (S (setOf n no))).length c]) rfl
  exact d.to
end
section
set_option maxRecDepth 100000
variable {G:Bg} {h:AH} {L L' M:List HP}
theorem Kf {t ways n:Nat} {no:Int} {S:Nat->List Th} {Q:Value->AH->Prop} (k:0<=no) (j:0<n) (hb:∀i,(S i).length<=4) (a:Hs G h L) [m:Has (gX G t ways n) L S L']
  (d:∀g,Hs G g (gX G t ways n (Gu n ways S no)::L')->Q (.tuple ⟨[.agg ⟨(cA n S no).1.enc⟩,I (so n ways S no)]⟩) g):Cl Pr K 282 [pt t 0 0,I no] h Q:=by
 have a:=m.of a
 refine cW (bG a ?_)
 intro p h a
 refine Qu (t:=t) (ways:=ways) (n:=n) (S:=S) j hb a fun h a=>aH rfl (aH rfl ?_)
 refine ax (b:=p) (o:=0) a ?_
 intro h a
 unfold Gu so at d
 refine aT (aQ (fun f=>?_) (fun f=>?_))
 .rw[aN9 f,aN9 f] at d;refine aN a (by decide) (l:=(cA n S no).1.enc) rfl rfl ?_;refine ax a ?_;intro h a;exact aN a (by decide) (l:=(cA n S no).1.enc) rfl rfl (d _ a.tail)
 .rw[aae,aae] at d;refine aU a ?_;intro r h a;refine an p a (l:=(cA n S no).1.enc) rfl rfl (an p a (l:=(cA n S no).1.enc) rfl rfl ?_);refine B9 (t:=t) (ways:=ways) (n:=n) (S:=kL n S no) k j (x8 hb) a fun h a=>?_;refine ax (b:=p) (o:=0) a ?_;intro q e;refine bP ?_ ?_
  .refine an p a (l:=(cA n S no).1.enc) rfl rfl ?_;exact pW (by simp[rI.enc,nN])
  .exact an p e (l:=(cA n S no).1.enc) rfl rfl (d _ e.to)
end
end Go.Proofs.YtcjlkjeeifemhaaGreatDoor.C
end
namespace Go.Proofs.YtcjlkjeeifemhaaGreatDoor.C
open Go Go.Ab Go.Hm Go.Ct
section
theorem aGn {a:Option Addr} {n c:Nat} {k:Value->Prop} (b:a=none->k (.bool true)) (d:a≠none->k (.bool false)):aY (M1 .eql (.slice a n c) (.slice none 0 0)) k:=by
 cases a with
 |none=>exact⟨_,rfl,b rfl⟩
 |some a=>exact⟨_,rfl,d (by simp)⟩
set_option maxRecDepth 100000
attribute [local irreducible] aY Br oM tU tZ Bj kK tW jJ Oy gO lN oP nQ nD iK vN tD I5 Q2 Nf M1 Sb Nl J1 Nj Pc kA mM qI iH copyV gW uU S4 S7 Fa jD Le O1 Ta lS oS wJ yB Cl yG Rz qY qM iP eP cI bS
variable {G:Bg} {h:AH} {L L' M:List HP}
theorem fh {b o n:Nat} (d:Hs G h (dC n (fun i=>aF b (o+i*1) [.slice none 0 0])::L)):Hs G h (dC n (fun i=>dX b (o+i*1) [])::L):=
 Hs.Mu (g:=fun i=>dX b (o+i*1) []) n _ (fun i _ _ _ d=>(iX b (o+i*1) [] (a:=none) (c:=0) (n:=0) (cs:=[]) (fG (W:=5) (e:=297) d).jN rfl rfl)) d
theorem Tv {s w:Int} (k:1<=s/\s<=8) (l:1<=w/\w<=4) {Q:Value->AH->Prop} (d:Hs G h L) (j:∀p f,Hs G f (gX G p w.toNat s.toNat (fun _=>[])::L)->Q (.tuple ⟨[pt p 0 0,I 0]⟩) f):Cl Pr K 91 [I s,I w] h Q:=by
 refine cW (aM (aaa (gZ (aaa (aM (aaa (gZ (aaa (Qo (by omega) (by omega) (by omega) ?_)))))))));dsimp only;refine dA d ?_ rfl ?_ ?_;rw[gG,qK (W:=1) (fun _=>rfl)];rw[gG];exact pN (fun _=>rfl) _;intro a h d;obtain⟨b,o,g,d⟩:=Hs.Mi (W:=1) rfl (by omega) d;cases g;have e:w=(w.toNat:Int):=by omega
 refine aI (c:=rD w.toNat s.toNat b o s.toNat) (by unfold rD;rw[<-e];rfl) (dB d ?_);intro p h d;refine j p h ?_;have d:=fh (d.front (dC s.toNat fun i=>aF b (o+i*1) [.slice none 0 0]));exact A8 (b:=b) (o:=o) (cap:=s.toNat) d.to
theorem y5 {l:List Th} {a:Option Addr} {c:Nat} {Q:Value->AH->Prop} (hb:l.length<=4) (d:Hs G h L) [m:Has (cU 5 297 a c) L (l.length,eE l) L']
  (k:∀e f j,Hs G j (cU 5 297 e f (l.length,eE l)::cU 5 297 a c (l.length,eE l)::L')->Q (.slice e l.length f) j):Cl Pr K 354 [.slice a l.length c] h Q:=by
 have d:=m.of d
 refine cW (aGn (fun g=>eN ?_) (fun _=>bX (aI (c:=[]) rfl ?_)))
 .subst g;have p:l=[]:=by
   cases l with
   |nil=>rfl
   |cons y l=>obtain⟨b,o,g,_⟩:=d.oJ (by simp);cases g
  subst p
  exact k none 0 h (fG d)
 .refine dA (W:=5) (n:=0) (c:=0) d rfl rfl rfl ?_;intro i h d;refine nY (a:=some i) (c:=0) (n:=0) (cs:=[]) (a2:=a) (c2:=c) (m:=l.length) (ns:=eE l) d (by omega) ?_;intro e f h d;have:=k e f h (by simpa using d);show Q _ _;simpa using this
theorem kc {_p q b o cap b2 o2 cap2 n ways:Nat} {S:Nat->List Th} {Q:Value->AH->Prop} (F:n<=8) (hb:∀i,(S i).length<=4)
  (B:∀u,Hs G u (dC n (fun i=>dX b (o+i*1) (S i))::dC n (fun i=>dX b2 (o2+i*1) (S i))::aF q 0 (rD ways n b2 o2 cap2)::L)->Q (pt q 0 0) u):∀(r i:Nat) (h:AH) (_M:List HP),i+r=n->
  Hs G h (dC n (fun i=>dX b (o+i*1) (S i))::dC n (fun j=>dX b2 (o2+j*1) (if j<i then S j else []))::aF q 0 (rD ways n b2 o2 cap2)::L)->
  Dd 287 2 [] Q [(pt q 0 0),(.slice (some ⟨b,o,none⟩) n cap),(I n),(I i)] h:=by
 intro r
 induction r with
 |zero=>
  intro i h M z t
  have:i=n:=by omega
  subst this
  refine bW (aM (aaa (B _ ?_)))
  exact(sF (f:=fun j=>dX b2 (o2+j*1) (if j<i then S j else [])) (g:=fun j=>dX b2 (o2+j*1) (S j)) (fun j A=>by rw[aNa A]) t.jN).jN
 |succ r E=>
  intro i h M z t
  have e:i<n:=by omega
  refine bW (aM (aad (bW (dF e ?_))))
  have m:=t.mD i e
  obtain⟨a,c,m⟩:=tI m
  refine aC (b:=b) (o:=o+i*1) m rfl (aU m ?_)
  intro H h t
  refine aB (aA (am q t rfl (y5 (l:=S i) (a:=a) (c:=c) (hb i) t fun v w h t=>?_)))
  have k:=(t.front (dC n fun j=>dX b2 (o2+j*1) (if j<i then S j else []))).mD i e
  simp only[Nat.lt_irrefl,if_false] at k
  obtain⟨a3,c3,k⟩:=tI k
  refine dF e (ay (b:=b2) (o:=o2+i*1) k ?_)
  intro y d
  refine bP cG (bP (aB cG) (bP (aA cG) (bP (am q k rfl T4) (bP eG (aac ?_)))))
  refine E (i+1) y [] (by omega) ?_
  have d:=iX b2 (o2+i*1) (S i) (a:=v) (c:=w) d rfl rfl
  have x:dX b2 (o2+i*1) (S i)=(fun j=>dX b2 (o2+j*1) (if j<i+1 then S j else [])) i:=by simp only[Nat.lt_succ_self,if_true]
  rw[x] at d
  have d:=d.oZ (n:=n) (i:=i) (fun j=>dX b2 (o2+j*1) (if j<i then S j else [])) (fun j=>dX b2 (o2+j*1) (if j<i+1 then S j else [])) e (fun j _ D=>by
   have:(j<i+1)=(j<i):=propext ⟨fun h=>by omega,fun h=>by omega⟩;simp only[this])
  have d:=iX b (o+i*1) (S i) (a:=a) (c:=c) d rfl rfl
  have d:=d.oZ (n:=n) (i:=i) (fun j=>dX b (o+j*1) (S j)) (fun j=>dX b (o+j*1) (S j)) e (fun _ _ _=>rfl)
  exact d.to
theorem aCo {t ways n:Nat} {S:Nat->List Th} {Q:Value->AH->Prop} (j:0<n) (u:n<=8) (hb:∀i,(S i).length<=4) (d:Hs G h L) [m:Has (gX G t ways n) L S L']
  (r:∀q k,Hs G k (gX G q ways n S::gX G t ways n S::L')->Q (pt q 0 0) k):Cl Pr K 287 [pt t 0 0] h Q:=by
 obtain⟨b,o,e,d⟩:=Vg (m.of d)
 refine cW (cS (bX (bW (aU d ?_))))
 intro v h d
 refine aB (aA (am t d rfl (aB (aA (am t d rfl (bH (aE2 (by omega) (by omega) ?_)))))))
 dsimp only
 refine gT (i:=9) (N:=13) (D:=[]) d rfl rfl ?_ rfl ?_ ?_
 .rw[gG,qK (W:=1) (fun _=>rfl)]
 .rw[gG];exact pN (fun _=>rfl) _
 intro a h d
 obtain⟨f,g,l,d⟩:=Hs.Mi (W:=1) rfl j d
 cases l
 refine aI (c:=rD ways n f g n) rfl ?_
 refine zK (i:=11) d rfl rfl ?_
 intro q h d
 refine aB (aA (am t d rfl (bH ?_)))
 have d:=fh (d.front (dC n fun i=>aF f (g+i*1) [.slice none 0 0]))
 refine kc (G:=G) (_p:=0) (ways:=ways) (n:=n) (b:=b) (o:=o) (cap:=e) (b2:=f) (o2:=g) (cap2:=n) (S:=S) (L:=aF t 0 (rD ways n b o e)::hole G 1 294 (some ⟨b,o,none⟩) e n b o::hole G 1 294 (some ⟨f,g,none⟩) n n f g::L') u hb ?_ n 0 h [] (by omega) ?_
 .intro h d;refine r q h ?_;have d:Hs G h (aF q 0 (rD ways n f g n)::hole G 1 294 (some ⟨f,g,none⟩) n n f g::dC n (fun i=>dX f (g+i*1) (S i))::aF t 0 (rD ways n b o e)::hole G 1 294 (some ⟨b,o,none⟩) e n b o::dC n (fun i=>dX b (o+i*1) (S i))::L'):=d.to;have d:=A8 (b:=f) (o:=g) (cap:=n) d;have d:Hs G h (aF t 0 (rD ways n b o e)::hole G 1 294 (some ⟨b,o,none⟩) e n b o::dC n (fun i=>dX b (o+i*1) (S i))::gX G q ways n S::L'):=d.to;exact(A8 (b:=b) (o:=o) (cap:=e) d).jN
 .simp only[Nat.not_lt_zero,if_false];exact d.to
end
end Go.Proofs.YtcjlkjeeifemhaaGreatDoor.C
section
open Go Go.Ab
attribute [local irreducible] aY Br oM tU tZ Bj kK tW jJ Oy gO lN oP nQ nD iK vN tD I5 Q2 Nf M1 Sb Nl J1 Nj Pc kA mM qI iH copyV gW uU S4 S7 Fa jD Le O1 Ta lS oS wJ yB Cl yG Rz qY qM iP eP cI bS
namespace Go.Proofs.YtcjlkjeeifemhaaGreatDoor.C
open Go Go.Ab Go.Hm Go.Ct
section
def jQ (t:Nat) (C:bM) (core:Int) (s:lE):List Value:=pt t 0 0::(C.enc++[I core,I s.al,.bool s.aw,.bool s.Xe,I s.gl,I s.gc.st,I s.gc.w,I s.gc.d.1,I s.gc.d.2,.bool s.I0])
set_option maxRecDepth 100000
variable {G:Bg} {h:AH} {L L' M:List HP}
def gQ (G:Bg) (c:Nat) (C:bM) (core:Int) (s:lE):HP:=tV fun t:Nat=>sp [aF c 0 (jQ t C core s),gX G t C.ways.toNat C.bK.toNat s.S]
theorem kX {c:Nat} {C:bM} {core:Int} {s:lE} (a:Hs G h (gQ G c C core s::L)):∃t,Hs G h (aF c 0 (jQ t C core s)::gX G t C.ways.toNat C.bK.toNat s.S::L):=by
 obtain⟨t,a⟩:=a.yP;exact⟨t,a.unpack⟩
theorem cM (c t:Nat) (C:bM) (core:Int) (s:lE) {cs:List Value} {S:Nat->List Th} {a L2:List HP} (e:Hs G h L) [m:Has (aF c 0) L cs a] [m2:Has (gX G t C.ways.toNat C.bK.toNat) a S L2] (b:cs=jQ t C core s) (d:S=s.S):Hs G h (gQ G c C core s::L2):=by
 subst b;subst d;exact Hs.vA (A:=fun t:Nat=>sp [aF c 0 (jQ t C core s),gX G t C.ways.toNat C.bK.toNat s.S]) t (Hs.pack (A:=[_,_]) (e.perm (m.perm.trans (m2.perm.cons _))))
variable {C:bM} {core:Int} {c:Nat} {s:lE}
theorem vB (hC:C.Ok) {l:Int} {Q:Value->AH->Prop} (g:Ob G 1 gA) (a:Hs G h L) [m:Has (gQ G c C core) L s L'] (d:∀e,Hs G e (gQ G c C core s::L')->Q (.bool (yO C l)) e):Cl Pr K 289 [pt c 0 0,I l] h Q:=by
 obtain⟨t,a⟩:=kX (m.of a);refine cW (dE (aQ (fun f=>?_) (fun f=>?_)));refine aB (aA (an c a (l:=C.enc) rfl rfl (qB hC g a fun h a=>aM ?_)));show Q _ _;rw[show decide (l<(C.lines:Int))=yO C l from decide_eq_decide.2 (by omega)];exact d _ (cM c t C core s a rfl rfl);rw[show yO C l=false from decide_eq_false (by omega)] at d;exact d _ (cM c t C core s a rfl rfl)
theorem Rt (hC:C.Ok) (hb:Bd s) {l i:Int} {w:Bool} {Q:Value->AH->Prop} (j:Ob G 5 iW) (a:Hs G h L) [m:Has (gQ G c C core) L s L'] (d:∀g,Hs G g (gQ G c C core s::L')->Q (.bool (lJ C.bK.toNat s.S l i w)) g):Cl Pr K 204 [pt c 0 0,I l,I i,.bool w] h Q:=by
 obtain⟨t,a⟩:=kX (m.of a);refine cW (cS (bX (bW (aB (aA (am c a rfl ?_))))));refine E1 (t:=t) (ways:=C.ways.toNat) (n:=C.bK.toNat) (S:=s.S) (nE hC).1 hb a fun h a=>aH rfl (aH rfl (bG a ?_));intro p h a;refine ax a ?_;intro h a;unfold lJ at d;refine aZ (aQ (fun e=>aA (aC a rfl (aZ (aQ (fun f=>?_) (fun f=>?_))))) (fun e=>?_));rw[decide_eq_true e,decide_eq_true f,Bool.true_and,Bool.true_and] at d;exact aN a (by decide) (l:=(cA C.bK.toNat s.S l).1.enc) rfl rfl (O0 j a fun h a=>d _ (cM c t C core s a rfl rfl).to);rw[decide_eq_false f,Bool.and_false,Bool.false_and] at d;exact d _ (cM c t C core s a rfl rfl).to;rw[decide_eq_false e,Bool.false_and,Bool.false_and] at d;exact d _ (cM c t C core s a rfl rfl).to
theorem Wq (hC:C.Ok) (hb:Bd s) {l at' j:Int} {w:Bool} {Q:Value->AH->Prop} (k:Ob G 1 gA) (o:Ob G 5 iW) (b:Hs G h L) [m:Has (gQ G c C core) L s L'] (a:∀i,Hs G i (gQ G c C core s::L')->Q (I (uY C s.S l at' j w)) i):Cl Pr K 281 [pt c 0 0,I l,I at',I j,.bool w] h Q:=by
 have b:=m.of b;unfold uY at a;refine cW (cS (bX (bW (vB (c:=c) (core:=core) (s:=s) hC k b fun h b=>bT (dT (cZ (fun f=>?_) (fun f=>?_)))))));rw[f] at a;simp only[Bool.true_eq_false,if_false] at a;refine aM (aQ (fun d=>?_) (fun d=>dE (aQ (fun e=>?_) (fun e=>bW (Rt (c:=c) (core:=core) (s:=s) hC hb o b fun h b=>bT (dT (cZ (fun g=>?_) (fun g=>?_))))))));rw[aNa d] at a;exact a _ b;rw[aN9 d,aNa e] at a;exact a _ b;rw[aN9 d,aN9 e,aN9 (by rw[g];simp)] at a;exact a _ b;rw[aN9 d,aN9 e,aNa g] at a;exact a _ b;rw[aNa f] at a;exact a _ b
end
section
set_option maxRecDepth 100000
variable {G:Bg} {h:AH} {L L' M:List HP} {C:bM} {core:Int} {c:Nat} {s:lE}
theorem Vv {s':lE} {c t:Nat} {cs:List Value} {S:Nat->List Th} {a L2:List HP} (b:cs=jQ t C core s') (d:S=s'.S) (e:Hs G h L) [m:Has (aF c 0) L cs a] [m2:Has (gX G t C.ways.toNat C.bK.toNat) a S L2]:Hs G h (gQ G c C core s'::L2):=cM c t C core s' e b d
theorem cw {t:Nat} {l w:Int} {wr:Bool} {ns:List aK} {a:Option Addr} {cp:Nat} {Q:Value->AH->Prop} (B:ns.length<=1) (d:Hs G h (aF c 0 (jQ t C core (kO core s l w wr ns).1)::gX G t C.ways.toNat C.bK.toNat s.S::cU 9 211 a cp (ns.length,eA ns)::L))
  (z:∀e f v,Hs G v (cU 9 211 e f ((kO core s l w wr ns).2.1.length,eA (kO core s l w wr ns).2.1)::gQ G c C core (kO core s l w wr ns).1::L)->Q (.tuple ⟨[.slice e (kO core s l w wr ns).2.1.length f,I 0]⟩) v):
  Br (.bool wr) (Dd 280 10 [] Q [(pt c 0 0),(I l),(I w),(.slice a ns.length cp)] h) (aY (lN (pt c 0 0)) fun v35=>aY (gO 8 v35) fun v36=>aY (oM h v36) fun v37=>
   aY (oD [(I 0),(I 0),(I 0),(I 0),(I 0),(I 0),(I 0),(.bool false),(I 0)] [(0,1,(I 1)),(1,1,v37),(2,1,(I l)),(3,1,(I w))]) fun j=>
   aY (oD [(I 0),(I 0),(I 0),(I 0),(I 0),(I 0),(I 0),(.bool false),(I 0)] [(0,9,(.agg ⟨j⟩))]) fun q=>
   tW h 9 211 q 1 1 fun r k=>aY (iH 9 72 211 k (.slice a ns.length cp) r) fun i=>(fun u p=>Q (.tuple ⟨[u,(I 0)]⟩) p) i.1 i.2):=by
 have fin:∀{h:AH} {e:Option Addr} {f:Nat} (x:aK),x=⟨if wr then 2 else 1,core,l,w,0,0,0,false,0⟩->Hs G h (cU 9 211 e f (ns.length+1,eA ns++x.enc)::aF c 0 (jQ t C core (kO core s l w wr ns).1)::gX G t C.ways.toNat C.bK.toNat s.S::L)->Q (.tuple ⟨[.slice e (ns.length+1) f,I 0]⟩) h:=by
  intro h e f x A d;have y:(kO core s l w wr ns).2.1=ns++[x]:=by rw[A];rfl
  have:=z e f h;rw[y] at this;simp only[List.length_append,List.length_cons,List.length_nil,eA,List.flatMap_append,List.flatMap_cons,List.flatMap_nil,List.append_nil,Nat.zero_add] at this;refine this ?_;have d:=Vv (s':=(kO core s l w wr ns).1) (t:=t) (c:=c) rfl rfl d;exact d.jN
 cases wr
 .refine bX (aB (aA (am c d rfl (aI (c:=(⟨1,core,l,w,0,0,0,false,0⟩:aK).enc) rfl (aI (c:=(⟨1,core,l,w,0,0,0,false,0⟩:aK).enc) rfl (dA (W:=9) (n:=1) (c:=1) d rfl rfl rfl ?_))))));intro g h d;refine nY (a:=a) (c:=cp) (n:=ns.length) (cs:=eA ns) (a2:=some g) (c2:=1) (m:=1) (ns:=(⟨1,core,l,w,0,0,0,false,0⟩:aK).enc) d (by omega) ?_;intro e f h d;exact fin ⟨1,core,l,w,0,0,0,false,0⟩ rfl d.to
 .refine eN (bW (aB (aA (am c d rfl (aI (c:=(⟨2,core,l,w,0,0,0,false,0⟩:aK).enc) rfl (aI (c:=(⟨2,core,l,w,0,0,0,false,0⟩:aK).enc) rfl (dA (W:=9) (n:=1) (c:=1) d rfl rfl rfl ?_)))))));intro g h d;refine nY (a:=a) (c:=cp) (n:=ns.length) (cs:=eA ns) (a2:=some g) (c2:=1) (m:=1) (ns:=(⟨2,core,l,w,0,0,0,false,0⟩:aK).enc) d (by omega) ?_;intro e f h d;exact fin ⟨2,core,l,w,0,0,0,false,0⟩ rfl d.to
theorem ny {t:Nat} {l w:Int} {wr:Bool} {ns:List aK} {a:Option Addr} {cp:Nat} {Q:Value->AH->Prop} (j:ns.length<=1) (d:Hs G h (aF c 0 (jQ t C core s)::gX G t C.ways.toNat C.bK.toNat s.S::cU 9 211 a cp (ns.length,eA ns)::L))
  (i:∀e f g,Hs G g (cU 9 211 e f ((kO core s l w wr ns).2.1.length,eA (kO core s l w wr ns).2.1)::gQ G c C core (kO core s l w wr ns).1::L)->Q (.tuple ⟨[.slice e (kO core s l w wr ns).2.1.length f,I 0]⟩) g):
  Dd 280 8 [] Q [(pt c 0 0),(I l),(I w),(.bool wr),(.slice a ns.length cp)] h:=by
 refine bW (aI (c:=[I l,.bool wr,.bool true]) rfl (aB (aA (ay (b:=c) (o:=0) d ?_))))
 intro h d
 have d:=d.sg (b:=c) (o:=0) (c:=jQ t C core (kO core s l w wr ns).1) rfl
 exact cw (t:=t) j d i
theorem aCj (_hb:Bd s) {t p:Nat} {l w no:Int} {x:rI} {wr:Bool} {S:Nat->List Th} {Q:Value->AH->Prop} (z:Ob G 5 iW) (d:Hs G h (aF p 0 x.enc::aF c 0 (jQ t C core s)::gX G t C.ways.toNat C.bK.toNat S::L))
  (y:∀f g k r,r=kO core {s with S:=S,gl:=no,gc:=x,I0:=true} l w wr [⟨3,core,no,x.w,0,x.d.1,x.d.2,lZ x.st,0⟩]->Hs G k (cU 9 211 f g (r.2.1.length,eA r.2.1)::gQ G c C core r.1::L)->Q (.tuple ⟨[.slice f r.2.1.length g,I 0]⟩) k):
  Dd 280 11 [] Q [(pt c 0 0),(I l),(I w),(.bool wr),(.slice none 0 0),(I no),(pt p 0 0)] h:=by
 refine bW (aN d (by decide) (l:=x.enc) rfl rfl (aI (c:=[I no,I x.st,I x.w,I x.d.1,I x.d.2,.bool true]) rfl (aB (aA (ay (b:=c) (o:=0) d ?_)))))
 intro h d
 have d:=d.sg (b:=c) (o:=0) (c:=jQ t C core {s with S:=S,gl:=no,gc:=x,I0:=true}) rfl
 refine aU d ?_
 intro B h d
 refine aB (aA (am c d rfl (aA (am p d rfl (aA (an p d (l:=[I x.d.1,I x.d.2]) rfl rfl (aA (am p d rfl (Ml z d ?_)))))))))
 refine aI (c:=(⟨3,core,no,x.w,0,x.d.1,x.d.2,lZ x.st,0⟩:aK).enc) rfl (aI (c:=(⟨3,core,no,x.w,0,x.d.1,x.d.2,lZ x.st,0⟩:aK).enc) rfl ?_)
 refine gT (i:=14) (N:=17) (D:=[]) d rfl rfl rfl rfl rfl ?_
 intro v h d
 have d:=fG (W:=9) (e:=211) d
 refine nY (a:=none) (c:=0) (n:=0) (cs:=[]) (a2:=some v) (c2:=1) (m:=1) (ns:=(⟨3,core,no,x.w,0,x.d.1,x.d.2,lZ x.st,0⟩:aK).enc) d (by omega) ?_
 intro f g A q
 have j:Hs G h (aF p 0 x.enc::_):=d.front (aF p 0 x.enc)
 have u:Hs G h (aF c 0 (jQ t C core {s with S:=S,gl:=no,gc:=x,I0:=true})::_):=d.front (aF c 0 (jQ t C core {s with S:=S,gl:=no,gc:=x,I0:=true}))
 refine bP T4 (bP cG (bP (aB cG) (bP (aA cG) (bP (am c u rfl eG) (bP eG (bP (aA cG) (bP (am p j rfl eG) (bP (aA cG) (bP (an p j (l:=[I x.d.1,I x.d.2]) rfl rfl (pW (by simp[nN]))) ?_)))))))))
 refine aI (c:=[I l,.bool wr,.bool true]) rfl (aB (aA (ay (b:=c) (o:=0) q ?_)))
 intro h d
 have d:=d.sg (b:=c) (o:=0) (c:=jQ t C core (kO core {s with S:=S,gl:=no,gc:=x,I0:=true} l w wr [⟨3,core,no,x.w,0,x.d.1,x.d.2,lZ x.st,0⟩]).1) rfl
 refine cw (t:=t) (s:={s with S:=S,gl:=no,gc:=x,I0:=true}) (ns:=[⟨3,core,no,x.w,0,x.d.1,x.d.2,lZ x.st,0⟩]) (a:=f) (cp:=g) (L:=L) (by simp) ?_ (fun f g k=>y f g k _ rfl)
 exact(show Hs G h (aF c 0 (jQ t C core (kO core {s with S:=S,gl:=no,gc:=x,I0:=true} l w wr [⟨3,core,no,x.w,0,x.d.1,x.d.2,lZ x.st,0⟩]).1)::gX G t C.ways.toNat C.bK.toNat S::cU 9 211 f g (0+1,[]++(⟨3,core,no,x.w,0,x.d.1,x.d.2,lZ x.st,0⟩:aK).enc)::L) from d.to)
theorem vq (hC:C.Ok) (hb:Bd s) {t:Nat} {l w:Int} (u:0<=l) {wr:Bool} {Q:Value->AH->Prop} (x:Ob G 5 iW) (d:Hs G h (aF c 0 (jQ t C core s)::gX G t C.ways.toNat C.bK.toNat s.S::L))
  (f:∀g i j,Hs G j (cU 9 211 g i ((zC C core s l w wr).2.1.length,eA (zC C core s l w wr).2.1)::gQ G c C core (zC C core s l w wr).1::L)->Q (.tuple ⟨[.slice g (zC C core s l w wr).2.1.length i,I (zC C core s l w wr).2.2]⟩) j):
  aY (lN (pt c 0 0)) fun v0=>aY (gO 0 v0) fun v1=>aY (oM h v1) fun v2=>Cl Pr K 348 [v2,I l] h fun v3 q=>
   aY (oP 0 v3) fun v4=>aY (oP 1 v3) fun v5=>aY (oP 2 v3) fun v6=>aY (tD .neq v6 (I 0)) fun z=>
   Br z (Q (.tuple ⟨[(.slice none 0 0),v6]⟩) q) (Dd 280 6 [] Q [(pt c 0 0),(I l),(I w),(.bool wr),(.slice none 0 0),v4,v5] q):=by
 unfold zC at f
 refine aB (aA (am c d rfl ?_))
 refine jx (t:=t) (ways:=C.ways.toNat) (n:=C.bK.toNat) (S:=s.S) (nE hC).2.2.1 (nE hC).1 u hb d fun h d=>?_
 cases hv:Ik C.bK.toNat C.ways.toNat s.S l with
 |none=>
  simp only[hv] at f
  refine aH rfl (aH rfl (aH rfl (aT (aaa (bW (bX ?_))))))
  exact ny (t:=t) (s:=s) (ns:=[]) (a:=none) (cp:=0) (L:=L) (by simp) (show Hs G h (aF c 0 (jQ t C core s)::gX G t C.ways.toNat C.bK.toNat s.S::cU 9 211 none 0 (0,[])::L) from(fG (W:=9) (e:=211) d).to) f
 |some v=>
  simp only[hv] at f
  refine aH rfl (aH rfl (aH rfl (aT (aaa (bW (eN (bW (aB (aA (aA (am c d rfl (cZ (fun k=>?_) (fun k=>?_)))))))))))))
  .simp only[k,if_true] at f;exact f none 0 h (fG (W:=9) (e:=211) (Vv (s':=s) (t:=t) (c:=c) rfl rfl d))
  .simp only[aN9 (show ¬(s.I0=true) from by rw[k];simp)] at f;refine bW (aB (aA (am c d rfl ?_)));refine Qu (t:=t) (ways:=C.ways.toNat) (n:=C.bK.toNat) (S:=s.S) (nE hC).1 hb d fun h d=>aH rfl (aH rfl (bG d ?_));intro p h d;refine ax d ?_;intro h d;refine aT (aQ (fun m=>?_) (fun m=>?_))
   .simp only[aNa m] at f;refine f none 0 h (fG (W:=9) (e:=211) ?_);exact(cM c t C core {s with S:=kL C.bK.toNat s.S v.1} (cs:=jQ t C core s) d rfl rfl).to
   .simp only[aN9 m] at f;refine aCj (s:=s) hb x (show Hs G h (aF p 0 (cA C.bK.toNat s.S v.1).1.enc::aF c 0 (jQ t C core s)::gX G t C.ways.toNat C.bK.toNat (kL C.bK.toNat s.S v.1)::L) from d.to) ?_;intro g i j r y;subst y;exact f g i j
theorem aBd (hC:C.Ok) (hb:Bd s) {l w:Int} {wr:Bool} {Q:Value->AH->Prop} (J:Ob G 1 gA) (A:Ob G 5 iW) (a:Hs G h L) [m:Has (gQ G c C core) L s L']
  (d:∀g i k,Hs G k (cU 9 211 g i ((want C core s l w wr).2.1.length,eA (want C core s l w wr).2.1)::gQ G c C core (want C core s l w wr).1::L')->Q (.tuple ⟨[.slice g (want C core s l w wr).2.1.length i,I (want C core s l w wr).2.2]⟩) k):
  Cl Pr K 280 [pt c 0 0,I l,I w,.bool wr] h Q:=by
 have a:=m.of a
 unfold want at d
 refine cW (cS (bX (bW (vB (c:=c) (core:=core) (s:=s) hC J a fun h a=>bT (dT (cZ (fun v=>?_) (fun v=>?_)))))))
 .simp only[v,Bool.true_eq_false,if_false] at d;have D:0<=l:=(of_decide_eq_true v).1;obtain⟨t,a⟩:=kX a;refine bW (aB (aA (aA (am c a rfl (cZ (fun y=>?_) (fun y=>bW ?_))))))
  .simp only[y,if_true] at d;exact d none 0 h (fG (W:=9) (e:=211) (cM c t C core s a rfl rfl))
  .simp only[y,Bool.false_eq_true,if_false] at d;have u:¬(s.I0=true/\s.gl=l)->(aY (lN (pt c 0 0)) fun v0=>aY (gO 0 v0) fun v1=>aY (oM h v1) fun v2=>Cl Pr K 278 [v2,I l] h fun v3 f=>
     aY (oP 0 v3) fun v4=>aY (oP 1 v3) fun v5=>Bj f (.cells [(I 0),(I 0),(I 0),(I 0)] 191 (0,0) true) fun E H=>aY (tZ H 4 (pt E 0 0) v4) fun x=>aY (tD .eql v5 (I 0)) fun v9=>
     Br v9 (aY (tU x 4 (pt E 0 0)) fun v10=>Cl Pr K 279 [v10,.bool wr] x fun v11 r=>Br v11 (Q (.tuple ⟨[(.slice none 0 0),(I 13)]⟩) r) (Dd 280 5 [] Q [(pt c 0 0),(I l),(I w),(.bool wr)] r))
      (aY (lN (pt c 0 0)) fun v0=>aY (gO 0 v0) fun v1=>aY (oM x v1) fun v2=>Cl Pr K 348 [v2,I l] x fun v3 f=>
       aY (oP 0 v3) fun v4=>aY (oP 1 v3) fun v5=>aY (oP 2 v3) fun v6=>aY (tD .neq v6 (I 0)) fun N=>
       Br N (Q (.tuple ⟨[(.slice none 0 0),v6]⟩) f) (Dd 280 6 [] Q [(pt c 0 0),(I l),(I w),(.bool wr),(.slice none 0 0),v4,v5] f))):=by
    intro f
    simp only[aN9 f] at d
    refine aB (aA (am c a rfl ?_))
    refine E1 (t:=t) (ways:=C.ways.toNat) (n:=C.bK.toNat) (S:=s.S) (nE hC).1 hb a fun h a=>aH rfl (aH rfl (bG a ?_))
    intro p h a
    refine ax a ?_
    intro h a
    have B:Hs G h (aF c 0 (jQ t C core s)::gX G t C.ways.toNat C.bK.toNat s.S::aF p 0 (cA C.bK.toNat s.S l).1.enc::L'):=a.to
    have j:∀{g i k} {X:List Value} {n:Nat} {F:lE},Hs G k (cU 9 211 g i (n,X)::gQ G c C core F::aF p 0 (cA C.bK.toNat s.S l).1.enc::L')->Hs G k (cU 9 211 g i (n,X)::gQ G c C core F::L'):=fun a=>a.to
    refine aZ (aQ (fun q=>?_) (fun q=>?_))
    .refine an p a (l:=(cA C.bK.toNat s.S l).1.enc) rfl rfl (O0 A a fun h a=>cZ (fun z=>?_) (fun z=>?_))
     .simp only[aNa (show(cA C.bK.toNat s.S l).2=0/\uF (cA C.bK.toNat s.S l).1.st wr=true from⟨q,z⟩)] at d;exact d none 0 h (fG (W:=9) (e:=211) (cM c t C core s a rfl rfl).to)
     .simp only[aN9 (show ¬((cA C.bK.toNat s.S l).2=0/\uF (cA C.bK.toNat s.S l).1.st wr=true) from fun e=>by rw[z] at e;exact absurd e.2 (by simp))] at d;refine bW (vq hC hb D A (show Hs G h (aF c 0 (jQ t C core s)::gX G t C.ways.toNat C.bK.toNat s.S::L') from a.to) d)
    .simp only[aN9 (show ¬((cA C.bK.toNat s.S l).2=0/\uF (cA C.bK.toNat s.S l).1.st wr=true) from fun e=>q e.1)] at d;exact vq hC hb D A B fun g i k a=>d g i k (j a)
   refine aB (aA (aA (am c a rfl (cZ (fun f=>?_) (fun f=>?_)))))
   .refine aB (aA (aA (am c a rfl (aZ (aQ (fun q=>?_) (fun q=>bW (u (fun e=>q e.2))))))));simp only[aNa (show s.I0=true/\s.gl=l from⟨f,q⟩)] at d;exact d none 0 h (fG (W:=9) (e:=211) (cM c t C core s a rfl rfl))
   .exact u (fun e=>by rw[f] at e;exact absurd e.1 (by simp))
 .simp only[v,if_true] at d;exact d none 0 h (fG (W:=9) (e:=211) a)
end
section
set_option maxRecDepth 100000
variable {G:Bg} {h:AH} {L L' M:List HP} {C:bM} {core:Int} {c:Nat} {s:lE} {n:aK}
theorem rF {a:lE} {Q:Value->AH->Prop} {e:Int} {r:Tk} (g:∀b d f,Hs G f (cU 9 211 b d (r.2.1.length,eA r.2.1)::gQ G c C core r.1::L)->Q (.tuple ⟨[.slice b r.2.1.length d,I r.2.2]⟩) f) (i:r=(a,[],e)) (j:Hs G h (gQ G c C core a::L)):Q (.tuple ⟨[.slice none 0 0,I e]⟩) h:=by
 subst i;exact g none 0 h (fG (W:=9) (e:=211) j)
theorem Ks {a:lE} {x:aK} {p:Addr} {Q:Value->AH->Prop} {r:Tk} (g:∀b d f,Hs G f (cU 9 211 b d (r.2.1.length,eA r.2.1)::gQ G c C core r.1::L)->Q (.tuple ⟨[.slice b r.2.1.length d,I r.2.2]⟩) f) (i:r=(a,[x],0)) (j:Hs G h (cU 9 211 (some p) 1 (1,x.enc)::gQ G c C core a::L)):Q (.tuple ⟨[.slice (some p) 1 1,I 0]⟩) h:=by
 subst i;refine g (some p) 1 h ?_;have e:eA [x]=x.enc:=by simp[eA]
 simp only[e,List.length_cons,List.length_nil,Nat.zero_add];exact j
abbrev cr (G:Bg) (c:Nat) (C:bM) (core:Int) (L:List HP) (Q:Value->AH->Prop) (r:Tk):Prop:=∀a b d,Hs G d (cU 9 211 a b (r.2.1.length,eA r.2.1)::gQ G c C core r.1::L)->Q (.tuple ⟨[.slice a r.2.1.length b,I r.2.2]⟩) d
theorem aD4 {Q:Value->AH->Prop} (d:Hs G h (gQ G c C core s::L)) (i:cr G c C core L Q (Ef s n)):Cl Pr K 356 [pt c 0 0,.agg ⟨n.enc⟩] h Q:=by
 obtain⟨t,d⟩:=kX d;refine cW (dB d ?_);intro p h d;refine aU d ?_;intro r h d;refine aB (aA (aA (am c d rfl (bT (dT (cZ (fun g=>?_) (fun g=>?_)))))));refine aB (aA (aA (am c d rfl (aA (am p d rfl (aT (aQ (fun f=>?_) (fun f=>?_))))))));exact rF i (a:=s) (e:=16) (by simp[Ef,g,f]) (cM c t C core s d rfl rfl).to;refine bW (aI (c:=[I 0,.bool false,.bool false]) rfl (aB (aA (ay (b:=c) (o:=0) d ?_))));intro h d;have f:s.al=n.line:=by simpa using f
 exact rF i (a:={s with al:=0,aw:=false,Xe:=false}) (e:=0) (by simp[Ef,g,f]) (cM c t C core {s with al:=0,aw:=false,Xe:=false} d rfl rfl).to;exact rF i (a:=s) (e:=16) (by simp[Ef,g]) (cM c t C core s d rfl rfl).to
theorem iy {Q:Value->AH->Prop} (d:Hs G h (gQ G c C core s::L)) (i:cr G c C core L Q (rS s n)):Cl Pr K 357 [pt c 0 0,.agg ⟨n.enc⟩] h Q:=by
 obtain⟨t,d⟩:=kX d;refine cW (dB d ?_);intro p h d;refine aU d ?_;intro r h d;refine aB (aA (aA (am c d rfl (bT (dT (cZ (fun g=>?_) (fun g=>?_)))))));refine aB (aA (aA (am c d rfl (aA (am p d rfl (aT (aQ (fun f=>?_) (fun f=>?_))))))));exact rF i (a:=s) (e:=12) (by simp[rS,g,f]) (cM c t C core s d rfl rfl).to;refine bW (aI (c:=[I 0,I 0,I 0,I 0,I 0,.bool false]) rfl (aB (aA (ay (b:=c) (o:=0) d ?_))));intro h d;have f:s.gl=n.line:=by simpa using f
 exact rF i (a:={s with gl:=0,gc:=rI.zero,I0:=false}) (e:=0) (by simp[rS,g,f]) (cM c t C core {s with gl:=0,gc:=rI.zero,I0:=false} d rfl rfl).to;exact rF i (a:=s) (e:=12) (by simp[rS,g]) (cM c t C core s d rfl rfl).to
theorem aAz {t p:Nat} {S:Nat->List Th} {Q:Value->AH->Prop} {r:Tk} (d:Hs G h (aF p 0 n.enc::aF c 0 (jQ t C core s)::gX G t C.ways.toNat C.bK.toNat S::L)) (e:cr G c C core L Q r) (f:r=({s with S:=S,al:=0,aw:=false,Xe:=false},[⟨4,core,n.line,0,0,0,0,false,0⟩],0)):
  Dd 355 4 [] Q [(pt c 0 0),(pt p 0 0)] h:=by
 refine bW (aI (c:=[I 0,.bool false,.bool false]) rfl (aB (aA (ay (b:=c) (o:=0) d ?_))))
 intro h d
 refine aU d ?_
 intro g h d
 refine aB (aA (am c d rfl (aA (am p d rfl ?_))))
 refine aI (c:=(⟨4,core,n.line,0,0,0,0,false,0⟩:aK).enc) rfl (aI (c:=(⟨4,core,n.line,0,0,0,0,false,0⟩:aK).enc) rfl ?_)
 refine gT (i:=7) (N:=10) (D:=[]) d rfl rfl rfl rfl rfl ?_
 intro a h d
 refine Ks e (p:=a) f ?_
 have d:=cM c t C core {s with S:=S,al:=0,aw:=false,Xe:=false} d rfl rfl
 exact d.to
theorem Em (hC:C.Ok) (hb:Bd s) {Q:Value->AH->Prop} (g:0<=n.line) (d:Hs G h (gQ G c C core s::L)) (q:cr G c C core L Q (vD C core s n)):Cl Pr K 355 [pt c 0 0,.agg ⟨n.enc⟩] h Q:=by
 obtain⟨t,d⟩:=kX d;refine cW (dB d ?_);intro p h d;refine aU d ?_;intro r h d;refine aB (aA (aA (am c d rfl (bT (dT (cZ (fun k=>?_) (fun k=>?_)))))));refine aB (aA (aA (am c d rfl (aA (am p d rfl (aT (aQ (fun j=>?_) (fun j=>?_))))))));exact rF q (a:=s) (e:=16) (by simp[vD,k,j]) (cM c t C core s d rfl rfl).to;have j:s.al=n.line:=by simpa using j
 refine bW (aA (am p d rfl (aA (am p d rfl (aA (an p d (l:=[I n.d0,I n.d1]) rfl rfl ?_))))));refine aI (c:=(⟨n.state,n.world,(n.d0,n.d1)⟩:rI).enc) rfl (bG d ?_);intro m h d;refine ax d ?_;intro h d;refine aU d ?_;intro A h d;refine aB (aA (am c d rfl (aA (am p d rfl ?_))));refine E1 (t:=t) (ways:=C.ways.toNat) (n:=C.bK.toNat) (S:=s.S) (nE hC).1 hb d fun h d=>aH rfl (aH rfl ?_);refine kM (i:=10) d rfl rfl ?_;intro x h d;refine ax d ?_;intro h d;have fin:∀{c0:Bool} {h:AH},c0=true->Hs G h (aF m 0 (kT C s n).enc::aF p 0 n.enc::aF c 0 (jQ t C core s)::gX G t C.ways.toNat C.bK.toNat s.S::L)->
   (Oy c0 h 9 fun z g=>aY (lN (pt c 0 0)) fun v2=>aY (gO 0 v2) fun v3=>aY (oM g v3) fun v4=>aY (gO 2 (pt p 0 0)) fun v5=>aY (oM g v5) fun v6=>aY (tU g 4 (pt m 0 0)) fun y=>
    Cl Pr K 284 [v4,v6,y] g fun w v=>aY (tD .neq w (I 0)) fun v9=>Br v9 (Q (.tuple ⟨[(.slice none 0 0),w]⟩) v) (Dd 355 4 [] Q [(pt c 0 0),(pt p 0 0)] v)):=by
  intro c0 h u d
  refine aU (hc:=u) d ?_
  intro r3 h d
  refine aB (aA (am c d rfl (aA (am p d rfl (an m d (l:=(kT C s n).enc) rfl rfl ?_)))))
  refine B9 (t:=t) (ways:=C.ways.toNat) (n:=C.bK.toNat) (S:=s.S) g (nE hC).1 hb d fun h d=>?_
  refine aT (aQ (fun f=>?_) (fun f=>?_))
  .refine rF q (a:={s with S:=(mV C.bK.toNat C.ways.toNat s.S n.line (kT C s n)).1}) (by simp[vD,k,j,f]) ?_;exact(cM c t C core {s with S:=(mV C.bK.toNat C.ways.toNat s.S n.line (kT C s n)).1} (cs:=jQ t C core s) d rfl rfl).to
  .have f:(mV C.bK.toNat C.ways.toNat s.S n.line (kT C s n)).2=0:=by simpa using f
   exact aAz (t:=t) (S:=(mV C.bK.toNat C.ways.toNat s.S n.line (kT C s n)).1) (s:=s) (n:=n) d.to q (by simp[vD,k,j,f])
 refine bP (aH rfl eG) (aZ (aQ (fun f=>bW ?_) (fun f=>bW (fin (by kernel_rfl) ?_))));refine aA (an x d (l:=[I (cA C.bK.toNat s.S n.line).1.d.1,I (cA C.bK.toNat s.S n.line).1.d.2]) rfl rfl (aA (ay (b:=m) (o:=0) d ?_)));intro h d;have e:kT C s n=⟨n.state,n.world,(cA C.bK.toNat s.S n.line).1.d⟩:=by simp[kT,f]
 have d:=d.sg (b:=m) (o:=0) (c:=(kT C s n).enc) (by rw[e];rfl);exact fin (by kernel_rfl) d.to;have e:kT C s n=⟨n.state,n.world,(n.d0,n.d1)⟩:=by simp[kT,f]
 rw[e];exact d.to;exact rF q (a:=s) (e:=16) (by simp[vD,k]) (cM c t C core s d rfl rfl).to
end
section
set_option maxRecDepth 100000
variable {G:Bg} {h:AH} {L L' M:List HP} {C:bM} {core:Int} {c:Nat} {s:lE} {n:aK}
theorem aCs {t p q:Nat} {x:rI} {y:aK} {Q:Value->AH->Prop} {r:Tk} (d:Hs G h (aF p 0 y.enc::aF q 0 x.enc::aF c 0 (jQ t C core s)::gX G t C.ways.toNat C.bK.toNat s.S::L)) (e:cr G c C core L Q r) (f:r=({s with gc:=x},[y],0)):
  Dd 358 8 [] Q [(pt c 0 0),(pt p 0 0),(pt q 0 0)] h:=by
 refine bW (an q d (l:=x.enc) rfl rfl (aB (aA (aA (ay (b:=c) (o:=0) d ?_)))))
 intro h d
 refine an p d (l:=y.enc) rfl rfl (aI (c:=y.enc) rfl (dA (W:=9) (n:=1) (c:=1) d rfl rfl rfl ?_))
 intro a h d
 refine Ks e (p:=a) f ?_
 have d:=cM c t C core {s with gc:=x} d rfl rfl
 exact d.to
theorem aBy (hC:C.Ok) (hb:Bd s) (j:0<=n.line) {t f p q:Nat} {x:rI} {y:aK} {Q:Value->AH->Prop} {r:Tk} (d:Hs G h (aF p 0 y.enc::aF q 0 x.enc::aF f 0 n.enc::aF c 0 (jQ t C core s)::gX G t C.ways.toNat C.bK.toNat s.S::L)) (i:cr G c C core L Q r)
  (e:r=({s with S:=if x.st=0 then kL C.bK.toNat s.S n.line else(mV C.bK.toNat C.ways.toNat s.S n.line x).1},[y],0)):
  Dd 358 9 [] Q [(pt c 0 0),(pt f 0 0),(pt p 0 0),(pt q 0 0),(I x.st)] h:=by
 refine bW (aZ (aQ (fun g=>bW (aU d ?_)) (fun g=>bW (aU d ?_))))
 .intro k h d;simp only[aNa g] at e;refine aB (aA (am c d rfl (aA (am f d rfl ?_))));refine Qu (t:=t) (ways:=C.ways.toNat) (n:=C.bK.toNat) (S:=s.S) (nE hC).1 hb d fun h d=>?_;refine an p d (l:=y.enc) rfl rfl (aI (c:=y.enc) rfl (dA (W:=9) (n:=1) (c:=1) d rfl rfl rfl ?_));intro a h d;refine Ks i (p:=a) e ?_;have d:=cM c t C core {s with S:=kL C.bK.toNat s.S n.line} (cs:=jQ t C core s) d rfl rfl;exact d.to
 .intro k h d;simp only[aN9 g] at e;refine aB (aA (am c d rfl (aA (am f d rfl (an q d (l:=x.enc) rfl rfl ?_)))));refine B9 (t:=t) (ways:=C.ways.toNat) (n:=C.bK.toNat) (S:=s.S) j (nE hC).1 hb d fun h d=>?_;refine an p d (l:=y.enc) rfl rfl (aI (c:=y.enc) rfl (dA (W:=9) (n:=1) (c:=1) d rfl rfl rfl ?_));intro a h d;refine Ks i (p:=a) e ?_;have d:=cM c t C core {s with S:=(mV C.bK.toNat C.ways.toNat s.S n.line x).1} (cs:=jQ t C core s) d rfl rfl;exact d.to
theorem du (hC:C.Ok) (hb:Bd s) (j:0<=n.line) {there:Bool} {t f p q:Nat} {x:rI} {Q:Value->AH->Prop} {r:Tk} (a:Hs G h (aF p 0 (M7 core n).enc::aF q 0 x.enc::aF f 0 n.enc::aF c 0 (jQ t C core s)::gX G t C.ways.toNat C.bK.toNat s.S::L)) (i:cr G c C core L Q r)
  (d:r=if there then({s with S:=if mJ x.st n.state=0 then kL C.bK.toNat s.S n.line else(mV C.bK.toNat C.ways.toNat s.S n.line {x with st:=mJ x.st n.state}).1},[kW core n x],0) else({s with gc:={x with st:=mJ x.st n.state}},[kW core n x],0)):
  Dd 358 5 [] Q [(pt c 0 0),(pt f 0 0),(pt p 0 0),(pt q 0 0),(.bool there),(I (mJ x.st n.state)),(.bool (Fh x.st)),(.bool (lZ x.st))] h:=by
 have fin:∀{h:AH},Hs G h (aF p 0 (kW core n x).enc::aF q 0 ({x with st:=mJ x.st n.state}:rI).enc::aF f 0 n.enc::aF c 0 (jQ t C core s)::gX G t C.ways.toNat C.bK.toNat s.S::L)->
   (aY (Pc .not (.bool there)) fun k=>Br k (Dd 358 8 [] Q [(pt c 0 0),(pt p 0 0),(pt q 0 0)] h) (Dd 358 9 [] Q [(pt c 0 0),(pt f 0 0),(pt p 0 0),(pt q 0 0),(I (mJ x.st n.state))] h)):=by
  intro h a
  cases there
  .simp only[Bool.false_eq_true,if_false] at d;exact bT (eN (aCs (t:=t) (x:={x with st:=mJ x.st n.state}) (y:=kW core n x) (s:=s) a.to i d))
  .simp only[if_true] at d;exact bT (bX (aBy hC hb j (t:=t) (x:={x with st:=mJ x.st n.state}) (y:=kW core n x) (s:=s) a i d))
 refine bW (aA (ay (b:=p) (o:=0) a ?_))
 intro h a
 refine cZ (fun g=>bW ?_) (fun g=>bW ?_)
 .refine aA (an q a (l:=[I x.d.1,I x.d.2]) rfl rfl (aA (ay (b:=p) (o:=0) a ?_)));intro h a;refine aA (ay (b:=p) (o:=0) a ?_);intro h a;refine aA (ay (b:=q) (o:=0) a ?_);intro h a;have e:kW core n x=⟨5,core,n.line,0,mJ x.st n.state,x.d.1,x.d.2,lZ x.st,0⟩:=by simp[kW,g]
  have a:=a.sg (b:=p) (o:=0) (c:=(kW core n x).enc) (by rw[e];rfl)
  have a:=a.sg (b:=q) (o:=0) (c:=({x with st:=mJ x.st n.state}:rI).enc) rfl
  exact fin a.to
 .refine aA (ay (b:=q) (o:=0) a ?_);intro h a;have e:kW core n x=⟨5,core,n.line,0,mJ x.st n.state,0,0,false,0⟩:=by simp[kW,g]
  have a:=a.sg (b:=p) (o:=0) (c:=(kW core n x).enc) (by rw[e];rfl)
  have a:=a.sg (b:=q) (o:=0) (c:=({x with st:=mJ x.st n.state}:rI).enc) rfl
  exact fin a.to
end
section
set_option maxRecDepth 100000
variable {G:Bg} {h:AH} {L L' M:List HP} {C:bM} {core:Int} {c:Nat} {s:lE} {n:aK}
theorem aCv (hC:C.Ok) (hb:Bd s) (v:Sts C.bK.toNat s) (B:n.state=0\/n.state=1) (z:0<=n.line) {t u p q:Nat} {x:rI} {Q:Value->AH->Prop} (D:Ob G 5 iW)
  (d:Hs G h (aF p 0 (M7 core n).enc::aF q 0 x.enc::aF u 0 n.enc::aF c 0 (jQ t C core s)::gX G t C.ways.toNat C.bK.toNat s.S::L)) (r:(cA C.bK.toNat s.S n.line).2≠0) (y:cr G c C core L Q (nS C core s n)):
  Dd 358 2 [] Q [(pt c 0 0),(pt u 0 0),(pt p 0 0),(pt q 0 0),(.bool false)] h:=by
 have g:¬(n.state≠1/\n.state≠0):=by omega
 refine bW (aU d ?_)
 intro H h d
 have f:s.I0=false\/s.gl≠n.line->(aY (tU h 9 (pt p 0 0)) fun F=>aY (oD [(I 0),(I 0),(I 0),(I 0),(I 0),(I 0),(I 0),(.bool false),(I 0)] [(0,9,F)]) fun E=>tW h 9 211 E 1 1 fun w A=>Q (.tuple ⟨[w,(I 0)]⟩) A):=by
  intro j;refine an p d (l:=(M7 core n).enc) rfl rfl (aI (c:=(M7 core n).enc) rfl (dA (W:=9) (n:=1) (c:=1) d rfl rfl rfl ?_));intro a h d;refine Ks y (p:=a) (a:=s) (x:=M7 core n) ?_ ?_;rcases j with j|j;simp[nS,g,r,j,M7];by_cases m:s.I0=false;simp[nS,g,r,m,M7];simp only[nS,aN9 g,aN9 r,aN9 m,aNa j,M7];have d:=cM c t C core s d rfl rfl;exact d.to
 refine aB (aA (aA (am c d rfl (bT (dT (cZ (fun k=>?_) (fun k=>f (.inl k))))))))
 refine aB (aA (aA (am c d rfl (aA (am u d rfl (aT (aQ (fun i=>f (.inr i)) (fun i=>bW ?_))))))))
 have i:s.gl=n.line:=by simpa using i
 refine aB (aA (aA (an c d (l:=s.gc.enc) rfl rfl (ax (b:=q) (o:=0) d ?_))))
 intro h d
 refine aA (am q d rfl (aA (am u d rfl (Pp D d (v.back k) B (aH rfl (aH rfl (aH rfl (aH rfl (aT (aaa ?_))))))))))
 refine du hC hb z (there:=false) (t:=t) (x:=s.gc) (s:=s) (n:=n) (core:=core) (L:=L) d.to y ?_
 have m:¬s.I0=false:=by rw[k];simp
 simp only[nS,aN9 g,aN9 r,aN9 m,aN9 (show ¬s.gl≠n.line from fun e=>e i),Bool.false_eq_true,if_false]
theorem aDh (hC:C.Ok) (hb:Bd s) (e:Sts C.bK.toNat s) (k:n.state=0\/n.state=1) (i:0<=n.line) {t f p q:Nat} {Q:Value->AH->Prop} (l:Ob G 5 iW)
  (a:Hs G h (aF p 0 (M7 core n).enc::aF q 0 (cA C.bK.toNat s.S n.line).1.enc::aF f 0 n.enc::aF c 0 (jQ t C core s)::gX G t C.ways.toNat C.bK.toNat s.S::L)) (g:(cA C.bK.toNat s.S n.line).2=0) (j:cr G c C core L Q (nS C core s n)):
  Dd 358 3 [] Q [(pt c 0 0),(pt f 0 0),(pt p 0 0),(pt q 0 0),(.bool true)] h:=by
 have d:¬(n.state≠1/\n.state≠0):=by omega
 refine bW (aA (am q a rfl (aA (am f a rfl (Pp l a (e.aKv _ g) k (aH rfl (aH rfl (aH rfl (aH rfl (aT (aaa ?_)))))))))))
 refine du hC hb i (there:=true) (t:=t) (x:=(cA C.bK.toNat s.S n.line).1) (s:=s) (n:=n) (core:=core) (L:=L) a j ?_
 simp only[nS,aN9 d,aNa g,if_true]
theorem Dp (hC:C.Ok) (hb:Bd s) (f:Sts C.bK.toNat s) (l:0<=n.line) {Q:Value->AH->Prop} (r:Ob G 5 iW) (d:Hs G h (gQ G c C core s::L)) (k:cr G c C core L Q (nS C core s n)):Cl Pr K 358 [pt c 0 0,.agg ⟨n.enc⟩] h Q:=by
 obtain⟨t,d⟩:=kX d;refine cW (dB d ?_);intro j h d;refine aA (am j d rfl (aT (aQ (fun u=>aA (am j d rfl (aT (aQ (fun v=>?_) (fun v=>bW ?_))))) (fun u=>?_))));exact rF k (a:=s) (e:=10) (by simp only[nS];rw[aNa ⟨by omega,by omega⟩]) (cM c t C core s d rfl rfl).to;all_goals
  have m:n.state=0\/n.state=1:=by omega
  refine aU d ?_
  intro y h d
  refine aB (aA (am c d rfl (aA (am j d rfl (aI (c:=(M7 core n).enc) rfl ?_)))))
  refine kM (i:=7) d rfl rfl ?_
  intro p h d
  refine ax d ?_
  intro h d
  refine aU d ?_
  intro w h d
  refine aB (aA (am c d rfl (aA (am j d rfl ?_))))
  refine E1 (t:=t) (ways:=C.ways.toNat) (n:=C.bK.toNat) (S:=s.S) (nE hC).1 hb d fun h d=>aH rfl (aH rfl ?_)
  refine kM (i:=10) d rfl rfl ?_
  intro q h d
  refine ax d ?_
  intro h d
  refine bP (aH rfl eG) (aZ (bT ?_))
  by_cases g:(cA C.bK.toNat s.S n.line).2=0
  .rw[decide_eq_true g];exact bX (aDh hC hb f m l (t:=t) r d.to g k)
  .rw[decide_eq_false g];exact eN (aCv hC hb f m l (t:=t) (x:=(cA C.bK.toNat s.S n.line).1) r d.to g k)
end
section
def wN (k:Int) (f:FuncId):List Value:=[I k,.func (.func f) #[] #[]]
def Ko:List Value:=wN 8 355++wN 9 356++wN 10 357++wN 11 358
set_option maxRecDepth 100000
variable {G:Bg} {h:AH} {L L' M:List HP} {C:bM} {core:Int} {c:Nat} {s:lE} {n:aK}
theorem aD9 (hC:C.Ok) {p q:Nat} {k:Int} {f:FuncId} {Q:Value->AH->Prop} {r:Tk} (w:Ob G 1 gA) (d:Hs G h (aF q 0 (wN k f)::aF p 0 n.enc::gQ G c C core s::L))
  (i:fX Pr f=true) (x:yO C n.line=false->r=(s,[],10)) (v:yO C n.line=true->∀h L,Hs G h (gQ G c C core s::L)->∀Q,cr G c C core L Q r->Cl Pr K f [pt c 0 0,.agg ⟨n.enc⟩] h Q) (j:cr G c C core L Q r):
  Dd 214 5 [] Q [(pt c 0 0),(pt p 0 0),(pt q 0 0)] h:=by
 refine bW (aA (am p d rfl (vB (c:=c) (core:=core) (s:=s) hC w d fun h d=>bT (dT (cZ (fun g=>?_) (fun g=>?_))))))
 .refine aA (am q d rfl (an p d (l:=n.enc) rfl rfl ?_));refine qJ i (v g h (aF q 0 (wN k f)::aF p 0 n.enc::L) d.to _ fun m t u d=>aH rfl (aH rfl (j m t u d.to)))
 .exact rF j (a:=s) (e:=10) (x g) d.to
theorem Dt (hC:C.Ok) (hb:Bd s) (w:Sts C.bK.toNat s) {Q:Value->AH->Prop} (H:Ob G 1 gA) (J:Ob G 5 iW) (d:Hs G h L) [m:Has (gQ G c C core) L s L'] (j:cr G c C core L' Q (gY C core s n)):
  Cl Pr K 214 [pt c 0 0,.agg ⟨n.enc⟩] h Q:=by
 have d:=m.of d
 refine cW (dB d ?_)
 intro p h d
 refine cS (bX (bW (cW ?_)))
 refine aI (c:=wN 8 355) rfl (aI (c:=wN 9 356) rfl (aI (c:=wN 10 357) rfl (aI (c:=wN 11 358) rfl (aI (c:=Ko) rfl ?_))))
 refine dA (W:=2) (n:=4) (c:=4) d rfl rfl rfl ?_
 intro a h d
 obtain⟨b,o,E,d⟩:=d.eZ (by decide)
 cases E
 refine bH ?_
 have x:yO C n.line=true->0<=n.line:=fun e=>(of_decide_eq_true e).1
 have step:∀(i:Nat) (y:i<4) (k:Int) (f:FuncId) (h:AH) (M:List HP),(Ko.drop (i*2)).take 2=wN k f->fX Pr f=true->Hs G h (aF b o Ko::aF p 0 n.enc::gQ G c C core s::L')->
   (n.kind=k->((yO C n.line=false->gY C core s n=(s,[],10))/\(yO C n.line=true->∀h L,Hs G h (gQ G c C core s::L)->∀Q,cr G c C core L Q (gY C core s n)->Cl Pr K f [pt c 0 0,.agg ⟨n.enc⟩] h Q)))->
   (n.kind≠k->∀h,Hs G h (aF b o Ko::aF p 0 n.enc::gQ G c C core s::L')->Dd 214 2 [] Q [(pt c 0 0),(pt p 0 0),(.slice (some ⟨b,o,none⟩) 4 4),(I 4),(I ((i+1:Nat):Int))] h)->
   Dd 214 2 [] Q [(pt c 0 0),(pt p 0 0),(.slice (some ⟨b,o,none⟩) 4 4),(I 4),(I (i:Int))] h:=by
  intro i y k f h M F u d r v
  refine bW (aM (aad (bW (dF y (Ku (b:=b) (o:=o) d (by decide) (l:=wN k f) (by rw[Nat.add_zero];exact F) rfl (bG d ?_))))))
  intro q h d
  refine ax d ?_
  intro h d
  refine aA (am q d rfl (aA (am p d rfl (aT (aQ (fun t=>bW (aac ?_)) (fun t=>?_))))))
  .have:=v (fun e=>t e.symm) h d.to;show Dd _ _ _ _ _ _;simpa using this
  .have t:n.kind=k:=by
    have:k=n.kind:=by simpa using t
    exact this.symm
   exact aD9 (k:=k) (f:=f) (s:=s) (n:=n) hC H (show Hs G h (aF q 0 (wN k f)::aF p 0 n.enc::gQ G c C core s::L') from d.to) u (r t).1 (r t).2 j
 have d:Hs G h (aF b o Ko::aF p 0 n.enc::gQ G c C core s::L'):=d.to
 refine step 0 (by decide) 8 355 h [] rfl (by kernel_rfl) d (fun e=>⟨fun g=>by simp[gY,e,g],fun g h L d Q j=>Em hC hb (x g) d (by simpa [gY,e,g] using j)⟩) fun z h d=>?_
 refine step 1 (by decide) 9 356 h [] rfl (by kernel_rfl) d (fun e=>⟨fun g=>by simp[gY,e,g],fun g h L d Q j=>aD4 d (by simpa [gY,e,g] using j)⟩) fun A h d=>?_
 refine step 2 (by decide) 10 357 h [] rfl (by kernel_rfl) d (fun e=>⟨fun g=>by simp[gY,e,g],fun g h L d Q j=>iy d (by simpa [gY,e,g] using j)⟩) fun B h d=>?_
 refine step 3 (by decide) 11 358 h [] rfl (by kernel_rfl) d (fun e=>⟨fun g=>by simp[gY,e,g],fun g h L d Q j=>Dp hC hb w (x g) J d (by simpa [gY,e,g] using j)⟩) fun D h d=>?_
 refine bW (aM (aaa ?_))
 exact rF j (a:=s) (e:=15) (by simp[gY,z,A,B,D]) d.to
theorem tn {Q:Value->AH->Prop} (a:Hs G h L) [m:Has (gQ G c C core) L s L'] (e:∀d,Hs G d (gQ G c C core s::L')->Q (.tuple ⟨[I s.al,.bool s.aw,.bool s.Xe]⟩) d):Cl Pr K 51 [pt c 0 0] h Q:=by
 obtain⟨t,a⟩:=kX (m.of a);refine cW (cS (bX (aU a ?_)));intro f h a;refine(aB (aA (aA (am c a rfl (aB (aA (aA (am c a rfl (aB (aA (aA (am c a rfl ?_))))))))))));exact e _ (cM c t C core s a rfl rfl).to
theorem gx (hC:C.Ok) (hb:Bd s) {Q:Value->AH->Prop} (a:Hs G h L) [m:Has (gQ G c C core) L s L'] (f:∀d e,Hs G e (gQ G d C core s::gQ G c C core s::L')->Q (pt d 0 0) e):Cl Pr K 213 [pt c 0 0] h Q:=by
 obtain⟨t,a⟩:=kX (m.of a);refine cW (cS (bX (bW (aB (an c a (l:=jQ t C core s) rfl rfl (bG a ?_))))));intro d h a;refine ax a ?_;intro h a;refine aB (aA (am c a rfl (aCo (t:=t) (ways:=C.ways.toNat) (n:=C.bK.toNat) (S:=s.S) (nE hC).1 (nE hC).2.1 hb a fun t2 h a=>?_)));refine aA (ay (b:=d) (o:=0) a ?_);intro h a;have a:=a.sg (b:=d) (o:=0) (c:=jQ t2 C core s) rfl;have a:=cM d t2 C core s a rfl rfl;have a:=cM c t C core s a rfl rfl;exact f d h a.to
theorem Qv (hC:C.Ok) (d:0<=core/\core<C.aG) {Q:Value->AH->Prop} (i:Ob G 1 gA) (a:Hs G h L) (g:∀c e,Hs G e (gQ G c C core lE.new::L)->Q (.tuple ⟨[pt c 0 0,I 0]⟩) e):Cl Pr K 43 [.agg ⟨C.enc⟩,I core] h Q:=by
 refine cW (dB a ?_);intro p h a;refine an p a (l:=C.enc) rfl rfl (jS i a fun h a=>?_);have f:=hC;unfold bM.Ok at f;rw[aNa hC];refine aT (aaa (bW (aM (aaa (aA (am p a rfl (dE (aaa (bW ?_)))))))));refine aA (am p a rfl (aA (am p a rfl (Tv (by omega) (by omega) a fun t h a=>aH rfl (aH rfl (aT (aaa ?_)))))));refine an p a (l:=C.enc) rfl rfl (aI (c:=jQ t C core lE.new) rfl (dB a ?_));intro q h a;have a:=cM q t C core lE.new a rfl rfl;exact g q h a.to
end
section
set_option maxRecDepth 100000
variable {G:Bg} {h:AH} {L L' M:List HP} {C:bM} {core:Int} {c:Nat} {s:lE} {n:aK}
theorem yr (hC:C.Ok) (d:mL C s) {l at' i:Int} (k:uY C s.S l at' i false=0) {Q:Value->AH->Prop} (v:Ob G 1 gA) (w:Ob G 5 iW) (a:Hs G h L) [m:Has (gQ G c C core) L s L'] (f:∀j,Hs G j (gQ G c C core (rN C s l at' i)::L')->Q (.tuple ⟨[I (Mc.Dc C s l at'),I 0]⟩) j):Cl Pr K 206 [pt c 0 0,I l,I at',I i] h Q:=by
 have a:=m.of a;have q:Bd s:=d.bd (nE hC).2.2.2;unfold rN at f;refine cW (Wq (c:=c) (core:=core) (s:=s) hC q v w a fun h a=>aT (aaa ?_));rw[aNa k] at f;obtain⟨g,r,x,_⟩:=Yr k;have u:=U9 d.bK x;obtain⟨t,a⟩:=kX a;refine bW (aB (aA (am c a rfl (Kf (t:=t) (ways:=C.ways.toNat) (n:=C.bK.toNat) (S:=s.S) g.1 (nE hC).1 q a fun h a=>aH rfl (aH rfl (bG a ?_))))));intro p h a;refine ax a ?_;intro h a;have e:=fun {h:AH} a=>(cM c t C core {s with S:=Gu C.bK.toNat C.ways.toNat s.S l} (G:=G) (h:=h) (L:=aF p 0 (cA C.bK.toNat s.S l).1.enc::gX G t C.ways.toNat C.bK.toNat (Gu C.bK.toNat C.ways.toNat s.S l)::aF c 0 (jQ t C core s)::L') a rfl rfl);refine aT (aaa (aA ?_));rcases r with rfl|rfl;exact iI (by decide) (by decide) (am p a rfl (f _ (e a).to));exact iI (by decide) (by decide) (am p a rfl (f _ (e a).to))
theorem lj (hC:C.Ok) (e:mL C s) {l at' u v:Int} (y:uY C s.S l at' u true=0) {Q:Value->AH->Prop} (D:Ob G 1 gA) (z:Ob G 5 iW) (a:Hs G h L) [m:Has (gQ G c C core) L s L'] (k:∀w,Hs G w (gQ G c C core (mS C s l at' u v)::L')->Q (I 0) w):Cl Pr K 207 [pt c 0 0,I l,I at',I u,I v] h Q:=by
 have a:=m.of a;have i:Bd s:=e.bd (nE hC).2.2.2;unfold mS at k;refine cW (Wq (c:=c) (core:=core) (s:=s) hC i D z a fun h a=>aT (aaa ?_));rw[aNa y] at k;obtain⟨q,B,E,d⟩:=Yr y;have d:Ad (cA C.bK.toNat s.S l).1.st=true:=d;obtain⟨t,a⟩:=kX a;refine bW (aB (aA (am c a rfl ?_)));refine E1 (t:=t) (ways:=C.ways.toNat) (n:=C.bK.toNat) (S:=s.S) (nE hC).1 i a fun h a=>aH rfl (aH rfl (bG a ?_));intro p h a;refine ax a ?_;intro h a;refine aT (aaa (bW (aA (am p a rfl (w5 z a d (aH rfl (aH rfl (aA (ay (b:=p) (o:=0) a ?_)))))))));intro h a;refine aT (aaa (bW (aA ?_)));have f:∀{c0:Bool} {h:AH},c0=true->Hs G h (aF p 0 (Aj C.bK.toNat s.S l at' v).enc::gX G t C.ways.toNat C.bK.toNat s.S::aF c 0 (jQ t C core s)::L')->
   Oy c0 h 8 fun _ g=>aY (lN (pt c 0 0)) fun v5=>aY (gO 0 v5) fun v6=>aY (oM g v6) fun F=>aY (tU g 4 (pt p 0 0)) fun H=>Cl Pr K 284 [F,I l,H] g fun v9 A=>Q v9 A:=by
  intro c0 h j a
  refine aU (hc:=j) a ?_
  intro r h a
  refine aB (aA (am c a rfl (an p a (l:=(Aj C.bK.toNat s.S l at' v).enc) rfl rfl ?_)))
  refine B9 (t:=t) (ways:=C.ways.toNat) (n:=C.bK.toNat) (S:=s.S) q.1 (nE hC).1 i a fun h a=>?_
  show Q _ _
  rw[vg (x:=Aj C.bK.toNat s.S l at' v) e.bK E]
  exact k _ (cM c t C core {s with S:=(mV C.bK.toNat C.ways.toNat s.S l (Aj C.bK.toNat s.S l at' v)).1} (cs:=jQ t C core s) a rfl rfl).to
 rcases B with rfl|rfl;refine iI (by decide) (by decide) (ay (b:=p) (o:=0) a ?_);intro h a;exact f (by kernel_rfl) ((a.sg (b:=p) (o:=0) (c:=(Aj C.bK.toNat s.S l 0 v).enc) rfl).to);refine iI (by decide) (by decide) (ay (b:=p) (o:=0) a ?_);intro h a;exact f (by kernel_rfl) ((a.sg (b:=p) (o:=0) (c:=(Aj C.bK.toNat s.S l 1 v).enc) rfl).to)
end
end Go.Proofs.YtcjlkjeeifemhaaGreatDoor.C
end
namespace Go.Proofs.YtcjlkjeeifemhaaGreatDoor.N
open Go Go.Ab Go.Hm Go.Nt
section
theorem nP {g n a i:Nat} {k:Value->Prop} (d:i<n) (e:k (pt g (i*a) 0)):aY (mM n a (.pointer (some ⟨g,0,none⟩)) (I i)) k:=
 fS (b:=g) (o:=0) (j:=0) d (by simpa [pt] using e)
set_option maxRecDepth 100000
attribute [local irreducible] aY Br oM tU tZ Bj kK tW jJ Oy gO lN oP nQ nD iK vN tD I5 Q2 Nf M1 Sb Nl J1 Nj Pc kA mM qI iH copyV gW uU S4 S7 Fa jD Le O1 Ta lS oS wJ yB Cl yG Rz qY qM iP eP cI bS
variable {G:Bg} {h:AH} {L L':List HP}
theorem yV {k:Int} {Q:Value->AH->Prop} (a:Q (.bool (decide (Sw k))) h):Cl Pr K 298 [I k] h Q:=by
 refine cW (dE (aQ (fun b=>aM ?_) (fun b=>?_)));show Q _ _;rw[show decide (k<14)=decide (Sw k) from decide_eq_decide.2 (by unfold Sw;omega)];exact a;show Q _ _;rw[show false=decide (Sw k) from(decide_eq_false (by unfold Sw;omega)).symm];exact a
theorem aJ8 {k:Int} (h:Sw k):∃n:Nat,k=(n:Int)/\1<=n/\n<14:=⟨k.toNat,by unfold Sw at h;omega,by unfold Sw at h;omega,by unfold Sw at h;omega⟩
theorem fc {k:Int} {Q:Value->AH->Prop} (d:Ob G 3 xR) (g:Hs G h L) (b:Q (if Sw k then .tuple ⟨[I (Ol k.toNat),I 0]⟩ else .tuple ⟨[I 0,I 15]⟩) h):Cl Pr K 227 [I k] h Q:=by
 refine cW (yV (bT (dT (aQ (fun a=>?_) (fun a=>?_)))));rw[aNa a] at b;obtain⟨n,rfl,f,e⟩:=aJ8 a;refine nP e (aA (uJ g d (o:=n*9) (j:=1) (Xj e) b));rw[aN9 a] at b;exact b
theorem Kf {n:aK} {f:Int} (g:1<=f/\f<=13) {Q:Value->AH->Prop} (b:Hs G h L) (a:∀e,Hs G e L->Q (I (kz n f)) e):Cl Pr K 300 [.agg ⟨n.enc⟩,I f] h Q:=by
 refine cW (dB b ?_);intro p h b;have a:=a h b.tail;rcases f13 g with rfl|rfl|rfl|rfl|rfl|rfl|rfl|rfl|rfl|rfl|rfl|rfl|rfl;all_goals
  repeat' first
   |refine aZ ?_
   |refine bE (by decide) ?_
   |refine aJ (by decide) ?_
   |refine bW ?_
   |refine bW ?_
   |refine bW ?_
   |refine bW ?_
   |refine bW ?_
   |refine bW ?_
   |refine bW ?_
   |refine bW ?_
   |refine bW ?_
   |refine bW ?_
   |refine bW ?_
   |refine bW ?_
   |refine aA ?_
   |refine iI (by omega) (by omega) ?_
   |refine aC b rfl ?_
 all_goals first|exact a|skip
 refine cZ (fun d=>?_) (fun d=>?_);unfold kz at a;show Q _ _;simpa [d] using a;unfold kz at a;show Q _ _;simpa [d] using a
theorem aGe {p:Nat} {n:aK} {f v:Int} (d:1<=f/\f<=13) {Q:Value->AH->Prop} (a:Hs G h (aF p 0 n.enc::L)) (e:∀b,Hs G b (aF p 0 (aGh n f v).enc::L)->Q (.tuple ⟨[]⟩) b):Cl Pr K 302 [pt p 0 0,I f,I v] h Q:=by
 refine cW ?_;rcases f13 d with rfl|rfl|rfl|rfl|rfl|rfl|rfl|rfl|rfl|rfl|rfl|rfl|rfl;all_goals
  repeat' first
   |refine aZ ?_
   |refine aT ?_
   |refine bE (by decide) ?_
   |refine aJ (by decide) ?_
   |refine bW ?_
   |refine bW ?_
   |refine bW ?_
   |refine bW ?_
   |refine bW ?_
   |refine bW ?_
   |refine bW ?_
   |refine bW ?_
   |refine bW ?_
   |refine bW ?_
   |refine bW ?_
   |refine aB ?_
   |refine aA ?_
   |refine iI (by omega) (by omega) ?_
  refine ay a ?_
  intro h a
  exact e h a
theorem Lg {a b:Prop} [Decidable a] [Decidable b] {Q:Value->AH->Prop} (d:a↔b) (e:Q (.bool (decide b)) h):Q (.bool (decide a)) h:=by rwa [show decide a=decide b from decide_eq_decide.2 d]
theorem X5 {b:Prop} [Decidable b] {Q:Value->AH->Prop} (a:¬b) (d:Q (.bool (decide b)) h):Q (.bool false) h:=by rwa [decide_eq_false a] at d
theorem K1 {b:Prop} [Decidable b] {Q:Value->AH->Prop} (a:b) (d:Q (.bool (decide b)) h):Q (.bool true) h:=by rwa [decide_eq_true a] at d
theorem Rt {C:bM} (hC:C.Ok) {f v:Int} (j:1<=f/\f<=13) {Q:Value->AH->Prop} (k:Ob G 1 gA) (d:Hs G h L) (g:∀i,Hs G i L->Q (.bool (decide (sc C f v))) i):Cl Pr K 301 [.agg ⟨C.enc⟩,I f,I v] h Q:=by
 refine cW (dB d ?_);intro p h d;have a:=g h d.tail;unfold sc at g a;rcases f13 j with rfl|rfl|rfl|rfl|rfl|rfl|rfl|rfl|rfl|rfl|rfl|rfl|rfl;all_goals
  repeat' first
   |refine bE (by decide) ?_
   |refine aJ (by decide) ?_
   |refine aZ ?_
   |refine bW ?_
   |refine bW ?_
   |refine bW ?_
   |refine bW ?_
   |refine bW ?_
   |refine bW ?_
   |refine bW ?_
   |refine bW ?_
   |refine bW ?_
   |refine bW ?_
   |refine bW ?_
 all_goals simp only[Int.reduceEq,if_true,if_false,or_true,or_self,or_false,decide_true] at g a
 exact dE (aQ (fun b=>aA (aC d rfl (aM (Lg (by omega) a)))) (fun b=>X5 (by omega) a));exact dE (aQ (fun b=>aN d (by decide) (l:=C.enc) rfl rfl (qB hC k d fun h d=>aM (Lg (by omega) (g h d.tail)))) (fun b=>X5 (by omega) a));exact dE (aQ (fun b=>sN (Lg (by omega) a)) (fun b=>X5 (by omega) a));exact dE (aQ (fun b=>sN (Lg (by omega) a)) (fun b=>X5 (by omega) a));exact dE (aQ (fun b=>sN (Lg (by omega) a)) (fun b=>X5 (by omega) a));exact(aQ (fun b=>K1 (by omega) a) (fun b=>aZ (aQ (fun e=>K1 (by omega) a) (fun e=>aZ (Lg (by omega) a)))));exact(aQ (fun b=>K1 (by omega) a) (fun e=>aZ (Lg (by omega) a)));exact a;exact a;exact(aQ (fun b=>K1 (by omega) a) (fun e=>aZ (Lg (by omega) a)));exact(aQ (fun b=>K1 (by omega) a) (fun e=>aZ (Lg (by omega) a)));exact dE (aQ (fun b=>aM (Lg (by omega) a)) (fun b=>X5 (by omega) a));exact dE (aQ (fun b=>aA (aC d rfl (aM (Lg (by omega) a)))) (fun b=>X5 (by omega) a))
end
section
theorem neN {a n:aK} {k:Value->Prop} (b:k (.bool (decide (a≠n)))) {c0:Bool} (hc:c0=true:=by kernel_rfl):Nj c0 [0,0,0,0,0,0,0,1,0] .neq (.agg ⟨a.enc⟩) (.agg ⟨n.enc⟩) k:=by
 refine⟨hc,_,?_,b⟩;cases a;cases n;simp[J1,oX,V2,Uo,aK.enc];rw[Bool.eq_iff_iff];simp
set_option maxRecDepth 100000
attribute [local irreducible] aY Br oM tU tZ Bj kK tW jJ Oy gO lN oP nQ nD iK vN tD I5 Q2 Nf M1 Sb Nl J1 Nj Pc kA mM qI iH copyV gW uU S4 S7 Fa jD Le O1 Ta lS oS wJ yB Cl yG Rz qY qM iP eP cI bS
variable {G:Bg} {h:AH} {L L':List HP}
theorem aHg {P:Program} {f:FuncId} {p:List Nat} {n l d:Nat} {e:Nat->Value} {st:LoopState} {pd:Option Code} {k:Option Code×AH->Prop} (o:Hs G h L) [m:nC l L ⟨P,f,p,n,e,d,st,pd⟩ L'] (g:st≠.busy) (j:∀i,Hs G i L'->k (pd,i)):aY (qM h l) k:=
 zt (P:=P) (f:=f) (p:=p) (n:=n) (e:=e) (d:=d) (st:=st) (pd:=pd) (k:=fun a b=>k (a,b)) (show Hs G h (kE P f p n e d l (st,pd)::L') from m.of o) g j
theorem at7 {l:List Int} {i:Nat} {k:Value->Prop} (d:l.length=7) (a:i<7) (b:k (I (l.getD i 0))):aY (Le 7 1 (.agg ⟨l.map I⟩) (I i)) k:=
 Tz a (by rw[List.getElem?_map,List.getElem?_eq_getElem (by omega),List.getD_eq_getElem?_getD,List.getElem?_eq_getElem (by omega)];rfl) b
theorem nb {k:Int} {Q:Value->AH->Prop} (a:Hs G h L) (d:∀p b,Hs G b (aF p 0 [I k]::L)->Q (.func (.func 362) #[] #[pt p 0 0]) b):Cl Pr K 299 [I k] h Q:=by
 refine cW (dB a ?_);intro p h a;exact d p h a
theorem xv {p n:Nat} (g:Ob G 3 xR) (d:n<14):ez Pr K G 362 [] [pt p 0 0] (aF p 0 [I n]) ((Dz n).map fun f=>[I f]):=by
 intro m J y L h Q a u k o;refine cW (aC a rfl (nP d (aA (bf a g (l:=(ma n).map I) (ke d) (by rw[List.length_map,dk d]) (by rw[pg];omega) ?_))));have r:=dk d;have loop:∀(f i:Nat) (h:AH),i+f=7->Hs G h (aF p 0 [I n]::m ((ws (ma n) f i).map fun f=>[I f])::L)->Dd 362 1 [] Q [y,(.agg ⟨(ma n).map I⟩),(I i)] h:=by
  intro f;induction f with
  |zero=>
   intro i h q a;exact bW (aM (aaa (k _ h a)))
  |succ f w=>
   intro i h q a;unfold ws at a;refine bW (aM (aad (bW (at7 r (by omega) (aZ (aQ (fun e=>?_) (fun e=>?_)))))));rw[aNa e] at a;exact k _ h a;rw[aN9 e] at a;refine(u _ _ h _ a.jN).mono fun v j t=>?_;rcases t with⟨rfl,b⟩|⟨rfl,b⟩;exact bT (bX (bW (aac (w (i+1) j (by omega) b.jN))));exact bT (eN (o _ j b.jN))
 exact loop 7 0 h rfl a
def ckC (C:bM) (n:aK) (p2 b p5 g l d:Nat) (e:Nat->Value) (rest:List (List Value)) (fs:List Int) (a:aK):List HP:=
 [uH (rest=fs.map fun f=>[I f]),uH (∀f∈fs,1<=f/\f<=13),uH (qN C n fs a=qN C n (Dz n.kind.toNat) (D8 n.kind)),kE Pr 226 (kI 1786) 41 e d l (.ready,none),aF p2 0 C.enc,aF b 0 n.enc,aF p5 0 [.bool true],aF g 0 a.enc]
def ckI (C:bM) (n:aK) (p2 a p5 b l d:Nat) (e:Nat->Value) (rest:List (List Value)):HP:=tV fun x:List Int×aK=>sp (ckC C n p2 a p5 b l d e rest x.1 x.2)
def ckJ (C:bM) (n:aK) (p2 b p5 f l d:Nat) (e:Nat->Value):HP:=tV fun a:aK=>sp [uH ((qN C n (Dz n.kind.toNat) (D8 n.kind)).1=false),kE Pr 226 (kI 1786) 41 e d l (.done,some (.exit 0)),aF p2 0 C.enc,aF b 0 n.enc,aF p5 0 [.bool false],aF f 0 a.enc]
theorem Bu {C:bM} {n:aK} {p2 b p5 g l d:Nat} {e:Nat->Value} {rest:List (List Value)} {fs:List Int} {a:aK} (i:rest=fs.map fun f=>[I f]) (j:∀f∈fs,1<=f/\f<=13) (k:qN C n fs a=qN C n (Dz n.kind.toNat) (D8 n.kind))
  (m:Hs G h (sp [kE Pr 226 (kI 1786) 41 e d l (.ready,none),aF p2 0 C.enc,aF b 0 n.enc,aF p5 0 [.bool true],aF g 0 a.enc]::L)):Hs G h (ckI C n p2 b p5 g l d e rest::L):=
 Hs.vA (A:=fun x:List Int×aK=>sp (ckC C n p2 b p5 g l d e rest x.1 x.2)) (fs,a) (nJ i (nJ j (nJ k m)))
theorem zG {C:bM} {n:aK} {p2 i p5 j l d:Nat} {e:Nat->Value} {rest:List (List Value)} (b:Hs G h (ckI C n p2 i p5 j l d e rest::L)):∃g a,(rest=g.map fun f=>[I f])/\(∀f∈g,1<=f/\f<=13)/\qN C n g a=qN C n (Dz n.kind.toNat) (D8 n.kind)/\
  Hs G h (kE Pr 226 (kI 1786) 41 e d l (.ready,none)::aF p2 0 C.enc::aF i 0 n.enc::aF p5 0 [.bool true]::aF j 0 a.enc::L):=by
 obtain⟨⟨g,a⟩,b⟩:=Hs.yP b
 obtain⟨k,b⟩:=eV b
 obtain⟨m,b⟩:=eV b
 obtain⟨o,b⟩:=eV b
 exact⟨g,a,k,m,o,b.unpack⟩
theorem aFt {C:bM} {n:aK} {Q:Value->AH->Prop} (J:Ob G 3 xR) (R:Ob G 1 gA) (i:Hs G h L) (r:∀j,Hs G j L->Q (I (An C n)) j):Cl Pr K 226 [.agg ⟨C.enc⟩,.agg ⟨n.enc⟩] h Q:=by
 unfold An at r;refine cW (dB i ?_);intro D h i;refine dB i ?_;intro B h i;refine aA (aC i rfl (yV (bT (dT (aQ (fun q=>bW ?_) (fun q=>iF ?_))))));rw[aNa q] at r;refine aN i (by decide) (l:=C.enc) rfl rfl (jS R i fun h i=>?_);by_cases hC:C.Ok;rw[aNa hC] at r ⊢;refine aT (aaa (bW (bG i ?_)));intro P h i;refine ax i ?_;intro h i;refine aA (aC i rfl (aI (c:=(D8 n.kind).enc) rfl (bG i ?_)));intro w h i;refine ax i ?_;intro h i;obtain⟨m,S,W,z⟩:=aJ8 q;refine aA (aC i rfl ?_);rw[S];refine nb i fun p h i=>jM i fun d h i=>?_;intro e U;refine lY i fun l h i=>?_;refine rL (by kernel_rfl) ?_;have H:=aDg (k:=m) z;have N:Hs G h (aF p 0 [I m]::ckI C n D B P w l d e ((Dz m).map fun f=>[I f])::mk d ()::L):=by
  refine Hs.jN (Bu (fs:=Dz m) (a:=D8 n.kind) rfl H (by rw[S];rfl) ?_);exact i.to
 clear i;refine xv J z _ (ckJ C n D B P w l d e) _ _ h _ N ?_ ?_ ?_;intro x rest h M i;obtain⟨t,a,q,E,y,T⟩:=zG i;clear i;cases t with
 |nil=>cases q
 |cons f t=>
  simp only[List.map_cons,List.cons.injEq] at q;obtain⟨rfl,rfl⟩:=q;have F:=E f List.mem_cons_self;refine rW (rK T) U ?_;refine gS T fun h i=>?_;refine an B i (l:=n.enc) rfl rfl (Kf F i fun h i=>?_);refine an D i (l:=C.enc) rfl rfl (Rt hC F R i fun h i=>bT (dT (aQ (fun O=>?_) (fun O=>?_))));refine aGe (p:=w) (n:=a) F (i.front (aF w 0 a.enc)) fun h i=>gV i fun h i=>?_;refine .inl ⟨rfl,Bu (fs:=t) (a:=aGh a f (kz n f)) rfl (fun g V=>E g (List.mem_cons_of_mem _ V)) ?_ i.to⟩;rw[<-y,qN,aNa O];refine ax i ?_;intro h i;refine gV i fun h i=> .inr ⟨rfl,?_⟩;refine Hs.vA (A:=fun a:aK=>sp [uH ((qN C n (Dz n.kind.toNat) (D8 n.kind)).1=false),kE Pr 226 (kI 1786) 41 e d l (.done,some (.exit 0)),aF D 0 C.enc,aF B 0 n.enc,aF P 0 [.bool false],aF w 0 a.enc]) a (nJ ?_ i.to);rw[<-y,qN,aN9 O]
 intro v j i;obtain⟨t,a,q,E,y,i⟩:=zG i.jN;cases t with
 |cons f t=>cases q
 |nil=>
  rw[qN] at y;rw[<-y] at r;refine mC i fun j i=>lT ?_;refine aC i rfl (bT ?_);refine(bX (an w i (l:=a.enc) rfl rfl (an B i (l:=n.enc) rfl rfl (neN (aQ (fun u=>?_) (fun u=>?_))))));refine kN i fun j i=>iF ?_;have:=r j i.to;rwa [aN9 (fun e=>u e.2)] at this;refine kN i fun j i=>iF ?_;have:=r j i.to;rwa [aNa ⟨rfl,by simpa using u⟩] at this
 intro v j i;obtain⟨a,i⟩:=Hs.yP i.jN;obtain⟨q,i⟩:=eV i;have i:=i.unpack;refine aHg i (by decide) fun j i=>Gg rfl ?_;refine aC i rfl (bT ?_);refine(eN (kN i fun j i=>iF ?_));have:=r j i.to;rwa [aN9 (fun e=>by rw[q] at e;cases e.1)] at this;rw[aN9 hC] at r ⊢;refine aT (aad (iF (r h i.to)));rw[aN9 q] at r;exact r h i.to
end
end Go.Proofs.YtcjlkjeeifemhaaGreatDoor.N
section
open Go Go.Ab
attribute [local irreducible] aY Br oM tU tZ Bj kK tW jJ Oy gO lN oP nQ nD iK vN tD I5 Q2 Nf M1 Sb Nl J1 Nj Pc kA mM qI iH copyV gW uU S4 S7 Fa jD Le O1 Ta lS oS wJ yB Cl yG Rz qY qM iP eP cI bS
namespace Go.Proofs.YtcjlkjeeifemhaaGreatDoor
open Go Go.Ab Go.Hm Go.At Go.Mc
section
instance:Fx cY 2:=⟨fun _=>rfl,fun _=>rfl⟩
def xg (p:Int×Int->Bool):List (Int×Int)->Nat->Int
 |[],_=> -1
 |x::l,i=>if p x then(i:Int) else xg p l (i+1)
theorem Kg {p:Int×Int->Bool}:∀{l:List (Int×Int)} {i:Nat},(xg p l i= -1/\(∀x∈l,p x=false))\/∃j x,xg p l i=((i+j:Nat):Int)/\l[j]?=some x/\p x=true/\∀y∈l.take j,p y=false
 |[],i=> .inl ⟨rfl,fun _ h=>by cases h⟩
 |x::l,i=>by
  unfold xg;split;rename_i b;exact .inr ⟨0,x,by simp,rfl,b,fun _ h=>by cases h⟩;rename_i b;have b:p x=false:=by simpa using b
  rcases Kg (p:=p) (l:=l) (i:=i+1) with⟨d,e⟩|⟨j,y,d,e,f,g⟩;refine .inl ⟨d,fun z a=>?_⟩;rcases List.mem_cons.1 a with rfl|a;exact b;exact e z a;refine .inr ⟨j+1,y,by rw[d];congr 1;omega,by simpa using e,f,fun z a=>?_⟩;rw[List.take_succ_cons] at a;rcases List.mem_cons.1 a with rfl|a;exact b;exact g z a
def isG (g:Int) (x:Int×Int):Bool:=decide (x.1=g)
theorem Bi {g:Int} {l:List (Int×Int)}:(xg (isG g) l 0= -1/\oC l g=none)\/∃(j:Nat) (x:Int×Int),xg (isG g) l 0=(j:Int)/\l[j]?=some x/\oC l g=some x.2:=by
 rcases Kg (p:=isG g) (l:=l) (i:=0) with⟨b,a⟩|⟨j,x,b,a,d,f⟩;refine .inl ⟨b,?_⟩;unfold oC;rw[List.find?_eq_none.2 fun x m=>by have:=a x m;unfold isG at this;simpa using this];rfl;refine .inr ⟨j,x,by rw[b,Nat.zero_add],a,?_⟩;unfold oC;have:l.find? (fun x=>decide (x.1=g))=some x:=by
  rw[List.find?_eq_some_iff_append];refine⟨d,l.take j,l.drop (j+1),?_,fun y o=>by have:=f y o;unfold isG at this;simpa using this⟩;obtain⟨k,e⟩:=List.getElem?_eq_some_iff.1 a;rw[<-e,<-List.drop_eq_getElem_cons k,List.take_append_drop]
 rw[this];rfl
set_option maxRecDepth 100000
variable {G:Bg} {h:AH} {L L':List HP} {Q:Value->AH->Prop} {C:bM}
def yN (C:bM) (s:mP) (a:Option Addr) (c:Nat):List Value:=[.bool s.rQ,I s.cE,I s.at',.bool s.uL,I C.entries,I C.bU,.slice a s.known.length c]
def jC (p:Nat) (C:bM) (s:mP):HP:=tV fun x:Option Addr×Nat=>sp [aF p 0 (yN C s x.1 x.2),ls cY 2 307 x.1 x.2 s.known]
theorem jO {p:Nat} {s:mP} (b:Hs G h (jC p C s::L)):∃a c,Hs G h (aF p 0 (yN C s a c)::ls cY 2 307 a c s.known::L):=by
 obtain⟨⟨a,c⟩,b⟩:=b.yP;exact⟨a,c,b.Bq⟩
theorem dM (p:Nat) (C:bM) (s:mP) {a:Option Addr} {c:Nat} {cs:List Value} {l:List (Int×Int)} {b L2:List HP} (f:Hs G h L) [m:Has (aF p 0) L cs b] [m2:Has (ls cY 2 307 a c) b l L2] (d:cs=yN C s a c) (e:l=s.known):Hs G h (jC p C s::L2):=by
 subst d;subst e;exact Hs.vA (A:=fun x:Option Addr×Nat=>sp [aF p 0 (yN C s x.1 x.2),ls cY 2 307 x.1 x.2 s.known]) (a,c) (Hs.pack (A:=[_,_]) (f.perm (m.perm.trans (m2.perm.cons _))))
theorem qb (hC:C.Ok) (d:Hs G h L) (g:∀p f,Hs G f (jC p C Hx::L)->Q (.tuple ⟨[pt p 0 0,I 0]⟩) f):Cl Pr K 44 [I C.entries,I C.bU] h Q:=by
 have b:=hC;unfold bM.Ok at b;refine cW (aM (aaa (gZ (aaa (aM (aaa (gZ (aaa ?_))))))));refine aI (c:=yN C Hx none 0) rfl (dB d fun p h d=>g _ _ ?_);exact dM p C Hx (a:=none) (c:=0) ((qZ (enc:=cY) (W:=2) (e:=307) d)) rfl rfl
theorem Dk {a:Option Addr} {c:Nat} {l:List (Int×Int)} (hb:l.length<=100) (i:Hs G h L) [m:Has (ls cY 2 307 a c) L l L']
  (g:∀b d f,Hs G f (ls cY 2 307 b d l::ls cY 2 307 a c l::L')->Q (.slice b l.length d) f):Cl Pr K 128 [.slice a l.length c] h Q:=
 cW (Ax (e:=307) (show Hs G h (cU 2 307 a c (l.length,eL cY l)::L') from m.of i) (by omega) g)
theorem C4 {p:Nat} {s:mP} (hb:s.known.length<=100) (d:Hs G h L) [m:Has (jC p C) L s L'] (i:∀q e,Hs G e (jC q C s::jC p C s::L')->Q (pt q 0 0) e):Cl Pr K 218 [pt p 0 0] h Q:=by
 obtain⟨a,c,d⟩:=jO (m.of d);refine cW (cS (bX (bW (aB (an p d (l:=yN C s a c) rfl rfl (bG d fun q h d=>ax d fun h d=>?_))))));refine aB (aA (am p d rfl (Dk (a:=a) (c:=c) (l:=s.known) hb d fun f g h d=>aA (ay (b:=q) (o:=0) d fun h d=>i _ _ ?_))));have d:=dM p C s (a:=a) (c:=c) (d.cF (aF p 0 (yN C s a c)) (ls cY 2 307 a c s.known)) rfl rfl;exact(dM q C s (a:=f) (c:=g) d rfl rfl)
def aAj (G:Bg) (f:Value) (A:HP) (p:Int×Int->Bool):Prop:=∀(x:Int×Int) (h:AH) (L:List HP) (Q:Value->AH->Prop),Hs G h (A::L)->(∀a,Hs G a (A::L)->Q (.bool (p x)) a)->yG Pr K f [.agg ⟨cY x⟩] h Q
theorem V7 {f:Value} {A:HP} {p:Int×Int->Bool} (q:aAj G f A p) {a:Option Addr} {c:Nat} {l:List (Int×Int)} (hb:l.length<=1000) (b:Hs G h (A::ls cY 2 307 a c l::L))
  (m:∀j,Hs G j (A::ls cY 2 307 a c l::L)->Q (I (xg p l 0)) j):Cl Pr K 343 [.slice a l.length c,f] h Q:=by
 refine cW (bH ?_)
 have loop:∀(k i:Nat) (h:AH),i+k=l.length->xg p l 0=xg p (l.drop i) i->Hs G h (A::ls cY 2 307 a c l::L)->Dd 343 1 [] Q [(.slice a l.length c),f,(I l.length),(I i)] h:=by
  intro k;induction k with
  |zero=>
   intro i h r d b;rw[List.drop_of_length_le (by omega)] at d;refine bW (aM (aaa ?_));have:=m _ b;rw[d] at this;exact this
  |succ k u=>
   intro i h r d b;obtain⟨x,t,o⟩:=jP (l:=l) (i:=i) (by omega);rw[o,xg] at d;refine bW (aM (aad (bW (qC (l:=l) (a:=a) (c:=c) (enc:=cY) (e:=307) b (by decide) (by omega) (by rw[Int.toNat_natCast];exact t) (q x h _ _ b fun h b=>cZ (fun g=>?_) (fun g=>?_))))));have:=m _ b;rw[d,aNa g] at this;exact this;rw[aN9 (by rw[g];simp)] at d;exact bW (aac (u (i+1) h (by omega) d b))
 exact loop l.length 0 h (by omega) (by rw[List.drop_zero]) b
theorem aGv {p:Nat} {g:Int}:aAj G (.func (.func 344) #[] #[pt p 0 0]) (aF p 0 [I g]) (isG g):=by
 intro x h L Q a d;refine qJ rfl (cW (dB a fun q h a=>aA (am q a rfl (am p a rfl (aZ (d _ a.tail))))))
theorem Mo {p:Nat} {s:mP} {g:Int} (hb:s.known.length<=100) (d:Hs G h L) [m:Has (jC p C) L s L'] (f:∀e,Hs G e (jC p C s::L')->Q (I (xg (isG g) s.known 0)) e):Cl Pr K 276 [pt p 0 0,I g] h Q:=by
 obtain⟨a,c,d⟩:=jO (m.of d);refine cW (dB d fun q h d=>aB (aA (am p d rfl ?_)));have d:Hs G h (aF q 0 [I g]::ls cY 2 307 a c s.known::aF p 0 (yN C s a c)::L'):=d.to;refine V7 aGv (by omega) d fun h d=>f _ ?_;exact(dM p C s (a:=a) (c:=c) d rfl rfl).to
theorem ou {p:Nat} {s:mP} {w g:Int} (hb:s.known.length<=100) (d:Hs G h L) [m:Has (jC p C) L s L'] (f:∀u,Hs G u (jC p C s::L')->Q (.tuple ⟨[I (s.ask C w g).1,I (s.ask C w g).2]⟩) u):Cl Pr K 201 [pt p 0 0,I w,I g] h Q:=by
 obtain⟨a,c,d⟩:=jO (m.of d);unfold mP.ask at f;have i:∀{h:AH},Hs G h (aF p 0 (yN C s a c)::ls cY 2 307 a c s.known::L')->Hs G h (jC p C s::L'):=fun d=>dM p C s (a:=a) (c:=c) d rfl rfl;refine cW (cS (bX (bW (aM (aQ (fun v=>?_) (fun v=>aB (aA (am p d rfl (dE (aQ (fun y=>?_) (fun y=>aM (aQ (fun z=>?_) (fun z=>gZ (aQ (fun A=>?_) (fun A=>?_)))))))))))))));rw[aab] at f;exact f _ (i d);rw[aab] at f;exact f _ (i d);rw[aab] at f;exact f _ (i d);rw[aab] at f;exact f _ (i d);rw[aae] at f;refine bW (Mo (C:=C) hb (i d) fun h d=>aM (aQ (fun B=>?_) (fun B=>?_)));rcases Bi (g:=g) (l:=s.known) with⟨q,k⟩|⟨j,x,q,k,t⟩;rw[k] at f;exact f _ d;omega;rcases Bi (g:=g) (l:=s.known) with⟨q,k⟩|⟨j,x,q,k,t⟩;omega;rw[t] at f;rw[q];obtain⟨a,c,d⟩:=jO d;refine bW (aB (aA (am p d rfl (xy (l:=s.known) (a:=a) (c:=c) (enc:=cY) (e:=307) d (by omega) (by rw[Int.toNat_natCast];exact k) rfl (dw (cZ (fun r=>?_) (fun r=>?_)))))));simp only[r,if_true] at f;exact f _ (dM p C s (a:=a) (c:=c) d rfl rfl);simp only[r] at f;exact f _ (dM p C s (a:=a) (c:=c) d rfl rfl)
theorem Um {p:Nat} {s:mP} {g:Int} (hC:C.Ok) (hb:s.known.length<=100) (d:Hs G h L) [m:Has (jC p C) L s L'] (e:∀t,Hs G t (jC p C (s.begin C g).1::L')->Q (.tuple ⟨[I (s.begin C g).2.1,I (s.begin C g).2.2]⟩) t):Cl Pr K 277 [pt p 0 0,I g] h Q:=by
 have y:=hC.2.1.2;obtain⟨a,c,d⟩:=jO (m.of d);unfold mP.begin at e;have f:∀{h:AH},Hs G h (aF p 0 (yN C s a c)::ls cY 2 307 a c s.known::L')->Hs G h (jC p C s::L'):=fun d=>dM p C s (a:=a) (c:=c) d rfl rfl;refine cW (cS (bX (bW (aM (aQ (fun u=>?_) (fun u=>aB (aA (am p d rfl (dE (aQ (fun v=>?_) (fun v=>?_)))))))))));rw[aae] at e;exact e _ (f d);rw[aae] at e;exact e _ (f d);rw[aab] at e;refine bW (Mo (C:=C) hb (f d) fun h d=>dE (aQ (fun w=>?_) (fun w=>?_)));rcases Bi (g:=g) (l:=s.known) with⟨k,i⟩|⟨j,x,k,i,r⟩;omega;rw[r] at e;exact e _ d;rcases Bi (g:=g) (l:=s.known) with⟨k,i⟩|⟨j,x,k,i,r⟩;rw[i] at e;simp only[Option.isSome_none,Bool.false_eq_true,if_false] at e;obtain⟨a,c,d⟩:=jO d;refine bW (aB (aA (aA (am p d rfl (cZ (fun q=>?_) (fun q=>?_))))));simp only[q,if_true] at e;exact e _ (dM p C s (a:=a) (c:=c) d rfl rfl);simp only[q,Bool.false_eq_true,if_false] at e;refine bW (vR (by omega) (aH rfl (aH rfl (aT (aaa (bW (aI (c:=[.bool true,I g,I (g/4),.bool false]) rfl (aB (aA (ay (b:=p) (o:=0) d fun h d=>e _ ?_))))))))));exact dM p C (s.start g) (a:=a) (c:=c) d rfl rfl;omega
end
section
theorem aF5 (m:Nat):(dY [I 0,I 0] m).length=m*2/\(dY [I 0,I 0] m).all dV=true:=by
 have:dY [I 0,I 0] m=eL cY (List.replicate m (0,0)):=by
  induction m with
  |zero=>rfl
  |succ m a=>rw[List.replicate_succ,pS,<-a];rfl
 rw[this];exact⟨by rw[C5,List.length_replicate],Ls⟩
set_option maxRecDepth 100000
variable {G:Bg} {h:AH} {L L':List HP} {Q:Value->AH->Prop} {C:bM}
theorem Yl {a:Option Addr} {c:Nat} {l:List (Int×Int)} (p:0<l.length) (d:Hs G h L) [m:Has (ls cY 2 307 a c) L l L']
  (x:∀k,Hs G k (ls cY 2 307 a c (l.drop 1)::L')->Q (.slice a (l.drop 1).length c) k):Cl Pr K 361 [.slice a l.length c,I 0,I 1] h Q:=by
 have d:Hs G h (cU 2 307 a c (l.length,eL cY l)::L'):=m.of d
 have f:l.length<=c:=by
  obtain⟨r,z,⟨_,_,y⟩,_⟩:=d.fst;rcases y with⟨j,_⟩|⟨j,_⟩|⟨f,_⟩;simp only at j;omega;simp only at j;omega;exact f
 obtain⟨b,o,w,_⟩:=d.oJ p
 refine cW (bH ?_)
 refine ar (v:= .slice (some ⟨b,o+0*2,none⟩) (0+1 - 0) (l.length - 0)) ?_ ?_
 .subst w;have q:jZ (some (I l.length)) c c=some l.length:=by simp only[jZ];rw[aae];simp
  have t:jZ (some (I 1)) l.length l.length=some 1:=by simp only[jZ];rw[aae];rfl
  have u:jZ (some (I 0)) 0 1=some 0:=by simp only[jZ];rw[aae];rfl
  have g:¬l.length=0:=by omega
  simp only[uU,q,t,u,Option.isNone_some,Bool.false_and,Option.isSome_none,Bool.false_eq_true,if_false,g,cT]
  rw[aae]
 refine aZ (aaa (bW (bH (aU d ?_))))
 intro r h d
 refine aDz (i:=0) (by decide) rfl rfl p d ?_
 intro h d
 have e:(eL cY l).take (0*2)++(eL cY l).drop ((0+1)*2)=eL cY (l.drop 1):=by rw[Q5];simp
 rw[e] at d
 have:=x h
 rw[List.length_drop] at this
 refine this ?_
 unfold ls
 rw[List.length_drop]
 exact d.to
theorem vb {p:Nat} {s:mP} {x:Int×Int} (hC:C.Ok) (hb:s.known.length<=100) (d:Hs G h L) [m:Has (jC p C) L s L'] (g:∀u,Hs G u (jC p C (s.Jf C x)::L')->Q (.tuple ⟨[]⟩) u):Cl Pr K 293 [pt p 0 0,.agg ⟨cY x⟩] h Q:=by
 have w:1<=C.entries/\C.entries<=8:=hC.2.2.2.2.2.1;obtain⟨a,c,d⟩:=jO (m.of d);unfold mP.Jf at g;refine cW (dB d fun q h d=>aU d fun y h d=>?_);refine aB (aA (am p d rfl (bH (aB (aA (am p d rfl (dE (aQ (fun t=>?_) (fun t=>?_)))))))));rw[aNa t] at g;refine bW (aB (aA (am p d rfl (Yl (a:=a) (c:=c) (l:=s.known) (by omega) d fun h d=>?_))));refine aB (aA (ay (b:=p) (o:=0) d fun h d=>aU d fun v h d=>aB (aA (am p d rfl (an q d (l:=cY x) rfl rfl (aI (c:=cY x) rfl (gT (i:=6) (N:=11) (D:=[]) d rfl rfl rfl rfl rfl fun f h d=>?_)))))));refine rR (enc:=cY) (W:=2) (e:=307) (a:=a) (c:=c) (l:=s.known.drop 1) (a2:=some f) (c2:=1) (l2:=[x]) (show Hs G h (ls cY 2 307 (some f) 1 [x]::_) from d) (by simp;omega) fun j k h d=>?_;refine aB (aA (ay (b:=p) (o:=0) d fun h d=>bP cG (g _ ?_)));exact(dM p C {s with known:=s.known.drop 1++[x]} (a:=j) (c:=k) d rfl rfl).to;rw[aN9 t] at g;refine aU d fun v h d=>aB (aA (am p d rfl (an q d (l:=cY x) rfl rfl (aI (c:=cY x) rfl (gT (r:=v) (i:=6) (N:=11) (D:=[]) d rfl rfl rfl rfl rfl fun f h d=>?_)))));refine rR (enc:=cY) (W:=2) (e:=307) (a:=a) (c:=c) (l:=s.known) (a2:=some f) (c2:=1) (l2:=[x]) (show Hs G h (ls cY 2 307 (some f) 1 [x]::_) from d) (by simp;omega) fun j k h d=>?_;refine aB (aA (ay (b:=p) (o:=0) d fun h d=>bP cG (g _ ?_)));exact(dM p C {s with known:=s.known++[x]} (a:=j) (c:=k) d rfl rfl).to
theorem py {p:Nat} {s:mP} {at' w:Int} (hC:C.Ok) (hb:s.known.length<=100) (H:0<=s.cE/\s.cE<C.bU) (R:0<=w/\w<=1000000) (d:Hs G h L) [m:Has (jC p C) L s L']
  (f:∀l,Hs G l (jC p C (s.walked C at' w).1::L')->Q (.tuple ⟨[I (s.walked C at' w).2.1,.bool (s.walked C at' w).2.2.1,I (s.walked C at' w).2.2.2]⟩) l):Cl Pr K 219 [pt p 0 0,I at',I w] h Q:=by
 have P:=hC.2.1
 obtain⟨a,c,d⟩:=jO (m.of d)
 unfold mP.walked at f
 have t:∀{h:AH},Hs G h (aF p 0 (yN C s a c)::ls cY 2 307 a c s.known::L')->Hs G h (jC p C s::L'):=fun d=>dM p C s (a:=a) (c:=c) d rfl rfl
 refine cW (cS (bX (bW (aB (aA (aA (am p d rfl (bT (dT (cZ (fun y=>?_) (fun y=>?_)))))))))))
 rotate_left
 .rw[aNa y] at f;exact f _ (t d)
 rw[aN9 (by rw[y];simp)] at f
 refine bW (aB (aA (aA (am p d rfl (aT (aQ (fun z=>?_) (fun z=>?_)))))))
 .rw[aNa z] at f;exact f _ (t d)
 rw[aN9 z] at f
 refine bW (aB (aA (aA (am p d rfl (vR (by omega) (aH rfl (aH rfl (aT (aaa (bW (aB (aA (aA (am p d rfl (cZ (fun A=>?_) (fun A=>?_))))))))))))))))
 .rw[aNa A] at f;refine bW (aB (aA (aA (ay (b:=p) (o:=0) d fun h d=>aB (aA (aA (ay (b:=p) (o:=0) d fun h d=>f _ ?_)))))));exact dM p C s.fresh (a:=a) (c:=c) d rfl rfl
 rw[aN9 (by rw[A];simp)] at f
 refine bW (aU d fun T h d=>aB (aA (am p d rfl (aB (aA (aA (am p d rfl (xt (n:=C.bU) (g:=s.cE) ⟨P,H⟩ R d fun h d=>?_))))))))
 generalize J3 C.bU s.cE at' w=r at f
 obtain⟨nx,x,S,e⟩:=r
 simp only at f ⊢
 refine aH rfl (aH rfl (aH rfl (aH rfl (kM (i:=17) (n:=22) (D:=[]) d rfl rfl fun j h d=>ax (b:=j) d fun h d=>bP (aH rfl aEk) (bP (aH rfl eG) (aT (aQ (fun B=>?_) (fun B=>?_))))))))
 .rw[aNa B] at f;exact f _ (t d.to)
 rw[aN9 B] at f
 have k:∀{h:AH} {M:List HP} (v:Int) (u:mP),[Sub M L']->yN C u a c=dH (yN C s a c) 2 [I v]->u.known=s.known->Hs G h (aF p 0 (yN C s a c)::ls cY 2 307 a c s.known::M)->(∀l,Hs G l (jC p C u::L')->Q (.tuple ⟨[I v,.bool false,I 0]⟩) l)->Dd 219 10 [] Q [(pt p 0 0),(I v)] h:=by
  intro h M v u _ O J d N;refine bW (aB (aA (aA (ay (b:=p) (o:=0) d fun h d=>N _ ?_))));have:=dM p C u (a:=a) (c:=c) d O.symm J.symm;exact this.to
 have q:∀{h:AH},Hs G h (aF j 0 x.enc::aF p 0 (yN C s a c)::ls cY 2 307 a c s.known::L')->(∀l,Hs G l (jC p C (s.Jf C (s.cE,x.owner)).done::L')->Q (.tuple ⟨[I 0,.bool true,I 0]⟩) l)->Dd 219 11 [] Q [(pt p 0 0),(pt j 0 0)] h:=by
  intro h d N;refine bW (aU d fun U h d=>aB (aA (aA (am p d rfl (aA (am j d rfl (aI (c:=cY (s.cE,x.owner)) rfl ?_)))))));have d:=dM p C s (a:=a) (c:=c) d rfl rfl;refine vb hC hb d fun h d=>?_;obtain⟨a3,c3,d⟩:=jO d;refine aI (c:=[.bool false,I 0,I 0,.bool false]) rfl (aB (aA (ay (b:=p) (o:=0) d fun h d=>N _ ?_)));exact(dM p C (s.Jf C (s.cE,x.owner)).done (a:=a3) (c:=c3) d rfl rfl).to
 have d:Hs G h (aF j 0 x.enc::aF p 0 (yN C s a c)::ls cY 2 307 a c s.known::L'):=d.to
 refine bW (cZ (fun E=>?_) (fun E=>?_))
 .subst E;refine aA (am j d rfl (cZ (fun F=>?_) (fun F=>?_)))
  .rw[aNa ⟨rfl,F⟩] at f;exact bW (bT (eN (k (M:=aF j 0 x.enc::L') (s.cE/4) (s.goto (s.cE/4)) rfl rfl d.to f)))
  .rw[aN9 (by rw[F];simp),aN9 (by simp)] at f;exact bW (bT (bX (q d f)))
 .subst E;rw[aN9 (by simp),aNa rfl] at f;exact bT (eN (k (M:=aF j 0 x.enc::L') nx (s.goto nx) rfl rfl d.to f))
def pD (g:Int) (x:Int×Int):Bool:=decide (g= -1\/x.1=g)
theorem my {p q:Nat} {g:Int}:aAj G (.func (.func 296) #[] #[pt p 0 0]) (sp [aF p 0 [.func (.func 294) #[] #[pt q 0 0]],aF q 0 [I g]]) (pD g):=by
 intro x h L Q a i;have a:=a.Bq;have d:∀{h:AH} {M:List HP} {b:Bool},[Sub M L]->b=pD g x->Hs G h (aF p 0 [.func (.func 294) #[] #[pt q 0 0]]::aF q 0 [I g]::M)->Q (.bool b) h:=by
  intro h M b _ f a;show Q _ _;rw[f];exact i _ (Hs.A9 a.to)
 refine qJ rfl (cW (dB a fun r h a=>am p a rfl (aA (am r a rfl ?_))));refine qJ rfl (cW (am q a rfl (aZ (aQ (fun e=>?_) (fun e=>am q a rfl (aZ ?_))))));exact d (M:=aF r 0 (cY x)::L) (by unfold pD;rw[decide_eq_true (.inl e)]) a.to;exact d (M:=aF r 0 (cY x)::L) (by unfold pD;exact decide_eq_decide.2 (by omega)) a.to
theorem a8 {f:Value} {A:HP} {p:Int×Int->Bool} (P:aAj G f A p) {a:Option Addr} {c:Nat} {l:List (Int×Int)} (hb:l.length<=1000) (d:Hs G h (A::ls cY 2 307 a c l::L))
  (F:∀O,Hs G O (A::ls cY 2 307 a c (l.filter fun x=> !p x)::L)->Q (.slice a (l.filter fun x=> !p x).length c) O):Cl Pr K 295 [.slice a l.length c,f] h Q:=by
 refine cW (V7 P hb d fun h d=>?_)
 rcases Kg (p:=p) (l:=l) (i:=0) with⟨B,r⟩|⟨j,x,B,r,T,U⟩
 .rw[B];have W:l.filter (fun x=> !p x)=l:=List.filter_eq_self.2 fun x hx=>by rw[r x hx];rfl
  rw[W] at F
  exact aZ (aad (F _ d))
 rw[B]
 have Z:=(List.getElem?_eq_some_iff.1 r).1
 refine aZ (aaa (bW (aac ?_)))
 have loop:∀(k i:Nat) (m:List (Int×Int)) (h:AH),i+k=l.length->m.length<i->m=(l.take i).filter (fun x=> !p x)->∀t:List (Int×Int),(m++t).length=i->Hs G h (A::ls cY 2 307 a c (m++t++l.drop i)::L)->
   Dd 295 2 [] Q [(.slice a l.length c),f,(I m.length),(I i)] h:=by
  intro k
  induction k with
  |zero=>
   intro i m h X hm u t q d
   have v:i=l.length:=by omega
   refine bW (bH (aM (aaa (bW ?_))))
   rw[v,List.take_length] at u
   rw[v,List.drop_length,List.append_nil] at d
   have d:Hs G h (cU 2 307 a c ((m++t).length,eL cY (m++t))::A::L):=d.jN
   have H:(m++t).length=l.length:=by omega
   rw[<-H]
   refine aJd (n:=(m++t).length) (i:=m.length) (e:=307) (cs:=eL cY (m++t)) (by decide) aF5 (by omega) d fun h d=>?_
   have:=F h
   rw[<-u] at this
   refine this ?_
   rw[ij,List.take_left] at d
   exact d.jN
  |succ k R=>
   intro i m h X hm u t q d
   obtain⟨y,J,E⟩:=jP (l:=l) (i:=i) (by omega)
   have g:(m++t++l.drop i).length=l.length:=by rw[List.length_append,q,List.length_drop];omega
   have N:(m++t++l.drop i)[i]?=some y:=by rw[List.getElem?_append_right (by omega),q,Nat.sub_self,E];rfl
   have w:l.take (i+1)=l.take i++[y]:=by rw[List.take_add_one,J];rfl
   refine bW (bH (aM (aad (bW ?_))))
   rw[<-g]
   refine qC (l:=m++t++l.drop i) (a:=a) (c:=c) (enc:=cY) (e:=307) d (by decide) (by omega) (by rw[Int.toNat_natCast];exact N) (bG d fun S h d=>ax d fun h d=>an S d (l:=cY y) rfl rfl ?_)
   refine P y h _ _ (d.front A) fun h d=>bT (dT (cZ (fun D=>?_) (fun D=>?_)))
   .refine bW (aac ?_);have:=R (i+1) m h (by omega) (by omega) (by rw[w,List.filter_append,<-u];simp[D]) (t++[y]) (by simp at q ⊢;omega);rw[g];refine this ?_;rw[show m++(t++[y])++l.drop (i+1)=m++t++l.drop i by rw[E];simp];exact d.to
   .refine bW (an S d (l:=cY y) rfl rfl ?_);refine ch (l:=m++t++l.drop i) (a:=a) (c:=c) (enc:=cY) (e:=307) (y:=y) d (by decide) (by omega) (by omega) fun h d=>?_;cases t with
    |nil=>simp at q;omega
    |cons z t=>
     refine aac (aac ?_)
     have:=R (i+1) (m++[y]) h (by omega) (by simp;omega) (by rw[w,List.filter_append,<-u];simp[D]) (t++[y]) (by simp at q ⊢;omega)
     rw[List.length_append] at this
     rw[g]
     refine this ?_
     have V:(m++z::t++l.drop i).set ((m.length:Int)).toNat y=m++[y]++(t++[y])++l.drop (i+1):=by
      rw[Int.toNat_natCast,E,List.append_assoc,List.set_append_right _ _ (Nat.le_refl _),Nat.sub_self];simp
     rw[<-V]
     exact d.to
 have:=loop (l.length - (j+1)) (j+1) (l.take j) h (by omega) (by rw[List.length_take];omega) ?_ [x] ?_ ?_
 .rw[List.length_take,Nat.min_eq_left (by omega)] at this;rw[Nat.zero_add];exact this
 .rw[List.take_add_one,r,List.filter_append];rw[List.filter_eq_self.2 fun y J=>by rw[U y J];rfl];simp[T]
 .simp;omega
 .rw[show l.take j++[x]++l.drop (j+1)=l by
   obtain⟨Y,ex⟩:=List.getElem?_eq_some_iff.1 r;rw[<-ex,List.append_assoc,List.singleton_append,<-List.drop_eq_getElem_cons Y,List.take_append_drop]]
  exact d
end
section
set_option maxRecDepth 100000
variable {G:Bg} {h:AH} {L L':List HP} {Q:Value->AH->Prop} {C:bM}
theorem Zo {p:Nat} {s:mP} {g:Int} (hb:s.known.length<=100) (d:Hs G h L) [m:Has (jC p C) L s L']
  (e:∀n u,Hs G u (jC p C (s.drop C g).1::L')->Q (.tuple ⟨[I n,I (s.drop C g).2]⟩) u):Cl Pr K 221 [pt p 0 0,I g] h Q:=by
 obtain⟨a,c,d⟩:=jO (m.of d)
 unfold mP.drop at e
 have i:∀{h:AH} {M:List HP},[Sub M L']->Hs G h (aF p 0 (yN C s a c)::ls cY 2 307 a c s.known::M)->Hs G h (jC p C s::L'):=fun d=>(dM p C s (a:=a) (c:=c) d rfl rfl).to
 refine cW (dB d fun q h d=>cS (bX (bW (aU d fun r h d=>am q d rfl (aM (aQ (fun v=>?_) (fun v=>?_)))))))
 .rw[aNa (.inl v)] at e;exact e _ _ (i (M:=aF q 0 [I g]::L') d.to)
 refine am q d rfl (aB (aA (am p d rfl (dE (aQ (fun w=>?_) (fun w=>?_))))))
 .rw[aNa (.inr w)] at e;exact e _ _ (i (M:=aF q 0 [I g]::L') d.to)
 rw[aab] at e
 dsimp only at e
 refine bW (bG d fun p1 h d=>ax (b:=p1) d fun h d=>aB (aA (am p d rfl (bH (aB (aA (am p d rfl ?_)))))))
 have d:=d.cF (aF p1 0 [.func (.func 294) #[] #[pt q 0 0]]) (aF q 0 [I g])
 have d:=d.A9
 have d:=d.cF (sp [aF p1 0 [.func (.func 294) #[] #[pt q 0 0]],aF q 0 [I g]]) (ls cY 2 307 a c s.known)
 refine a8 (my (p:=p1) (q:=q) (g:=g)) (by omega) d fun h d=>?_
 have d:=d.Bq
 refine aB (aA (ay (b:=p) (o:=0) d fun h d=>aU d fun A h d=>aB (aA (aA (am p d rfl ?_)))))
 have z:s.known.filter (fun x=> !pD g x)=s.known.filter (fun x=> !decide (g= -1\/x.1=g)):=rfl
 have tail:∀{h:AH} {M:List HP} (st:Bool),[Sub M L']->Hs G h (aF p 0 [.bool s.rQ,I s.cE,I s.at',.bool st,I C.entries,I C.bU,.slice a (s.known.filter fun x=> !pD g x).length c]::ls cY 2 307 a c (s.known.filter fun x=> !pD g x)::M)->
   st=(s.uL||(s.rQ&&decide (g= -1\/s.cE=g)))->∀n:Int,Q (.tuple ⟨[I n,I 0]⟩) h:=by
  intro h M st _ d t n
  refine e n h ?_
  rw[<-t]
  have:=dM p C {s with known:=s.known.filter fun x=> !pD g x,uL:=st} (a:=a) (c:=c) d rfl rfl
  exact(show Hs G h (jC p C {s with known:=s.known.filter (fun x=> !decide (g= -1\/x.1=g)),uL:=st}::M) from this).to
 refine cZ (fun j=>?_) (fun j=>?_)
 .refine am p1 d rfl (aB (aA (aA (am p d rfl ?_))));refine qJ rfl (cW (am q d rfl (aZ ?_)));have go:∀{b:Bool},b=decide (g= -1\/s.cE=g)->Br (.bool b) (Dd 221 3 [] Q [(pt p 0 0),(I s.known.length)] h) (aY (lN (pt p 0 0)) fun v26=>aY (gO 6 v26) fun v27=>aY (oM h v27) fun v28=>aY (iK v28) fun v29=>aY (tD .sub (I s.known.length) v29) fun v30=>Q (.tuple ⟨[v30,(I 0)]⟩) h):=by
   intro b f;have l:=List.length_filter_le (fun x=> !pD g x) s.known;refine cZ (fun k=>?_) (fun k=>?_);refine bW (aB (aA (aA (ay (b:=p) (o:=0) d fun h d=>aB (aA (am p d rfl (bH (zL (by omega) ?_))))))));refine tail (M:=aF p1 0 [.func (.func 294) #[] #[pt q 0 0]]::aF q 0 [I g]::L') true (d.sg (b:=p) (o:=0) (c:=[.bool s.rQ,I s.cE,I s.at',.bool true,I C.entries,I C.bU,.slice a (s.known.filter fun x=> !pD g x).length c]) rfl).to ?_ _;rw[<-f,k,j];simp;refine aB (aA (am p d rfl (bH (zL (by omega) ?_))));refine tail (M:=aF p1 0 [.func (.func 294) #[] #[pt q 0 0]]::aF q 0 [I g]::L') s.uL (d.sg (b:=p) (o:=0) (c:=[.bool s.rQ,I s.cE,I s.at',.bool s.uL,I C.entries,I C.bU,.slice a (s.known.filter fun x=> !pD g x).length c]) rfl).to ?_ _;rw[<-f,k,j];simp
  refine aQ (fun y=>go (by rw[decide_eq_true (.inl y)])) (fun y=>am q d rfl (aZ (go (decide_eq_decide.2 (by omega)))))
 .have l:=List.length_filter_le (fun x=> !pD g x) s.known;refine aB (aA (am p d rfl (bH (zL (by omega) ?_))));refine tail (M:=aF p1 0 [.func (.func 294) #[] #[pt q 0 0]]::aF q 0 [I g]::L') s.uL (d.sg (b:=p) (o:=0) (c:=[.bool s.rQ,I s.cE,I s.at',.bool s.uL,I C.entries,I C.bU,.slice a (s.known.filter fun x=> !pD g x).length c]) rfl).to ?_ _;rw[j];simp
theorem Z1 {p:Nat} {s:mP} (d:Hs G h L) [m:Has (jC p C) L s L'] (i:∀g a f,Hs G f (jC p C s::L')->Q (.tuple ⟨[g,a,.bool s.rQ]⟩) f):Cl Pr K 52 [pt p 0 0] h Q:=by
 obtain⟨a,c,d⟩:=jO (m.of d);refine cW (cS (bX (aB (aA (aA (am p d rfl (bT (dT (cZ (fun e=>?_) (fun e=>?_))))))))));refine aU d fun r h d=>aB (aA (aA (am p d rfl (aB (aA (aA (am p d rfl ?_)))))));have:=i (I s.cE) (I s.at') h (dM p C s (a:=a) (c:=c) d rfl rfl).to;rw[e] at this;exact this;have:=i (I 0) (I 0) h (dM p C s (a:=a) (c:=c) d rfl rfl);rw[e] at this;exact this
def Rw (q:Nat) (l:List (Int×Int)):HP:=tV fun x:Option Addr×Nat=>sp [aF q 0 [.slice x.1 l.length x.2],ls cY 2 307 x.1 x.2 l]
theorem mv {p:Nat} {s:mP} (hb:s.known.length<=100) (d:Hs G h L) [m:Has (jC p C) L s L'] (i:∀q g,Hs G g (Rw q s.known::jC p C s::L')->Q (.func (.func 129) #[] #[pt q 0 0]) g):Cl Pr K 80 [pt p 0 0] h Q:=by
 obtain⟨a,c,d⟩:=jO (m.of d);refine cW (bG d fun q h d=>Yy (eN (bW (aB (aA (am p d rfl (Dk (a:=a) (c:=c) (l:=s.known) hb d fun e f h d=>ax (b:=q) d fun h d=>i q _ ?_)))))));have d:=dM p C s (a:=a) (c:=c) (d.cF (aF p 0 (yN C s a c)) (ls cY 2 307 a c s.known)) rfl rfl;have d:=d.cF (aF q 0 [.slice e s.known.length f]) (ls cY 2 307 e f s.known);exact Hs.vA (A:=fun x:Option Addr×Nat=>sp [aF q 0 [.slice x.1 s.known.length x.2],ls cY 2 307 x.1 x.2 s.known]) (e,f) d.A9
theorem aC6 {q:Nat} {l:List (Int×Int)} (hb:l.length<=1000):ez Pr K G 129 [] [pt q 0 0] (Rw q l) (l.map cY):=by
 intro k J y L h Q d D r t;obtain⟨⟨a,c⟩,d⟩:=d.yP;have d:=d.Bq;have g:∀{h:AH} {M:List HP},Hs G h (aF q 0 [.slice a l.length c]::ls cY 2 307 a c l::M)->Hs G h (Rw q l::M):=fun d=>Hs.vA (A:=fun x:Option Addr×Nat=>sp [aF q 0 [.slice x.1 l.length x.2],ls cY 2 307 x.1 x.2 l]) (a,c) d.A9;refine cW (am q d rfl (bH ?_));have loop:∀(f i:Nat) (h:AH),i+f=l.length->Hs G h (aF q 0 [.slice a l.length c]::ls cY 2 307 a c l::k ((l.drop i).map cY)::L)->Dd 129 1 [] Q [y,(.slice a l.length c),(I l.length),(I i)] h:=by
  intro f;induction f with
  |zero=>
   intro i h w d;rw[List.drop_of_length_le (by omega)] at d;exact bW (aM (aaa (r _ _ (g d))))
  |succ f E=>
   intro i h w d;obtain⟨x,B,u⟩:=jP (l:=l) (i:=i) (by omega);rw[u,List.map_cons] at d;refine bW (aM (aad (bW (qC (l:=l) (a:=a) (c:=c) (enc:=cY) (e:=307) d (by decide) (by omega) (by rw[Int.toNat_natCast];exact B) (bG d fun m h d=>ax d fun h d=>aA (am m d rfl (aA (am m d rfl ?_))))))));refine(D _ _ h _ (d.front (k (cY x::((l.drop (i+1)).map cY))))).mono fun v p z=>?_;rcases z with⟨rfl,j⟩|⟨rfl,j⟩;exact bT (bX (bW (aac (E (i+1) p (by omega) j.to))));exact bT (eN (t _ _ (g j.to)))
 exact loop l.length 0 h (by omega) (by rw[List.drop_zero];exact d)
end
section
instance:Fx aK.enc 9:=⟨fun _=>rfl,fun _=>rfl⟩
set_option maxRecDepth 100000
variable {G:Bg} {h:AH} {L L':List HP} {Q:Value->AH->Prop} {C:bM}
abbrev rP (a:Option Addr) (c:Nat) (l:List aK):HP:=ls aK.enc 9 211 a c l
def nM (C:bM) (p:Nat) (l:List aK):HP:=tV fun x:Option Addr×Nat=>sp [aF p 0 [I C.depth,.slice x.1 l.length x.2],rP x.1 x.2 l]
theorem zM {p:Nat} {l:List aK} (b:Hs G h (nM C p l::L)):∃a c,Hs G h (aF p 0 [I C.depth,.slice a l.length c]::rP a c l::L):=by
 obtain⟨⟨a,c⟩,b⟩:=b.yP;exact⟨a,c,b.Bq⟩
theorem nA {p:Nat} {l:List aK} {a:Option Addr} {c:Nat} (b:Hs G h (aF p 0 [I C.depth,.slice a l.length c]::rP a c l::L)):Hs G h (nM C p l::L):=
 Hs.vA (A:=fun x:Option Addr×Nat=>sp [aF p 0 [I C.depth,.slice x.1 l.length x.2],rP x.1 x.2 l]) (a,c) b.A9
theorem iw (hC:C.Ok) (a:Hs G h L) (d:∀p b,Hs G b (nM C p []::L)->Q (.tuple ⟨[pt p 0 0,I 0]⟩) b):Cl Pr K 95 [I C.depth] h Q:=by
 have f:1<=C.depth/\C.depth<=16:=hC.2.2.2.2.1;refine cW (aM (aaa (gZ (aaa (aI (c:=[I C.depth,.slice none 0 0]) rfl (dB a fun p h a=>d _ _ ?_))))));have a:=(qZ (enc:=aK.enc) (W:=9) (e:=211) a).jN;exact nA a
theorem xZ {a:Option Addr} {c:Nat} {l:List aK} (hb:l.length<=2^30) (g:Hs G h L) [m:Has (rP a c) L l L']
  (f:∀b c' d,Hs G d (rP b c' l::rP a c l::L')->Q (.slice b l.length c') d):Cl Pr K 232 [.slice a l.length c] h Q:=
 cW (Ax (e:=211) (show Hs G h (cU 9 211 a c (l.length,eL aK.enc l)::L') from m.of g) (by omega) f)
theorem fk {p:Nat} {l:List aK} (g:1<=C.depth/\C.depth<=16) (hb:l.length<=1000) (d:Hs G h L) [m:Has (nM C p) L l L'] (f:∀e,Hs G e (nM C p l::L')->Q (I (C.depth - l.length)) e):Cl Pr K 303 [pt p 0 0] h Q:=by
 obtain⟨a,c,d⟩:=zM (m.of d);refine cW (cS (bX (aU d fun r h d=>aB (aA (am p d rfl (aB (aA (am p d rfl (bH (zL (by omega) (f _ ?_)))))))))));exact nA (a:=a) (c:=c) d.to
theorem aBk {p:Nat} {l:List aK} {n:aK} {a2:Option Addr} {c2:Nat} (j:1<=C.depth/\C.depth<=16) (hb:(l.length:Int)<C.depth) (d:Hs G h L) [m:Has (nM C p) L l L'] {M:List HP} [m2:dQ (rP a2 c2 [n]) L' M] (k:∀i,Hs G i (nM C p (l++[n])::M)->Q (I 0) i):
  Cl Pr K 229 [pt p 0 0,.slice a2 1 c2] h Q:=by
 have d:Hs G h (nM C p l::rP a2 c2 [n]::M):=(m.of d).perm (m2.perm.cons _)
 refine cW (cS (bX (bW (bH (fk (C:=C) (p:=p) (l:=l) j (by omega) d fun h d=>gZ (aaa ?_))))))
 obtain⟨a,c,d⟩:=zM d
 refine bW (aB (aA (am p d rfl ?_)))
 refine rR (enc:=aK.enc) (W:=9) (e:=211) (a:=a) (c:=c) (l:=l) (a2:=a2) (c2:=c2) (l2:=[n]) d (by simp;omega) fun f g h d=>?_
 refine aB (aA (ay (b:=p) (o:=0) d fun h d=>k _ ?_))
 have d:Hs G h (aF p 0 [I C.depth,.slice f (l++[n]).length g]::rP f g (l++[n])::M):=(d.sg (b:=p) (o:=0) (c:=[I C.depth,.slice f (l++[n]).length g]) rfl).to
 exact nA d
theorem Dt {p:Nat} {l:List aK} {w:Int} (hb:l.length<=1000) (g:Hs G h L) [m:Has (nM C p) L l L']
  (h0:l=[]->∀u,Hs G u (nM C p l::L')->Q (.tuple ⟨[.agg ⟨aK.zero.enc⟩,I 12]⟩) u)
  (U:l≠[]->∀u,Hs G u (nM C p (l.eraseIdx (w % (l.length:Int)).toNat)::L')->Q (.tuple ⟨[.agg ⟨(l.getD (w % (l.length:Int)).toNat aK.zero).enc⟩,I 0]⟩) u):Cl Pr K 210 [pt p 0 0,I w] h Q:=by
 obtain⟨a,c,g⟩:=zM (m.of g)
 refine cW (bG (cs:=aK.zero.enc) g fun j h g=>cS (bX (bW (aB (aA (am p g rfl (bH (aZ (aQ (fun H=>?_) (fun H=>?_))))))))))
 .have E:l=[]:=List.eq_nil_of_length_eq_zero (by omega);refine aI (c:=aK.zero.enc) rfl (ax (b:=j) g fun h g=>an j g (l:=aK.zero.enc) rfl rfl (h0 E _ (nA (a:=a) (c:=c) g.to)))
 have E:l≠[]:=fun e=>by rw[e] at H;simp at H
 have V:0<l.length:=List.length_pos_iff.2 E
 refine bW (aB (aA (am p g rfl (bH (aFp (by omega) ?_)))))
 obtain⟨k,r,α⟩:∃k:Nat,(k:Int)=w % (l.length:Int)/\k<l.length:=by
  have B:=Int.emod_nonneg w (b:=(l.length:Int)) (by omega);have S:=Int.emod_lt_of_pos w (b:=(l.length:Int)) (by omega);exact⟨(w % (l.length:Int)).toNat,by omega,by omega⟩
 rw[<-r,Int.toNat_natCast] at U
 have v:∀(M:List HP) (h:AH) (q:Nat),[Sub M L']->Hs G h (aF q 0 aK.zero.enc::aF j 0 aK.zero.enc::aF p 0 [I C.depth,.slice a l.length c]::rP a c l::M)->Dd 210 5 [] Q [(pt p 0 0),(pt j 0 0),(I k),(pt q 0 0),(.slice none 0 0),(.slice a l.length c),(I l.length),(I 0)] h:=by
  intro M h q _ g;have loop:∀(f i:Nat) (b:Option Addr) (d:Nat) (x:aK) (h:AH),i+f=l.length->x=(if i<=k then aK.zero else l.getD k aK.zero)->
    Hs G h (rP b d ((l.take i).eraseIdx k)::aF q 0 x.enc::aF j 0 aK.zero.enc::aF p 0 [I C.depth,.slice a l.length c]::rP a c l::M)->
    Dd 210 5 [] Q [(pt p 0 0),(pt j 0 0),(I k),(pt q 0 0),(.slice b ((l.take i).eraseIdx k).length d),(.slice a l.length c),(I l.length),(I i)] h:=by
   intro f
   induction f with
   |zero=>
    intro i b d x h hi F g
    have N:i=l.length:=by omega
    rw[aab] at F
    subst N
    rw[List.take_length] at g ⊢
    refine bW (aM (aaa (bW (aB (aA (ay (b:=p) (o:=0) g fun h g=>an q g (l:=x.enc) rfl rfl (ax (b:=j) g fun h g=>an j g (l:=x.enc) rfl rfl ?_)))))))
    rw[F]
    refine U E h ?_
    have g:Hs G h (aF p 0 [I C.depth,.slice b (l.eraseIdx k).length d]::rP b d (l.eraseIdx k)::M):=(g.sg (b:=p) (o:=0) (c:=[I C.depth,.slice b (l.eraseIdx k).length d]) rfl).to
    exact(nA g).to
   |succ f X=>
    intro i b d x h hi F g
    obtain⟨y,O,hd⟩:=jP (l:=l) (i:=i) (by omega)
    have A:l.take (i+1)=l.take i++[y]:=by rw[List.take_add_one,O];rfl
    have hle:((l.take i).eraseIdx k).length<=l.length:=by
     have:=List.length_eraseIdx_le (l.take i) k;rw[List.length_take] at this;omega
    refine bW (aM (aad (bW (qC (l:=l) (a:=a) (c:=c) (enc:=aK.enc) (e:=211) g.tail (by decide) (by omega) (by rw[Int.toNat_natCast];exact O) (bG g fun P h g=>ax (b:=P) g fun h g=>aZ (aQ (fun T=>?_) (fun T=>?_)))))))
    .have J:i=k:=by omega
     refine bW (an P g (l:=y.enc) rfl rfl (ax (b:=q) g fun h g=>aac ?_))
     have z:(l.take i).length=i:=by rw[List.length_take];omega
     have B:(l.take (i+1)).eraseIdx k=(l.take i).eraseIdx k:=by
      have S:(l.take i).eraseIdx k=l.take i:=List.eraseIdx_of_length_le (by omega);rw[A,List.eraseIdx_append_of_length_le (by omega),z,show k - i=0 by omega,S];simp
     have:=X (i+1) b d y h (by omega) (by rw[aab,<-J,List.getD_eq_getElem?_getD,O];rfl)
     rw[B] at this
     exact this g.to
    .refine bW (an P g (l:=y.enc) rfl rfl (aI (c:=y.enc) rfl (dA (W:=9) (n:=1) (c:=1) g rfl rfl rfl fun R h g=>?_)));refine rR (enc:=aK.enc) (W:=9) (e:=211) (a:=b) (c:=d) (l:=(l.take i).eraseIdx k) (a2:=some R) (c2:=1) (l2:=[y]) (tO g) (by simp;omega) fun Y Z h g=>aac ?_;have B:(l.take (i+1)).eraseIdx k=(l.take i).eraseIdx k++[y]:=by
      rw[A];by_cases z:k<i;rw[List.eraseIdx_append_of_lt_length (by rw[List.length_take];omega)];rw[List.eraseIdx_of_length_le (by simp;omega),List.eraseIdx_of_length_le (by rw[List.length_take];omega)]
     have:=X (i+1) Y Z x h (by omega) (by rw[F];by_cases e:i<=k;rw[aNa e,aae];rw[aN9 e,aab])
     rw[B] at this
     exact this g.to
  have:=loop l.length 0 none 0 aK.zero h (by omega) (by simp) (by simpa using qZ (enc:=aK.enc) (W:=9) (e:=211) g);simpa using this
 by_cases t:w.tmod (l.length:Int)<0
 .refine aM (bE t (bW (aB (aA (am p g rfl (bH ?_))))));have e:w.tmod (l.length:Int)+(l.length:Int)=(k:Int):=by
   rw[r];rw[Int.tmod_eq_emod] at t ⊢;split at t;have:=Int.emod_nonneg w (b:=(l.length:Int)) (by omega);omega;rename_i D;rw[aN9 D];simp
  refine aac ?_
  rw[e]
  exact bG (cs:=aK.zero.enc) g fun q h g=>aB (aA (am p g rfl (bH (v L' h q g.to))))
 .refine aM (aJ t (bW ?_));have e:w.tmod (l.length:Int)=(k:Int):=by
   rw[r];rw[Int.tmod_eq_emod] at t ⊢;split at t;rename_i D;rw[aNa D];simp;rename_i D;exfalso;have T:=Int.emod_lt_of_pos w (b:=(l.length:Int)) (by omega);have h3:=Int.emod_nonneg w (b:=(l.length:Int)) (by omega);simp at t;omega
  rw[e]
  exact bG (cs:=aK.zero.enc) g fun q h g=>aB (aA (am p g rfl (bH (v L' h q g.to))))
theorem Xg {p:Nat} {l:List aK} (hb:l.length<=1000) (d:Hs G h L) [m:Has (nM C p) L l L'] (j:∀q g,Hs G g (nM C q l::nM C p l::L')->Q (pt q 0 0) g):Cl Pr K 208 [pt p 0 0] h Q:=by
 obtain⟨a,c,d⟩:=zM (m.of d);refine cW (cS (bX (aU d fun r h d=>aB (aA (am p d rfl (aB (aA (am p d rfl (xZ (a:=a) (c:=c) (l:=l) (by omega) d fun e f h d=>?_)))))))));refine aI (c:=[I C.depth,.slice e l.length f]) rfl (zK (i:=10) (r:=r) d rfl rfl fun q h d=>bP cG (bP (aB cG) (bP (aA cG) (bP (am p d rfl eG) (j _ _ ?_)))));have d:Hs G h (aF p 0 [I C.depth,.slice a l.length c]::rP a c l::aF q 0 [I C.depth,.slice e l.length f]::rP e f l::L'):=d.to;have d:=nA d;exact(nA (show Hs G h (aF q 0 [I C.depth,.slice e l.length f]::rP e f l::nM C p l::L') from d.to)).to
def vnR (q:Nat) (l:List aK):HP:=tV fun x:Option Addr×Nat=>sp [aF q 0 [.slice x.1 l.length x.2],rP x.1 x.2 l]
theorem w9 {a:Option Addr} {c:Nat} {l:List aK} (b:Hs G h L) [m:Has (rP a c) L l L'] (e:∀q d,Hs G d (vnR q l::L')->Q (.func (.func 364) #[] #[pt q 0 0]) d):Cl Pr K 310 [.slice a l.length c] h Q:=by
 refine cW (dB (m.of b) fun q h b=>e q h ?_);exact Hs.vA (A:=fun x:Option Addr×Nat=>sp [aF q 0 [.slice x.1 l.length x.2],rP x.1 x.2 l]) (a,c) b.A9
theorem aL9 {q:Nat} {l:List aK} (hb:l.length<=100000):ez Pr K G 364 [] [pt q 0 0] (vnR q l) (l.map fun n=>[.agg ⟨n.enc⟩]):=by
 intro k J y L h Q d D r t;obtain⟨⟨a,c⟩,d⟩:=d.yP;have d:=d.Bq;have g:∀{h:AH} {M:List HP},Hs G h (aF q 0 [.slice a l.length c]::rP a c l::M)->Hs G h (vnR q l::M):=fun d=>Hs.vA (A:=fun x:Option Addr×Nat=>sp [aF q 0 [.slice x.1 l.length x.2],rP x.1 x.2 l]) (a,c) d.A9;refine cW (am q d rfl (bH ?_));have loop:∀(f i:Nat) (h:AH),i+f=l.length->Hs G h (aF q 0 [.slice a l.length c]::rP a c l::k ((l.drop i).map fun n=>[.agg ⟨n.enc⟩])::L)->Dd 364 1 [] Q [y,(.slice a l.length c),(I l.length),(I i)] h:=by
  intro f;induction f with
  |zero=>
   intro i h w d;rw[List.drop_of_length_le (by omega)] at d;exact bW (aM (aaa (r _ _ (g d))))
  |succ f E=>
   intro i h w d;obtain⟨x,B,u⟩:=jP (l:=l) (i:=i) (by omega);rw[u,List.map_cons] at d;refine bW (aM (aad (bW (qC (l:=l) (a:=a) (c:=c) (enc:=aK.enc) (e:=211) d (by decide) (by omega) (by rw[Int.toNat_natCast];exact B) (bG d fun m h d=>ax (b:=m) d fun h d=>an m d (l:=x.enc) rfl rfl ?_)))));refine(D _ _ h _ (d.front (k ([.agg ⟨x.enc⟩]::((l.drop (i+1)).map fun n=>[.agg ⟨n.enc⟩]))))).mono fun v p z=>?_;rcases z with⟨rfl,j⟩|⟨rfl,j⟩;exact bT (bX (bW (aac (E (i+1) p (by omega) j.to))));exact bT (eN (t _ _ (g j.to)))
 exact loop l.length 0 h (by omega) (by rw[List.drop_zero];exact d)
theorem nj {p:Nat} {l:List aK} (hb:l.length<=1000) (d:Hs G h L) [m:Has (nM C p) L l L'] (i:∀q e,Hs G e (vnR q l::nM C p l::L')->Q (.func (.func 364) #[] #[pt q 0 0]) e):Cl Pr K 242 [pt p 0 0] h Q:=by
 obtain⟨a,c,d⟩:=zM (m.of d);refine cW (cS (bX (aB (aA (am p d rfl (xZ (a:=a) (c:=c) (l:=l) (by omega) d fun f g h d=>w9 (a:=f) (c:=g) (l:=l) d fun q h d=>i q h ?_))))));have d:Hs G h (aF p 0 [I C.depth,.slice a l.length c]::rP a c l::vnR q l::L'):=d.to;exact(nA d).jN
end
end Go.Proofs.YtcjlkjeeifemhaaGreatDoor
namespace Go.Proofs.YtcjlkjeeifemhaaGreatDoor
open Go Go.Ab Go.Hm Go.At Go.Mc Go.Nt
section
theorem aIt {k:Nat} (h:1<=k/\k<14):∃a,Dz k=1::a:=by
 rcases k14 h.2 with rfl|rfl|rfl|rfl|rfl|rfl|rfl|rfl|rfl|rfl|rfl|rfl|rfl|rfl;omega;all_goals exact⟨_,rfl⟩
theorem ye {C:bM} {n:aK} (h:An C n=0):Sw n.kind/\0<=n.core/\n.core<C.aG:=by
 unfold An at h;split at h;rename_i b;split at h;split at h;rename_i d;refine⟨b,?_⟩;unfold Sw at b;obtain⟨g,e⟩:=aIt (k:=n.kind.toNat) (by omega);rw[e] at d;have a:=d.1;unfold qN at a;split at a;rename_i f;exact f;cases a;cases h;cases h;cases h
theorem wi {k:Nat} (h:k<14):0<=Ol k/\Ol k<4:=by
 rcases k14 h with rfl|rfl|rfl|rfl|rfl|rfl|rfl|rfl|rfl|rfl|rfl|rfl|rfl|rfl<;>decide
theorem Jv {n:aK} (h:Sw n.kind):fV n<4/\Ol n.kind.toNat=(fV n:Int):=by
 unfold Sw at h;have:=wi (k:=n.kind.toNat) (by omega);unfold fV;omega
theorem Lq {_α:Type} {n j:Nat} {g:Nat->Value} {v:Value} (d:j<n):dH ((List.range n).map g) j [v]=(List.range n).map fun k=>if k=j then v else g k:=by
 rw[<-qQ _ _ _ (by simp;omega)];apply List.ext_getElem?;intro i;unfold bV;simp only[List.length_singleton];by_cases h:i<j;rw[List.append_assoc,List.getElem?_append_left (by simp;omega),List.getElem?_take_of_lt h,List.getElem?_map,List.getElem?_map];by_cases a:i<n;rw[List.getElem?_range a];simp;intro e;omega;omega;rw[List.append_assoc,List.getElem?_append_right (by simp;omega)];have f:min j n=j:=by omega
 simp only[List.length_take,List.length_map,List.length_range,f];by_cases b:i=j;subst b;rw[List.getElem?_append_left (by simp),Nat.sub_self,List.getElem?_map,List.getElem?_range d];simp;rw[List.getElem?_append_right (by rw[List.length_singleton];omega),List.getElem?_drop,List.length_singleton,show j+1+(i - j - 1)=i by omega,List.getElem?_map,List.getElem?_map];by_cases a:i<n;rw[List.getElem?_range a];simp[b];rw[List.getElem?_eq_none (by simp;omega)];rfl
set_option maxRecDepth 100000
variable {G:Bg} {h:AH} {L L' M:List HP} {Q:Value->AH->Prop} {C:bM}
def lH (C:bM) (pl:Nat->Nat):List Value:=C.enc++(List.range 16).map fun k=>if k<4*C.aG.toNat then pt (pl k) 0 0 else .pointer none
theorem aA6 {pl:Nat->Nat} {k:Nat} (a:k<16):(lH C pl)[7+k]?=some (if k<4*C.aG.toNat then pt (pl k) 0 0 else .pointer none):=by
 unfold lH;rw[List.getElem?_append_right (by simp[bM.enc])];simp[bM.enc,List.getElem?_range a]
abbrev nL (C:bM) (pl:Nat->Nat) (F:fM) (k:Nat):HP:=nM C (pl k) (F (k/4) (k % 4))
def lU (C:bM) (f:Nat) (F:fM):HP:=tV fun pl:Nat->Nat=>sp [aF f 0 (lH C pl),dC (4*C.aG.toNat) (nL C pl F)]
theorem zP {f:Nat} {F:fM} (a:Hs G h (lU C f F::L)):∃pl,Hs G h (aF f 0 (lH C pl)::dC (4*C.aG.toNat) (nL C pl F)::L):=by
 obtain⟨pl,a⟩:=a.yP;exact⟨pl,a.Bq⟩
theorem lK {f:Nat} {F:fM} {pl:Nat->Nat} (a:Hs G h (aF f 0 (lH C pl)::dC (4*C.aG.toNat) (nL C pl F)::L)):Hs G h (lU C f F::L):=
 Hs.vA (A:=fun pl:Nat->Nat=>sp [aF f 0 (lH C pl),dC (4*C.aG.toNat) (nL C pl F)]) pl a.A9
def Yi (C:bM) (pl:Nat->Nat) (F:fM) (k:Nat):HP:=sp (((List.range (4*C.aG.toNat)).erase k).map (nL C pl F))
theorem Dq {F:fM} {pl:Nat->Nat} {k:Nat} (a:k<4*C.aG.toNat) (b:Hs G h (dC (4*C.aG.toNat) (nL C pl F)::L)):Hs G h (nM C (pl k) (F (k/4) (k % 4))::Yi C pl F k::L):=b.mD k a
theorem ub {F:fM} {k j:Nat} {l:List aK}:(F.set (k/4) (k % 4) l) (j/4) (j % 4)=if j=k then l else F (j/4) (j % 4):=by
 unfold fM.set;by_cases e:j=k;subst e;simp;rw[aN9 e,aab]
theorem Kl {F:fM} {pl:Nat->Nat} {k:Nat} {l:List aK} (b:k<4*C.aG.toNat) (d:Hs G h (nM C (pl k) l::Yi C pl F k::L)):Hs G h (dC (4*C.aG.toNat) (nL C pl (F.set (k/4) (k % 4) l))::L):=by
 refine Hs.aEb (i:=k) (f:=nL C pl F) (g:=nL C pl (F.set (k/4) (k % 4) l)) b (fun j a=>?_) ?_;unfold nL;rw[ub,aN9 a];have e:nL C pl (F.set (k/4) (k % 4) l) k=nM C (pl k) l:=by unfold nL;rw[ub,aNa rfl]
 rw[e];exact d
theorem xF {f:Nat} {pl:Nat->Nat} {x y:Int} (hC:C.Ok) (d:Hs G h L) [m:Has (aF f 0) L (lH C pl) L'] (a:Q (if(0<=x/\x<C.aG)/\(0<=y/\y<4) then pt (pl (x.toNat*4+y.toNat)) 0 0 else .pointer none) h):Cl Pr K 209 [pt f 0 0,I x,I y] h Q:=by
 have k:=hC.1;refine cW (cS (bX (aM (aQ (fun e=>?_) (fun e=>aB (aA (aA (am f d rfl (dE (aQ (fun g=>?_) (fun g=>aM (aQ (fun i=>?_) (fun i=>dE (aQ (fun j=>?_) (fun j=>?_)))))))))))))));rw[aab] at a;exact a;rw[aab] at a;exact a;rw[aab] at a;exact a;rw[aab] at a;exact a;rw[aae] at a;refine aB (aA (iI (by omega) (by omega) (iI (by omega) (by omega) (am f d (v:=pt (pl (x.toNat*4+y.toNat)) 0 0) ?_ a))));rw[show 0+7+x.toNat*4+y.toNat*1=7+(x.toNat*4+y.toNat) by omega,aA6 (by omega),aae]
theorem qq {f:Nat} {F:fM} {pl:Nat->Nat} {x:Nat} {y:Nat} (hC:C.Ok) (k:∀c w,(F c w).length<=1000) (p:(x:Int)<C.aG) (q:y<4) (a:Hs G h (aF f 0 (lH C pl)::dC (4*C.aG.toNat) (nL C pl F)::L)) (m:∀i,Hs G i (aF f 0 (lH C pl)::dC (4*C.aG.toNat) (nL C pl F)::L)->Q (I (C.depth - (F x y).length)) i):Cl Pr K 228 [pt f 0 0,I x,I y] h Q:=by
 have o:=hC.1;have d:1<=C.depth/\C.depth<=16:=hC.2.2.2.2.1;refine cW (xF (C:=C) (pl:=pl) hC a ?_);rw[aae];have b:x*4+y<4*C.aG.toNat:=by omega
 have a:=Dq b a.jN;rw[show((x:Int)).toNat*4+((y:Int)).toNat=x*4+y by omega];refine fk (C:=C) (l:=F ((x*4+y)/4) ((x*4+y) % 4)) d (k _ _) a fun h a=>?_;have g:(x*4+y)/4=x/\(x*4+y) % 4=y:=by omega
 have:=m h;rw[g.1,g.2];refine this ?_;have a:=Kl b a;have j:F.set ((x*4+y)/4) ((x*4+y) % 4) (F ((x*4+y)/4) ((x*4+y) % 4))=F:=by
  funext c w;unfold fM.set;split;rename_i e;rw[e.1,e.2];rfl
 rw[j] at a;exact a.jN
def vZ (F a:fM):List Value:=(List.range 16).map fun k=>I (((a (k/4) (k % 4)).length:Int) - (F (k/4) (k % 4)).length)
theorem qy {F a:fM} {x y:Nat} (d:x<4) (e:y<4):(vZ F a)[x*4+y]?=some (I (((a x y).length:Int) - (F x y).length)):=by
 unfold vZ;rw[List.getElem?_map,List.getElem?_range (by omega)];have b:(x*4+y)/4=x/\(x*4+y) % 4=y:=by omega
 simp[b.1,b.2]
theorem zp {F a:fM} {n:aK} {x y:Nat} (f:n.core.toNat=x) (i:fV n=y) (g:x<4) (j:y<4):dH (vZ F a) (x*4+y) [I (((a x y).length:Int) - (F x y).length+1)]=vZ F (a.put n):=by
 unfold vZ;rw[Lq (_α:=Nat) (by omega)];refine List.map_congr_left fun k d=>?_;have d:=List.mem_range.1 d;unfold fM.put;rw[f,i];by_cases e:k=x*4+y;subst e;have b:(x*4+y)/4=x/\(x*4+y) % 4=y:=by omega
 rw[aNa rfl,b.1,b.2];unfold fM.set;rw[aNa ⟨rfl,rfl⟩,List.length_append];congr 1;simp;omega;rw[aN9 e];unfold fM.set;rw[aab]
end
end Go.Proofs.YtcjlkjeeifemhaaGreatDoor
end
