/- A part of the proof. -/
import Derived.Test.YtmhapehobfnoiaaGreatDoorS12
import Derived.Test.YtmhapehobfnoiaaGreatDoorS10
import Derived.Test.YtmhapehobfnoiaaGreatDoorS9
import Derived.Test.YtmhapehobfnoiaaGreatDoorS11
section
open Go Go.Ab
attribute [local irreducible] bG Br ld1 uF uG B4 mA uX lK P3 hQ mY qG pZ pS lH zE uE Uh Ty Oa Mr Rk Ol Md Ny Rn lN oT sF iV copyV iJ wV Tu U3 Gk kX Mb Qq Sb nL rR xM zA Cl zB Ro sM sC jS fL setLoop cH
namespace Go.Proofs.YtmhapehobfnoiaaGreatDoor
open Go Go.Ab Go.Hm Go.At Go.Mc
section
instance:Fx aH.enc 9:=⟨fun _=>rfl,fun _=>rfl⟩
set_option maxRecDepth 100000
variable {G:Bg} {h:AH} {L L':List HP} {Q:Value->AH->Prop} {C:bN}
abbrev hJ (a:Option Addr) (c:Nat) (l:List aH):HP:=ls aH.enc 9 162 a c l
def oR (C:bN) (p:Nat) (l:List aH):HP:=sB fun x:Option Addr×Nat=>sp [aE p 0 [I C.depth,.slice x.1 l.length x.2],hJ x.1 x.2 l]
theorem zX {p:Nat} {l:List aH} (b:Hs G h (oR C p l::L)):∃a c,Hs G h (aE p 0 [I C.depth,.slice a l.length c]::hJ a c l::L):=by
 obtain⟨⟨a,c⟩,b⟩:=b.tW;exact⟨a,c,b.zH⟩
theorem oN {p:Nat} {l:List aH} {a:Option Addr} {c:Nat} (b:Hs G h (aE p 0 [I C.depth,.slice a l.length c]::hJ a c l::L)):Hs G h (oR C p l::L):=
 Hs.qU (A:=fun x:Option Addr×Nat=>sp [aE p 0 [I C.depth,.slice x.1 l.length x.2],hJ x.1 x.2 l]) (a,c) b.yS
theorem bz (hC:C.Ok) (a:Hs G h L) (d:∀p b,Hs G b (oR C p []::L)->Q (.tuple ⟨[pt p 0 0,I 0]⟩) b):Cl Pr K 97 [I C.depth] h Q:=by
 have f:1<=C.depth/\C.depth<=16:=hC.2.2.2.2.1;refine cW (aS (aaa (mR (aaa (aN (c:=[I C.depth,.slice none 0 0]) rfl (dF a fun p h a=>d _ _ ?_))))));have a:=(mF (enc:=aH.enc) (W:=9) (e:=162) a).lU;exact oN a
theorem yJ {a:Option Addr} {c:Nat} {l:List aH} (hb:l.length<=2^30) (g:Hs G h L) [m:Has (hJ a c) L l L']
  (f:∀b c' d,Hs G d (hJ b c' l::hJ a c l::L')->Q (.slice b l.length c') d):Cl Pr K 123 [.slice a l.length c] h Q:=
 cW (Bv (e:=162) (show Hs G h (dH 9 162 a c (l.length,eL aH.enc l)::L') from m.of g) (by omega) f)
theorem Zt {p:Nat} {l:List aH} (g:1<=C.depth/\C.depth<=16) (hb:l.length<=1000) (d:Hs G h L) [m:Has (oR C p) L l L'] (f:∀e,Hs G e (oR C p l::L')->Q (I (C.depth - l.length)) e):Cl Pr K 291 [pt p 0 0] h Q:=by
 obtain⟨a,c,d⟩:=zX (m.of d);refine cW (dD (bV (bE d fun r h d=>aB (aA (am p d rfl (aB (aA (am p d rfl (bP (xP (by omega) (f _ ?_)))))))))));exact oN (a:=a) (c:=c) d.to
theorem yp {p:Nat} {l:List aH} {n:aH} {a2:Option Addr} {c2:Nat} (k:1<=C.depth/\C.depth<=16) (hb:(l.length:Int)<C.depth) (d:Hs G h L) [m:Has (oR C p) L l L'] {M:List HP} [m2:dT (hJ a2 c2 [n]) L' M] (q:∀j,Hs G j (oR C p (l++[n])::M)->Q (I 0) j):
  Cl Pr K 231 [pt p 0 0,.slice a2 1 c2] h Q:=by
 have d:Hs G h (oR C p l::hJ a2 c2 [n]::M):=(m.of d).perm (m2.perm.cons _)
 refine cW (dD (bV (bW (bP (Zt (C:=C) (p:=p) (l:=l) k (by omega) d fun h d=>mR (aaa ?_))))))
 obtain⟨a,c,d⟩:=zX d
 refine bW (aB (aA (am p d rfl ?_)))
 refine kL (enc:=aH.enc) (W:=9) (e:=162) (a:=a) (c:=c) (l:=l) (a2:=a2) (c2:=c2) (l2:=[n]) d (by simp;omega) fun f g h d=>?_
 refine aB (aA (ay (b:=p) (o:=0) d fun h d=>q _ ?_))
 have d:Hs G h (aE p 0 [I C.depth,.slice f (l++[n]).length g]::hJ f g (l++[n])::M):=(d.sg (b:=p) (o:=0) (c:=[I C.depth,.slice f (l++[n]).length g]) rfl).to
 exact oN d
theorem Dw {p:Nat} {l:List aH} {w:Int} (hb:l.length<=1000) (g:Hs G h L) [m:Has (oR C p) L l L']
  (h0:l=[]->∀u,Hs G u (oR C p l::L')->Q (.tuple ⟨[.agg ⟨aH.zero.enc⟩,I 12]⟩) u)
  (U:l≠[]->∀u,Hs G u (oR C p (l.eraseIdx (w % (l.length:Int)).toNat)::L')->Q (.tuple ⟨[.agg ⟨(l.getD (w % (l.length:Int)).toNat aH.zero).enc⟩,I 0]⟩) u):Cl Pr K 214 [pt p 0 0,I w] h Q:=by
 obtain⟨a,c,g⟩:=zX (m.of g)
 refine cW (bM (cs:=aH.zero.enc) g fun j h g=>dD (bV (bW (aB (aA (am p g rfl (bP (bJ (aZ (fun H=>?_) (fun H=>?_))))))))))
 .have E:l=[]:=List.eq_nil_of_length_eq_zero (by omega);refine aN (c:=aH.zero.enc) rfl (ax (b:=j) g fun h g=>an j g (l:=aH.zero.enc) rfl rfl (h0 E _ (oN (a:=a) (c:=c) g.to)))
 have E:l≠[]:=fun e=>by rw[e] at H;simp at H
 have V:0<l.length:=List.length_pos_iff.2 E
 refine bW (aB (aA (am p g rfl (bP (aE7 (by omega) ?_)))))
 obtain⟨k,r,α⟩:∃k:Nat,(k:Int)=w % (l.length:Int)/\k<l.length:=by
  have B:=Int.emod_nonneg w (b:=(l.length:Int)) (by omega);have S:=Int.emod_lt_of_pos w (b:=(l.length:Int)) (by omega);exact⟨(w % (l.length:Int)).toNat,by omega,by omega⟩
 rw[<-r,Int.toNat_natCast] at U
 have v:∀(M:List HP) (h:AH) (q:Nat),[Sub M L']->Hs G h (aE q 0 aH.zero.enc::aE j 0 aH.zero.enc::aE p 0 [I C.depth,.slice a l.length c]::hJ a c l::M)->Dd 214 5 [] Q [(pt p 0 0),(pt j 0 0),(I k),(pt q 0 0),(.slice none 0 0),(.slice a l.length c),(I l.length),(I 0)] h:=by
  intro M h q _ g;have loop:∀(f i:Nat) (b:Option Addr) (d:Nat) (x:aH) (h:AH),i+f=l.length->x=(if i<=k then aH.zero else l.getD k aH.zero)->
    Hs G h (hJ b d ((l.take i).eraseIdx k)::aE q 0 x.enc::aE j 0 aH.zero.enc::aE p 0 [I C.depth,.slice a l.length c]::hJ a c l::M)->
    Dd 214 5 [] Q [(pt p 0 0),(pt j 0 0),(I k),(pt q 0 0),(.slice b ((l.take i).eraseIdx k).length d),(.slice a l.length c),(I l.length),(I i)] h:=by
   intro f
   induction f with
   |zero=>
    intro i b d x h hi F g
    have N:i=l.length:=by omega
    rw[aab] at F
    subst N
    rw[List.take_length] at g ⊢
    refine bW (aS (aaa (bW (aB (aA (ay (b:=p) (o:=0) g fun h g=>an q g (l:=x.enc) rfl rfl (ax (b:=j) g fun h g=>an j g (l:=x.enc) rfl rfl ?_)))))))
    rw[F]
    refine U E h ?_
    have g:Hs G h (aE p 0 [I C.depth,.slice b (l.eraseIdx k).length d]::hJ b d (l.eraseIdx k)::M):=(g.sg (b:=p) (o:=0) (c:=[I C.depth,.slice b (l.eraseIdx k).length d]) rfl).to
    exact(oN g).to
   |succ f X=>
    intro i b d x h hi F g
    obtain⟨y,O,hd⟩:=mB (l:=l) (i:=i) (by omega)
    have A:l.take (i+1)=l.take i++[y]:=by rw[List.take_add_one,O];rfl
    have hle:((l.take i).eraseIdx k).length<=l.length:=by
     have:=List.length_eraseIdx_le (l.take i) k;rw[List.length_take] at this;omega
    refine bW (aS (aae (bW (jV (l:=l) (a:=a) (c:=c) (enc:=aH.enc) (e:=162) g.tail (by decide) (by omega) (by rw[Int.toNat_natCast];exact O) (bM g fun P h g=>ax (b:=P) g fun h g=>bJ (aZ (fun T=>?_) (fun T=>?_)))))))
    .have J:i=k:=by omega
     refine bW (an P g (l:=y.enc) rfl rfl (ax (b:=q) g fun h g=>aad ?_))
     have z:(l.take i).length=i:=by rw[List.length_take];omega
     have B:(l.take (i+1)).eraseIdx k=(l.take i).eraseIdx k:=by
      have S:(l.take i).eraseIdx k=l.take i:=List.eraseIdx_of_length_le (by omega);rw[A,List.eraseIdx_append_of_length_le (by omega),z,show k - i=0 by omega,S];simp
     have:=X (i+1) b d y h (by omega) (by rw[aab,<-J,List.getD_eq_getElem?_getD,O];rfl)
     rw[B] at this
     exact this g.to
    .refine bW (an P g (l:=y.enc) rfl rfl (aN (c:=y.enc) rfl (dK (W:=9) (n:=1) (c:=1) g rfl rfl rfl fun R h g=>?_)));refine kL (enc:=aH.enc) (W:=9) (e:=162) (a:=b) (c:=d) (l:=(l.take i).eraseIdx k) (a2:=some R) (c2:=1) (l2:=[y]) (nX g) (by simp;omega) fun Y Z h g=>aad ?_;have B:(l.take (i+1)).eraseIdx k=(l.take i).eraseIdx k++[y]:=by
      rw[A];by_cases z:k<i;rw[List.eraseIdx_append_of_lt_length (by rw[List.length_take];omega)];rw[List.eraseIdx_of_length_le (by simp;omega),List.eraseIdx_of_length_le (by rw[List.length_take];omega)]
     have:=X (i+1) Y Z x h (by omega) (by rw[F];by_cases e:i<=k;rw[aKj e,aac];rw[aKi e,aab])
     rw[B] at this
     exact this g.to
  have:=loop l.length 0 none 0 aH.zero h (by omega) (by simp) (by simpa using mF (enc:=aH.enc) (W:=9) (e:=162) g);simpa using this
 by_cases t:w.tmod (l.length:Int)<0
 .refine aS (bS t (bW (aB (aA (am p g rfl (bP ?_))))));have e:w.tmod (l.length:Int)+(l.length:Int)=(k:Int):=by
   rw[r];rw[Int.tmod_eq_emod] at t ⊢;split at t;have:=Int.emod_nonneg w (b:=(l.length:Int)) (by omega);omega;rename_i D;rw[aKi D];simp
  refine aad ?_
  rw[e]
  exact bM (cs:=aH.zero.enc) g fun q h g=>aB (aA (am p g rfl (bP (v L' h q g.to))))
 .refine aS (aJ t (bW ?_));have e:w.tmod (l.length:Int)=(k:Int):=by
   rw[r];rw[Int.tmod_eq_emod] at t ⊢;split at t;rename_i D;rw[aKj D];simp;rename_i D;exfalso;have T:=Int.emod_lt_of_pos w (b:=(l.length:Int)) (by omega);have h3:=Int.emod_nonneg w (b:=(l.length:Int)) (by omega);simp at t;omega
  rw[e]
  exact bM (cs:=aH.zero.enc) g fun q h g=>aB (aA (am p g rfl (bP (v L' h q g.to))))
theorem Vn {p:Nat} {l:List aH} (hb:l.length<=1000) (d:Hs G h L) [m:Has (oR C p) L l L'] (j:∀q g,Hs G g (oR C q l::oR C p l::L')->Q (pt q 0 0) g):Cl Pr K 125 [pt p 0 0] h Q:=by
 obtain⟨a,c,d⟩:=zX (m.of d);refine cW (dD (bV (bE d fun r h d=>aB (aA (am p d rfl (aB (aA (am p d rfl (yJ (a:=a) (c:=c) (l:=l) (by omega) d fun e f h d=>?_)))))))));refine aN (c:=[I C.depth,.slice e l.length f]) rfl (Ai (i:=10) (r:=r) d rfl rfl fun q h d=>cZ dJ (cZ (aB dJ) (cZ (aA dJ) (cZ (am p d rfl jA) (j _ _ ?_)))));have d:Hs G h (aE p 0 [I C.depth,.slice a l.length c]::hJ a c l::aE q 0 [I C.depth,.slice e l.length f]::hJ e f l::L'):=d.to;have d:=oN d;exact(oN (show Hs G h (aE q 0 [I C.depth,.slice e l.length f]::hJ e f l::oR C p l::L') from d.to)).to
def pz (q:Nat) (l:List aH):HP:=sB fun x:Option Addr×Nat=>sp [aE q 0 [.slice x.1 l.length x.2],hJ x.1 x.2 l]
theorem me {a:Option Addr} {c:Nat} {l:List aH} (b:Hs G h L) [m:Has (hJ a c) L l L'] (e:∀q d,Hs G d (pz q l::L')->Q (.func (.func 248) #[] #[pt q 0 0]) d):Cl Pr K 185 [.slice a l.length c] h Q:=by
 refine cW (dF (m.of b) fun q h b=>e q h ?_);exact Hs.qU (A:=fun x:Option Addr×Nat=>sp [aE q 0 [.slice x.1 l.length x.2],hJ x.1 x.2 l]) (a,c) b.yS
theorem aIh {q:Nat} {l:List aH} (hb:l.length<=100000):Xn Pr K G 248 [] [pt q 0 0] (pz q l) (l.map fun n=>[.agg ⟨n.enc⟩]):=by
 intro k J y L h Q d F u w;obtain⟨⟨a,c⟩,d⟩:=d.tW;have d:=d.zH;have g:∀{h:AH} {M:List HP},Hs G h (aE q 0 [.slice a l.length c]::hJ a c l::M)->Hs G h (pz q l::M):=fun d=>Hs.qU (A:=fun x:Option Addr×Nat=>sp [aE q 0 [.slice x.1 l.length x.2],hJ x.1 x.2 l]) (a,c) d.yS;refine cW (am q d rfl (bP ?_));have loop:∀(f i:Nat) (h:AH),i+f=l.length->Hs G h (aE q 0 [.slice a l.length c]::hJ a c l::k ((l.drop i).map fun n=>[.agg ⟨n.enc⟩])::L)->Dd 248 1 [] Q [y,(.slice a l.length c),(I l.length),(I i)] h:=by
  intro f;induction f with
  |zero=>
   intro i h B d;rw[List.drop_of_length_le (by omega)] at d;exact bW (aS (aaa (u _ _ (g d))))
  |succ f H=>
   intro i h B d;obtain⟨x,E,z⟩:=mB (l:=l) (i:=i) (by omega);rw[z,List.map_cons] at d;refine bW (aS (aae (bW (jV (l:=l) (a:=a) (c:=c) (enc:=aH.enc) (e:=162) d (by decide) (by omega) (by rw[Int.toNat_natCast];exact E) (bM d fun r h d=>ax (b:=r) d fun h d=>an r d (l:=x.enc) rfl rfl ?_)))));refine(F _ _ h _ (d.front (k ([.agg ⟨x.enc⟩]::((l.drop (i+1)).map fun n=>[.agg ⟨n.enc⟩]))))).mono fun v t D=>?_;rcases D with⟨rfl,j⟩|⟨rfl,j⟩;exact bX (bV (bW (aad (H (i+1) t (by omega) j.to))));exact bX (eZ (w _ _ (g j.to)))
 exact loop l.length 0 h (by omega) (by rw[List.drop_zero];exact d)
theorem dp {p:Nat} {l:List aH} (hb:l.length<=1000) (d:Hs G h L) [m:Has (oR C p) L l L'] (j:∀q e,Hs G e (pz q l::oR C p l::L')->Q (.func (.func 248) #[] #[pt q 0 0]) e):Cl Pr K 142 [pt p 0 0] h Q:=by
 obtain⟨a,c,d⟩:=zX (m.of d);refine cW (dD (bV (aB (aA (am p d rfl (yJ (a:=a) (c:=c) (l:=l) (by omega) d fun f g h d=>me (a:=f) (c:=g) (l:=l) d fun q h d=>j q h ?_))))));have d:Hs G h (aE p 0 [I C.depth,.slice a l.length c]::hJ a c l::pz q l::L'):=d.to;exact(oN d).lU
end
end Go.Proofs.YtmhapehobfnoiaaGreatDoor
namespace Go.Proofs.YtmhapehobfnoiaaGreatDoor
open Go Go.Ab Go.Hm Go.At Go.Mc Go.Nt
section
theorem aH6 {k:Nat} (h:1<=k/\k<14):∃a,Cs k=1::a:=by
 rcases k14 h.2 with rfl|rfl|rfl|rfl|rfl|rfl|rfl|rfl|rfl|rfl|rfl|rfl|rfl|rfl;omega;all_goals exact⟨_,rfl⟩
theorem wy {C:bN} {n:aH} (h:nC C n=0):Ms n.kind/\0<=n.core/\n.core<C.aD:=by
 unfold nC at h;split at h;rename_i b;split at h;split at h;rename_i c;refine⟨b,?_⟩;unfold Ms at b;obtain⟨f,d⟩:=aH6 (k:=n.kind.toNat) (by omega);rw[d] at c;have a:=c.1;unfold mE at a;split at a;rename_i e;exact e;cases a;cases h;cases h;cases h
theorem vb {k:Nat} (h:k<14):0<=Kd k/\Kd k<4:=by
 rcases k14 h with rfl|rfl|rfl|rfl|rfl|rfl|rfl|rfl|rfl|rfl|rfl|rfl|rfl|rfl<;>decide
theorem zY {n:aH} (h:Ms n.kind):fR n<4/\Kd n.kind.toNat=(fR n:Int):=by
 unfold Ms at h;have:=vb (k:=n.kind.toNat) (by omega);unfold fR;omega
theorem J8 {_α:Type} {n j:Nat} {g:Nat->Value} {v:Value} (c:j<n):dS ((List.range n).map g) j [v]=(List.range n).map fun k=>if k=j then v else g k:=by
 rw[<-rU _ _ _ (by simp;omega)];apply List.ext_getElem?;intro i;unfold cF;simp only[List.length_singleton];by_cases h:i<j;rw[List.append_assoc,List.getElem?_append_left (by simp;omega),List.getElem?_take_of_lt h,List.getElem?_map,List.getElem?_map];by_cases a:i<n;rw[List.getElem?_range a];simp;intro e;omega;omega;rw[List.append_assoc,List.getElem?_append_right (by simp;omega)];have d:min j n=j:=by omega
 simp only[List.length_take,List.length_map,List.length_range,d];by_cases b:i=j;subst b;rw[List.getElem?_append_left (by simp),Nat.sub_self,List.getElem?_map,List.getElem?_range c];simp;rw[List.getElem?_append_right (by rw[List.length_singleton];omega),List.getElem?_drop,List.length_singleton,show j+1+(i - j - 1)=i by omega,List.getElem?_map,List.getElem?_map];by_cases a:i<n;rw[List.getElem?_range a];simp[b];rw[List.getElem?_eq_none (by simp;omega)];rfl
set_option maxRecDepth 100000
variable {G:Bg} {h:AH} {L L' M:List HP} {Q:Value->AH->Prop} {C:bN}
def mO (C:bN) (pl:Nat->Nat):List Value:=C.enc++(List.range 16).map fun k=>if k<4*C.aD.toNat then pt (pl k) 0 0 else .pointer none
theorem yx {pl:Nat->Nat} {k:Nat} (a:k<16):(mO C pl)[7+k]?=some (if k<4*C.aD.toNat then pt (pl k) 0 0 else .pointer none):=by
 unfold mO;rw[List.getElem?_append_right (by simp[bN.enc])];simp[bN.enc,List.getElem?_range a]
abbrev oQ (C:bN) (pl:Nat->Nat) (F:fM) (k:Nat):HP:=oR C (pl k) (F (k/4) (k % 4))
def oD (C:bN) (f:Nat) (F:fM):HP:=sB fun pl:Nat->Nat=>sp [aE f 0 (mO C pl),dE (4*C.aD.toNat) (oQ C pl F)]
theorem Aw {f:Nat} {F:fM} (a:Hs G h (oD C f F::L)):∃pl,Hs G h (aE f 0 (mO C pl)::dE (4*C.aD.toNat) (oQ C pl F)::L):=by
 obtain⟨pl,a⟩:=a.tW;exact⟨pl,a.zH⟩
theorem mK {f:Nat} {F:fM} {pl:Nat->Nat} (a:Hs G h (aE f 0 (mO C pl)::dE (4*C.aD.toNat) (oQ C pl F)::L)):Hs G h (oD C f F::L):=
 Hs.qU (A:=fun pl:Nat->Nat=>sp [aE f 0 (mO C pl),dE (4*C.aD.toNat) (oQ C pl F)]) pl a.yS
def Wt (C:bN) (pl:Nat->Nat) (F:fM) (k:Nat):HP:=sp (((List.range (4*C.aD.toNat)).erase k).map (oQ C pl F))
theorem Dt {F:fM} {pl:Nat->Nat} {k:Nat} (a:k<4*C.aD.toNat) (b:Hs G h (dE (4*C.aD.toNat) (oQ C pl F)::L)):Hs G h (oR C (pl k) (F (k/4) (k % 4))::Wt C pl F k::L):=b.kO k a
theorem td {F:fM} {k j:Nat} {l:List aH}:(F.set (k/4) (k % 4) l) (j/4) (j % 4)=if j=k then l else F (j/4) (j % 4):=by
 unfold fM.set;by_cases e:j=k;subst e;simp;rw[aKi e,aab]
theorem Ka {F:fM} {pl:Nat->Nat} {k:Nat} {l:List aH} (b:k<4*C.aD.toNat) (c:Hs G h (oR C (pl k) l::Wt C pl F k::L)):Hs G h (dE (4*C.aD.toNat) (oQ C pl (F.set (k/4) (k % 4) l))::L):=by
 refine Hs.aAz (i:=k) (f:=oQ C pl F) (g:=oQ C pl (F.set (k/4) (k % 4) l)) b (fun j a=>?_) ?_;unfold oQ;rw[td,aKi a];have e:oQ C pl (F.set (k/4) (k % 4) l) k=oR C (pl k) l:=by unfold oQ;rw[td,aKj rfl]
 rw[e];exact c
theorem xK {f:Nat} {pl:Nat->Nat} {x y:Int} (hC:C.Ok) (c:Hs G h L) [m:Has (aE f 0) L (mO C pl) L'] (a:Q (if(0<=x/\x<C.aD)/\(0<=y/\y<4) then pt (pl (x.toNat*4+y.toNat)) 0 0 else .pointer none) h):Cl Pr K 141 [pt f 0 0,I x,I y] h Q:=by
 have k:=hC.1;refine cW (dD (bV (aS (aZ (fun d=>?_) (fun d=>aB (aA (aA (am f c rfl (dR (aZ (fun e=>?_) (fun e=>aS (aZ (fun g=>?_) (fun g=>dR (aZ (fun j=>?_) (fun j=>?_)))))))))))))));rw[aab] at a;exact a;rw[aab] at a;exact a;rw[aab] at a;exact a;rw[aab] at a;exact a;rw[aac] at a;refine aB (aA (jJ (by omega) (by omega) (jJ (by omega) (by omega) (am f c (v:=pt (pl (x.toNat*4+y.toNat)) 0 0) ?_ a))));rw[show 0+7+x.toNat*4+y.toNat*1=7+(x.toNat*4+y.toNat) by omega,yx (by omega),aac]
theorem r7 {f:Nat} {F:fM} {pl:Nat->Nat} {x:Nat} {y:Nat} (hC:C.Ok) (n:∀c w,(F c w).length<=1000) (r:(x:Int)<C.aD) (t:y<4) (a:Hs G h (aE f 0 (mO C pl)::dE (4*C.aD.toNat) (oQ C pl F)::L)) (o:∀j,Hs G j (aE f 0 (mO C pl)::dE (4*C.aD.toNat) (oQ C pl F)::L)->Q (I (C.depth - (F x y).length)) j):Cl Pr K 230 [pt f 0 0,I x,I y] h Q:=by
 have q:=hC.1;have d:1<=C.depth/\C.depth<=16:=hC.2.2.2.2.1;refine cW (xK (C:=C) (pl:=pl) hC a ?_);rw[aac];have b:x*4+y<4*C.aD.toNat:=by omega
 have a:=Dt b a.lU;rw[show((x:Int)).toNat*4+((y:Int)).toNat=x*4+y by omega];refine Zt (C:=C) (l:=F ((x*4+y)/4) ((x*4+y) % 4)) d (n _ _) a fun h a=>?_;have g:(x*4+y)/4=x/\(x*4+y) % 4=y:=by omega
 have:=o h;rw[g.1,g.2];refine this ?_;have a:=Ka b a;have k:F.set ((x*4+y)/4) ((x*4+y) % 4) (F ((x*4+y)/4) ((x*4+y) % 4))=F:=by
  funext c w;unfold fM.set;split;rename_i e;rw[e.1,e.2];rfl
 rw[k] at a;exact a.lU
def wM (F a:fM):List Value:=(List.range 16).map fun k=>I (((a (k/4) (k % 4)).length:Int) - (F (k/4) (k % 4)).length)
theorem ng {F a:fM} {x y:Nat} (c:x<4) (d:y<4):(wM F a)[x*4+y]?=some (I (((a x y).length:Int) - (F x y).length)):=by
 unfold wM;rw[List.getElem?_map,List.getElem?_range (by omega)];have b:(x*4+y)/4=x/\(x*4+y) % 4=y:=by omega
 simp[b.1,b.2]
theorem q8 {F a:fM} {n:aH} {x y:Nat} (d:n.core.toNat=x) (g:fR n=y) (f:x<4) (j:y<4):dS (wM F a) (x*4+y) [I (((a x y).length:Int) - (F x y).length+1)]=wM F (a.put n):=by
 unfold wM;rw[J8 (_α:=Nat) (by omega)];refine List.map_congr_left fun k c=>?_;have c:=List.mem_range.1 c;unfold fM.put;rw[d,g];by_cases e:k=x*4+y;subst e;have b:(x*4+y)/4=x/\(x*4+y) % 4=y:=by omega
 rw[aKj rfl,b.1,b.2];unfold fM.set;rw[aKj ⟨rfl,rfl⟩,List.length_append];congr 1;simp;omega;rw[aKi e];unfold fM.set;rw[aab]
end
section
set_option maxRecDepth 100000
variable {G:Bg} {h:AH} {L L' M:List HP} {Q:Value->AH->Prop} {C:bN}
theorem fj {d:Int} {F:fM} {n:aH} {l:List aH}:fM.zD d F (n::l)=if((F n.core.toNat (fR n)).length:Int)<d then fM.zD d (F.put n) l else none:=rfl
theorem ka {n:aH} {l:List aH}:cA C (n::l)=if nC C n≠0 then nC C n else cA C l:=rfl
theorem Ru {l:List aH} (h:cA C l=0):∀n∈l,nC C n=0:=by
 induction l with
 |nil=>intro n a;cases a
 |cons x l c=>
  unfold cA at h;split at h;rename_i b;exact absurd h b;rename_i b;intro n a;rcases List.mem_cons.1 a with rfl|a;omega;exact c h n a
theorem sx {f:Nat} {F:fM} {n:aH} {a2:Option Addr} {c2:Nat} (hC:C.Ok) (k:nC C n=0) (o:((F n.core.toNat (fR n)).length:Int)<C.depth) {pl:Nat->Nat} {Q:Value->AH->Prop}
  (a:Hs G h (hJ a2 c2 [n]::aE f 0 (mO C pl)::dE (4*C.aD.toNat) (oQ C pl F)::L)) (g:∀e,Hs G e (aE f 0 (mO C pl)::dE (4*C.aD.toNat) (oQ C pl (F.put n))::L)->Q (I 0) e):
  Cl Pr K 231 [pt (pl (n.core.toNat*4+fR n)) 0 0,.slice a2 1 c2] h Q:=by
 obtain⟨d,j⟩:=wy k
 have r:=(zY d).1
 have q:=hC.1
 have b:n.core.toNat*4+fR n<4*C.aD.toNat:=by omega
 have c:(n.core.toNat*4+fR n)/4=n.core.toNat/\(n.core.toNat*4+fR n) % 4=fR n:=by omega
 have a:=Dt b (a.front (dE (4*C.aD.toNat) (oQ C pl F)))
 rw[c.1,c.2] at a
 refine yp (C:=C) (l:=F n.core.toNat (fR n)) (n:=n) hC.2.2.2.2.1 o a fun h a=>?_
 have a:Hs G h (oR C (pl (n.core.toNat*4+fR n)) (F n.core.toNat (fR n)++[n])::Wt C pl F (n.core.toNat*4+fR n)::aE f 0 (mO C pl)::L):=a.to
 have a:=Ka b a
 rw[c.1,c.2] at a
 exact g _ a.lU
theorem Du {f:Nat} {F:fM} {l:List aH} {a:Option Addr} {c:Nat} (hC:C.Ok) (hd:∀c w,(F c w).length<=500) (hl:l.length<=100) (T:Ob G 2 yK) (ε:Ob G 0 fJ) (d:Hs G h L) [m:Has (oD C f) L F L'] [m2:dT (hJ a c l) L' M]
  (S:∀h',Hs G h' (oD C f (fM.send C F l).1::hJ a c l::M)->Q (I (fM.send C F l).2) h'):Cl Pr K 170 [pt f 0 0,.slice a l.length c] h Q:=by
 have hc:=hC.1
 have ι:1<=C.depth/\C.depth<=16:=hC.2.2.2.2.1
 obtain⟨pl,d⟩:=Aw (m.of d)
 have d:Hs G h (hJ a c l::aE f 0 (mO C pl)::dE (4*C.aD.toNat) (oQ C pl F)::M):=d.perm (((m2.perm.cons _).cons _).trans (((List.Perm.swap _ _ _).cons _).trans (List.Perm.swap _ _ _)))
 unfold fM.send at S
 have P:∀{h:AH} {L2:List HP} {J:fM},[Sub L2 M]->Hs G h (hJ a c l::aE f 0 (mO C pl)::dE (4*C.aD.toNat) (oQ C pl J)::L2)->Hs G h (oD C f J::hJ a c l::M):=by
  intro h L2 J _ d;have d:=d.cC (aE f 0 (mO C pl)) (dE (4*C.aD.toNat) (oQ C pl J));exact(mK d).to
 have α:∀(k i:Nat) (j Fe:fM) (L2:List HP) (h:AH),[Sub L2 M]->i+k=l.length->cA C l=0->fM.zD C.depth F l=some Fe->fM.zD C.depth j (l.drop i)=some Fe->Hs G h (hJ a c l::aE f 0 (mO C pl)::dE (4*C.aD.toNat) (oQ C pl j)::L2)->
   Dd 170 10 [] Q [(pt f 0 0),(.slice a l.length c),(I l.length),(I i)] h:=by
  intro k
  induction k with
  |zero=>
   intro i j Fe L2 h _ hi q g O d
   rw[List.drop_of_length_le (by omega)] at O
   cases O
   rw[aab,g] at S
   exact bW (aS (aaa (S _ (P d))))
  |succ k ih=>
   intro i j Fe L2 h _ hi q g O d
   obtain⟨x,W,v⟩:=mB (l:=l) (i:=i) (by omega)
   have E:=Ru q x (List.mem_of_getElem? W)
   obtain⟨z,δ⟩:=wy E
   obtain⟨t,U⟩:=zY z
   rw[v] at O
   unfold fM.zD at O
   split at O
   .rename_i V;refine bW (aS (aae (bW (jV (l:=l) (a:=a) (c:=c) (enc:=aH.enc) (e:=162) d (by decide) (by omega) (by rw[Int.toNat_natCast];exact W) (bM d fun u h d=>ax (b:=u) d fun h d=>aA (am u d rfl (N.Zq T d ?_)))))));rw[aKj z,U];refine aI rfl (aI rfl (bA (aaa (bW (bE d fun r1 h0 B=>aA (am u B rfl (xK (C:=C) (pl:=pl) hC B ?_)))))));rw[aac];refine an u B (l:=x.enc) rfl rfl (aN (c:=x.enc) rfl (kD (r:=r1) (i:=6) (N:=9) (D:=[]) B rfl rfl rfl rfl rfl fun a2 h d=>?_));have d:=nX d;have d:Hs G h (hJ (some a2) 1 [x]::aE f 0 (mO C pl)::dE (4*C.aD.toNat) (oQ C pl j)::hJ a c l::L2):=d.to;rw[show(x.core.toNat*4+((fR x:Nat):Int).toNat)=x.core.toNat*4+fR x by omega];refine sx (f:=f) hC E V d fun h d=>cZ (an u B (l:=x.enc) rfl rfl (qY ?_)) (bA (aaa (bW (aad (ih (i+1) (j.put x) Fe L2 h (by omega) q g O d.to)))));simp[aH.enc,pY]
   .cases O
 have Z:∀(k i p:Nat) (j:fM) (L2:List HP) (h:AH),[Sub L2 M]->i+k=l.length->cA C l=0->fM.zD C.depth F l=fM.zD C.depth j (l.drop i)->(∀c w,(j c w).length<=500+i)->Hs G h (aE p 0 (wM F j)::hJ a c l::aE f 0 (mO C pl)::dE (4*C.aD.toNat) (oQ C pl F)::L2)->
   Dd 170 6 [] Q [(pt f 0 0),(.slice a l.length c),(pt p 0 0),(.slice a l.length c),(I l.length),(I i)] h:=by
  intro k
  induction k with
  |zero=>
   intro i p j L2 h _ hi q g A d
   rw[List.drop_of_length_le (by omega)] at g
   refine bW (aS (aaa (bW (bP ?_))))
   exact α l.length 0 F j L2 h (by omega) q g (by rw[List.drop_zero];exact g) d.tail
  |succ k ih=>
   intro i p j L2 h _ hi q g A d
   obtain⟨x,W,v⟩:=mB (l:=l) (i:=i) (by omega)
   have E:=Ru q x (List.mem_of_getElem? W)
   obtain⟨z,δ⟩:=wy E
   obtain⟨t,U⟩:=zY z
   obtain⟨y,hy⟩:∃y:Nat,x.core=(y:Int):=⟨x.core.toNat,by omega⟩
   have X:x.core.toNat=y:=by omega
   rw[v,fj,X] at g
   have η:=A y (fR x)
   have θ:=hd y (fR x)
   refine bW (aS (aae (bW (jV (l:=l) (a:=a) (c:=c) (enc:=aH.enc) (e:=162) d (by decide) (by omega) (by rw[Int.toNat_natCast];exact W) (bM d fun u h d=>ax (b:=u) d fun h d=>aA (am u d rfl (N.Zq T d ?_)))))))
   rw[aKj z,U]
   have H:x.enc[0+1]?=some (I (y:Int)):=by rw[<-hy];rfl
   have R:∀{J:fM},(wM F J)[0+y*4+fR x*1]?=some (I (((J y (fR x)).length:Int) - (F y (fR x)).length)):=by
    intro J;rw[show 0+y*4+fR x*1=y*4+fR x by omega];exact ng (by omega) t
   have γ:dS (wM F j) (0+y*4+fR x*1) [I (((j y (fR x)).length:Int) - (F y (fR x)).length+1)]=wM F (j.put x):=by
    rw[show 0+y*4+fR x*1=y*4+fR x by omega];exact q8 X rfl (by omega) t
   have β:(wM F j).length=16:=by simp[wM]
   refine aI rfl (aI rfl (bA (aaa (bW (bE d fun r1 h d=>aA (am u d H (gK (by omega) (gK t (am p d R (aad (gK (by omega) (gK t ?_))))))))))))
   refine bL (b:=p) (o:=0) d rfl (by rw[β];exact Nat.ble_eq_true_of_le (by omega)) rfl (by rw[β];rfl) fun h d=>?_
   rw[γ] at d
   refine bE d fun r2 h d=>aA (am u d H (gK (by omega) (gK t (am p d R (aA (am u d H ?_))))))
   have ζ:((j.put x) y (fR x)).length=(j y (fR x)).length+1:=by unfold fM.put fM.set;rw[X,aKj ⟨rfl,rfl⟩,List.length_append];rfl
   have d:=d.cC (aE f 0 (mO C pl)) (dE (4*C.aD.toNat) (oQ C pl F))
   refine r7 (C:=C) (F:=F) (x:=y) (y:=fR x) hC (fun c w=>by have:=hd c w;omega) (by omega) t d fun h d=>mR ?_
   refine cZ (aA dJ) (cZ (am u d H jA) (cZ jA (cZ (gK (by omega) dJ) (cZ (gK t dJ) (cZ (am p d R jA) ?_)))))
   rw[ζ]
   refine aZ (fun h1=>?_) (fun h1=>?_)
   .rw[aab] at g;rw[aab,g] at S;refine S _ ?_;have d:=d.cC (aE f 0 (mO C pl)) (dE (4*C.aD.toNat) (oQ C pl F));exact(mK d).to
   .rw[aac] at g;refine bW (aad (ih (i+1) p (j.put x) L2 h (by omega) q g (fun c w=>?_) d.to));have h2:((j.put x) c w).length<=(j c w).length+1:=by
     unfold fM.put fM.set;split;rename_i e;rw[e.1,e.2];simp;omega
    have:=A c w
    omega
 have Y:∀(k i:Nat) (h:AH),i+k=l.length->cA C l=cA C (l.drop i)->Hs G h (hJ a c l::aE f 0 (mO C pl)::dE (4*C.aD.toNat) (oQ C pl F)::M)->
   Dd 170 2 [] Q [(pt f 0 0),(.slice a l.length c),(.slice a l.length c),(I l.length),(I i)] h:=by
  intro k
  induction k with
  |zero=>
   intro i h hi g d
   rw[List.drop_of_length_le (by omega)] at g
   refine bW (aS (aaa (bW (bM d fun p h d=>bP ?_))))
   refine Z l.length 0 p F M h (by omega) g (by rw[List.drop_zero]) (fun c w=>by have:=hd c w;omega) ?_
   have e:wM F F=[I 0,I 0,I 0,I 0,I 0,I 0,I 0,I 0,I 0,I 0,I 0,I 0,I 0,I 0,I 0,I 0]:=by
    unfold wM;simp only[Int.sub_self];rfl
   rw[e];exact d
  |succ k ih=>
   intro i h hi g d
   obtain⟨x,W,v⟩:=mB (l:=l) (i:=i) (by omega)
   rw[v,ka] at g
   refine bW (aS (aae (bW (jV (l:=l) (a:=a) (c:=c) (enc:=aH.enc) (e:=162) d (by decide) (by omega) (by rw[Int.toNat_natCast];exact W) (bM d fun u h d=>ax (b:=u) d fun h d=>bE d fun r1 h d=>aB (aA (an f d (l:=C.enc) rfl rfl (an u d (l:=x.enc) rfl rfl ?_))))))))
   refine N.aDg (C:=C) (n:=x) T ε d fun h d=>bA (aZ (fun h1=>?_) (fun h1=>?_))
   .rw[aKj h1] at g;rw[aKj (by rw[g];exact h1),g] at S;exact S _ (P (L2:=aE u 0 x.enc::M) d.to)
   .rw[aKi h1] at g;exact bW (aad (ih (i+1) h (by omega) g d.to))
 refine cW (dD (bV (bW (bP ?_))))
 exact Y l.length 0 h (by omega) (by rw[List.drop_zero]) d
end
end Go.Proofs.YtmhapehobfnoiaaGreatDoor
end
namespace Go.Proofs.YtmhapehobfnoiaaGreatDoor
open Go Go.Ab Go.Hm Go.At Go.Mc Go.Nt
section
theorem Qa {k:Value->Prop} (a:k (.bool true)):bG (Oa .eql (.pointer none) (.pointer none)) k:=⟨_,rfl,a⟩
set_option maxRecDepth 100000
attribute [local irreducible] bG Br ld1 uF uG B4 mA uX lK P3 hQ mY qG pZ pS lH zE uE Uh Ty Oa Mr Rk Ol Md Ny Rn lN oT sF iV copyV iJ wV Tu U3 Gk kX Mb Qq Sb nL rR xM zA Cl zB Ro sM sC jS fL setLoop cH
variable {G:Bg} {h:AH} {L L' M:List HP} {Q:Value->AH->Prop} {C:bN}
theorem V5 {f:Nat} {F:fM} {x y w:Int} (hC:C.Ok) (v:∀c w,(F c w).length<=500) (a:Hs G h L) [m:Has (oD C f) L F L']
  (d:∀g,Hs G g (oD C f (fM.take C F x y w).1::L')->Q (.tuple ⟨[.agg ⟨(fM.take C F x y w).2.1.enc⟩,I (fM.take C F x y w).2.2]⟩) g):Cl Pr K 168 [pt f 0 0,I x,I y,I w] h Q:=by
 have A:=hC.1
 obtain⟨pl,a⟩:=Aw (m.of a)
 unfold fM.take at d
 refine cW (bM (cs:=aH.zero.enc) a fun p h a=>dD (bV (bW (xK (C:=C) (pl:=pl) hC a ?_))))
 by_cases q:(0<=x/\x<C.aD)/\(0<=y/\y<4)
 .rw[aab] at d;rw[aKj q];refine dD (bV ?_);have j:x.toNat*4+y.toNat<4*C.aD.toNat:=by omega
  have k:(x.toNat*4+y.toNat)/4=x.toNat/\(x.toNat*4+y.toNat) % 4=y.toNat:=by omega
  have a:=Dt j (a.front (dE (4*C.aD.toNat) (oQ C pl F)))
  rw[k.1,k.2] at a
  have fin:∀{h:AH} (l:List aH) (n:aH) (e:Int),Hs G h (oR C (pl (x.toNat*4+y.toNat)) l::Wt C pl F (x.toNat*4+y.toNat)::aE p 0 aH.zero.enc::aE f 0 (mO C pl)::L')->(∀g,Hs G g (oD C f (F.set x.toNat y.toNat l)::L')->Q (.tuple ⟨[.agg ⟨n.enc⟩,I e]⟩) g)->
    bG (qG 0 (.tuple ⟨[.agg ⟨n.enc⟩,I e]⟩)) fun v3=>bG (qG 1 (.tuple ⟨[.agg ⟨n.enc⟩,I e]⟩)) fun v4=>bG (uG h 9 (pt p 0 0) v3) fun t=>bG (uF t 9 (pt p 0 0)) fun v6=>Q (.tuple ⟨[v6,v4]⟩) t:=by
   intro h l n e a z
   refine aI rfl (aI rfl (ax (b:=p) a fun h a=>an p a (l:=n.enc) rfl rfl (z _ ?_)))
   have a:=Ka j (a.cC (oR C (pl (x.toNat*4+y.toNat)) l) (Wt C pl F (x.toNat*4+y.toNat)))
   rw[k.1,k.2] at a
   have a:=a.cC (aE f 0 (mO C pl)) (dE (4*C.aD.toNat) (oQ C pl (F.set x.toNat y.toNat l)))
   exact(mK a).to
  dsimp only at d
  refine Dw (C:=C) (l:=F x.toNat y.toNat) (by have:=v x.toNat y.toNat;omega) a (fun r h a=>?_) (fun r h a=>?_)
  .rw[aKj r] at d;refine fin _ _ _ a fun h a=>d _ ?_;have u:F.set x.toNat y.toNat (F x.toNat y.toNat)=F:=by
    funext c w;unfold fM.set;split;rename_i e;rw[e.1,e.2];rfl
   rw[u] at a
   exact a
  .rw[aKi r] at d;exact fin _ _ _ a d
 .rw[aKj q] at d;rw[aKi q];refine Qa (eZ (aN (c:=aH.zero.enc) rfl ?_));refine ax (b:=p) a fun h a=>?_;refine an p a (l:=aH.zero.enc) rfl rfl (d _ ?_);exact mK a.tail
theorem ml {f:Nat} {F:fM} {x y:Nat} (hC:C.Ok) (k:∀c w,(F c w).length<=500) (r:(x:Int)<C.aD) (t:y<4) (a:Hs G h L) [m:Has (oD C f) L F L']
  (n:∀q g,Hs G g (pz q (F x y)::oD C f F::L')->Q (.func (.func 248) #[] #[pt q 0 0]) g):Cl Pr K 89 [pt f 0 0,I x,I y] h Q:=by
 have o:=hC.1
 obtain⟨pl,a⟩:=Aw (m.of a)
 refine cW (xK (C:=C) (pl:=pl) hC a ?_)
 rw[aac]
 have b:x*4+y<4*C.aD.toNat:=by omega
 have d:(x*4+y)/4=x/\(x*4+y) % 4=y:=by omega
 have a:=Dt b a.lU
 rw[show((x:Int)).toNat*4+((y:Int)).toNat=x*4+y by omega]
 rw[d.1,d.2] at a
 refine dp (C:=C) (l:=F x y) (by have:=k x y;omega) a fun q h a=>n q _ ?_
 have a:=Ka b (a.cC (oR C (pl (x*4+y)) (F x y)) (Wt C pl F (x*4+y)))
 rw[d.1,d.2] at a
 have j:F.set x y (F x y)=F:=by
  funext c w;unfold fM.set;split;rename_i e;rw[e.1,e.2];rfl
 rw[j] at a
 have a:=a.cC (aE f 0 (mO C pl)) (dE (4*C.aD.toNat) (oQ C pl F))
 exact(mK a).to
def tY (C:bN) (pl:Nat->Nat) (n:Nat):List Value:=C.enc++(List.range 16).map fun k=>if k<n then pt (pl k) 0 0 else .pointer none
theorem Tp {pl:Nat->Nat} {n p:Nat} (d:n<16):dS (tY C pl n) (7+n) [pt p 0 0]=tY C (aX pl n p) (n+1):=by
 unfold tY;have e:∀(A B:List Value) (j:Nat) (v:List Value),j+v.length<=B.length->dS (A++B) (A.length+j) v=A++dS B j v:=by
  intro A;induction A with
  |nil=>intro B j v c;simp
  |cons x A f=>intro B j v c;rw[List.cons_append,List.length_cons,show A.length+1+j=(A.length+j)+1 by omega];show x::dS (A++B) (A.length+j) v=_;rw[f B j v c];rfl
 rw[show 7+n=C.enc.length+n by simp[bN.enc],e _ _ _ _ (by simp;omega),J8 (_α:=Nat) d];congr 1;refine List.map_congr_left fun k _=>?_;by_cases a:k=n;subst a;rw[aKj rfl,aac,dQ];rw[aKi a];by_cases b:k<n;rw[aKj b,aac,cX a];rw[aKi b,aab]
theorem Fg {pl:Nat->Nat} {n:Nat}:(tY C pl n).length=23:=by unfold tY;simp[bN.enc]
theorem Zm {n p:Nat} {pl:Nat->Nat} {F:fM} (a:Hs G h (oR C p (F (n/4) (n % 4))::dE n (oQ C pl F)::L)):Hs G h (dE (n+1) (oQ C (aX pl n p) F)::L):=by
 refine Hs.T1 ?_;have b:oQ C (aX pl n p) F n=oR C p (F (n/4) (n % 4)):=by unfold oQ;rw[dQ]
 rw[b];have a:=a.lU;have a:=sV (g:=oQ C (aX pl n p) F) (fun j c=>by unfold oQ;rw[cX (by omega)]) a;exact a.lU
theorem dv (hC:C.Ok) (g:Ob G 0 fJ) (a:Hs G h L) (t:∀f r,Hs G r (oD C f (fun _ _=>[])::L)->Q (.tuple ⟨[pt f 0 0,I 0]⟩) r):Cl Pr K 42 [.agg ⟨C.enc⟩] h Q:=by
 have v:=hC.1;refine cW (dF a fun p h a=>an p a (l:=C.enc) rfl rfl (nJ g a fun h a=>?_));rw[aKj hC];refine bA (aaa (bW (an p a (l:=C.enc) rfl rfl (aN (c:=tY C (fun _=>0) 0) rfl (dF a fun f h a=>aA (am p a rfl ?_))))));have inner:∀(k w x:Nat) (pl:Nat->Nat) (h:AH),w+k=4->(x:Int)<C.aD->(∀(pl:Nat->Nat) (h:AH),Hs G h (aE f 0 (tY C pl (4*x+4))::aE p 0 C.enc::dE (4*x+4) (oQ C pl fun _ _=>[])::L)->Dd 42 6 [] Q [(pt p 0 0),(pt f 0 0),(I C.aD),(I x)] h)->
   Hs G h (aE f 0 (tY C pl (4*x+w))::aE p 0 C.enc::dE (4*x+w) (oQ C pl fun _ _=>[])::L)->Dd 42 4 [] Q [(pt p 0 0),(pt f 0 0),(I x),(I C.aD),(I x),(I w)] h:=by
  intro k
  induction k with
  |zero=>
   intro w x pl h u d j a
   have:w=4:=by omega
   subst this
   exact bW (aS (aaa (j pl h a)))
  |succ k n=>
   intro w x pl h u d j a
   refine bW (aS (aae (bW (aA (am p a rfl (bz hC a fun q h a=>aI rfl (aI rfl (bA (aaa (bW (aB (aA (gK (by omega) (gK (by omega) ?_))))))))))))))
   refine bL (b:=f) (o:=0) a rfl (by rw[Fg];exact Nat.ble_eq_true_of_le (by simp;omega)) rfl (by rw[Fg];rfl) fun h a=>aad ?_
   rw[show 0+7+x*4+w*1=7+(4*x+w) by omega,Tp (by omega)] at a
   refine n (w+1) x (aX pl (4*x+w) q) h (by omega) d j ?_
   have a:=a.cC (oR C q []) (dE (4*x+w) (oQ C pl fun _ _=>[]))
   have a:=Zm (F:=fun _ _=>[]) a
   exact(show Hs G h (aE f 0 (tY C (aX pl (4*x+w) q) (4*x+(w+1)))::aE p 0 C.enc::dE (4*x+(w+1)) (oQ C (aX pl (4*x+w) q) fun _ _=>[])::L) from a.to)
 have outer:∀(k x:Nat) (pl:Nat->Nat) (h:AH),x+k=C.aD.toNat->Hs G h (aE f 0 (tY C pl (4*x))::aE p 0 C.enc::dE (4*x) (oQ C pl fun _ _=>[])::L)->Dd 42 2 [] Q [(pt p 0 0),(pt f 0 0),(I C.aD),(I x)] h:=by
  intro k;induction k with
  |zero=>
   intro x pl h d a;refine bW (aS (aaa (t f h ?_)));have e:x=C.aD.toNat:=by omega
   subst e;have a:Hs G h (aE f 0 (mO C pl)::aE p 0 C.enc::dE (4*C.aD.toNat) (oQ C pl fun _ _=>[])::L):=a;exact(mK (show Hs G h (aE f 0 (mO C pl)::dE (4*C.aD.toNat) (oQ C pl fun _ _=>[])::L) from a.to))
  |succ k n=>
   intro x pl h d a;refine bW (aS (aae (bW ?_)));refine inner 4 0 x pl h (by omega) (by omega) (fun pl h a=>bW (aad (n (x+1) pl h (by omega) ?_))) a;exact(show Hs G h (aE f 0 (tY C pl (4*(x+1)))::aE p 0 C.enc::dE (4*(x+1)) (oQ C pl fun _ _=>[])::L) from by rw[show 4*(x+1)=4*x+4 by omega];exact a)
 have a:=Hs.U1 (f:=oQ C (fun _=>0) fun _ _=>[]) a;exact outer C.aD.toNat 0 (fun _=>0) h (by omega) (show Hs G h (aE f 0 (tY C (fun _=>0) 0)::aE p 0 C.enc::dE 0 (oQ C (fun _=>0) fun _ _=>[])::L) from a.to)
end
section
theorem aDv {n a i:Nat} {l m:List Value} {k:Value->Prop} (e:i<n) (c:i*a+a<=l.length) (d:(l.drop (i*a)).take a=m) (b:k (.agg ⟨m⟩)):bG (Qq n a (.agg ⟨l⟩) (I i)) k:=
 ⟨.agg ⟨m⟩,by unfold Qq;simp only;rw[aKj ⟨by omega,by omega,by simpa using c⟩];simp[d],b⟩
set_option maxRecDepth 100000
attribute [local irreducible] bG Br ld1 uF uG B4 mA uX lK P3 hQ mY qG pZ pS lH zE uE Uh Ty Oa Mr Rk Ol Md Ny Rn lN oT sF iV copyV iJ wV Tu U3 Gk kX Mb Qq Sb nL rR xM zA Cl zB Ro sM sC jS fL setLoop cH
variable {G:Bg} {h:AH} {L L' M:List HP} {Q:Value->AH->Prop} {C:bN}
def lE (C:bN) (pl:Nat->Nat):List Value:=(List.range 16).map fun k=>if k<4*C.aD.toNat then pt (pl k) 0 0 else .pointer none
theorem Cm {pl:Nat->Nat}:(lE C pl).length=16:=by simp[lE]
theorem ra {pl:Nat->Nat} {x w:Nat} (b:x<4) (a:w<4):(((lE C pl).drop (x*4)).take 4)[w]?=some (if x*4+w<4*C.aD.toNat then pt (pl (x*4+w)) 0 0 else .pointer none):=by
 rw[List.getElem?_take_of_lt a,List.getElem?_drop];unfold lE;rw[List.getElem?_map,List.getElem?_range (by omega)];rfl
theorem jn (a:Q (.pointer none) h):Cl Pr K 125 [.pointer none] h Q:=
 cW (Qa (eZ a))
theorem ij {pl:Nat->Nat} {n j:Nat} (d:n<=j) (a:j<16):dS (tY C pl n) (7+j) [.pointer none]=tY C pl n:=by
 unfold tY;have e:∀(A B:List Value) (j:Nat) (v:List Value),j+v.length<=B.length->dS (A++B) (A.length+j) v=A++dS B j v:=by
  intro A;induction A with
  |nil=>intro B j v a;simp
  |cons x A c=>intro B j v a;rw[List.cons_append,List.length_cons,show A.length+1+j=(A.length+j)+1 by omega];show x::dS (A++B) (A.length+j) v=_;rw[c B j v a];rfl
 rw[show 7+j=C.enc.length+j by simp[bN.enc],e _ _ _ _ (by simp;omega),J8 (_α:=Nat) a];congr 1;refine List.map_congr_left fun k _=>?_;by_cases b:k=j;rw[aKj b,aab];rw[aKi b]
theorem Xa {f:Nat} {F:fM} (hC:C.Ok) (S:∀c w,(F c w).length<=500) (a:Hs G h L) [m:Has (oD C f) L F L'] (U:∀g J,Hs G J (oD C g F::oD C f F::L')->Q (pt g 0 0) J):Cl Pr K 74 [pt f 0 0] h Q:=by
 have Y:=hC.1;obtain⟨pl,a⟩:=Aw (m.of a);refine cW (dD (bV (bW (aB (aA (an f a (l:=C.enc) rfl rfl (aN (c:=tY C (fun _=>0) 0) rfl (dF a fun g h a=>aB (aA (an f a (l:=lE C pl) ?_ Cm ?_))))))))));unfold mO lE;rw[show 0+7=C.enc.length by simp[bN.enc],List.drop_left,List.take_of_length_le (by simp)];let N:=4*C.aD.toNat;have inner:∀(k w x:Nat) (d:Nat->Nat) (n:List HP) (h:AH),[Sub n L']->w+k=4->x<4->(∀(d:Nat->Nat) (h:AH),Hs G h (aE g 0 (tY C d (min N (4*x+4)))::dE (min N (4*x+4)) (oQ C d F)::aE f 0 (mO C pl)::dE N (oQ C pl F)::n)->Dd 74 6 [] Q [(pt g 0 0),(.agg ⟨lE C pl⟩),(I x)] h)->
   Hs G h (aE g 0 (tY C d (min N (4*x+w)))::dE (min N (4*x+w)) (oQ C d F)::aE f 0 (mO C pl)::dE N (oQ C pl F)::n)->Dd 74 4 [] Q [(pt g 0 0),(I x),(.agg ⟨lE C pl⟩),(I x),(.agg ⟨((lE C pl).drop (x*4)).take 4⟩),(I w)] h:=by
  intro k
  induction k with
  |zero=>
   intro w x d n h _ V y D a
   have:w=4:=by omega
   subst this
   exact bW (aS (aaa (D d h a)))
  |succ k H=>
   intro w x d n h _ V y D a
   refine bW (aS (aae (bW (Y8 (by omega) (ra y (by omega)) (bE a fun r h a=>?_)))))
   have fin:∀(v:Value) (u:Nat->Nat) (h:AH),eJ v=true->Cv v [v]->dS (tY C d (min N (4*x+w))) (7+(4*x+w)) [v]=tY C u (min N (4*x+(w+1)))->
     Hs G h (aE g 0 (tY C d (min N (4*x+w)))::dE (min N (4*x+(w+1))) (oQ C u F)::aE f 0 (mO C pl)::dE N (oQ C pl F)::n)->
     bG (mY (pt g 0 0)) fun v4=>bG (hQ 7 v4) fun v5=>bG (oT 4 4 v5 (I x)) fun v6=>bG (oT 4 1 v6 (I w)) fun W=>bG (uG h 1 W v) fun P=>(pY (pt g 0 0) (pt g 0 0)=true)/\((pY (I x) (I x)=true)/\((pY (I w) (I w)=true)/\((bG (mY (pt g 0 0)) fun v9=>pY v9 v4=true)/\((bG (hQ 7 v4) fun v10=>pY v10 v5=true)/\((bG (oT 4 4 v5 (I x)) fun v11=>pY v11 v6=true)/\(bG (uE .add (I w) (I 1)) fun v12=>Dd 74 4 [] Q [(pt g 0 0),(I x),(.agg ⟨lE C pl⟩),(I x),(.agg ⟨((lE C pl).drop (x*4)).take 4⟩),v12] P)))))):=by
    intro v u h E R T a
    refine aB (aA (gK y (gK (by omega) ?_)))
    refine bL (b:=g) (o:=0) a rfl (by rw[Fg];exact Nat.ble_eq_true_of_le (by simp;omega)) (by simp[E]) (by rw[Fg];rfl) fun h a=>?_
    rw[show 0+7+x*4+w*1=7+(4*x+w) by omega,T] at a
    refine cZ dJ (cZ jA (cZ jA (cZ (aB dJ) (cZ (aA dJ) (cZ (gK y dJ) (aad ?_))))))
    exact H (w+1) x u n h (by omega) y D a
   by_cases A:x*4+w<4*C.aD.toNat
   .rw[aKj A];have X:dE N (oQ C pl F)=dE (4*C.aD.toNat) (oQ C pl F):=rfl;have a:=Dt A (a.front (dE N (oQ C pl F)));refine Vn (C:=C) (l:=F ((x*4+w)/4) ((x*4+w) % 4)) (by have:=S ((x*4+w)/4) ((x*4+w) % 4);omega) a fun q h a=>?_;have a:=Ka A (a.cC (oR C (pl (x*4+w)) (F ((x*4+w)/4) ((x*4+w) % 4))) (Wt C pl F (x*4+w)));have O:F.set ((x*4+w)/4) ((x*4+w) % 4) (F ((x*4+w)/4) ((x*4+w) % 4))=F:=by
     funext c w;unfold fM.set;split;rename_i e;rw[e.1,e.2];rfl
    rw[O] at a
    have j:min N (4*x+w)=4*x+w:=by show min (4*C.aD.toNat) _=_;omega
    have t:min N (4*x+(w+1))=4*x+w+1:=by show min (4*C.aD.toNat) _=_;omega
    rw[j] at a
    rw[show x*4+w=4*x+w by omega] at a
    have a:=a.cC (oR C q (F ((4*x+w)/4) ((4*x+w) % 4))) (dE (4*x+w) (oQ C d F))
    have a:=Zm a
    refine fin (pt q 0 0) (aX d (4*x+w) q) h rfl inferInstance ?_ ?_
    .rw[j,t,Tp (by omega)]
    .rw[j,t];exact a.to
   .rw[aKi A];have j:min N (4*x+w)=N:=by show min (4*C.aD.toNat) _=4*C.aD.toNat;omega
    have t:min N (4*x+(w+1))=N:=by show min (4*C.aD.toNat) _=4*C.aD.toNat;omega
    refine jn (fin (.pointer none) d h rfl inferInstance ?_ ?_)
    .rw[j,t];exact ij (by show 4*C.aD.toNat<=_;omega) (by omega)
    .rw[j] at a;rw[j,t];exact a.to
 have outer:∀(k x:Nat) (d:Nat->Nat) (n:List HP) (h:AH),[Sub n L']->x+k=4->Hs G h (aE g 0 (tY C d (min N (4*x)))::dE (min N (4*x)) (oQ C d F)::aE f 0 (mO C pl)::dE N (oQ C pl F)::n)->Dd 74 2 [] Q [(pt g 0 0),(.agg ⟨lE C pl⟩),(I x)] h:=by
  intro k;induction k with
  |zero=>
   intro x d n h _ y a;refine bW (aS (aaa (U g h ?_)));have j:min N (4*x)=N:=by show min (4*C.aD.toNat) _=4*C.aD.toNat;omega
   rw[j] at a;have a:Hs G h (aE g 0 (mO C d)::dE (4*C.aD.toNat) (oQ C d F)::aE f 0 (mO C pl)::dE (4*C.aD.toNat) (oQ C pl F)::n):=a;have a:=mK a;have a:=a.cC (aE f 0 (mO C pl)) (dE (4*C.aD.toNat) (oQ C pl F));have a:=mK a;exact a.to
  |succ k H=>
   intro x d n h _ y a;refine bW (aS (aae (bW (aDv (by omega) (by rw[Cm];omega) rfl (bM a fun p h a=>?_)))));have z:(((lE C pl).drop (x*4)).take 4).length=4:=by rw[List.length_take,List.length_drop,Cm];omega
   have B:(((lE C pl).drop (x*4)).take 4).all eJ=true:=by
    refine List.all_eq_true.2 fun v E=>?_;have:=List.mem_of_mem_drop (List.mem_of_mem_take E);unfold lE at this;obtain⟨k,_,rfl⟩:=List.mem_map.1 this;split<;>rfl
   refine aY (b:=p) a rfl rfl z B fun h a=>an p a (l:=((lE C pl).drop (x*4)).take 4) (by rw[List.drop_zero];exact List.take_of_length_le (by omega)) z ?_;refine inner 4 0 x d (aE p 0 (((lE C pl).drop (x*4)).take 4)::n) h (by omega) (by omega) (fun d h a=>bW (aad (H (x+1) d (aE p 0 (((lE C pl).drop (x*4)).take 4)::n) h (by omega) (by rw[show 4*(x+1)=4*x+4 by omega];exact a)))) ?_;exact a.to
 have a:=Hs.U1 (f:=oQ C (fun _=>0) F) a;refine outer 4 0 (fun _=>0) L' h (by omega) ?_;rw[show min N (4*0)=0 by omega];exact a.to
end
end Go.Proofs.YtmhapehobfnoiaaGreatDoor
section
open Go Go.Ab
attribute [local irreducible] bG Br ld1 uF uG B4 mA uX lK P3 hQ mY qG pZ pS lH zE uE Uh Ty Oa Mr Rk Ol Md Ny Rn lN oT sF iV copyV iJ wV Tu U3 Gk kX Mb Qq Sb nL rR xM zA Cl zB Ro sM sC jS fL setLoop cH
namespace Go.Proofs.YtmhapehobfnoiaaGreatDoor
open Go Go.Ab Go.Hm Go.At Go.Is Go.Mc
section
instance:Fx Ins.enc 4:=⟨fun _=>rfl,fun _=>rfl⟩
set_option maxRecDepth 100000
variable {G:Bg} {h:AH} {L L' M:List HP} {Q:Value->AH->Prop} {s:aT} {i p:Nat}
abbrev S2 (a:Option Addr) (c:Nat) (l:List Ins):HP:=ls Ins.enc 4 76 a c l
def sN (i:Nat) (s:aT) (a:Option Addr) (c:Nat):List Value:=s.core++[I i,.slice a s.prog.length c]
def lX (i:Nat) (p:Nat) (s:aT):HP:=sB fun x:Option Addr×Nat=>sp [aE p 0 (sN i s x.1 x.2),S2 x.1 x.2 s.prog]
theorem rS (b:Hs G h (lX i p s::L)):∃a c,Hs G h (aE p 0 (sN i s a c)::S2 a c s.prog::L):=by
 obtain⟨⟨a,c⟩,b⟩:=b.tW;exact⟨a,c,b.zH⟩
theorem mN (p i:Nat) (s:aT) {a:Option Addr} {c:Nat} {cs:List Value} {l:List Ins} {b L2:List HP} (f:Hs G h L) [m:Has (aE p 0) L cs b] [m2:Has (S2 a c) b l L2] (d:cs=sN i s a c) (e:l=s.prog):Hs G h (lX i p s::L2):=by
 subst d;subst e;exact Hs.qU (A:=fun x:Option Addr×Nat=>sp [aE p 0 (sN i s x.1 x.2),S2 x.1 x.2 s.prog]) (a,c) (Hs.pack (A:=[_,_]) (f.perm (m.perm.trans (m2.perm.cons _))))
theorem aE5 {a:Option Addr} {c:Nat} {k:Int} (b:0<=k/\k<4):(sN i s a c)[0+0+0+k.toNat*1]?=some (I (s.dX k.toNat)):=by
 have:k=0\/k=1\/k=2\/k=3:=by omega
 rcases this with rfl|rfl|rfl|rfl<;>rfl
theorem xy {a:Option Addr} {c:Nat} {k v:Int} (b:0<=k/\k<4):dS (sN i s a c) (0+0+0+k.toNat*1) [I v]=sN i (s.cQ k v) a c:=by
 have:k=0\/k=1\/k=2\/k=3:=by omega
 rcases this with rfl|rfl|rfl|rfl<;>rfl
theorem Ad {a:Option Addr} {c:Nat} {k:Int} {q:Value->Prop} (f:Hs G h L) [m:Has (aE p 0) L (sN i s a c) L'] (d:0<=k/\k<4) (e:q (I (s.dX k.toNat))):bG (mY (pt p 0 0)) fun v4=>bG (hQ 0 v4) fun v5=>bG (hQ 0 v5) fun v6=>bG (oT 4 1 v6 (I k)) fun g=>bG (ld1 h g) q:=
 aB (aA (aA (jJ d.1 d.2 (am p f (aE5 d) e))))
theorem Ri {a:Option Addr} {c:Nat} {k v:Int} {q:AH->Prop} (d:Hs G h L) [m:Has (aE p 0) L (sN i s a c) L'] (e:0<=k/\k<4) (j:∀f,Hs G f (aE p 0 (sN i (s.cQ k v) a c)::L')->q f):bG (mY (pt p 0 0)) fun v4=>bG (hQ 0 v4) fun v5=>bG (hQ 0 v5) fun v6=>bG (oT 4 1 v6 (I k)) fun l=>bG (uG h 1 l (I v)) q:=by
 refine aB (aA (aA (jJ e.1 e.2 ?_)));have g:(sN i s a c).length=9:=rfl;refine bL (b:=p) (o:=0) d rfl (by rw[g];exact Nat.ble_eq_true_of_le (by simp;omega)) rfl rfl fun h d=>?_;rw[xy e] at d;exact j _ d
theorem Z2 {a:Option Addr} {c:Nat} {x:Int} {cs:List Value} (q:0<=x) (d:cs[8]?=some (.slice a s.prog.length c)) (g:Hs G h L) [m:Has (aE p 0) L cs L'] [m2:Has (S2 a c) L' s.prog M] (f:∀n,Hs G n L->Q (.bool (Ca s.prog x)) n):Cl Pr K 145 [pt p 0 0,I x] h Q:=by
 have k:Hs G h (aE p 0 cs::S2 a c s.prog::M):=g.perm (m.perm.trans (m2.perm.cons _));unfold Ca at f;refine cW (aS (aaa (aB (aA (am p g d (bP (dR (aZ (fun j=>?_) (fun j=>?_)))))))));rw[aKj j] at f;exact f _ g;rw[aKi j] at f;refine aB (aA (am p g d (oy (l:=s.prog) (a:=a) (c:=c) (enc:=Ins.enc) (e:=76) (x:=Ak s.prog x) k q ?_ rfl (bJ ?_))));unfold Ak;rw[List.getD_eq_getElem?_getD,List.getElem?_eq_getElem (by omega)];rfl;exact f _ g
theorem H2 {x:Int} (g:0<=x) (d:Hs G h L) [m:Has (lX i p) L s L'] (f:∀e,Hs G e (lX i p (s.lF x)::L')->Q (.tuple ⟨[]⟩) e):Cl Pr K 92 [pt p 0 0,I x] h Q:=by
 obtain⟨a,c,d⟩:=rS (m.of d);refine cW (aB (aA (aA (ay (b:=p) (o:=0) d fun h d=>?_))));refine Z2 (s:=s) (a:=a) (c:=c) g rfl d fun h d=>aB (aA (aA (ay (b:=p) (o:=0) d fun h d=>f _ ?_)));exact mN p i (s.lF x) (a:=a) (c:=c) d rfl rfl
theorem Sl {x:Ins} {a:Option Addr} {c:Nat} (d:Hs G h L) [m:Has (aE p 0) L (sN i s a c) L'] (f:∀e,Hs G e L->Q (.agg ⟨(aT.ev s i x 0 0 0).enc⟩) e):Cl Pr K 203 [pt p 0 0,.agg ⟨x.enc⟩] h Q:=by
 refine cW (dF d fun q h d=>bM d fun r h d=>bE d fun g h d=>?_);refine aB (aA (am p d rfl (aB (aA (aA (am p d rfl (aA (am q d rfl (aB (aA (aA (am p d rfl (aN (c:=(aT.ev s i x 0 0 0).enc) rfl ?_)))))))))))));refine ax (b:=r) d fun h d=>an r d (l:=(aT.ev s i x 0 0 0).enc) rfl rfl (f _ d.to)
def aF6:Ins:=⟨0,0,0,0⟩
theorem Hr (j:s.Ok) (d:Hs G h L) [m:Has (lX i p) L s L'] (g:∀k,Hs G k (lX i p s::L')->Q (if s.over then .tuple ⟨[.agg ⟨aF6.enc⟩,.bool false]⟩ else .tuple ⟨[.agg ⟨(Ak s.prog s.at').enc⟩,.bool true]⟩) k):Cl Pr K 202 [pt p 0 0] h Q:=by
 obtain⟨a,c,d⟩:=rS (m.of d);refine cW (bM d fun q h d=>dD (bV (aB (aA (aA (am p d rfl (Z2 (s:=s) (a:=a) (c:=c) j.1 rfl d fun h d=>?_)))))));rw[<-j.2.2.1];refine dG (fun f=>?_) (fun f=>?_);rw[f,aKj rfl] at g;refine aN (c:=aF6.enc) rfl (ax (b:=q) d fun h d=>an q d (l:=aF6.enc) rfl rfl (g _ ?_));exact(mN p i s (a:=a) (c:=c) d rfl rfl).to;rw[f] at g;have r:=Qe (p:=s.prog) (a:=s.at') (by rw[<-j.2.2.1];exact f);have n:=j.1;refine bE d fun t h d=>aB (aA (am p d rfl (aB (aA (aA (am p d rfl ?_))))));refine jV (l:=s.prog) (a:=a) (c:=c) (enc:=Ins.enc) (e:=76) (x:=Ak s.prog s.at') d (by decide) n ?_ ?_;unfold Ak;rw[List.getD_eq_getElem?_getD,List.getElem?_eq_getElem (by omega)];rfl;refine ax (b:=q) d fun h d=>an q d (l:=(Ak s.prog s.at').enc) rfl rfl (g _ ?_);exact(mN p i s (a:=a) (c:=c) d rfl rfl).to
theorem O4 {x:Int} (a:Q (.bool (Fo x)) h):Cl Pr K 205 [I x] h Q:=by
 unfold Fo at a;refine cW (bJ (aZ (fun b=>?_) (fun b=>bJ (aZ (fun c=>?_) (fun c=>bJ ?_)))));rw[decide_eq_true (by omega)] at a;exact a;rw[decide_eq_true (by omega)] at a;exact a;rw[show decide (x=3\/x=4\/x=5)=decide (x=5) from decide_eq_decide.2 (by omega)] at a;exact a
end
section
theorem Bq {s:aT} (a:s.Ok) (h:s.over=false):Fits (Ak s.prog s.at') s.prog.length:=
 R2 (a.2.2.2.2 _ (S4 a.1 (Qe (by rw[<-a.2.2.1];exact h))))
set_option maxRecDepth 100000
variable {G:Bg} {h:AH} {L L' M:List HP} {Q:Value->AH->Prop} {s:aT} {i p:Nat}
theorem lB {v:Ev} {x:Int} {e f:Nat} {z:List Value} {b:Value} (r:z.length=7) (q:0<=x) (a:Hs G h (lX i p s::aE f 0 v.enc::aE e 0 z::L)) (n:∀k,Hs G k (lX i p (s.lF x)::L)->Q (.tuple ⟨[.agg ⟨v.enc⟩,b]⟩) k):
  Cl Pr K 92 [pt p 0 0,I x] h fun _ c=>bG (uF c 7 (pt f 0 0)) fun g=>bG (uG c 7 (pt e 0 0) g) fun d=>bG (uF d 7 (pt e 0 0)) fun j=>Q (.tuple ⟨[j,b]⟩) d:=by
 refine H2 (i:=i) (s:=s) q a fun h a=>an f a (l:=v.enc) rfl rfl (aY (b:=e) a (by rw[r];rfl) rfl rfl rfl fun h a=>an e a (l:=v.enc) rfl rfl (n _ a.to))
theorem vt (B:s.Ok) (d:Hs G h L) [m:Has (lX i p) L s L']
  (f:∀H,Hs G H (lX i p (match aT.nV s i with|some r=>r.1|none=>s)::L')->Q (match aT.nV s i with|some r=> .tuple ⟨[.agg ⟨r.2.enc⟩,.bool true]⟩|none=> .tuple ⟨[.agg ⟨Ho.enc⟩,.bool false]⟩) H):Cl Pr K 163 [pt p 0 0] h Q:=by
 have d:=m.of d
 have N:=B.1
 unfold aT.nV aT.next? at f
 refine cW (bM (cs:=Ho.enc) d fun u h d=>Hr (i:=i) (s:=s) B d fun h d=>?_)
 cases hov:s.over with
 |true=>
  simp only[hov,if_true] at f ⊢
  refine aI rfl (aI rfl (bM d fun j h d=>ax (b:=j) d fun h d=>bX (eZ (aN (c:=Ho.enc) rfl ?_))))
  refine ax (b:=u) d fun h d=>an u d (l:=Ho.enc) rfl rfl (f _ d.to)
 |false=>
  have q:=Bq B hov
  simp only[hov,Bool.false_eq_true,if_false] at f ⊢
  generalize O:Ak s.prog s.at'=x at f q
  refine aI rfl (aI rfl (bM d fun j h d=>ax (b:=j) d fun h d=>bX (bV ?_)))
  obtain⟨a,c,d⟩:=rS (d.front (lX i p s))
  refine bW (an j d (l:=x.enc) rfl rfl (Sl (a:=a) (c:=c) (s:=s) d fun h d=>bM d fun g h d=>ax (b:=g) d fun h d=>?_))
  refine aB (aA (aA (am p d rfl (bH (by have:=B.2.1;omega) (aA (am j d rfl ?_))))))
  have d:Hs G h (aE j 0 x.enc::aE g 0 (aT.ev s i x 0 0 0).enc::aE u 0 Ho.enc::aE p 0 (sN i s a c)::S2 a c s.prog::L'):=d.to
  have e:∀{h:AH} {s':aT} {M:List HP} {v:Ev},s'.prog=s.prog->Hs G h (aE g 0 v.enc::aE u 0 Ho.enc::aE p 0 (sN i s' a c)::S2 a c s.prog::L')->Hs G h (lX i p s'::aE g 0 v.enc::aE u 0 Ho.enc::L'):=by
   intro h s' M v D d;exact mN p i s' (a:=a) (c:=c) d rfl D.symm
  refine bJ (aZ (fun n=>?_) (fun n=>bW (bJ (aZ (fun c2=>?_) (fun c2=>bW (bJ (aZ (fun w=>?_) (fun w=>bW (bJ (aZ (fun y=>?_) (fun y=>bW (bJ (aZ (fun A=>?_) (fun A=>bW (bJ (aZ (fun t=>?_) (fun t=>?_)))))))))))))))))
  .simp only[n,if_true] at f;have z:=q.r1 (by omega);refine bW (aA (am j d rfl (aA (ay (b:=g) (o:=0) d fun h d=>bE d fun I h d=>aA (am j d rfl (aA (am g d rfl (Ri (s:=s) (a:=a) (c:=c) d z fun h d=>?_))))))));have d:=d.sg (b:=g) (o:=0) (c:=(aT.ev s i x 0 x.b 0).enc) rfl;exact lB (s:=s.cQ x.a x.b) (v:=aT.ev s i x 0 x.b 0) rfl (by omega) (e (M:=L) (s':=s.cQ x.a x.b) rfl d.to) f
  .simp only[c2,if_true] at f;have z:=q.r1 (by omega);have E:=q.r2 (by omega);have F:=q.r3 (by omega);refine bW (bE d fun I h d=>aA (am j d rfl (Ad (s:=s) (i:=i) (a:=a) (c:=c) d E (aA (am j d rfl (Ad (s:=s) (i:=i) (a:=a) (c:=c) d F (Vt (aA ?_))))))));refine ay (b:=g) (o:=0) d fun h d=>bE d fun J h d=>aA (am j d rfl (aA (am g d rfl (Ri (s:=s) (a:=a) (c:=c) d z fun h d=>?_))));have d:=d.sg (b:=g) (o:=0) (c:=(aT.ev s i x 0 (wr (s.dX x.b.toNat+s.dX x.c.toNat)) 0).enc) rfl;exact lB (s:=s.cQ x.a (wr (s.dX x.b.toNat+s.dX x.c.toNat))) (v:=aT.ev s i x 0 (wr (s.dX x.b.toNat+s.dX x.c.toNat)) 0) rfl (by omega) (e (M:=L) (s':=s.cQ x.a (wr (s.dX x.b.toNat+s.dX x.c.toNat))) rfl d.to) f
  .simp only[w,if_true] at f;exact bW (lB (s:=s) (v:=aT.ev s i x 0 0 0) rfl (by omega) (e (M:=L) (s':=s) rfl d.to) f)
  .simp only[y,if_true] at f;refine bW (aA (am j d rfl (aA (ay (b:=g) (o:=0) d fun h d=>aB (aA (aA (am p d rfl (bJ (aZ (fun k=>?_) (fun k=>?_))))))))))
   .simp only[k,if_true] at f;refine bW (aA (am j d rfl (aB (aA (aA (ay (b:=p) (o:=0) d fun h d=>?_))))));have d:=(d.sg (b:=g) (o:=0) (c:=(aT.ev s i x 0 x.a 0).enc) rfl).sg (b:=p) (o:=0) (c:=sN i (s.yq x.a) a c) rfl;exact lB (s:=s.yq x.a) (v:=aT.ev s i x 0 x.a 0) rfl (by omega) (e (M:=L) (s':=s.yq x.a) rfl d.to) f
   .simp only[aKi k] at f;refine bW (aA (ay (b:=g) (o:=0) d fun h d=>?_));have d:=d.sg (b:=g) (o:=0) (c:=(aT.ev s i x 0 x.a 18).enc) rfl;exact lB (s:=s) (v:=aT.ev s i x 0 x.a 18) rfl (by omega) (e (M:=L) (s':=s) rfl d.to) f
  .simp only[A,if_true] at f;have D:=q.p1 (by omega);refine bW (aA (am j d rfl (aA (ay (b:=g) (o:=0) d fun h d=>aA (am j d rfl ?_)))));have d:=d.sg (b:=g) (o:=0) (c:=(aT.ev s i x 0 x.a 0).enc) rfl;exact lB (s:=s) (v:=aT.ev s i x 0 x.a 0) rfl (by omega) (e (M:=L) (s':=s) rfl d.to) f
  .simp only[t,if_true] at f;have z:=q.r1 (by omega);have D:=q.p2 (by omega);refine bW (bE d fun I h d=>aA (am j d rfl (Ad (s:=s) (i:=i) (a:=a) (c:=c) d z (aA ?_))));refine ay (b:=g) (o:=0) d fun h d=>aA (am g d rfl (bJ (aZ (fun k=>?_) (fun k=>?_))))
   .have k:s.dX x.a.toNat=0:=k;simp only[aKj k] at f;have d:=d.sg (b:=g) (o:=0) (c:=(aT.ev s i x 0 (s.dX x.a.toNat) 0).enc) rfl;refine bW (aA (am j d rfl ?_));exact lB (s:=s) (v:=aT.ev s i x 0 (s.dX x.a.toNat) 0) rfl (by omega) (e (M:=L) (s':=s) rfl d.to) f
   .have k:¬s.dX x.a.toNat=0:=k;simp only[aKi k] at f;have d:=d.sg (b:=g) (o:=0) (c:=(aT.ev s i x 0 (s.dX x.a.toNat) 0).enc) rfl;exact bW (lB (s:=s) (v:=aT.ev s i x 0 (s.dX x.a.toNat) 0) rfl (by omega) (e (M:=L) (s':=s) rfl d.to) f)
  .simp only[aKi n,aKi c2,aKi w,aKi y,aKi A,aKi t] at f;refine aN (c:=Ho.enc) rfl (ax (b:=u) d fun h d=>an u d (l:=Ho.enc) rfl rfl (f _ ?_));exact(mN p i s (a:=a) (c:=c) d rfl rfl).to
end
section
def tT (a:Acc):List Value:=[I a.word,.bool a.write,.bool a.read,I a.value]
def Pj:Acc:=⟨0,false,false,0⟩
def df:Mc.Ask:=⟨0,0,0,0,0⟩
set_option maxRecDepth 100000
variable {G:Bg} {h:AH} {L L' M:List HP} {Q:Value->AH->Prop} {s:aT} {i p:Nat}
theorem ba (z:s.Ok) (d:Hs G h L) [m:Has (lX i p) L s L']
  (f:∀q,Hs G q (lX i p s::L')->Q (match aT.uR s with|some a=> .tuple ⟨[.agg ⟨tT a⟩,.bool true]⟩|none=> .tuple ⟨[.agg ⟨tT Pj⟩,.bool false]⟩) q):Cl Pr K 166 [pt p 0 0] h Q:=by
 have d:=m.of d
 unfold aT.uR aT.next? at f
 refine cW (bM (cs:=tT Pj) d fun g h d=>Hr (i:=i) (s:=s) z d fun h d=>?_)
 cases hov:s.over with
 |true=>
  simp only[hov,if_true] at f ⊢
  refine aI rfl (aI rfl (bM d fun j h d=>ax (b:=j) d fun h d=>bX (eZ (aN (c:=tT Pj) rfl ?_))))
  refine ax (b:=g) d fun h d=>an g d (l:=tT Pj) rfl rfl (f _ d.to)
 |false=>
  have t:=Bq z hov
  simp only[hov,Bool.false_eq_true,if_false] at f ⊢
  generalize F:Ak s.prog s.at'=x at f t
  refine aI rfl (aI rfl (bM d fun j h d=>ax (b:=j) d fun h d=>bX (bV (aA (am j d rfl (O4 (bX (eN (dG (fun k=>?_) (fun k=>?_))))))))))
  .have k:Fo x.op=true:=k;have B:x.op=3\/x.op=4\/x.op=5:=of_decide_eq_true k;simp only[k,if_true] at f;have A:=t.r1 (by omega);have u:=t.r2 (by omega);obtain⟨a,c,d⟩:=rS (d.front (lX i p s));have d:Hs G h (aE j 0 x.enc::aE g 0 (tT Pj)::aE p 0 (sN i s a c)::S2 a c s.prog::L'):=d.to;have fin:∀{h:AH} {M:List HP} (e:Nat) (v:Acc),[Sub M L']->Hs G h (aE e 0 (tT v)::aE g 0 (tT Pj)::aE p 0 (sN i s a c)::S2 a c s.prog::M)->(∀q,Hs G q (lX i p s::L')->Q (.tuple ⟨[.agg ⟨tT v⟩,.bool true]⟩) q)->
     bG (uF h 4 (pt e 0 0)) fun v1=>bG (uG h 4 (pt g 0 0) v1) fun y=>bG (uF y 4 (pt g 0 0)) fun v3=>Q (.tuple ⟨[v3,.bool true]⟩) y:=by
    intro h M e v _ d E
    refine an e d (l:=tT v) rfl rfl (ax (b:=g) d fun h d=>an g d (l:=tT v) rfl rfl (E _ ?_))
    exact(mN p i s (a:=a) (c:=c) d rfl rfl).to
   refine bW (bE d fun w h d=>aA (am j d rfl (Ad (s:=s) (i:=i) (a:=a) (c:=c) d u (aN (c:=tT ⟨s.dX x.b.toNat,false,false,0⟩) rfl ?_))))
   refine kQ (r:=w) (i:=9) (n:=11) (D:=[]) (cs:=tT Pj) d rfl rfl fun e h d=>ax (b:=e) d fun h d=>aA (am j d rfl (bJ (aZ (fun c3=>?_) (fun c3=>bW (bJ (aZ (fun c5=>?_) (fun c5=>bW (bJ (aZ (fun c4=>?_) (fun c4=>?_))))))))))
   .rw[decide_eq_false (by omega),decide_eq_true (show x.op≠4 by omega),aKj (show x.op=3 by omega)] at f;refine bW (aA (ay (b:=e) (o:=0) d fun h d=>?_));have d:=d.sg (b:=e) (o:=0) (c:=tT ⟨s.dX x.b.toNat,false,true,0⟩) rfl;exact fin (M:=L') e ⟨s.dX x.b.toNat,false,true,0⟩ d.to f
   .rw[decide_eq_true (show x.op≠3 by omega),decide_eq_true (show x.op≠4 by omega),aKi (show ¬x.op=3 by omega)] at f;refine bW (aA (ay (b:=e) (o:=0) d fun h d=>aA (ay (b:=e) (o:=0) d fun h d=>bE d fun w h d=>aA (am j d rfl (Ad (s:=s) (i:=i) (a:=a) (c:=c) d A (aA (ay (b:=e) (o:=0) d fun h d=>?_)))))));have d:=d.sg (b:=e) (o:=0) (c:=tT ⟨s.dX x.b.toNat,true,true,s.dX x.a.toNat⟩) rfl;exact fin (M:=L') e ⟨s.dX x.b.toNat,true,true,s.dX x.a.toNat⟩ d.to f
   .rw[decide_eq_true (show x.op≠3 by omega),decide_eq_false (by omega),aKi (show ¬x.op=3 by omega)] at f;refine bW (aA (ay (b:=e) (o:=0) d fun h d=>bE d fun w h d=>aA (am j d rfl (Ad (s:=s) (i:=i) (a:=a) (c:=c) d A (aA (ay (b:=e) (o:=0) d fun h d=>?_))))));have d:=d.sg (b:=e) (o:=0) (c:=tT ⟨s.dX x.b.toNat,true,false,s.dX x.a.toNat⟩) rfl;exact fin (M:=L') e ⟨s.dX x.b.toNat,true,false,s.dX x.a.toNat⟩ d.to f
   .omega
  .have k:Fo x.op=false:=k;simp only[k,Bool.false_eq_true,if_false] at f;refine aN (c:=tT Pj) rfl (ax (b:=g) d fun h d=>an g d (l:=tT Pj) rfl rfl (f _ d.to))
theorem aEx (t:s.Ok) (d:Hs G h L) [m:Has (lX i p) L s L']
  (e:∀r,Hs G r (lX i p s::L')->Q (match aT.Bx s i with|some a=> .tuple ⟨[.agg ⟨a.enc⟩,.bool true]⟩|none=> .tuple ⟨[.agg ⟨df.enc⟩,.bool false]⟩) r):Cl Pr K 164 [pt p 0 0] h Q:=by
 have d:=m.of d
 unfold aT.Bx aT.next? at e
 refine cW (bM (cs:=df.enc) d fun j h d=>Hr (i:=i) (s:=s) t d fun h d=>?_)
 cases hov:s.over with
 |true=>
  simp only[hov,if_true] at e ⊢
  refine aI rfl (aI rfl (bM d fun g h d=>ax (b:=g) d fun h d=>bX (eZ (aN (c:=df.enc) rfl ?_))))
  refine ax (b:=j) d fun h d=>an j d (l:=df.enc) rfl rfl (e _ d.to)
 |false=>
  have k:=Bq t hov
  simp only[hov,Bool.false_eq_true,if_false] at e ⊢
  generalize u:Ak s.prog s.at'=x at e k
  refine aI rfl (aI rfl (bM d fun g h d=>ax (b:=g) d fun h d=>bX (bV (aA (am g d rfl (bA (aZ (fun f=>?_) (fun f=>?_))))))))
  .have f:¬x.op=8:=f;rw[aKi f] at e;refine aN (c:=df.enc) rfl (ax (b:=j) d fun h d=>an j d (l:=df.enc) rfl rfl (e _ d.to))
  .have f:x.op=8:=by have:¬x.op≠8:=f;omega
   rw[aKj f] at e
   have n:=k.r2 (by omega)
   have q:=k.r3 (by omega)
   obtain⟨a,c,d⟩:=rS (d.front (lX i p s))
   refine bE d fun v h d=>aB (aA (am p d rfl (aB (aA (aA (am p d rfl (aA (am g d rfl (aA (am g d rfl ?_))))))))))
   refine Ad (s:=s) (i:=i) (a:=a) (c:=c) d n (aA (am g d rfl (Ad (s:=s) (i:=i) (a:=a) (c:=c) d q ?_)))
   refine aN (c:=(⟨i,s.world,x.a,s.dX x.b.toNat,s.dX x.c.toNat⟩:Mc.Ask).enc) rfl (ax (b:=j) d fun h d=>an j d (l:=(⟨i,s.world,x.a,s.dX x.b.toNat,s.dX x.c.toNat⟩:Mc.Ask).enc) rfl rfl (e _ ?_))
   exact(mN p i s (a:=a) (c:=c) d rfl rfl).to
theorem Wm {x:Ins} {e z:Nat} {code:Int} {a:Option Addr} {c:Nat} {k:AH->Nat->Prop} {w:Bool} (r:w=true) (F:0<=x.b/\x.b<4) (d:Hs G h (aE e 0 x.enc::aE z 0 Ho.enc::aE p 0 (sN i s a c)::S2 a c s.prog::L))
  (E:∀q y,Hs G y (aE q 0 (aT.ev s i x (s.dX x.b.toNat) 0 code).enc::aE e 0 x.enc::aE z 0 Ho.enc::aE p 0 (sN i s a c)::S2 a c s.prog::L)->k y q):
  bG (uF h 4 (pt e 0 0)) fun v0=>Cl Pr K 203 [pt p 0 0,v0] h fun v1 A=>B4 A (.cells [(I 0),(I 0),(I 0),(I 0),(I 0),(I 0),(I 0)] 74 (0,0) true) fun f B=>bG (uG B 7 (pt f 0 0) v1) fun D=>P3 w D 13 fun _ n=>
   bG (hQ 2 (pt e 0 0)) fun H=>bG (ld1 n H) fun J=>bG (mY (pt p 0 0)) fun v9=>bG (hQ 0 v9) fun v10=>bG (hQ 0 v10) fun v11=>bG (oT 4 1 v11 J) fun v12=>bG (ld1 n v12) fun t=>bG (hQ 4 (pt f 0 0)) fun u=>bG (uG n 1 u t) fun g=>bG (hQ 6 (pt f 0 0)) fun v=>bG (uG g 1 v (I code)) fun j=>
   (pY (I code) (I code)=true)/\k j f:=by
 refine an e d (l:=x.enc) rfl rfl (Sl (a:=a) (c:=c) (s:=s) (i:=i) d fun h d=>bM d fun q h d=>ax (b:=q) d fun h d=>bE (hc:=r) d fun N h d=>aA (am e d rfl ?_))
 refine Ad (s:=s) (i:=i) (a:=a) (c:=c) d F (aA (ay (b:=q) (o:=0) d fun h d=>aA (ay (b:=q) (o:=0) d fun h d=>cZ jA (E _ _ ?_))))
 have d:=d.sg (b:=q) (o:=0) (c:=(aT.ev s i x (s.dX x.b.toNat) 0 code).enc) rfl
 exact d.to
theorem fx {value code:Int} (H:s.Ok) (d:Hs G h L) [m:Has (lX i p) L s L']
  (g:∀F,Hs G F (lX i p (aT.bQ s i value code).1::L')->Q (.tuple ⟨[.agg ⟨(aT.bQ s i value code).2.1.enc⟩,I (aT.bQ s i value code).2.2]⟩) F):Cl Pr K 239 [pt p 0 0,I value,I code] h Q:=by
 have d:=m.of d
 have Y:=H.1
 have U:=H.2.1
 unfold aT.bQ aT.next? at g
 refine cW (bM (cs:=Ho.enc) d fun j h d=>dD (bV (bW (Hr (i:=i) (s:=s) H d fun h d=>?_))))
 have bad:∀{h:AH} {M:List HP} (e:Int),[Sub M (lX i p s::L')]->Hs G h (aE j 0 Ho.enc::M)->(∀F,Hs G F (lX i p s::L')->Q (.tuple ⟨[.agg ⟨Ho.enc⟩,I e]⟩) F)->
   bG (pJ [(I 0),(I 0),(I 0),(I 0),(I 0),(I 0),(I 0)] []) fun c5=>bG (uG h 7 (pt j 0 0) (.agg ⟨c5⟩)) fun R=>bG (uF R 7 (pt j 0 0)) fun X=>Q (.tuple ⟨[X,(I e)]⟩) R:=by
  intro h M e _ d W
  refine aN (c:=Ho.enc) rfl (ax (b:=j) d fun h d=>an j d (l:=Ho.enc) rfl rfl (W _ ?_))
  exact d.tail.to
 cases hov:s.over with
 |true=>
  simp only[hov,if_true] at g ⊢
  refine aI rfl (aI rfl (bM d fun f h d=>ax (b:=f) d fun h d=>bX (eZ ?_)))
  exact bad (M:=lX i p s::L') 16 d.to g
 |false=>
  have D:=Bq H hov
  simp only[hov,Bool.false_eq_true,if_false] at g ⊢
  generalize Z:Ak s.prog s.at'=x at g D
  refine aI rfl (aI rfl (bM d fun f h d=>ax (b:=f) d fun h d=>bX (bV (aA (am f d rfl ?_)))))
  have tail:∀{h:AH} {a:Option Addr} {c q:Nat},(x.op=8\/Fo x.op=true/\(code=0\/code=19))->Hs G h (aE q 0 (aT.ev s i x (s.dX x.b.toNat) 0 code).enc::aE f 0 x.enc::aE j 0 Ho.enc::aE p 0 (sN i s a c)::S2 a c s.prog::L')->
    bG (hQ 0 (pt f 0 0)) fun r=>bG (ld1 h r) fun t=>bG (uE .eql t (I 8)) fun v20=>Br v20 (Dd 239 4 [] Q [(pt p 0 0),(I code),(pt j 0 0),(pt f 0 0),(pt q 0 0)] h) (Dd 239 5 [] Q [(pt p 0 0),(I value),(I code),(pt j 0 0),(pt f 0 0),(pt q 0 0)] h):=by
   intro h a c q S d
   have u:∀{h:AH} {s':aT} {v:Ev},s'.prog=s.prog->Hs G h (aE q 0 v.enc::aE j 0 Ho.enc::aE p 0 (sN i s' a c)::S2 a c s.prog::L')->Hs G h (lX i p s'::aE q 0 v.enc::aE j 0 Ho.enc::L'):=by
    intro h s' v V d;exact mN p i s' (a:=a) (c:=c) d rfl V.symm
   refine aA (am f d rfl (bJ (aZ (fun n=>?_) (fun n=>bW ?_))))
   .have n:x.op=8:=n;simp only[n,if_true] at g;have y:=D.r2 (by omega);have N:=D.r3 (by omega);refine bW (bE d fun O h d=>aA (am f d rfl (Ad (s:=s) (i:=i) (a:=a) (c:=c) d N (aA (ay (b:=q) (o:=0) d fun h d=>bE d fun O h d=>aA (am f d rfl (Ri (s:=s) (a:=a) (c:=c) d y fun h d=>?_)))))));refine aB (aA (aA (am p d rfl (bH (by show -9223372036854775808<=s.at'+1/\s.at'+1<=_;omega) ?_))));have d:=d.sg (b:=q) (o:=0) (c:=(aT.ev s i x (s.dX x.b.toNat) (s.dX x.c.toNat) code).enc) rfl;exact lB (s:=s.cQ x.b code) (v:=aT.ev s i x (s.dX x.b.toNat) (s.dX x.c.toNat) code) (x:=s.at'+1) rfl (by omega) (u (s':=s.cQ x.b code) rfl d.to) g
   .have n:¬x.op=8:=n;obtain⟨w,S⟩:Fo x.op=true/\(code=0\/code=19):=by rcases S with h|h;exact absurd h n;exact h
    have J:x.op=3\/x.op=4\/x.op=5:=of_decide_eq_true w
    have T:=D.r1 (by omega)
    simp only[aKi n,w,if_true] at g
    rw[aab] at g
    refine bJ (aZ (fun z=>?_) (fun z=>bW (aA (am f d rfl (bJ (aZ (fun c4=>?_) (fun c4=>?_)))))))
    .simp only[z,if_true] at g;subst z;refine bW (aB (aA (aA (am p d rfl (aad ?_)))));exact lB (s:=s) (v:=aT.ev s i x (s.dX x.b.toNat) 0 19) (x:=s.at'+1) rfl (by omega) (u (s':=s) rfl d.to) g
    .have c4:x.op=4:=c4;simp only[aKi z,c4,if_true] at g;have A:code=0:=by omega
     subst A
     refine bW (bE d fun O h d=>aA (am f d rfl (Ad (s:=s) (i:=i) (a:=a) (c:=c) d T (aA (ay (b:=q) (o:=0) d fun h d=>aB (aA (aA (am p d rfl (bH (by show -9223372036854775808<=s.at'+1/\s.at'+1<=_;omega) ?_)))))))))
     have d:=d.sg (b:=q) (o:=0) (c:=(aT.ev s i x (s.dX x.b.toNat) (s.dX x.a.toNat) 0).enc) rfl
     exact lB (s:=s) (v:=aT.ev s i x (s.dX x.b.toNat) (s.dX x.a.toNat) 0) (x:=s.at'+1) rfl (by omega) (u (s':=s) rfl d.to) g
    .have c4:¬x.op=4:=c4;simp only[aKi z,aKi c4] at g;have A:code=0:=by omega
     subst A
     refine bW (aA (ay (b:=q) (o:=0) d fun h d=>bE d fun O h d=>aA (am f d rfl (Ri (s:=s) (a:=a) (c:=c) d T fun h d=>aB (aA (aA (am p d rfl (bH (by show -9223372036854775808<=s.at'+1/\s.at'+1<=_;omega) ?_))))))))
     have d:=d.sg (b:=q) (o:=0) (c:=(aT.ev s i x (s.dX x.b.toNat) value 0).enc) rfl
     exact lB (s:=s.cQ x.a value) (v:=aT.ev s i x (s.dX x.b.toNat) value 0) (x:=s.at'+1) rfl (by omega) (u (s':=s.cQ x.a value) rfl d.to) g
  have B:∀{h:AH} {M:List HP},[Sub M L']->Hs G h (aE f 0 x.enc::aE j 0 Ho.enc::lX i p s::M)->∃a c,Hs G h (aE f 0 x.enc::aE j 0 Ho.enc::aE p 0 (sN i s a c)::S2 a c s.prog::L'):=by
   intro h M _ d;obtain⟨a,c,d⟩:=rS (d.front (lX i p s));exact⟨a,c,d.to⟩
  have d:Hs G h (aE f 0 x.enc::aE j 0 Ho.enc::lX i p s::L'):=d.to
  refine bA (aZ (fun n=>?_) (fun n=>?_))
  .have n:¬x.op=8:=n;refine aA (am f d rfl (O4 (bX (eN (dG (fun w=>?_) (fun w=>?_))))))
   .have w:Fo x.op=true:=w;have J:x.op=3\/x.op=4\/x.op=5:=of_decide_eq_true w;have y:=D.r2 (by omega);refine bW (aA (am f d rfl (bA (bS n (bA (aZ (fun P=>bA (aZ (fun E=>?_) (fun E=>?_))) (fun P=>?_)))))))
    .simp only[aKi n,w,if_true] at g;rw[aKj ⟨P,E⟩] at g;exact bad (M:=lX i p s::L') 1 d.to g
    .obtain⟨a,c,d⟩:=B (M:=L') d;refine bW (Wm (k:=fun h q=>bG (hQ 0 (pt f 0 0)) fun r=>bG (ld1 h r) fun t=>bG (uE .eql t (I 8)) fun v20=>Br v20 (Dd 239 4 [] Q [(pt p 0 0),(I code),(pt j 0 0),(pt f 0 0),(pt q 0 0)] h) (Dd 239 5 [] Q [(pt p 0 0),(I value),(I code),(pt j 0 0),(pt f 0 0),(pt q 0 0)] h)) (by kernel_rfl) y d fun q h d=>tail (.inr ⟨w,by omega⟩) d)
    .obtain⟨a,c,d⟩:=B (M:=L') d;exact Wm (k:=fun h q=>bG (hQ 0 (pt f 0 0)) fun r=>bG (ld1 h r) fun t=>bG (uE .eql t (I 8)) fun v20=>Br v20 (Dd 239 4 [] Q [(pt p 0 0),(I code),(pt j 0 0),(pt f 0 0),(pt q 0 0)] h) (Dd 239 5 [] Q [(pt p 0 0),(I value),(I code),(pt j 0 0),(pt f 0 0),(pt q 0 0)] h)) (by kernel_rfl) y d fun q h d=>tail (.inr ⟨w,by omega⟩) d
   .have w:Fo x.op=false:=w;simp only[aKi n,w,Bool.false_eq_true,if_false] at g;exact bad (M:=lX i p s::L') 16 d.to g
  .have n:x.op=8:=by have:¬x.op≠8:=n;omega
   have y:=D.r2 (by omega)
   refine aA (am f d rfl (bA (aJ (by show ¬x.op≠8;omega) ?_)))
   obtain⟨a,c,d⟩:=B (M:=L') d
   exact Wm (k:=fun h q=>bG (hQ 0 (pt f 0 0)) fun r=>bG (ld1 h r) fun t=>bG (uE .eql t (I 8)) fun v20=>Br v20 (Dd 239 4 [] Q [(pt p 0 0),(I code),(pt j 0 0),(pt f 0 0),(pt q 0 0)] h) (Dd 239 5 [] Q [(pt p 0 0),(I value),(I code),(pt j 0 0),(pt f 0 0),(pt q 0 0)] h)) (by kernel_rfl) y d fun q h d=>tail (.inl n) d
end
section
set_option maxRecDepth 100000
variable {G:Bg} {h:AH} {L L' M:List HP} {Q:Value->AH->Prop} {s:aT} {i p:Nat}
theorem Zp {α:Type} {enc:α->List Value} {l:List α}:(l.map enc).flatten=eL enc l:=by simp[eL,List.flatMap]
theorem Qg {v:Value} {e:TypeId} {l:List Ins} (hb:l.length<=1000) (b:Hs G h (Al G 4 e v (l.map Ins.enc)::L)) (f:∀a c d,Hs G d (S2 a c l::Al G 4 e v (l.map Ins.enc)::L)->Q (.slice a l.length c) d):Cl Pr K 49 [v] h Q:=by
 refine cW (Iw (bytes:=32) (e:=76) b (by decide) (List.length_map ..) (by rw[Zp];exact Fy) (by omega) fun a c h b=>f a c h ?_);rw[Zp] at b;exact b
theorem az {v:Value} {w:Int} {e:TypeId} {pr:List Ins} (n:i<4) (q:0<=w/\w<=3) (j:Ob G 1 yM) (hc:(nB pr).2=0) (d:Hs G h (Al G 4 e v (pr.map Ins.enc)::L))
  (k:∀p f,Hs G f (lX i p (tU pr w)::Al G 4 e v (pr.map Ins.enc)::L)->Q (.tuple ⟨[pt p 0 0,I 0]⟩) f):Cl Pr K 36 [I i,I w,v] h Q:=by
 have g:pr.length<=32:=by
  unfold nB at hc;split at hc;cases hc;omega
 refine cW (aS (aaa (dR (aaa (aS (aaa (mR (aaa (bW (Ff j d fun h d=>aI rfl (aI rfl (bA (aaa (bW ?_))))))))))))))
 refine Qg (l:=pr) (by omega) d fun a c h d=>?_
 refine aN (c:=sN i ⟨fun _=>0,0,0,false,pr⟩ a c) rfl (dF d fun p h d=>aB (aA (aA (ay (b:=p) (o:=0) d fun h d=>?_))))
 have d:Hs G h (aE p 0 (sN i ⟨fun _=>0,0,w,false,pr⟩ a c)::S2 a c pr::Al G 4 e v (pr.map Ins.enc)::L):=d
 have d:=mN p i ⟨fun _=>0,0,w,false,pr⟩ (a:=a) (c:=c) d rfl rfl
 exact H2 (i:=i) (s:=⟨fun _=>0,0,w,false,pr⟩) (by omega) d fun h d=>k _ _ d
end
end Go.Proofs.YtmhapehobfnoiaaGreatDoor
namespace Go.Proofs.YtmhapehobfnoiaaGreatDoor
open Go Go.Ab Go.Hm Go.At Go.Mc Go.Ct
section
instance:Fx Ev.enc 7 where
 len _:=rfl
 cel _:=rfl
structure MN where
 lc:List Nat
 lk:List Nat
 lq:List Nat
 ac:Option Addr
 ak:Option Addr
 aq:Option Addr
 al:Option Addr
 cc:Nat
 ck:Nat
 cq:Nat
 cl:Nat
 hb:Nat
 mb:Nat
 fb:Nat
def fH (Cf:bN) (x:MN) (n:Nat):List Value:=Cf.enc++[.slice x.ac x.lc.length x.cc,.slice x.ak x.lk.length x.ck,.slice x.aq x.lq.length x.cq,pt x.hb 0 0,pt x.mb 0 0,pt x.fb 0 0,.slice x.al n x.cl]
def jq (Cf:bN) (x:MN):Prop:=x.lc.length=Cf.aD.toNat/\x.lk.length=Cf.aD.toNat/\x.lq.length=Cf.aD.toNat
abbrev tS:Nat->Nat->aT->HP:=fun i p s=>lX i p s
abbrev qC (G:Bg) (Cf:bN):Nat->Nat->iH->HP:=fun i p s=>C.iF G p Cf i s
abbrev pA (Cf:bN):Nat->Nat->jP->HP:=fun _ p s=>kU p Cf s
abbrev H7 (a:Option Addr) (c:Nat) (l:List Ev):HP:=ls Ev.enc 7 74 a c l
abbrev gh (a:Option Addr) (c:Nat) (l:List Nat):HP:=ls pE 1 95 a c l
abbrev Vf (a:Option Addr) (c:Nat) (l:List Nat):HP:=ls pE 1 98 a c l
abbrev Ve (a:Option Addr) (c:Nat) (l:List Nat):HP:=ls pE 1 101 a c l
def Lw (G:Bg) (Cf:bN) (m:Nat) (M:cU) (x:MN):List HP:=[tX (jq Cf x),aE m 0 (fH Cf x M.log.length),gh x.ac x.cc x.lc,Vf x.ak x.ck x.lk,Ve x.aq x.cq x.lq,
  mX tS x.lc M.bC,mX (qC G Cf) x.lk M.cG,mX (pA Cf) x.lq M.cA,H.gG G x.hb Cf M.home,fO Cf x.mb M.bZ,oD Cf x.fb M.iC,H7 x.al x.cl M.log]
def jC (G:Bg) (Cf:bN) (m:Nat) (x:MN) (M:cU):HP:=sp (Lw G Cf m M x)
def bU (G:Bg) (Cf:bN) (m:Nat) (M:cU):HP:=sB fun x:MN=>sp (Lw G Cf m M x)
set_option maxRecDepth 100000
variable {G:Bg} {h:AH} {L L':List HP} {Q:Value->AH->Prop} {Cf:bN} {m:Nat} {M:cU}
theorem cY (a:Hs G h (bU G Cf m M::L)):∃x,jq Cf x/\Hs G h (aE m 0 (fH Cf x M.log.length)::gh x.ac x.cc x.lc::Vf x.ak x.ck x.lk::Ve x.aq x.cq x.lq::
  mX tS x.lc M.bC::mX (qC G Cf) x.lk M.cG::mX (pA Cf) x.lq M.cA::H.gG G x.hb Cf M.home::fO Cf x.mb M.bZ::oD Cf x.fb M.iC::H7 x.al x.cl M.log::L):=by
 obtain⟨x,a⟩:=a.tW
 obtain⟨b,a⟩:=Hs.Vd a.unpack
 exact⟨x,b,a⟩
theorem yE {x:MN} (a:jq Cf x) (b:Hs G h (aE m 0 (fH Cf x M.log.length)::gh x.ac x.cc x.lc::Vf x.ak x.ck x.lk::Ve x.aq x.cq x.lq::
  mX tS x.lc M.bC::mX (qC G Cf) x.lk M.cG::mX (pA Cf) x.lq M.cA::H.gG G x.hb Cf M.home::fO Cf x.mb M.bZ::oD Cf x.fb M.iC::H7 x.al x.cl M.log::L)):Hs G h (bU G Cf m M::L):=
 Hs.qU (A:=fun x:MN=>sp (Lw G Cf m M x)) x (Hs.pack (A:=Lw G Cf m M x) (Hs.U5 a b))
theorem bK {x:MN} (M:cU) (q:jq Cf x) {e L2 f g j k l n o a b:List HP} (r:Hs G h L) [t:dT (aE m 0 (fH Cf x M.log.length)) L e] [u:dT (gh x.ac x.cc x.lc) e L2] [v:dT (Vf x.ak x.ck x.lk) L2 f] [w:dT (Ve x.aq x.cq x.lq) f g] [y:dT (mX tS x.lc M.bC) g j] [z:dT (mX (qC G Cf) x.lk M.cG) j k] [A:dT (mX (pA Cf) x.lq M.cA) k l] [B:dT (H.gG G x.hb Cf M.home) l n] [D:dT (fO Cf x.mb M.bZ) n o] [c:dT (oD Cf x.fb M.iC) o a] [d:dT (H7 x.al x.cl M.log) a b]:Hs G h (bU G Cf m M::b):=
 yE (x:=x) q (r.perm (t.perm.trans ((u.perm.trans ((v.perm.trans ((w.perm.trans ((y.perm.trans ((z.perm.trans ((A.perm.trans ((B.perm.trans ((D.perm.trans ((c.perm.trans ((d.perm).cons _)).cons _)).cons _)).cons _)).cons _)).cons _)).cons _)).cons _)).cons _)).cons _)))
theorem mG {x:MN} (M:cU) (q:jq Cf x) {e L2 f g j k l n o a b:List HP} (r:Hs G h L) [t:dT (aE m 0 (fH Cf x M.log.length)) L e] [u:dT (gh x.ac x.cc x.lc) e L2] [v:dT (Vf x.ak x.ck x.lk) L2 f] [w:dT (Ve x.aq x.cq x.lq) f g] [y:dT (mX tS x.lc M.bC) g j] [z:dT (mX (qC G Cf) x.lk M.cG) j k] [B:dT (mX (pA Cf) x.lq M.cA) k l] [D:dT (H.gG G x.hb Cf M.home) l n] [E:dT (fO Cf x.mb M.bZ) n o] [c:dT (oD Cf x.fb M.iC) o a] [d:dT (H7 x.al x.cl M.log) a b]:Hs G h (jC G Cf m x M::b):=
 Hs.pack (A:=Lw G Cf m M x) (Hs.U5 q (r.perm (t.perm.trans ((u.perm.trans ((v.perm.trans ((w.perm.trans ((y.perm.trans ((z.perm.trans ((B.perm.trans ((D.perm.trans ((E.perm.trans ((c.perm.trans ((d.perm).cons _)).cons _)).cons _)).cons _)).cons _)).cons _)).cons _)).cons _)).cons _)).cons _))))
theorem kN {x:MN} (a:Hs G h (jC G Cf m x M::L)):jq Cf x/\Hs G h (aE m 0 (fH Cf x M.log.length)::gh x.ac x.cc x.lc::Vf x.ak x.ck x.lk::Ve x.aq x.cq x.lq::
  mX tS x.lc M.bC::mX (qC G Cf) x.lk M.cG::mX (pA Cf) x.lq M.cA::H.gG G x.hb Cf M.home::fO Cf x.mb M.bZ::oD Cf x.fb M.iC::H7 x.al x.cl M.log::L):=Hs.Vd a.unpack
theorem aDz (a:Hs G h (bU G Cf m M::L)):∃x,Hs G h (jC G Cf m x M::L):=a.tW
theorem aCo {x:MN} (a:Hs G h (jC G Cf m x M::L)):Hs G h (bU G Cf m M::L):=Hs.qU (A:=fun x:MN=>sp (Lw G Cf m M x)) x a
theorem Qu {a:Option Addr} {c i:Nat} {l:List Nat} {k:Value->Prop} (f:Hs G h L) [g:Has (gh a c) L l L'] (b:i<l.length) (d:k (pt (l.getD i 0) 0 0)):bG (lN 1 (.slice a l.length c) (I i)) fun p=>bG (ld1 h p) k:=
 sc (e:=95) (show Hs G h (gh a c l::L') from g.of f) b d
theorem Ft {a:Option Addr} {c i:Nat} {l:List Nat} {k:Value->Prop} (f:Hs G h L) [g:Has (Vf a c) L l L'] (b:i<l.length) (d:k (pt (l.getD i 0) 0 0)):bG (lN 1 (.slice a l.length c) (I i)) fun p=>bG (ld1 h p) k:=
 sc (e:=98) (show Hs G h (Vf a c l::L') from g.of f) b d
theorem Zx {a:Option Addr} {c i q:Nat} {l:List Nat} {k:AH->Prop} (g:Hs G h L) [j:Has (Vf a c) L l L'] (d:i<l.length) (f:∀b,Hs G b (Vf a c (l.set i q)::L')->k b):bG (lN 1 (.slice a l.length c) (I i)) fun p=>bG (uG h 1 p (pt q 0 0)) k:=
 mv (e:=98) (show Hs G h (Vf a c l::L') from j.of g) d f
theorem Ga {a:Option Addr} {c i:Nat} {l:List Nat} {k:Value->Prop} (f:Hs G h L) [g:Has (Ve a c) L l L'] (b:i<l.length) (d:k (pt (l.getD i 0) 0 0)):bG (lN 1 (.slice a l.length c) (I i)) fun p=>bG (ld1 h p) k:=
 sc (e:=101) (show Hs G h (Ve a c l::L') from g.of f) b d
theorem Pd {a:Option Addr} {c i q:Nat} {l:List Nat} {k:AH->Prop} (g:Hs G h L) [j:Has (Ve a c) L l L'] (d:i<l.length) (f:∀b,Hs G b (Ve a c (l.set i q)::L')->k b):bG (lN 1 (.slice a l.length c) (I i)) fun p=>bG (uG h 1 p (pt q 0 0)) k:=
 mv (e:=101) (show Hs G h (Ve a c l::L') from j.of g) d f
theorem Hq {l:List Nat} {s:Nat->aT} {i:Nat} {t:aT} (a:i<l.length) (b:Hs G h L) [k:dT (lX i (l.getD i 0) t) L L'] {N:List HP} [c:dT (Fq tS l s i) L' N]:Hs G h (mX tS l (aX s i t)::N):=D3 a (b.cC (lX i (l.getD i 0) t) (Fq tS l s i))
theorem Qh {a:Option Addr} {c:Nat} {l:List Ev} {v:Ev} {a2:Option Addr} {c2:Nat} {k:Value×AH->Prop} {N:List HP} (hb:l.length<=2^30) (b:Hs G h L) [n:Has (H7 a c) L l L'] [m2:dT (H7 a2 c2 [v]) L' N]
  (j:∀d e g,Hs G g (H7 d e (l++[v])::N)->k (.slice d (l++[v]).length e,g)):bG (iV 7 56 74 h (.slice a l.length c) (.slice a2 1 c2)) k:=by
 have b:=n.of b
 have f:Hs G h (H7 a c l::H7 a2 c2 [v]::N):=b.perm (m2.perm.cons _)
 exact kL (l:=l) (l2:=[v]) (a:=a) (c:=c) (a2:=a2) (c2:=c2) f (by simp;omega) fun d e h b=>j d e h b.lU.tail
end
section
set_option maxRecDepth 100000
variable {G:Bg} {h:AH} {L L':List HP} {Q:Value->AH->Prop} {Cf:bN} {m:Nat} {M:cU}
theorem nW {i:Nat} {v c:Int} (H:(i:Int)<Cf.aD) (B:(M.bC i).Ok) (k:M.log.length<=2^30) (d:Hs G h L) [E:Has (bU G Cf m) L M L'] (g:∀A,Hs G A (bU G Cf m (M.bQ i v c).1::L')->Q (I (M.bQ i v c).2) A):Cl Pr K 174 [pt m 0 0,I i,I v,I c] h Q:=by
 obtain⟨x,z,d⟩:=cY (E.of d);have f:i<x.lc.length:=by have:=z.1;omega
 unfold cU.bQ at g;refine cW (aB (aA (am m d rfl (Qu d f ?_))));have d:=gV (R:=tS) (l:=x.lc) (s:=M.bC) f d;refine fx (i:=i) (p:=x.lc.getD i 0) (s:=M.bC i) B d fun h d=>?_;have d:=Hq (l:=x.lc) (s:=M.bC) (i:=i) (t:=(aT.bQ (M.bC i) i v c).1) f d;refine aI rfl (aI rfl (bM d fun q h d=>ax (b:=q) d fun h d=>bA (aZ (fun n=>?_) (fun n=>?_))));rw[aKj n] at g;refine g _ ?_;have e:aX M.bC i (aT.bQ (M.bC i) i v c).1=M.bC:=by
  have:(aT.bQ (M.bC i) i v c).1=M.bC i:=by
   unfold aT.bQ at n ⊢;cases hn:aT.next? (M.bC i) with
   |none=>rfl
   |some y=>grind
  rw[this];funext j;unfold aX;split;rename_i e;rw[e];rfl
 rw[e] at d;exact yE z d.to;rw[aKi n] at g;refine bW (bE d fun F h d=>aB (aA (am m d rfl (an q d (l:=(aT.bQ (M.bC i) i v c).2.1.enc) rfl rfl (aN (c:=(aT.bQ (M.bC i) i v c).2.1.enc) rfl ?_)))));refine kD (r:=F) (i:=6) (N:=11) (D:=[]) (W:=7) d rfl rfl rfl rfl rfl fun a h d=>?_;have d:=nX (enc:=Ev.enc) (x:=(aT.bQ (M.bC i) i v c).2.1) d;refine Qh (l:=M.log) (v:=(aT.bQ (M.bC i) i v c).2.1) k d fun u w h d=>aB (aA (ay (b:=m) (o:=0) d fun h d=>cZ dJ (g _ ?_)));have e:dS (fH Cf x M.log.length) (0+13) [.slice u (M.log++[(aT.bQ (M.bC i) i v c).2.1]).length w]=fH Cf {x with al:=u,cl:=w} (M.log++[(aT.bQ (M.bC i) i v c).2.1]).length:=rfl;rw[e] at d;exact yE (M:=(M.Mu i (aT.bQ (M.bC i) i v c).1).Mv (aT.bQ (M.bC i) i v c).2.1) (x:={x with al:=u,cl:=w}) z d.to
end
section
set_option maxRecDepth 100000
variable {G:Bg} {h:AH} {L L':List HP} {Q:Value->AH->Prop} {Cf:bN} {m:Nat} {x:MN} {M:cU}
abbrev wtX (G:Bg) (Cf:bN) (m:Nat) (x:MN) (M:cU) (p2 a c:Nat) (co:Int) (e:Nat->Value) (d l:Nat) (st:LoopState×Option Code) (b:Bool) (pr:Prop):HP:=
 sp [tX pr,gF Pr 15 (gI 58) 32 e d l st,sp [aE p2 0 [pt m 0 0],aE a 0 [I co],aE c 0 [.bool b]],jC G Cf m x M]
theorem jr {co:Int} (hm:iA Cf M.bZ) (f:Hs G h L) [mm:Has (jC G Cf m x) L M L'] (z:∀V,Hs G V (jC G Cf m x M::L')->Q (.bool (M.waits co)) V):Cl Pr K 15 [pt m 0 0,I co] h Q:=by
 unfold cU.waits at z;refine cW (dF (mm.of f) fun n h f=>dF f fun t h f=>bM f fun j h f=>am n f rfl (dD (bV ?_)));obtain⟨S,f⟩:=kN (f.front (jC G Cf m x M));refine bW (am n f rfl (aB (aA (am m f rfl (Dk (C:=Cf) (m:=M.bZ) f fun q qa qc h f=>?_)))));have f:=mG (m:=m) (x:=x) M S f;refine iR f fun d h f=>?_;intro e he;refine jI f fun l h f=>nF rfl ?_;have f:Hs G h (H.Mo 3 q qa qc (M.bZ.running.map fun k:Nat=>(k:Int))::wtX G Cf m x M n t j co e d l (.ready,none) false (∀g∈([]:List Int),M.bZ.lY co g.toNat=false)::mk d ()::L'):=by
  have f:=(f.cI (aE n 0 [pt m 0 0]) (aE t 0 [I co]) (aE j 0 [.bool false])).Rp;have f:=f.cI (gF Pr 15 (gI 58) 32 e d l (.ready,none)) (sp [aE n 0 [pt m 0 0],aE t 0 [I co],aE j 0 [.bool false]]) (jC G Cf m x M);have f:=Hs.El (Hs.U5 (p:=∀g∈([]:List Int),M.bZ.lY co g.toNat=false) (by simp) f);exact f.to
 refine(H.Fa (e:=3) (p:=q) (a:=qa) (c:=qc) (xs:=M.bZ.running.map fun k:Nat=>(k:Int)) (by have:=List.length_filter_le (fun g=>(M.bZ.runs g).isSome) (List.range 16);simp[Mon.running] at this ⊢;omega)).fold
  (X:=fun done=>wtX G Cf m x M n t j co e d l (.ready,none) false (∀g∈done,M.bZ.lY co g.toNat=false)) (Z:=fun _ y=>wtX G Cf m x M n t j co e d l (.done,some .ret) true (y∈(M.bZ.running.map fun k:Nat=>(k:Int))/\M.bZ.lY co y.toNat=true)) f ?_ ?_ ?_
 .intro done y h N W f;obtain⟨w,f⟩:=gH f;have f:=f.B5;obtain⟨k,A,rfl⟩:∃k∈M.bZ.running,(k:Int)=y:=by
   obtain⟨ys,U⟩:=W;have:y∈M.bZ.running.map fun k:Nat=>(k:Int):=by rw[<-U];simp
   obtain⟨k,h1,h2⟩:=List.mem_map.1 this;exact⟨k,h1,h2⟩
  obtain⟨r,F⟩:=Option.isSome_iff_exists.1 (rH.1 A).2;have D:M.bZ.run (k:Int)=some r:=by unfold Mon.run;rw[aac];exact F
  have B:M.bZ.phase (k:Int)≠0:=by
   unfold Mon.phase;rw[D];have:=(hm.run k r F).2.2.1;dsimp only;omega
  have f:=(f.front (sp [aE n 0 [pt m 0 0],aE t 0 [I co],aE j 0 [.bool false]])).B5;obtain⟨S,f⟩:=kN (f.front (jC G Cf m x M));refine rW (oW f) he (fU f fun h f=>am n f rfl (aB (aA (am m f rfl (aFw (C:=Cf) (m:=M.bZ) f fun a h f O α β=>?_)))));rw[O B,D,decide_eq_true B];have f:=mG (m:=m) (x:=x) M S f;refine aI rfl (aI rfl (bM f fun Y h f=>aY (b:=Y) (vs:=Aq r) f rfl rfl rfl rfl fun h f=>eZ (aA (am Y f rfl (am t f rfl (bJ (aZ (fun J=>?_) (fun J=>?_))))))));refine ax (b:=j) f fun h f=>gM f fun h f=> .inr ⟨rfl,?_⟩;have f:=(f.cI (aE n 0 [pt m 0 0]) (aE t 0 [I co]) (aE j 0 [.bool true])).Rp;have f:=f.cI (gF Pr 15 (gI 58) 32 e d l (.done,some .ret)) (sp [aE n 0 [pt m 0 0],aE t 0 [I co],aE j 0 [.bool true]]) (jC G Cf m x M);refine(Hs.El (Hs.U5 (p:=((k:Int)∈(M.bZ.running.map fun k:Nat=>(k:Int))/\M.bZ.lY co ((k:Int)).toNat=true)) ⟨List.mem_map.2 ⟨k,A,rfl⟩,?_⟩ f)).to;unfold Mon.lY;rw[Int.toNat_natCast,F];exact decide_eq_true J
  .refine gM f fun h f=> .inl ⟨rfl,?_⟩;have f:=(f.cI (aE n 0 [pt m 0 0]) (aE t 0 [I co]) (aE j 0 [.bool false])).Rp;have f:=f.cI (gF Pr 15 (gI 58) 32 e d l (.ready,none)) (sp [aE n 0 [pt m 0 0],aE t 0 [I co],aE j 0 [.bool false]]) (jC G Cf m x M);refine(Hs.El (Hs.U5 (p:=∀g∈done++[((k:Nat):Int)],M.bZ.lY co g.toNat=false) ?_ f)).to;intro g u;rcases List.mem_append.1 u with u|u;exact w g u;rw[List.mem_singleton.1 u,Int.toNat_natCast];unfold Mon.lY;rw[F];exact decide_eq_false J
 intro v h f;obtain⟨w,f⟩:=gH (f.front (wtX G Cf m x M n t j co e d l (.ready,none) false (∀g∈M.bZ.running.map (fun k:Nat=>(k:Int)),M.bZ.lY co g.toNat=false)));have f:=f.B5;have T:M.bZ.calls co=false:=by
  unfold Mon.calls;rw[List.any_eq_false];intro g u;have:=w g (List.mem_map.2 ⟨g,u,rfl⟩);rw[Int.toNat_natCast] at this;rw[this];simp
 rw[T] at z;have f:=(f.front (sp [aE n 0 [pt m 0 0],aE t 0 [I co],aE j 0 [.bool false]])).B5;exact jL f fun h f=>jK (ax (b:=j) f fun h f=>kG f fun h f=>iU (am j f rfl (z _ f.to)))
 .intro done y v h W f;obtain⟨w,f⟩:=gH (f.front (wtX G Cf m x M n t j co e d l (.done,some .ret) true (y∈(M.bZ.running.map fun k:Nat=>(k:Int))/\M.bZ.lY co y.toNat=true)));have f:=f.B5;have E:M.bZ.calls co=true:=by
   unfold Mon.calls;rw[List.any_eq_true];obtain⟨k,P,R⟩:=List.mem_map.1 w.1;refine⟨k,P,?_⟩;have:=w.2;rw[<-R,Int.toNat_natCast] at this;exact this
  rw[E] at z;have f:=(f.front (sp [aE n 0 [pt m 0 0],aE t 0 [I co],aE j 0 [.bool true]])).B5;exact F0 f fun h f=>Wg (kG f fun h f=>iU (am j f rfl (z _ f.to)))
end
section
theorem jd {l done:List (Int×Int)} {y:Int×Int} {g:Int} (b:done++[y]<+:l) (a:∀z∈done,z.1≠g) (c:y.1=g):mI l g=some y.2:=by
 obtain⟨r,rfl⟩:=b;unfold mI;rw[List.append_assoc,List.find?_append,List.find?_eq_none.2 (by simpa using a)];simp[c]
theorem Xe {l:List (Int×Int)} {g:Int} (a:∀z∈l,z.1≠g):mI l g=none:=by
 unfold mI;rw[List.find?_eq_none.2 (by simpa using a)];rfl
set_option maxRecDepth 100000
variable {G:Bg} {h:AH} {L L':List HP} {Q:Value->AH->Prop} {Cf:bN} {m:Nat} {M:cU}
abbrev knX (G:Bg) (Cf:bN) (m:Nat) (M:cU) (p2 a:Nat) (g v:Int) (e:Nat->Value) (d l:Nat) (st:LoopState×Option Code) (pr:Prop):HP:=
 sp [tX pr,gF Pr 209 (gI 218) 25 e d l st,sp [aE p2 0 [I g],aE a 0 [I v]],bU G Cf m M]
theorem uI {l:List Nat} {s:Nat->jP} {i:Nat} {t:jP} (a:i<l.length) (b:Hs G h L) [k:dT (kU (l.getD i 0) Cf t) L L'] {N:List HP} [c:dT (Fq (pA Cf) l s i) L' N]:Hs G h (mX (pA Cf) l (aX s i t)::N):=D3 a (b.cC (kU (l.getD i 0) Cf t) (Fq (pA Cf) l s i))
theorem bT {α:Type} {s:Nat->α} {i:Nat}:aX s i (s i)=s:=by
 funext j;unfold aX;split;rename_i e;rw[e];rfl
theorem jb {i:Nat} {g:Int} (F:(i:Int)<Cf.aD) (hb:(M.cA i).known.length<=100) (a:Hs G h L) [E:Has (bU G Cf m) L M L'] (n:∀w,Hs G w (bU G Cf m M::L')->Q (I (M.known i g)) w):Cl Pr K 209 [pt m 0 0,I i,I g] h Q:=by
 unfold cU.known at n;refine cW (dF (E.of a) fun f h a=>bM a fun c h a=>ax (b:=c) a fun h a=>?_);obtain⟨x,A,a⟩:=cY (a.front (bU G Cf m M));have j:i<x.lq.length:=by have:=A.2.2;omega
 refine aB (aA (am m a rfl (Ga a j ?_)));have a:=gV (R:=pA Cf) (l:=x.lq) (s:=M.cA) j a;refine Ow (C:=Cf) (p:=x.lq.getD i 0) (s:=M.cA i) hb a fun q h a=>?_;have a:=uI (Cf:=Cf) (l:=x.lq) (s:=M.cA) (i:=i) (t:=M.cA i) j a;rw[bT] at a;have a:=bK (m:=m) (x:=x) M A a;refine iR a fun d h a=>?_;intro e D;refine jI a fun l h a=>nF rfl ?_;have a:Hs G h (Cr q (M.cA i).known::knX G Cf m M f c g 0 e d l (.ready,none) (∀z∈([]:List (Int×Int)),z.1≠g)::mk d ()::L'):=by
  have a:=(a.cC (aE f 0 [I g]) (aE c 0 [I 0])).yS;have a:=a.cI (gF Pr 209 (gI 218) 25 e d l (.ready,none)) (sp [aE f 0 [I g],aE c 0 [I 0]]) (bU G Cf m M);have a:=Hs.El (Hs.U5 (p:=∀z∈([]:List (Int×Int)),z.1≠g) (by simp) a);exact a.to
 refine(Y6 (q:=q) (l:=(M.cA i).known) (by omega)).fold
  (X:=fun done=>knX G Cf m M f c g 0 e d l (.ready,none) (∀z∈done,z.1≠g)) (Z:=fun done y=>knX G Cf m M f c g y.2 e d l (.done,some (.exit 0)) (mI (M.cA i).known g=some y.2)) a ?_ ?_ ?_
 .intro done y h N B a;obtain⟨k,a⟩:=gH a;have a:=a.B5;have a:=(a.front (sp [aE f 0 [I g],aE c 0 [I 0]])).zH;refine rW (oW a) D (fU a fun h a=>am f a rfl (bJ (aZ (fun u=>?_) (fun u=>?_))));refine ax (b:=c) a fun h a=>gM a fun h a=> .inr ⟨rfl,?_⟩;have a:=(a.cC (aE f 0 [I g]) (aE c 0 [I y.2])).yS;have a:=a.cI (gF Pr 209 (gI 218) 25 e d l (.done,some (.exit 0))) (sp [aE f 0 [I g],aE c 0 [I y.2]]) (bU G Cf m M);exact(Hs.El (Hs.U5 (p:=mI (M.cA i).known g=some y.2) (jd B k u) a)).to
  .refine gM a fun h a=> .inl ⟨rfl,?_⟩;have a:=(a.cC (aE f 0 [I g]) (aE c 0 [I 0])).yS;have a:=a.cI (gF Pr 209 (gI 218) 25 e d l (.ready,none)) (sp [aE f 0 [I g],aE c 0 [I 0]]) (bU G Cf m M);refine(Hs.El (Hs.U5 (p:=∀z∈done++[y],z.1≠g) ?_ a)).to;intro z r;rcases List.mem_append.1 r with r|r;exact k z r;rw[List.mem_singleton.1 r];exact u
 intro v h a;obtain⟨k,a⟩:=gH (a.front (knX G Cf m M f c g 0 e d l (.ready,none) (∀z∈(M.cA i).known,z.1≠g)));have a:=a.B5;rw[Xe k] at n;have a:=(a.front (sp [aE f 0 [I g],aE c 0 [I 0]])).zH;exact jL a fun h a=>jK (am c a rfl (kG a fun h a=>iU (n _ a.to)))
 .intro done y v h B a;obtain⟨k,a⟩:=gH (a.front (knX G Cf m M f c g y.2 e d l (.done,some (.exit 0)) (mI (M.cA i).known g=some y.2)));have a:=a.B5;rw[k] at n;have a:=(a.front (sp [aE f 0 [I g],aE c 0 [I y.2]])).zH;exact F0 a fun h a=>Q3 rfl (am c a rfl (kG a fun h a=>iU (n _ a.to)))
end
end Go.Proofs.YtmhapehobfnoiaaGreatDoor
namespace Go.Proofs.YtmhapehobfnoiaaGreatDoor
open Go Go.Ab Go.Hm Go.At Go.Mc Go.Ct Go.Nt Go.Is
section
instance:Fx aH.enc 9:=inferInstance
structure Gb (G:Bg):Prop where
 lim:Ob G 0 fJ
 kin:Ob G 2 yK
 row:Ob G 3 kH
set_option maxRecDepth 100000
variable {G:Bg} {h:AH} {L L':List HP} {Q:Value->AH->Prop} {Cf:bN} {m:Nat} {M:cU}
theorem Ep {α:Type} {R:Nat->Nat->α->HP} {l:List Nat} {s:Nat->α} {i q:Nat} {t:α} (a:i<l.length) (b:Hs G h L) [k:dT (R i q t) L L'] {N:List HP} [c:dT (Fq R l s i) L' N]:Hs G h (mX R (l.set i q) (aX s i t)::N):=nh a (b.cC (R i q t) (Fq R l s i))
theorem Ee {F:fM} {l:List aH} (h:(fM.send Cf F l).2≠0):(fM.send Cf F l).1=F:=by
 unfold fM.send at h ⊢;split;rfl;rename_i a;rw[aKi a] at h;cases hp:fM.zD Cf.depth F l with
 |none=>rfl
 |some b=>rw[hp] at h;exact absurd rfl h
theorem s8 {i:Nat} {g:Int} (hC:Cf.Ok) (hG:Gb G) (A:(i:Int)<Cf.aD) (hb:(M.cA i).known.length<=100) (y:lh Cf M.iC) (d:Hs G h L) [z:Has (bU G Cf m) L M L'] (k:∀w,Hs G w (bU G Cf m (M.walk Cf i g).1::L')->Q (I (M.walk Cf i g).2) w):Cl Pr K 208 [pt m 0 0,I i,I g] h Q:=by
 unfold cU.walk at k;obtain⟨x,r,d⟩:=cY (z.of d);have j:i<x.lq.length:=by have:=r.2.2;omega
 refine cW (aB (aA (am m d rfl (Ga d j ?_))));have d:=gV (R:=pA Cf) (l:=x.lq) (s:=M.cA) j d;refine Da (C:=Cf) (p:=x.lq.getD i 0) (s:=M.cA i) hb d fun q h d=>?_;refine To (C:=Cf) (p:=q) (s:=M.cA i) hC hb d fun h d=>aI rfl (aI rfl (bA (aZ (fun v=>?_) (fun v=>?_))));rw[aKj v] at k;have d:=uI (Cf:=Cf) (l:=x.lq) (s:=M.cA) (i:=i) (t:=M.cA i) j d;rw[bT] at d;exact k _ (bK (m:=m) (x:=x) M r d).to;rw[aKi v] at k;refine bW (aB (aA (am m d rfl (aN (c:=(dM 6 i ((M.cA i).begin Cf g).2.1).enc) rfl (aN (c:=(dM 6 i ((M.cA i).begin Cf g).2.1).enc) rfl (dK (W:=9) (n:=1) (c:=1) d rfl rfl rfl fun a h d=>?_))))));have d:=nX (enc:=aH.enc) (x:=dM 6 i ((M.cA i).begin Cf g).2.1) d;refine Du (C:=Cf) (f:=x.fb) (F:=M.iC) (l:=[dM 6 i ((M.cA i).begin Cf g).2.1]) (a:=some a) (c:=1) hC (y.S1 hC) (by simp) hG.kin hG.lim d fun h d=>bA (aZ (fun u=>?_) (fun u=>?_));dsimp only at k;rw[aKj u] at k;rw[Ee u] at d;have d:=uI (Cf:=Cf) (l:=x.lq) (s:=M.cA) (i:=i) (t:=M.cA i) j d;rw[bT] at d;exact k _ (bK (m:=m) (x:=x) M r d).to;dsimp only at k;rw[aKi u] at k;refine bW (aB (aA (am m d rfl (Pd d j fun h d=>k _ ?_))));have d:=Ep (R:=pA Cf) (l:=x.lq) (s:=M.cA) (i:=i) (q:=q) (t:=((M.cA i).begin Cf g).1) j d;have e:fH Cf x M.log.length=fH Cf {x with lq:=x.lq.set i q} M.log.length:=by unfold fH;rw[List.length_set]
 rw[e] at d;exact(bK (m:=m) (x:={x with lq:=x.lq.set i q}) ((M.dS (fM.send Cf M.iC [dM 6 i ((M.cA i).begin Cf g).2.1]).1).Dl i ((M.cA i).begin Cf g).1) ⟨r.1,r.2.1,by rw[List.length_set];exact r.2.2⟩ d).to
end
section
set_option maxRecDepth 100000
variable {G:Bg} {h:AH} {L L':List HP} {Q:Value->AH->Prop} {Cf:bN} {m:Nat} {M:cU}
theorem Sv {l:List Nat} {S:Nat->aT} {i:Nat} {k:Value->Prop} (e:i<l.length) (d:Hs G h L) [g:Has (mX tS l) L S L'] (f:k (I (S i).world)):bG (mY (pt (l.getD i 0) 0 0)) fun v=>bG (hQ 0 v) fun v=>bG (hQ 5 v) fun v=>bG (ld1 h v) k:=by
 have d:=gV (R:=tS) (l:=l) (s:=S) e d;obtain⟨a,c,d⟩:=rS d;exact aB (aA (aA (aC (b:=l.getD i 0) (o:=0) d rfl f)))
theorem xY {l:List Nat} {s:Nat->iH} {i:Nat} {t:iH} (a:i<l.length) (b:Hs G h L) [k:dT (C.iF G (l.getD i 0) Cf i t) L L'] {N:List HP} [c:dT (Fq (qC G Cf) l s i) L' N]:Hs G h (mX (qC G Cf) l (aX s i t)::N):=D3 a (b.cC (C.iF G (l.getD i 0) Cf i t) (Fq (qC G Cf) l s i))
theorem vg {i:Nat} {line:Int} {wr:Bool} (hC:Cf.Ok) (hG:Gb G) (B:(i:Int)<Cf.aD) (hb:gU Cf (M.cG i)) (z:lh Cf M.iC) (d:Hs G h L) [A:Has (bU G Cf m) L M L'] (j:∀y,Hs G y (bU G Cf m (M.want Cf i line wr).1::L')->Q (I (M.want Cf i line wr).2) y):Cl Pr K 211 [pt m 0 0,I i,I line,.bool wr] h Q:=by
 unfold cU.want at j;have n:Bd (M.cG i):=hb.bd (nH hC).2.2.2;obtain⟨x,k,d⟩:=cY (A.of d);have r:i<x.lc.length:=by have:=k.1;omega
 have g:i<x.lk.length:=by have:=k.2.1;omega
 refine cW (aB (aA (am m d rfl (Ft d g ?_))));have d:=gV (R:=qC G Cf) (l:=x.lk) (s:=M.cG) g d;refine C.Zu (C:=Cf) (core:=(i:Int)) (c:=x.lk.getD i 0) (s:=M.cG i) hC n d fun q h d=>?_;refine aB (aA (am m d rfl (Qu d r (Sv (l:=x.lc) (S:=M.bC) r d ?_))));refine C.y4 (C:=Cf) (core:=(i:Int)) (c:=q) (s:=M.cG i) hC n hG.lim hG.row d fun a c h d=>aI rfl (aI rfl (bA (aZ (fun v=>?_) (fun v=>?_))));rw[aKj v] at j;have d:=xY (Cf:=Cf) (l:=x.lk) (s:=M.cG) (i:=i) (t:=M.cG i) g d;rw[bT] at d;exact j _ (bK (m:=m) (x:=x) M k d).to;rw[aKi v] at j;have d:Hs G h (hJ a c (want Cf i (M.cG i) line (M.bC i).world wr).2.1::_):=d;refine bW (aB (aA (am m d rfl ?_)));refine Du (C:=Cf) (f:=x.fb) (F:=M.iC) (l:=(want Cf i (M.cG i) line (M.bC i).world wr).2.1) (a:=a) (c:=c) hC (z.S1 hC) (by have:=uq (C:=Cf) (core:=(i:Int)) (s:=M.cG i) (l:=line) (w:=(M.bC i).world) (wr:=wr);omega) hG.kin hG.lim d fun h d=>bA (aZ (fun u=>?_) (fun u=>?_));dsimp only at j;rw[aKj u] at j;rw[Ee u] at d;have d:=xY (Cf:=Cf) (l:=x.lk) (s:=M.cG) (i:=i) (t:=M.cG i) g d;rw[bT] at d;exact j _ (bK (m:=m) (x:=x) M k d).to;dsimp only at j;rw[aKi u] at j;refine bW (aB (aA (am m d rfl (Zx d g fun h d=>j _ ?_))));have d:=Ep (R:=qC G Cf) (l:=x.lk) (s:=M.cG) (i:=i) (q:=q) (t:=(want Cf i (M.cG i) line (M.bC i).world wr).1) g d;have e:fH Cf x M.log.length=fH Cf {x with lk:=x.lk.set i q} M.log.length:=by unfold fH;rw[List.length_set]
 rw[e] at d;exact(bK (m:=m) (x:={x with lk:=x.lk.set i q}) ((M.dS (fM.send Cf M.iC (want Cf i (M.cG i) line (M.bC i).world wr).2.1).1).uB i (want Cf i (M.cG i) line (M.bC i).world wr).1) ⟨k.1,by rw[List.length_set];exact k.2.1,k.2.2⟩ d).to
end
section
theorem Xq {g:Int} {i:Nat}:(List.range (i+1)).map (fun i:Nat=>dM 13 i g)=(List.range i).map (fun i:Nat=>dM 13 i g)++[dM 13 i g]:=by
 rw[List.range_succ,List.map_append];rfl
set_option maxRecDepth 100000
variable {G:Bg} {h:AH} {L L':List HP} {Q:Value->AH->Prop} {Cf:bN} {m:Nat} {M:cU}
theorem w7 {i:Nat} {a:Mc.Ask} (hC:Cf.Ok) (hG:Gb G) (R:(i:Int)<Cf.aD) (N:iA Cf M.bZ) (U:(M.bC i).Ok) (v:M.log.length<=2^30) (O:lh Cf M.iC) (d:Hs G h L) [Y:Has (bU G Cf m) L M L'] (g:∀t,Hs G t (bU G Cf m (M.call Cf i a).1::L')->Q (I (M.call Cf i a).2) t):Cl Pr K 165 [pt m 0 0,I i,.agg ⟨a.enc⟩] h Q:=by
 unfold cU.call at g;have Z:=hC.1;refine cW (dF (Y.of d) fun D h d=>?_);obtain⟨x,B,d⟩:=cY (d.front (bU G Cf m M));refine aB (aA (am m d rfl (Kg (C:=Cf) (m:=M.bZ) hC N d fun q h d=>?_)));have V:=d.tail;refine an D d (l:=a.enc) rfl rfl (Yh (C:=Cf) (m:=M.bZ) (p:=q) hC N d fun h d=>aI rfl (aI rfl (bA (aZ (fun E=>?_) (fun E=>?_)))));rw[aKj E] at g;have d:=bK (m:=m) (x:=x) M B d;exact nW (Cf:=Cf) (M:=M) R U v d fun h d=>g _ d.to;rw[aKi E] at g;generalize P:M.bZ.call Cf.aD a=rc at g d;have loop:∀(f j:Nat) (h:AH) (b:Option Addr) (c:Nat),j+f=Cf.aD.toNat->Hs G h (hJ b c ((List.range j).map fun i:Nat=>dM 13 i a.bI)::fO Cf q rc.1::aE m 0 (fH Cf x M.log.length)::gh x.ac x.cc x.lc::Vf x.ak x.ck x.lk::Ve x.aq x.cq x.lq::
   mX tS x.lc M.bC::mX (qC G Cf) x.lk M.cG::mX (pA Cf) x.lq M.cA::H.gG G x.hb Cf M.home::fO Cf x.mb M.bZ::oD Cf x.fb M.iC::H7 x.al x.cl M.log::aE D 0 a.enc::L')->
   Dd 165 2 [] Q [(pt m 0 0),(pt D 0 0),(pt q 0 0),(.slice b j c),(I Cf.aD),(I j)] h:=by
  intro f
  induction f with
  |zero=>
   intro j h b c S d
   have J:j=Cf.aD.toNat:=by omega
   have r:((List.range j).map fun i:Nat=>dM 13 i a.bI)=tH Cf.aD a.bI:=by rw[J];rfl
   rw[r] at d
   have u:(tH Cf.aD a.bI).length=j:=by rw[<-r];simp
   refine bW (aS (aaa (bW (aB (aA (am m d rfl ?_))))))
   rw[<-u]
   refine Du (C:=Cf) (f:=x.fb) (F:=M.iC) (l:=tH Cf.aD a.bI) (a:=b) (c:=c) hC (O.S1 hC) (by omega) hG.kin hG.lim d fun h d=>bA (aZ (fun A=>?_) (fun A=>?_))
   .dsimp only at g;rw[aKj A] at g;rw[Ee A] at d;exact g _ (bK (m:=m) (x:=x) M B d).to
   .dsimp only at g;rw[aKi A] at g;refine bW (aB (aA (ay (b:=m) (o:=0) d fun h d=>g _ ?_)));have e:dS (fH Cf x M.log.length) (0+11) [pt q 0 0]=fH Cf {x with mb:=q} M.log.length:=rfl;rw[e] at d;exact(bK (m:=m) (x:={x with mb:=q}) ((M.dS (fM.send Cf M.iC (tH Cf.aD a.bI)).1).nE rc.1) B d).to
  |succ f X=>
   intro j h b c S d
   refine bW (aS (aae (bW (aA (am D d rfl (aN (c:=(dM 13 j a.bI).enc) rfl (aN (c:=(dM 13 j a.bI).enc) rfl (dK (W:=9) (n:=1) (c:=1) d rfl rfl rfl fun y h d=>?_))))))))
   have d:=nX (enc:=aH.enc) (x:=dM 13 j a.bI) d
   have r:((List.range j).map fun i:Nat=>dM 13 i a.bI).length=j:=by simp
   have ap:∀k:Value×AH->Prop,(∀w z t,Hs G t (hJ w z ((List.range j).map (fun i:Nat=>dM 13 i a.bI)++[dM 13 j a.bI])::hJ (some y) 1 [dM 13 j a.bI]::_)->k (.slice w ((List.range j).map (fun i:Nat=>dM 13 i a.bI)++[dM 13 j a.bI]).length z,t))->bG (iV 9 72 162 h (.slice b ((List.range j).map fun i:Nat=>dM 13 i a.bI).length c) (.slice (some y) [dM 13 j a.bI].length 1)) k:=fun k g=>kL (enc:=aH.enc) (e:=162) (l:=(List.range j).map fun i:Nat=>dM 13 i a.bI) (l2:=[dM 13 j a.bI]) (a:=b) (c:=c) (a2:=some y) (c2:=1) d (by simp;omega) g
   rw[r] at ap
   refine ap _ fun w z h d=>aad ?_
   rw[<-Xq] at d ⊢
   have:=X (j+1) h w z (by omega) d.to
   rw[show((List.range (j+1)).map fun i:Nat=>dM 13 i a.bI).length=j+1 by simp]
   exact this
 have T:x.lc.length=Cf.aD.toNat:=B.1;refine bW (aB (aA (am m d rfl (bP ?_))));have d:Hs G h (hJ none 0 ((List.range 0).map fun i:Nat=>dM 13 i a.bI)::_):=mF (enc:=aH.enc) (e:=162) d;have e:(x.lc.length:Int)=Cf.aD:=by omega
 rw[e];exact loop Cf.aD.toNat 0 h none 0 (by omega) d.to
end
end Go.Proofs.YtmhapehobfnoiaaGreatDoor
namespace Go.Proofs.YtmhapehobfnoiaaGreatDoor
open Go Go.Ab Go.Hm Go.At Go.Mc Go.Ct Go.Nt
section
theorem Gm {C:bN} {S:Nat->List Th} {l at' a:Int} {w:Bool} (b:0<=l/\l<C.lines) (d:0<=at'/\at'<2) (c:mZ C.aG.toNat S l a w=true):oE C S l at' a w=0:=by
 unfold oE sA;rw[decide_eq_true b,aKi (by simp),aab,aab,aKi (by rw[c];simp)]
theorem xd {C:bN} {s:iH} (e:gU C s) {l b at':Int} {w:Bool} (c:0<=l/\l<C.lines) (d:0<=at'/\at'<2) (a:mZ C.aG.toNat s.S l b w=true):mZ C.aG.toNat (oK C s l at' b).S l b w=true:=by
 unfold oK;rw[aKj (Gm c d (Jy a))];have f:(bB C.aG.toNat s.S l).2=0:=by
  unfold mZ at a;grind
 unfold mZ at a ⊢;rw[Em e.aG f];exact a
set_option maxRecDepth 100000
variable {G:Bg} {h:AH} {L L':List HP} {Q:Value->AH->Prop} {Cf:bN} {m:Nat} {M:cU}
theorem np {i:Nat} {a:Acc} {p2:Nat} {line at' g:Int} (hC:Cf.Ok) (hG:Gb G) (B:(i:Int)<Cf.aD) (hb:gU Cf (M.cG i)) (D:(M.bC i).Ok) (n:M.log.length<=2^30) (z:0<=line/\line<Cf.lines) (A:0<=at'/\at'<2) (r:mZ Cf.aG.toNat (M.cG i).S line g a.write=true)
  (d:Hs G h (bU G Cf m M::aE p2 0 (tT a)::L)) (k:∀q,Hs G q (bU G Cf m (M.Jd Cf i line at' g a).1::L)->Q (I (M.Jd Cf i line at' g a).2) q):Dd 167 6 [] Q [(pt m 0 0),(I i),(pt p2 0 0),(I line),(I at'),(I g)] h:=by
 unfold cU.Jd at k
 have wr:∀(s:iH) (v:Int) (h:AH),gU Cf s->mZ Cf.aG.toNat s.S line g a.write=true->Hs G h (bU G Cf m (M.uB i s)::aE p2 0 (tT a)::L)->
   (∀q,Hs G q (bU G Cf m ((M.uB i (if a.write then kC Cf s line at' g a.value else s)).bQ i v 0).1::L)->Q (I ((M.uB i (if a.write then kC Cf s line at' g a.value else s)).bQ i v 0).2) q)->
   Dd 167 8 [] Q [(pt m 0 0),(I i),(pt p2 0 0),(I line),(I at'),(I g),(I v)] h:=by
  intro s v h hb r d k
  refine bW (aA (am p2 d rfl (dG (fun y=>?_) (fun y=>?_))))
  .rw[y] at r;rw[aKj y] at k;obtain⟨x,u,d⟩:=cY d;have f:i<x.lk.length:=by have:=u.2.1;omega
   refine bW (bE d fun E h d=>aB (aA (am m d rfl (Ft d f (aA (am p2 d rfl ?_))))))
   have d:=gV (R:=qC G Cf) (l:=x.lk) (s:=aX M.cG i s) f d
   rw[show aX M.cG i s i=s by unfold aX;rw[aKj rfl]] at d
   refine C.gn (C:=Cf) (core:=(i:Int)) (c:=x.lk.getD i 0) (s:=s) hC hb (Gm z A r) hG.lim hG.row d fun h d=>bA (aaa ?_)
   have d:=xY (Cf:=Cf) (l:=x.lk) (s:=aX M.cG i s) (i:=i) (t:=kC Cf s line at' g a.value) f d
   rw[show aX (aX M.cG i s) i (kC Cf s line at' g a.value)=aX M.cG i (kC Cf s line at' g a.value) by funext j;unfold aX;split<;>rfl] at d
   have d:=bK (m:=m) (x:=x) (M.uB i (kC Cf s line at' g a.value)) u d
   exact nW (Cf:=Cf) (M:=M.uB i (kC Cf s line at' g a.value)) B D n d fun h d=>k _ d.to
  .rw[aKi (by rw[y];simp)] at k;exact nW (Cf:=Cf) (M:=M.uB i s) B D n d fun h d=>k _ d.to
 refine bW (aA (am p2 d rfl (dG (fun w=>?_) (fun w=>?_))))
 .rw[aKj w] at k;rw[aKj w] at k;obtain⟨x,u,d⟩:=cY d;have f:i<x.lk.length:=by have:=u.2.1;omega
  refine bW (aB (aA (am m d rfl (Ft d f ?_))))
  have d:=gV (R:=qC G Cf) (l:=x.lk) (s:=M.cG) f d
  refine C.uu (C:=Cf) (core:=(i:Int)) (c:=x.lk.getD i 0) (s:=M.cG i) hC hb (Gm z A (Jy r)) hG.lim hG.row d fun h d=>aI rfl (aI rfl (bA (aaa ?_)))
  have d:=xY (Cf:=Cf) (l:=x.lk) (s:=M.cG) (i:=i) (t:=oK Cf (M.cG i) line at' g) f d
  have d:=bK (m:=m) (x:=x) (M.uB i (oK Cf (M.cG i) line at' g)) u d
  refine wr _ _ h (F7 hb) (xd hb z A r) d.to fun q d=>?_
  exact k _ d
 .rw[aKi (by rw[w];simp)] at k;rw[aKi (by rw[w];simp)] at k;refine wr (M.cG i) 0 h hb r ?_ fun q d=>k _ d;have e:M.uB i (M.cG i)=M:=by unfold cU.uB;rw[bT]
  rw[e]
  exact d.to
theorem Wv {i:Nat} {a:Acc} (hC:Cf.Ok) (hG:Gb G) (q:(i:Int)<Cf.aD) (hb:gU Cf (M.cG i)) (D:(M.bC i).Ok) (n:(M.cA i).known.length<=100) (J:lh Cf M.iC) (f:M.log.length<=2^30) (d:Hs G h L) [V:Has (bU G Cf m) L M L'] (e:∀F,Hs G F (bU G Cf m (M.access Cf i a).1::L')->Q (I (M.access Cf i a).2) F):Cl Pr K 167 [pt m 0 0,I i,.agg ⟨tT a⟩] h Q:=by
 unfold cU.access at e;have U:=(bN.eE hC).2.2;refine cW (dF (cs:=tT a) (V.of d) fun E h d=>bE d fun X h d=>?_);obtain⟨x,g,d⟩:=cY (d.front (bU G Cf m M));have O:∀{h:AH} {N:List HP},Hs G h (aE m 0 (fH Cf x M.log.length)::gh x.ac x.cc x.lc::Vf x.ak x.ck x.lk::Ve x.aq x.cq x.lq::
  mX tS x.lc M.bC::mX (qC G Cf) x.lk M.cG::mX (pA Cf) x.lq M.cA::H.gG G x.hb Cf M.home::fO Cf x.mb M.bZ::oD Cf x.fb M.iC::H7 x.al x.cl M.log::N)->Hs G h (bU G Cf m M::N):=fun d=>yE g d
 have k:i<x.lq.length:=by have:=g.2.2;omega
 have r:i<x.lc.length:=by have:=g.1;omega
 refine aB (aA (kS (b:=m) (o:=0) d (by decide) (l:=Cf.enc) rfl rfl (aA (am E d rfl (Ou (C:=Cf) hC hG.lim d fun h d=>?_)))));by_cases v:0<=a.word/\a.word<Cf.lines*2;rotate_left;rw[aKi v];rw[aKj v] at e;have d:=bK (m:=m) (x:=x) M g d;exact aI rfl (aI rfl (aI rfl (bA (aae (nW (Cf:=Cf) (M:=M) q D f d fun h d=>e _ d.to)))));rw[aKj v];rw[aKi (by simpa using v)] at e;obtain⟨w,y⟩:=Int.eq_ofNat_of_zero_le v.1;have P:((a.word.toNat/2:Nat):Int)=a.word/2:=by rw[y];simp
 have T:((a.word.toNat % 2:Nat):Int)=a.word % 2:=by rw[y];simp
 rw[P,T];have u:0<=a.word/2/\a.word/2<Cf.lines:=by omega
 refine aI rfl (aI rfl (aI rfl (bA (aaa (bW (aB (aA (kS (b:=m) (o:=0) d (by decide) (l:=Cf.enc) rfl rfl (Hb (C:=Cf) hC hG.lim d fun h d=>?_)))))))));rw[aKj (show Cf.has (a.word/2) from u)];refine aI rfl (aI rfl (bA (aaa (bW (bE d fun W h d=>aB (aA (am m d rfl (Ga d k (aB (aA (am m d rfl (Qu d r (Sv (l:=x.lc) (S:=M.bC) r d ?_)))))))))))));have d:=gV (R:=pA Cf) (l:=x.lq) (s:=M.cA) k d;refine fa (C:=Cf) (p:=x.lq.getD i 0) (s:=M.cA i) n d fun h d=>?_;have d:=uI (Cf:=Cf) (l:=x.lq) (s:=M.cA) (i:=i) (t:=M.cA i) k d;rw[bT] at d;have d:=bK (m:=m) (x:=x) M g d;dsimp only at e;refine aI rfl (aI rfl (bA (aZ (fun z=>?_) (fun z=>?_))));rw[aKj z] at e;exact e _ d.to;rw[aKi z] at e;refine bW (bJ (aZ (fun A=>?_) (fun A=>?_)));rw[aKj A] at e;exact s8 (Cf:=Cf) (M:=M) hC hG q n J d fun h d=>e _ d.to;rw[aKi A] at e;refine bW (bJ (aZ (fun B=>?_) (fun B=>?_)));rw[aKj B] at e;exact nW (Cf:=Cf) (M:=M) q D f d fun h d=>e _ d.to;rw[aKi B] at e;refine bW (jb (Cf:=Cf) (M:=M) q n d fun h d=>bE d fun r3 h d=>?_);obtain⟨x,g,d⟩:=cY (d.front (bU G Cf m M));have j:i<x.lk.length:=by have:=g.2.1;omega
 refine aB (aA (am m d rfl (Ft d j (aA (am E d rfl ?_)))));have d:=gV (R:=qC G Cf) (l:=x.lk) (s:=M.cG) j d;refine C.Q4 (C:=Cf) (core:=(i:Int)) (c:=x.lk.getD i 0) (s:=M.cG i) hC (hb.bd (nH hC).2.2.2) hG.row d fun h d=>?_;have d:=xY (Cf:=Cf) (l:=x.lk) (s:=M.cG) (i:=i) (t:=M.cG i) j d;rw[bT] at d;have d:=bK (m:=m) (x:=x) M g d;cases hmy:mZ Cf.aG.toNat (M.cG i).S (a.word/2) (M.known i (a.word/2/2)) a.write with
 |false=>
  rw[aKj hmy] at e;exact bX (eN (bV (aA (am E d rfl (vg (Cf:=Cf) (M:=M) hC hG q hb J d fun h d=>e _ d.to)))))
 |true=>
  rw[aKi (by rw[hmy];simp)] at e;exact bX (eN (eZ (np (L:=L') (Cf:=Cf) (M:=M) hC hG q hb D f u (by omega) hmy d.to fun h d=>e _ d.to)))
end
section
set_option maxRecDepth 100000
variable {G:Bg} {h:AH} {L L':List HP} {Q:Value->AH->Prop} {Cf:bN} {m:Nat} {M:cU}
theorem y7 {l:List Nat} {S:Nat->aT} {i:Nat} {k:Value->Prop} (e:i<l.length) (d:Hs G h L) [g:Has (mX tS l) L S L'] (f:k (.bool (S i).over)):bG (mY (pt (l.getD i 0) 0 0)) fun v=>bG (hQ 0 v) fun v=>bG (hQ 6 v) fun v=>bG (ld1 h v) k:=by
 have d:=gV (R:=tS) (l:=l) (s:=S) e d;obtain⟨a,c,d⟩:=rS d;exact aB (aA (aA (aC (b:=l.getD i 0) (o:=0) d rfl f)))
theorem qd {d:Do} (hC:Cf.Ok) (hG:Gb G) (J:∀i:Nat,(i:Int)<Cf.aD->s7 Cf M i) (f:Hs G h L) [V:Has (bU G Cf m) L M L'] (g:∀O,Hs G O (bU G Cf m (M.step Cf d.a).1::L')->Q (I (M.step Cf d.a).2) O):Cl Pr K 117 [pt m 0 0,.agg ⟨d.enc⟩] h Q:=by
 unfold cU.step at g;have X:=hC.1;refine cW (dF (cs:=d.enc) (V.of f) fun u h f=>bE f fun Z h f=>?_);obtain⟨x,f⟩:=aDz (f.front (bU G Cf m M));obtain⟨n,f⟩:=kN f;refine aA (am u f rfl (aS (aZ (fun P=>?_) (fun P=>?_))));rw[aac] at g;exact g _ (bK (m:=m) (x:=x) M n f).to;have U:=n.1;refine aA (am u f rfl (aB (aA (am m f rfl (bP (dR (aZ (fun T=>?_) (fun T=>?_))))))));rw[aac] at g;exact g _ (bK (m:=m) (x:=x) M n f).to;rw[aab] at g;obtain⟨w,a,b,c⟩:=d;dsimp only at P T g;obtain⟨i,rfl⟩:=Int.eq_ofNat_of_zero_le (show 0<=a by omega);rw[Int.toNat_natCast] at g;have k:i<x.lc.length:=by omega
 have H:(i:Int)<Cf.aD:=by omega
 have j:=J i H;refine bW (bE f fun Y h f=>aB (aA (am m f rfl (aA (am u f rfl (Qu f k (y7 (l:=x.lc) (S:=M.bC) k f (dG (fun E=>?_) (fun E=>?_)))))))));rw[aKj E] at g;exact g _ (bK (m:=m) (x:=x) M n f).to;rw[aKi (by rw[E];simp)] at g;have f:=mG (m:=m) (x:=x) M n f;refine bW (aA (am u f rfl (jr (x:=x) (M:=M) j.bZ f fun h f=>dG (fun F=>?_) (fun F=>?_))));rw[aKj F] at g;exact g _ (aCo f).to;rw[aKi (by rw[F];simp)] at g;obtain⟨n,f⟩:=kN (f.front (jC G Cf m x M));have f:=gV (R:=tS) (l:=x.lc) (s:=M.bC) k f;refine bW (vt (i:=i) (p:=x.lc.getD i 0) (s:=M.bC i) j.E9 f fun h f=>?_);cases hlo:aT.nV (M.bC i) i with
 |some r=>
  rw[hlo] at f g;dsimp only at f g;have f:=Hq (l:=x.lc) (s:=M.bC) (i:=i) (t:=r.1) k f;refine aI rfl (aI rfl (bM f fun q h f=>ax (b:=q) f fun h f=>eZ (bW (bE f fun r3 h f=>aB (aA (am m f rfl (an q f (l:=r.2.enc) rfl rfl (aN (c:=r.2.enc) rfl ?_))))))));refine kD (r:=r3) (i:=6) (N:=11) (D:=[]) (W:=7) f rfl rfl rfl rfl rfl fun a h f=>?_;have f:=nX (enc:=Ev.enc) (x:=r.2) f;refine Qh (l:=M.log) (v:=r.2) j.log f fun A B h f=>aB (aA (ay (b:=m) (o:=0) f fun h f=>cZ dJ (g _ ?_)));have e:dS (fH Cf x M.log.length) (0+13) [.slice A (M.log++[r.2]).length B]=fH Cf {x with al:=A,cl:=B} (M.log++[r.2]).length:=rfl;rw[e] at f;exact(bK (m:=m) (x:={x with al:=A,cl:=B}) ((M.Mu i r.1).Mv r.2) n f).to
 |none=>
  rw[hlo] at f g;dsimp only at f g;refine aI rfl (aI rfl (bM f fun q h f=>ax (b:=q) f fun h f=>bV (bW (aEx (i:=i) (p:=x.lc.getD i 0) (s:=M.bC i) j.E9 f fun h f=>?_))));cases has:aT.Bx (M.bC i) i with
  |some r=>
   rw[has] at g;dsimp only at g;have f:=Hq (l:=x.lc) (s:=M.bC) (i:=i) (t:=M.bC i) k f;rw[bT] at f;have f:=bK (m:=m) (x:=x) M n f;exact aI rfl (aI rfl (bM f fun y h f=>ax (b:=y) f fun h f=>eZ (aA (am u f rfl (an y f (l:=r.enc) rfl rfl (w7 (Cf:=Cf) (M:=M) hC hG H j.bZ j.E9 j.log j.iC f fun h f=>g _ f.to))))))
  |none=>
   rw[has] at g;dsimp only at g;refine aI rfl (aI rfl (bM f fun y h f=>ax (b:=y) f fun h f=>bV (bW (ba (i:=i) (p:=x.lc.getD i 0) (s:=M.bC i) j.E9 f fun h f=>?_))));have f:=Hq (l:=x.lc) (s:=M.bC) (i:=i) (t:=M.bC i) k f;rw[bT] at f;have f:=bK (m:=m) (x:=x) M n f;cases hac:aT.uR (M.bC i) with
   |some r=>
    rw[hac] at g;dsimp only at g;exact aI rfl (aI rfl (bM f fun z h f=>ax (b:=z) f fun h f=>bX (eN (eZ (aA (am u f rfl (an z f (l:=tT r) rfl rfl (Wv (Cf:=Cf) (M:=M) hC hG H j.Mt j.E9 j.nC j.iC j.log f fun h f=>g _ f.to))))))))
   |none=>
    rw[hac] at g;dsimp only at g;exact aI rfl (aI rfl (bM f fun z h f=>ax (b:=z) f fun h f=>bX (eN (bV (g _ f.to)))))
end
end Go.Proofs.YtmhapehobfnoiaaGreatDoor
namespace Go.Proofs.YtmhapehobfnoiaaGreatDoor.H
open Go Go.Ab Go.Hm
section
set_option maxRecDepth 100000
variable {G:Bg} {h:AH} {L L':List HP}
end
section
set_option maxRecDepth 100000
variable {G:Bg} {h:AH} {L L':List HP}
theorem o7 (n:Nat):(fun i=>(rX n i).2)=oC:=by funext i;unfold rX oC;split<;>rfl
theorem Kf {C:bN} (hC:C.Ok) {hb:Nat} {Q:Value->AH->Prop} (k:∀e,Hs G e (gG G hb C (rX C.lines)::L)->Q (.tuple ⟨[pt hb 0 0,I 0]⟩) e):∀(f n:Nat) (h:AH),n+f=C.lines->Hs G h (gG G hb C (rX n)::L)->Dd 39 3 [] Q [(pt hb 0 0),(I C.lines),(I n)] h:=by
 have l:=bN.eE hC;intro f;induction f with
 |zero=>
  intro n h q a;have:n=C.lines:=by omega
  subst this;exact bW (aS (aaa (k _ a)))
 |succ f r=>
  intro n h q a;have d:n<C.lines:=by omega
  refine bW (aS (aae (bW ?_)));obtain⟨t,b,o,c,a⟩:=Ds d a;obtain⟨u,v,a⟩:=dV a;refine aB (aA (aC a rfl (dN d (aA (ay a ?_)))));intro h a;refine aad (r (n+1) h (by omega) ?_);have g:(rX n n).1={vL with owner:=0}:=by unfold rX;rw[aab]
  have j:(rX n n).2=(0,0):=by unfold rX;rw[aab]
  rw[g] at a;have a:=eA b (o+n*25) vL u v a rfl rfl rfl;have a:=eO hb C (rX n) n vL (0,0) (fun i=>(rX n i).2) t b o c d (by rw[<-j];exact eU.symm) a;rw[j8] at a;exact a
theorem Yf {C:bN} (hC:C.Ok) {Q:Value->AH->Prop} (e:Ob G 0 fJ) (d:Hs G h L) (q:∀f j,Hs G j (gG G f C (rX C.lines)::L)->Q (.tuple ⟨[pt f 0 0,I 0]⟩) j):Cl Pr K 39 [.agg ⟨C.enc⟩] h Q:=by
 have r:=bN.eE hC;refine cW (dF d ?_);intro p h d;refine aR d (by decide) (l:=C.enc) rfl rfl (nJ e d fun h d=>?_);rw[aKj hC];refine bA (aaa (bW (aR d (by decide) (l:=C.enc) rfl rfl (Oj hC e d fun k h d=>?_))));refine aI rfl (aI rfl (bA (aaa (bW (bE d ?_)))));intro u h d;refine aR d (by decide) (l:=C.enc) rfl rfl (aR d (by decide) (l:=C.enc) rfl rfl (pK hC e d fun h d=>ud (by omega) (by omega) ?_));dsimp only;refine kD d rfl rfl ?_ rfl ?_ ?_;rw[gR,rK (W:=25) (fun _=>rfl)];rw[gR];exact qK (fun _=>rfl) _;intro a h d;obtain⟨b,o,n,d⟩:=Hs.Jl (W:=25) rfl (by omega) d;cases n;refine aN (c:=mH k C b o C.lines) rfl (Ai d rfl rfl ?_);intro f h d;refine cZ dJ (cZ (aR d (by decide) (l:=C.enc) rfl rfl (qY (by simp[pY,bN.enc]))) (aB (aA (aC d rfl (bP ?_)))));refine Kf hC (q f) C.lines 0 h (by omega) ?_;have d:=(d.front (dE C.lines fun i=>aE b (o+i*25) [I 0,.bool false,.bool false,.bool false,.bool false,.slice none 0 0,.bool false,I 0,I 0,I 0,I 0,I 0,I 0,I 0,.bool false,I 0,I 0,.bool false,.bool false,.bool false,.bool false,.bool false,.bool false,I 0,I 0]));have d:=Hs.J0 (g:=fun i=>eF b (o+i*25) (rX 0 i).1) C.lines _ (fun i t h L d=>kT {vL with owner:=0} (a:=none) (c:=0) (gL d).lU) d;rw[<-o7 0] at d;exact(Bh C (rX 0) f k b o C.lines d).to
end
section
set_option maxRecDepth 100000
variable {G:Bg} {h:AH} {L L':List HP} {Q:Value->AH->Prop}
def Rs (H:lT) (i:Nat) (x:Option Addr×Nat):List Value:=(H i).1.enc x.1 x.2
def Us (H:lT) (i:Nat) (x:Option Addr×Nat):HP:=hJ x.1 x.2 (H i).1.waits
theorem xr {b o n:Nat} {H:lT} (d:Hs G h (dE n (fun i=>eF b (o+i*25) (H i).1)::L)):Hs G h (dE n (fun i=>sB fun x=>sp [aE b (o+i*25) (Rs H i x),Us H i x])::L):=
 Hs.J0 n L (fun i _ h L d=>by
  obtain⟨a,c,d⟩:=dV d;exact Hs.qU (A:=fun x:Option Addr×Nat=>sp [aE b (o+i*25) (Rs H i x),Us H i x]) (a,c) d.yS) d
theorem xm {b o n:Nat} {H:lT} (d:Hs G h (dE n (fun i=>sB fun x=>sp [aE b (o+i*25) (Rs H i x),Us H i x])::L)):Hs G h (dE n (fun i=>eF b (o+i*25) (H i).1)::L):=
 Hs.J0 n L (fun i _ h L d=>by
  obtain⟨⟨a,c⟩,d⟩:=d.tW;exact kT (H i).1 (a:=a) (c:=c) d.zH) d
theorem je {n c:Nat} {a:Option Addr} {cs:List Value} (j:n<=100) (g:Hs G h L) [m:Has (dH 25 222 a c) L (n,cs) L'] (f:∀b d e,Hs G e (dH 25 222 b d (n,cs)::dH 25 222 a c (n,cs)::L')->Q (.slice b n d) e):Cl Pr K 122 [.slice a n c] h Q:=
 cW (Bv (bytes:=152) g (by omega) f)
theorem Vj {B p b o cap mb:Nat} {C:bN} {H:lT} {f:Nat->Option Addr×Nat} (hB:B<=32) (D:C.lines=B) (N:∀i,i<B->(H i).1.waits.length<=2^30)
  (J:∀w,Hs G w (aE p 0 (mH mb C b o cap)::dE B (fun i=>eF b (o+i*25) (H i).1)::dE B (fun i=>Us H i (f i))::L)->Q (pt p 0 0) w):
  ∀(r i:Nat) (h:AH),i+r=B->Hs G h (aE p 0 (mH mb C b o cap)::dE B (fun j=>if j<i then eF b (o+j*25) (H j).1 else aE b (o+j*25) (Rs H j (f j)))::dE B (fun i=>Us H i (f i))::L)->
  Dd 72 2 [] Q [(pt p 0 0),(I B),(I i)] h:=by
 intro r
 induction r with
 |zero=>
  intro i h E d
  obtain rfl:i=B:=by omega
  refine bW (aS (aaa (J _ ?_)))
  have d:=d.front (dE i fun j=>if j<i then eF b (o+j*25) (H j).1 else aE b (o+j*25) (Rs H j (f j)))
  have d:=sV (g:=fun j=>eF b (o+j*25) (H j).1) (fun j F=>by rw[aKj F]) d
  exact d.cI (aE p 0 (mH mb C b o cap)) (dE i fun j=>eF b (o+j*25) (H j).1) (dE i fun j=>Us H j (f j))
 |succ r P=>
  intro i h E d
  have k:i<B:=by omega
  have t:i<C.lines:=by omega
  have O:=N i k
  refine bW (aS (aae (bW (bE d fun R h d=>?_))))
  have d:=(d.front (dE B fun j=>if j<i then eF b (o+j*25) (H j).1 else aE b (o+j*25) (Rs H j (f j)))).kO i k
  simp only[Nat.lt_irrefl,if_false] at d
  have d:=(d.front (dE B fun j=>Us H j (f j))).kO i k
  refine aB (aA (am p d rfl (aB (aA (am p d rfl (dN t (aA (aC (b:=b) (o:=o+i*25) d rfl ?_))))))))
  have d:Hs G h (hJ (f i).1 (f i).2 (H i).1.waits::_):=d
  refine yJ (l:=(H i).1.waits) (a:=(f i).1) (c:=(f i).2) (by omega) d fun u v h d=>?_
  refine dN t (aA (ay (b:=b) (o:=o+i*25) d fun A q=>?_))
  refine cZ dJ (cZ (aB dJ) (cZ (aA dJ) (cZ (am p d rfl Sw) (cZ jA (aad ?_)))))
  refine P (i+1) A (by omega) ?_
  have q:=q.sg (b:=b) (o:=o+i*25) (c:=(H i).1.enc u v) rfl
  have e:=kT (b:=b) (o:=o+i*25) (H i).1 (a:=u) (c:=v) (q.cC (aE b (o+i*25) ((H i).1.enc u v)) (hJ u v (H i).1.waits))
  have y:eF b (o+i*25) (H i).1=(fun j=>if j<i+1 then eF b (o+j*25) (H j).1 else aE b (o+j*25) (Rs H j (f j))) i:=by simp only[Nat.lt_succ_self,if_true]
  rw[y] at e
  have e:=e.oB (n:=B) (i:=i) (fun j=>if j<i then eF b (o+j*25) (H j).1 else aE b (o+j*25) (Rs H j (f j))) (fun j=>if j<i+1 then eF b (o+j*25) (H j).1 else aE b (o+j*25) (Rs H j (f j))) k (fun j _ K=>by
   have:(j<i+1)=(j<i):=propext ⟨fun h=>by omega,fun h=>by omega⟩;simp only[this])
  have z:hJ (f i).1 (f i).2 (H i).1.waits=(fun j=>Us H j (f j)) i:=rfl
  rw[z] at e
  have e:=e.oB (n:=B) (i:=i) (fun j=>Us H j (f j)) (fun j=>Us H j (f j)) k (fun _ _ _=>rfl)
  exact e.to
theorem J1 {C:bN} {H:lT} (hC:C.Ok) {hb:Nat} (O:zC C H (2^30)) (a:Hs G h L) [R:Has (gG G hb C) L H L'] (P:∀p2 I,Hs G I (gG G p2 C H::gG G hb C H::L')->Q (pt p2 0 0) I):Cl Pr K 72 [pt hb 0 0] h Q:=by
 have T:=(bN.eE hC);have y:0<C.lines:=by omega
 obtain⟨F,b,o,e,a⟩:=pT (R.of a);refine cW (dD (bV (bW (bE a fun U h a=>?_))));have a:=xr (a.front (dE C.lines fun i=>eF b (o+i*25) (H i).1));have v:Hs G h (dE C.lines (fun i=>sB fun x=>sp [aE b (o+i*25) (Rs H i x),Us H i x])::hole G 25 222 (some ⟨b,o,none⟩) e C.lines b o::_):=a.cC (dE C.lines fun i=>sB fun x=>sp [aE b (o+i*25) (Rs H i x),Us H i x]) (hole G 25 222 (some ⟨b,o,none⟩) e C.lines b o);obtain⟨f,a⟩:=Hs.Zs (W:=25) (c:=Rs H) (d:=Us H) (none,0) (fun _ _=>rfl) (fun _ _=>rfl) (by decide) y v;clear v;refine aB (aA (am hb a rfl (A.Vr hC a fun k S q=>?_)));refine aB (aA (kS (b:=hb) (o:=0) q (by decide) (l:=C.enc) rfl rfl (aB (aA (am hb q rfl ?_)))));refine je (by omega) q fun J u N g=>?_;obtain⟨r,t,rfl,g⟩:=Hs.Wf (W:=25) (c:=fun i=>Rs H i (f i)) (fun _=>rfl) y (g.front (dH 25 222 J u (C.lines,(List.range C.lines).flatMap fun i=>Rs H i (f i))));refine aN (c:=mH k C r t u) rfl (Ai (i:=15) (n:=17) (D:=[]) g rfl rfl fun p z j=>?_);have w:pY (.agg ⟨C.enc⟩) (.agg ⟨C.enc⟩)=true:=qY (by simp[bN.enc,jA]);refine cZ dJ (cZ dJ (cZ (aB dJ) (cZ (aB dJ) (cZ (aA dJ) (cZ (aA dJ) ?_)))));refine cZ (kS (b:=hb) (o:=0) a (by decide) (l:=C.enc) rfl rfl w) (cZ (kS (b:=hb) (o:=0) j (by decide) (l:=C.enc) rfl rfl w) ?_);refine cZ dJ (cZ (aB dJ) (cZ (aA dJ) (cZ (am hb a rfl Sw) ?_)));clear a q g;refine aB (aA (am p j rfl (bP ?_)));have a:=j.cI (aE p 0 (mH k C r t u)) (dE C.lines fun i=>aE r (t+i*25) (Rs H i (f i))) (dE C.lines fun i=>Us H i (f i));refine Vj (B:=C.lines) (C:=C) (b:=r) (o:=t) (cap:=u) (mb:=k) (H:=H) (f:=f) (by omega) rfl (fun i E=>(O i E).2) ?_ C.lines 0 z (by omega) (by simpa using a);intro h a;refine P p _ ?_;have a:=qO (a.fX (aE p 0 (mH k C r t u)) (eW G C.lines k C fun i=>(H i).2) (hole G 25 222 (some ⟨r,t,none⟩) u C.lines r t) (dE C.lines fun i=>eF r (t+i*25) (H i).1));have a:=a.cC (dH 25 222 (some ⟨b,o,none⟩) e (C.lines,(List.range C.lines).flatMap fun i=>Rs H i (f i))) (dE C.lines fun i=>Us H i (f i));have a:Hs G h (dE C.lines (fun i=>sB fun x=>sp [aE b (o+i*25) (Rs H i x),Us H i x])::hole G 25 222 (some ⟨b,o,none⟩) e C.lines b o::_):=Hs.wx (W:=25) (c:=Rs H) (d:=Us H) f (fun _ _=>rfl) y a;have a:=xm a;have a:=qO (a.fX (aE hb 0 (mH F C b o e)) (eW G C.lines F C fun i=>(H i).2) (hole G 25 222 (some ⟨b,o,none⟩) e C.lines b o) (dE C.lines fun i=>eF b (o+i*25) (H i).1));exact a.to
end
end Go.Proofs.YtmhapehobfnoiaaGreatDoor.H
namespace Go.Proofs.YtmhapehobfnoiaaGreatDoor.H
open Go Go.Ab Go.Hm Go.Mc
section
set_option maxRecDepth 100000
variable {G:Bg} {h:AH} {L L':List HP} {Q:Value->AH->Prop}
theorem aE1 {α:Type} {l:List α} {i:Nat} (h:i<l.length):∃x,l[i]?=some x/\l.drop i=x::l.drop (i+1):=⟨l[i],by simp,List.drop_eq_getElem_cons h⟩
def Mm (l:List aH):Int:=((l.filter fun n=>decide (n.kind=0)).length:Int)
theorem mc {l:List aH} {i:Nat} {n:aH} (h:l[i]?=some n):Mm (l.take (i+1))=Mm (l.take i)+if n.kind=0 then 1 else 0:=by
 unfold Mm;rw[List.take_add_one,h];simp only[Option.toList_some,List.filter_append,List.filter_cons,List.filter_nil];split<;>simp_all
theorem A0 {a:Option Addr} {c:Nat} {l:List aH} {k:Int} (hb:l.length<=2^30) (z:0<=k/\k<=1) (y:∀q,Hs G q (hJ a c l::L)->Q (I (k+Mm l)) q):
  ∀(f i:Nat) (h:AH),i+f=l.length->Hs G h (hJ a c l::L)->Dd 144 4 [] Q [(I (k+Mm (l.take i))),(.slice a l.length c),(I l.length),(I i)] h:=by
 intro f
 induction f with
 |zero=>
  intro i h w d
  rw[List.take_of_length_le (by omega)]
  exact bW (aS (aaa (y _ d)))
 |succ f t=>
  intro i h w d
  obtain⟨n,r,A⟩:=aE1 (l:=l) (i:=i) (by omega)
  have v:Mm (l.take i)<=2^30/\0<=Mm (l.take i):=by
   unfold Mm;have:=List.length_filter_le (fun n:aH=>decide (n.kind=0)) (l.take i);have:=List.length_take_le i l;omega
  have g:=mc r
  refine bW (aS (aae (bW (jV (l:=l) (a:=a) (c:=c) (enc:=aH.enc) (e:=162) d (by decide) (by omega) (by rw[Int.toNat_natCast];exact r) (bM d fun u h d=>ax (b:=u) d fun h d=>aA (am u d rfl (bJ (aZ (fun j=>?_) (fun j=>?_)))))))))
  .rw[aKj j] at g;refine bW (aad (aad ?_));have:=t (i+1) h (by omega) d.to;rw[g] at this;rw[show k+Mm (l.take i)+1=k+(Mm (l.take i)+1) by omega];exact this
  .rw[aKi j] at g;refine bW (aad ?_);have:=t (i+1) h (by omega) d.to;rw[g,Int.add_zero] at this;exact this
theorem P9 {C:bN} {H:lT} {hb:Nat} {x:Int} (A:zC C H (2^30)) (d:Hs G h L) [B:Has (gG G hb C) L H L'] (n:∀z,Hs G z (gG G hb C H::L')->Q (I (fC C H x)) z):Cl Pr K 144 [pt hb 0 0,I x] h Q:=by
 have d:=B.of d;unfold fC at n;by_cases t:C.has x;rotate_left;rw[aKi t] at n;obtain⟨r,b,o,f,d⟩:=pT d;refine cW (xD d (bX (eN (aJ t (n _ (Bh C H hb r b o f d).to)))));rw[aKj t] at n;obtain⟨l,rfl⟩:=Int.eq_ofNat_of_zero_le t.1;have v:l<C.lines:=by have:=t.2;omega
 rw[Int.toNat_natCast] at n;obtain⟨r,b,o,f,d⟩:=Ds v d;obtain⟨a,c,d⟩:=dV d;have q:=(A l v).2;have d:Hs G h (aE b (o+l*25) ((H l).1.enc a c)::hJ a c (H l).1.waits::aE hb 0 (mH r C b o f)::eW G C.lines r C (fun i=>(H i).2)::hole G 25 222 (some ⟨b,o,none⟩) f C.lines b o::zN b o C.lines H l::L'):=d;have g:∀{h:AH},Hs G h (hJ a c (H l).1.waits::aE b (o+l*25) ((H l).1.enc a c)::aE hb 0 (mH r C b o f)::eW G C.lines r C (fun i=>(H i).2)::hole G 25 222 (some ⟨b,o,none⟩) f C.lines b o::zN b o C.lines H l::L')->Hs G h (gG G hb C H::L'):=by
  intro h d;have d:=kT (H l).1 (a:=a) (c:=c) d.lU;have d:=eO hb C H l (H l).1 (H l).2 _ r b o f v eU.symm d;have e:aX H l ((H l).1,(H l).2)=H:=by funext j;unfold aX;split<;>simp_all
  rw[e] at d;exact d
 refine cW (xD d (bX (eN (bS t (bW (aB (aA (am hb d rfl (dN v (aB (aA (aC (b:=b) (o:=o+l*25) d rfl (dG (fun w=>?_) (fun w=>?_))))))))))))));refine aB (aA (aA (aC (b:=b) (o:=o+l*25) d rfl (bJ (aZ (fun y=>?_) (fun y=>?_))))));refine bW (aad (aB (aA (aC (b:=b) (o:=o+l*25) d rfl (bP ?_)))));refine A0 (a:=a) (c:=c) (l:=(H l).1.waits) (k:=1) q (by omega) (fun h d=>?_) (H l).1.waits.length 0 h (by omega) d.lU;have:=n h (g d);unfold Row.Au at this;rw[aKj ⟨w,y⟩] at this;exact this;refine bW (aB (aA (aC (b:=b) (o:=o+l*25) d rfl (bP ?_))));refine A0 (a:=a) (c:=c) (l:=(H l).1.waits) (k:=0) q (by omega) (fun h d=>?_) (H l).1.waits.length 0 h (by omega) d.lU;have:=n h (g d);unfold Row.Au at this;rw[aKi (fun u=>y u.2)] at this;exact this;refine aB (aA (aC (b:=b) (o:=o+l*25) d rfl (bP ?_)));refine A0 (a:=a) (c:=c) (l:=(H l).1.waits) (k:=0) q (by omega) (fun h d=>?_) (H l).1.waits.length 0 h (by omega) d.lU;have:=n h (g d);unfold Row.Au at this;rw[aKi (fun u=>by rw[w] at u;cases u.1)] at this;exact this
end
end Go.Proofs.YtmhapehobfnoiaaGreatDoor.H
namespace Go.Proofs.YtmhapehobfnoiaaGreatDoor
open Go Go.Ab Go.Hm Go.At Go.Mc Go.Ct Go.Nt
section
def qE (C:bN) (H:lT) (l:List Nat):lT:=l.foldl (fun H (l:Nat)=>(jF C H l).1) H
theorem Xl {C:bN} {H:lT} {l:List Nat} {k:Nat}:qE C H (l++[k])=(jF C (qE C H l) k).1:=by unfold qE;rw[List.foldl_append];rfl
theorem Xf {C:bN} {H:lT} {N:Nat} {l:Int} (h:zC C H N):zC C (jF C H l).1 (N+1):=by
 intro k d;obtain⟨a,c⟩:=h k d;unfold jF;split;rename_i f;unfold aX;dsimp only;split;rename_i e;subst e;refine⟨⟨a.core,a.owner,?_⟩,?_⟩;intro n b;rcases List.mem_append.1 b with b|b;exact a.waits n b;rw[List.mem_singleton.1 b];show(0:Int)<=0/\(0:Int)<4;omega;show((H l.toNat).1.waits++[mW l]).length<=N+1;rw[List.length_append,List.length_singleton];omega;exact⟨a,by omega⟩;exact⟨a,Nat.le_succ_of_le c⟩
theorem Tg {C:bN} {N:Nat}:∀{l:List Nat} {H:lT},zC C H N->zC C (qE C H l) (N+l.length):=by
 intro l;induction l generalizing N with
 |nil=>intro H h;exact h
 |cons k l a=>
  intro H h;have:=a (Xf (l:=k) h);rw[List.length_cons,show N+(l.length+1)=N+1+l.length by omega];exact this
set_option maxRecDepth 100000
variable {G:Bg} {h:AH} {L L':List HP} {Q:Value->AH->Prop} {Cf:bN} {m:Nat} {M:cU}
abbrev swX (G:Bg) (Cf:bN) (m p2:Nat) (M:cU) (e:Nat->Value) (d l:Nat) (done:List Nat):HP:=sp [gF Pr 227 (gI 14) 18 e d l (.ready,none),aE p2 0 [pt m 0 0],bU G Cf m (M.pV (qE Cf M.home done))]
theorem jx {g:Nat} (hC:Cf.Ok) (hG:Gb G) (D:(g:Int)<Cf.aQ) (E:zC Cf M.home (2^30 - 4)) (a:Hs G h L) [F:Has (bU G Cf m) L M L'] (f:∀v n,Hs G n (bU G Cf m (M.pV (xV Cf M.home g))::L')->Q v n):Cl Pr K 227 [pt m 0 0,I g] h Q:=by
 refine cW (dF (F.of a) fun c h a=>?_);obtain⟨x,j,a⟩:=cY (a.front (bU G Cf m M));refine am c a rfl (aB (aA (kS (b:=m) (o:=0) a (by decide) (l:=Cf.enc) rfl rfl (tK (C:=Cf) a fun t u h a=>?_))));have a:Hs G h (bU G Cf m (M.pV (qE Cf M.home []))::_):=bK (m:=m) (x:=x) M j a;refine iR a fun d h a=>?_;intro e B;refine jI a fun l h a=>nF rfl ?_;have a:Hs G h (sp [aE t 0 Cf.enc,aE u 0 [I g]]::swX G Cf m c M e d l []::mk d ()::L'):=by
  have a:=(a.cI (gF Pr 227 (gI 14) 18 e d l (.ready,none)) (aE c 0 [pt m 0 0]) (bU G Cf m (M.pV (qE Cf M.home [])))).Rp;exact a.to
 refine(vU (C:=Cf) hC D (p:=t) (q:=u) hG.lim).fold (X:=fun done=>swX G Cf m c M e d l done) (Z:=fun _ _=>tX False) a ?_ ?_ ?_
 .intro done y h N r a;have a:=a.B5;have A:done.length<=1:=by have:=r.length_le;simp at this;omega
  obtain⟨x,j,a⟩:=cY (a.front (bU G Cf m (M.pV (qE Cf M.home done))));refine rW (oW a) B (fU a fun h a=>am c a rfl (aB (aA (am m a rfl ?_))));refine H.qz (C:=Cf) (H:=qE Cf M.home done) (fun k f=>by have:=Tg (l:=done) E k f;exact⟨this.1,by omega⟩) a fun h a=>gM a fun h a=> .inl ⟨rfl,?_⟩;rw[<-Xl] at a;have a:=bK (m:=m) (x:=x) (M.pV (qE Cf M.home (done++[y]))) j a;have a:=(a.cI (gF Pr 227 (gI 14) 18 e d l (.ready,none)) (aE c 0 [pt m 0 0]) (bU G Cf m (M.pV (qE Cf M.home (done++[y]))))).Rp;exact a.to
 intro v h a;have a:=(a.front (swX G Cf m c M e d l [g*2,g*2+1])).B5;have w:qE Cf M.home [g*2,g*2+1]=xV Cf M.home g:=by unfold qE xV;simp
 rw[w] at a;exact jL a fun h a=>jK (kG a fun h a=>iU (f _ _ a.to))
 .intro done y v h r a;obtain⟨z,_⟩:=(a.front (tX False)).Vd;exact z.elim
end
end Go.Proofs.YtmhapehobfnoiaaGreatDoor
end
