/- A part of the proof. -/
import Derived.Test.YtajjljbmfdboaaaGreatDoorF13
import Derived.Test.YtajjljbmfdboaaaGreatDoorF10
import Derived.Test.YtajjljbmfdboaaaGreatDoorF12
import Derived.Test.YtajjljbmfdboaaaGreatDoorF11
import Derived.Test.YtajjljbmfdboaaaGreatDoorF9
section
open Go Go.Ab
attribute [local irreducible] bA Br pN uC uU Dp nH xW nQ Tx gZ mQ rE sP qX lA B8 uK Y9 dw Tv Sl dj Ty Ry U9 Yi lJ pF vW jB copyV jC wY ft Zd Iw lI P0 Wx en qE uG Be Dk Cl zV Xm uE sS lC gK cS cC
section
namespace Go.Proofs.YtajjljbmfdboaaaGreatDoor.H
open Go Go.Ab Go.Hm
set_option maxRecDepth 100000
variable {G:Bg} {h:AH} {L L':List HP}
section
variable {C:bL} {hb mb b o cap p l:Nat} {H:iJ} {n:aJ} {Q:Value→AH→Prop}
theorem aAm (hC:C.Ok) (hlim:Ob G 0 fB) (hi:rR C H (2^30 - 1)) {t:Value}
  (hs:Hs G h (aE p 0 n.enc::aE hb 0 (jH mb C b o cap)::eN G C.lines mb C (fun i=>(H i).2)::hole G 25 247 (some ⟨b,o,none⟩) cap C.lines b o::dD C.lines (fun i=>dX b (o+i*25) (H i).1)::L)) (hkd:gA n.kind)
  (hk:∀v h',Hs G h' (eJ v (gE C H n).2.1::eY G hb C (gE C H n).1::L)→Q (.tuple ⟨[v,I (gE C H n).2.2]⟩) h'):Dd 200 4 [] Q [(pt hb 0 0),(pt p 0 0),t] h:=by
 unfold gE at hk
 rw[if_neg (by simpa using hkd)] at hk
 have hc4:C.aF≤4:=hC.1.2
 have no:¬((0≤n.core∧n.core<C.aF)∧C.has n.line)→∀h,Hs G h (aE p 0 n.enc::aE hb 0 (jH mb C b o cap)::eN G C.lines mb C (fun i=>(H i).2)::hole G 25 247 (some ⟨b,o,none⟩) cap C.lines b o::dD C.lines (fun i=>dX b (o+i*25) (H i).1)::L)→Q (.tuple ⟨[.slice none 0 0,I 10]⟩) h:=fun hn h hs=>by
  rw[if_neg hn] at hk
  exact hk _ _ (oN (uZ C H hb mb b o cap hs)).to
 refine bW (aU hs ?_)
 intro rv h hs
 refine aA (aC hs rfl (aN (aR (fun h1=>no (by omega) _ hs.to) (fun h1=>?_))))
 refine aA (aC hs rfl (aB (aA (aA (aC hs rfl (dR (aR (fun h2=>no (by omega) _ hs.to) (fun h2=>?_))))))))
 refine aA (aC hs rfl (tB hs (bS (dQ (aR (fun h3=>?_) (fun h3=>no (fun e=>h3 e.2) _ hs.to))))))
 rw[if_pos ⟨by omega,h3⟩] at hk
 obtain⟨l,hnl⟩:=Int.eq_ofNat_of_zero_le h3.1
 have hll:l<C.lines:=by have:=h3.2;omega
 have e:n.line.toNat=l:=by omega
 rw[e] at hk
 rw[hnl] at hk
 dsimp only at hk
 exact aA4 (mb:=mb) (b:=b) (o:=o) (cap:=cap) hC hlim hll hnl (by omega) (hi l hll).1 (by have:=(hi l hll).2;omega) hs.to hk
end
theorem Bz {C:bL} (hC:C.Ok) {hb:Nat} {H:iJ} {n:aJ} {Q:Value→AH→Prop} (hlim:Ob G 0 fB) (hi:rR C H (2^30 - 1)) (hs:Hs G h L) [m:Has (eY G hb C) L H L']
  (hk:∀v h',Hs G h' (eJ v (gE C H n).2.1::eY G hb C (gE C H n).1::L')→Q (.tuple ⟨[v,I (gE C H n).2.2]⟩) h'):Cl Pr K 200 [pt hb 0 0,.agg ⟨n.enc⟩] h Q:=by
 refine cW (dI (m.of hs) ?_)
 intro p h hs
 obtain⟨mb,b,o,cap,hs⟩:=lE hs.kA
 have key:∀t,gA n.kind→Dd 200 4 [] Q [(pt hb 0 0),(pt p 0 0),t] h:=fun t hkd=>aAm (mb:=mb) (b:=b) (o:=o) (cap:=cap) hC hlim hi hs.to hkd hk
 have no:¬gA n.kind→Q (.tuple ⟨[.slice none 0 0,I 15]⟩) h:=fun hn=>by
  unfold gE at hk
  rw[if_pos hn] at hk
  exact hk _ _ (oN (uZ C H hb mb b o cap hs)).to
 refine cN (bV (bW (aA (aC hs rfl (bH (aR (fun h1=>bW (bP h1 (key _ (by unfold gA;omega)))) (fun h1=>bW (bH (aR (fun h2=>bW (bP h2 (key _ (by unfold gA;omega)))) (fun h2=>bW ?_))))))))))
 refine bH (aR (fun h3=>bW (bP h3 (key _ (by unfold gA;omega)))) (fun h3=>bW ?_))
 refine bH (aR (fun h4=>bW (bP h4 (key _ (by unfold gA;omega)))) (fun h4=>bW ?_))
 exact bH (aR (fun h5=>key _ (by unfold gA;omega)) (fun h5=>no (by unfold gA;omega)))
theorem iq {C:bL} {hb:Nat} {H:iJ} {x:Int} {Q:Value→AH→Prop} (hi:rR C H (2^30 - 1)) (hs:Hs G h L) [m:Has (eY G hb C) L H L']
  (hk:∀h',Hs G h' (eY G hb C (kJ C H x).1::L')→Q (I (kJ C H x).2) h'):Cl Pr K 263 [pt hb 0 0,I x] h Q:=by
 obtain⟨mb,b,o,cap,hs⟩:=lE (m.of hs)
 unfold kJ at hk
 refine cW (cN (bV (bW (tB hs (bS (dQ (aR (fun h3=>bW ?_) (fun h3=>?_))))))))
 ·rw[if_pos h3] at hk
  obtain⟨l,rfl⟩:=Int.eq_ofNat_of_zero_le h3.1
  simp only[qZ.y3,Int.toNat_natCast] at hk
  have hl:l<C.lines:=by have:=h3.2;omega
  have hs:=Bw (H:=H) (b:=b) (o:=o) hl hs
  obtain⟨wa,wc,hs⟩:=dH hs
  have hw:=(hi l hl).2
  refine aB (aA (aC hs rfl (dK hl (aB (aA (aC hs rfl (aH (c:=(As l).enc) rfl (aH (c:=(As l).enc) rfl ?_))))))))
  refine dE hs rfl rfl rfl ?_
  intro a h hs
  refine pW hs (by omega) ?_
  intro a4 c4 h hs
  dsimp only
  refine aB (aA (bI hs rfl rfl rfl rfl ?_))
  intro h hs
  refine hk _ ?_
  have hs:=dZ b (o+l*25) ((H l).1.wait (As l)) a4 c4 hs (by simp[Row.enc,dL,Row.wait]) (by simp[Row.wait]) (by simp[uR,Row.wait])
  exact(eH hb C H l ((H l).1.wait (As l)) (H l).2 _ mb b o cap hl eM.symm hs).to
 ·rw[if_neg h3] at hk
  exact hk _ (uZ C H hb mb b o cap hs).to
structure W8 (G:Bg) (A:HP) (jv:Value) (j:Int→Int→Int×Bool):Prop where
 ne:∀k:Value→Prop,k (.bool false)→bA (Ty true .eql jv .nilIface) k
 may:∀(h:AH) (L M:List HP) (w l:Int) (Q:Value→AH→Prop),L.Perm (A::M)→Hs G h L→(∀h',Hs G h' L→Q (.tuple ⟨[I (j w l).1,.bool (j w l).2]⟩) h')→Cl Pr K 219 [jv,I w,I l] h Q
section
variable {C:bL} {hb mb b o cap p l:Nat} {H:iJ} {n:aJ} {r:Row} {Q:Value→AH→Prop} {j:Int→Int→Int×Bool} {jv:Value}
def rN (G:Bg) (hb p mb b o cap l:Nat) (C:bL) (H:iJ) (n:aJ) (r:Row):List HP:=
 [dX b (o+l*25) r,aE p 0 n.enc,aE hb 0 (jH mb C b o cap),eN G C.lines mb C (fun i=>(H i).2),hole G 25 247 (some ⟨b,o,none⟩) cap C.lines b o,uQ b o C.lines H l]
theorem mr (hl:l<C.lines) (hkd:n.kind≠3∧n.kind≠1∧n.kind≠2) (hs:Hs G h (rN G hb p mb b o cap l C H n r++L)) {t:Value}
  (hk:∀v h',Hs G h' (eJ v (r.begun l (H l).2 n (fun w=>j w l)).2::eY G hb C (bT H l (r.begun l (H l).2 n (fun w=>j w l)).1)::L)→Q (.tuple ⟨[v,I 0]⟩) h'):Dd 158 13 [] Q [(pt hb 0 0),(I l),jv,(pt b (o+l*25) 0),(pt p 0 0),t] h:=by
 unfold Row.begun at hk
 rw[if_neg hkd.1,if_neg (by omega)] at hk
 simp only[rN,List.cons_append,List.nil_append] at hs
 refine bW (uB hs fun hs=>bH (aR (fun h1=>?_) (fun h1=>bW (aU hs ?_))))
 ·rw[if_pos h1] at hk
  exact hk _ _ (oN ((eH hb C H l r (H l).2 _ mb b o cap hl eM.symm hs).to))
 ·rw[if_neg h1] at hk
  intro rv h hs
  refine aQ hs (by decide) (l:=n.enc) rfl rfl ?_
  obtain⟨wa,wc,hs⟩:=dH (hs.front (dX b (o+l*25) r))
  refine aB (aA (bI hs rfl rfl rfl rfl ?_))
  intro h hs
  have hs1:=hs
  refine aB (aA (bI hs rfl rfl rfl rfl ?_))
  intro h hs
  refine cQ dA (cQ (aQ hs1 (by decide) (l:=n.enc) rfl rfl (oU (by simp[mS,aJ.enc]))) ?_)
  have hs:=dZ b (o+l*25) (r.Ho n) wa wc hs rfl rfl rfl
  have e:(r.Ho n).jA (-1)=r.jA (-1):=rfl
  refine Ls hs fun v h hs=>hk _ _ ?_
  rw[e] at hs
  exact(eH hb C H l ((r.Ho n).gH (r.jA (-1))) (H l).2 _ mb b o cap hl eM.symm hs).to
theorem S7 (hC:C.Ok) (hlim:Ob G 0 fB) {A:HP} {M0:List HP} (hj:W8 G A jv j) (hA:L.Perm (A::M0)) (hl:l<C.lines) (hnc:0≤n.core∧n.core<4) (how: -1≤r.owner∧r.owner<4) (hkd:n.kind=1∨n.kind=2) (hs:Hs G h (rN G hb p mb b o cap l C H n r++L))
  (hk:∀v h',Hs G h' (eJ v (r.begun l (H l).2 n (fun w=>j w l)).2::eY G hb C (bT H l (r.begun l (H l).2 n (fun w=>j w l)).1)::L)→Q (.tuple ⟨[v,I 0]⟩) h'):Dd 158 12 [] Q [(pt hb 0 0),(I l),jv,(pt p 0 0)] h:=by
 unfold Row.begun at hk
 rw[if_neg (by omega),if_pos hkd] at hk
 simp only[rN,List.cons_append,List.nil_append] at hs
 refine bW (aA (aC hs rfl (hj.may _ _ _ _ _ _ ((hA.append_left (rN G hb p mb b o cap l C H n r)).trans List.perm_middle) hs fun h hs=>?_)))
 simp only[rN,List.cons_append,List.nil_append] at hs
 refine aG rfl (aG rfl (bS (dQ (cU (fun h1=>?_) (fun h1=>?_)))))
 ·rw[if_pos h1] at hk
  refine aQ hs (by decide) (l:=n.enc) rfl rfl ?_
  have hs:=eH hb C H l r (H l).2 _ mb b o cap hl eM.symm hs
  refine Du hC hlim hs hl hnc (by simp only[gP];exact how) fun v h hs=>hk _ _ ?_
  simp only[gP,Bb] at hs
  exact hs.to
 ·rw[if_neg (by rw[h1];simp)] at hk
  refine aA (aC hs rfl (aH (c:=(B4 9 n.core l).enc) rfl (aH (c:=(B4 9 n.core l).enc) rfl (dE hs rfl rfl rfl ?_))))
  intro a h hs
  refine hk _ _ ?_
  have hs:=Ap (n:=B4 9 n.core l) rfl hs
  exact(eH hb C H l r (H l).2 _ mb b o cap hl eM.symm hs).to
theorem vj (hC:C.Ok) (hlim:Ob G 0 fB) (hl:l<C.lines) (hnc:0≤n.core∧n.core<4) (hkd:n.kind=3) (hs:Hs G h (rN G hb p mb b o cap l C H n r++L))
  (hk:∀v h',Hs G h' (eJ v (r.begun l (H l).2 n (fun w=>j w l)).2::eY G hb C (bT H l (r.begun l (H l).2 n (fun w=>j w l)).1)::L)→Q (.tuple ⟨[v,I 0]⟩) h'):Dd 158 6 [] Q [(pt hb 0 0),(I l),(pt b (o+l*25) 0),(pt p 0 0)] h:=by
 unfold Row.begun at hk
 rw[if_pos hkd] at hk
 simp only[rN,List.cons_append,List.nil_append] at hs
 refine bW (aU hs ?_)
 intro rv h hs
 obtain⟨wa,wc,hs⟩:=dH (hs.front (dX b (o+l*25) r))
 refine aB (aA (aC hs rfl (aA (aC hs rfl (bH (aR (fun h1=>?_) (fun h1=>?_)))))))
 ·have hs:=dZ b (o+l*25) r wa wc hs rfl rfl rfl
  refine aA (aC hs rfl (cU (fun h2=>bW (aU hs ?_)) (fun h2=>bW ?_)))
  ·rw[if_pos ⟨h1,h2⟩] at hk
   intro rv h hs
   refine aB (aA (aC hs rfl (aA (aQ hs (by decide) (l:=J5 (n.d0,n.d1)) rfl rfl (Cn hC hlim hs hl fun h hs=>?_)))))
   refine aA (aC hs rfl (Bx hs hnc fun h hs=>?_))
   refine aA (aC hs rfl (aH (c:=(B4 10 n.core l).enc) rfl (aH (c:=(B4 10 n.core l).enc) rfl (dE hs rfl rfl rfl ?_))))
   intro a h hs
   refine hk _ _ ?_
   have hs:=Ap (n:=B4 10 n.core l) rfl hs
   exact(eH hb C H l (r.leave n.core) (n.d0,n.d1) _ mb b o cap hl rfl hs).to
  ·rw[if_neg (by rw[h2];simp)] at hk
   refine aA (aC hs rfl (Bx hs hnc fun h hs=>?_))
   refine aA (aC hs rfl (aH (c:=(B4 10 n.core l).enc) rfl (aH (c:=(B4 10 n.core l).enc) rfl (dE hs rfl rfl rfl ?_))))
   intro a h hs
   refine hk _ _ ?_
   have hs:=Ap (n:=B4 10 n.core l) rfl hs
   exact(eH hb C H l (r.leave n.core) (H l).2 _ mb b o cap hl eM.symm hs).to
 ·rw[if_neg (fun e=>h1 e.1)] at hk
  have hs:=dZ b (o+l*25) r wa wc hs rfl rfl rfl
  refine aA (aC hs rfl (Bx hs hnc fun h hs=>?_))
  refine aA (aC hs rfl (aH (c:=(B4 10 n.core l).enc) rfl (aH (c:=(B4 10 n.core l).enc) rfl (dE hs rfl rfl rfl ?_))))
  intro a h hs
  refine hk _ _ ?_
  have hs:=Ap (n:=B4 10 n.core l) rfl hs
  exact(eH hb C H l (r.leave n.core) (H l).2 _ mb b o cap hl eM.symm hs).to
end
theorem ja {C:bL} (hC:C.Ok) {hb:Nat} {H:iJ} {x:Int} {jv:Value} {j:Int→Int→Int×Bool} {N:Nat} {Q:Value→AH→Prop} (hlim:Ob G 0 fB) {A:HP} {M0:List HP} (hj:W8 G A jv j) (hi:rR C H N) (hs:Hs G h L) [m:Has (eY G hb C) L H L'] (hA:L'.Perm (A::M0))
  (hk:∀v h',Hs G h' (eJ v (jO C H x (fun w=>j w x)).2.1::eY G hb C (jO C H x (fun w=>j w x)).1::L')→Q (.tuple ⟨[v,I (jO C H x (fun w=>j w x)).2.2]⟩) h'):Cl Pr K 158 [pt hb 0 0,I x,jv] h Q:=by
 obtain⟨mb,b,o,cap,hs⟩:=lE (m.of hs)
 unfold jO at hk
 refine cW (cN (bV (bW (tB hs (bS (dQ (aR (fun h3=>bW (hj.ne _ (bV (bW ?_)))) (fun h3=>?_))))))))
 rotate_left
 ·rw[if_neg h3] at hk
  exact hk _ _ (oN (uZ C H hb mb b o cap hs)).to
 rw[if_pos h3] at hk
 obtain⟨l,rfl⟩:=Int.eq_ofNat_of_zero_le h3.1
 have hl:l<C.lines:=by have:=h3.2;omega
 simp only[Int.toNat_natCast] at hk
 have hs:=Bw (H:=H) (b:=b) (o:=o) hl hs
 obtain⟨wa,wc,hs⟩:=dH hs
 have same:∀h,Hs G h (dX b (o+l*25) (H l).1::uQ b o C.lines H l::aE hb 0 (jH mb C b o cap)::eN G C.lines mb C (fun i=>(H i).2)::hole G 25 247 (some ⟨b,o,none⟩) cap C.lines b o::L')→Hs G h (eJ (.slice none 0 0) []::eY G hb C (bT H l (H l))::L'):=fun h hs=>
  oN ((eH hb C H l (H l).1 (H l).2 _ mb b o cap hl eM.symm hs).to)
 unfold qZ.begin at hk
 refine aB (aA (aC hs rfl (dK hl (aB (aA (aC hs rfl (cU (fun h4=>?_) (fun h4=>bW ?_))))))))
 ·rw[if_pos h4] at hk
  exact hk _ _ (same _ (dZ b (o+l*25) (H l).1 wa wc hs rfl rfl rfl).to)
 rw[if_neg (by rw[h4];simp)] at hk
 refine aB (aA (aC hs rfl (bZ (bH (aR (fun h5=>?_) (fun h5=>bW ?_))))))
 ·have hw:(H l).1.waits=[]:=List.eq_nil_of_length_eq_zero (by omega)
  rw[hw] at hk
  exact hk _ _ (same _ (dZ b (o+l*25) (H l).1 wa wc hs rfl rfl rfl).to)
 ·cases hw:(H l).1.waits with
  |nil=>rw[hw] at h5;simp at h5
  |cons n w=>
   rw[hw] at hk
   dsimp only at hk
   have hin:=(hi l hl).1
   have hnc:=hin.waits n (by rw[hw];exact List.mem_cons_self)
   have hslc:=hs.front (dB 9 175 wa wc ((H l).1.waits.length,eA (H l).1.waits))
   rw[hw] at hslc
   simp only[List.length_cons,G5] at hslc
   obtain⟨b2,o2,rfl,HH,hs2,_⟩:=hslc.mU (by omega)
   refine aB (aA (aC hs rfl ?_))
   rw[hw]
   refine dK (i:=0) (by simp) (Hh hs2 (by decide) (l:=n.enc) (by simp[aJ.enc]) rfl ?_)
   clear hs2
   refine bN hslc ?_
   intro p h hs
   refine aZ hs rfl rfl rfl rfl ?_
   intro h hs
   refine aB (aA (aC hs rfl ?_))
   rw[hw]
   refine nh (e:=175) hs ?_
   intro a' c' hs
   refine aB (aA (bI hs rfl rfl rfl rfl ?_))
   intro h hs
   have hs:=dZ b (o+l*25) ((H l).1.next w) a' c' hs rfl rfl (by simp[Row.next,aJ.enc])
   have hs:Hs G h (rN G hb p mb b o cap l C H n ((H l).1.next w)++L'):=by
    simp only[rN,List.cons_append,List.nil_append]
    exact hs.to
   have hs0:=hs
   simp only[rN,List.cons_append,List.nil_append] at hs0
   refine aA (aC hs0 rfl (bH (aR (fun k1=>vj (j:=j) hC hlim hl hnc k1 hs hk) (fun k1=>bW (bH (aR (fun k2=>bW (bP k2 (S7 (r:=(H l).1.next w) hC hlim hj hA hl hnc hin.owner (.inl k2) hs hk))) (fun k2=>bW (bH (aR (fun k3=>S7 (r:=(H l).1.next w) hC hlim hj hA hl hnc hin.owner (.inr k3) hs hk) (fun k3=>mr hl ⟨k1,k2,k3⟩ hs hk))))))))))
end Go.Proofs.YtajjljbmfdboaaaGreatDoor.H
end
end
section
namespace Go.Proofs.YtajjljbmfdboaaaGreatDoor
open Go Go.Ab Go.Hm Go.At Go.Mc
theorem aAe {a b c d:Bool} {k:Value→Prop} (hk:k (.bool (!(a||b||c||d)))) {c0:Bool} (hc:c0=true:=by kernel_rfl):U9 c0 [1,1,1,1] .eql (.agg ⟨[.bool a,.bool b,.bool c,.bool d]⟩) (.agg ⟨[.bool false,.bool false,.bool false,.bool false]⟩) k:=by
 have e:Ry [1,1,1,1] .eql (.agg ⟨[.bool a,.bool b,.bool c,.bool d]⟩) (.agg ⟨[.bool false,.bool false,.bool false,.bool false]⟩)=some (.bool (!(a||b||c||d))):=by cases a<;>cases b<;>cases c<;>cases d<;>kernel_rfl
 exact⟨hc,_,e,hk⟩
set_option maxRecDepth 100000
attribute [local irreducible] bA Br pN uC uU Dp nH xW nQ Tx gZ mQ rE sP qX lA B8 uK Y9 dw Tv Sl dj Ty Ry U9 Yi lJ pF vW jB copyV jC wY ft Zd Iw lI P0 Wx en qE uG Be Dk Cl zV Xm uE sS lC gK cS cC
variable {G:Bg} {h:AH} {L L' M:List HP} {Q:Value→AH→Prop} {C:bL} {m:Mon} {p:Nat}
theorem Nb {g:Int} (hm:gB C m) (hC:C.Ok) (hg:m.has g):∃n:Nat,g=n∧n<m.fY.length∧n<16:=by
 have:=hm.len
 have:=hC.2.1
 unfold Mon.has at hg
 exact⟨g.toNat,by omega,by omega,by omega⟩
theorem fp {r:Mc.iM} {i:Nat} (hi:i<4):dL r.enc (0+8+i*1) [.bool false]=(r.heard i).enc:=by
 have:i=0∨i=1∨i=2∨i=3:=by omega
 rcases this with rfl|rfl|rfl|rfl<;>rfl
theorem Me {f:Nat→Option Mc.iM} {g:Nat} {r:Mc.iM}:H5 (fG f) g (some (.agg ⟨r.enc⟩))=fG (bT f g (some r)):=Er (x:=some r)
theorem Kc {g core:Int} (hC:C.Ok) (hm:gB C m) (hs:Hs G h L) [mm:Has (fD C p) L m L'] (hk:∀h',Hs G h' (fD C p (m.dropped C.aF g core).1::L')→Q (.tuple ⟨[.bool (m.dropped C.aF g core).2.1,I (m.dropped C.aF g core).2.2]⟩) h'):Cl Pr K 210 [pt p 0 0,I g,I core] h Q:=by
 have hc:=hC.1
 unfold Mon.dropped at hk
 obtain⟨t,b,hs⟩:=jQ (mm.of hs)
 refine cW (cN (bV (bW (aB (aA (aC (b:=p) (o:=0) hs rfl (zK (m:=m) hs fun h hs=>?_)))))))
 by_cases hh:m.has g
 rotate_left
 ·rw[if_neg hh]
  rw[if_pos hh] at hk
  exact aG rfl (aG rfl (bN hs fun q h hs=>aZ (b:=q) hs rfl rfl rfl rfl fun h hs=>aY (bP (by omega) (hk _ (dM (t:=t) (b:=b) hs.to)))))
 rw[if_pos hh]
 rw[if_neg (by simpa using hh)] at hk
 obtain⟨n,rfl,hn,hn16⟩:=Nb hm hC hh
 refine aG rfl (aG rfl (bN hs fun q h hs=>aZ (b:=q) hs rfl rfl rfl rfl fun h hs=>aY (aK (by omega) (bW (aB (aA (aC (b:=p) (o:=0) hs rfl (Lm (m:=m) hs (bN hs fun pr h hs=>aZ (b:=pr) hs rfl rfl rfl rfl fun h hs=>aA (aC (b:=pr) (o:=0) hs rfl (aY (aR (fun h1=>?_) (fun h1=>?_)))))))))))))
 ·cases hr:m.run (n:Int) with
  |none=>rw[hr] at hk;exact hk _ (dM (t:=t) (b:=b) hs.to)
  |some r=>
   rw[hr] at h1 hk
   simp only[Option.getD_some] at h1
   dsimp only at hk
   rw[if_pos h1] at hk
   exact hk _ (dM (t:=t) (b:=b) hs.to)
 cases hr:m.run (n:Int) with
 |none=>rw[hr] at h1;exact absurd (show(0:Int)≠1 by omega) h1
 |some r=>
 rw[hr] at h1 hs hk
 simp only[Option.getD_some] at h1 hs
 dsimp only at hk
 rw[if_neg h1] at hk
 by_cases h2:0≤core∧core<C.aF
 rotate_left
 ·rw[if_pos (Or.inl h2)] at hk
  refine bW (aN (aR (fun h3=>hk _ (dM (t:=t) (b:=b) hs.to)) fun h3=>aB (aA (aC (b:=p) (o:=0) hs rfl (dR (bP (by omega) (hk _ (dM (t:=t) (b:=b) hs.to))))))))
 obtain⟨i,rfl⟩:=Int.eq_ofNat_of_zero_le h2.1
 have hi:i<4:=by omega
 have hg8:r.enc[0+8+i*1]?=some (.bool (r.waits i)):=by
  have:i=0∨i=1∨i=2∨i=3:=by omega
  rcases this with rfl|rfl|rfl|rfl<;>rfl
 refine bW (aN (aK (by omega) (aB (aA (aC (b:=p) (o:=0) hs rfl (dR (aK (by omega) (aA (fQ (by omega) (aC (b:=pr) (o:=0) hs hg8 (bS (dQ ?_))))))))))))
 rw[Int.toNat_natCast] at hk
 cases hw:r.waits i with
 |false=>
  rw[if_pos (Or.inr hw)] at hk
  exact bV (hk _ (dM (t:=t) (b:=b) hs.to))
 |true=>
 rw[if_neg (by rw[hw];simp;omega)] at hk
 have hl:r.enc.length=12:=rfl
 refine eQ (bW (aA (fQ (by omega) (bI (b:=pr) (o:=0) hs rfl (by rw[hl];exact Nat.ble_eq_true_of_le (by simp;omega)) rfl rfl fun h hs=>?_))))
 rw[fp hi] at hs
 refine aA (iN (b:=pr) (o:=0) hs (by decide) (l:=[.bool ((r.heard i).waits 0),.bool ((r.heard i).waits 1),.bool ((r.heard i).waits 2),.bool ((r.heard i).waits 3)]) rfl rfl (aH (c:=[.bool false,.bool false,.bool false,.bool false]) rfl (aAe (cU (fun hn0=>?_) (fun hn0=>?_)))))
 ·have e:({(r.heard i) with phase:=2}:Mc.iM)=(r.heard i).iY:=by unfold iM.iY;rw[show(r.heard i).none=true from hn0];rfl
  refine bW (aA (bI (b:=pr) (o:=0) hs rfl rfl rfl rfl fun h hs=>aU hs fun rr h hs=>?_))
  have e0:dL (r.heard i).enc (0+7) [I 2]=({(r.heard i) with phase:=2}:Mc.iM).enc:=rfl
  rw[e0,e] at hs
  refine aB (aA (aC (b:=p) (o:=0) hs rfl (aQ (b:=pr) (o:=0) hs (by decide) (l:=(r.heard i).iY.enc) rfl rfl (Nc hs hn16 fun h hs=>?_))))
  rw[Me] at hs
  have hs:Hs G h (fD C p (m.dN n (some (r.heard i).iY))::L'):=(dM (m:=m.dN n (some (r.heard i).iY)) (hs.cJ (aE p 0 [pt t 0 0,I C.aF,fJ b]) (fZ t m.fY) (gX b (fG (bT m.runs n (some (r.heard i).iY)))))).to
  have:=hk h hs
  rw[hn0]
  rw[show(r.heard i).none=true from hn0] at this
  exact this
 ·have e:r.heard i=(r.heard i).iY:=by unfold iM.iY;rw[show(r.heard i).none=false from hn0];rfl
  rw[e] at hs
  refine bW (aU hs fun rr h hs=>aB (aA (aC (b:=p) (o:=0) hs rfl (aQ (b:=pr) (o:=0) hs (by decide) (l:=(r.heard i).iY.enc) rfl rfl (Nc hs hn16 fun h hs=>?_)))))
  rw[Me] at hs
  have hs:Hs G h (fD C p (m.dN n (some (r.heard i).iY))::L'):=(dM (m:=m.dN n (some (r.heard i).iY)) (hs.cJ (aE p 0 [pt t 0 0,I C.aF,fJ b]) (fZ t m.fY) (gX b (fG (bT m.runs n (some (r.heard i).iY)))))).to
  have:=hk h hs
  rw[hn0]
  rw[show(r.heard i).none=false from hn0] at this
  exact this
theorem np {n:Nat} {r:Mc.iM} (h:m.run (n:Int)=some r):m.runs n=some r:=by
 unfold Mon.run at h
 rw[if_pos (by omega)] at h
 exact h
theorem Vy {g:Int} (hC:C.Ok) (hm:gB C m) (hs:Hs G h L) [mm:Has (fD C p) L m L'] (hk:∀h',Hs G h' (fD C p (m.over g).1::L')→Q (.tuple ⟨[.agg ⟨lX ((m.over g).2.1.getD zU)⟩,I (m.over g).2.2]⟩) h'):Cl Pr K 159 [pt p 0 0,I g] h Q:=by
 unfold Mon.over at hk
 refine cW (bN (cs:=lX zU) (mm.of hs) fun q0 h hs=>?_)
 obtain⟨t,b,hs⟩:=jQ (hs.front (fD C p m))
 refine cN (bV (bW (aB (aA (aC (b:=p) (o:=0) hs rfl (zK (m:=m) hs fun h hs=>?_))))))
 have bad:∀{h:AH} {M:List HP} {e:Int},[Sub M L']→Hs G h (aE q0 0 (lX zU)::aE p 0 [pt t 0 0,I C.aF,fJ b]::fZ t m.fY::gX b (fG m.runs)::M)→(∀h',Hs G h' (fD C p m::L')→Q (.tuple ⟨[.agg ⟨lX zU⟩,I e]⟩) h')→
   bA (nI [(I 0),(I 0),(I 0),(I 0),(I 0),(I 0),(.bool false)] []) fun c10=>bA (uU h 7 (pt q0 0 0) (.agg ⟨c10⟩)) fun h11=>bA (uC h11 7 (pt q0 0 0)) fun v12=>Q (.tuple ⟨[v12,I e]⟩) h11:=by
  intro h M e _ hs hq
  exact aH (c:=lX zU) rfl (aZ (b:=q0) hs rfl rfl rfl rfl fun h hs=>aQ (b:=q0) (o:=0) hs (by decide) (l:=lX zU) rfl rfl (hq _ (dM (t:=t) (b:=b) hs.to)))
 by_cases hh:m.has g
 rotate_left
 ·rw[if_neg hh]
  rw[if_pos hh] at hk
  exact aG rfl (aG rfl (bN hs fun q h hs=>aZ (b:=q) hs rfl rfl rfl rfl fun h hs=>aY (bP (by omega) (bad (M:=L') hs.to hk))))
 rw[if_pos hh]
 rw[if_neg (by simpa using hh)] at hk
 obtain⟨n,rfl,hn,hn16⟩:=Nb hm hC hh
 refine aG rfl (aG rfl (bN hs fun q h hs=>aZ (b:=q) hs rfl rfl rfl rfl fun h hs=>aY (aK (by omega) (bW (aB (aA (aC (b:=p) (o:=0) hs rfl (Lm (m:=m) hs (bN hs fun pr h hs=>aZ (b:=pr) hs rfl rfl rfl rfl fun h hs=>aA (aC (b:=pr) (o:=0) hs rfl (aY (aR (fun h1=>?_) (fun h1=>?_)))))))))))))
 ·cases hr:m.run (n:Int) with
  |none=>rw[hr] at hk;exact bad (M:=L') hs.to hk
  |some r=>
   rw[hr] at h1 hk
   simp only[Option.getD_some] at h1
   dsimp only at hk
   rw[if_pos h1] at hk
   exact bad (M:=L') hs.to hk
 cases hr:m.run (n:Int) with
 |none=>rw[hr] at h1;exact absurd (show(0:Int)≠2 by omega) h1
 |some r=>
 rw[hr] at h1 hs hk
 simp only[Option.getD_some] at h1 hs
 dsimp only at hk
 rw[if_neg h1] at hk
 obtain⟨o1,o2,o3,o4,o5⟩:=hm.run n r (np hr)
 refine bW (aU hs fun rr h hs=>aB (aA (aC (b:=p) (o:=0) hs rfl (aA (aA (aA (aC (b:=pr) (o:=0) hs rfl (aA (aA (aC (b:=pr) (o:=0) hs rfl (aH (c:=(⟨r.then',false⟩:kE).enc) rfl (D9 (x:=⟨r.then',false⟩) hs fun h hs=>?_))))))))))))
 have hcond:(0≤r.cE∧r.cE<m.fY.length)∧(0≤r.then'∧r.then'≤4):=⟨by rw[o2];omega,o5⟩
 rw[if_pos hcond] at hs
 rw[if_pos hcond]
 refine aY (aK (by omega) (bW (aB (aA (aC (b:=p) (o:=0) hs rfl (aAo hs fun h hs=>aA (aQ (b:=pr) (o:=0) hs (by decide) (l:=lX r) rfl rfl (aZ (b:=q0) hs rfl rfl rfl rfl fun h hs=>aQ (b:=q0) (o:=0) hs (by decide) (l:=lX r) rfl rfl (hk _ ?_)))))))))
 have e1:=Er (f:=m.runs) (g:=n) (x:=none)
 rw[Option.map_none] at e1
 rw[e1] at hs
 have hs:Hs G h (fD C p ((m.cy r.cE.toNat ⟨r.then',false⟩).dN n none)::L'):=(dM (m:=(m.cy r.cE.toNat ⟨r.then',false⟩).dN n none) (hs.cJ (aE p 0 [pt t 0 0,I C.aF,fJ b]) (fZ t (m.fY.set r.cE.toNat ⟨r.then',false⟩)) (gX b (fG (bT m.runs n none))))).to
 exact hs
end Go.Proofs.YtajjljbmfdboaaaGreatDoor
end
section
open Go Go.Ab
attribute [local irreducible] bA Br pN uC uU Dp nH xW nQ Tx gZ mQ rE sP qX lA B8 uK Y9 dw Tv Sl dj Ty Ry U9 Yi lJ pF vW jB copyV jC wY ft Zd Iw lI P0 Wx en qE uG Be Dk Cl zV Xm uE sS lC gK cS cC
section
namespace Go.Proofs.YtajjljbmfdboaaaGreatDoor
open Go Go.Ab Go.Hm Go.At Go.Mc
def qT (m:Mon) (done:List Int) (k:Nat):Option Value:=if(k:Int)∈done then fG m.runs k else none
theorem dc {m:Mon}:qT m []=fun _=>none:=by funext k;unfold qT;simp
theorem Y5 {m:Mon} {done:List Int} {k:Nat} {r:Mc.iM} (hr:m.runs k=some r):H5 (qT m done) k (some (.agg ⟨r.enc⟩))=qT m (done++[(k:Int)]):=by
 funext j
 unfold H5 qT
 by_cases e:j=k
 ·subst e;simp[fG,hr]
 ·rw[if_neg e]
  have:((j:Int)∈done++[(k:Int)])↔(j:Int)∈done:=by simp;omega
  simp only[this]
theorem Zy {m:Mon} (h16:∀g r,m.runs g=some r→g<16):qT m (m.running.map fun k:Nat=>(k:Int))=fG m.runs:=by
 funext k
 unfold qT
 split
 ·rfl
 ·rename_i hn
  cases hr:m.runs k with
  |none=>unfold fG;rw[hr];rfl
  |some r=>exact absurd (List.mem_map.2 ⟨k,pD.2 ⟨h16 k r hr,by rw[hr];rfl⟩,rfl⟩) hn
set_option maxRecDepth 100000
variable {G:Bg} {h:AH} {L L' M:List HP} {Q:Value→AH→Prop} {C:bL} {m:Mon} {p:Nat}
abbrev aAq (C:bL) (m:Mon) (p p2 p3 q t b:Nat) (e:Nat→Value) (d l:Nat) (done:List Int):HP:=
 sp [jY Pr 77 (kD 122) 39 e d l (.ready,none),sp [aE p2 0 [pt p 0 0],aE p3 0 [pt q 0 0]],fD C p m,sp [aE q 0 [pt t 0 0,I C.aF,fJ b],fZ t m.fY,gX b (qT m done)]]
theorem Hk (hC:C.Ok) (hm:gB C m) (hs:Hs G h L) [mm:Has (fD C p) L m L'] (hk:∀q h',Hs G h' (fD C q m::fD C p m::L')→Q (pt q 0 0) h'):Cl Pr K 77 [pt p 0 0] h Q:=by
 have hlen:=hm.len
 have hgr:=hC.2.1
 refine cW (dI (mm.of hs) fun p2 h hs=>?_)
 refine aC (b:=p2) (o:=0) hs rfl (cN (bV ?_))
 obtain⟨t0,b0,hs⟩:=jQ (hs.front (fD C p m))
 refine bW (aU hs fun rr h0 hs0=>aC (b:=p2) (o:=0) hs0 rfl (aB (aA (aC (b:=p) (o:=0) hs0 rfl (Vw (es:=m.fY) (by omega) hs0 fun t h hs=>?_)))))
 refine aC (b:=p2) (o:=0) hs rfl (aB (aA (aC (b:=p) (o:=0) hs rfl (aC (b:=p2) (o:=0) hs rfl (aB (aA (aC (b:=p) (o:=0) hs rfl (aAg (b:=b0) (f:=fG m.runs) hs fun _=>aE8 (Vq (r:=rr) (i:=14) (n:=19) (D:=[]) hs rfl rfl fun b h hs=>?_)))))))))
 refine aH (c:=[pt t 0 0,I C.aF,fJ b]) rfl (xQ (r:=rr) (i:=16) (n:=19) (D:=[14]) hs rfl rfl fun q h hs=>kC (r:=rr) (i:=17) (n:=19) (D:=[16,14]) hs rfl rfl fun p3 h hs=>aZ (b:=p3) hs rfl rfl rfl rfl fun h hs=>?_)
 refine cQ (aC (b:=p2) (o:=0) hs0 rfl dA) (cQ (aB dA) (cQ (aA dA) (cQ (aC (b:=p) (o:=0) hs0 rfl gC) (cQ (aC (b:=p2) (o:=0) hs0 rfl dA) (cQ (aB dA) (cQ (aA dA) (cQ (aC (b:=p) (o:=0) hs0 rfl (by simp[mS,fJ])) ?_)))))))
 have hs:=dM (hs.cJ (aE p 0 [pt t0 0 0,I C.aF,fJ b0]) (fZ t0 m.fY) (gX b0 (fG m.runs)))
 refine aC (b:=p2) (o:=0) hs rfl (Aw (C:=C) (m:=m) hs fun qv qa qc h hs=>jX hs fun d h hs=>?_)
 intro e he
 refine mG hs fun l h hs=>rT rfl ?_
 rw[←dc (m:=m)] at hs
 have hs:Hs G h (H.F1 3 qv qa qc (m.running.map fun k:Nat=>(k:Int))::aAq C m p p2 p3 q t b e d l []::mk d ()::L'):=by
  have hs:=(hs.cJ (aE q 0 [pt t 0 0,I C.aF,fJ b]) (fZ t m.fY) (gX b (qT m []))).Ko
  have hs:=(hs.cA (aE p2 0 [pt p 0 0]) (aE p3 0 [pt q 0 0])).zB
  have hs:=(hs.lD (jY Pr 77 (kD 122) 39 e d l (.ready,none)) (sp [aE p2 0 [pt p 0 0],aE p3 0 [pt q 0 0]]) (fD C p m) (sp [aE q 0 [pt t 0 0,I C.aF,fJ b],fZ t m.fY,gX b (qT m [])])).Ge
  exact hs.to
 refine(H.xV (e:=3) (p:=qv) (a:=qa) (c:=qc) (xs:=m.running.map fun k:Nat=>(k:Int)) (by have:=List.length_filter_le (fun g=>(m.runs g).isSome) (List.range 16);simp[Mon.running] at this ⊢;omega)).fold
  (X:=fun done=>aAq C m p p2 p3 q t b e d l done) (Z:=fun _ _=>uI False) hs ?_ ?_ ?_
 ·intro done x h M hp hs
  have hs:=hs.u0
  obtain⟨k,hkr,rfl⟩:∃k∈m.running,(k:Int)=x:=by
   obtain⟨ys,hys⟩:=hp
   have:x∈m.running.map fun k:Nat=>(k:Int):=by rw[←hys];simp
   obtain⟨k,h1,h2⟩:=List.mem_map.1 this
   exact⟨k,h1,h2⟩
  obtain⟨r,hr⟩:=Option.isSome_iff_exists.1 (pD.1 hkr).2
  have hrr:m.run (k:Int)=some r:=by unfold Mon.run;rw[if_pos (by omega)];exact hr
  have hs:=(hs.front (sp [aE p2 0 [pt p 0 0],aE p3 0 [pt q 0 0]])).xA
  have hs:=(hs.front (sp [aE q 0 [pt t 0 0,I C.aF,fJ b],fZ t m.fY,gX b (qT m done)])).wP
  refine rW (rS hs) he (gU hs fun h hs=>aU hs fun rr h hs=>?_)
  obtain⟨t2,b2,hs⟩:=jQ (hs.front (fD C p m))
  refine aC (b:=p3) (o:=0) hs rfl (aB (aA (aC (b:=q) (o:=0) hs rfl (aC (b:=p2) (o:=0) hs rfl (aB (aA (aC (b:=p) (o:=0) hs rfl (Lm (b:=b2) (m:=m) hs ?_))))))))
  rw[hrr]
  refine Nc (b:=b) (f:=qT m done) hs (pD.1 hkr).1 fun h hs=>iE hs fun h hs=> .inl ⟨rfl,?_⟩
  rw[show(some r).getD zU=r from rfl,Y5 hr] at hs
  have hs:=dM (hs.cJ (aE p 0 [pt t2 0 0,I C.aF,fJ b2]) (fZ t2 m.fY) (gX b2 (fG m.runs)))
  have hs:=(hs.cJ (aE q 0 [pt t 0 0,I C.aF,fJ b]) (fZ t m.fY) (gX b (qT m (done++[(k:Int)])))).Ko
  have hs:=(hs.cA (aE p2 0 [pt p 0 0]) (aE p3 0 [pt q 0 0])).zB
  have hs:=(hs.lD (jY Pr 77 (kD 122) 39 e d l (.ready,none)) (sp [aE p2 0 [pt p 0 0],aE p3 0 [pt q 0 0]]) (fD C p m) (sp [aE q 0 [pt t 0 0,I C.aF,fJ b],fZ t m.fY,gX b (qT m (done++[(k:Int)]))])).Ge
  exact hs.to
 ·intro v h hs
  have hs:=(hs.front (aAq C m p p2 p3 q t b e d l (m.running.map fun k:Nat=>(k:Int)))).u0
  have hs:=(hs.front (sp [aE p2 0 [pt p 0 0],aE p3 0 [pt q 0 0]])).xA
  have hs:=(hs.front (sp [aE q 0 [pt t 0 0,I C.aF,fJ b],fZ t m.fY,gX b (qT m (m.running.map fun k:Nat=>(k:Int)))])).wP
  rw[Zy (hm.aCt hC)] at hs
  have hs:=dM (hs.cJ (aE q 0 [pt t 0 0,I C.aF,fJ b]) (fZ t m.fY) (gX b (fG m.runs)))
  exact mE hs fun h hs=>mC (aC (b:=p3) (o:=0) hs rfl (lN hs fun h hs=>jI (hk _ _ hs.to)))
 ·intro done x v h hp hs
  obtain⟨hd,_⟩:=(hs.front (uI False)).bq
  exact hd.elim
end Go.Proofs.YtajjljbmfdboaaaGreatDoor
end
end
section
namespace Go.Proofs.YtajjljbmfdboaaaGreatDoor
open Go Go.Ab Go.Hm Go.At Go.Mc
theorem qw {t:TypeId} {v:Value} {k:Value→Prop} (hk:k (.bool false)):bA (Ty true .eql (.iface t v) .nilIface) k:=⟨_,rfl,hk⟩
set_option maxRecDepth 100000
attribute [local irreducible] bA Br pN uC uU Dp nH xW nQ Tx gZ mQ rE sP qX lA B8 uK Y9 dw Tv Sl dj Ty Ry U9 Yi lJ pF vW jB copyV jC wY ft Zd Iw lI P0 Wx en qE uG Be Dk Cl zV Xm uE sS lC gK cS cC
variable {G:Bg} {h:AH} {L L' M:List HP} {Q:Value→AH→Prop} {C:bL} {m:Mon} {p:Nat}
theorem Nd {ov:Value} {os:List Int} {k:Value→Prop} (ho:A.Fv G ov os) (hk:k (I os.length)):bA (lA ov) k:=A.sN ho (by rw[A.rG];exact hk)
theorem qV {α:Type} {l:List α} {i:Nat} (h:i<l.length):∃x,l[i]?=some x∧l.drop i=x::l.drop (i+1):=⟨l[i],by simp,List.drop_eq_getElem_cons h⟩
def rL (os:List Int):List kE:=os.map fun o=>⟨o,false⟩
theorem Nw {ov:Value} {os:List Int} (ho:A.Fv G ov os) (hn:os.length≤16) (hv:∀o∈os,0≤o∧o≤4) {t0:Value} (k:∀h',Hs G h' L→Dd 87 4 [] Q [t0,ov] h'):
  ∀(f i:Nat) (h:AH),i+f=os.length→Hs G h L→Dd 87 2 [] Q [t0,ov,ov,(I os.length),(I i)] h:=by
 intro f
 induction f with
 |zero=>intro i h hi hs;exact bW (aN (aK (by omega) (k _ hs)))
 |succ f ih=>
  intro i h hi hs
  obtain⟨x,hx,hd⟩:=qV (l:=os) (i:=i) (by omega)
  have hxv:=hv x (List.mem_of_getElem? hx)
  have hs:=A.qI ho hs
  exact bW (aN (bP (by omega) (bW (xL hs (x:=[I x]) (by simp[A.Db,hx]) rfl (aN (aK (by omega) (iS (aK (by omega) (bW (bE (by omega) (ih (i+1) h (by omega) hs.tail)))))))))))
theorem gd {os:List Int} {i:Nat} {x:Int} (hx:os[i]?=some x):(rL (os.take i)++List.replicate (os.length - i) jU).set i ⟨x,false⟩=rL (os.take (i+1))++List.replicate (os.length - (i+1)) jU:=by
 obtain⟨hi,hxi⟩:=List.getElem?_eq_some_iff.1 hx
 have hl:(rL (os.take i)).length=i:=by simp[rL];omega
 rw[List.set_append_right _ _ (by omega),hl,Nat.sub_self,show os.length - i=(os.length - (i+1))+1 by omega,List.replicate_succ,List.set_cons_zero,List.take_add_one,hx]
 simp[rL]
theorem aj {ov:Value} {os:List Int} (hC:C.Ok) (ho:A.Fv G ov os) (hl:os.length=C.bB.toNat) (hv:∀o∈os,0≤o∧o≤4) (hs:Hs G h L) (hk:∀q h',Hs G h' (fD C q ⟨rL os,fun _=>none⟩::L)→Q (.tuple ⟨[pt q 0 0,I 0]⟩) h'):Cl Pr K 87 [I C.aF,ov] h Q:=by
 have hc:=hC.1
 have hgr:=hC.2.1
 refine cW (aN (aK (by omega) (iS (aK (by omega) (Nd ho (aN (aK (by omega) (Nd ho (iS (aK (by omega) (bW (Nd ho ?_))))))))))))
 refine Nw ho (by omega) hv ?_ os.length 0 h (by omega) hs
 intro h hs
 refine bW (Nd ho (Zt (by omega) hs fun t h hs=>aG rfl (aG rfl (aY (aK (by omega) (bW (su hs fun b h hs=>?_)))))))
 refine aH (c:=[pt t 0 0,I C.aF,fJ b]) rfl (dI hs fun q h hs=>Nd ho ?_)
 have loop:∀(f i:Nat) (h:AH),i+f=os.length→Hs G h (fZ t (rL (os.take i)++List.replicate (os.length - i) jU)::aE q 0 [pt t 0 0,I C.aF,fJ b]::gX b (fun _=>none)::L)→Dd 87 7 [] Q [(pt q 0 0),ov,(I os.length),(I i)] h:=by
  intro f
  induction f with
  |zero=>
   intro i h hi hs
   refine bW (aN (aK (by omega) (hk _ _ ?_)))
   have hii:i=os.length:=by omega
   subst hii
   rw[List.take_length,Nat.sub_self,List.replicate_zero,List.append_nil] at hs
   have hs:Hs G h (aE q 0 [pt t 0 0,I C.aF,fJ b]::fZ t (rL os)::gX b (fun _=>none)::L):=hs.to
   exact dM (m:=⟨rL os,fun _=>none⟩) hs
  |succ f ih=>
   intro i h hi hs
   obtain⟨x,hx,hd⟩:=qV (l:=os) (i:=i) (by omega)
   have hxv:=hv x (List.mem_of_getElem? hx)
   have hs:=A.qI ho hs
   refine bW (aN (bP (by omega) (bW (xL hs (x:=[I x]) (by simp[A.Db,hx]) rfl (aB (aA (aC (b:=q) (o:=0) hs rfl (aH (c:=(⟨x,false⟩:kE).enc) rfl (D9 (x:=⟨x,false⟩) hs.tail fun h hs=>?_)))))))))
   have hlen:(rL (os.take i)++List.replicate (os.length - i) jU).length=os.length:=by simp[rL];omega
   have hcond:(0≤(i:Int)∧(i:Int)<(rL (os.take i)++List.replicate (os.length - i) jU).length)∧(0≤(⟨x,false⟩:kE).owner∧(⟨x,false⟩:kE).owner≤4):=⟨by omega,hxv⟩
   rw[if_pos hcond] at hs
   rw[if_pos hcond]
   rw[Int.toNat_natCast,gd hx] at hs
   exact aY (aK (by omega) (bW (bE (by omega) (ih (i+1) h (by omega) hs))))
 have e:(os.length:Int).toNat=os.length:=Int.toNat_natCast _
 refine loop os.length 0 h (by omega) ?_
 rw[e] at hs
 have e2:List.replicate os.length jU=rL (os.take 0)++List.replicate (os.length - 0) jU:=rfl
 rw[e2] at hs
 exact hs.to
theorem Fm (hC:C.Ok) {x:Int} (hl:Ob G 0 fB) (hs:Hs G h L)
  (hk:∀h',Hs G h' L→Q (if C.has x then .tuple ⟨[I (x/2),I 0]⟩ else .tuple ⟨[I 0,I 10]⟩) h'):Cl Pr K 191 [.agg ⟨C.enc⟩,I x] h Q:=by
 have hb:=(bL.eI hC).2.2
 have hcc:C.has x↔0≤x∧x<C.lines:=Iff.rfl
 refine cW (dI hs fun p h hs=>aN (aR (fun h1=>?_) (fun h1=>?_)))
 ·rw[if_neg (by rw[hcc];omega)] at hk
  exact hk _ hs.tail
 refine aQ hs (by decide) (l:=C.enc) rfl rfl (mZ hC hl hs fun h hs=>dR (aR (fun h2=>?_) (fun h2=>?_)))
 ·rw[if_neg (by rw[hcc];omega)] at hk
  exact hk _ hs.tail
 ·rw[if_pos (by rw[hcc];omega)] at hk
  obtain⟨n,rfl⟩:=Int.eq_ofNat_of_zero_le (show 0≤x by omega)
  exact Cs (by omega) (by omega) (by omega) (hk _ hs.tail)
def Jf (C:bL) (m:Mon) (world line:Int):Int×Bool:=if C.has line then((m.zT (line/2)).owner,!(m.zT (line/2)).locked&&Fq world (m.zT (line/2)).owner) else(0,false)
theorem Sk {w x:Int} (hC:C.Ok) (hm:gB C m) (hl:Ob G 0 fB) (hs:Hs G h L) [mm:Has (fD C p) L m L'] (hk:∀h',Hs G h' (fD C p m::L')→Q (.tuple ⟨[I (Jf C m w x).1,.bool (Jf C m w x).2]⟩) h'):Cl Pr K 334 [.agg ⟨C.enc++[pt p 0 0]⟩,I w,I x] h Q:=by
 have hlen:=hm.len
 have hgr:=hC.2.1
 have hb:=bL.eI hC
 unfold Jf at hk
 refine cW (dI (cs:=C.enc++[pt p 0 0]) (mm.of hs) fun q h hs=>aA (iN (b:=q) (o:=0) hs (by decide) (l:=C.enc) rfl rfl (Fm hC hl hs fun h hs=>?_)))
 by_cases hx:C.has x
 rotate_left
 ·rw[if_neg hx]
  rw[if_neg hx] at hk
  exact aG rfl (aG rfl (aY (bP (by omega) (hk _ hs.to))))
 rw[if_pos hx]
 rw[if_pos hx] at hk
 have hx':=hx
 unfold bL.has at hx'
 have hh:m.has (x/2):=by unfold Mon.has;omega
 obtain⟨t,b,hs⟩:=jQ (hs.front (fD C p m))
 refine aG rfl (aG rfl (aY (aK (by omega) (bW (aA (aC (b:=q) (o:=0) hs rfl (aB (aA (aC (b:=p) (o:=0) hs rfl (zK (m:=m) hs fun h hs=>?_))))))))))
 rw[if_pos hh]
 refine aG rfl (aG rfl (bN hs fun u h hs=>aZ (b:=u) hs rfl rfl rfl rfl fun h hs=>aY (aK (by omega) (aU hs fun rr h hs=>aA (aC (b:=u) (o:=0) hs rfl (aA (aC (b:=u) (o:=0) hs rfl (bS (dQ ?_)))))))))
 have hs2:=dM (hs.cJ (aE p 0 [pt t 0 0,I C.aF,fJ b]) (fZ t m.fY) (gX b (fG m.runs)))
 cases hk2:(m.zT (x/2)).locked with
 |true=>
  rw[hk2] at hk
  exact eQ (cQ (aA dA) (cQ (aC (b:=u) (o:=0) hs rfl gC) (hk _ hs2.to)))
 |false=>
  rw[hk2] at hk
  exact bV (aA (aC (b:=u) (o:=0) hs rfl (N0 (cQ (aA dA) (cQ (aC (b:=u) (o:=0) hs rfl gC) (hk _ hs2.to))))))
theorem Nl (hC:C.Ok) (hm:gB C m) (hl:Ob G 0 fB):H.W8 G (fD C p m) (.iface 311 (.agg ⟨C.enc++[pt p 0 0]⟩)) (Jf C m) where
 ne:=fun k hk=>qw hk
 may:=by
  intro h L M w l Q hp hs hk
  refine zd (g:=334) rfl (Sk (L':=M) (m:=m) hC hm hl (hs.perm hp) fun h hs=>⟨rfl,hk _ (hs.perm hp.symm)⟩)
end Go.Proofs.YtajjljbmfdboaaaGreatDoor
end
section
namespace Go.Proofs.YtajjljbmfdboaaaGreatDoor.C
open Go Go.Ab Go.Hm Go.Ct
theorem nN {g n sz:Nat} {i:Int} {k:Value→Prop} (h0:0≤i) (hi:i<n) (hk:k (pt g (i.toNat*sz) 0)):bA (pF n sz (.pointer (some ⟨g,0,none⟩)) (I i)) k:=
 eZ (b:=g) (o:=0) (j:=0) h0 hi (by simpa [pt] using hk)
theorem nY {s:Int} (h:0≤s∧s<5):hM[s.toNat*8+1]?=some (.bool (P7 s))∧hM[s.toNat*8+2]?=some (.bool (vJ s))∧hM[s.toNat*8+3]?=some (.bool (lB s))∧hM[s.toNat*8+4]?=some (.bool (Ej s))
  ∧hM[s.toNat*8+5]?=some (I (if vJ s then 4 else 0))∧hM[s.toNat*8+6]?=some (I (N6 s))∧hM[s.toNat*8+7]?=some (I 0):=by
 have:s=0∨s=1∨s=2∨s=3∨s=4:=by omega
 rcases this with rfl|rfl|rfl|rfl|rfl<;>exact⟨rfl,rfl,rfl,rfl,rfl,rfl,rfl⟩
set_option maxRecDepth 100000
attribute [local irreducible] bA Br pN uC uU Dp nH xW nQ Tx gZ mQ rE sP qX lA B8 uK Y9 dw Tv Sl dj Ty Ry U9 Yi lJ pF vW jB copyV jC wY ft Zd Iw lI P0 Wx en qE uG Be Dk Cl zV Xm uE sS lC gK cS cC
variable {G:Bg} {h:AH} {L L':List HP}
theorem yQ {x:Int} {Q:Value→AH→Prop} (hk:Q (.bool (s6 x)) h):Cl Pr K 295 [I x] h Q:=by
 refine cW ?_
 refine dR (aR (fun h1=>aN ?_) (fun h1=>?_))
 ·show Q _ _;rw[show decide (x<5)=s6 x from decide_eq_decide.2 (by omega)];exact hk
 ·show Q _ _;rw[show false=s6 x from(decide_eq_false (by omega)).symm];exact hk
theorem Nm {x:Int} (h:s6 x=true):0≤x∧x<5:=of_decide_eq_true h
theorem Mw {x:Int} (h:s6 x=false):P7 x=false∧vJ x=false∧lB x=false∧Ej x=false:=by
 have:=of_decide_eq_false h
 refine⟨decide_eq_false ?_,decide_eq_false ?_,decide_eq_false ?_,decide_eq_false ?_⟩<;>omega
theorem xl {x:Int} {Q:Value→AH→Prop} (ho:Ob G 3 hM) (hs:Hs G h L) (hk:Q (.bool (P7 x)) h):Cl Pr K 291 [I x] h Q:=by
 refine cW (yQ (cU (fun h1=>?_) (fun h1=>?_)))
 ·have h2:=Nm h1
  exact nN h2.1 h2.2 (aA (xK hs ho (o:=x.toNat*8) (j:=1) (nY h2).1 hk))
 ·rw[(Mw h1).1] at hk;exact hk
theorem S8 {x:Int} {Q:Value→AH→Prop} (ho:Ob G 3 hM) (hs:Hs G h L) (hk:Q (.bool (vJ x)) h):Cl Pr K 290 [I x] h Q:=by
 refine cW (yQ (cU (fun h1=>?_) (fun h1=>?_)))
 ·have h2:=Nm h1
  exact nN h2.1 h2.2 (aA (xK hs ho (o:=x.toNat*8) (j:=2) (nY h2).2.1 hk))
 ·rw[(Mw h1).2.1] at hk;exact hk
theorem Iz {x:Int} {Q:Value→AH→Prop} (ho:Ob G 3 hM) (hs:Hs G h L) (hk:Q (.bool (lB x)) h):Cl Pr K 294 [I x] h Q:=by
 refine cW (yQ (cU (fun h1=>?_) (fun h1=>?_)))
 ·have h2:=Nm h1
  exact nN h2.1 h2.2 (aA (xK hs ho (o:=x.toNat*8) (j:=3) (nY h2).2.2.1 hk))
 ·rw[(Mw h1).2.2.1] at hk;exact hk
theorem Qr {x:Int} {Q:Value→AH→Prop} (ho:Ob G 3 hM) (hs:Hs G h L) (hk:Q (.bool (Ej x)) h):Cl Pr K 314 [I x] h Q:=by
 refine cW (yQ (cU (fun h1=>?_) (fun h1=>?_)))
 ·have h2:=Nm h1
  exact nN h2.1 h2.2 (aA (xK hs ho (o:=x.toNat*8) (j:=4) (nY h2).2.2.2.1 hk))
 ·rw[(Mw h1).2.2.2] at hk;exact hk
theorem Sq {x:Int} {Q:Value→AH→Prop} (ho:Ob G 3 hM) (hs:Hs G h L) (hx:vJ x=true) (hk:Q (.tuple ⟨[I 4,I 0]⟩) h):Cl Pr K 250 [I x] h Q:=by
 have h2:0≤x∧x<5:=by have:=of_decide_eq_true hx;omega
 refine cW (yQ ?_)
 rw[show s6 x=true from decide_eq_true h2]
 refine bS (bV (bW (S8 ho hs ?_)))
 rw[hx]
 have:=(nY h2).2.2.2.2.1
 rw[if_pos hx] at this
 exact bS (bV (nN h2.1 h2.2 (aA (xK hs ho (o:=x.toNat*8) (j:=5) this hk))))
theorem Ku {x to:Int} {Q:Value→AH→Prop} (ho:Ob G 3 hM) (hs:Hs G h L) (h2:0≤x∧x<5) (ht:to=0∨to=1) (hk:Q (.tuple ⟨[I (lR x to),.bool (Ej x),.bool (lB x),I 0]⟩) h):Cl Pr K 312 [I x,I to] h Q:=by
 refine cW (yQ ?_)
 rw[show s6 x=true from decide_eq_true h2]
 refine bS (bV ?_)
 have c6:=(nY h2).2.2.2.2.2.1
 have c7:=(nY h2).2.2.2.2.2.2
 rcases ht with rfl|rfl
 ·exact aY (bP (by omega) (aY (aK (by omega) (bW (nN h2.1 h2.2 (aA (xK hs ho (o:=x.toNat*8) (j:=7) c7 (bH (aK (by omega) (Qr ho hs (Iz ho hs hk)))))))))))
 ·exact aY (aK (by omega) (nN h2.1 h2.2 (aA (xK hs ho (o:=x.toNat*8) (j:=7) c7 (bH (bP rfl (bW (nN h2.1 h2.2 (aA (xK hs ho (o:=x.toNat*8) (j:=6) c6 (Qr ho hs (Iz ho hs hk))))))))))))
theorem Ml {x:qA} {w:Bool} {Q:Value→AH→Prop} (ho:Ob G 3 hM) (hs:Hs G h L) (hk:∀h',Hs G h' L→Q (.bool (qJ x.st w)) h'):Cl Pr K 246 [.agg ⟨x.enc⟩,.bool w] h Q:=by
 refine cW (dI hs ?_)
 intro p h hs
 cases w
 ·exact bV (aA (aC hs rfl (xl ho hs (hk _ hs.tail))))
 ·exact eQ (aA (aC hs rfl (S8 ho hs (hk _ hs.tail))))
end Go.Proofs.YtajjljbmfdboaaaGreatDoor.C
end
section
open Go Go.Ab
attribute [local irreducible] bA Br pN uC uU Dp nH xW nQ Tx gZ mQ rE sP qX lA B8 uK Y9 dw Tv Sl dj Ty Ry U9 Yi lJ pF vW jB copyV jC wY ft Zd Iw lI P0 Wx en qE uG Be Dk Cl zV Xm uE sS lC gK cS cC
section
namespace Go.Proofs.YtajjljbmfdboaaaGreatDoor.C
open Go Go.Ab Go.Hm Go.Ct
set_option maxRecDepth 100000
variable {G:Bg} {h:AH} {L L' M:List HP}
def dN (b o:Nat) (l:List Th):HP:=rY fun x:Option Addr×Nat=>sp [aE b o [.slice x.1 l.length x.2],dB 5 251 x.1 x.2 (l.length,eG l)]
theorem rI {b o:Nat} {l:List Th} (hs:Hs G h (dN b o l::L)):∃a c,Hs G h (aE b o [.slice a l.length c]::dB 5 251 a c (l.length,eG l)::L):=by
 obtain⟨⟨a,c⟩,hs⟩:=hs.zE
 exact⟨a,c,hs.unpack⟩
theorem iV (b o:Nat) (l:List Th) {a:Option Addr} {c n:Nat} {cs:List Value} {L1 L2:List HP} (hs:Hs G h L) [m:Has (aE b o) L [.slice a n c] L1] [m2:Has (dB 5 251 a c) L1 (n,cs) L2] (hn:n=l.length) (hcs:cs=eG l):Hs G h (dN b o l::L2):=by
 subst hn;subst hcs
 exact Hs.uH (A:=fun x:Option Addr×Nat=>sp [aE b o [.slice x.1 l.length x.2],dB 5 251 x.1 x.2 (l.length,eG l)]) (a,c) (Hs.pack (A:=[_,_]) (hs.perm (m.perm.trans (m2.perm.cons _))))
structure TgA where
 b:Nat
 o:Nat
 cap:Nat
def pP (ways n b o cap:Nat):List Value:=[I ways,.slice (some ⟨b,o,none⟩) n cap]
def gG (G:Bg) (t ways n:Nat) (S:Nat→List Th):HP:=rY fun x:TgA=>
 sp [aE t 0 (pP ways n x.b x.o x.cap),hole G 1 248 (some ⟨x.b,x.o,none⟩) x.cap n x.b x.o,dD n fun i=>dN x.b (x.o+i*1) (S i)]
theorem Rt {t ways n:Nat} {S:Nat→List Th} (hs:Hs G h (gG G t ways n S::L)):∃b o cap,Hs G h (aE t 0 (pP ways n b o cap)::hole G 1 248 (some ⟨b,o,none⟩) cap n b o::dD n (fun i=>dN b (o+i*1) (S i))::L):=by
 obtain⟨⟨b,o,cap⟩,hs⟩:=hs.zE
 exact⟨b,o,cap,hs.unpack⟩
theorem yV {t ways n:Nat} {S:Nat→List Th} {b o cap:Nat} (hs:Hs G h (aE t 0 (pP ways n b o cap)::hole G 1 248 (some ⟨b,o,none⟩) cap n b o::dD n (fun i=>dN b (o+i*1) (S i))::L)):Hs G h (gG G t ways n S::L):=
 Hs.uH (A:=fun x:TgA=>sp [aE t 0 (pP ways n x.b x.o x.cap),hole G 1 248 (some ⟨x.b,x.o,none⟩) x.cap n x.b x.o,dD n fun i=>dN x.b (x.o+i*1) (S i)]) ⟨b,o,cap⟩ (Hs.pack (A:=[_,_,_]) hs)
def Qn (b o n:Nat) (S:Nat→List Th) (l:Nat):HP:=sp (((List.range n).erase l).map fun i=>dN b (o+i*1) (S i))
theorem Gh {t ways n l:Nat} {S:Nat→List Th} (hl:l<n) (hs:Hs G h (gG G t ways n S::L)):∃b o cap,Hs G h (dN b (o+l*1) (S l)::aE t 0 (pP ways n b o cap)::hole G 1 248 (some ⟨b,o,none⟩) cap n b o::Qn b o n S l::L):=by
 obtain⟨b,o,cap,hs⟩:=Rt hs
 have hs:=(hs.front (dD n fun i=>dN b (o+i*1) (S i))).kY l hl
 exact⟨b,o,cap,(show Hs G h (dN b (o+l*1) (S l)::Qn b o n S l::_) from hs).to⟩
theorem rA {L1 L2 L3 L4:List HP} (t ways n:Nat) (S:Nat→List Th) (l:Nat) (x:List Th) (b o cap:Nat) (hl:l<n) (hs:Hs G h L) [k1:dP (dN b (o+l*1) x) L L1] [k2:dP (aE t 0 (pP ways n b o cap)) L1 L2]
  [k4:dP (hole G 1 248 (some ⟨b,o,none⟩) cap n b o) L2 L3] [k5:dP (Qn b o n S l) L3 L4]:Hs G h (gG G t ways n (bT S l x)::L4):=by
 have hs:Hs G h (dN b (o+l*1) x::Qn b o n S l::aE t 0 (pP ways n b o cap)::hole G 1 248 (some ⟨b,o,none⟩) cap n b o::L4):=
  (hs.perm (k1.perm.trans ((k2.perm.trans ((k4.perm.trans (k5.perm.cons _)).cons _)).cons _))).to
 have e0:(fun i=>dN b (o+i*1) (bT S l x i)) l=dN b (o+l*1) x:=by simp only[gP]
 rw[←e0] at hs
 unfold Qn at hs
 have hs:=hs.oR (n:=n) (i:=l) (fun i=>dN b (o+i*1) (S i)) (fun i=>dN b (o+i*1) (bT S l x i)) hl (fun j _ hne=>by simp only[yZ hne])
 exact yV (b:=b) (o:=o) (cap:=cap) hs.to
theorem xz {α:Type} {f:Nat→α} {i:Nat}:bT f i (f i)=f:=by
 funext j;unfold bT;split
 ·rename_i e;rw[e]
 ·rfl
theorem cw {no:Int} {b o a2 o2 cp p:Nat} {l:List Th} {Q:Value→AH→Prop} (hb:l.length≤4):∀(r i:Nat) (h:AH) (L:List HP),i+r=l.length→ix no (l.take i)=none→Hs G h (aE p 0 [I no]::dB 5 251 (some ⟨a2,o2,none⟩) cp (l.length,eG l)::L)→
  (∀h',Hs G h' (aE p 0 [I no]::dB 5 251 (some ⟨a2,o2,none⟩) cp (l.length,eG l)::L)→Q (.tuple ⟨[pt b o 0,I (ia no l),I 0]⟩) h')→
  Dd 289 3 [] Q [(pt b o 0),(I (-1)),(.func (.func 311) #[] #[pt p 0 0]),(.slice (some ⟨a2,o2,none⟩) l.length cp),(I l.length),(I i)] h:=by
 have key:∀(i:Nat) (l:List Th) (t:Th),ix no (l.take i)=none→l[i]?=some t→ix no (l.take (i+1))=if t.1=no then some i else none:=by
  intro i
  induction i with
  |zero=>
   intro l t _ ht
   cases l with
   |nil=>cases ht
   |cons a l=>cases ht;simp[ix]
  |succ i ih=>
   intro l t h1 ht
   cases l with
   |nil=>cases ht
   |cons a l=>
    simp only[List.take_succ_cons,ix] at h1 ⊢
    by_cases hc:a.1=no
    ·rw[if_pos hc] at h1;cases h1
    ·rw[if_neg hc] at h1 ⊢
     rw[ih l t (by simpa using h1) (by simpa using ht)]
     split<;>rfl
 have pref:∀(l:List Th) (i j:Nat),ix no (l.take i)=some j→ix no l=some j:=by
  intro l
  induction l with
  |nil=>intro i j h;simp[ix] at h
  |cons a l ih=>
   intro i j h
   cases i with
   |zero=>simp[ix] at h
   |succ i=>
    simp only[List.take_succ_cons,ix] at h ⊢
    by_cases hc:a.1=no
    ·rw[if_pos hc] at h ⊢;exact h
    ·rw[if_neg hc] at h ⊢
     cases hx:ix no (l.take i) with
     |none=>rw[hx] at h;cases h
     |some k=>rw[hx] at h;rw[ih i k hx];exact h
 intro r
 induction r with
 |zero=>
  intro i h L hi hn hs hk
  rw[List.take_of_length_le (by omega)] at hn
  simp only[ia,hn] at hk
  exact bW (aN (aK (by omega) (hk _ hs)))
 |succ r ih=>
  intro i h L hi hn hs hk
  have hil:i<l.length:=by omega
  obtain⟨t,ht⟩:∃t,l[i]?=some t:=⟨_,List.getElem?_eq_getElem hil⟩
  refine bW (aN (bP (by omega) (bW (dK hil ?_))))
  obtain⟨b1,o1,ha,hs1⟩:=(hs.front (dB 5 251 (some ⟨a2,o2,none⟩) cp (l.length,eG l))).fM (by omega)
  cases ha
  refine Hh hs1 (by decide) (l:=kc t) (by rw[Nat.add_zero];exact Sb ht) rfl ?_
  have hs1:=hs1.mL (zG l) (uN l)
  refine bN hs1 ?_
  intro q h hs
  refine aZ hs rfl rfl rfl rfl ?_
  intro h hs
  refine aQ hs (by decide) (l:=kc t) rfl rfl ?_
  refine nA (by kernel_rfl) (cW ?_)
  refine dI hs ?_
  intro q2 h hs
  have hk1:=key i l t hn ht
  refine aA (aC hs rfl (aC (b:=p) (o:=0) hs rfl (bH (aR (fun hc=>?_) (fun hc=>?_)))))
  ·rw[if_pos hc] at hk1
   have:=pref _ _ _ hk1
   simp only[ia,this] at hk
   exact bW (hk _ hs.to)
  ·rw[if_neg hc] at hk1
   exact bW (bE (by omega) (ih (i+1) h L (by omega) hk1 hs.to hk))
theorem Sd {t:Nat} {no:Int} {Q:Value→AH→Prop} (h0:no<0) (hs:Hs G h L) (hk:∀h',Hs G h' L→Q (.tuple ⟨[.pointer none,I 0,I 10]⟩) h'):Cl Pr K 289 [pt t 0 0,I no] h Q:=by
 refine cW (dI hs ?_)
 intro p h hs
 exact cN (bV (bW (aC hs rfl (aN (bP h0 (hk _ hs.tail))))))
theorem jJ {n:Nat} {no:Int} (hn:0<n):setOf n no<n:=by
 unfold setOf
 have:=Int.emod_lt_of_pos no (show(0:Int)<n by omega)
 have:=Int.emod_nonneg no (show(n:Int)≠0 by omega)
 omega
theorem sM {t ways n b o cap:Nat} {no:Int} {l:List Th} {Q:Value→AH→Prop} (hn:0<n) (h0:0≤no) (hb:l.length≤4) (hs:Hs G h L) [m:Has (aE t 0) L (pP ways n b o cap) L'] [m2:Has (dN b (o+setOf n no*1)) L' l M]
  (hk:∀h',Hs G h' (aE t 0 (pP ways n b o cap)::dN b (o+setOf n no*1) l::M)→Q (.tuple ⟨[pt b (o+setOf n no*1) 0,I (ia no l),I 0]⟩) h'):Cl Pr K 289 [pt t 0 0,I no] h Q:=by
 have hs:Hs G h (aE t 0 (pP ways n b o cap)::dN b (o+setOf n no*1) l::M):=hs.perm (m.perm.trans (m2.perm.cons _))
 obtain⟨a,c,hs⟩:=rI hs.kA
 refine cW (dI hs ?_)
 intro p h hs
 refine cN (bV (bW (aC hs rfl (aN (aK (by omega) (bW ?_))))))
 refine aU hs ?_
 intro r h hs
 have ht:Hs G h (aE t 0 (pP ways n b o cap)::_):=hs.front (aE t 0 (pP ways n b o cap))
 have e1:no % (n:Int)=((setOf n no:Nat):Int):=by
  unfold setOf
  have:=Int.emod_nonneg no (show(n:Int)≠0 by omega)
  omega
 refine aB (aA (aC (b:=t) (o:=0) ht rfl (aC (b:=p) (o:=0) ht rfl (aB (aA (aC (b:=t) (o:=0) ht rfl (bZ (P2 h0 (by omega) ?_))))))))
 rw[e1]
 refine dK (jJ hn) (aB ?_)
 have hset:Hs G h (aE b (o+setOf n no*1) [.slice a l.length c]::_):=ht.front (aE b (o+setOf n no*1) [.slice a l.length c])
 refine aC hset rfl (bZ ?_)
 by_cases hl0:l.length=0
 ·have hln:l=[]:=List.eq_nil_of_length_eq_zero hl0
  subst hln
  refine bW (aN (aK (by simp) (hk _ ?_)))
  exact(iV b (o+setOf n no*1) [] (a:=a) (c:=c) hset rfl rfl).to
 ·have hslc:=hset.front (dB 5 251 a c (l.length,eG l))
  obtain⟨b2,o2,ha,_⟩:=hslc.mU (by omega)
  subst ha
  refine cw (no:=no) (p:=p) hb l.length 0 h (aE t 0 (pP ways n b o cap)::aE b (o+setOf n no*1) [.slice (some ⟨b2,o2,none⟩) l.length c]::M) (by omega) rfl hset.to ?_
  intro h' hs
  refine hk _ ?_
  exact(iV b (o+setOf n no*1) l (a:=some ⟨b2,o2,none⟩) (c:=c) hs rfl rfl).to
end Go.Proofs.YtajjljbmfdboaaaGreatDoor.C
end
section
namespace Go.Proofs.YtajjljbmfdboaaaGreatDoor.C
open Go Go.Ab Go.Hm Go.Ct
theorem xF {n:Nat} {S:Nat→List Th} {no:Int}:bT S (setOf n no) (S (setOf n no))=S:=xz
theorem aBz {l:List Th} (h:0<l.length):(eG l)[0*5+(0+0)]?=some (I (l[0]).1):=by
 cases l with
 |nil=>simp at h
 |cons y l=>rfl
theorem X9 {no:Int} {l:List Th} {i:Nat} {x:qA} (h:l[i]?=some (no,x)):((eG l).drop (i*5+1)).take 4=x.enc:=by
 have:=Sb h
 rw[←List.drop_drop]
 have h2:(((eG l).drop (i*5)).take 5).drop 1=x.enc:=by rw[this];rfl
 rw[List.drop_take] at h2
 exact h2
set_option maxRecDepth 100000
variable {G:Bg} {h:AH} {L L' M:List HP}
theorem zD {t ways n:Nat} {no:Int} {S:Nat→List Th} {Q:Value→AH→Prop} (hn:0<n) (hb:∀i,(S i).length≤4) (hs:Hs G h L) [m:Has (gG G t ways n) L S L']
  (hk:∀h',Hs G h' (gG G t ways n S::L')→Q (.tuple ⟨[.agg ⟨(bU n S no).1.enc⟩,I (bU n S no).2]⟩) h'):Cl Pr K 245 [pt t 0 0,I no] h Q:=by
 have hs:=m.of hs
 refine cW (bN hs ?_)
 intro p h hs
 unfold bU at hk
 by_cases h0:no<0
 ·rw[if_pos h0] at hk
  refine Sd h0 hs fun h hs=>aG rfl (aG rfl (aG rfl (aY (bP (by omega) (aQ hs (by decide) (l:=qA.zero.enc) rfl rfl ?_)))))
  refine aZ hs rfl rfl rfl rfl ?_
  intro h hs
  exact aQ hs (by decide) (l:=qA.zero.enc) rfl rfl (hk _ hs.tail)
 ·rw[if_neg h0] at hk
  obtain⟨b,o,cap,hs⟩:=Gh (jJ (no:=no) hn) (hs.front (gG G t ways n S))
  refine sM (t:=t) (ways:=ways) (n:=n) (b:=b) (o:=o) (cap:=cap) (l:=S (setOf n no)) hn (by omega) (hb _) hs fun h hs=>aG rfl (aG rfl (aG rfl (aY (aK (by omega) ?_))))
  refine bW ?_
  cases hx:ix no (S (setOf n no)) with
  |none=>
   rw[(zP hx).1] at hk
   simp only[ia,hx]
   refine aN (bP (by omega) (aQ (b:=p) (o:=0) hs (by decide) (l:=qA.zero.enc) rfl rfl ?_))
   refine aZ (b:=p) (o:=0) hs rfl rfl rfl rfl ?_
   intro h hs
   refine aQ hs (by decide) (l:=qA.zero.enc) rfl rfl (hk _ ?_)
   have:=rA t ways n S (setOf n no) (S (setOf n no)) b o cap (jJ hn) hs
   rw[xF] at this
   exact this.to
  |some i=>
   obtain⟨x,h1,h2,h3,h4⟩:=vG hx
   rw[h2] at hk
   simp only[ia,hx]
   obtain⟨a,c,hs⟩:=rI (hs.front (dN b (o+setOf n no*1) (S (setOf n no))))
   obtain⟨b2,o2,ha,hs1⟩:=(hs.front (dB 5 251 a c ((S (setOf n no)).length,eG (S (setOf n no))))).fM (by omega)
   subst ha
   refine aN (aK (by omega) (aB (aC (b:=b) (o:=o+setOf n no*1) hs1 rfl (dK h4 (aA (Hh (b:=b2) (o:=o2) hs1 (by decide) (l:=x.enc) (by rw[Nat.zero_add];exact X9 h1) rfl ?_))))))
   have hs1:=hs1.mL (zG _) (uN _)
   refine aZ (b:=p) (o:=0) hs1 rfl rfl rfl rfl ?_
   intro h hs
   refine aQ hs (by decide) (l:=x.enc) rfl rfl (hk _ ?_)
   have hs:=iV b (o+setOf n no*1) (S (setOf n no)) (a:=some ⟨b2,o2,none⟩) (c:=c) hs rfl rfl
   have:=rA t ways n S (setOf n no) (S (setOf n no)) b o cap (jJ hn) hs
   rw[xF] at this
   exact this.to
theorem ag {t ways n:Nat} {no:Int} {S:Nat→List Th} {Q:Value→AH→Prop} (hw:0<ways) (hn:0<n) (h0:0≤no) (hb:∀i,(S i).length≤4) (hs:Hs G h L) [m:Has (gG G t ways n) L S L']
  (hk:∀h',Hs G h' (gG G t ways n S::L')→Q (match Gm n ways S no with|some v=> .tuple ⟨[I v.1,.bool true,I 0]⟩|none=> .tuple ⟨[I 0,.bool false,I 0]⟩) h'):Cl Pr K 292 [pt t 0 0,I no] h Q:=by
 have hs:=m.of hs
 unfold Gm at hk
 refine cW ?_
 obtain⟨b,o,cap,hs⟩:=Gh (jJ (no:=no) hn) (hs.front (gG G t ways n S))
 refine sM (t:=t) (ways:=ways) (n:=n) (b:=b) (o:=o) (cap:=cap) (l:=S (setOf n no)) hn (by omega) (hb _) hs fun h hs=>aG rfl (aG rfl (aG rfl (aY (aK (by omega) ?_))))
 refine bW (aU hs ?_)
 intro r h hs
 have back:∀{h:AH},Hs G h (Yn r (13,[])::aE t 0 (pP ways n b o cap)::dN b (o+setOf n no*1) (S (setOf n no))::hole G 1 248 (some ⟨b,o,none⟩) cap n b o::Qn b o n S (setOf n no)::L')→Hs G h (gG G t ways n S::L'):=fun hs=>by
  have:=rA t ways n S (setOf n no) (S (setOf n no)) b o cap (jJ hn) hs
  rw[xF] at this
  exact this.to
 cases hx:ix no (S (setOf n no)) with
 |some i=>
  obtain⟨x,h1,h2,h3,h4⟩:=vG hx
  rw[h2] at hk
  simp only[ia,hx]
  exact dR (bP (by omega) (hk _ (back hs)))
 |none=>
  rw[(zP hx).1] at hk
  simp only[ia,hx]
  obtain⟨a,c,hs⟩:=rI (hs.front (dN b (o+setOf n no*1) (S (setOf n no))))
  refine dR (aK (by omega) (aB (aC (b:=b) (o:=o+setOf n no*1) hs rfl (bZ (aB (aA (aC (b:=t) (o:=0) hs rfl (aN (aR (fun hc=>?_) (fun hc=>?_))))))))))
  ·simp only[if_pos (show(S (setOf n no)).length<ways by omega)] at hk
   refine hk _ (back ?_)
   exact(iV b (o+setOf n no*1) (S (setOf n no)) (a:=a) (c:=c) hs rfl rfl).to
  ·have hl:0<(S (setOf n no)).length:=by omega
   simp only[if_neg (show ¬(S (setOf n no)).length<ways by omega),List.getElem?_eq_getElem hl] at hk
   obtain⟨b2,o2,ha,hs1⟩:=(hs.front (dB 5 251 a c ((S (setOf n no)).length,eG (S (setOf n no))))).fM hl
   subst ha
   refine aB (aC (b:=b) (o:=o+setOf n no*1) hs1 rfl (dK (i:=0) hl (aA (yl (b:=b2) (o:=o2) (i:=0*5) (j:=0+0) hs1 (v:=I ((S (setOf n no))[0]).1) ?_ (hk _ ?_)))))
   ·exact aBz hl
   ·have hs1:=hs1.mL (zG _) (uN _)
    refine back ?_
    exact(iV b (o+setOf n no*1) (S (setOf n no)) (a:=some ⟨b2,o2,none⟩) (c:=c) hs1 rfl rfl).to
theorem L0 {l:List Th} {i c:Nat} {a:Option Addr} {Q:Value→AH→Prop} (hi:i<l.length) (hb:l.length≤4) (hs:Hs G h L) [m:Has (dB 5 251 a c) L (l.length,eG l) L']
  (hk:∀h',Hs G h' (dB 5 251 a c (l.length - 1,eG (l.take i++l.drop (i+1)))::L')→Q (.slice a (l.length - 1) c) h'):Cl Pr K 296 [.slice a l.length c,I i,I ((i:Int)+1)] h Q:=by
 have hs:=m.of hs
 have hcap:l.length≤c:=by
  obtain⟨r,r2,⟨_,_,hr⟩,_⟩:=hs.fst
  rcases hr with⟨hz,_⟩|⟨hz,_⟩|⟨hcap,_⟩
  ·simp only at hz;omega
  ·simp only at hz;omega
  ·exact hcap
 obtain⟨b,o,ha,_⟩:=hs.mU (by omega)
 refine cW (bZ ?_)
 refine Vi (v:= .slice (some ⟨b,o+i*5,none⟩) (i+1 - i) (l.length - i)) ?_ ?_
 ·subst ha
  have b1:jZ (some (I l.length)) c c=some l.length:=by simp only[jZ];rw[if_pos (by omega)];simp
  have b2:jZ (some (I ((i:Int)+1))) l.length l.length=some (i+1):=by simp only[jZ];rw[if_pos (by omega)];congr 1
  have b3:jZ (some (I i)) 0 (i+1)=some i:=by simp only[jZ];rw[if_pos (by omega)];simp
  have hne:¬l.length=i:=by omega
  simp only[wY,b1,b2,b3,Option.isNone_some,Bool.false_and,Option.isSome_none,Bool.false_eq_true,if_false,hne,cX]
  rw[if_pos (by omega)]
 refine bH (aK (by omega) (bW (bZ (aU hs ?_))))
 intro r h hs
 refine y5 (i:=i) (by decide) rfl rfl hi hs ?_
 intro h hs
 refine hk _ ?_
 rw[dy,←V2,←I9]
 exact hs.to
theorem Tp {no:Int} {l:List Th} {i:Nat} (h:ix no l=some i):rem no l=l.take i++l.drop (i+1):=by obtain⟨_,_,_,h3,_⟩:=vG h;exact h3
theorem R1 {no:Int} {l:List Th} {i:Nat} (h:ix no l=some i):l.length - 1=(rem no l).length:=by
 obtain⟨x,h1,h2,h3,h4⟩:=vG h
 rw[Gf,h2];rfl
theorem Mt {t ways n:Nat} {no:Int} {S:Nat→List Th} {Q:Value→AH→Prop} (hn:0<n) (hb:∀i,(S i).length≤4) (hs:Hs G h L) [m:Has (gG G t ways n) L S L']
  (hk:∀h',Hs G h' (gG G t ways n (kU n S no)::L')→Q (.tuple ⟨[.agg ⟨(bU n S no).1.enc⟩,I (bU n S no).2]⟩) h'):Cl Pr K 293 [pt t 0 0,I no] h Q:=by
 have hs:=m.of hs
 refine cW (bN hs ?_)
 intro p h hs
 unfold bU kU at hk
 by_cases h0:no<0
 ·rw[if_pos h0,if_pos h0] at hk
  refine Sd h0 hs fun h hs=>aG rfl (aG rfl (aG rfl (aY (bP (by omega) (aQ hs (by decide) (l:=qA.zero.enc) rfl rfl ?_)))))
  refine aZ hs rfl rfl rfl rfl ?_
  intro h hs
  exact aQ hs (by decide) (l:=qA.zero.enc) rfl rfl (hk _ hs.tail)
 ·rw[if_neg h0,if_neg h0] at hk
  obtain⟨b,o,cap,hs⟩:=Gh (jJ (no:=no) hn) (hs.front (gG G t ways n S))
  refine sM (t:=t) (ways:=ways) (n:=n) (b:=b) (o:=o) (cap:=cap) (l:=S (setOf n no)) hn (by omega) (hb _) hs fun h hs=>aG rfl (aG rfl (aG rfl (aY (aK (by omega) ?_))))
  refine bW ?_
  cases hx:ix no (S (setOf n no)) with
  |none=>
   rw[(zP hx).1,(zP hx).2,xF] at hk
   simp only[ia,hx]
   refine aN (bP (by omega) (aQ (b:=p) (o:=0) hs (by decide) (l:=qA.zero.enc) rfl rfl ?_))
   refine aZ (b:=p) (o:=0) hs rfl rfl rfl rfl ?_
   intro h hs
   refine aQ hs (by decide) (l:=qA.zero.enc) rfl rfl (hk _ ?_)
   have:=rA t ways n S (setOf n no) (S (setOf n no)) b o cap (jJ hn) hs
   rw[xF] at this
   exact this.to
  |some i=>
   obtain⟨x,h1,h2,h3,h4⟩:=vG hx
   rw[h2] at hk
   simp only[ia,hx]
   obtain⟨a,c,hs⟩:=rI (hs.front (dN b (o+setOf n no*1) (S (setOf n no))))
   obtain⟨b2,o2,ha,hs1⟩:=(hs.front (dB 5 251 a c ((S (setOf n no)).length,eG (S (setOf n no))))).fM (by omega)
   subst ha
   refine aN (aK (by omega) (bW (aB (aC (b:=b) (o:=o+setOf n no*1) hs1 rfl (dK h4 (aA (Hh (b:=b2) (o:=o2) hs1 (by decide) (l:=x.enc) (by rw[Nat.zero_add];exact X9 h1) rfl ?_)))))))
   have hs1:=hs1.mL (zG _) (uN _)
   refine aZ (b:=p) (o:=0) hs1 rfl rfl rfl rfl ?_
   intro h hs
   refine aB (aC (b:=b) (o:=o+setOf n no*1) hs rfl (bE (by have:=hb (setOf n no);omega) (L0 h4 (hb _) hs fun h hs=>?_)))
   refine aB (bI (b:=b) (o:=o+setOf n no*1) hs rfl rfl rfl rfl ?_)
   intro h hs
   refine aQ (b:=p) (o:=0) hs (by decide) (l:=x.enc) rfl rfl ?_
   refine aZ (b:=p) (o:=0) hs rfl rfl rfl rfl ?_
   intro h hs
   refine aQ hs (by decide) (l:=x.enc) rfl rfl (hk _ ?_)
   rw[R1 hx,←Tp hx] at hs
   have hs:=iV b (o+setOf n no*1) (rem no (S (setOf n no))) (a:=some ⟨b2,o2,none⟩) (c:=c) hs rfl rfl
   exact(rA t ways n S (setOf n no) (rem no (S (setOf n no))) b o cap (jJ hn) hs).to
end Go.Proofs.YtajjljbmfdboaaaGreatDoor.C
end
section
namespace Go.Proofs.YtajjljbmfdboaaaGreatDoor.C
open Go Go.Ab Go.Hm Go.Ct
set_option maxRecDepth 100000
variable {G:Bg} {h:AH} {L L' M:List HP}
theorem aDs {_t _ways n b o _cap p c:Nat} {no:Int} {x:qA} {l:List Th} {a:Option Addr} {Q:Value→AH→Prop} (hb:l.length≤4)
  (hs:Hs G h (aE p 0 x.enc::aE b (o+setOf n no*1) [.slice a l.length c]::dB 5 251 a c (l.length,eG l)::L))
  (hk:∀h',Hs G h' (dN b (o+setOf n no*1) (l++[(no,x)])::L)→Q (I 0) h'):Dd 251 4 [] Q [(I no),(pt p 0 0),(pt b (o+setOf n no*1) 0)] h:=by
 refine bW (aU hs ?_)
 intro r h hs
 refine aB (aC (b:=b) (o:=o+setOf n no*1) hs rfl (aQ (b:=p) (o:=0) hs (by decide) (l:=x.enc) rfl rfl ?_))
 refine aH (c:=I no::x.enc) rfl (aH (c:=kc (no,x)) rfl ?_)
 refine iW (i:=7) (N:=11) (D:=[]) hs rfl rfl rfl rfl rfl ?_
 intro a2 h hs
 refine pW (a:=a) (c:=c) (n:=l.length) (cs:=eG l) (a2:=some a2) (c2:=1) (m:=1) (ns:=kc (no,x)) hs (by omega) ?_
 intro a' c' h hs
 refine aB (bI (b:=b) (o:=o+setOf n no*1) hs rfl rfl rfl rfl ?_)
 intro h hs
 refine cQ (show mS _ _=true by simp[mS,pt]) (hk _ ?_)
 have e1:eG l++kc (no,x)=eG (l++[(no,x)]):=by simp[eG]
 have hs:=iV b (o+setOf n no*1) (l++[(no,x)]) (a:=a') (c:=c') (n:=l.length+1) hs (by simp) e1
 exact hs.to
theorem xR {t ways n:Nat} {no:Int} {x:qA} {S:Nat→List Th} {Q:Value→AH→Prop} (h0:0≤no) (hn:0<n) (hb:∀i,(S i).length≤4) (hs:Hs G h L) [m:Has (gG G t ways n) L S L']
  (hk:∀h',Hs G h' (gG G t ways n (mR n ways S no x).1::L')→Q (I (mR n ways S no x).2) h'):Cl Pr K 251 [pt t 0 0,I no,.agg ⟨x.enc⟩] h Q:=by
 have hs:=m.of hs
 refine cW (dI hs ?_)
 intro p h hs
 obtain⟨b,o,cap,hs⟩:=Gh (jJ (no:=no) hn) (hs.front (gG G t ways n S))
 refine sM (t:=t) (ways:=ways) (n:=n) (b:=b) (o:=o) (cap:=cap) (l:=S (setOf n no)) hn (by omega) (hb _) hs fun h hs=>aG rfl (aG rfl (aG rfl (aY (aK (by omega) ?_))))
 obtain⟨a,c,hs⟩:=rI (hs.front (dN b (o+setOf n no*1) (S (setOf n no))))
 refine bW ?_
 have fin:∀{h:AH} {M:List HP},Hs G h (aE t 0 (pP ways n b o cap)::aE p 0 x.enc::aE b (o+setOf n no*1) [.slice a (rem no (S (setOf n no))).length c]::dB 5 251 a c ((rem no (S (setOf n no))).length,eG (rem no (S (setOf n no))))::
   hole G 1 248 (some ⟨b,o,none⟩) cap n b o::Qn b o n S (setOf n no)::L')→
   (bA (mQ (pt b (o+setOf n no*1) 0)) fun v8=>bA (pN h v8) fun v9=>bA (lA v9) fun v10=>bA (mQ (pt t 0 0)) fun v11=>bA (gZ 0 v11) fun v12=>bA (pN h v12) fun v13=>bA (uK .geq v10 v13) fun v14=>
    Br v14 (Q (I 11) h) (Dd 251 4 [] Q [(I no),(pt p 0 0),(pt b (o+setOf n no*1) 0)] h)):=by
  intro h M hs
  have hlen:(rem no (S (setOf n no))).length≤4:=by rw[Gf];have:=hb (setOf n no);split<;>omega
  unfold mR at hk
  refine aB (aC (b:=b) (o:=o+setOf n no*1) hs rfl (bZ (aB (aA (aC (b:=t) (o:=0) hs rfl (dR (aR (fun hc=>?_) (fun hc=>?_))))))))
  ·rw[if_pos (by omega)] at hk
   refine hk _ ?_
   have hs:=iV b (o+setOf n no*1) (rem no (S (setOf n no))) (a:=a) (c:=c) hs rfl rfl
   exact(rA t ways n S (setOf n no) (rem no (S (setOf n no))) b o cap (jJ hn) hs).to
  ·rw[if_neg (by omega)] at hk
   refine aDs (_t:=t) (_ways:=ways) (_cap:=cap) (l:=rem no (S (setOf n no))) (a:=a) (c:=c) hlen (show Hs G h (aE p 0 x.enc::aE b (o+setOf n no*1) [.slice a (rem no (S (setOf n no))).length c]::dB 5 251 a c ((rem no (S (setOf n no))).length,eG (rem no (S (setOf n no))))::aE t 0 (pP ways n b o cap)::
    hole G 1 248 (some ⟨b,o,none⟩) cap n b o::Qn b o n S (setOf n no)::L') from hs.to) ?_
   intro h hs
   exact hk _ (rA t ways n S (setOf n no) (rem no (S (setOf n no))++[(no,x)]) b o cap (jJ hn) hs).to
 cases hx:ix no (S (setOf n no)) with
 |none=>
  have e:=(zP hx).2
  simp only[ia,hx]
  refine dR (aK (by omega) (bW (aU hs ?_)))
  intro r h hs
  refine fin (M:=[]) ?_
  rw[e]
  exact hs.to
 |some i=>
  obtain⟨y,h1,h2,h3,h4⟩:=vG hx
  simp only[ia,hx]
  refine dR (bP (by omega) (bW ?_))
  refine aB (aC (b:=b) (o:=o+setOf n no*1) hs rfl (bE (by have:=hb (setOf n no);omega) (L0 h4 (hb _) hs fun h hs=>?_)))
  refine aB (bI (b:=b) (o:=o+setOf n no*1) hs rfl rfl rfl rfl ?_)
  intro h hs
  refine aU hs ?_
  intro r h hs
  refine fin (M:=[]) ?_
  rw[R1 hx,←Tp hx] at hs
  have hs:=hs.sg (b:=b) (o:=o+setOf n no*1) (c:=[.slice a (rem no (S (setOf n no))).length c]) rfl
  exact hs.to
end Go.Proofs.YtajjljbmfdboaaaGreatDoor.C
end
section
namespace Go.Proofs.YtajjljbmfdboaaaGreatDoor.C
open Go Go.Ab Go.Hm Go.Ct
set_option maxRecDepth 100000
variable {G:Bg} {h:AH} {L L' M:List HP}
theorem Du {t ways n:Nat} {no:Int} {S:Nat→List Th} {Q:Value→AH→Prop} (h0:0≤no) (hn:0<n) (hb:∀i,(S i).length≤4) (hs:Hs G h L) [m:Has (gG G t ways n) L S L']
  (hk:∀h',Hs G h' (gG G t ways n (Et n ways S no)::L')→Q (.tuple ⟨[.agg ⟨(bU n S no).1.enc⟩,I (im n ways S no)]⟩) h'):Cl Pr K 249 [pt t 0 0,I no] h Q:=by
 have hs:=m.of hs
 refine cW (bN hs ?_)
 intro p h hs
 refine Mt (t:=t) (ways:=ways) (n:=n) (S:=S) hn hb hs fun h hs=>aG rfl (aG rfl ?_)
 refine aZ (b:=p) (o:=0) hs rfl rfl rfl rfl ?_
 intro h hs
 unfold Et im at hk
 refine aY (aR (fun hc=>?_) (fun hc=>?_))
 ·rw[if_neg hc,if_neg hc] at hk
  refine aQ hs (by decide) (l:=(bU n S no).1.enc) rfl rfl ?_
  refine aZ hs rfl rfl rfl rfl ?_
  intro h hs
  exact aQ hs (by decide) (l:=(bU n S no).1.enc) rfl rfl (hk _ hs.tail)
 ·rw[if_pos (by omega),if_pos (by omega)] at hk
  refine aU hs ?_
  intro r h hs
  refine aQ (b:=p) (o:=0) hs (by decide) (l:=(bU n S no).1.enc) rfl rfl (aQ (b:=p) (o:=0) hs (by decide) (l:=(bU n S no).1.enc) rfl rfl ?_)
  refine xR (t:=t) (ways:=ways) (n:=n) (S:=kU n S no) h0 hn (m9 hb) hs fun h hs=>?_
  refine aZ (b:=p) (o:=0) hs rfl rfl rfl rfl ?_
  intro h2 hs2
  refine cQ ?_ ?_
  ·refine aQ (b:=p) (o:=0) hs (by decide) (l:=(bU n S no).1.enc) rfl rfl ?_
   exact oU (by simp[qA.enc,mS])
  ·exact aQ (b:=p) (o:=0) hs2 (by decide) (l:=(bU n S no).1.enc) rfl rfl (hk _ hs2.to)
end Go.Proofs.YtajjljbmfdboaaaGreatDoor.C
end
end
section
namespace Go.Proofs.YtajjljbmfdboaaaGreatDoor.C
open Go Go.Ab Go.Hm Go.Ct
theorem zb {a:Option Addr} {n c:Nat} {k:Value→Prop} (h1:a=none→k (.bool true)) (h2:a≠none→k (.bool false)):bA (Sl .eql (.slice a n c) (.slice none 0 0)) k:=by
 cases a with
 |none=>exact⟨_,rfl,h1 rfl⟩
 |some a=>exact⟨_,rfl,h2 (by simp)⟩
set_option maxRecDepth 100000
attribute [local irreducible] bA Br pN uC uU Dp nH xW nQ Tx gZ mQ rE sP qX lA B8 uK Y9 dw Tv Sl dj Ty Ry U9 Yi lJ pF vW jB copyV jC wY ft Zd Iw lI P0 Wx en qE uG Be Dk Cl zV Xm uE sS lC gK cS cC
variable {G:Bg} {h:AH} {L L' M:List HP}
theorem X8 {b o n:Nat} (hs:Hs G h (dD n (fun i=>aE b (o+i*1) [.slice none 0 0])::L)):Hs G h (dD n (fun i=>dN b (o+i*1) [])::L):=
 Hs.Hd (g:=fun i=>dN b (o+i*1) []) n _ (fun i _ _ _ hs=>(iV b (o+i*1) [] (a:=none) (c:=0) (n:=0) (cs:=[]) (gD (W:=5) (e:=251) hs).kA rfl rfl)) hs
theorem Qo {s w:Int} (hs1:1≤s∧s≤8) (hw:1≤w∧w≤4) {Q:Value→AH→Prop} (hs:Hs G h L) (hk:∀p h',Hs G h' (gG G p w.toNat s.toNat (fun _=>[])::L)→Q (.tuple ⟨[pt p 0 0,I 0]⟩) h'):Cl Pr K 143 [I s,I w] h Q:=by
 refine cW (aN (aK (by omega) (iS (aK (by omega) (aN (aK (by omega) (iS (aK (by omega) (Ns (by omega) (by omega) (by omega) ?_)))))))))
 dsimp only
 refine dE hs ?_ rfl ?_ ?_
 ·rw[fV,pJ (W:=1) (fun _=>rfl)]
 ·rw[fV];exact oO (fun _=>rfl) _
 intro a h hs
 obtain⟨b,o,ha,hs⟩:=Hs.Gy (W:=1) rfl (by omega) hs
 cases ha
 have hw':w=(w.toNat:Int):=by omega
 refine aH (c:=pP w.toNat s.toNat b o s.toNat) (by unfold pP;rw[←hw'];rfl) (dI hs ?_)
 intro p h hs
 refine hk p h ?_
 have hs:=X8 (hs.front (dD s.toNat fun i=>aE b (o+i*1) [.slice none 0 0]))
 exact yV (b:=b) (o:=o) (cap:=s.toNat) hs.to
theorem pw {l:List Th} {a:Option Addr} {c:Nat} {Q:Value→AH→Prop} (hb:l.length≤4) (hs:Hs G h L) [m:Has (dB 5 251 a c) L (l.length,eG l) L']
  (hk:∀a' c' h',Hs G h' (dB 5 251 a' c' (l.length,eG l)::dB 5 251 a c (l.length,eG l)::L')→Q (.slice a' l.length c') h'):Cl Pr K 181 [.slice a l.length c] h Q:=by
 have hs:=m.of hs
 refine cW (zb (fun ha=>eQ ?_) (fun _=>bV (aH (c:=[]) rfl ?_)))
 ·subst ha
  have hl:l=[]:=by
   cases l with
   |nil=>rfl
   |cons y l=>obtain⟨b,o,ha,_⟩:=hs.mU (by simp);cases ha
  subst hl
  exact hk none 0 h (gD hs)
 ·refine dE (W:=5) (n:=0) (c:=0) hs rfl rfl rfl ?_
  intro a2 h hs
  refine pW (a:=some a2) (c:=0) (n:=0) (cs:=[]) (a2:=a) (c2:=c) (m:=l.length) (ns:=eG l) hs (by omega) ?_
  intro a' c' h hs
  have:=hk a' c' h (by simpa using hs)
  show Q _ _
  simpa using this
theorem Zs {_p q b o cap b2 o2 cap2 n ways:Nat} {S:Nat→List Th} {Q:Value→AH→Prop} (hn:n≤8) (hb:∀i,(S i).length≤4)
  (hk:∀h',Hs G h' (dD n (fun i=>dN b (o+i*1) (S i))::dD n (fun i=>dN b2 (o2+i*1) (S i))::aE q 0 (pP ways n b2 o2 cap2)::L)→Q (pt q 0 0) h'):∀(r i:Nat) (h:AH) (_M:List HP),i+r=n→
  Hs G h (dD n (fun i=>dN b (o+i*1) (S i))::dD n (fun j=>dN b2 (o2+j*1) (if j<i then S j else []))::aE q 0 (pP ways n b2 o2 cap2)::L)→
  Dd 142 2 [] Q [(pt q 0 0),(.slice (some ⟨b,o,none⟩) n cap),(I n),(I i)] h:=by
 intro r
 induction r with
 |zero=>
  intro i h M hi hs
  have:i=n:=by omega
  subst this
  refine bW (aN (aK (by omega) (hk _ ?_)))
  exact(qP (f:=fun j=>dN b2 (o2+j*1) (if j<i then S j else [])) (g:=fun j=>dN b2 (o2+j*1) (S j)) (fun j hj=>by rw[if_pos hj]) hs.kA).kA
 |succ r ih=>
  intro i h M hi hs
  have hin:i<n:=by omega
  refine bW (aN (bP (by omega) (bW (dK hin ?_))))
  have hs1:=hs.kY i hin
  obtain⟨a,c,hs1⟩:=rI hs1
  refine aC (b:=b) (o:=o+i*1) hs1 rfl (aU hs1 ?_)
  intro rr h hs
  refine aB (aA (aC (b:=q) (o:=0) hs rfl (pw (l:=S i) (a:=a) (c:=c) (hb i) hs fun a' c' h hs=>?_)))
  have hs2:=(hs.front (dD n fun j=>dN b2 (o2+j*1) (if j<i then S j else []))).kY i hin
  simp only[Nat.lt_irrefl,if_false] at hs2
  obtain⟨a3,c3,hs2⟩:=rI hs2
  refine dK hin (bI (b:=b2) (o:=o2+i*1) hs2 rfl rfl rfl rfl ?_)
  intro h2 hs3
  refine cQ dA (cQ (aB dA) (cQ (aA dA) (cQ (aC (b:=q) (o:=0) hs2 rfl S0) (cQ gC (bE (by omega) ?_)))))
  refine ih (i+1) h2 [] (by omega) ?_
  have hs3:=iV b2 (o2+i*1) (S i) (a:=a') (c:=c') hs3 rfl rfl
  have e0:dN b2 (o2+i*1) (S i)=(fun j=>dN b2 (o2+j*1) (if j<i+1 then S j else [])) i:=by simp only[Nat.lt_succ_self,if_true]
  rw[e0] at hs3
  have hs3:=hs3.oR (n:=n) (i:=i) (fun j=>dN b2 (o2+j*1) (if j<i then S j else [])) (fun j=>dN b2 (o2+j*1) (if j<i+1 then S j else [])) hin (fun j _ hne=>by
   have:(j<i+1)=(j<i):=propext ⟨fun h=>by omega,fun h=>by omega⟩
   simp only[this])
  have hs3:=iV b (o+i*1) (S i) (a:=a) (c:=c) hs3 rfl rfl
  have hs3:=hs3.oR (n:=n) (i:=i) (fun j=>dN b (o+j*1) (S j)) (fun j=>dN b (o+j*1) (S j)) hin (fun _ _ _=>rfl)
  exact hs3.to
theorem s9 {t ways n:Nat} {S:Nat→List Th} {Q:Value→AH→Prop} (hn0:0<n) (hn:n≤8) (hb:∀i,(S i).length≤4) (hs:Hs G h L) [m:Has (gG G t ways n) L S L']
  (hk:∀q h',Hs G h' (gG G q ways n S::gG G t ways n S::L')→Q (pt q 0 0) h'):Cl Pr K 142 [pt t 0 0] h Q:=by
 obtain⟨b,o,cap,hs⟩:=Rt (m.of hs)
 refine cW (cN (bV (bW (aU hs ?_))))
 intro rr h hs
 refine aB (aA (aC (b:=t) (o:=0) hs rfl (aB (aA (aC (b:=t) (o:=0) hs rfl (bZ (yx (by omega) (by omega) ?_)))))))
 dsimp only
 refine iW (i:=9) (N:=13) (D:=[]) hs rfl rfl ?_ rfl ?_ ?_
 ·rw[fV,pJ (W:=1) (fun _=>rfl)]
 ·rw[fV];exact oO (fun _=>rfl) _
 intro a h hs
 obtain⟨b2,o2,ha,hs⟩:=Hs.Gy (W:=1) rfl hn0 hs
 cases ha
 refine aH (c:=pP ways n b2 o2 n) rfl ?_
 refine xQ (i:=11) hs rfl rfl ?_
 intro q h hs
 refine aB (aA (aC (b:=t) (o:=0) hs rfl (bZ ?_)))
 have hs:=X8 (hs.front (dD n fun i=>aE b2 (o2+i*1) [.slice none 0 0]))
 refine Zs (G:=G) (_p:=0) (ways:=ways) (n:=n) (b:=b) (o:=o) (cap:=cap) (b2:=b2) (o2:=o2) (cap2:=n) (S:=S) (L:=aE t 0 (pP ways n b o cap)::hole G 1 248 (some ⟨b,o,none⟩) cap n b o::hole G 1 248 (some ⟨b2,o2,none⟩) n n b2 o2::L') hn hb ?_ n 0 h [] (by omega) ?_
 ·intro h hs
  refine hk q h ?_
  have hs:Hs G h (aE q 0 (pP ways n b2 o2 n)::hole G 1 248 (some ⟨b2,o2,none⟩) n n b2 o2::dD n (fun i=>dN b2 (o2+i*1) (S i))::aE t 0 (pP ways n b o cap)::hole G 1 248 (some ⟨b,o,none⟩) cap n b o::dD n (fun i=>dN b (o+i*1) (S i))::L'):=hs.to
  have hs:=yV (b:=b2) (o:=o2) (cap:=n) hs
  have hs:Hs G h (aE t 0 (pP ways n b o cap)::hole G 1 248 (some ⟨b,o,none⟩) cap n b o::dD n (fun i=>dN b (o+i*1) (S i))::gG G q ways n S::L'):=hs.to
  exact(yV (b:=b) (o:=o) (cap:=cap) hs).kA
 ·simp only[Nat.not_lt_zero,if_false]
  exact hs.to
end Go.Proofs.YtajjljbmfdboaaaGreatDoor.C
end
section
open Go Go.Ab
attribute [local irreducible] bA Br pN uC uU Dp nH xW nQ Tx gZ mQ rE sP qX lA B8 uK Y9 dw Tv Sl dj Ty Ry U9 Yi lJ pF vW jB copyV jC wY ft Zd Iw lI P0 Wx en qE uG Be Dk Cl zV Xm uE sS lC gK cS cC
section
namespace Go.Proofs.YtajjljbmfdboaaaGreatDoor.C
open Go Go.Ab Go.Hm Go.Ct
def iQ (t:Nat) (C:bL) (core:Int) (s:jF):List Value:=pt t 0 0::(C.enc++[I core,I s.al,.bool s.aw,.bool s.Qa,I s.gl,I s.gc.st,I s.gc.w,I s.gc.d.1,I s.gc.d.2,.bool s.Ft])
set_option maxRecDepth 100000
variable {G:Bg} {h:AH} {L L' M:List HP}
def fO (G:Bg) (c:Nat) (C:bL) (core:Int) (s:jF):HP:=rY fun t:Nat=>sp [aE c 0 (iQ t C core s),gG G t C.ways.toNat C.bJ.toNat s.S]
theorem iP {c:Nat} {C:bL} {core:Int} {s:jF} (hs:Hs G h (fO G c C core s::L)):∃t,Hs G h (aE c 0 (iQ t C core s)::gG G t C.ways.toNat C.bJ.toNat s.S::L):=by
 obtain⟨t,hs⟩:=hs.zE
 exact⟨t,hs.unpack⟩
theorem cG (c t:Nat) (C:bL) (core:Int) (s:jF) {cs:List Value} {S:Nat→List Th} {L1 L2:List HP} (hs:Hs G h L) [m:Has (aE c 0) L cs L1] [m2:Has (gG G t C.ways.toNat C.bJ.toNat) L1 S L2] (h1:cs=iQ t C core s) (h2:S=s.S):Hs G h (fO G c C core s::L2):=by
 subst h1;subst h2
 exact Hs.uH (A:=fun t:Nat=>sp [aE c 0 (iQ t C core s),gG G t C.ways.toNat C.bJ.toNat s.S]) t (Hs.pack (A:=[_,_]) (hs.perm (m.perm.trans (m2.perm.cons _))))
variable {C:bL} {core:Int} {c:Nat} {s:jF}
theorem tB (hC:C.Ok) {l:Int} {Q:Value→AH→Prop} (hl:Ob G 0 fB) (hs:Hs G h L) [m:Has (fO G c C core) L s L'] (hk:∀h',Hs G h' (fO G c C core s::L')→Q (.bool (wU C l)) h'):Cl Pr K 255 [pt c 0 0,I l] h Q:=by
 obtain⟨t,hs⟩:=iP (m.of hs)
 refine cW (dR (aR (fun h1=>?_) (fun h1=>?_)))
 ·refine aB (aA (aQ (b:=c) (o:=0) hs (by decide) (l:=C.enc) rfl rfl (mZ hC hl hs fun h hs=>aN ?_)))
  show Q _ _
  rw[show decide (l<(C.lines:Int))=wU C l from decide_eq_decide.2 (by omega)]
  exact hk _ (cG c t C core s hs rfl rfl)
 ·rw[show wU C l=false from decide_eq_false (by omega)] at hk
  exact hk _ (cG c t C core s hs rfl rfl)
theorem Nh (hC:C.Ok) (hb:Bd s) {l ow:Int} {w:Bool} {Q:Value→AH→Prop} (ho:Ob G 3 hM) (hs:Hs G h L) [m:Has (fO G c C core) L s L'] (hk:∀h',Hs G h' (fO G c C core s::L')→Q (.bool (mW C.bJ.toNat s.S l ow w)) h'):Cl Pr K 195 [pt c 0 0,I l,I ow,.bool w] h Q:=by
 obtain⟨t,hs⟩:=iP (m.of hs)
 refine cW (cN (bV (bW (aB (aA (aC (b:=c) (o:=0) hs rfl ?_))))))
 refine zD (t:=t) (ways:=C.ways.toNat) (n:=C.bJ.toNat) (S:=s.S) (kK hC).1 hb hs fun h hs=>aG rfl (aG rfl (bN hs ?_))
 intro p h hs
 refine aZ hs rfl rfl rfl rfl ?_
 intro h hs
 unfold mW at hk
 refine bH (aR (fun h1=>aA (aC hs rfl (bH (aR (fun h2=>?_) (fun h2=>?_))))) (fun h1=>?_))
 ·rw[decide_eq_true h1,decide_eq_true h2,Bool.true_and,Bool.true_and] at hk
  exact aQ hs (by decide) (l:=(bU C.bJ.toNat s.S l).1.enc) rfl rfl (Ml ho hs fun h hs=>hk _ (cG c t C core s hs rfl rfl).to)
 ·rw[decide_eq_false h2,Bool.and_false,Bool.false_and] at hk
  exact hk _ (cG c t C core s hs rfl rfl).to
 ·rw[decide_eq_false h1,Bool.false_and,Bool.false_and] at hk
  exact hk _ (cG c t C core s hs rfl rfl).to
theorem Bt (hC:C.Ok) (hb:Bd s) {l at' ow:Int} {w:Bool} {Q:Value→AH→Prop} (hl:Ob G 0 fB) (ho:Ob G 3 hM) (hs:Hs G h L) [m:Has (fO G c C core) L s L'] (hk:∀h',Hs G h' (fO G c C core s::L')→Q (I (pX C s.S l at' ow w)) h'):Cl Pr K 248 [pt c 0 0,I l,I at',I ow,.bool w] h Q:=by
 have hs:=m.of hs
 unfold pX at hk
 refine cW (cN (bV (bW (tB (c:=c) (core:=core) (s:=s) hC hl hs fun h hs=>bS (dQ (cU (fun h1=>?_) (fun h1=>?_)))))))
 ·rw[h1] at hk
  simp only[Bool.true_eq_false,if_false] at hk
  refine aN (aR (fun h2=>?_) (fun h2=>dR (aR (fun h3=>?_) (fun h3=>bW (Nh (c:=c) (core:=core) (s:=s) hC hb ho hs fun h hs=>bS (dQ (cU (fun h4=>?_) (fun h4=>?_))))))))
  ·rw[if_pos h2] at hk;exact hk _ hs
  ·rw[if_neg h2,if_pos h3] at hk;exact hk _ hs
  ·rw[if_neg h2,if_neg h3,if_neg (by rw[h4];simp)] at hk;exact hk _ hs
  ·rw[if_neg h2,if_neg h3,if_pos h4] at hk;exact hk _ hs
 ·rw[if_pos h1] at hk;exact hk _ hs
theorem X7 (hC:C.Ok) (hb:Bd s) {l at' ow:Int} {Q:Value→AH→Prop} (hl:Ob G 0 fB) (ho:Ob G 3 hM) (hs:Hs G h L) [m:Has (fO G c C core) L s L'] (hk:∀v e h',Hs G h' (fO G c C core (sQ C s l at' ow)::L')→Q (.tuple ⟨[I v,I e]⟩) h'):Cl Pr K 197 [pt c 0 0,I l,I at',I ow] h Q:=by
 have hs:=m.of hs
 unfold sQ at hk
 refine cW (Bt (c:=c) (core:=core) (s:=s) hC hb hl ho hs fun h hs=>aY (aR (fun h1=>?_) (fun h1=>?_)))
 ·rw[if_neg h1] at hk;exact hk _ _ _ hs
 ·have h1:pX C s.S l at' ow false=0:=by omega
  rw[if_pos h1] at hk
  obtain⟨hl1,ha,hp,_⟩:=Hv h1
  obtain⟨t,hs⟩:=iP hs
  refine bW (aB (aA (aC (b:=c) (o:=0) hs rfl (Du (t:=t) (ways:=C.ways.toNat) (n:=C.bJ.toNat) (S:=s.S) hl1.1 (kK hC).1 hb hs fun h hs=>aG rfl (aG rfl (bN hs ?_))))))
  intro p h hs
  refine aZ hs rfl rfl rfl rfl ?_
  intro h hs
  have hs2:=fun {h:AH} hs=>(cG c t C core {s with S:=Et C.bJ.toNat C.ways.toNat s.S l} (G:=G) (h:=h) (L:=aE p 0 (bU C.bJ.toNat s.S l).1.enc::gG G t C.ways.toNat C.bJ.toNat (Et C.bJ.toNat C.ways.toNat s.S l)::aE c 0 (iQ t C core s)::L') hs rfl rfl)
  refine aY (aR (fun h2=>hk _ _ _ (hs2 hs).to) (fun h2=>aA ?_))
  rcases ha with rfl|rfl
  ·exact eZ (by decide) (by decide) (aC (b:=p) (o:=0) hs rfl (hk _ _ _ (hs2 hs).to))
  ·exact eZ (by decide) (by decide) (aC (b:=p) (o:=0) hs rfl (hk _ _ _ (hs2 hs).to))
end Go.Proofs.YtajjljbmfdboaaaGreatDoor.C
end
section
namespace Go.Proofs.YtajjljbmfdboaaaGreatDoor.C
open Go Go.Ab Go.Hm Go.Ct
set_option maxRecDepth 100000
variable {G:Bg} {h:AH} {L L' M:List HP} {C:bL} {core:Int} {c:Nat} {s:jF}
theorem R0 {s':jF} {c t:Nat} {cs:List Value} {S:Nat→List Th} {L1 L2:List HP} (h1:cs=iQ t C core s') (h2:S=s'.S) (hs:Hs G h L) [m:Has (aE c 0) L cs L1] [m2:Has (gG G t C.ways.toNat C.bJ.toNat) L1 S L2]:Hs G h (fO G c C core s'::L2):=cG c t C core s' hs h1 h2
theorem Cn (hC:C.Ok) (hb:Bd s) {l at' ow v:Int} {Q:Value→AH→Prop} (hl:Ob G 0 fB) (ho:Ob G 3 hM) (hs:Hs G h L) [m:Has (fO G c C core) L s L'] (hk:∀e h',Hs G h' (fO G c C core (mA C s l at' ow v)::L')→Q (I e) h'):Cl Pr K 198 [pt c 0 0,I l,I at',I ow,I v] h Q:=by
 have hs:=m.of hs
 unfold mA at hk
 refine cW (Bt (c:=c) (core:=core) (s:=s) hC hb hl ho hs fun h hs=>aY (aR (fun h1=>?_) (fun h1=>?_)))
 ·rw[if_neg h1] at hk;exact hk _ _ hs
 ·have h1:pX C s.S l at' ow true=0:=by omega
  rw[if_pos h1] at hk
  obtain⟨hl1,ha,hp,hst⟩:=Hv h1
  have hst:vJ (bU C.bJ.toNat s.S l).1.st=true:=hst
  obtain⟨t,hs⟩:=iP hs
  refine bW (aB (aA (aC (b:=c) (o:=0) hs rfl ?_)))
  refine zD (t:=t) (ways:=C.ways.toNat) (n:=C.bJ.toNat) (S:=s.S) (kK hC).1 hb hs fun h hs=>aG rfl (aG rfl (bN hs ?_))
  intro p h hs
  refine aZ hs rfl rfl rfl rfl ?_
  intro h hs
  refine aY (aK (by omega) (bW (aA (aC (b:=p) (o:=0) hs rfl (Sq ho hs hst (aG rfl (aG rfl (aA (bI (b:=p) (o:=0) hs rfl rfl rfl rfl ?_)))))))))
  intro h hs
  refine aY (aK (by omega) (bW (aA ?_)))
  have key:∀{c0:Bool} {h:AH},Hs G h (aE p 0 (oM C.bJ.toNat s.S l at' v).enc::gG G t C.ways.toNat C.bJ.toNat s.S::aE c 0 (iQ t C core s)::L')→c0=true→
    Tx c0 h 8 fun _ h3=>bA (mQ (pt c 0 0)) fun v5=>bA (gZ 0 v5) fun v6=>bA (pN h3 v6) fun v7=>bA (uC h3 4 (pt p 0 0)) fun v8=>Cl Pr K 251 [v7,I l,v8] h3 fun v9 h9=>Q v9 h9:=by
   intro c0 h hs hc0
   refine aU (hc:=hc0) hs ?_
   intro r h hs
   refine aB (aA (aC (b:=c) (o:=0) hs rfl (aQ (b:=p) (o:=0) hs (by decide) (l:=(oM C.bJ.toNat s.S l at' v).enc) rfl rfl ?_)))
   refine xR (t:=t) (ways:=C.ways.toNat) (n:=C.bJ.toNat) (S:=s.S) hl1.1 (kK hC).1 hb hs fun h hs=>?_
   exact hk _ _ (cG c t C core {s with S:=(mR C.bJ.toNat C.ways.toNat s.S l (oM C.bJ.toNat s.S l at' v)).1} (cs:=iQ t C core s) hs rfl rfl).to
  rcases ha with rfl|rfl
  ·refine eZ (by decide) (by decide) (bI (b:=p) (o:=0) hs rfl rfl rfl rfl ?_)
   intro h hs
   exact key ((hs.sg (b:=p) (o:=0) (c:=(oM C.bJ.toNat s.S l 0 v).enc) rfl).to) (by kernel_rfl)
  ·refine eZ (by decide) (by decide) (bI (b:=p) (o:=0) hs rfl rfl rfl rfl ?_)
   intro h hs
   exact key ((hs.sg (b:=p) (o:=0) (c:=(oM C.bJ.toNat s.S l 1 v).enc) rfl).to) (by kernel_rfl)
theorem X6 {t:Nat} {l w:Int} {wr:Bool} {ns:List aJ} {a:Option Addr} {cp:Nat} {Q:Value→AH→Prop} (hn:ns.length≤1) (hs:Hs G h (aE c 0 (iQ t C core (kX core s l w wr ns).1)::gG G t C.ways.toNat C.bJ.toNat s.S::dB 9 175 a cp (ns.length,eA ns)::L))
  (hk:∀a' c' h',Hs G h' (dB 9 175 a' c' ((kX core s l w wr ns).2.1.length,eA (kX core s l w wr ns).2.1)::fO G c C core (kX core s l w wr ns).1::L)→Q (.tuple ⟨[.slice a' (kX core s l w wr ns).2.1.length c',I 0]⟩) h'):
  Br (.bool wr) (Dd 247 10 [] Q [(pt c 0 0),(I l),(I w),(.slice a ns.length cp)] h) (bA (mQ (pt c 0 0)) fun v35=>bA (gZ 8 v35) fun v36=>bA (pN h v36) fun v37=>
   bA (nI [(I 0),(I 0),(I 0),(I 0),(I 0),(I 0),(I 0),(.bool false),(I 0)] [(0,1,(I 1)),(1,1,v37),(2,1,(I l)),(3,1,(I w))]) fun c38=>
   bA (nI [(I 0),(I 0),(I 0),(I 0),(I 0),(I 0),(I 0),(.bool false),(I 0)] [(0,9,(.agg ⟨c38⟩))]) fun l40=>
   xW h 9 175 l40 1 1 fun s41 h39=>bA (jB 9 72 175 h39 (.slice a ns.length cp) s41) fun r42=>(fun v43 h44=>Q (.tuple ⟨[v43,(I 0)]⟩) h44) r42.1 r42.2):=by
 have fin:∀{h:AH} {a':Option Addr} {c':Nat} (x:aJ),x=⟨if wr then 2 else 1,core,l,w,0,0,0,false,0⟩→Hs G h (dB 9 175 a' c' (ns.length+1,eA ns++x.enc)::aE c 0 (iQ t C core (kX core s l w wr ns).1)::gG G t C.ways.toNat C.bJ.toNat s.S::L)→Q (.tuple ⟨[.slice a' (ns.length+1) c',I 0]⟩) h:=by
  intro h a' c' x hx hs
  have e1:(kX core s l w wr ns).2.1=ns++[x]:=by rw[hx];rfl
  have:=hk a' c' h
  rw[e1] at this
  simp only[List.length_append,List.length_cons,List.length_nil,eA,List.flatMap_append,List.flatMap_cons,List.flatMap_nil,List.append_nil,Nat.zero_add] at this
  refine this ?_
  have hs:=R0 (s':=(kX core s l w wr ns).1) (t:=t) (c:=c) rfl rfl hs
  exact hs.kA
 cases wr
 ·refine bV (aB (aA (aC (b:=c) (o:=0) hs rfl (aH (c:=(⟨1,core,l,w,0,0,0,false,0⟩:aJ).enc) rfl (aH (c:=(⟨1,core,l,w,0,0,0,false,0⟩:aJ).enc) rfl (dE (W:=9) (n:=1) (c:=1) hs rfl rfl rfl ?_))))))
  intro a2 h hs
  refine pW (a:=a) (c:=cp) (n:=ns.length) (cs:=eA ns) (a2:=some a2) (c2:=1) (m:=1) (ns:=(⟨1,core,l,w,0,0,0,false,0⟩:aJ).enc) hs (by omega) ?_
  intro a' c' h hs
  exact fin ⟨1,core,l,w,0,0,0,false,0⟩ rfl hs.to
 ·refine eQ (bW (aB (aA (aC (b:=c) (o:=0) hs rfl (aH (c:=(⟨2,core,l,w,0,0,0,false,0⟩:aJ).enc) rfl (aH (c:=(⟨2,core,l,w,0,0,0,false,0⟩:aJ).enc) rfl (dE (W:=9) (n:=1) (c:=1) hs rfl rfl rfl ?_)))))))
  intro a2 h hs
  refine pW (a:=a) (c:=cp) (n:=ns.length) (cs:=eA ns) (a2:=some a2) (c2:=1) (m:=1) (ns:=(⟨2,core,l,w,0,0,0,false,0⟩:aJ).enc) hs (by omega) ?_
  intro a' c' h hs
  exact fin ⟨2,core,l,w,0,0,0,false,0⟩ rfl hs.to
theorem fh {t:Nat} {l w:Int} {wr:Bool} {ns:List aJ} {a:Option Addr} {cp:Nat} {Q:Value→AH→Prop} (hn:ns.length≤1) (hs:Hs G h (aE c 0 (iQ t C core s)::gG G t C.ways.toNat C.bJ.toNat s.S::dB 9 175 a cp (ns.length,eA ns)::L))
  (hk:∀a' c' h',Hs G h' (dB 9 175 a' c' ((kX core s l w wr ns).2.1.length,eA (kX core s l w wr ns).2.1)::fO G c C core (kX core s l w wr ns).1::L)→Q (.tuple ⟨[.slice a' (kX core s l w wr ns).2.1.length c',I 0]⟩) h'):
  Dd 247 8 [] Q [(pt c 0 0),(I l),(I w),(.bool wr),(.slice a ns.length cp)] h:=by
 refine bW (aH (c:=[I l,.bool wr,.bool true]) rfl (aB (aA (bI (b:=c) (o:=0) hs rfl rfl rfl rfl ?_))))
 intro h hs
 have hs:=hs.sg (b:=c) (o:=0) (c:=iQ t C core (kX core s l w wr ns).1) rfl
 exact X6 (t:=t) hn hs hk
theorem ud (_hb:Bd s) {t p:Nat} {l w no:Int} {x:qA} {wr:Bool} {S:Nat→List Th} {Q:Value→AH→Prop} (ho:Ob G 3 hM) (hs:Hs G h (aE p 0 x.enc::aE c 0 (iQ t C core s)::gG G t C.ways.toNat C.bJ.toNat S::L))
  (hk:∀a' c' h' r,r=kX core {s with S:=S,gl:=no,gc:=x,Ft:=true} l w wr [⟨3,core,no,x.w,0,x.d.1,x.d.2,lB x.st,0⟩]→Hs G h' (dB 9 175 a' c' (r.2.1.length,eA r.2.1)::fO G c C core r.1::L)→Q (.tuple ⟨[.slice a' r.2.1.length c',I 0]⟩) h'):
  Dd 247 11 [] Q [(pt c 0 0),(I l),(I w),(.bool wr),(.slice none 0 0),(I no),(pt p 0 0)] h:=by
 refine bW (aQ hs (by decide) (l:=x.enc) rfl rfl (aH (c:=[I no,I x.st,I x.w,I x.d.1,I x.d.2,.bool true]) rfl (aB (aA (bI (b:=c) (o:=0) hs rfl rfl rfl rfl ?_)))))
 intro h hs
 have hs:=hs.sg (b:=c) (o:=0) (c:=iQ t C core {s with S:=S,gl:=no,gc:=x,Ft:=true}) rfl
 refine aU hs ?_
 intro rr h hs
 refine aB (aA (aC (b:=c) (o:=0) hs rfl (aA (aC (b:=p) (o:=0) hs rfl (aA (aQ (b:=p) (o:=0) hs (by decide) (l:=[I x.d.1,I x.d.2]) rfl rfl (aA (aC (b:=p) (o:=0) hs rfl (Iz ho hs ?_)))))))))
 refine aH (c:=(⟨3,core,no,x.w,0,x.d.1,x.d.2,lB x.st,0⟩:aJ).enc) rfl (aH (c:=(⟨3,core,no,x.w,0,x.d.1,x.d.2,lB x.st,0⟩:aJ).enc) rfl ?_)
 refine iW (i:=14) (N:=17) (D:=[]) hs rfl rfl rfl rfl rfl ?_
 intro a2 h hs
 have hs:=gD (W:=9) (e:=175) hs
 refine pW (a:=none) (c:=0) (n:=0) (cs:=[]) (a2:=some a2) (c2:=1) (m:=1) (ns:=(⟨3,core,no,x.w,0,x.d.1,x.d.2,lB x.st,0⟩:aJ).enc) hs (by omega) ?_
 intro a' c' h2 hs2
 have hsp:Hs G h (aE p 0 x.enc::_):=hs.front (aE p 0 x.enc)
 have hsc:Hs G h (aE c 0 (iQ t C core {s with S:=S,gl:=no,gc:=x,Ft:=true})::_):=hs.front (aE c 0 (iQ t C core {s with S:=S,gl:=no,gc:=x,Ft:=true}))
 refine cQ S0 (cQ dA (cQ (aB dA) (cQ (aA dA) (cQ (aC (b:=c) (o:=0) hsc rfl gC) (cQ gC (cQ (aA dA) (cQ (aC (b:=p) (o:=0) hsp rfl gC) (cQ (aA dA) (cQ (aQ (b:=p) (o:=0) hsp (by decide) (l:=[I x.d.1,I x.d.2]) rfl rfl (oU (by simp[mS]))) ?_)))))))))
 refine aH (c:=[I l,.bool wr,.bool true]) rfl (aB (aA (bI (b:=c) (o:=0) hs2 rfl rfl rfl rfl ?_)))
 intro h hs
 have hs:=hs.sg (b:=c) (o:=0) (c:=iQ t C core (kX core {s with S:=S,gl:=no,gc:=x,Ft:=true} l w wr [⟨3,core,no,x.w,0,x.d.1,x.d.2,lB x.st,0⟩]).1) rfl
 refine X6 (t:=t) (s:={s with S:=S,gl:=no,gc:=x,Ft:=true}) (ns:=[⟨3,core,no,x.w,0,x.d.1,x.d.2,lB x.st,0⟩]) (a:=a') (cp:=c') (L:=L) (by simp) ?_ (fun a' c' h'=>hk a' c' h' _ rfl)
 exact(show Hs G h (aE c 0 (iQ t C core (kX core {s with S:=S,gl:=no,gc:=x,Ft:=true} l w wr [⟨3,core,no,x.w,0,x.d.1,x.d.2,lB x.st,0⟩]).1)::gG G t C.ways.toNat C.bJ.toNat S::dB 9 175 a' c' (0+1,[]++(⟨3,core,no,x.w,0,x.d.1,x.d.2,lB x.st,0⟩:aJ).enc)::L) from hs.to)
theorem ka (hC:C.Ok) (hb:Bd s) {t:Nat} {l w:Int} (h0:0≤l) {wr:Bool} {Q:Value→AH→Prop} (ho:Ob G 3 hM) (hs:Hs G h (aE c 0 (iQ t C core s)::gG G t C.ways.toNat C.bJ.toNat s.S::L))
  (hk:∀a' c' h',Hs G h' (dB 9 175 a' c' ((Aa C core s l w wr).2.1.length,eA (Aa C core s l w wr).2.1)::fO G c C core (Aa C core s l w wr).1::L)→Q (.tuple ⟨[.slice a' (Aa C core s l w wr).2.1.length c',I (Aa C core s l w wr).2.2]⟩) h'):
  bA (mQ (pt c 0 0)) fun v0=>bA (gZ 0 v0) fun v1=>bA (pN h v1) fun v2=>Cl Pr K 292 [v2,I l] h fun v3 h3=>
   bA (rE 0 v3) fun v4=>bA (rE 1 v3) fun v5=>bA (rE 2 v3) fun v6=>bA (uK .neq v6 (I 0)) fun v7=>
   Br v7 (Q (.tuple ⟨[(.slice none 0 0),v6]⟩) h3) (Dd 247 6 [] Q [(pt c 0 0),(I l),(I w),(.bool wr),(.slice none 0 0),v4,v5] h3):=by
 unfold Aa at hk
 refine aB (aA (aC (b:=c) (o:=0) hs rfl ?_))
 refine ag (t:=t) (ways:=C.ways.toNat) (n:=C.bJ.toNat) (S:=s.S) (kK hC).2.2.1 (kK hC).1 h0 hb hs fun h hs=>?_
 cases hv:Gm C.bJ.toNat C.ways.toNat s.S l with
 |none=>
  simp only[hv] at hk
  refine aG rfl (aG rfl (aG rfl (aY (aK (by omega) (bW (bV ?_))))))
  exact fh (t:=t) (s:=s) (ns:=[]) (a:=none) (cp:=0) (L:=L) (by simp) (show Hs G h (aE c 0 (iQ t C core s)::gG G t C.ways.toNat C.bJ.toNat s.S::dB 9 175 none 0 (0,[])::L) from(gD (W:=9) (e:=175) hs).to) hk
 |some v=>
  simp only[hv] at hk
  refine aG rfl (aG rfl (aG rfl (aY (aK (by omega) (bW (eQ (bW (aB (aA (aA (aC (b:=c) (o:=0) hs rfl (cU (fun h1=>?_) (fun h1=>?_)))))))))))))
  ·simp only[h1,if_true] at hk
   exact hk none 0 h (gD (W:=9) (e:=175) (R0 (s':=s) (t:=t) (c:=c) rfl rfl hs))
  ·simp only[if_neg (show ¬(s.Ft=true) from by rw[h1];simp)] at hk
   refine bW (aB (aA (aC (b:=c) (o:=0) hs rfl ?_)))
   refine Mt (t:=t) (ways:=C.ways.toNat) (n:=C.bJ.toNat) (S:=s.S) (kK hC).1 hb hs fun h hs=>aG rfl (aG rfl (bN hs ?_))
   intro p h hs
   refine aZ hs rfl rfl rfl rfl ?_
   intro h hs
   refine aY (aR (fun h2=>?_) (fun h2=>?_))
   ·simp only[if_pos h2] at hk
    refine hk none 0 h (gD (W:=9) (e:=175) ?_)
    exact(cG c t C core {s with S:=kU C.bJ.toNat s.S v.1} (cs:=iQ t C core s) hs rfl rfl).to
   ·simp only[if_neg h2] at hk
    refine ud (s:=s) hb ho (show Hs G h (aE p 0 (bU C.bJ.toNat s.S v.1).1.enc::aE c 0 (iQ t C core s)::gG G t C.ways.toNat C.bJ.toNat (kU C.bJ.toNat s.S v.1)::L) from hs.to) ?_
    intro a' c' h' r hr
    subst hr
    exact hk a' c' h'
theorem uh (hC:C.Ok) (hb:Bd s) {l w:Int} {wr:Bool} {Q:Value→AH→Prop} (hl:Ob G 0 fB) (ho:Ob G 3 hM) (hs:Hs G h L) [m:Has (fO G c C core) L s L']
  (hk:∀a' c' h',Hs G h' (dB 9 175 a' c' ((want C core s l w wr).2.1.length,eA (want C core s l w wr).2.1)::fO G c C core (want C core s l w wr).1::L')→Q (.tuple ⟨[.slice a' (want C core s l w wr).2.1.length c',I (want C core s l w wr).2.2]⟩) h'):
  Cl Pr K 247 [pt c 0 0,I l,I w,.bool wr] h Q:=by
 have hs:=m.of hs
 unfold want at hk
 refine cW (cN (bV (bW (tB (c:=c) (core:=core) (s:=s) hC hl hs fun h hs=>bS (dQ (cU (fun h1=>?_) (fun h1=>?_)))))))
 ·simp only[h1,Bool.true_eq_false,if_false] at hk
  have h0:0≤l:=(of_decide_eq_true h1).1
  obtain⟨t,hs⟩:=iP hs
  refine bW (aB (aA (aA (aC (b:=c) (o:=0) hs rfl (cU (fun h2=>?_) (fun h2=>bW ?_))))))
  ·simp only[h2,if_true] at hk
   exact hk none 0 h (gD (W:=9) (e:=175) (cG c t C core s hs rfl rfl))
  ·simp only[h2,Bool.false_eq_true,if_false] at hk
   have key:¬(s.Ft=true∧s.gl=l)→(bA (mQ (pt c 0 0)) fun v0=>bA (gZ 0 v0) fun v1=>bA (pN h v1) fun v2=>Cl Pr K 245 [v2,I l] h fun v3 h3=>
     bA (rE 0 v3) fun v4=>bA (rE 1 v3) fun v5=>Dp h3 (.cells [(I 0),(I 0),(I 0),(I 0)] 157 (0,0) true) fun p7 h6=>bA (uU h6 4 (pt p7 0 0) v4) fun h8=>bA (uK .eql v5 (I 0)) fun v9=>
     Br v9 (bA (uC h8 4 (pt p7 0 0)) fun v10=>Cl Pr K 246 [v10,.bool wr] h8 fun v11 h11=>Br v11 (Q (.tuple ⟨[(.slice none 0 0),(I 13)]⟩) h11) (Dd 247 5 [] Q [(pt c 0 0),(I l),(I w),(.bool wr)] h11))
      (bA (mQ (pt c 0 0)) fun v0=>bA (gZ 0 v0) fun v1=>bA (pN h8 v1) fun v2=>Cl Pr K 292 [v2,I l] h8 fun v3 h3=>
       bA (rE 0 v3) fun v4=>bA (rE 1 v3) fun v5=>bA (rE 2 v3) fun v6=>bA (uK .neq v6 (I 0)) fun v7=>
       Br v7 (Q (.tuple ⟨[(.slice none 0 0),v6]⟩) h3) (Dd 247 6 [] Q [(pt c 0 0),(I l),(I w),(.bool wr),(.slice none 0 0),v4,v5] h3))):=by
    intro h3
    simp only[if_neg h3] at hk
    refine aB (aA (aC (b:=c) (o:=0) hs rfl ?_))
    refine zD (t:=t) (ways:=C.ways.toNat) (n:=C.bJ.toNat) (S:=s.S) (kK hC).1 hb hs fun h hs=>aG rfl (aG rfl (bN hs ?_))
    intro p h hs
    refine aZ hs rfl rfl rfl rfl ?_
    intro h hs
    have hsT:Hs G h (aE c 0 (iQ t C core s)::gG G t C.ways.toNat C.bJ.toNat s.S::aE p 0 (bU C.bJ.toNat s.S l).1.enc::L'):=hs.to
    have drop3:∀{a' c' h'} {X:List Value} {n:Nat} {s':jF},Hs G h' (dB 9 175 a' c' (n,X)::fO G c C core s'::aE p 0 (bU C.bJ.toNat s.S l).1.enc::L')→Hs G h' (dB 9 175 a' c' (n,X)::fO G c C core s'::L'):=fun hs=>hs.to
    refine bH (aR (fun h4=>?_) (fun h4=>?_))
    ·refine aQ (b:=p) (o:=0) hs (by decide) (l:=(bU C.bJ.toNat s.S l).1.enc) rfl rfl (Ml ho hs fun h hs=>cU (fun h5=>?_) (fun h5=>?_))
     ·simp only[if_pos (show(bU C.bJ.toNat s.S l).2=0∧qJ (bU C.bJ.toNat s.S l).1.st wr=true from⟨h4,h5⟩)] at hk
      exact hk none 0 h (gD (W:=9) (e:=175) (cG c t C core s hs rfl rfl).to)
     ·simp only[if_neg (show ¬((bU C.bJ.toNat s.S l).2=0∧qJ (bU C.bJ.toNat s.S l).1.st wr=true) from fun e=>by rw[h5] at e;exact absurd e.2 (by simp))] at hk
      refine bW (ka hC hb h0 ho (show Hs G h (aE c 0 (iQ t C core s)::gG G t C.ways.toNat C.bJ.toNat s.S::L') from hs.to) hk)
    ·simp only[if_neg (show ¬((bU C.bJ.toNat s.S l).2=0∧qJ (bU C.bJ.toNat s.S l).1.st wr=true) from fun e=>h4 e.1)] at hk
     exact ka hC hb h0 ho hsT fun a' c' h' hs=>hk a' c' h' (drop3 hs)
   refine aB (aA (aA (aC (b:=c) (o:=0) hs rfl (cU (fun h3=>?_) (fun h3=>?_)))))
   ·refine aB (aA (aA (aC (b:=c) (o:=0) hs rfl (bH (aR (fun h4=>?_) (fun h4=>bW (key (fun e=>h4 e.2))))))))
    simp only[if_pos (show s.Ft=true∧s.gl=l from⟨h3,h4⟩)] at hk
    exact hk none 0 h (gD (W:=9) (e:=175) (cG c t C core s hs rfl rfl))
   ·exact key (fun e=>by rw[h3] at e;exact absurd e.1 (by simp))
 ·simp only[h1,if_true] at hk
  exact hk none 0 h (gD (W:=9) (e:=175) hs)
end Go.Proofs.YtajjljbmfdboaaaGreatDoor.C
end
section
namespace Go.Proofs.YtajjljbmfdboaaaGreatDoor.C
open Go Go.Ab Go.Hm Go.Ct
set_option maxRecDepth 100000
variable {G:Bg} {h:AH} {L L' M:List HP} {C:bL} {core:Int} {c:Nat} {s:jF} {n:aJ}
theorem pQ {a:jF} {Q:Value→AH→Prop} {e:Int} {r:Tk} (hk:∀a' c' h',Hs G h' (dB 9 175 a' c' (r.2.1.length,eA r.2.1)::fO G c C core r.1::L)→Q (.tuple ⟨[.slice a' r.2.1.length c',I r.2.2]⟩) h') (hr:r=(a,[],e)) (hs:Hs G h (fO G c C core a::L)):Q (.tuple ⟨[.slice none 0 0,I e]⟩) h:=by
 subst hr
 exact hk none 0 h (gD (W:=9) (e:=175) hs)
theorem Hq {a:jF} {x:aJ} {p:Addr} {Q:Value→AH→Prop} {r:Tk} (hk:∀a' c' h',Hs G h' (dB 9 175 a' c' (r.2.1.length,eA r.2.1)::fO G c C core r.1::L)→Q (.tuple ⟨[.slice a' r.2.1.length c',I r.2.2]⟩) h') (hr:r=(a,[x],0)) (hs:Hs G h (dB 9 175 (some p) 1 (1,x.enc)::fO G c C core a::L)):Q (.tuple ⟨[.slice (some p) 1 1,I 0]⟩) h:=by
 subst hr
 refine hk (some p) 1 h ?_
 have e:eA [x]=x.enc:=by simp[eA]
 simp only[e,List.length_cons,List.length_nil,Nat.zero_add]
 exact hs
abbrev Xj (G:Bg) (c:Nat) (C:bL) (core:Int) (L:List HP) (Q:Value→AH→Prop) (r:Tk):Prop:=∀a' c' h',Hs G h' (dB 9 175 a' c' (r.2.1.length,eA r.2.1)::fO G c C core r.1::L)→Q (.tuple ⟨[.slice a' r.2.1.length c',I r.2.2]⟩) h'
theorem tn {Q:Value→AH→Prop} (hs:Hs G h (fO G c C core s::L)) (hk:Xj G c C core L Q (E6 s n)):Cl Pr K 299 [pt c 0 0,.agg ⟨n.enc⟩] h Q:=by
 obtain⟨t,hs⟩:=iP hs
 refine cW (dI hs ?_)
 intro p h hs
 refine aU hs ?_
 intro r h hs
 refine aB (aA (aA (aC (b:=c) (o:=0) hs rfl (bS (dQ (cU (fun h1=>?_) (fun h1=>?_)))))))
 ·refine aB (aA (aA (aC (b:=c) (o:=0) hs rfl (aA (aC (b:=p) (o:=0) hs rfl (aY (aR (fun h2=>?_) (fun h2=>?_))))))))
  ·exact pQ hk (a:=s) (e:=16) (by simp[E6,h1,h2]) (cG c t C core s hs rfl rfl).to
  ·refine bW (aH (c:=[I 0,.bool false,.bool false]) rfl (aB (aA (bI (b:=c) (o:=0) hs rfl rfl rfl rfl ?_))))
   intro h hs
   have h2:s.al=n.line:=by simpa using h2
   exact pQ hk (a:={s with al:=0,aw:=false,Qa:=false}) (e:=0) (by simp[E6,h1,h2]) (cG c t C core {s with al:=0,aw:=false,Qa:=false} hs rfl rfl).to
 ·exact pQ hk (a:=s) (e:=16) (by simp[E6,h1]) (cG c t C core s hs rfl rfl).to
theorem ar {Q:Value→AH→Prop} (hs:Hs G h (fO G c C core s::L)) (hk:Xj G c C core L Q (sF s n)):Cl Pr K 300 [pt c 0 0,.agg ⟨n.enc⟩] h Q:=by
 obtain⟨t,hs⟩:=iP hs
 refine cW (dI hs ?_)
 intro p h hs
 refine aU hs ?_
 intro r h hs
 refine aB (aA (aA (aC (b:=c) (o:=0) hs rfl (bS (dQ (cU (fun h1=>?_) (fun h1=>?_)))))))
 ·refine aB (aA (aA (aC (b:=c) (o:=0) hs rfl (aA (aC (b:=p) (o:=0) hs rfl (aY (aR (fun h2=>?_) (fun h2=>?_))))))))
  ·exact pQ hk (a:=s) (e:=12) (by simp[sF,h1,h2]) (cG c t C core s hs rfl rfl).to
  ·refine bW (aH (c:=[I 0,I 0,I 0,I 0,I 0,.bool false]) rfl (aB (aA (bI (b:=c) (o:=0) hs rfl rfl rfl rfl ?_))))
   intro h hs
   have h2:s.gl=n.line:=by simpa using h2
   exact pQ hk (a:={s with gl:=0,gc:=qA.zero,Ft:=false}) (e:=0) (by simp[sF,h1,h2]) (cG c t C core {s with gl:=0,gc:=qA.zero,Ft:=false} hs rfl rfl).to
 ·exact pQ hk (a:=s) (e:=12) (by simp[sF,h1]) (cG c t C core s hs rfl rfl).to
theorem tf {t p:Nat} {S:Nat→List Th} {Q:Value→AH→Prop} {r:Tk} (hs:Hs G h (aE p 0 n.enc::aE c 0 (iQ t C core s)::gG G t C.ways.toNat C.bJ.toNat S::L)) (hk:Xj G c C core L Q r) (hr:r=({s with S:=S,al:=0,aw:=false,Qa:=false},[⟨4,core,n.line,0,0,0,0,false,0⟩],0)):
  Dd 298 4 [] Q [(pt c 0 0),(pt p 0 0)] h:=by
 refine bW (aH (c:=[I 0,.bool false,.bool false]) rfl (aB (aA (bI (b:=c) (o:=0) hs rfl rfl rfl rfl ?_))))
 intro h hs
 refine aU hs ?_
 intro rr h hs
 refine aB (aA (aC (b:=c) (o:=0) hs rfl (aA (aC (b:=p) (o:=0) hs rfl ?_))))
 refine aH (c:=(⟨4,core,n.line,0,0,0,0,false,0⟩:aJ).enc) rfl (aH (c:=(⟨4,core,n.line,0,0,0,0,false,0⟩:aJ).enc) rfl ?_)
 refine iW (i:=7) (N:=10) (D:=[]) hs rfl rfl rfl rfl rfl ?_
 intro a h hs
 refine Hq hk (p:=a) hr ?_
 have hs:=cG c t C core {s with S:=S,al:=0,aw:=false,Qa:=false} hs rfl rfl
 exact hs.to
theorem B3 (hC:C.Ok) (hb:Bd s) {Q:Value→AH→Prop} (h0:0≤n.line) (hs:Hs G h (fO G c C core s::L)) (hk:Xj G c C core L Q (vO C core s n)):Cl Pr K 298 [pt c 0 0,.agg ⟨n.enc⟩] h Q:=by
 obtain⟨t,hs⟩:=iP hs
 refine cW (dI hs ?_)
 intro p h hs
 refine aU hs ?_
 intro r h hs
 refine aB (aA (aA (aC (b:=c) (o:=0) hs rfl (bS (dQ (cU (fun h1=>?_) (fun h1=>?_)))))))
 ·refine aB (aA (aA (aC (b:=c) (o:=0) hs rfl (aA (aC (b:=p) (o:=0) hs rfl (aY (aR (fun h2=>?_) (fun h2=>?_))))))))
  ·exact pQ hk (a:=s) (e:=16) (by simp[vO,h1,h2]) (cG c t C core s hs rfl rfl).to
  ·have h2:s.al=n.line:=by simpa using h2
   refine bW (aA (aC (b:=p) (o:=0) hs rfl (aA (aC (b:=p) (o:=0) hs rfl (aA (aQ (b:=p) (o:=0) hs (by decide) (l:=[I n.d0,I n.d1]) rfl rfl ?_))))))
   refine aH (c:=(⟨n.state,n.world,(n.d0,n.d1)⟩:qA).enc) rfl (bN hs ?_)
   intro p2 h hs
   refine aZ hs rfl rfl rfl rfl ?_
   intro h hs
   refine aU hs ?_
   intro r2 h hs
   refine aB (aA (aC (b:=c) (o:=0) hs rfl (aA (aC (b:=p) (o:=0) hs rfl ?_))))
   refine zD (t:=t) (ways:=C.ways.toNat) (n:=C.bJ.toNat) (S:=s.S) (kK hC).1 hb hs fun h hs=>aG rfl (aG rfl ?_)
   refine kC (i:=10) hs rfl rfl ?_
   intro p3 h hs
   refine aZ hs rfl rfl rfl rfl ?_
   intro h hs
   have fin:∀{c0:Bool} {h:AH},c0=true→Hs G h (aE p2 0 (lZ C s n).enc::aE p 0 n.enc::aE c 0 (iQ t C core s)::gG G t C.ways.toNat C.bJ.toNat s.S::L)→
     (Tx c0 h 9 fun r1 h0=>bA (mQ (pt c 0 0)) fun v2=>bA (gZ 0 v2) fun v3=>bA (pN h0 v3) fun v4=>bA (gZ 2 (pt p 0 0)) fun v5=>bA (pN h0 v5) fun v6=>bA (uC h0 4 (pt p2 0 0)) fun v7=>
      Cl Pr K 251 [v4,v6,v7] h0 fun v8 h8=>bA (uK .neq v8 (I 0)) fun v9=>Br v9 (Q (.tuple ⟨[(.slice none 0 0),v8]⟩) h8) (Dd 298 4 [] Q [(pt c 0 0),(pt p 0 0)] h8)):=by
    intro c0 h hc0 hs
    refine aU (hc:=hc0) hs ?_
    intro r3 h hs
    refine aB (aA (aC (b:=c) (o:=0) hs rfl (aA (aC (b:=p) (o:=0) hs rfl (aQ (b:=p2) (o:=0) hs (by decide) (l:=(lZ C s n).enc) rfl rfl ?_)))))
    refine xR (t:=t) (ways:=C.ways.toNat) (n:=C.bJ.toNat) (S:=s.S) h0 (kK hC).1 hb hs fun h hs=>?_
    refine aY (aR (fun h3=>?_) (fun h3=>?_))
    ·refine pQ hk (a:={s with S:=(mR C.bJ.toNat C.ways.toNat s.S n.line (lZ C s n)).1}) (by simp[vO,h1,h2,h3]) ?_
     exact(cG c t C core {s with S:=(mR C.bJ.toNat C.ways.toNat s.S n.line (lZ C s n)).1} (cs:=iQ t C core s) hs rfl rfl).to
    ·have h3:(mR C.bJ.toNat C.ways.toNat s.S n.line (lZ C s n)).2=0:=by simpa using h3
     exact tf (t:=t) (S:=(mR C.bJ.toNat C.ways.toNat s.S n.line (lZ C s n)).1) (s:=s) (n:=n) hs.to hk (by simp[vO,h1,h2,h3])
   refine cQ (aG rfl gC) (bH (aR (fun h3=>bW ?_) (fun h3=>bW (fin (by kernel_rfl) ?_))))
   ·refine aA (aQ (b:=p3) (o:=0) hs (by decide) (l:=[I (bU C.bJ.toNat s.S n.line).1.d.1,I (bU C.bJ.toNat s.S n.line).1.d.2]) rfl rfl (aA (bI (b:=p2) (o:=0) hs rfl rfl rfl rfl ?_)))
    intro h hs
    have e:lZ C s n=⟨n.state,n.world,(bU C.bJ.toNat s.S n.line).1.d⟩:=by simp[lZ,h3]
    have hs:=hs.sg (b:=p2) (o:=0) (c:=(lZ C s n).enc) (by rw[e];rfl)
    exact fin (by kernel_rfl) hs.to
   ·have e:lZ C s n=⟨n.state,n.world,(n.d0,n.d1)⟩:=by simp[lZ,h3]
    rw[e]
    exact hs.to
 ·exact pQ hk (a:=s) (e:=16) (by simp[vO,h1]) (cG c t C core s hs rfl rfl).to
end Go.Proofs.YtajjljbmfdboaaaGreatDoor.C
end
section
namespace Go.Proofs.YtajjljbmfdboaaaGreatDoor.C
open Go Go.Ab Go.Hm Go.Ct
set_option maxRecDepth 100000
variable {G:Bg} {h:AH} {L L' M:List HP} {C:bL} {core:Int} {c:Nat} {s:jF} {n:aJ}
theorem ve {t p q:Nat} {x:qA} {y:aJ} {Q:Value→AH→Prop} {r:Tk} (hs:Hs G h (aE p 0 y.enc::aE q 0 x.enc::aE c 0 (iQ t C core s)::gG G t C.ways.toNat C.bJ.toNat s.S::L)) (hk:Xj G c C core L Q r) (hr:r=({s with gc:=x},[y],0)):
  Dd 301 8 [] Q [(pt c 0 0),(pt p 0 0),(pt q 0 0)] h:=by
 refine bW (aQ (b:=q) (o:=0) hs (by decide) (l:=x.enc) rfl rfl (aB (aA (aA (bI (b:=c) (o:=0) hs rfl rfl rfl rfl ?_)))))
 intro h hs
 refine aQ (b:=p) (o:=0) hs (by decide) (l:=y.enc) rfl rfl (aH (c:=y.enc) rfl (dE (W:=9) (n:=1) (c:=1) hs rfl rfl rfl ?_))
 intro a h hs
 refine Hq hk (p:=a) hr ?_
 have hs:=cG c t C core {s with gc:=x} hs rfl rfl
 exact hs.to
theorem s5 (hC:C.Ok) (hb:Bd s) (h0:0≤n.line) {t p0 p q:Nat} {x:qA} {y:aJ} {Q:Value→AH→Prop} {r:Tk} (hs:Hs G h (aE p 0 y.enc::aE q 0 x.enc::aE p0 0 n.enc::aE c 0 (iQ t C core s)::gG G t C.ways.toNat C.bJ.toNat s.S::L)) (hk:Xj G c C core L Q r)
  (hr:r=({s with S:=if x.st=0 then kU C.bJ.toNat s.S n.line else(mR C.bJ.toNat C.ways.toNat s.S n.line x).1},[y],0)):
  Dd 301 9 [] Q [(pt c 0 0),(pt p0 0 0),(pt p 0 0),(pt q 0 0),(I x.st)] h:=by
 refine bW (bH (aR (fun h1=>bW (aU hs ?_)) (fun h1=>bW (aU hs ?_))))
 ·intro rr h hs
  simp only[if_pos h1] at hr
  refine aB (aA (aC (b:=c) (o:=0) hs rfl (aA (aC (b:=p0) (o:=0) hs rfl ?_))))
  refine Mt (t:=t) (ways:=C.ways.toNat) (n:=C.bJ.toNat) (S:=s.S) (kK hC).1 hb hs fun h hs=>?_
  refine aQ (b:=p) (o:=0) hs (by decide) (l:=y.enc) rfl rfl (aH (c:=y.enc) rfl (dE (W:=9) (n:=1) (c:=1) hs rfl rfl rfl ?_))
  intro a h hs
  refine Hq hk (p:=a) hr ?_
  have hs:=cG c t C core {s with S:=kU C.bJ.toNat s.S n.line} (cs:=iQ t C core s) hs rfl rfl
  exact hs.to
 ·intro rr h hs
  simp only[if_neg h1] at hr
  refine aB (aA (aC (b:=c) (o:=0) hs rfl (aA (aC (b:=p0) (o:=0) hs rfl (aQ (b:=q) (o:=0) hs (by decide) (l:=x.enc) rfl rfl ?_)))))
  refine xR (t:=t) (ways:=C.ways.toNat) (n:=C.bJ.toNat) (S:=s.S) h0 (kK hC).1 hb hs fun h hs=>?_
  refine aQ (b:=p) (o:=0) hs (by decide) (l:=y.enc) rfl rfl (aH (c:=y.enc) rfl (dE (W:=9) (n:=1) (c:=1) hs rfl rfl rfl ?_))
  intro a h hs
  refine Hq hk (p:=a) hr ?_
  have hs:=cG c t C core {s with S:=(mR C.bJ.toNat C.ways.toNat s.S n.line x).1} (cs:=iQ t C core s) hs rfl rfl
  exact hs.to
theorem Xk (hC:C.Ok) (hb:Bd s) (h0:0≤n.line) {there:Bool} {t p0 p q:Nat} {x:qA} {Q:Value→AH→Prop} {r:Tk} (hs:Hs G h (aE p 0 (Kd core n).enc::aE q 0 x.enc::aE p0 0 n.enc::aE c 0 (iQ t C core s)::gG G t C.ways.toNat C.bJ.toNat s.S::L)) (hk:Xj G c C core L Q r)
  (hr:r=if there then({s with S:=if lR x.st n.state=0 then kU C.bJ.toNat s.S n.line else(mR C.bJ.toNat C.ways.toNat s.S n.line {x with st:=lR x.st n.state}).1},[mB core n x],0) else({s with gc:={x with st:=lR x.st n.state}},[mB core n x],0)):
  Dd 301 5 [] Q [(pt c 0 0),(pt p0 0 0),(pt p 0 0),(pt q 0 0),(.bool there),(I (lR x.st n.state)),(.bool (Ej x.st)),(.bool (lB x.st))] h:=by
 have fin:∀{h:AH},Hs G h (aE p 0 (mB core n x).enc::aE q 0 ({x with st:=lR x.st n.state}:qA).enc::aE p0 0 n.enc::aE c 0 (iQ t C core s)::gG G t C.ways.toNat C.bJ.toNat s.S::L)→
   (bA (Yi .not (.bool there)) fun v8=>Br v8 (Dd 301 8 [] Q [(pt c 0 0),(pt p 0 0),(pt q 0 0)] h) (Dd 301 9 [] Q [(pt c 0 0),(pt p0 0 0),(pt p 0 0),(pt q 0 0),(I (lR x.st n.state))] h)):=by
  intro h hs
  cases there
  ·simp only[Bool.false_eq_true,if_false] at hr
   exact bS (eQ (ve (t:=t) (x:={x with st:=lR x.st n.state}) (y:=mB core n x) (s:=s) hs.to hk hr))
  ·simp only[if_true] at hr
   exact bS (bV (s5 hC hb h0 (t:=t) (x:={x with st:=lR x.st n.state}) (y:=mB core n x) (s:=s) hs hk hr))
 refine bW (aA (bI (b:=p) (o:=0) hs rfl rfl rfl rfl ?_))
 intro h hs
 refine cU (fun h1=>bW ?_) (fun h1=>bW ?_)
 ·refine aA (aQ (b:=q) (o:=0) hs (by decide) (l:=[I x.d.1,I x.d.2]) rfl rfl (aA (bI (b:=p) (o:=0) hs rfl rfl rfl rfl ?_)))
  intro h hs
  refine aA (bI (b:=p) (o:=0) hs rfl rfl rfl rfl ?_)
  intro h hs
  refine aA (bI (b:=q) (o:=0) hs rfl rfl rfl rfl ?_)
  intro h hs
  have e:mB core n x=⟨5,core,n.line,0,lR x.st n.state,x.d.1,x.d.2,lB x.st,0⟩:=by simp[mB,h1]
  have hs:=hs.sg (b:=p) (o:=0) (c:=(mB core n x).enc) (by rw[e];rfl)
  have hs:=hs.sg (b:=q) (o:=0) (c:=({x with st:=lR x.st n.state}:qA).enc) rfl
  exact fin hs.to
 ·refine aA (bI (b:=q) (o:=0) hs rfl rfl rfl rfl ?_)
  intro h hs
  have e:mB core n x=⟨5,core,n.line,0,lR x.st n.state,0,0,false,0⟩:=by simp[mB,h1]
  have hs:=hs.sg (b:=p) (o:=0) (c:=(mB core n x).enc) (by rw[e];rfl)
  have hs:=hs.sg (b:=q) (o:=0) (c:=({x with st:=lR x.st n.state}:qA).enc) rfl
  exact fin hs.to
end Go.Proofs.YtajjljbmfdboaaaGreatDoor.C
end
section
namespace Go.Proofs.YtajjljbmfdboaaaGreatDoor.C
open Go Go.Ab Go.Hm Go.Ct
set_option maxRecDepth 100000
variable {G:Bg} {h:AH} {L L' M:List HP} {C:bL} {core:Int} {c:Nat} {s:jF} {n:aJ}
theorem vp (hC:C.Ok) (hb:Bd s) (hst:Sts C.bJ.toNat s) (hn:n.state=0∨n.state=1) (h0:0≤n.line) {t p0 p q:Nat} {x:qA} {Q:Value→AH→Prop} (ho:Ob G 3 hM)
  (hs:Hs G h (aE p 0 (Kd core n).enc::aE q 0 x.enc::aE p0 0 n.enc::aE c 0 (iQ t C core s)::gG G t C.ways.toNat C.bJ.toNat s.S::L)) (hp:(bU C.bJ.toNat s.S n.line).2≠0) (hk:Xj G c C core L Q (oF C core s n)):
  Dd 301 2 [] Q [(pt c 0 0),(pt p0 0 0),(pt p 0 0),(pt q 0 0),(.bool false)] h:=by
 have hns:¬(n.state≠1∧n.state≠0):=by omega
 refine bW (aU hs ?_)
 intro rr h hs
 have none':s.Ft=false∨s.gl≠n.line→(bA (uC h 9 (pt p 0 0)) fun v7=>bA (nI [(I 0),(I 0),(I 0),(I 0),(I 0),(I 0),(I 0),(.bool false),(I 0)] [(0,9,v7)]) fun l9=>xW h 9 175 l9 1 1 fun s10 h8=>Q (.tuple ⟨[s10,(I 0)]⟩) h8):=by
  intro hc
  refine aQ (b:=p) (o:=0) hs (by decide) (l:=(Kd core n).enc) rfl rfl (aH (c:=(Kd core n).enc) rfl (dE (W:=9) (n:=1) (c:=1) hs rfl rfl rfl ?_))
  intro a h hs
  refine Hq hk (p:=a) (a:=s) (x:=Kd core n) ?_ ?_
  ·rcases hc with hc|hc
   ·simp[oF,hns,hp,hc,Kd]
   ·by_cases hg:s.Ft=false
    ·simp[oF,hns,hp,hg,Kd]
    ·simp only[oF,if_neg hns,if_neg hp,if_neg hg,if_pos hc,Kd]
  ·have hs:=cG c t C core s hs rfl rfl
   exact hs.to
 refine aB (aA (aA (aC (b:=c) (o:=0) hs rfl (bS (dQ (cU (fun h1=>?_) (fun h1=>none' (.inl h1))))))))
 refine aB (aA (aA (aC (b:=c) (o:=0) hs rfl (aA (aC (b:=p0) (o:=0) hs rfl (aY (aR (fun h2=>none' (.inr h2)) (fun h2=>bW ?_))))))))
 have h2:s.gl=n.line:=by simpa using h2
 refine aB (aA (aA (aQ (b:=c) (o:=0) hs (by decide) (l:=s.gc.enc) rfl rfl (aZ (b:=q) (o:=0) hs rfl rfl rfl rfl ?_))))
 intro h hs
 refine aA (aC (b:=q) (o:=0) hs rfl (aA (aC (b:=p0) (o:=0) hs rfl (Ku ho hs (hst.back h1) hn (aG rfl (aG rfl (aG rfl (aG rfl (aY (aK (by omega) ?_))))))))))
 refine Xk hC hb h0 (there:=false) (t:=t) (x:=s.gc) (s:=s) (n:=n) (core:=core) (L:=L) hs.to hk ?_
 have hg:¬s.Ft=false:=by rw[h1];simp
 simp only[oF,if_neg hns,if_neg hp,if_neg hg,if_neg (show ¬s.gl≠n.line from fun e=>e h2),Bool.false_eq_true,if_false]
theorem tq (hC:C.Ok) (hb:Bd s) (hst:Sts C.bJ.toNat s) (hn:n.state=0∨n.state=1) (h0:0≤n.line) {t p0 p q:Nat} {Q:Value→AH→Prop} (ho:Ob G 3 hM)
  (hs:Hs G h (aE p 0 (Kd core n).enc::aE q 0 (bU C.bJ.toNat s.S n.line).1.enc::aE p0 0 n.enc::aE c 0 (iQ t C core s)::gG G t C.ways.toNat C.bJ.toNat s.S::L)) (hp:(bU C.bJ.toNat s.S n.line).2=0) (hk:Xj G c C core L Q (oF C core s n)):
  Dd 301 3 [] Q [(pt c 0 0),(pt p0 0 0),(pt p 0 0),(pt q 0 0),(.bool true)] h:=by
 have hns:¬(n.state≠1∧n.state≠0):=by omega
 refine bW (aA (aC (b:=q) (o:=0) hs rfl (aA (aC (b:=p0) (o:=0) hs rfl (Ku ho hs (hst.aA5 _ hp) hn (aG rfl (aG rfl (aG rfl (aG rfl (aY (aK (by omega) ?_)))))))))))
 refine Xk hC hb h0 (there:=true) (t:=t) (x:=(bU C.bJ.toNat s.S n.line).1) (s:=s) (n:=n) (core:=core) (L:=L) hs hk ?_
 simp only[oF,if_neg hns,if_pos hp,if_true]
theorem C8 (hC:C.Ok) (hb:Bd s) (hst:Sts C.bJ.toNat s) (h0:0≤n.line) {Q:Value→AH→Prop} (ho:Ob G 3 hM) (hs:Hs G h (fO G c C core s::L)) (hk:Xj G c C core L Q (oF C core s n)):Cl Pr K 301 [pt c 0 0,.agg ⟨n.enc⟩] h Q:=by
 obtain⟨t,hs⟩:=iP hs
 refine cW (dI hs ?_)
 intro p0 h hs
 refine aA (aC (b:=p0) (o:=0) hs rfl (aY (aR (fun h1=>aA (aC (b:=p0) (o:=0) hs rfl (aY (aR (fun h2=>?_) (fun h2=>bW ?_))))) (fun h1=>?_))))
 ·exact pQ hk (a:=s) (e:=10) (by simp only[oF];rw[if_pos ⟨by omega,by omega⟩]) (cG c t C core s hs rfl rfl).to
 all_goals
  have hn:n.state=0∨n.state=1:=by omega
  refine aU hs ?_
  intro rr h hs
  refine aB (aA (aC (b:=c) (o:=0) hs rfl (aA (aC (b:=p0) (o:=0) hs rfl (aH (c:=(Kd core n).enc) rfl ?_)))))
  refine kC (i:=7) hs rfl rfl ?_
  intro p h hs
  refine aZ hs rfl rfl rfl rfl ?_
  intro h hs
  refine aU hs ?_
  intro r2 h hs
  refine aB (aA (aC (b:=c) (o:=0) hs rfl (aA (aC (b:=p0) (o:=0) hs rfl ?_))))
  refine zD (t:=t) (ways:=C.ways.toNat) (n:=C.bJ.toNat) (S:=s.S) (kK hC).1 hb hs fun h hs=>aG rfl (aG rfl ?_)
  refine kC (i:=10) hs rfl rfl ?_
  intro q h hs
  refine aZ hs rfl rfl rfl rfl ?_
  intro h hs
  refine cQ (aG rfl gC) (bH (bS ?_))
  by_cases hp:(bU C.bJ.toNat s.S n.line).2=0
  ·rw[decide_eq_true hp]
   exact bV (tq hC hb hst hn h0 (t:=t) ho hs.to hp hk)
  ·rw[decide_eq_false hp]
   exact eQ (vp hC hb hst hn h0 (t:=t) (x:=(bU C.bJ.toNat s.S n.line).1) ho hs.to hp hk)
end Go.Proofs.YtajjljbmfdboaaaGreatDoor.C
end
section
namespace Go.Proofs.YtajjljbmfdboaaaGreatDoor.C
open Go Go.Ab Go.Hm Go.Ct
def tL (k:Int) (f:FuncId):List Value:=[I k,.func (.func f) #[] #[]]
def Hi:List Value:=tL 8 298++tL 9 299++tL 10 300++tL 11 301
set_option maxRecDepth 100000
variable {G:Bg} {h:AH} {L L' M:List HP} {C:bL} {core:Int} {c:Nat} {s:jF} {n:aJ}
theorem wk (hC:C.Ok) {p q:Nat} {k:Int} {f:FuncId} {Q:Value→AH→Prop} {r:Tk} (hl:Ob G 0 fB) (hs:Hs G h (aE q 0 (tL k f)::aE p 0 n.enc::fO G c C core s::L))
  (hcl:fN Pr f=true) (hr:wU C n.line=false→r=(s,[],10)) (hf:wU C n.line=true→∀h L,Hs G h (fO G c C core s::L)→∀Q,Xj G c C core L Q r→Cl Pr K f [pt c 0 0,.agg ⟨n.enc⟩] h Q) (hk:Xj G c C core L Q r):
  Dd 202 5 [] Q [(pt c 0 0),(pt p 0 0),(pt q 0 0)] h:=by
 refine bW (aA (aC (b:=p) (o:=0) hs rfl (tB (c:=c) (core:=core) (s:=s) hC hl hs fun h hs=>bS (dQ (cU (fun h1=>?_) (fun h1=>?_))))))
 ·refine aA (aC (b:=q) (o:=0) hs rfl (aQ (b:=p) (o:=0) hs (by decide) (l:=n.enc) rfl rfl ?_))
  refine nA hcl (hf h1 h (aE q 0 (tL k f)::aE p 0 n.enc::L) hs.to _ fun a' c' h' hs=>aG rfl (aG rfl (hk a' c' h' hs.to)))
 ·exact pQ hk (a:=s) (e:=10) (hr h1) hs.to
theorem Bz (hC:C.Ok) (hb:Bd s) (hst:Sts C.bJ.toNat s) {Q:Value→AH→Prop} (hl:Ob G 0 fB) (ho:Ob G 3 hM) (hs:Hs G h L) [m:Has (fO G c C core) L s L'] (hk:Xj G c C core L' Q (hU C core s n)):
  Cl Pr K 202 [pt c 0 0,.agg ⟨n.enc⟩] h Q:=by
 have hs:=m.of hs
 refine cW (dI hs ?_)
 intro p h hs
 refine cN (bV (bW (cW ?_)))
 refine aH (c:=tL 8 298) rfl (aH (c:=tL 9 299) rfl (aH (c:=tL 10 300) rfl (aH (c:=tL 11 301) rfl (aH (c:=Hi) rfl ?_))))
 refine dE (W:=2) (n:=4) (c:=4) hs rfl rfl rfl ?_
 intro a h hs
 obtain⟨b,o,ha,hs⟩:=hs.fM (by decide)
 cases ha
 refine bZ ?_
 have h0:wU C n.line=true→0≤n.line:=fun e=>(of_decide_eq_true e).1
 have step:∀(i:Nat) (hi:i<4) (k:Int) (f:FuncId) (h:AH) (M:List HP),(Hi.drop (i*2)).take 2=tL k f→fN Pr f=true→Hs G h (aE b o Hi::aE p 0 n.enc::fO G c C core s::L')→
   (n.kind=k→((wU C n.line=false→hU C core s n=(s,[],10))∧(wU C n.line=true→∀h L,Hs G h (fO G c C core s::L)→∀Q,Xj G c C core L Q (hU C core s n)→Cl Pr K f [pt c 0 0,.agg ⟨n.enc⟩] h Q)))→
   (n.kind≠k→∀h,Hs G h (aE b o Hi::aE p 0 n.enc::fO G c C core s::L')→Dd 202 2 [] Q [(pt c 0 0),(pt p 0 0),(.slice (some ⟨b,o,none⟩) 4 4),(I 4),(I ((i+1:Nat):Int))] h)→
   Dd 202 2 [] Q [(pt c 0 0),(pt p 0 0),(.slice (some ⟨b,o,none⟩) 4 4),(I 4),(I (i:Int))] h:=by
  intro i hi k f h M hc hcl hs hyes hno
  refine bW (aN (bP (by omega) (bW (dK hi (Hh (b:=b) (o:=o) hs (by decide) (l:=tL k f) (by rw[Nat.add_zero];exact hc) rfl (bN hs ?_))))))
  intro q h hs
  refine aZ hs rfl rfl rfl rfl ?_
  intro h hs
  refine aA (aC (b:=q) (o:=0) hs rfl (aA (aC (b:=p) (o:=0) hs rfl (aY (aR (fun h1=>bW (bE (by omega) ?_)) (fun h1=>?_))))))
  ·have:=hno (fun e=>h1 e.symm) h hs.to
   show Dd _ _ _ _ _ _
   simpa using this
  ·have h1:n.kind=k:=by
    have:k=n.kind:=by simpa using h1
    exact this.symm
   exact wk (k:=k) (f:=f) (s:=s) (n:=n) hC hl (show Hs G h (aE q 0 (tL k f)::aE p 0 n.enc::fO G c C core s::L') from hs.to) hcl (hyes h1).1 (hyes h1).2 hk
 have hs:Hs G h (aE b o Hi::aE p 0 n.enc::fO G c C core s::L'):=hs.to
 refine step 0 (by decide) 8 298 h [] rfl (by kernel_rfl) hs (fun e=>⟨fun e2=>by simp[hU,e,e2],fun e2 h L hs Q hk=>B3 hC hb (h0 e2) hs (by simpa [hU,e,e2] using hk)⟩) fun e1 h hs=>?_
 refine step 1 (by decide) 9 299 h [] rfl (by kernel_rfl) hs (fun e=>⟨fun e2=>by simp[hU,e,e2],fun e2 h L hs Q hk=>tn hs (by simpa [hU,e,e2] using hk)⟩) fun e3 h hs=>?_
 refine step 2 (by decide) 10 300 h [] rfl (by kernel_rfl) hs (fun e=>⟨fun e2=>by simp[hU,e,e2],fun e2 h L hs Q hk=>ar hs (by simpa [hU,e,e2] using hk)⟩) fun e4 h hs=>?_
 refine step 3 (by decide) 11 301 h [] rfl (by kernel_rfl) hs (fun e=>⟨fun e2=>by simp[hU,e,e2],fun e2 h L hs Q hk=>C8 hC hb hst (h0 e2) ho hs (by simpa [hU,e,e2] using hk)⟩) fun e5 h hs=>?_
 refine bW (aN (aK (by omega) ?_))
 exact pQ hk (a:=s) (e:=15) (by simp[hU,e1,e3,e4,e5]) hs.to
theorem j6 {Q:Value→AH→Prop} (hs:Hs G h L) [m:Has (fO G c C core) L s L'] (hk:∀h',Hs G h' (fO G c C core s::L')→Q (.tuple ⟨[I s.al,.bool s.aw,.bool s.Qa]⟩) h'):Cl Pr K 61 [pt c 0 0] h Q:=by
 obtain⟨t,hs⟩:=iP (m.of hs)
 refine cW (cN (bV (aU hs ?_)))
 intro rr h hs
 refine(aB (aA (aA (aC (b:=c) (o:=0) hs rfl (aB (aA (aA (aC (b:=c) (o:=0) hs rfl (aB (aA (aA (aC (b:=c) (o:=0) hs rfl ?_))))))))))))
 exact hk _ (cG c t C core s hs rfl rfl).to
theorem Yk (hC:C.Ok) (hb:Bd s) {Q:Value→AH→Prop} (hs:Hs G h L) [m:Has (fO G c C core) L s L'] (hk:∀d h',Hs G h' (fO G d C core s::fO G c C core s::L')→Q (pt d 0 0) h'):Cl Pr K 80 [pt c 0 0] h Q:=by
 obtain⟨t,hs⟩:=iP (m.of hs)
 refine cW (cN (bV (bW (aB (aQ (b:=c) (o:=0) hs (by decide) (l:=iQ t C core s) rfl rfl (bN hs ?_))))))
 intro d h hs
 refine aZ hs rfl rfl rfl rfl ?_
 intro h hs
 refine aB (aA (aC (b:=c) (o:=0) hs rfl (s9 (t:=t) (ways:=C.ways.toNat) (n:=C.bJ.toNat) (S:=s.S) (kK hC).1 (kK hC).2.1 hb hs fun t2 h hs=>?_)))
 refine aA (bI (b:=d) (o:=0) hs rfl rfl rfl rfl ?_)
 intro h hs
 have hs:=hs.sg (b:=d) (o:=0) (c:=iQ t2 C core s) rfl
 have hs:=cG d t2 C core s hs rfl rfl
 have hs:=cG c t C core s hs rfl rfl
 exact hk d h hs.to
theorem Oc (hC:C.Ok) (hcore:0≤core∧core<C.aF) {Q:Value→AH→Prop} (hl:Ob G 0 fB) (hs:Hs G h L) (hk:∀c h',Hs G h' (fO G c C core jF.new::L)→Q (.tuple ⟨[pt c 0 0,I 0]⟩) h'):Cl Pr K 83 [.agg ⟨C.enc⟩,I core] h Q:=by
 refine cW (dI hs ?_)
 intro p h hs
 refine aQ (b:=p) (o:=0) hs (by decide) (l:=C.enc) rfl rfl (lK hl hs fun h hs=>?_)
 have h1:=hC
 unfold bL.Ok at h1
 rw[if_pos hC]
 refine aY (aK (by omega) (bW (aN (aK (by omega) (aA (aC (b:=p) (o:=0) hs rfl (dR (aK (by omega) (bW ?_)))))))))
 refine aA (aC (b:=p) (o:=0) hs rfl (aA (aC (b:=p) (o:=0) hs rfl (Qo (by omega) (by omega) hs fun t h hs=>aG rfl (aG rfl (aY (aK (by omega) ?_)))))))
 refine aQ (b:=p) (o:=0) hs (by decide) (l:=C.enc) rfl rfl (aH (c:=iQ t C core jF.new) rfl (dI hs ?_))
 intro q h hs
 have hs:=cG q t C core jF.new hs rfl rfl
 exact hk q h hs.to
end Go.Proofs.YtajjljbmfdboaaaGreatDoor.C
end
section
namespace Go.Proofs.YtajjljbmfdboaaaGreatDoor.C
open Go Go.Ab Go.Hm Go.Ct
set_option maxRecDepth 100000
variable {G:Bg} {h:AH} {L L' M:List HP} {C:bL} {core:Int} {c:Nat} {s:jF} {n:aJ}
theorem ki (hC:C.Ok) (hgd:mJ C s) {l at' ow:Int} (h1:pX C s.S l at' ow false=0) {Q:Value→AH→Prop} (hl:Ob G 0 fB) (ho:Ob G 3 hM) (hs:Hs G h L) [m:Has (fO G c C core) L s L'] (hk:∀h',Hs G h' (fO G c C core (sQ C s l at' ow)::L')→Q (.tuple ⟨[I (Mc.Oy C s l at'),I 0]⟩) h'):Cl Pr K 197 [pt c 0 0,I l,I at',I ow] h Q:=by
 have hs:=m.of hs
 have hb:Bd s:=hgd.bd (kK hC).2.2.2
 unfold sQ at hk
 refine cW (Bt (c:=c) (core:=core) (s:=s) hC hb hl ho hs fun h hs=>aY (aK (by omega) ?_))
 rw[if_pos h1] at hk
 obtain⟨hl1,ha,hp,_⟩:=Hv h1
 have hge:=Qt hgd.bJ hp
 obtain⟨t,hs⟩:=iP hs
 refine bW (aB (aA (aC (b:=c) (o:=0) hs rfl (Du (t:=t) (ways:=C.ways.toNat) (n:=C.bJ.toNat) (S:=s.S) hl1.1 (kK hC).1 hb hs fun h hs=>aG rfl (aG rfl (bN hs ?_))))))
 intro p h hs
 refine aZ hs rfl rfl rfl rfl ?_
 intro h hs
 have hs2:=fun {h:AH} hs=>(cG c t C core {s with S:=Et C.bJ.toNat C.ways.toNat s.S l} (G:=G) (h:=h) (L:=aE p 0 (bU C.bJ.toNat s.S l).1.enc::gG G t C.ways.toNat C.bJ.toNat (Et C.bJ.toNat C.ways.toNat s.S l)::aE c 0 (iQ t C core s)::L') hs rfl rfl)
 refine aY (aK (by omega) (aA ?_))
 rcases ha with rfl|rfl
 ·exact eZ (by decide) (by decide) (aC (b:=p) (o:=0) hs rfl (hk _ (hs2 hs).to))
 ·exact eZ (by decide) (by decide) (aC (b:=p) (o:=0) hs rfl (hk _ (hs2 hs).to))
theorem eu (hC:C.Ok) (hgd:mJ C s) {l at' ow v:Int} (h1:pX C s.S l at' ow true=0) {Q:Value→AH→Prop} (hl:Ob G 0 fB) (ho:Ob G 3 hM) (hs:Hs G h L) [m:Has (fO G c C core) L s L'] (hk:∀h',Hs G h' (fO G c C core (mA C s l at' ow v)::L')→Q (I 0) h'):Cl Pr K 198 [pt c 0 0,I l,I at',I ow,I v] h Q:=by
 have hs:=m.of hs
 have hb:Bd s:=hgd.bd (kK hC).2.2.2
 unfold mA at hk
 refine cW (Bt (c:=c) (core:=core) (s:=s) hC hb hl ho hs fun h hs=>aY (aK (by omega) ?_))
 ·rw[if_pos h1] at hk
  obtain⟨hl1,ha,hp,hst⟩:=Hv h1
  have hst:vJ (bU C.bJ.toNat s.S l).1.st=true:=hst
  obtain⟨t,hs⟩:=iP hs
  refine bW (aB (aA (aC (b:=c) (o:=0) hs rfl ?_)))
  refine zD (t:=t) (ways:=C.ways.toNat) (n:=C.bJ.toNat) (S:=s.S) (kK hC).1 hb hs fun h hs=>aG rfl (aG rfl (bN hs ?_))
  intro p h hs
  refine aZ hs rfl rfl rfl rfl ?_
  intro h hs
  refine aY (aK (by omega) (bW (aA (aC (b:=p) (o:=0) hs rfl (Sq ho hs hst (aG rfl (aG rfl (aA (bI (b:=p) (o:=0) hs rfl rfl rfl rfl ?_)))))))))
  intro h hs
  refine aY (aK (by omega) (bW (aA ?_)))
  have key:∀{c0:Bool} {h:AH},c0=true→Hs G h (aE p 0 (oM C.bJ.toNat s.S l at' v).enc::gG G t C.ways.toNat C.bJ.toNat s.S::aE c 0 (iQ t C core s)::L')→
    Tx c0 h 8 fun _ h3=>bA (mQ (pt c 0 0)) fun v5=>bA (gZ 0 v5) fun v6=>bA (pN h3 v6) fun v7=>bA (uC h3 4 (pt p 0 0)) fun v8=>Cl Pr K 251 [v7,I l,v8] h3 fun v9 h9=>Q v9 h9:=by
   intro c0 h hc0 hs
   refine aU (hc:=hc0) hs ?_
   intro r h hs
   refine aB (aA (aC (b:=c) (o:=0) hs rfl (aQ (b:=p) (o:=0) hs (by decide) (l:=(oM C.bJ.toNat s.S l at' v).enc) rfl rfl ?_)))
   refine xR (t:=t) (ways:=C.ways.toNat) (n:=C.bJ.toNat) (S:=s.S) hl1.1 (kK hC).1 hb hs fun h hs=>?_
   show Q _ _
   rw[se (x:=oM C.bJ.toNat s.S l at' v) hgd.bJ hp]
   exact hk _ (cG c t C core {s with S:=(mR C.bJ.toNat C.ways.toNat s.S l (oM C.bJ.toNat s.S l at' v)).1} (cs:=iQ t C core s) hs rfl rfl).to
  rcases ha with rfl|rfl
  ·refine eZ (by decide) (by decide) (bI (b:=p) (o:=0) hs rfl rfl rfl rfl ?_)
   intro h hs
   exact key (by kernel_rfl) ((hs.sg (b:=p) (o:=0) (c:=(oM C.bJ.toNat s.S l 0 v).enc) rfl).to)
  ·refine eZ (by decide) (by decide) (bI (b:=p) (o:=0) hs rfl rfl rfl rfl ?_)
   intro h hs
   exact key (by kernel_rfl) ((hs.sg (b:=p) (o:=0) (c:=(oM C.bJ.toNat s.S l 1 v).enc) rfl).to)
end Go.Proofs.YtajjljbmfdboaaaGreatDoor.C
end
end
section
namespace Go.Proofs.YtajjljbmfdboaaaGreatDoor.N
open Go Go.Ab Go.Hm Go.Nt
theorem nN {g n sz i:Nat} {k:Value→Prop} (hi:i<n) (hk:k (pt g (i*sz) 0)):bA (pF n sz (.pointer (some ⟨g,0,none⟩)) (I i)) k:=
 fQ (b:=g) (o:=0) (j:=0) hi (by simpa [pt] using hk)
set_option maxRecDepth 100000
attribute [local irreducible] bA Br pN uC uU Dp nH xW nQ Tx gZ mQ rE sP qX lA B8 uK Y9 dw Tv Sl dj Ty Ry U9 Yi lJ pF vW jB copyV jC wY ft Zd Iw lI P0 Wx en qE uG Be Dk Cl zV Xm uE sS lC gK cS cC
variable {G:Bg} {h:AH} {L L':List HP}
theorem yQ {k:Int} {Q:Value→AH→Prop} (hk:Q (.bool (decide (Nu k))) h):Cl Pr K 264 [I k] h Q:=by
 refine cW (dR (aR (fun h1=>aN ?_) (fun h1=>?_)))
 ·show Q _ _;rw[show decide (k<14)=decide (Nu k) from decide_eq_decide.2 (by unfold Nu;omega)];exact hk
 ·show Q _ _;rw[show false=decide (Nu k) from(decide_eq_false (by unfold Nu;omega)).symm];exact hk
theorem aEk {k:Int} (h:Nu k):∃n:Nat,k=(n:Int)∧1≤n∧n<14:=⟨k.toNat,by unfold Nu at h;omega,by unfold Nu at h;omega,by unfold Nu at h;omega⟩
theorem Yz {k:Int} {Q:Value→AH→Prop} (hkd:Ob G 2 uY) (hs:Hs G h L) (hk:Q (if Nu k then .tuple ⟨[I (K7 k.toNat),I 0]⟩ else .tuple ⟨[I 0,I 15]⟩) h):Cl Pr K 214 [I k] h Q:=by
 refine cW (yQ (bS (dQ (aR (fun h1=>?_) (fun h1=>?_)))))
 ·rw[if_pos h1] at hk
  obtain⟨n,rfl,hn1,hn⟩:=aEk h1
  refine nN hn (aA (xK hs hkd (o:=n*9) (j:=1) (V8 hn) hk))
 ·rw[if_neg h1] at hk;exact hk
theorem Du {n:aJ} {f:Int} (hf:1≤f∧f≤13) {Q:Value→AH→Prop} (hs:Hs G h L) (hk:∀h',Hs G h' L→Q (I (a7 n f)) h'):Cl Pr K 266 [.agg ⟨n.enc⟩,I f] h Q:=by
 refine cW (dI hs ?_)
 intro p h hs
 have hk:=hk h hs.tail
 rcases f13 hf with rfl|rfl|rfl|rfl|rfl|rfl|rfl|rfl|rfl|rfl|rfl|rfl|rfl
 all_goals
  repeat' first
   |refine bH ?_
   |refine bP (by decide) ?_
   |refine aK (by decide) ?_
   |refine bW ?_
   |refine bW ?_
   |refine bW ?_
   |refine bW ?_
   |refine bW ?_
   |refine bW ?_
   |refine bW ?_
   |refine bW ?_
   |refine bW ?_
   |refine bW ?_
   |refine bW ?_
   |refine bW ?_
   |refine aA ?_
   |refine eZ (by omega) (by omega) ?_
   |refine aC hs rfl ?_
 all_goals first|exact hk|skip
 refine cU (fun hb=>?_) (fun hb=>?_)
 ·unfold a7 at hk;show Q _ _;simpa [hb] using hk
 ·unfold a7 at hk;show Q _ _;simpa [hb] using hk
theorem aBj {p:Nat} {n:aJ} {f v:Int} (hf:1≤f∧f≤13) {Q:Value→AH→Prop} (hs:Hs G h (aE p 0 n.enc::L)) (hk:∀h',Hs G h' (aE p 0 (aBc n f v).enc::L)→Q (.tuple ⟨[]⟩) h'):Cl Pr K 268 [pt p 0 0,I f,I v] h Q:=by
 refine cW ?_
 rcases f13 hf with rfl|rfl|rfl|rfl|rfl|rfl|rfl|rfl|rfl|rfl|rfl|rfl|rfl
 all_goals
  repeat' first
   |refine bH ?_
   |refine aY ?_
   |refine bP (by decide) ?_
   |refine aK (by decide) ?_
   |refine bW ?_
   |refine bW ?_
   |refine bW ?_
   |refine bW ?_
   |refine bW ?_
   |refine bW ?_
   |refine bW ?_
   |refine bW ?_
   |refine bW ?_
   |refine bW ?_
   |refine bW ?_
   |refine aB ?_
   |refine aA ?_
   |refine eZ (by omega) (by omega) ?_
  refine bI hs rfl rfl rfl rfl ?_
  intro h hs
  exact hk h hs
theorem Gu {a b:Prop} [Decidable a] [Decidable b] {Q:Value→AH→Prop} (h1:a↔b) (hk:Q (.bool (decide b)) h):Q (.bool (decide a)) h:=by rwa [show decide a=decide b from decide_eq_decide.2 h1]
theorem V4 {b:Prop} [Decidable b] {Q:Value→AH→Prop} (h1:¬b) (hk:Q (.bool (decide b)) h):Q (.bool false) h:=by rwa [decide_eq_false h1] at hk
theorem Fq {b:Prop} [Decidable b] {Q:Value→AH→Prop} (h1:b) (hk:Q (.bool (decide b)) h):Q (.bool true) h:=by rwa [decide_eq_true h1] at hk
theorem Nh {C:bL} (hC:C.Ok) {f v:Int} (hf:1≤f∧f≤13) {Q:Value→AH→Prop} (hl:Ob G 0 fB) (hs:Hs G h L) (hk:∀h',Hs G h' L→Q (.bool (decide (m8 C f v))) h'):Cl Pr K 267 [.agg ⟨C.enc⟩,I f,I v] h Q:=by
 refine cW (dI hs ?_)
 intro p h hs
 have hk1:=hk h hs.tail
 unfold m8 at hk hk1
 rcases f13 hf with rfl|rfl|rfl|rfl|rfl|rfl|rfl|rfl|rfl|rfl|rfl|rfl|rfl
 all_goals
  repeat' first
   |refine bP (by decide) ?_
   |refine aK (by decide) ?_
   |refine bH ?_
   |refine bW ?_
   |refine bW ?_
   |refine bW ?_
   |refine bW ?_
   |refine bW ?_
   |refine bW ?_
   |refine bW ?_
   |refine bW ?_
   |refine bW ?_
   |refine bW ?_
   |refine bW ?_
 all_goals simp only[Int.reduceEq,if_true,if_false,or_true,or_self,or_false,decide_true] at hk hk1
 ·exact dR (aR (fun h1=>aA (aC hs rfl (aN (Gu (by omega) hk1)))) (fun h1=>V4 (by omega) hk1))
 ·exact dR (aR (fun h1=>aQ hs (by decide) (l:=C.enc) rfl rfl (mZ hC hl hs fun h hs=>aN (Gu (by omega) (hk h hs.tail)))) (fun h1=>V4 (by omega) hk1))
 ·exact dR (aR (fun h1=>xJ (Gu (by omega) hk1)) (fun h1=>V4 (by omega) hk1))
 ·exact dR (aR (fun h1=>xJ (Gu (by omega) hk1)) (fun h1=>V4 (by omega) hk1))
 ·exact dR (aR (fun h1=>xJ (Gu (by omega) hk1)) (fun h1=>V4 (by omega) hk1))
 ·exact(aR (fun h1=>Fq (by omega) hk1) (fun h1=>bH (aR (fun h2=>Fq (by omega) hk1) (fun h2=>bH (Gu (by omega) hk1)))))
 ·exact(aR (fun h1=>Fq (by omega) hk1) (fun h2=>bH (Gu (by omega) hk1)))
 ·exact hk1
 ·exact hk1
 ·exact(aR (fun h1=>Fq (by omega) hk1) (fun h2=>bH (Gu (by omega) hk1)))
 ·exact(aR (fun h1=>Fq (by omega) hk1) (fun h2=>bH (Gu (by omega) hk1)))
 ·exact dR (aR (fun h1=>aN (Gu (by omega) hk1)) (fun h1=>V4 (by omega) hk1))
 ·exact dR (aR (fun h1=>aA (aC hs rfl (aN (Gu (by omega) hk1)))) (fun h1=>V4 (by omega) hk1))
end Go.Proofs.YtajjljbmfdboaaaGreatDoor.N
end
section
namespace Go.Proofs.YtajjljbmfdboaaaGreatDoor.N
open Go Go.Ab Go.Hm Go.Nt
theorem neN {a n:aJ} {k:Value→Prop} (hk:k (.bool (decide (a≠n)))) {c0:Bool} (hc:c0=true:=by kernel_rfl):U9 c0 [0,0,0,0,0,0,0,1,0] .neq (.agg ⟨a.enc⟩) (.agg ⟨n.enc⟩) k:=by
 refine⟨hc,_,?_,hk⟩
 cases a;cases n
 simp[Ry,oY,T1,Tu,aJ.enc]
 rw[Bool.eq_iff_iff]
 simp
set_option maxRecDepth 100000
attribute [local irreducible] bA Br pN uC uU Dp nH xW nQ Tx gZ mQ rE sP qX lA B8 uK Y9 dw Tv Sl dj Ty Ry U9 Yi lJ pF vW jB copyV jC wY ft Zd Iw lI P0 Wx en qE uG Be Dk Cl zV Xm uE sS lC gK cS cC
variable {G:Bg} {h:AH} {L L':List HP}
theorem aAp {P:Program} {f:FuncId} {p:List Nat} {n l d:Nat} {e:Nat→Value} {st:LoopState} {pd:Option Code} {k:Option Code×AH→Prop} (hs:Hs G h L) [m:mI l L ⟨P,f,p,n,e,d,st,pd⟩ L'] (hst:st≠.busy) (hk:∀h',Hs G h' L'→k (pd,h')):bA (sS h l) k:=
 po (P:=P) (f:=f) (p:=p) (n:=n) (e:=e) (d:=d) (st:=st) (pd:=pd) (k:=fun a b=>k (a,b)) (show Hs G h (jY P f p n e d l (st,pd)::L') from m.of hs) hst hk
theorem at7 {l:List Int} {i:Nat} {k:Value→Prop} (hl:l.length=7) (hi:i<7) (hk:k (I (l.getD i 0))):bA (P0 7 1 (.agg ⟨l.map I⟩) (I i)) k:=
 Yf hi (by rw[List.getElem?_map,List.getElem?_eq_getElem (by omega),List.getD_eq_getElem?_getD,List.getElem?_eq_getElem (by omega)];rfl) hk
theorem Ze {k:Int} {Q:Value→AH→Prop} (hs:Hs G h L) (hk:∀p h',Hs G h' (aE p 0 [I k]::L)→Q (.func (.func 305) #[] #[pt p 0 0]) h'):Cl Pr K 265 [I k] h Q:=by
 refine cW (dI hs ?_)
 intro p h hs
 exact hk p h hs
theorem ni {p n:Nat} (hkd:Ob G 2 uY) (hn:n<14):gu Pr K G 305 [] [pt p 0 0] (aE p 0 [I n]) ((B2 n).map fun f=>[I f]):=by
 intro I' J y L h Q hs hy h1 h2
 refine cW (aC hs rfl (nN hn (aA (T2 hs hkd (l:=(ct n).map I) (Zi hn) (by rw[List.length_map,Yo hn]) (by rw[ch];omega) ?_))))
 have hl:=Yo hn
 have loop:∀(f i:Nat) (h:AH),i+f=7→Hs G h (aE p 0 [I n]::I' ((ws (ct n) f i).map fun f=>[I f])::L)→Dd 305 1 [] Q [y,(.agg ⟨(ct n).map I⟩),(I i)] h:=by
  intro f
  induction f with
  |zero=>
   intro i h hi hs
   exact bW (aN (aK (by omega) (h1 _ h hs)))
  |succ f ih=>
   intro i h hi hs
   unfold ws at hs
   refine bW (aN (bP (by omega) (bW (at7 hl (by omega) (bH (aR (fun h0=>?_) (fun h0=>?_)))))))
   ·rw[if_pos h0] at hs;exact h1 _ h hs
   ·rw[if_neg h0] at hs
    refine(hy _ _ h _ hs.kA).mono fun v h' hv=>?_
    rcases hv with⟨rfl,hs'⟩|⟨rfl,hs'⟩
    ·exact bS (bV (bW (bE (by omega) (ih (i+1) h' (by omega) hs'.kA))))
    ·exact bS (eQ (h2 _ h' hs'.kA))
 exact loop 7 0 h rfl hs
def ckC (C:bL) (n:aJ) (p2 p3 p5 p6 l d:Nat) (e:Nat→Value) (rest:List (List Value)) (fs:List Int) (a:aJ):List HP:=
 [uI (rest=fs.map fun f=>[I f]),uI (∀f∈fs,1≤f∧f≤13),uI (pL C n fs a=pL C n (B2 n.kind.toNat) (Cu n.kind)),jY Pr 213 (kD 1786) 41 e d l (.ready,none),aE p2 0 C.enc,aE p3 0 n.enc,aE p5 0 [.bool true],aE p6 0 a.enc]
def ckI (C:bL) (n:aJ) (p2 p3 p5 p6 l d:Nat) (e:Nat→Value) (rest:List (List Value)):HP:=rY fun x:List Int×aJ=>sp (ckC C n p2 p3 p5 p6 l d e rest x.1 x.2)
def ckJ (C:bL) (n:aJ) (p2 p3 p5 p6 l d:Nat) (e:Nat→Value):HP:=rY fun a:aJ=>sp [uI ((pL C n (B2 n.kind.toNat) (Cu n.kind)).1=false),jY Pr 213 (kD 1786) 41 e d l (.done,some (.exit 0)),aE p2 0 C.enc,aE p3 0 n.enc,aE p5 0 [.bool false],aE p6 0 a.enc]
theorem Ai {C:bL} {n:aJ} {p2 p3 p5 p6 l d:Nat} {e:Nat→Value} {rest:List (List Value)} {fs:List Int} {a:aJ} (h1:rest=fs.map fun f=>[I f]) (h2:∀f∈fs,1≤f∧f≤13) (h3:pL C n fs a=pL C n (B2 n.kind.toNat) (Cu n.kind))
  (hs:Hs G h (sp [jY Pr 213 (kD 1786) 41 e d l (.ready,none),aE p2 0 C.enc,aE p3 0 n.enc,aE p5 0 [.bool true],aE p6 0 a.enc]::L)):Hs G h (ckI C n p2 p3 p5 p6 l d e rest::L):=
 Hs.uH (A:=fun x:List Int×aJ=>sp (ckC C n p2 p3 p5 p6 l d e rest x.1 x.2)) (fs,a) (wK h1 (wK h2 (wK h3 hs)))
theorem xE {C:bL} {n:aJ} {p2 p3 p5 p6 l d:Nat} {e:Nat→Value} {rest:List (List Value)} (hs:Hs G h (ckI C n p2 p3 p5 p6 l d e rest::L)):∃fs a,(rest=fs.map fun f=>[I f])∧(∀f∈fs,1≤f∧f≤13)∧pL C n fs a=pL C n (B2 n.kind.toNat) (Cu n.kind)∧
  Hs G h (jY Pr 213 (kD 1786) 41 e d l (.ready,none)::aE p2 0 C.enc::aE p3 0 n.enc::aE p5 0 [.bool true]::aE p6 0 a.enc::L):=by
 obtain⟨⟨fs,a⟩,hs⟩:=Hs.zE hs
 obtain⟨h1,hs⟩:=fP hs
 obtain⟨h2,hs⟩:=fP hs
 obtain⟨h3,hs⟩:=fP hs
 exact⟨fs,a,h1,h2,h3,hs.unpack⟩
theorem z7 {C:bL} {n:aJ} {Q:Value→AH→Prop} (hkd:Ob G 2 uY) (hl:Ob G 0 fB) (hs:Hs G h L) (hk:∀h',Hs G h' L→Q (I (wQ C n)) h'):Cl Pr K 213 [.agg ⟨C.enc⟩,.agg ⟨n.enc⟩] h Q:=by
 unfold wQ at hk
 refine cW (dI hs ?_)
 intro p2 h hs
 refine dI hs ?_
 intro p3 h hs
 refine aA (aC hs rfl (yQ (bS (dQ (aR (fun h1=>bW ?_) (fun h1=>jI ?_))))))
 ·rw[if_pos h1] at hk
  refine aQ hs (by decide) (l:=C.enc) rfl rfl (lK hl hs fun h hs=>?_)
  by_cases hC:C.Ok
  ·rw[if_pos hC] at hk ⊢
   refine aY (aK (by omega) (bW (bN hs ?_)))
   intro p5 h hs
   refine aZ hs rfl rfl rfl rfl ?_
   intro h hs
   refine aA (aC hs rfl (aH (c:=(Cu n.kind).enc) rfl (bN hs ?_)))
   intro p6 h hs
   refine aZ hs rfl rfl rfl rfl ?_
   intro h hs
   obtain⟨m,hm,hm1,hm2⟩:=aEk h1
   refine aA (aC hs rfl ?_)
   rw[hm]
   refine Ze hs fun p h hs=>jX hs fun d h hs=>?_
   intro e he
   refine mG hs fun l h hs=>?_
   refine rT (by kernel_rfl) ?_
   have hin:=xr (k:=m) hm2
   have hst:Hs G h (aE p 0 [I m]::ckI C n p2 p3 p5 p6 l d e ((B2 m).map fun f=>[I f])::mk d ()::L):=by
    refine Hs.kA (Ai (fs:=B2 m) (a:=Cu n.kind) rfl hin (by rw[hm];rfl) ?_)
    exact hs.to
   clear hs
   refine ni hkd hm2 _ (ckJ C n p2 p3 p5 p6 l d e) _ _ h _ hst ?_ ?_ ?_
   ·intro x rest h M hs
    obtain⟨fs,a,h1,h2,h3,hq⟩:=xE hs
    clear hs
    cases fs with
    |nil=>cases h1
    |cons f fs=>
     simp only[List.map_cons,List.cons.injEq] at h1
     obtain⟨rfl,rfl⟩:=h1
     have hf:=h2 f List.mem_cons_self
     refine rW (rS hq) he ?_
     refine gU hq fun h hs=>?_
     refine aQ (b:=p3) (o:=0) hs (by decide) (l:=n.enc) rfl rfl (Du hf hs fun h hs=>?_)
     refine aQ (b:=p2) (o:=0) hs (by decide) (l:=C.enc) rfl rfl (Nh hC hf hl hs fun h hs=>bS (dQ (aR (fun hy=>?_) (fun hy=>?_))))
     ·refine aBj (p:=p6) (n:=a) hf (hs.front (aE p6 0 a.enc)) fun h hs=>iE hs fun h hs=>?_
      refine .inl ⟨rfl,Ai (fs:=fs) (a:=aBc a f (a7 n f)) rfl (fun g hg=>h2 g (List.mem_cons_of_mem _ hg)) ?_ hs.to⟩
      rw[←h3,pL,if_pos hy]
     ·refine aZ hs rfl rfl rfl rfl ?_
      intro h hs
      refine iE hs fun h hs=> .inr ⟨rfl,?_⟩
      refine Hs.uH (A:=fun a:aJ=>sp [uI ((pL C n (B2 n.kind.toNat) (Cu n.kind)).1=false),jY Pr 213 (kD 1786) 41 e d l (.done,some (.exit 0)),aE p2 0 C.enc,aE p3 0 n.enc,aE p5 0 [.bool false],aE p6 0 a.enc]) a (wK ?_ hs.to)
      rw[←h3,pL,if_neg hy]
   ·intro v h' hs
    obtain⟨fs,a,h1,h2,h3,hs⟩:=xE hs.kA
    cases fs with
    |cons f fs=>cases h1
    |nil=>
     rw[pL] at h3
     rw[←h3] at hk
     refine mE hs fun h' hs=>mC ?_
     refine aC hs rfl (bS ?_)
     refine(bV (aQ (b:=p6) (o:=0) hs (by decide) (l:=a.enc) rfl rfl (aQ (b:=p3) (o:=0) hs (by decide) (l:=n.enc) rfl rfl (neN (aR (fun hne=>?_) (fun hne=>?_))))))
     ·refine lN hs fun h' hs=>jI ?_
      have:=hk h' hs.to
      rwa [if_neg (fun e=>hne e.2)] at this
     ·refine lN hs fun h' hs=>jI ?_
      have:=hk h' hs.to
      rwa [if_pos ⟨rfl,by simpa using hne⟩] at this
   ·intro v h' hs
    obtain⟨a,hs⟩:=Hs.zE hs.kA
    obtain⟨h1,hs⟩:=fP hs
    have hs:=hs.unpack
    refine aAp hs (by decide) fun h' hs=>Hj rfl ?_
    refine aC hs rfl (bS ?_)
    refine(eQ (lN hs fun h' hs=>jI ?_))
    have:=hk h' hs.to
    rwa [if_neg (fun e=>by rw[h1] at e;cases e.1)] at this
  ·rw[if_neg hC] at hk ⊢
   refine aY (bP (by omega) (jI (hk h hs.to)))
 ·rw[if_neg h1] at hk
  exact hk h hs.to
end Go.Proofs.YtajjljbmfdboaaaGreatDoor.N
end
