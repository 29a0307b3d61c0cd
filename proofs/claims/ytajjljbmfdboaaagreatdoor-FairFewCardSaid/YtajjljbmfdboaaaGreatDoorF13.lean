/- A part of the proof. -/
import Derived.Test.YtajjljbmfdboaaaGreatDoorF12
import Derived.Test.YtajjljbmfdboaaaGreatDoorF10
import Derived.Test.YtajjljbmfdboaaaGreatDoorF11
import Derived.Test.YtajjljbmfdboaaaGreatDoorF9
section
open Go Go.Ab
attribute [local irreducible] bA Br pN uC uU Dp nH xW nQ Tx gZ mQ rE sP qX lA B8 uK Y9 dw Tv Sl dj Ty Ry U9 Yi lJ pF vW jB copyV jC wY ft Zd Iw lI P0 Wx en qE uG Be Dk Cl zV Xm uE sS lC gK cS cC
section
namespace Go.Proofs.YtajjljbmfdboaaaGreatDoor.H
open Go Go.Ab Go.Hm
set_option maxRecDepth 100000
variable {G:Bg} {h:AH} {L L':List HP}
theorem Vf {b o:Nat} {x:Int} {c':List Value} {a:Option Addr} {c:Nat} {v:Bool} {k:AH→Prop} (r:Row) (hs:Hs G h L) [m:Has (aE b o) L c' L'] (hc:c'=r.enc a c) (hx:0≤x∧x<4) (hk:∀h',Hs G h' (aE b o (({r with sh:=uJ r.sh x v}:Row).enc a c)::L')→k h'):bA (uU h 1 (pt b o (0+1+x.toNat*1)) (.bool v)) k:=by
 subst hc
 have:x=0∨x=1∨x=2∨x=3:=by omega
 rcases this with rfl|rfl|rfl|rfl
 all_goals
  refine bI hs rfl rfl rfl rfl ?_
  exact hk
theorem aA7 {b o:Nat} {x:Int} {c':List Value} {a:Option Addr} {c:Nat} {v:Bool} {k:AH→Prop} (r:Row) (hs:Hs G h L) [m:Has (aE b o) L c' L'] (hc:c'=r.enc a c) (hx:0≤x∧x<4) (hk:∀h',Hs G h' (aE b o (({r with asked:=uJ r.asked x v}:Row).enc a c)::L')→k h'):bA (uU h 1 (pt b o (0+17+x.toNat*1)) (.bool v)) k:=by
 subst hc
 have:x=0∨x=1∨x=2∨x=3:=by omega
 rcases this with rfl|rfl|rfl|rfl
 all_goals
  refine bI hs rfl rfl rfl rfl ?_
  exact hk
def jH (mb:Nat) (C:bL) (b o cap:Nat):List Value:=[pt mb 0 0,I C.aF,I C.bB,I C.bJ,I C.ways,I C.depth,I C.entries,I C.aI,.slice (some ⟨b,o,none⟩) C.lines cap]
structure HmA where
 mb:Nat
 b:Nat
 o:Nat
 cap:Nat
def aBu (G:Bg) (hb:Nat) (C:bL) (H:iJ) (x:HmA):List HP:=
 [aE hb 0 (jH x.mb C x.b x.o x.cap),eN G C.lines x.mb C (fun i=>(H i).2),hole G 25 247 (some ⟨x.b,x.o,none⟩) x.cap C.lines x.b x.o,dD C.lines fun i=>dX x.b (x.o+i*25) (H i).1]
def eY (G:Bg) (hb:Nat) (C:bL) (H:iJ):HP:=rY fun x:HmA=>sp (aBu G hb C H x)
def uQ (b o n:Nat) (H:iJ) (l:Nat):HP:=sp (((List.range n).erase l).map fun i=>dX b (o+i*25) (H i).1)
theorem lE {hb:Nat} {C:bL} {H:iJ} (hs:Hs G h (eY G hb C H::L)):∃mb b o cap,Hs G h (aE hb 0 (jH mb C b o cap)::eN G C.lines mb C (fun i=>(H i).2)::hole G 25 247 (some ⟨b,o,none⟩) cap C.lines b o::dD C.lines (fun i=>dX b (o+i*25) (H i).1)::L):=by
 obtain⟨⟨mb,b,o,cap⟩,hs⟩:=hs.zE
 exact⟨mb,b,o,cap,hs.unpack⟩
theorem Cp {hb l:Nat} {C:bL} {H:iJ} (hl:l<C.lines) (hs:Hs G h (eY G hb C H::L)):∃mb b o cap,Hs G h (dX b (o+l*25) (H l).1::aE hb 0 (jH mb C b o cap)::eN G C.lines mb C (fun i=>(H i).2)::hole G 25 247 (some ⟨b,o,none⟩) cap C.lines b o::uQ b o C.lines H l::L):=by
 obtain⟨mb,b,o,cap,hs⟩:=lE hs
 have hs:=(hs.front (dD C.lines fun i=>dX b (o+i*25) (H i).1)).kY l hl
 exact⟨mb,b,o,cap,(show Hs G h (dX b (o+l*25) (H l).1::uQ b o C.lines H l::_) from hs).to⟩
theorem qN {hb:Nat} {C:bL} {H:iJ} {mb b o cap:Nat} (hs:Hs G h (aE hb 0 (jH mb C b o cap)::eN G C.lines mb C (fun i=>(H i).2)::hole G 25 247 (some ⟨b,o,none⟩) cap C.lines b o::dD C.lines (fun i=>dX b (o+i*25) (H i).1)::L)):Hs G h (eY G hb C H::L):=
 Hs.uH (A:=fun x=>sp (aBu G hb C H x)) ⟨mb,b,o,cap⟩ (Hs.pack (A:=aBu G hb C H ⟨mb,b,o,cap⟩) hs)
theorem mem_of {H:iJ} {l:Nat} {x:qZ}:(fun i=>(bT H l x i).2)=bT (fun i=>(H i).2) l x.2:=by
 funext i;unfold bT;split<;>rfl
theorem eH {L1 L2 L3 L4 L5:List HP} (hb:Nat) (C:bL) (H:iJ) (l:Nat) (r:Row) (m:Ln) (mem:Nat→Ln) (mb b o cap:Nat) (hl:l<C.lines) (hm:mem=bT (fun i=>(H i).2) l m) (hs:Hs G h L) [k1:dP (dX b (o+l*25) r) L L1] [k2:dP (aE hb 0 (jH mb C b o cap)) L1 L2] [k3:dP (eN G C.lines mb C mem) L2 L3]
  [k4:dP (hole G 25 247 (some ⟨b,o,none⟩) cap C.lines b o) L3 L4] [k5:dP (uQ b o C.lines H l) L4 L5]:Hs G h (eY G hb C (bT H l (r,m))::L5):=by
 subst hm
 have hs:Hs G h (dX b (o+l*25) r::uQ b o C.lines H l::aE hb 0 (jH mb C b o cap)::eN G C.lines mb C (bT (fun i=>(H i).2) l m)::hole G 25 247 (some ⟨b,o,none⟩) cap C.lines b o::L5):=
  (hs.perm (k1.perm.trans ((k2.perm.trans ((k3.perm.trans ((k4.perm.trans (k5.perm.cons _)).cons _)).cons _)).cons _))).to
 have e0:(fun i=>dX b (o+i*25) (bT H l (r,m) i).1) l=dX b (o+l*25) r:=by simp only[gP]
 rw[←e0] at hs
 unfold uQ at hs
 have hs:=hs.oR (n:=C.lines) (i:=l) (fun i=>dX b (o+i*25) (H i).1) (fun i=>dX b (o+i*25) (bT H l (r,m) i).1) hl (fun j _ hne=>by simp only[yZ hne])
 rw[←mem_of (x:=(r,m))] at hs
 exact qN (mb:=mb) (b:=b) (o:=o) (cap:=cap) hs.to
theorem Ap {a:Addr} {n:aJ} {cs:List Value} (hc:cs=n.enc) (hs:Hs G h (dB 9 175 (some a) 1 (1,cs)::L)):Hs G h (eJ (.slice (some a) 1 1) [n]::L):=Ex rfl (by rw[hc];simp) hs
theorem oN (hs:Hs G h L):Hs G h (eJ (.slice none 0 0) []::L):=Ex rfl rfl (gD hs)
section
variable {b o p:Nat} {r:Row} {wa:Option Addr} {wc:Nat} {line:Int} {d:Ln} {Q:Value→AH→Prop}
theorem dZ (b o:Nat) (r:Row) (a:Option Addr) (c:Nat) {c':List Value} {n:Nat} {cs:List Value} {L1 L2:List HP} (hs:Hs G h L) [m:Has (aE b o) L c' L1] (hc:c'=r.enc a c) [m2:Has (dB 9 175 a c) L1 (n,cs) L2] (hn:n=r.waits.length) (hcs:cs=eA r.waits):Hs G h (dX b o r::L2):=by
 subst hc;subst hn;subst hcs
 exact iC r (hs.perm (m.perm.trans (m2.perm.cons _)))
theorem xn (hkd:r.served.kind=2) (hs:Hs G h (aE p 0 (r.pS line 0 d).enc::aE b o (r.enc wa wc)::dB 9 175 wa wc (r.waits.length,eA r.waits)::L)) (hk:∀v h',Hs G h' (eJ v (r.gO line d).2::dX b o (r.gO line d).1::L)→Q v h'):
  Dd 271 3 [] Q [(pt b o 0),(I r.served.core),(pt p 0 0)] h:=by
 simp only[Row.gO,if_pos hkd] at hk
 refine bW ?_
 repeat' first
  |refine aA ?_
  |refine aB ?_
  |refine aQ hs (by decide) rfl rfl ?_
  |(refine bI hs rfl rfl rfl rfl ?_;intro h hs)
  |(refine dE hs rfl rfl rfl ?_;intro a h hs)
  |refine aH rfl ?_
 refine hk _ _ ?_
 have hs:=Ap (n:=r.pS line 4 d) rfl hs
 exact(dZ b o {r with owner:=r.served.core,sh:=fun _=>false,granted:=true} wa wc hs rfl rfl rfl).to
theorem w5 (hkd:r.served.kind≠2) (hc:0≤r.served.core∧r.served.core<4) (hs:Hs G h (aE p 0 (r.pS line 0 d).enc::aE b o (r.enc wa wc)::dB 9 175 wa wc (r.waits.length,eA r.waits)::L)) (hk:∀v h',Hs G h' (eJ v (r.gO line d).2::dX b o (r.gO line d).1::L)→Q v h'):
  Dd 271 4 [] Q [(pt b o 0),(I r.served.core),(pt p 0 0)] h:=by
 simp only[Row.gO,if_neg hkd] at hk
 have hs:=dZ b o r wa wc hs rfl rfl rfl
 refine bW (uB hs fun hs=>?_)
 obtain⟨wa,wc,hs⟩:=dH hs
 refine bH (aR (fun h1=>?_) (fun h1=>?_))
 ·rw[if_pos h1] at hk
  refine bW (aA (bI hs rfl rfl rfl rfl ?_))
  intro h hs
  refine aB (aA (bI hs rfl rfl rfl rfl ?_))
  intro h hs
  refine aB (aA (eZ hc.1 hc.2 (Vf {r with owner:=r.served.core} hs rfl hc ?_)))
  intro h hs
  repeat' first
   |refine aA ?_
   |refine aB ?_
   |refine aQ hs (by decide) rfl rfl ?_
   |(refine bI hs rfl rfl rfl rfl ?_;intro h hs)
   |(refine dE hs rfl rfl rfl ?_;intro a h hs)
   |refine aH rfl ?_
  refine hk _ _ ?_
  have hs:=Ap (n:=r.pS line 2 d) rfl hs
  exact(dZ b o {r with owner:=r.served.core,sh:=uJ r.sh r.served.core false,granted:=true} wa wc hs rfl rfl rfl).to
 ·rw[if_neg h1] at hk
  refine bW (aA (bI hs rfl rfl rfl rfl ?_))
  intro h hs
  refine aB (aA (eZ hc.1 hc.2 (Vf r hs rfl hc ?_)))
  intro h hs
  repeat' first
   |refine aA ?_
   |refine aB ?_
   |refine aQ hs (by decide) rfl rfl ?_
   |(refine bI hs rfl rfl rfl rfl ?_;intro h hs)
   |(refine dE hs rfl rfl rfl ?_;intro a h hs)
   |refine aH rfl ?_
  refine hk _ _ ?_
  have hs:=Ap (n:=r.pS line 1 d) rfl hs
  exact(dZ b o {r with sh:=uJ r.sh r.served.core true,granted:=true} wa wc hs rfl rfl rfl).to
end
theorem eM {H:iJ} {l:Nat}:bT (fun i=>(H i).2) l (H l).2=fun i=>(H i).2:=tT
theorem B3 {C:bL} (hC:C.Ok) {hb l:Nat} {H:iJ} {Q:Value→AH→Prop} (hlim:Ob G 0 fB) (hs:Hs G h L) [m:Has (eY G hb C) L H L'] (hl:l<C.lines) (hc:0≤(H l).1.served.core∧(H l).1.served.core<4)
  (hk:∀v h',Hs G h' (eJ v ((H l).1.gO l ((H l).1.Z7 (H l).2)).2::eY G hb C (bT H l (((H l).1.gO l ((H l).1.Z7 (H l).2)).1,(H l).2))::L')→Q v h'):
  Cl Pr K 271 [pt hb 0 0,I l] h Q:=by
 obtain⟨mb,b,o,cap,hs⟩:=Cp hl (m.of hs)
 refine cW ?_
 have key:∀d,d=(H l).1.Z7 (H l).2→∀p wa wc h,Hs G h (aE p 0 ((H l).1.pS l 0 d).enc::aE b (o+l*25) ((H l).1.enc wa wc)::dB 9 175 wa wc ((H l).1.waits.length,eA (H l).1.waits)::aE hb 0 (jH mb C b o cap)::eN G C.lines mb C (fun i=>(H i).2)::hole G 25 247 (some ⟨b,o,none⟩) cap C.lines b o::uQ b o C.lines H l::L')→
   (((H l).1.served.kind=2→Dd 271 3 [] Q [(pt b (o+l*25) 0),(I (H l).1.served.core),(pt p 0 0)] h)∧((H l).1.served.kind≠2→Dd 271 4 [] Q [(pt b (o+l*25) 0),(I (H l).1.served.core),(pt p 0 0)] h)):=by
  intro d hd p wa wc h hs
  subst hd
  have hk':∀v h',Hs G h' (eJ v ((H l).1.gO l ((H l).1.Z7 (H l).2)).2::dX b (o+l*25) ((H l).1.gO l ((H l).1.Z7 (H l).2)).1::aE hb 0 (jH mb C b o cap)::eN G C.lines mb C (fun i=>(H i).2)::hole G 25 247 (some ⟨b,o,none⟩) cap C.lines b o::uQ b o C.lines H l::L')→Q v h':=fun v h' hs=>
   hk v h' (eH hb C H l ((H l).1.gO l ((H l).1.Z7 (H l).2)).1 (H l).2 (fun i=>(H i).2) mb b o cap hl eM.symm hs).to
  exact⟨fun hkd=>xn hkd hs hk',fun hkd=>w5 hkd hc hs hk'⟩
 obtain⟨wa,wc,hs⟩:=dH hs
 refine aB (aA (aC hs rfl (dK hl (aB (aA (aA (aC hs rfl ?_)))))))
 refine aU hs ?_
 intro rv h hs
 refine aB (aA (aC hs rfl (aB (aA (aQ hs (by decide) (l:=[I (H l).1.d0,I (H l).1.d1]) rfl rfl (aH (c:=((H l).1.pS l 0 ((H l).1.d0,(H l).1.d1)).enc) rfl ?_))))))
 refine kC hs rfl rfl ?_
 intro p h hs
 refine aZ hs rfl rfl rfl rfl ?_
 intro h hs
 refine aB (aA (aC hs rfl (bS (dQ (cU (fun ht=>?_) (fun ht=>?_))))))
 ·refine bW (aB (aA (aA (aC hs rfl (bH ?_)))))
  have:=key ((H l).1.d0,(H l).1.d1) (by simp[Row.Z7,ht]) p wa wc h hs.to
  exact aR this.1 this.2
 ·refine bW (aB (aA (aC hs rfl (X7 hC hlim hs hl fun h hs=>?_))))
  refine aG rfl (aG rfl (aA (bI hs rfl rfl rfl rfl ?_)))
  intro h hs
  refine aB (aA (aA (aC hs rfl (bH ?_))))
  have:=key (H l).2 (by simp[Row.Z7,ht]) p wa wc h (hs.sg (b:=p) (o:=0) (c:=((H l).1.pS l 0 (H l).2).enc) rfl).to
  exact aR this.1 this.2
end Go.Proofs.YtajjljbmfdboaaaGreatDoor.H
end
section
namespace Go.Proofs.YtajjljbmfdboaaaGreatDoor.H
open Go Go.Ab Go.Hm
set_option maxRecDepth 100000
variable {G:Bg} {h:AH} {L L':List HP}
def F1 (e:TypeId) (p:Nat) (a:Option Addr) (c:Nat) (xs:List Int):HP:=sp [aE p 0 [.slice a xs.length c],dB 1 e a c (xs.length,xs.map I)]
theorem Eh {e:TypeId} {a:Option Addr} {c n:Nat} {xs:List Int} {Q:Value→AH→Prop} (hn:n=xs.length) (hs:Hs G h L) [m:Has (dB 1 e a c) L (n,xs.map I) L'] (hk:∀p h',Hs G h' (F1 e p a c xs::L')→Q (.func (.func 166) #[] #[pt p 0 0]) h'):Cl Pr K 118 [.slice a n c] h Q:=by
 subst hn
 have hs:=m.of hs
 refine cW (dI hs ?_)
 intro p h hs
 exact hk p _ (Hs.pack (A:=[_,_]) hs)
theorem xV {e:TypeId} {p:Nat} {a:Option Addr} {c:Nat} {xs:List Int} (hx:xs.length<2^62):gu Pr K G 166 [] [pt p 0 0] (F1 e p a c xs) (xs.map fun x=>[I x]):=by
 intro I' J y L h Q hs hy h1 h2
 refine cW ?_
 refine aC hs.unpack rfl (bZ ?_)
 have loop:∀(f i:Nat) (h:AH),i+f=xs.length→Hs G h (F1 e p a c xs::I' ((xs.drop i).map fun x=>[I x])::L)→Dd 166 1 [] Q [y,(.slice a xs.length c),(I xs.length),(I i)] h:=by
  intro f
  induction f with
  |zero=>
   intro i h hi hs
   refine bW (aN (aK (by omega) ?_))
   rw[List.drop_eq_nil_of_le (by omega)] at hs
   exact h1 _ _ hs
  |succ f ih=>
   intro i h hi hs
   have hlt:i<xs.length:=by omega
   refine bW (aN (bP (by omega) (bW ?_)))
   obtain⟨b,o,rfl,H,hs2,_⟩:=(hs.unpack.front (dB 1 e a c (xs.length,xs.map I))).mU (by omega)
   refine dK hlt (yl hs2 (v:=I xs[i]) (by simp[hlt]) ?_)
   rw[List.drop_eq_getElem_cons hlt] at hs
   refine(hy _ _ h _ hs.kA).mono fun v h' hv=>?_
   rcases hv with⟨rfl,hs⟩|⟨rfl,hs⟩
   ·exact bS (bV (bW (bE (by omega) (ih (i+1) h' (by omega) hs.kA))))
   ·exact bS (eQ (h2 _ _ hs.kA))
 exact loop xs.length 0 h (by omega) hs
section
variable {hb p mb b o cap l:Nat} {C:bL} {H:iJ} {n:aJ} {r:Row} {m:Ln} {Q:Value→AH→Prop}
def pH (G:Bg) (hb p mb b o cap l:Nat) (C:bL) (H:iJ) (n:aJ) (r:Row) (m:Ln):List HP:=
 [dX b (o+l*25) r,aE p 0 n.enc,aE hb 0 (jH mb C b o cap),eN G C.lines mb C (bT (fun i=>(H i).2) l m),hole G 25 247 (some ⟨b,o,none⟩) cap C.lines b o,uQ b o C.lines H l]
theorem U3 (hC:C.Ok) (hlim:Ob G 0 fB) (hl:l<C.lines) (hnl:n.line=l) (hc:0≤r.served.core∧r.served.core<4) (hq:r.quiet=true) (hs:Hs G h (pH G hb p mb b o cap l C H n r m++L))
  (hk:∀v h',Hs G h' (eJ v (r.rest l m).2::eY G hb C (bT H l ((r.rest l m).1,m))::L)→Q v h'):Dd 253 7 [] Q [(pt hb 0 0),(pt p 0 0),(pt b (o+l*25) 0)] h:=by
 simp only[pH,List.cons_append,List.nil_append] at hs
 simp only[Row.rest,if_pos hq] at hk
 have hs0:=hs
 obtain⟨wa,wc,hs⟩:=dH (show Hs G h (dX b (o+l*25) r::_) from hs)
 refine bW (aB (aA (aA (aC hs rfl (bH (aR (fun h1=>?_) (fun h1=>?_)))))))
 ·rw[if_pos h1] at hk
  refine bW (Ye hs0 fun h hs=>hk _ _ ?_)
  exact(oN (eH hb C H l r.free m _ mb b o cap hl rfl hs)).to
 ·rw[if_neg h1] at hk
  refine aA (aC hs rfl ?_)
  rw[hnl]
  have hs:=eH hb C H l r m _ mb b o cap hl rfl hs0
  refine B3 hC hlim hs hl (by simp only[gP];exact hc) fun v h hs=>hk _ _ ?_
  simp only[gP,Bb] at hs
  exact hs.to
theorem U6 (hC:C.Ok) (hlim:Ob G 0 fB) (hl:l<C.lines) (hnl:n.line=l) (hc:0≤r.served.core∧r.served.core<4) (hs:Hs G h (pH G hb p mb b o cap l C H n r m++L))
  (hk:∀v h',Hs G h' (eJ v (r.rest l m).2::eY G hb C (bT H l ((r.rest l m).1,m))::L)→Q v h'):Dd 253 4 [] Q [(pt hb 0 0),(pt p 0 0),(pt b (o+l*25) 0)] h:=by
 have hs00:=hs
 simp only[pH,List.cons_append,List.nil_append] at hs
 have hs0:=hs
 obtain⟨wa,wc,hs⟩:=dH (show Hs G h (dX b (o+l*25) r::_) from hs)
 refine bW (aB (aA (aQ hs (by decide) (l:=[.bool (r.asked 0),.bool (r.asked 1),.bool (r.asked 2),.bool (r.asked 3)]) rfl rfl (aH (c:=[.bool false,.bool false,.bool false,.bool false]) rfl (kj (cU (fun hq=>?_) (fun hq=>?_)))))))
 ·have hq:r.quiet=false:=by unfold Row.quiet;rw[hq];rfl
  simp only[Row.rest,hq,Bool.false_eq_true,if_false] at hk
  refine hk _ _ ?_
  exact(oN (eH hb C H l r m _ mb b o cap hl rfl (show Hs G h (dX b (o+l*25) r::_) from hs0))).to
 ·have hq:r.quiet=true:=by unfold Row.quiet;rw[hq];rfl
  exact U3 hC hlim hl hnl hc hq hs00 hk
end
end Go.Proofs.YtajjljbmfdboaaaGreatDoor.H
end
section
namespace Go.Proofs.YtajjljbmfdboaaaGreatDoor
open Go Go.Ab Go.Hm Go.At Go.Mc
def zU:Mc.iM:=⟨0,0,0,0,0,0,false,0,fun _=>false⟩
def yN (r:Mc.iM):List Value:=[I r.core,I r.world,I r.call,I r.cE,I r.to]
def lX (r:Mc.iM):List Value:=[I r.core,I r.world,I r.call,I r.cE,I r.to,I r.then',.bool r.zY]
def fG (f:Nat→Option Mc.iM) (k:Nat):Option Value:=(f k).map fun r=> .agg ⟨r.enc⟩
theorem Er {f:Nat→Option Mc.iM} {g:Nat} {x:Option Mc.iM}:H5 (fG f) g (x.map fun r=> .agg ⟨r.enc⟩)=fG (bT f g x):=by
 funext k
 unfold H5 fG bT
 split<;>rfl
theorem df {m:Mon}:Ak (fG m.runs)=m.running:=by
 unfold Ak Mon.running
 congr 1
 funext k
 unfold fG
 cases m.runs k<;>rfl
theorem sv {m:Mon} {g:Int}:(if 0≤g then fG m.runs g.toNat else none)=(m.run g).map fun r=>Value.agg ⟨r.enc⟩:=by
 unfold Mon.run fG
 split<;>rfl
set_option maxRecDepth 100000
variable {G:Bg} {h:AH} {L L' M:List HP} {Q:Value→AH→Prop} {C:bL} {m:Mon} {p:Nat}
def fD (C:bL) (p:Nat) (m:Mon):HP:=rY fun x:Nat×Nat=>sp [aE p 0 [pt x.1 0 0,I C.aF,fJ x.2],fZ x.1 m.fY,gX x.2 (fG m.runs)]
theorem jQ (hs:Hs G h (fD C p m::L)):∃t b,Hs G h (aE p 0 [pt t 0 0,I C.aF,fJ b]::fZ t m.fY::gX b (fG m.runs)::L):=by
 obtain⟨⟨t,b⟩,hs⟩:=hs.zE
 exact⟨t,b,hs.wP⟩
theorem dM {t b:Nat} (hs:Hs G h (aE p 0 [pt t 0 0,I C.aF,fJ b]::fZ t m.fY::gX b (fG m.runs)::L)):Hs G h (fD C p m::L):=
 Hs.uH (A:=fun x:Nat×Nat=>sp [aE p 0 [pt x.1 0 0,I C.aF,fJ x.2],fZ x.1 m.fY,gX x.2 (fG m.runs)]) (t,b) hs.Ko
theorem Lm {b:Nat} {g:Int} {k:Value→Prop} (hs:Hs G h L) [mm:Has (gX b) L (fG m.runs) L'] (hk:k (.agg ⟨((m.run g).getD zU).enc⟩)):bA (lkV (.agg ⟨[(I 0),(I 0),(I 0),(I 0),(I 0),(I 0),(.bool false),(I 0),(.bool false),(.bool false),(.bool false),(.bool false)]⟩) h (fJ b) (I g) false) k:=by
 refine aFw hs ?_
 rw[sv]
 cases hr:m.run g with
 |none=>rw[hr] at hk;exact hk
 |some r=>rw[hr] at hk;exact hk
theorem db {g:Int}:((m.run g).getD zU).phase=m.phase g:=by
 unfold Mon.phase
 cases m.run g<;>rfl
theorem I2 {g:Int} (hs:Hs G h L) [mm:Has (fD C p) L m L'] (hk:∀h',Hs G h' (fD C p m::L')→Q (I (m.phase g)) h'):Cl Pr K 119 [pt p 0 0,I g] h Q:=by
 obtain⟨t,b,hs⟩:=jQ (mm.of hs)
 refine cW (cN (bV (aB (aA (aC (b:=p) (o:=0) hs rfl (Lm (m:=m) hs (Xn rfl ?_)))))))
 show Q _ _
 rw[db]
 exact hk _ (dM hs)
theorem aEc {g:Int} (hs:Hs G h L) [mm:Has (fD C p) L m L'] (hk:∀l h',Hs G h' (fD C p m::L')→(m.phase g≠0→l=yN ((m.run g).getD zU))→l.length=5→l.all eF=true→Q (.tuple ⟨[.agg ⟨l⟩,.bool (decide (m.phase g≠0))]⟩) h'):Cl Pr K 59 [pt p 0 0,I g] h Q:=by
 refine cW (bN hs fun q h hs=>I2 (C:=C) (m:=m) hs fun h hs=>bH (aR (fun h1=>?_) (fun h1=>?_)))
 ·refine aH (c:=(yN zU)) rfl (aZ (b:=q) hs rfl rfl rfl rfl fun h hs=>aQ (b:=q) (o:=0) hs (by decide) (l:=(yN zU)) rfl rfl ?_)
  have:=hk (yN zU) h hs.to (fun e=>absurd h1 e) rfl rfl
  rw[decide_eq_false (by omega)] at this
  exact this
 ·obtain⟨t,b,hs⟩:=jQ hs
  refine aB (aA (aC (b:=p) (o:=0) hs rfl (Lm (m:=m) hs (Gd (m:=lX ((m.run g).getD zU)) rfl rfl (Gd (m:=yN ((m.run g).getD zU)) rfl rfl ?_)))))
  refine aZ (b:=q) hs rfl rfl rfl rfl fun h hs=>aQ (b:=q) (o:=0) hs (by decide) (l:=yN ((m.run g).getD zU)) rfl rfl ?_
  have:=hk _ h (dM (t:=t) (b:=b) hs.to) (fun _=>rfl) rfl rfl
  rw[decide_eq_true h1] at this
  exact this
theorem Aw (hs:Hs G h L) [mm:Has (fD C p) L m L'] (hk:∀q a c h',Hs G h' (H.F1 3 q a c (m.running.map fun k:Nat=>(k:Int))::fD C p m::L')→Q (.func (.func 166) #[] #[pt q 0 0]) h'):Cl Pr K 58 [pt p 0 0] h Q:=by
 obtain⟨t,b,hs⟩:=jQ (mm.of hs)
 refine cW (cN (bV (aB (aA (aC (b:=p) (o:=0) hs rfl ?_)))))
 refine cW (aCs hs fun q h hs=>?_)
 have hs:Hs G h (aE q 0 [fJ b]::mt q (170,true,1)::gX b (fG m.runs)::aE p 0 [pt t 0 0,I C.aF,fJ b]::fZ t m.fY::L'):=hs.to
 refine kh (e:=3) rfl hs fun a cp h hs=>?_
 rw[df (m:=m)] at hs ⊢
 have e:(m.running.map fun k:Nat=>I k)=(m.running.map fun k:Nat=>(k:Int)).map I:=by rw[List.map_map];rfl
 rw[e] at hs
 refine H.Eh (e:=3) (xs:=m.running.map fun k:Nat=>(k:Int)) (by simp) hs fun q2 h hs=>?_
 have hs:Hs G h (aE p 0 [pt t 0 0,I C.aF,fJ b]::fZ t m.fY::gX b (fG m.runs)::H.F1 3 q2 a cp (m.running.map fun k:Nat=>(k:Int))::L'):=hs.to
 exact hk q2 a cp _ (dM hs).kA
end Go.Proofs.YtajjljbmfdboaaaGreatDoor
end
end
section
namespace Go.Ct
open Go Go.Ab Go.Hm
variable {n ways:Nat} {S:Nat→List Th} {no:Int} {x:qA}
theorem Mu {l:List Th} (h:no∉l.map (·.1)):rem no l=l:=by
 induction l with
 |nil=>rfl
 |cons t l ih=>
  simp only[List.map_cons,List.mem_cons,not_or] at h
  unfold rem
  grind
theorem tz {l:List Th} (hn:(l.map (·.1)).Nodup):rem no (rem no l)=rem no l:=Mu (Pp hn)
theorem qu {l:List Th} (h:get no l=some x):(rem no l).length<l.length:=by
 rw[Gf,h]
 have:=get_mem h
 grind
theorem Ey (hp:(bU n S no).2=0):get no (S (setOf n no))=some (bU n S no).1∧0≤no:=by
 unfold bU at hp ⊢
 grind
theorem se (hg:∀i,nU ways (S i)) (hp:(bU n S no).2=0):(mR n ways S no x).2=0:=by
 obtain⟨h1,h2⟩:=Ey hp
 have:=qu h1
 have:=(hg (setOf n no)).len
 unfold mR
 grind
theorem u7 (h0:0≤no):kU n S no (setOf n no)=rem no (S (setOf n no)):=by
 unfold kU bT
 rw[if_neg (by omega),if_pos rfl]
theorem Qt (hg:∀i,nU ways (S i)) (hp:(bU n S no).2=0):im n ways S no=0:=by
 obtain⟨h1,h2⟩:=Ey hp
 have:=qu h1
 have:=(hg (setOf n no)).len
 unfold im
 rw[if_pos hp]
 unfold mR
 rw[u7 h2,tz (hg _).nd,if_neg (by omega)]
theorem ik (hg:∀i,nU ways (S i)) (h0:0≤no) (hf:(mR n ways S no x).2=0):bU n (mR n ways S no x).1 no=(x,0):=by
 unfold mR at hf ⊢
 split at hf
 ·cases hf
 ·rename_i hl
  rw[if_neg hl]
  unfold bU bT
  rw[if_neg (by omega)]
  dsimp only
  rw[if_pos rfl,mj (Pp (hg _).nd)]
theorem pq (hg:∀i,nU ways (S i)) (hp:(bU n S no).2=0):bU n (Et n ways S no) no=bU n S no:=by
 obtain⟨h1,h2⟩:=Ey hp
 have e:=Qt hg hp
 unfold im at e
 rw[if_pos hp] at e
 unfold Et
 rw[if_pos hp,ik (qR hg) h2 e]
 grind
theorem Qq {S:Nat→List Th} {l ow:Int} {w:Bool} (h:mW n S l ow w=true):mW n S l ow false=true:=by
 unfold mW at h ⊢
 unfold qJ at h ⊢
 grind [vJ,P7]
end Go.Ct
end
section
namespace Go.Hm
open Go Go.Ab
structure nX (k:Nat) (r:Row):Prop where
 core:0≤r.served.core∧r.served.core<4
 owner: -1≤r.owner∧r.owner<4
 waits:∀n∈r.waits,n.line=k∧(0≤n.core∧n.core<4)∧(n.kind=0∨n.kind=1∨n.kind=2∨n.kind=3)
 apart:∀i:Nat,i<4→r.sh i=true→(i:Int)≠r.owner
 want:r.busy=true→r.granted=false→r.served.kind=0∨r.served.kind=2∨r.owner≠r.served.core
 still:r.granted=true∨r.busy=false→r.quiet=true
 gb:r.granted=true→r.busy=true
theorem nX.inv {k:Nat} {r:Row} (h:nX k r):r.Inv:=⟨h.core,h.owner,fun n hn=>(h.waits n hn).2.1⟩
theorem aDv (k:Nat):nX k C1:=⟨by decide,by decide,by simp[C1],by simp[C1],by simp[C1],fun _=>rfl,by simp[C1]⟩
theorem quiet_of {r r':Row} (h:r'.asked=r.asked):r'.quiet=r.quiet:=by unfold Row.quiet;rw[h]
theorem Fj {k:Nat} {r:Row} {c:Int} (h:nX k r):nX k (r.leave c) where
 core:=h.core
 owner:=by unfold Row.leave;simp only;split;omega;exact h.owner
 waits:=h.waits
 apart:=fun i hi hs=>by
  unfold Row.leave uJ at hs ⊢
  simp only at hs ⊢
  split at hs
  ·cases hs
  ·split
   ·omega
   ·exact h.apart i hi hs
 want:=fun h1 h2=>by
  rcases h.want h1 h2 with h|h|h3
  ·exact .inl h
  ·exact .inr (.inl h)
  ·refine .inr (.inr ?_)
   have:=h.core
   unfold Row.leave
   grind
 still:=fun h1=>(quiet_of (r':=r.leave c) rfl).trans (h.still h1)
 gb:=h.gb
theorem Mm {k:Nat} {r:Row} (h:nX k r) (hq:r.quiet=true):nX k r.free where
 core:=by show(0:Int)≤0∧(0:Int)<4;omega
 owner:=h.owner
 waits:=h.waits
 apart:=h.apart
 want:=fun h1=>by cases h1
 still:=fun _=>(quiet_of (r':=r.free) rfl).trans hq
 gb:=fun h1=>by cases h1
theorem Kq {k:Nat} {r:Row} {n:aJ} (h:nX k r) (h1:n.line=k) (h2:0≤n.core∧n.core<4) (h3:n.kind=0∨n.kind=1∨n.kind=2∨n.kind=3):nX k (r.wait n) where
 core:=h.core
 owner:=h.owner
 waits:=fun m hm=>by
  rcases List.mem_append.1 hm with hm|hm
  ·exact h.waits m hm
  grind
 apart:=h.apart
 want:=h.want
 still:=fun h1=>(quiet_of (r':=r.wait n) rfl).trans (h.still h1)
 gb:=h.gb
theorem bc {k:Nat} {r:Row} {n:aJ} {w:List aJ} (h:nX k r) (hw:r.waits=n::w):nX k (r.next w) where
 core:=h.core
 owner:=h.owner
 waits:=fun m hm=>h.waits m (by rw[hw];exact List.mem_cons_of_mem _ hm)
 apart:=h.apart
 want:=h.want
 still:=fun h1=>(quiet_of (r':=r.next w) rfl).trans (h.still h1)
 gb:=h.gb
structure Ew (k:Nat) (r:Row):Prop where
 core:0≤r.served.core∧r.served.core<4
 owner: -1≤r.owner∧r.owner<4
 waits:∀n∈r.waits,n.line=k∧(0≤n.core∧n.core<4)∧(n.kind=0∨n.kind=1∨n.kind=2∨n.kind=3)
 apart:∀i:Nat,i<4→r.sh i=true→(i:Int)≠r.owner
 want:r.served.kind=0∨r.served.kind=2∨r.owner≠r.served.core
 busy:r.busy=true
 gr:r.granted=false
theorem Ew.wh {k:Nat} {r:Row} (h:Ew k r):nX k r:=⟨h.core,h.owner,h.waits,h.apart,fun _ _=>h.want,fun h1=>by rw[h.busy,h.gr] at h1;simp at h1,fun h1=>by rw[h.gr] at h1;cases h1⟩
theorem A9 {k:Nat} {r:Row} {line:Int} {d:Ln} (h:Ew k r) (h0:r.served.kind≠0) (hq:r.quiet=true):nX k (r.gO line d).1:=by
 have hc:=h.core
 unfold Row.gO
 split
 ·exact⟨h.core,by simp only;omega,h.waits,fun i _ hs=>(by cases hs),fun _ h2=>(by cases h2),fun _=>hq,fun _=>h.busy⟩
 ·rename_i h2
  split
  ·refine⟨h.core,by simp only;omega,h.waits,fun i hi hs=>?_,fun _ h2=>(by cases h2),fun _=>hq,fun _=>h.busy⟩
   simp only[uJ] at hs ⊢
   grind
  ·refine⟨h.core,h.owner,h.waits,fun i hi hs=>?_,fun _ h2=>(by cases h2),fun _=>hq,fun _=>h.busy⟩
   simp only[uJ] at hs ⊢
   split at hs
   ·rename_i e
    rcases h.want with h|h|h
    ·exact absurd h h0
    ·exact absurd h h2
    grind
   ·exact h.apart i hi hs
theorem yF {k:Nat} {r:Row} {l:List Nat} (h:Ew k r):nX k (r.gH l):=Ew.wh ⟨h.core,h.owner,h.waits,h.apart,h.want,h.busy,h.gr⟩
theorem Z9 {k:Nat} {r:Row} {line:Int} {m:Ln} (h:Ew k r):nX k (r.rest line m).1:=by
 unfold Row.rest
 split
 ·rename_i hq
  split
  ·exact Mm h.wh hq
  ·rename_i h0
   exact A9 h h0 hq
 ·exact h.wh
theorem V6 {k:Nat} {r:Row} {n:aJ} (h:nX k r) (hn:0≤n.core∧n.core<4) (ha:r.asked n.core.toNat=true):Ew k (r.heard n):=by
 have hnq:r.quiet=false:=by
  have:n.core.toNat=0∨n.core.toNat=1∨n.core.toNat=2∨n.core.toNat=3:=by omega
  unfold Row.quiet
  grind
 have hg:r.granted=false:=by
  cases hg:r.granted with
  |false=>rfl
  |true=>have:=h.still (.inl hg);grind
 have hb:r.busy=true:=by
  cases hb:r.busy with
  |true=>rfl
  |false=>have:=h.still (.inr hb);grind
 have h1:Ew k (r.kZ n):=⟨h.core,h.owner,h.waits,h.apart,h.want hb hg,hb,hg⟩
 have h2:Ew k ((r.kZ n).Dy n):=⟨h.core,by show -1≤(-1:Int)∧(-1:Int)<4;omega,h.waits,fun i hi _=>by show(i:Int)≠ -1;omega,by
  have:=h.core
  right;right
  show(-1:Int)≠r.served.core
  omega,hb,hg⟩
 have h3:∀{r:Row},Ew k r→Ew k (r.pR n):=fun h=>⟨h.core,h.owner,h.waits,h.apart,h.want,h.busy,h.gr⟩
 unfold Row.heard
 split
 ·have:=Fj (c:=n.core) h1.wh
  exact⟨this.core,this.owner,this.waits,this.apart,this.want hb hg,hb,hg⟩
 ·split
  ·split
   ·exact h3 h2
   ·exact h2
  ·split
   ·exact h3 h1
   ·exact h1
theorem dh {k:Nat} {x:qZ} {n:aJ} (h:nX k x.1) (ht:gA n.kind) (h1:n.line=k) (hn:0≤n.core∧n.core<4):nX k (qZ.take x k n).1.1:=by
 unfold qZ.take
 split
 ·split
  ·exact h
  ·rename_i h2
   have hg:x.1.granted=true:=by
    cases hg:x.1.granted with
    |true=>rfl
    |false=>exact absurd (.inl hg) h2
   exact Mm h (h.still (.inl hg))
 ·split
  ·split
   ·exact h
   ·rename_i ha
    exact Z9 (V6 h hn (by simpa using ha))
  ·rename_i h4 h5
   exact Kq h h1 hn (by unfold gA at ht;omega)
theorem Fp {r:Row} {x:Int}:∀(f i:Nat),r.yB x f i≠ -1→r.fX x f i≠[]:=by
 intro f
 induction f with
 |zero=>intro i h;exact absurd rfl h
 |succ f ih=>
  intro i h
  unfold Row.yB at h
  unfold Row.fX
  grind
theorem Rx {r:Row} {x:Int}:∀(f i:Nat),∀c∈r.fX x f i,(c:Int)≠x:=by
 intro f
 induction f with
 |zero=>intro i c hc;simp[Row.fX] at hc
 |succ f ih=>
  intro i c hc
  unfold Row.fX at hc
  split at hc
  ·rename_i hh
   rcases List.mem_cons.1 hc with rfl|hc
   ·unfold Row.holds at hh;simp at hh;exact hh.1
   ·exact ih _ c hc
  ·exact ih _ c hc
def aJ.sD (n:aJ):aJ:=if n.kind=0 then {n with core:= -1} else n
theorem Jt {k:Nat} {r:Row} {d:Ln} {n:aJ} (hs:r.served.core=n.core) (hk:n.kind=1∨n.kind=2) (hl:n.line=k):(∀m∈(r.gO k d).2,m.fits n.sD (r.gO k d).2.length)∧(r.gO k d).2≠[]:=by
 have hf:n.sD=n:=by unfold aJ.sD;rw[if_neg (by omega)]
 rw[hf]
 unfold Row.gO
 split
 ·refine⟨fun m hm=>?_,by simp⟩
  rw[List.mem_singleton.1 hm]
  exact⟨hl.symm,rfl,.inl ⟨rfl,hs,rfl,hk⟩⟩
 ·split
  ·refine⟨fun m hm=>?_,by simp⟩
   rw[List.mem_singleton.1 hm]
   exact⟨hl.symm,rfl,.inl ⟨rfl,hs,rfl,hk⟩⟩
  ·refine⟨fun m hm=>?_,by simp⟩
   rw[List.mem_singleton.1 hm]
   exact⟨hl.symm,rfl,.inl ⟨rfl,hs,rfl,hk⟩⟩
theorem yR {k:Nat} {n:aJ} {st:Int} {l:List Nat} (hl:n.line=k) (hk:n.kind=1∨n.kind=2∨(n.kind=0∧st=0)) (hc:∀c∈l,(c:Int)≠n.sD.core) {len:Nat}:∀m∈gN k st l,m.fits n.sD len:=by
 intro m hm
 obtain⟨c,hcm,rfl⟩:=List.mem_map.1 hm
 have h1:n.sD.line=k:=by unfold aJ.sD;split<;>exact hl
 have h2:n.sD.kind=n.kind:=by unfold aJ.sD;split<;>rfl
 refine⟨h1.symm,rfl,.inr (.inr (.inr ⟨rfl,rfl,hc c hcm,?_⟩))⟩
 grind
theorem s0 {k:Nat} {r:Row} {n:aJ} {w:Int} {m:Ln} (h:nX k r) (hb:r.busy=false) (hl:n.line=k) (hn:0≤n.core∧n.core<4) (hk:n.kind=1∨n.kind=2):
  nX k (r.get k m n w).1∧(∀x∈(r.get k m n w).2,x.fits n.sD (r.get k m n w).2.length)∧(r.get k m n w).2≠[]:=by
 have hq:=h.still (.inr hb)
 have hg:r.granted=false:=by
  cases hg:r.granted with
  |false=>rfl
  |true=>have:=h.gb hg;grind
 have hf:n.sD=n:=by unfold aJ.sD;rw[if_neg (by omega)]
 unfold Row.get
 simp only
 split
 ·rename_i h2
  have hs:Ew k (r.serve n w):=⟨hn,h.owner,h.waits,h.apart,.inr (.inl h2),rfl,hg⟩
  unfold Row.getM
  split
  ·rename_i h3
   refine⟨yF hs,?_,?_⟩
   ·exact yR hl (.inr (.inl h2)) (fun c hc=>by rw[hf];exact Rx 4 0 c hc)
   ·have:=Fp 4 0 h3
    intro e
    exact this (List.map_eq_nil_iff.1 e)
  ·exact⟨A9 hs (by show n.kind≠0;omega) hq,Jt rfl hk hl⟩
 ·rename_i h2
  have h1:n.kind=1:=by omega
  have hu:(r.serve n w).sO.served=n∧(r.serve n w).sO.asked=r.asked∧((r.serve n w).sO.owner= -1∨((r.serve n w).sO.owner=r.owner∧r.owner≠n.core))∧Ew k (r.serve n w).sO:=by
   unfold Row.sO
   split
   ·refine⟨rfl,rfl,.inl rfl,⟨hn,by grind,h.waits,fun i _ _=>by grind,.inr (.inr ?_),rfl,hg⟩⟩
    show(-1:Int)≠n.core
    omega
   ·rename_i h3
    exact⟨rfl,rfl,.inr ⟨rfl,h3⟩,⟨hn,h.owner,h.waits,h.apart,.inr (.inr h3),rfl,hg⟩⟩
  generalize(r.serve n w).sO=r2 at hu
  obtain⟨u1,u2,u3,u4⟩:=hu
  unfold Row.aa
  split
  ·rename_i h3
   refine⟨yF u4,?_,by simp[gN]⟩
   refine yR hl (.inl h1) (fun c hc=>?_)
   rw[List.mem_singleton.1 hc,hf]
   have:=u4.owner
   omega
  ·exact⟨A9 u4 (by rw[u1];omega) (by rw[quiet_of u2];exact hq),Jt (by rw[u1]) hk hl⟩
theorem cm {k:Nat} {r:Row} {n:aJ} {m:Ln} {j:Int→Int×Bool} (h:nX k r) (hb:r.busy=false) (hl:n.line=k) (hn:0≤n.core∧n.core<4) (hk:n.kind=0∨n.kind=1∨n.kind=2∨n.kind=3):
  nX k (r.begun k m n j).1.1∧(∀x∈(r.begun k m n j).2,x.fits n.sD (r.begun k m n j).2.length)∧((r.begun k m n j).2≠[]∨n.sD.kind=0):=by
 have hq:=h.still (.inr hb)
 have hg:r.granted=false:=by
  cases hg:r.granted with
  |false=>rfl
  |true=>have:=h.gb hg;rw[hb] at this;cases this
 unfold Row.begun
 split
 ·rename_i h3
  have hf:n.sD=n:=by unfold aJ.sD;rw[if_neg (by omega)]
  refine⟨Fj h,fun x hx=>?_,.inl (by simp)⟩
  rw[List.mem_singleton.1 hx,hf]
  exact⟨hl.symm,rfl,.inr (.inr (.inl ⟨rfl,rfl,rfl,rfl,h3⟩))⟩
 ·rename_i h3
  split
  ·rename_i h12
   have hf:n.sD=n:=by unfold aJ.sD;rw[if_neg (by omega)]
   split
   ·obtain⟨a,b,c⟩:=s0 (m:=m) (w:=(j n.world).1) h hb hl hn h12
    grind
   ·refine⟨h,fun x hx=>?_,.inl (by simp)⟩
    rw[List.mem_singleton.1 hx,hf]
    exact⟨hl.symm,rfl,.inr (.inl ⟨rfl,rfl,rfl,rfl,h12⟩)⟩
  ·rename_i h12
   have h0:n.kind=0:=by omega
   have hf:n.sD={n with core:= -1}:=by unfold aJ.sD;rw[if_pos h0]
   split
   ·grind
   ·refine⟨yF (r:=r.Ho n) ⟨hn,h.owner,h.waits,h.apart,.inl h0,rfl,hg⟩,?_,.inr (by rw[hf];exact h0)⟩
    exact yR hl (.inr (.inr ⟨h0,rfl⟩)) (fun c _=>by grind)
end Go.Hm
namespace Go.Hm
open Go Go.Ab
theorem yE {r:Row} {line:Int} {d:Ln}:(r.gO line d).1.waits=r.waits:=by
 unfold Row.gO
 grind
theorem U1 {r:Row} {line:Int} {m:Ln}:(r.rest line m).1.waits=r.waits:=by
 unfold Row.rest
 split
 ·split
  ·rfl
  ·exact yE
 ·rfl
theorem S6 {r:Row} {n:aJ}:(r.heard n).waits=r.waits:=by
 unfold Row.heard
 repeat' split
 all_goals rfl
theorem fu {r:Row} {line:Int} {m:Ln} {n:aJ} {w:Int}:(r.get line m n w).1.waits=r.waits:=by
 have hu:(r.serve n w).sO.waits=r.waits:=by unfold Row.sO;split<;>rfl
 unfold Row.get
 simp only
 split
 ·unfold Row.getM;split
  ·rfl
  ·exact yE
 ·unfold Row.aa;split
  ·exact hu
  ·rw[yE];exact hu
theorem Te {r:Row} {line:Int} {m:Ln} {n:aJ} {j:Int→Int×Bool}:(r.begun line m n j).1.1.waits=r.waits:=by
 unfold Row.begun
 split
 ·rfl
 ·split
  ·split
   ·exact fu
   ·rfl
  ·split<;>rfl
def C0:bL:=⟨3,2,1,1,4,2,2⟩
def Hg (H:iJ) (R:Nat→List aJ) (i:Nat):Prop:=∀k,k<4→nX k (H k).1∧R k=(H k).1.waits.map aJ.sD∧(H k).1.waits.length≤i
theorem Hg.h {H:iJ} {R:Nat→List aJ} {i:Nat} (h:Hg H R i) (N:Nat) (hN:i≤N):rR C0 H N:=fun k hk=>⟨(h k hk).1.inv,Nat.le_trans (h k hk).2.2 hN⟩
theorem Hg.sL {H:iJ} {R:Nat→List aJ} {i l:Nat} {x:qZ} {w:List aJ} (h:Hg H R i) (h1:nX l x.1) (h2:w=x.1.waits.map aJ.sD) (h3:x.1.waits.length≤i+1):Hg (bT H l x) (bT R l w) (i+1):=by
 intro k hk
 unfold bT
 by_cases e:k=l
 ·grind
 ·simp only[if_neg e]
  obtain⟨a,b,c⟩:=h k hk
  grind
theorem Hg.same {H:iJ} {R:Nat→List aJ} {i l:Nat} {x:qZ} (h:Hg H R i) (hl:l<4) (h1:nX l x.1) (h2:x.1.waits=(H l).1.waits):Hg (bT H l x) R (i+1):=by
 have:=h.sL (x:=x) (w:=R l) h1 (by rw[h2];exact(h l hl).2.1) (by rw[h2];have:=(h l hl).2.2;omega)
 rwa [show bT R l (R l)=R from tT] at this
theorem Hg.up {H:iJ} {R:Nat→List aJ} {i:Nat} (h:Hg H R i):Hg H R (i+1):=fun k hk=>⟨(h k hk).1,(h k hk).2.1,by have:=(h k hk).2.2;omega⟩
theorem Ea {r:Row} {line:Int} {d:Ln}:(r.gO line d).2.length≤4:=by
 unfold Row.gO
 grind
theorem Bi {line st:Int} {l:List Nat}:(gN line st l).length=l.length:=by simp[gN]
theorem wq {r:Row} {line:Int} {m:Ln} {n:aJ} {w:Int}:(r.get line m n w).2.length≤4:=by
 unfold Row.get
 simp only
 split
 ·unfold Row.getM;split
  ·rw[Bi];exact sJ
  ·exact Ea
 ·unfold Row.aa;split
  ·simp[Bi]
  ·exact Ea
theorem fj {r:Row} {line:Int} {m:Ln} {n:aJ} {j:Int→Int×Bool}:(r.begun line m n j).2.length≤4:=by
 unfold Row.begun
 split
 ·simp
 ·split
  ·split
   ·exact wq
   ·simp
  ·split
   ·simp
   ·rw[Bi];exact sJ
theorem Nn {C:bL} {H:iJ} {l:Int} {j:Int→Int×Bool}:(jO C H l j).2.1.length≤4:=by
 unfold jO
 split
 ·unfold qZ.begin
  split
  ·simp
  ·split
   ·simp
   ·exact fj
 ·simp
end Go.Hm
end
section
namespace Go.Mc
open Go Go.Ab Go.Hm Go.At Go.Is Go.Ct Go.Nt
structure gB (C:bL) (m:Mon):Prop where
 len:m.fY.length=C.bB.toNat
 own:∀x∈m.fY,0≤x.owner∧x.owner≤4
 run:∀g r,m.runs g=some r→(g:Int)<C.bB∧r.cE=g∧(r.phase=1∨r.phase=2)∧(0≤r.core∧r.core<C.aF)∧(0≤r.then'∧r.then'≤4)
def Wp (Cf:bL) (F:fS):Prop:=∀c w,(F c w).length≤Cf.depth
theorem gB.zT {C:bL} {m:Mon} (h:gB C m) {g:Int} (hg:m.has g):0≤(m.zT g).owner∧(m.zT g).owner≤4:=by
 refine h.own _ ?_
 unfold Mon.has at hg
 unfold Mon.zT
 grind
theorem gB.aCt {C:bL} {m:Mon} (hC:C.Ok) (hm:gB C m):∀g r,m.runs g=some r→g<16:=by
 intro g r hr
 have:=(hm.run g r hr).1
 have:=hC.2.1
 omega
theorem Wp.J7 {Cf:bL} {F:fS} (hC:Cf.Ok) (h:Wp Cf F):∀c w,(F c w).length≤500:=by
 intro c w
 have:=h c w
 have:=hC.2.2.2.2.1
 omega
structure jm (Cf:bL) (M:cR) (i:Nat):Prop where
 dY:gB Cf M.dY
 A3:(M.aS i).Ok
 Tw:mJ Cf (M.dC i)
 wQ:(M.cK i).known.length≤100
 jE:Wp Cf M.jE
 log:M.log.length≤2^30
structure uO (Cf:bL) (M:cR) (n:aJ):Prop where
 core:0≤n.core∧n.core<Cf.aF
 dY:gB Cf M.dY
 home:rR Cf M.home (2^30 - 4)
 Tw:mJ Cf (M.dC n.core.toNat)
 wQ:(M.cK n.core.toNat).known.length≤100
 cE:0≤(M.cK n.core.toNat).cE∧(M.cK n.core.toNat).cE<Cf.bB
 word:n.kind=12→0≤n.d0∧n.d0≤1000000
structure dq (C:bL) (n:aJ):Prop where
 wQ:wQ C n=0
 word:n.kind=12→0≤n.d0∧n.d0≤1000000
def P1 (C:bL) (N:Nat) (H:iJ):Prop:=∀l,l<C.lines→nX l (H l).1∧(H l).1.waits.length≤N
structure G6 (C:bL) (F:fS):Prop where
 len:Wp C F
 note:∀c w,∀n∈F c w,dq C n∧n.core.toNat=c∧fL n=w
def wJ (C:bL) (c:lU):Prop:=(c.known.length:Int)≤C.entries∧0≤c.cE∧c.cE<C.bB
structure fC (C:bL) (N:Nat) (M:cR):Prop where
 dY:gB C M.dY
 A3:∀i:Nat,(i:Int)<C.aF→(M.aS i).Ok
 Tw:∀i:Nat,(i:Int)<C.aF→mJ C (M.dC i)
 wQ:∀i:Nat,(i:Int)<C.aF→wJ C (M.cK i)
 home:P1 C N M.home
 jE:G6 C M.jE
 log:M.log.length≤N
variable {C:bL} {N:Nat} {M:cR}
theorem P1.h {H:iJ} (h:P1 C N H) {K:Nat} (hn:N≤K):rR C H K:=fun l hl=>⟨(h l hl).1.inv,Nat.le_trans (h l hl).2 hn⟩
theorem wJ.len (hC:C.Ok) {c:lU} (h:wJ C c):c.known.length≤100:=by
 have:=h.1
 have:C.entries≤8:=by unfold bL.Ok at hC;omega
 omega
theorem fC.step (h:fC C N M) (hC:C.Ok) (hN:N≤2^29) {i:Nat} (hi:(i:Int)<C.aF):jm C M i:=⟨h.dY,h.A3 i hi,h.Tw i hi,(h.wQ i hi).len hC,h.jE.len,by have:=h.log;omega⟩
theorem Qg {n:aJ} (h:wQ C n=0):Nu n.kind∧0≤n.core∧n.core<C.aF:=by
 unfold Nt.wQ at h
 split at h
 ·rename_i hk
  split at h
  ·split at h
   ·rename_i hw
    refine⟨hk,?_⟩
    have hw1:=hw.1
    unfold Nu at hk
    have:∃fs,B2 n.kind.toNat=1::fs:=by
     rcases k14 (k:=n.kind.toNat) (by omega) with e|e|e|e|e|e|e|e|e|e|e|e|e|e
     ·omega
     all_goals rw[e];exact⟨_,rfl⟩
    obtain⟨fs,hf⟩:=this
    rw[hf] at hw1
    unfold pL at hw1
    split at hw1
    ·rename_i hm
     exact hm
    ·cases hw1
   ·cases h
  ·cases h
 ·cases h
theorem Y4 {n:aJ} (h:wQ C n=0) (h8:n.kind=8):n.state=1∨n.state=2∨n.state=4:=by
 unfold Nt.wQ at h
 rw[h8] at h
 split at h
 ·split at h
  ·split at h
   ·rename_i hw
    have hw1:=hw.1
    rw[show B2 (8:Int).toNat=[1,2,4,6,8,9] from rfl] at hw1
    simp only[pL] at hw1
    split at hw1
    ·split at hw1
     ·split at hw1
      ·split at hw1
       ·rename_i hm
        exact hm
       ·cases hw1
      ·cases hw1
     ·cases hw1
    ·cases hw1
   ·cases h
  ·cases h
 ·cases h
theorem Tn {F:fS} {a b c:Int} (hF:G6 C F) (he:(F.take C a b c).2.2=0):dq C (F.take C a b c).2.1∧(F.take C a b c).2.1∈F a.toNat b.toNat:=by
 unfold fS.take at he ⊢
 by_cases h1:(0≤a∧a<C.aF)∧(0≤b∧b<4)
 ·rw[if_neg (fun h=>h h1)] at he ⊢
  dsimp only at he ⊢
  by_cases h2:F a.toNat b.toNat=[]
  ·grind
  ·rw[if_neg h2]
   have hp:0<(F a.toNat b.toNat).length:=List.length_pos_iff.2 h2
   have hb:(c % ((F a.toNat b.toNat).length:Int)).toNat<(F a.toNat b.toNat).length:=by
    have h3:=Int.emod_nonneg c (show((F a.toNat b.toNat).length:Int)≠0 by omega)
    have h4:=Int.emod_lt_of_pos c (show(0:Int)<((F a.toNat b.toNat).length:Int) by omega)
    omega
   have hm:(F a.toNat b.toNat).getD (c % ((F a.toNat b.toNat).length:Int)).toNat aJ.zero∈F a.toNat b.toNat:=by
    grind
   exact⟨(hF.note _ _ _ hm).1,hm⟩
 grind
theorem Q1 {F:fS} {a b c:Int} (hF:G6 C F):G6 C (F.take C a b c).1:=by
 unfold fS.take
 split
 ·exact hF
 ·dsimp only
  split
  ·exact hF
  ·constructor
   ·intro x y
    unfold fS.set
    dsimp only
    split
    ·rename_i e
     have:=hF.len x y
     grind
    ·exact hF.len x y
   ·intro x y n hn
    unfold fS.set at hn
    dsimp only at hn
    split at hn
    ·rename_i e
     have:=hF.note _ _ n (List.mem_of_mem_eraseIdx hn)
     grind
    ·exact hF.note x y n hn
theorem yb {F:fS} {n:aJ} (hF:G6 C F) (hn:dq C n) (hl:((F n.core.toNat (fL n)).length:Int)<C.depth):G6 C (F.put n):=by
 constructor
 ·intro x y
  unfold fS.put fS.set
  split
  ·grind
  ·exact hF.len x y
 ·intro x y k hk
  unfold fS.put fS.set at hk
  split at hk
  ·rename_i e
   rcases List.mem_append.1 hk with hk|hk
   ·rw[e.1,e.2];exact hF.note _ _ k hk
   grind
  ·exact hF.note x y k hk
theorem qk:∀{l:List aJ} {F F':fS},G6 C F→(∀n∈l,dq C n)→fS.F0 C.depth F l=some F'→G6 C F':=by
 intro l
 induction l with
 |nil=>intro F F' hF _ h;cases h;exact hF
 |cons n l ih=>
  intro F F' hF hl h
  unfold fS.F0 at h
  split at h
  ·rename_i hd
   exact ih (yb hF (hl n List.mem_cons_self) hd) (fun k hk=>hl k (List.mem_cons_of_mem _ hk)) h
  ·cases h
theorem Q0:∀{l:List aJ},cK C l=0→∀n∈l,Nt.wQ C n=0
 |[],_,n,hn=>by cases hn
 |k::l,h,n,hn=>by
  unfold cK at h
  split at h
  ·grind
  ·rename_i hk
   rcases List.mem_cons.1 hn with rfl|hn
   ·simpa using hk
   ·exact Q0 h n hn
theorem xT {F:fS} {l:List aJ} (hF:G6 C F) (hw:∀n∈l,n.kind=12→0≤n.d0∧n.d0≤1000000):G6 C (F.send C l).1:=by
 unfold fS.send
 split
 ·exact hF
 ·rename_i hc
  split
  ·rename_i F' hp
   exact qk hF (fun n hn=>⟨Q0 (by simpa using hc) n hn,hw n hn⟩) hp
  ·exact hF
theorem Ra {s:aX} (ho:s.Ok) (h:s.over=false):Fits (yD s.prog s.at') s.prog.length∧s.at'<s.prog.length:=by
 have h2:=ho.2.2.1
 rw[h] at h2
 have hl:=N2 h2.symm
 exact⟨Rn (ho.2.2.2.2 _ (P4 ho.1 hl)),hl⟩
theorem nD {s t:aX} {a:Int} (ho:s.Ok) (hp:t.prog=s.prog) (h0:0≤a) (h1:a≤s.prog.length):(t.nT a).Ok:=by
 unfold aX.Ok aX.nT
 dsimp only
 rw[hp]
 exact⟨h0,by have:=ho.2.2.2.1;omega,rfl,ho.2.2.2.1,ho.2.2.2.2⟩
theorem qd {s:aX} {i:Nat} {r:aX×Ev} (ho:s.Ok) (h:aX.oS s i=some r):r.1.Ok:=by
 unfold aX.oS aX.next? at h
 cases hov:s.over with
 |true=>grind
 |false=>
  rw[hov] at h
  simp only[Bool.false_eq_true,if_false] at h
  obtain⟨hf,hl⟩:=Ra ho hov
  have h0:=ho.1
  split at h
  ·cases h;exact nD ho rfl (by omega) (by omega)
  ·split at h
   ·cases h;exact nD ho rfl (by omega) (by omega)
   ·split at h
    ·cases h;exact nD ho rfl (by omega) (by omega)
    ·split at h
     ·split at h
      ·cases h;exact nD ho rfl (by omega) (by omega)
      ·cases h;exact nD ho rfl (by omega) (by omega)
     ·split at h
      ·rename_i e
       have:=hf.p1 e
       cases h;exact nD ho rfl (by omega) (by omega)
      ·split at h
       ·rename_i e
        have:=hf.p2 e
        cases h
        refine nD ho rfl ?_ ?_
        ·split<;>omega
        ·split<;>omega
       ·cases h
theorem cv {s:aX} {i:Nat} {v c:Int} (ho:s.Ok):(aX.cH s i v c).1.Ok:=by
 unfold aX.cH
 cases hn:aX.next? s with
 |none=>exact ho
 |some x=>
  have hov:s.over=false:=by
   unfold aX.next? at hn
   cases h:s.over with
   |false=>rfl
   |true=>rw[h] at hn;simp at hn
  obtain⟨hf,hl⟩:=Ra ho hov
  have h0:=ho.1
  dsimp only
  split
  ·exact nD ho rfl (by omega) (by omega)
  ·split
   ·split
    ·exact ho
    ·split
     ·exact nD ho rfl (by omega) (by omega)
     ·split
      ·exact nD ho rfl (by omega) (by omega)
      ·exact nD ho rfl (by omega) (by omega)
   ·exact ho
theorem j8 (hC:C.Ok) {c:lU} {f:Int×Int} (h:wJ C c):wJ C (c.H6 C f):=by
 have he:1≤C.entries:=by unfold bL.Ok at hC;omega
 refine⟨?_,h.2⟩
 unfold lU.H6
 dsimp only
 have:=h.1
 grind
theorem dr {c:lU} {g:Int} (h:wJ C c):wJ C (c.begin C g).1:=by
 unfold lU.begin
 split
 ·exact h
 ·rename_i hg
  split
  ·exact h
  ·split
   ·exact h
   ·refine⟨h.1,?_⟩
    show 0≤g∧g<C.bB
    simpa using hg
theorem gq (hC:C.Ok) {c:lU} {a w:Int} (h:wJ C c):wJ C (c.walked C a w).1:=by
 have hg:1≤C.bB:=hC.2.1.1
 unfold lU.walked
 split
 ·exact h
 ·split
  ·exact h
  ·split
   ·exact h
   ·dsimp only
    split
    ·exact h
    ·split
     ·exact h
     ·split
      ·exact h
      ·refine⟨(j8 hC h).1,?_⟩
       show(0:Int)≤0∧(0:Int)<C.bB
       omega
theorem vt {c:lU} {g:Int} (h:wJ C c):wJ C (c.drop C g).1:=by
 unfold lU.drop
 split
 ·exact h
 ·refine⟨?_,h.2⟩
  have:=List.length_filter_le (fun x:Int×Int=> !decide (g= -1∨x.1=g)) c.known
  have:=h.1
  dsimp only
  omega
end Go.Mc
end
section
namespace Go.Mc
open Go Go.Ab Go.Hm Go.At Go.Is Go.Ct Go.Nt
variable {C:bL} {N:Nat} {M:cR}
theorem fC.mono {K:Nat} (h:fC C N M) (hn:N≤K):fC C K M:=⟨h.dY,h.A3,h.Tw,h.wQ,fun l hl=>⟨(h.home l hl).1,Nat.le_trans (h.home l hl).2 hn⟩,h.jE,Nat.le_trans h.log hn⟩
theorem N7 {α:Type} {P:α→Prop} {s:Nat→α} {i:Nat} {t:α} {n:Int} (h:∀j:Nat,(j:Int)<n→P (s j)) (ht:P t):∀j:Nat,(j:Int)<n→P (bT s i t j):=by
 intro j hj
 unfold bT
 grind
theorem fC.dL (h:fC C N M) {F:fS} (hF:G6 C F):fC C N (M.dL F):={h with jE:=hF}
theorem fC.nE (h:fC C N M) {m:Mon} (hm:gB C m):fC C N (M.nE m):={h with dY:=hm}
theorem fC.rP (h:fC C N M) {H:iJ} {K:Nat} (hK:N≤K) (hH:P1 C K H):fC C K (M.rP H):={h.mono hK with home:=hH}
theorem fC.sY (h:fC C N M) {i:Nat} {c:jF} (hc:mJ C c):fC C N (M.sY i c):={h with Tw:=N7 h.Tw hc}
theorem fC.Ao (h:fC C N M) {i:Nat} {c:lU} (hc:wJ C c):fC C N (M.Ao i c):={h with wQ:=N7 h.wQ hc}
theorem fC.wR (h:fC C N M) {i:Nat} {c:aX} (hc:c.Ok):fC C N (M.wR i c):={h with A3:=N7 h.A3 hc}
theorem fC.R2 (h:fC C N M) {v:Ev}:fC C (N+1) (M.R2 v):={h.mono (Nat.le_succ N) with log:=by show(M.log++[v]).length≤N+1;rw[List.length_append,List.length_singleton];have:=h.log;omega}
theorem te {m:Mon} (h:gB C m) {g:Int} (hg:m.has g):0≤(m.zT g).owner∧(m.zT g).owner≤4:=by
 refine h.own _ ?_
 unfold Mon.has at hg
 unfold Mon.zT
 grind
theorem Xx {m:Mon} (h:gB C m) {g:Nat} {x:kE} (hx:0≤x.owner∧x.owner≤4):gB C (m.cy g x):=
 ⟨by show(m.fY.set g x).length=_;rw[List.length_set];exact h.len,fun y hy=>by
  rcases List.mem_or_eq_of_mem_set hy with hy|rfl
  ·exact h.own y hy
  ·exact hx,h.run⟩
theorem Om {m:Mon} (h:gB C m) {g:Nat} {x:Option Mc.iM} (hx:∀r,x=some r→(g:Int)<C.bB∧r.cE=g∧(r.phase=1∨r.phase=2)∧(0≤r.core∧r.core<C.aF)∧(0≤r.then'∧r.then'≤4)):gB C (m.dN g x):=
 ⟨h.len,h.own,fun k r hr=>by
  unfold Mon.dN bT at hr
  dsimp only at hr
  split at hr
  ·grind
  ·exact h.run k r hr⟩
theorem j2 {c w o t:Int}:0≤(jW c w o t).1∧(jW c w o t).1≤4:=by
 unfold jW
 grind
theorem iy {m:Mon} (h:gB C m) {a:Mc.Ask}:gB C (m.call C.aF a).1:=by
 unfold Mon.call
 split
 ·exact h
 ·rename_i hc
  split
  ·exact h
  ·rename_i hg
   have hg:m.has a.cE:=Decidable.not_not.1 hg
   split
   ·exact h
   ·split
    ·exact h
    ·dsimp only
     split
     ·exact h
     ·have hl:=h.len
      have hg2:=hg
      unfold Mon.has at hg2
      refine Om (Xx h (x:=⟨(m.zT a.cE).owner,true⟩) (te h hg)) fun r hr=>?_
      cases hr
      refine⟨by omega,?_,.inl rfl,Decidable.not_not.1 hc,j2⟩
      show a.cE=_
      omega
theorem E2 {m:Mon} (h:gB C m) {g c:Int}:gB C (m.dropped C.aF g c).1:=by
 unfold Mon.dropped
 split
 ·exact h
 ·rename_i hg
  have hg:m.has g:=Decidable.not_not.1 hg
  split
  ·exact h
  ·rename_i r hr
   split
   ·exact h
   ·split
    ·exact h
    ·unfold Mon.run at hr
     split at hr
     ·refine Om h fun r' hr'=>?_
      cases hr'
      obtain⟨a,b,c,d,e⟩:=h.run _ r hr
      refine⟨a,b,?_,d,e⟩
      unfold iM.iY iM.heard
      grind
     ·cases hr
theorem Sh {m:Mon} (h:gB C m) {g:Int}:gB C (m.over g).1∧∀u,(m.over g).2.1=some u→0≤u.core∧u.core<C.aF:=by
 unfold Mon.over
 split
 ·grind
 ·split
  ·grind
  ·rename_i r hr
   split
   ·grind
   ·unfold Mon.run at hr
    split at hr
    ·obtain⟨a,b,c,d,e⟩:=h.run _ r hr
     exact⟨Om (Xx h e) (fun r hr=>by cases hr),(fun u hu=>by cases hu;exact d)⟩
    ·cases hr
theorem P1.sL {H:iJ} (h:P1 C N H) {l:Nat} {x:qZ} (h1:nX l x.1) (h2:x.1.waits.length≤N+1):P1 C (N+1) (bT H l x):=by
 intro k hk
 unfold bT
 split
 ·grind
 ·exact⟨(h k hk).1,Nat.le_succ_of_le (h k hk).2⟩
theorem P1.mono {H:iJ} {K:Nat} (h:P1 C N H) (hn:N≤K):P1 C K H:=fun l hl=>⟨(h l hl).1,Nat.le_trans (h l hl).2 hn⟩
theorem Ks {H:iJ} {l:Int} (h:P1 C N H):P1 C (N+1) (kJ C H l).1:=by
 unfold kJ
 split
 ·rename_i hl
  obtain⟨k,rfl⟩:=Int.eq_ofNat_of_zero_le hl.1
  have hk:k<C.lines:=by have:=hl.2;omega
  simp only[Int.toNat_natCast]
  obtain⟨h1,h2⟩:=h k hk
  refine h.sL (Kq h1 rfl (by show(0:Int)≤0∧(0:Int)<4;omega) (.inl rfl)) ?_
  show((H k).1.waits++[As k]).length≤N+1
  simp;omega
 ·exact h.mono (Nat.le_succ N)
theorem pz {H:iJ} {n:aJ} (hC:C.Ok) (h:P1 C N H):P1 C (N+1) (gE C H n).1:=by
 have hc4:=hC.1
 unfold gE
 split
 ·exact h.mono (Nat.le_succ N)
 ·rename_i ht
  have ht:gA n.kind:=Decidable.not_not.1 ht
  split
  ·rename_i hr
   obtain⟨hc,hl⟩:=hr
   obtain⟨l,hnl⟩:=Int.eq_ofNat_of_zero_le hl.1
   have hk:l<C.lines:=by have:=hl.2;omega
   have e:n.line.toNat=l:=by omega
   simp only[e]
   obtain⟨h1,h2⟩:=h l hk
   have hI:=dh (x:=H l) h1 ht hnl (by omega)
   rw[hnl]
   refine h.sL hI ?_
   by_cases h4:n.kind=4
   ·unfold qZ.take
    rw[if_pos h4]
    split
    ·grind
    ·exact Nat.le_succ_of_le h2
   ·by_cases h5:n.kind=5
    ·unfold qZ.take
     rw[if_neg h4,if_pos h5]
     split
     ·grind
     ·simp only[qZ.K2,U1,S6];omega
    ·unfold qZ.take
     rw[if_neg h4,if_neg h5]
     show((H l).1.waits++[n]).length≤N+1
     simp;omega
  ·exact h.mono (Nat.le_succ N)
theorem Zl {H:iJ} {l:Int} {j:Int→Int×Bool} (h:P1 C N H):P1 C (N+1) (jO C H l j).1:=by
 unfold jO
 split
 ·rename_i hl
  obtain⟨k,rfl⟩:=Int.eq_ofNat_of_zero_le hl.1
  have hk:k<C.lines:=by have:=hl.2;omega
  simp only[Int.toNat_natCast]
  obtain⟨h1,h2⟩:=h k hk
  unfold qZ.begin
  split
  ·exact h.sL h1 (Nat.le_succ_of_le h2)
  ·rename_i hb
   cases hw:(H k).1.waits with
   |nil=>exact h.sL h1 (Nat.le_succ_of_le h2)
   |cons n w=>
    simp only
    have hn:=h1.waits n (by grind)
    obtain⟨a,b,c⟩:=cm (m:=(H k).2) (j:=j) (bc h1 hw) (show((H k).1.next w).busy=false from(by simpa using hb:(H k).1.busy=false)) hn.1 hn.2.1 hn.2.2
    refine h.sL a ?_
    rw[Te]
    show w.length≤N+1
    grind
 ·exact h.mono (Nat.le_succ N)
theorem ae {H:iJ} {g:Int} (h:P1 C N H):P1 C N (xI H g):=by
 intro l hl
 unfold xI
 split
 ·exact h l hl
 ·exact h l hl
theorem bu {n g:Int} (hn:0≤n∧n≤16) (hg:0≤g∧g≤100):0≤oG n g∧oG n g≤1000:=by unfold oG;omega
theorem pc {es:List kE} (hl:es.length≤16) (ho:∀x∈es,0≤x.owner∧x.owner≤4) {a:Int}:0≤(tY es a).1∧(tY es a).1≤1000000:=by
 have hown:∀k,0≤(es.getD k jU).owner∧(es.getD k jU).owner≤4:=by
  intro k
  rw[List.getD_eq_getElem?_getD]
  cases hk:es[k]? with
  |none=>show(0:Int)≤0∧(0:Int)≤4;omega
  |some x=>grind
 have hall:∀w∈iR es,0≤w∧w≤1000000:=by
  intro w hw
  unfold iR at hw
  rcases List.mem_append.1 hw with hw|hw
  ·obtain⟨j,hj,rfl⟩:=List.mem_map.1 hw
   have hj:=List.mem_range.1 hj
   unfold Qc
   split
   ·grind
   ·have:=bu (n:=es.length) (g:=((4*j:Nat):Int)) (by omega) (by omega)
    omega
  ·obtain⟨x,hx,rfl⟩:=List.mem_map.1 hw
   have:=ho x hx
   unfold a8
   split<;>omega
 unfold tY
 split
 ·simp_all
 grind
theorem yH (h:fC C N M) {i:Nat} {v c:Int} (hi:(i:Int)<C.aF):fC C (N+1) (M.cH i v c).1:=by
 unfold cR.cH
 dsimp only
 split
 ·exact h.mono (Nat.le_succ N)
 ·exact(h.wR (cv (h.A3 i hi))).R2
def KK (k:Int):Prop:=k=6∨k=7∨k=12∨k=13
theorem aAl {l:List aJ} (h:∀n∈l,n.kind≠12):∀n∈l,n.kind=12→0≤n.d0∧n.d0≤1000000:=fun n hn e=>absurd e (h n hn)
theorem noK {l:List aJ} (h:∀n∈l,¬KK n.kind):∀n∈l,n.kind=12→0≤n.d0∧n.d0≤1000000:=aAl fun n hn e=>h n hn (by unfold KK;omega)
theorem aBb (h:fC C N M) {i:Nat} {a:Mc.Ask} (hi:(i:Int)<C.aF):fC C (N+1) (M.call C i a).1:=by
 unfold cR.call
 dsimp only
 split
 ·exact yH h hi
 ·split
  ·exact h.mono (Nat.le_succ N)
  ·refine((h.dL (xT h.jE (aAl ?_))).nE (iy h.dY)).mono (Nat.le_succ N)
   intro n hn
   unfold Mk at hn
   obtain⟨k,_,rfl⟩:=List.mem_map.1 hn
   show(13:Int)≠12
   omega
theorem zj (h:fC C N M) {i:Nat} {g:Int} (hi:(i:Int)<C.aF):fC C (N+1) (M.walk C i g).1:=by
 unfold cR.walk
 dsimp only
 split
 ·exact h.mono (Nat.le_succ N)
 ·split
  ·exact h.mono (Nat.le_succ N)
  ·refine((h.dL (xT h.jE (aAl ?_))).Ao (dr (h.wQ i hi))).mono (Nat.le_succ N)
   intro n hn
   rw[List.mem_singleton.1 hn]
   show(6:Int)≠12
   omega
theorem aC3 {core:Int} {s:jF} {l w:Int} {wr:Bool}:∀n∈(want C core s l w wr).2.1,¬KK n.kind:=by
 intro n hn
 unfold want at hn
 split at hn
 ·cases hn
 ·split at hn
  ·cases hn
  ·split at hn
   ·cases hn
   ·split at hn
    ·cases hn
    ·unfold Aa at hn
     split at hn
     ·simp only[kX,List.nil_append,List.mem_singleton] at hn
      rw[hn];unfold KK;grind
     ·split at hn
      ·cases hn
      ·split at hn
       ·cases hn
       ·simp only[kX,List.mem_append,List.mem_singleton] at hn
        rcases hn with rfl|rfl
        ·unfold KK;dsimp only;omega
        ·unfold KK;grind
theorem aAs (h:fC C N M) {i:Nat} {l:Int} {wr:Bool} (hi:(i:Int)<C.aF):fC C (N+1) (M.want C i l wr).1:=by
 unfold cR.want
 dsimp only
 split
 ·exact h.mono (Nat.le_succ N)
 ·split
  ·exact h.mono (Nat.le_succ N)
  ·exact((h.dL (xT h.jE (noK aC3))).sY (au (h.Tw i hi))).mono (Nat.le_succ N)
theorem aA0 (h:fC C N M) {i:Nat} {l a o:Int} {x:Acc} (hi:(i:Int)<C.aF):fC C (N+1) (M.Pu C i l a o x).1:=by
 unfold cR.Pu
 dsimp only
 refine yH (h.sY ?_) hi
 have h1:mJ C (if x.read=true then sQ C (M.dC i) l a o else M.dC i):=by
  split
  ·exact Le (h.Tw i hi)
  ·exact h.Tw i hi
 split
 ·exact U2 h1
 ·exact h1
theorem rq (h:fC C N M) {i:Nat} {a:Acc} (hi:(i:Int)<C.aF):fC C (N+1) (M.access C i a).1:=by
 unfold cR.access
 split
 ·exact yH h hi
 ·dsimp only
  split
  ·exact h.mono (Nat.le_succ N)
  ·split
   ·exact zj h hi
   ·split
    ·exact yH h hi
    ·split
     ·exact aAs h hi
     ·exact aA0 h hi
theorem aB2 (h:fC C N M) {a:Int}:fC C (N+1) (M.step C a).1:=by
 unfold cR.step
 split
 ·exact h.mono (Nat.le_succ N)
 ·rename_i ha
  have ha:0≤a∧a<C.aF:=Decidable.not_not.1 ha
  have hi:((a.toNat:Nat):Int)<C.aF:=by omega
  dsimp only
  split
  ·exact h.mono (Nat.le_succ N)
  ·split
   ·exact h.mono (Nat.le_succ N)
   ·split
    ·rename_i r hr
     exact(h.wR (qd (h.A3 _ hi) hr)).R2
    ·split
     ·exact aBb h hi
     ·split
      ·exact rq h hi
      ·exact h.mono (Nat.le_succ N)
theorem N3 {r:Row} {line:Int} {d:Ln}:∀n∈(r.gO line d).2,¬KK n.kind:=by
 intro n hn
 unfold Row.gO at hn
 have e:∀s,(r.pS line s d).kind=8:=fun _=>rfl
 unfold KK
 grind
theorem H8 {line st:Int} {l:List Nat}:∀n∈gN line st l,¬KK n.kind:=by
 intro n hn
 unfold gN at hn
 obtain⟨k,_,rfl⟩:=List.mem_map.1 hn
 show ¬KK 11
 unfold KK;omega
theorem aBm {r:Row} {line:Int} {m:Ln}:∀n∈(r.rest line m).2,¬KK n.kind:=by
 intro n hn
 unfold Row.rest at hn
 have hg:= @N3
 grind
theorem Z1 {H:iJ} {n:aJ}:∀x∈(gE C H n).2.1,¬KK x.kind:=by
 intro x hx
 unfold gE at hx
 split at hx
 ·cases hx
 ·split at hx
  ·unfold qZ.take at hx
   split at hx
   ·split at hx<;>cases hx
   ·split at hx
    ·split at hx
     ·cases hx
     ·exact aBm x hx
    ·cases hx
  ·cases hx
theorem aDy {r:Row} {line:Int} {m:Ln} {n:aJ} {w:Int}:∀x∈(r.get line m n w).2,¬KK x.kind:=by
 intro x hx
 unfold Row.get at hx
 dsimp only at hx
 split at hx
 ·unfold Row.getM at hx
  split at hx
  ·exact H8 x hx
  ·exact N3 x hx
 ·unfold Row.aa at hx
  split at hx
  ·exact H8 x hx
  ·exact N3 x hx
theorem W1 {H:iJ} {l:Int} {j:Int→Int×Bool}:∀x∈(jO C H l j).2.1,¬KK x.kind:=by
 intro x hx
 unfold jO at hx
 split at hx
 ·unfold qZ.begin at hx
  split at hx
  ·cases hx
  ·split at hx
   ·cases hx
   ·dsimp only at hx
    unfold Row.begun at hx
    split at hx
    ·rw[List.mem_singleton.1 hx];show ¬KK 10;unfold KK;omega
    ·split at hx
     ·split at hx
      ·exact aDy x hx
      ·rw[List.mem_singleton.1 hx];show ¬KK 9;unfold KK;omega
     ·split at hx
      ·cases hx
      ·exact H8 x hx
 ·cases hx
theorem uc {core:Int} {s:jF} {n:aJ}:∀x∈(hU C core s n).2.1,¬KK x.kind:=by
 intro x hx
 have e:∀y,(mB core n y).kind=5:=fun y=>by unfold mB;split<;>rfl
 unfold hU vO E6 sF oF at hx
 repeat' split at hx
 all_goals (unfold KK;grind)
theorem fC.take (h:fC C N M) (hC:C.Ok) (hN:N≤2^29) {n:aJ} (hn:dq C n):uO C M n:=by
 obtain⟨h1,h2⟩:=Qg hn.wQ
 have hi:((n.core.toNat:Nat):Int)<C.aF:=by omega
 exact⟨h2,h.dY,h.home.h (by omega),h.Tw _ hi,(h.wQ _ hi).len hC,(h.wQ _ hi).2,hn.word⟩
theorem tu (h:fC C N M) (hC:C.Ok) {n:aJ} (hn:dq C n):fC C (N+2) (M.gA C n).1∧∀x∈(M.gA C n).2.1,x.kind=12→0≤x.d0∧x.d0≤1000000:=by
 obtain⟨h1,h2⟩:=Qg hn.wQ
 have hi:((n.core.toNat:Nat):Int)<C.aF:=by omega
 have hl:=h.dY.len
 have hgr:=hC.2.1
 unfold cR.gA
 split
 ·exact⟨(h.rP (Nat.le_succ N) (pz hC h.home)).mono (Nat.le_succ _),noK Z1⟩
 ·split
  ·refine⟨(h.sY (da ?_ (h.Tw _ hi))).mono (by omega),noK uc⟩
   intro h8
   have:=Y4 hn.wQ h8
   omega
  ·split
   ·refine⟨h.mono (by omega),fun x hx _=>?_⟩
    rw[List.mem_singleton.1 hx]
    exact pc (by omega) h.dY.own
   ·split
    ·refine⟨(h.Ao (gq hC (h.wQ _ hi))).mono (by omega),fun x hx e=>?_⟩
     dsimp only at hx
     split at hx
     ·cases hx
     ·rw[List.mem_singleton.1 hx] at e
      exact absurd e (by show(6:Int)≠12;omega)
    ·split
     ·refine⟨(h.Ao (vt (h.wQ _ hi))).mono (by omega),fun x hx e=>?_⟩
      rw[List.mem_singleton.1 hx] at e
      exact absurd e (by show(7:Int)≠12;omega)
     ·split
      ·refine⟨?_,fun x hx _=>by cases hx⟩
       dsimp only
       split
       ·exact(h.nE (E2 h.dY)).rP (by omega) (Ks (Ks h.home))
       ·exact(h.nE (E2 h.dY)).mono (by omega)
      ·exact⟨h.mono (by omega),fun x hx _=>by cases hx⟩
theorem dm (h:fC C N M) (hC:C.Ok) {a b c:Int}:fC C (N+2) (M.uP C a b c).1:=by
 unfold cR.uP
 dsimp only
 split
 ·exact h.mono (by omega)
 ·rename_i he
  obtain⟨h1,h2⟩:=tu h hC (Tn (a:=a) (b:=b) (c:=c) h.jE (Decidable.not_not.1 he)).1
  split
  ·exact h.mono (by omega)
  ·split
   ·exact h.mono (by omega)
   ·exact h1.dL (xT (Q1 h.jE) h2)
theorem vf (h:fC C N M) {a:Int}:fC C (N+2) (M.begin C a).1:=by
 unfold cR.begin
 dsimp only
 split
 ·exact h.mono (by omega)
 ·split
  ·exact h.mono (by omega)
  ·exact((h.dL (xT h.jE (noK W1))).rP (Nat.le_succ N) (Zl h.home)).mono (by omega)
theorem jk (h:fC C N M) {a:Int}:fC C (N+2) (M.finish C a).1:=by
 obtain⟨h1,h2⟩:=Sh (g:=a) h.dY
 unfold cR.finish
 split
 ·exact h.mono (by omega)
 ·split
  ·exact h.mono (by omega)
  ·dsimp only
   split
   ·exact h.mono (by omega)
   ·rename_i u hu
    have hc:=h2 u hu
    refine(yH (N:=N) ?_ (by omega)).mono (by omega)
    split
    ·exact(h.nE h1).rP (Nat.le_refl N) (ae h.home)
    ·exact h.nE h1
theorem yj (h:fC C N M) (hC:C.Ok) {d:Do}:fC C (N+2) (M.uW C d).1:=by
 unfold cR.uW
 split
 ·exact(aB2 h).mono (by omega)
 ·split
  ·exact dm h hC
  ·split
   ·exact vf h
   ·split
    ·exact jk h
    ·exact h.mono (by omega)
end Go.Mc
end
section
open Go Go.Ab
attribute [local irreducible] bA Br pN uC uU Dp nH xW nQ Tx gZ mQ rE sP qX lA B8 uK Y9 dw Tv Sl dj Ty Ry U9 Yi lJ pF vW jB copyV jC wY ft Zd Iw lI P0 Wx en qE uG Be Dk Cl zV Xm uE sS lC gK cS cC
section
namespace Go.Proofs.YtajjljbmfdboaaaGreatDoor
open Go Go.Ab Go.Hm Go.At
set_option maxRecDepth 100000
variable {G:Bg} {h:AH} {L L':List HP} {Q:Value→AH→Prop}
theorem jt {C:bL} (hC:C.Ok) {mb l:Nat} {mem:Nat→Ln} (h0:l<C.lines) (hs:Hs G h (eN G C.lines mb C mem::L)):
  ∃(b o cap:Nat) (r w:Int) (b2 o2 cp:Nat) (H:HP),Hs G h (aE mb 0 (C.enc++[.slice (some ⟨b,o,none⟩) C.aI.toNat cap])::aE b (o+(l % C.aI.toNat)*3) [I r,I w,.slice (some ⟨b2,o2,none⟩) (gL C.lines C.aI.toNat (l % C.aI.toNat)) cp]::aE b2 (o2+l/C.aI.toNat*2) (J5 (mem l))::H::L)∧
   ∀v h' M,Hs G h' (aE mb 0 (C.enc++[.slice (some ⟨b,o,none⟩) C.aI.toNat cap])::aE b (o+(l % C.aI.toNat)*3) [I r,I w,.slice (some ⟨b2,o2,none⟩) (gL C.lines C.aI.toNat (l % C.aI.toNat)) cp]::aE b2 (o2+l/C.aI.toNat*2) (J5 v)::H::M)→Hs G h' (eN G C.lines mb C (bT mem l v)::M):=by
 have hb:=bL.bk hC
 obtain⟨b,o,cap,hs⟩:=uA hs
 have hs:=(hs.front (dD C.aI.toNat fun i=>fF C.lines C.aI.toNat b (o+i*3) i mem)).kY (l % C.aI.toNat) (Nat.mod_lt _ hb.2.1)
 obtain⟨r,w,a,cp,hs⟩:=zA hs
 have hat:=Gk hb.2.1 h0
 obtain⟨b2,o2,rfl,H,hs,hback⟩:=Hs.jg (O8 (B:=C.aI.toNat) (i:=l % C.aI.toNat) (mem:=mem)) hat (hs.front (dB 2 155 a cp (gL C.lines C.aI.toNat (l % C.aI.toNat),(List.range (gL C.lines C.aI.toNat (l % C.aI.toNat))).flatMap (J6 C.aI.toNat (l % C.aI.toNat) mem))))
 rw[qj hb.2.1] at hs
 refine⟨b,o,cap,r,w,b2,o2,cp,sp [H,sp (((List.range C.aI.toNat).erase (l % C.aI.toNat)).map fun i=>fF C.lines C.aI.toNat b (o+i*3) i mem),hole G 3 297 (some ⟨b,o,none⟩) cap C.aI.toNat b o],hs.to,?_⟩
 intro v h' M hs
 have hs:=(hs.front (sp [H,sp (((List.range C.aI.toNat).erase (l % C.aI.toNat)).map fun i=>fF C.lines C.aI.toNat b (o+i*3) i mem),hole G 3 297 (some ⟨b,o,none⟩) cap C.aI.toNat b o])).wP
 have hs:=hback _ _ _ rfl rfl (hs.cA (aE b2 (o2+l/C.aI.toNat*2) (J5 v)) H)
 rw[Nq hb.2.1] at hs
 have hs:=oP (hs.sg (b:=b) (o:=o+l % C.aI.toNat*3) (c:=[I r,I w,.slice (some ⟨b2,o2,none⟩) (gL C.lines C.aI.toNat (l % C.aI.toNat)) cp]) rfl)
 exact qQ (b:=b) (o:=o) (cap:=cap) ((hs.oR (n:=C.aI.toNat) (i:=l % C.aI.toNat) (fun i=>fF C.lines C.aI.toNat b (o+i*3) i mem) (fun i=>fF C.lines C.aI.toNat b (o+i*3) i (bT mem l v)) (Nat.mod_lt _ hb.2.1) (fun i hi hne=>by simp only[fF,oe hi hne])).to)
theorem Xq {C:bL} (hC:C.Ok) {mb w:Nat} {mem:Nat→Ln} (hl:Ob G 0 fB) (hs:Hs G h (eN G C.lines mb C mem::L)) (h0:w<C.lines*2)
  (hk:∀(b2 o2:Nat) (H:HP) h',Hs G h' (aE b2 o2 (J5 (mem (w/2)))::H::L)→(∀v h' M,Hs G h' (aE b2 o2 (J5 v)::H::M)→Hs G h' (eN G C.lines mb C (bT mem (w/2) v)::M))→Q (.tuple ⟨[pt b2 o2 (0+w % 2*1),I 0]⟩) h'):Cl Pr K 144 [pt mb 0 0,I w] h Q:=by
 have hb:=bL.bk hC
 have h1:w/2<C.lines:=by omega
 obtain⟨b,o,cap,r,w0,b2,o2,cp,H,hs,hback⟩:=jt hC h1 hs
 refine cW (cN (bV (bW (aB (aA (aQ (b:=mb) (o:=0) hs (by decide) (l:=C.enc) rfl rfl (Eb hC hl hs fun h hs=>?_)))))))
 rw[if_pos (by omega)]
 refine aG rfl (aG rfl (aG rfl (aY (aK (by omega) (bW ?_)))))
 rw[Int.toNat_natCast]
 refine sM hC hl hs h1 fun h hs=>aG rfl (aG rfl (aG rfl (aY (aK (by omega) (aB (aA (aC (b:=b) (o:=o+(w/2) % C.aI.toNat*3) hs rfl ?_)))))))
 have hat:=Gk hb.2.1 h1
 refine dK hat (fQ (by omega) ?_)
 refine hk _ _ (sp [aE mb 0 (C.enc++[.slice (some ⟨b,o,none⟩) C.aI.toNat cap]),aE b (o+(w/2 % C.aI.toNat)*3) [I r,I w0,.slice (some ⟨b2,o2,none⟩) (gL C.lines C.aI.toNat (w/2 % C.aI.toNat)) cp],H]) _ hs.to fun v h' M hs=>?_
 have hs:=(hs.front (sp [aE mb 0 (C.enc++[.slice (some ⟨b,o,none⟩) C.aI.toNat cap]),aE b (o+(w/2 % C.aI.toNat)*3) [I r,I w0,.slice (some ⟨b2,o2,none⟩) (gL C.lines C.aI.toNat (w/2 % C.aI.toNat)) cp],H])).wP
 exact hback v h' M hs.to
theorem aDj (l:Ln) (w:Nat):(J5 l)[0+w % 2*1]?=some (I (if w % 2=0 then l.1 else l.2)):=by
 have:w % 2=0∨w % 2=1:=by omega
 rcases this with h|h<;>rw[h]<;>rfl
theorem br {C:bL} (hC:C.Ok) {mb w:Nat} {mem:Nat→Ln} (hl:Ob G 0 fB) (hs:Hs G h L) [m:Has (eN G C.lines mb C) L mem L'] (h0:w<C.lines*2)
  (hk:∀h',Hs G h' (eN G C.lines mb C mem::L')→Q (.tuple ⟨[I (Mn mem w),I 0]⟩) h'):Cl Pr K 152 [pt mb 0 0,I w] h Q:=by
 refine cW (Xq hC hl (m.of hs) h0 fun b2 o2 H h hs hback=>aG rfl (aG rfl (aY (aK (by omega) (aB (aC (b:=b2) (o:=o2) hs (aDj _ w) ?_))))))
 have hs:=hback _ _ _ hs
 rw[tT] at hs
 have:=hk _ hs
 unfold Mn at this
 split at this
 ·rename_i e;rw[if_pos e];exact this
 ·rename_i e;rw[if_neg e];exact this
theorem D5 {C:bL} (hC:C.Ok) {mb w:Nat} {v:Int} {mem:Nat→Ln} (hl:Ob G 0 fB) (hs:Hs G h L) [m:Has (eN G C.lines mb C) L mem L'] (h0:w<C.lines*2)
  (hk:∀h',Hs G h' (eN G C.lines mb C (Mj mem w v)::L')→Q (I 0) h'):Cl Pr K 86 [pt mb 0 0,I w,I v] h Q:=by
 refine cW (Xq hC hl (m.of hs) h0 fun b2 o2 H h hs hback=>aG rfl (aG rfl (aY (aK (by omega) (bW (aB ?_))))))
 have e:w % 2=0∨w % 2=1:=by omega
 rcases e with e|e
 ·rw[e]
  refine bI (b:=b2) (o:=o2) hs rfl rfl rfl rfl fun h hs=>?_
  have hs:=hback (v,(mem (w/2)).2) _ _ hs
  have:=hk _ (by unfold Mj;rw[if_pos e];exact hs)
  exact this
 ·rw[e]
  refine bI (b:=b2) (o:=o2) hs rfl rfl rfl rfl fun h hs=>?_
  have hs:=hback ((mem (w/2)).1,v) _ _ hs
  have:=hk _ (by unfold Mj;rw[if_neg (by omega)];exact hs)
  exact this
end Go.Proofs.YtajjljbmfdboaaaGreatDoor
end
section
namespace Go.Proofs.YtajjljbmfdboaaaGreatDoor.A
open Go Go.Ab Go.Hm Go.At Go.Is
set_option maxRecDepth 100000
variable {G:Bg} {h:AH} {L L':List HP} {Q:Value→AH→Prop}
theorem R8 {v:Value} {a b:Int} {l:List Int} {e:TypeId} (hl:l.length<1000) (hk:∀h',Hs G h' (yK G 1 e v (l.map fun x=>[I x])::L)→Q (.bool (within a b l)) h'):
  ∀(f i:Nat) (h:AH),i+f=l.length→within a b l=within a b (l.drop i)→Hs G h (yK G 1 e v (l.map fun x=>[I x])::L)→Dd 92 1 [] Q [(I a),(I b),v,(I l.length),(I i)] h:=by
 intro f
 induction f with
 |zero=>
  intro i h hi he hs
  rw[List.drop_of_length_le (by omega)] at he
  refine bW (aN (aK (by omega) ?_))
  have:=hk _ hs
  rw[he] at this
  exact this
 |succ f ih=>
  intro i h hi he hs
  obtain⟨x,hx,hd⟩:=lF (l:=l) (i:=i) (by omega)
  rw[hd] at he
  have e1:within a b (x::l.drop (i+1))=(decide (a≤x∧x≤b)&&within a b (l.drop (i+1))):=rfl
  rw[e1] at he
  refine bW (aN (bP (by omega) (bW (xL hs (x:=[I x]) (by simp[hx]) rfl (aN (aR (fun c=>?_) (fun c=>iS (aR (fun d=>?_) (fun d=>?_)))))))))
  ·have:=hk _ hs
   rw[he,decide_eq_false (by omega)] at this
   exact this
  ·have:=hk _ hs
   rw[he,decide_eq_false (by omega)] at this
   exact this
  ·rw[decide_eq_true (by omega),Bool.true_and] at he
   exact bW (bE (by omega) (ih (i+1) h (by omega) he hs))
theorem Dz {v:Value} {a b:Int} {l:List Int} {e:TypeId} (hl:l.length<1000) (hs:Hs G h (yK G 1 e v (l.map fun x=>[I x])::L)) (hk:∀h',Hs G h' (yK G 1 e v (l.map fun x=>[I x])::L)→Q (.bool (within a b l)) h'):Cl Pr K 92 [I a,I b,v] h Q:=by
 obtain⟨ta,tc,ht⟩:=uF hs
 refine cW ?_
 have h0:=R8 (L:=L) (a:=a) (b:=b) hl hk l.length 0 h (by omega) rfl hs
 rw[ht] at h0 ⊢
 simp only[List.length_map] at h0 ⊢
 exact bZ h0
theorem vK {ad:Addr} {a b x:Int} {e:TypeId} (hs:Hs G h (dB 1 e (some ad) 1 (1,[I x])::L)) (hk:∀h',Hs G h' L→Q (.bool (decide (a≤x∧x≤b))) h'):Cl Pr K 92 [I a,I b,.slice (some ad) 1 1] h Q:=by
 have hs:=jy (l:=[x].map fun x=>[I x]) (by simp) rfl rfl hs
 refine Dz (l:=[x]) (by simp) hs fun h' hs=>?_
 have:=hk _ hs.tail
 rw[show within a b [x]=decide (a≤x∧x≤b) by simp[within]]
 exact this
end Go.Proofs.YtajjljbmfdboaaaGreatDoor.A
end
section
namespace Go.Proofs.YtajjljbmfdboaaaGreatDoor.A
open Go Go.Ab Go.Hm Go.At Go.Is
set_option maxRecDepth 100000
variable {G:Bg} {h:AH} {L L':List HP} {Q:Value→AH→Prop}
theorem me {c w o t:Int} (hs:Hs G h L) (hk:∀h',Hs G h' L→Q (.tuple ⟨[I (jW c w o t).1,.bool (jW c w o t).2.1,I (jW c w o t).2.2]⟩) h'):Cl Pr K 241 [I c,I w,I o,I t] h Q:=by
 refine cW (aH (c:=[I w]) rfl (dE hs rfl rfl rfl fun a h hs=>vK hs fun h hs=>bS (dQ (aR (fun h1=>?_) (fun h1=>?_)))))
 rotate_left
 ·have:=hk _ hs
  unfold jW at this
  rw[if_pos (by omega)] at this
  exact this
 refine aH (c:=[I o]) rfl (dE hs rfl rfl rfl fun a h hs=>vK hs fun h hs=>bS (dQ (aR (fun h2=>?_) (fun h2=>?_))))
 rotate_left
 ·have:=hk _ hs
  unfold jW at this
  rw[if_pos (by omega)] at this
  exact this
 unfold jW at hk
 rw[if_neg (by omega)] at hk
 refine bW (bH (aR (fun c1=>?_) (fun n1=>bW (bH (aR (fun c1=>?_) (fun n2=>bW (bH (aR (fun c1=>?_) (fun n3=>bW (bH (aR (fun c1=>?_) (fun n4=>?_))))))))))))
 ·rw[if_pos c1] at hk
  refine bW (aY (aR (fun g1=>?_) (fun g1=>?_)))
  ·rw[if_pos g1] at hk;exact hk _ hs
  rw[if_neg g1] at hk
  refine bW (aY (aR (fun g2=>?_) (fun g2=>?_)))
  ·rw[if_pos g2] at hk;exact hk _ hs
  rw[if_neg g2] at hk
  refine bW (aH (c:=[I t]) rfl (dE hs rfl rfl rfl fun a h hs=>vK hs fun h hs=>bS (dQ (aR (fun g3=>?_) (fun g3=>?_)))))
  ·rw[if_neg (by omega)] at hk;exact hk _ hs
  ·rw[if_pos (by omega)] at hk;exact hk _ hs
 ·rw[if_neg n1,if_pos c1] at hk
  refine bW (bH (aR (fun g1=>?_) (fun g1=>?_)))
  ·rw[if_pos g1] at hk;exact hk _ hs
  rw[if_neg g1] at hk
  refine bW (aY (aR (fun g2=>aY (aR (fun g3=>?_) (fun g3=>?_))) (fun g2=>?_)))
  ·rw[if_pos (by omega)] at hk;exact hk _ hs
  ·rw[if_neg (by omega)] at hk;exact hk _ hs
  ·rw[if_neg (by omega)] at hk;exact hk _ hs
 ·rw[if_neg n1,if_neg n2,if_pos c1] at hk
  refine bW (bH (aR (fun g1=>?_) (fun g1=>aY (aR (fun g2=>?_) (fun g2=>?_)))))
  ·rw[if_pos (by omega)] at hk;exact hk _ hs
  ·rw[if_pos (by omega)] at hk;exact hk _ hs
  rw[if_neg (by omega)] at hk
  refine bW (aH (c:=[I t]) rfl (dE hs rfl rfl rfl fun a h hs=>vK hs fun h hs=>bS (dQ (aR (fun g3=>bH (aR (fun g4=>?_) (fun g4=>?_))) (fun g3=>?_)))))
  ·rw[if_pos (by omega)] at hk;exact hk _ hs
  ·rw[if_neg (by omega)] at hk;exact hk _ hs
  ·rw[if_pos (by omega)] at hk;exact hk _ hs
 ·rw[if_neg n1,if_neg n2,if_neg n3,if_pos c1] at hk
  refine bW (bH (aR (fun g1=>?_) (fun g1=>?_)))
  ·rw[if_pos g1] at hk;exact hk _ hs
  rw[if_neg g1] at hk
  refine bW (aY (aR (fun g2=>?_) (fun g2=>?_)))
  ·rw[if_pos g2] at hk;exact hk _ hs
  ·rw[if_neg g2] at hk;exact hk _ hs
 ·rw[if_neg n1,if_neg n2,if_neg n3,if_neg n4] at hk;exact hk _ hs
def xZ (p:List Ins):List Value:=p.flatMap Ins.enc
theorem uj {p:List Ins} {i:Nat} (hi:i<p.length):((xZ p).drop (i*4)).take 4=(p.getD i ⟨0,0,0,0⟩).enc:=by
 have h1:=(vT (W:=4) (l:=p.map Ins.enc) (i:=i) (x:=(p.getD i ⟨0,0,0,0⟩).enc) (by simp[Ins.enc]) (by simp[List.getD_eq_getElem?_getD,List.getElem?_eq_getElem hi])).1
 rw[←h1]
 rfl
theorem ua {p:List Ins} {i:Nat} (hi:i<p.length):(xZ p)[i*4+0]?=some (I (p.getD i ⟨0,0,0,0⟩).op):=by
 have h1:=uj hi
 have h2:(((xZ p).drop (i*4)).take 4)[0]?=some (I (p.getD i ⟨0,0,0,0⟩).op):=by rw[h1];rfl
 rw[List.getElem?_take_of_lt (by omega),List.getElem?_drop] at h2
 exact h2
theorem Hx {s:aX} {v:Value} {r:Int} (h0:0≤r) (h4:r<4):(s.core++[v])[0+0+0+r.toNat*1]?=some (I (s.cZ r.toNat)):=by
 have:r=0∨r=1∨r=2∨r=3:=by omega
 rcases this with rfl|rfl|rfl|rfl<;>rfl
theorem qi {s:aX} {v:Value} {r x:Int} (h0:0≤r) (h4:r<4):dL (s.core++[v]) (0+0+0+r.toNat*1) [I x]=(s.dN r x).core++[v]:=by
 have:r=0∨r=1∨r=2∨r=3:=by omega
 rcases this with rfl|rfl|rfl|rfl<;>rfl
theorem A8 {s:aX} {v:Value} {b q:Nat} {r x:Int} {k:AH→Prop} (hs:Hs G h L) [m:Has (aE b q) L (s.core++[v]) L'] (h0:0≤r) (h4:r<4) (hk:∀h',Hs G h' (aE b q ((s.dN r x).core++[v])::L')→k h'):bA (uU h 1 (pt b q (0+0+0+r.toNat*1)) (I x)) k:=by
 refine bI (b:=b) (o:=q) hs rfl ?_ rfl rfl fun h hs=>hk h ?_
 ·have:r=0∨r=1∨r=2∨r=3:=by omega
  rcases this with rfl|rfl|rfl|rfl<;>rfl
 ·rw[qi h0 h4] at hs
  exact hs
theorem Gc {s:aX} {b q c:Nat} {a:Option Addr} {at':Int} (h0:0≤at') (hs:Hs G h (aE b q (s.core++[.slice a s.prog.length c])::dB 4 86 a c (s.prog.length,xZ s.prog)::L))
  (hk:∀h',Hs G h' (aE b q ((s.nT at').core++[.slice a s.prog.length c])::dB 4 86 a c (s.prog.length,xZ s.prog)::L)→Q (.tuple ⟨[]⟩) h'):Cl Pr K 96 [pt b q 0,I at'] h Q:=by
 refine cW (aB (aA (aA (bI hs rfl rfl rfl rfl fun h hs=>aB (aA (aC (b:=b) (o:=q) hs rfl (bZ (dR (aR (fun c1=>?_) (fun c1=>?_))))))))))
 ·refine aB (aA (aA (bI (b:=b) (o:=q) hs rfl rfl rfl rfl fun h hs=>?_)))
  refine hk _ ?_
  have e:s.nT at'={s with at':=at',over:=true}:=by unfold aX.nT Cr;rw[if_pos c1]
  rw[e]
  exact hs
 ·obtain⟨n,rfl⟩:∃n:Nat,at'=n:=⟨at'.toNat,by omega⟩
  refine aB (aA (aC (b:=b) (o:=q) hs rfl (j0 (W:=4) (e:=86) (cs:=xZ s.prog) hs (by omega) (ua (by omega)) (bH (aB (aA (aA (bI (b:=b) (o:=q) hs rfl rfl rfl rfl fun h hs=>?_))))))))
  refine hk _ ?_
  have e:s.nT n={s with at':=n,over:=decide ((s.prog.getD n ⟨0,0,0,0⟩).op=11)}:=by unfold aX.nT Cr;rw[if_neg c1];rfl
  rw[e]
  exact hs
end Go.Proofs.YtajjljbmfdboaaaGreatDoor.A
end
section
namespace Go.Proofs.YtajjljbmfdboaaaGreatDoor
open Go Go.Ab Go.Hm Go.At Go.Mc
theorem pD {m:Mon} {g:Nat}:g∈m.running↔g<16∧(m.runs g).isSome:=by unfold Mon.running;simp[List.mem_filter]
set_option maxRecDepth 100000
variable {G:Bg} {h:AH} {L L' M:List HP} {Q:Value→AH→Prop} {C:bL} {m:Mon} {p:Nat}
theorem zK {t:Nat} {g:Int} (hs:Hs G h L) [mm:Has (fZ t) L m.fY L'] (hk:∀h',Hs G h' (fZ t m.fY::L')→Q (if m.has g then .tuple ⟨[.agg ⟨(m.zT g).enc⟩,I 0]⟩ else .tuple ⟨[.agg ⟨jU.enc⟩,I 10]⟩) h'):Cl Pr K 72 [pt t 0 0,I g] h Q:=
 Zc hs hk
abbrev kr (C:bL) (m:Mon) (p p2 p3 p4 p5:Nat) (a:Mc.Ask) (e:Nat→Value) (d l:Nat) (st:LoopState×Option Code) (b:Bool) (er:Int) (pr:Prop):HP:=
 sp [uI pr,jY Pr 190 (kD 1018) 113 e d l st,sp [aE p2 0 [pt p 0 0],aE p3 0 a.enc,aE p4 0 [.bool b],aE p5 0 [I er]],fD C p m]
theorem V9 {a:Mc.Ask} (hC:C.Ok) (hm:gB C m) (hs:Hs G h L) [mm:Has (fD C p) L m L'] (hk:∀h',Hs G h' (fD C p (m.call C.aF a).1::L')→Q (.tuple ⟨[.bool (m.call C.aF a).2.1,I (m.call C.aF a).2.2]⟩) h'):Cl Pr K 190 [pt p 0 0,.agg ⟨a.enc⟩] h Q:=by
 have hc:=hC.1
 have hgr:=hC.2.1
 have hlen:=hm.len
 have hs:=mm.of hs
 unfold Mon.call at hk
 refine cW (dI hs fun p2 h hs=>dI hs fun p3 h hs=>bN hs fun p4 h hs=>bN hs fun p5 h hs=>aC (b:=p2) (o:=0) hs rfl (cN (bV ?_)))
 have bad:∀{h:AH} {M:List HP} (e:Int),[Sub M (fD C p m::L')]→Hs G h (aE p4 0 [.bool false]::aE p5 0 [I 0]::M)→(∀h',Hs G h' (fD C p m::L')→Q (.tuple ⟨[.bool false,I e]⟩) h')→
   bA (uU h 1 (pt p4 0 0) (.bool false)) fun h5=>bA (uU h5 1 (pt p5 0 0) (I e)) fun h6=>bA (cC [] h6) fun h7=>bA (pN h7 (pt p4 0 0)) fun v8=>bA (pN h7 (pt p5 0 0)) fun v9=>Q (.tuple ⟨[v8,v9]⟩) h7:=by
  intro h M e _ hs hq
  exact aZ (b:=p4) hs rfl rfl rfl rfl fun h hs=>aZ (b:=p5) hs rfl rfl rfl rfl fun h hs=>jI (aC (b:=p4) (o:=0) hs rfl (aC (b:=p5) (o:=0) hs rfl (hq _ hs.to)))
 obtain⟨t,b,hs⟩:=jQ (hs.front (fD C p m))
 have shut:∀{h:AH} {M:List HP},Hs G h (aE p 0 [pt t 0 0,I C.aF,fJ b]::fZ t m.fY::gX b (fG m.runs)::M)→Hs G h (fD C p m::M):=fun hs=>dM hs
 refine bW (aU hs fun r1 h hs=>aA (aC (b:=p3) (o:=0) hs rfl (aN (aR (fun h1=>?_) (fun h1=>?_)))))
 ·rw[if_pos (by omega)] at hk
  have hs:=shut (hs.cJ (aE p 0 [pt t 0 0,I C.aF,fJ b]) (fZ t m.fY) (gX b (fG m.runs)))
  exact bad (M:=fD C p m::L') 1 hs.to hk
 refine aA (aC (b:=p3) (o:=0) hs rfl (aC (b:=p2) (o:=0) hs rfl (aB (aA (aC (b:=p) (o:=0) hs rfl (dR (aR (fun h2=>?_) (fun h2=>?_))))))))
 ·rw[if_pos (by omega)] at hk
  have hs:=shut (hs.cJ (aE p 0 [pt t 0 0,I C.aF,fJ b]) (fZ t m.fY) (gX b (fG m.runs)))
  exact bad (M:=fD C p m::L') 1 hs.to hk
 rw[if_neg (by omega)] at hk
 refine bW (aU hs fun r2 h hs=>aC (b:=p2) (o:=0) hs rfl (aB (aA (aC (b:=p) (o:=0) hs rfl (aA (aC (b:=p3) (o:=0) hs rfl (zK (m:=m) hs fun h hs=>?_)))))))
 by_cases hh:m.has a.cE
 rotate_left
 ·rw[if_neg hh]
  rw[if_pos hh] at hk
  refine aG rfl (aG rfl (kC (r:=r2) (i:=10) (n:=13) (D:=[]) hs rfl rfl fun p12 h hs=>aZ (b:=p12) hs rfl rfl rfl rfl fun h hs=>cQ (aG rfl gC) (aY (bP (by omega) ?_))))
  have hs:=shut (hs.cJ (aE p 0 [pt t 0 0,I C.aF,fJ b]) (fZ t m.fY) (gX b (fG m.runs)))
  exact bad (M:=fD C p m::L') 10 hs.to hk
 rw[if_pos hh]
 rw[if_neg (by simpa using hh)] at hk
 have how:=hm.zT hh
 have hgn:0≤a.cE∧a.cE<C.bB:=by unfold Mon.has at hh;omega
 refine aG rfl (aG rfl (kC (r:=r2) (i:=10) (n:=13) (D:=[]) hs rfl rfl fun p12 h hs=>aZ (b:=p12) hs rfl rfl rfl rfl fun h hs=>cQ (aG rfl gC) (aY (aK (by omega) ?_))))
 have hs:=shut (hs.cJ (aE p 0 [pt t 0 0,I C.aF,fJ b]) (fZ t m.fY) (gX b (fG m.runs)))
 refine bW (aC (b:=p2) (o:=0) hs rfl (aA (aC (b:=p3) (o:=0) hs rfl (I2 (C:=C) (m:=m) hs fun h hs=>aY (aR (fun h3=>?_) (fun h3=>?_))))))
 ·rw[if_pos h3] at hk
  exact bad (M:=fD C p m::L') 17 hs.to hk
 rw[if_neg h3] at hk
 refine bW (aC (b:=p2) (o:=0) hs rfl (Aw (C:=C) (m:=m) hs fun q qa qc h hs=>jX hs fun d h hs=>?_))
 intro e he
 refine mG hs fun l h hs=>rT rfl ?_
 have hs:Hs G h (H.F1 3 q qa qc (m.running.map fun k:Nat=>(k:Int))::kr C m p p2 p3 p4 p5 a e d l (.ready,none) false 0 (∀g∈([]:List Int),m.kH a.core g.toNat=false)::sp [mk d (),aE p12 0 (m.zT a.cE).enc]::L'):=by
  have hs:=(hs.cA (mk d ()) (aE p12 0 (m.zT a.cE).enc)).zB
  have hs:=(hs.lD (aE p2 0 [pt p 0 0]) (aE p3 0 a.enc) (aE p4 0 [.bool false]) (aE p5 0 [I 0])).Ge
  have hs:=hs.cJ (jY Pr 190 (kD 1018) 113 e d l (.ready,none)) (sp [aE p2 0 [pt p 0 0],aE p3 0 a.enc,aE p4 0 [.bool false],aE p5 0 [I 0]]) (fD C p m)
  have hs:=Hs.Ge (Hs.N9 (p:=∀g∈([]:List Int),m.kH a.core g.toNat=false) (by simp) hs)
  exact hs.to
 refine(H.xV (e:=3) (p:=q) (a:=qa) (c:=qc) (xs:=m.running.map fun k:Nat=>(k:Int)) (by have:=List.length_filter_le (fun g=>(m.runs g).isSome) (List.range 16);simp[Mon.running] at this ⊢;omega)).fold
  (X:=fun done=>kr C m p p2 p3 p4 p5 a e d l (.ready,none) false 0 (∀g∈done,m.kH a.core g.toNat=false)) (Z:=fun _ x=>kr C m p p2 p3 p4 p5 a e d l (.done,some .ret) false 13 (x∈(m.running.map fun k:Nat=>(k:Int))∧m.kH a.core x.toNat=true)) hs ?_ ?_ ?_
 ·intro done x h M hp hs
  obtain⟨hd,hs⟩:=fP hs
  have hs:=hs.wP
  obtain⟨k,hkr,rfl⟩:∃k∈m.running,(k:Int)=x:=by
   obtain⟨ys,hys⟩:=hp
   have:x∈m.running.map fun k:Nat=>(k:Int):=by rw[←hys];simp
   obtain⟨k,h1,h2⟩:=List.mem_map.1 this
   exact⟨k,h1,h2⟩
  obtain⟨r,hr⟩:=Option.isSome_iff_exists.1 (pD.1 hkr).2
  have hrr:m.run (k:Int)=some r:=by unfold Mon.run;rw[if_pos (by omega)];exact hr
  have hs:=(hs.front (sp [aE p2 0 [pt p 0 0],aE p3 0 a.enc,aE p4 0 [.bool false],aE p5 0 [I 0]])).u0
  refine rW (rS hs) he (gU hs fun h hs=>aU hs fun rr h hs=>?_)
  obtain⟨t,b,hs⟩:=jQ (hs.front (fD C p m))
  refine aC (b:=p2) (o:=0) hs rfl (aB (aA (aC (b:=p) (o:=0) hs rfl (Lm (m:=m) hs ?_))))
  rw[hrr]
  refine Gd (m:=lX r) rfl rfl (Gd (m:=yN r) rfl rfl (Xn rfl (aA (aC (b:=p3) (o:=0) hs rfl (bH (aR (fun c1=>?_) (fun c1=>?_)))))))
  ·refine aZ (b:=p4) hs rfl rfl rfl rfl fun h hs=>aZ (b:=p5) hs rfl rfl rfl rfl fun h hs=>iE hs fun h hs=> .inr ⟨rfl,?_⟩
   have hs:=dM (hs.cJ (aE p 0 [pt t 0 0,I C.aF,fJ b]) (fZ t m.fY) (gX b (fG m.runs)))
   have hs:=(hs.lD (aE p2 0 [pt p 0 0]) (aE p3 0 a.enc) (aE p4 0 [.bool false]) (aE p5 0 [I 13])).Ge
   have hs:=hs.cJ (jY Pr 190 (kD 1018) 113 e d l (.done,some .ret)) (sp [aE p2 0 [pt p 0 0],aE p3 0 a.enc,aE p4 0 [.bool false],aE p5 0 [I 13]]) (fD C p m)
   refine(Hs.Ge (Hs.N9 (p:=((k:Int)∈(m.running.map fun k:Nat=>(k:Int))∧m.kH a.core ((k:Int)).toNat=true)) ⟨List.mem_map.2 ⟨k,hkr,rfl⟩,?_⟩ hs)).to
   unfold Mon.kH;rw[Int.toNat_natCast,hr];exact decide_eq_true c1
  ·refine iE hs fun h hs=> .inl ⟨rfl,?_⟩
   have hs:=dM (hs.cJ (aE p 0 [pt t 0 0,I C.aF,fJ b]) (fZ t m.fY) (gX b (fG m.runs)))
   have hs:=(hs.lD (aE p2 0 [pt p 0 0]) (aE p3 0 a.enc) (aE p4 0 [.bool false]) (aE p5 0 [I 0])).Ge
   have hs:=hs.cJ (jY Pr 190 (kD 1018) 113 e d l (.ready,none)) (sp [aE p2 0 [pt p 0 0],aE p3 0 a.enc,aE p4 0 [.bool false],aE p5 0 [I 0]]) (fD C p m)
   refine(Hs.Ge (Hs.N9 (p:=∀g∈done++[((k:Nat):Int)],m.kH a.core g.toNat=false) ?_ hs)).to
   intro g hg
   rcases List.mem_append.1 hg with hg|hg
   ·exact hd g hg
   ·rw[List.mem_singleton.1 hg,Int.toNat_natCast];unfold Mon.kH;rw[hr];exact decide_eq_false c1
 ·intro v h hs
  obtain⟨hd,hs⟩:=fP (hs.front (kr C m p p2 p3 p4 p5 a e d l (.ready,none) false 0 (∀g∈m.running.map (fun k:Nat=>(k:Int)),m.kH a.core g.toNat=false)))
  have hs:=hs.wP
  have hno:m.calls a.core=false:=by
   unfold Mon.calls
   rw[List.any_eq_false]
   intro g hg
   have:=hd g (List.mem_map.2 ⟨g,hg,rfl⟩)
   rw[Int.toNat_natCast] at this
   rw[this];simp
  rw[if_neg (by rw[hno];simp)] at hk
  have hs:=(hs.front (sp [aE p2 0 [pt p 0 0],aE p3 0 a.enc,aE p4 0 [.bool false],aE p5 0 [I 0]])).u0
  have hs:=(hs.front (sp [mk d (),aE p12 0 (m.zT a.cE).enc])).xA
  refine mE hs fun h hs=>mC ?_
  refine aA (aC (b:=p3) (o:=0) hs rfl (aA (aC (b:=p3) (o:=0) hs rfl (aA (aC (b:=p12) (o:=0) hs rfl (aA (aC (b:=p3) (o:=0) hs rfl (A.me hs fun h hs=>?_))))))))
  dsimp only at hk
  have hjr:0≤(jW a.call a.world (m.zT a.cE).owner a.to).1∧(jW a.call a.world (m.zT a.cE).owner a.to).1≤4:=by
   unfold jW
   repeat' split
   all_goals first|omega|(simp only[];omega)
  generalize jW a.call a.world (m.zT a.cE).owner a.to=jj at hk hjr ⊢
  refine aG rfl (aG rfl (aG rfl (aY (aR (fun h5=>?_) (fun h5=>?_)))))
  ·rw[if_pos h5] at hk
   refine aZ (b:=p4) hs rfl rfl rfl rfl fun h hs=>aZ (b:=p5) hs rfl rfl rfl rfl fun h hs=>lN hs fun h hs=>jI (aC (b:=p4) (o:=0) hs rfl (aC (b:=p5) (o:=0) hs rfl (hk _ hs.to)))
  rw[if_neg h5] at hk
  obtain⟨t,b,hs⟩:=jQ (hs.front (fD C p m))
  refine bW (aU hs fun rr h hs=>aC (b:=p2) (o:=0) hs rfl (aB (aA (aC (b:=p) (o:=0) hs rfl (aA (aC (b:=p3) (o:=0) hs rfl (aA (aC (b:=p12) (o:=0) hs rfl (aH (c:=(⟨(m.zT a.cE).owner,true⟩:kE).enc) rfl ?_)))))))))
  refine D9 (x:=⟨(m.zT a.cE).owner,true⟩) hs fun h hs=>?_
  have hcond:(0≤a.cE∧a.cE<m.fY.length)∧(0≤(m.zT a.cE).owner∧(m.zT a.cE).owner≤4):=⟨hh,how⟩
  rw[if_pos hcond] at hs
  rw[if_pos hcond]
  refine aY (aK (by omega) (bW (aQ (b:=p3) (o:=0) hs (by decide) (l:=a.enc) rfl rfl (aH (c:=[I a.core,I a.world,I a.call,I a.cE,I a.to,I jj.1,.bool jj.2.1]) rfl (aH (c:=(⟨a.core,a.world,a.call,a.cE,a.to,jj.1,jj.2.1,1,fun _=>false⟩:Mc.iM).enc) rfl (bN hs fun pr h hs=>aZ (b:=pr) hs rfl rfl rfl rfl fun h hs=>aC (b:=p2) (o:=0) hs rfl (aB (aA (aC (b:=p) (o:=0) hs rfl ?_)))))))))
  have loop:∀(k i:Nat) (h:AH),i+k=C.aF.toNat→Hs G h (aE pr 0 (⟨a.core,a.world,a.call,a.cE,a.to,jj.1,jj.2.1,1,fun j=>decide (j<i)⟩:Mc.iM).enc::aE p 0 [pt t 0 0,I C.aF,fJ b]::fZ t (m.fY.set a.cE.toNat ⟨(m.zT a.cE).owner,true⟩)::gX b (fG m.runs)::aE p2 0 [pt p 0 0]::aE p3 0 a.enc::aE p4 0 [.bool false]::aE p5 0 [I 0]::mk d ()::L')→
    Dd 190 8 [d] Q [(pt p2 0 0),(pt p3 0 0),(pt p4 0 0),(pt p5 0 0),(pt pr 0 0),(I C.aF),(I i)] h:=by
   intro k
   induction k with
   |zero=>
    intro i h hi hs
    refine bW (aN (aK (by omega) (bW (aU hs fun rr h hs=>aC (b:=p2) (o:=0) hs rfl (aB (aA (aC (b:=p) (o:=0) hs rfl (aA (aC (b:=p3) (o:=0) hs rfl (aQ (b:=pr) (o:=0) hs (by decide) (l:=(⟨a.core,a.world,a.call,a.cE,a.to,jj.1,jj.2.1,1,fun j=>decide (j<i)⟩:Mc.iM).enc) rfl rfl ?_))))))))))
    obtain⟨g,hg⟩:=Int.eq_ofNat_of_zero_le hgn.1
    rw[show(a.cE)=((g:Nat):Int) from hg]
    refine Nc hs (by omega) fun h hs=>?_
    rw[←hg] at hs
    refine aZ (b:=p4) hs rfl rfl rfl rfl fun h hs=>aZ (b:=p5) hs rfl rfl rfl rfl fun h hs=>lN hs fun h hs=>jI (aC (b:=p4) (o:=0) hs rfl (aC (b:=p5) (o:=0) hs rfl (hk _ ?_)))
    have hw:(⟨a.core,a.world,a.call,a.cE,a.to,jj.1,jj.2.1,1,fun j=>decide (j<i)⟩:Mc.iM)=a.run C.aF jj:=by
     unfold Ask.run
     congr 1
     funext j
     exact decide_eq_decide.2 (by omega)
    have e1:=Er (f:=m.runs) (g:=g) (x:=some (a.run C.aF jj))
    rw[Option.map_some] at e1
    have hs:=hs.cJ (aE p 0 [pt t 0 0,I C.aF,fJ b]) (fZ t (m.fY.set a.cE.toNat ⟨(m.zT a.cE).owner,true⟩)) (gX b (H5 (fG m.runs) g (some (.agg ⟨(⟨a.core,a.world,a.call,a.cE,a.to,jj.1,jj.2.1,1,fun j=>decide (j<i)⟩:Mc.iM).enc⟩))))
    rw[hw,e1] at hs
    have hgt:g=a.cE.toNat:=by omega
    rw[hgt] at hs
    exact(dM (m:=(m.cy a.cE.toNat ⟨(m.zT a.cE).owner,true⟩).dN a.cE.toNat (some (a.run C.aF jj))) hs).to
   |succ k ih=>
    intro i h hi hs
    refine bW (aN (bP (by omega) (bW (aA (fQ (by omega) ?_)))))
    have hl:(⟨a.core,a.world,a.call,a.cE,a.to,jj.1,jj.2.1,1,fun j=>decide (j<i)⟩:Mc.iM).enc.length=12:=rfl
    refine bI (b:=pr) (o:=0) hs rfl (by rw[hl];exact Nat.ble_eq_true_of_le (by simp;omega)) rfl rfl fun h hs=>bE (by omega) (ih (i+1) h (by omega) ?_)
    have e:dL (⟨a.core,a.world,a.call,a.cE,a.to,jj.1,jj.2.1,1,fun j=>decide (j<i)⟩:Mc.iM).enc (0+8+i*1) [.bool true]=(⟨a.core,a.world,a.call,a.cE,a.to,jj.1,jj.2.1,1,fun j=>decide (j<i+1)⟩:Mc.iM).enc:=by
     have:i=0∨i=1∨i=2∨i=3:=by omega
     rcases this with rfl|rfl|rfl|rfl<;>rfl
    rw[e] at hs
    exact hs.to
  refine loop C.aF.toNat 0 h (by omega) ?_
  have e:(⟨a.core,a.world,a.call,a.cE,a.to,jj.1,jj.2.1,1,fun _=>false⟩:Mc.iM).enc=(⟨a.core,a.world,a.call,a.cE,a.to,jj.1,jj.2.1,1,fun j=>decide (j<0)⟩:Mc.iM).enc:=rfl
  rw[e] at hs
  exact hs.to
 ·intro done x v h hp hs
  obtain⟨hd,hs⟩:=fP (hs.front (kr C m p p2 p3 p4 p5 a e d l (.done,some .ret) false 13 (x∈(m.running.map fun k:Nat=>(k:Int))∧m.kH a.core x.toNat=true)))
  have hs:=hs.wP
  have hyes:m.calls a.core=true:=by
   unfold Mon.calls
   rw[List.any_eq_true]
   obtain⟨k,hk1,hk2⟩:=List.mem_map.1 hd.1
   refine⟨k,hk1,?_⟩
   have:=hd.2
   rw[←hk2,Int.toNat_natCast] at this
   exact this
  rw[if_pos hyes] at hk
  have hs:=(hs.front (sp [aE p2 0 [pt p 0 0],aE p3 0 a.enc,aE p4 0 [.bool false],aE p5 0 [I 13]])).u0
  have hs:=(hs.front (sp [mk d (),aE p12 0 (m.zT a.cE).enc])).xA
  refine Em hs fun h hs=>qs (lN hs fun h hs=>jI (aC (b:=p4) (o:=0) hs rfl (aC (b:=p5) (o:=0) hs rfl (hk _ hs.to))))
end Go.Proofs.YtajjljbmfdboaaaGreatDoor
end
section
namespace Go.Proofs.YtajjljbmfdboaaaGreatDoor.A
open Go Go.Ab Go.Hm Go.At Go.Is
set_option maxRecDepth 100000
variable {G:Bg} {h:AH} {L L':List HP} {Q:Value→AH→Prop}
def lx (mem:Nat→Ln) (done:List Nat):Nat→Ln:=done.foldl (fun m l=>bT m l (0,0)) mem
abbrev scX (G:Bg) (C:bL) (mb p2:Nat) (mem:Nat→Ln) (e:Nat→Value) (d l:Nat) (done:List Nat):HP:=sp [jY Pr 160 (kD 122) 34 e d l (.ready,none),aE p2 0 [pt mb 0 0],eN G C.lines mb C (lx mem done)]
theorem o8 {C:bL} (hC:C.Ok) {mb g:Nat} {mem:Nat→Ln} (hl:Ob G 0 fB) (hs:Hs G h L) [m:Has (eN G C.lines mb C) L mem L'] (h0:(g:Int)<C.bB)
  (hk:∀v h',Hs G h' (eN G C.lines mb C (zY mem g)::L')→Q v h'):Cl Pr K 160 [pt mb 0 0,I g] h Q:=by
 have hb:C.bB≤16:=hC.2.1.2
 have hln:=bL.eI hC
 have hs:=m.of hs
 refine cW (dI hs fun p2 h hs=>bN hs fun p4 h hs=>aC (b:=p2) (o:=0) hs rfl (cN (bV (bW (aN (aK (by omega) ?_))))))
 obtain⟨b,o,cap,hs⟩:=uA (hs.front (eN G C.lines mb C mem))
 refine aC (b:=p2) (o:=0) hs rfl (aB (aA (aA (aC (b:=mb) (o:=0) hs rfl (dR (aK (by omega) (bW ?_)))))))
 refine aC (b:=p2) (o:=0) hs rfl (aB (aA (aQ (b:=mb) (o:=0) hs (by decide) (l:=C.enc) rfl rfl (An hs fun p q h hs=>jX hs fun d h hs=>?_))))
 have hs:=Hn C.lines mb C mem b o cap hs
 intro e he
 refine mG hs fun l h hs=>rT rfl ?_
 have hs:Hs G h (sp [aE p 0 C.enc,aE q 0 [I g]]::scX G C mb p2 mem e d l []::sp [aE p4 0 [I 0],mk d ()]::L'):=by
  have hs:=hs.cJ (jY Pr 160 (kD 122) 34 e d l (.ready,none)) (aE p2 0 [pt mb 0 0]) (eN G C.lines mb C mem)
  have hs:Hs G h (scX G C mb p2 mem e d l []::_):=hs.Ko
  have hs:=(hs.cA (aE p4 0 [I 0]) (mk d ())).zB
  exact hs.cJ (sp [aE p 0 C.enc,aE q 0 [I g]]) (scX G C mb p2 mem e d l []) (sp [aE p4 0 [I 0],mk d ()])
 refine(El (p:=p) (q:=q) hC h0 hl).fold (X:=scX G C mb p2 mem e d l) (Z:=fun _ _=>uI False) hs ?_ ?_ ?_
 ·intro done y h M hp hs
  have hy:y<C.lines:=by
   obtain⟨ys,hys⟩:=hp
   have:y∈[g*2,g*2+1]:=by rw[←hys];simp
   simp at this
   omega
  have hs:=hs.wP
  refine rW (rS hs) he (gU hs fun h hs=>aC (b:=p2) (o:=0) hs rfl (aH (c:=J5 (0,0)) rfl (Cn hC hl hs hy fun h hs=>aY (aK (by omega) ?_))))
  refine iE hs fun h hs=> .inl ⟨rfl,Hs.Ko ?_⟩
  have e1:lx mem (done++[y])=bT (lx mem done) y (0,0):=by unfold lx;rw[List.foldl_append];rfl
  rw[e1]
  exact hs.to
 ·intro v h hs
  have hs:=(hs.front (scX G C mb p2 mem e d l [g*2,g*2+1])).wP
  refine mE hs fun h hs=>mC ?_
  have hs:=(hs.front (sp [aE p4 0 [I 0],mk d ()])).xA
  refine aZ (b:=p4) (o:=0) hs rfl rfl rfl rfl fun h hs=>lN hs fun h hs=>jI (aC (b:=p4) (o:=0) hs rfl (hk _ _ ?_))
  have e2:lx mem [g*2,g*2+1]=zY mem g:=rfl
  rw[e2] at hs
  exact hs.to
 ·intro done y v h hp hs
  exact(hs.front (uI False)).bq.1.elim
abbrev nc (pm:Nat) (C:bL) (v:Value) (a:Option Addr) (n c mb:Nat):HP:=aE pm 0 (C.enc++[v,.slice a n c,pt mb 0 0])
theorem aBf {o:List Int} {g:Nat} (h:g<o.length):(o.map I)[g]?=some (I (o.getD g 0)):=by
 simp[List.getD_eq_getElem?_getD,List.getElem?_eq_getElem h]
theorem x5 {m:AM} (hC:m.cfg.Ok) (ho:(m.eC.length:Int)=m.cfg.bB) {pm mb c:Nat} {a:Option Addr} {v:Value} {w x:Int} (hl:Ob G 0 fB)
  (hs:Hs G h (nc pm m.cfg v a m.eC.length c mb::dB 1 3 a c (m.eC.length,m.eC.map I)::L))
  (hk:∀h',Hs G h' (nc pm m.cfg v a m.eC.length c mb::dB 1 3 a c (m.eC.length,m.eC.map I)::L)→Q (.bool (m.may w x)) h'):Cl Pr K 240 [pt pm 0 0,I w,I x] h Q:=by
 have hln:=bL.eI hC
 unfold AM.may at hk
 refine cW (aB (aA (aQ (b:=pm) (o:=0) hs (by decide) (l:=m.cfg.enc) rfl rfl (Eb hC hl hs fun h hs=>?_))))
 by_cases c1:0≤x∧x<m.cfg.lines*2
 ·rw[if_pos c1] at hk ⊢
  refine aG rfl (aG rfl (aG rfl (aY (aK (by omega) (bW (aB (aA (aQ (b:=pm) (o:=0) hs (by decide) (l:=m.cfg.enc) rfl rfl (Wb hC (by omega) hl hs fun h hs=>?_)))))))))
  refine aG rfl (aG rfl (bH (bP (by omega) (aB (aA (aC (b:=pm) (o:=0) hs rfl (sa (e:=3) (cs:=m.eC.map I) hs (aBf (by omega)) (N0 ?_))))))))
  have:=hk _ hs
  rw[show x.toNat/4=x.toNat/2/2 by omega] at this
  exact this
 ·rw[if_neg c1] at hk ⊢
  exact aG rfl (aG rfl (aG rfl (aY (bP (by omega) (hk _ hs)))))
end Go.Proofs.YtajjljbmfdboaaaGreatDoor.A
end
section
namespace Go.Proofs.YtajjljbmfdboaaaGreatDoor.A
open Go Go.Ab Go.Hm Go.At Go.Is
set_option maxRecDepth 100000
variable {G:Bg} {h:AH} {L L':List HP} {Q:Value→AH→Prop}
theorem Zr {m:AM} {w x:Int} (h:m.may w x=true):0≤x∧x<m.cfg.lines*2:=by
 unfold AM.may at h
 split at h
 ·assumption
 ·cases h
theorem Lu {m:AM} (hC:m.cfg.Ok) (ho:(m.eC.length:Int)=m.cfg.bB) {pm mb c b q i:Nat} {a:Option Addr} {v pv:Value} {x:Ins} (hx:x.op=3∨x.op=4∨x.op=5) (ha:0≤x.a∧x.a<4) (hb:0≤x.b∧x.b<4) (hl:Ob G 0 fB)
  (hs:Hs G h (nc pm m.cfg v a m.eC.length c mb::dB 1 3 a c (m.eC.length,m.eC.map I)::eN G m.cfg.lines mb m.cfg m.mem::aE b q ((m.aS i).core++[pv])::L))
  (hk:∀h',Hs G h' (nc pm m.cfg v a m.eC.length c mb::dB 1 3 a c (m.eC.length,m.eC.map I)::eN G m.cfg.lines mb m.cfg (m.access i x).1.mem::aE b q (((m.access i x).1.aS i).core++[pv])::L)→Q (.tuple ⟨[I (m.access i x).2.1,I (m.access i x).2.2]⟩) h'):Cl Pr K 188 [pt pm 0 0,pt b q 0,.agg ⟨x.enc⟩] h Q:=by
 refine cW (dI hs fun p2 h hs=>aU hs fun rv h hs=>?_)
 refine aA (aC (b:=p2) (o:=0) hs rfl (aB (aA (aA (eZ hb.1 hb.2 (aC (b:=b) (o:=q) hs (Hx hb.1 hb.2) (aA (aC (b:=p2) (o:=0) hs rfl (bH ?_)))))))))
 have go:Dd 188 3 [] Q [(pt pm 0 0),(pt b q 0),(pt p2 0 0),(I ((m.aS i).cZ x.b.toNat))] h:=by
  unfold AM.access at hk
  refine bW (aB (aA (aA (aC (b:=b) (o:=q) hs rfl ?_))))
  refine x5 (a:=a) (c:=c) (mb:=mb) (v:=v) hC ho hl (hs.cA (nc pm m.cfg v a m.eC.length c mb) (dB 1 3 a c (m.eC.length,m.eC.map I))) fun h hs=>bS (dQ (cU (fun h1=>?_) (fun h1=>?_)))
  rotate_left
  ·rw[if_neg (by simp[h1])] at hk
   exact hk _ hs.to
  rw[if_pos h1] at hk
  have hw:=Zr h1
  generalize hW:(m.aS i).cZ x.b.toNat=W at*
  obtain⟨w,rfl⟩:∃w:Nat,W=w:=⟨W.toNat,by omega⟩
  simp only[Int.toNat_natCast] at hk
  refine bW (aB (aA (aC (b:=pm) (o:=0) hs rfl ?_)))
  refine br hC hl hs (by omega) fun h hs=>aG rfl (aG rfl (aY (aK (by omega) (bW (aA (aC (b:=p2) (o:=0) hs rfl (aY (aR (fun c1=>?_) (fun c1=>?_)))))))))
  ·rw[if_neg c1] at hk
   refine bW (aU hs fun rv h hs=>aB (aA (aC (b:=pm) (o:=0) hs rfl (aA (aC (b:=p2) (o:=0) hs rfl (aB (aA (aA (eZ ha.1 ha.2 (aC (b:=b) (o:=q) hs (Hx ha.1 ha.2) ?_))))))))))
   refine D5 hC hl hs (by omega) fun h hs=>aA (aC (b:=p2) (o:=0) hs rfl (bH (aR (fun c2=>?_) (fun c2=>?_))))
   ·rw[if_pos c2] at hk
    refine bW (aU hs fun rv h hs=>aA (aC (b:=p2) (o:=0) hs rfl (aB (aA (aA (eZ ha.1 ha.2 (aC (b:=b) (o:=q) hs (Hx ha.1 ha.2) (hk _ ?_))))))))
    simp only[AM.nE]
    exact hs.to
   ·rw[if_neg c2] at hk
    refine bW (aU hs fun rv h hs=>aA (aC (b:=p2) (o:=0) hs rfl (aB (aA (aA (eZ ha.1 ha.2 (A8 hs ha.1 ha.2 fun h hs=>?_)))))))
    refine hk _ ?_
    simp only[AM.nE,AM.wR,gP]
    exact hs.to
  ·rw[if_pos (by omega)] at hk
   refine bW (aA (aC (b:=p2) (o:=0) hs rfl (bH (aK (by omega) ?_))))
   refine bW (aU hs fun rv h hs=>aA (aC (b:=p2) (o:=0) hs rfl (aB (aA (aA (eZ ha.1 ha.2 (A8 hs ha.1 ha.2 fun h hs=>?_)))))))
   refine hk _ ?_
   simp only[AM.wR,gP]
   exact hs.to
 rcases hx with e|e|e
 ·refine bP (by omega) (bW ?_)
  rw[decide_eq_true (by omega)]
  exact eQ go
 ·refine aK (by omega) (bW (bH (bP (by omega) (bW ?_))))
  rw[decide_eq_true (by omega)]
  exact eQ go
 ·exact aK (by omega) (bW (bH (aK (by omega) (bW (bH (bP (by omega) go))))))
end Go.Proofs.YtajjljbmfdboaaaGreatDoor.A
end
section
namespace Go.Proofs.YtajjljbmfdboaaaGreatDoor.A
open Go Go.Ab Go.Hm Go.At Go.Is
set_option maxRecDepth 100000
variable {G:Bg} {h:AH} {L L':List HP} {Q:Value→AH→Prop}
def vY (b o:Nat) (s:aX):HP:=rY fun x:Option Addr×Nat=>sp [aE b o (s.core++[.slice x.1 s.prog.length x.2]),dB 4 86 x.1 x.2 (s.prog.length,xZ s.prog)]
theorem W4 {b o c:Nat} {a:Option Addr} {s:aX} (hs:Hs G h (aE b o (s.core++[.slice a s.prog.length c])::dB 4 86 a c (s.prog.length,xZ s.prog)::L)):Hs G h (vY b o s::L):=
 Hs.uH (A:=fun x:Option Addr×Nat=>sp [aE b o (s.core++[.slice x.1 s.prog.length x.2]),dB 4 86 x.1 x.2 (s.prog.length,xZ s.prog)]) (a,c) (Hs.pack (A:=[_,_]) hs)
structure AtA where
 b:Nat
 o:Nat
 cap:Nat
 a:Option Addr
 c:Nat
 mb:Nat
def atL (G:Bg) (pm:Nat) (m:AM) (x:AtA):List HP:=[nc pm m.cfg (.slice (some ⟨x.b,x.o,none⟩) m.cfg.aF.toNat x.cap) x.a m.eC.length x.c x.mb,dB 1 3 x.a x.c (m.eC.length,m.eC.map I),eN G m.cfg.lines x.mb m.cfg m.mem,
  hole G 8 213 (some ⟨x.b,x.o,none⟩) x.cap m.cfg.aF.toNat x.b x.o,dD m.cfg.aF.toNat fun i=>vY x.b (x.o+i*8) (m.aS i)]
def aDe (G:Bg) (pm:Nat) (m:AM):HP:=rY fun x:AtA=>sp (atL G pm m x)
theorem eb {pm:Nat} {m:AM} {b o cap c mb:Nat} {a:Option Addr} (hs:Hs G h (nc pm m.cfg (.slice (some ⟨b,o,none⟩) m.cfg.aF.toNat cap) a m.eC.length c mb::dB 1 3 a c (m.eC.length,m.eC.map I)::eN G m.cfg.lines mb m.cfg m.mem::
  hole G 8 213 (some ⟨b,o,none⟩) cap m.cfg.aF.toNat b o::dD m.cfg.aF.toNat (fun i=>vY b (o+i*8) (m.aS i))::L)):Hs G h (aDe G pm m::L):=
 Hs.uH (A:=fun x:AtA=>sp (atL G pm m x)) ⟨b,o,cap,a,c,mb⟩ (Hs.pack (A:=atL G pm m ⟨b,o,cap,a,c,mb⟩) hs)
end Go.Proofs.YtajjljbmfdboaaaGreatDoor.A
end
section
namespace Go.Proofs.YtajjljbmfdboaaaGreatDoor.A
open Go Go.Ab Go.Hm Go.At Go.Is
set_option maxRecDepth 100000
variable {G:Bg} {h:AH} {L L':List HP} {Q:Value→AH→Prop}
end Go.Proofs.YtajjljbmfdboaaaGreatDoor.A
end
section
namespace Go.Proofs.YtajjljbmfdboaaaGreatDoor.A
open Go Go.Ab Go.Hm Go.At Go.Is
set_option maxRecDepth 100000
variable {G:Bg} {h:AH} {L L':List HP} {Q:Value→AH→Prop}
theorem zy {n c:Nat} {a:Option Addr} {cs:List Value} (hn:n≤100) (hs:Hs G h L) [m:Has (dB 2 155 a c) L (n,cs) L'] (hk:∀a' c' h',Hs G h' (dB 2 155 a' c' (n,cs)::dB 2 155 a c (n,cs)::L')→Q (.slice a' n c') h'):Cl Pr K 179 [.slice a n c] h Q:=
 cW (zM (bytes:=16) hs (by omega) hk)
theorem zi {n c:Nat} {a:Option Addr} {cs:List Value} (hn:n≤100) (hs:Hs G h L) [m:Has (dB 3 297 a c) L (n,cs) L'] (hk:∀a' c' h',Hs G h' (dB 3 297 a' c' (n,cs)::dB 3 297 a c (n,cs)::L')→Q (.slice a' n c') h'):Cl Pr K 178 [.slice a n c] h Q:=
 cW (zM (bytes:=40) hs (by omega) hk)
theorem xy {v:Value} {l:List (List Value)} {e:TypeId} (hn:l.length≤100) (hc:l.flatten.all eF=true) (hs:Hs G h (yK G 1 e v l::L)) (hk:∀a' c' h',Hs G h' (dB 1 3 a' c' (l.length,l.flatten)::yK G 1 e v l::L)→Q (.slice a' l.length c') h'):Cl Pr K 94 [v] h Q:=
 cW (Jm (bytes:=8) hs (by decide) rfl hc (by omega) hk)
theorem xa {v:Value} {l:List (List Value)} {e:TypeId} (hn:l.length≤100) (hc:l.flatten.all eF=true) (hs:Hs G h (yK G 4 e v l::L)) (hk:∀a' c' h',Hs G h' (dB 4 86 a' c' (l.length,l.flatten)::yK G 4 e v l::L)→Q (.slice a' l.length c') h'):Cl Pr K 95 [v] h Q:=
 cW (Jm (bytes:=32) hs (by decide) rfl hc (by omega) hk)
def D1 (n B:Nat) (i:Nat) (x:BkA):List Value:=[I x.r,I x.w,.slice x.a (gL n B i) x.cap]
def gy (n B:Nat) (mem:Nat→Ln) (i:Nat) (x:BkA):HP:=dB 2 155 x.a x.cap (gL n B i,(List.range (gL n B i)).flatMap (J6 B i mem))
theorem Wu {n B p b o cap:Nat} {C:bL} {mem:Nat→Ln} {f:Nat→BkA} (hB:B≤4) (hn:n≤32) (hk:∀h',Hs G h' (aE p 0 (C.enc++[.slice (some ⟨b,o,none⟩) B cap])::dD B (fun i=>fF n B b (o+i*3) i mem)::dD B (fun i=>gy n B mem i (f i))::L)→Q (pt p 0 0) h'):
  ∀(r i:Nat) (h:AH) (_M:List HP),i+r=B→Hs G h (aE p 0 (C.enc++[.slice (some ⟨b,o,none⟩) B cap])::dD B (fun j=>if j<i then fF n B b (o+j*3) j mem else aE b (o+j*3) (D1 n B j (f j)))::dD B (fun i=>gy n B mem i (f i))::L)→
  Dd 137 2 [] Q [(pt p 0 0),(I B),(I i)] h:=by
 intro r
 induction r with
 |zero=>
  intro i h M hi hs
  obtain rfl:i=B:=by omega
  refine bW (aN (aK (by omega) (hk _ ?_)))
  have hs:=hs.front (dD i fun j=>if j<i then fF n i b (o+j*3) j mem else aE b (o+j*3) (D1 n i j (f j)))
  have hs:=qP (g:=fun j=>fF n i b (o+j*3) j mem) (fun j hj=>by rw[if_pos hj]) hs
  exact hs.cJ (aE p 0 (C.enc++[.slice (some ⟨b,o,none⟩) i cap])) (dD i fun j=>fF n i b (o+j*3) j mem) (dD i fun j=>gy n i mem j (f j))
 |succ r ih=>
  intro i h M hi hs
  have hib:i<B:=by omega
  have hcl:=Xe (n:=n) (B:=B) (i:=i) (by omega)
  refine bW (aN (bP (by omega) (bW (aU hs fun rv h hs=>?_))))
  have hs:=(hs.front (dD B fun j=>if j<i then fF n B b (o+j*3) j mem else aE b (o+j*3) (D1 n B j (f j)))).kY i hib
  simp only[Nat.lt_irrefl,if_false] at hs
  have hs:=(hs.front (dD B fun j=>gy n B mem j (f j))).kY i hib
  refine aB (aA (aC (b:=p) (o:=0) hs rfl (aB (aA (aC (b:=p) (o:=0) hs rfl (dK hib (aA (aC (b:=b) (o:=o+i*3) hs rfl ?_))))))))
  have hs:Hs G h (dB 2 155 (f i).a (f i).cap (gL n B i,(List.range (gL n B i)).flatMap (J6 B i mem))::_):=hs
  refine zy (by omega) hs fun a' c' h hs=>?_
  refine dK hib (aA (bI (b:=b) (o:=o+i*3) hs rfl rfl rfl rfl fun h2 hs2=>?_))
  refine cQ dA (cQ (aB dA) (cQ (aA dA) (cQ (aC (b:=p) (o:=0) hs rfl S0) (cQ gC (bE (by omega) ?_)))))
  refine ih (i+1) h2 [] (by omega) ?_
  have hs2:=hs2.sg (b:=b) (o:=o+i*3) (c:=[I (f i).r,I (f i).w,.slice a' (gL n B i) c']) rfl
  have hs3:=oP (b:=b) (o:=o+i*3) (hs2.cA (aE b (o+i*3) [I (f i).r,I (f i).w,.slice a' (gL n B i) c']) (dB 2 155 a' c' (gL n B i,(List.range (gL n B i)).flatMap (J6 B i mem))))
  have e0:fF n B b (o+i*3) i mem=(fun j=>if j<i+1 then fF n B b (o+j*3) j mem else aE b (o+j*3) (D1 n B j (f j))) i:=by simp only[Nat.lt_succ_self,if_true]
  rw[e0] at hs3
  have hs3:=hs3.oR (n:=B) (i:=i) (fun j=>if j<i then fF n B b (o+j*3) j mem else aE b (o+j*3) (D1 n B j (f j))) (fun j=>if j<i+1 then fF n B b (o+j*3) j mem else aE b (o+j*3) (D1 n B j (f j))) hib (fun j _ hne=>by
   have:(j<i+1)=(j<i):=propext ⟨fun h=>by omega,fun h=>by omega⟩
   simp only[this])
  have e1:(dB 2 155 (f i).a (f i).cap (gL n B i,(List.range (gL n B i)).flatMap (J6 B i mem)))=(fun j=>gy n B mem j (f j)) i:=rfl
  rw[e1] at hs3
  have hs3:=hs3.oR (n:=B) (i:=i) (fun j=>gy n B mem j (f j)) (fun j=>gy n B mem j (f j)) hib (fun _ _ _=>rfl)
  exact hs3.to
theorem U7 {C:bL} (hC:C.Ok) {mb:Nat} {mem:Nat→Ln} (hs:Hs G h L) [m:Has (eN G C.lines mb C) L mem L'] (hk:∀mb2 h',Hs G h' (eN G C.lines mb2 C mem::eN G C.lines mb C mem::L')→Q (pt mb2 0 0) h'):Cl Pr K 137 [pt mb 0 0] h Q:=by
 have hb:=bL.bk hC
 have hln:=bL.eI hC
 obtain⟨b,o,cap,hs⟩:=uA (m.of hs)
 refine cW (cN (bV (bW (aU hs fun rv h hs=>?_))))
 have hs0:Hs G h (dD C.aI.toNat (fun i=>rY fun x=>sp [aE b (o+i*3) (D1 C.lines C.aI.toNat i x),gy C.lines C.aI.toNat mem i x])::hole G 3 297 (some ⟨b,o,none⟩) cap C.aI.toNat b o::_):=hs.cA (dD C.aI.toNat fun i=>fF C.lines C.aI.toNat b (o+i*3) i mem) (hole G 3 297 (some ⟨b,o,none⟩) cap C.aI.toNat b o)
 obtain⟨f,hs⟩:=Hs.Y1 (W:=3) (c:=D1 C.lines C.aI.toNat) (d:=gy C.lines C.aI.toNat mem) (⟨0,0,none,0⟩:BkA) (fun _ _=>rfl) (fun _ _=>rfl) (by decide) hb.2.1 hs0
 clear hs0
 refine aB (aA (aQ (b:=mb) (o:=0) hs (by decide) (l:=C.enc) rfl rfl (aB (aA (aC (b:=mb) (o:=0) hs rfl ?_)))))
 refine zi (by omega) hs fun a' c' h hs=>?_
 obtain⟨b2,o2,rfl,hs⟩:=Hs.Ur (W:=3) (c:=fun i=>D1 C.lines C.aI.toNat i (f i)) (fun _=>rfl) hb.2.1 hs
 refine aH (c:=C.enc++[.slice (some ⟨b2,o2,none⟩) C.aI.toNat c']) rfl (xQ hs rfl rfl fun p h hs=>?_)
 refine cQ dA (cQ (aB dA) (cQ (aA dA) (cQ (aQ (b:=mb) (o:=0) hs (by decide) (l:=C.enc) rfl rfl (oU (by simp[bL.enc,gC]))) ?_)))
 refine aB (aA (aC (b:=p) (o:=0) hs rfl (bZ ?_)))
 have hs:=hs.cJ (aE p 0 (C.enc++[.slice (some ⟨b2,o2,none⟩) C.aI.toNat c'])) (dD C.aI.toNat fun i=>aE b2 (o2+i*3) (D1 C.lines C.aI.toNat i (f i))) (dD C.aI.toNat fun i=>gy C.lines C.aI.toNat mem i (f i))
 have hs:=(hs.kA).cJ (aE p 0 (C.enc++[.slice (some ⟨b2,o2,none⟩) C.aI.toNat c'])) (dD C.aI.toNat fun i=>aE b2 (o2+i*3) (D1 C.lines C.aI.toNat i (f i))) (dD C.aI.toNat fun i=>gy C.lines C.aI.toNat mem i (f i))
 refine Wu (n:=C.lines) (B:=C.aI.toNat) (b:=b2) (o:=o2) (cap:=c') (C:=C) (mem:=mem) (f:=f) hb.2.2 hln.2.2 ?_ C.aI.toNat 0 h [] (by omega) (by simpa using hs)
 intro h hs
 refine hk p _ ?_
 have hs:=qQ (b:=b2) (o:=o2) (cap:=c') (hs.cJ (aE p 0 (C.enc++[.slice (some ⟨b2,o2,none⟩) C.aI.toNat c'])) (hole G 3 297 (some ⟨b2,o2,none⟩) c' C.aI.toNat b2 o2) (dD C.aI.toNat fun i=>fF C.lines C.aI.toNat b2 (o2+i*3) i mem))
 have hs:=hs.cA (dB 3 297 (some ⟨b,o,none⟩) cap (C.aI.toNat,(List.range C.aI.toNat).flatMap fun i=>D1 C.lines C.aI.toNat i (f i))) (dD C.aI.toNat fun i=>gy C.lines C.aI.toNat mem i (f i))
 have hs:Hs G h (dD C.aI.toNat (fun i=>fF C.lines C.aI.toNat b (o+i*3) i mem)::hole G 3 297 (some ⟨b,o,none⟩) cap C.aI.toNat b o::_):=Hs.qg (W:=3) (c:=D1 C.lines C.aI.toNat) (d:=gy C.lines C.aI.toNat mem) f (fun _ _=>rfl) hb.2.1 hs
 have hs:=qQ (b:=b) (o:=o) (cap:=cap) (hs.cJ (aE mb 0 (C.enc++[.slice (some ⟨b,o,none⟩) C.aI.toNat cap])) (hole G 3 297 (some ⟨b,o,none⟩) cap C.aI.toNat b o) (dD C.aI.toNat fun i=>fF C.lines C.aI.toNat b (o+i*3) i mem))
 exact hs.to
end Go.Proofs.YtajjljbmfdboaaaGreatDoor.A
end
section
namespace Go.Proofs.YtajjljbmfdboaaaGreatDoor.A
open Go Go.Ab Go.Hm Go.At Go.Is
set_option maxRecDepth 100000
variable {G:Bg} {h:AH} {L L':List HP} {Q:Value→AH→Prop}
end Go.Proofs.YtajjljbmfdboaaaGreatDoor.A
end
section
namespace Go.Proofs.YtajjljbmfdboaaaGreatDoor.A
open Go Go.Ab Go.Hm Go.At Go.Is
set_option maxRecDepth 100000
variable {G:Bg} {h:AH} {L L':List HP} {Q:Value→AH→Prop}
def Db (l:List Int):List (List Value):=l.map fun x=>[I x]
theorem rG (l:List Int):(Db l).length=l.length:=by simp[Db]
theorem K9 (l:List Int):(Db l).flatten=l.map I:=by
 unfold Db
 induction l with
 |nil=>rfl
 |cons x l ih=>rw[List.map_cons,List.flatten_cons,ih];rfl
theorem Ud (l:List Int):(l.map I).all eF=true:=by
 induction l with
 |nil=>rfl
 |cons x l ih=>rw[List.map_cons,List.all_cons,ih];rfl
def Sz (p:List Ins):List (List Value):=p.map Ins.enc
theorem I6 (p:List Ins):(Sz p).length=p.length:=by simp[Sz]
theorem Lq (p:List Ins):(Sz p).flatten=xZ p:=by
 unfold Sz xZ
 rw[List.flatMap_def]
theorem V0 (p:List Ins):(xZ p).all eF=true:=by
 unfold xZ
 induction p with
 |nil=>rfl
 |cons x l ih=>rw[List.flatMap_cons,List.all_append,ih];rfl
def Fv (G:Bg) (v:Value) (l:List Int):Prop:=sA G 1 v (Db l).length (fun i=>(Db l).getD i [])
def Qp (G:Bg) (v:Value) (p:List Ins):Prop:=sA G 4 v (Sz p).length (fun i=>(Sz p).getD i [])
structure ga (G:Bg) (pv wv ov vv:Value) (ps:List (List Ins)) (ws os vs:List Int):Prop where
 ps:∃vi:List Value,vi.length=ps.length∧sA G 1 pv (vi.map fun x=>[x]).length (fun i=>(vi.map fun x=>[x]).getD i [])∧∀(i:Nat) (v:Value) (p:List Ins),vi[i]?=some v→ps[i]?=some p→Qp G v p
 ws:Fv G wv ws
 os:Fv G ov os
 vs:Fv G vv vs
theorem qI {v:Value} {l:List Int} (ho:Fv G v l) (hs:Hs G h L):Hs G h (yK G 1 3 v (Db l)::L):=Bm (by simp[Db]) ho hs
theorem Mr {v:Value} {p:List Ins} (ho:Qp G v p) (hs:Hs G h L):Hs G h (yK G 4 86 v (Sz p)::L):=Bm (by simp[Sz,Ins.enc]) ho hs
theorem sN {W n:Nat} {v:Value} {at':Nat→List Value} {k:Value→Prop} (ho:sA G W v n at') (hk:k (I n)):bA (lA v) k:=by
 obtain⟨a,c,rfl,_⟩:=ho
 exact bZ hk
theorem Wf {_C:bL} {pv:Value} {t2 t3 t4 t5:Value} {vi:List Value} {ps:List (List Ins)} (hv:vi.length=ps.length) (ho:sA G 1 pv (vi.map fun x=>[x]).length (fun i=>(vi.map fun x=>[x]).getD i []))
  (hi:∀(i:Nat) (v:Value) (p:List Ins),vi[i]?=some v→ps[i]?=some p→Qp G v p) (hg:Ob G 1 tU) (hn:ps.length≤1000)
  (k1:rF ps≠0→∀h',Hs G h' L→Q (.tuple ⟨[.pointer none,I (rF ps)]⟩) h') (k2:rF ps=0→∀h',Hs G h' L→Dd 32 5 [] Q [pv,t2,t3,t4,t5] h'):
  ∀(f i:Nat) (h:AH),i+f=ps.length→rF ps=rF (ps.drop i)→Hs G h L→Dd 32 3 [] Q [pv,t2,t3,t4,t5,pv,(I ps.length),(I i)] h:=by
 intro f
 induction f with
 |zero=>
  intro i h hl he hs
  rw[List.drop_of_length_le (by omega)] at he
  exact bW (aN (aK (by omega) (k2 he _ hs)))
 |succ f ih=>
  intro i h hl he hs
  obtain⟨p,hp,hd⟩:=lF (l:=ps) (i:=i) (by omega)
  obtain⟨v,hvi,_⟩:=lF (l:=vi) (i:=i) (by omega)
  rw[hd,rF] at he
  have hs:=Bm (e:=3) (by simp) ho hs
  refine bW (aN (bP (by omega) (bW (xL hs (x:=[v]) (by simp[hvi]) rfl (Dm (p:=p) hg (Mr (hi i v p hvi hp) hs.tail) fun h hs=>aG rfl (aG rfl (aY (aR (fun c=>?_) (fun c=>?_)))))))))
  ·rw[if_pos c] at he
   rw[←he]
   exact k1 (by rw[he];exact c) _ hs.tail
  ·rw[if_neg c] at he
   exact bW (bE (by omega) (ih (i+1) h (by omega) he hs.tail))
theorem W5 {C:bL} (hC:C.Ok) {t1 t2 t3 t5 vv:Value} {mb:Nat} {vs:List Int} (ho:Fv G vv vs) (hl:Ob G 0 fB) (hn:vs.length=C.lines*2)
  (k:∀h',Hs G h' (eN G C.lines mb C (words nR vs 0)::L)→Dd 32 11 [] Q [t1,t2,t3,t5,(pt mb 0 0)] h'):
  ∀(f i:Nat) (mem:Nat→Ln) (h:AH),i+f=vs.length→words nR vs 0=words mem (vs.drop i) i→Hs G h (eN G C.lines mb C mem::L)→Dd 32 9 [] Q [t1,t2,t3,t5,(pt mb 0 0),vv,(I vs.length),(I i)] h:=by
 have hln:=bL.eI hC
 intro f
 induction f with
 |zero=>
  intro i mem h hi he hs
  rw[List.drop_of_length_le (by omega),words] at he
  rw[he] at k
  exact bW (aN (aK (by omega) (k _ hs)))
 |succ f ih=>
  intro i mem h hi he hs
  obtain⟨x,hx,hd⟩:=lF (l:=vs) (i:=i) (by omega)
  rw[hd,words] at he
  have hs:=qI ho hs
  refine bW (aN (bP (by omega) (bW (xL hs (x:=[I x]) (by simp[Db,hx]) rfl (D5 hC hl hs.tail (by omega) fun h hs=>aY (aK (by omega) (bW (bE (by omega) (ih (i+1) _ h (by omega) he hs)))))))))
end Go.Proofs.YtajjljbmfdboaaaGreatDoor.A
end
section
namespace Go.Proofs.YtajjljbmfdboaaaGreatDoor.H
open Go Go.Ab Go.Hm
set_option maxRecDepth 100000
variable {G:Bg} {h:AH} {L L':List HP}
section
variable {hb p mb b o cap l:Nat} {C:bL} {H:iJ} {n:aJ} {r:Row} {m:Ln} {Q:Value→AH→Prop}
theorem ny (hC:C.Ok) (hlim:Ob G 0 fB) (hl:l<C.lines) (hnl:n.line=l) (hc:0≤r.served.core∧r.served.core<4) (hs:Hs G h (pH G hb p mb b o cap l C H n r m++L))
  (hk:∀v h',Hs G h' (eJ v ((r.pR n).rest l m).2::eY G hb C (bT H l (((r.pR n).rest l m).1,m))::L)→Q v h'):Dd 253 8 [] Q [(pt hb 0 0),(pt p 0 0),(pt b (o+l*25) 0)] h:=by
 simp only[pH,List.cons_append,List.nil_append] at hs
 obtain⟨wa,wc,hs⟩:=dH hs
 refine bW (aU hs ?_)
 intro rv h hs
 refine aA (aQ hs (by decide) (l:=[I n.d0,I n.d1]) rfl rfl (aB (aA (bI hs rfl rfl rfl rfl ?_))))
 intro h hs
 have hs1:=hs
 refine aB (aA (bI hs rfl rfl rfl rfl ?_))
 intro h hs
 refine cQ dA (cQ (aA dA) (cQ (aQ hs1 (by decide) (l:=[I n.d0,I n.d1]) rfl rfl (oU (by simp[mS]))) ?_))
 have hs:=dZ b (o+l*25) (r.pR n) wa wc hs rfl rfl rfl
 have hs:Hs G h (pH G hb p mb b o cap l C H n (r.pR n) m++L):=by
  simp only[pH,List.cons_append,List.nil_append]
  exact hs.to
 have hs00:=hs
 simp only[pH,List.cons_append,List.nil_append] at hs
 have hs0:=hs
 obtain⟨wa,wc,hs⟩:=dH hs
 refine(aB (aA (aQ hs (by decide) (l:=[.bool (r.asked 0),.bool (r.asked 1),.bool (r.asked 2),.bool (r.asked 3)]) rfl rfl (aH (c:=[.bool false,.bool false,.bool false,.bool false]) rfl (kj (cU (fun hq=>?_) (fun hq=>?_)))))))
 ·have hq:(r.pR n).quiet=false:=by unfold Row.quiet;rw[show(r.pR n).asked=r.asked from rfl,hq];rfl
  simp only[Row.rest,hq,Bool.false_eq_true,if_false] at hk
  exact hk _ _ (oN (eH hb C H l (r.pR n) m _ mb b o cap hl rfl hs0)).to
 ·exact U3 (r:=r.pR n) hC hlim hl hnl hc (by unfold Row.quiet;rw[show(r.pR n).asked=r.asked from rfl,hq];rfl) hs00 hk
end
theorem ou {C:bL} (hC:C.Ok) {hb l:Nat} {H:iJ} {n:aJ} {Q:Value→AH→Prop} (hlim:Ob G 0 fB) (hs:Hs G h L) [m:Has (eY G hb C) L H L'] (hl:l<C.lines) (hnl:n.line=l) (hnc:0≤n.core∧n.core<4) (hc:0≤(H l).1.served.core∧(H l).1.served.core<4)
  (hk:∀v h',Hs G h' (eJ v (qZ.K2 (H l) l n).2::eY G hb C (bT H l (qZ.K2 (H l) l n).1)::L')→Q v h'):
  Cl Pr K 253 [pt hb 0 0,.agg ⟨n.enc⟩] h Q:=by
 have hs:=m.of hs
 simp only[qZ.K2] at hk
 refine cW (dI hs ?_)
 intro p h hs
 refine aU hs ?_
 intro rv h hs
 obtain⟨mb,b,o,cap,hs⟩:=Cp hl (hs.front (eY G hb C H))
 obtain⟨wa,wc,hs⟩:=dH hs
 refine aB (aA (aC hs rfl (aA (aC hs rfl ?_))))
 rw[hnl]
 refine dK hl (aU hs ?_)
 intro rv2 h hs
 refine aA (aC hs rfl (aB (aA (eZ hnc.1 hnc.2 (aA7 (H l).1 hs rfl hnc ?_)))))
 intro h hs
 have hs0:=dZ b (o+l*25) ((H l).1.kZ n) wa wc hs rfl rfl rfl
 refine aB (aA (aA (aC hs rfl (aY (aR (fun h1=>bW ?_) (fun h1=>bW ?_))))))
 ·
  simp only[Row.heard,if_pos h1] at hk
  unfold Row.M3 at hk
  refine aA (aC hs0 rfl (Bx hs0 hnc fun h hs=>?_))
  refine aA (aC hs rfl (cU (fun h2=>bW ?_) (fun h2=>?_)))
  ·rw[if_pos ⟨h1,h2⟩] at hk
   refine aU hs ?_
   intro rv3 h hs
   refine aB (aA (aC hs rfl (aA (aC hs rfl ?_))))
   rw[hnl]
   refine aA (aQ hs (by decide) (l:=J5 (n.d0,n.d1)) rfl rfl (Cn hC hlim hs hl fun h hs=>?_))
   generalize hr:((H l).1.kZ n).leave n.core=r2 at hs hk
   have hc2:0≤r2.served.core∧r2.served.core<4:=by rw[←hr];exact hc
   have hs:Hs G h (pH G hb p mb b o cap l C H n r2 (n.d0,n.d1)++L'):=by
    simp only[pH,List.cons_append,List.nil_append]
    exact hs.to
   have hs00:=hs
   simp only[pH,List.cons_append,List.nil_append] at hs
   have hs0:=hs
   obtain⟨wa,wc,hs⟩:=dH hs
   refine(aB (aA (aQ hs (by decide) (l:=[.bool (r2.asked 0),.bool (r2.asked 1),.bool (r2.asked 2),.bool (r2.asked 3)]) rfl rfl (aH (c:=[.bool false,.bool false,.bool false,.bool false]) rfl (kj (cU (fun hq=>?_) (fun hq=>?_)))))))
   ·have hq:r2.quiet=false:=by unfold Row.quiet;rw[hq];rfl
    simp only[Row.rest,hq,Bool.false_eq_true,if_false] at hk
    exact hk _ _ (oN (eH hb C H l r2 (n.d0,n.d1) _ mb b o cap hl rfl hs0)).to
   ·exact U3 hC hlim hl hnl hc2 (by unfold Row.quiet;rw[hq];rfl) hs00 hk
  ·rw[if_neg (by rw[h2];simp)] at hk
   generalize hr:((H l).1.kZ n).leave n.core=r2 at hs hk
   have hc2:0≤r2.served.core∧r2.served.core<4:=by rw[←hr];exact hc
   refine U6 hC hlim hl hnl hc2 (m:=(H l).2) (H:=H) (mb:=mb) (b:=b) (o:=o) (cap:=cap) (L:=L') ?_ hk
   simp only[pH,List.cons_append,List.nil_append,eM]
   exact hs.to
 ·have hm:(H l).1.M3 (H l).2 n=(H l).2:=by unfold Row.M3;rw[if_neg (fun e=>h1 e.1)]
  simp only[Row.heard,if_neg h1,hm] at hk
  refine aA (aC hs rfl (aY (aR (fun h2=>bW ?_) (fun h2=>bW ?_))))
  ·simp only[if_pos h2] at hk
   refine aB (aA (bI hs rfl rfl rfl rfl ?_))
   intro h hs
   refine aU hs ?_
   intro rv3 h hs
   refine aA (aC hs rfl (aA (aC hs rfl (m5 ?_))))
   have hs1:=hs
   refine aB (aA (eZ hnc.1 hnc.2 (Vf {(H l).1.kZ n with owner:= -1} hs rfl hnc ?_)))
   intro h hs
   refine cQ dA (cQ (aA dA) (cQ (aC hs1 rfl gC) (cQ (aB dA) (cQ (aA dA) ?_))))
   have hs0:=dZ b (o+l*25) (((H l).1.kZ n).Dy n) wa wc hs rfl rfl rfl
   refine aA (aC hs rfl (cU (fun h3=>?_) (fun h3=>?_)))
   ·simp only[h3,if_true] at hk
    refine ny (r:=((H l).1.kZ n).Dy n) hC hlim hl hnl hc (m:=(H l).2) (H:=H) (mb:=mb) (b:=b) (o:=o) (cap:=cap) (L:=L') ?_ hk
    simp only[pH,List.cons_append,List.nil_append,eM]
    exact hs0.to
   ·simp only[h3,Bool.false_eq_true,if_false] at hk
    refine U6 (r:=((H l).1.kZ n).Dy n) hC hlim hl hnl hc (m:=(H l).2) (H:=H) (mb:=mb) (b:=b) (o:=o) (cap:=cap) (L:=L') ?_ hk
    simp only[pH,List.cons_append,List.nil_append,eM]
    exact hs0.to
  ·simp only[if_neg h2] at hk
   refine aA (aC hs rfl (cU (fun h3=>?_) (fun h3=>?_)))
   ·simp only[h3,if_true] at hk
    refine ny (r:=(H l).1.kZ n) hC hlim hl hnl hc (m:=(H l).2) (H:=H) (mb:=mb) (b:=b) (o:=o) (cap:=cap) (L:=L') ?_ hk
    simp only[pH,List.cons_append,List.nil_append,eM]
    exact hs0.to
   ·simp only[h3,Bool.false_eq_true,if_false] at hk
    refine U6 (r:=(H l).1.kZ n) hC hlim hl hnl hc (m:=(H l).2) (H:=H) (mb:=mb) (b:=b) (o:=o) (cap:=cap) (L:=L') ?_ hk
    simp only[pH,List.cons_append,List.nil_append,eM]
    exact hs0.to
end Go.Proofs.YtajjljbmfdboaaaGreatDoor.H
end
section
namespace Go.Proofs.YtajjljbmfdboaaaGreatDoor.H
open Go Go.Ab Go.Hm
set_option maxRecDepth 100000
variable {G:Bg} {h:AH} {L L':List HP}
theorem Ls {b o:Nat} {line state x:Int} {r:Row} {Q:Value→AH→Prop} (hs:Hs G h L) [m:Has (dX b o) L r L'] (hk:∀v h',Hs G h' (eJ v (gN line state (r.jA x))::dX b o (r.gH (r.jA x))::L')→Q v h'):
  Cl Pr K 223 [pt b o 0,I x] h fun v h'=>Cl Pr K 222 [pt b o 0,I line,I state,v] h' Q:=by
 refine Vo (m.of hs) fun p q h hs=>?_
 have hs:=G0 (hs.front (dX b o r))
 refine C8 (G:=G) (r:=r) (A:=C3 b o p q x r) (L:=L') cr W3 sJ (by kernel_rfl) ?_ fun v h hs=>hk v h ?_
 ·simp only[C3]
  exact hs.to
 ·have hs:=hs.kA.unpack
  have hs:Hs G h (bp b o r::Ji b o (r.gH (r.jA x))::eJ v (gN line state (r.jA x))::L'):=hs.to
  exact(Lr (r:=r.gH (r.jA x)) hs).kA
theorem Zo {b o:Nat} {line state:Int} {e:TypeId} {a:Option Addr} {c:Nat} {r:Row} {x:Int} {cs:List Value} {Q:Value→AH→Prop} (hx:0≤x∧x<4) (hs:Hs G h L) [m:Has (dB 1 e a c) L (1,cs) L'] (hcs:cs=[I x]) {M:List HP} [m2:Has (dX b o) L' r M] (hk:∀v h',Hs G h' (eJ v (gN line state [x.toNat])::dX b o (r.gH [x.toNat])::M)→Q v h'):
  Cl Pr K 118 [.slice a 1 c] h fun v h'=>Cl Pr K 222 [pt b o 0,I line,I state,v] h' Q:=by
 subst hcs
 have hs:Hs G h (dB 1 e a c (1,[x].map I)::dX b o r::M):=hs.perm (m.perm.trans (m2.perm.cons _))
 refine Eh (e:=e) (xs:=[x]) rfl hs fun p h hs=>?_
 have hs:=G0 (hs.front (dX b o r))
 have hy:gu Pr K G 166 [] [pt p 0 0] (F1 e p a c [x]) ([x.toNat].map fun(c:Nat)=>[I c]):=by
  have:=xV (G:=G) (e:=e) (p:=p) (a:=a) (c:=c) (xs:=[x]) (by simp)
  simp only[List.map_cons,List.map_nil,Int.toNat_of_nonneg hx.1] at this ⊢
  exact this
 refine C8 (G:=G) (r:=r) (A:=F1 e p a c [x]) (L:=bp b o r::M) hy (fun c hc=>by simp at hc;omega) (by simp) (by kernel_rfl) ?_ fun v h hs=>hk v h ?_
 ·exact hs.to
 ·have hs:Hs G h (bp b o r::Ji b o (r.gH [x.toNat])::eJ v (gN line state [x.toNat])::M):=hs.to
  exact(Lr (r:=r.gH [x.toNat]) hs).kA
end Go.Proofs.YtajjljbmfdboaaaGreatDoor.H
end
section
namespace Go.Proofs.YtajjljbmfdboaaaGreatDoor.H
open Go Go.Ab Go.Hm
set_option maxRecDepth 100000
variable {G:Bg} {h:AH} {L L':List HP}
set_option maxHeartbeats 2000000 in
theorem Du {C:bL} (hC:C.Ok) {hb l:Nat} {H:iJ} {n:aJ} {world:Int} {Q:Value→AH→Prop} (hlim:Ob G 0 fB) (hs:Hs G h L) [m:Has (eY G hb C) L H L'] (hl:l<C.lines) (hnc:0≤n.core∧n.core<4) (how: -1≤(H l).1.owner∧(H l).1.owner<4)
  (hk:∀v h',Hs G h' (eJ v ((H l).1.get l (H l).2 n world).2::eY G hb C (bT H l (((H l).1.get l (H l).2 n world).1,(H l).2))::L')→Q v h'):
  Cl Pr K 220 [pt hb 0 0,I l,I world,.agg ⟨n.enc⟩] h Q:=by
 have hs:=m.of hs
 simp only[Row.get] at hk
 refine cW (dI hs ?_)
 intro p h hs
 obtain⟨mb,b,o,cap,hs⟩:=Cp hl (hs.front (eY G hb C H))
 obtain⟨wa,wc,hs⟩:=dH hs
 refine aB (aA (aC hs rfl (dK hl (aU hs ?_))))
 intro rv h hs
 refine aQ hs (by decide) (l:=n.enc) rfl rfl (aB (aA (bI hs rfl rfl rfl rfl ?_)))
 intro h hs
 have hs1:=hs
 refine aB (aA (bI hs rfl rfl rfl rfl ?_))
 intro h hs
 refine aB (aA (bI hs rfl rfl rfl rfl ?_))
 intro h hs
 refine cQ dA (cQ dA (cQ dA (cQ (aQ hs1 (by decide) (l:=n.enc) rfl rfl (oU (by simp[mS,aJ.enc]))) (cQ gC (cQ gC ?_)))))
 refine aA (aC hs rfl (bH ?_))
 have hs:=dZ b (o+l*25) ((H l).1.serve n world) wa wc hs rfl rfl rfl
 have hsc:((H l).1.serve n world).served.core=n.core:=rfl
 have how: -1≤((H l).1.serve n world).owner∧((H l).1.serve n world).owner<4:=how
 generalize hr:(H l).1.serve n world=r at hs hk hsc how
 have gO:∀(r2:Row),r2.served.core=n.core→∀h,Hs G h (dX b (o+l*25) r2::aE hb 0 (jH mb C b o cap)::eN G C.lines mb C (fun i=>(H i).2)::hole G 25 247 (some ⟨b,o,none⟩) cap C.lines b o::uQ b o C.lines H l::L')→
   (∀v h',Hs G h' (eJ v (r2.gO l (r2.Z7 (H l).2)).2::eY G hb C (bT H l ((r2.gO l (r2.Z7 (H l).2)).1,(H l).2))::L')→Q v h')→Cl Pr K 271 [pt hb 0 0,I l] h Q:=fun r2 hc2 h hs hk=>by
  have hs:=eH hb C H l r2 (H l).2 _ mb b o cap hl eM.symm hs
  refine B3 hC hlim hs hl (by simp only[gP,hc2];exact hnc) fun v h hs=>hk _ _ ?_
  simp only[gP,Bb] at hs
  exact hs.to
 have probe:∀(r2:Row) (N:List aJ) v h,Hs G h (eJ v N::dX b (o+l*25) r2::aE hb 0 (jH mb C b o cap)::eN G C.lines mb C (fun i=>(H i).2)::hole G 25 247 (some ⟨b,o,none⟩) cap C.lines b o::uQ b o C.lines H l::L')→Hs G h (eJ v N::eY G hb C (bT H l (r2,(H l).2))::L'):=fun r2 N v h hs=>
  (eH hb C H l r2 (H l).2 _ mb b o cap hl eM.symm hs).to
 refine aR (fun h1=>?_) (fun h1=>?_)
 ·simp only[if_pos h1,Row.getM,hsc] at hk
  refine bW (aA (aC hs rfl (uB hs fun hs=>aY (aR (fun h2=>?_) (fun h2=>?_)))))
  ·rw[if_pos h2] at hk
   refine aA (aC hs rfl (Ls hs fun v h hs=>hk _ _ ?_))
   exact probe _ _ _ _ hs.to
  ·rw[if_neg h2] at hk
   exact gO r hsc _ hs.to hk
 ·simp only[if_neg h1,Row.aa] at hk
  refine bW (aU hs ?_)
  intro rv2 h hs
  obtain⟨wa,wc,hs⟩:=dH (hs.front (dX b (o+l*25) r))
  refine aB (aA (aC hs rfl (aA (aC hs rfl (bH (aR (fun h2=>bW ?_) (fun h2=>bW ?_)))))))
  ·have hu:r.sO={r with owner:= -1}:=by unfold Row.sO;rw[if_pos (by rw[hsc];exact h2)]
   rw[hu] at hk
   simp only[ne_eq,not_true_eq_false,if_false] at hk
   refine aB (aA (bI hs rfl rfl rfl rfl ?_))
   intro h hs
   refine aB (aA (aC hs rfl (aY (aK (by simp) ?_))))
   have hs:=dZ b (o+l*25) {r with owner:= -1} wa wc hs rfl rfl rfl
   exact gO {r with owner:= -1} hsc _ hs.to hk
  ·have hu:r.sO=r:=by unfold Row.sO;rw[if_neg (by rw[hsc];exact h2)]
   rw[hu] at hk
   refine aB (aA (aC hs rfl (aY (aR (fun h3=>?_) (fun h3=>?_)))))
   ·rw[if_pos h3] at hk
    refine aB (aA (aC hs rfl (aH (c:=[I r.owner]) rfl (dE hs rfl rfl rfl ?_))))
    intro a h hs
    have hs:=dZ b (o+l*25) r wa wc hs rfl rfl rfl
    refine Zo (e:=3) (by omega) hs rfl fun v h hs=>hk _ _ ?_
    exact probe _ _ _ _ hs.to
   ·rw[if_neg h3] at hk
    have hs:=dZ b (o+l*25) r wa wc hs rfl rfl rfl
    exact gO r hsc _ hs.to hk
end Go.Proofs.YtajjljbmfdboaaaGreatDoor.H
end
section
namespace Go.Proofs.YtajjljbmfdboaaaGreatDoor.H
open Go Go.Ab Go.Hm
set_option maxRecDepth 100000
variable {G:Bg} {h:AH} {L L':List HP}
theorem tB {C:bL} {hb mb b o cap:Nat} {x:Int} {Q:Value→AH→Prop} (hs:Hs G h L) [m:Has (aE hb 0) L (jH mb C b o cap) L'] (hk:Q (.bool (decide (C.has x))) h):Cl Pr K 125 [pt hb 0 0,I x] h Q:=by
 refine cW (Pc (eQ (dR (aR (fun h1=>?_) (fun h1=>?_)))))
 ·refine aB (aA (aC hs rfl (bZ (aN ?_))))
  show Q _ _
  rw[show decide (x<(C.lines:Int))=decide (C.has x) from decide_eq_decide.2 ⟨fun h=>⟨h1,h⟩,fun h=>h.2⟩]
  exact hk
 ·show Q _ _
  rw[show false=decide (C.has x) from(decide_eq_false (fun h=>h1 h.1)).symm]
  exact hk
theorem Bw {C:bL} {H:iJ} {b o l:Nat} (hl:l<C.lines) (hs:Hs G h L) [k:dP (dD C.lines fun i=>dX b (o+i*25) (H i).1) L L']:Hs G h (dX b (o+l*25) (H l).1::uQ b o C.lines H l::L'):=
 (hs.front (dD C.lines fun i=>dX b (o+i*25) (H i).1)).kY l hl
theorem uZ (C:bL) (H:iJ) (hb mb b o cap:Nat) {L1 L2 L3 L4:List HP} (hs:Hs G h L) [k2:dP (aE hb 0 (jH mb C b o cap)) L L1] [k3:dP (eN G C.lines mb C (fun i=>(H i).2)) L1 L2]
  [k4:dP (hole G 25 247 (some ⟨b,o,none⟩) cap C.lines b o) L2 L3] [k5:dP (dD C.lines fun i=>dX b (o+i*25) (H i).1) L3 L4]:Hs G h (eY G hb C H::L4):=
 qN (mb:=mb) (b:=b) (o:=o) (cap:=cap) (hs.perm (k2.perm.trans ((k3.perm.trans ((k4.perm.trans (k5.perm.cons _)).cons _)).cons _)))
section
variable {C:bL} {hb mb b o cap p l:Nat} {H:iJ} {n:aJ} {Q:Value→AH→Prop}
theorem aA4 (hC:C.Ok) (hlim:Ob G 0 fB) (hl:l<C.lines) (hnl:n.line=l) (hnc:0≤n.core∧n.core<4) (hi:(H l).1.Inv) (hw:(H l).1.waits.length<2^30)
  (hs:Hs G h (aE p 0 n.enc::aE hb 0 (jH mb C b o cap)::eN G C.lines mb C (fun i=>(H i).2)::hole G 25 247 (some ⟨b,o,none⟩) cap C.lines b o::dD C.lines (fun i=>dX b (o+i*25) (H i).1)::L))
  (hk:∀v h',Hs G h' (eJ v (qZ.take (H l) l n).2.1::eY G hb C (bT H l (qZ.take (H l) l n).1)::L)→Q (.tuple ⟨[v,I (qZ.take (H l) l n).2.2]⟩) h'):
  Dd 200 6 [] Q [(pt hb 0 0),(pt p 0 0)] h:=by
 unfold qZ.take at hk
 refine bW (aU hs ?_)
 intro rv h hs
 have hs:=Bw (H:=H) (b:=b) (o:=o) hl hs
 have same:∀h,Hs G h (dX b (o+l*25) (H l).1::uQ b o C.lines H l::aE p 0 n.enc::aE hb 0 (jH mb C b o cap)::eN G C.lines mb C (fun i=>(H i).2)::hole G 25 247 (some ⟨b,o,none⟩) cap C.lines b o::L)→Hs G h (eJ (.slice none 0 0) []::eY G hb C (bT H l (H l))::L):=fun h hs=>
  oN ((eH hb C H l (H l).1 (H l).2 _ mb b o cap hl eM.symm hs).to)
 have hs0:Hs G h (dX b (o+l*25) (H l).1::uQ b o C.lines H l::aE p 0 n.enc::aE hb 0 (jH mb C b o cap)::eN G C.lines mb C (fun i=>(H i).2)::hole G 25 247 (some ⟨b,o,none⟩) cap C.lines b o::L):=hs.to
 obtain⟨wa,wc,hs⟩:=dH hs
 refine aB (aA (aC hs rfl (aA (aC hs rfl ?_))))
 rw[hnl]
 refine dK hl (aA (aC hs rfl (bH (aR (fun h1=>bW ?_) (fun h1=>bW ?_)))))
 ·rw[if_pos h1] at hk
  refine aU hs ?_
  intro rv2 h hs
  refine aB (aA (aC hs rfl (bS (dQ (cU (fun h2=>?_) (fun h2=>?_))))))
  ·refine aB (aA (aA (aC hs rfl (aA (aC hs rfl (aY (aR (fun h3=>?_) (fun h3=>bW ?_))))))))
   ·rw[if_pos (.inr h3)] at hk
    exact hk _ _ (same _ (dZ b (o+l*25) (H l).1 wa wc hs rfl rfl rfl).to)
   ·rw[if_neg (by rw[h2];simpa using h3)] at hk
    have hs:=dZ b (o+l*25) (H l).1 wa wc hs rfl rfl rfl
    refine Ye hs fun h hs=>hk _ _ ?_
    exact oN ((eH hb C H l (H l).1.free (H l).2 _ mb b o cap hl eM.symm hs).to)
  ·rw[if_pos (.inl h2)] at hk
   exact hk _ _ (same _ (dZ b (o+l*25) (H l).1 wa wc hs rfl rfl rfl).to)
 ·rw[if_neg h1] at hk
  refine bH (aR (fun h2=>bW ?_) (fun h2=>bW ?_))
  ·rw[if_pos h2] at hk
   refine aU hs ?_
   intro rv2 h hs
   refine aA (aC hs rfl (aB (aA (eZ hnc.1 hnc.2 (aC hs (v:= .bool ((H l).1.asked n.core.toNat)) ?_ (bS (dQ (cU (fun h3=>?_) (fun h3=>?_)))))))))
   ·have:n.core.toNat=0∨n.core.toNat=1∨n.core.toNat=2∨n.core.toNat=3:=by omega
    rcases this with e|e|e|e<;>rw[e]<;>rfl
   ·rw[if_neg (by rw[h3];simp)] at hk
    refine aQ hs (by decide) (l:=n.enc) rfl rfl ?_
    have hs:=dZ b (o+l*25) (H l).1 wa wc hs rfl rfl rfl
    have hs:=eH hb C H l (H l).1 (H l).2 _ mb b o cap hl eM.symm hs
    rw[show bT H l ((H l).1,(H l).2)=H from tT] at hs
    exact ou hC hlim hs hl hnl hnc hi.core fun v h hs=>hk _ _ hs.to
   ·rw[if_pos h3] at hk
    exact hk _ _ (same _ (dZ b (o+l*25) (H l).1 wa wc hs rfl rfl rfl).to)
  ·rw[if_neg h2] at hk
   refine aU hs ?_
   intro rv2 h hs
   refine aB (aA (aC hs rfl (aQ hs (by decide) (l:=n.enc) rfl rfl (aH (c:=n.enc) rfl ?_))))
   refine iW hs rfl rfl rfl rfl rfl ?_
   intro a h hs
   refine pW hs (by omega) ?_
   intro a4 c4 h hs
   dsimp only
   refine aB (aA (bI hs rfl rfl rfl rfl ?_))
   intro h hs
   refine cQ dA (hk _ _ ?_)
   have hs:=dZ b (o+l*25) ((H l).1.wait n) a4 c4 hs (by simp[Row.enc,dL,Row.wait]) (by simp[Row.wait]) (by simp[uR,Row.wait])
   exact oN ((eH hb C H l ((H l).1.wait n) (H l).2 _ mb b o cap hl eM.symm hs).to)
end
end Go.Proofs.YtajjljbmfdboaaaGreatDoor.H
end
end
