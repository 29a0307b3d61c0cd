/- A part of the proof. -/
import Derived.Test.YtajjljbmfdboaaaGreatDoorF11
import Derived.Test.YtajjljbmfdboaaaGreatDoorF9
import Derived.Lib.ItoaNum
import Derived.Lib.Bytes
section
open Go Go.Ab
attribute [local irreducible] bA Br pN uC uU Dp nH xW nQ Tx gZ mQ rE sP qX lA B8 uK Y9 dw Tv Sl dj Ty Ry U9 Yi lJ pF vW jB copyV jC wY ft Zd Iw lI P0 Wx en qE uG Be Dk Cl zV Xm uE sS lC gK cS cC
section
namespace Go.Proofs.YtajjljbmfdboaaaGreatDoor
open Go Go.Ab Go.Hm
set_option maxRecDepth 100000
variable {G:Bg} {h:AH} {L L':List HP}
theorem Uv {C:bL} {p:Nat} {Q:Value→AH→Prop} (hs:Hs G h (aE p 0 C.enc::L)):∀(f i:Nat),i+f=7→Q (I (C.ib f i)) h→Dd 89 1 [] Q [(pt p 0 0),(I 0),(.agg ⟨fB⟩),(I i)] h:=by
 intro f
 induction f with
 |zero=>
  intro i hi hq
  exact bW (aN (aK (by omega) hq))
 |succ f ih=>
  intro i hi hq
  have h7:i<7:=by omega
  refine bW (aN (bP (by omega) (bW ?_)))
  have hc:C.enc[0+i*1]?=some (I (C.list.getD i 0)):=by
   have:i=0∨i=1∨i=2∨i=3∨i=4∨i=5∨i=6:=by omega
   rcases this with rfl|rfl|rfl|rfl|rfl|rfl|rfl<;>rfl
  have hl:fB[i]?=some (I (aA1.getD i 0)):=by
   have:i=0∨i=1∨i=2∨i=3∨i=4∨i=5∨i=6:=by omega
   rcases this with rfl|rfl|rfl|rfl|rfl|rfl|rfl<;>rfl
  rw[bL.ib] at hq
  refine Yf h7 hl (fQ h7 (aC hs hc (aN (aR (fun h1=>?_) (fun h1=>fQ h7 (aC hs hc (iS (aR (fun h2=>bW ?_) (fun h2=>bW (bE (by omega) (ih (i+1) (by omega) ?_)))))))))))
  ·rw[if_pos (.inl h1)] at hq;exact hq
  ·rw[if_pos (.inr h2)] at hq;exact hq
  ·rw[if_neg (by omega)] at hq;exact hq
theorem lK {C:bL} {Q:Value→AH→Prop} (hl:Ob G 0 fB) (hs:Hs G h L) (hk:∀h',Hs G h' L→Q (I (if C.Ok then 0 else 10)) h'):Cl Pr K 89 [.agg ⟨C.enc⟩] h Q:=by
 refine cW ?_
 refine dI hs ?_
 intro p h hs
 iterate 7 refine aA (aC hs rfl ?_)
 refine aH (c:=C.enc) rfl (bN hs ?_)
 intro p h hs
 refine aZ hs rfl rfl rfl rfl ?_
 intro h hs
 refine aAw hs hl rfl ?_
 refine Uv (C:=C) hs 7 0 rfl ?_
 show Q _ _
 rw[bL.aE3]
 exact hk _ hs.tail.tail
theorem mZ {C:bL} (hC:C.Ok) {Q:Value→AH→Prop} (hl:Ob G 0 fB) (hs:Hs G h L) (hk:∀h',Hs G h' L→Q (I C.lines) h'):Cl Pr K 63 [.agg ⟨C.enc⟩] h Q:=by
 refine cW ?_
 refine dI hs ?_
 intro p h hs
 refine aQ hs (by decide) (l:=C.enc) rfl rfl (lK hl hs fun h hs=>?_)
 rw[if_pos hC]
 have hb:=bL.eI hC
 refine aY (aK (by omega) ?_)
 refine aA (aC hs rfl (pO (by unfold bL.Ok at hC;omega) ?_))
 show Q _ _
 rw[show C.bB*2=(C.lines:Int) from hb.1.symm]
 exact hk _ hs.tail
theorem bz {C:bL} (hC:C.Ok) {l:Int} {Q:Value→AH→Prop} (hl:Ob G 0 fB) (hs:Hs G h L) (hk:∀h',Hs G h' L→Q (if 0≤l∧l<C.lines then .tuple ⟨[I (l % C.aI),I 0]⟩ else .tuple ⟨[I 0,I 10]⟩) h'):Cl Pr K 238 [.agg ⟨C.enc⟩,I l] h Q:=by
 refine cW ?_
 refine dI hs ?_
 intro p h hs
 refine aN (aR (fun h1=>?_) (fun h1=>?_))
 ·have:=hk _ hs.tail
  rw[if_neg (by omega)] at this;exact this
 ·refine aQ hs (by decide) (l:=C.enc) rfl rfl (mZ hC hl hs fun h hs=>?_)
  refine dR (aR (fun h2=>?_) (fun h2=>?_))
  ·have:=hk _ hs.tail
   rw[if_neg (by omega)] at this;exact this
  ·have:=hk _ hs.tail
   rw[if_pos (by omega)] at this
   refine aA (aC hs rfl (P2 (by omega) (by unfold bL.Ok at hC;omega) ?_))
   exact this
end Go.Proofs.YtajjljbmfdboaaaGreatDoor
end
end
section
namespace Go.Hm
open Go Go.Ab
abbrev Ln:=Int×Int
def J5 (l:Ln):List Value:=[I l.1,I l.2]
def gL (n B i:Nat):Nat:=(n+B - 1 - i)/B
theorem du {B i:Nat} (hi:i<B):gL 0 B i=0:=Nat.div_eq_of_lt (by omega)
theorem Kr {n B i:Nat} (hi:i<B):gL (n+1) B i=if i=n % B then gL n B i+1 else gL n B i:=by
 have hd:=Nat.div_add_mod n B
 have hm:=Nat.mod_lt n (show 0<B by omega)
 unfold gL
 generalize n/B=q at hd
 generalize n % B=r at hd hm ⊢
 subst hd
 split
 ·rename_i h;subst h
  rw[show B*q+i+1+B - 1 - i=B*q+B by omega,show B*q+i+B - 1 - i=B*q+(B - 1) by omega]
  rw[Nat.mul_add_div (by omega),Nat.mul_add_div (by omega),Nat.div_self (by omega),Nat.div_eq_of_lt (show B - 1<B by omega)]
 ·rename_i h
  rcases Nat.lt_or_ge i r with h1|h1
  ·rw[show B*q+r+1+B - 1 - i=B*q+(B+(r - i)) by omega,show B*q+r+B - 1 - i=B*q+(B+(r - i - 1)) by omega]
   rw[Nat.mul_add_div (by omega),Nat.mul_add_div (by omega),Nat.add_div_left _ (by omega),Nat.add_div_left _ (by omega),Nat.div_eq_of_lt (show r - i<B by omega),Nat.div_eq_of_lt (show r - i - 1<B by omega)]
  ·rw[show B*q+r+1+B - 1 - i=B*q+(B+r - i) by omega,show B*q+r+B - 1 - i=B*q+(B+r - i - 1) by omega]
   rw[Nat.mul_add_div (by omega),Nat.mul_add_div (by omega),Nat.div_eq_of_lt (show B+r - i<B by omega),Nat.div_eq_of_lt (show B+r - i - 1<B by omega)]
theorem Gk {n B l:Nat} (hB:0<B) (hl:l<n):l/B<gL n B (l % B):=by
 unfold gL
 have hd:=Nat.div_add_mod l B
 have hm:=Nat.mod_lt l hB
 rw[Nat.lt_div_iff_mul_lt hB]
 rw[Nat.mul_comm]
 generalize B*(l/B)=q at hd ⊢
 omega
theorem O9 {B l k i:Nat} (hi:i<B):k*B+i=l↔k=l/B∧i=l % B:=by
 constructor
 ·intro h;subst h
  rw[Nat.mul_comm,Nat.mul_add_div (by omega),Nat.mul_add_mod,Nat.div_eq_of_lt hi,Nat.mod_eq_of_lt hi];simp
 ·rintro ⟨rfl,rfl⟩
  have:=Nat.div_add_mod l B
  rw[Nat.mul_comm];exact this
theorem bL.bk {C:bL} (h:C.Ok):(C.aI.toNat:Int)=C.aI∧0<C.aI.toNat∧C.aI.toNat≤4:=by unfold bL.Ok at h;omega
def J6 (B i:Nat) (mem:Nat→Ln):Nat→List Value:=fun k=>J5 (mem (k*B+i))
theorem O8 {B i:Nat} {mem:Nat→Ln} (k:Nat):(J6 B i mem k).length=2:=rfl
theorem tT {α:Type} {f:Nat→α} {i:Nat}:bT f i (f i)=f:=by
 funext j;unfold bT;split
 ·rename_i h;rw[h]
 ·rfl
theorem qj {B l:Nat} {mem:Nat→Ln} (hB:0<B):J6 B (l % B) mem (l/B)=J5 (mem l):=by
 unfold J6;rw[(O9 (Nat.mod_lt l hB)).2 ⟨rfl,rfl⟩]
theorem Nq {B l:Nat} {mem:Nat→Ln} {v:Ln} (hB:0<B):bT (J6 B (l % B) mem) (l/B) (J5 v)=J6 B (l % B) (bT mem l v):=by
 funext k
 unfold J6 bT
 have:=(O9 (l:=l) (k:=k) (Nat.mod_lt l hB))
 by_cases h:k=l/B
 ·rw[if_pos h,if_pos (this.2 ⟨h,rfl⟩)]
 ·rw[if_neg h,if_neg (fun e=>h (this.1 e).1)]
theorem oe {B l i:Nat} {mem:Nat→Ln} {v:Ln} (hi:i<B) (h:i≠l % B):J6 B i (bT mem l v)=J6 B i mem:=by
 funext k
 unfold J6 bT
 rw[if_neg (fun e=>h ((O9 hi).1 e).2)]
theorem Xe {n B i:Nat} (hB:0<B):gL n B i≤n:=by
 unfold gL
 refine Nat.le_of_lt_succ (Nat.div_lt_of_lt_mul ?_)
 rw[Nat.mul_succ]
 have:n≤B*n:=Nat.le_mul_of_pos_left _ hB
 omega
def nR:Nat→Ln:=fun _=>(0,0)
end Go.Hm
end
section
open Go Go.Ab
attribute [local irreducible] bA Br pN uC uU Dp nH xW nQ Tx gZ mQ rE sP qX lA B8 uK Y9 dw Tv Sl dj Ty Ry U9 Yi lJ pF vW jB copyV jC wY ft Zd Iw lI P0 Wx en qE uG Be Dk Cl zV Xm uE sS lC gK cS cC
section
namespace Go.Proofs.YtajjljbmfdboaaaGreatDoor
open Go Go.Ab Go.Hm
set_option maxRecDepth 100000
variable {G:Bg} {h:AH} {L L':List HP}
structure BkA where
 r:Int
 w:Int
 a:Option Addr
 cap:Nat
def fF (n B b o i:Nat) (mem:Nat→Ln):HP:=rY fun x:BkA=>
 sp [aE b o [I x.r,I x.w,.slice x.a (gL n B i) x.cap],dB 2 155 x.a x.cap (gL n B i,(List.range (gL n B i)).flatMap (J6 B i mem))]
theorem zA {n B b o i:Nat} {mem:Nat→Ln} (hs:Hs G h (fF n B b o i mem::L)):∃r w a cap,Hs G h (aE b o [I r,I w,.slice a (gL n B i) cap]::dB 2 155 a cap (gL n B i,(List.range (gL n B i)).flatMap (J6 B i mem))::L):=by
 obtain⟨⟨r,w,a,cap⟩,hs⟩:=hs.zE
 exact⟨r,w,a,cap,hs.unpack⟩
theorem oP {n B b o i:Nat} {mem:Nat→Ln} {r w:Int} {a:Option Addr} {cap:Nat} (hs:Hs G h (aE b o [I r,I w,.slice a (gL n B i) cap]::dB 2 155 a cap (gL n B i,(List.range (gL n B i)).flatMap (J6 B i mem))::L)):Hs G h (fF n B b o i mem::L):=
 Hs.uH (A:=fun x:BkA=>sp [aE b o [I x.r,I x.w,.slice x.a (gL n B i) x.cap],dB 2 155 x.a x.cap (gL n B i,(List.range (gL n B i)).flatMap (J6 B i mem))]) ⟨r,w,a,cap⟩ (Hs.pack (A:=[_,_]) hs)
structure MmA where
 b:Nat
 o:Nat
 cap:Nat
def eN (G:Bg) (n mb:Nat) (C:bL) (mem:Nat→Ln):HP:=rY fun x:MmA=>
 sp [aE mb 0 (C.enc++[.slice (some ⟨x.b,x.o,none⟩) C.aI.toNat x.cap]),hole G 3 297 (some ⟨x.b,x.o,none⟩) x.cap C.aI.toNat x.b x.o,dD C.aI.toNat fun i=>fF n C.aI.toNat x.b (x.o+i*3) i mem]
theorem uA {n mb:Nat} {C:bL} {mem:Nat→Ln} (hs:Hs G h (eN G n mb C mem::L)):∃b o cap,Hs G h (aE mb 0 (C.enc++[.slice (some ⟨b,o,none⟩) C.aI.toNat cap])::hole G 3 297 (some ⟨b,o,none⟩) cap C.aI.toNat b o::dD C.aI.toNat (fun i=>fF n C.aI.toNat b (o+i*3) i mem)::L):=by
 obtain⟨⟨b,o,cap⟩,hs⟩:=hs.zE
 exact⟨b,o,cap,hs.unpack⟩
theorem qQ {n mb:Nat} {C:bL} {mem:Nat→Ln} {b o cap:Nat} (hs:Hs G h (aE mb 0 (C.enc++[.slice (some ⟨b,o,none⟩) C.aI.toNat cap])::hole G 3 297 (some ⟨b,o,none⟩) cap C.aI.toNat b o::dD C.aI.toNat (fun i=>fF n C.aI.toNat b (o+i*3) i mem)::L)):Hs G h (eN G n mb C mem::L):=
 Hs.uH (A:=fun x:MmA=>sp [aE mb 0 (C.enc++[.slice (some ⟨x.b,x.o,none⟩) C.aI.toNat x.cap]),hole G 3 297 (some ⟨x.b,x.o,none⟩) x.cap C.aI.toNat x.b x.o,dD C.aI.toNat fun i=>fF n C.aI.toNat x.b (x.o+i*3) i mem]) ⟨b,o,cap⟩ (Hs.pack (A:=[_,_,_]) hs)
theorem Hn {L1 L2 L3:List HP} (n mb:Nat) (C:bL) (mem:Nat→Ln) (b o cap:Nat) (hs:Hs G h L) [k:dP (aE mb 0 (C.enc++[.slice (some ⟨b,o,none⟩) C.aI.toNat cap])) L L1] [k2:dP (hole G 3 297 (some ⟨b,o,none⟩) cap C.aI.toNat b o) L1 L2] [k3:dP (dD C.aI.toNat (fun i=>fF n C.aI.toNat b (o+i*3) i mem)) L2 L3]:Hs G h (eN G n mb C mem::L3):=
 qQ (b:=b) (o:=o) (cap:=cap) (hs.perm (k.perm.trans ((k2.perm.trans (k3.perm.cons _)).cons _)))
theorem sM {C:bL} (hC:C.Ok) {mb b o cap l:Nat} {Q:Value→AH→Prop} (hl:Ob G 0 fB) (hs:Hs G h L) [m:Has (aE mb 0) L (C.enc++[.slice (some ⟨b,o,none⟩) C.aI.toNat cap]) L'] (h0:l<C.lines)
  (hk:∀h',Hs G h' L→Q (.tuple ⟨[pt b (o+(l % C.aI.toNat)*3) 0,I (l/C.aI.toNat:Nat),I 0]⟩) h'):Cl Pr K 177 [pt mb 0 0,I l] h Q:=by
 have hb:=bL.bk hC
 refine cW (cN (bV (bW ?_)))
 refine aB (aA (aQ hs (by decide) (l:=C.enc) rfl rfl (bz hC hl hs fun h hs=>?_)))
 rw[if_pos (by omega)]
 refine aG rfl (aG rfl (aY (aK (by omega) ?_)))
 refine aU hs ?_
 intro r h hs
 refine aB (aA (aC hs rfl ?_))
 have e1:(l:Int) % C.aI=((l % C.aI.toNat:Nat):Int):=by rw[←hb.1];simp
 have e2:(l:Int)/C.aI=((l/C.aI.toNat:Nat):Int):=by rw[←hb.1];simp
 rw[e1]
 refine dK (Nat.mod_lt _ hb.2.1) (aB (aA (aA (aC hs rfl (Cs (by omega) (by omega) (by have:=(bL.eI hC).2;omega) ?_)))))
 show Q _ _
 rw[e2]
 exact hk _ hs.tail
theorem X7 {C:bL} (hC:C.Ok) {mb l:Nat} {mem:Nat→Ln} {Q:Value→AH→Prop} (hl:Ob G 0 fB) (hs:Hs G h L) [m:Has (eN G C.lines mb C) L mem L'] (h0:l<C.lines)
  (hk:∀h',Hs G h' (eN G C.lines mb C mem::L')→Q (.tuple ⟨[.agg ⟨J5 (mem l)⟩,I 0]⟩) h'):Cl Pr K 306 [pt mb 0 0,I l] h Q:=by
 have hb:=bL.bk hC
 have hs:=m.of hs
 obtain⟨b,o,cap,hs⟩:=uA hs
 refine cW (bN hs ?_)
 intro p h hs
 refine sM hC hl hs h0 fun h hs=>?_
 refine aG rfl (aG rfl (aG rfl (aY (aK (by omega) (bW ?_)))))
 have hs:=(hs.front (dD C.aI.toNat fun i=>fF C.lines C.aI.toNat b (o+i*3) i mem)).kY (l % C.aI.toNat) (Nat.mod_lt _ hb.2.1)
 obtain⟨r,w,a,cp,hs⟩:=zA hs
 refine aB (aA (aA (aC hs rfl (V1 (aB (aA (aA (bI hs rfl rfl rfl rfl ?_))))))))
 intro h hs
 refine aB (aA (aC hs rfl ?_))
 have hat:=Gk hb.2.1 h0
 obtain⟨b2,o2,rfl,H,hs,hback⟩:=Hs.jg (O8 (B:=C.aI.toNat) (i:=l % C.aI.toNat) (mem:=mem)) hat (hs.front (dB 2 155 a cp (gL C.lines C.aI.toNat (l % C.aI.toNat),(List.range (gL C.lines C.aI.toNat (l % C.aI.toNat))).flatMap (J6 C.aI.toNat (l % C.aI.toNat) mem))))
 rw[qj hb.2.1] at hs
 refine dK hat (aQ hs (by decide) (l:=J5 (mem l)) rfl rfl ?_)
 refine aZ hs rfl rfl rfl rfl ?_
 intro h hs
 refine aQ hs (by decide) rfl rfl ?_
 refine hk _ ?_
 have hs:=hback _ _ _ rfl rfl (hs.cA (aE b2 (o2+l/C.aI.toNat*2) (J5 (mem l))) H)
 rw[Nq hb.2.1,tT] at hs
 have hs:=oP (hs.sg (b:=b) (o:=o+l % C.aI.toNat*3) (c:=[I (wr (r+1)),I w,.slice (some ⟨b2,o2,none⟩) (gL C.lines C.aI.toNat (l % C.aI.toNat)) cp]) rfl)
 exact qQ (b:=b) (o:=o) (cap:=cap) ((hs.oR (n:=C.aI.toNat) (i:=l % C.aI.toNat) (fun i=>fF C.lines C.aI.toNat b (o+i*3) i mem) (fun i=>fF C.lines C.aI.toNat b (o+i*3) i mem) (Nat.mod_lt _ hb.2.1) (fun _ _ _=>rfl)).to)
theorem Cn {C:bL} (hC:C.Ok) {mb l:Nat} {mem:Nat→Ln} {v:Ln} {Q:Value→AH→Prop} (hl:Ob G 0 fB) (hs:Hs G h L) [m:Has (eN G C.lines mb C) L mem L'] (h0:l<C.lines)
  (hk:∀h',Hs G h' (eN G C.lines mb C (bT mem l v)::L')→Q (I 0) h'):Cl Pr K 217 [pt mb 0 0,I l,.agg ⟨J5 v⟩] h Q:=by
 have hb:=bL.bk hC
 have hs:=m.of hs
 obtain⟨b,o,cap,hs⟩:=uA hs
 refine cW (dI hs ?_)
 intro p h hs
 refine sM hC hl hs h0 fun h hs=>?_
 refine aG rfl (aG rfl (aG rfl (aY (aK (by omega) (bW ?_)))))
 have hs:=(hs.front (dD C.aI.toNat fun i=>fF C.lines C.aI.toNat b (o+i*3) i mem)).kY (l % C.aI.toNat) (Nat.mod_lt _ hb.2.1)
 obtain⟨r,w,a,cp,hs⟩:=zA hs
 refine aB (aA (aA (aC hs rfl (V1 (aB (aA (aA (bI hs rfl rfl rfl rfl ?_))))))))
 intro h hs
 refine aU hs ?_
 intro rv h hs
 refine aB (aA (aC hs rfl (aQ hs (by decide) rfl rfl ?_)))
 have hat:=Gk hb.2.1 h0
 obtain⟨b2,o2,rfl,H,hs,hback⟩:=Hs.jg (O8 (B:=C.aI.toNat) (i:=l % C.aI.toNat) (mem:=mem)) hat (hs.front (dB 2 155 a cp (gL C.lines C.aI.toNat (l % C.aI.toNat),(List.range (gL C.lines C.aI.toNat (l % C.aI.toNat))).flatMap (J6 C.aI.toNat (l % C.aI.toNat) mem))))
 refine dK hat (aZ hs rfl rfl rfl rfl ?_)
 intro h hs
 refine hk _ ?_
 have hs:=hback _ _ _ rfl rfl ((hs.sg (b:=b2) (o:=o2+l/C.aI.toNat*2) (c:=J5 v) rfl).cA (aE b2 (o2+l/C.aI.toNat*2) (J5 v)) H)
 rw[Nq hb.2.1] at hs
 have hs:=oP (hs.sg (b:=b) (o:=o+l % C.aI.toNat*3) (c:=[I r,I (wr (w+1)),.slice (some ⟨b2,o2,none⟩) (gL C.lines C.aI.toNat (l % C.aI.toNat)) cp]) rfl)
 exact qQ (b:=b) (o:=o) (cap:=cap) ((hs.oR (n:=C.aI.toNat) (i:=l % C.aI.toNat) (fun i=>fF C.lines C.aI.toNat b (o+i*3) i mem) (fun i=>fF C.lines C.aI.toNat b (o+i*3) i (bT mem l v)) (Nat.mod_lt _ hb.2.1) (fun i hi hne=>by simp only[fF,oe hi hne])).to)
theorem Rs {C:bL} (hC:C.Ok) {p mb:Nat} {Q:Value→AH→Prop} (hk:∀h',Hs G h' (eN G C.lines mb C nR::L)→Q (.tuple ⟨[pt mb 0 0,I 0]⟩) h'):∀(f n:Nat) (h:AH) (g:HP),n+f=C.lines→Hs G h (eN G n mb C nR::aE p 0 C.enc::g::L)→
  Dd 93 2 [] Q [(pt p 0 0),(pt mb 0 0),(I C.lines),(I n)] h:=by
 have hb:=bL.bk hC
 have hln:=bL.eI hC
 intro f
 induction f with
 |zero=>
  intro n h g hn hs
  have:n=C.lines:=by omega
  subst this
  exact bW (aN (aK (by omega) (hk _ hs.to)))
 |succ f ih=>
  intro n h g hn hs
  refine bW (aN (bP (by omega) (bW ?_)))
  refine aU hs ?_
  intro rv h hs
  obtain⟨b,o,cap,hs⟩:=uA (hs.front (eN G n mb C nR))
  refine aB (aA (aC hs rfl (aA (aC hs rfl ?_))))
  have e1:(n:Int) % C.aI=((n % C.aI.toNat:Nat):Int):=by rw[←hb.1];simp
  refine P2 (by omega) (by omega) ?_
  rw[e1]
  have hi:=Nat.mod_lt n hb.2.1
  refine dK hi ?_
  have hs:=(hs.front (dD C.aI.toNat fun i=>fF n C.aI.toNat b (o+i*3) i nR)).kY (n % C.aI.toNat) hi
  obtain⟨r,w,a,cp,hs⟩:=zA hs
  refine aB (aA (aC hs rfl (aH (c:=J5 (0,0)) rfl (aH (c:=J5 (0,0)) rfl ?_))))
  refine dE hs rfl rfl rfl ?_
  intro a3 h hs
  have hcl:=Xe (n:=n) (B:=C.aI.toNat) (i:=n % C.aI.toNat) hb.2.1
  refine pW hs (by omega) ?_
  intro a4 c4 h hs
  dsimp only
  refine aB (aA (bI hs rfl rfl rfl rfl ?_))
  intro h hs
  refine bE (by omega) ?_
  refine ih (n+1) h (sp [dB 2 155 (some a3) 1 (1,J5 (0,0)),Yn rv (10,[]),g]) (by omega) ?_
  have ec:gL (n+1) C.aI.toNat (n % C.aI.toNat)=gL n C.aI.toNat (n % C.aI.toNat)+1:=by rw[Kr hi,if_pos rfl]
  have ef:(List.range (gL n C.aI.toNat (n % C.aI.toNat))).flatMap (J6 C.aI.toNat (n % C.aI.toNat) nR)++J5 (0,0)=(List.range (gL (n+1) C.aI.toNat (n % C.aI.toNat))).flatMap (J6 C.aI.toNat (n % C.aI.toNat) nR):=by
   rw[ec,List.range_succ,List.flatMap_append];rfl
  rw[ef,←ec] at hs
  have hs:=oP (n:=n+1) (r:=r) (w:=w) (a:=a4) (cap:=c4) (b:=b) (o:=o+n % C.aI.toNat*3) hs
  exact(Hn (n+1) mb C nR b o cap (hs.oR (n:=C.aI.toNat) (i:=n % C.aI.toNat) (fun i=>fF n C.aI.toNat b (o+i*3) i nR) (fun i=>fF (n+1) C.aI.toNat b (o+i*3) i nR) hi (fun j hj hne=>by simp only[fF,Kr hj,if_neg hne]))).to
theorem Lt {C:bL} (hC:C.Ok) {Q:Value→AH→Prop} (hl:Ob G 0 fB) (hs:Hs G h L) (hk:∀mb h',Hs G h' (eN G C.lines mb C nR::L)→Q (.tuple ⟨[pt mb 0 0,I 0]⟩) h'):Cl Pr K 93 [.agg ⟨C.enc⟩] h Q:=by
 have hb:=bL.bk hC
 refine cW (dI hs ?_)
 intro p h hs
 refine aQ hs (by decide) (l:=C.enc) rfl rfl (lK hl hs fun h hs=>?_)
 rw[if_pos hC]
 refine aY (aK (by omega) (bW (aU hs ?_)))
 intro rv h hs
 refine aQ hs (by decide) (l:=C.enc) rfl rfl (aA (aC hs rfl (Ns (by omega) (by omega) (by omega) ?_)))
 dsimp only
 refine iW hs rfl rfl ?_ rfl ?_ ?_
 ·rw[fV,pJ (W:=3) (fun _=>rfl)]
 ·rw[fV];exact oO (fun _=>rfl) _
 intro a h hs
 obtain⟨b,o,ha,hs⟩:=Hs.Gy (W:=3) rfl hb.2.1 hs
 cases ha
 refine aH (c:=C.enc++[.slice (some ⟨b,o,none⟩) C.aI.toNat C.aI.toNat]) rfl ?_
 refine xQ hs rfl rfl ?_
 intro mb h hs
 refine aQ hs (by decide) (l:=C.enc) rfl rfl (mZ hC hl hs fun h hs=>?_)
 have hs:=(Hs.Hd (g:=fun i=>fF 0 C.aI.toNat b (o+i*3) i nR) C.aI.toNat _ (fun i hi h L hs=>?_) (hs.front (dD C.aI.toNat fun i=>aE b (o+i*3) [I 0,I 0,.slice none 0 0])))
 ·have hs:=Hn 0 mb C nR b o C.aI.toNat hs
  exact Rs hC (hk mb) C.lines 0 h _ (by omega) (hs.to (M:=[eN G 0 mb C nR,aE p 0 C.enc,sp []]++L))
 ·refine oP (r:=0) (w:=0) (a:=none) (cap:=0) ?_
  rw[du hi]
  exact(gD hs).kA
end Go.Proofs.YtajjljbmfdboaaaGreatDoor
end
end
section
namespace Go.Ab
abbrev tx (l:List UInt8):Value:= .string ⟨l.toArray⟩
variable {G:Bg} {h:AH} {L L':List HP}
def Sx (ds:List Nat):HP:=sp (ds.map fun d=>mk d ())
theorem aEg {k:AH→Prop}:∀(ds:List Nat) {h:AH},Hs G h (Sx ds::L)→(∀h',Hs G h' L→k h')→bA (cC ds h) k:=by
 intro ds
 induction ds with
 |nil=>intro h hs hk;exact jI (hk _ hs.tail)
 |cons d ds ih=>
  intro h hs hk
  have hs:Hs G h (mk d ()::((ds.map fun d=>mk d ())++L)):=Hs.unpack hs
  exact lN hs fun h hs=>ih (Hs.pack hs) hk
theorem J0 {d:Nat} {ds:List Nat} (hs:Hs G h (mk d ()::Sx ds::L)):Hs G h (Sx (d::ds)::L):=by
 have:Hs G h (Sx ds::mk d ()::L):=hs.kA
 have:=Hs.unpack this
 refine Hs.pack (A:=mk d ()::ds.map fun d=>mk d ()) ?_
 exact this.perm (by
  show((ds.map fun d=>mk d ())++(mk d ()::L)).Perm (mk d ()::((ds.map fun d=>mk d ())++L))
  exact List.perm_middle)
theorem xw (hs:Hs G h L):Hs G h (Sx []::L):=Hs.pack (A:=[]) hs
end Go.Ab
end
section
namespace Go.Is
open Go Go.Ab
def opsL:List (List UInt8×List Int):=[([],[0,0,0]),([115,101,116],[1,2,0]),([97,100,100],[1,1,1]),([108,111,97,100],[1,1,0]),([115,116,111,114,101],[1,1,0]),([115,119,97,112],[1,1,0]),([102,101,110,99,101],[0,0,0]),
  ([119,111,114,108,100],[3,0,0]),([99,97,108,108],[4,1,1]),([106,117,109,112],[5,0,0]),([122,101,114,111],[1,5,0]),([104,97,108,116],[0,0,0])]
def tU:List Value:=opsL.flatMap fun r=>tx r.1::r.2.map I
structure Ins where
 op:Int
 a:Int
 b:Int
 c:Int
 deriving DecidableEq
def Ins.enc (x:Ins):List Value:=[I x.op,I x.a,I x.b,I x.c]
def Af (o:Nat):List Int:=(opsL.getD o ([],[])).2
def isO (x:Int):Bool:=decide (1≤x∧x<12)
def xN (iH v many:Int):Bool:=
 if iH=1 then decide (0≤v∧v<4) else if iH=2 then true else if iH=3 then decide (1≤v∧v≤3) else if iH=4 then decide (1≤v∧v≤4) else if iH=5 then decide (0≤v∧v≤many) else decide (v=0)
def Ins.Ke (x:Ins):List Int:=[x.a,x.b,x.c]
def Ins.Bq (x:Ins):List (Int×Int):=(Af x.op.toNat).zip x.Ke
def mW (x:Ins) (many:Int):Int:=if isO x.op then(if(x.Bq.all fun p=>xN p.1 p.2 many) then 0 else 10) else 15
def ib (many:Int):List Ins→Nat→Int×Int
 |[],_=>(0,0)
 |x::l,i=>if mW x many≠0 then((i:Int)+1,mW x many) else ib many l (i+1)
def jV (p:List Ins):Int×Int:=if 32<p.length then(0,11) else ib p.length p 0
theorem o12 {k:Nat} (h:k<12):k=0∨k=1∨k=2∨k=3∨k=4∨k=5∨k=6∨k=7∨k=8∨k=9∨k=10∨k=11:=by omega
theorem q9 {k i:Nat} (h:k<12) (hi:i<3):tU[k*4+(1+i*1)]?=some (I ((Af k).getD i 0)):=by
 have h3:i=0∨i=1∨i=2:=by omega
 rcases o12 h with rfl|rfl|rfl|rfl|rfl|rfl|rfl|rfl|rfl|rfl|rfl|rfl<;>rcases h3 with rfl|rfl|rfl<;>rfl
theorem Ta {k:Nat} (h:k<12):(Af k).length=3:=by
 rcases o12 h with rfl|rfl|rfl|rfl|rfl|rfl|rfl|rfl|rfl|rfl|rfl|rfl<;>rfl
theorem Mb {x:Ins} (h:isO x.op=true):x.Bq.length=3:=by
 have:=of_decide_eq_true h
 unfold Ins.Bq
 rw[List.length_zip,Ta (by omega)]
 rfl
theorem C7 {x:Ins} (h:isO x.op=true) {i:Nat} (hi:i<3):x.Bq[i]?=some ((Af x.op.toNat).getD i 0,x.Ke.getD i 0):=by
 have:=of_decide_eq_true h
 have h1:=Ta (k:=x.op.toNat) (by omega)
 unfold Ins.Bq
 rw[List.getElem?_zip_eq_some]
 refine⟨?_,?_⟩
 ·show(Af x.op.toNat)[i]?=some ((Af x.op.toNat).getD i 0)
  rw[List.getD_eq_getElem?_getD,List.getElem?_eq_getElem (by omega)];rfl
 ·show x.Ke[i]?=some (x.Ke.getD i 0)
  rw[List.getD_eq_getElem?_getD,List.getElem?_eq_getElem (by simp[Ins.Ke];omega)];rfl
theorem T3 {many:Int}:∀(l:List Ins) (i:Nat),(ib many l i).2=0→∀x∈l,mW x many=0
 |[],_,_,x,hx=>by simp at hx
 |y::l,i,h,x,hx=>by
  rw[ib] at h
  split at h
  ·rename_i hn;exact absurd h hn
  ·rename_i hn
   rcases List.mem_cons.1 hx with rfl|hx
   ·omega
   ·exact T3 l (i+1) h x hx
theorem lK {p:List Ins} (h:(jV p).2=0):p.length≤32∧∀x∈p,mW x p.length=0:=by
 unfold jV at h
 split at h
 ·cases h
 ·exact⟨by omega,T3 p 0 h⟩
end Go.Is
end
section
namespace Go.Proofs.YtajjljbmfdboaaaGreatDoor
open Go Go.Ab Go.Is
theorem aBi {g n sz i:Nat} {x:Int} {k:Value→Prop} (hx:x=(i:Int)) (hi:i<n) (hk:k (pt g (i*sz) 0)):bA (pF n sz (.pointer (some ⟨g,0,none⟩)) (I x)) k:=by
 subst hx
 exact eZ (b:=g) (o:=0) (j:=0) (by omega) (by omega) (by simpa [pt] using hk)
theorem lF {α:Type} {l:List α} {i:Nat} (h:i<l.length):∃x,l[i]?=some x∧l.drop i=x::l.drop (i+1):=⟨l[i],by simp,List.drop_eq_getElem_cons h⟩
set_option maxRecDepth 100000
attribute [local irreducible] bA Br pN uC uU Dp nH xW nQ Tx gZ mQ rE sP qX lA B8 uK Y9 dw Tv Sl dj Ty Ry U9 Yi lJ pF vW jB copyV jC wY ft Zd Iw lI P0 Wx en qE uG Be Dk Cl zV Xm uE sS lC gK cS cC
variable {G:Bg} {h:AH} {L L' M:List HP} {Q:Value→AH→Prop}
theorem Zg {x:Int} (hk:Q (.bool (isO x)) h):Cl Pr K 184 [I x] h Q:=by
 refine cW (dR (aR (fun h1=>aN ?_) (fun h1=>?_)))
 ·show Q _ _;rw[show decide (x<12)=isO x from decide_eq_decide.2 (by omega)];exact hk
 ·show Q _ _;rw[show false=isO x from(decide_eq_false (by omega)).symm];exact hk
theorem Qy {iH v many:Int} (hk:Q (.bool (xN iH v many)) h):Cl Pr K 186 [I iH,I v,I many] h Q:=by
 unfold xN at hk
 refine cW (bH (aR (fun c=>?_) (fun n1=>bW (bH (aR (fun c=>?_) (fun n2=>bW (bH (aR (fun c=>?_) (fun n3=>bW (bH (aR (fun c=>?_) (fun n4=>bW (bH (aR (fun c=>?_) (fun n5=>bH ?_)))))))))))))))
 ·rw[if_pos c] at hk
  refine dR (aR (fun h1=>aN ?_) (fun h1=>?_))
  ·show Q _ _;rw[show decide (v<4)=decide (0≤v∧v<4) from decide_eq_decide.2 (by omega)];exact hk
  ·rw[decide_eq_false (by omega)] at hk;exact hk
 ·rw[if_neg n1,if_pos c] at hk;exact hk
 ·rw[if_neg n1,if_neg n2,if_pos c] at hk
  refine dR (aR (fun h1=>xJ ?_) (fun h1=>?_))
  ·show Q _ _;rw[show decide (v≤3)=decide (1≤v∧v≤3) from decide_eq_decide.2 (by omega)];exact hk
  ·rw[decide_eq_false (by omega)] at hk;exact hk
 ·rw[if_neg n1,if_neg n2,if_neg n3,if_pos c] at hk
  refine dR (aR (fun h1=>xJ ?_) (fun h1=>?_))
  ·show Q _ _;rw[show decide (v≤4)=decide (1≤v∧v≤4) from decide_eq_decide.2 (by omega)];exact hk
  ·rw[decide_eq_false (by omega)] at hk;exact hk
 ·rw[if_neg n1,if_neg n2,if_neg n3,if_neg n4,if_pos c] at hk
  refine dR (aR (fun h1=>xJ ?_) (fun h1=>?_))
  ·show Q _ _;rw[show decide (v≤many)=decide (0≤v∧v≤many) from decide_eq_decide.2 (by omega)];exact hk
  ·rw[decide_eq_false (by omega)] at hk;exact hk
 ·rw[if_neg n1,if_neg n2,if_neg n3,if_neg n4,if_neg n5] at hk;exact hk
def prE (p:Int×Int):List Value:=[I p.1,I p.2]
theorem Jb {x:Ins} (hs:Hs G h L) (hk:∀p h',Hs G h' (aE p 0 x.enc::L)→Q (.func (.func 239) #[] #[pt p 0 0]) h'):Cl Pr K 185 [.agg ⟨x.enc⟩] h Q:=by
 exact cW (dI hs fun p h hs=>hk _ _ hs)
theorem Kk {x:Ins} {p:Nat} (ho:isO x.op=true) (hg:Ob G 1 tU):gu Pr K G 239 [] [pt p 0 0] (aE p 0 x.enc) (x.Bq.map prE):=by
 intro I' J y L h Q hs hy h1 h2
 have hop:=of_decide_eq_true ho
 refine cW ?_
 refine aA (aC hs rfl (aA (aC hs rfl (aA (aC hs rfl (aH (c:=x.Ke.map I) rfl ?_))))))
 have loop:∀(f i:Nat) (h:AH),i+f=3→Hs G h (aE p 0 x.enc::I' ((x.Bq.drop i).map prE)::L)→Dd 239 1 [] Q [y,(pt p 0 0),(.agg ⟨x.Ke.map I⟩),(I i)] h:=by
  intro f
  induction f with
  |zero=>
   intro i h hi hs
   rw[List.drop_of_length_le (by rw[Mb ho];omega)] at hs
   exact bW (aN (aK (by omega) (h1 _ _ hs)))
  |succ f ih=>
   intro i h hi hs
   obtain⟨q,hq,hd⟩:=lF (l:=x.Bq) (i:=i) (by rw[Mb ho];omega)
   rw[C7 ho (by omega)] at hq
   simp only[Option.some.injEq] at hq
   rw[hd] at hs
   have e0:i=0∨i=1∨i=2:=by omega
   have ev:(x.Ke.map I)[i]?=some (I q.2):=by
    rw[←hq]
    rcases e0 with rfl|rfl|rfl<;>rfl
   refine bW (aN (bP (by omega) (bW (Yf (by omega) ev (aA (aC hs rfl (aBi (i:=x.op.toNat) (by omega) (by omega) (aA (fQ (by omega) ?_)))))))))
   refine xK hs hg (q9 (by omega) (by omega)) ?_
   have hv:(Af x.op.toNat).getD i 0=q.1:=by rw[←hq]
   rw[hv]
   refine(hy _ _ h _ hs.kA).mono fun v h' hv=>?_
   rcases hv with⟨rfl,hs'⟩|⟨rfl,hs'⟩
   ·exact bS (bV (bW (bE (by omega) (ih (i+1) h' (by omega) hs'.kA))))
   ·exact bS (eQ (h2 _ _ hs'.kA))
 exact loop 3 0 h rfl hs
abbrev myX (p1 p5:Nat) (many v:Int) (e:Nat→Value) (d l:Nat) (z:LoopState×Option Code) (c:Prop):HP:=sp [uI c,jY Pr 148 (kD 442) 22 e d l z,aE p5 0 [I many],aE p1 0 [I v]]
theorem T8 {x:Ins} {many:Int} (hg:Ob G 1 tU) (hs:Hs G h L) (hk:∀h',Hs G h' L→Q (I (mW x many)) h'):Cl Pr K 148 [.agg ⟨x.enc⟩,I many] h Q:=by
 refine cW (dI hs fun p2 h hs=>dI hs fun p5 h hs=>aA (aC hs rfl (Zg (bS (dQ (cU (fun ho=>?_) (fun ho=>?_)))))))
 rotate_left
 ·have:=hk h hs.tail.tail
  unfold mW at this
  rw[if_neg (by rw[ho];decide)] at this
  exact jI this
 unfold mW at hk
 rw[if_pos ho] at hk
 refine bW (bN hs fun p1 h hs=>aZ hs rfl rfl rfl rfl fun h hs=>aQ hs (by decide) (l:=x.enc) rfl rfl (Jb hs fun p h hs=>jX hs fun d h hs=>?_))
 intro e he
 refine mG hs fun l h hs=>rT rfl ?_
 have hs:Hs G h (aE p 0 x.enc::myX p1 p5 many 0 e d l (.ready,none) ((([]:List (Int×Int)).all fun p=>xN p.1 p.2 many)=true)::mk d ()::L):=by
  refine Hs.kA (wK rfl (Hs.Ko ?_))
  have hs:=hs.cJ (jY Pr 148 (kD 442) 22 e d l (.ready,none)) (aE p5 0 [I many]) (aE p1 0 [I 0])
  exact hs.to
 refine(Kk (p:=p) ho hg).fold (X:=fun done=>myX p1 p5 many 0 e d l (.ready,none) ((done.all fun p=>xN p.1 p.2 many)=true)) (Z:=fun _ y=>myX p1 p5 many 10 e d l (.done,some (.exit 0)) (xN y.1 y.2 many=false)) hs ?_ ?_ ?_
 ·intro done y h M hp hs
  obtain⟨hd,hs1⟩:=fP hs
  clear hs
  have hs:=hs1.wP
  refine rW (rS hs) he (gU hs fun h hs=>aC (b:=p5) (o:=0) hs rfl (Qy (bS (dQ (cU (fun h1=>?_) (fun h1=>?_))))))
  ·refine iE hs fun h hs=> .inl ⟨rfl,wK ?_ (Hs.Ko hs.to)⟩
   rw[List.all_append,hd]
   simp[h1]
  ·refine aZ (b:=p1) (o:=0) hs rfl rfl rfl rfl fun h hs=>iE hs fun h hs=> .inr ⟨rfl,wK h1 (Hs.Ko ?_)⟩
   exact hs.to
 ·intro v h hs
  have hs:=hs.front (myX p1 p5 many 0 e d l (.ready,none) ((x.Bq.all fun p=>xN p.1 p.2 many)=true))
  obtain⟨hd,hs1⟩:=fP hs
  clear hs
  have hs:=hs1.wP
  rw[if_pos hd] at hk
  exact mE hs fun h hs=>mC (aC (b:=p1) (o:=0) hs rfl (lN hs fun h hs=>jI (hk _ hs.to)))
 ·intro done y v h hp hs
  have hs:=hs.front (myX p1 p5 many 10 e d l (.done,some (.exit 0)) (xN y.1 y.2 many=false))
  obtain⟨hd,hs1⟩:=fP hs
  clear hs
  have hs:=hs1.wP
  rw[if_neg ?_] at hk
  ·exact Em hs fun h hs=>Hj rfl (aC (b:=p1) (o:=0) hs rfl (lN hs fun h hs=>jI (hk _ hs.to)))
  ·obtain⟨ys,hys⟩:=hp
   rw[←hys]
   simp[hd]
theorem Ju {t:Value} {p:List Ins} {_v0 v1:Value} {e:TypeId} (h1:v1=I p.length) (hl:p.length≤32) (hg:Ob G 1 tU) (hk:∀h',Hs G h' (yK G 4 e t (p.map Ins.enc)::L)→Q (.tuple ⟨[I (jV p).1,I (jV p).2]⟩) h'):
  ∀(f i:Nat) (h:AH),i+f=p.length→jV p=ib p.length (p.drop i) i→Hs G h (yK G 4 e t (p.map Ins.enc)::L)→Dd 91 2 [] Q [t,t,v1,(I i)] h:=by
 subst h1
 intro f
 induction f with
 |zero=>
  intro i h hi he hs
  rw[List.drop_of_length_le (by omega)] at he
  rw[he] at hk
  exact bW (aN (aK (by omega) (hk _ hs)))
 |succ f ih=>
  intro i h hi he hs
  obtain⟨x,hx,hd⟩:=lF (l:=p) (i:=i) (by omega)
  rw[hd,ib] at he
  obtain⟨ta,tc,ht⟩:=uF hs
  refine bW (aN (bP (by omega) (bW (aBw hs (by decide) (i:=i) (x:=x.enc) (by simp[hx]) (bN hs fun p3 h hs=>?_)))))
  refine aZ hs rfl rfl rfl rfl fun h hs=>aQ hs (by decide) (l:=x.enc) rfl rfl ?_
  rw[ht]
  refine bZ ?_
  rw[←ht,List.length_map]
  refine T8 hg hs fun h hs=>aY (aR (fun c=>?_) (fun c=>?_))
  ·rw[if_pos c] at he
   rw[he] at hk
   exact bE (by omega) (hk _ hs.tail)
  ·rw[if_neg c] at he
   exact bW (bE (by omega) (ih (i+1) h (by omega) he hs.tail))
theorem Dm {t:Value} {p:List Ins} {e:TypeId} (hg:Ob G 1 tU) (hs:Hs G h (yK G 4 e t (p.map Ins.enc)::L)) (hk:∀h',Hs G h' (yK G 4 e t (p.map Ins.enc)::L)→Q (.tuple ⟨[I (jV p).1,I (jV p).2]⟩) h'):
  Cl Pr K 91 [t] h Q:=by
 obtain⟨ta,tc,ht⟩:=uF hs
 have len:∀{k:Value→Prop},k (I p.length)→bA (lA t) k:=fun hk=>by
  rw[ht];refine bZ ?_;rw[List.length_map];exact hk
 refine cW (len (iS (aR (fun c=>?_) (fun c=>?_))))
 ·have:=hk h hs
  unfold jV at this
  rw[if_pos (by omega)] at this
  exact this
 ·refine bW (len (Ju (_v0:=t) rfl (by omega) hg hk p.length 0 h (by omega) ?_ hs))
  unfold jV
  rw[if_neg (by omega)]
  rfl
end Go.Proofs.YtajjljbmfdboaaaGreatDoor
end
section
namespace Go.At
open Go Go.Ab Go.Hm Go.Is
structure Ev where
 core:Int
 at':Int
 op:Int
 world:Int
 word:Int
 value:Int
 code:Int
 deriving DecidableEq
def Ev.enc (x:Ev):List Value:=[I x.core,I x.at',I x.op,I x.world,I x.word,I x.value,I x.code]
def Dv:Ev:=⟨0,0,0,0,0,0,0⟩
structure aX where
 cZ:Nat→Int
 at':Int
 world:Int
 over:Bool
 prog:List Ins
def aX.core (s:aX):List Value:=[I (s.cZ 0),I (s.cZ 1),I (s.cZ 2),I (s.cZ 3),I s.at',I s.world,.bool s.over]
def yD (p:List Ins) (a:Int):Ins:=p.getD a.toNat ⟨0,0,0,0⟩
def Cr (p:List Ins) (a:Int):Bool:=if(p.length:Int)≤a then true else decide ((yD p a).op=11)
def aX.nT (s:aX) (a:Int):aX:={s with at':=a,over:=Cr s.prog a}
def aX.dN (s:aX) (i v:Int):aX:={s with cZ:=bT s.cZ i.toNat v}
def aX.kx (s:aX) (v:Int):aX:={s with world:=v}
def Mn (mem:Nat→Ln) (w:Nat):Int:=if w % 2=0 then(mem (w/2)).1 else(mem (w/2)).2
def Mj (mem:Nat→Ln) (w:Nat) (v:Int):Nat→Ln:=bT mem (w/2) (if w % 2=0 then(v,(mem (w/2)).2) else((mem (w/2)).1,v))
def zY (mem:Nat→Ln) (g:Nat):Nat→Ln:=bT (bT mem (g*2) (0,0)) (g*2+1) (0,0)
structure AM where
 cfg:bL
 aS:Nat→aX
 eC:List Int
 mem:Nat→Ln
def AM.wR (m:AM) (i:Nat) (s:aX):AM:={m with aS:=bT m.aS i s}
def AM.nE (m:AM) (mem:Nat→Ln):AM:={m with mem:=mem}
def AM.Ck (m:AM) (o:List Int):AM:={m with eC:=o}
def Fq (world owner:Int):Bool:=if 0≤world∧world≤3∧0≤owner∧owner≤4 then decide (world=0∨owner=world∨owner=4) else false
def AM.may (m:AM) (world word:Int):Bool:=if 0≤word∧word<m.cfg.lines*2 then Fq world (m.eC.getD (word.toNat/4) 0) else false
def AM.access (m:AM) (i:Nat) (x:Ins):AM×Int×Int:=
 if m.may (m.aS i).world ((m.aS i).cZ x.b.toNat) then
  if x.op=3 then(m.wR i ((m.aS i).dN x.a (Mn m.mem ((m.aS i).cZ x.b.toNat).toNat)),Mn m.mem ((m.aS i).cZ x.b.toNat).toNat,0)
  else if x.op=4 then(m.nE (Mj m.mem ((m.aS i).cZ x.b.toNat).toNat ((m.aS i).cZ x.a.toNat)),(m.aS i).cZ x.a.toNat,0)
  else((m.nE (Mj m.mem ((m.aS i).cZ x.b.toNat).toNat ((m.aS i).cZ x.a.toNat))).wR i ((m.aS i).dN x.a (Mn m.mem ((m.aS i).cZ x.b.toNat).toNat)),Mn m.mem ((m.aS i).cZ x.b.toNat).toNat,0)
 else(m,0,19)
def jW (call world owner to:Int):Int×Bool×Int:=
 if ¬((0≤world∧world≤3)∧(0≤owner∧owner≤4)) then(0,false,10)
 else if call=1 then(if world≠0 then(0,false,18) else if owner≠0 then(0,false,16) else if ¬(1≤to∧to≤3) then(0,false,1) else(to,true,0))
 else if call=2 then(if owner=0 then(0,false,16) else if world≠0∧world≠owner then(0,false,18) else(0,true,0))
 else if call=3 then(if world=0∨world≠owner then(0,false,18) else if ¬(1≤to∧to≤3)∨to=owner then(0,false,1) else(to,true,0))
 else if call=4 then(if owner=4 then(0,false,16) else if world≠owner then(0,false,18) else(4,false,0))
 else(0,false,15)
def AM.call (m:AM) (call world granule to:Int) (busy:Bool):AM×Int:=
 if ¬(0≤granule∧granule<m.eC.length) then(m,10)
 else if busy then(m,17)
 else if(jW call world (m.eC.getD granule.toNat 0) to).2.2≠0 then(m,(jW call world (m.eC.getD granule.toNat 0) to).2.2)
 else((m.Ck (m.eC.set granule.toNat (jW call world (m.eC.getD granule.toNat 0) to).1)).nE (if(jW call world (m.eC.getD granule.toNat 0) to).2.1 then zY m.mem granule.toNat else m.mem),0)
def AM.nT (m:AM) (i:Nat) (a:Int):AM:=m.wR i ((m.aS i).nT a)
def AM.Pu (m:AM) (i:Nat) (x:Ins) (busy:Bool):AM×Int×Int×Int×Int:=
 if x.op=1 then(m.wR i ((m.aS i).dN x.a x.b),0,x.b,0,(m.aS i).at'+1)
 else if x.op=2 then(m.wR i ((m.aS i).dN x.a (wr ((m.aS i).cZ x.b.toNat+(m.aS i).cZ x.c.toNat))),0,wr ((m.aS i).cZ x.b.toNat+(m.aS i).cZ x.c.toNat),0,(m.aS i).at'+1)
 else if x.op=3∨x.op=4∨x.op=5 then((m.access i x).1,(m.aS i).cZ x.b.toNat,(m.access i x).2.1,(m.access i x).2.2,(m.aS i).at'+1)
 else if x.op=7 then(if(m.aS i).world=0 then(m.wR i ((m.aS i).kx x.a),0,x.a,0,(m.aS i).at'+1) else(m,0,x.a,18,(m.aS i).at'+1))
 else if x.op=8 then((m.call x.a (m.aS i).world ((m.aS i).cZ x.b.toNat) ((m.aS i).cZ x.c.toNat) busy).1.wR i ((m.aS i).dN x.b (m.call x.a (m.aS i).world ((m.aS i).cZ x.b.toNat) ((m.aS i).cZ x.c.toNat) busy).2),(m.aS i).cZ x.b.toNat,(m.aS i).cZ x.c.toNat,(m.call x.a (m.aS i).world ((m.aS i).cZ x.b.toNat) ((m.aS i).cZ x.c.toNat) busy).2,(m.aS i).at'+1)
 else if x.op=9 then(m,0,x.a,0,x.a)
 else if x.op=10 then(m,0,(m.aS i).cZ x.a.toNat,0,if(m.aS i).cZ x.a.toNat=0 then x.b else(m.aS i).at'+1)
 else(m,0,0,0,(m.aS i).at'+1)
def AM.step (m:AM) (core:Int) (busy:Bool):AM×Ev×Int:=
 if ¬(0≤core∧core<m.cfg.aF) then(m,Dv,10)
 else if(m.aS core.toNat).over then(m,Dv,20)
 else
  let s:=m.aS core.toNat
  let x:=yD s.prog s.at'
  let r:=m.Pu core.toNat x busy
  (r.1.nT core.toNat r.2.2.2.2,⟨core,s.at',x.op,s.world,r.2.1,r.2.2.1,r.2.2.2.1⟩,0)
def aX.Ok (s:aX):Prop:=0≤s.at'∧s.at'≤32∧s.over=Cr s.prog s.at'∧s.prog.length≤32∧∀x∈s.prog,mW x s.prog.length=0
structure AM.Ok (m:AM):Prop where
 cfg:m.cfg.Ok
 aS:∀i:Nat,(i:Int)<m.cfg.aF→(m.aS i).Ok
 eC:(m.eC.length:Int)=m.cfg.bB
def rF:List (List Ins)→Int
 |[]=>0
 |p::l=>if(jV p).2≠0 then(jV p).2 else rF l
def within (a b:Int) (l:List Int):Bool:=l.all fun x=>decide (a≤x∧x≤b)
def Cq (C:bL) (ps:List (List Ins)) (ws os vs:List Int):Int:=
 if ¬C.Ok then 10
 else if(ps.length:Int)≠C.aF∨(ws.length:Int)≠C.aF∨(os.length:Int)≠C.bB∨vs.length≠C.lines*2 then 1
 else if rF ps≠0 then rF ps
 else if ¬(within 0 3 ws=true∧within 0 4 os=true) then 10
 else 0
def words (mem:Nat→Ln):List Int→Nat→Nat→Ln
 |[],_=>mem
 |v::l,i=>words (Mj mem i v) l (i+1)
def rC (p:List Ins) (w:Int):aX:={cZ:=fun _=>0,at':=0,world:=w,over:=Cr p 0,prog:=p}
def aDh (C:bL) (ps:List (List Ins)) (ws os vs:List Int):AM:=⟨C,fun i=>rC (ps.getD i []) (ws.getD i 0),os,words nR vs 0⟩
theorem rh {x:Ins} {n:Int} (h:mW x n=0):(1≤x.op∧x.op<12)∧xN ((Af x.op.toNat).getD 0 0) x.a n=true∧xN ((Af x.op.toNat).getD 1 0) x.b n=true∧xN ((Af x.op.toNat).getD 2 0) x.c n=true:=by
 unfold mW at h
 split at h
 ·rename_i ho
  split at h
  ·rename_i hp
   have hall:=List.all_eq_true.1 hp
   refine⟨of_decide_eq_true ho,?_,?_,?_⟩
   ·exact hall _ (List.mem_of_getElem? (C7 ho (i:=0) (by omega)))
   ·exact hall _ (List.mem_of_getElem? (C7 ho (i:=1) (by omega)))
   ·exact hall _ (List.mem_of_getElem? (C7 ho (i:=2) (by omega)))
  ·cases h
 ·cases h
structure Fits (x:Ins) (n:Int):Prop where
 r1:x.op=1∨x.op=2∨x.op=3∨x.op=4∨x.op=5∨x.op=10→0≤x.a∧x.a<4
 r2:x.op=2∨x.op=3∨x.op=4∨x.op=5∨x.op=8→0≤x.b∧x.b<4
 r3:x.op=2∨x.op=8→0≤x.c∧x.c<4
 p1:x.op=9→0≤x.a∧x.a≤n
 p2:x.op=10→0≤x.b∧x.b≤n
theorem Rn {x:Ins} {n:Int} (h:mW x n=0):Fits x n:=by
 obtain⟨_,h1,h2,h3⟩:=rh h
 refine⟨fun e=>?_,fun e=>?_,fun e=>?_,fun e=>?_,fun e=>?_⟩
 ·rcases e with e|e|e|e|e|e<;>rw[e] at h1<;>exact of_decide_eq_true h1
 ·rcases e with e|e|e|e|e<;>rw[e] at h2<;>exact of_decide_eq_true h2
 ·rcases e with e|e<;>rw[e] at h3<;>exact of_decide_eq_true h3
 ·rw[e] at h1;exact of_decide_eq_true h1
 ·rw[e] at h2;exact of_decide_eq_true h2
theorem N2 {p:List Ins} {a:Int} (h:Cr p a=false):a<p.length:=by
 unfold Cr at h
 split at h
 ·cases h
 ·omega
theorem P4 {p:List Ins} {a:Int} (h0:0≤a) (h:a<p.length):yD p a∈p:=by
 unfold yD
 rw[List.getD_eq_getElem?_getD,List.getElem?_eq_getElem (by omega)]
 exact List.getElem_mem _
end Go.At
end
section
open Go Go.Ab
attribute [local irreducible] bA Br pN uC uU Dp nH xW nQ Tx gZ mQ rE sP qX lA B8 uK Y9 dw Tv Sl dj Ty Ry U9 Yi lJ pF vW jB copyV jC wY ft Zd Iw lI P0 Wx en qE uG Be Dk Cl zV Xm uE sS lC gK cS cC
section
namespace Go.Proofs.YtajjljbmfdboaaaGreatDoor
open Go Go.Ab Go.Hm Go.At
set_option maxRecDepth 100000
variable {G:Bg} {h:AH} {L L':List HP} {Q:Value→AH→Prop}
theorem Zq {C:bL} (hl:Ob G 0 fB) (hs:Hs G h L) (hk:∀h',Hs G h' L→Q (I (if C.Ok then C.lines else 0:Nat)) h'):Cl Pr K 63 [.agg ⟨C.enc⟩] h Q:=by
 by_cases hC:C.Ok
 ·rw[if_pos hC] at hk
  exact mZ hC hl hs hk
 ·rw[if_neg hC] at hk
  refine cW ?_
  refine dI hs ?_
  intro p h hs
  refine aQ hs (by decide) (l:=C.enc) rfl rfl (lK hl hs fun h hs=>?_)
  rw[if_neg hC]
  exact aY (bP (by omega) (hk _ hs.tail))
theorem cj {C:bL} (hl:Ob G 0 fB) (hs:Hs G h L) (hk:∀h',Hs G h' L→Q (I ((if C.Ok then C.lines else 0:Nat)*2:Nat)) h'):Cl Pr K 90 [.agg ⟨C.enc⟩] h Q:=by
 refine cW (dI hs fun p h hs=>?_)
 refine aQ hs (by decide) (l:=C.enc) rfl rfl (Zq hl hs fun h hs=>?_)
 have hb:(if C.Ok then C.lines else 0:Nat)≤32:=by
  split
  ·rename_i hC;exact(bL.eI hC).2.2
  ·omega
 refine pO (by omega) ?_
 have:=hk _ hs.tail
 rw[Int.natCast_mul] at this
 exact this
theorem Rm {C:bL} (hC:C.Ok) (hl:Ob G 0 fB) (hs:Hs G h L) (hk:∀h',Hs G h' L→Q (I (C.lines*2:Nat)) h'):Cl Pr K 90 [.agg ⟨C.enc⟩] h Q:=
 cj hl hs (by rw[if_pos hC];exact hk)
theorem Eb {C:bL} (hC:C.Ok) {w:Int} (hl:Ob G 0 fB) (hs:Hs G h L)
  (hk:∀h',Hs G h' L→Q (if 0≤w∧w<C.lines*2 then .tuple ⟨[I (w.toNat/2:Nat),I (w.toNat % 2:Nat),I 0]⟩ else .tuple ⟨[I 0,I 0,I 10]⟩) h'):Cl Pr K 182 [.agg ⟨C.enc⟩,I w] h Q:=by
 refine cW (dI hs fun p h hs=>aN (aR (fun h1=>?_) (fun h1=>?_)))
 ·have:=hk _ hs.tail
  rw[if_neg (by omega)] at this;exact this
 ·refine aQ hs (by decide) (l:=C.enc) rfl rfl (Rm hC hl hs fun h hs=>dR (aR (fun h2=>?_) (fun h2=>?_)))
  ·have:=hk _ hs.tail
   rw[if_neg (by omega)] at this;exact this
  ·have hb:=(bL.eI hC).2.2
   have:=hk _ hs.tail
   rw[if_pos (by omega)] at this
   obtain⟨n,rfl⟩:∃n:Nat,w=n:=⟨w.toNat,by omega⟩
   refine Cs (by omega) (by omega) (by omega) (P2 (by omega) (by omega) ?_)
   exact this
theorem Wb {C:bL} (hC:C.Ok) {l:Nat} (h0:l<C.lines) (hl:Ob G 0 fB) (hs:Hs G h L)
  (hk:∀h',Hs G h' L→Q (.tuple ⟨[I (l/2:Nat),I 0]⟩) h'):Cl Pr K 191 [.agg ⟨C.enc⟩,I l] h Q:=by
 have hb:=(bL.eI hC).2.2
 refine cW (dI hs fun p h hs=>aN (aK (by omega) ?_))
 refine aQ hs (by decide) (l:=C.enc) rfl rfl (mZ hC hl hs fun h hs=>dR (aK (by omega) ?_))
 exact Cs (by omega) (by omega) (by omega) (hk _ hs.tail)
theorem An {C:bL} {g:Int} (hs:Hs G h L) (hk:∀p q h',Hs G h' (sp [aE p 0 C.enc,aE q 0 [I g]]::L)→Q (.func (.func 167) #[] #[pt p 0 0,pt q 0 0]) h'):Cl Pr K 120 [.agg ⟨C.enc⟩,I g] h Q:=
 cW (dI hs fun p _ hs=>dI hs fun q h hs=>hk p q h (Hs.zB hs.kA))
theorem El {C:bL} (hC:C.Ok) {g:Nat} (hg:(g:Int)<C.bB) {p q:Nat} (hl:Ob G 0 fB):gu Pr K G 167 [] [pt p 0 0,pt q 0 0] (sp [aE p 0 C.enc,aE q 0 [I g]]) ([g*2,g*2+1].map fun l:Nat=>[I l]):=by
 intro I' J y L h Q hs hy h1 h2
 have hb:C.bB≤16:=hC.2.1.2
 have hs:=hs.xA
 refine cW (aQ hs (by decide) (l:=C.enc) rfl rfl (lK hl hs fun h hs=>?_))
 rw[if_pos hC]
 refine aY (aK (by omega) (aC (b:=q) (o:=0) hs rfl (aN (aK (by omega) (aC (b:=q) (o:=0) hs rfl (aA (aC (b:=p) (o:=0) hs rfl (dR (aK (by omega) (bW ?_))))))))))
 have loop:∀(f i:Nat) (h:AH),i+f=2→Hs G h (aE p 0 C.enc::aE q 0 [I g]::I' (([g*2,g*2+1].drop i).map fun l:Nat=>[I l])::L)→Dd 167 2 [] Q [y,(pt q 0 0),(I i)] h:=by
  intro f
  induction f with
  |zero=>
   intro i h hi hs
   obtain rfl:i=2:=by omega
   exact bW (aN (aK (by omega) (h1 _ _ (Hs.zB hs))))
  |succ f ih=>
   intro i h hi hs
   refine bW (aN (bP (by omega) (bW (aC (b:=q) (o:=0) hs rfl (pO (by omega) (bE (by omega) ?_))))))
   obtain⟨x,hx,hd⟩:=lF (l:=[g*2,g*2+1]) (i:=i) (by simp;omega)
   have e0:i=0∨i=1:=by omega
   have ex:x=g*2+i:=by rcases e0 with rfl|rfl<;>simp at hx<;>omega
   rw[hd,List.map_cons] at hs
   rw[show((g:Int)*2+(i:Int))=((x:Nat):Int) by omega]
   refine(hy _ _ h _ (hs.front (I' ([I (x:Nat)]::([g*2,g*2+1].drop (i+1)).map fun l:Nat=>[I l])))).mono fun v h' hv=>?_
   rcases hv with⟨rfl,hs'⟩|⟨rfl,hs'⟩
   ·exact bS (bV (bW (bE (by omega) (ih (i+1) h' (by omega) hs'.to))))
   ·exact bS (eQ (h2 _ _ (Hs.zB hs'.to)))
 exact loop 2 0 h rfl hs
theorem C5 {o:Int} (hk:Q (.bool (decide (0≤o∧o≤4))) h):Cl Pr K 183 [I o] h Q:=by
 refine cW (dR (aR (fun h1=>xJ ?_) (fun h1=>?_)))
 ·show Q _ _;rw[show decide (o≤4)=decide (0≤o∧o≤4) from decide_eq_decide.2 (by omega)];exact hk
 ·show Q _ _;rw[show false=decide (0≤o∧o≤4) from(decide_eq_false (by omega)).symm];exact hk
theorem N0 {w o:Int} (hk:Q (.bool (Fq w o)) h):Cl Pr K 243 [I w,I o] h Q:=by
 unfold Fq at hk
 refine cW (aN (aR (fun h1=>?_) (fun h1=>iS (aR (fun h2=>?_) (fun h2=>C5 (bS (dQ (aR (fun h3=>?_) (fun h3=>?_)))))))))
 ·rw[if_neg (by omega)] at hk;exact hk
 ·rw[if_neg (by omega)] at hk;exact hk
 ·rw[if_pos (by omega)] at hk
  refine bH (aR (fun h4=>?_) (fun h4=>bH (aR (fun h5=>?_) (fun h5=>bH ?_))))
  ·rw[decide_eq_true (.inl h4)] at hk;exact hk
  ·rw[decide_eq_true (.inr (.inl h5))] at hk;exact hk
  ·rw[show decide (w=0∨o=w∨o=4)=decide (o=4) from decide_eq_decide.2 (by omega)] at hk;exact hk
 ·rw[if_neg (by omega)] at hk;exact hk
end Go.Proofs.YtajjljbmfdboaaaGreatDoor
end
end
section
namespace Go.Hm
open Go Go.Ab
structure aJ where
 kind:Int
 core:Int
 line:Int
 world:Int
 state:Int
 d0:Int
 d1:Int
 Co:Bool
 no:Int
 deriving DecidableEq
def aJ.enc (n:aJ):List Value:=[I n.kind,I n.core,I n.line,I n.world,I n.state,I n.d0,I n.d1,.bool n.Co,I n.no]
def aJ.zero:aJ:=⟨0,0,0,0,0,0,0,false,0⟩
def eA (l:List aJ):List Value:=l.flatMap aJ.enc
theorem uR (l m:List aJ):eA (l++m)=eA l++eA m:=by simp[eA]
@[simp] theorem G5 (n:aJ) (l:List aJ):eA (n::l)=n.enc++eA l:=rfl
@[simp] theorem Ma:eA []=[]:=rfl
structure Row where
 owner:Int
 sh:Nat→Bool
 waits:List aJ
 busy:Bool
 served:aJ
 world:Int
 asked:Nat→Bool
 granted:Bool
 told:Bool
 d0:Int
 d1:Int
def Row.enc (r:Row) (a:Option Addr) (c:Nat):List Value:=
 [I r.owner,.bool (r.sh 0),.bool (r.sh 1),.bool (r.sh 2),.bool (r.sh 3),.slice a r.waits.length c,.bool r.busy,I r.served.kind,I r.served.core,I r.served.line,I r.served.world,I r.served.state,I r.served.d0,I r.served.d1,.bool r.served.Co,I r.served.no,
   I r.world,.bool (r.asked 0),.bool (r.asked 1),.bool (r.asked 2),.bool (r.asked 3),.bool r.granted,.bool r.told,I r.d0,I r.d1]
def Row.Us (r:Row):List Value:=[I r.owner,.bool (r.sh 0),.bool (r.sh 1),.bool (r.sh 2),.bool (r.sh 3)]
def Row.Jk (r:Row) (a:Option Addr) (c:Nat):List Value:=
 [.slice a r.waits.length c,.bool r.busy,I r.served.kind,I r.served.core,I r.served.line,I r.served.world,I r.served.state,I r.served.d0,I r.served.d1,.bool r.served.Co,I r.served.no,
   I r.world,.bool (r.asked 0),.bool (r.asked 1),.bool (r.asked 2),.bool (r.asked 3),.bool r.granted,.bool r.told,I r.d0,I r.d1]
theorem Row.cg (r:Row) (a:Option Addr) (c:Nat):r.enc a c=r.Us++r.Jk a c:=rfl
def uJ (f:Nat→Bool) (i:Int) (v:Bool):Nat→Bool:=fun j=>if(j:Int)=i then v else f j
def Row.free (r:Row):Row:={r with busy:=false,granted:=false,told:=false,served:=aJ.zero,world:=0,d0:=0,d1:=0}
def Row.leave (r:Row) (core:Int):Row:={r with sh:=uJ r.sh core false,owner:=if r.owner=core then -1 else r.owner}
def Row.holds (r:Row) (but:Int) (i:Nat):Bool:=decide ((i:Int)≠but)&&(r.sh i||decide ((i:Int)=r.owner))
theorem j5 {r:Row} {x:Int} {i:Nat} (h:(i:Int)≠x) (h1:r.sh i=true):r.holds x i=true:=by simp[Row.holds,h,h1]
theorem l8 {r:Row} {x:Int} {i:Nat} (h:(i:Int)≠x) (h1:(i:Int)=r.owner):r.holds x i=true:=by
 unfold Row.holds;rw[decide_eq_true h,decide_eq_true h1];simp
theorem Yt {r:Row} {x:Int} {i:Nat} (h:(i:Int)=x):r.holds x i=false:=by
 unfold Row.holds;rw[decide_eq_false (by simpa using h)];rfl
theorem Yh {r:Row} {x:Int} {i:Nat} (h:r.sh i=false) (h1:(i:Int)≠r.owner):r.holds x i=false:=by
 unfold Row.holds;rw[h,decide_eq_false h1];simp
def Row.yB (r:Row) (but:Int):Nat→Nat→Int
 |0,_=> -1
 |f+1,i=>if r.holds but i then i else r.yB but f (i+1)
def Row.first (r:Row) (but:Int):Int:=r.yB but 4 0
def Row.fX (r:Row) (but:Int):Nat→Nat→List Nat
 |0,_=>[]
 |f+1,i=>if r.holds but i then i::r.fX but f (i+1) else r.fX but f (i+1)
def Row.jA (r:Row) (but:Int):List Nat:=r.fX but 4 0
def Row.gH (r:Row) (l:List Nat):Row:={r with asked:=fun j=>r.asked j||l.contains j}
def gN (line state:Int) (l:List Nat):List aJ:=l.map fun(i:Nat)=>{aJ.zero with kind:=11,core:=(i:Int),line:=line,state:=state}
def Row.quiet (r:Row):Bool:= !(r.asked 0||r.asked 1||r.asked 2||r.asked 3)
abbrev qZ:=Row×Ln
def Row.Z7 (r:Row) (m:Ln):Ln:=if r.told then(r.d0,r.d1) else m
def Row.pS (r:Row) (line st:Int) (d:Ln):aJ:=⟨8,r.served.core,line,r.world,st,d.1,d.2,false,0⟩
def Row.gO (r:Row) (line:Int) (d:Ln):Row×List aJ:=
 if r.served.kind=2 then({r with owner:=r.served.core,sh:=fun _=>false,granted:=true},[r.pS line 4 d])
 else if r.first r.served.core= -1 then({r with owner:=r.served.core,sh:=uJ r.sh r.served.core false,granted:=true},[r.pS line 2 d])
 else({r with sh:=uJ r.sh r.served.core true,granted:=true},[r.pS line 1 d])
def valid (s:Int):Bool:=decide (0≤s∧s<5)&&decide (s≠0)
def Row.kZ (r:Row) (n:aJ):Row:={r with asked:=uJ r.asked n.core false}
def Row.Dy (r:Row) (n:aJ):Row:={r with owner:= -1,sh:=uJ r.sh n.core (valid n.state)}
def Row.pR (r:Row) (n:aJ):Row:={r with told:=true,d0:=n.d0,d1:=n.d1}
def Row.heard (r:Row) (n:aJ):Row:=
 if r.served.kind≠1 then(r.kZ n).leave n.core
 else if n.state≠3 then(if n.Co then((r.kZ n).Dy n).pR n else(r.kZ n).Dy n)
 else if n.Co then(r.kZ n).pR n else r.kZ n
def Row.M3 (r:Row) (m:Ln) (n:aJ):Ln:=if r.served.kind≠1∧n.Co=true then(n.d0,n.d1) else m
def Row.rest (r:Row) (line:Int) (m:Ln):Row×List aJ:=
 if r.quiet then(if r.served.kind=0 then(r.free,[]) else r.gO line (r.Z7 m)) else(r,[])
def qZ.K2 (x:qZ) (line:Int) (n:aJ):qZ×List aJ:=
 let m:=x.1.M3 x.2 n
 let g:=(x.1.heard n).rest line m
 ((g.1,m),g.2)
def Row.serve (r:Row) (n:aJ) (world:Int):Row:={r with busy:=true,served:=n,world:=world}
def Row.getM (r:Row) (line:Int) (m:Ln):Row×List aJ:=
 if r.first r.served.core≠ -1 then(r.gH (r.jA r.served.core),gN line 0 (r.jA r.served.core)) else r.gO line (r.Z7 m)
def Row.aa (r:Row) (line:Int) (m:Ln):Row×List aJ:=
 if r.owner≠ -1 then(r.gH [r.owner.toNat],gN line 1 [r.owner.toNat]) else r.gO line (r.Z7 m)
def Row.sO (r:Row):Row:=if r.owner=r.served.core then {r with owner:= -1} else r
def Row.get (r:Row) (line:Int) (m:Ln) (n:aJ) (world:Int):Row×List aJ:=
 let r:=r.serve n world
 if n.kind=2 then r.getM line m else r.sO.aa line m
def Row.wait (r:Row) (n:aJ):Row:={r with waits:=r.waits++[n]}
def Row.next (r:Row) (w:List aJ):Row:={r with waits:=w}
def Row.Ho (r:Row) (n:aJ):Row:={r with busy:=true,served:=n}
def qZ.take (x:qZ) (line:Int) (n:aJ):qZ×List aJ×Int:=
 if n.kind=4 then(if x.1.granted=false∨x.1.served.core≠n.core then(x,[],16) else((x.1.free,x.2),[],0))
 else if n.kind=5 then(if x.1.asked n.core.toNat=false then(x,[],16) else let g:=qZ.K2 x line n;(g.1,g.2,0))
 else((x.1.wait n,x.2),[],0)
def As (line:Int):aJ:={aJ.zero with line:=line}
def qZ.y3 (x:qZ) (line:Int):qZ:=(x.1.wait (As line),x.2)
def B4 (kind core line:Int):aJ:={aJ.zero with kind:=kind,core:=core,line:=line}
def Row.begun (r:Row) (line:Int) (m:Ln) (n:aJ) (j:Int→Int×Bool):qZ×List aJ:=
 if n.kind=3 then((r.leave n.core,if r.owner=n.core∧n.Co=true then(n.d0,n.d1) else m),[B4 10 n.core line])
 else if n.kind=1∨n.kind=2 then(if(j n.world).2=true then let g:=r.get line m n (j n.world).1;((g.1,m),g.2) else((r,m),[B4 9 n.core line]))
 else if r.first (-1)= -1 then((r,m),[])
 else(((r.Ho n).gH (r.jA (-1)),m),gN line 0 (r.jA (-1)))
def qZ.begin (x:qZ) (line:Int) (j:Int→Int×Bool):qZ×List aJ×Int:=
 if x.1.busy=true then(x,[],16)
 else match x.1.waits with
  |[]=>(x,[],12)
  |n::w=>let g:=Row.begun (x.1.next w) line x.2 n j;(g.1,g.2,0)
abbrev iJ:=Nat→qZ
def C1:Row:=⟨-1,fun _=>false,[],false,aJ.zero,0,fun _=>false,false,false,0,0⟩
theorem E9 {r:Row} {x:Int}:∀(f i:Nat),i+f=4→(∀c∈r.fX x f i,c<4)∧(r.fX x f i).length≤f:=by
 intro f
 induction f with
 |zero=>intro i hi;simp[Row.fX]
 |succ f ih=>
  intro i hi
  obtain⟨h1,h2⟩:=ih (i+1) (by omega)
  unfold Row.fX
  split
  ·refine⟨fun c hc=>?_,by simp;omega⟩
   rcases List.mem_cons.1 hc with rfl|hc
   ·omega
   ·exact h1 c hc
  ·exact⟨h1,by omega⟩
theorem W3 {r:Row} {x:Int}:∀c∈r.jA x,c<4:=(E9 4 0 rfl).1
theorem sJ {r:Row} {x:Int}:(r.jA x).length≤4:=(E9 4 0 rfl).2
def bL.has (C:bL) (l:Int):Prop:=0≤l∧l<C.lines
instance (C:bL) (l:Int):Decidable (C.has l):=by unfold bL.has;infer_instance
def gA (k:Int):Prop:=k=1∨k=2∨k=3∨k=4∨k=5
instance (k:Int):Decidable (gA k):=by unfold gA;infer_instance
def iJ.at (H:iJ) (l:Int):qZ:=H l.toNat
def gE (C:bL) (H:iJ) (n:aJ):iJ×List aJ×Int:=
 if ¬gA n.kind then(H,[],15)
 else if(0≤n.core∧n.core<C.aF)∧C.has n.line then(bT H n.line.toNat (qZ.take (H n.line.toNat) n.line n).1,(qZ.take (H n.line.toNat) n.line n).2)
 else(H,[],10)
def kJ (C:bL) (H:iJ) (l:Int):iJ×Int:=if C.has l then(bT H l.toNat (qZ.y3 (H l.toNat) l),0) else(H,10)
def jO (C:bL) (H:iJ) (l:Int) (j:Int→Int×Bool):iJ×List aJ×Int:=
 if C.has l then(bT H l.toNat (qZ.begin (H l.toNat) l j).1,(qZ.begin (H l.toNat) l j).2) else(H,[],10)
structure Row.Inv (r:Row):Prop where
 core:0≤r.served.core∧r.served.core<4
 owner: -1≤r.owner∧r.owner<4
 waits:∀n∈r.waits,0≤n.core∧n.core<4
def rR (C:bL) (H:iJ) (N:Nat):Prop:=∀l,l<C.lines→(H l).1.Inv∧(H l).1.waits.length≤N
def Dl (C:bL) (H:iJ) (l:Int):Int:=if C.has l then((H l.toNat).1.waits.length:Int) else 0
def qY (n:Nat):iJ:=fun i=>if i<n then(C1,(0,0)) else({C1 with owner:=0},(0,0))
theorem gn {n:Nat}:bT (qY n) n (C1,(0,0))=qY (n+1):=by
 funext i
 unfold bT qY
 by_cases h:i=n
 ·rw[if_pos h,if_pos (by omega)]
 ·rw[if_neg h]
  by_cases h2:i<n
  ·rw[if_pos h2,if_pos (by omega)]
  ·rw[if_neg h2,if_neg (by omega)]
def aJ.fits (n r:aJ) (len:Nat):Prop:=
 n.line=r.line∧n.no=0∧((n.kind=8∧n.core=r.core∧len=1∧(r.kind=1∨r.kind=2))∨(n.kind=9∧n.world=0∧n.core=r.core∧len=1∧(r.kind=1∨r.kind=2))∨
  (n.kind=10∧n.world=0∧n.core=r.core∧len=1∧r.kind=3)∨(n.kind=11∧n.world=0∧n.core≠r.core∧(r.kind=1∨r.kind=2∨(r.kind=0∧n.state=0))))
end Go.Hm
end
section
namespace Go.Ct
open Go Go.Ab Go.Hm
def P7 (s:Int):Bool:=decide (1≤s∧s≤4)
def vJ (s:Int):Bool:=decide (s=2∨s=4)
def lB (s:Int):Bool:=decide (s=3∨s=4)
def Ej (s:Int):Bool:=decide (2≤s∧s≤4)
def s6 (s:Int):Bool:=decide (0≤s∧s<5)
def N6 (s:Int):Int:=if s=2 then 1 else if s=4 then 3 else s
def qJ (s:Int) (w:Bool):Bool:=if w then vJ s else P7 s
structure qA where
 st:Int
 w:Int
 d:Ln
 deriving DecidableEq
def qA.enc (x:qA):List Value:=[I x.st,I x.w,I x.d.1,I x.d.2]
def qA.zero:qA:=⟨0,0,(0,0)⟩
abbrev Th:=Int×qA
def kc (t:Th):List Value:=I t.1::t.2.enc
def eG (l:List Th):List Value:=l.flatMap kc
theorem zG (l:List Th):(eG l).length=l.length*5:=by
 induction l with
 |nil=>rfl
 |cons a t ih=>simp only[eG,List.flatMap_cons,List.length_append] at ih ⊢;rw[ih];simp[kc,qA.enc];omega
theorem uN (l:List Th):(eG l).all eF=true:=by
 induction l with
 |nil=>rfl
 |cons a t ih=>simp only[eG,List.flatMap_cons,List.all_append,Bool.and_eq_true] at ih ⊢;exact⟨rfl,ih⟩
theorem dy (l m:List Th):eG (l++m)=eG l++eG m:=by simp[eG]
theorem V2 (l:List Th) (i:Nat):(eG l).take (i*5)=eG (l.take i):=by
 induction l generalizing i with
 |nil=>simp[eG]
 |cons a t ih=>
  cases i with
  |zero=>simp[eG]
  |succ i=>
   have:(i+1)*5=5+i*5:=by omega
   simp only[eG,List.flatMap_cons,List.take_succ_cons] at ih ⊢
   rw[this,List.take_append,List.take_of_length_le (by simp[kc,qA.enc])]
   have e5:(kc a).length=5:=rfl
   rw[e5,show 5+i*5 - 5=i*5 by omega,ih]
theorem I9 (l:List Th) (i:Nat):(eG l).drop (i*5)=eG (l.drop i):=by
 induction l generalizing i with
 |nil=>simp[eG]
 |cons a t ih=>
  cases i with
  |zero=>simp[eG]
  |succ i=>
   have:(i+1)*5=5+i*5:=by omega
   simp only[eG,List.flatMap_cons,List.drop_succ_cons] at ih ⊢
   have e5:(kc a).length=5:=rfl
   rw[this,List.drop_append,List.drop_of_length_le (by rw[e5];omega),e5,show 5+i*5 - 5=i*5 by omega,ih,List.nil_append]
theorem Sb {l:List Th} {i:Nat} {t:Th} (h:l[i]?=some t):((eG l).drop (i*5)).take 5=kc t:=by
 rw[I9]
 have hi:=(List.getElem?_eq_some_iff.1 h)
 rw[List.drop_eq_getElem_cons hi.1,hi.2]
 simp only[eG,List.flatMap_cons]
 exact List.take_left' rfl
def ix (no:Int):List Th→Option Nat
 |[]=>none
 |t::l=>if t.1=no then some 0 else(ix no l).map (·+1)
def ia (no:Int) (l:List Th):Int:=match ix no l with|some i=>i|none=> -1
def get (no:Int) (l:List Th):Option qA:=(l.find? fun t=>decide (t.1=no)).map (·.2)
def rem (no:Int):List Th→List Th
 |[]=>[]
 |t::l=>if t.1=no then l else t::rem no l
theorem vG {no:Int} {l:List Th} {i:Nat} (h:ix no l=some i):∃x,l[i]?=some (no,x)∧get no l=some x∧rem no l=l.take i++l.drop (i+1)∧i<l.length:=by
 induction l generalizing i with
 |nil=>cases h
 |cons t l ih=>
  simp only[ix] at h
  by_cases hc:t.1=no
  ·rw[if_pos hc] at h
   cases h
   exact⟨t.2,by simp[←hc],by simp[get,hc],by simp[rem,hc],by simp⟩
  ·rw[if_neg hc] at h
   cases hx:ix no l with
   |none=>rw[hx] at h;cases h
   |some j=>
    rw[hx] at h
    cases h
    obtain⟨x,h1,h2,h3,h4⟩:=ih hx
    refine⟨x,by simpa using h1,?_,?_,by simp;omega⟩
    ·simp only[get,List.find?_cons,decide_eq_false hc] at h2 ⊢;exact h2
    ·simp[rem,hc,h3]
theorem zP {no:Int} {l:List Th} (h:ix no l=none):get no l=none∧rem no l=l:=by
 induction l with
 |nil=>exact⟨rfl,rfl⟩
 |cons t l ih=>
  simp only[ix] at h
  by_cases hc:t.1=no
  ·rw[if_pos hc] at h;cases h
  ·rw[if_neg hc] at h
   obtain⟨h1,h2⟩:=ih (by simpa using h)
   refine⟨?_,by simp[rem,hc,h2]⟩
   simp only[get,List.find?_cons,decide_eq_false hc] at h1 ⊢;exact h1
theorem Gf {no:Int} {l:List Th}:(rem no l).length=if(get no l).isSome then l.length - 1 else l.length:=by
 cases h:ix no l with
 |none=>obtain⟨h1,h2⟩:=zP h;rw[h1,h2];rfl
 |some i=>
  obtain⟨x,h1,h2,h3,h4⟩:=vG h
  rw[h2,h3];simp;omega
structure jF where
 S:Nat→List Th
 al:Int
 aw:Bool
 Qa:Bool
 gl:Int
 gc:qA
 Ft:Bool
def jF.new:jF:=⟨fun _=>[],0,false,false,0,qA.zero,false⟩
def jF.tail (c:jF):List Value:=[I c.al,.bool c.aw,.bool c.Qa,I c.gl]++c.gc.enc++[.bool c.Ft]
variable (n:Nat) (ways:Nat) (lines:Int) (core:Int)
def setOf (l:Int):Nat:=(l % (n:Int)).toNat
def jF.aA5 (c:jF) (l:Int):Option qA:=if l<0 then none else get l (c.S (setOf n l))
def jF.may (c:jF) (l ow:Int) (w:Bool):Bool:=match c.aA5 n l with
 |some x=>decide (x.w=ow)&&qJ x.st w
 |none=>false
def jF.set (c:jF) (l:Int) (s:List Th):jF:={c with S:=bT c.S (setOf n l) s}
def jF.drop (c:jF) (l:Int):jF:=c.set n l (rem l (c.S (setOf n l)))
def jF.put (c:jF) (l:Int) (x:qA):jF:=c.set n l (if(rem l (c.S (setOf n l))).length≥ways then rem l (c.S (setOf n l)) else rem l (c.S (setOf n l))++[(l,x)])
end Go.Ct
end
section
namespace Go.Ct
open Go Go.Ab Go.Hm
variable {n ways:Nat} {S:Nat→List Th} {s:jF} {C:bL} {core:Int}
def lR (x to:Int):Int:=if to=1 then N6 x else 0
def bU (n:Nat) (S:Nat→List Th) (no:Int):qA×Int:=if no<0 then(qA.zero,10) else match get no (S (setOf n no)) with|some x=>(x,0)|none=>(qA.zero,12)
def Gm (n ways:Nat) (S:Nat→List Th) (no:Int):Option Th:=match get no (S (setOf n no)) with
 |some _=>none
 |none=>if(S (setOf n no)).length<ways then none else(S (setOf n no))[0]?
def kU (n:Nat) (S:Nat→List Th) (no:Int):Nat→List Th:=if no<0 then S else bT S (setOf n no) (rem no (S (setOf n no)))
def mR (n ways:Nat) (S:Nat→List Th) (no:Int) (x:qA):(Nat→List Th)×Int:=
 if(rem no (S (setOf n no))).length≥ways then(bT S (setOf n no) (rem no (S (setOf n no))),11) else(bT S (setOf n no) (rem no (S (setOf n no))++[(no,x)]),0)
theorem aF4 {no:Int} {l:List Th} (h:l.length≤4):(rem no l).length≤4:=by rw[Gf];split<;>omega
theorem m9 {n:Nat} {S:Nat→List Th} {no:Int} (hb:∀i,(S i).length≤4):∀i,(kU n S no i).length≤4:=by
 intro i
 unfold kU
 split
 ·exact hb i
 ·unfold bT
  split
  ·exact aF4 (hb _)
  ·exact hb i
def Et (n ways:Nat) (S:Nat→List Th) (no:Int):Nat→List Th:=if(bU n S no).2=0 then(mR n ways (kU n S no) no (bU n S no).1).1 else kU n S no
def im (n ways:Nat) (S:Nat→List Th) (no:Int):Int:=if(bU n S no).2=0 then(mR n ways (kU n S no) no (bU n S no).1).2 else(bU n S no).2
def wU (C:bL) (l:Int):Bool:=decide (0≤l∧l<C.lines)
def mW (n:Nat) (S:Nat→List Th) (l ow:Int) (w:Bool):Bool:=decide ((bU n S l).2=0)&&decide ((bU n S l).1.w=ow)&&qJ (bU n S l).1.st w
def pX (C:bL) (S:Nat→List Th) (l at' ow:Int) (w:Bool):Int:=
 if wU C l=false then 10 else if at'<0 then 10 else if at'≥2 then 10 else if mW C.bJ.toNat S l ow w=false then 16 else 0
def sQ (C:bL) (s:jF) (l at' ow:Int):jF:=if pX C s.S l at' ow false=0 then {s with S:=Et C.bJ.toNat C.ways.toNat s.S l} else s
def aFe (d:Ln) (at' v:Int):Ln:=if at'=0 then(v,d.2) else(d.1,v)
def oM (n:Nat) (S:Nat→List Th) (l at' v:Int):qA:=⟨4,(bU n S l).1.w,aFe (bU n S l).1.d at' v⟩
def mA (C:bL) (s:jF) (l at' ow v:Int):jF:=if pX C s.S l at' ow true=0 then {s with S:=(mR C.bJ.toNat C.ways.toNat s.S l (oM C.bJ.toNat s.S l at' v)).1} else s
def Bd (s:jF):Prop:=∀i,(s.S i).length≤4
theorem kK (hC:C.Ok):0<C.bJ.toNat∧C.bJ.toNat≤8∧0<C.ways.toNat∧C.ways.toNat≤4:=by unfold bL.Ok at hC;omega
theorem Hv {S:Nat→List Th} {l at' ow:Int} {w:Bool} (h:pX C S l at' ow w=0):(0≤l∧l<C.lines)∧(at'=0∨at'=1)∧(bU C.bJ.toNat S l).2=0∧qJ (bU C.bJ.toNat S l).1.st w=true:=by
 unfold pX at h
 split at h
 ·omega
 ·split at h
  ·omega
  ·split at h
   ·omega
   ·split at h
    ·omega
    ·rename_i h1 h2 h3 h4
     have h1:wU C l=true:=by simpa using h1
     have h4:mW C.bJ.toNat S l ow w=true:=by simpa using h4
     unfold wU at h1
     unfold mW at h4
     grind
def kX (core:Int) (s:jF) (l w:Int) (wr:Bool) (ns:List aJ):jF×List aJ×Int:=
 ({s with al:=l,aw:=wr,Qa:=true},ns++[⟨if wr then 2 else 1,core,l,w,0,0,0,false,0⟩],0)
def Aa (C:bL) (core:Int) (s:jF) (l w:Int) (wr:Bool):jF×List aJ×Int:=
 match Gm C.bJ.toNat C.ways.toNat s.S l with
 |none=>kX core s l w wr []
 |some v=>
  if s.Ft then(s,[],11) else
  if(bU C.bJ.toNat s.S v.1).2≠0 then({s with S:=kU C.bJ.toNat s.S v.1},[],(bU C.bJ.toNat s.S v.1).2) else
  kX core {s with S:=kU C.bJ.toNat s.S v.1,gl:=v.1,gc:=(bU C.bJ.toNat s.S v.1).1,Ft:=true} l w wr
   [⟨3,core,v.1,(bU C.bJ.toNat s.S v.1).1.w,0,(bU C.bJ.toNat s.S v.1).1.d.1,(bU C.bJ.toNat s.S v.1).1.d.2,lB (bU C.bJ.toNat s.S v.1).1.st,0⟩]
def want (C:bL) (core:Int) (s:jF) (l w:Int) (wr:Bool):jF×List aJ×Int:=
 if wU C l=false then(s,[],10) else if s.Qa then(s,[],17) else if s.Ft=true∧s.gl=l then(s,[],16) else
 if(bU C.bJ.toNat s.S l).2=0∧qJ (bU C.bJ.toNat s.S l).1.st wr=true then(s,[],13) else Aa C core s l w wr
abbrev Tk:=jF×List aJ×Int
def lZ (C:bL) (s:jF) (n:aJ):qA:=⟨n.state,n.world,if(bU C.bJ.toNat s.S n.line).2=0 then(bU C.bJ.toNat s.S n.line).1.d else(n.d0,n.d1)⟩
def vO (C:bL) (core:Int) (s:jF) (n:aJ):Tk:=
 if s.Qa=false then(s,[],16) else if s.al≠n.line then(s,[],16) else
 if(mR C.bJ.toNat C.ways.toNat s.S n.line (lZ C s n)).2≠0 then({s with S:=(mR C.bJ.toNat C.ways.toNat s.S n.line (lZ C s n)).1},[],(mR C.bJ.toNat C.ways.toNat s.S n.line (lZ C s n)).2) else
 ({s with S:=(mR C.bJ.toNat C.ways.toNat s.S n.line (lZ C s n)).1,al:=0,aw:=false,Qa:=false},[⟨4,core,n.line,0,0,0,0,false,0⟩],0)
def E6 (s:jF) (n:aJ):Tk:=if s.Qa=false then(s,[],16) else if s.al≠n.line then(s,[],16) else({s with al:=0,aw:=false,Qa:=false},[],0)
def sF (s:jF) (n:aJ):Tk:=if s.Ft=false then(s,[],12) else if s.gl≠n.line then(s,[],12) else({s with gl:=0,gc:=qA.zero,Ft:=false},[],0)
def mB (core:Int) (n:aJ) (x:qA):aJ:=if Ej x.st then⟨5,core,n.line,0,lR x.st n.state,x.d.1,x.d.2,lB x.st,0⟩ else⟨5,core,n.line,0,lR x.st n.state,0,0,false,0⟩
def oF (C:bL) (core:Int) (s:jF) (n:aJ):Tk:=
 if n.state≠1∧n.state≠0 then(s,[],10) else
 if(bU C.bJ.toNat s.S n.line).2=0 then
  ({s with S:=if lR (bU C.bJ.toNat s.S n.line).1.st n.state=0 then kU C.bJ.toNat s.S n.line else(mR C.bJ.toNat C.ways.toNat s.S n.line {(bU C.bJ.toNat s.S n.line).1 with st:=lR (bU C.bJ.toNat s.S n.line).1.st n.state}).1},[mB core n (bU C.bJ.toNat s.S n.line).1],0)
 else if s.Ft=false then(s,[⟨5,core,n.line,0,0,0,0,false,0⟩],0) else if s.gl≠n.line then(s,[⟨5,core,n.line,0,0,0,0,false,0⟩],0) else
  ({s with gc:={s.gc with st:=lR s.gc.st n.state}},[mB core n s.gc],0)
def hU (C:bL) (core:Int) (s:jF) (n:aJ):Tk:=
 if n.kind=8 then(if wU C n.line=false then(s,[],10) else vO C core s n)
 else if n.kind=9 then(if wU C n.line=false then(s,[],10) else E6 s n)
 else if n.kind=10 then(if wU C n.line=false then(s,[],10) else sF s n)
 else if n.kind=11 then(if wU C n.line=false then(s,[],10) else oF C core s n)
 else(s,[],15)
def Kd (core:Int) (n:aJ):aJ:=⟨5,core,n.line,0,0,0,0,false,0⟩
structure Sts (n:Nat) (s:jF):Prop where
 aA5:∀l,(bU n s.S l).2=0→0≤(bU n s.S l).1.st∧(bU n s.S l).1.st<5
 back:s.Ft=true→0≤s.gc.st∧s.gc.st<5
theorem yS {no:Int} {l:List Th}:(rem no l).Sublist l:=by
 induction l with
 |nil=>exact List.Sublist.refl _
 |cons t l ih=>
  simp only[rem]
  grind
theorem Pp {no:Int} {l:List Th} (h:(l.map (·.1)).Nodup):no∉(rem no l).map (·.1):=by
 induction l with
 |nil=>simp[rem]
 |cons t l ih=>
  simp only[List.map_cons,List.nodup_cons] at h
  simp only[rem]
  grind
theorem get_mem {no:Int} {l:List Th} {x:qA} (h:get no l=some x):(no,x)∈l:=by
 unfold Go.Ct.get at h
 cases hf:l.find? (fun t=>decide (t.1=no)) with
 |none=>rw[hf] at h;cases h
 |some t=>
  grind
theorem uk {no:Int} {l:List Th} (h:no∉l.map (·.1)):get no l=none:=by
 unfold Go.Ct.get
 grind
theorem mj {no:Int} {l:List Th} {x:qA} (h:no∉l.map (·.1)):get no (l++[(no,x)])=some x:=by
 have h1:=uk h
 unfold Go.Ct.get at h1 ⊢
 grind
structure nU (ways:Nat) (l:List Th):Prop where
 len:l.length≤ways
 st:∀t∈l,1≤t.2.st∧t.2.st≤4
 nd:(l.map (·.1)).Nodup
theorem nU.rem {ways:Nat} {l:List Th} {no:Int} (h:nU ways l):nU ways (Go.Ct.rem no l):=
 ⟨Nat.le_trans yS.length_le h.len,fun t ht=>h.st t (yS.mem ht),(yS.map _).nodup h.nd⟩
theorem nU.app {ways:Nat} {l:List Th} {no:Int} {x:qA} (h:nU ways l) (hl:l.length<ways) (hx:1≤x.st∧x.st≤4) (hn:no∉l.map (·.1)):nU ways (l++[(no,x)]):=
 ⟨by simp;omega,fun t ht=>by
  rcases List.mem_append.1 ht with h1|h1
  ·exact h.st t h1
  grind,by
  rw[List.map_append,List.nodup_append]
  refine⟨h.nd,by simp,?_⟩
  grind⟩
def Pl (n:Nat) (S:Nat→List Th):Prop:=∀i t,t∈S i→0≤t.1∧setOf n t.1=i
theorem Cg {n:Nat} {S:Nat→List Th} {no:Int} (h:Pl n S):Pl n (kU n S no):=by
 intro i t ht
 unfold kU at ht
 split at ht
 ·exact h i t ht
 ·unfold bT at ht
  split at ht
  ·rename_i e;subst e;exact h _ t (yS.mem ht)
  ·exact h i t ht
theorem Gt {n ways:Nat} {S:Nat→List Th} {no:Int} {x:qA} (h0:0≤no) (h:Pl n S):Pl n (mR n ways S no x).1:=by
 intro i t ht
 unfold mR at ht
 split at ht
 ·unfold bT at ht
  dsimp only at ht
  split at ht
  ·rename_i e;subst e;exact h _ t (yS.mem ht)
  ·exact h i t ht
 ·unfold bT at ht
  dsimp only at ht
  split at ht
  ·rename_i e;subst e
   rcases List.mem_append.1 ht with h1|h1
   ·exact h _ t (yS.mem h1)
   grind
  ·exact h i t ht
structure Good (n ways:Nat) (s:jF):Prop where
 bJ:∀i,nU ways (s.S i)
 back:s.Ft=true→0≤s.gc.st∧s.gc.st≤4
 pl:Pl n s.S
theorem qR {no:Int} (h:∀i,nU ways (S i)):∀i,nU ways (kU n S no i):=by
 intro i
 unfold kU
 split
 ·exact h i
 ·unfold bT
  split
  ·exact(h _).rem
  ·exact h i
theorem xY {no:Int} {x:qA} (hx:1≤x.st∧x.st≤4) (h:∀i,nU ways (S i)):∀i,nU ways ((mR n ways S no x).1 i):=by
 intro i
 unfold mR
 split
 ·unfold bT
  dsimp only
  split
  ·exact(h _).rem
  ·exact h i
 ·rename_i hl
  unfold bT
  dsimp only
  split
  ·exact((h (setOf n no)).rem).app (by omega) hx (Pp (h _).nd)
  ·exact h i
theorem F5 {l:Int} (h:∀i,nU ways (S i)) (hp:(bU n S l).2=0):1≤(bU n S l).1.st∧(bU n S l).1.st≤4:=by
 unfold bU at hp ⊢
 split at hp
 ·cases hp
 ·rename_i h0
  rw[if_neg h0]
  cases hg:get l (S (setOf n l)) with
  |none=>grind
  |some x=>exact(h _).st _ (get_mem hg)
theorem ji {no:Int} (h:∀i,nU ways (S i)):∀i,nU ways (Et n ways S no i):=by
 intro i
 unfold Et
 split
 ·rename_i hp
  exact xY (F5 h hp) (qR h) i
 ·exact qR h i
theorem pe {no:Int} (hp:(bU n S no).2=0):0≤no:=by
 unfold bU at hp
 grind
theorem aAv {no:Int} (h:Pl n S):Pl n (Et n ways S no):=by
 unfold Et
 split
 ·rename_i hp
  exact Gt (pe hp) (Cg h)
 ·exact Cg h
theorem Good.bd (h:Good n ways s) (hw:ways≤4):Bd s:=fun i=>Nat.le_trans (h.bJ i).len hw
theorem Good.sts (h:Good n ways s):Sts n s:=⟨fun l hp=>by have:=F5 (n:=n) h.bJ hp;omega,fun hg=>by have:=h.back hg;omega⟩
theorem ln:Good n ways jF.new:=⟨fun _=>⟨Nat.zero_le _,(fun _ h=>by cases h),List.nodup_nil⟩,(fun h=>by cases h),fun _ _ h=>by cases h⟩
abbrev mJ (C:bL) (s:jF):Prop:=Good C.bJ.toNat C.ways.toNat s
theorem au {l w:Int} {wr:Bool} (h:mJ C s):mJ C (want C core s l w wr).1:=by
 unfold want
 split
 ·exact h
 ·split
  ·exact h
  ·split
   ·exact h
   ·split
    ·exact h
    ·unfold Aa
     split
     ·exact⟨h.bJ,h.back,h.pl⟩
     ·split
      ·exact h
      ·split
       ·exact⟨qR h.bJ,h.back,Cg h.pl⟩
       ·rename_i v _ _ hp
        have hp:(bU C.bJ.toNat s.S v.1).2=0:=by simpa using hp
        exact⟨qR h.bJ,fun _=>(by have:=F5 (n:=C.bJ.toNat) h.bJ hp;exact⟨by show 0≤(bU C.bJ.toNat s.S v.1).1.st;omega,this.2⟩),Cg h.pl⟩
theorem Sc {x to:Int} (hx:0≤x∧x≤4):0≤lR x to∧lR x to≤4:=by
 unfold lR N6
 grind
theorem da {nt:aJ} (hv:nt.kind=8→1≤nt.state∧nt.state≤4) (h:mJ C s):mJ C (hU C core s nt).1:=by
 unfold hU
 split
 ·rename_i h8
  split
  ·exact h
  ·rename_i hh
   have h0:0≤nt.line:=(of_decide_eq_true (by simpa using hh:wU C nt.line=true)).1
   unfold vO
   split
   ·exact h
   ·split
    ·exact h
    ·split
     ·exact⟨xY (hv h8) h.bJ,h.back,Gt h0 h.pl⟩
     ·exact⟨xY (hv h8) h.bJ,h.back,Gt h0 h.pl⟩
 ·split
  ·split
   ·exact h
   ·unfold E6
    split
    ·exact h
    ·split
     ·exact h
     ·exact⟨h.bJ,h.back,h.pl⟩
  ·split
   ·split
    ·exact h
    ·unfold sF
     split
     ·exact h
     ·split
      ·exact h
      ·exact⟨h.bJ,(fun e=>by cases e),h.pl⟩
   ·split
    ·split
     ·exact h
     ·unfold oF
      split
      ·exact h
      ·split
       ·rename_i hp
        have h0:=pe hp
        have hst:=F5 (n:=C.bJ.toNat) h.bJ hp
        refine⟨?_,h.back,?_⟩
        rotate_left
        ·dsimp only
         split
         ·exact Cg h.pl
         ·exact Gt h0 h.pl
        dsimp only
        split
        ·exact qR h.bJ
        ·rename_i hne
         exact xY (by have:=Sc (x:=(bU C.bJ.toNat s.S nt.line).1.st) (to:=nt.state) (by omega);dsimp only;omega) h.bJ
       ·split
        ·exact h
        ·split
         ·exact h
         ·rename_i hg _
          exact⟨h.bJ,(fun _=>Sc (h.back (by simpa using hg))),h.pl⟩
    ·exact h
theorem Le {l a ow:Int} (h:mJ C s):mJ C (sQ C s l a ow):=by
 unfold sQ
 split
 ·exact⟨ji h.bJ,h.back,aAv h.pl⟩
 ·exact h
theorem U2 {l a ow v:Int} (h:mJ C s):mJ C (mA C s l a ow v):=by
 unfold mA
 split
 ·rename_i hr
  exact⟨xY (by simp[oM]) h.bJ,h.back,Gt (Hv hr).1.1 h.pl⟩
 ·exact h
theorem r8 {l w:Int} {wr:Bool}:(want C core s l w wr).2.1.length≤2:=by
 unfold want
 split
 ·simp
 ·split
  ·simp
  ·split
   ·simp
   ·split
    ·simp
    ·unfold Aa
     split
     ·simp[kX]
     ·split
      ·simp
      ·split
       ·simp
       ·simp[kX]
theorem kz {nt:aJ}:(hU C core s nt).2.1.length≤1:=by
 unfold hU vO E6 sF oF
 grind
end Go.Ct
end
section
namespace Go.Nt
open Go Go.Ab Go.Hm
def Wq:List (List UInt8×Int×List Int):=[
 ([],0,[0,0,0,0,0,0,0]),
  ([103,101,116,115],0,[1,2,3,0,0,0,0]),
  ([103,101,116,109],0,[1,2,3,0,0,0,0]),
  ([112,117,116],0,[1,2,4,8,9,10,0]),
  ([100,111,110,101],1,[1,2,0,0,0,0,0]),
  ([114,101,112,108,121],1,[1,2,5,8,9,10,11]),
  ([119,97,108,107],0,[1,12,0,0,0,0,0]),
  ([100,114,111,112,112,101,100],1,[1,13,0,0,0,0,0]),
  ([103,114,97,110,116],2,[1,2,4,6,8,9,0]),
  ([110,97,99,107],2,[1,2,11,0,0,0,0]),
  ([112,117,116,97,99,107],2,[1,2,0,0,0,0,0]),
  ([112,114,111,98,101],3,[1,2,7,0,0,0,0]),
  ([119,97,108,107,101,100],2,[1,8,9,12,0,0,0]),
  ([100,114,111,112],3,[1,13,0,0,0,0,0])]
def vq (r:List UInt8×Int×List Int):List Value:= .string ⟨r.1.toArray⟩::I r.2.1::r.2.2.map I
def uY:List Value:=Wq.flatMap vq
def ct (k:Nat):List Int:=(Wq.getD k ([],0,[])).2.2
def K7 (k:Nat):Int:=(Wq.getD k ([],0,[])).2.1
def ws (arr:List Int):Nat→Nat→List Int
 |0,_=>[]
 |f+1,i=>if arr.getD i 0=0 then [] else arr.getD i 0::ws arr f (i+1)
def B2 (k:Nat):List Int:=ws (ct k) 7 0
theorem k14 {k:Nat} (h:k<14):k=0∨k=1∨k=2∨k=3∨k=4∨k=5∨k=6∨k=7∨k=8∨k=9∨k=10∨k=11∨k=12∨k=13:=by omega
theorem V8 {k:Nat} (h:k<14):uY[k*9+1]?=some (I (K7 k)):=by
 rcases k14 h with rfl|rfl|rfl|rfl|rfl|rfl|rfl|rfl|rfl|rfl|rfl|rfl|rfl|rfl<;>rfl
theorem Zi {k:Nat} (h:k<14):(uY.drop (k*9+2)).take 7=(ct k).map I:=by
 rcases k14 h with rfl|rfl|rfl|rfl|rfl|rfl|rfl|rfl|rfl|rfl|rfl|rfl|rfl|rfl<;>rfl
theorem Yo {k:Nat} (h:k<14):(ct k).length=7:=by
 rcases k14 h with rfl|rfl|rfl|rfl|rfl|rfl|rfl|rfl|rfl|rfl|rfl|rfl|rfl|rfl<;>rfl
theorem ch:uY.length=126:=by rfl
theorem xr {k:Nat} (h:k<14):∀f∈B2 k,1≤f∧f≤13:=by
 rcases k14 h with rfl|rfl|rfl|rfl|rfl|rfl|rfl|rfl|rfl|rfl|rfl|rfl|rfl|rfl<;>decide
theorem f13 {f:Int} (h:1≤f∧f≤13):f=1∨f=2∨f=3∨f=4∨f=5∨f=6∨f=7∨f=8∨f=9∨f=10∨f=11∨f=12∨f=13:=by omega
def Nu (k:Int):Prop:=1≤k∧k<14
instance (k:Int):Decidable (Nu k):=by unfold Nu;infer_instance
def a7 (n:aJ) (f:Int):Int:=
 if f=1 then n.core else if f=2 then n.line else if f=3∨f=4 then n.world else if f=5∨f=6∨f=7 then n.state else if f=8 then n.d0 else if f=9 then n.d1
 else if f=10 then(if n.Co=true then 1 else 0) else n.no
def aBc (n:aJ) (f v:Int):aJ:=
 if f=1 then {n with core:=v} else if f=2 then {n with line:=v} else if f=3∨f=4 then {n with world:=v} else if f=5∨f=6∨f=7 then {n with state:=v} else if f=8 then {n with d0:=v} else if f=9 then {n with d1:=v}
 else if f=10 then {n with Co:=decide (v≠0)} else {n with no:=v}
def m8 (C:bL) (f v:Int):Prop:=
 if f=1 then 0≤v∧v<C.aF else if f=2 then 0≤v∧v<C.lines else if f=3 then 0≤v∧v≤3 else if f=4 then 0≤v∧v≤4 else if f=5 then 0≤v∧v≤4
 else if f=6 then v=1∨v=2∨v=4 else if f=7 then v=0∨v=1 else if f=10∨f=11 then v=0∨v=1 else if f=12 then 0≤v∧v<20 else if f=13 then 0≤v∧v<C.bB else True
instance (C:bL) (f v:Int):Decidable (m8 C f v):=by unfold m8;infer_instance
def pL (C:bL) (n:aJ):List Int→aJ→Bool×aJ
 |[],a=>(true,a)
 |f::fs,a=>if m8 C f (a7 n f) then pL C n fs (aBc a f (a7 n f)) else(false,a)
def Cu (k:Int):aJ:={aJ.zero with kind:=k}
def wQ (C:bL) (n:aJ):Int:=
 if Nu n.kind then(if C.Ok then(if(pL C n (B2 n.kind.toNat) (Cu n.kind)).1=true∧(pL C n (B2 n.kind.toNat) (Cu n.kind)).2=n then 0 else 10) else 10) else 15
end Go.Nt
end
section
namespace Go.Mc
open Go Go.Ab Go.Hm Go.At Go.Is Go.Ct Go.Nt
structure kE where
 owner:Int
 locked:Bool
 deriving DecidableEq
def kE.enc (x:kE):List Value:=[I x.owner,.bool x.locked]
def jU:kE:=⟨0,false⟩
def oG (n g:Int):Int:=(n+3)/4+g
def a8 (x:kE):Int:=if x.locked then x.owner+8 else x.owner
def Ub (es:List kE) (j:Nat):Bool:=((es.drop (4*j)).take 4).all fun x=>decide (x=⟨(es.getD (4*j) jU).owner,false⟩)
def Qc (es:List kE) (j:Nat):Int:=if Ub es j then 4*(es.getD (4*j) jU).owner else 4*oG es.length (4*j:Nat)+1
def iR (es:List kE):List Int:=(List.range ((es.length+3)/4)).map (Qc es)++es.map a8
def tY (es:List kE) (at':Int):Int×Int:=if 0≤at'∧at'<(iR es).length then((iR es).getD at'.toNat 0,0) else(0,10)
def Jc (o:Int):Bool:=decide (0≤o∧o≤4)
def Jv (n g at' word:Int):Int×kE×Bool×Int:=
 if ¬((1≤n∧n≤16)∧(0≤g∧g<n)) then(0,jU,false,10)
 else if at'=g/4 then
  if word=4*oG n (g/4*4)+1 then(oG n g,jU,false,0)
  else if word % 4=0∧Jc (word/4)=true then(0,⟨word/4,false⟩,true,0)
  else(0,jU,false,14)
 else if at'=oG n g then
  if Jc word=true then(0,⟨word,false⟩,true,0)
  else if 8≤word∧Jc (word - 8)=true then(0,⟨word - 8,true⟩,true,0)
  else(0,jU,false,14)
 else(0,jU,false,10)
structure lU where
 qD:Bool
 cE:Int
 at':Int
 sR:Bool
 known:List (Int×Int)
def Fw:lU:=⟨false,0,0,false,[]⟩
def cY (x:Int×Int):List Value:=[I x.1,I x.2]
def nP (l:List (Int×Int)) (g:Int):Option Int:=(l.find? fun x=>decide (x.1=g)).map (·.2)
def lU.ask (c:lU) (C:bL) (world g:Int):Int×Int:=
 if(0≤g∧g<C.bB)∧(0≤world∧world≤3) then
  match nP c.known g with
  |none=>(3,0)
  |some o=>if Fq world o then(1,0) else(2,0)
 else(0,10)
def lU.start (c:lU) (g:Int):lU:={c with qD:=true,cE:=g,at':=g/4,sR:=false}
def lU.begin (c:lU) (C:bL) (g:Int):lU×Int×Int:=
 if ¬(0≤g∧g<C.bB) then(c,0,10)
 else if(nP c.known g).isSome then(c,0,13)
 else if c.qD then(c,0,16)
 else(c.start g,g/4,0)
def lU.H6 (c:lU) (C:bL) (f:Int×Int):lU:={c with known:=(if(c.known.length:Int)≥C.entries then c.known.drop 1 else c.known)++[f]}
def lU.goto (c:lU) (a:Int):lU:={c with at':=a}
def lU.fresh (c:lU):lU:={c with sR:=false,at':=c.cE/4}
def lU.done (c:lU):lU:={c with qD:=false,cE:=0,at':=0,sR:=false}
def lU.walked (c:lU) (C:bL) (at' word:Int):lU×Int×Bool×Int:=
 if c.qD=false then(c,0,false,16)
 else if at'≠c.at' then(c,0,false,1)
 else if c.sR then(c.fresh,c.cE/4,false,0)
 else
  let r:=Jv C.bB c.cE at' word
  if r.2.2.2≠0 then(c,0,false,r.2.2.2)
  else if r.2.2.1=true∧r.2.1.locked=true then(c.goto (c.cE/4),c.cE/4,false,0)
  else if r.2.2.1=false then(c.goto r.1,r.1,false,0)
  else((c.H6 C (c.cE,r.2.1.owner)).done,0,true,0)
def lU.drop (c:lU) (C:bL) (g:Int):lU×Int:=
 if g< -1∨g≥C.bB then(c,10)
 else({c with known:=c.known.filter (fun x=> !decide (g= -1∨x.1=g)),sR:=c.sR||(c.qD&&decide (g= -1∨c.cE=g))},0)
structure iM where
 core:Int
 world:Int
 call:Int
 cE:Int
 to:Int
 then':Int
 zY:Bool
 phase:Int
 waits:Nat→Bool
def iM.enc (r:iM):List Value:=[I r.core,I r.world,I r.call,I r.cE,I r.to,I r.then',.bool r.zY,I r.phase,.bool (r.waits 0),.bool (r.waits 1),.bool (r.waits 2),.bool (r.waits 3)]
structure Mon where
 fY:List kE
 runs:Nat→Option iM
def Mon.cy (m:Mon) (g:Nat) (x:kE):Mon:={m with fY:=m.fY.set g x}
def Mon.dN (m:Mon) (g:Nat) (x:Option iM):Mon:={m with runs:=bT m.runs g x}
def Mon.has (m:Mon) (g:Int):Prop:=0≤g∧g<m.fY.length
instance (m:Mon) (g:Int):Decidable (m.has g):=by unfold Mon.has;infer_instance
def Mon.zT (m:Mon) (g:Int):kE:=m.fY.getD g.toNat jU
def Mon.run (m:Mon) (g:Int):Option iM:=if 0≤g then m.runs g.toNat else none
def Mon.phase (m:Mon) (g:Int):Int:=match m.run g with
 |some r=>r.phase
 |none=>0
def Mon.running (m:Mon):List Nat:=(List.range 16).filter fun g=>(m.runs g).isSome
def Mon.kH (m:Mon) (core:Int) (g:Nat):Bool:=match m.runs g with
 |some r=>decide (r.core=core)
 |none=>false
def Mon.calls (m:Mon) (core:Int):Bool:=m.running.any (m.kH core)
structure Ask where
 core:Int
 world:Int
 call:Int
 cE:Int
 to:Int
def Ask.enc (a:Ask):List Value:=[I a.core,I a.world,I a.call,I a.cE,I a.to]
def Ask.run (a:Ask) (aF:Int) (j:Int×Bool×Int):iM:=⟨a.core,a.world,a.call,a.cE,a.to,j.1,j.2.1,1,fun i=>decide ((i:Int)<aF)⟩
def Mon.call (m:Mon) (aF:Int) (a:Ask):Mon×Bool×Int:=
 if ¬(0≤a.core∧a.core<aF) then(m,false,1)
 else if ¬m.has a.cE then(m,false,10)
 else if m.phase a.cE≠0 then(m,false,17)
 else if m.calls a.core then(m,false,13)
 else
  let j:=jW a.call a.world (m.zT a.cE).owner a.to
  if j.2.2≠0 then(m,false,j.2.2)
  else((m.cy a.cE.toNat ⟨(m.zT a.cE).owner,true⟩).dN a.cE.toNat (some (a.run aF j)),true,0)
def iM.none (r:iM):Bool:= !(r.waits 0||r.waits 1||r.waits 2||r.waits 3)
def iM.heard (r:iM) (core:Int):iM:={r with waits:=uJ r.waits core false}
def iM.iY (r:iM):iM:={r with phase:=if r.none then 2 else r.phase}
def Mon.dropped (m:Mon) (aF g core:Int):Mon×Bool×Int:=
 if ¬m.has g then(m,false,10)
 else match m.run g with
  |none=>(m,false,16)
  |some r=>
   if r.phase≠1 then(m,false,16)
   else if ¬(0≤core∧core<aF)∨r.waits core.toNat=false then(m,false,12)
   else(m.dN g.toNat (some (r.heard core).iY),(r.heard core).none,0)
def Mon.over (m:Mon) (g:Int):Mon×Option iM×Int:=
 if ¬m.has g then(m,none,10)
 else match m.run g with
  |none=>(m,none,16)
  |some r=>
   if r.phase≠2 then(m,none,16)
   else((m.cy r.cE.toNat ⟨r.then',false⟩).dN g.toNat none,some r,0)
def aX.next? (s:aX):Option Ins:=if s.over then none else some (yD s.prog s.at')
def aX.ev (s:aX) (i:Nat) (x:Ins) (word value code:Int):Ev:=⟨i,s.at',x.op,s.world,word,value,code⟩
def aX.step (s:aX) (a:Int):aX:=s.nT a
def aX.oS (s:aX) (i:Nat):Option (aX×Ev):=
 match aX.next? s with
 |none=>none
 |some x=>
  if x.op=1 then some ((s.dN x.a x.b).nT (s.at'+1),aX.ev s i x 0 x.b 0)
  else if x.op=2 then some ((s.dN x.a (wr (s.cZ x.b.toNat+s.cZ x.c.toNat))).nT (s.at'+1),aX.ev s i x 0 (wr (s.cZ x.b.toNat+s.cZ x.c.toNat)) 0)
  else if x.op=6 then some (s.nT (s.at'+1),aX.ev s i x 0 0 0)
  else if x.op=7 then(if s.world=0 then some ((s.kx x.a).nT (s.at'+1),aX.ev s i x 0 x.a 0) else some (s.nT (s.at'+1),aX.ev s i x 0 x.a 18))
  else if x.op=9 then some (s.nT x.a,aX.ev s i x 0 x.a 0)
  else if x.op=10 then some (s.nT (if s.cZ x.a.toNat=0 then x.b else s.at'+1),aX.ev s i x 0 (s.cZ x.a.toNat) 0)
  else none
def I7 (op:Int):Bool:=decide (op=3∨op=4∨op=5)
structure Acc where
 word:Int
 write:Bool
 read:Bool
 value:Int
def aX.Gj (s:aX):Option Acc:=
 match aX.next? s with
 |none=>none
 |some x=>if I7 x.op then some ⟨s.cZ x.b.toNat,decide (x.op≠3),decide (x.op≠4),if x.op=3 then 0 else s.cZ x.a.toNat⟩ else none
def aX.Vd (s:aX) (i:Nat):Option Ask:=
 match aX.next? s with
 |none=>none
 |some x=>if x.op=8 then some ⟨i,s.world,x.a,s.cZ x.b.toNat,s.cZ x.c.toNat⟩ else none
def aX.cH (s:aX) (i:Nat) (value code:Int):aX×Ev×Int:=
 match aX.next? s with
 |none=>(s,Dv,16)
 |some x=>
  if x.op=8 then((s.dN x.b code).nT (s.at'+1),aX.ev s i x (s.cZ x.b.toNat) (s.cZ x.c.toNat) code,0)
  else if I7 x.op then
   if code≠0∧code≠19 then(s,Dv,1)
   else if code=19 then(s.nT (s.at'+1),aX.ev s i x (s.cZ x.b.toNat) 0 19,0)
   else if x.op=4 then(s.nT (s.at'+1),aX.ev s i x (s.cZ x.b.toNat) (s.cZ x.a.toNat) 0,0)
   else((s.dN x.a value).nT (s.at'+1),aX.ev s i x (s.cZ x.b.toNat) value 0,0)
  else(s,Dv,16)
abbrev fS:=Nat→Nat→List aJ
def fL (n:aJ):Nat:=(K7 n.kind.toNat).toNat
def fS.set (F:fS) (c w:Nat) (l:List aJ):fS:=fun c' w'=>if c'=c∧w'=w then l else F c' w'
def fS.put (F:fS) (n:aJ):fS:=F.set n.core.toNat (fL n) (F n.core.toNat (fL n)++[n])
def fS.F0 (d:Int):fS→List aJ→Option fS
 |F,[]=>some F
 |F,n::l=>if((F n.core.toNat (fL n)).length:Int)<d then fS.F0 d (F.put n) l else none
def cK (C:bL):List aJ→Int
 |[]=>0
 |n::l=>if wQ C n≠0 then wQ C n else cK C l
def fS.send (C:bL) (F:fS) (l:List aJ):fS×Int:=
 if cK C l≠0 then(F,cK C l) else match fS.F0 C.depth F l with
  |some F'=>(F',0)
  |none=>(F,11)
def fS.take (C:bL) (F:fS) (core way which:Int):fS×aJ×Int:=
 if ¬((0≤core∧core<C.aF)∧(0≤way∧way<4)) then(F,aJ.zero,10)
 else
  let l:=F core.toNat way.toNat
  if l=[] then(F,aJ.zero,12)
  else
   let i:=(which % (l.length:Int)).toNat
   (F.set core.toNat way.toNat (l.eraseIdx i),l.getD i aJ.zero,0)
structure cR where
 aS:Nat→aX
 dC:Nat→jF
 cK:Nat→lU
 home:iJ
 dY:Mon
 jE:fS
 log:List Ev
abbrev cR.wR (M:cR) (i:Nat) (s:aX):cR:={M with aS:=bT M.aS i s}
abbrev cR.sY (M:cR) (i:Nat) (s:jF):cR:={M with dC:=bT M.dC i s}
abbrev cR.Ao (M:cR) (i:Nat) (s:lU):cR:={M with cK:=bT M.cK i s}
abbrev cR.rP (M:cR) (h:iJ):cR:={M with home:=h}
abbrev cR.nE (M:cR) (m:Mon):cR:={M with dY:=m}
abbrev cR.dL (M:cR) (l:fS):cR:={M with jE:=l}
abbrev cR.R2 (M:cR) (v:Ev):cR:={M with log:=M.log++[v]}
def eU (kind:Int) (core:Int) (no:Int):aJ:={aJ.zero with kind:=kind,core:=core,no:=no}
def Ce (core word no:Int):aJ:={eU 12 core no with d0:=word}
variable (C:bL)
def cR.waits (M:cR) (i:Int):Bool:=M.dY.calls i
def cR.cH (M:cR) (i:Nat) (value code:Int):cR×Int:=
 let r:=aX.cH (M.aS i) i value code
 if r.2.2≠0 then(M,r.2.2) else((M.wR i r.1).R2 r.2.1,0)
def Mk (aF g:Int):List aJ:=(List.range aF.toNat).map fun i:Nat=>eU 13 i g
def cR.call (M:cR) (i:Nat) (a:Ask):cR×Int:=
 let r:=M.dY.call C.aF a
 if r.2.2≠0 then M.cH i 0 r.2.2
 else
  let s:=M.jE.send C (Mk C.aF a.cE)
  if s.2≠0 then(M,s.2) else((M.dL s.1).nE r.1,0)
def cR.walk (M:cR) (i:Nat) (g:Int):cR×Int:=
 let r:=(M.cK i).begin C g
 if r.2.2≠0 then(M,r.2.2)
 else
  let s:=M.jE.send C [eU 6 i r.2.1]
  if s.2≠0 then(M,s.2) else((M.dL s.1).Ao i r.1,0)
def cR.want (M:cR) (i:Nat) (line:Int) (write:Bool):cR×Int:=
 let r:=Ct.want C i (M.dC i) line (M.aS i).world write
 if r.2.2≠0 then(M,r.2.2)
 else
  let s:=M.jE.send C r.2.1
  if s.2≠0 then(M,s.2) else((M.dL s.1).sY i r.1,0)
def cR.known (M:cR) (i:Nat) (g:Int):Int:=(nP (M.cK i).known g).getD 0
def aG6 (d:Ln) (a:Int):Int:=if a=0 then d.1 else d.2
def Oy (c:jF) (l a:Int):Int:=aG6 (bU C.bJ.toNat c.S l).1.d a
def cR.Pu (M:cR) (i:Nat) (line at' owner:Int) (a:Acc):cR×Int:=
 let c1:=if a.read then sQ C (M.dC i) line at' owner else M.dC i
 let c2:=if a.write then mA C c1 line at' owner a.value else c1
 (M.sY i c2).cH i (if a.read then Oy C (M.dC i) line at' else 0) 0
def cR.access (M:cR) (i:Nat) (a:Acc):cR×Int:=
 if ¬(0≤a.word∧a.word<C.lines*2) then M.cH i 0 19
 else
  let line:=a.word/2
  let g:=line/2
  let r:=(M.cK i).ask C (M.aS i).world g
  if r.2≠0 then(M,r.2)
  else if r.1=3 then M.walk C i g
  else if r.1=2 then M.cH i 0 19
  else if mW C.bJ.toNat (M.dC i).S line (M.known i g) a.write=false then M.want C i line a.write
  else M.Pu C i line (a.word % 2) (M.known i g) a
def cR.step (M:cR) (A:Int):cR×Int:=
 if ¬(0≤A∧A<C.aF) then(M,10)
 else
  let i:=A.toNat
  if(M.aS i).over then(M,20)
  else if M.waits A then(M,16)
  else match aX.oS (M.aS i) i with
   |some r=>((M.wR i r.1).R2 r.2,0)
   |none=>match aX.Vd (M.aS i) i with
    |some a=>M.call C i a
    |none=>match aX.Gj (M.aS i) with
     |some a=>M.access C i a
     |none=>(M,16)
def Hb (H:iJ) (g:Int):iJ:=(kJ C (kJ C H (g*2)).1 (g*2+1)).1
def cR.gA (M:cR) (n:aJ):cR×List aJ×Int:=
 if n.kind=1∨n.kind=2∨n.kind=3∨n.kind=4∨n.kind=5 then
  let r:=gE C M.home n
  (M.rP r.1,r.2.1,r.2.2)
 else if n.kind=8∨n.kind=9∨n.kind=10∨n.kind=11 then
  let r:=hU C n.core (M.dC n.core.toNat) n
  (M.sY n.core.toNat r.1,r.2.1,r.2.2)
 else if n.kind=6 then
  let r:=tY M.dY.fY n.no
  (M,[Ce n.core r.1 n.no],r.2)
 else if n.kind=12 then
  let r:=(M.cK n.core.toNat).walked C n.no n.d0
  (M.Ao n.core.toNat r.1,if r.2.2.1 then [] else [eU 6 n.core r.2.1],r.2.2.2)
 else if n.kind=13 then
  let r:=(M.cK n.core.toNat).drop C n.no
  (M.Ao n.core.toNat r.1,[eU 7 n.core n.no],r.2)
 else if n.kind=7 then
  let r:=M.dY.dropped C.aF n.no n.core
  (if r.2.1 then(M.nE r.1).rP (Hb C M.home n.no) else M.nE r.1,[],r.2.2)
 else(M,[],15)
def cR.uP (M:cR) (A B D:Int):cR×Int:=
 let t:=M.jE.take C A B D
 if t.2.2≠0 then(M,t.2.2)
 else
  let r:=M.gA C t.2.1
  if r.2.2≠0 then(M,r.2.2)
  else
   let s:=t.1.send C r.2.1
   if s.2≠0 then(M,s.2) else(r.1.dL s.1,0)
def cR.Xr (M:cR) (line:Int) (world:Int):Int×Bool:=
 if C.has line then((M.dY.zT (line/2)).owner,!(M.dY.zT (line/2)).locked&&Fq world (M.dY.zT (line/2)).owner) else(0,false)
def cR.begin (M:cR) (A:Int):cR×Int:=
 let r:=jO C M.home A (M.Xr C A)
 if r.2.2≠0 then(M,r.2.2)
 else
  let s:=M.jE.send C r.2.1
  if s.2≠0 then(M,s.2) else((M.dL s.1).rP r.1,0)
def Row.Pa (r:Row):Int:=(if r.busy=true∧r.served.kind=0 then 1 else 0)+((r.waits.filter fun n=>decide (n.kind=0)).length:Int)
def fI (H:iJ) (l:Int):Int:=if C.has l then Row.Pa (H l.toNat).1 else 0
def cR.iY (M:cR) (g:Int):Bool:=decide (M.dY.phase g=2)&& !(decide (fI C M.home (g*2)>0))&& !(decide (fI C M.home (g*2+1)>0))
def xI (H:iJ) (g:Int):iJ:=fun i=>if(i:Int)=g*2∨(i:Int)=g*2+1 then((H i).1,(0,0)) else H i
def cR.finish (M:cR) (A:Int):cR×Int:=
 if ¬(0≤A∧A<C.bB) then(M,10)
 else if M.iY C A=false then(M,16)
 else
  let r:=M.dY.over A
  match r.2.1 with
  |none=>(M,r.2.2)
  |some u=>cR.cH (if u.zY then(M.nE r.1).rP (xI M.home u.cE) else M.nE r.1) u.core.toNat 0 0
structure Do where
 iH:Int
 a:Int
 b:Int
 c:Int
 deriving DecidableEq
def Do.enc (d:Do):List Value:=[I d.iH,I d.a,I d.b,I d.c]
def cR.uW (M:cR) (d:Do):cR×Int:=
 if d.iH=0 then M.step C d.a else if d.iH=1 then M.uP C d.a d.b d.c else if d.iH=2 then M.begin C d.a else if d.iH=3 then M.finish C d.a else(M,1)
def cR.rX (M:cR):List Do→Nat→cR×Nat×Int
 |[],k=>(M,k,0)
 |d::l,k=>if(M.uW C d).2≠0 then((M.uW C d).1,k,(M.uW C d).2) else cR.rX (M.uW C d).1 l (k+1)
def cR.runs (M:cR) (l:List Do):cR:=l.foldl (fun M d=>(M.uW C d).1) M
def cR.notes (M:cR):List aJ:=(List.range C.aF.toNat).flatMap fun c=>(List.range 4).flatMap fun w=>M.jE c w
def cR.over (M:cR):Bool:=
 decide (M.notes C=[])&&((List.range C.aF.toNat).all fun i=>(M.aS i).over&& !(M.dC i).Qa&& !(M.cK i).qD)&&((List.range C.lines).all fun l=>decide ((M.home l).1.waits=[]))
def cR.ready (M:cR):List Do:=
 ((List.range C.aF.toNat).filter fun i:Nat=> !(M.aS i).over&& !M.waits i).map (fun i:Nat=>(⟨0,i,0,0⟩:Do))++
 ((List.range C.aF.toNat).flatMap fun c=>((List.range 4).filter fun w=>decide (M.jE c w≠[])).map fun w:Nat=>(⟨1,c,w,0⟩:Do))++
 ((List.range C.lines).filter fun l=> !(M.home l).1.busy&&decide ((M.home l).1.waits≠[])).map (fun l:Nat=>(⟨2,l,0,0⟩:Do))++
 ((List.range C.bB.toNat).filter fun g:Nat=>M.iY C g).map fun g:Nat=>(⟨3,g,0,0⟩:Do)
structure MC where
 C:bL
 rF:List (List Ins)
 qn:List Int
 eC:List Int
 words:List Int
def MC.Cq (c:MC):Int:=At.Cq c.C c.rF c.qn c.eC c.words
def MC.home (c:MC):iJ:=fun i=>((qY c.C.lines i).1,At.words nR c.words 0 i)
def MC.new (c:MC):cR where
 aS:=fun i=>rC (c.rF.getD i []) (c.qn.getD i 0)
 dC:=fun _=>jF.new
 cK:=fun _=>Fw
 home:=c.home
 dY:=⟨c.eC.map fun o=>⟨o,false⟩,fun _=>none⟩
 jE:=fun _ _=>[]
 log:=[]
end Go.Mc
end
section
open Go Go.Ab
attribute [local irreducible] bA Br pN uC uU Dp nH xW nQ Tx gZ mQ rE sP qX lA B8 uK Y9 dw Tv Sl dj Ty Ry U9 Yi lJ pF vW jB copyV jC wY ft Zd Iw lI P0 Wx en qE uG Be Dk Cl zV Xm uE sS lC gK cS cC
section
namespace Go.Proofs.YtajjljbmfdboaaaGreatDoor
open Go Go.Ab Go.Hm Go.At Go.Mc
instance:Fx kE.enc 2:=⟨fun _=>rfl,fun _=>rfl⟩
set_option maxRecDepth 100000
variable {G:Bg} {h:AH} {L L':List HP} {Q:Value→AH→Prop}
def fZ (t:Nat) (es:List kE):HP:=rY fun x:Option Addr×Nat=>sp [aE t 0 [.slice x.1 es.length x.2],ls kE.enc 2 70 x.1 x.2 es]
theorem C9 {t:Nat} {es:List kE} (hs:Hs G h (fZ t es::L)):∃a c,Hs G h (aE t 0 [.slice a es.length c]::ls kE.enc 2 70 a c es::L):=by
 obtain⟨⟨a,c⟩,hs⟩:=hs.zE
 exact⟨a,c,hs.xA⟩
theorem iU {t:Nat} {es:List kE} {a:Option Addr} {c:Nat} (hs:Hs G h (aE t 0 [.slice a es.length c]::ls kE.enc 2 70 a c es::L)):Hs G h (fZ t es::L):=
 Hs.uH (A:=fun x:Option Addr×Nat=>sp [aE t 0 [.slice x.1 es.length x.2],ls kE.enc 2 70 x.1 x.2 es]) (a,c) hs.zB
theorem aBg {es:List kE} {g:Int} (h0:0≤g) (h:g<es.length):es[g.toNat]?=some (es.getD g.toNat jU):=by
 simp[List.getD_eq_getElem?_getD,List.getElem?_eq_getElem (show g.toNat<es.length by omega)]
theorem Zc {t:Nat} {es:List kE} {g:Int} (hs:Hs G h L) [m:Has (fZ t) L es L']
  (hk:∀h',Hs G h' (fZ t es::L')→Q (if 0≤g∧g<es.length then .tuple ⟨[.agg ⟨(es.getD g.toNat jU).enc⟩,I 0]⟩ else .tuple ⟨[.agg ⟨jU.enc⟩,I 10]⟩) h'):Cl Pr K 72 [pt t 0 0,I g] h Q:=by
 obtain⟨a,c,hs⟩:=C9 (m.of hs)
 refine cW (bN hs fun p h hs=>cN (bV (bW (aN (aR (fun h1=>?_) (fun h1=>?_))))))
 ·rw[if_neg (by omega)] at hk
  refine aH (c:=jU.enc) rfl (aZ hs rfl rfl rfl rfl fun h hs=>aQ hs (by decide) (l:=jU.enc) rfl rfl (hk _ (iU hs.tail)))
 ·refine aB (aA (aC (b:=t) (o:=0) hs rfl (bZ (dR (aR (fun h2=>?_) (fun h2=>?_))))))
  ·rw[if_neg (by omega)] at hk
   refine aH (c:=jU.enc) rfl (aZ hs rfl rfl rfl rfl fun h hs=>aQ hs (by decide) (l:=jU.enc) rfl rfl (hk _ (iU hs.tail)))
  ·rw[if_pos (by omega)] at hk
   refine aB (aA (aC (b:=t) (o:=0) hs rfl (tM (l:=es) (a:=a) (c:=c) (enc:=kE.enc) (e:=70) hs (by decide) (by omega) (aBg (by omega) (by omega)) (aZ hs rfl rfl rfl rfl fun h hs=>aQ (b:=p) (o:=0) hs (by decide) (l:=(es.getD g.toNat jU).enc) rfl rfl (hk _ (iU (a:=a) (c:=c) hs.to))))))
theorem D9 {t:Nat} {es:List kE} {g:Int} {x:kE} (hs:Hs G h L) [m:Has (fZ t) L es L']
  (hk:∀h',Hs G h' (fZ t (if(0≤g∧g<es.length)∧(0≤x.owner∧x.owner≤4) then es.set g.toNat x else es)::L')→Q (I (if(0≤g∧g<es.length)∧(0≤x.owner∧x.owner≤4) then 0 else 10)) h'):Cl Pr K 146 [pt t 0 0,I g,.agg ⟨x.enc⟩] h Q:=by
 obtain⟨a,c,hs⟩:=C9 (m.of hs)
 refine cW (dI hs fun p h hs=>cN (bV (bW (aN (aR (fun h1=>?_) (fun h1=>?_))))))
 ·rw[if_neg (by omega),if_neg (by omega)] at hk
  exact hk _ (iU hs.tail)
 ·refine aB (aA (aC (b:=t) (o:=0) hs rfl (bZ (dR (aR (fun h2=>?_) (fun h2=>?_))))))
  ·rw[if_neg (by omega),if_neg (by omega)] at hk
   exact hk _ (iU hs.tail)
  ·refine aA (aC (b:=p) (o:=0) hs rfl (C5 (bS (dQ (aR (fun h3=>bW (aU hs fun r h hs=>?_)) (fun h3=>?_))))))
   ·rw[if_pos (by omega),if_pos (by omega)] at hk
    refine aB (aA (aC (b:=t) (o:=0) hs rfl (aQ (b:=p) (o:=0) hs (by decide) (l:=x.enc) rfl rfl (Xo (l:=es) (a:=a) (c:=c) (enc:=kE.enc) (e:=70) (y:=x) hs (by decide) (by omega) (by omega) fun h hs=>hk _ ?_))))
    have:Hs G h (aE t 0 [.slice a es.length c]::ls kE.enc 2 70 a c (es.set g.toNat x)::L'):=hs.to
    rw[←List.length_set (i:=g.toNat) (a:=x)] at this
    exact iU this
   ·rw[if_neg (by omega),if_neg (by omega)] at hk
    exact hk _ (iU hs.tail)
theorem S3 {a:Option Addr} {c:Nat} {es:List kE} (hb:es.length≤16) (hs:Hs G h L) [m:Has (ls kE.enc 2 70 a c) L es L']
  (hk:∀a' c' h',Hs G h' (ls kE.enc 2 70 a' c' es::ls kE.enc 2 70 a c es::L')→Q (.slice a' es.length c') h'):Cl Pr K 180 [.slice a es.length c] h Q:=
 cW (zM (e:=70) (show Hs G h (dB 2 70 a c (es.length,eL kE.enc es)::L') from m.of hs) (by omega) hk)
theorem Vw {t:Nat} {es:List kE} (hb:es.length≤16) (hs:Hs G h L) [m:Has (fZ t) L es L']
  (hk:∀t' h',Hs G h' (fZ t' es::fZ t es::L')→Q (pt t' 0 0) h'):Cl Pr K 140 [pt t 0 0] h Q:=by
 obtain⟨a,c,hs⟩:=C9 (m.of hs)
 refine cW (cN (bV (aB (aA (aC (b:=t) (o:=0) hs rfl (S3 hb hs fun a' c' h hs=>?_))))))
 refine aH (c:=[.slice a' es.length c']) rfl (dI hs fun p h hs=>hk _ _ ?_)
 have hs:Hs G h (aE t 0 [.slice a es.length c]::ls kE.enc 2 70 a c es::aE p 0 [.slice a' es.length c']::ls kE.enc 2 70 a' c' es::L'):=hs.to
 have hs:=iU hs
 exact(iU (show Hs G h (aE p 0 [.slice a' es.length c']::ls kE.enc 2 70 a' c' es::fZ t es::L') from hs.to)).to
theorem A2 (n:Nat):eB [I 0,.bool false] n=eL kE.enc (List.replicate n jU):=by
 induction n with
 |zero=>rfl
 |succ n ih=>rw[List.replicate_succ,nB,←ih];rfl
theorem Zt {n:Int} (h1:1≤n∧n≤16) (hs:Hs G h L) (hk:∀t' h',Hs G h' (fZ t' (List.replicate n.toNat jU)::L)→Q (.tuple ⟨[pt t' 0 0,I 0]⟩) h'):Cl Pr K 145 [I n] h Q:=by
 refine cW (aN (aK (by omega) (iS (aK (by omega) (Ns (by omega) (by omega) (by omega) ?_)))))
 refine dE (W:=2) (n:=n.toNat) (c:=n.toNat) hs (by rw[A2,Ba,List.length_replicate]) rfl (by rw[A2];exact Hc) ?_
 intro a h hs
 refine aH (c:=[.slice (some a) n.toNat n.toNat]) rfl (dI hs fun p h hs=>hk _ _ ?_)
 rw[A2] at hs
 have e:(List.replicate n.toNat jU).length=n.toNat:=List.length_replicate
 refine iU (a:=some a) (c:=n.toNat) ?_
 unfold ls
 rw[e]
 exact hs
theorem Iq {n g:Int} (h1:0≤n∧n≤100) (h2:0≤g∧g≤100) (hk:Q (I (oG n g)) h):Cl Pr K 303 [I n,I g] h Q:=by
 refine cW (bE (by omega) (Bh (by omega) (Cs (by omega) (by omega) (by omega) (bE (by omega) ?_))))
 unfold oG at hk
 show Q _ _
 rw[show n+4 - 1=n+3 by omega]
 exact hk
theorem uB {g:Int} (h1:0≤g∧g<16) (hk:Q (.tuple ⟨[I (g/4),I 0]⟩) h):Cl Pr K 257 [I g] h Q:=
 cW (aN (aK (by omega) (dR (aK (by omega) (Cs (by omega) (by omega) (by omega) hk)))))
theorem nG {p:Nat} {a:Int} {x:kE} {b:Bool} {e:Int} {z:List Value} (hs:Hs G h (aE p 0 z::L)) (hz:z.length=2) (hk:∀h',Hs G h' L→Q (.tuple ⟨[I a,.agg ⟨x.enc⟩,.bool b,I e]⟩) h'):
  bA (uU h 2 (pt p 0 0) (.agg ⟨x.enc⟩)) fun h4=>bA (uC h4 2 (pt p 0 0)) fun v5=>Q (.tuple ⟨[I a,v5,.bool b,I e]⟩) h4:=
 aZ hs (by rw[hz];rfl) rfl rfl rfl fun h hs=>aQ hs (by decide) (l:=x.enc) rfl rfl (hk _ hs.tail)
end Go.Proofs.YtajjljbmfdboaaaGreatDoor
end
end
section
namespace Go.Proofs.YtajjljbmfdboaaaGreatDoor
open Go Go.Ab Go.Hm Go.At Go.Mc
theorem aE7 {x y:kE} {k:Value→Prop} (hk:k (.bool (decide (x≠y)))) {c0:Bool} (hc:c0=true:=by kernel_rfl):U9 c0 [0,1] .neq (.agg ⟨x.enc⟩) (.agg ⟨y.enc⟩) k:=by
 refine⟨hc,_,?_,hk⟩
 obtain⟨a,b⟩:=x
 obtain⟨c,d⟩:=y
 simp[Ry,oY,T1,Tu,kE.enc]
 by_cases h1:a=c<;>cases b<;>cases d<;>simp[h1]
set_option maxRecDepth 100000
attribute [local irreducible] bA Br pN uC uU Dp nH xW nQ Tx gZ mQ rE sP qX lA B8 uK Y9 dw Tv Sl dj Ty Ry U9 Yi lJ pF vW jB copyV jC wY ft Zd Iw lI P0 Wx en qE uG Be Dk Cl zV Xm uE sS lC gK cS cC
variable {G:Bg} {h:AH} {L L':List HP} {Q:Value→AH→Prop}
theorem mv {b o n c sz i:Nat} {k:Value→Prop} (h1:i<n) (hk:k (pt b (o+i*sz) 0)):bA (lJ sz (.slice (some ⟨b,o,none⟩) n c) (I i)) k:=dK h1 hk
theorem de {p:Nat} {x:Int} {ws:List Int} (hw:ws.length<1000) (hs:Hs G h L) {a:Option Addr} {c:Nat} [m:Has (aE p 0) L [.slice a ws.length c] L'] {M:List HP} [m2:Has (dB 1 3 a c) L' (ws.length,ws.map I) M]
  (hk:∀a' c' h',Hs G h' (aE p 0 [.slice a' (ws++[x]).length c']::dB 1 3 a' c' ((ws++[x]).length,(ws++[x]).map I)::M)→Q (.tuple ⟨[]⟩) h'):Cl Pr K 302 [I x,pt p 0 0] h Q:=by
 have hs:Hs G h (dB 1 3 a c (ws.length,ws.map I)::aE p 0 [.slice a ws.length c]::M):=((m.of hs).perm ((m2.perm.cons _).trans (List.Perm.swap _ _ _)))
 refine cW (aC (b:=p) (o:=0) hs rfl (aH (c:=[I x]) rfl (dE (W:=1) (n:=1) (c:=1) hs rfl rfl rfl fun a2 h hs=>?_)))
 refine pW (a:=a) (c:=c) (n:=ws.length) (cs:=ws.map I) (a2:=some a2) (c2:=1) (m:=1) (ns:=[I x]) hs (by omega) fun a' c' h hs=>?_
 refine aZ (b:=p) (o:=0) hs rfl rfl rfl rfl fun h hs=>?_
 have:=hk a' c' h
 rw[List.length_append,List.map_append] at this
 simp only[List.length_singleton,List.map_cons,List.map_nil] at this
 exact this hs.to
def wsR (p:Nat) (ws:List Int):HP:=rY fun x:Option Addr×Nat=>sp [aE p 0 [.slice x.1 ws.length x.2],dB 1 3 x.1 x.2 (ws.length,ws.map I)]
theorem xR {p:Nat} {x:Int} {ws:List Int} (hw:ws.length<1000) (hs:Hs G h L) [m:Has (wsR p) L ws L'] (hk:∀h',Hs G h' (wsR p (ws++[x])::L')→Q (.tuple ⟨[]⟩) h'):zV Pr K (.func (.func 302) #[] #[pt p 0 0]) [I x] h Q:=by
 obtain⟨⟨a,c⟩,hs⟩:=(m.of hs).zE
 have hs:=hs.xA
 refine nA rfl ?_
 exact de hw hs fun a' c' h hs=>hk _ (Hs.uH (A:=fun x:Option Addr×Nat=>sp [aE p 0 [.slice x.1 _ x.2],dB 1 3 x.1 x.2 (_,_)]) (a',c') hs.zB)
abbrev xo (t:Nat) (a:Option Addr) (c:Nat) (es:List kE) (p:Nat) (ws:List Int) (L:List HP):List HP:=aE t 0 [.slice a es.length c]::ls kE.enc 2 70 a c es::wsR p ws::L
theorem bf {t p c:Nat} {a:Option Addr} {es:List kE} (hb:es.length≤16) (hk:∀h' b c',Hs G h' (dB 1 3 b c' ((iR es).length,(iR es).map I)::fZ t es::L)→Q (.slice b (iR es).length c') h') (ho:∀x∈es,0≤x.owner∧x.owner≤4):
  ∀(f i:Nat) (ws:List Int) (h:AH),i+f=es.length→ws.length=i+16∨ws.length≤16+i→ws++(es.drop i).map a8=iR es→Hs G h (xo t a c es p ws L)→
   Dd 256 6 [] Q [(pt p 0 0),(.func (.func 302) #[] #[pt p 0 0]),(.slice a es.length c),(I es.length),(I i)] h:=by
 intro f
 induction f with
 |zero=>
  intro i ws h hi hw he hs
  refine bW (aN (aK (by omega) ?_))
  rw[List.drop_of_length_le (by omega),List.map_nil,List.append_nil] at he
  subst he
  obtain⟨⟨b,c'⟩,hs⟩:=(hs.front (wsR p (iR es))).zE
  have hs:=hs.xA
  refine aC (b:=p) (o:=0) hs rfl (hk _ _ _ ?_)
  have hs:Hs G h (aE t 0 [.slice a es.length c]::ls kE.enc 2 70 a c es::dB 1 3 b c' ((iR es).length,(iR es).map I)::L):=hs.to
  exact(iU hs).kA
 |succ f ih=>
  intro i ws h hi hw he hs
  obtain⟨x,hx,hd⟩:=lF (l:=es) (i:=i) (by omega)
  have hox:=ho x (List.mem_of_getElem? hx)
  rw[hd,List.map_cons] at he
  refine bW (aN (bP (by omega) (bW (tM (l:=es) (a:=a) (c:=c) (enc:=kE.enc) (e:=70) hs (by decide) (by omega) hx (bN hs fun p3 h hs=>aZ hs rfl rfl rfl rfl fun h hs=>aA (aC (b:=p3) (o:=0) hs rfl ?_))))))
  have hput:∀(v:Int) (h:AH),v=a8 x→Hs G h (aE p3 0 x.enc::xo t a c es p ws L)→zV Pr K (.func (.func 302) #[] #[pt p 0 0]) [I v] h fun v3 h3=>bA (uK .add (I i) (I 1)) fun v4=>Dd 256 6 [] Q [(pt p 0 0),(.func (.func 302) #[] #[pt p 0 0]),(.slice a es.length c),(I es.length),v4] h3:=by
   intro v h hv hs
   refine xR (p:=p) (ws:=ws) (by omega) hs fun h hs=>bE (by omega) (ih (i+1) (ws++[v]) h (by omega) (by simp;omega) ?_ hs.to)
   rw[hv,List.append_assoc];exact he
  refine cU (fun h1=>bW (aA (aC (b:=p3) (o:=0) hs rfl (bE (by omega) (hput _ h ?_ hs.to))))) (fun h1=>bW (aA (aC (b:=p3) (o:=0) hs rfl (hput _ h ?_ hs.to))))
  ·unfold a8;rw[h1];rfl
  ·unfold a8;rw[h1];rfl
def gz (es:List kE) (j n:Nat):List Int:=((List.range n).drop j).map (Qc es)
theorem fa {t p c:Nat} {a:Option Addr} {es:List kE} (hb:es.length≤16) (hk:∀h' b c',Hs G h' (dB 1 3 b c' ((iR es).length,(iR es).map I)::fZ t es::L)→Q (.slice b (iR es).length c') h') (ho:∀x∈es,0≤x.owner∧x.owner≤4):
  ∀(f j:Nat) (ws:List Int) (h:AH),j+f=(es.length+3)/4→ws.length=j→ws++gz es j ((es.length+3)/4)=(List.range ((es.length+3)/4)).map (Qc es)→Hs G h (xo t a c es p ws L)→
   Dd 256 2 [] Q [(pt t 0 0),(pt p 0 0),(.func (.func 302) #[] #[pt p 0 0]),(I es.length),(I (4*j:Nat))] h:=by
 intro f
 induction f with
 |zero=>
  intro j ws h hj hw he hs
  refine bW (aN (aK (by omega) (bW (aB (aA (aC (b:=t) (o:=0) hs rfl (bZ ?_)))))))
  unfold gz at he
  rw[List.drop_of_length_le (by rw[List.length_range];omega),List.map_nil,List.append_nil] at he
  refine bf hb hk ho es.length 0 ws h (by omega) (.inr (by omega)) ?_ hs
  rw[List.drop_zero,he];rfl
 |succ f ih=>
  intro j ws h hj hw he hs
  have hlt:4*j<es.length:=by omega
  obtain⟨x,hx,_⟩:=lF (l:=es) (i:=4*j) hlt
  have hgx:es.getD (4*j) jU=x:=by rw[List.getD_eq_getElem?_getD,hx];rfl
  have hox:=ho x (List.mem_of_getElem? hx)
  have hgr:gz es j ((es.length+3)/4)=Qc es j::gz es (j+1) ((es.length+3)/4):=by
   unfold gz
   rw[List.drop_eq_getElem_cons (by rw[List.length_range];omega),List.getElem_range,List.map_cons]
  rw[hgr] at he
  have step:∀(v:Int) (h:AH) (M:List HP),v=Qc es j→[Sub M L]→Hs G h (aE t 0 [.slice a es.length c]::ls kE.enc 2 70 a c es::wsR p ws::M)→zV Pr K (.func (.func 302) #[] #[pt p 0 0]) [I v] h fun v3 h3=>bA (uK .add (I (4*j:Nat)) (I 4)) fun v4=>Dd 256 2 [] Q [(pt t 0 0),(pt p 0 0),(.func (.func 302) #[] #[pt p 0 0]),(I es.length),v4] h3:=by
   intro v h M hv _ hs
   refine xR (p:=p) (ws:=ws) (by omega) hs fun h hs=>bE (by omega) ?_
   rw[show((4*j:Nat):Int)+4=((4*(j+1):Nat):Int) by omega]
   refine ih (j+1) (ws++[v]) h (by omega) (by simp;omega) ?_ hs.to
   rw[hv,List.append_assoc];exact he
  refine bW (aN (bP (by omega) (bW (aB (aA (aC (b:=t) (o:=0) hs rfl (nw (l:=es) (a:=a) (c:=c) (enc:=kE.enc) (e:=70) (j:=0) hs (by omega) (x:=x) (by rw[Int.toNat_natCast];exact hx) rfl (aH (c:=(⟨x.owner,false⟩:kE).enc) rfl (bN hs fun p8 h hs=>aZ hs rfl rfl rfl rfl fun h hs=>aB (aA (aC (b:=t) (o:=0) hs rfl (bE (by omega) ?_))))))))))))
  refine aC0 ?_
  rw[show(if(es.length:Int)<((4*j:Nat):Int)+4 then(es.length:Int) else((4*j:Nat):Int)+4)=((min (4*j+4) es.length:Nat):Int) by split<;>omega]
  refine ue (l:=es) (a:=a) (c:=c) (enc:=kE.enc) (e:=70) hs hlt (by omega) (by omega) fun b o ha=>?_
  subst ha
  refine bZ ?_
  have hp8:(⟨x.owner,false⟩:kE)=⟨(es.getD (4*j) jU).owner,false⟩:=by rw[hgx]
  have inner:∀(f i:Nat) (h:AH),i+f=min (4*j+4) es.length - 4*j→(((es.drop (4*j)).take 4).take i).all (fun y=>decide (y=⟨x.owner,false⟩))=true→Hs G h (aE p8 0 (⟨x.owner,false⟩:kE).enc::xo t (some ⟨b,o,none⟩) c es p ws L)→
    Dd 256 5 [] Q [(pt t 0 0),(pt p 0 0),(.func (.func 302) #[] #[pt p 0 0]),(I es.length),(I (4*j:Nat)),(pt p8 0 0),(.slice (some ⟨b,o+4*j*2,none⟩) (min (4*j+4) es.length - 4*j) (c - 4*j)),(I (min (4*j+4) es.length - 4*j:Nat)),(I i)] h:=by
   intro f
   induction f with
   |zero=>
    intro i h hi hall hs
    refine bW (aN (aK (by omega) (bW (aA (aC (b:=p8) (o:=0) hs rfl (pO (by dsimp only;omega) ?_))))))
    refine step _ h (aE p8 0 (⟨x.owner,false⟩:kE).enc::L) ?_ hs.to
    unfold Qc Ub
    rw[←hp8]
    rw[List.take_of_length_le (by simp;omega)] at hall
    rw[if_pos hall,hgx]
   |succ f ih2=>
    intro i h hi hall hs
    obtain⟨y,hy,_⟩:=lF (l:=es) (i:=4*j+i) (by omega)
    refine bW (aN (bP (by omega) (bW (mv (by omega) ?_))))
    rw[show o+4*j*2+i*2=o+(4*j+i)*2 by omega]
    refine aA3 (l:=es) (c:=c) (enc:=kE.enc) (e:=70) hs (by decide) hy (bN hs fun p3 h hs=>aZ hs rfl rfl rfl rfl fun h hs=>aQ (b:=p3) (o:=0) hs (by decide) (l:=y.enc) rfl rfl (aQ (b:=p8) (o:=0) hs (by decide) (l:=(⟨x.owner,false⟩:kE).enc) rfl rfl (aE7 (aR (fun h1=>?_) (fun h1=>?_)))))
    ·refine bW (Iq (by omega) (by omega) (pO (by unfold oG;omega) (bE (by unfold oG;omega) ?_)))
     refine step _ h (aE p3 0 y.enc::aE p8 0 (⟨x.owner,false⟩:kE).enc::L) ?_ hs.to
     unfold Qc
     rw[if_neg]
     intro hpl
     unfold Ub at hpl
     rw[List.all_eq_true] at hpl
     have:=hpl y (by
      refine List.mem_of_getElem? (i:=i) ?_
      rw[List.getElem?_take_of_lt (by omega),List.getElem?_drop];exact hy)
     rw[←hp8] at this
     exact h1 (of_decide_eq_true this)
    ·refine bW (bE (by omega) ?_)
     have hall':(((es.drop (4*j)).take 4).take (i+1)).all (fun y=>decide (y=⟨x.owner,false⟩))=true:=by
      rw[List.take_add_one,List.all_append,hall,Bool.true_and]
      rw[List.getElem?_take_of_lt (by omega),List.getElem?_drop,hy]
      simpa using h1
     exact ih2 (i+1) h (by omega) hall' hs.to
  have:=inner (min (4*j+4) es.length - 4*j) 0 h (by omega) (by simp) hs.to
  exact this
theorem Zv {t:Nat} {es:List kE} (hb:es.length≤16) (ho:∀x∈es,0≤x.owner∧x.owner≤4) (hs:Hs G h L) [m:Has (fZ t) L es L'] (hk:∀h' b c',Hs G h' (dB 1 3 b c' ((iR es).length,(iR es).map I)::fZ t es::L')→Q (.slice b (iR es).length c') h'):
  Cl Pr K 256 [pt t 0 0] h Q:=by
 obtain⟨a,c,hs⟩:=C9 (m.of hs)
 refine cW (cN (bV (bW (bN hs fun p h hs=>aB (aA (aC (b:=t) (o:=0) hs rfl (bZ ?_)))))))
 have hs:=gD (W:=1) (e:=3) hs
 have hs:Hs G h (aE p 0 [.slice none 0 0]::dB 1 3 none 0 (0,[])::aE t 0 [.slice a es.length c]::ls kE.enc 2 70 a c es::L'):=hs.to
 have hs:Hs G h (wsR p []::_):=Hs.uH (A:=fun x:Option Addr×Nat=>sp [aE p 0 [.slice x.1 0 x.2],dB 1 3 x.1 x.2 (0,[])]) (none,0) hs.zB
 exact fa (a:=a) (c:=c) hb hk ho ((es.length+3)/4) 0 [] h (by omega) rfl (by simp[gz]) hs.to
theorem oq {t:Nat} {es:List kE} {x:Int} (hb:es.length≤16) (ho:∀x∈es,0≤x.owner∧x.owner≤4) (hs:Hs G h L) [m:Has (fZ t) L es L'] (hk:∀h',Hs G h' (fZ t es::L')→Q (.tuple ⟨[I (tY es x).1,I (tY es x).2]⟩) h'):
  Cl Pr K 204 [pt t 0 0,I x] h Q:=by
 unfold tY at hk
 refine cW (cN (bV (bW (Zv hb ho hs fun h b c' hs=>aN (aR (fun h1=>?_) (fun h1=>bZ (dR (aR (fun h2=>?_) (fun h2=>?_)))))))))
 ·rw[if_neg (by omega)] at hk;exact hk _ hs.tail
 ·rw[if_neg (by omega)] at hk;exact hk _ hs.tail
 ·rw[if_pos (by omega)] at hk
  obtain⟨n,rfl⟩:=Int.eq_ofNat_of_zero_le (show 0≤x by omega)
  have hn:n<(iR es).length:=by omega
  refine sa (e:=3) (cs:=(iR es).map I) hs (u:=I ((iR es).getD n 0)) (by simp[List.getD_eq_getElem?_getD,List.getElem?_eq_getElem hn]) (hk _ hs.tail)
end Go.Proofs.YtajjljbmfdboaaaGreatDoor
end
section
open Go Go.Ab
attribute [local irreducible] bA Br pN uC uU Dp nH xW nQ Tx gZ mQ rE sP qX lA B8 uK Y9 dw Tv Sl dj Ty Ry U9 Yi lJ pF vW jB copyV jC wY ft Zd Iw lI P0 Wx en qE uG Be Dk Cl zV Xm uE sS lC gK cS cC
section
namespace Go.Proofs.YtajjljbmfdboaaaGreatDoor
open Go Go.Ab Go.Hm Go.At Go.Mc
set_option maxRecDepth 100000
variable {G:Bg} {h:AH} {L L':List HP} {Q:Value→AH→Prop}
theorem oa {n g a w:Int} (hn:(1≤n∧n≤16)∧(0≤g∧g<n)) (hw:0≤w∧w≤1000000) (hs:Hs G h L)
  (hk:∀h',Hs G h' L→Q (.tuple ⟨[I (Jv n g a w).1,.agg ⟨(Jv n g a w).2.1.enc⟩,.bool (Jv n g a w).2.2.1,I (Jv n g a w).2.2.2]⟩) h'):Cl Pr K 258 [I n,I g,I a,I w] h Q:=by
 unfold Jv at hk
 rw[if_neg (by omega)] at hk
 refine cW (bN hs fun p h hs=>aN (aK (by omega) (iS (aK (by omega) (aN (aK (by omega) (dR (aK (by omega) (bW (Cs (by omega) (by omega) (by omega) (Iq (by omega) (by omega) (bH (aR (fun h1=>?_) (fun h1=>?_))))))))))))))
 rotate_left
 ·refine bW (bH (aR (fun h2=>?_) (fun h2=>?_)))
  ·refine bW (C5 (aR (fun h3=>?_) (fun h3=>?_)))
   ·rw[if_neg h1,if_pos h2,if_pos (show Jc w=true from decide_eq_true h3)] at hk
    exact aH (c:=(⟨w,false⟩:kE).enc) rfl (nG (z:=[I 0,.bool false]) hs rfl hk)
   ·refine bW (dR (aR (fun h4=>?_) (fun h4=>?_)))
    ·refine Bh (by omega) (C5 (aR (fun h5=>?_) (fun h5=>?_)))
     ·rw[if_neg h1,if_pos h2,if_neg (show ¬Jc w=true from fun e=>h3 (of_decide_eq_true e)),if_pos ⟨h4,decide_eq_true h5⟩] at hk
      exact Bh (by omega) (aH (c:=(⟨w - 8,true⟩:kE).enc) rfl (nG (z:=[I 0,.bool false]) hs rfl hk))
     ·rw[if_neg h1,if_pos h2,if_neg (show ¬Jc w=true from fun e=>h3 (of_decide_eq_true e)),if_neg (fun e=>h5 (of_decide_eq_true e.2))] at hk
      exact aH (c:=jU.enc) rfl (nG (z:=[I 0,.bool false]) hs rfl hk)
    ·rw[if_neg h1,if_pos h2,if_neg (show ¬Jc w=true from fun e=>h3 (of_decide_eq_true e)),if_neg (fun e=>h4 e.1)] at hk
     exact aH (c:=jU.enc) rfl (nG (z:=[I 0,.bool false]) hs rfl hk)
  ·rw[if_neg h1,if_neg h2] at hk
   exact aH (c:=jU.enc) rfl (nG (z:=[I 0,.bool false]) hs rfl hk)
 ·rw[if_pos h1] at hk
  refine bW (pO (by omega) (Iq (by omega) (by omega) ?_))
  refine pO (by unfold oG;omega) (bE (by unfold oG;omega) (bH (aR (fun h2=>?_) (fun h2=>?_))))
  rotate_left
  refine bW (P2 (by omega) (by omega) (bH (aR (fun h3=>?_) (fun h3=>?_))))
  refine Cs (by omega) (by omega) (by omega) (C5 (aR (fun h4=>?_) (fun h4=>?_)))
  rotate_left 3
  ·rw[if_pos h2] at hk
   exact aH (c:=jU.enc) rfl (nG (z:=[I 0,.bool false]) hs rfl hk)
  ·rw[if_neg h2,if_pos ⟨h3,decide_eq_true h4⟩] at hk
   exact Cs (by omega) (by omega) (by omega) (aH (c:=(⟨w/4,false⟩:kE).enc) rfl (nG (z:=[I 0,.bool false]) hs rfl hk))
  ·rw[if_neg h2,if_neg (fun e=>h4 (of_decide_eq_true e.2))] at hk
   exact aH (c:=jU.enc) rfl (nG (z:=[I 0,.bool false]) hs rfl hk)
  ·rw[if_neg h2,if_neg (fun e=>h3 e.1)] at hk
   exact aH (c:=jU.enc) rfl (nG (z:=[I 0,.bool false]) hs rfl hk)
end Go.Proofs.YtajjljbmfdboaaaGreatDoor
end
end
section
namespace Go.Ct
open Go Go.Ab
def iu (s:Array UInt8) (a b c d:Bool) (x y z:Int):List Value:=[.string ⟨s⟩,.bool a,.bool b,.bool c,.bool d,I x,I y,I z]
def hM:List Value:=iu #[73] false false false false 0 0 0++iu #[83] true false false false 0 1 0++iu #[69] true true false true 4 1 0++iu #[79] true false true true 0 3 0++iu #[77] true true true true 4 3 0
end Go.Ct
end
section
open Go Go.Ab
attribute [local irreducible] bA Br pN uC uU Dp nH xW nQ Tx gZ mQ rE sP qX lA B8 uK Y9 dw Tv Sl dj Ty Ry U9 Yi lJ pF vW jB copyV jC wY ft Zd Iw lI P0 Wx en qE uG Be Dk Cl zV Xm uE sS lC gK cS cC
section
namespace Go.Proofs.YtajjljbmfdboaaaGreatDoor.H
open Go Go.Ab Go.Hm
set_option maxRecDepth 100000
variable {G:Bg} {h:AH} {L L':List HP}
def dX (b o:Nat) (r:Row):HP:=fun q=>∃a c,star [aE b o (r.enc a c),dB 9 175 a c (r.waits.length,eA r.waits)] q
theorem dH {b o:Nat} {r:Row} (hs:Hs G h (dX b o r::L)):∃a c,Hs G h (aE b o (r.enc a c)::dB 9 175 a c (r.waits.length,eA r.waits)::L):=by
 obtain⟨q,q2,⟨a,c,hq⟩,h2,h3,h4,h5⟩:=hs.fst
 exact⟨a,c,hs.base,hs.old,hs.wf,hs.fr,_,(hQ (L:=[_,_])).2 ⟨q,q2,hq,h2,h3,rfl⟩,(cF.fA h3).2 ⟨h4,h5⟩⟩
theorem iC {b o:Nat} (r:Row) {a:Option Addr} {c:Nat} (hs:Hs G h (aE b o (r.enc a c)::dB 9 175 a c (r.waits.length,eA r.waits)::L)):Hs G h (dX b o r::L):=
 Hs.join (A:=[_,_]) hs fun _ hq=>⟨a,c,hq⟩
theorem yQ {x:Int} {Q:Value→AH→Prop} (hk:Q (.bool (decide (0≤x∧x<5))) h):Cl Pr K 295 [I x] h Q:=by
 refine cW ?_
 refine dR (aR (fun h1=>aN ?_) (fun h1=>?_))
 ·show Q _ _;rw[show decide (x<5)=decide (0≤x∧x<5) from decide_eq_decide.2 (by omega)];exact hk
 ·show Q _ _;rw[show false=decide (0≤x∧x<5) from(decide_eq_false (by omega)).symm];exact hk
theorem m5 {x:Int} {Q:Value→AH→Prop} (hk:Q (.bool (valid x)) h):Cl Pr K 297 [I x] h Q:=by
 refine cW (yQ (aR (fun h1=>aY ?_) (fun h1=>?_)))
 ·show Q _ _;rw[show decide (x≠0)=valid x from by simp only[valid,decide_eq_true h1,Bool.true_and]];exact hk
 ·show Q _ _;rw[show false=valid x from by simp only[valid,decide_eq_false h1,Bool.false_and]];exact hk
theorem Ye {b o:Nat} {r:Row} {Q:Value→AH→Prop} (hs:Hs G h L) [m:Has (dX b o) L r L'] (hk:∀h',Hs G h' (dX b o r.free::L')→Q (.tuple ⟨[]⟩) h'):Cl Pr K 252 [pt b o 0] h Q:=by
 obtain⟨a,c,hs⟩:=dH (m.of hs)
 refine cW ?_
 repeat' first
  |refine aA ?_
  |refine aB ?_
  |(refine bI hs rfl rfl rfl rfl ?_;intro h hs)
  |refine aH rfl ?_
 exact hk _ (iC r.free (a:=a) (c:=c) hs)
theorem qy {r:Row} {x:Int} (h:r.owner=x):r.leave x={r with sh:=uJ r.sh x false,owner:= -1}:=by simp only[Row.leave,if_pos h]
theorem m7 {r:Row} {x:Int} (h:¬r.owner=x):r.leave x={r with sh:=uJ r.sh x false}:=by simp only[Row.leave,if_neg h]
theorem Bx {b o:Nat} {r:Row} {x:Int} {Q:Value→AH→Prop} (hs:Hs G h L) [m:Has (dX b o) L r L'] (hx:0≤x∧x<4) (hk:∀h',Hs G h' (dX b o (r.leave x)::L')→Q (.tuple ⟨[]⟩) h'):Cl Pr K 218 [pt b o 0,I x] h Q:=by
 obtain⟨a,c,hs⟩:=dH (m.of hs)
 refine cW ?_
 have hx4:x=0∨x=1∨x=2∨x=3:=by omega
 rcases hx4 with rfl|rfl|rfl|rfl
 all_goals
  refine aB (aA (eZ (by decide) (by decide) ?_))
  repeat' first
   |refine aA ?_
   |refine aB ?_
   |refine bH ?_
   |refine aC hs rfl ?_
   |(refine bI hs rfl rfl rfl rfl ?_;intro h hs)
   |(refine aR (fun hc=>?_) (fun hc=>?_))
  ·rw[qy hc] at hk
   exact hk _ (iC _ (a:=a) (c:=c) hs)
  ·rw[m7 hc] at hk
   exact hk _ (iC _ (a:=a) (c:=c) hs)
theorem at4 {f:Nat→Bool} {i:Nat} (hi:i<4) {k:Value→Prop} (hk:k (.bool (f i))):bA (P0 4 1 (.agg ⟨[.bool (f 0),.bool (f 1),.bool (f 2),.bool (f 3)]⟩) (I i)) k:=by
 refine Vi ?_ hk
 have:i=0∨i=1∨i=2∨i=3:=by omega
 rcases this with rfl|rfl|rfl|rfl<;>simp[P0]
theorem Vx {b o:Nat} {r:Row} {x:Int} {a:Option Addr} {c:Nat} {Q:Value→AH→Prop} (hs:Hs G h (aE b o (r.enc a c)::L)):∀(f i:Nat) (t:Value),i+f=4→Q (I (r.yB x f i)) h→
  Dd 221 1 [] Q [(pt b o 0),(I x),(I (-1)),(.agg ⟨[.bool (r.sh 0),.bool (r.sh 1),.bool (r.sh 2),.bool (r.sh 3)]⟩),(I i),t] h:=by
 intro f
 induction f with
 |zero=>
  intro i t hi hq
  refine bW (aN (aK (by omega) ?_))
  exact hq
 |succ f ih=>
  intro i t hi hq
  refine bW (aN (bP (by omega) (bW (at4 (by omega) ?_))))
  have next:∀t,r.holds x i=false→Dd 221 3 [] Q [(pt b o 0),(I x),(I (-1)),(I i),(.agg ⟨[.bool (r.sh 0),.bool (r.sh 1),.bool (r.sh 2),.bool (r.sh 3)]⟩),(I i),t] h:=fun t hh=>by
   refine bW (bE (by omega) (ih (i+1) _ (by omega) ?_))
   simpa [Row.yB,hh] using hq
  refine bH (aR (fun hc=>next _ ?_) (fun hc=>bW (cU (fun h1=>bW ?_) (fun h1=>bW ?_))))
  ·exact Yt hc
  ·rw[h1]
   refine eQ (bW ?_)
   have:r.holds x i=true:=j5 hc h1
   rw[Row.yB,if_pos this] at hq;exact hq
  ·repeat' first
    |refine aA ?_
    |refine aB ?_
    |refine bH ?_
    |refine aC hs rfl ?_
   refine aR (fun h2=>bW ?_) (fun h2=>next _ ?_)
   ·have:r.holds x i=true:=l8 hc h2
    rw[Row.yB,if_pos this] at hq;exact hq
   ·exact Yh h1 h2
theorem uB {b o:Nat} {r:Row} {x:Int} {Q:Value→AH→Prop} (hs:Hs G h L) [m:Has (dX b o) L r L'] (hk:Hs G h (dX b o r::L')→Q (I (r.first x)) h):Cl Pr K 221 [pt b o 0,I x] h Q:=by
 have hk:=hk (m.of hs)
 obtain⟨a,c,hs⟩:=dH (m.of hs)
 refine cW ?_
 repeat' first
  |refine aA ?_
  |refine aB ?_
  |refine aQ hs (by decide) rfl rfl ?_
 exact Vx hs 4 0 _ rfl hk
def bp (b o:Nat) (r:Row):HP:=aE b o r.Us
def Ji (b o:Nat) (r:Row):HP:=rY fun x:Option Addr×Nat=>sp [aE b (o+5) (r.Jk x.1 x.2),dB 9 175 x.1 x.2 (r.waits.length,eA r.waits)]
theorem G0 {b o:Nat} {r:Row} (hs:Hs G h (dX b o r::L)):Hs G h (bp b o r::Ji b o r::L):=by
 obtain⟨a,c,hs⟩:=dH hs
 have hs1:Hs G h (aE b (o+5) (r.Jk a c)::dB 9 175 a c (r.waits.length,eA r.waits)::aE b o r.Us::L):=(hs.split (c:=r.Us) (d:=r.Jk a c)).perm (by
  exact(List.Perm.swap _ _ _).trans ((List.Perm.swap _ _ _).cons _))
 exact(Hs.uH (A:=fun x:Option Addr×Nat=>sp [aE b (o+5) (r.Jk x.1 x.2),dB 9 175 x.1 x.2 (r.waits.length,eA r.waits)]) (a,c) (Hs.pack (A:=[_,_]) hs1)).perm (List.Perm.swap _ _ _)
theorem La {b o:Nat} {r:Row} (hs:Hs G h (Ji b o r::L)):∃a c,Hs G h (aE b (o+5) (r.Jk a c)::dB 9 175 a c (r.waits.length,eA r.waits)::L):=by
 obtain⟨⟨a,c⟩,hs⟩:=hs.zE
 exact⟨a,c,hs.unpack⟩
theorem Wr {b o:Nat} (r:Row) {a:Option Addr} {c:Nat} (hs:Hs G h (aE b (o+5) (r.Jk a c)::dB 9 175 a c (r.waits.length,eA r.waits)::L)):Hs G h (Ji b o r::L):=
 Hs.uH (A:=fun x:Option Addr×Nat=>sp [aE b (o+5) (r.Jk x.1 x.2),dB 9 175 x.1 x.2 (r.waits.length,eA r.waits)]) (a,c) (Hs.pack (A:=[_,_]) hs)
theorem Lr {b o:Nat} {r:Row} (hs:Hs G h (bp b o r::Ji b o r::L)):Hs G h (dX b o r::L):=by
 obtain⟨a,c,hs⟩:=La (hs.perm (List.Perm.swap _ _ _))
 refine iC r (a:=a) (c:=c) ?_
 rw[Row.cg]
 exact Hs.F4 (c:=r.Us) (hs.perm ((List.Perm.swap _ _ _).cons _|>.trans (List.Perm.swap _ _ _))) rfl
def C3 (b o p q:Nat) (x:Int) (r:Row):HP:=sp [bp b o r,aE p 0 [pt b o 0],aE q 0 [I x]]
theorem Vo {b o:Nat} {x:Int} {Q:Value→AH→Prop} (hs:Hs G h L) (hk:∀p q h',Hs G h' (aE p 0 [pt b o 0]::aE q 0 [I x]::L)→Q (.func (.func 272) #[] #[pt p 0 0,pt q 0 0]) h'):Cl Pr K 223 [pt b o 0,I x] h Q:=by
 refine cW ?_
 repeat' first
  |(refine dI hs ?_;intro p h hs)
 exact hk _ _ _ (hs.perm (List.Perm.swap _ _ _))
theorem O0 {b o p q:Nat} {r:Row} {x:Int} {I':List (List Value)→HP} {J:HP} {y:Value} {Q:Value→AH→Prop}
  (hy:∀z rest h M,Hs G h (I' (z::rest)::M)→zV Pr K y z h fun v h'=>(v= .bool true∧Hs G h' (I' rest::M))∨(v= .bool false∧Hs G h' (J::M)))
  (h1:∀v h',Hs G h' (C3 b o p q x r::I' []::L)→Q v h') (h2:∀v h',Hs G h' (C3 b o p q x r::J::L)→Q v h'):
  ∀(f i:Nat) (h:AH),i+f=4→Hs G h (C3 b o p q x r::I' ((r.fX x f i).map fun(c:Nat)=>[I c])::L)→
   Dd 272 1 [] Q [y,(pt p 0 0),(pt q 0 0),(.agg ⟨[.bool (r.sh 0),.bool (r.sh 1),.bool (r.sh 2),.bool (r.sh 3)]⟩),(I i)] h:=by
 intro f
 induction f with
 |zero=>
  intro i h hi hs
  refine bW (aN (aK (by omega) ?_))
  exact h1 _ _ hs
 |succ f ih=>
  intro i h hi hs
  refine bW (aN (bP (by omega) (bW (at4 (by omega) ?_))))
  have hs0:=hs
  have hs:=hs.unpack
  have yes:r.holds x i=true→zV Pr K y [I i] h fun v h'=>(v= .bool true∧Hs G h' (C3 b o p q x r::I' ((r.fX x f (i+1)).map fun(c:Nat)=>[I c])::L))∨(v= .bool false∧Hs G h' (C3 b o p q x r::J::L)):=fun hh=>by
   rw[Row.fX,if_pos hh] at hs0
   refine(hy _ _ h _ (hs0.perm (List.Perm.swap _ _ _))).mono fun v h' hv=>?_
   exact hv.imp (fun e=>⟨e.1,e.2.perm (List.Perm.swap _ _ _)⟩) (fun e=>⟨e.1,e.2.perm (List.Perm.swap _ _ _)⟩)
  have no:r.holds x i=false→Hs G h (C3 b o p q x r::I' ((r.fX x f (i+1)).map fun(c:Nat)=>[I c])::L):=fun hh=>by
   simpa only[Row.fX,hh,Bool.false_eq_true,if_false] using hs0
  refine aC hs rfl (bH (aR (fun hc=>bE (by omega) (ih (i+1) h (by omega) (no (Yt hc)))) (fun hc=>bS (dQ (cU (fun h3=>?_) (fun h3=>?_))))))
  ·refine(yes (j5 hc h3)).mono fun v h' hv=>?_
   rcases hv with⟨rfl,hs'⟩|⟨rfl,hs'⟩
   ·exact bS (bV (bW (bE (by omega) (ih (i+1) h' (by omega) hs'))))
   ·exact bS (eQ (h2 _ _ hs'))
  ·have hsr:Hs G h (aE b o r.Us::_):=hs
   refine aC hs rfl (aB (aA (aC hsr rfl (aY (aR (fun h4=>?_) (fun h4=>?_))))))
   ·exact bW (bE (by omega) (ih (i+1) h (by omega) (no (Yh h3 h4))))
   ·refine bW ((yes (l8 hc (by simpa using h4))).mono fun v h' hv=>?_)
    rcases hv with⟨rfl,hs'⟩|⟨rfl,hs'⟩
    ·exact bS (bV (bW (bE (by omega) (ih (i+1) h' (by omega) hs'))))
    ·exact bS (eQ (h2 _ _ hs'))
theorem cr {b o p q:Nat} {r:Row} {x:Int}:gu Pr K G 272 [] [pt p 0 0,pt q 0 0] (C3 b o p q x r) ((r.jA x).map fun(c:Nat)=>[I c]):=by
 intro I' J y L h Q hs hy h1 h2
 refine cW ?_
 have hs2:=hs.unpack
 have hsr:Hs G h (aE b o r.Us::_):=hs2
 refine aC hs2 rfl (aB (aA (aQ hsr (by decide) rfl rfl ?_)))
 exact O0 hy h1 h2 4 0 h rfl hs
end Go.Proofs.YtajjljbmfdboaaaGreatDoor.H
end
section
namespace Go.Proofs.YtajjljbmfdboaaaGreatDoor.H
open Go Go.Ab Go.Hm
set_option maxRecDepth 100000
variable {G:Bg} {h:AH} {L L':List HP}
def eJ (v:Value) (l:List aJ):HP:=rY fun x:Option Addr×Nat=>sp [uI (v= .slice x.1 l.length x.2),dB 9 175 x.1 x.2 (l.length,eA l)]
theorem Ex {a:Option Addr} {c n:Nat} {l:List aJ} {cs:List Value} (hn:n=l.length) (hc:cs=eA l) (hs:Hs G h (dB 9 175 a c (n,cs)::L)):Hs G h (eJ (.slice a n c) l::L):=by
 subst hn;subst hc
 exact Hs.uH (A:=fun x:Option Addr×Nat=>sp [uI (Value.slice a l.length c=Value.slice x.1 l.length x.2),dB 9 175 x.1 x.2 (l.length,eA l)]) (a,c) (Hs.pack (A:=[_,_]) (Hs.N9 rfl hs))
theorem rb {v:Value} {l:List aJ} (hs:Hs G h (eJ v l::L)):∃a c,v= .slice a l.length c∧Hs G h (dB 9 175 a c (l.length,eA l)::L):=by
 obtain⟨⟨a,c⟩,hs⟩:=hs.zE
 obtain⟨hv,hs⟩:=Hs.bq hs.unpack
 exact⟨a,c,hv,hs⟩
theorem Q3 {line state:Int} {l:List Nat} {i:Nat}:gN line state (l++[i])=gN line state l++[⟨11,i,line,0,state,0,0,false,0⟩]:=by simp[gN,aJ.zero]
theorem z8 {f:Nat→Bool} {i j:Nat} {v:Bool}:uJ f i v j=if j=i then v else f j:=by
 simp only[uJ,Int.ofNat_inj]
theorem Sn {r:Row} {l:List Nat} {i:Nat}:r.gH (l++[i])={r.gH l with asked:=uJ (r.gH l).asked i true}:=by
 simp only[Row.gH,Row.mk.injEq,true_and,and_true]
 funext j
 simp only[z8,List.contains_append]
 by_cases h:j=i
 ·subst h;simp
 ·simp[h]
theorem xj {b o i:Nat} {r:Row} {a:Option Addr} {c:Nat} {v:Bool} {k:AH→Prop} (hs:Hs G h L) [m:Has (aE b (o+5)) L (r.Jk a c) L'] (hi:i<4) (hk:∀h',Hs G h' (aE b (o+5) (({r with asked:=uJ r.asked i v}:Row).Jk a c)::L')→k h'):bA (uU h 1 (pt b o (17+(i:Int).toNat*1)) (.bool v)) k:=by
 have hs:=m.of hs
 rw[aD8 (m:=5) (by omega)]
 have:i=0∨i=1∨i=2∨i=3:=by omega
 rcases this with rfl|rfl|rfl|rfl
 all_goals
  refine bI hs rfl rfl rfl rfl ?_
  exact hk
def prC (b o p2 p5 p8 p10:Nat) (line state:Int) (r:Row) (xs:List Nat) (e:Nat→Value) (d l:Nat) (rest:List (List Value)) (done:List Nat) (a:Option Addr) (c:Nat):List HP:=
 [uI (rest=(xs.drop done.length).map fun(c:Nat)=>[I c]),uI (xs.take done.length=done),
    jY Pr 222 (kD 58) 26 e d l (.ready,none),aE p2 0 [pt b o 0],aE p5 0 [I line],aE p8 0 [I state],Ji b o (r.gH done),
    aE p10 0 [.slice a done.length c],dB 9 175 a c (done.length,eA (gN line state done))]
def prI (b o p2 p5 p8 p10:Nat) (line state:Int) (r:Row) (xs:List Nat) (e:Nat→Value) (d l:Nat) (rest:List (List Value)):HP:=
 rY fun x:List Nat×Option Addr×Nat=>sp (prC b o p2 p5 p8 p10 line state r xs e d l rest x.1 x.2.1 x.2.2)
theorem aDn {b o p2 p5 p8 p10:Nat} {line state:Int} {r:Row} {xs:List Nat} {e:Nat→Value} {d l:Nat} {rest:List (List Value)} (done:List Nat) (a:Option Addr) (c:Nat) (h1:rest=(xs.drop done.length).map fun(c:Nat)=>[I c]) (h2:xs.take done.length=done)
  (hs:Hs G h (sp ((prC b o p2 p5 p8 p10 line state r xs e d l rest done a c).drop 2)::L)):Hs G h (prI b o p2 p5 p8 p10 line state r xs e d l rest::L):=
 Hs.uH (done,a,c) (wK h1 (wK h2 hs))
theorem yi {b o p2 p5 p8 p10:Nat} {line state:Int} {r:Row} {xs:List Nat} {e:Nat→Value} {d l:Nat} {rest:List (List Value)} (hs:Hs G h (prI b o p2 p5 p8 p10 line state r xs e d l rest::L)):∃done a c,(rest=(xs.drop done.length).map fun(c:Nat)=>[I c])∧xs.take done.length=done∧
  Hs G h (jY Pr 222 (kD 58) 26 e d l (.ready,none)::aE p2 0 [pt b o 0]::aE p5 0 [I line]::aE p8 0 [I state]::Ji b o (r.gH done)::aE p10 0 [.slice a done.length c]::dB 9 175 a c (done.length,eA (gN line state done))::L):=by
 obtain⟨⟨done,a,c⟩,hs⟩:=Hs.zE hs
 obtain⟨h1,hs⟩:=fP hs
 obtain⟨h2,hs⟩:=fP hs
 exact⟨done,a,c,h1,h2,hs.unpack⟩
theorem C8 {b o:Nat} {line state:Int} {r:Row} {g:FuncId} {caps:List Value} {A:HP} {xs:List Nat} {Q:Value→AH→Prop} (hy:gu Pr K G g [] caps A (xs.map fun(c:Nat)=>[I c])) (hx:∀c∈xs,c<4) (hxl:xs.length≤4) (hg:fN Pr g=true)
  (hs:Hs G h (A::Ji b o r::L)) (hk:∀v h',Hs G h' (eJ v (gN line state xs)::A::Ji b o (r.gH xs)::L)→Q v h'):
  Cl Pr K 222 [pt b o 0,I line,I state,.func (.func g) #[] ⟨caps⟩] h Q:=by
 refine cW ?_
 refine dI hs fun p2 h hs=>dI hs fun p5 h hs=>dI hs fun p8 h hs=>bN hs fun p10 h hs=>jX hs fun d h hs=>?_
 intro e he
 refine mG hs fun l h hs=>?_
 refine rT hg ?_
 have hs:=gD (W:=9) (e:=175) hs
 have e0:r.gH []=r:=by simp[Row.gH]
 have hst:Hs G h (A::prI b o p2 p5 p8 p10 line state r xs e d l (xs.map fun(c:Nat)=>[I c])::mk d ()::L):=by
  refine Hs.kA (aDn [] none 0 rfl rfl ?_)
  rw[←e0] at hs
  simp only[prC,List.drop_succ_cons,List.drop_zero,List.length_nil,gN,List.map_nil,Ma]
  exact hs.to
 refine hy _ (uI False) _ _ h _ hst ?_ ?_ ?_
 ·intro x rest h M hs
  obtain⟨done,a,c,h1,h2,hq⟩:=yi hs
  clear hs
  cases hx2:xs.drop done.length with
  |nil=>rw[hx2] at h1;cases h1
  |cons i xs'=>
   rw[hx2] at h1
   simp only[List.map_cons,List.cons.injEq] at h1
   obtain⟨rfl,rfl⟩:=h1
   have hi4:i<4:=hx i (List.mem_of_mem_drop (by rw[hx2];exact List.mem_cons_self))
   have hdl:done.length<xs.length:=by
    rcases Nat.lt_or_ge done.length xs.length with h|h
    ·exact h
    ·rw[List.drop_eq_nil_of_le h] at hx2;cases hx2
   obtain⟨a2,c2,hs⟩:=La (hq.perm (dP.perm (A:=Ji b o (r.gH done))))
   refine rW (rS hs) he ?_
   refine gU hs fun h hs=>aC hs rfl (aB (aA (eZ (by omega) (by omega) ?_)))
   rw[Nat.zero_add]
   refine xj hs hi4 fun h hs=>aC hs rfl (aC hs rfl (aC hs rfl (aH (c:=aJ.enc ⟨11,i,line,0,state,0,0,false,0⟩) rfl (aH (c:=aJ.enc ⟨11,i,line,0,state,0,0,false,0⟩) rfl ?_))))
   refine dE hs rfl rfl rfl ?_
   intro a3 h hs
   refine pW hs (by omega) ?_
   intro a4 c4 h hs
   dsimp only
   refine aZ hs rfl rfl rfl rfl ?_
   intro h hs
   refine iE hs ?_
   intro h hs
   refine .inl ⟨rfl,?_⟩
   rw[←Sn] at hs
   have hs:=Wr (r.gH (done++[i])) (hs.cA (aE b (o+5) ((r.gH (done++[i])).Jk a2 c2)) (dB 9 175 a2 c2 ((r.gH done).waits.length,eA (r.gH done).waits)))
   have hl:(done++[i]).length=done.length+1:=by simp
   have hxs:xs=done++i::xs':=by have:=List.take_append_drop done.length xs;rw[h2,hx2] at this;exact this.symm
   refine aDn (done++[i]) a4 c4 ?_ ?_ ?_
   ·have:xs=(done++[i])++xs':=by simp[hxs]
    rw[this,List.drop_left]
   ·have:xs=(done++[i])++xs':=by simp[hxs]
    rw[this,List.take_left]
   ·simp only[prC,List.drop_succ_cons,List.drop_zero,hl,Q3,uR,G5,Ma,List.append_nil]
    exact hs.to
 ·intro v h' hs
  obtain⟨done,a,c,h1,h2,hs⟩:=yi hs.kA
  have hd:xs=done:=by
   have:xs.drop done.length=[]:=by simpa using h1.symm
   rw[←h2,List.take_of_length_le (by simpa using this)]
  subst hd
  refine mE hs fun h' hs=>mC ?_
  refine aC hs rfl (lN hs fun h' hs=>jI ?_)
  refine hk _ _ ?_
  have e1:(gN line state xs).length=xs.length:=by simp[gN]
  have hs:=Ex (l:=gN line state xs) e1.symm rfl (hs.perm (dP.perm (A:=dB 9 175 a c (xs.length,eA (gN line state xs)))))
  exact hs.to
 ·intro v h' hs
  exact(Hs.bq (hs.kA)).1.elim
end Go.Proofs.YtajjljbmfdboaaaGreatDoor.H
end
end
