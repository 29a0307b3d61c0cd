/- A part of the proof. -/
import Derived.Test.YtajjljbmfdboaaaGreatDoorP14
import Derived.Test.YtajjljbmfdboaaaGreatDoorP13
import Derived.Test.YtajjljbmfdboaaaGreatDoorP12
import Derived.Test.YtajjljbmfdboaaaGreatDoorP11
section
open Go Go.Ab
attribute [local irreducible] aZ Br oM rI sQ Bi lE tH kU Qb gI lF pD pW oR kH zH tJ W2 Ut Qa Nn T3 P6 Km Lx T2 jR mX rV iO copyV iB vL Va Uo Fm kB Lu Sv Vn nF rH wK zB Cl wX T1 rM qX jI gS cI cA
section
namespace Go.Proofs.YtajjljbmfdboaaaGreatDoor
open Go Go.Ab Go.Hm Go.At Go.Mc Go.Ct Go.Nt Go.Is
set_option maxRecDepth 100000
variable {G:Bg} {h:AH} {L L':List HP} {Q:Value→AH→Prop} {Cf:bQ} {m:Nat} {M:cY}
theorem Qy {l:List Nat} {S:Nat→aY} {i:Nat} {k:Value→Prop} (hi:i<l.length) (hs:Hs G h L) [mm:Has (pQ pZ l) L S L'] (hk:k (I (S i).world)):aZ (lF (pt (l.getD i 0) 0 0)) fun v=>aZ (gI 0 v) fun v=>aZ (gI 5 v) fun v=>aZ (oM h v) k:=by
 have hs:=gV (R:=pZ) (l:=l) (s:=S) hi hs
 obtain⟨a,c,hs⟩:=lH hs
 exact aB (aA (aA (aC (b:=l.getD i 0) (o:=0) hs rfl hk)))
theorem yJ {l:List Nat} {s:Nat→iT} {i:Nat} {t:iT} (hi:i<l.length) (hs:Hs G h L) [k:dX (C.fU G (l.getD i 0) Cf i t) L L'] {N:List HP} [k2:dX (Je (pO G Cf) l s i) L' N]:Hs G h (pQ (pO G Cf) l (bT s i t)::N):=Hq hi (hs.cN (C.fU G (l.getD i 0) Cf i t) (Je (pO G Cf) l s i))
theorem jo {i:Nat} {line:Int} {wr:Bool} (hC:Cf.Ok) (hG:Gb G) (hi:(i:Int)<Cf.aF) (hb:lZ Cf (M.dK i)) (hL:la Cf M.mI) (hs:Hs G h L) [mm:Has (bG G Cf m) L M L'] (hk:∀h',Hs G h' (bG G Cf m (M.want Cf i line wr).1::L')→Q (I (M.want Cf i line wr).2) h'):Cl Pr K 196 [pt m 0 0,I i,I line,.bool wr] h Q:=by
 unfold cY.want at hk
 have hbd:Bd (M.dK i):=hb.bd (kD hC).2.2.2
 obtain⟨x,hl,hs⟩:=cH (mm.of hs)
 have hic:i<x.lc.length:=by have:=hl.1;omega
 have hik:i<x.lk.length:=by have:=hl.2.1;omega
 refine cW (aB (aA (aC (b:=m) (o:=0) hs rfl (Jf hs hik ?_))))
 have hs:=gV (R:=pO G Cf) (l:=x.lk) (s:=M.dK) hik hs
 refine C.Ye (C:=Cf) (core:=(i:Int)) (c:=x.lk.getD i 0) (s:=M.dK i) hC hbd hs fun q h hs=>?_
 refine aB (aA (aC (b:=m) (o:=0) hs rfl (Ji hs hic (Qy (l:=x.lc) (S:=M.aH) hic hs ?_))))
 refine C.ub (C:=Cf) (core:=(i:Int)) (c:=q) (s:=M.dK i) hC hbd hG.lim hG.row hs fun a c h hs=>aG rfl (aG rfl (aX (aS (fun h1=>?_) (fun h1=>?_))))
 ·rw[if_pos h1] at hk
  have hs:=yJ (Cf:=Cf) (l:=x.lk) (s:=M.dK) (i:=i) (t:=M.dK i) hik hs
  rw[bJ] at hs
  exact hk _ (bB (m:=m) (x:=x) M hl hs).to
 rw[if_neg h1] at hk
 have hs:Hs G h (sI a c (want Cf i (M.dK i) line (M.aH i).world wr).2.1::_):=hs
 refine bW (aB (aA (aC (b:=m) (o:=0) hs rfl ?_)))
 refine Cd (C:=Cf) (f:=x.fb) (F:=M.mI) (l:=(want Cf i (M.dK i) line (M.aH i).world wr).2.1) (a:=a) (c:=c) hC (hL.Ws hC) (by have:=j4 (C:=Cf) (core:=(i:Int)) (s:=M.dK i) (l:=line) (w:=(M.aH i).world) (wr:=wr);omega) hG.kin hG.lim hs fun h hs=>aX (aS (fun h2=>?_) (fun h2=>?_))
 ·dsimp only at hk
  rw[if_pos h2] at hk
  rw[Cb h2] at hs
  have hs:=yJ (Cf:=Cf) (l:=x.lk) (s:=M.dK) (i:=i) (t:=M.dK i) hik hs
  rw[bJ] at hs
  exact hk _ (bB (m:=m) (x:=x) M hl hs).to
 ·dsimp only at hk
  rw[if_neg h2] at hk
  refine bW (aB (aA (aC (b:=m) (o:=0) hs rfl (W8 hs hik fun h hs=>hk _ ?_))))
  have hs:=Bx (R:=pO G Cf) (l:=x.lk) (s:=M.dK) (i:=i) (q:=q) (t:=(want Cf i (M.dK i) line (M.aH i).world wr).1) hik hs
  have e:eU Cf x M.log.length=eU Cf {x with lk:=x.lk.set i q} M.log.length:=by unfold eU;rw[List.length_set]
  rw[e] at hs
  exact(bB (m:=m) (x:={x with lk:=x.lk.set i q}) ((M.dH (gM.send Cf M.mI (want Cf i (M.dK i) line (M.aH i).world wr).2.1).1).sE i (want Cf i (M.dK i) line (M.aH i).world wr).1) ⟨hl.1,by rw[List.length_set];exact hl.2.1,hl.2.2⟩ hs).to
end Go.Proofs.YtajjljbmfdboaaaGreatDoor
end
section
namespace Go.Proofs.YtajjljbmfdboaaaGreatDoor
open Go Go.Ab Go.Hm Go.At Go.Mc Go.Ct Go.Nt Go.Is
theorem Wy {g:Int} {i:Nat}:(List.range (i+1)).map (fun i:Nat=>eT 13 i g)=(List.range i).map (fun i:Nat=>eT 13 i g)++[eT 13 i g]:=by
 rw[List.range_succ,List.map_append];rfl
set_option maxRecDepth 100000
variable {G:Bg} {h:AH} {L L':List HP} {Q:Value→AH→Prop} {Cf:bQ} {m:Nat} {M:cY}
theorem jc {i:Nat} {a:Mc.Ask} (hC:Cf.Ok) (hG:Gb G) (hi:(i:Int)<Cf.aF) (hm:gD Cf M.dQ) (ho:(M.aH i).Ok) (hlog:M.log.length≤2^30) (hL:la Cf M.mI) (hs:Hs G h L) [mm:Has (bG G Cf m) L M L'] (hk:∀h',Hs G h' (bG G Cf m (M.call Cf i a).1::L')→Q (I (M.call Cf i a).2) h'):Cl Pr K 153 [pt m 0 0,I i,.agg ⟨a.enc⟩] h Q:=by
 unfold cY.call at hk
 have hc:=hC.1
 refine cW (dJ (mm.of hs) fun p2 h hs=>?_)
 obtain⟨x,hl,hs⟩:=cH (hs.front (bG G Cf m M))
 refine aB (aA (aC (b:=m) (o:=0) hs rfl (Jr (C:=Cf) (m:=M.dQ) hC hm hs fun q h hs=>?_)))
 have hs0:=hs.tail
 refine aN (b:=p2) (o:=0) hs (by decide) (l:=a.enc) rfl rfl (Uj (C:=Cf) (m:=M.dQ) (p:=q) hC hm hs fun h hs=>aG rfl (aG rfl (aX (aS (fun h1=>?_) (fun h1=>?_)))))
 ·rw[if_pos h1] at hk
  have hs:=bB (m:=m) (x:=x) M hl hs
  exact lR (Cf:=Cf) (M:=M) hi ho hlog hs fun h hs=>hk _ hs.to
 rw[if_neg h1] at hk
 generalize hcc:M.dQ.call Cf.aF a=rc at hk hs
 have loop:∀(f j:Nat) (h:AH) (b:Option Addr) (c:Nat),j+f=Cf.aF.toNat→Hs G h (sI b c ((List.range j).map fun i:Nat=>eT 13 i a.cB)::fC Cf q rc.1::aE m 0 (eU Cf x M.log.length)::fu x.ac x.cc x.lc::T0 x.ak x.ck x.lk::Tz x.aq x.cq x.lq::
   pQ pZ x.lc M.aH::pQ (pO G Cf) x.lk M.dK::pQ (nL Cf) x.lq M.cR::H.fN G x.hb Cf M.home::fC Cf x.mb M.dQ::sH Cf x.fb M.mI::zU x.al x.cl M.log::aE p2 0 a.enc::L')→
   Dd 153 2 [] Q [(pt m 0 0),(pt p2 0 0),(pt q 0 0),(.slice b j c),(I Cf.aF),(I j)] h:=by
  intro f
  induction f with
  |zero=>
   intro j h b c hj hs
   have hjj:j=Cf.aF.toNat:=by omega
   have hln:((List.range j).map fun i:Nat=>eT 13 i a.cB)=Li Cf.aF a.cB:=by rw[hjj];rfl
   rw[hln] at hs
   have hlen:(Li Cf.aF a.cB).length=j:=by rw[←hln];simp
   refine bW (aU (aI (by omega) (bW (aB (aA (aC (b:=m) (o:=0) hs rfl ?_))))))
   rw[←hlen]
   refine Cd (C:=Cf) (f:=x.fb) (F:=M.mI) (l:=Li Cf.aF a.cB) (a:=b) (c:=c) hC (hL.Ws hC) (by omega) hG.kin hG.lim hs fun h hs=>aX (aS (fun h2=>?_) (fun h2=>?_))
   ·dsimp only at hk
    rw[if_pos h2] at hk
    rw[Cb h2] at hs
    exact hk _ (bB (m:=m) (x:=x) M hl hs).to
   ·dsimp only at hk
    rw[if_neg h2] at hk
    refine bW (aB (aA (bE (b:=m) (o:=0) hs rfl rfl rfl rfl fun h hs=>hk _ ?_)))
    have e:dH (eU Cf x M.log.length) (0+11) [pt q 0 0]=eU Cf {x with mb:=q} M.log.length:=rfl
    rw[e] at hs
    exact(bB (m:=m) (x:={x with mb:=q}) ((M.dH (gM.send Cf M.mI (Li Cf.aF a.cB)).1).mG rc.1) hl hs).to
  |succ f ih=>
   intro j h b c hj hs
   refine bW (aU (bM (by omega) (bW (aA (aC (b:=p2) (o:=0) hs rfl (aK (c:=(eT 13 j a.cB).enc) rfl (aK (c:=(eT 13 j a.cB).enc) rfl (dP (W:=9) (n:=1) (c:=1) hs rfl rfl rfl fun a2 h hs=>?_))))))))
   have hs:=uF (enc:=aQ.enc) (x:=eT 13 j a.cB) hs
   have hln:((List.range j).map fun i:Nat=>eT 13 i a.cB).length=j:=by simp
   have ap:∀k:Value×AH→Prop,(∀a' c' h',Hs G h' (sI a' c' ((List.range j).map (fun i:Nat=>eT 13 i a.cB)++[eT 13 j a.cB])::sI (some a2) 1 [eT 13 j a.cB]::_)→k (.slice a' ((List.range j).map (fun i:Nat=>eT 13 i a.cB)++[eT 13 j a.cB]).length c',h'))→aZ (iO 9 72 175 h (.slice b ((List.range j).map fun i:Nat=>eT 13 i a.cB).length c) (.slice (some a2) [eT 13 j a.cB].length 1)) k:=fun k hk=>rX (enc:=aQ.enc) (e:=175) (l:=(List.range j).map fun i:Nat=>eT 13 i a.cB) (l2:=[eT 13 j a.cB]) (a:=b) (c:=c) (a2:=some a2) (c2:=1) hs (by simp;omega) hk
   rw[hln] at ap
   refine ap _ fun a' c' h hs=>bI (by omega) ?_
   rw[←Wy] at hs ⊢
   have:=ih (j+1) h a' c' (by omega) hs.to
   rw[show((List.range (j+1)).map fun i:Nat=>eT 13 i a.cB).length=j+1 by simp]
   exact this
 have hlc:x.lc.length=Cf.aF.toNat:=hl.1
 refine bW (aB (aA (aC (b:=m) (o:=0) hs rfl (bZ ?_))))
 have hs:Hs G h (sI none 0 ((List.range 0).map fun i:Nat=>eT 13 i a.cB)::_):=sL (enc:=aQ.enc) (e:=175) hs
 have e:(x.lc.length:Int)=Cf.aF:=by omega
 rw[e]
 exact loop Cf.aF.toNat 0 h none 0 (by omega) hs.to
end Go.Proofs.YtajjljbmfdboaaaGreatDoor
end
section
namespace Go.Proofs.YtajjljbmfdboaaaGreatDoor
open Go Go.Ab Go.Hm Go.At Go.Mc Go.Ct Go.Nt
theorem Ea {C:bQ} {S:Nat→List Th} {l at' ow:Int} {w:Bool} (h1:0≤l∧l<C.lines) (h2:0≤at'∧at'<2) (h3:mO C.bH.toNat S l ow w=true):pM C S l at' ow w=0:=by
 unfold pM vV
 rw[decide_eq_true h1,if_neg (by simp),if_neg (by omega),if_neg (by omega),if_neg (by rw[h3];simp)]
theorem sa {C:bQ} {s:iT} (hg:lZ C s) {l ow at':Int} {w:Bool} (h1:0≤l∧l<C.lines) (h2:0≤at'∧at'<2) (h3:mO C.bH.toNat s.S l ow w=true):mO C.bH.toNat (rT C s l at' ow).S l ow w=true:=by
 unfold rT
 rw[if_pos (Ea h1 h2 (Ty h3))]
 have hp:(bV C.bH.toNat s.S l).2=0:=by
  unfold mO at h3
  grind
 unfold mO at h3 ⊢
 rw[jw hg.bH hp]
 exact h3
set_option maxRecDepth 100000
variable {G:Bg} {h:AH} {L L':List HP} {Q:Value→AH→Prop} {Cf:bQ} {m:Nat} {M:cY}
theorem ky {i:Nat} {a:Acc} {p2:Nat} {line at' ow:Int} (hC:Cf.Ok) (hG:Gb G) (hi:(i:Int)<Cf.aF) (hb:lZ Cf (M.dK i)) (ho:(M.aH i).Ok) (hlog:M.log.length≤2^30) (h1:0≤line∧line<Cf.lines) (h2:0≤at'∧at'<2) (h3:mO Cf.bH.toNat (M.dK i).S line ow a.write=true)
  (hs:Hs G h (bG G Cf m M::aE p2 0 (qT a)::L)) (hk:∀h',Hs G h' (bG G Cf m (M.Np Cf i line at' ow a).1::L)→Q (I (M.Np Cf i line at' ow a).2) h'):Dd 154 6 [] Q [(pt m 0 0),(I i),(pt p2 0 0),(I line),(I at'),(I ow)] h:=by
 unfold cY.Np at hk
 have wr:∀(s:iT) (v:Int) (h:AH),lZ Cf s→mO Cf.bH.toNat s.S line ow a.write=true→Hs G h (bG G Cf m (M.sE i s)::aE p2 0 (qT a)::L)→
   (∀h',Hs G h' (bG G Cf m ((M.sE i (if a.write then lK Cf s line at' ow a.value else s)).cC i v 0).1::L)→Q (I ((M.sE i (if a.write then lK Cf s line at' ow a.value else s)).cC i v 0).2) h')→
   Dd 154 8 [] Q [(pt m 0 0),(I i),(pt p2 0 0),(I line),(I at'),(I ow),(I v)] h:=by
  intro s v h hb h3 hs hk
  refine bW (aA (aC (b:=p2) (o:=0) hs rfl (dA (fun hw=>?_) (fun hw=>?_))))
  ·rw[hw] at h3
   rw[if_pos hw] at hk
   obtain⟨x,hl,hs⟩:=cH hs
   have hik:i<x.lk.length:=by have:=hl.2.1;omega
   refine bW (aR hs fun rr h hs=>aB (aA (aC (b:=m) (o:=0) hs rfl (Jf hs hik (aA (aC (b:=p2) (o:=0) hs rfl ?_))))))
   have hs:=gV (R:=pO G Cf) (l:=x.lk) (s:=bT M.dK i s) hik hs
   rw[show bT M.dK i s i=s by unfold bT;rw[if_pos rfl]] at hs
   refine C.Zd (C:=Cf) (core:=(i:Int)) (c:=x.lk.getD i 0) (s:=s) hC hb (Ea h1 h2 h3) hG.lim hG.row hs fun h hs=>aX (aI (by omega) ?_)
   have hs:=yJ (Cf:=Cf) (l:=x.lk) (s:=bT M.dK i s) (i:=i) (t:=lK Cf s line at' ow a.value) hik hs
   rw[show bT (bT M.dK i s) i (lK Cf s line at' ow a.value)=bT M.dK i (lK Cf s line at' ow a.value) by funext j;unfold bT;split<;>rfl] at hs
   have hs:=bB (m:=m) (x:=x) (M.sE i (lK Cf s line at' ow a.value)) hl hs
   exact lR (Cf:=Cf) (M:=M.sE i (lK Cf s line at' ow a.value)) hi ho hlog hs fun h hs=>hk _ hs.to
  ·rw[if_neg (by rw[hw];simp)] at hk
   exact lR (Cf:=Cf) (M:=M.sE i s) hi ho hlog hs fun h hs=>hk _ hs.to
 refine bW (aA (aC (b:=p2) (o:=0) hs rfl (dA (fun hr=>?_) (fun hr=>?_))))
 ·rw[if_pos hr] at hk
  rw[if_pos hr] at hk
  obtain⟨x,hl,hs⟩:=cH hs
  have hik:i<x.lk.length:=by have:=hl.2.1;omega
  refine bW (aB (aA (aC (b:=m) (o:=0) hs rfl (Jf hs hik ?_))))
  have hs:=gV (R:=pO G Cf) (l:=x.lk) (s:=M.dK) hik hs
  refine C.n0 (C:=Cf) (core:=(i:Int)) (c:=x.lk.getD i 0) (s:=M.dK i) hC hb (Ea h1 h2 (Ty h3)) hG.lim hG.row hs fun h hs=>aG rfl (aG rfl (aX (aI (by omega) ?_)))
  have hs:=yJ (Cf:=Cf) (l:=x.lk) (s:=M.dK) (i:=i) (t:=rT Cf (M.dK i) line at' ow) hik hs
  have hs:=bB (m:=m) (x:=x) (M.sE i (rT Cf (M.dK i) line at' ow)) hl hs
  refine wr _ _ h (Lt hb) (sa hb h1 h2 h3) hs.to fun h' hs=>?_
  exact hk _ hs
 ·rw[if_neg (by rw[hr];simp)] at hk
  rw[if_neg (by rw[hr];simp)] at hk
  refine wr (M.dK i) 0 h hb h3 ?_ fun h' hs=>hk _ hs
  have e:M.sE i (M.dK i)=M:=by unfold cY.sE;rw[bJ]
  rw[e]
  exact hs.to
theorem Vi {i:Nat} {a:Acc} (hC:Cf.Ok) (hG:Gb G) (hi:(i:Int)<Cf.aF) (hb:lZ Cf (M.dK i)) (ho:(M.aH i).Ok) (hkn:(M.cR i).known.length≤100) (hL:la Cf M.mI) (hlog:M.log.length≤2^30) (hs:Hs G h L) [mm:Has (bG G Cf m) L M L'] (hk:∀h',Hs G h' (bG G Cf m (M.access Cf i a).1::L')→Q (I (M.access Cf i a).2) h'):Cl Pr K 154 [pt m 0 0,I i,.agg ⟨qT a⟩] h Q:=by
 unfold cY.access at hk
 have hbl:=(bQ.fJ hC).2.2
 refine cW (dJ (cs:=qT a) (mm.of hs) fun p2 h hs=>aR hs fun rr h hs=>?_)
 obtain⟨x,hl,hs⟩:=cH (hs.front (bG G Cf m M))
 have shut:∀{h:AH} {N:List HP},Hs G h (aE m 0 (eU Cf x M.log.length)::fu x.ac x.cc x.lc::T0 x.ak x.ck x.lk::Tz x.aq x.cq x.lq::
  pQ pZ x.lc M.aH::pQ (pO G Cf) x.lk M.dK::pQ (nL Cf) x.lq M.cR::H.fN G x.hb Cf M.home::fC Cf x.mb M.dQ::sH Cf x.fb M.mI::zU x.al x.cl M.log::N)→Hs G h (bG G Cf m M::N):=fun hs=>tY hl hs
 have hiq:i<x.lq.length:=by have:=hl.2.2;omega
 have hic:i<x.lc.length:=by have:=hl.1;omega
 refine aB (aA (hZ (b:=m) (o:=0) hs (by decide) (l:=Cf.enc) rfl rfl (aA (aC (b:=p2) (o:=0) hs rfl (Dq (C:=Cf) hC hG.lim hs fun h hs=>?_)))))
 by_cases hw:0≤a.word∧a.word<Cf.lines*2
 rotate_left
 ·rw[if_neg hw]
  rw[if_pos hw] at hk
  have hs:=bB (m:=m) (x:=x) M hl hs
  exact aG rfl (aG rfl (aG rfl (aX (bM (by omega) (lR (Cf:=Cf) (M:=M) hi ho hlog hs fun h hs=>hk _ hs.to)))))
 rw[if_pos hw]
 rw[if_neg (by simpa using hw)] at hk
 obtain⟨w,hwe⟩:=Int.eq_ofNat_of_zero_le hw.1
 have e1:((a.word.toNat/2:Nat):Int)=a.word/2:=by rw[hwe];simp
 have e2:((a.word.toNat % 2:Nat):Int)=a.word % 2:=by rw[hwe];simp
 rw[e1,e2]
 have hln:0≤a.word/2∧a.word/2<Cf.lines:=by omega
 refine aG rfl (aG rfl (aG rfl (aX (aI (by omega) (bW (aB (aA (hZ (b:=m) (o:=0) hs (by decide) (l:=Cf.enc) rfl rfl (Et (C:=Cf) hC hG.lim hs fun h hs=>?_)))))))))
 rw[if_pos (show Cf.has (a.word/2) from hln)]
 refine aG rfl (aG rfl (aX (aI (by omega) (bW (aR hs fun r2 h hs=>aB (aA (aC (b:=m) (o:=0) hs rfl (Hi hs hiq (aB (aA (aC (b:=m) (o:=0) hs rfl (Ji hs hic (Qy (l:=x.lc) (S:=M.aH) hic hs ?_)))))))))))))
 have hs:=gV (R:=nL Cf) (l:=x.lq) (s:=M.cR) hiq hs
 refine fi (C:=Cf) (p:=x.lq.getD i 0) (s:=M.cR i) hkn hs fun h hs=>?_
 have hs:=uV (Cf:=Cf) (l:=x.lq) (s:=M.cR) (i:=i) (t:=M.cR i) hiq hs
 rw[bJ] at hs
 have hs:=bB (m:=m) (x:=x) M hl hs
 dsimp only at hk
 refine aG rfl (aG rfl (aX (aS (fun h3=>?_) (fun h3=>?_))))
 ·rw[if_pos h3] at hk
  exact hk _ hs.to
 rw[if_neg h3] at hk
 refine bW (bC (aS (fun h4=>?_) (fun h4=>?_)))
 ·rw[if_pos h4] at hk
  exact me (Cf:=Cf) (M:=M) hC hG hi hkn hL hs fun h hs=>hk _ hs.to
 rw[if_neg h4] at hk
 refine bW (bC (aS (fun h5=>?_) (fun h5=>?_)))
 ·rw[if_pos h5] at hk
  exact lR (Cf:=Cf) (M:=M) hi ho hlog hs fun h hs=>hk _ hs.to
 rw[if_neg h5] at hk
 refine bW (a7 (Cf:=Cf) (M:=M) hi hkn hs fun h hs=>aR hs fun r3 h hs=>?_)
 obtain⟨x,hl,hs⟩:=cH (hs.front (bG G Cf m M))
 have hik:i<x.lk.length:=by have:=hl.2.1;omega
 refine aB (aA (aC (b:=m) (o:=0) hs rfl (Jf hs hik (aA (aC (b:=p2) (o:=0) hs rfl ?_)))))
 have hs:=gV (R:=pO G Cf) (l:=x.lk) (s:=M.dK) hik hs
 refine C.N4 (C:=Cf) (core:=(i:Int)) (c:=x.lk.getD i 0) (s:=M.dK i) hC (hb.bd (kD hC).2.2.2) hG.row hs fun h hs=>?_
 have hs:=yJ (Cf:=Cf) (l:=x.lk) (s:=M.dK) (i:=i) (t:=M.dK i) hik hs
 rw[bJ] at hs
 have hs:=bB (m:=m) (x:=x) M hl hs
 cases hmy:mO Cf.bH.toNat (M.dK i).S (a.word/2) (M.known i (a.word/2/2)) a.write with
 |false=>
  rw[if_pos hmy] at hk
  exact bU (dI (bS (aA (aC (b:=p2) (o:=0) hs rfl (jo (Cf:=Cf) (M:=M) hC hG hi hb hL hs fun h hs=>hk _ hs.to)))))
 |true=>
  rw[if_neg (by rw[hmy];simp)] at hk
  exact bU (dI (dY (ky (L:=L') (Cf:=Cf) (M:=M) hC hG hi hb ho hlog hln (by omega) hmy hs.to fun h hs=>hk _ hs.to)))
end Go.Proofs.YtajjljbmfdboaaaGreatDoor
end
section
namespace Go.Proofs.YtajjljbmfdboaaaGreatDoor
open Go Go.Ab Go.Hm Go.At Go.Mc Go.Ct Go.Nt
set_option maxRecDepth 100000
variable {G:Bg} {h:AH} {L L':List HP} {Q:Value→AH→Prop} {Cf:bQ} {m:Nat} {M:cY}
theorem w5 {l:List Nat} {S:Nat→aY} {i:Nat} {k:Value→Prop} (hi:i<l.length) (hs:Hs G h L) [mm:Has (pQ pZ l) L S L'] (hk:k (.bool (S i).over)):aZ (lF (pt (l.getD i 0) 0 0)) fun v=>aZ (gI 0 v) fun v=>aZ (gI 6 v) fun v=>aZ (oM h v) k:=by
 have hs:=gV (R:=pZ) (l:=l) (s:=S) hi hs
 obtain⟨a,c,hs⟩:=lH hs
 exact aB (aA (aA (aC (b:=l.getD i 0) (o:=0) hs rfl hk)))
theorem iq {d:Do} (hC:Cf.Ok) (hG:Gb G) (hok:∀i:Nat,(i:Int)<Cf.aF→ma Cf M i) (hs:Hs G h L) [mm:Has (bG G Cf m) L M L'] (hk:∀h',Hs G h' (bG G Cf m (M.step Cf d.a).1::L')→Q (I (M.step Cf d.a).2) h'):Cl Pr K 110 [pt m 0 0,.agg ⟨d.enc⟩] h Q:=by
 unfold cY.step at hk
 have hc:=hC.1
 refine cW (dJ (cs:=d.enc) (mm.of hs) fun p2 h hs=>aR hs fun rr h hs=>?_)
 obtain⟨x,hs⟩:=m5 (hs.front (bG G Cf m M))
 obtain⟨hl,hs⟩:=uC hs
 refine aA (aC (b:=p2) (o:=0) hs rfl (aU (aS (fun h1=>?_) (fun h1=>?_))))
 ·rw[if_pos (by omega)] at hk
  exact hk _ (bB (m:=m) (x:=x) M hl hs).to
 have hlc:=hl.1
 refine aA (aC (b:=p2) (o:=0) hs rfl (aB (aA (aC (b:=m) (o:=0) hs rfl (bZ (dM (aS (fun h2=>?_) (fun h2=>?_))))))))
 ·rw[if_pos (by omega)] at hk
  exact hk _ (bB (m:=m) (x:=x) M hl hs).to
 rw[if_neg (by omega)] at hk
 obtain⟨w,a,b,c⟩:=d
 dsimp only at h1 h2 hk
 obtain⟨i,rfl⟩:=Int.eq_ofNat_of_zero_le (show 0≤a by omega)
 rw[Int.toNat_natCast] at hk
 have hic:i<x.lc.length:=by omega
 have hi:(i:Int)<Cf.aF:=by omega
 have ho:=hok i hi
 refine bW (aR hs fun r2 h hs=>aB (aA (aC (b:=m) (o:=0) hs rfl (aA (aC (b:=p2) (o:=0) hs rfl (Ji hs hic (w5 (l:=x.lc) (S:=M.aH) hic hs (dA (fun h3=>?_) (fun h3=>?_)))))))))
 ·rw[if_pos h3] at hk
  exact hk _ (bB (m:=m) (x:=x) M hl hs).to
 rw[if_neg (by rw[h3];simp)] at hk
 have hs:=Ao (m:=m) (x:=x) M hl hs
 refine bW (aA (aC (b:=p2) (o:=0) hs rfl (Mh (x:=x) (M:=M) ho.dQ hs fun h hs=>dA (fun h4=>?_) (fun h4=>?_))))
 ·rw[if_pos h4] at hk
  exact hk _ (pn hs).to
 rw[if_neg (by rw[h4];simp)] at hk
 obtain⟨hl,hs⟩:=uC (hs.front (tM G Cf m x M))
 have hs:=gV (R:=pZ) (l:=x.lc) (s:=M.aH) hic hs
 refine bW (S4 (i:=i) (p:=x.lc.getD i 0) (s:=M.aH i) ho.yZ hs fun h hs=>?_)
 cases hlo:aY.mU (M.aH i) i with
 |some r=>
  rw[hlo] at hs hk
  dsimp only at hs hk
  have hs:=B6 (l:=x.lc) (s:=M.aH) (i:=i) (t:=r.1) hic hs
  refine aG rfl (aG rfl (bK hs fun q h hs=>bA (b:=q) hs rfl rfl rfl rfl fun h hs=>dY (bW (aR hs fun r3 h hs=>aB (aA (aC (b:=m) (o:=0) hs rfl (aN (b:=q) (o:=0) hs (by decide) (l:=r.2.enc) rfl rfl (aK (c:=r.2.enc) rfl ?_))))))))
  refine iJ (r:=r3) (i:=6) (N:=11) (D:=[]) (W:=7) hs rfl rfl rfl rfl rfl fun a h hs=>?_
  have hs:=uF (enc:=Ev.enc) (x:=r.2) hs
  refine Nu (l:=M.log) (v:=r.2) ho.log hs fun a' c' h hs=>aB (aA (bE (b:=m) (o:=0) hs rfl rfl rfl rfl fun h hs=>cJ cZ (hk _ ?_)))
  have e:dH (eU Cf x M.log.length) (0+13) [.slice a' (M.log++[r.2]).length c']=eU Cf {x with al:=a',cl:=c'} (M.log++[r.2]).length:=rfl
  rw[e] at hs
  exact(bB (m:=m) (x:={x with al:=a',cl:=c'}) ((M.vT i r.1).Sc r.2) hl hs).to
 |none=>
  rw[hlo] at hs hk
  dsimp only at hs hk
  refine aG rfl (aG rfl (bK hs fun q h hs=>bA (b:=q) hs rfl rfl rfl rfl fun h hs=>bS (bW (zf (i:=i) (p:=x.lc.getD i 0) (s:=M.aH i) ho.yZ hs fun h hs=>?_))))
  cases has:aY.Vg (M.aH i) i with
  |some r=>
   rw[has] at hk
   dsimp only at hk
   have hs:=B6 (l:=x.lc) (s:=M.aH) (i:=i) (t:=M.aH i) hic hs
   rw[bJ] at hs
   have hs:=bB (m:=m) (x:=x) M hl hs
   exact aG rfl (aG rfl (bK hs fun q2 h hs=>bA (b:=q2) hs rfl rfl rfl rfl fun h hs=>dY (aA (aC (b:=p2) (o:=0) hs rfl (aN (b:=q2) (o:=0) hs (by decide) (l:=r.enc) rfl rfl (jc (Cf:=Cf) (M:=M) hC hG hi ho.dQ ho.yZ ho.log ho.mI hs fun h hs=>hk _ hs.to))))))
  |none=>
   rw[has] at hk
   dsimp only at hk
   refine aG rfl (aG rfl (bK hs fun q2 h hs=>bA (b:=q2) hs rfl rfl rfl rfl fun h hs=>bS (bW (Ml (i:=i) (p:=x.lc.getD i 0) (s:=M.aH i) ho.yZ hs fun h hs=>?_))))
   have hs:=B6 (l:=x.lc) (s:=M.aH) (i:=i) (t:=M.aH i) hic hs
   rw[bJ] at hs
   have hs:=bB (m:=m) (x:=x) M hl hs
   cases hac:aY.Gi (M.aH i) with
   |some r=>
    rw[hac] at hk
    dsimp only at hk
    exact aG rfl (aG rfl (bK hs fun q3 h hs=>bA (b:=q3) hs rfl rfl rfl rfl fun h hs=>bU (dI (dY (aA (aC (b:=p2) (o:=0) hs rfl (aN (b:=q3) (o:=0) hs (by decide) (l:=qT r) rfl rfl (Vi (Cf:=Cf) (M:=M) hC hG hi ho.Xa ho.yZ ho.wW ho.mI ho.log hs fun h hs=>hk _ hs.to))))))))
   |none=>
    rw[hac] at hk
    dsimp only at hk
    exact aG rfl (aG rfl (bK hs fun q3 h hs=>bA (b:=q3) hs rfl rfl rfl rfl fun h hs=>bU (dI (bS (hk _ hs.to)))))
end Go.Proofs.YtajjljbmfdboaaaGreatDoor
end
section
namespace Go.Proofs.YtajjljbmfdboaaaGreatDoor.H
open Go Go.Ab Go.Hm
set_option maxRecDepth 100000
variable {G:Bg} {h:AH} {L L':List HP}
end Go.Proofs.YtajjljbmfdboaaaGreatDoor.H
end
section
namespace Go.Proofs.YtajjljbmfdboaaaGreatDoor.H
open Go Go.Ab Go.Hm
set_option maxRecDepth 100000
variable {G:Bg} {h:AH} {L L':List HP}
theorem pj (n:Nat):(fun i=>(rF n i).2)=mY:=by funext i;unfold rF mY;split<;>rfl
theorem H7 {C:bQ} (hC:C.Ok) {hb:Nat} {Q:Value→AH→Prop} (hk:∀h',Hs G h' (fN G hb C (rF C.lines)::L)→Q (.tuple ⟨[pt hb 0 0,I 0]⟩) h'):∀(f n:Nat) (h:AH),n+f=C.lines→Hs G h (fN G hb C (rF n)::L)→Dd 85 3 [] Q [(pt hb 0 0),(I C.lines),(I n)] h:=by
 have hln:=bQ.fJ hC
 intro f
 induction f with
 |zero=>
  intro n h hn hs
  have:n=C.lines:=by omega
  subst this
  exact bW (aU (aI (by omega) (hk _ hs)))
 |succ f ih=>
  intro n h hn hs
  have hl:n<C.lines:=by omega
  refine bW (aU (bM (by omega) (bW ?_)))
  obtain⟨mb,b,o,cap,hs⟩:=Db hl hs
  obtain⟨wa,wc,hs⟩:=dS hs
  refine aB (aA (aC hs rfl (dU hl (aA (bE hs rfl rfl rfl rfl ?_)))))
  intro h hs
  refine bI (by omega) (ih (n+1) h (by omega) ?_)
  have e1:(rF n n).1={Bv with owner:=0}:=by unfold rF;rw[if_neg (by omega)]
  have e2:(rF n n).2=(0,0):=by unfold rF;rw[if_neg (by omega)]
  rw[e1] at hs
  have hs:=dZ b (o+n*25) Bv wa wc hs rfl rfl rfl
  have hs:=eI hb C (rF n) n Bv (0,0) (fun i=>(rF n i).2) mb b o cap hl (by rw[←e2];exact eO.symm) hs
  rw[de] at hs
  exact hs
theorem V3 {C:bQ} (hC:C.Ok) {Q:Value→AH→Prop} (hlim:Ob G 0 fB) (hs:Hs G h L) (hk:∀hb h',Hs G h' (fN G hb C (rF C.lines)::L)→Q (.tuple ⟨[pt hb 0 0,I 0]⟩) h'):Cl Pr K 85 [.agg ⟨C.enc⟩] h Q:=by
 have hln:=bQ.fJ hC
 refine cW (dJ hs ?_)
 intro p h hs
 refine aN hs (by decide) (l:=C.enc) rfl rfl (lC hlim hs fun h hs=>?_)
 rw[if_pos hC]
 refine aX (aI (by omega) (bW (aN hs (by decide) (l:=C.enc) rfl rfl (M1 hC hlim hs fun mb h hs=>?_))))
 refine aG rfl (aG rfl (aX (aI (by omega) (bW (aR hs ?_)))))
 intro rv h hs
 refine aN hs (by decide) (l:=C.enc) rfl rfl (aN hs (by decide) (l:=C.enc) rfl rfl (oX hC hlim hs fun h hs=>xw (by omega) (by omega) ?_))
 dsimp only
 refine iJ hs rfl rfl ?_ rfl ?_ ?_
 ·rw[fP,oP (W:=25) (fun _=>rfl)]
 ·rw[fP];exact nZ (fun _=>rfl) _
 intro a h hs
 obtain⟨b,o,ha,hs⟩:=Hs.Im (W:=25) rfl (by omega) hs
 cases ha
 refine aK (c:=kL mb C b o C.lines) rfl (xP hs rfl rfl ?_)
 intro hb h hs
 refine cJ cZ (cJ (aN hs (by decide) (l:=C.enc) rfl rfl (oJ (by simp[mB,bQ.enc]))) (aB (aA (aC hs rfl (bZ ?_)))))
 refine H7 hC (hk hb) C.lines 0 h (by omega) ?_
 have hs:=(hs.front (dC C.lines fun i=>aE b (o+i*25) [I 0,.bool false,.bool false,.bool false,.bool false,.slice none 0 0,.bool false,I 0,I 0,I 0,I 0,I 0,I 0,I 0,.bool false,I 0,I 0,.bool false,.bool false,.bool false,.bool false,.bool false,.bool false,I 0,I 0]))
 have hs:=Hs.Hy (g:=fun i=>eH b (o+i*25) (rF 0 i).1) C.lines _ (fun i hi h L hs=>iR {Bv with owner:=0} (a:=none) (c:=0) (fY hs).kI) hs
 rw[←pj 0] at hs
 exact(yX C (rF 0) hb mb b o C.lines hs).to
end Go.Proofs.YtajjljbmfdboaaaGreatDoor.H
end
section
namespace Go.Proofs.YtajjljbmfdboaaaGreatDoor.H
open Go Go.Ab Go.Hm
set_option maxRecDepth 100000
variable {G:Bg} {h:AH} {L L':List HP} {Q:Value→AH→Prop}
def P7 (H:jO) (i:Nat) (x:Option Addr×Nat):List Value:=(H i).1.enc x.1 x.2
def Se (H:jO) (i:Nat) (x:Option Addr×Nat):HP:=sI x.1 x.2 (H i).1.waits
theorem u7 {b o n:Nat} {H:jO} (hs:Hs G h (dC n (fun i=>eH b (o+i*25) (H i).1)::L)):Hs G h (dC n (fun i=>sS fun x=>sp [aE b (o+i*25) (P7 H i x),Se H i x])::L):=
 Hs.Hy n L (fun i _ h L hs=>by
  obtain⟨a,c,hs⟩:=dS hs
  exact Hs.wM (A:=fun x:Option Addr×Nat=>sp [aE b (o+i*25) (P7 H i x),Se H i x]) (a,c) hs.Ex) hs
theorem tn {b o n:Nat} {H:jO} (hs:Hs G h (dC n (fun i=>sS fun x=>sp [aE b (o+i*25) (P7 H i x),Se H i x])::L)):Hs G h (dC n (fun i=>eH b (o+i*25) (H i).1)::L):=
 Hs.Hy n L (fun i _ h L hs=>by
  obtain⟨⟨a,c⟩,hs⟩:=hs.Be
  exact iR (H i).1 (a:=a) (c:=c) hs.D2) hs
theorem Zy {n c:Nat} {a:Option Addr} {cs:List Value} (hn:n≤100) (hs:Hs G h L) [m:Has (dB 25 247 a c) L (n,cs) L'] (hk:∀a' c' h',Hs G h' (dB 25 247 a' c' (n,cs)::dB 25 247 a c (n,cs)::L')→Q (.slice a' n c') h'):Cl Pr K 138 [.slice a n c] h Q:=
 cW (yL (bytes:=152) hs (by omega) hk)
theorem Uz {B p b o cap mb:Nat} {C:bQ} {H:jO} {f:Nat→Option Addr×Nat} (hB:B≤32) (hBC:C.lines=B) (hp:∀i,i<B→(H i).1.waits.length≤2^30)
  (hk:∀h',Hs G h' (aE p 0 (kL mb C b o cap)::dC B (fun i=>eH b (o+i*25) (H i).1)::dC B (fun i=>Se H i (f i))::L)→Q (pt p 0 0) h'):
  ∀(r i:Nat) (h:AH),i+r=B→Hs G h (aE p 0 (kL mb C b o cap)::dC B (fun j=>if j<i then eH b (o+j*25) (H j).1 else aE b (o+j*25) (P7 H j (f j)))::dC B (fun i=>Se H i (f i))::L)→
  Dd 76 2 [] Q [(pt p 0 0),(I B),(I i)] h:=by
 intro r
 induction r with
 |zero=>
  intro i h hi hs
  obtain rfl:i=B:=by omega
  refine bW (aU (aI (by omega) (hk _ ?_)))
  have hs:=hs.front (dC i fun j=>if j<i then eH b (o+j*25) (H j).1 else aE b (o+j*25) (P7 H j (f j)))
  have hs:=qB (g:=fun j=>eH b (o+j*25) (H j).1) (fun j hj=>by rw[if_pos hj]) hs
  exact hs.cU (aE p 0 (kL mb C b o cap)) (dC i fun j=>eH b (o+j*25) (H j).1) (dC i fun j=>Se H j (f j))
 |succ r ih=>
  intro i h hi hs
  have hib:i<B:=by omega
  have hic:i<C.lines:=by omega
  have hpi:=hp i hib
  refine bW (aU (bM (by omega) (bW (aR hs fun rv h hs=>?_))))
  have hs:=(hs.front (dC B fun j=>if j<i then eH b (o+j*25) (H j).1 else aE b (o+j*25) (P7 H j (f j)))).kR i hib
  simp only[Nat.lt_irrefl,if_false] at hs
  have hs:=(hs.front (dC B fun j=>Se H j (f j))).kR i hib
  refine aB (aA (aC (b:=p) (o:=0) hs rfl (aB (aA (aC (b:=p) (o:=0) hs rfl (dU hic (aA (aC (b:=b) (o:=o+i*25) hs rfl ?_))))))))
  have hs:Hs G h (sI (f i).1 (f i).2 (H i).1.waits::_):=hs
  refine B8 (l:=(H i).1.waits) (a:=(f i).1) (c:=(f i).2) (by omega) hs fun a' c' h hs=>?_
  refine dU hic (aA (bE (b:=b) (o:=o+i*25) hs rfl rfl rfl rfl fun h2 hs2=>?_))
  refine cJ cZ (cJ (aB cZ) (cJ (aA cZ) (cJ (aC (b:=p) (o:=0) hs rfl Tj) (cJ gW (bI (by omega) ?_)))))
  refine ih (i+1) h2 (by omega) ?_
  have hs2:=hs2.sg (b:=b) (o:=o+i*25) (c:=(H i).1.enc a' c') rfl
  have hs3:=iR (b:=b) (o:=o+i*25) (H i).1 (a:=a') (c:=c') (hs2.cN (aE b (o+i*25) ((H i).1.enc a' c')) (sI a' c' (H i).1.waits))
  have e0:eH b (o+i*25) (H i).1=(fun j=>if j<i+1 then eH b (o+j*25) (H j).1 else aE b (o+j*25) (P7 H j (f j))) i:=by simp only[Nat.lt_succ_self,if_true]
  rw[e0] at hs3
  have hs3:=hs3.nG (n:=B) (i:=i) (fun j=>if j<i then eH b (o+j*25) (H j).1 else aE b (o+j*25) (P7 H j (f j))) (fun j=>if j<i+1 then eH b (o+j*25) (H j).1 else aE b (o+j*25) (P7 H j (f j))) hib (fun j _ hne=>by
   have:(j<i+1)=(j<i):=propext ⟨fun h=>by omega,fun h=>by omega⟩
   simp only[this])
  have e1:sI (f i).1 (f i).2 (H i).1.waits=(fun j=>Se H j (f j)) i:=rfl
  rw[e1] at hs3
  have hs3:=hs3.nG (n:=B) (i:=i) (fun j=>Se H j (f j)) (fun j=>Se H j (f j)) hib (fun _ _ _=>rfl)
  exact hs3.to
theorem Hn {C:bQ} {H:jO} (hC:C.Ok) {hb:Nat} (hi:vB C H (2^30)) (hs:Hs G h L) [mm:Has (fN G hb C) L H L'] (hk:∀p2 h',Hs G h' (fN G p2 C H::fN G hb C H::L')→Q (pt p2 0 0) h'):Cl Pr K 76 [pt hb 0 0] h Q:=by
 have hl:=(bQ.fJ hC)
 have h0:0<C.lines:=by omega
 obtain⟨mb,b,o,cap,hs⟩:=oQ (mm.of hs)
 refine cW (cS (bS (bW (aR hs fun rv h hs=>?_))))
 have hs:=u7 (hs.front (dC C.lines fun i=>eH b (o+i*25) (H i).1))
 have hs0:Hs G h (dC C.lines (fun i=>sS fun x=>sp [aE b (o+i*25) (P7 H i x),Se H i x])::hole G 25 247 (some ⟨b,o,none⟩) cap C.lines b o::_):=hs.cN (dC C.lines fun i=>sS fun x=>sp [aE b (o+i*25) (P7 H i x),Se H i x]) (hole G 25 247 (some ⟨b,o,none⟩) cap C.lines b o)
 obtain⟨f,hs⟩:=Hs.X3 (W:=25) (c:=P7 H) (d:=Se H) (none,0) (fun _ _=>rfl) (fun _ _=>rfl) (by decide) h0 hs0
 clear hs0
 refine aB (aA (aC (b:=hb) (o:=0) hs rfl (A.Ud hC hs fun mb2 h5 hs5=>?_)))
 refine aB (aA (hZ (b:=hb) (o:=0) hs5 (by decide) (l:=C.enc) rfl rfl (aB (aA (aC (b:=hb) (o:=0) hs5 rfl ?_)))))
 refine Zy (by omega) hs5 fun a' c' h12 hs12=>?_
 obtain⟨b2,o2,rfl,hs12⟩:=Hs.Vt (W:=25) (c:=fun i=>P7 H i (f i)) (fun _=>rfl) h0 (hs12.front (dB 25 247 a' c' (C.lines,(List.range C.lines).flatMap fun i=>P7 H i (f i))))
 refine aK (c:=kL mb2 C b2 o2 c') rfl (xP (i:=15) (n:=17) (D:=[]) hs12 rfl rfl fun p h14 hs14=>?_)
 have hve:mB (.agg ⟨C.enc⟩) (.agg ⟨C.enc⟩)=true:=oJ (by simp[bQ.enc,gW])
 refine cJ cZ (cJ cZ (cJ (aB cZ) (cJ (aB cZ) (cJ (aA cZ) (cJ (aA cZ) ?_)))))
 refine cJ (hZ (b:=hb) (o:=0) hs (by decide) (l:=C.enc) rfl rfl hve) (cJ (hZ (b:=hb) (o:=0) hs14 (by decide) (l:=C.enc) rfl rfl hve) ?_)
 refine cJ cZ (cJ (aB cZ) (cJ (aA cZ) (cJ (aC (b:=hb) (o:=0) hs rfl Tj) ?_)))
 clear hs hs5 hs12
 refine aB (aA (aC (b:=p) (o:=0) hs14 rfl (bZ ?_)))
 have hs:=hs14.cU (aE p 0 (kL mb2 C b2 o2 c')) (dC C.lines fun i=>aE b2 (o2+i*25) (P7 H i (f i))) (dC C.lines fun i=>Se H i (f i))
 refine Uz (B:=C.lines) (C:=C) (b:=b2) (o:=o2) (cap:=c') (mb:=mb2) (H:=H) (f:=f) (by omega) rfl (fun i hi2=>(hi i hi2).2) ?_ C.lines 0 h14 (by omega) (by simpa using hs)
 intro h hs
 refine hk p _ ?_
 have hs:=qF (hs.kV (aE p 0 (kL mb2 C b2 o2 c')) (eV G C.lines mb2 C fun i=>(H i).2) (hole G 25 247 (some ⟨b2,o2,none⟩) c' C.lines b2 o2) (dC C.lines fun i=>eH b2 (o2+i*25) (H i).1))
 have hs:=hs.cN (dB 25 247 (some ⟨b,o,none⟩) cap (C.lines,(List.range C.lines).flatMap fun i=>P7 H i (f i))) (dC C.lines fun i=>Se H i (f i))
 have hs:Hs G h (dC C.lines (fun i=>sS fun x=>sp [aE b (o+i*25) (P7 H i x),Se H i x])::hole G 25 247 (some ⟨b,o,none⟩) cap C.lines b o::_):=Hs.mj (W:=25) (c:=P7 H) (d:=Se H) f (fun _ _=>rfl) h0 hs
 have hs:=tn hs
 have hs:=qF (hs.kV (aE hb 0 (kL mb C b o cap)) (eV G C.lines mb C fun i=>(H i).2) (hole G 25 247 (some ⟨b,o,none⟩) cap C.lines b o) (dC C.lines fun i=>eH b (o+i*25) (H i).1))
 exact hs.to
end Go.Proofs.YtajjljbmfdboaaaGreatDoor.H
end
section
namespace Go.Proofs.YtajjljbmfdboaaaGreatDoor.H
open Go Go.Ab Go.Hm Go.Mc
set_option maxRecDepth 100000
variable {G:Bg} {h:AH} {L L':List HP} {Q:Value→AH→Prop}
theorem aB1 {α:Type} {l:List α} {i:Nat} (h:i<l.length):∃x,l[i]?=some x∧l.drop i=x::l.drop (i+1):=⟨l[i],by simp,List.drop_eq_getElem_cons h⟩
def Kk (l:List aQ):Int:=((l.filter fun n=>decide (n.kind=0)).length:Int)
theorem pf {l:List aQ} {i:Nat} {n:aQ} (h:l[i]?=some n):Kk (l.take (i+1))=Kk (l.take i)+if n.kind=0 then 1 else 0:=by
 unfold Kk
 rw[List.take_add_one,h]
 simp only[Option.toList_some,List.filter_append,List.filter_cons,List.filter_nil]
 split<;>simp_all
theorem xU {a:Option Addr} {c:Nat} {l:List aQ} {k:Int} (hb:l.length≤2^30) (hk2:0≤k∧k≤1) (hk:∀h',Hs G h' (sI a c l::L)→Q (I (k+Kk l)) h'):
  ∀(f i:Nat) (h:AH),i+f=l.length→Hs G h (sI a c l::L)→Dd 121 4 [] Q [(I (k+Kk (l.take i))),(.slice a l.length c),(I l.length),(I i)] h:=by
 intro f
 induction f with
 |zero=>
  intro i h hi hs
  rw[List.take_of_length_le (by omega)]
  exact bW (aU (aI (by omega) (hk _ hs)))
 |succ f ih=>
  intro i h hi hs
  obtain⟨n,hn,hd⟩:=aB1 (l:=l) (i:=i) (by omega)
  have hb2:Kk (l.take i)≤2^30∧0≤Kk (l.take i):=by
   unfold Kk
   have:=List.length_filter_le (fun n:aQ=>decide (n.kind=0)) (l.take i)
   have:=List.length_take_le i l
   omega
  have hc:=pf hn
  refine bW (aU (bM (by omega) (bW (tE (l:=l) (a:=a) (c:=c) (enc:=aQ.enc) (e:=175) hs (by decide) (by omega) (by rw[Int.toNat_natCast];exact hn) (bK hs fun p3 h hs=>bA (b:=p3) hs rfl rfl rfl rfl fun h hs=>aA (aC (b:=p3) (o:=0) hs rfl (bC (aS (fun h1=>?_) (fun h1=>?_)))))))))
  ·rw[if_pos h1] at hc
   refine bW (bI (by omega) (bI (by omega) ?_))
   have:=ih (i+1) h (by omega) hs.to
   rw[hc] at this
   rw[show k+Kk (l.take i)+1=k+(Kk (l.take i)+1) by omega]
   exact this
  ·rw[if_neg h1] at hc
   refine bW (bI (by omega) ?_)
   have:=ih (i+1) h (by omega) hs.to
   rw[hc,Int.add_zero] at this
   exact this
theorem Pv {C:bQ} {H:jO} {hb:Nat} {x:Int} (hi:vB C H (2^30)) (hs:Hs G h L) [mm:Has (fN G hb C) L H L'] (hk:∀h',Hs G h' (fN G hb C H::L')→Q (I (fG C H x)) h'):Cl Pr K 121 [pt hb 0 0,I x] h Q:=by
 have hs:=mm.of hs
 unfold fG at hk
 by_cases hx:C.has x
 rotate_left
 ·rw[if_neg hx] at hk
  obtain⟨mb,b,o,cap,hs⟩:=oQ hs
  refine cW (vC hs (bU (dI (aI hx (hk _ (yX C H hb mb b o cap hs).to)))))
 rw[if_pos hx] at hk
 obtain⟨l,rfl⟩:=Int.eq_ofNat_of_zero_le hx.1
 have hl:l<C.lines:=by have:=hx.2;omega
 rw[Int.toNat_natCast] at hk
 obtain⟨mb,b,o,cap,hs⟩:=Db hl hs
 obtain⟨a,c,hs⟩:=dS hs
 have hwl:=(hi l hl).2
 have hs:Hs G h (aE b (o+l*25) ((H l).1.enc a c)::sI a c (H l).1.waits::aE hb 0 (kL mb C b o cap)::eV G C.lines mb C (fun i=>(H i).2)::hole G 25 247 (some ⟨b,o,none⟩) cap C.lines b o::wI b o C.lines H l::L'):=hs
 have shut:∀{h:AH},Hs G h (sI a c (H l).1.waits::aE b (o+l*25) ((H l).1.enc a c)::aE hb 0 (kL mb C b o cap)::eV G C.lines mb C (fun i=>(H i).2)::hole G 25 247 (some ⟨b,o,none⟩) cap C.lines b o::wI b o C.lines H l::L')→Hs G h (fN G hb C H::L'):=by
  intro h hs
  have hs:=iR (H l).1 (a:=a) (c:=c) hs.kI
  have hs:=eI hb C H l (H l).1 (H l).2 _ mb b o cap hl eO.symm hs
  have e:bT H l ((H l).1,(H l).2)=H:=by funext j;unfold bT;split<;>simp_all
  rw[e] at hs
  exact hs
 refine cW (vC hs (bU (dI (bM hx (bW (aB (aA (aC (b:=hb) (o:=0) hs rfl (dU hl (aB (aA (aC (b:=b) (o:=o+l*25) hs rfl (dA (fun h1=>?_) (fun h1=>?_))))))))))))))
 ·refine aB (aA (aA (aC (b:=b) (o:=o+l*25) hs rfl (bC (aS (fun h2=>?_) (fun h2=>?_))))))
  ·refine bW (bI (by omega) (aB (aA (aC (b:=b) (o:=o+l*25) hs rfl (bZ ?_)))))
   refine xU (a:=a) (c:=c) (l:=(H l).1.waits) (k:=1) hwl (by omega) (fun h hs=>?_) (H l).1.waits.length 0 h (by omega) hs.kI
   have:=hk h (shut hs)
   unfold Row.O8 at this
   rw[if_pos ⟨h1,h2⟩] at this
   exact this
  ·refine bW (aB (aA (aC (b:=b) (o:=o+l*25) hs rfl (bZ ?_))))
   refine xU (a:=a) (c:=c) (l:=(H l).1.waits) (k:=0) hwl (by omega) (fun h hs=>?_) (H l).1.waits.length 0 h (by omega) hs.kI
   have:=hk h (shut hs)
   unfold Row.O8 at this
   rw[if_neg (fun hh=>h2 hh.2)] at this
   exact this
 ·refine aB (aA (aC (b:=b) (o:=o+l*25) hs rfl (bZ ?_)))
  refine xU (a:=a) (c:=c) (l:=(H l).1.waits) (k:=0) hwl (by omega) (fun h hs=>?_) (H l).1.waits.length 0 h (by omega) hs.kI
  have:=hk h (shut hs)
  unfold Row.O8 at this
  rw[if_neg (fun hh=>by rw[h1] at hh;cases hh.1)] at this
  exact this
end Go.Proofs.YtajjljbmfdboaaaGreatDoor.H
end
section
namespace Go.Proofs.YtajjljbmfdboaaaGreatDoor
open Go Go.Ab Go.Hm Go.At Go.Mc Go.Ct Go.Nt
def oE (C:bQ) (H:jO) (l:List Nat):jO:=l.foldl (fun H (l:Nat)=>(jZ C H l).1) H
theorem Ul {C:bQ} {H:jO} {l:List Nat} {k:Nat}:oE C H (l++[k])=(jZ C (oE C H l) k).1:=by unfold oE;rw[List.foldl_append];rfl
theorem W3 {C:bQ} {H:jO} {N:Nat} {l:Int} (h:vB C H N):vB C (jZ C H l).1 (N+1):=by
 intro k hk
 obtain⟨h1,h2⟩:=h k hk
 unfold jZ
 split
 ·rename_i hl
  unfold bT
  dsimp only
  split
  ·rename_i e
   subst e
   refine⟨⟨h1.core,h1.owner,?_⟩,?_⟩
   ·intro n hn
    rcases List.mem_append.1 hn with hn|hn
    ·exact h1.waits n hn
    ·rw[List.mem_singleton.1 hn];show(0:Int)≤0∧(0:Int)<4;omega
   ·show((H l.toNat).1.waits++[Ar l]).length≤N+1
    rw[List.length_append,List.length_singleton];omega
  ·exact⟨h1,by omega⟩
 ·exact⟨h1,Nat.le_succ_of_le h2⟩
theorem Sy {C:bQ} {N:Nat}:∀{l:List Nat} {H:jO},vB C H N→vB C (oE C H l) (N+l.length):=by
 intro l
 induction l generalizing N with
 |nil=>intro H h;exact h
 |cons k l ih=>
  intro H h
  have:=ih (W3 (l:=k) h)
  rw[List.length_cons,show N+(l.length+1)=N+1+l.length by omega]
  exact this
set_option maxRecDepth 100000
variable {G:Bg} {h:AH} {L L':List HP} {Q:Value→AH→Prop} {Cf:bQ} {m:Nat} {M:cY}
abbrev swX (G:Bg) (Cf:bQ) (m p2:Nat) (M:cY) (e:Nat→Value) (d l:Nat) (done:List Nat):HP:=sp [nE Pr 212 (nB 14) 18 e d l (.ready,none),aE p2 0 [pt m 0 0],bG G Cf m (M.qJ (oE Cf M.home done))]
theorem Zb {g:Nat} (hC:Cf.Ok) (hG:Gb G) (hg:(g:Int)<Cf.bP) (hi:vB Cf M.home (2^30 - 4)) (hs:Hs G h L) [mm:Has (bG G Cf m) L M L'] (hk:∀v h',Hs G h' (bG G Cf m (M.qJ (J2 Cf M.home g))::L')→Q v h'):Cl Pr K 212 [pt m 0 0,I g] h Q:=by
 refine cW (dJ (mm.of hs) fun p2 h hs=>?_)
 obtain⟨x,hl,hs⟩:=cH (hs.front (bG G Cf m M))
 refine aC (b:=p2) (o:=0) hs rfl (aB (aA (hZ (b:=m) (o:=0) hs (by decide) (l:=Cf.enc) rfl rfl (A5 (C:=Cf) hs fun q1 q2 h hs=>?_))))
 have hs:Hs G h (bG G Cf m (M.qJ (oE Cf M.home []))::_):=bB (m:=m) (x:=x) M hl hs
 refine mW hs fun d h hs=>?_
 intro e he
 refine qP hs fun l h hs=>vZ rfl ?_
 have hs:Hs G h (sp [aE q1 0 Cf.enc,aE q2 0 [I g]]::swX G Cf m p2 M e d l []::mk d ()::L'):=by
  have hs:=(hs.cU (nE Pr 212 (nB 14) 18 e d l (.ready,none)) (aE p2 0 [pt m 0 0]) (bG G Cf m (M.qJ (oE Cf M.home [])))).T4
  exact hs.to
 refine(Dm (C:=Cf) hC hg (p:=q1) (q:=q2) hG.lim).fold (X:=fun done=>swX G Cf m p2 M e d l done) (Z:=fun _ _=>zD False) hs ?_ ?_ ?_
 ·intro done y h N hp hs
  have hs:=hs.Bk
  have hdl:done.length≤1:=by have:=hp.length_le;simp at this;omega
  obtain⟨x,hl,hs⟩:=cH (hs.front (bG G Cf m (M.qJ (oE Cf M.home done))))
  refine rW (xD hs) he (kA hs fun h hs=>aC (b:=p2) (o:=0) hs rfl (aB (aA (aC (b:=m) (o:=0) hs rfl ?_))))
  refine H.ik (C:=Cf) (H:=oE Cf M.home done) (fun k hk=>by have:=Sy (l:=done) hi k hk;exact⟨this.1,by omega⟩) hs fun h hs=>jS hs fun h hs=> .inl ⟨rfl,?_⟩
  rw[←Ul] at hs
  have hs:=bB (m:=m) (x:=x) (M.qJ (oE Cf M.home (done++[y]))) hl hs
  have hs:=(hs.cU (nE Pr 212 (nB 14) 18 e d l (.ready,none)) (aE p2 0 [pt m 0 0]) (bG G Cf m (M.qJ (oE Cf M.home (done++[y]))))).T4
  exact hs.to
 ·intro v h hs
  have hs:=(hs.front (swX G Cf m p2 M e d l [g*2,g*2+1])).Bk
  have e2:oE Cf M.home [g*2,g*2+1]=J2 Cf M.home g:=by unfold oE J2;simp
  rw[e2] at hs
  exact qQ hs fun h hs=>qL (mH hs fun h hs=>jU (hk _ _ hs.to))
 ·intro done y v h hp hs
  obtain⟨hd,_⟩:=(hs.front (zD False)).r7
  exact hd.elim
end Go.Proofs.YtajjljbmfdboaaaGreatDoor
end
section
namespace Go.Proofs.YtajjljbmfdboaaaGreatDoor
open Go Go.Ab Go.Hm Go.At Go.Mc Go.Ct Go.Nt
set_option maxRecDepth 100000
variable {G:Bg} {h:AH} {L L':List HP} {Q:Value→AH→Prop} {Cf:bQ} {m:Nat} {M:cY} {n:aQ}
def yv (G:Bg) (Cf:bQ) (m:Nat) (Z:HP) (fv:Value) (A B:cY):Prop:=∀(h:AH) (L:List HP) (Q:Value→AH→Prop),Hs G h (Z::bG G Cf m A::L)→(∀v h',Hs G h' (bG G Cf m B::L)→Q v h')→wX Pr K fv [] h Q
abbrev TK (G:Bg) (Cf:bQ) (m:Nat) (M:cY) (L:List HP) (Q:Value→AH→Prop) (r:cY×List aQ×Int):Prop:=∀v fv Z h',Hs G h' (H.eK v r.2.1::Z::bG G Cf m M::L)→(r.2.2=0→∀F,yv G Cf m Z fv (M.dH F) (r.1.dH F))→Q (.tuple ⟨[v,fv,I r.2.2]⟩) h'
theorem Dy {C:bQ} {H:jO} {N N':Nat} (h:vB C H N) (hn:N≤N'):vB C H N':=fun k hk=>⟨(h k hk).1,Nat.le_trans (h k hk).2 hn⟩
theorem w8 {p2 p3:Nat} (hC:Cf.Ok) (hG:Gb G) (ho:uQ Cf M n) (hs:Hs G h (aE p2 0 [pt m 0 0]::aE p3 0 n.enc::bG G Cf m M::L)) (hk:TK G Cf m M L Q (M.qJ (fZ Cf M.home n).1,(fZ Cf M.home n).2.1,(fZ Cf M.home n).2.2)):Dd 156 3 [] Q [(pt p2 0 0),(pt p3 0 0)] h:=by
 obtain⟨x,hl,hs⟩:=cH (hs.front (bG G Cf m M))
 refine bW (aC (b:=p2) (o:=0) hs rfl (aB (aA (aC (b:=m) (o:=0) hs rfl (H.Hn (C:=Cf) hC (Dy ho.home (by omega)) hs fun q h hs=>bK hs fun p6 h hs=>bA (b:=p6) hs rfl rfl rfl rfl fun h hs=>aC (b:=p6) (o:=0) hs rfl (aN (b:=p3) (o:=0) hs (by decide) (l:=n.enc) rfl rfl ?_))))))
 refine H.Bw (C:=Cf) (hb:=q) (H:=M.home) (n:=n) hC hG.lim (Dy ho.home (by omega)) hs fun v h hs=>aG rfl (aG rfl ?_)
 have hs:=bB (m:=m) (x:=x) M hl hs
 have hs:=(hs.cU (aE p6 0 [pt q 0 0]) (aE p2 0 [pt m 0 0]) (H.fN G q Cf (fZ Cf M.home n).1)).T4
 refine hk v _ (sp [aE p6 0 [pt q 0 0],aE p2 0 [pt m 0 0],H.fN G q Cf (fZ Cf M.home n).1]) h hs.to fun _ F=>?_
 intro h L Q hs hk
 have hs:=hs.Bk
 obtain⟨x,hl,hs⟩:=cH (hs.front (bG G Cf m (M.dH F)))
 refine oN rfl (cW (f:=201) (aC (b:=p2) (o:=0) hs rfl (aC (b:=p6) (o:=0) hs rfl (aB (aA (bE (b:=m) (o:=0) hs rfl rfl rfl rfl fun h hs=>hk _ _ ?_))))))
 have e:dH (eU Cf x M.log.length) (0+10) [pt q 0 0]=eU Cf {x with hb:=q} M.log.length:=rfl
 rw[e] at hs
 exact(bB (m:=m) (x:={x with hb:=q}) ((M.qJ (fZ Cf M.home n).1).dH F) hl hs).to
theorem lz {p2 p3:Nat} (hC:Cf.Ok) (hG:Gb G) (ho:uQ Cf M n) (hs:Hs G h (aE p2 0 [pt m 0 0]::aE p3 0 n.enc::bG G Cf m M::L)) (hk:TK G Cf m M L Q (M.sE n.core.toNat (hJ Cf n.core (M.dK n.core.toNat) n).1,(hJ Cf n.core (M.dK n.core.toNat) n).2.1,(hJ Cf n.core (M.dK n.core.toNat) n).2.2)):Dd 156 9 [] Q [(pt p2 0 0),(pt p3 0 0)] h:=by
 have hbd:Bd (M.dK n.core.toNat):=ho.Xa.bd (kD hC).2.2.2
 obtain⟨i,hi⟩:=Int.eq_ofNat_of_zero_le ho.core.1
 have hic:(i:Int)<Cf.aF:=by have:=ho.core.2;omega
 rw[hi,Int.toNat_natCast] at hk
 have hcac:=ho.Xa
 rw[hi,Int.toNat_natCast] at hcac hbd
 obtain⟨x,hl,hs⟩:=cH (hs.front (bG G Cf m M))
 have hik:i<x.lk.length:=by have:=hl.2.1;omega
 have e1:n.enc[0+1]?=some (I i):=by show some (I n.core)=_;rw[hi]
 refine bW (aR hs fun rr h hs=>aC (b:=p2) (o:=0) hs rfl (aB (aA (aC (b:=m) (o:=0) hs rfl (aA (aC (b:=p3) (o:=0) hs e1 (Jf hs hik ?_)))))))
 have hs:=gV (R:=pO G Cf) (l:=x.lk) (s:=M.dK) hik hs
 refine C.Ye (C:=Cf) (core:=(i:Int)) (c:=x.lk.getD i 0) (s:=M.dK i) hC hbd hs fun q h hs=>jN (r:=rr) (i:=9) (n:=11) (D:=[]) hs rfl rfl fun p6 h hs=>bA (b:=p6) hs rfl rfl rfl rfl fun h hs=>aC (b:=p6) (o:=0) hs rfl (aN (b:=p3) (o:=0) hs (by decide) (l:=n.enc) rfl rfl ?_)
 refine C.Bw (C:=Cf) (core:=(i:Int)) (c:=q) (s:=M.dK i) (n:=n) hC hbd hcac.sts hG.lim hG.row hs fun a c h hs=>aG rfl (aG rfl ?_)
 have hs:=yJ (Cf:=Cf) (l:=x.lk) (s:=M.dK) (i:=i) (t:=M.dK i) hik hs
 rw[bJ] at hs
 have hs:=bB (m:=m) (x:=x) M hl hs
 have hs:=(hs.kV (aE p6 0 [pt q 0 0]) (aE p2 0 [pt m 0 0]) (aE p3 0 n.enc) (C.fU G q Cf i (hJ Cf i (M.dK i) n).1)).J8
 have hs:=H.Em (l:=(hJ Cf i (M.dK i) n).2.1) rfl rfl (hs.front (dB 9 175 a c ((hJ Cf i (M.dK i) n).2.1.length,eF (hJ Cf i (M.dK i) n).2.1)))
 refine hk _ _ (sp [aE p6 0 [pt q 0 0],aE p2 0 [pt m 0 0],aE p3 0 n.enc,C.fU G q Cf i (hJ Cf i (M.dK i) n).1]) h hs.to fun _ F=>?_
 intro h L Q hs hk
 have hs:=hs.wy
 obtain⟨x,hl,hs⟩:=cH (hs.front (bG G Cf m (M.dH F)))
 have hik:i<x.lk.length:=by have:=hl.2.1;omega
 refine oN rfl (cW (f:=203) (aR hs fun rr h hs=>aC (b:=p2) (o:=0) hs rfl (aB (aA (aC (b:=m) (o:=0) hs rfl (aA (aC (b:=p3) (o:=0) hs e1 (aC (b:=p6) (o:=0) hs rfl (W8 hs hik fun h hs=>hk _ _ ?_)))))))))
 have hs:=gV (R:=pO G Cf) (l:=x.lk) (s:=M.dK) hik hs
 have hs:=Bx (R:=pO G Cf) (l:=x.lk) (s:=M.dK) (i:=i) (q:=q) (t:=(hJ Cf i (M.dK i) n).1) hik hs
 have e:eU Cf x M.log.length=eU Cf {x with lk:=x.lk.set i q} M.log.length:=by unfold eU;rw[List.length_set]
 rw[e] at hs
 exact(bB (m:=m) (x:={x with lk:=x.lk.set i q}) ((M.sE i (hJ Cf i (M.dK i) n).1).dH F) ⟨hl.1,by rw[List.length_set];exact hl.2.1,hl.2.2⟩ hs).to
end Go.Proofs.YtajjljbmfdboaaaGreatDoor
end
section
namespace Go.Proofs.YtajjljbmfdboaaaGreatDoor
open Go Go.Ab Go.Hm Go.At Go.Mc Go.Ct Go.Nt
theorem Sh {m:Mon} {c g x:Int} (h:(m.dropped c g x).2.1=true):m.has g:=by
 unfold Mon.dropped at h
 by_cases hg:m.has g
 ·exact hg
 ·rw[if_pos hg] at h;cases h
set_option maxRecDepth 100000
variable {G:Bg} {h:AH} {L L':List HP} {Q:Value→AH→Prop} {Cf:bQ} {m:Nat} {M:cY} {n:aQ}
theorem my {v:Value} {l:List aQ} (hs:Hs G h (H.eK v l::L)):Hs G h (H.eK v l::sp []::L):=(Hs.pack (A:=[]) hs).kI
theorem Mk {a:Addr} {c:Nat} {x:aQ} (hs:Hs G h (dB 9 175 (some a) c (1,x.enc)::L)):Hs G h (H.eK (.slice (some a) 1 c) [x]::L):=H.Em (l:=[x]) rfl (by simp[eF]) hs
theorem Eb (hs:Hs G h L):Hs G h (H.eK (.slice none 0 0) []::L):=H.nN hs
theorem uu {p2 p3:Nat} (hC:Cf.Ok) (ho:uQ Cf M n) (hs:Hs G h (aE p2 0 [pt m 0 0]::aE p3 0 n.enc::bG G Cf m M::L)) (hk:TK G Cf m M L Q (M,[B1 n.core (tI M.dQ.fV n.no).1 n.no],(tI M.dQ.fV n.no).2)):Dd 156 13 [] Q [(pt p2 0 0),(pt p3 0 0)] h:=by
 have hlen:=ho.dQ.len
 have hgr:=hC.2.1
 obtain⟨x,hl,hs⟩:=cH (hs.front (bG G Cf m M))
 obtain⟨t,b,hs⟩:=iV (hs.front (fC Cf x.mb M.dQ))
 refine bW (aR hs fun rr h hs=>aC (b:=p2) (o:=0) hs rfl (aB (aA (aC (b:=m) (o:=0) hs rfl (aB (aA (aC (b:=x.mb) (o:=0) hs rfl (aA (aC (b:=p3) (o:=0) hs rfl (kn (es:=M.dQ.fV) (by omega) ho.dQ.own hs fun h hs=>?_))))))))))
 refine aG rfl (aG rfl (aA (aC (b:=p3) (o:=0) hs rfl (aK (c:=[I (tI M.dQ.fV n.no).1,I 0]) rfl (aA (aC (b:=p3) (o:=0) hs rfl (aK (c:=(B1 n.core (tI M.dQ.fV n.no).1 n.no).enc) rfl (aK (c:=(B1 n.core (tI M.dQ.fV n.no).1 n.no).enc) rfl (dP (W:=9) (n:=1) (c:=1) hs rfl rfl rfl fun a h hs=>?_)))))))))
 have hs:=dL (hs.cU (aE x.mb 0 [pt t 0 0,I Cf.aF,fH b]) (fT t M.dQ.fV) (gT b (fF M.dQ.runs)))
 have hs:=bB (m:=m) (x:=x) M hl hs
 have hs:=Mk (hs.front (dB 9 175 (some a) 1 (1,(B1 n.core (tI M.dQ.fV n.no).1 n.no).enc)))
 refine hk _ _ (sp []) h (my hs.to) fun _ F=>?_
 intro h L Q hs hk
 exact oN rfl (cW (f:=205) (hk _ _ hs.tail))
theorem nw {q p6 p2 p3 i:Nat} {t:lQ} (_:Cf.Ok) (e1:n.enc[0+1]?=some (I i)) (hic:(i:Int)<Cf.aF) (F:gM):yv G Cf m (sp [aE p6 0 [pt q 0 0],aE p2 0 [pt m 0 0],aE p3 0 n.enc,iS q Cf t]) (.func (.func 207) #[] #[pt p6 0 0,pt p2 0 0,pt p3 0 0]) (M.dH F) ((M.Bh i t).dH F):=by
 intro h L Q hs hk
 have hs:=hs.wy
 obtain⟨x,hl,hs⟩:=cH (hs.front (bG G Cf m (M.dH F)))
 have hik:i<x.lq.length:=by have:=hl.2.2;omega
 refine oN rfl (cW (f:=207) (aR hs fun rr h hs=>aC (b:=p2) (o:=0) hs rfl (aB (aA (aC (b:=m) (o:=0) hs rfl (aA (aC (b:=p3) (o:=0) hs e1 (aC (b:=p6) (o:=0) hs rfl (Oc hs hik fun h hs=>hk _ _ ?_)))))))))
 have hs:=gV (R:=nL Cf) (l:=x.lq) (s:=M.cR) hik hs
 have hs:=Bx (R:=nL Cf) (l:=x.lq) (s:=M.cR) (i:=i) (q:=q) (t:=t) hik hs
 have e:eU Cf x M.log.length=eU Cf {x with lq:=x.lq.set i q} M.log.length:=by unfold eU;rw[List.length_set]
 rw[e] at hs
 exact(bB (m:=m) (x:={x with lq:=x.lq.set i q}) ((M.Bh i t).dH F) ⟨hl.1,hl.2.1,by rw[List.length_set];exact hl.2.2⟩ hs).to
theorem sx {q p6 p2 p3 i:Nat} {t:lQ} (_:Cf.Ok) (e1:n.enc[0+1]?=some (I i)) (hic:(i:Int)<Cf.aF) (F:gM):yv G Cf m (sp [aE p6 0 [pt q 0 0],aE p2 0 [pt m 0 0],aE p3 0 n.enc,iS q Cf t]) (.func (.func 209) #[] #[pt p6 0 0,pt p2 0 0,pt p3 0 0]) (M.dH F) ((M.Bh i t).dH F):=by
 intro h L Q hs hk
 have hs:=hs.wy
 obtain⟨x,hl,hs⟩:=cH (hs.front (bG G Cf m (M.dH F)))
 have hik:i<x.lq.length:=by have:=hl.2.2;omega
 refine oN rfl (cW (f:=209) (aR hs fun rr h hs=>aC (b:=p2) (o:=0) hs rfl (aB (aA (aC (b:=m) (o:=0) hs rfl (aA (aC (b:=p3) (o:=0) hs e1 (aC (b:=p6) (o:=0) hs rfl (Oc hs hik fun h hs=>hk _ _ ?_)))))))))
 have hs:=gV (R:=nL Cf) (l:=x.lq) (s:=M.cR) hik hs
 have hs:=Bx (R:=nL Cf) (l:=x.lq) (s:=M.cR) (i:=i) (q:=q) (t:=t) hik hs
 have e:eU Cf x M.log.length=eU Cf {x with lq:=x.lq.set i q} M.log.length:=by unfold eU;rw[List.length_set]
 rw[e] at hs
 exact(bB (m:=m) (x:={x with lq:=x.lq.set i q}) ((M.Bh i t).dH F) ⟨hl.1,hl.2.1,by rw[List.length_set];exact hl.2.2⟩ hs).to
theorem cv {p2 p3:Nat} (hC:Cf.Ok) (ho:uQ Cf M n) (hw:0≤n.d0∧n.d0≤1000000) (hs:Hs G h (aE p2 0 [pt m 0 0]::aE p3 0 n.enc::bG G Cf m M::L))
  (hk:TK G Cf m M L Q (M.Bh n.core.toNat ((M.cR n.core.toNat).walked Cf n.no n.d0).1,if((M.cR n.core.toNat).walked Cf n.no n.d0).2.2.1 then [] else [eT 6 n.core ((M.cR n.core.toNat).walked Cf n.no n.d0).2.1],((M.cR n.core.toNat).walked Cf n.no n.d0).2.2.2)):Dd 156 16 [] Q [(pt p2 0 0),(pt p3 0 0)] h:=by
 obtain⟨i,hi⟩:=Int.eq_ofNat_of_zero_le ho.core.1
 have hic:(i:Int)<Cf.aF:=by have:=ho.core.2;omega
 have hkn:=ho.wW
 have hgn:=ho.cB
 have e1:n.enc[0+1]?=some (I i):=by show some (I n.core)=_;rw[hi]
 rw[hi,Int.toNat_natCast] at hk hkn hgn
 obtain⟨x,hl,hs⟩:=cH (hs.front (bG G Cf m M))
 have hik:i<x.lq.length:=by have:=hl.2.2;omega
 refine bW (aR hs fun rr h hs=>aC (b:=p2) (o:=0) hs rfl (aB (aA (aC (b:=m) (o:=0) hs rfl (aA (aC (b:=p3) (o:=0) hs e1 (Hi hs hik ?_)))))))
 have hs:=gV (R:=nL Cf) (l:=x.lq) (s:=M.cR) hik hs
 refine Ag (C:=Cf) (p:=x.lq.getD i 0) (s:=M.cR i) hkn hs fun q h hs=>jN (r:=rr) (i:=9) (n:=11) (D:=[]) hs rfl rfl fun p6 h hs=>bA (b:=p6) hs rfl rfl rfl rfl fun h hs=>aC (b:=p6) (o:=0) hs rfl (aA (aC (b:=p3) (o:=0) hs rfl (aA (fA (by decide) (by decide) (aC (b:=p3) (o:=0) hs rfl ?_)))))
 refine eu (C:=Cf) (p:=q) (s:=M.cR i) hC hkn hgn hw hs fun h hs=>aG rfl (aG rfl (aG rfl (bU (dI (dA (fun h1=>?_) (fun h1=>?_))))))
 ·rw[h1,if_pos rfl] at hk
  have hs:=uV (Cf:=Cf) (l:=x.lq) (s:=M.cR) (i:=i) (t:=M.cR i) hik hs
  rw[bJ] at hs
  have hs:=bB (m:=m) (x:=x) M hl hs
  have hs:=(hs.kV (aE p6 0 [pt q 0 0]) (aE p2 0 [pt m 0 0]) (aE p3 0 n.enc) (iS q Cf ((M.cR i).walked Cf n.no n.d0).1)).J8
  exact hk _ _ (sp [aE p6 0 [pt q 0 0],aE p2 0 [pt m 0 0],aE p3 0 n.enc,iS q Cf ((M.cR i).walked Cf n.no n.d0).1]) h (Eb hs.to) fun _ F=>nw hC e1 hic F
 ·rw[h1,if_neg (by simp)] at hk
  have hs:=sL (enc:=aQ.enc) (e:=175) hs
  refine bW (aA (aC (b:=p3) (o:=0) hs e1 (aK (c:=(eT 6 i ((M.cR i).walked Cf n.no n.d0).2.1).enc) rfl (aK (c:=(eT 6 i ((M.cR i).walked Cf n.no n.d0).2.1).enc) rfl (dP (W:=9) (n:=1) (c:=1) hs rfl rfl rfl fun a h hs=>?_)))))
  have hs:=uF (enc:=aQ.enc) (x:=eT 6 i ((M.cR i).walked Cf n.no n.d0).2.1) hs
  refine rX (enc:=aQ.enc) (e:=175) (l:=[]) (l2:=[eT 6 i ((M.cR i).walked Cf n.no n.d0).2.1]) (a:=none) (c:=0) (a2:=some a) (c2:=1) hs (by simp) fun a' c' h hs=>?_
  have hs:=uV (Cf:=Cf) (l:=x.lq) (s:=M.cR) (i:=i) (t:=M.cR i) hik hs
  rw[bJ] at hs
  have hs:=bB (m:=m) (x:=x) M hl hs
  have hs:=(hs.kV (aE p6 0 [pt q 0 0]) (aE p2 0 [pt m 0 0]) (aE p3 0 n.enc) (iS q Cf ((M.cR i).walked Cf n.no n.d0).1)).J8
  have hs:=hs.front (ls aQ.enc 9 175 a' c' ([]++[eT 6 i ((M.cR i).walked Cf n.no n.d0).2.1]))
  unfold ls at hs
  have hs:=H.Em (l:=[eT 6 i ((M.cR i).walked Cf n.no n.d0).2.1]) rfl (by simp[eL,eF]) hs
  exact hk (.slice a' [eT 6 i ((M.cR i).walked Cf n.no n.d0).2.1].length c') _ (sp [aE p6 0 [pt q 0 0],aE p2 0 [pt m 0 0],aE p3 0 n.enc,iS q Cf ((M.cR i).walked Cf n.no n.d0).1]) h hs.to fun _ F=>nw hC e1 hic F
theorem uy {p2 p3:Nat} (hC:Cf.Ok) (ho:uQ Cf M n) (hs:Hs G h (aE p2 0 [pt m 0 0]::aE p3 0 n.enc::bG G Cf m M::L))
  (hk:TK G Cf m M L Q (M.Bh n.core.toNat ((M.cR n.core.toNat).drop Cf n.no).1,[eT 7 n.core n.no],((M.cR n.core.toNat).drop Cf n.no).2)):Dd 156 19 [] Q [(pt p2 0 0),(pt p3 0 0)] h:=by
 obtain⟨i,hi⟩:=Int.eq_ofNat_of_zero_le ho.core.1
 have hic:(i:Int)<Cf.aF:=by have:=ho.core.2;omega
 have hkn:=ho.wW
 have e1:n.enc[0+1]?=some (I i):=by show some (I n.core)=_;rw[hi]
 rw[hi,Int.toNat_natCast] at hk hkn
 obtain⟨x,hl,hs⟩:=cH (hs.front (bG G Cf m M))
 have hik:i<x.lq.length:=by have:=hl.2.2;omega
 refine bW (aR hs fun rr h hs=>aC (b:=p2) (o:=0) hs rfl (aB (aA (aC (b:=m) (o:=0) hs rfl (aA (aC (b:=p3) (o:=0) hs e1 (Hi hs hik ?_)))))))
 have hs:=gV (R:=nL Cf) (l:=x.lq) (s:=M.cR) hik hs
 refine Ag (C:=Cf) (p:=x.lq.getD i 0) (s:=M.cR i) hkn hs fun q h hs=>jN (r:=rr) (i:=9) (n:=11) (D:=[]) hs rfl rfl fun p6 h hs=>bA (b:=p6) hs rfl rfl rfl rfl fun h hs=>aC (b:=p6) (o:=0) hs rfl (aA (aC (b:=p3) (o:=0) hs rfl ?_))
 refine V0 (C:=Cf) (p:=q) (s:=M.cR i) hkn hs fun _ h hs=>aG rfl (aG rfl (aA (aC (b:=p3) (o:=0) hs e1 (aA (aC (b:=p3) (o:=0) hs rfl (aK (c:=(eT 7 i n.no).enc) rfl (aK (c:=(eT 7 i n.no).enc) rfl (dP (W:=9) (n:=1) (c:=1) hs rfl rfl rfl fun a h hs=>?_))))))))
 have hs:=uV (Cf:=Cf) (l:=x.lq) (s:=M.cR) (i:=i) (t:=M.cR i) hik hs
 rw[bJ] at hs
 have hs:=bB (m:=m) (x:=x) M hl hs
 have hs:=(hs.kV (aE p6 0 [pt q 0 0]) (aE p2 0 [pt m 0 0]) (aE p3 0 n.enc) (iS q Cf ((M.cR i).drop Cf n.no).1)).J8
 have hs:=Mk (hs.front (dB 9 175 (some a) 1 (1,(eT 7 i n.no).enc)))
 exact hk _ _ (sp [aE p6 0 [pt q 0 0],aE p2 0 [pt m 0 0],aE p3 0 n.enc,iS q Cf ((M.cR i).drop Cf n.no).1]) h hs.to fun _ F=>sx hC e1 hic F
theorem Us {p2 p3:Nat} (hC:Cf.Ok) (hG:Gb G) (ho:uQ Cf M n) (hs:Hs G h (aE p2 0 [pt m 0 0]::aE p3 0 n.enc::bG G Cf m M::L))
  (hk:TK G Cf m M L Q (if(M.dQ.dropped Cf.aF n.no n.core).2.1 then(M.mG (M.dQ.dropped Cf.aF n.no n.core).1).qJ (J2 Cf M.home n.no) else M.mG (M.dQ.dropped Cf.aF n.no n.core).1,[],(M.dQ.dropped Cf.aF n.no n.core).2.2)):Dd 156 21 [] Q [(pt p2 0 0),(pt p3 0 0)] h:=by
 obtain⟨x,hl,hs⟩:=cH (hs.front (bG G Cf m M))
 refine bW (aC (b:=p2) (o:=0) hs rfl (aB (aA (aC (b:=m) (o:=0) hs rfl (Jr (C:=Cf) (m:=M.dQ) hC ho.dQ hs fun q h hs=>bK hs fun p6 h hs=>bA (b:=p6) hs rfl rfl rfl rfl fun h hs=>aC (b:=p6) (o:=0) hs rfl (aA (aC (b:=p3) (o:=0) hs rfl (aA (aC (b:=p3) (o:=0) hs rfl ?_)))))))))
 refine Kj (C:=Cf) (m:=M.dQ) (p:=q) hC ho.dQ hs fun h hs=>aG rfl (aG rfl (bK hs fun p7 h hs=>bA (b:=p7) hs rfl rfl rfl rfl fun h hs=>?_))
 have hs:=bB (m:=m) (x:=x) M hl hs
 have hs:=(hs.cN (aE p7 0 [.bool (M.dQ.dropped Cf.aF n.no n.core).2.1]) (aE p3 0 n.enc)).Ex
 have hs:=(hs.kV (aE p6 0 [pt q 0 0]) (aE p2 0 [pt m 0 0]) (sp [aE p7 0 [.bool (M.dQ.dropped Cf.aF n.no n.core).2.1],aE p3 0 n.enc]) (fC Cf q (M.dQ.dropped Cf.aF n.no n.core).1)).J8
 refine hk _ _ (sp [aE p6 0 [pt q 0 0],aE p2 0 [pt m 0 0],sp [aE p7 0 [.bool (M.dQ.dropped Cf.aF n.no n.core).2.1],aE p3 0 n.enc],fC Cf q (M.dQ.dropped Cf.aF n.no n.core).1]) h (Eb hs.to) fun _ F=>?_
 intro h L Q hs hk
 have hs:=hs.wy
 have hs:=(hs.front (sp [aE p7 0 [.bool (M.dQ.dropped Cf.aF n.no n.core).2.1],aE p3 0 n.enc])).D2
 obtain⟨x,hl,hs⟩:=cH (hs.front (bG G Cf m (M.dH F)))
 refine oN rfl (cW (f:=211) (aC (b:=p2) (o:=0) hs rfl (aC (b:=p6) (o:=0) hs rfl (aB (aA (bE (b:=m) (o:=0) hs rfl rfl rfl rfl fun h hs=>aC (b:=p7) (o:=0) hs rfl (dA (fun h1=>?_) (fun h1=>?_))))))))
 ·have hg:=Sh h1
  obtain⟨g,hg1,hg2,_⟩:=Pe ho.dQ hC hg
  have hgl:=ho.dQ.len
  rw[if_pos h1] at hk
  have e:dH (eU Cf x M.log.length) (0+11) [pt q 0 0]=eU Cf {x with mb:=q} M.log.length:=rfl
  rw[e] at hs
  have e2:n.enc[0+8]?=some (I g):=by show some (I n.no)=_;rw[hg1]
  refine aC (b:=p2) (o:=0) hs rfl (aA (aC (b:=p3) (o:=0) hs e2 ?_))
  have hs:=bB (m:=m) (x:={x with mb:=q}) ((M.mG (M.dQ.dropped Cf.aF n.no n.core).1).dH F) hl hs
  rw[hg1] at hk hs
  exact Zb (Cf:=Cf) (M:=(M.mG (M.dQ.dropped Cf.aF g n.core).1).dH F) hC hG (by omega) ho.home hs fun v h hs=>hk _ _ hs.to
 ·rw[if_neg (by rw[h1];simp)] at hk
  have e:dH (eU Cf x M.log.length) (0+11) [pt q 0 0]=eU Cf {x with mb:=q} M.log.length:=rfl
  rw[e] at hs
  exact hk _ _ (bB (m:=m) (x:={x with mb:=q}) ((M.mG (M.dQ.dropped Cf.aF n.no n.core).1).dH F) hl hs).to
end Go.Proofs.YtajjljbmfdboaaaGreatDoor
end
section
namespace Go.Proofs.YtajjljbmfdboaaaGreatDoor
open Go Go.Ab Go.Hm Go.At Go.Mc Go.Ct Go.Nt
set_option maxRecDepth 100000
variable {G:Bg} {h:AH} {L L':List HP} {Q:Value→AH→Prop} {Cf:bQ} {m:Nat} {M:cY} {n:aQ}
theorem kl (hC:Cf.Ok) (hG:Gb G) (ho:uQ Cf M n) (hs:Hs G h L) [mm:Has (bG G Cf m) L M L'] (hk:TK G Cf m M L' Q (M.fX Cf n)):Cl Pr K 156 [pt m 0 0,.agg ⟨n.enc⟩] h Q:=by
 refine cW (dJ (mm.of hs) fun p2 h hs=>dJ hs fun p3 h hs=>aA (aC (b:=p3) (o:=0) hs rfl ?_))
 have hs:Hs G h (aE p2 0 [pt m 0 0]::aE p3 0 n.enc::bG G Cf m M::L'):=hs.to
 have home:(n.kind=1∨n.kind=2∨n.kind=3∨n.kind=4∨n.kind=5)→Dd 156 3 [] Q [(pt p2 0 0),(pt p3 0 0)] h:=fun hkd=>by
  unfold cY.fX at hk
  rw[if_pos hkd] at hk
  exact w8 hC hG ho hs hk
 have cache:¬(n.kind=1∨n.kind=2∨n.kind=3∨n.kind=4∨n.kind=5)→(n.kind=8∨n.kind=9∨n.kind=10∨n.kind=11)→Dd 156 9 [] Q [(pt p2 0 0),(pt p3 0 0)] h:=fun h1 hkd=>by
  unfold cY.fX at hk
  rw[if_neg h1,if_pos hkd] at hk
  exact lz hC hG ho hs hk
 refine bC (aS (fun k1=>bW (bM k1 (home (by omega)))) (fun k1=>bW ?_))
 refine bC (aS (fun k2=>bW (bM k2 (home (by omega)))) (fun k2=>bW ?_))
 refine bC (aS (fun k3=>bW (bM k3 (home (by omega)))) (fun k3=>bW ?_))
 refine bC (aS (fun k4=>bW (bM k4 (home (by omega)))) (fun k4=>bW ?_))
 refine bC (aS (fun k5=>home (by omega)) (fun k5=>bW ?_))
 refine bC (aS (fun k8=>bW (bM k8 (cache (by omega) (by omega)))) (fun k8=>bW ?_))
 refine bC (aS (fun k9=>bW (bM k9 (cache (by omega) (by omega)))) (fun k9=>bW ?_))
 refine bC (aS (fun k10=>bW (bM k10 (cache (by omega) (by omega)))) (fun k10=>bW ?_))
 refine bC (aS (fun k11=>cache (by omega) (by omega)) (fun k11=>bW ?_))
 unfold cY.fX at hk
 rw[if_neg (by omega),if_neg (by omega)] at hk
 refine bC (aS (fun k6=>?_) (fun k6=>bW ?_))
 ·rw[if_pos k6] at hk
  exact uu hC ho hs hk
 rw[if_neg k6] at hk
 refine bC (aS (fun k12=>?_) (fun k12=>bW ?_))
 ·rw[if_pos k12] at hk
  exact cv hC ho (ho.word k12) hs hk
 rw[if_neg k12] at hk
 refine bC (aS (fun k13=>?_) (fun k13=>bW ?_))
 ·rw[if_pos k13] at hk
  exact uy hC ho hs hk
 rw[if_neg k13] at hk
 refine bC (aS (fun k7=>?_) (fun k7=>?_))
 ·rw[if_pos k7] at hk
  exact Us hC hG ho hs hk
 rw[if_neg k7] at hk
 have hs:Hs G h (bG G Cf m M::L'):=hs.to
 exact hk _ _ (sp []) h (my (Eb hs)) fun h15=>absurd h15 (by show ¬(15:Int)=0;omega)
theorem aj (_:Cf.Ok):(M.fX Cf n).2.1.length≤100:=by
 unfold cY.fX
 split
 ·unfold fZ
  split
  ·simp
  ·split
   ·unfold rD.take
    split
    ·split<;>simp
    ·split
     ·split
      ·simp
      ·unfold rD.Kx
       dsimp only
       have hg:= @Ep
       have hr:= @rO
       grind [Row.rest]
     ·simp
   ·simp
 ·split
  ·have:=nj (C:=Cf) (core:=n.core) (s:=M.dK n.core.toNat) (nt:=n)
   dsimp only
   omega
  ·repeat' split
   all_goals simp
   all_goals split<;>simp
theorem R5 {d:Do} (hC:Cf.Ok) (hG:Gb G) (hL:la Cf M.mI) (ho:∀n,(M.mI.take Cf d.a d.b d.c).2.2=0→(M.mI.take Cf d.a d.b d.c).2.1=n→uQ Cf M n) (hLT:la Cf (M.mI.take Cf d.a d.b d.c).1) (hs:Hs G h L) [mm:Has (bG G Cf m) L M L'] (hk:∀h',Hs G h' (bG G Cf m (M.vF Cf d.a d.b d.c).1::L')→Q (I (M.vF Cf d.a d.b d.c).2) h'):Cl Pr K 111 [pt m 0 0,.agg ⟨d.enc⟩] h Q:=by
 unfold cY.vF at hk
 refine cW (dJ (cs:=d.enc) (mm.of hs) fun p2 h hs=>?_)
 obtain⟨x,hl,hs⟩:=cH (hs.front (bG G Cf m M))
 refine aB (aA (aC (b:=m) (o:=0) hs rfl (Wf (C:=Cf) (F:=M.mI) hC (hL.Ws hC) hs fun q h hs=>?_)))
 refine aA (aC (b:=p2) (o:=0) hs rfl (aA (aC (b:=p2) (o:=0) hs rfl (aA (aC (b:=p2) (o:=0) hs rfl ?_)))))
 refine T9 (C:=Cf) (f:=q) (F:=M.mI) hC (hL.Ws hC) hs fun h hs=>aG rfl (aG rfl (bK hs fun p9 h hs=>bA (b:=p9) hs rfl rfl rfl rfl fun h hs=>aX (aS (fun h1=>?_) (fun h1=>?_))))
 ·rw[if_pos h1] at hk
  exact hk _ (bB (m:=m) (x:=x) M hl hs).to
 rw[if_neg h1] at hk
 have ht:=ho _ (by omega) rfl
 generalize M.mI.take Cf d.a d.b d.c=tt at hk hs h1 ht hLT
 have hs:=bB (m:=m) (x:=x) M hl hs
 refine bW (aN (b:=p9) (o:=0) hs (by decide) (l:=tt.2.1.enc) rfl rfl (kl (Cf:=Cf) (M:=M) (n:=tt.2.1) hC hG ht hs ?_))
 intro v fv Z h hs hfin
 refine aG rfl (aG rfl (aG rfl (aX (aS (fun h2=>?_) (fun h2=>?_)))))
 ·dsimp only at hk
  rw[if_pos h2] at hk
  exact hk _ hs.to
 dsimp only at hk
 rw[if_neg h2] at hk
 obtain⟨a,c,hv,hs2⟩:=H.ir hs
 subst hv
 have hs:Hs G h (sI a c (M.fX Cf tt.2.1).2.1::_):=hs2
 refine bW ?_
 refine Cd (C:=Cf) (f:=q) (F:=tt.1) (l:=(M.fX Cf tt.2.1).2.1) (a:=a) (c:=c) hC (hLT.Ws hC) (aj hC) hG.kin hG.lim hs fun h hs=>aX (aS (fun h3=>?_) (fun h3=>?_))
 ·rw[if_pos h3] at hk
  exact hk _ hs.to
 rw[if_neg h3] at hk
 obtain⟨x,hl,hs⟩:=cH (hs.front (bG G Cf m M))
 refine bW (aB (aA (bE (b:=m) (o:=0) hs rfl rfl rfl rfl fun h hs=>?_)))
 have e:dH (eU Cf x M.log.length) (0+12) [pt q 0 0]=eU Cf {x with fb:=q} M.log.length:=rfl
 rw[e] at hs
 have hs:=bB (m:=m) (x:={x with fb:=q}) (M.dH (tt.1.send Cf (M.fX Cf tt.2.1).2.1).1) hl hs
 exact hfin (by omega) _ h _ _ (hs.cN Z (bG G Cf m (M.dH (tt.1.send Cf (M.fX Cf tt.2.1).2.1).1))) fun v h hs=>hk _ hs.to
end Go.Proofs.YtajjljbmfdboaaaGreatDoor
end
section
namespace Go.Proofs.YtajjljbmfdboaaaGreatDoor
open Go Go.Ab Go.Hm Go.At Go.Mc Go.Ct Go.Nt
set_option maxRecDepth 100000
variable {G:Bg} {h:AH} {L L':List HP} {Q:Value→AH→Prop} {Cf:bQ} {m:Nat} {M:cY}
theorem fx {d:Do} (hC:Cf.Ok) (hG:Gb G) (hm:gD Cf M.dQ) (hh:vB Cf M.home (2^30 - 4)) (hL:la Cf M.mI) (hs:Hs G h L) [mm:Has (bG G Cf m) L M L'] (hk:∀h',Hs G h' (bG G Cf m (M.begin Cf d.a).1::L')→Q (I (M.begin Cf d.a).2) h'):Cl Pr K 112 [pt m 0 0,.agg ⟨d.enc⟩] h Q:=by
 unfold cY.begin at hk
 refine cW (dJ (cs:=d.enc) (mm.of hs) fun p2 h hs=>?_)
 obtain⟨x,hl,hs⟩:=cH (hs.front (bG G Cf m M))
 refine aB (aA (aC (b:=m) (o:=0) hs rfl (H.Hn (C:=Cf) hC (Dy hh (by omega)) hs fun q h hs=>aR hs fun rr h hs=>aA (aC (b:=p2) (o:=0) hs rfl ?_))))
 refine aB (aA (hZ (b:=m) (o:=0) hs (by decide) (l:=Cf.enc) rfl rfl (aB (aA (aC (b:=m) (o:=0) hs rfl (aK (c:=Cf.enc++[pt x.mb 0 0]) rfl ?_))))))
 have hs:=hs.cN (H.fN G q Cf M.home) (fC Cf x.mb M.dQ)
 refine H.nr (C:=Cf) (hb:=q) (H:=M.home) hC hG.lim (Ot (p:=x.mb) hC hm hG.lim) hh hs (List.Perm.refl _) fun v h hs=>aG rfl (aG rfl ?_)
 have ej:(fun w=>Hd Cf M.dQ w d.a)=M.Xd Cf d.a:=rfl
 rw[ej] at hs ⊢
 have hbl:=Nq (C:=Cf) (H:=M.home) (l:=d.a) (j:=M.Xd Cf d.a)
 generalize jE Cf M.home d.a (M.Xd Cf d.a)=r at hk hs hbl ⊢
 refine aX (aS (fun h1=>?_) (fun h1=>?_))
 ·rw[if_pos h1] at hk
  exact hk _ (bB (m:=m) (x:=x) M hl hs).to
 dsimp only at hk
 rw[if_neg h1] at hk
 obtain⟨a,c,hv,hs2⟩:=H.ir hs
 subst hv
 have hs:Hs G h (sI a c r.2.1::_):=hs2
 refine bW (aB (aA (aC (b:=m) (o:=0) hs rfl ?_)))
 refine Cd (C:=Cf) (f:=x.fb) (F:=M.mI) (l:=r.2.1) (a:=a) (c:=c) hC (hL.Ws hC) (by omega) hG.kin hG.lim hs fun h hs=>aX (aS (fun h2=>?_) (fun h2=>?_))
 ·rw[if_pos h2] at hk
  rw[Cb h2] at hs
  exact hk _ (bB (m:=m) (x:=x) M hl hs).to
 ·rw[if_neg h2] at hk
  refine bW (aB (aA (bE (b:=m) (o:=0) hs rfl rfl rfl rfl fun h hs=>hk _ ?_)))
  have e:dH (eU Cf x M.log.length) (0+10) [pt q 0 0]=eU Cf {x with hb:=q} M.log.length:=rfl
  rw[e] at hs
  exact(bB (m:=m) (x:={x with hb:=q}) ((M.dH (gM.send Cf M.mI r.2.1).1).qJ r.1) hl hs).to
abbrev sdX (G:Bg) (Cf:bQ) (m p2 p3:Nat) (M:cY) (b:Bool) (e:Nat→Value) (d l:Nat) (st:LoopState×Option Code) (pr:Prop):HP:=sp [zD pr,nE Pr 57 (nB 218) 29 e d l st,sp [aE p2 0 [pt m 0 0],aE p3 0 [.bool b]],bG G Cf m M]
theorem cm {g:Nat} (hC:Cf.Ok) (hG:Gb G) (hg:(g:Int)<Cf.bP) (hi:vB Cf M.home (2^30)) (hs:Hs G h L) [mm:Has (bG G Cf m) L M L'] (hk:∀h',Hs G h' (bG G Cf m M::L')→Q (.bool (M.kP Cf g)) h'):Cl Pr K 57 [pt m 0 0,I g] h Q:=by
 refine cW (dJ (mm.of hs) fun p2 h hs=>?_)
 obtain⟨x,hl,hs⟩:=cH (hs.front (bG G Cf m M))
 refine aC (b:=p2) (o:=0) hs rfl (aB (aA (aC (b:=m) (o:=0) hs rfl (Gs (C:=Cf) (m:=M.dQ) hs fun h hs=>bC (bK hs fun p3 h hs=>bA (b:=p3) hs rfl rfl rfl rfl fun h hs=>?_)))))
 generalize hb:decide (M.dQ.phase g=2)=b at hs
 refine aC (b:=p2) (o:=0) hs rfl (aB (aA (hZ (b:=m) (o:=0) hs (by decide) (l:=Cf.enc) rfl rfl (A5 (C:=Cf) hs fun q1 q2 h hs=>?_))))
 have hs:=bB (m:=m) (x:=x) M hl hs
 refine mW hs fun d h hs=>?_
 intro e he
 refine qP hs fun l h hs=>vZ rfl ?_
 have hs:Hs G h (sp [aE q1 0 Cf.enc,aE q2 0 [I g]]::sdX G Cf m p2 p3 M b e d l (.ready,none) (∀l∈([]:List Nat),¬fG Cf M.home l>0)::mk d ()::L'):=by
  have hs:=(hs.cN (aE p2 0 [pt m 0 0]) (aE p3 0 [.bool b])).Ex
  have hs:=hs.cU (nE Pr 57 (nB 218) 29 e d l (.ready,none)) (sp [aE p2 0 [pt m 0 0],aE p3 0 [.bool b]]) (bG G Cf m M)
  have hs:=Hs.J8 (Hs.Qt (p:=∀l∈([]:List Nat),¬fG Cf M.home l>0) (by simp) hs)
  exact hs.to
 refine(Dm (C:=Cf) hC hg (p:=q1) (q:=q2) hG.lim).fold (X:=fun done=>sdX G Cf m p2 p3 M b e d l (.ready,none) (∀l∈done,¬fG Cf M.home l>0)) (Z:=fun _ y=>sdX G Cf m p2 p3 M false e d l (.done,some (.exit 0)) (fG Cf M.home y>0∧(y=g*2∨y=g*2+1))) hs ?_ ?_ ?_
 ·intro done y h N hp hs
  obtain⟨hd,hs⟩:=gF hs
  have hs:=hs.Bk
  have hy:y=g*2∨y=g*2+1:=by
   obtain⟨ys,hys⟩:=hp
   have:y∈[g*2,g*2+1]:=by rw[←hys];simp
   simpa using this
  have hs:=(hs.front (sp [aE p2 0 [pt m 0 0],aE p3 0 [.bool b]])).D2
  obtain⟨x,hl,hs⟩:=cH (hs.front (bG G Cf m M))
  refine rW (xD hs) he (kA hs fun h hs=>aC (b:=p2) (o:=0) hs rfl (aB (aA (aC (b:=m) (o:=0) hs rfl (H.Pv (C:=Cf) (H:=M.home) hi hs fun h hs=>?_)))))
  have hs:=bB (m:=m) (x:=x) M hl hs
  refine kG (aS (fun c1=>?_) (fun c1=>?_))
  ·refine bA (b:=p3) hs rfl rfl rfl rfl fun h hs=>jS hs fun h hs=> .inr ⟨rfl,?_⟩
   have hs:=(hs.cN (aE p2 0 [pt m 0 0]) (aE p3 0 [.bool false])).Ex
   have hs:=hs.cU (nE Pr 57 (nB 218) 29 e d l (.done,some (.exit 0))) (sp [aE p2 0 [pt m 0 0],aE p3 0 [.bool false]]) (bG G Cf m M)
   exact(Hs.J8 (Hs.Qt (p:=fG Cf M.home y>0∧(y=g*2∨y=g*2+1)) ⟨c1,hy⟩ hs)).to
  ·refine jS hs fun h hs=> .inl ⟨rfl,?_⟩
   have hs:=(hs.cN (aE p2 0 [pt m 0 0]) (aE p3 0 [.bool b])).Ex
   have hs:=hs.cU (nE Pr 57 (nB 218) 29 e d l (.ready,none)) (sp [aE p2 0 [pt m 0 0],aE p3 0 [.bool b]]) (bG G Cf m M)
   refine(Hs.J8 (Hs.Qt (p:=∀l∈done++[y],¬fG Cf M.home l>0) ?_ hs)).to
   intro z hz
   rcases List.mem_append.1 hz with hz|hz
   ·exact hd z hz
   ·rw[List.mem_singleton.1 hz];exact c1
 ·intro v h hs
  obtain⟨hd,hs⟩:=gF (hs.front (sdX G Cf m p2 p3 M b e d l (.ready,none) (∀l∈[g*2,g*2+1],¬fG Cf M.home l>0)))
  have hs:=hs.Bk
  have e1:M.kP Cf g=b:=by
   have h1:=hd (g*2) (by simp)
   have h2:=hd (g*2+1) (by simp)
   rw[←hb]
   unfold cY.kP
   simp only[Int.natCast_mul,Int.natCast_add] at h1 h2
   rw[decide_eq_false (p:=fG Cf M.home (g*2)>0) h1,decide_eq_false (p:=fG Cf M.home (g*2+1)>0) h2]
   simp
  rw[e1] at hk
  have hs:=(hs.front (sp [aE p2 0 [pt m 0 0],aE p3 0 [.bool b]])).D2
  exact qQ hs fun h hs=>qL (aC (b:=p3) (o:=0) hs rfl (mH hs fun h hs=>jU (hk _ hs.to)))
 ·intro done y v h hp hs
  obtain⟨hd,hs⟩:=gF (hs.front (sdX G Cf m p2 p3 M false e d l (.done,some (.exit 0)) (fG Cf M.home y>0∧(y=g*2∨y=g*2+1))))
  have hs:=hs.Bk
  have e1:M.kP Cf g=false:=by
   unfold cY.kP
   rcases hd.2 with e|e
   ·have:=hd.1
    rw[e] at this
    simp only[Int.natCast_mul] at this
    rw[decide_eq_true (p:=fG Cf M.home (g*2)>0) this]
    simp
   ·have:=hd.1
    rw[e] at this
    simp only[Int.natCast_mul,Int.natCast_add] at this
    rw[decide_eq_true (p:=fG Cf M.home (g*2+1)>0) this]
    simp
  rw[e1] at hk
  have hs:=(hs.front (sp [aE p2 0 [pt m 0 0],aE p3 0 [.bool false]])).D2
  exact I9 hs fun h hs=>O7 rfl (aC (b:=p3) (o:=0) hs rfl (mH hs fun h hs=>jU (hk _ hs.to)))
end Go.Proofs.YtajjljbmfdboaaaGreatDoor
end
section
namespace Go.Proofs.YtajjljbmfdboaaaGreatDoor
open Go Go.Ab Go.Hm Go.At Go.Mc Go.Ct Go.Nt
theorem Um {H:jO} {g:Nat}:xM H g=fun i=>((H i).1,zL (fun i=>(H i).2) g i):=by
 funext i
 unfold xM zL bT
 by_cases h1:i=g*2+1
 ·subst h1;simp
 ·by_cases h2:i=g*2
  ·subst h2;simp
  ·rw[if_neg (by omega),if_neg h1,if_neg h2]
theorem Ma {m:Mon} {g:Int} {u:Mc.iG} (h:(m.over g).2.1=some u):m.run g=some u∧(m.over g).2.2=0∧m.has g:=by
 unfold Mon.over at h ⊢
 by_cases hg:m.has g
 ·rw[if_neg (by simpa using hg)] at h ⊢
  cases hr:m.run g with
  |none=>rw[hr] at h;cases h
  |some r=>
   rw[hr] at h
   dsimp only at h ⊢
   split at h
   ·cases h
   ·rename_i hp
    cases h
    rw[if_neg hp]
    exact⟨rfl,rfl,hg⟩
 ·rw[if_pos hg] at h;cases h
theorem Mg {m:Mon} {g:Int} (h:(m.over g).2.1=none):(m.over g).1=m∧(m.over g).2.2≠0:=by
 unfold Mon.over at h ⊢
 split
 ·exact⟨rfl,by dsimp only;omega⟩
 ·rename_i hg
  rw[if_neg hg] at h
  split
  ·exact⟨rfl,by dsimp only;omega⟩
  ·rename_i r hr
   rw[hr] at h
   dsimp only at h
   split
   ·exact⟨rfl,by dsimp only;omega⟩
   ·rename_i hp
    rw[if_neg hp] at h
    cases h
set_option maxRecDepth 100000
variable {G:Bg} {h:AH} {L L':List HP} {Q:Value→AH→Prop} {Cf:bQ} {m:Nat} {M:cY}
theorem Wz {d:Do} (hC:Cf.Ok) (hG:Gb G) (hm:gD Cf M.dQ) (hh:vB Cf M.home (2^30)) (hst:∀i:Nat,(i:Int)<Cf.aF→(M.aH i).Ok) (hlog:M.log.length≤2^30) (hs:Hs G h L) [mm:Has (bG G Cf m) L M L'] (hk:∀h',Hs G h' (bG G Cf m (M.finish Cf d.a).1::L')→Q (I (M.finish Cf d.a).2) h'):Cl Pr K 113 [pt m 0 0,.agg ⟨d.enc⟩] h Q:=by
 unfold cY.finish at hk
 refine cW (dJ (cs:=d.enc) (mm.of hs) fun p2 h hs=>aR hs fun rr h hs=>?_)
 obtain⟨x,hl,hs⟩:=cH (hs.front (bG G Cf m M))
 refine aA (aC (b:=p2) (o:=0) hs rfl (aU (aS (fun h1=>?_) (fun h1=>?_))))
 ·rw[if_pos (by omega)] at hk
  exact hk _ (bB (m:=m) (x:=x) M hl hs).to
 refine aA (aC (b:=p2) (o:=0) hs rfl (aB (aA (aA (aC (b:=m) (o:=0) hs rfl (dM (aS (fun h2=>?_) (fun h2=>?_))))))))
 ·rw[if_pos (by omega)] at hk
  exact hk _ (bB (m:=m) (x:=x) M hl hs).to
 rw[if_neg (by omega)] at hk
 obtain⟨w,a,b,c⟩:=d
 dsimp only at h1 h2 hk
 obtain⟨g,rfl⟩:=Int.eq_ofNat_of_zero_le (show 0≤a by omega)
 have hs:=bB (m:=m) (x:=x) M hl hs
 refine bW (aA (aC (b:=p2) (o:=0) hs rfl (cm (Cf:=Cf) (M:=M) hC hG (by omega) hh hs fun h hs=>bU (dI (dA (fun h3=>?_) (fun h3=>?_))))))
 rotate_left
 ·rw[if_pos h3] at hk
  exact hk _ hs.to
 rw[if_neg (by rw[h3];simp)] at hk
 obtain⟨x,hl,hs⟩:=cH (hs.front (bG G Cf m M))
 refine bW (aR hs fun r2 h hs=>aB (aA (aC (b:=m) (o:=0) hs rfl (aA (aC (b:=p2) (o:=0) hs rfl ?_)))))
 refine U3 (C:=Cf) (m:=M.dQ) (p:=x.mb) hC hm hs fun h hs=>aG rfl (aG rfl (jN (r:=r2) (i:=10) (n:=13) (D:=[]) hs rfl rfl fun p5 h hs=>bA (b:=p5) hs rfl rfl rfl rfl fun h hs=>cJ (aG rfl gW) (aX (aS (fun h4=>?_) (fun h4=>?_)))))
 ·cases hu:(M.dQ.over (g:Int)).2.1 with
  |some u=>exact absurd (Ma hu).2.1 h4
  |none=>
   rw[hu] at hk
   dsimp only at hk
   rw[(Mg hu).1] at hs
   exact hk _ (bB (m:=m) (x:=x) M hl hs).to
 cases hu:(M.dQ.over (g:Int)).2.1 with
 |none=>exact absurd (Mg hu).2 h4
 |some u=>
 obtain⟨u1,_,u2⟩:=Ma hu
 obtain⟨o1,o2,o3,o4,o5⟩:=hm.run g u (g9 u1)
 rw[hu] at hk hs
 dsimp only at hk
 simp only[Option.getD_some] at hs
 obtain⟨i,hi⟩:=Int.eq_ofNat_of_zero_le o4.1
 have hic:(i:Int)<Cf.aF:=by omega
 have ec:(lJ u)[0+0+0]?=some (I i):=by show some (I u.core)=_;rw[hi]
 have eg:(lJ u)[0+0+3]?=some (I g):=by show some (I u.cB)=_;rw[o2]
 rw[show u.core.toNat=i by rw[hi];rfl,o2] at hk
 refine bW (aA (aC (b:=p5) (o:=0) hs rfl (dA (fun h5=>?_) (fun h5=>?_))))
 ·rw[if_pos h5] at hk
  obtain⟨mb,b,o,cap,hs⟩:=H.oQ (hs.front (H.fN G x.hb Cf M.home))
  refine bW (aR hs fun r3 h hs=>aB (aA (aC (b:=m) (o:=0) hs rfl (aB (aA (aC (b:=x.hb) (o:=0) hs rfl (aA (aA (aC (b:=p5) (o:=0) hs eg ?_)))))))))
  refine A.jl (C:=Cf) (mb:=mb) (g:=g) (mem:=fun i=>(M.home i).2) hC hG.lim hs (by omega) fun _ h hs=>aA (aA (aC (b:=p5) (o:=0) hs ec ?_))
  have hs:=H.qF (H:=xM M.home g) (hb:=x.hb) (C:=Cf) (mb:=mb) (b:=b) (o:=o) (cap:=cap) (by rw[Um];exact hs.kV (aE x.hb 0 (H.kL mb Cf b o cap)) (eV G Cf.lines mb Cf (zL (fun i=>(M.home i).2) g)) (hole G 25 247 (some ⟨b,o,none⟩) cap Cf.lines b o) (dC Cf.lines fun i=>H.eH b (o+i*25) (M.home i).1))
  have hs:=bB (m:=m) (x:=x) ((M.mG (M.dQ.over g).1).qJ (xM M.home g)) hl hs
  exact lR (Cf:=Cf) (M:=(M.mG (M.dQ.over g).1).qJ (xM M.home g)) hic (hst i hic) hlog hs fun h hs=>hk _ hs.to
 ·rw[if_neg (by rw[h5];simp)] at hk
  have hs:=bB (m:=m) (x:=x) (M.mG (M.dQ.over g).1) hl hs
  exact aA (aA (aC (b:=p5) (o:=0) hs ec (lR (Cf:=Cf) (M:=M.mG (M.dQ.over g).1) hic (hst i hic) hlog hs fun h hs=>hk _ hs.to)))
end Go.Proofs.YtajjljbmfdboaaaGreatDoor
end
section
namespace Go.Proofs.YtajjljbmfdboaaaGreatDoor
open Go Go.Ab Go.Hm Go.At Go.Mc Go.Ct Go.Nt
def Ak:List Value:=[.func (.func 110) #[] #[],.func (.func 111) #[] #[],.func (.func 112) #[] #[],.func (.func 113) #[] #[]]
set_option maxRecDepth 100000
variable {G:Bg} {h:AH} {L L':List HP} {Q:Value→AH→Prop} {Cf:bQ} {m N:Nat} {M:cY}
theorem ia (hs:Hs G h L) (hk:∀h',Hs G h' L→Q (.agg ⟨Ak⟩) h'):Cl Pr K 53 [] h Q:=
 cW (bK hs fun p h hs=>aK (c:=Ak) rfl (bA (b:=p) hs rfl rfl rfl rfl fun h hs=>aN (b:=p) (o:=0) hs (by decide) (l:=Ak) rfl rfl (hk _ hs.tail)))
theorem s6 {d:Do} {f:Value} (hC:Cf.Ok) (hG:Gb G) (hI:eN Cf N M) (hN:N≤2^29) (hw:0≤d.kE∧d.kE≤3) (hf:Ak[d.kE.toNat]?=some f) (hs:Hs G h L) [mm:Has (bG G Cf m) L M L'] (hk:∀h',Hs G h' (bG G Cf m (M.Fj Cf d).1::L')→Q (I (M.Fj Cf d).2) h'):wX Pr K f [pt m 0 0,.agg ⟨d.enc⟩] h Q:=by
 unfold cY.Fj at hk
 have hw:d.kE=0∨d.kE=1∨d.kE=2∨d.kE=3:=by omega
 have hlog:=hI.log
 rcases hw with e|e|e|e
 all_goals
  rw[e] at hf
  cases hf
 ·rw[if_pos e] at hk
  exact oN rfl (iq hC hG (fun i hi=>hI.step hC hN hi) hs hk)
 ·rw[if_neg (by omega),if_pos e] at hk
  exact oN rfl (R5 hC hG hI.mI.len (fun n he hn=>by rw[←hn];exact hI.take hC hN (S3 hI.mI he).1) (Sx hI.mI).len hs hk)
 ·rw[if_neg (by omega),if_neg (by omega),if_pos e] at hk
  exact oN rfl (fx hC hG hI.dQ (hI.home.h (by omega)) hI.mI.len hs hk)
 ·rw[if_neg (by omega),if_neg (by omega),if_neg (by omega),if_pos e] at hk
  exact oN rfl (Wz hC hG hI.dQ (hI.home.h (by omega)) hI.yZ (by omega) hs hk)
theorem Wt {l:List Do} {i:Nat} {d:Do} (h:l[i]?=some d):(l.map Do.enc)[i]?=some d.enc:=by rw[List.getElem?_map,h];rfl
theorem y4 {l:List Do} {e:TypeId} {v:Value} (hC:Cf.Ok) (hG:Gb G) (hI:eN Cf N M) (hN:N+2*l.length≤2^29) (hs:Hs G h (wY G 4 e v (l.map Do.enc)::bG G Cf m M::L)) (hk:∀h',Hs G h' (wY G 4 e v (l.map Do.enc)::bG G Cf m (M.sY Cf l 0).1::L)→Q (.tuple ⟨[I (M.sY Cf l 0).2.1,I (M.sY Cf l 0).2.2]⟩) h'):Cl Pr K 15 [pt m 0 0,v] h Q:=by
 obtain⟨a,c,hv⟩:=sW hs
 rw[List.length_map] at hv
 have hlen:∀{k:Value→Prop},k (I l.length)→aZ (kH v) k:=fun hk=>by rw[hv];exact bZ hk
 refine cW (cS (bS (bW (ia hs fun h hs=>bK hs fun p h hs=>bA (b:=p) hs rfl rfl rfl rfl fun h hs=>hlen ?_))))
 have loop:∀(f i N:Nat) (M:cY) (h:AH),i+f=l.length→eN Cf N M→N+2*f≤2^29→(∀h',Hs G h' (wY G 4 e v (l.map Do.enc)::bG G Cf m (M.sY Cf (l.drop i) i).1::L)→Q (.tuple ⟨[I (M.sY Cf (l.drop i) i).2.1,I (M.sY Cf (l.drop i) i).2.2]⟩) h')→
   Hs G h (wY G 4 e v (l.map Do.enc)::aE p 0 Ak::bG G Cf m M::L)→Dd 15 2 [] Q [(pt m 0 0),v,(pt p 0 0),v,(I l.length),(I i)] h:=by
  intro f
  induction f with
  |zero=>
   intro i N M h hi hI hN hk hs
   rw[List.drop_of_length_le (by omega)] at hk
   unfold cY.sY at hk
   have hii:i=l.length:=by omega
   subst hii
   exact bW (aU (aI (by omega) (hlen (hk _ hs.to))))
  |succ f ih=>
   intro i N M h hi hI hN hk hs
   obtain⟨d,hd,hdr⟩:=kT (l:=l) (i:=i) (by omega)
   rw[hdr] at hk
   unfold cY.sY at hk
   refine bW (aU (bM (by omega) (bW (vk hs (by decide) (Wt hd) (bK hs fun p3 h hs=>bA (b:=p3) hs rfl rfl rfl rfl fun h hs=>aA (aC (b:=p3) (o:=0) hs rfl (aU (aS (fun h1=>?_) (fun h1=>?_)))))))))
   ·have e1:M.Fj Cf d=(M,1):=by unfold cY.Fj;rw[if_neg (by omega),if_neg (by omega),if_neg (by omega),if_neg (by omega)]
    rw[e1,if_pos (show(M,(1:Int)).2≠0 by show(1:Int)≠0;omega)] at hk
    exact hk _ hs.to
   refine aA (aC (b:=p3) (o:=0) hs rfl (kG (aS (fun h2=>?_) (fun h2=>?_))))
   ·have e1:M.Fj Cf d=(M,1):=by unfold cY.Fj;rw[if_neg (by omega),if_neg (by omega),if_neg (by omega),if_neg (by omega)]
    rw[e1,if_pos (show(M,(1:Int)).2≠0 by show(1:Int)≠0;omega)] at hk
    exact hk _ hs.to
   have hdl:d.kE.toNat<4:=by omega
   have hf:Ak[d.kE.toNat]?=some (Ak[d.kE.toNat]'hdl):=List.getElem?_eq_getElem hdl
   refine bW (aR hs fun rr h hs=>aA (aC (b:=p3) (o:=0) hs rfl (fA (by omega) (by omega) (aC (b:=p) (o:=0) hs (by simpa using hf) (aN (b:=p3) (o:=0) hs (by decide) (l:=d.enc) rfl rfl ?_)))))
   refine s6 hC hG hI (by omega) (by omega) hf hs fun h hs=>aX (aS (fun h3=>?_) (fun h3=>?_))
   ·rw[if_pos h3] at hk
    exact hk _ hs.to
   ·rw[if_neg h3] at hk
    refine bW (bI (by omega) ?_)
    exact ih (i+1) (N+2) _ h (by omega) (xo hI hC) (by omega) hk hs.to
 exact loop l.length 0 N M h (by omega) hI (by omega) (by simpa using hk) hs.to
end Go.Proofs.YtajjljbmfdboaaaGreatDoor
end
section
namespace Go.Proofs.YtajjljbmfdboaaaGreatDoor.A
open Go Go.Ab Go.Hm Go.At Go.Is
set_option maxRecDepth 100000
variable {G:Bg} {h:AH} {L L':List HP} {Q:Value→AH→Prop}
abbrev zS:List Value:=[I 0,I 0,I 0,I 0,I 0,I 0,.bool false,.slice none 0 0]
theorem Wk {B p b o cap nn c mb:Nat} {a:Option Addr} {C:bQ} {pv wv:Value} {vi:List Value} {ps:List (List Ins)} {ws:List Int} (hB:B≤4) (hps:ps.length=B) (hws:ws.length=B) (hp:∀p∈ps,p.length≤32)
  (hv:vi.length=ps.length) (ho:rL G 1 pv (vi.map fun x=>[x]).length (fun i=>(vi.map fun x=>[x]).getD i [])) (hi:∀(i:Nat) (v:Value) (p:List Ins),vi[i]?=some v→ps[i]?=some p→S9 G v p) (hw:F0 G wv ws)
  (hk:∀h',Hs G h' (m8 p C (.slice (some ⟨b,o,none⟩) B cap) a nn c mb::dC B (fun i=>vO b (o+i*8) (pT (ps.getD i []) (ws.getD i 0)))::L)→Q (.tuple ⟨[pt p 0 0,I 0]⟩) h'):
  ∀(r i:Nat) (h:AH),i+r=B→Hs G h (m8 p C (.slice (some ⟨b,o,none⟩) B cap) a nn c mb::dC B (fun j=>if j<i then vO b (o+j*8) (pT (ps.getD j []) (ws.getD j 0)) else aE b (o+j*8) zS)::L)→
  Dd 32 13 [] Q [pv,wv,(pt p 0 0),(I B),(I i)] h:=by
 intro r
 induction r with
 |zero=>
  intro i h hib hs
  obtain rfl:i=B:=by omega
  refine bW (aU (aI (by omega) (hk _ ?_)))
  exact(qB (g:=fun j=>vO b (o+j*8) (pT (ps.getD j []) (ws.getD j 0))) (fun j hj=>by rw[if_pos hj]) hs.kI).kI
 |succ r ih=>
  intro i h hir hs
  have hib:i<B:=by omega
  obtain⟨pp,hpp,_⟩:=lU (l:=ps) (i:=i) (by omega)
  obtain⟨v,hvi,_⟩:=lU (l:=vi) (i:=i) (by omega)
  obtain⟨w,hwi,_⟩:=lU (l:=ws) (i:=i) (by omega)
  have hpl:pp.length≤32:=hp pp (List.mem_of_getElem? hpp)
  have hs:=(hs.front (dC B fun j=>if j<i then vO b (o+j*8) (pT (ps.getD j []) (ws.getD j 0)) else aE b (o+j*8) zS)).kR i hib
  simp only[Nat.lt_irrefl,if_false] at hs
  refine bW (aU (bM (by omega) (bW (aB (aA (aC (b:=p) (o:=0) hs rfl (dU hib ?_)))))))
  refine tV (xO (e:=3) (by simp) ho hs) (x:=[v]) (by simp[hvi]) rfl ?_
  refine wq (by rw[G7];omega) (by rw[La];exact W1 _) (F4 (hi i v pp hvi hpp) hs) fun a' c' h hs=>?_
  rw[G7,La] at hs
  rw[G7]
  refine aB (aA (bE (b:=b) (o:=o+i*8) hs rfl rfl rfl rfl fun h hs=>?_))
  refine tV (oF hw hs) (x:=[I w]) (by simp[Af,hwi]) rfl ?_
  refine aB (aA (aA (bE (b:=b) (o:=o+i*8) hs rfl rfl rfl rfl fun h hs=>?_)))
  have hs:=hs.sg (b:=b) (o:=o+i*8) (c:=(⟨fun _=>0,0,w,false,pp⟩:aY).core++[.slice a' pp.length c']) rfl
  refine F2 (s:=⟨fun _=>0,0,w,false,pp⟩) (a:=a') (c:=c') (by omega) (hs.cN (aE b (o+i*8) ((⟨fun _=>0,0,w,false,pp⟩:aY).core++[.slice a' pp.length c'])) (dB 4 86 a' c' (pp.length,xQ pp))) fun h hs=>bI (by omega) ?_
  refine ih (i+1) h (by omega) ?_
  have hs:=Ww (b:=b) (o:=o+i*8) (s:=(⟨fun _=>0,0,w,false,pp⟩:aY).nA 0) hs
  have e:(⟨fun _=>0,0,w,false,pp⟩:aY).nA 0=pT (ps.getD i []) (ws.getD i 0):=by
   rw[List.getD_eq_getElem?_getD,List.getD_eq_getElem?_getD,hpp,hwi];rfl
  rw[e] at hs
  have e0:vO b (o+i*8) (pT (ps.getD i []) (ws.getD i 0))=(fun j=>if j<i+1 then vO b (o+j*8) (pT (ps.getD j []) (ws.getD j 0)) else aE b (o+j*8) zS) i:=by simp only[Nat.lt_succ_self,if_true]
  rw[e0] at hs
  have hs:=hs.nG (n:=B) (i:=i) (fun j=>if j<i then vO b (o+j*8) (pT (ps.getD j []) (ws.getD j 0)) else aE b (o+j*8) zS) (fun j=>if j<i+1 then vO b (o+j*8) (pT (ps.getD j []) (ws.getD j 0)) else aE b (o+j*8) zS) hib (fun j _ hne=>by
   have:(j<i+1)=(j<i):=propext ⟨fun h=>by omega,fun h=>by omega⟩
   simp only[this])
  exact hs.to
theorem wF:∀{ps:List (List Ins)},qN ps=0→∀p∈ps,(jH p).2=0
 |[],_,p,hp=>by simp at hp
 |q::l,h,p,hp=>by
  rw[qN] at h
  split at h
  ·rename_i hn;exact absurd h hn
  ·rename_i hn
   rcases List.mem_cons.1 hp with rfl|hp
   ·omega
   ·exact wF h p hp
theorem Mj {p:List Ins} (h:(jH p).2=0):p.length≤32:=by
 unfold jH at h
 split at h
 ·cases h
 ·omega
theorem zt {C:bQ} {pv wv ov vv:Value} {ps:List (List Ins)} {ws os vs:List Int} (hn:ps.length≤1000∧ws.length<1000∧os.length<1000) (hl:Ob G 0 fB) (hg:Ob G 1 sF) (ho:Vu G pv wv ov vv ps ws os vs) (hs:Hs G h L)
  (k1:Aw C ps ws os vs≠0→∀h',Hs G h' L→Q (.tuple ⟨[.pointer none,I (Aw C ps ws os vs)]⟩) h')
  (k2:Aw C ps ws os vs=0→∀p h',Hs G h' (aDg G p (aDe C ps ws os vs)::L)→Q (.tuple ⟨[pt p 0 0,I 0]⟩) h'):Cl Pr K 32 [.agg ⟨C.enc⟩,pv,wv,ov,vv] h Q:=by
 obtain⟨⟨vi,hv,hpo,hpi⟩,hwo,hoo,hvo⟩:=ho
 have lp:∀{k:Value→Prop},k (I ps.length)→aZ (kH pv) k:=fun hk=>rY hpo (by simpa [hv] using hk)
 have lw:∀{k:Value→Prop},k (I ws.length)→aZ (kH wv) k:=fun hk=>rY hwo (by simpa [qS] using hk)
 have lo:∀{k:Value→Prop},k (I os.length)→aZ (kH ov) k:=fun hk=>rY hoo (by simpa [qS] using hk)
 have lv:∀{k:Value→Prop},k (I vs.length)→aZ (kH vv) k:=fun hk=>rY hvo (by simpa [qS] using hk)
 unfold Aw at k1 k2
 refine cW (dJ hs fun p5 h hs=>aN hs (by decide) (l:=C.enc) rfl rfl (lC hl hs fun h hs=>?_))
 by_cases hC:C.Ok
 rotate_left
 ·rw[if_pos hC] at k1
  rw[if_neg hC]
  exact aX (bM (by omega) (k1 (by omega) _ hs.tail))
 rw[if_neg (by simpa using hC)] at k1 k2
 rw[if_pos hC]
 have hln:=bQ.fJ hC
 have hb:=bQ.bk hC
 have hco:C.aF≤4∧1≤C.aF:=⟨hC.1.2,hC.1.1⟩
 have hgr:C.bP≤16:=hC.2.1.2
 have bad:((ps.length:Int)≠C.aF∨(ws.length:Int)≠C.aF∨(os.length:Int)≠C.bP∨vs.length≠C.lines*2)→∀h',Hs G h' (aE p5 0 C.enc::L)→Q (.tuple ⟨[.pointer none,I 1]⟩) h':=fun hb h' hs=>by
  rw[if_pos hb] at k1
  exact k1 (by omega) _ hs.tail
 refine aX (aI (by omega) (bW (lp (aA (aC (b:=p5) (o:=0) hs rfl (aX (aS (fun g=>bad (.inl g) _ hs) (fun g1=>lw (aA (aC (b:=p5) (o:=0) hs rfl (aX (aS (fun g=>bad (.inr (.inl g)) _ hs) (fun g2=>lo (aA (aC (b:=p5) (o:=0) hs rfl (aX (aS (fun g=>bad (.inr (.inr (.inl g))) _ hs) (fun g3=>lv (aN (b:=p5) (o:=0) hs (by decide) (l:=C.enc) rfl rfl (Sz hC hl hs fun h hs=>aX (aS (fun g=>bad (.inr (.inr (.inr (by omega)))) _ hs) (fun g4=>?_))))))))))))))))))))))
 clear bad
 rw[if_neg (by omega)] at k1 k2
 refine bW (lp (Wx (_C:=C) hv hpo hpi hg hn.1 (fun e h hs=>?_) (fun e h hs=>?_) ps.length 0 h (by omega) rfl hs))
 ·rw[if_pos e] at k1
  exact k1 e _ hs.tail
 rw[if_neg (by simpa using e)] at k1 k2
 have hbad:¬(within 0 3 ws=true∧within 0 4 os=true)→∀h',Hs G h' (aE p5 0 C.enc::L)→Q (.tuple ⟨[.pointer none,I 10]⟩) h':=fun hb h' hs=>by
  rw[if_pos hb] at k1
  exact k1 (by omega) _ hs.tail
 refine bW (Dt (l:=ws) hn.2.1 (oF hwo hs) fun h hs=>bU (dI (dA (fun g1=>?_) (fun g1=>hbad (by simp[g1]) _ hs.tail))))
 refine Dt (l:=os) hn.2.2 (oF hoo hs.tail) fun h hs=>bU (dI (dA (fun g2=>?_) (fun g2=>hbad (by simp[g2]) _ hs.tail)))
 clear hbad
 rw[if_neg (by simp[g1,g2])] at k1 k2
 have hs:=hs.tail
 refine bW (aN (b:=p5) (o:=0) hs (by decide) (l:=C.enc) rfl rfl (M1 hC hl hs fun mb h hs=>aG rfl (aG rfl (aX (aI (by omega) (bW (lv ?_)))))))
 refine U5 (L:=aE p5 0 C.enc::L) hC hvo hl (by omega) (fun h hs=>?_) vs.length 0 mY h (by omega) rfl hs
 refine bW (aR hs fun rv h hs=>aN (b:=p5) (o:=0) hs (by decide) (l:=C.enc) rfl rfl (aA (aC (b:=p5) (o:=0) hs rfl (O3 (by omega) (by omega) (by omega) ?_))))
 dsimp only
 refine iJ hs rfl rfl ?_ rfl ?_ ?_
 ·rw[fP,oP (W:=8) (fun _=>rfl)]
 ·rw[fP];exact nZ (fun _=>rfl) _
 intro a h hs
 obtain⟨b,o,ha,hs⟩:=Hs.Im (W:=8) rfl (by omega) hs
 cases ha
 refine va (by rw[qS];omega) (by rw[Lr];exact Vh _) (oF hoo hs) fun a2 c2 h hs=>?_
 rw[qS,Lr] at hs
 rw[qS]
 refine aK (c:=C.enc++[.slice (some ⟨b,o,none⟩) C.aF.toNat C.aF.toNat,.slice a2 os.length c2,pt mb 0 0]) rfl (xP hs rfl rfl fun p h hs=>?_)
 refine cJ (aN (b:=p5) (o:=0) hs (by decide) (l:=C.enc) rfl rfl (oJ (by simp[bQ.enc,gW]))) (cJ (aA cZ) (cJ (aC (b:=p5) (o:=0) hs rfl gW) (cJ cZ (aB (aA (aC (b:=p) (o:=0) hs rfl (bZ ?_)))))))
 have hs:=hs.cN (m8 p C (.slice (some ⟨b,o,none⟩) C.aF.toNat C.aF.toNat) a2 os.length c2 mb) (dC C.aF.toNat fun i=>aE b (o+i*8) zS)
 refine Wk (B:=C.aF.toNat) (b:=b) (o:=o) (C:=C) (ps:=ps) (ws:=ws) (by omega) (by omega) (by omega) (fun p hp=>Mj (wF e p hp)) hv hpo hpi hwo ?_ C.aF.toNat 0 h (by omega) (by simpa using hs)
 intro h hs
 refine k2 rfl p _ ?_
 have hs:=bx (b:=b) (o:=o) (cap:=C.aF.toNat) (a:=a2) (c:=c2) (mb:=mb) (m:=aDe C ps ws os vs) ((hs.kV (m8 p C (.slice (some ⟨b,o,none⟩) C.aF.toNat C.aF.toNat) a2 os.length c2 mb) (dB 1 3 a2 c2 (os.length,os.map I)) (eV G C.lines mb C (words mY vs 0)) (hole G 8 213 (some ⟨b,o,none⟩) C.aF.toNat C.aF.toNat b o)).aA5 (dC C.aF.toNat fun i=>vO b (o+i*8) (pT (ps.getD i []) (ws.getD i 0))))
 exact hs.to
end Go.Proofs.YtajjljbmfdboaaaGreatDoor.A
end
section
namespace Go.Proofs.YtajjljbmfdboaaaGreatDoor
open Go Go.Ab Go.Hm Go.At Go.Mc Go.Ct Go.Nt Go.Is
def H0 (C:bQ) (pv wv ov vv:Value):List Value:=C.enc++[pv,wv,ov,vv]
def S5 (ps:List (List Ins)) (ws:List Int) (i:Nat):aY:=pT (ps.getD i []) (ws.getD i 0)
set_option maxRecDepth 100000
variable {G:Bg} {h:AH} {L L':List HP} {Q:Value→AH→Prop} {Cf:bQ} {m N:Nat} {M:cY}
def mkE (C:bQ) (a1 a2 a3:Option Addr) (n c1 c2 c3:Nat):List Value:=C.enc++[.slice a1 n c1,.slice a2 n c2,.slice a3 n c3,.pointer none,.pointer none,.pointer none,.slice none 0 0]
theorem Nr {e:TypeId} {a a2:Option Addr} {c c2 q:Nat} {l:List Nat} {k:Value×AH→Prop} {N:List HP} (hb:l.length≤100) (hs:Hs G h L) [mm:Has (ls pE 1 e a c) L l L'] [m2:dX (dB 1 e a2 c2 (1,[pt q 0 0])) L' N]
  (hk:∀a' c' h',Hs G h' (ls pE 1 e a' c' (l++[q])::N)→k (.slice a' (l.length+1) c',h')):aZ (iO 1 8 e h (.slice a l.length c) (.slice a2 1 c2)) k:=by
 have hs:=mm.of hs
 have hs2:Hs G h (dB 1 e a2 c2 (1,[pt q 0 0])::ls pE 1 e a c l::N):=(hs.perm (m2.perm.cons _)).kI
 have hs3:=(uF (enc:=pE) (x:=q) hs2).kI
 have:=rX (enc:=pE) (e:=e) (l:=l) (l2:=[q]) (a:=a) (c:=c) (a2:=a2) (c2:=c2) (bytes:=8) (k:=k) hs3 (by simp;omega) fun a' c' h hs=>by
  have:=hk a' c' h hs.kI.tail
  rw[List.length_append,List.length_singleton]
  exact this
 exact this
theorem H7 {p2 p5:Nat} {pv wv ov vv:Value} {vi:List Value} {ps:List (List Ins)} {ws:List Int} (hC:Cf.Ok) (hG:Gb G) (hg:Ob G 1 sF) (hps:ps.length=Cf.aF.toNat) (hws:ws.length=Cf.aF.toNat) (hww:∀w∈ws,0≤w∧w≤3) (hpc:∀p∈ps,(jH p).2=0)
  (hv:vi.length=ps.length) (ho:rL G 1 pv (vi.map fun x=>[x]).length (fun i=>(vi.map fun x=>[x]).getD i [])) (hi:∀(i:Nat) (v:Value) (p:List Ins),vi[i]?=some v→ps[i]?=some p→A.S9 G v p) (hw:A.F0 G wv ws)
  (hk:∀lc lk lq a1 a2 a3 c1 c2 c3 h',lc.length=Cf.aF.toNat→lk.length=Cf.aF.toNat→lq.length=Cf.aF.toNat→Hs G h' (aE p5 0 (mkE Cf a1 a2 a3 Cf.aF.toNat c1 c2 c3)::fu a1 c1 lc::T0 a2 c2 lk::Tz a3 c3 lq::pQ pZ lc (S5 ps ws)::pQ (pO G Cf) lk (fun _=>iT.new)::pQ (nL Cf) lq (fun _=>Ft)::aE p2 0 (H0 Cf pv wv ov vv)::L)→Dd 31 4 [] Q [(pt p2 0 0),(pt p5 0 0)] h'):
  ∀(f i:Nat) (lc lk lq:List Nat) (a1 a2 a3:Option Addr) (c1 c2 c3:Nat) (h:AH),i+f=Cf.aF.toNat→lc.length=i→lk.length=i→lq.length=i→Hs G h (aE p5 0 (mkE Cf a1 a2 a3 i c1 c2 c3)::fu a1 c1 lc::T0 a2 c2 lk::Tz a3 c3 lq::pQ pZ lc (S5 ps ws)::pQ (pO G Cf) lk (fun _=>iT.new)::pQ (nL Cf) lq (fun _=>Ft)::aE p2 0 (H0 Cf pv wv ov vv)::L)→
  Dd 31 2 [] Q [(pt p2 0 0),(pt p5 0 0),(I Cf.aF),(I i)] h:=by
 have hc:=hC.1
 intro f
 induction f with
 |zero=>
  intro i lc lk lq a1 a2 a3 c1 c2 c3 h hif h1 h2 h3 hs
  obtain rfl:i=Cf.aF.toNat:=by omega
  exact bW (aU (aI (by omega) (hk _ _ _ _ _ _ _ _ _ _ h1 h2 h3 hs)))
 |succ f ih=>
  intro i lc lk lq a1 a2 a3 c1 c2 c3 h hif h1 h2 h3 hs
  obtain⟨p,hp,_⟩:=kT (l:=ps) (i:=i) (by omega)
  obtain⟨v,hvi,_⟩:=kT (l:=vi) (i:=i) (by omega)
  obtain⟨w,hwi,_⟩:=kT (l:=ws) (i:=i) (by omega)
  have hwr:=hww w (List.mem_of_getElem? hwi)
  have hpr:=hpc p (List.mem_of_getElem? hp)
  have eS:S5 ps ws i=pT p w:=by unfold S5;rw[List.getD_eq_getElem?_getD,List.getD_eq_getElem?_getD,hp,hwi];rfl
  refine bW (aU (bM (by omega) (bW (aR hs fun rr h hs=>aA (aC (b:=p2) (o:=0) hs rfl ?_)))))
  have hs:=A.oF hw hs
  refine tV hs (x:=[I w]) (by simp[A.Af,hwi]) rfl ?_
  have hs:=hs.tail
  refine aA (aC (b:=p2) (o:=0) hs rfl ?_)
  have hs:=xO (e:=3) (by simp) ho hs
  refine tV hs (x:=[v]) (by simp[hvi]) rfl ?_
  have hs:=A.F4 (hi i v p hvi hp) hs.tail
  refine Lf (i:=i) (pr:=p) (w:=w) (by omega) hwr hg hpr hs fun q1 h hs=>aG rfl (aG rfl (aX (aI (by omega) (bW ?_))))
  rw[←eS] at hs
  refine aA (hZ (b:=p2) (o:=0) hs (by decide) (l:=Cf.enc) rfl rfl ?_)
  refine C.Oi (C:=Cf) (core:=(i:Int)) hC (by omega) hG.lim hs fun q2 h hs=>aG rfl (aG rfl (aX (aI (by omega) (bW ?_))))
  refine aA (aA (aC (b:=p2) (o:=0) hs rfl (aA (aA (aC (b:=p2) (o:=0) hs rfl ?_)))))
  refine cx (C:=Cf) hC hs fun q3 h hs=>aG rfl (aG rfl (aX (aI (by omega) (bW ?_))))
  subst h1
  refine aB (aA (aC (b:=p5) (o:=0) hs rfl (aK (c:=[pt q1 0 0]) rfl (dP (W:=1) (n:=1) (c:=1) hs rfl rfl rfl fun b1 h hs=>?_))))
  refine Nr (l:=lc) (a:=a1) (c:=c1) (e:=75) (q:=q1) (a2:=some b1) (c2:=1) (by omega) hs fun a1' c1' h hs=>aB (aA (bE (b:=p5) (o:=0) hs rfl rfl rfl rfl fun h hs=>?_))
  refine aB (aA (aC (b:=p5) (o:=0) hs rfl (aK (c:=[pt q2 0 0]) rfl (dP (W:=1) (n:=1) (c:=1) hs rfl rfl rfl fun b2 h hs=>?_))))
  rw[←h2]
  refine Nr (l:=lk) (a:=a2) (c:=c2) (e:=137) (q:=q2) (a2:=some b2) (c2:=1) (by omega) hs fun a2' c2' h hs=>aB (aA (bE (b:=p5) (o:=0) hs rfl rfl rfl rfl fun h hs=>?_))
  rw[h2]
  refine aB (aA (aC (b:=p5) (o:=0) hs rfl (aK (c:=[pt q3 0 0]) rfl (dP (W:=1) (n:=1) (c:=1) hs rfl rfl rfl fun b3 h hs=>?_))))
  rw[←h3]
  refine Nr (l:=lq) (a:=a3) (c:=c3) (e:=140) (q:=q3) (a2:=some b3) (c2:=1) (by omega) hs fun a3' c3' h hs=>aB (aA (bE (b:=p5) (o:=0) hs rfl rfl rfl rfl fun h hs=>?_))
  have e5:dH (dH (dH (mkE Cf a1 a2 a3 lc.length c1 c2 c3) (0+7) [.slice a1' (lc.length+1) c1']) (0+8) [.slice a2' (lk.length+1) c2']) (0+9) [.slice a3' (lq.length+1) c3']=mkE Cf a1' a2' a3' (lc.length+1) c1' c2' c3':=by rw[h2,h3];rfl
  rw[e5] at hs
  have hs:=Pu (R:=pZ) (l:=lc) (q:=q1) (s:=S5 ps ws) (hs.cN (iY lc.length q1 (S5 ps ws lc.length)) (pQ pZ lc (S5 ps ws)))
  rw[←h2] at hs
  have hs:=Pu (R:=pO G Cf) (l:=lk) (q:=q2) (s:=fun _=>iT.new) (hs.cN (C.fU G q2 Cf lk.length iT.new) (pQ (pO G Cf) lk (fun _=>iT.new)))
  have hs:=Pu (R:=nL Cf) (l:=lq) (q:=q3) (s:=fun _=>Ft) (hs.cN (iS q3 Cf Ft) (pQ (nL Cf) lq (fun _=>Ft)))
  rw[h2] at hs
  rw[h3]
  exact bI (by omega) (ih (lc.length+1) (lc++[q1]) (lk++[q2]) (lq++[q3]) a1' a2' a3' c1' c2' c3' h (by omega) (by simp) (by simp;omega) (by simp;omega) hs.to)
end Go.Proofs.YtajjljbmfdboaaaGreatDoor
end
section
namespace Go.Proofs.YtajjljbmfdboaaaGreatDoor
open Go Go.Ab Go.Hm Go.At Go.Mc Go.Ct Go.Nt Go.Is
def mkF (C:bQ) (a1 a2 a3:Option Addr) (n c1 c2 c3:Nat) (x y z:Value):List Value:=C.enc++[.slice a1 n c1,.slice a2 n c2,.slice a3 n c3,x,y,z,.slice none 0 0]
theorem Gz {a b:Int} {l:List Int} (h:within a b l=true):∀x∈l,a≤x∧x≤b:=by
 unfold within at h
 intro x hx
 exact of_decide_eq_true (List.all_eq_true.1 h x hx)
theorem Dn {C:bQ} {ps:List (List Ins)} {ws os vs:List Int} (h:Aw C ps ws os vs=0):C.Ok∧ps.length=C.aF.toNat∧ws.length=C.aF.toNat∧os.length=C.bP.toNat∧vs.length=C.lines*2∧qN ps=0∧(∀w∈ws,0≤w∧w≤3)∧∀o∈os,0≤o∧o≤4:=by
 unfold Aw at h
 split at h
 ·cases h
 ·rename_i hC
  split at h
  ·cases h
  ·rename_i hl
   split at h
   ·rename_i hp;exact absurd h hp
   ·rename_i hp
    split at h
    ·cases h
    ·rename_i hw
     have hw:=Decidable.not_not.1 hw
     exact⟨Decidable.not_not.1 hC,by omega,by omega,by omega,by omega,Decidable.not_not.1 hp,Gz hw.1,Gz hw.2⟩
set_option maxRecDepth 100000
variable {G:Bg} {h:AH} {L L':List HP} {Q:Value→AH→Prop} {Cf:bQ} {m N:Nat} {M:cY}
theorem cf {p2 p5 hb mb:Nat} {hE:List Value} {pv wv ov vv:Value} {vs:List Int} {z:List Value} (hC:Cf.Ok) (hG:Gb G) (hn:vs.length=Cf.lines*2) (ho:A.F0 G vv vs) (hz:z[10]?=some (pt hb 0 0)) (hE0:hE[0]?=some (pt mb 0 0))
  (hk:∀h',Hs G h' (eV G Cf.lines mb Cf (At.words mY vs 0)::aE hb 0 hE::aE p5 0 z::aE p2 0 (H0 Cf pv wv ov vv)::L)→Dd 31 11 [] Q [(pt p2 0 0),(pt p5 0 0)] h'):
  ∀(f i:Nat) (mem:Nat→Ln) (h:AH),i+f=vs.length→At.words mY vs 0=At.words mem (vs.drop i) i→Hs G h (eV G Cf.lines mb Cf mem::aE hb 0 hE::aE p5 0 z::aE p2 0 (H0 Cf pv wv ov vv)::L)→
  Dd 31 8 [] Q [(pt p2 0 0),(pt p5 0 0),vv,(I vs.length),(I i)] h:=by
 have hln:=bQ.fJ hC
 intro f
 induction f with
 |zero=>
  intro i mem h hi he hs
  rw[List.drop_of_length_le (by omega),At.words] at he
  rw[he] at hk
  exact bW (aU (aI (by omega) (hk _ hs)))
 |succ f ih=>
  intro i mem h hi he hs
  obtain⟨x,hx,hd⟩:=kT (l:=vs) (i:=i) (by omega)
  rw[hd,At.words] at he
  have hs:=A.oF ho hs
  refine bW (aU (bM (by omega) (bW (tV hs (x:=[I x]) (by simp[A.Af,hx]) rfl (aB (aA (aC (b:=p5) (o:=0) hs hz (aB (aA (aC (b:=hb) (o:=0) hs hE0 ?_))))))))))
  exact D1 (C:=Cf) (mb:=mb) (mem:=mem) (w:=i) (v:=x) hC hG.lim hs.tail (by omega) fun h hs=>aX (aI (by omega) (bW (bI (by omega) (ih (i+1) _ h (by omega) he hs))))
theorem Yj {pv wv ov vv:Value} {ps:List (List Ins)} {ws os vs:List Int} (hn:ps.length≤1000∧ws.length<1000∧os.length<1000) (hG:Gb G) (hg:Ob G 1 sF) (ho:A.Vu G pv wv ov vv ps ws os vs) (hs:Hs G h L)
  (k1:Aw Cf ps ws os vs≠0→∀h',Hs G h' L→Q (.tuple ⟨[.pointer none,I (Aw Cf ps ws os vs)]⟩) h')
  (k2:Aw Cf ps ws os vs=0→∀m h',Hs G h' (bG G Cf m (MC.new ⟨Cf,ps,ws,os,vs⟩)::L)→Q (.tuple ⟨[pt m 0 0,I 0]⟩) h'):Cl Pr K 31 [.agg ⟨H0 Cf pv wv ov vv⟩] h Q:=by
 refine cW (dJ hs fun p2 h hs=>aA (hZ (b:=p2) (o:=0) hs (by decide) (l:=Cf.enc) rfl rfl (aA (aC (b:=p2) (o:=0) hs rfl (aA (aC (b:=p2) (o:=0) hs rfl (aA (aC (b:=p2) (o:=0) hs rfl (aA (aC (b:=p2) (o:=0) hs rfl ?_))))))))))
 refine A.zt (C:=Cf) hn hG.lim hg ho hs (fun he h hs=>aG rfl (aG rfl (aX (bM he (k1 he _ hs.tail))))) fun he pa h hs=>aG rfl (aG rfl (aX (aI (by omega) ?_)))
 obtain⟨hC,e1,e2,e3,e4,e5,e6,e7⟩:=Dn he
 have hs:Hs G h (aE p2 0 (H0 Cf pv wv ov vv)::L):=hs.to
 have hc:=hC.1
 obtain⟨⟨vi,hv,hpo,hpi⟩,hwo,hoo,hvo⟩:=ho
 refine bW (aA (hZ (b:=p2) (o:=0) hs (by decide) (l:=Cf.enc) rfl rfl (aK (c:=mkE Cf none none none 0 0 0 0) rfl (dJ hs fun p5 h hs=>aA (aA (aC (b:=p2) (o:=0) hs rfl ?_))))))
 have hs:=Oj (R:=nL Cf) (s:=fun _=>Ft) hs
 have hs:=Oj (R:=pO G Cf) (s:=fun _=>iT.new) hs
 have hs:=Oj (R:=pZ) (s:=S5 ps ws) hs
 have hs:=sL (enc:=pE) (e:=75) hs
 have hs:=sL (enc:=pE) (e:=137) hs
 have hs:=sL (enc:=pE) (e:=140) hs
 refine H7 (L:=L) (ov:=ov) (vv:=vv) (Cf:=Cf) hC hG hg e1 e2 e6 (A.wF e5) hv hpo hpi hwo ?_ Cf.aF.toNat 0 [] [] [] none none none 0 0 0 h (by omega) rfl rfl rfl hs.to
 intro lc lk lq a1 a2 a3 c1 c2 c3 h l1 l2 l3 hs
 refine bW (aA (hZ (b:=p2) (o:=0) hs (by decide) (l:=Cf.enc) rfl rfl ?_))
 refine H.V3 (C:=Cf) hC hG.lim hs fun hb h hs=>aG rfl (aG rfl (aB (aA (bE (b:=p5) (o:=0) hs rfl rfl rfl rfl fun h hs=>aX (aI (by omega) ?_)))))
 have e8:dH (mkE Cf a1 a2 a3 Cf.aF.toNat c1 c2 c3) (0+10) [pt hb 0 0]=mkF Cf a1 a2 a3 Cf.aF.toNat c1 c2 c3 (pt hb 0 0) (.pointer none) (.pointer none):=rfl
 rw[e8] at hs
 obtain⟨mb,b,o,cap,hs⟩:=H.oQ (hs.front (H.fN G hb Cf (rF Cf.lines)))
 have em:(fun i=>(rF Cf.lines i).2)=mY:=by
  funext i
  unfold rF mY
  split<;>rfl
 rw[em] at hs
 have hs:=hs.kV (eV G Cf.lines mb Cf mY) (aE hb 0 (H.kL mb Cf b o cap)) (aE p5 0 (mkF Cf a1 a2 a3 Cf.aF.toNat c1 c2 c3 (pt hb 0 0) (.pointer none) (.pointer none))) (aE p2 0 (H0 Cf pv wv ov vv))
 refine bW (aA (aC (b:=p2) (o:=0) hs rfl (M6 hvo ?_)))
 refine cf (Cf:=Cf) (p2:=p2) (p5:=p5) (hb:=hb) (mb:=mb) (hE:=H.kL mb Cf b o cap) (z:=mkF Cf a1 a2 a3 Cf.aF.toNat c1 c2 c3 (pt hb 0 0) (.pointer none) (.pointer none)) hC hG e4 hvo rfl rfl ?_ vs.length 0 mY h (by omega) rfl hs
 intro h hs
 have hs:=H.qF (H:=MC.home ⟨Cf,ps,ws,os,vs⟩) (hb:=hb) (C:=Cf) (mb:=mb) (b:=b) (o:=o) (cap:=cap) (hs.kV (aE hb 0 (H.kL mb Cf b o cap)) (eV G Cf.lines mb Cf (At.words mY vs 0)) (hole G 25 247 (some ⟨b,o,none⟩) cap Cf.lines b o) (dC Cf.lines fun i=>H.eH b (o+i*25) (rF Cf.lines i).1))
 refine bW (aA (aA (aC (b:=p2) (o:=0) hs rfl (aA (aC (b:=p2) (o:=0) hs rfl ?_)))))
 refine Z6 (C:=Cf) hC hoo e3 e7 hs fun q h hs=>aG rfl (aG rfl (aB (aA (bE (b:=p5) (o:=0) hs rfl rfl rfl rfl fun h hs=>aX (aI (by omega) (bW ?_))))))
 refine aA (hZ (b:=p2) (o:=0) hs (by decide) (l:=Cf.enc) rfl rfl ?_)
 refine Zh (C:=Cf) hC hG.lim hs fun fb h hs=>aG rfl (aG rfl (aB (aA (bE (b:=p5) (o:=0) hs rfl rfl rfl rfl fun h hs=>aX (aI (by omega) (k2 he _ _ ?_))))))
 have hs:=sL (enc:=Ev.enc) (e:=80) hs
 have e9:dH (dH (mkF Cf a1 a2 a3 Cf.aF.toNat c1 c2 c3 (pt hb 0 0) (.pointer none) (.pointer none)) (0+11) [pt q 0 0]) (0+12) [pt fb 0 0]=eU Cf ⟨lc,lk,lq,a1,a2,a3,none,c1,c2,c3,0,hb,q,fb⟩ 0:=by
  unfold eU
  dsimp only
  rw[l1,l2,l3]
  rfl
 rw[e9] at hs
 have hs:Hs G h (bG G Cf p5 (⟨S5 ps ws,fun _=>iT.new,fun _=>Ft,MC.home ⟨Cf,ps,ws,os,vs⟩,⟨rB os,fun _=>none⟩,fun _ _=>[],[]⟩:cY)::L):=(bB (m:=p5) (x:=⟨lc,lk,lq,a1,a2,a3,none,c1,c2,c3,0,hb,q,fb⟩) (⟨S5 ps ws,fun _=>iT.new,fun _=>Ft,MC.home ⟨Cf,ps,ws,os,vs⟩,⟨rB os,fun _=>none⟩,fun _ _=>[],[]⟩:cY) ⟨l1,l2,l3⟩ hs).to
 exact hs
end Go.Proofs.YtajjljbmfdboaaaGreatDoor
end
end
section
namespace Go.Proofs.YtajjljbmfdboaaaGreatDoor
open Go Go.Ab Go.Hm Go.At Go.Mc Go.Ct Go.Nt Go.Is
theorem y7 {g:FuncId} {a b:Array Value} {k:Value→Prop} (hk:k (.bool false)):aZ (T3 .eql (.func (.func g) a b) .nilFunc) k:=⟨_,rfl,hk⟩
set_option maxRecDepth 100000
attribute [local irreducible] aZ Br oM rI sQ Bi lE tH kU Qb gI lF pD pW oR kH zH tJ W2 Ut Qa Nn T3 P6 Km Lx T2 jR mX rV iO copyV iB vL Va Uo Fm kB Lu Sv Vn nF rH wK zB Cl wX T1 rM qX jI gS cI cA
variable {G:Bg} {h:AH} {L L':List HP} {Q:Value→AH→Prop} {Cf:bQ} {m N:Nat} {M:cY}
theorem jY (hk:Q (.bool true) h):Cl Pr K 25 [] h Q:=by
 unfold Cl
 exact rh (v:= .bool true) rfl hk
theorem mr {C:bQ} {pv wv ov vv:Value} {ps:List (List Ins)} {ws os vs:List Int} (hn:ps.length≤9223372036854775807) (ho:A.Vu G pv wv ov vv ps ws os vs) (hs:Hs G h L)
  (k1:ps.length≤6∧ws.length≤6∧os.length≤20∧vs.length≤80→∀h',Hs G h' L→Q (.bool true) h') (k2:∀h',Hs G h' L→Q (.bool false) h'):Cl Pr K 30 [.agg ⟨H0 C pv wv ov vv⟩] h Q:=by
 obtain⟨⟨vi,hv,hpo,hpi⟩,hwo,hoo,hvo⟩:=ho
 have lp:∀{k:Value→Prop},k (I ps.length)→aZ (kH pv) k:=fun hk=>A.rY hpo (by simpa [hv] using hk)
 have lw:∀{k:Value→Prop},k (I ws.length)→aZ (kH wv) k:=fun hk=>M6 hwo hk
 have lo:∀{k:Value→Prop},k (I os.length)→aZ (kH ov) k:=fun hk=>M6 hoo hk
 have lv:∀{k:Value→Prop},k (I vs.length)→aZ (kH vv) k:=fun hk=>M6 hvo hk
 refine cW (dJ hs fun p2 h hs=>?_)
 have loop:∀(f i:Nat) (h:AH),i+f=ps.length→Hs G h (aE p2 0 (H0 C pv wv ov vv)::L)→Dd 30 1 [] Q [(pt p2 0 0),(I i)] h:=by
  intro f
  induction f with
  |zero=>
   intro i h hi hs
   refine bW (aA (aC (b:=p2) (o:=0) hs (v:=pv) rfl (lp (aU (aI (by omega) (aA (aC (b:=p2) (o:=0) hs (v:=pv) rfl (lp (xR (aS (fun g1=>?_) (fun g1=>k2 _ hs.tail)))))))))))
   refine aA (aC (b:=p2) (o:=0) hs (v:=wv) rfl (lw (xR (aS (fun g2=>?_) (fun g2=>k2 _ hs.tail)))))
   refine aA (aC (b:=p2) (o:=0) hs (v:=ov) rfl (lo (xR (aS (fun g3=>?_) (fun g3=>k2 _ hs.tail)))))
   refine aA (aC (b:=p2) (o:=0) hs (v:=vv) rfl (lv (xR ?_)))
   by_cases g4:(vs.length:Int)≤80
   ·rw[decide_eq_true g4];exact k1 ⟨by omega,by omega,by omega,by omega⟩ _ hs.tail
   ·rw[decide_eq_false g4];exact k2 _ hs.tail
  |succ f ih=>
   intro i h hi hs
   obtain⟨p,hp,hd⟩:=kT (l:=ps) (i:=i) (by omega)
   obtain⟨v,hvi,_⟩:=kT (l:=vi) (i:=i) (by omega)
   refine bW (aA (aC (b:=p2) (o:=0) hs (v:=pv) rfl (lp (aU (bM (by omega) (bW (aA (aC (b:=p2) (o:=0) hs (v:=pv) rfl ?_))))))))
   refine tV (xO (e:=3) (by simp) hpo hs) (x:=[v]) (by simp[hvi]) rfl (A.rY (hpi i v p hvi hp) (kG (aS (fun _=>k2 _ hs.tail) (fun _=>bW (bI (by omega) (ih (i+1) h (by omega) hs))))))
 exact loop ps.length 0 h (by omega) hs
def cY.core (Cf:bQ) (M:cY) (x:Int):List Value×Int:=if 0≤x∧x<Cf.aF then((M.aH x.toNat).core,0) else([I 0,I 0,I 0,I 0,I 0,I 0,.bool false],10)
theorem Rf {x:Int} (hC:Cf.Ok) (hs:Hs G h L) [mm:Has (bG G Cf m) L M L'] (hk:∀h',Hs G h' (bG G Cf m M::L')→Q (.tuple ⟨[.agg ⟨(cY.core Cf M x).1⟩,I (cY.core Cf M x).2]⟩) h'):Cl Pr K 16 [pt m 0 0,I x] h Q:=by
 have hc:=hC.1
 unfold cY.core at hk
 refine cW (bK (cs:=[I 0,I 0,I 0,I 0,I 0,I 0,.bool false]) (mm.of hs) fun q h hs=>cS (bS (bW ?_)))
 obtain⟨y,hl,hs⟩:=cH (hs.front (bG G Cf m M))
 have hlc:=hl.1
 have bad:∀{h:AH},Hs G h (bG G Cf m M::aE q 0 [I 0,I 0,I 0,I 0,I 0,I 0,.bool false]::L')→(∀h',Hs G h' (bG G Cf m M::L')→Q (.tuple ⟨[.agg ⟨[I 0,I 0,I 0,I 0,I 0,I 0,.bool false]⟩,I 10]⟩) h')→
   aZ (lD [(I 0),(I 0),(I 0),(I 0),(I 0),(I 0),(.bool false)] []) fun c=>aZ (sQ h 7 (pt q 0 0) (.agg ⟨c⟩)) fun h=>aZ (rI h 7 (pt q 0 0)) fun v=>Q (.tuple ⟨[v,I 10]⟩) h:=by
  intro h hs hq
  exact aK (c:=[I 0,I 0,I 0,I 0,I 0,I 0,.bool false]) rfl (bA (b:=q) hs rfl rfl rfl rfl fun h hs=>aN (b:=q) (o:=0) hs (by decide) (l:=[I 0,I 0,I 0,I 0,I 0,I 0,.bool false]) rfl rfl (hq _ hs.to))
 refine aU (aS (fun h1=>?_) (fun h1=>?_))
 ·rw[if_neg (by omega)] at hk
  exact bad (bB (m:=m) (x:=y) M hl hs).to hk
 refine aB (aA (aC (b:=m) (o:=0) hs rfl (bZ (dM (aS (fun h2=>?_) (fun h2=>?_))))))
 ·rw[if_neg (by omega)] at hk
  exact bad (bB (m:=m) (x:=y) M hl hs).to hk
 rw[if_pos (by omega)] at hk
 obtain⟨i,rfl⟩:=Int.eq_ofNat_of_zero_le (show 0≤x by omega)
 have hic:i<y.lc.length:=by omega
 refine aB (aA (aC (b:=m) (o:=0) hs rfl (Ji hs hic ?_)))
 have hs:=gV (R:=pZ) (l:=y.lc) (s:=M.aH) hic hs
 obtain⟨a,c,hs⟩:=lH hs
 refine aB (aA (hZ (b:=y.lc.getD i 0) (o:=0) hs (by decide) (l:=(M.aH i).core) rfl rfl (bA (b:=q) hs rfl rfl rfl rfl fun h hs=>aN (b:=q) (o:=0) hs (by decide) (l:=(M.aH i).core) rfl rfl (hk _ ?_))))
 have hs:=jF (y.lc.getD i 0) i (M.aH i) (a:=a) (c:=c) (hs.cN (aE (y.lc.getD i 0) 0 (pK i (M.aH i) a c)) (P4 a c (M.aH i).prog)) rfl rfl
 have hs:=B6 (l:=y.lc) (s:=M.aH) (i:=i) (t:=M.aH i) hic hs
 rw[bJ] at hs
 exact(bB (m:=m) (x:=y) M hl hs).to
theorem X4 (hs:Hs G h L) [mm:Has (bG G Cf m) L M L'] (hk:∀h',Hs G h' (bG G Cf m M::L')→Q (I M.log.length) h'):Cl Pr K 19 [pt m 0 0] h Q:=by
 obtain⟨y,hl,hs⟩:=cH (mm.of hs)
 exact cW (cS (bS (aB (aA (aC (b:=m) (o:=0) hs rfl (bZ (hk _ (bB (m:=m) (x:=y) M hl hs).to)))))))
def veR (q:Nat) (a:Option Addr) (c:Nat) (l:List Ev):HP:=sp [aE q 0 [.slice a l.length c],zU a c l]
theorem aE7 {q c:Nat} {a:Option Addr} {l:List Ev} (hb:l.length≤100000):qy Pr K G 162 [] [pt q 0 0] (veR q a c l) (l.map fun n=>[.agg ⟨n.enc⟩]):=by
 intro I' J y L h Q hs hy h1 h2
 have hs:=hs.D2
 have shut:∀{h:AH} {M:List HP},Hs G h (aE q 0 [.slice a l.length c]::zU a c l::M)→Hs G h (veR q a c l::M):=fun hs=>hs.Ex
 refine cW (aC (b:=q) (o:=0) hs rfl (bZ ?_))
 have loop:∀(f i:Nat) (h:AH),i+f=l.length→Hs G h (aE q 0 [.slice a l.length c]::zU a c l::I' ((l.drop i).map fun n=>[.agg ⟨n.enc⟩])::L)→Dd 162 1 [] Q [y,(.slice a l.length c),(I l.length),(I i)] h:=by
  intro f
  induction f with
  |zero=>
   intro i h hi hs
   rw[List.drop_of_length_le (by omega)] at hs
   exact bW (aU (aI (by omega) (h1 _ _ (shut hs))))
  |succ f ih=>
   intro i h hi hs
   obtain⟨x,hx,hd⟩:=kT (l:=l) (i:=i) (by omega)
   rw[hd,List.map_cons] at hs
   refine bW (aU (bM (by omega) (bW (tE (l:=l) (a:=a) (c:=c) (enc:=Ev.enc) (e:=80) hs (by decide) (by omega) (by rw[Int.toNat_natCast];exact hx) (bK hs fun p3 h hs=>bA (b:=p3) hs rfl rfl rfl rfl fun h hs=>aN (b:=p3) (o:=0) hs (by decide) (l:=x.enc) rfl rfl ?_)))))
   refine(hy _ _ h _ (hs.front (I' ([.agg ⟨x.enc⟩]::((l.drop (i+1)).map fun n=>[.agg ⟨n.enc⟩]))))).mono fun v h' hv=>?_
   rcases hv with⟨rfl,hs'⟩|⟨rfl,hs'⟩
   ·exact bU (bS (bW (bI (by omega) (ih (i+1) h' (by omega) hs'.to))))
   ·exact bU (dY (h2 _ _ (shut hs'.to)))
 exact loop l.length 0 h (by omega) (by rw[List.drop_zero];exact hs)
abbrev evX (p:Nat) (e:Nat→Value) (d l:Nat) (done:List Ev):HP:=sS fun x:Option Addr×Nat=>sp [nE Pr 17 (nB 250) 20 e d l (.ready,none),aE p 0 [.slice x.1 done.length x.2],zU x.1 x.2 done]
theorem Hc (hlen:M.log.length<2000) (hs:Hs G h L) [mm:Has (bG G Cf m) L M L'] (hk:∀a c h',Hs G h' (zU a c M.log::bG G Cf m M::L')→Q (.slice a M.log.length c) h'):Cl Pr K 17 [pt m 0 0] h Q:=by
 obtain⟨y,hl,hs⟩:=cH (mm.of hs)
 refine cW ?_
 refine cW (cS (bS (aB (aA (aC (b:=m) (o:=0) hs rfl ?_)))))
 refine cW (dJ hs fun q h hs=>?_)
 refine y7 (bS (bW (bK hs fun p h hs=>mW hs fun d h hs=>?_)))
 intro e he
 refine qP hs fun l h hs=>vZ rfl ?_
 have hs:=sL (enc:=Ev.enc) (e:=80) hs
 have hs:Hs G h (veR q y.al y.cl M.log::evX p e d l []::mk d ()::aE m 0 (eU Cf y M.log.length)::fu y.ac y.cc y.lc::T0 y.ak y.ck y.lk::Tz y.aq y.cq y.lq::
  pQ pZ y.lc M.aH::pQ (pO G Cf) y.lk M.dK::pQ (nL Cf) y.lq M.cR::H.fN G y.hb Cf M.home::fC Cf y.mb M.dQ::sH Cf y.fb M.mI::L'):=by
  have hs:=(hs.cN (aE q 0 [.slice y.al M.log.length y.cl]) (zU y.al y.cl M.log)).Ex
  have hs:Hs G h (veR q y.al y.cl M.log::_):=hs
  have hs:=(hs.cU (nE Pr 17 (nB 250) 20 e d l (.ready,none)) (aE p 0 [.slice none 0 0]) (zU none 0 [])).T4
  have hs:=Hs.wM (A:=fun x:Option Addr×Nat=>sp [nE Pr 17 (nB 250) 20 e d l (.ready,none),aE p 0 [.slice x.1 ([]:List Ev).length x.2],zU x.1 x.2 []]) (none,0) hs
  exact hs.to
 refine(aE7 (q:=q) (a:=y.al) (c:=y.cl) (l:=M.log) (by omega)).fold (X:=fun done=>evX p e d l done) (Z:=fun _ _=>zD False) hs ?_ ?_ ?_
 ·intro done x h T hp hs
  have hdl:done.length<1999:=by have:=hp.length_le;simp at this;omega
  obtain⟨⟨a,c⟩,hs⟩:=hs.Be
  have hs:=hs.Bk
  refine rW (xD hs) he (bK hs fun p1 h hs=>bA (b:=p1) hs rfl rfl rfl rfl fun h hs=>kA hs fun h hs=>aC (b:=p) (o:=0) hs rfl (aN (b:=p1) (o:=0) hs (by decide) (l:=x.enc) rfl rfl (aK (c:=x.enc) rfl (dP (W:=7) (n:=1) (c:=1) hs rfl rfl rfl fun a2 h hs=>?_))))
  have hs:=uF (enc:=Ev.enc) (x:=x) hs
  refine Nu (l:=done) (v:=x) (a:=a) (c:=c) (by omega) hs fun a' c' h hs=>bA (b:=p) hs rfl rfl rfl rfl fun h hs=>aC (b:=p) (o:=0) hs rfl (bZ (dM (aI (by simp;omega) (jS hs fun h hs=> .inl ⟨rfl,?_⟩))))
  have hs:=(hs.cU (nE Pr 17 (nB 250) 20 e d l (.ready,none)) (aE p 0 [.slice a' (done++[x]).length c']) (zU a' c' (done++[x]))).T4
  exact(Hs.wM (A:=fun z:Option Addr×Nat=>sp [nE Pr 17 (nB 250) 20 e d l (.ready,none),aE p 0 [.slice z.1 (done++[x]).length z.2],zU z.1 z.2 (done++[x])]) (a',c') hs).to
 ·intro v h hs
  obtain⟨⟨a,c⟩,hs⟩:=(hs.front (evX p e d l M.log)).Be
  have hs:=hs.Bk
  have hs:=(hs.front (veR q y.al y.cl M.log)).D2
  refine qQ hs fun h hs=>qL (aC (b:=p) (o:=0) hs rfl (mH hs fun h hs=>jU (hk a c _ ?_)))
  exact(bB (m:=m) (x:=y) M hl hs).to
 ·intro done x v h hp hs
  obtain⟨hd,_⟩:=(hs.front (zD False)).r7
  exact hd.elim
end Go.Proofs.YtajjljbmfdboaaaGreatDoor
end
section
namespace Go.Mc
open Go Go.Ab Go.Hm Go.At Go.Is Go.Ct Go.Nt
variable {C:bQ} {N:Nat} {M:cY}
def rp (i:Nat) (s:aY) (x:Ev):Option aY:=match aY.mU s i with
 |some r=>if r.2=x then some r.1 else none
 |none=>if(aY.cC s i x.value x.code).2.2=0∧(aY.cC s i x.value x.code).2.1=x then some (aY.cC s i x.value x.code).1 else none
theorem Uk {s:aY} {i:Nat} {r:aY×Ev} (h:aY.mU s i=some r):r.2.core=i:=by
 unfold aY.mU at h
 cases hn:aY.next? s with
 |none=>rw[hn] at h;cases h
 |some x=>
  rw[hn] at h
  dsimp only at h
  repeat' split at h
  all_goals first|cases h|skip
  all_goals rfl
theorem nu {s:aY} {i:Nat} {r:aY×Ev} (h:aY.mU s i=some r):rp i s r.2=some r.1:=by
 unfold rp
 grind
theorem Ov {s:aY} {i:Nat} {v c:Int} (h:(aY.cC s i v c).2.2=0):aY.mU s i=none:=by
 unfold aY.cC at h
 unfold aY.mU
 cases hn:aY.next? s with
 |none=>rfl
 |some x=>
  rw[hn] at h
  dsimp only at h ⊢
  unfold Hu at h
  grind
theorem E4 {s:aY} {i:Nat} {v c:Int} (h:(aY.cC s i v c).2.2=0):(aY.cC s i v c).2.1.core=i:=by
 unfold aY.cC at h ⊢
 cases hn:aY.next? s with
 |none=>rw[hn] at h;cases h
 |some x=>
  rw[hn] at h
  dsimp only at h ⊢
  repeat' split at h
  all_goals first|cases h|skip
  all_goals simp_all [aY.ev]
theorem Ky {s:aY} {i:Nat} {v c:Int} (h:(aY.cC s i v c).2.2=0):rp i s (aY.cC s i v c).2.1=some (aY.cC s i v c).1:=by
 unfold rp
 rw[Ov h]
 dsimp only
 have e:aY.cC s i (aY.cC s i v c).2.1.value (aY.cC s i v c).2.1.code=aY.cC s i v c:=by
  unfold aY.cC at h ⊢
  cases hn:aY.next? s with
  |none=>rfl
  |some x=>
   rw[hn] at h
   dsimp only at h ⊢
   unfold aY.ev
   grind
 grind
def rc (m:Mon) (g:Nat):Option Int:=(m.runs g).map iG.core
structure dp (M:cY):Prop where
 op:∀g c,rc M.dQ g=some c→∃x,aY.next? (M.aH c.toNat)=some x∧x.op=8
 one:∀g g' c,rc M.dQ g=some c→rc M.dQ g'=some c→g=g'
theorem Dl (hC:C.Ok) {m:Mon} (hm:gD C m) {c:Int}:m.calls c=true↔∃g,rc m g=some c:=by
 unfold Mon.calls Mon.running rc
 rw[List.any_eq_true]
 constructor
 ·rintro ⟨g,hg,h⟩
  unfold Mon.jQ at h
  grind
 ·rintro ⟨g,h⟩
  cases hr:m.runs g with
  |none=>rw[hr] at h;cases h
  |some r=>
   rw[hr] at h
   have:=hm.aCy hC g r hr
   refine⟨g,List.mem_filter.2 ⟨List.mem_range.2 this,by rw[hr];rfl⟩,?_⟩
   unfold Mon.jQ
   grind
inductive Out (C:bQ) (d:Do) (M M':cY):Prop where
 |same (h1:M'.aH=M.aH) (h2:M'.log=M.log) (h3:∀g,rc M'.dQ g=rc M.dQ g)
 |ev (i:Nat) (s:aY) (v:Ev) (hi:(i:Int)<C.aF) (hd:d.kE=0∧d.a=i) (hw:M.dQ.calls i=false) (h1:M'.aH=bT M.aH i s) (h2:M'.log=M.log++[v]) (hc:v.core=i) (hr:rp i (M.aH i) v=some s) (h3:∀g,rc M'.dQ g=rc M.dQ g)
 |ask (i g:Nat) (hi:(i:Int)<C.aF) (hd:d.kE=0∧d.a=i) (hw:M.dQ.calls i=false) (h1:M'.aH=M.aH) (h2:M'.log=M.log) (hx:∃x,aY.next? (M.aH i)=some x∧x.op=8) (h3:∀g',rc M'.dQ g'=if g'=g then some (i:Int) else rc M.dQ g') (h0:rc M.dQ g=none)
 |fin (i g:Nat) (s:aY) (v:Ev) (hi:(i:Int)<C.aF) (hd:d.kE=3) (hg:rc M.dQ g=some (i:Int)) (h1:M'.aH=bT M.aH i s) (h2:M'.log=M.log++[v]) (hc:v.core=i) (ho:v.op=8∧v.code=0) (ha:s.at'=(M.aH i).at'+1) (hr:rp i (M.aH i) v=some s) (h3:∀g',rc M'.dQ g'=if g'=g then none else rc M.dQ g')
theorem uM {d:Do} {i:Nat} {v c:Int} (hi:(i:Int)<C.aF) (hd:d.kE=0∧d.a=i) (hw:M.dQ.calls i=false):Out C d M (M.cC i v c).1:=by
 unfold cY.cC
 dsimp only
 split
 ·exact .same rfl rfl fun _=>rfl
 ·rename_i h
  have h:(aY.cC (M.aH i) i v c).2.2=0:=Decidable.not_not.1 h
  exact .ev i _ _ hi hd hw rfl rfl (E4 h) (Ky h) fun _=>rfl
theorem zu {s:aY} {i:Nat} {a:Mc.Ask} (h:aY.Vg s i=some a):a.core=i∧∃x,aY.next? s=some x∧x.op=8:=by
 unfold aY.Vg at h
 grind
theorem rn {d:Do} {i:Nat} {a:Mc.Ask} (hI:eN C N M) (hi:(i:Int)<C.aF) (hd:d.kE=0∧d.a=i) (hw:M.dQ.calls i=false) (ha:aY.Vg (M.aH i) i=some a):Out C d M (M.call C i a).1:=by
 obtain⟨h1,h2⟩:=zu ha
 unfold cY.call
 dsimp only
 split
 ·exact uM hi hd hw
 ·rename_i he
  split
  ·exact .same rfl rfl fun _=>rfl
  ·have he:(M.dQ.call C.aF a).2.2=0:=Decidable.not_not.1 he
   have hn0:rc M.dQ a.cB.toNat=none:=by
    unfold Mon.call at he
    split at he
    ·cases he
    split at he
    ·cases he
    rename_i n2
    split at he
    ·cases he
    rename_i n3
    have h0:0≤a.cB:=(Decidable.not_not.1 n2).1
    have n3:M.dQ.phase a.cB=0:=Decidable.not_not.1 n3
    unfold Mon.phase Mon.run at n3
    rw[if_pos h0] at n3
    unfold rc
    cases hr:M.dQ.runs a.cB.toNat with
    |none=>rfl
    |some r=>rw[hr] at n3;have:=(hI.dQ.run _ r hr).2.2.1;grind
   refine .ask i a.cB.toNat hi hd hw rfl rfl h2 (fun g'=>?_) hn0
   show rc (M.dQ.call C.aF a).1 g'=_
   unfold Mon.call at he ⊢
   repeat' split at he
   all_goals first|(exfalso;revert he;simp;done)|skip
   rename_i n1 n2 n3 n4
   rw[if_neg n1,if_neg n2,if_neg n3,if_neg n4]
   dsimp only at he ⊢
   split at he
   ·grind
   ·rename_i n5
    rw[if_neg n5]
    unfold rc Mon.dN bT
    dsimp only
    split
    ·show some a.core=_;rw[h1]
    ·rfl
theorem T5 {d:Do} {i:Nat} {a:Acc} (hi:(i:Int)<C.aF) (hd:d.kE=0∧d.a=i) (hw:M.dQ.calls i=false):Out C d M (M.access C i a).1:=by
 have same:∀{r:cY},r.aH=M.aH→r.log=M.log→r.dQ=M.dQ→Out C d M r:=fun a b c=> .same a b fun g=>by rw[c]
 unfold cY.access
 split
 ·exact uM hi hd hw
 ·dsimp only
  split
  ·grind
  ·split
   ·unfold cY.walk
    grind
   ·split
    ·exact uM hi hd hw
    ·split
     ·unfold cY.want
      grind
     ·unfold cY.Np
      dsimp only
      rcases uM (C:=C) (M:=M.sE i (if a.write=true then lK C (if a.read=true then rT C (M.dK i) (a.word/2) (a.word % 2) (M.known i (a.word/2/2)) else M.dK i) (a.word/2) (a.word % 2) (M.known i (a.word/2/2)) a.value else if a.read=true then rT C (M.dK i) (a.word/2) (a.word % 2) (M.known i (a.word/2/2)) else M.dK i)) (d:=d) (v:=if a.read=true then Ng C (M.dK i) (a.word/2) (a.word % 2) else 0) (c:=0) hi hd hw with⟨a,b,c⟩|⟨i,s,v,a,b,c,e,f,g,k,l⟩|⟨i,g,a,b,c,e,f,k,l,z⟩|⟨i,g,s,v,a,b,c,e,f,k,l,n,o,p⟩
      ·exact .same a b c
      ·exact .ev i s v a b c e f g k l
      ·exact .ask i g a b c e f k l z
      grind
theorem J1 {m:Mon} {g c:Int}:∀k,rc (m.dropped C.aF g c).1 k=rc m k:=by
 intro k
 unfold Mon.dropped
 split
 ·rfl
 ·split
  ·rfl
  ·rename_i r hr
   split
   ·rfl
   ·split
    ·rfl
    ·unfold Mon.run at hr
     split at hr
     ·unfold rc Mon.dN bT
      dsimp only
      split
      ·rename_i e;subst e;rw[hr];rfl
      ·rfl
     ·cases hr
theorem Ei {n:aQ}:(M.fX C n).1.aH=M.aH∧(M.fX C n).1.log=M.log∧∀g,rc (M.fX C n).1.dQ g=rc M.dQ g:=by
 unfold cY.fX
 repeat' split
 all_goals first
  |exact⟨rfl,rfl,fun _=>rfl⟩
  |skip
 dsimp only
 split
 ·exact⟨rfl,rfl,fun g=>J1 g⟩
 ·exact⟨rfl,rfl,fun g=>J1 g⟩
theorem so {m:Mon} {g:Int} {u:Mc.iG} (h:(m.over g).2.1=some u):rc m g.toNat=some u.core∧∀k,rc (m.over g).1 k=if k=g.toNat then none else rc m k:=by
 unfold Mon.over at h ⊢
 split at h
 ·cases h
 ·rename_i n1
  rw[if_neg n1]
  cases hr:m.run g with
  |none=>rw[hr] at h;cases h
  |some r=>
   rw[hr] at h
   dsimp only at h ⊢
   split at h
   ·cases h
   ·rename_i n2
    rw[if_neg n2]
    cases h
    unfold Mon.run at hr
    split at hr
    ·refine⟨by unfold rc;rw[hr];rfl,fun k=>?_⟩
     unfold rc Mon.dN bT
     dsimp only
     split
     ·rfl
     ·rfl
    ·cases hr
theorem Xt (_:C.Ok) (hI:eN C N M) (hW:dp M) {d:Do}:Out C d M (M.Fj C d).1:=by
 have same:∀{r:cY},r.aH=M.aH→r.log=M.log→(∀g,rc r.dQ g=rc M.dQ g)→Out C d M r:=fun a b c=> .same a b c
 unfold cY.Fj
 split
 ·rename_i hd
  unfold cY.step
  split
  ·grind
  ·rename_i ha
   have ha:0≤d.a∧d.a<C.aF:=Decidable.not_not.1 ha
   have hi:((d.a.toNat:Nat):Int)<C.aF:=by omega
   have hdi:d.kE=0∧d.a=(d.a.toNat:Nat):=⟨hd,by omega⟩
   dsimp only
   split
   ·grind
   ·split
    ·grind
    ·rename_i hw
     have hw:M.dQ.calls ((d.a.toNat:Nat):Int)=false:=by
      rw[←hdi.2]
      unfold cY.waits at hw
      simpa using hw
     split
     ·rename_i r hr
      exact .ev _ _ _ hi hdi hw rfl rfl (Uk hr) (nu hr) fun _=>rfl
     ·split
      ·rename_i a ha
       exact rn hI hi hdi hw ha
      ·split
       ·exact T5 hi hdi hw
       grind
 ·split
  ·unfold cY.vF
   dsimp only
   repeat' split
   all_goals first
    |exact same rfl rfl fun _=>rfl
    |exact same Ei.1 Ei.2.1 Ei.2.2
  ·split
   ·unfold cY.begin
    grind
   ·split
    ·rename_i hd
     unfold cY.finish
     split
     ·grind
     ·split
      ·grind
      ·dsimp only
       split
       ·grind
       ·rename_i u hu
        obtain⟨h1,h2⟩:=so hu
        have hc:=(Ri (g:=d.a) hI.dQ).2 u hu
        obtain⟨i,hi⟩:=Int.eq_ofNat_of_zero_le hc.1
        obtain⟨x,hx,h8⟩:=hW.op _ _ h1
        have ei:u.core.toNat=i:=by omega
        rw[ei] at hx ⊢
        have key:∀P:cY,P.aH=M.aH→P.log=M.log→(∀g,rc P.dQ g=if g=d.a.toNat then none else rc M.dQ g)→Out C d M (P.cC i 0 0).1:=by
         intro P p1 p2 p3
         have er:aY.cC (P.aH i) i 0 0=(((M.aH i).dN x.b 0).nA ((M.aH i).at'+1),aY.ev (M.aH i) i x ((M.aH i).cX x.b.toNat) ((M.aH i).cX x.c.toNat) 0,0):=by
          rw[p1]
          unfold aY.cC
          grind
         have e0:(aY.cC (M.aH i) i 0 0).2.2=0:=by rw[←p1,er]
         unfold cY.cC
         dsimp only
         rw[if_neg (by rw[er];simp)]
         refine .fin i d.a.toNat (aY.cC (P.aH i) i 0 0).1 (aY.cC (P.aH i) i 0 0).2.1 (by omega) hd (by rw[h1,hi]) (by grind) (by grind) ?_ ?_ ?_ ?_ p3
         ·rw[p1];exact E4 e0
         ·rw[er];exact⟨h8,rfl⟩
         ·rw[er];rfl
         ·rw[p1];exact Ky e0
        grind
    grind
end Go.Mc
end
section
namespace Go.Mc
open Go Go.Ab Go.Hm Go.At Go.Is Go.Ct Go.Nt
variable {C:bQ} {N:Nat} {M M':cY} {d:Do}
theorem Yg {m:Mon} (hm:gD C m) {g:Nat} {c:Int} (h:rc m g=some c):0≤c∧c<C.aF:=by
 unfold rc at h
 cases hr:m.runs g with
 |none=>rw[hr] at h;cases h
 |some r=>
  rw[hr] at h
  cases h
  exact(hm.run g r hr).2.2.2.1
theorem dp.out (hC:C.Ok) (hI:eN C N M) (hW:dp M) (ho:Out C d M M'):dp M':=by
 have hcl:∀{i:Nat},M.dQ.calls i=false→∀g c,rc M.dQ g=some c→c.toNat≠i:=by
  intro i hf g c hg e
  have h1:=Yg hI.dQ hg
  have:c=i:=by omega
  subst this
  have:=(Dl hC hI.dQ).2 ⟨g,hg⟩
  grind
 cases ho with
 |same h1 h2 h3=>exact⟨fun g c hg=>by rw[h1];exact hW.op g c (by rw[←h3];exact hg),fun g g' c a b=>hW.one g g' c (by rw[←h3];exact a) (by rw[←h3];exact b)⟩
 |ev i s v hi hd hw h1 h2 hc hr h3=>
  refine⟨fun g c hg=>?_,fun g g' c a b=>hW.one g g' c (by rw[←h3];exact a) (by rw[←h3];exact b)⟩
  rw[h3] at hg
  rw[h1]
  unfold bT
  rw[if_neg (hcl hw g c hg)]
  exact hW.op g c hg
 |ask i g hi hd hw h1 h2 hx h3=>
  constructor
  ·intro g' c hg
   rw[h3] at hg
   rw[h1]
   split at hg
   ·cases hg;exact hx
   ·exact hW.op g' c hg
  ·intro g1 g2 c a b
   rw[h3] at a b
   split at a
   ·grind
   ·split at b
    ·grind
    ·exact hW.one g1 g2 c a b
 |fin i g s v hi hd hg h1 h2 hc hv ha hr h3=>
  constructor
  ·intro g' c hg'
   rw[h3] at hg'
   split at hg'
   ·cases hg'
   ·rename_i hne
    rw[h1]
    unfold bT
    have h0:=Yg hI.dQ hg'
    rw[if_neg (fun e=>hne (hW.one g' g c hg' (by grind)))]
    exact hW.op g' c hg'
  ·intro g1 g2 c a b
   rw[h3] at a b
   split at a
   ·cases a
   ·split at b
    ·cases b
    ·exact hW.one g1 g2 c a b
def Xp (i:Nat) (s:aY):List Ev→Option aY
 |[]=>some s
 |x::l=>if x.core=i then(match rp i s x with|some t=>Xp i t l|none=>none) else Xp i s l
theorem On {i:Nat}:∀{l:List Ev} {s t:aY} {x:Ev},Xp i s l=some t→Xp i s (l++[x])=if x.core=i then rp i t x else some t
 |[],s,t,x,h=>by
  cases h
  show Xp i s [x]=_
  unfold Xp
  split
  ·cases rp i s x<;>rfl
  ·rfl
 |y::l,s,t,x,h=>by
  rw[List.cons_append]
  unfold Xp at h ⊢
  split
  ·rename_i e
   rw[if_pos e] at h
   cases hr:rp i s y with
   |none=>rw[hr] at h;cases h
   |some u=>rw[hr] at h;exact On h
  ·rename_i e
   rw[if_neg e] at h
   exact On h
def RPs (C:bQ) (S:Nat→aY) (M:cY):Prop:=∀i:Nat,(i:Int)<C.aF→Xp i (S i) M.log=some (M.aH i)
theorem RPs.out {S:Nat→aY} (h:RPs C S M) (ho:Out C d M M'):RPs C S M':=by
 have one:∀{i:Nat} {s:aY} {v:Ev},M'.aH=bT M.aH i s→M'.log=M.log++[v]→v.core=i→rp i (M.aH i) v=some s→RPs C S M':=by
  intro i s v h1 h2 hc hr j hj
  rw[h1,h2,On (h j hj)]
  unfold bT
  by_cases e:j=i
  ·subst e
   rw[if_pos hc,if_pos rfl]
   exact hr
  ·grind
 cases ho with
 |same h1 h2 h3=>intro i hi;rw[h1,h2];exact h i hi
 |ev i s v hi hd hw h1 h2 hc hr h3=>exact one h1 h2 hc hr
 |ask i g hi hd hw h1 h2 hx h3=>intro i hi;rw[h1,h2];exact h i hi
 |fin i g s v hi hd hg h1 h2 hc hv ha hr h3=>exact one h1 h2 hc hr
structure Yn (C:bQ) (S:Nat→aY) (N:Nat) (M:cY):Prop where
 inv:eN C N M
 wait:dp M
 Xp:RPs C S M
theorem Yn.Fj {S:Nat→aY} (hC:C.Ok) (h:Yn C S N M):Yn C S (N+2) (M.Fj C d).1:=by
 have ho:=Xt (d:=d) hC h.inv h.wait
 exact⟨xo h.inv hC,h.wait.out hC h.inv ho,h.Xp.out ho⟩
theorem Yn.len {S:Nat→aY} (h:Yn C S N M):M.log.length≤N:=h.inv.log
theorem Yn.runs {S:Nat→aY} (hC:C.Ok):∀{l:List Do} {N:Nat} {M:cY},Yn C S N M→Yn C S (N+2*l.length) (M.runs C l):=by
 intro l
 induction l with
 |nil=>intro N M h;exact h
 |cons d l ih=>
  intro N M h
  have:=ih (h.Fj (d:=d) hC)
  rw[List.length_cons,show N+2*(l.length+1)=N+2+2*l.length by omega]
  exact this
theorem oz:(M.sY C [d] 0).1=(M.Fj C d).1:=by
 unfold cY.sY
 split
 ·rfl
 ·rfl
end Go.Mc
end
section
namespace Go.Proofs.YtajjljbmfdboaaaGreatDoor
open Go Go.Ab Go.Hm Go.At Go.Mc Go.Ct Go.Nt Go.Is
theorem Lo {C:bQ} {ps:List (List Ins)} {ws os vs:List Int} (h:Aw C ps ws os vs=0):∀i:Nat,(i:Int)<C.aF→(S5 ps ws i).Ok:=by
 obtain⟨hC,e1,e2,e3,e4,e5,e6,e7⟩:=Dn h
 intro i hi
 have hip:i<ps.length:=by omega
 have hm:ps.getD i []∈ps:=by rw[List.getD_eq_getElem?_getD,List.getElem?_eq_getElem hip];exact List.getElem_mem _
 have hc:=A.wF e5 _ hm
 have hl:=A.Mj hc
 refine⟨show(0:Int)≤0 by decide,show(0:Int)≤32 by decide,rfl,hl,fun x hx=>?_⟩
 unfold jH at hc
 rw[if_neg (by omega)] at hc
 exact Wv _ _ hc x hx
theorem tu {C:bQ} {ps:List (List Ins)} {ws os vs:List Int} (h:Aw C ps ws os vs=0):eN C 0 (MC.new ⟨C,ps,ws,os,vs⟩):=by
 obtain⟨hC,e1,e2,e3,e4,e5,e6,e7⟩:=Dn h
 refine⟨⟨?_,?_,fun g r hr=>by cases hr⟩,Lo h,fun i hi=>jh,fun i hi=>⟨?_,?_⟩,fun l hl=>?_,⟨fun c w=>?_,fun c w n hn=>by cases hn⟩,Nat.le_refl 0⟩
 ·show(os.map fun o=>(⟨o,false⟩:jP)).length=_
  rw[List.length_map];exact e3
 ·intro x hx
  obtain⟨o,ho,rfl⟩:=List.mem_map.1 hx
  exact e7 o ho
 ·show((0:Nat):Int)≤C.entries
  have:1≤C.entries:=by unfold bQ.Ok at hC;omega
  omega
 ·show(0:Int)≤0∧(0:Int)<C.bP
  have:=hC.2.1.1
  omega
 ·have e:((MC.new ⟨C,ps,ws,os,vs⟩).home l).1=Bv:=by
   show(rF C.lines l).1=Bv
   unfold rF
   rw[if_pos hl]
  rw[e]
  exact⟨aDk l,Nat.zero_le _⟩
 ·show((0:Nat):Int)≤C.depth
  have:1≤C.depth:=hC.2.2.2.2.1.1
  omega
theorem Y3 {C:bQ} {ps:List (List Ins)} {ws os vs:List Int} (h:Aw C ps ws os vs=0):Mc.Yn C (S5 ps ws) 0 (MC.new ⟨C,ps,ws,os,vs⟩):=
 ⟨tu h,⟨(fun g c hg=>by cases hg),(fun g g' c hg=>by cases hg)⟩,fun i hi=>rfl⟩
theorem iu {a b:Ev} {k:Value→Prop} (hk:k (.bool (decide (a≠b)))) {c0:Bool} (hc:c0=true:=by kernel_rfl):Lx c0 [0,0,0,0,0,0,0] .neq (.agg ⟨a.enc⟩) (.agg ⟨b.enc⟩) k:=by
 refine⟨hc,_,?_,hk⟩
 cases a;cases b
 simp[Km,nC,Nh,P8,Ev.enc]
 rw[Bool.eq_iff_iff]
 simp
theorem S0 {s:aY} {k:Value→Prop} (hk:k (.bool false)) {c0:Bool} (hc:c0=true:=by kernel_rfl):Lx c0 [0,0,0,0,0,0,1] .neq (.agg ⟨s.core⟩) (.agg ⟨s.core⟩) k:=⟨hc,_,by simp[Km,nC,Nh,P8,aY.core],hk⟩
set_option maxRecDepth 100000
attribute [local irreducible] aZ Br oM rI sQ Bi lE tH kU Qb gI lF pD pW oR kH zH tJ W2 Ut Qa Nn T3 P6 Km Lx T2 jR mX rV iO copyV iB vL Va Uo Fm kB Lu Sv Vn nF rH wK zB Cl wX T1 rM qX jI gS cI cA
variable {G:Bg} {h:AH} {L L':List HP} {Q:Value→AH→Prop} {Cf:bQ} {m N:Nat} {M:cY}
def N2 (G:Bg) (v:Value) (l:List Do):Prop:=rL G 4 v (l.map Do.enc).length (fun i=>(l.map Do.enc).getD i [])
theorem Xn {v:Value} {l:List Do} (ho:N2 G v l) (hs:Hs G h L):Hs G h (wY G 4 23 v (l.map Do.enc)::L):=xO (by simp[Do.enc]) ho hs
theorem cu {v:Value} {l:List Do} {k:Value→Prop} (ho:N2 G v l) (hk:k (I l.length)):aZ (kH v) k:=A.rY ho (by rw[List.length_map];exact hk)
theorem ra {d:Do} {a:Addr} {c:Nat} {k:Value→AH→Prop} (hC:Cf.Ok) (hG:Gb G) (hI:eN Cf N M) (hN:N≤2^28) (hs:Hs G h (dB 4 23 (some a) c (1,d.enc)::bG G Cf m M::L))
  (hk:∀h',Hs G h' (bG G Cf m (M.Fj Cf d).1::L)→k (.tuple ⟨[I (M.sY Cf [d] 0).2.1,I (M.sY Cf [d] 0).2.2]⟩) h'):Cl Pr K 15 [pt m 0 0,.slice (some a) 1 c] h k:=by
 have hs:=j9 (l:=[d].map Do.enc) (n:=1) (cs:=d.enc) (by simp[Do.enc]) rfl (by simp) hs
 refine y4 (l:=[d]) (v:= .slice (some a) 1 c) hC hG hI (by simp;omega) hs fun h hs=>hk h ?_
 rw[oz] at hs
 exact hs.tail
end Go.Proofs.YtajjljbmfdboaaaGreatDoor
end
