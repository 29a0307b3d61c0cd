/- A part of the proof. -/
import Derived.Test.YtajjljbmfdboaaaGreatDoorF15
import Derived.Test.YtajjljbmfdboaaaGreatDoorF14
import Derived.Test.YtajjljbmfdboaaaGreatDoorF13
section
open Go Go.Ab
attribute [local irreducible] bA Br pN uC uU Dp nH xW nQ Tx gZ mQ rE sP qX lA B8 uK Y9 dw Tv Sl dj Ty Ry U9 Yi lJ pF vW jB copyV jC wY ft Zd Iw lI P0 Wx en qE uG Be Dk Cl zV Xm uE sS lC gK cS cC
section
namespace Go.Proofs.YtajjljbmfdboaaaGreatDoor
open Go Go.Ab Go.Hm Go.At Go.Mc Go.Ct Go.Nt Go.Is
theorem Vs {g:Int} {i:Nat}:(List.range (i+1)).map (fun i:Nat=>eU 13 i g)=(List.range i).map (fun i:Nat=>eU 13 i g)++[eU 13 i g]:=by
 rw[List.range_succ,List.map_append];rfl
set_option maxRecDepth 100000
variable {G:Bg} {h:AH} {L L':List HP} {Q:Value→AH→Prop} {Cf:bL} {m:Nat} {M:cR}
theorem qz {i:Nat} {a:Mc.Ask} (hC:Cf.Ok) (hG:Gb G) (hi:(i:Int)<Cf.aF) (hm:gB Cf M.dY) (ho:(M.aS i).Ok) (hlog:M.log.length≤2^30) (hL:Wp Cf M.jE) (hs:Hs G h L) [mm:Has (bG G Cf m) L M L'] (hk:∀h',Hs G h' (bG G Cf m (M.call Cf i a).1::L')→Q (I (M.call Cf i a).2) h'):Cl Pr K 153 [pt m 0 0,I i,.agg ⟨a.enc⟩] h Q:=by
 unfold cR.call at hk
 have hc:=hC.1
 refine cW (dI (mm.of hs) fun p2 h hs=>?_)
 obtain⟨x,hl,hs⟩:=cB (hs.front (bG G Cf m M))
 refine aB (aA (aC (b:=m) (o:=0) hs rfl (Hk (C:=Cf) (m:=M.dY) hC hm hs fun q h hs=>?_)))
 have hs0:=hs.tail
 refine aQ (b:=p2) (o:=0) hs (by decide) (l:=a.enc) rfl rfl (V9 (C:=Cf) (m:=M.dY) (p:=q) hC hm hs fun h hs=>aG rfl (aG rfl (aY (aR (fun h1=>?_) (fun h1=>?_)))))
 ·rw[if_pos h1] at hk
  have hs:=bC (m:=m) (x:=x) M hl hs
  exact lY (Cf:=Cf) (M:=M) hi ho hlog hs fun h hs=>hk _ hs.to
 rw[if_neg h1] at hk
 generalize hcc:M.dY.call Cf.aF a=rc at hk hs
 have loop:∀(f j:Nat) (h:AH) (b:Option Addr) (c:Nat),j+f=Cf.aF.toNat→Hs G h (qF b c ((List.range j).map fun i:Nat=>eU 13 i a.cE)::fD Cf q rc.1::aE m 0 (eX Cf x M.log.length)::g9 x.ac x.cc x.lc::Uo x.ak x.ck x.lk::Ul x.aq x.cq x.lq::
   nV sC x.lc M.aS::nV (oL G Cf) x.lk M.dC::nV (oC Cf) x.lq M.cK::H.eY G x.hb Cf M.home::fD Cf x.mb M.dY::mF Cf x.fb M.jE::fq x.al x.cl M.log::aE p2 0 a.enc::L')→
   Dd 153 2 [] Q [(pt m 0 0),(pt p2 0 0),(pt q 0 0),(.slice b j c),(I Cf.aF),(I j)] h:=by
  intro f
  induction f with
  |zero=>
   intro j h b c hj hs
   have hjj:j=Cf.aF.toNat:=by omega
   have hln:((List.range j).map fun i:Nat=>eU 13 i a.cE)=Mk Cf.aF a.cE:=by rw[hjj];rfl
   rw[hln] at hs
   have hlen:(Mk Cf.aF a.cE).length=j:=by rw[←hln];simp
   refine bW (aN (aK (by omega) (bW (aB (aA (aC (b:=m) (o:=0) hs rfl ?_))))))
   rw[←hlen]
   refine Cx (C:=Cf) (f:=x.fb) (F:=M.jE) (l:=Mk Cf.aF a.cE) (a:=b) (c:=c) hC (hL.J7 hC) (by omega) hG.kin hG.lim hs fun h hs=>aY (aR (fun h2=>?_) (fun h2=>?_))
   ·dsimp only at hk
    rw[if_pos h2] at hk
    rw[By h2] at hs
    exact hk _ (bC (m:=m) (x:=x) M hl hs).to
   ·dsimp only at hk
    rw[if_neg h2] at hk
    refine bW (aB (aA (bI (b:=m) (o:=0) hs rfl rfl rfl rfl fun h hs=>hk _ ?_)))
    have e:dL (eX Cf x M.log.length) (0+11) [pt q 0 0]=eX Cf {x with mb:=q} M.log.length:=rfl
    rw[e] at hs
    exact(bC (m:=m) (x:={x with mb:=q}) ((M.dL (fS.send Cf M.jE (Mk Cf.aF a.cE)).1).nE rc.1) hl hs).to
  |succ f ih=>
   intro j h b c hj hs
   refine bW (aN (bP (by omega) (bW (aA (aC (b:=p2) (o:=0) hs rfl (aH (c:=(eU 13 j a.cE).enc) rfl (aH (c:=(eU 13 j a.cE).enc) rfl (dE (W:=9) (n:=1) (c:=1) hs rfl rfl rfl fun a2 h hs=>?_))))))))
   have hs:=nL (enc:=aJ.enc) (x:=eU 13 j a.cE) hs
   have hln:((List.range j).map fun i:Nat=>eU 13 i a.cE).length=j:=by simp
   have ap:∀k:Value×AH→Prop,(∀a' c' h',Hs G h' (qF a' c' ((List.range j).map (fun i:Nat=>eU 13 i a.cE)++[eU 13 j a.cE])::qF (some a2) 1 [eU 13 j a.cE]::_)→k (.slice a' ((List.range j).map (fun i:Nat=>eU 13 i a.cE)++[eU 13 j a.cE]).length c',h'))→bA (jB 9 72 175 h (.slice b ((List.range j).map fun i:Nat=>eU 13 i a.cE).length c) (.slice (some a2) [eU 13 j a.cE].length 1)) k:=fun k hk=>kB (enc:=aJ.enc) (e:=175) (l:=(List.range j).map fun i:Nat=>eU 13 i a.cE) (l2:=[eU 13 j a.cE]) (a:=b) (c:=c) (a2:=some a2) (c2:=1) hs (by simp;omega) hk
   rw[hln] at ap
   refine ap _ fun a' c' h hs=>bE (by omega) ?_
   rw[←Vs] at hs ⊢
   have:=ih (j+1) h a' c' (by omega) hs.to
   rw[show((List.range (j+1)).map fun i:Nat=>eU 13 i a.cE).length=j+1 by simp]
   exact this
 have hlc:x.lc.length=Cf.aF.toNat:=hl.1
 refine bW (aB (aA (aC (b:=m) (o:=0) hs rfl (bZ ?_))))
 have hs:Hs G h (qF none 0 ((List.range 0).map fun i:Nat=>eU 13 i a.cE)::_):=pV (enc:=aJ.enc) (e:=175) hs
 have e:(x.lc.length:Int)=Cf.aF:=by omega
 rw[e]
 exact loop Cf.aF.toNat 0 h none 0 (by omega) hs.to
end Go.Proofs.YtajjljbmfdboaaaGreatDoor
end
section
namespace Go.Proofs.YtajjljbmfdboaaaGreatDoor
open Go Go.Ab Go.Hm Go.At Go.Mc Go.Ct Go.Nt
theorem Eg {C:bL} {S:Nat→List Th} {l at' ow:Int} {w:Bool} (h1:0≤l∧l<C.lines) (h2:0≤at'∧at'<2) (h3:mW C.bJ.toNat S l ow w=true):pX C S l at' ow w=0:=by
 unfold pX wU
 rw[decide_eq_true h1,if_neg (by simp),if_neg (by omega),if_neg (by omega),if_neg (by rw[h3];simp)]
theorem ti {C:bL} {s:jF} (hg:mJ C s) {l ow at':Int} {w:Bool} (h1:0≤l∧l<C.lines) (h2:0≤at'∧at'<2) (h3:mW C.bJ.toNat s.S l ow w=true):mW C.bJ.toNat (sQ C s l at' ow).S l ow w=true:=by
 unfold sQ
 rw[if_pos (Eg h1 h2 (Qq h3))]
 have hp:(bU C.bJ.toNat s.S l).2=0:=by
  unfold mW at h3
  grind
 unfold mW at h3 ⊢
 rw[pq hg.bJ hp]
 exact h3
set_option maxRecDepth 100000
variable {G:Bg} {h:AH} {L L':List HP} {Q:Value→AH→Prop} {Cf:bL} {m:Nat} {M:cR}
theorem py {i:Nat} {a:Acc} {p2:Nat} {line at' ow:Int} (hC:Cf.Ok) (hG:Gb G) (hi:(i:Int)<Cf.aF) (hb:mJ Cf (M.dC i)) (ho:(M.aS i).Ok) (hlog:M.log.length≤2^30) (h1:0≤line∧line<Cf.lines) (h2:0≤at'∧at'<2) (h3:mW Cf.bJ.toNat (M.dC i).S line ow a.write=true)
  (hs:Hs G h (bG G Cf m M::aE p2 0 (rV a)::L)) (hk:∀h',Hs G h' (bG G Cf m (M.Pu Cf i line at' ow a).1::L)→Q (I (M.Pu Cf i line at' ow a).2) h'):Dd 154 6 [] Q [(pt m 0 0),(I i),(pt p2 0 0),(I line),(I at'),(I ow)] h:=by
 unfold cR.Pu at hk
 have wr:∀(s:jF) (v:Int) (h:AH),mJ Cf s→mW Cf.bJ.toNat s.S line ow a.write=true→Hs G h (bG G Cf m (M.sY i s)::aE p2 0 (rV a)::L)→
   (∀h',Hs G h' (bG G Cf m ((M.sY i (if a.write then mA Cf s line at' ow a.value else s)).cH i v 0).1::L)→Q (I ((M.sY i (if a.write then mA Cf s line at' ow a.value else s)).cH i v 0).2) h')→
   Dd 154 8 [] Q [(pt m 0 0),(I i),(pt p2 0 0),(I line),(I at'),(I ow),(I v)] h:=by
  intro s v h hb h3 hs hk
  refine bW (aA (aC (b:=p2) (o:=0) hs rfl (cU (fun hw=>?_) (fun hw=>?_))))
  ·rw[hw] at h3
   rw[if_pos hw] at hk
   obtain⟨x,hl,hs⟩:=cB hs
   have hik:i<x.lk.length:=by have:=hl.2.1;omega
   refine bW (aU hs fun rr h hs=>aB (aA (aC (b:=m) (o:=0) hs rfl (D4 hs hik (aA (aC (b:=p2) (o:=0) hs rfl ?_))))))
   have hs:=gF (R:=oL G Cf) (l:=x.lk) (s:=bT M.dC i s) hik hs
   rw[show bT M.dC i s i=s by unfold bT;rw[if_pos rfl]] at hs
   refine C.eu (C:=Cf) (core:=(i:Int)) (c:=x.lk.getD i 0) (s:=s) hC hb (Eg h1 h2 h3) hG.lim hG.row hs fun h hs=>aY (aK (by omega) ?_)
   have hs:=zI (Cf:=Cf) (l:=x.lk) (s:=bT M.dC i s) (i:=i) (t:=mA Cf s line at' ow a.value) hik hs
   rw[show bT (bT M.dC i s) i (mA Cf s line at' ow a.value)=bT M.dC i (mA Cf s line at' ow a.value) by funext j;unfold bT;split<;>rfl] at hs
   have hs:=bC (m:=m) (x:=x) (M.sY i (mA Cf s line at' ow a.value)) hl hs
   exact lY (Cf:=Cf) (M:=M.sY i (mA Cf s line at' ow a.value)) hi ho hlog hs fun h hs=>hk _ hs.to
  ·rw[if_neg (by rw[hw];simp)] at hk
   exact lY (Cf:=Cf) (M:=M.sY i s) hi ho hlog hs fun h hs=>hk _ hs.to
 refine bW (aA (aC (b:=p2) (o:=0) hs rfl (cU (fun hr=>?_) (fun hr=>?_))))
 ·rw[if_pos hr] at hk
  rw[if_pos hr] at hk
  obtain⟨x,hl,hs⟩:=cB hs
  have hik:i<x.lk.length:=by have:=hl.2.1;omega
  refine bW (aB (aA (aC (b:=m) (o:=0) hs rfl (D4 hs hik ?_))))
  have hs:=gF (R:=oL G Cf) (l:=x.lk) (s:=M.dC) hik hs
  refine C.ki (C:=Cf) (core:=(i:Int)) (c:=x.lk.getD i 0) (s:=M.dC i) hC hb (Eg h1 h2 (Qq h3)) hG.lim hG.row hs fun h hs=>aG rfl (aG rfl (aY (aK (by omega) ?_)))
  have hs:=zI (Cf:=Cf) (l:=x.lk) (s:=M.dC) (i:=i) (t:=sQ Cf (M.dC i) line at' ow) hik hs
  have hs:=bC (m:=m) (x:=x) (M.sY i (sQ Cf (M.dC i) line at' ow)) hl hs
  refine wr _ _ h (Le hb) (ti hb h1 h2 h3) hs.to fun h' hs=>?_
  exact hk _ hs
 ·rw[if_neg (by rw[hr];simp)] at hk
  rw[if_neg (by rw[hr];simp)] at hk
  refine wr (M.dC i) 0 h hb h3 ?_ fun h' hs=>hk _ hs
  have e:M.sY i (M.dC i)=M:=by unfold cR.sY;rw[bK]
  rw[e]
  exact hs.to
theorem V7 {i:Nat} {a:Acc} (hC:Cf.Ok) (hG:Gb G) (hi:(i:Int)<Cf.aF) (hb:mJ Cf (M.dC i)) (ho:(M.aS i).Ok) (hkn:(M.cK i).known.length≤100) (hL:Wp Cf M.jE) (hlog:M.log.length≤2^30) (hs:Hs G h L) [mm:Has (bG G Cf m) L M L'] (hk:∀h',Hs G h' (bG G Cf m (M.access Cf i a).1::L')→Q (I (M.access Cf i a).2) h'):Cl Pr K 154 [pt m 0 0,I i,.agg ⟨rV a⟩] h Q:=by
 unfold cR.access at hk
 have hbl:=(bL.eI hC).2.2
 refine cW (dI (cs:=rV a) (mm.of hs) fun p2 h hs=>aU hs fun rr h hs=>?_)
 obtain⟨x,hl,hs⟩:=cB (hs.front (bG G Cf m M))
 have shut:∀{h:AH} {N:List HP},Hs G h (aE m 0 (eX Cf x M.log.length)::g9 x.ac x.cc x.lc::Uo x.ak x.ck x.lk::Ul x.aq x.cq x.lq::
  nV sC x.lc M.aS::nV (oL G Cf) x.lk M.dC::nV (oC Cf) x.lq M.cK::H.eY G x.hb Cf M.home::fD Cf x.mb M.dY::mF Cf x.fb M.jE::fq x.al x.cl M.log::N)→Hs G h (bG G Cf m M::N):=fun hs=>vS hl hs
 have hiq:i<x.lq.length:=by have:=hl.2.2;omega
 have hic:i<x.lc.length:=by have:=hl.1;omega
 refine aB (aA (iN (b:=m) (o:=0) hs (by decide) (l:=Cf.enc) rfl rfl (aA (aC (b:=p2) (o:=0) hs rfl (Eb (C:=Cf) hC hG.lim hs fun h hs=>?_)))))
 by_cases hw:0≤a.word∧a.word<Cf.lines*2
 rotate_left
 ·rw[if_neg hw]
  rw[if_pos hw] at hk
  have hs:=bC (m:=m) (x:=x) M hl hs
  exact aG rfl (aG rfl (aG rfl (aY (bP (by omega) (lY (Cf:=Cf) (M:=M) hi ho hlog hs fun h hs=>hk _ hs.to)))))
 rw[if_pos hw]
 rw[if_neg (by simpa using hw)] at hk
 obtain⟨w,hwe⟩:=Int.eq_ofNat_of_zero_le hw.1
 have e1:((a.word.toNat/2:Nat):Int)=a.word/2:=by rw[hwe];simp
 have e2:((a.word.toNat % 2:Nat):Int)=a.word % 2:=by rw[hwe];simp
 rw[e1,e2]
 have hln:0≤a.word/2∧a.word/2<Cf.lines:=by omega
 refine aG rfl (aG rfl (aG rfl (aY (aK (by omega) (bW (aB (aA (iN (b:=m) (o:=0) hs (by decide) (l:=Cf.enc) rfl rfl (Fm (C:=Cf) hC hG.lim hs fun h hs=>?_)))))))))
 rw[if_pos (show Cf.has (a.word/2) from hln)]
 refine aG rfl (aG rfl (aY (aK (by omega) (bW (aU hs fun r2 h hs=>aB (aA (aC (b:=m) (o:=0) hs rfl (Ep hs hiq (aB (aA (aC (b:=m) (o:=0) hs rfl (Ei hs hic (Qb (l:=x.lc) (S:=M.aS) hic hs ?_)))))))))))))
 have hs:=gF (R:=oC Cf) (l:=x.lq) (s:=M.cK) hiq hs
 refine ep (C:=Cf) (p:=x.lq.getD i 0) (s:=M.cK i) hkn hs fun h hs=>?_
 have hs:=sI (Cf:=Cf) (l:=x.lq) (s:=M.cK) (i:=i) (t:=M.cK i) hiq hs
 rw[bK] at hs
 have hs:=bC (m:=m) (x:=x) M hl hs
 dsimp only at hk
 refine aG rfl (aG rfl (aY (aR (fun h3=>?_) (fun h3=>?_))))
 ·rw[if_pos h3] at hk
  exact hk _ hs.to
 rw[if_neg h3] at hk
 refine bW (bH (aR (fun h4=>?_) (fun h4=>?_)))
 ·rw[if_pos h4] at hk
  exact kl (Cf:=Cf) (M:=M) hC hG hi hkn hL hs fun h hs=>hk _ hs.to
 rw[if_neg h4] at hk
 refine bW (bH (aR (fun h5=>?_) (fun h5=>?_)))
 ·rw[if_pos h5] at hk
  exact lY (Cf:=Cf) (M:=M) hi ho hlog hs fun h hs=>hk _ hs.to
 rw[if_neg h5] at hk
 refine bW (fi (Cf:=Cf) (M:=M) hi hkn hs fun h hs=>aU hs fun r3 h hs=>?_)
 obtain⟨x,hl,hs⟩:=cB (hs.front (bG G Cf m M))
 have hik:i<x.lk.length:=by have:=hl.2.1;omega
 refine aB (aA (aC (b:=m) (o:=0) hs rfl (D4 hs hik (aA (aC (b:=p2) (o:=0) hs rfl ?_)))))
 have hs:=gF (R:=oL G Cf) (l:=x.lk) (s:=M.dC) hik hs
 refine C.Nh (C:=Cf) (core:=(i:Int)) (c:=x.lk.getD i 0) (s:=M.dC i) hC (hb.bd (kK hC).2.2.2) hG.row hs fun h hs=>?_
 have hs:=zI (Cf:=Cf) (l:=x.lk) (s:=M.dC) (i:=i) (t:=M.dC i) hik hs
 rw[bK] at hs
 have hs:=bC (m:=m) (x:=x) M hl hs
 cases hmy:mW Cf.bJ.toNat (M.dC i).S (a.word/2) (M.known i (a.word/2/2)) a.write with
 |false=>
  rw[if_pos hmy] at hk
  exact bS (dQ (bV (aA (aC (b:=p2) (o:=0) hs rfl (mh (Cf:=Cf) (M:=M) hC hG hi hb hL hs fun h hs=>hk _ hs.to)))))
 |true=>
  rw[if_neg (by rw[hmy];simp)] at hk
  exact bS (dQ (eQ (py (L:=L') (Cf:=Cf) (M:=M) hC hG hi hb ho hlog hln (by omega) hmy hs.to fun h hs=>hk _ hs.to)))
end Go.Proofs.YtajjljbmfdboaaaGreatDoor
end
section
namespace Go.Proofs.YtajjljbmfdboaaaGreatDoor
open Go Go.Ab Go.Hm Go.At Go.Mc Go.Ct Go.Nt
set_option maxRecDepth 100000
variable {G:Bg} {h:AH} {L L':List HP} {Q:Value→AH→Prop} {Cf:bL} {m:Nat} {M:cR}
theorem Ph {l:List Nat} {S:Nat→aX} {i:Nat} {k:Value→Prop} (hi:i<l.length) (hs:Hs G h L) [mm:Has (nV sC l) L S L'] (hk:k (.bool (S i).over)):bA (mQ (pt (l.getD i 0) 0 0)) fun v=>bA (gZ 0 v) fun v=>bA (gZ 6 v) fun v=>bA (pN h v) k:=by
 have hs:=gF (R:=sC) (l:=l) (s:=S) hi hs
 obtain⟨a,c,hs⟩:=pA hs
 exact aB (aA (aA (aC (b:=l.getD i 0) (o:=0) hs rfl hk)))
theorem r7 {d:Do} (hC:Cf.Ok) (hG:Gb G) (hok:∀i:Nat,(i:Int)<Cf.aF→jm Cf M i) (hs:Hs G h L) [mm:Has (bG G Cf m) L M L'] (hk:∀h',Hs G h' (bG G Cf m (M.step Cf d.a).1::L')→Q (I (M.step Cf d.a).2) h'):Cl Pr K 110 [pt m 0 0,.agg ⟨d.enc⟩] h Q:=by
 unfold cR.step at hk
 have hc:=hC.1
 refine cW (dI (cs:=d.enc) (mm.of hs) fun p2 h hs=>aU hs fun rr h hs=>?_)
 obtain⟨x,hs⟩:=Vv (hs.front (bG G Cf m M))
 obtain⟨hl,hs⟩:=iF hs
 refine aA (aC (b:=p2) (o:=0) hs rfl (aN (aR (fun h1=>?_) (fun h1=>?_))))
 ·rw[if_pos (by omega)] at hk
  exact hk _ (bC (m:=m) (x:=x) M hl hs).to
 have hlc:=hl.1
 refine aA (aC (b:=p2) (o:=0) hs rfl (aB (aA (aC (b:=m) (o:=0) hs rfl (bZ (dR (aR (fun h2=>?_) (fun h2=>?_))))))))
 ·rw[if_pos (by omega)] at hk
  exact hk _ (bC (m:=m) (x:=x) M hl hs).to
 rw[if_neg (by omega)] at hk
 obtain⟨w,a,b,c⟩:=d
 dsimp only at h1 h2 hk
 obtain⟨i,rfl⟩:=Int.eq_ofNat_of_zero_le (show 0≤a by omega)
 rw[Int.toNat_natCast] at hk
 have hic:i<x.lc.length:=by omega
 have hi:(i:Int)<Cf.aF:=by omega
 have ho:=hok i hi
 refine bW (aU hs fun r2 h hs=>aB (aA (aC (b:=m) (o:=0) hs rfl (aA (aC (b:=p2) (o:=0) hs rfl (Ei hs hic (Ph (l:=x.lc) (S:=M.aS) hic hs (cU (fun h3=>?_) (fun h3=>?_)))))))))
 ·rw[if_pos h3] at hk
  exact hk _ (bC (m:=m) (x:=x) M hl hs).to
 rw[if_neg (by rw[h3];simp)] at hk
 have hs:=mH (m:=m) (x:=x) M hl hs
 refine bW (aA (aC (b:=p2) (o:=0) hs rfl (Lf (x:=x) (M:=M) ho.dY hs fun h hs=>cU (fun h4=>?_) (fun h4=>?_))))
 ·rw[if_pos h4] at hk
  exact hk _ (qo hs).to
 rw[if_neg (by rw[h4];simp)] at hk
 obtain⟨hl,hs⟩:=iF (hs.front (mV G Cf m x M))
 have hs:=gF (R:=sC) (l:=x.lc) (s:=M.aS) hic hs
 refine bW (kn (i:=i) (p:=x.lc.getD i 0) (s:=M.aS i) ho.A3 hs fun h hs=>?_)
 cases hlo:aX.oS (M.aS i) i with
 |some r=>
  rw[hlo] at hs hk
  dsimp only at hs hk
  have hs:=Ga (l:=x.lc) (s:=M.aS) (i:=i) (t:=r.1) hic hs
  refine aG rfl (aG rfl (bN hs fun q h hs=>aZ (b:=q) hs rfl rfl rfl rfl fun h hs=>eQ (bW (aU hs fun r3 h hs=>aB (aA (aC (b:=m) (o:=0) hs rfl (aQ (b:=q) (o:=0) hs (by decide) (l:=r.2.enc) rfl rfl (aH (c:=r.2.enc) rfl ?_))))))))
  refine iW (r:=r3) (i:=6) (N:=11) (D:=[]) (W:=7) hs rfl rfl rfl rfl rfl fun a h hs=>?_
  have hs:=nL (enc:=Ev.enc) (x:=r.2) hs
  refine Yb (l:=M.log) (v:=r.2) ho.log hs fun a' c' h hs=>aB (aA (bI (b:=m) (o:=0) hs rfl rfl rfl rfl fun h hs=>cQ dA (hk _ ?_)))
  have e:dL (eX Cf x M.log.length) (0+13) [.slice a' (M.log++[r.2]).length c']=eX Cf {x with al:=a',cl:=c'} (M.log++[r.2]).length:=rfl
  rw[e] at hs
  exact(bC (m:=m) (x:={x with al:=a',cl:=c'}) ((M.wR i r.1).R2 r.2) hl hs).to
 |none=>
  rw[hlo] at hs hk
  dsimp only at hs hk
  refine aG rfl (aG rfl (bN hs fun q h hs=>aZ (b:=q) hs rfl rfl rfl rfl fun h hs=>bV (bW (aAd (i:=i) (p:=x.lc.getD i 0) (s:=M.aS i) ho.A3 hs fun h hs=>?_))))
  cases has:aX.Vd (M.aS i) i with
  |some r=>
   rw[has] at hk
   dsimp only at hk
   have hs:=Ga (l:=x.lc) (s:=M.aS) (i:=i) (t:=M.aS i) hic hs
   rw[bK] at hs
   have hs:=bC (m:=m) (x:=x) M hl hs
   exact aG rfl (aG rfl (bN hs fun q2 h hs=>aZ (b:=q2) hs rfl rfl rfl rfl fun h hs=>eQ (aA (aC (b:=p2) (o:=0) hs rfl (aQ (b:=q2) (o:=0) hs (by decide) (l:=r.enc) rfl rfl (qz (Cf:=Cf) (M:=M) hC hG hi ho.dY ho.A3 ho.log ho.jE hs fun h hs=>hk _ hs.to))))))
  |none=>
   rw[has] at hk
   dsimp only at hk
   refine aG rfl (aG rfl (bN hs fun q2 h hs=>aZ (b:=q2) hs rfl rfl rfl rfl fun h hs=>bV (bW (Lu (i:=i) (p:=x.lc.getD i 0) (s:=M.aS i) ho.A3 hs fun h hs=>?_))))
   have hs:=Ga (l:=x.lc) (s:=M.aS) (i:=i) (t:=M.aS i) hic hs
   rw[bK] at hs
   have hs:=bC (m:=m) (x:=x) M hl hs
   cases hac:aX.Gj (M.aS i) with
   |some r=>
    rw[hac] at hk
    dsimp only at hk
    exact aG rfl (aG rfl (bN hs fun q3 h hs=>aZ (b:=q3) hs rfl rfl rfl rfl fun h hs=>bS (dQ (eQ (aA (aC (b:=p2) (o:=0) hs rfl (aQ (b:=q3) (o:=0) hs (by decide) (l:=rV r) rfl rfl (V7 (Cf:=Cf) (M:=M) hC hG hi ho.Tw ho.A3 ho.wQ ho.jE ho.log hs fun h hs=>hk _ hs.to))))))))
   |none=>
    rw[hac] at hk
    dsimp only at hk
    exact aG rfl (aG rfl (bN hs fun q3 h hs=>aZ (b:=q3) hs rfl rfl rfl rfl fun h hs=>bS (dQ (bV (hk _ hs.to)))))
end Go.Proofs.YtajjljbmfdboaaaGreatDoor
end
section
namespace Go.Proofs.YtajjljbmfdboaaaGreatDoor.H
open Go Go.Ab Go.Hm
set_option maxRecDepth 100000
variable {G:Bg} {h:AH} {L L':List HP}
theorem oz {C:bL} {hb:Nat} {H:iJ} {x:Int} {Q:Value→AH→Prop} (hs:Hs G h L) [m:Has (eY G hb C) L H L'] (hk:Hs G h (eY G hb C H::L')→Q (I (Dl C H x)) h):Cl Pr K 64 [pt hb 0 0,I x] h Q:=by
 have hk:=hk (m.of hs)
 obtain⟨mb,b,o,cap,hs⟩:=lE (m.of hs)
 unfold Dl at hk
 refine cW (tB hs (bS (dQ (aR (fun h3=>?_) (fun h3=>?_)))))
 ·obtain⟨l,rfl⟩:=Int.eq_ofNat_of_zero_le h3.1
  have hl:l<C.lines:=by have:=h3.2;omega
  obtain⟨wa,wc,hs⟩:=dH (Bw (H:=H) (b:=b) (o:=o) hl hs)
  rw[if_pos h3,Int.toNat_natCast] at hk
  exact aB (aA (aC hs rfl (dK hl (aA (aC hs rfl (bZ hk))))))
 ·rw[if_neg h3] at hk;exact hk
end Go.Proofs.YtajjljbmfdboaaaGreatDoor.H
end
section
namespace Go.Proofs.YtajjljbmfdboaaaGreatDoor.H
open Go Go.Ab Go.Hm
set_option maxRecDepth 100000
variable {G:Bg} {h:AH} {L L':List HP}
theorem ma (n:Nat):(fun i=>(qY n i).2)=nR:=by funext i;unfold qY nR;split<;>rfl
theorem Ha {C:bL} (hC:C.Ok) {hb:Nat} {Q:Value→AH→Prop} (hk:∀h',Hs G h' (eY G hb C (qY C.lines)::L)→Q (.tuple ⟨[pt hb 0 0,I 0]⟩) h'):∀(f n:Nat) (h:AH),n+f=C.lines→Hs G h (eY G hb C (qY n)::L)→Dd 85 3 [] Q [(pt hb 0 0),(I C.lines),(I n)] h:=by
 have hln:=bL.eI hC
 intro f
 induction f with
 |zero=>
  intro n h hn hs
  have:n=C.lines:=by omega
  subst this
  exact bW (aN (aK (by omega) (hk _ hs)))
 |succ f ih=>
  intro n h hn hs
  have hl:n<C.lines:=by omega
  refine bW (aN (bP (by omega) (bW ?_)))
  obtain⟨mb,b,o,cap,hs⟩:=Cp hl hs
  obtain⟨wa,wc,hs⟩:=dH hs
  refine aB (aA (aC hs rfl (dK hl (aA (bI hs rfl rfl rfl rfl ?_)))))
  intro h hs
  refine bE (by omega) (ih (n+1) h (by omega) ?_)
  have e1:(qY n n).1={C1 with owner:=0}:=by unfold qY;rw[if_neg (by omega)]
  have e2:(qY n n).2=(0,0):=by unfold qY;rw[if_neg (by omega)]
  rw[e1] at hs
  have hs:=dZ b (o+n*25) C1 wa wc hs rfl rfl rfl
  have hs:=eH hb C (qY n) n C1 (0,0) (fun i=>(qY n i).2) mb b o cap hl (by rw[←e2];exact eM.symm) hs
  rw[gn] at hs
  exact hs
theorem Vj {C:bL} (hC:C.Ok) {Q:Value→AH→Prop} (hlim:Ob G 0 fB) (hs:Hs G h L) (hk:∀hb h',Hs G h' (eY G hb C (qY C.lines)::L)→Q (.tuple ⟨[pt hb 0 0,I 0]⟩) h'):Cl Pr K 85 [.agg ⟨C.enc⟩] h Q:=by
 have hln:=bL.eI hC
 refine cW (dI hs ?_)
 intro p h hs
 refine aQ hs (by decide) (l:=C.enc) rfl rfl (lK hlim hs fun h hs=>?_)
 rw[if_pos hC]
 refine aY (aK (by omega) (bW (aQ hs (by decide) (l:=C.enc) rfl rfl (Lt hC hlim hs fun mb h hs=>?_))))
 refine aG rfl (aG rfl (aY (aK (by omega) (bW (aU hs ?_)))))
 intro rv h hs
 refine aQ hs (by decide) (l:=C.enc) rfl rfl (aQ hs (by decide) (l:=C.enc) rfl rfl (mZ hC hlim hs fun h hs=>yx (by omega) (by omega) ?_))
 dsimp only
 refine iW hs rfl rfl ?_ rfl ?_ ?_
 ·rw[fV,pJ (W:=25) (fun _=>rfl)]
 ·rw[fV];exact oO (fun _=>rfl) _
 intro a h hs
 obtain⟨b,o,ha,hs⟩:=Hs.Gy (W:=25) rfl (by omega) hs
 cases ha
 refine aH (c:=jH mb C b o C.lines) rfl (xQ hs rfl rfl ?_)
 intro hb h hs
 refine cQ dA (cQ (aQ hs (by decide) (l:=C.enc) rfl rfl (oU (by simp[mS,bL.enc]))) (aB (aA (aC hs rfl (bZ ?_)))))
 refine Ha hC (hk hb) C.lines 0 h (by omega) ?_
 have hs:=(hs.front (dD C.lines fun i=>aE b (o+i*25) [I 0,.bool false,.bool false,.bool false,.bool false,.slice none 0 0,.bool false,I 0,I 0,I 0,I 0,I 0,I 0,I 0,.bool false,I 0,I 0,.bool false,.bool false,.bool false,.bool false,.bool false,.bool false,I 0,I 0]))
 have hs:=Hs.Hd (g:=fun i=>dX b (o+i*25) (qY 0 i).1) C.lines _ (fun i hi h L hs=>iC {C1 with owner:=0} (a:=none) (c:=0) (gD hs).kA) hs
 rw[←ma 0] at hs
 exact(uZ C (qY 0) hb mb b o C.lines hs).to
end Go.Proofs.YtajjljbmfdboaaaGreatDoor.H
end
section
namespace Go.Proofs.YtajjljbmfdboaaaGreatDoor.H
open Go Go.Ab Go.Hm
set_option maxRecDepth 100000
variable {G:Bg} {h:AH} {L L':List HP} {Q:Value→AH→Prop}
def Px (H:iJ) (i:Nat) (x:Option Addr×Nat):List Value:=(H i).1.enc x.1 x.2
def Tg (H:iJ) (i:Nat) (x:Option Addr×Nat):HP:=qF x.1 x.2 (H i).1.waits
theorem w6 {b o n:Nat} {H:iJ} (hs:Hs G h (dD n (fun i=>dX b (o+i*25) (H i).1)::L)):Hs G h (dD n (fun i=>rY fun x=>sp [aE b (o+i*25) (Px H i x),Tg H i x])::L):=
 Hs.Hd n L (fun i _ h L hs=>by
  obtain⟨a,c,hs⟩:=dH hs
  exact Hs.uH (A:=fun x:Option Addr×Nat=>sp [aE b (o+i*25) (Px H i x),Tg H i x]) (a,c) hs.zB) hs
theorem tj {b o n:Nat} {H:iJ} (hs:Hs G h (dD n (fun i=>rY fun x=>sp [aE b (o+i*25) (Px H i x),Tg H i x])::L)):Hs G h (dD n (fun i=>dX b (o+i*25) (H i).1)::L):=
 Hs.Hd n L (fun i _ h L hs=>by
  obtain⟨⟨a,c⟩,hs⟩:=hs.zE
  exact iC (H i).1 (a:=a) (c:=c) hs.xA) hs
theorem dp {n c:Nat} {a:Option Addr} {cs:List Value} (hn:n≤100) (hs:Hs G h L) [m:Has (dB 25 247 a c) L (n,cs) L'] (hk:∀a' c' h',Hs G h' (dB 25 247 a' c' (n,cs)::dB 25 247 a c (n,cs)::L')→Q (.slice a' n c') h'):Cl Pr K 138 [.slice a n c] h Q:=
 cW (zM (bytes:=152) hs (by omega) hk)
theorem Ww {B p b o cap mb:Nat} {C:bL} {H:iJ} {f:Nat→Option Addr×Nat} (hB:B≤32) (hBC:C.lines=B) (hp:∀i,i<B→(H i).1.waits.length≤2^30)
  (hk:∀h',Hs G h' (aE p 0 (jH mb C b o cap)::dD B (fun i=>dX b (o+i*25) (H i).1)::dD B (fun i=>Tg H i (f i))::L)→Q (pt p 0 0) h'):
  ∀(r i:Nat) (h:AH),i+r=B→Hs G h (aE p 0 (jH mb C b o cap)::dD B (fun j=>if j<i then dX b (o+j*25) (H j).1 else aE b (o+j*25) (Px H j (f j)))::dD B (fun i=>Tg H i (f i))::L)→
  Dd 76 2 [] Q [(pt p 0 0),(I B),(I i)] h:=by
 intro r
 induction r with
 |zero=>
  intro i h hi hs
  obtain rfl:i=B:=by omega
  refine bW (aN (aK (by omega) (hk _ ?_)))
  have hs:=hs.front (dD i fun j=>if j<i then dX b (o+j*25) (H j).1 else aE b (o+j*25) (Px H j (f j)))
  have hs:=qP (g:=fun j=>dX b (o+j*25) (H j).1) (fun j hj=>by rw[if_pos hj]) hs
  exact hs.cJ (aE p 0 (jH mb C b o cap)) (dD i fun j=>dX b (o+j*25) (H j).1) (dD i fun j=>Tg H j (f j))
 |succ r ih=>
  intro i h hi hs
  have hib:i<B:=by omega
  have hic:i<C.lines:=by omega
  have hpi:=hp i hib
  refine bW (aN (bP (by omega) (bW (aU hs fun rv h hs=>?_))))
  have hs:=(hs.front (dD B fun j=>if j<i then dX b (o+j*25) (H j).1 else aE b (o+j*25) (Px H j (f j)))).kY i hib
  simp only[Nat.lt_irrefl,if_false] at hs
  have hs:=(hs.front (dD B fun j=>Tg H j (f j))).kY i hib
  refine aB (aA (aC (b:=p) (o:=0) hs rfl (aB (aA (aC (b:=p) (o:=0) hs rfl (dK hic (aA (aC (b:=b) (o:=o+i*25) hs rfl ?_))))))))
  have hs:Hs G h (qF (f i).1 (f i).2 (H i).1.waits::_):=hs
  refine vF (l:=(H i).1.waits) (a:=(f i).1) (c:=(f i).2) (by omega) hs fun a' c' h hs=>?_
  refine dK hic (aA (bI (b:=b) (o:=o+i*25) hs rfl rfl rfl rfl fun h2 hs2=>?_))
  refine cQ dA (cQ (aB dA) (cQ (aA dA) (cQ (aC (b:=p) (o:=0) hs rfl S0) (cQ gC (bE (by omega) ?_)))))
  refine ih (i+1) h2 (by omega) ?_
  have hs2:=hs2.sg (b:=b) (o:=o+i*25) (c:=(H i).1.enc a' c') rfl
  have hs3:=iC (b:=b) (o:=o+i*25) (H i).1 (a:=a') (c:=c') (hs2.cA (aE b (o+i*25) ((H i).1.enc a' c')) (qF a' c' (H i).1.waits))
  have e0:dX b (o+i*25) (H i).1=(fun j=>if j<i+1 then dX b (o+j*25) (H j).1 else aE b (o+j*25) (Px H j (f j))) i:=by simp only[Nat.lt_succ_self,if_true]
  rw[e0] at hs3
  have hs3:=hs3.oR (n:=B) (i:=i) (fun j=>if j<i then dX b (o+j*25) (H j).1 else aE b (o+j*25) (Px H j (f j))) (fun j=>if j<i+1 then dX b (o+j*25) (H j).1 else aE b (o+j*25) (Px H j (f j))) hib (fun j _ hne=>by
   have:(j<i+1)=(j<i):=propext ⟨fun h=>by omega,fun h=>by omega⟩
   simp only[this])
  have e1:qF (f i).1 (f i).2 (H i).1.waits=(fun j=>Tg H j (f j)) i:=rfl
  rw[e1] at hs3
  have hs3:=hs3.oR (n:=B) (i:=i) (fun j=>Tg H j (f j)) (fun j=>Tg H j (f j)) hib (fun _ _ _=>rfl)
  exact hs3.to
theorem H0 {C:bL} {H:iJ} (hC:C.Ok) {hb:Nat} (hi:rR C H (2^30)) (hs:Hs G h L) [mm:Has (eY G hb C) L H L'] (hk:∀p2 h',Hs G h' (eY G p2 C H::eY G hb C H::L')→Q (pt p2 0 0) h'):Cl Pr K 76 [pt hb 0 0] h Q:=by
 have hl:=(bL.eI hC)
 have h0:0<C.lines:=by omega
 obtain⟨mb,b,o,cap,hs⟩:=lE (mm.of hs)
 refine cW (cN (bV (bW (aU hs fun rv h hs=>?_))))
 have hs:=w6 (hs.front (dD C.lines fun i=>dX b (o+i*25) (H i).1))
 have hs0:Hs G h (dD C.lines (fun i=>rY fun x=>sp [aE b (o+i*25) (Px H i x),Tg H i x])::hole G 25 247 (some ⟨b,o,none⟩) cap C.lines b o::_):=hs.cA (dD C.lines fun i=>rY fun x=>sp [aE b (o+i*25) (Px H i x),Tg H i x]) (hole G 25 247 (some ⟨b,o,none⟩) cap C.lines b o)
 obtain⟨f,hs⟩:=Hs.Y1 (W:=25) (c:=Px H) (d:=Tg H) (none,0) (fun _ _=>rfl) (fun _ _=>rfl) (by decide) h0 hs0
 clear hs0
 refine aB (aA (aC (b:=hb) (o:=0) hs rfl (A.U7 hC hs fun mb2 h5 hs5=>?_)))
 refine aB (aA (iN (b:=hb) (o:=0) hs5 (by decide) (l:=C.enc) rfl rfl (aB (aA (aC (b:=hb) (o:=0) hs5 rfl ?_)))))
 refine dp (by omega) hs5 fun a' c' h12 hs12=>?_
 obtain⟨b2,o2,rfl,hs12⟩:=Hs.Ur (W:=25) (c:=fun i=>Px H i (f i)) (fun _=>rfl) h0 (hs12.front (dB 25 247 a' c' (C.lines,(List.range C.lines).flatMap fun i=>Px H i (f i))))
 refine aH (c:=jH mb2 C b2 o2 c') rfl (xQ (i:=15) (n:=17) (D:=[]) hs12 rfl rfl fun p h14 hs14=>?_)
 have hve:mS (.agg ⟨C.enc⟩) (.agg ⟨C.enc⟩)=true:=oU (by simp[bL.enc,gC])
 refine cQ dA (cQ dA (cQ (aB dA) (cQ (aB dA) (cQ (aA dA) (cQ (aA dA) ?_)))))
 refine cQ (iN (b:=hb) (o:=0) hs (by decide) (l:=C.enc) rfl rfl hve) (cQ (iN (b:=hb) (o:=0) hs14 (by decide) (l:=C.enc) rfl rfl hve) ?_)
 refine cQ dA (cQ (aB dA) (cQ (aA dA) (cQ (aC (b:=hb) (o:=0) hs rfl S0) ?_)))
 clear hs hs5 hs12
 refine aB (aA (aC (b:=p) (o:=0) hs14 rfl (bZ ?_)))
 have hs:=hs14.cJ (aE p 0 (jH mb2 C b2 o2 c')) (dD C.lines fun i=>aE b2 (o2+i*25) (Px H i (f i))) (dD C.lines fun i=>Tg H i (f i))
 refine Ww (B:=C.lines) (C:=C) (b:=b2) (o:=o2) (cap:=c') (mb:=mb2) (H:=H) (f:=f) (by omega) rfl (fun i hi2=>(hi i hi2).2) ?_ C.lines 0 h14 (by omega) (by simpa using hs)
 intro h hs
 refine hk p _ ?_
 have hs:=qN (hs.lD (aE p 0 (jH mb2 C b2 o2 c')) (eN G C.lines mb2 C fun i=>(H i).2) (hole G 25 247 (some ⟨b2,o2,none⟩) c' C.lines b2 o2) (dD C.lines fun i=>dX b2 (o2+i*25) (H i).1))
 have hs:=hs.cA (dB 25 247 (some ⟨b,o,none⟩) cap (C.lines,(List.range C.lines).flatMap fun i=>Px H i (f i))) (dD C.lines fun i=>Tg H i (f i))
 have hs:Hs G h (dD C.lines (fun i=>rY fun x=>sp [aE b (o+i*25) (Px H i x),Tg H i x])::hole G 25 247 (some ⟨b,o,none⟩) cap C.lines b o::_):=Hs.qg (W:=25) (c:=Px H) (d:=Tg H) f (fun _ _=>rfl) h0 hs
 have hs:=tj hs
 have hs:=qN (hs.lD (aE hb 0 (jH mb C b o cap)) (eN G C.lines mb C fun i=>(H i).2) (hole G 25 247 (some ⟨b,o,none⟩) cap C.lines b o) (dD C.lines fun i=>dX b (o+i*25) (H i).1))
 exact hs.to
end Go.Proofs.YtajjljbmfdboaaaGreatDoor.H
end
section
namespace Go.Proofs.YtajjljbmfdboaaaGreatDoor.H
open Go Go.Ab Go.Hm Go.Mc
set_option maxRecDepth 100000
variable {G:Bg} {h:AH} {L L':List HP} {Q:Value→AH→Prop}
theorem aAn {α:Type} {l:List α} {i:Nat} (h:i<l.length):∃x,l[i]?=some x∧l.drop i=x::l.drop (i+1):=⟨l[i],by simp,List.drop_eq_getElem_cons h⟩
def J8 (l:List aJ):Int:=((l.filter fun n=>decide (n.kind=0)).length:Int)
theorem oh {l:List aJ} {i:Nat} {n:aJ} (h:l[i]?=some n):J8 (l.take (i+1))=J8 (l.take i)+if n.kind=0 then 1 else 0:=by
 unfold J8
 rw[List.take_add_one,h]
 simp only[Option.toList_some,List.filter_append,List.filter_cons,List.filter_nil]
 split<;>simp_all
theorem yI {a:Option Addr} {c:Nat} {l:List aJ} {k:Int} (hb:l.length≤2^30) (hk2:0≤k∧k≤1) (hk:∀h',Hs G h' (qF a c l::L)→Q (I (k+J8 l)) h'):
  ∀(f i:Nat) (h:AH),i+f=l.length→Hs G h (qF a c l::L)→Dd 121 4 [] Q [(I (k+J8 (l.take i))),(.slice a l.length c),(I l.length),(I i)] h:=by
 intro f
 induction f with
 |zero=>
  intro i h hi hs
  rw[List.take_of_length_le (by omega)]
  exact bW (aN (aK (by omega) (hk _ hs)))
 |succ f ih=>
  intro i h hi hs
  obtain⟨n,hn,hd⟩:=aAn (l:=l) (i:=i) (by omega)
  have hb2:J8 (l.take i)≤2^30∧0≤J8 (l.take i):=by
   unfold J8
   have:=List.length_filter_le (fun n:aJ=>decide (n.kind=0)) (l.take i)
   have:=List.length_take_le i l
   omega
  have hc:=oh hn
  refine bW (aN (bP (by omega) (bW (tM (l:=l) (a:=a) (c:=c) (enc:=aJ.enc) (e:=175) hs (by decide) (by omega) (by rw[Int.toNat_natCast];exact hn) (bN hs fun p3 h hs=>aZ (b:=p3) hs rfl rfl rfl rfl fun h hs=>aA (aC (b:=p3) (o:=0) hs rfl (bH (aR (fun h1=>?_) (fun h1=>?_)))))))))
  ·rw[if_pos h1] at hc
   refine bW (bE (by omega) (bE (by omega) ?_))
   have:=ih (i+1) h (by omega) hs.to
   rw[hc] at this
   rw[show k+J8 (l.take i)+1=k+(J8 (l.take i)+1) by omega]
   exact this
  ·rw[if_neg h1] at hc
   refine bW (bE (by omega) ?_)
   have:=ih (i+1) h (by omega) hs.to
   rw[hc,Int.add_zero] at this
   exact this
theorem Oj {C:bL} {H:iJ} {hb:Nat} {x:Int} (hi:rR C H (2^30)) (hs:Hs G h L) [mm:Has (eY G hb C) L H L'] (hk:∀h',Hs G h' (eY G hb C H::L')→Q (I (fI C H x)) h'):Cl Pr K 121 [pt hb 0 0,I x] h Q:=by
 have hs:=mm.of hs
 unfold fI at hk
 by_cases hx:C.has x
 rotate_left
 ·rw[if_neg hx] at hk
  obtain⟨mb,b,o,cap,hs⟩:=lE hs
  refine cW (tB hs (bS (dQ (aK hx (hk _ (uZ C H hb mb b o cap hs).to)))))
 rw[if_pos hx] at hk
 obtain⟨l,rfl⟩:=Int.eq_ofNat_of_zero_le hx.1
 have hl:l<C.lines:=by have:=hx.2;omega
 rw[Int.toNat_natCast] at hk
 obtain⟨mb,b,o,cap,hs⟩:=Cp hl hs
 obtain⟨a,c,hs⟩:=dH hs
 have hwl:=(hi l hl).2
 have hs:Hs G h (aE b (o+l*25) ((H l).1.enc a c)::qF a c (H l).1.waits::aE hb 0 (jH mb C b o cap)::eN G C.lines mb C (fun i=>(H i).2)::hole G 25 247 (some ⟨b,o,none⟩) cap C.lines b o::uQ b o C.lines H l::L'):=hs
 have shut:∀{h:AH},Hs G h (qF a c (H l).1.waits::aE b (o+l*25) ((H l).1.enc a c)::aE hb 0 (jH mb C b o cap)::eN G C.lines mb C (fun i=>(H i).2)::hole G 25 247 (some ⟨b,o,none⟩) cap C.lines b o::uQ b o C.lines H l::L')→Hs G h (eY G hb C H::L'):=by
  intro h hs
  have hs:=iC (H l).1 (a:=a) (c:=c) hs.kA
  have hs:=eH hb C H l (H l).1 (H l).2 _ mb b o cap hl eM.symm hs
  have e:bT H l ((H l).1,(H l).2)=H:=by funext j;unfold bT;split<;>simp_all
  rw[e] at hs
  exact hs
 refine cW (tB hs (bS (dQ (bP hx (bW (aB (aA (aC (b:=hb) (o:=0) hs rfl (dK hl (aB (aA (aC (b:=b) (o:=o+l*25) hs rfl (cU (fun h1=>?_) (fun h1=>?_))))))))))))))
 ·refine aB (aA (aA (aC (b:=b) (o:=o+l*25) hs rfl (bH (aR (fun h2=>?_) (fun h2=>?_))))))
  ·refine bW (bE (by omega) (aB (aA (aC (b:=b) (o:=o+l*25) hs rfl (bZ ?_)))))
   refine yI (a:=a) (c:=c) (l:=(H l).1.waits) (k:=1) hwl (by omega) (fun h hs=>?_) (H l).1.waits.length 0 h (by omega) hs.kA
   have:=hk h (shut hs)
   unfold Row.Pa at this
   rw[if_pos ⟨h1,h2⟩] at this
   exact this
  ·refine bW (aB (aA (aC (b:=b) (o:=o+l*25) hs rfl (bZ ?_))))
   refine yI (a:=a) (c:=c) (l:=(H l).1.waits) (k:=0) hwl (by omega) (fun h hs=>?_) (H l).1.waits.length 0 h (by omega) hs.kA
   have:=hk h (shut hs)
   unfold Row.Pa at this
   rw[if_neg (fun hh=>h2 hh.2)] at this
   exact this
 ·refine aB (aA (aC (b:=b) (o:=o+l*25) hs rfl (bZ ?_)))
  refine yI (a:=a) (c:=c) (l:=(H l).1.waits) (k:=0) hwl (by omega) (fun h hs=>?_) (H l).1.waits.length 0 h (by omega) hs.kA
  have:=hk h (shut hs)
  unfold Row.Pa at this
  rw[if_neg (fun hh=>by rw[h1] at hh;cases hh.1)] at this
  exact this
end Go.Proofs.YtajjljbmfdboaaaGreatDoor.H
end
section
namespace Go.Proofs.YtajjljbmfdboaaaGreatDoor
open Go Go.Ab Go.Hm Go.At Go.Mc Go.Ct Go.Nt
def nW (C:bL) (H:iJ) (l:List Nat):iJ:=l.foldl (fun H (l:Nat)=>(kJ C H l).1) H
theorem Wo {C:bL} {H:iJ} {l:List Nat} {k:Nat}:nW C H (l++[k])=(kJ C (nW C H l) k).1:=by unfold nW;rw[List.foldl_append];rfl
theorem Vh {C:bL} {H:iJ} {N:Nat} {l:Int} (h:rR C H N):rR C (kJ C H l).1 (N+1):=by
 intro k hk
 obtain⟨h1,h2⟩:=h k hk
 unfold kJ
 split
 ·rename_i hl
  unfold bT
  dsimp only
  split
  ·rename_i e
   subst e
   refine⟨⟨h1.core,h1.owner,?_⟩,?_⟩
   ·intro n hn
    rcases List.mem_append.1 hn with hn|hn
    ·exact h1.waits n hn
    ·rw[List.mem_singleton.1 hn];show(0:Int)≤0∧(0:Int)<4;omega
   ·show((H l.toNat).1.waits++[As l]).length≤N+1
    rw[List.length_append,List.length_singleton];omega
  ·exact⟨h1,by omega⟩
 ·exact⟨h1,Nat.le_succ_of_le h2⟩
theorem R7 {C:bL} {N:Nat}:∀{l:List Nat} {H:iJ},rR C H N→rR C (nW C H l) (N+l.length):=by
 intro l
 induction l generalizing N with
 |nil=>intro H h;exact h
 |cons k l ih=>
  intro H h
  have:=ih (Vh (l:=k) h)
  rw[List.length_cons,show N+(l.length+1)=N+1+l.length by omega]
  exact this
set_option maxRecDepth 100000
variable {G:Bg} {h:AH} {L L':List HP} {Q:Value→AH→Prop} {Cf:bL} {m:Nat} {M:cR}
abbrev swX (G:Bg) (Cf:bL) (m p2:Nat) (M:cR) (e:Nat→Value) (d l:Nat) (done:List Nat):HP:=sp [jY Pr 212 (kD 14) 18 e d l (.ready,none),aE p2 0 [pt m 0 0],bG G Cf m (M.rP (nW Cf M.home done))]
theorem Z6 {g:Nat} (hC:Cf.Ok) (hG:Gb G) (hg:(g:Int)<Cf.bB) (hi:rR Cf M.home (2^30 - 4)) (hs:Hs G h L) [mm:Has (bG G Cf m) L M L'] (hk:∀v h',Hs G h' (bG G Cf m (M.rP (Hb Cf M.home g))::L')→Q v h'):Cl Pr K 212 [pt m 0 0,I g] h Q:=by
 refine cW (dI (mm.of hs) fun p2 h hs=>?_)
 obtain⟨x,hl,hs⟩:=cB (hs.front (bG G Cf m M))
 refine aC (b:=p2) (o:=0) hs rfl (aB (aA (iN (b:=m) (o:=0) hs (by decide) (l:=Cf.enc) rfl rfl (An (C:=Cf) hs fun q1 q2 h hs=>?_))))
 have hs:Hs G h (bG G Cf m (M.rP (nW Cf M.home []))::_):=bC (m:=m) (x:=x) M hl hs
 refine jX hs fun d h hs=>?_
 intro e he
 refine mG hs fun l h hs=>rT rfl ?_
 have hs:Hs G h (sp [aE q1 0 Cf.enc,aE q2 0 [I g]]::swX G Cf m p2 M e d l []::mk d ()::L'):=by
  have hs:=(hs.cJ (jY Pr 212 (kD 14) 18 e d l (.ready,none)) (aE p2 0 [pt m 0 0]) (bG G Cf m (M.rP (nW Cf M.home [])))).Ko
  exact hs.to
 refine(El (C:=Cf) hC hg (p:=q1) (q:=q2) hG.lim).fold (X:=fun done=>swX G Cf m p2 M e d l done) (Z:=fun _ _=>uI False) hs ?_ ?_ ?_
 ·intro done y h N hp hs
  have hs:=hs.wP
  have hdl:done.length≤1:=by have:=hp.length_le;simp at this;omega
  obtain⟨x,hl,hs⟩:=cB (hs.front (bG G Cf m (M.rP (nW Cf M.home done))))
  refine rW (rS hs) he (gU hs fun h hs=>aC (b:=p2) (o:=0) hs rfl (aB (aA (aC (b:=m) (o:=0) hs rfl ?_))))
  refine H.iq (C:=Cf) (H:=nW Cf M.home done) (fun k hk=>by have:=R7 (l:=done) hi k hk;exact⟨this.1,by omega⟩) hs fun h hs=>iE hs fun h hs=> .inl ⟨rfl,?_⟩
  rw[←Wo] at hs
  have hs:=bC (m:=m) (x:=x) (M.rP (nW Cf M.home (done++[y]))) hl hs
  have hs:=(hs.cJ (jY Pr 212 (kD 14) 18 e d l (.ready,none)) (aE p2 0 [pt m 0 0]) (bG G Cf m (M.rP (nW Cf M.home (done++[y]))))).Ko
  exact hs.to
 ·intro v h hs
  have hs:=(hs.front (swX G Cf m p2 M e d l [g*2,g*2+1])).wP
  have e2:nW Cf M.home [g*2,g*2+1]=Hb Cf M.home g:=by unfold nW Hb;simp
  rw[e2] at hs
  exact mE hs fun h hs=>mC (lN hs fun h hs=>jI (hk _ _ hs.to))
 ·intro done y v h hp hs
  obtain⟨hd,_⟩:=(hs.front (uI False)).bq
  exact hd.elim
end Go.Proofs.YtajjljbmfdboaaaGreatDoor
end
section
namespace Go.Proofs.YtajjljbmfdboaaaGreatDoor
open Go Go.Ab Go.Hm Go.At Go.Mc Go.Ct Go.Nt
set_option maxRecDepth 100000
variable {G:Bg} {h:AH} {L L':List HP} {Q:Value→AH→Prop} {Cf:bL} {m:Nat} {M:cR} {n:aJ}
def aBp (G:Bg) (Cf:bL) (m:Nat) (Z:HP) (fv:Value) (A B:cR):Prop:=∀(h:AH) (L:List HP) (Q:Value→AH→Prop),Hs G h (Z::bG G Cf m A::L)→(∀v h',Hs G h' (bG G Cf m B::L)→Q v h')→zV Pr K fv [] h Q
abbrev TK (G:Bg) (Cf:bL) (m:Nat) (M:cR) (L:List HP) (Q:Value→AH→Prop) (r:cR×List aJ×Int):Prop:=∀v fv Z h',Hs G h' (H.eJ v r.2.1::Z::bG G Cf m M::L)→(r.2.2=0→∀F,aBp G Cf m Z fv (M.dL F) (r.1.dL F))→Q (.tuple ⟨[v,fv,I r.2.2]⟩) h'
theorem Ef {C:bL} {H:iJ} {N N':Nat} (h:rR C H N) (hn:N≤N'):rR C H N':=fun k hk=>⟨(h k hk).1,Nat.le_trans (h k hk).2 hn⟩
theorem ur {p2 p3:Nat} (hC:Cf.Ok) (hG:Gb G) (ho:uO Cf M n) (hs:Hs G h (aE p2 0 [pt m 0 0]::aE p3 0 n.enc::bG G Cf m M::L)) (hk:TK G Cf m M L Q (M.rP (gE Cf M.home n).1,(gE Cf M.home n).2.1,(gE Cf M.home n).2.2)):Dd 156 3 [] Q [(pt p2 0 0),(pt p3 0 0)] h:=by
 obtain⟨x,hl,hs⟩:=cB (hs.front (bG G Cf m M))
 refine bW (aC (b:=p2) (o:=0) hs rfl (aB (aA (aC (b:=m) (o:=0) hs rfl (H.H0 (C:=Cf) hC (Ef ho.home (by omega)) hs fun q h hs=>bN hs fun p6 h hs=>aZ (b:=p6) hs rfl rfl rfl rfl fun h hs=>aC (b:=p6) (o:=0) hs rfl (aQ (b:=p3) (o:=0) hs (by decide) (l:=n.enc) rfl rfl ?_))))))
 refine H.Bz (C:=Cf) (hb:=q) (H:=M.home) (n:=n) hC hG.lim (Ef ho.home (by omega)) hs fun v h hs=>aG rfl (aG rfl ?_)
 have hs:=bC (m:=m) (x:=x) M hl hs
 have hs:=(hs.cJ (aE p6 0 [pt q 0 0]) (aE p2 0 [pt m 0 0]) (H.eY G q Cf (gE Cf M.home n).1)).Ko
 refine hk v _ (sp [aE p6 0 [pt q 0 0],aE p2 0 [pt m 0 0],H.eY G q Cf (gE Cf M.home n).1]) h hs.to fun _ F=>?_
 intro h L Q hs hk
 have hs:=hs.wP
 obtain⟨x,hl,hs⟩:=cB (hs.front (bG G Cf m (M.dL F)))
 refine nA rfl (cW (f:=201) (aC (b:=p2) (o:=0) hs rfl (aC (b:=p6) (o:=0) hs rfl (aB (aA (bI (b:=m) (o:=0) hs rfl rfl rfl rfl fun h hs=>hk _ _ ?_))))))
 have e:dL (eX Cf x M.log.length) (0+10) [pt q 0 0]=eX Cf {x with hb:=q} M.log.length:=rfl
 rw[e] at hs
 exact(bC (m:=m) (x:={x with hb:=q}) ((M.rP (gE Cf M.home n).1).dL F) hl hs).to
theorem nj {p2 p3:Nat} (hC:Cf.Ok) (hG:Gb G) (ho:uO Cf M n) (hs:Hs G h (aE p2 0 [pt m 0 0]::aE p3 0 n.enc::bG G Cf m M::L)) (hk:TK G Cf m M L Q (M.sY n.core.toNat (hU Cf n.core (M.dC n.core.toNat) n).1,(hU Cf n.core (M.dC n.core.toNat) n).2.1,(hU Cf n.core (M.dC n.core.toNat) n).2.2)):Dd 156 9 [] Q [(pt p2 0 0),(pt p3 0 0)] h:=by
 have hbd:Bd (M.dC n.core.toNat):=ho.Tw.bd (kK hC).2.2.2
 obtain⟨i,hi⟩:=Int.eq_ofNat_of_zero_le ho.core.1
 have hic:(i:Int)<Cf.aF:=by have:=ho.core.2;omega
 rw[hi,Int.toNat_natCast] at hk
 have hcac:=ho.Tw
 rw[hi,Int.toNat_natCast] at hcac hbd
 obtain⟨x,hl,hs⟩:=cB (hs.front (bG G Cf m M))
 have hik:i<x.lk.length:=by have:=hl.2.1;omega
 have e1:n.enc[0+1]?=some (I i):=by show some (I n.core)=_;rw[hi]
 refine bW (aU hs fun rr h hs=>aC (b:=p2) (o:=0) hs rfl (aB (aA (aC (b:=m) (o:=0) hs rfl (aA (aC (b:=p3) (o:=0) hs e1 (D4 hs hik ?_)))))))
 have hs:=gF (R:=oL G Cf) (l:=x.lk) (s:=M.dC) hik hs
 refine C.Yk (C:=Cf) (core:=(i:Int)) (c:=x.lk.getD i 0) (s:=M.dC i) hC hbd hs fun q h hs=>kC (r:=rr) (i:=9) (n:=11) (D:=[]) hs rfl rfl fun p6 h hs=>aZ (b:=p6) hs rfl rfl rfl rfl fun h hs=>aC (b:=p6) (o:=0) hs rfl (aQ (b:=p3) (o:=0) hs (by decide) (l:=n.enc) rfl rfl ?_)
 refine C.Bz (C:=Cf) (core:=(i:Int)) (c:=q) (s:=M.dC i) (n:=n) hC hbd hcac.sts hG.lim hG.row hs fun a c h hs=>aG rfl (aG rfl ?_)
 have hs:=zI (Cf:=Cf) (l:=x.lk) (s:=M.dC) (i:=i) (t:=M.dC i) hik hs
 rw[bK] at hs
 have hs:=bC (m:=m) (x:=x) M hl hs
 have hs:=(hs.lD (aE p6 0 [pt q 0 0]) (aE p2 0 [pt m 0 0]) (aE p3 0 n.enc) (C.fO G q Cf i (hU Cf i (M.dC i) n).1)).Ge
 have hs:=H.Ex (l:=(hU Cf i (M.dC i) n).2.1) rfl rfl (hs.front (dB 9 175 a c ((hU Cf i (M.dC i) n).2.1.length,eA (hU Cf i (M.dC i) n).2.1)))
 refine hk _ _ (sp [aE p6 0 [pt q 0 0],aE p2 0 [pt m 0 0],aE p3 0 n.enc,C.fO G q Cf i (hU Cf i (M.dC i) n).1]) h hs.to fun _ F=>?_
 intro h L Q hs hk
 have hs:=hs.u0
 obtain⟨x,hl,hs⟩:=cB (hs.front (bG G Cf m (M.dL F)))
 have hik:i<x.lk.length:=by have:=hl.2.1;omega
 refine nA rfl (cW (f:=203) (aU hs fun rr h hs=>aC (b:=p2) (o:=0) hs rfl (aB (aA (aC (b:=m) (o:=0) hs rfl (aA (aC (b:=p3) (o:=0) hs e1 (aC (b:=p6) (o:=0) hs rfl (Yx hs hik fun h hs=>hk _ _ ?_)))))))))
 have hs:=gF (R:=oL G Cf) (l:=x.lk) (s:=M.dC) hik hs
 have hs:=Cz (R:=oL G Cf) (l:=x.lk) (s:=M.dC) (i:=i) (q:=q) (t:=(hU Cf i (M.dC i) n).1) hik hs
 have e:eX Cf x M.log.length=eX Cf {x with lk:=x.lk.set i q} M.log.length:=by unfold eX;rw[List.length_set]
 rw[e] at hs
 exact(bC (m:=m) (x:={x with lk:=x.lk.set i q}) ((M.sY i (hU Cf i (M.dC i) n).1).dL F) ⟨hl.1,by rw[List.length_set];exact hl.2.1,hl.2.2⟩ hs).to
end Go.Proofs.YtajjljbmfdboaaaGreatDoor
end
section
namespace Go.Proofs.YtajjljbmfdboaaaGreatDoor
open Go Go.Ab Go.Hm Go.At Go.Mc Go.Ct Go.Nt
theorem Rv {m:Mon} {c g x:Int} (h:(m.dropped c g x).2.1=true):m.has g:=by
 unfold Mon.dropped at h
 by_cases hg:m.has g
 ·exact hg
 ·rw[if_pos hg] at h;cases h
set_option maxRecDepth 100000
variable {G:Bg} {h:AH} {L L':List HP} {Q:Value→AH→Prop} {Cf:bL} {m:Nat} {M:cR} {n:aJ}
theorem mq {v:Value} {l:List aJ} (hs:Hs G h (H.eJ v l::L)):Hs G h (H.eJ v l::sp []::L):=(Hs.pack (A:=[]) hs).kA
theorem Ly {a:Addr} {c:Nat} {x:aJ} (hs:Hs G h (dB 9 175 (some a) c (1,x.enc)::L)):Hs G h (H.eJ (.slice (some a) 1 c) [x]::L):=H.Ex (l:=[x]) rfl (by simp[eA]) hs
theorem D8 (hs:Hs G h L):Hs G h (H.eJ (.slice none 0 0) []::L):=H.oN hs
theorem xu {p2 p3:Nat} (hC:Cf.Ok) (ho:uO Cf M n) (hs:Hs G h (aE p2 0 [pt m 0 0]::aE p3 0 n.enc::bG G Cf m M::L)) (hk:TK G Cf m M L Q (M,[Ce n.core (tY M.dY.fY n.no).1 n.no],(tY M.dY.fY n.no).2)):Dd 156 13 [] Q [(pt p2 0 0),(pt p3 0 0)] h:=by
 have hlen:=ho.dY.len
 have hgr:=hC.2.1
 obtain⟨x,hl,hs⟩:=cB (hs.front (bG G Cf m M))
 obtain⟨t,b,hs⟩:=jQ (hs.front (fD Cf x.mb M.dY))
 refine bW (aU hs fun rr h hs=>aC (b:=p2) (o:=0) hs rfl (aB (aA (aC (b:=m) (o:=0) hs rfl (aB (aA (aC (b:=x.mb) (o:=0) hs rfl (aA (aC (b:=p3) (o:=0) hs rfl (oq (es:=M.dY.fY) (by omega) ho.dY.own hs fun h hs=>?_))))))))))
 refine aG rfl (aG rfl (aA (aC (b:=p3) (o:=0) hs rfl (aH (c:=[I (tY M.dY.fY n.no).1,I 0]) rfl (aA (aC (b:=p3) (o:=0) hs rfl (aH (c:=(Ce n.core (tY M.dY.fY n.no).1 n.no).enc) rfl (aH (c:=(Ce n.core (tY M.dY.fY n.no).1 n.no).enc) rfl (dE (W:=9) (n:=1) (c:=1) hs rfl rfl rfl fun a h hs=>?_)))))))))
 have hs:=dM (hs.cJ (aE x.mb 0 [pt t 0 0,I Cf.aF,fJ b]) (fZ t M.dY.fY) (gX b (fG M.dY.runs)))
 have hs:=bC (m:=m) (x:=x) M hl hs
 have hs:=Ly (hs.front (dB 9 175 (some a) 1 (1,(Ce n.core (tY M.dY.fY n.no).1 n.no).enc)))
 refine hk _ _ (sp []) h (mq hs.to) fun _ F=>?_
 intro h L Q hs hk
 exact nA rfl (cW (f:=205) (hk _ _ hs.tail))
theorem lu {q p6 p2 p3 i:Nat} {t:lU} (_:Cf.Ok) (e1:n.enc[0+1]?=some (I i)) (hic:(i:Int)<Cf.aF) (F:fS):aBp G Cf m (sp [aE p6 0 [pt q 0 0],aE p2 0 [pt m 0 0],aE p3 0 n.enc,iT q Cf t]) (.func (.func 207) #[] #[pt p6 0 0,pt p2 0 0,pt p3 0 0]) (M.dL F) ((M.Ao i t).dL F):=by
 intro h L Q hs hk
 have hs:=hs.u0
 obtain⟨x,hl,hs⟩:=cB (hs.front (bG G Cf m (M.dL F)))
 have hik:i<x.lq.length:=by have:=hl.2.2;omega
 refine nA rfl (cW (f:=207) (aU hs fun rr h hs=>aC (b:=p2) (o:=0) hs rfl (aB (aA (aC (b:=m) (o:=0) hs rfl (aA (aC (b:=p3) (o:=0) hs e1 (aC (b:=p6) (o:=0) hs rfl (Mz hs hik fun h hs=>hk _ _ ?_)))))))))
 have hs:=gF (R:=oC Cf) (l:=x.lq) (s:=M.cK) hik hs
 have hs:=Cz (R:=oC Cf) (l:=x.lq) (s:=M.cK) (i:=i) (q:=q) (t:=t) hik hs
 have e:eX Cf x M.log.length=eX Cf {x with lq:=x.lq.set i q} M.log.length:=by unfold eX;rw[List.length_set]
 rw[e] at hs
 exact(bC (m:=m) (x:={x with lq:=x.lq.set i q}) ((M.Ao i t).dL F) ⟨hl.1,hl.2.1,by rw[List.length_set];exact hl.2.2⟩ hs).to
theorem x6 {q p6 p2 p3 i:Nat} {t:lU} (_:Cf.Ok) (e1:n.enc[0+1]?=some (I i)) (hic:(i:Int)<Cf.aF) (F:fS):aBp G Cf m (sp [aE p6 0 [pt q 0 0],aE p2 0 [pt m 0 0],aE p3 0 n.enc,iT q Cf t]) (.func (.func 209) #[] #[pt p6 0 0,pt p2 0 0,pt p3 0 0]) (M.dL F) ((M.Ao i t).dL F):=by
 intro h L Q hs hk
 have hs:=hs.u0
 obtain⟨x,hl,hs⟩:=cB (hs.front (bG G Cf m (M.dL F)))
 have hik:i<x.lq.length:=by have:=hl.2.2;omega
 refine nA rfl (cW (f:=209) (aU hs fun rr h hs=>aC (b:=p2) (o:=0) hs rfl (aB (aA (aC (b:=m) (o:=0) hs rfl (aA (aC (b:=p3) (o:=0) hs e1 (aC (b:=p6) (o:=0) hs rfl (Mz hs hik fun h hs=>hk _ _ ?_)))))))))
 have hs:=gF (R:=oC Cf) (l:=x.lq) (s:=M.cK) hik hs
 have hs:=Cz (R:=oC Cf) (l:=x.lq) (s:=M.cK) (i:=i) (q:=q) (t:=t) hik hs
 have e:eX Cf x M.log.length=eX Cf {x with lq:=x.lq.set i q} M.log.length:=by unfold eX;rw[List.length_set]
 rw[e] at hs
 exact(bC (m:=m) (x:={x with lq:=x.lq.set i q}) ((M.Ao i t).dL F) ⟨hl.1,hl.2.1,by rw[List.length_set];exact hl.2.2⟩ hs).to
theorem Z4 {p2 p3:Nat} (hC:Cf.Ok) (ho:uO Cf M n) (hw:0≤n.d0∧n.d0≤1000000) (hs:Hs G h (aE p2 0 [pt m 0 0]::aE p3 0 n.enc::bG G Cf m M::L))
  (hk:TK G Cf m M L Q (M.Ao n.core.toNat ((M.cK n.core.toNat).walked Cf n.no n.d0).1,if((M.cK n.core.toNat).walked Cf n.no n.d0).2.2.1 then [] else [eU 6 n.core ((M.cK n.core.toNat).walked Cf n.no n.d0).2.1],((M.cK n.core.toNat).walked Cf n.no n.d0).2.2.2)):Dd 156 16 [] Q [(pt p2 0 0),(pt p3 0 0)] h:=by
 obtain⟨i,hi⟩:=Int.eq_ofNat_of_zero_le ho.core.1
 have hic:(i:Int)<Cf.aF:=by have:=ho.core.2;omega
 have hkn:=ho.wQ
 have hgn:=ho.cE
 have e1:n.enc[0+1]?=some (I i):=by show some (I n.core)=_;rw[hi]
 rw[hi,Int.toNat_natCast] at hk hkn hgn
 obtain⟨x,hl,hs⟩:=cB (hs.front (bG G Cf m M))
 have hik:i<x.lq.length:=by have:=hl.2.2;omega
 refine bW (aU hs fun rr h hs=>aC (b:=p2) (o:=0) hs rfl (aB (aA (aC (b:=m) (o:=0) hs rfl (aA (aC (b:=p3) (o:=0) hs e1 (Ep hs hik ?_)))))))
 have hs:=gF (R:=oC Cf) (l:=x.lq) (s:=M.cK) hik hs
 refine A1 (C:=Cf) (p:=x.lq.getD i 0) (s:=M.cK i) hkn hs fun q h hs=>kC (r:=rr) (i:=9) (n:=11) (D:=[]) hs rfl rfl fun p6 h hs=>aZ (b:=p6) hs rfl rfl rfl rfl fun h hs=>aC (b:=p6) (o:=0) hs rfl (aA (aC (b:=p3) (o:=0) hs rfl (aA (eZ (by decide) (by decide) (aC (b:=p3) (o:=0) hs rfl ?_)))))
 refine dz (C:=Cf) (p:=q) (s:=M.cK i) hC hkn hgn hw hs fun h hs=>aG rfl (aG rfl (aG rfl (bS (dQ (cU (fun h1=>?_) (fun h1=>?_))))))
 ·rw[h1,if_pos rfl] at hk
  have hs:=sI (Cf:=Cf) (l:=x.lq) (s:=M.cK) (i:=i) (t:=M.cK i) hik hs
  rw[bK] at hs
  have hs:=bC (m:=m) (x:=x) M hl hs
  have hs:=(hs.lD (aE p6 0 [pt q 0 0]) (aE p2 0 [pt m 0 0]) (aE p3 0 n.enc) (iT q Cf ((M.cK i).walked Cf n.no n.d0).1)).Ge
  exact hk _ _ (sp [aE p6 0 [pt q 0 0],aE p2 0 [pt m 0 0],aE p3 0 n.enc,iT q Cf ((M.cK i).walked Cf n.no n.d0).1]) h (D8 hs.to) fun _ F=>lu hC e1 hic F
 ·rw[h1,if_neg (by simp)] at hk
  have hs:=pV (enc:=aJ.enc) (e:=175) hs
  refine bW (aA (aC (b:=p3) (o:=0) hs e1 (aH (c:=(eU 6 i ((M.cK i).walked Cf n.no n.d0).2.1).enc) rfl (aH (c:=(eU 6 i ((M.cK i).walked Cf n.no n.d0).2.1).enc) rfl (dE (W:=9) (n:=1) (c:=1) hs rfl rfl rfl fun a h hs=>?_)))))
  have hs:=nL (enc:=aJ.enc) (x:=eU 6 i ((M.cK i).walked Cf n.no n.d0).2.1) hs
  refine kB (enc:=aJ.enc) (e:=175) (l:=[]) (l2:=[eU 6 i ((M.cK i).walked Cf n.no n.d0).2.1]) (a:=none) (c:=0) (a2:=some a) (c2:=1) hs (by simp) fun a' c' h hs=>?_
  have hs:=sI (Cf:=Cf) (l:=x.lq) (s:=M.cK) (i:=i) (t:=M.cK i) hik hs
  rw[bK] at hs
  have hs:=bC (m:=m) (x:=x) M hl hs
  have hs:=(hs.lD (aE p6 0 [pt q 0 0]) (aE p2 0 [pt m 0 0]) (aE p3 0 n.enc) (iT q Cf ((M.cK i).walked Cf n.no n.d0).1)).Ge
  have hs:=hs.front (ls aJ.enc 9 175 a' c' ([]++[eU 6 i ((M.cK i).walked Cf n.no n.d0).2.1]))
  unfold ls at hs
  have hs:=H.Ex (l:=[eU 6 i ((M.cK i).walked Cf n.no n.d0).2.1]) rfl (by simp[eL,eA]) hs
  exact hk (.slice a' [eU 6 i ((M.cK i).walked Cf n.no n.d0).2.1].length c') _ (sp [aE p6 0 [pt q 0 0],aE p2 0 [pt m 0 0],aE p3 0 n.enc,iT q Cf ((M.cK i).walked Cf n.no n.d0).1]) h hs.to fun _ F=>lu hC e1 hic F
theorem wy {p2 p3:Nat} (hC:Cf.Ok) (ho:uO Cf M n) (hs:Hs G h (aE p2 0 [pt m 0 0]::aE p3 0 n.enc::bG G Cf m M::L))
  (hk:TK G Cf m M L Q (M.Ao n.core.toNat ((M.cK n.core.toNat).drop Cf n.no).1,[eU 7 n.core n.no],((M.cK n.core.toNat).drop Cf n.no).2)):Dd 156 19 [] Q [(pt p2 0 0),(pt p3 0 0)] h:=by
 obtain⟨i,hi⟩:=Int.eq_ofNat_of_zero_le ho.core.1
 have hic:(i:Int)<Cf.aF:=by have:=ho.core.2;omega
 have hkn:=ho.wQ
 have e1:n.enc[0+1]?=some (I i):=by show some (I n.core)=_;rw[hi]
 rw[hi,Int.toNat_natCast] at hk hkn
 obtain⟨x,hl,hs⟩:=cB (hs.front (bG G Cf m M))
 have hik:i<x.lq.length:=by have:=hl.2.2;omega
 refine bW (aU hs fun rr h hs=>aC (b:=p2) (o:=0) hs rfl (aB (aA (aC (b:=m) (o:=0) hs rfl (aA (aC (b:=p3) (o:=0) hs e1 (Ep hs hik ?_)))))))
 have hs:=gF (R:=oC Cf) (l:=x.lq) (s:=M.cK) hik hs
 refine A1 (C:=Cf) (p:=x.lq.getD i 0) (s:=M.cK i) hkn hs fun q h hs=>kC (r:=rr) (i:=9) (n:=11) (D:=[]) hs rfl rfl fun p6 h hs=>aZ (b:=p6) hs rfl rfl rfl rfl fun h hs=>aC (b:=p6) (o:=0) hs rfl (aA (aC (b:=p3) (o:=0) hs rfl ?_))
 refine Vn (C:=Cf) (p:=q) (s:=M.cK i) hkn hs fun _ h hs=>aG rfl (aG rfl (aA (aC (b:=p3) (o:=0) hs e1 (aA (aC (b:=p3) (o:=0) hs rfl (aH (c:=(eU 7 i n.no).enc) rfl (aH (c:=(eU 7 i n.no).enc) rfl (dE (W:=9) (n:=1) (c:=1) hs rfl rfl rfl fun a h hs=>?_))))))))
 have hs:=sI (Cf:=Cf) (l:=x.lq) (s:=M.cK) (i:=i) (t:=M.cK i) hik hs
 rw[bK] at hs
 have hs:=bC (m:=m) (x:=x) M hl hs
 have hs:=(hs.lD (aE p6 0 [pt q 0 0]) (aE p2 0 [pt m 0 0]) (aE p3 0 n.enc) (iT q Cf ((M.cK i).drop Cf n.no).1)).Ge
 have hs:=Ly (hs.front (dB 9 175 (some a) 1 (1,(eU 7 i n.no).enc)))
 exact hk _ _ (sp [aE p6 0 [pt q 0 0],aE p2 0 [pt m 0 0],aE p3 0 n.enc,iT q Cf ((M.cK i).drop Cf n.no).1]) h hs.to fun _ F=>x6 hC e1 hic F
theorem Ue {p2 p3:Nat} (hC:Cf.Ok) (hG:Gb G) (ho:uO Cf M n) (hs:Hs G h (aE p2 0 [pt m 0 0]::aE p3 0 n.enc::bG G Cf m M::L))
  (hk:TK G Cf m M L Q (if(M.dY.dropped Cf.aF n.no n.core).2.1 then(M.nE (M.dY.dropped Cf.aF n.no n.core).1).rP (Hb Cf M.home n.no) else M.nE (M.dY.dropped Cf.aF n.no n.core).1,[],(M.dY.dropped Cf.aF n.no n.core).2.2)):Dd 156 21 [] Q [(pt p2 0 0),(pt p3 0 0)] h:=by
 obtain⟨x,hl,hs⟩:=cB (hs.front (bG G Cf m M))
 refine bW (aC (b:=p2) (o:=0) hs rfl (aB (aA (aC (b:=m) (o:=0) hs rfl (Hk (C:=Cf) (m:=M.dY) hC ho.dY hs fun q h hs=>bN hs fun p6 h hs=>aZ (b:=p6) hs rfl rfl rfl rfl fun h hs=>aC (b:=p6) (o:=0) hs rfl (aA (aC (b:=p3) (o:=0) hs rfl (aA (aC (b:=p3) (o:=0) hs rfl ?_)))))))))
 refine Kc (C:=Cf) (m:=M.dY) (p:=q) hC ho.dY hs fun h hs=>aG rfl (aG rfl (bN hs fun p7 h hs=>aZ (b:=p7) hs rfl rfl rfl rfl fun h hs=>?_))
 have hs:=bC (m:=m) (x:=x) M hl hs
 have hs:=(hs.cA (aE p7 0 [.bool (M.dY.dropped Cf.aF n.no n.core).2.1]) (aE p3 0 n.enc)).zB
 have hs:=(hs.lD (aE p6 0 [pt q 0 0]) (aE p2 0 [pt m 0 0]) (sp [aE p7 0 [.bool (M.dY.dropped Cf.aF n.no n.core).2.1],aE p3 0 n.enc]) (fD Cf q (M.dY.dropped Cf.aF n.no n.core).1)).Ge
 refine hk _ _ (sp [aE p6 0 [pt q 0 0],aE p2 0 [pt m 0 0],sp [aE p7 0 [.bool (M.dY.dropped Cf.aF n.no n.core).2.1],aE p3 0 n.enc],fD Cf q (M.dY.dropped Cf.aF n.no n.core).1]) h (D8 hs.to) fun _ F=>?_
 intro h L Q hs hk
 have hs:=hs.u0
 have hs:=(hs.front (sp [aE p7 0 [.bool (M.dY.dropped Cf.aF n.no n.core).2.1],aE p3 0 n.enc])).xA
 obtain⟨x,hl,hs⟩:=cB (hs.front (bG G Cf m (M.dL F)))
 refine nA rfl (cW (f:=211) (aC (b:=p2) (o:=0) hs rfl (aC (b:=p6) (o:=0) hs rfl (aB (aA (bI (b:=m) (o:=0) hs rfl rfl rfl rfl fun h hs=>aC (b:=p7) (o:=0) hs rfl (cU (fun h1=>?_) (fun h1=>?_))))))))
 ·have hg:=Rv h1
  obtain⟨g,hg1,hg2,_⟩:=Nb ho.dY hC hg
  have hgl:=ho.dY.len
  rw[if_pos h1] at hk
  have e:dL (eX Cf x M.log.length) (0+11) [pt q 0 0]=eX Cf {x with mb:=q} M.log.length:=rfl
  rw[e] at hs
  have e2:n.enc[0+8]?=some (I g):=by show some (I n.no)=_;rw[hg1]
  refine aC (b:=p2) (o:=0) hs rfl (aA (aC (b:=p3) (o:=0) hs e2 ?_))
  have hs:=bC (m:=m) (x:={x with mb:=q}) ((M.nE (M.dY.dropped Cf.aF n.no n.core).1).dL F) hl hs
  rw[hg1] at hk hs
  exact Z6 (Cf:=Cf) (M:=(M.nE (M.dY.dropped Cf.aF g n.core).1).dL F) hC hG (by omega) ho.home hs fun v h hs=>hk _ _ hs.to
 ·rw[if_neg (by rw[h1];simp)] at hk
  have e:dL (eX Cf x M.log.length) (0+11) [pt q 0 0]=eX Cf {x with mb:=q} M.log.length:=rfl
  rw[e] at hs
  exact hk _ _ (bC (m:=m) (x:={x with mb:=q}) ((M.nE (M.dY.dropped Cf.aF n.no n.core).1).dL F) hl hs).to
end Go.Proofs.YtajjljbmfdboaaaGreatDoor
end
section
namespace Go.Proofs.YtajjljbmfdboaaaGreatDoor
open Go Go.Ab Go.Hm Go.At Go.Mc Go.Ct Go.Nt
set_option maxRecDepth 100000
variable {G:Bg} {h:AH} {L L':List HP} {Q:Value→AH→Prop} {Cf:bL} {m:Nat} {M:cR} {n:aJ}
theorem oy (hC:Cf.Ok) (hG:Gb G) (ho:uO Cf M n) (hs:Hs G h L) [mm:Has (bG G Cf m) L M L'] (hk:TK G Cf m M L' Q (M.gA Cf n)):Cl Pr K 156 [pt m 0 0,.agg ⟨n.enc⟩] h Q:=by
 refine cW (dI (mm.of hs) fun p2 h hs=>dI hs fun p3 h hs=>aA (aC (b:=p3) (o:=0) hs rfl ?_))
 have hs:Hs G h (aE p2 0 [pt m 0 0]::aE p3 0 n.enc::bG G Cf m M::L'):=hs.to
 have home:(n.kind=1∨n.kind=2∨n.kind=3∨n.kind=4∨n.kind=5)→Dd 156 3 [] Q [(pt p2 0 0),(pt p3 0 0)] h:=fun hkd=>by
  unfold cR.gA at hk
  rw[if_pos hkd] at hk
  exact ur hC hG ho hs hk
 have cache:¬(n.kind=1∨n.kind=2∨n.kind=3∨n.kind=4∨n.kind=5)→(n.kind=8∨n.kind=9∨n.kind=10∨n.kind=11)→Dd 156 9 [] Q [(pt p2 0 0),(pt p3 0 0)] h:=fun h1 hkd=>by
  unfold cR.gA at hk
  rw[if_neg h1,if_pos hkd] at hk
  exact nj hC hG ho hs hk
 refine bH (aR (fun k1=>bW (bP k1 (home (by omega)))) (fun k1=>bW ?_))
 refine bH (aR (fun k2=>bW (bP k2 (home (by omega)))) (fun k2=>bW ?_))
 refine bH (aR (fun k3=>bW (bP k3 (home (by omega)))) (fun k3=>bW ?_))
 refine bH (aR (fun k4=>bW (bP k4 (home (by omega)))) (fun k4=>bW ?_))
 refine bH (aR (fun k5=>home (by omega)) (fun k5=>bW ?_))
 refine bH (aR (fun k8=>bW (bP k8 (cache (by omega) (by omega)))) (fun k8=>bW ?_))
 refine bH (aR (fun k9=>bW (bP k9 (cache (by omega) (by omega)))) (fun k9=>bW ?_))
 refine bH (aR (fun k10=>bW (bP k10 (cache (by omega) (by omega)))) (fun k10=>bW ?_))
 refine bH (aR (fun k11=>cache (by omega) (by omega)) (fun k11=>bW ?_))
 unfold cR.gA at hk
 rw[if_neg (by omega),if_neg (by omega)] at hk
 refine bH (aR (fun k6=>?_) (fun k6=>bW ?_))
 ·rw[if_pos k6] at hk
  exact xu hC ho hs hk
 rw[if_neg k6] at hk
 refine bH (aR (fun k12=>?_) (fun k12=>bW ?_))
 ·rw[if_pos k12] at hk
  exact Z4 hC ho (ho.word k12) hs hk
 rw[if_neg k12] at hk
 refine bH (aR (fun k13=>?_) (fun k13=>bW ?_))
 ·rw[if_pos k13] at hk
  exact wy hC ho hs hk
 rw[if_neg k13] at hk
 refine bH (aR (fun k7=>?_) (fun k7=>?_))
 ·rw[if_pos k7] at hk
  exact Ue hC hG ho hs hk
 rw[if_neg k7] at hk
 have hs:Hs G h (bG G Cf m M::L'):=hs.to
 exact hk _ _ (sp []) h (mq (D8 hs)) fun h15=>absurd h15 (by show ¬(15:Int)=0;omega)
theorem Y7 (_:Cf.Ok):(M.gA Cf n).2.1.length≤100:=by
 unfold cR.gA
 split
 ·unfold gE
  split
  ·simp
  ·split
   ·unfold qZ.take
    split
    ·split<;>simp
    ·split
     ·split
      ·simp
      ·unfold qZ.K2
       dsimp only
       have hg:= @Ea
       have hr:= @sJ
       grind [Row.rest]
     ·simp
   ·simp
 ·split
  ·have:=kz (C:=Cf) (core:=n.core) (s:=M.dC n.core.toNat) (nt:=n)
   dsimp only
   omega
  ·repeat' split
   all_goals simp
   all_goals split<;>simp
theorem Tq {d:Do} (hC:Cf.Ok) (hG:Gb G) (hL:Wp Cf M.jE) (ho:∀n,(M.jE.take Cf d.a d.b d.c).2.2=0→(M.jE.take Cf d.a d.b d.c).2.1=n→uO Cf M n) (hLT:Wp Cf (M.jE.take Cf d.a d.b d.c).1) (hs:Hs G h L) [mm:Has (bG G Cf m) L M L'] (hk:∀h',Hs G h' (bG G Cf m (M.uP Cf d.a d.b d.c).1::L')→Q (I (M.uP Cf d.a d.b d.c).2) h'):Cl Pr K 111 [pt m 0 0,.agg ⟨d.enc⟩] h Q:=by
 unfold cR.uP at hk
 refine cW (dI (cs:=d.enc) (mm.of hs) fun p2 h hs=>?_)
 obtain⟨x,hl,hs⟩:=cB (hs.front (bG G Cf m M))
 refine aB (aA (aC (b:=m) (o:=0) hs rfl (T5 (C:=Cf) (F:=M.jE) hC (hL.J7 hC) hs fun q h hs=>?_)))
 refine aA (aC (b:=p2) (o:=0) hs rfl (aA (aC (b:=p2) (o:=0) hs rfl (aA (aC (b:=p2) (o:=0) hs rfl ?_)))))
 refine U8 (C:=Cf) (f:=q) (F:=M.jE) hC (hL.J7 hC) hs fun h hs=>aG rfl (aG rfl (bN hs fun p9 h hs=>aZ (b:=p9) hs rfl rfl rfl rfl fun h hs=>aY (aR (fun h1=>?_) (fun h1=>?_))))
 ·rw[if_pos h1] at hk
  exact hk _ (bC (m:=m) (x:=x) M hl hs).to
 rw[if_neg h1] at hk
 have ht:=ho _ (by omega) rfl
 generalize M.jE.take Cf d.a d.b d.c=tt at hk hs h1 ht hLT
 have hs:=bC (m:=m) (x:=x) M hl hs
 refine bW (aQ (b:=p9) (o:=0) hs (by decide) (l:=tt.2.1.enc) rfl rfl (oy (Cf:=Cf) (M:=M) (n:=tt.2.1) hC hG ht hs ?_))
 intro v fv Z h hs hfin
 refine aG rfl (aG rfl (aG rfl (aY (aR (fun h2=>?_) (fun h2=>?_)))))
 ·dsimp only at hk
  rw[if_pos h2] at hk
  exact hk _ hs.to
 dsimp only at hk
 rw[if_neg h2] at hk
 obtain⟨a,c,hv,hs2⟩:=H.rb hs
 subst hv
 have hs:Hs G h (qF a c (M.gA Cf tt.2.1).2.1::_):=hs2
 refine bW ?_
 refine Cx (C:=Cf) (f:=q) (F:=tt.1) (l:=(M.gA Cf tt.2.1).2.1) (a:=a) (c:=c) hC (hLT.J7 hC) (Y7 hC) hG.kin hG.lim hs fun h hs=>aY (aR (fun h3=>?_) (fun h3=>?_))
 ·rw[if_pos h3] at hk
  exact hk _ hs.to
 rw[if_neg h3] at hk
 obtain⟨x,hl,hs⟩:=cB (hs.front (bG G Cf m M))
 refine bW (aB (aA (bI (b:=m) (o:=0) hs rfl rfl rfl rfl fun h hs=>?_)))
 have e:dL (eX Cf x M.log.length) (0+12) [pt q 0 0]=eX Cf {x with fb:=q} M.log.length:=rfl
 rw[e] at hs
 have hs:=bC (m:=m) (x:={x with fb:=q}) (M.dL (tt.1.send Cf (M.gA Cf tt.2.1).2.1).1) hl hs
 exact hfin (by omega) _ h _ _ (hs.cA Z (bG G Cf m (M.dL (tt.1.send Cf (M.gA Cf tt.2.1).2.1).1))) fun v h hs=>hk _ hs.to
end Go.Proofs.YtajjljbmfdboaaaGreatDoor
end
section
namespace Go.Proofs.YtajjljbmfdboaaaGreatDoor
open Go Go.Ab Go.Hm Go.At Go.Mc Go.Ct Go.Nt
set_option maxRecDepth 100000
variable {G:Bg} {h:AH} {L L':List HP} {Q:Value→AH→Prop} {Cf:bL} {m:Nat} {M:cR}
theorem Zm {d:Do} (hC:Cf.Ok) (hG:Gb G) (hm:gB Cf M.dY) (hh:rR Cf M.home (2^30 - 4)) (hL:Wp Cf M.jE) (hs:Hs G h L) [mm:Has (bG G Cf m) L M L'] (hk:∀h',Hs G h' (bG G Cf m (M.begin Cf d.a).1::L')→Q (I (M.begin Cf d.a).2) h'):Cl Pr K 112 [pt m 0 0,.agg ⟨d.enc⟩] h Q:=by
 unfold cR.begin at hk
 refine cW (dI (cs:=d.enc) (mm.of hs) fun p2 h hs=>?_)
 obtain⟨x,hl,hs⟩:=cB (hs.front (bG G Cf m M))
 refine aB (aA (aC (b:=m) (o:=0) hs rfl (H.H0 (C:=Cf) hC (Ef hh (by omega)) hs fun q h hs=>aU hs fun rr h hs=>aA (aC (b:=p2) (o:=0) hs rfl ?_))))
 refine aB (aA (iN (b:=m) (o:=0) hs (by decide) (l:=Cf.enc) rfl rfl (aB (aA (aC (b:=m) (o:=0) hs rfl (aH (c:=Cf.enc++[pt x.mb 0 0]) rfl ?_))))))
 have hs:=hs.cA (H.eY G q Cf M.home) (fD Cf x.mb M.dY)
 refine H.ja (C:=Cf) (hb:=q) (H:=M.home) hC hG.lim (Nl (p:=x.mb) hC hm hG.lim) hh hs (List.Perm.refl _) fun v h hs=>aG rfl (aG rfl ?_)
 have ej:(fun w=>Jf Cf M.dY w d.a)=M.Xr Cf d.a:=rfl
 rw[ej] at hs ⊢
 have hbl:=Nn (C:=Cf) (H:=M.home) (l:=d.a) (j:=M.Xr Cf d.a)
 generalize jO Cf M.home d.a (M.Xr Cf d.a)=r at hk hs hbl ⊢
 refine aY (aR (fun h1=>?_) (fun h1=>?_))
 ·rw[if_pos h1] at hk
  exact hk _ (bC (m:=m) (x:=x) M hl hs).to
 dsimp only at hk
 rw[if_neg h1] at hk
 obtain⟨a,c,hv,hs2⟩:=H.rb hs
 subst hv
 have hs:Hs G h (qF a c r.2.1::_):=hs2
 refine bW (aB (aA (aC (b:=m) (o:=0) hs rfl ?_)))
 refine Cx (C:=Cf) (f:=x.fb) (F:=M.jE) (l:=r.2.1) (a:=a) (c:=c) hC (hL.J7 hC) (by omega) hG.kin hG.lim hs fun h hs=>aY (aR (fun h2=>?_) (fun h2=>?_))
 ·rw[if_pos h2] at hk
  rw[By h2] at hs
  exact hk _ (bC (m:=m) (x:=x) M hl hs).to
 ·rw[if_neg h2] at hk
  refine bW (aB (aA (bI (b:=m) (o:=0) hs rfl rfl rfl rfl fun h hs=>hk _ ?_)))
  have e:dL (eX Cf x M.log.length) (0+10) [pt q 0 0]=eX Cf {x with hb:=q} M.log.length:=rfl
  rw[e] at hs
  exact(bC (m:=m) (x:={x with hb:=q}) ((M.dL (fS.send Cf M.jE r.2.1).1).rP r.1) hl hs).to
abbrev sdX (G:Bg) (Cf:bL) (m p2 p3:Nat) (M:cR) (b:Bool) (e:Nat→Value) (d l:Nat) (st:LoopState×Option Code) (pr:Prop):HP:=sp [uI pr,jY Pr 57 (kD 218) 29 e d l st,sp [aE p2 0 [pt m 0 0],aE p3 0 [.bool b]],bG G Cf m M]
theorem Mf {g:Nat} (hC:Cf.Ok) (hG:Gb G) (hg:(g:Int)<Cf.bB) (hi:rR Cf M.home (2^30)) (hs:Hs G h L) [mm:Has (bG G Cf m) L M L'] (hk:∀h',Hs G h' (bG G Cf m M::L')→Q (.bool (M.iY Cf g)) h'):Cl Pr K 57 [pt m 0 0,I g] h Q:=by
 refine cW (dI (mm.of hs) fun p2 h hs=>?_)
 obtain⟨x,hl,hs⟩:=cB (hs.front (bG G Cf m M))
 refine aC (b:=p2) (o:=0) hs rfl (aB (aA (aC (b:=m) (o:=0) hs rfl (I2 (C:=Cf) (m:=M.dY) hs fun h hs=>bH (bN hs fun p3 h hs=>aZ (b:=p3) hs rfl rfl rfl rfl fun h hs=>?_)))))
 generalize hb:decide (M.dY.phase g=2)=b at hs
 refine aC (b:=p2) (o:=0) hs rfl (aB (aA (iN (b:=m) (o:=0) hs (by decide) (l:=Cf.enc) rfl rfl (An (C:=Cf) hs fun q1 q2 h hs=>?_))))
 have hs:=bC (m:=m) (x:=x) M hl hs
 refine jX hs fun d h hs=>?_
 intro e he
 refine mG hs fun l h hs=>rT rfl ?_
 have hs:Hs G h (sp [aE q1 0 Cf.enc,aE q2 0 [I g]]::sdX G Cf m p2 p3 M b e d l (.ready,none) (∀l∈([]:List Nat),¬fI Cf M.home l>0)::mk d ()::L'):=by
  have hs:=(hs.cA (aE p2 0 [pt m 0 0]) (aE p3 0 [.bool b])).zB
  have hs:=hs.cJ (jY Pr 57 (kD 218) 29 e d l (.ready,none)) (sp [aE p2 0 [pt m 0 0],aE p3 0 [.bool b]]) (bG G Cf m M)
  have hs:=Hs.Ge (Hs.N9 (p:=∀l∈([]:List Nat),¬fI Cf M.home l>0) (by simp) hs)
  exact hs.to
 refine(El (C:=Cf) hC hg (p:=q1) (q:=q2) hG.lim).fold (X:=fun done=>sdX G Cf m p2 p3 M b e d l (.ready,none) (∀l∈done,¬fI Cf M.home l>0)) (Z:=fun _ y=>sdX G Cf m p2 p3 M false e d l (.done,some (.exit 0)) (fI Cf M.home y>0∧(y=g*2∨y=g*2+1))) hs ?_ ?_ ?_
 ·intro done y h N hp hs
  obtain⟨hd,hs⟩:=fP hs
  have hs:=hs.wP
  have hy:y=g*2∨y=g*2+1:=by
   obtain⟨ys,hys⟩:=hp
   have:y∈[g*2,g*2+1]:=by rw[←hys];simp
   simpa using this
  have hs:=(hs.front (sp [aE p2 0 [pt m 0 0],aE p3 0 [.bool b]])).xA
  obtain⟨x,hl,hs⟩:=cB (hs.front (bG G Cf m M))
  refine rW (rS hs) he (gU hs fun h hs=>aC (b:=p2) (o:=0) hs rfl (aB (aA (aC (b:=m) (o:=0) hs rfl (H.Oj (C:=Cf) (H:=M.home) hi hs fun h hs=>?_)))))
  have hs:=bC (m:=m) (x:=x) M hl hs
  refine iS (aR (fun c1=>?_) (fun c1=>?_))
  ·refine aZ (b:=p3) hs rfl rfl rfl rfl fun h hs=>iE hs fun h hs=> .inr ⟨rfl,?_⟩
   have hs:=(hs.cA (aE p2 0 [pt m 0 0]) (aE p3 0 [.bool false])).zB
   have hs:=hs.cJ (jY Pr 57 (kD 218) 29 e d l (.done,some (.exit 0))) (sp [aE p2 0 [pt m 0 0],aE p3 0 [.bool false]]) (bG G Cf m M)
   exact(Hs.Ge (Hs.N9 (p:=fI Cf M.home y>0∧(y=g*2∨y=g*2+1)) ⟨c1,hy⟩ hs)).to
  ·refine iE hs fun h hs=> .inl ⟨rfl,?_⟩
   have hs:=(hs.cA (aE p2 0 [pt m 0 0]) (aE p3 0 [.bool b])).zB
   have hs:=hs.cJ (jY Pr 57 (kD 218) 29 e d l (.ready,none)) (sp [aE p2 0 [pt m 0 0],aE p3 0 [.bool b]]) (bG G Cf m M)
   refine(Hs.Ge (Hs.N9 (p:=∀l∈done++[y],¬fI Cf M.home l>0) ?_ hs)).to
   intro z hz
   rcases List.mem_append.1 hz with hz|hz
   ·exact hd z hz
   ·rw[List.mem_singleton.1 hz];exact c1
 ·intro v h hs
  obtain⟨hd,hs⟩:=fP (hs.front (sdX G Cf m p2 p3 M b e d l (.ready,none) (∀l∈[g*2,g*2+1],¬fI Cf M.home l>0)))
  have hs:=hs.wP
  have e1:M.iY Cf g=b:=by
   have h1:=hd (g*2) (by simp)
   have h2:=hd (g*2+1) (by simp)
   rw[←hb]
   unfold cR.iY
   simp only[Int.natCast_mul,Int.natCast_add] at h1 h2
   rw[decide_eq_false (p:=fI Cf M.home (g*2)>0) h1,decide_eq_false (p:=fI Cf M.home (g*2+1)>0) h2]
   simp
  rw[e1] at hk
  have hs:=(hs.front (sp [aE p2 0 [pt m 0 0],aE p3 0 [.bool b]])).xA
  exact mE hs fun h hs=>mC (aC (b:=p3) (o:=0) hs rfl (lN hs fun h hs=>jI (hk _ hs.to)))
 ·intro done y v h hp hs
  obtain⟨hd,hs⟩:=fP (hs.front (sdX G Cf m p2 p3 M false e d l (.done,some (.exit 0)) (fI Cf M.home y>0∧(y=g*2∨y=g*2+1))))
  have hs:=hs.wP
  have e1:M.iY Cf g=false:=by
   unfold cR.iY
   rcases hd.2 with e|e
   ·have:=hd.1
    rw[e] at this
    simp only[Int.natCast_mul] at this
    rw[decide_eq_true (p:=fI Cf M.home (g*2)>0) this]
    simp
   ·have:=hd.1
    rw[e] at this
    simp only[Int.natCast_mul,Int.natCast_add] at this
    rw[decide_eq_true (p:=fI Cf M.home (g*2+1)>0) this]
    simp
  rw[e1] at hk
  have hs:=(hs.front (sp [aE p2 0 [pt m 0 0],aE p3 0 [.bool false]])).xA
  exact Em hs fun h hs=>Hj rfl (aC (b:=p3) (o:=0) hs rfl (lN hs fun h hs=>jI (hk _ hs.to)))
end Go.Proofs.YtajjljbmfdboaaaGreatDoor
end
section
namespace Go.Proofs.YtajjljbmfdboaaaGreatDoor
open Go Go.Ab Go.Hm Go.At Go.Mc Go.Ct Go.Nt
theorem Wz {H:iJ} {g:Nat}:xI H g=fun i=>((H i).1,zY (fun i=>(H i).2) g i):=by
 funext i
 unfold xI zY bT
 by_cases h1:i=g*2+1
 ·subst h1;simp
 ·by_cases h2:i=g*2
  ·subst h2;simp
  ·rw[if_neg (by omega),if_neg h1,if_neg h2]
theorem Lo {m:Mon} {g:Int} {u:Mc.iM} (h:(m.over g).2.1=some u):m.run g=some u∧(m.over g).2.2=0∧m.has g:=by
 unfold Mon.over at h ⊢
 by_cases hg:m.has g
 ·rw[if_neg (by simpa using hg)] at h ⊢
  cases hr:m.run g with
  |none=>rw[hr] at h;cases h
  |some r=>
   rw[hr] at h
   dsimp only at h ⊢
   split at h
   ·cases h
   ·rename_i hp
    cases h
    rw[if_neg hp]
    exact⟨rfl,rfl,hg⟩
 ·rw[if_pos hg] at h;cases h
theorem Lv {m:Mon} {g:Int} (h:(m.over g).2.1=none):(m.over g).1=m∧(m.over g).2.2≠0:=by
 unfold Mon.over at h ⊢
 split
 ·exact⟨rfl,by dsimp only;omega⟩
 ·rename_i hg
  rw[if_neg hg] at h
  split
  ·exact⟨rfl,by dsimp only;omega⟩
  ·rename_i r hr
   rw[hr] at h
   dsimp only at h
   split
   ·exact⟨rfl,by dsimp only;omega⟩
   ·rename_i hp
    rw[if_neg hp] at h
    cases h
set_option maxRecDepth 100000
variable {G:Bg} {h:AH} {L L':List HP} {Q:Value→AH→Prop} {Cf:bL} {m:Nat} {M:cR}
theorem Ux {d:Do} (hC:Cf.Ok) (hG:Gb G) (hm:gB Cf M.dY) (hh:rR Cf M.home (2^30)) (hst:∀i:Nat,(i:Int)<Cf.aF→(M.aS i).Ok) (hlog:M.log.length≤2^30) (hs:Hs G h L) [mm:Has (bG G Cf m) L M L'] (hk:∀h',Hs G h' (bG G Cf m (M.finish Cf d.a).1::L')→Q (I (M.finish Cf d.a).2) h'):Cl Pr K 113 [pt m 0 0,.agg ⟨d.enc⟩] h Q:=by
 unfold cR.finish at hk
 refine cW (dI (cs:=d.enc) (mm.of hs) fun p2 h hs=>aU hs fun rr h hs=>?_)
 obtain⟨x,hl,hs⟩:=cB (hs.front (bG G Cf m M))
 refine aA (aC (b:=p2) (o:=0) hs rfl (aN (aR (fun h1=>?_) (fun h1=>?_))))
 ·rw[if_pos (by omega)] at hk
  exact hk _ (bC (m:=m) (x:=x) M hl hs).to
 refine aA (aC (b:=p2) (o:=0) hs rfl (aB (aA (aA (aC (b:=m) (o:=0) hs rfl (dR (aR (fun h2=>?_) (fun h2=>?_))))))))
 ·rw[if_pos (by omega)] at hk
  exact hk _ (bC (m:=m) (x:=x) M hl hs).to
 rw[if_neg (by omega)] at hk
 obtain⟨w,a,b,c⟩:=d
 dsimp only at h1 h2 hk
 obtain⟨g,rfl⟩:=Int.eq_ofNat_of_zero_le (show 0≤a by omega)
 have hs:=bC (m:=m) (x:=x) M hl hs
 refine bW (aA (aC (b:=p2) (o:=0) hs rfl (Mf (Cf:=Cf) (M:=M) hC hG (by omega) hh hs fun h hs=>bS (dQ (cU (fun h3=>?_) (fun h3=>?_))))))
 rotate_left
 ·rw[if_pos h3] at hk
  exact hk _ hs.to
 rw[if_neg (by rw[h3];simp)] at hk
 obtain⟨x,hl,hs⟩:=cB (hs.front (bG G Cf m M))
 refine bW (aU hs fun r2 h hs=>aB (aA (aC (b:=m) (o:=0) hs rfl (aA (aC (b:=p2) (o:=0) hs rfl ?_)))))
 refine Vy (C:=Cf) (m:=M.dY) (p:=x.mb) hC hm hs fun h hs=>aG rfl (aG rfl (kC (r:=r2) (i:=10) (n:=13) (D:=[]) hs rfl rfl fun p5 h hs=>aZ (b:=p5) hs rfl rfl rfl rfl fun h hs=>cQ (aG rfl gC) (aY (aR (fun h4=>?_) (fun h4=>?_)))))
 ·cases hu:(M.dY.over (g:Int)).2.1 with
  |some u=>exact absurd (Lo hu).2.1 h4
  |none=>
   rw[hu] at hk
   dsimp only at hk
   rw[(Lv hu).1] at hs
   exact hk _ (bC (m:=m) (x:=x) M hl hs).to
 cases hu:(M.dY.over (g:Int)).2.1 with
 |none=>exact absurd (Lv hu).2 h4
 |some u=>
 obtain⟨u1,_,u2⟩:=Lo hu
 obtain⟨o1,o2,o3,o4,o5⟩:=hm.run g u (np u1)
 rw[hu] at hk hs
 dsimp only at hk
 simp only[Option.getD_some] at hs
 obtain⟨i,hi⟩:=Int.eq_ofNat_of_zero_le o4.1
 have hic:(i:Int)<Cf.aF:=by omega
 have ec:(lX u)[0+0+0]?=some (I i):=by show some (I u.core)=_;rw[hi]
 have eg:(lX u)[0+0+3]?=some (I g):=by show some (I u.cE)=_;rw[o2]
 rw[show u.core.toNat=i by rw[hi];rfl,o2] at hk
 refine bW (aA (aC (b:=p5) (o:=0) hs rfl (cU (fun h5=>?_) (fun h5=>?_))))
 ·rw[if_pos h5] at hk
  obtain⟨mb,b,o,cap,hs⟩:=H.lE (hs.front (H.eY G x.hb Cf M.home))
  refine bW (aU hs fun r3 h hs=>aB (aA (aC (b:=m) (o:=0) hs rfl (aB (aA (aC (b:=x.hb) (o:=0) hs rfl (aA (aA (aC (b:=p5) (o:=0) hs eg ?_)))))))))
  refine A.o8 (C:=Cf) (mb:=mb) (g:=g) (mem:=fun i=>(M.home i).2) hC hG.lim hs (by omega) fun _ h hs=>aA (aA (aC (b:=p5) (o:=0) hs ec ?_))
  have hs:=H.qN (H:=xI M.home g) (hb:=x.hb) (C:=Cf) (mb:=mb) (b:=b) (o:=o) (cap:=cap) (by rw[Wz];exact hs.lD (aE x.hb 0 (H.jH mb Cf b o cap)) (eN G Cf.lines mb Cf (zY (fun i=>(M.home i).2) g)) (hole G 25 247 (some ⟨b,o,none⟩) cap Cf.lines b o) (dD Cf.lines fun i=>H.dX b (o+i*25) (M.home i).1))
  have hs:=bC (m:=m) (x:=x) ((M.nE (M.dY.over g).1).rP (xI M.home g)) hl hs
  exact lY (Cf:=Cf) (M:=(M.nE (M.dY.over g).1).rP (xI M.home g)) hic (hst i hic) hlog hs fun h hs=>hk _ hs.to
 ·rw[if_neg (by rw[h5];simp)] at hk
  have hs:=bC (m:=m) (x:=x) (M.nE (M.dY.over g).1) hl hs
  exact aA (aA (aC (b:=p5) (o:=0) hs ec (lY (Cf:=Cf) (M:=M.nE (M.dY.over g).1) hic (hst i hic) hlog hs fun h hs=>hk _ hs.to)))
end Go.Proofs.YtajjljbmfdboaaaGreatDoor
end
section
namespace Go.Proofs.YtajjljbmfdboaaaGreatDoor
open Go Go.Ab Go.Hm Go.At Go.Mc Go.Ct Go.Nt
def Ay:List Value:=[.func (.func 110) #[] #[],.func (.func 111) #[] #[],.func (.func 112) #[] #[],.func (.func 113) #[] #[]]
set_option maxRecDepth 100000
variable {G:Bg} {h:AH} {L L':List HP} {Q:Value→AH→Prop} {Cf:bL} {m N:Nat} {M:cR}
theorem nz (hs:Hs G h L) (hk:∀h',Hs G h' L→Q (.agg ⟨Ay⟩) h'):Cl Pr K 53 [] h Q:=
 cW (bN hs fun p h hs=>aH (c:=Ay) rfl (aZ (b:=p) hs rfl rfl rfl rfl fun h hs=>aQ (b:=p) (o:=0) hs (by decide) (l:=Ay) rfl rfl (hk _ hs.tail)))
theorem ye {d:Do} {f:Value} (hC:Cf.Ok) (hG:Gb G) (hI:fC Cf N M) (hN:N≤2^29) (hw:0≤d.iH∧d.iH≤3) (hf:Ay[d.iH.toNat]?=some f) (hs:Hs G h L) [mm:Has (bG G Cf m) L M L'] (hk:∀h',Hs G h' (bG G Cf m (M.uW Cf d).1::L')→Q (I (M.uW Cf d).2) h'):zV Pr K f [pt m 0 0,.agg ⟨d.enc⟩] h Q:=by
 unfold cR.uW at hk
 have hw:d.iH=0∨d.iH=1∨d.iH=2∨d.iH=3:=by omega
 have hlog:=hI.log
 rcases hw with e|e|e|e
 all_goals
  rw[e] at hf
  cases hf
 ·rw[if_pos e] at hk
  exact nA rfl (r7 hC hG (fun i hi=>hI.step hC hN hi) hs hk)
 ·rw[if_neg (by omega),if_pos e] at hk
  exact nA rfl (Tq hC hG hI.jE.len (fun n he hn=>by rw[←hn];exact hI.take hC hN (Tn hI.jE he).1) (Q1 hI.jE).len hs hk)
 ·rw[if_neg (by omega),if_neg (by omega),if_pos e] at hk
  exact nA rfl (Zm hC hG hI.dY (hI.home.h (by omega)) hI.jE.len hs hk)
 ·rw[if_neg (by omega),if_neg (by omega),if_neg (by omega),if_pos e] at hk
  exact nA rfl (Ux hC hG hI.dY (hI.home.h (by omega)) hI.A3 (by omega) hs hk)
theorem re {l:List Do} {i:Nat} {d:Do} (h:l[i]?=some d):(l.map Do.enc)[i]?=some d.enc:=by rw[List.getElem?_map,h];rfl
theorem aBt {l:List Do} {e:TypeId} {v:Value} (hC:Cf.Ok) (hG:Gb G) (hI:fC Cf N M) (hN:N+2*l.length≤2^29) (hs:Hs G h (yK G 4 e v (l.map Do.enc)::bG G Cf m M::L)) (hk:∀h',Hs G h' (yK G 4 e v (l.map Do.enc)::bG G Cf m (M.rX Cf l 0).1::L)→Q (.tuple ⟨[I (M.rX Cf l 0).2.1,I (M.rX Cf l 0).2.2]⟩) h'):Cl Pr K 15 [pt m 0 0,v] h Q:=by
 obtain⟨a,c,hv⟩:=uF hs
 rw[List.length_map] at hv
 have hlen:∀{k:Value→Prop},k (I l.length)→bA (lA v) k:=fun hk=>by rw[hv];exact bZ hk
 refine cW (cN (bV (bW (nz hs fun h hs=>bN hs fun p h hs=>aZ (b:=p) hs rfl rfl rfl rfl fun h hs=>hlen ?_))))
 have loop:∀(f i N:Nat) (M:cR) (h:AH),i+f=l.length→fC Cf N M→N+2*f≤2^29→(∀h',Hs G h' (yK G 4 e v (l.map Do.enc)::bG G Cf m (M.rX Cf (l.drop i) i).1::L)→Q (.tuple ⟨[I (M.rX Cf (l.drop i) i).2.1,I (M.rX Cf (l.drop i) i).2.2]⟩) h')→
   Hs G h (yK G 4 e v (l.map Do.enc)::aE p 0 Ay::bG G Cf m M::L)→Dd 15 2 [] Q [(pt m 0 0),v,(pt p 0 0),v,(I l.length),(I i)] h:=by
  intro f
  induction f with
  |zero=>
   intro i N M h hi hI hN hk hs
   rw[List.drop_of_length_le (by omega)] at hk
   unfold cR.rX at hk
   have hii:i=l.length:=by omega
   subst hii
   exact bW (aN (aK (by omega) (hlen (hk _ hs.to))))
  |succ f ih=>
   intro i N M h hi hI hN hk hs
   obtain⟨d,hd,hdr⟩:=qV (l:=l) (i:=i) (by omega)
   rw[hdr] at hk
   unfold cR.rX at hk
   refine bW (aN (bP (by omega) (bW (aBw hs (by decide) (re hd) (bN hs fun p3 h hs=>aZ (b:=p3) hs rfl rfl rfl rfl fun h hs=>aA (aC (b:=p3) (o:=0) hs rfl (aN (aR (fun h1=>?_) (fun h1=>?_)))))))))
   ·have e1:M.uW Cf d=(M,1):=by unfold cR.uW;rw[if_neg (by omega),if_neg (by omega),if_neg (by omega),if_neg (by omega)]
    rw[e1,if_pos (show(M,(1:Int)).2≠0 by show(1:Int)≠0;omega)] at hk
    exact hk _ hs.to
   refine aA (aC (b:=p3) (o:=0) hs rfl (iS (aR (fun h2=>?_) (fun h2=>?_))))
   ·have e1:M.uW Cf d=(M,1):=by unfold cR.uW;rw[if_neg (by omega),if_neg (by omega),if_neg (by omega),if_neg (by omega)]
    rw[e1,if_pos (show(M,(1:Int)).2≠0 by show(1:Int)≠0;omega)] at hk
    exact hk _ hs.to
   have hdl:d.iH.toNat<4:=by omega
   have hf:Ay[d.iH.toNat]?=some (Ay[d.iH.toNat]'hdl):=List.getElem?_eq_getElem hdl
   refine bW (aU hs fun rr h hs=>aA (aC (b:=p3) (o:=0) hs rfl (eZ (by omega) (by omega) (aC (b:=p) (o:=0) hs (by simpa using hf) (aQ (b:=p3) (o:=0) hs (by decide) (l:=d.enc) rfl rfl ?_)))))
   refine ye hC hG hI (by omega) (by omega) hf hs fun h hs=>aY (aR (fun h3=>?_) (fun h3=>?_))
   ·rw[if_pos h3] at hk
    exact hk _ hs.to
   ·rw[if_neg h3] at hk
    refine bW (bE (by omega) ?_)
    exact ih (i+1) (N+2) _ h (by omega) (yj hI hC) (by omega) hk hs.to
 exact loop l.length 0 N M h (by omega) hI (by omega) (by simpa using hk) hs.to
end Go.Proofs.YtajjljbmfdboaaaGreatDoor
end
section
namespace Go.Proofs.YtajjljbmfdboaaaGreatDoor.A
open Go Go.Ab Go.Hm Go.At Go.Is
set_option maxRecDepth 100000
variable {G:Bg} {h:AH} {L L':List HP} {Q:Value→AH→Prop}
abbrev zS:List Value:=[I 0,I 0,I 0,I 0,I 0,I 0,.bool false,.slice none 0 0]
theorem Ui {B p b o cap nn c mb:Nat} {a:Option Addr} {C:bL} {pv wv:Value} {vi:List Value} {ps:List (List Ins)} {ws:List Int} (hB:B≤4) (hps:ps.length=B) (hws:ws.length=B) (hp:∀p∈ps,p.length≤32)
  (hv:vi.length=ps.length) (ho:sA G 1 pv (vi.map fun x=>[x]).length (fun i=>(vi.map fun x=>[x]).getD i [])) (hi:∀(i:Nat) (v:Value) (p:List Ins),vi[i]?=some v→ps[i]?=some p→Qp G v p) (hw:Fv G wv ws)
  (hk:∀h',Hs G h' (nc p C (.slice (some ⟨b,o,none⟩) B cap) a nn c mb::dD B (fun i=>vY b (o+i*8) (rC (ps.getD i []) (ws.getD i 0)))::L)→Q (.tuple ⟨[pt p 0 0,I 0]⟩) h'):
  ∀(r i:Nat) (h:AH),i+r=B→Hs G h (nc p C (.slice (some ⟨b,o,none⟩) B cap) a nn c mb::dD B (fun j=>if j<i then vY b (o+j*8) (rC (ps.getD j []) (ws.getD j 0)) else aE b (o+j*8) zS)::L)→
  Dd 32 13 [] Q [pv,wv,(pt p 0 0),(I B),(I i)] h:=by
 intro r
 induction r with
 |zero=>
  intro i h hib hs
  obtain rfl:i=B:=by omega
  refine bW (aN (aK (by omega) (hk _ ?_)))
  exact(qP (g:=fun j=>vY b (o+j*8) (rC (ps.getD j []) (ws.getD j 0))) (fun j hj=>by rw[if_pos hj]) hs.kA).kA
 |succ r ih=>
  intro i h hir hs
  have hib:i<B:=by omega
  obtain⟨pp,hpp,_⟩:=lF (l:=ps) (i:=i) (by omega)
  obtain⟨v,hvi,_⟩:=lF (l:=vi) (i:=i) (by omega)
  obtain⟨w,hwi,_⟩:=lF (l:=ws) (i:=i) (by omega)
  have hpl:pp.length≤32:=hp pp (List.mem_of_getElem? hpp)
  have hs:=(hs.front (dD B fun j=>if j<i then vY b (o+j*8) (rC (ps.getD j []) (ws.getD j 0)) else aE b (o+j*8) zS)).kY i hib
  simp only[Nat.lt_irrefl,if_false] at hs
  refine bW (aN (bP (by omega) (bW (aB (aA (aC (b:=p) (o:=0) hs rfl (dK hib ?_)))))))
  refine xL (Bm (e:=3) (by simp) ho hs) (x:=[v]) (by simp[hvi]) rfl ?_
  refine xa (by rw[I6];omega) (by rw[Lq];exact V0 _) (Mr (hi i v pp hvi hpp) hs) fun a' c' h hs=>?_
  rw[I6,Lq] at hs
  rw[I6]
  refine aB (aA (bI (b:=b) (o:=o+i*8) hs rfl rfl rfl rfl fun h hs=>?_))
  refine xL (qI hw hs) (x:=[I w]) (by simp[Db,hwi]) rfl ?_
  refine aB (aA (aA (bI (b:=b) (o:=o+i*8) hs rfl rfl rfl rfl fun h hs=>?_)))
  have hs:=hs.sg (b:=b) (o:=o+i*8) (c:=(⟨fun _=>0,0,w,false,pp⟩:aX).core++[.slice a' pp.length c']) rfl
  refine Gc (s:=⟨fun _=>0,0,w,false,pp⟩) (a:=a') (c:=c') (by omega) (hs.cA (aE b (o+i*8) ((⟨fun _=>0,0,w,false,pp⟩:aX).core++[.slice a' pp.length c'])) (dB 4 86 a' c' (pp.length,xZ pp))) fun h hs=>bE (by omega) ?_
  refine ih (i+1) h (by omega) ?_
  have hs:=W4 (b:=b) (o:=o+i*8) (s:=(⟨fun _=>0,0,w,false,pp⟩:aX).nT 0) hs
  have e:(⟨fun _=>0,0,w,false,pp⟩:aX).nT 0=rC (ps.getD i []) (ws.getD i 0):=by
   rw[List.getD_eq_getElem?_getD,List.getD_eq_getElem?_getD,hpp,hwi];rfl
  rw[e] at hs
  have e0:vY b (o+i*8) (rC (ps.getD i []) (ws.getD i 0))=(fun j=>if j<i+1 then vY b (o+j*8) (rC (ps.getD j []) (ws.getD j 0)) else aE b (o+j*8) zS) i:=by simp only[Nat.lt_succ_self,if_true]
  rw[e0] at hs
  have hs:=hs.oR (n:=B) (i:=i) (fun j=>if j<i then vY b (o+j*8) (rC (ps.getD j []) (ws.getD j 0)) else aE b (o+j*8) zS) (fun j=>if j<i+1 then vY b (o+j*8) (rC (ps.getD j []) (ws.getD j 0)) else aE b (o+j*8) zS) hib (fun j _ hne=>by
   have:(j<i+1)=(j<i):=propext ⟨fun h=>by omega,fun h=>by omega⟩
   simp only[this])
  exact hs.to
theorem Dc:∀{ps:List (List Ins)},rF ps=0→∀p∈ps,(jV p).2=0
 |[],_,p,hp=>by simp at hp
 |q::l,h,p,hp=>by
  rw[rF] at h
  split at h
  ·rename_i hn;exact absurd h hn
  ·rename_i hn
   rcases List.mem_cons.1 hp with rfl|hp
   ·omega
   ·exact Dc h p hp
theorem Kw {p:List Ins} (h:(jV p).2=0):p.length≤32:=by
 unfold jV at h
 split at h
 ·cases h
 ·omega
theorem zp {C:bL} {pv wv ov vv:Value} {ps:List (List Ins)} {ws os vs:List Int} (hn:ps.length≤1000∧ws.length<1000∧os.length<1000) (hl:Ob G 0 fB) (hg:Ob G 1 tU) (ho:ga G pv wv ov vv ps ws os vs) (hs:Hs G h L)
  (k1:Cq C ps ws os vs≠0→∀h',Hs G h' L→Q (.tuple ⟨[.pointer none,I (Cq C ps ws os vs)]⟩) h')
  (k2:Cq C ps ws os vs=0→∀p h',Hs G h' (aDe G p (aDh C ps ws os vs)::L)→Q (.tuple ⟨[pt p 0 0,I 0]⟩) h'):Cl Pr K 32 [.agg ⟨C.enc⟩,pv,wv,ov,vv] h Q:=by
 obtain⟨⟨vi,hv,hpo,hpi⟩,hwo,hoo,hvo⟩:=ho
 have lp:∀{k:Value→Prop},k (I ps.length)→bA (lA pv) k:=fun hk=>sN hpo (by simpa [hv] using hk)
 have lw:∀{k:Value→Prop},k (I ws.length)→bA (lA wv) k:=fun hk=>sN hwo (by simpa [rG] using hk)
 have lo:∀{k:Value→Prop},k (I os.length)→bA (lA ov) k:=fun hk=>sN hoo (by simpa [rG] using hk)
 have lv:∀{k:Value→Prop},k (I vs.length)→bA (lA vv) k:=fun hk=>sN hvo (by simpa [rG] using hk)
 unfold Cq at k1 k2
 refine cW (dI hs fun p5 h hs=>aQ hs (by decide) (l:=C.enc) rfl rfl (lK hl hs fun h hs=>?_))
 by_cases hC:C.Ok
 rotate_left
 ·rw[if_pos hC] at k1
  rw[if_neg hC]
  exact aY (bP (by omega) (k1 (by omega) _ hs.tail))
 rw[if_neg (by simpa using hC)] at k1 k2
 rw[if_pos hC]
 have hln:=bL.eI hC
 have hb:=bL.bk hC
 have hco:C.aF≤4∧1≤C.aF:=⟨hC.1.2,hC.1.1⟩
 have hgr:C.bB≤16:=hC.2.1.2
 have bad:((ps.length:Int)≠C.aF∨(ws.length:Int)≠C.aF∨(os.length:Int)≠C.bB∨vs.length≠C.lines*2)→∀h',Hs G h' (aE p5 0 C.enc::L)→Q (.tuple ⟨[.pointer none,I 1]⟩) h':=fun hb h' hs=>by
  rw[if_pos hb] at k1
  exact k1 (by omega) _ hs.tail
 refine aY (aK (by omega) (bW (lp (aA (aC (b:=p5) (o:=0) hs rfl (aY (aR (fun g=>bad (.inl g) _ hs) (fun g1=>lw (aA (aC (b:=p5) (o:=0) hs rfl (aY (aR (fun g=>bad (.inr (.inl g)) _ hs) (fun g2=>lo (aA (aC (b:=p5) (o:=0) hs rfl (aY (aR (fun g=>bad (.inr (.inr (.inl g))) _ hs) (fun g3=>lv (aQ (b:=p5) (o:=0) hs (by decide) (l:=C.enc) rfl rfl (Rm hC hl hs fun h hs=>aY (aR (fun g=>bad (.inr (.inr (.inr (by omega)))) _ hs) (fun g4=>?_))))))))))))))))))))))
 clear bad
 rw[if_neg (by omega)] at k1 k2
 refine bW (lp (Wf (_C:=C) hv hpo hpi hg hn.1 (fun e h hs=>?_) (fun e h hs=>?_) ps.length 0 h (by omega) rfl hs))
 ·rw[if_pos e] at k1
  exact k1 e _ hs.tail
 rw[if_neg (by simpa using e)] at k1 k2
 have hbad:¬(within 0 3 ws=true∧within 0 4 os=true)→∀h',Hs G h' (aE p5 0 C.enc::L)→Q (.tuple ⟨[.pointer none,I 10]⟩) h':=fun hb h' hs=>by
  rw[if_pos hb] at k1
  exact k1 (by omega) _ hs.tail
 refine bW (Dz (l:=ws) hn.2.1 (qI hwo hs) fun h hs=>bS (dQ (cU (fun g1=>?_) (fun g1=>hbad (by simp[g1]) _ hs.tail))))
 refine Dz (l:=os) hn.2.2 (qI hoo hs.tail) fun h hs=>bS (dQ (cU (fun g2=>?_) (fun g2=>hbad (by simp[g2]) _ hs.tail)))
 clear hbad
 rw[if_neg (by simp[g1,g2])] at k1 k2
 have hs:=hs.tail
 refine bW (aQ (b:=p5) (o:=0) hs (by decide) (l:=C.enc) rfl rfl (Lt hC hl hs fun mb h hs=>aG rfl (aG rfl (aY (aK (by omega) (bW (lv ?_)))))))
 refine W5 (L:=aE p5 0 C.enc::L) hC hvo hl (by omega) (fun h hs=>?_) vs.length 0 nR h (by omega) rfl hs
 refine bW (aU hs fun rv h hs=>aQ (b:=p5) (o:=0) hs (by decide) (l:=C.enc) rfl rfl (aA (aC (b:=p5) (o:=0) hs rfl (Ns (by omega) (by omega) (by omega) ?_))))
 dsimp only
 refine iW hs rfl rfl ?_ rfl ?_ ?_
 ·rw[fV,pJ (W:=8) (fun _=>rfl)]
 ·rw[fV];exact oO (fun _=>rfl) _
 intro a h hs
 obtain⟨b,o,ha,hs⟩:=Hs.Gy (W:=8) rfl (by omega) hs
 cases ha
 refine xy (by rw[rG];omega) (by rw[K9];exact Ud _) (qI hoo hs) fun a2 c2 h hs=>?_
 rw[rG,K9] at hs
 rw[rG]
 refine aH (c:=C.enc++[.slice (some ⟨b,o,none⟩) C.aF.toNat C.aF.toNat,.slice a2 os.length c2,pt mb 0 0]) rfl (xQ hs rfl rfl fun p h hs=>?_)
 refine cQ (aQ (b:=p5) (o:=0) hs (by decide) (l:=C.enc) rfl rfl (oU (by simp[bL.enc,gC]))) (cQ (aA dA) (cQ (aC (b:=p5) (o:=0) hs rfl gC) (cQ dA (aB (aA (aC (b:=p) (o:=0) hs rfl (bZ ?_)))))))
 have hs:=hs.cA (nc p C (.slice (some ⟨b,o,none⟩) C.aF.toNat C.aF.toNat) a2 os.length c2 mb) (dD C.aF.toNat fun i=>aE b (o+i*8) zS)
 refine Ui (B:=C.aF.toNat) (b:=b) (o:=o) (C:=C) (ps:=ps) (ws:=ws) (by omega) (by omega) (by omega) (fun p hp=>Kw (Dc e p hp)) hv hpo hpi hwo ?_ C.aF.toNat 0 h (by omega) (by simpa using hs)
 intro h hs
 refine k2 rfl p _ ?_
 have hs:=eb (b:=b) (o:=o) (cap:=C.aF.toNat) (a:=a2) (c:=c2) (mb:=mb) (m:=aDh C ps ws os vs) ((hs.lD (nc p C (.slice (some ⟨b,o,none⟩) C.aF.toNat C.aF.toNat) a2 os.length c2 mb) (dB 1 3 a2 c2 (os.length,os.map I)) (eN G C.lines mb C (words nR vs 0)) (hole G 8 213 (some ⟨b,o,none⟩) C.aF.toNat C.aF.toNat b o)).aAf (dD C.aF.toNat fun i=>vY b (o+i*8) (rC (ps.getD i []) (ws.getD i 0))))
 exact hs.to
end Go.Proofs.YtajjljbmfdboaaaGreatDoor.A
end
section
namespace Go.Proofs.YtajjljbmfdboaaaGreatDoor
open Go Go.Ab Go.Hm Go.At Go.Mc Go.Ct Go.Nt Go.Is
def Ky (C:bL) (pv wv ov vv:Value):List Value:=C.enc++[pv,wv,ov,vv]
def T7 (ps:List (List Ins)) (ws:List Int) (i:Nat):aX:=rC (ps.getD i []) (ws.getD i 0)
set_option maxRecDepth 100000
variable {G:Bg} {h:AH} {L L':List HP} {Q:Value→AH→Prop} {Cf:bL} {m N:Nat} {M:cR}
def mkE (C:bL) (a1 a2 a3:Option Addr) (n c1 c2 c3:Nat):List Value:=C.enc++[.slice a1 n c1,.slice a2 n c2,.slice a3 n c3,.pointer none,.pointer none,.pointer none,.slice none 0 0]
theorem Nz {e:TypeId} {a a2:Option Addr} {c c2 q:Nat} {l:List Nat} {k:Value×AH→Prop} {N:List HP} (hb:l.length≤100) (hs:Hs G h L) [mm:Has (ls pE 1 e a c) L l L'] [m2:dP (dB 1 e a2 c2 (1,[pt q 0 0])) L' N]
  (hk:∀a' c' h',Hs G h' (ls pE 1 e a' c' (l++[q])::N)→k (.slice a' (l.length+1) c',h')):bA (jB 1 8 e h (.slice a l.length c) (.slice a2 1 c2)) k:=by
 have hs:=mm.of hs
 have hs2:Hs G h (dB 1 e a2 c2 (1,[pt q 0 0])::ls pE 1 e a c l::N):=(hs.perm (m2.perm.cons _)).kA
 have hs3:=(nL (enc:=pE) (x:=q) hs2).kA
 have:=kB (enc:=pE) (e:=e) (l:=l) (l2:=[q]) (a:=a) (c:=c) (a2:=a2) (c2:=c2) (bytes:=8) (k:=k) hs3 (by simp;omega) fun a' c' h hs=>by
  have:=hk a' c' h hs.kA.tail
  rw[List.length_append,List.length_singleton]
  exact this
 exact this
theorem Ha {p2 p5:Nat} {pv wv ov vv:Value} {vi:List Value} {ps:List (List Ins)} {ws:List Int} (hC:Cf.Ok) (hG:Gb G) (hg:Ob G 1 tU) (hps:ps.length=Cf.aF.toNat) (hws:ws.length=Cf.aF.toNat) (hww:∀w∈ws,0≤w∧w≤3) (hpc:∀p∈ps,(jV p).2=0)
  (hv:vi.length=ps.length) (ho:sA G 1 pv (vi.map fun x=>[x]).length (fun i=>(vi.map fun x=>[x]).getD i [])) (hi:∀(i:Nat) (v:Value) (p:List Ins),vi[i]?=some v→ps[i]?=some p→A.Qp G v p) (hw:A.Fv G wv ws)
  (hk:∀lc lk lq a1 a2 a3 c1 c2 c3 h',lc.length=Cf.aF.toNat→lk.length=Cf.aF.toNat→lq.length=Cf.aF.toNat→Hs G h' (aE p5 0 (mkE Cf a1 a2 a3 Cf.aF.toNat c1 c2 c3)::g9 a1 c1 lc::Uo a2 c2 lk::Ul a3 c3 lq::nV sC lc (T7 ps ws)::nV (oL G Cf) lk (fun _=>jF.new)::nV (oC Cf) lq (fun _=>Fw)::aE p2 0 (Ky Cf pv wv ov vv)::L)→Dd 31 4 [] Q [(pt p2 0 0),(pt p5 0 0)] h'):
  ∀(f i:Nat) (lc lk lq:List Nat) (a1 a2 a3:Option Addr) (c1 c2 c3:Nat) (h:AH),i+f=Cf.aF.toNat→lc.length=i→lk.length=i→lq.length=i→Hs G h (aE p5 0 (mkE Cf a1 a2 a3 i c1 c2 c3)::g9 a1 c1 lc::Uo a2 c2 lk::Ul a3 c3 lq::nV sC lc (T7 ps ws)::nV (oL G Cf) lk (fun _=>jF.new)::nV (oC Cf) lq (fun _=>Fw)::aE p2 0 (Ky Cf pv wv ov vv)::L)→
  Dd 31 2 [] Q [(pt p2 0 0),(pt p5 0 0),(I Cf.aF),(I i)] h:=by
 have hc:=hC.1
 intro f
 induction f with
 |zero=>
  intro i lc lk lq a1 a2 a3 c1 c2 c3 h hif h1 h2 h3 hs
  obtain rfl:i=Cf.aF.toNat:=by omega
  exact bW (aN (aK (by omega) (hk _ _ _ _ _ _ _ _ _ _ h1 h2 h3 hs)))
 |succ f ih=>
  intro i lc lk lq a1 a2 a3 c1 c2 c3 h hif h1 h2 h3 hs
  obtain⟨p,hp,_⟩:=qV (l:=ps) (i:=i) (by omega)
  obtain⟨v,hvi,_⟩:=qV (l:=vi) (i:=i) (by omega)
  obtain⟨w,hwi,_⟩:=qV (l:=ws) (i:=i) (by omega)
  have hwr:=hww w (List.mem_of_getElem? hwi)
  have hpr:=hpc p (List.mem_of_getElem? hp)
  have eS:T7 ps ws i=rC p w:=by unfold T7;rw[List.getD_eq_getElem?_getD,List.getD_eq_getElem?_getD,hp,hwi];rfl
  refine bW (aN (bP (by omega) (bW (aU hs fun rr h hs=>aA (aC (b:=p2) (o:=0) hs rfl ?_)))))
  have hs:=A.qI hw hs
  refine xL hs (x:=[I w]) (by simp[A.Db,hwi]) rfl ?_
  have hs:=hs.tail
  refine aA (aC (b:=p2) (o:=0) hs rfl ?_)
  have hs:=Bm (e:=3) (by simp) ho hs
  refine xL hs (x:=[v]) (by simp[hvi]) rfl ?_
  have hs:=A.Mr (hi i v p hvi hp) hs.tail
  refine dv (i:=i) (pr:=p) (w:=w) (by omega) hwr hg hpr hs fun q1 h hs=>aG rfl (aG rfl (aY (aK (by omega) (bW ?_))))
  rw[←eS] at hs
  refine aA (iN (b:=p2) (o:=0) hs (by decide) (l:=Cf.enc) rfl rfl ?_)
  refine C.Oc (C:=Cf) (core:=(i:Int)) hC (by omega) hG.lim hs fun q2 h hs=>aG rfl (aG rfl (aY (aK (by omega) (bW ?_))))
  refine aA (aA (aC (b:=p2) (o:=0) hs rfl (aA (aA (aC (b:=p2) (o:=0) hs rfl ?_)))))
  refine cx (C:=Cf) hC hs fun q3 h hs=>aG rfl (aG rfl (aY (aK (by omega) (bW ?_))))
  subst h1
  refine aB (aA (aC (b:=p5) (o:=0) hs rfl (aH (c:=[pt q1 0 0]) rfl (dE (W:=1) (n:=1) (c:=1) hs rfl rfl rfl fun b1 h hs=>?_))))
  refine Nz (l:=lc) (a:=a1) (c:=c1) (e:=75) (q:=q1) (a2:=some b1) (c2:=1) (by omega) hs fun a1' c1' h hs=>aB (aA (bI (b:=p5) (o:=0) hs rfl rfl rfl rfl fun h hs=>?_))
  refine aB (aA (aC (b:=p5) (o:=0) hs rfl (aH (c:=[pt q2 0 0]) rfl (dE (W:=1) (n:=1) (c:=1) hs rfl rfl rfl fun b2 h hs=>?_))))
  rw[←h2]
  refine Nz (l:=lk) (a:=a2) (c:=c2) (e:=137) (q:=q2) (a2:=some b2) (c2:=1) (by omega) hs fun a2' c2' h hs=>aB (aA (bI (b:=p5) (o:=0) hs rfl rfl rfl rfl fun h hs=>?_))
  rw[h2]
  refine aB (aA (aC (b:=p5) (o:=0) hs rfl (aH (c:=[pt q3 0 0]) rfl (dE (W:=1) (n:=1) (c:=1) hs rfl rfl rfl fun b3 h hs=>?_))))
  rw[←h3]
  refine Nz (l:=lq) (a:=a3) (c:=c3) (e:=140) (q:=q3) (a2:=some b3) (c2:=1) (by omega) hs fun a3' c3' h hs=>aB (aA (bI (b:=p5) (o:=0) hs rfl rfl rfl rfl fun h hs=>?_))
  have e5:dL (dL (dL (mkE Cf a1 a2 a3 lc.length c1 c2 c3) (0+7) [.slice a1' (lc.length+1) c1']) (0+8) [.slice a2' (lk.length+1) c2']) (0+9) [.slice a3' (lq.length+1) c3']=mkE Cf a1' a2' a3' (lc.length+1) c1' c2' c3':=by rw[h2,h3];rfl
  rw[e5] at hs
  have hs:=Gi (R:=sC) (l:=lc) (q:=q1) (s:=T7 ps ws) (hs.cA (kI lc.length q1 (T7 ps ws lc.length)) (nV sC lc (T7 ps ws)))
  rw[←h2] at hs
  have hs:=Gi (R:=oL G Cf) (l:=lk) (q:=q2) (s:=fun _=>jF.new) (hs.cA (C.fO G q2 Cf lk.length jF.new) (nV (oL G Cf) lk (fun _=>jF.new)))
  have hs:=Gi (R:=oC Cf) (l:=lq) (q:=q3) (s:=fun _=>Fw) (hs.cA (iT q3 Cf Fw) (nV (oC Cf) lq (fun _=>Fw)))
  rw[h2] at hs
  rw[h3]
  exact bE (by omega) (ih (lc.length+1) (lc++[q1]) (lk++[q2]) (lq++[q3]) a1' a2' a3' c1' c2' c3' h (by omega) (by simp) (by simp;omega) (by simp;omega) hs.to)
end Go.Proofs.YtajjljbmfdboaaaGreatDoor
end
section
namespace Go.Proofs.YtajjljbmfdboaaaGreatDoor
open Go Go.Ab Go.Hm Go.At Go.Mc Go.Ct Go.Nt Go.Is
def mkF (C:bL) (a1 a2 a3:Option Addr) (n c1 c2 c3:Nat) (x y z:Value):List Value:=C.enc++[.slice a1 n c1,.slice a2 n c2,.slice a3 n c3,x,y,z,.slice none 0 0]
theorem Jy {a b:Int} {l:List Int} (h:within a b l=true):∀x∈l,a≤x∧x≤b:=by
 unfold within at h
 intro x hx
 exact of_decide_eq_true (List.all_eq_true.1 h x hx)
theorem O6 {C:bL} {ps:List (List Ins)} {ws os vs:List Int} (h:Cq C ps ws os vs=0):C.Ok∧ps.length=C.aF.toNat∧ws.length=C.aF.toNat∧os.length=C.bB.toNat∧vs.length=C.lines*2∧rF ps=0∧(∀w∈ws,0≤w∧w≤3)∧∀o∈os,0≤o∧o≤4:=by
 unfold Cq at h
 split at h
 ·cases h
 ·rename_i hC
  split at h
  ·cases h
  ·rename_i hl
   split at h
   ·rename_i hp;exact absurd h hp
   ·rename_i hp
    split at h
    ·cases h
    ·rename_i hw
     have hw:=Decidable.not_not.1 hw
     exact⟨Decidable.not_not.1 hC,by omega,by omega,by omega,by omega,Decidable.not_not.1 hp,Jy hw.1,Jy hw.2⟩
set_option maxRecDepth 100000
variable {G:Bg} {h:AH} {L L':List HP} {Q:Value→AH→Prop} {Cf:bL} {m N:Nat} {M:cR}
theorem cn {p2 p5 hb mb:Nat} {hE:List Value} {pv wv ov vv:Value} {vs:List Int} {z:List Value} (hC:Cf.Ok) (hG:Gb G) (hn:vs.length=Cf.lines*2) (ho:A.Fv G vv vs) (hz:z[10]?=some (pt hb 0 0)) (hE0:hE[0]?=some (pt mb 0 0))
  (hk:∀h',Hs G h' (eN G Cf.lines mb Cf (At.words nR vs 0)::aE hb 0 hE::aE p5 0 z::aE p2 0 (Ky Cf pv wv ov vv)::L)→Dd 31 11 [] Q [(pt p2 0 0),(pt p5 0 0)] h'):
  ∀(f i:Nat) (mem:Nat→Ln) (h:AH),i+f=vs.length→At.words nR vs 0=At.words mem (vs.drop i) i→Hs G h (eN G Cf.lines mb Cf mem::aE hb 0 hE::aE p5 0 z::aE p2 0 (Ky Cf pv wv ov vv)::L)→
  Dd 31 8 [] Q [(pt p2 0 0),(pt p5 0 0),vv,(I vs.length),(I i)] h:=by
 have hln:=bL.eI hC
 intro f
 induction f with
 |zero=>
  intro i mem h hi he hs
  rw[List.drop_of_length_le (by omega),At.words] at he
  rw[he] at hk
  exact bW (aN (aK (by omega) (hk _ hs)))
 |succ f ih=>
  intro i mem h hi he hs
  obtain⟨x,hx,hd⟩:=qV (l:=vs) (i:=i) (by omega)
  rw[hd,At.words] at he
  have hs:=A.qI ho hs
  refine bW (aN (bP (by omega) (bW (xL hs (x:=[I x]) (by simp[A.Db,hx]) rfl (aB (aA (aC (b:=p5) (o:=0) hs hz (aB (aA (aC (b:=hb) (o:=0) hs hE0 ?_))))))))))
  exact D5 (C:=Cf) (mb:=mb) (mem:=mem) (w:=i) (v:=x) hC hG.lim hs.tail (by omega) fun h hs=>aY (aK (by omega) (bW (bE (by omega) (ih (i+1) _ h (by omega) he hs))))
theorem xc {pv wv ov vv:Value} {ps:List (List Ins)} {ws os vs:List Int} (hn:ps.length≤1000∧ws.length<1000∧os.length<1000) (hG:Gb G) (hg:Ob G 1 tU) (ho:A.ga G pv wv ov vv ps ws os vs) (hs:Hs G h L)
  (k1:Cq Cf ps ws os vs≠0→∀h',Hs G h' L→Q (.tuple ⟨[.pointer none,I (Cq Cf ps ws os vs)]⟩) h')
  (k2:Cq Cf ps ws os vs=0→∀m h',Hs G h' (bG G Cf m (MC.new ⟨Cf,ps,ws,os,vs⟩)::L)→Q (.tuple ⟨[pt m 0 0,I 0]⟩) h'):Cl Pr K 31 [.agg ⟨Ky Cf pv wv ov vv⟩] h Q:=by
 refine cW (dI hs fun p2 h hs=>aA (iN (b:=p2) (o:=0) hs (by decide) (l:=Cf.enc) rfl rfl (aA (aC (b:=p2) (o:=0) hs rfl (aA (aC (b:=p2) (o:=0) hs rfl (aA (aC (b:=p2) (o:=0) hs rfl (aA (aC (b:=p2) (o:=0) hs rfl ?_))))))))))
 refine A.zp (C:=Cf) hn hG.lim hg ho hs (fun he h hs=>aG rfl (aG rfl (aY (bP he (k1 he _ hs.tail))))) fun he pa h hs=>aG rfl (aG rfl (aY (aK (by omega) ?_)))
 obtain⟨hC,e1,e2,e3,e4,e5,e6,e7⟩:=O6 he
 have hs:Hs G h (aE p2 0 (Ky Cf pv wv ov vv)::L):=hs.to
 have hc:=hC.1
 obtain⟨⟨vi,hv,hpo,hpi⟩,hwo,hoo,hvo⟩:=ho
 refine bW (aA (iN (b:=p2) (o:=0) hs (by decide) (l:=Cf.enc) rfl rfl (aH (c:=mkE Cf none none none 0 0 0 0) rfl (dI hs fun p5 h hs=>aA (aA (aC (b:=p2) (o:=0) hs rfl ?_))))))
 have hs:=Gp (R:=oC Cf) (s:=fun _=>Fw) hs
 have hs:=Gp (R:=oL G Cf) (s:=fun _=>jF.new) hs
 have hs:=Gp (R:=sC) (s:=T7 ps ws) hs
 have hs:=pV (enc:=pE) (e:=75) hs
 have hs:=pV (enc:=pE) (e:=137) hs
 have hs:=pV (enc:=pE) (e:=140) hs
 refine Ha (L:=L) (ov:=ov) (vv:=vv) (Cf:=Cf) hC hG hg e1 e2 e6 (A.Dc e5) hv hpo hpi hwo ?_ Cf.aF.toNat 0 [] [] [] none none none 0 0 0 h (by omega) rfl rfl rfl hs.to
 intro lc lk lq a1 a2 a3 c1 c2 c3 h l1 l2 l3 hs
 refine bW (aA (iN (b:=p2) (o:=0) hs (by decide) (l:=Cf.enc) rfl rfl ?_))
 refine H.Vj (C:=Cf) hC hG.lim hs fun hb h hs=>aG rfl (aG rfl (aB (aA (bI (b:=p5) (o:=0) hs rfl rfl rfl rfl fun h hs=>aY (aK (by omega) ?_)))))
 have e8:dL (mkE Cf a1 a2 a3 Cf.aF.toNat c1 c2 c3) (0+10) [pt hb 0 0]=mkF Cf a1 a2 a3 Cf.aF.toNat c1 c2 c3 (pt hb 0 0) (.pointer none) (.pointer none):=rfl
 rw[e8] at hs
 obtain⟨mb,b,o,cap,hs⟩:=H.lE (hs.front (H.eY G hb Cf (qY Cf.lines)))
 have em:(fun i=>(qY Cf.lines i).2)=nR:=by
  funext i
  unfold qY nR
  split<;>rfl
 rw[em] at hs
 have hs:=hs.lD (eN G Cf.lines mb Cf nR) (aE hb 0 (H.jH mb Cf b o cap)) (aE p5 0 (mkF Cf a1 a2 a3 Cf.aF.toNat c1 c2 c3 (pt hb 0 0) (.pointer none) (.pointer none))) (aE p2 0 (Ky Cf pv wv ov vv))
 refine bW (aA (aC (b:=p2) (o:=0) hs rfl (Nd hvo ?_)))
 refine cn (Cf:=Cf) (p2:=p2) (p5:=p5) (hb:=hb) (mb:=mb) (hE:=H.jH mb Cf b o cap) (z:=mkF Cf a1 a2 a3 Cf.aF.toNat c1 c2 c3 (pt hb 0 0) (.pointer none) (.pointer none)) hC hG e4 hvo rfl rfl ?_ vs.length 0 nR h (by omega) rfl hs
 intro h hs
 have hs:=H.qN (H:=MC.home ⟨Cf,ps,ws,os,vs⟩) (hb:=hb) (C:=Cf) (mb:=mb) (b:=b) (o:=o) (cap:=cap) (hs.lD (aE hb 0 (H.jH mb Cf b o cap)) (eN G Cf.lines mb Cf (At.words nR vs 0)) (hole G 25 247 (some ⟨b,o,none⟩) cap Cf.lines b o) (dD Cf.lines fun i=>H.dX b (o+i*25) (qY Cf.lines i).1))
 refine bW (aA (aA (aC (b:=p2) (o:=0) hs rfl (aA (aC (b:=p2) (o:=0) hs rfl ?_)))))
 refine aj (C:=Cf) hC hoo e3 e7 hs fun q h hs=>aG rfl (aG rfl (aB (aA (bI (b:=p5) (o:=0) hs rfl rfl rfl rfl fun h hs=>aY (aK (by omega) (bW ?_))))))
 refine aA (iN (b:=p2) (o:=0) hs (by decide) (l:=Cf.enc) rfl rfl ?_)
 refine Zh (C:=Cf) hC hG.lim hs fun fb h hs=>aG rfl (aG rfl (aB (aA (bI (b:=p5) (o:=0) hs rfl rfl rfl rfl fun h hs=>aY (aK (by omega) (k2 he _ _ ?_))))))
 have hs:=pV (enc:=Ev.enc) (e:=80) hs
 have e9:dL (dL (mkF Cf a1 a2 a3 Cf.aF.toNat c1 c2 c3 (pt hb 0 0) (.pointer none) (.pointer none)) (0+11) [pt q 0 0]) (0+12) [pt fb 0 0]=eX Cf ⟨lc,lk,lq,a1,a2,a3,none,c1,c2,c3,0,hb,q,fb⟩ 0:=by
  unfold eX
  dsimp only
  rw[l1,l2,l3]
  rfl
 rw[e9] at hs
 have hs:Hs G h (bG G Cf p5 (⟨T7 ps ws,fun _=>jF.new,fun _=>Fw,MC.home ⟨Cf,ps,ws,os,vs⟩,⟨rL os,fun _=>none⟩,fun _ _=>[],[]⟩:cR)::L):=(bC (m:=p5) (x:=⟨lc,lk,lq,a1,a2,a3,none,c1,c2,c3,0,hb,q,fb⟩) (⟨T7 ps ws,fun _=>jF.new,fun _=>Fw,MC.home ⟨Cf,ps,ws,os,vs⟩,⟨rL os,fun _=>none⟩,fun _ _=>[],[]⟩:cR) ⟨l1,l2,l3⟩ hs).to
 exact hs
end Go.Proofs.YtajjljbmfdboaaaGreatDoor
end
end
