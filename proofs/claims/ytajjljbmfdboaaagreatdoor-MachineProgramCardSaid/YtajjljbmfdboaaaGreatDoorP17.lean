/- A part of the proof. -/
import Derived.Test.YtajjljbmfdboaaaGreatDoorP15
import Derived.Test.YtajjljbmfdboaaaGreatDoorP11
section
open Go Go.Ab
attribute [local irreducible] aZ Br oM rI sQ Bi lE tH kU Qb gI lF pD pW oR kH zH tJ W2 Ut Qa Nn T3 P6 Km Lx T2 jR mX rV iO copyV iB vL Va Uo Fm kB Lu Sv Vn nF rH wK zB Cl wX T1 rM qX jI gS cI cA
section
namespace Go.Proofs.YtajjljbmfdboaaaGreatDoor
open Go Go.Ab Go.Hm Go.At Go.Mc Go.Ct Go.Nt Go.Is
set_option maxRecDepth 100000
variable {G:Bg} {h:AH} {L L':List HP} {Q:Value→AH→Prop} {Cf:bQ} {m N:Nat} {M:cY}
theorem lu {x:Int} (hk:Q (.bool (decide (x=8))) h):Cl Pr K 40 [I x] h Q:=
 cW (bC hk)
theorem uh {S:Nat→aY} {lv t2:Value} {l:List Do} (hC:Cf.Ok) (hG:Gb G) (hl:l.length≤400) (hd:N2 G lv l) (hk:∀M' h',Mc.Yn Cf S 1000 M'→M'.log.length≤1000→Hs G h' (bG G Cf m M'::L)→Dd 8 5 [] Q [t2,(pt m 0 0)] h'):
  ∀(f i:Nat) (M:cY) (h:AH),i+f=l.length→Mc.Yn Cf S (2*i) M→Hs G h (bG G Cf m M::L)→Dd 8 3 [] Q [lv,t2,(pt m 0 0),(I i)] h:=by
 intro f
 induction f with
 |zero=>
  intro i M h hi hA hs
  have hA':Mc.Yn Cf S 1000 M:=⟨hA.inv.mono (by omega),hA.wait,hA.Xp⟩
  exact bW (cu hd (aU (aI (by omega) (hk _ _ hA' hA'.len hs))))
 |succ f ih=>
  intro i M h hi hA hs
  obtain⟨d,hx,_⟩:=kT (l:=l) (i:=i) (by omega)
  have hs:=Xn hd hs
  refine bW (cu hd (aU (bM (by omega) (bW (vk hs (by decide) (Wt hx) (aK (c:=d.enc) rfl (dP (W:=4) (n:=1) (c:=1) hs.tail rfl rfl rfl fun a h hs=>?_)))))))
  exact ra (M:=M) hC hG hA.inv (by omega) hs fun h hs=>bI (by omega) (ih (i+1) _ h (by omega) (hA.Fj hC) hs)
theorem vn {p2 q c i:Nat} {a:Option Addr} {t:aY} {log:List Ev} (hlog:log.length≤1000)
  (hk:∀h',Hs G h' (iY i q t::zU a c log::L)→Dd 8 12 [] Q [(pt p2 0 0),(pt m 0 0),(.slice a log.length c),(I i),(pt q 0 0)] h'):
  ∀(f k:Nat) (u:aY) (h:AH),k+f=log.length→u.Ok→Xp i u (log.drop k)=some t→Hs G h (iY i q u::zU a c log::L)→Dd 8 10 [] Q [(pt p2 0 0),(pt m 0 0),(.slice a log.length c),(I i),(pt q 0 0),(I 0),(I k)] h:=by
 intro f
 induction f with
 |zero=>
  intro k u h hkf hu hr hs
  rw[List.drop_of_length_le (by omega)] at hr
  cases hr
  exact bW (bZ (aU (aI (by omega) (hk _ hs))))
 |succ f ih=>
  intro k u h hkf hu hr hs
  obtain⟨x,hx,hdr⟩:=kT (l:=log) (i:=k) (by omega)
  rw[hdr] at hr
  unfold Xp at hr
  have hx':log[((k:Nat):Int).toNat]?=some x:=by rw[Int.toNat_natCast];exact hx
  have lsJ:∀{h:AH} {j:Nat} {v:Value} {K0:Value→Prop} {N N':List HP},Hs G h N→[mm:Has (zU a c) N log N']→x.enc[j]?=some v→K0 v→aZ (jR 7 (.slice a log.length c) (I k)) fun p=>aZ (gI j p) fun q=>aZ (oM h q) K0:=by
   intro h j v K0 N N' hs mm hv hk
   exact J6 (l:=log) (a:=a) (c:=c) (enc:=Ev.enc) (e:=80) (show Hs G h (zU a c log::N') from mm.of hs) (by omega) hx' hv hk
  have lsN:∀{h:AH} {K0:Value→Prop} {N N':List HP},Hs G h N→[mm:Has (zU a c) N log N']→K0 (.agg ⟨x.enc⟩)→aZ (jR 7 (.slice a log.length c) (I k)) fun p=>aZ (rI h 7 p) K0:=by
   intro h K0 N N' hs mm hk
   exact tE (l:=log) (a:=a) (c:=c) (enc:=Ev.enc) (e:=80) (show Hs G h (zU a c log::N') from mm.of hs) (by decide) (by omega) hx' hk
  refine bW (bZ (aU (bM (by omega) (bW (lsJ (j:=0) (v:=I x.core) hs rfl (aX (aS (fun c1=>?_) (fun c1=>?_))))))))
  ·rw[if_neg c1] at hr
   exact bW (bI (by omega) (ih (k+1) u h (by omega) hu hr hs))
  have c1:x.core=i:=by omega
  rw[if_pos c1] at hr
  cases hrp:rp i u x with
  |none=>rw[hrp] at hr;cases hr
  |some u'=>
  rw[hrp] at hr
  dsimp only at hr
  unfold rp at hrp
  refine bW (S4 (i:=i) (p:=q) (s:=u) hu hs fun h hs=>?_)
  cases hlo:aY.mU u i with
  |some r=>
   rw[hlo] at hs hrp
   dsimp only at hs hrp
   split at hrp
   ·rename_i e
    cases hrp
    refine aG rfl (aG rfl (bK hs fun p4 h hs=>bA (b:=p4) hs rfl rfl rfl rfl fun h hs=>bU (dI (dY (bW (aR hs fun rr h hs=>aX (aI (by omega) (aN (b:=p4) (o:=0) hs (by decide) (l:=r.2.enc) rfl rfl (lsN hs (iu (aI (by rw[e];simp) ?_)))))))))))
    exact bW (bI (by omega) (ih (k+1) r.1 h (by omega) (Qc hu hlo) hr hs.to))
   ·cases hrp
  |none=>
   rw[hlo] at hs hrp
   dsimp only at hs hrp
   split at hrp
   ·rename_i e
    cases hrp
    refine aG rfl (aG rfl (bK hs fun p4 h hs=>bA (b:=p4) hs rfl rfl rfl rfl fun h hs=>bU (dI (bS (bW (aR hs fun rr h hs=>lsJ (j:=5) (v:=I x.value) hs rfl (lsJ (j:=6) (v:=I x.code) hs rfl (Mu (i:=i) (p:=q) (s:=u) hu hs fun h hs=>?_))))))))
    refine aG rfl (aG rfl (bA (b:=p4) hs rfl rfl rfl rfl fun h hs=>cJ (aG rfl gW) (aR hs fun r2 h hs=>aX (aI (by rw[e.1];simp) (aN (b:=p4) (o:=0) hs (by decide) (l:=(aY.cC u i x.value x.code).2.1.enc) rfl rfl (lsN hs (iu (aI (by rw[e.2];simp) ?_))))))))
    rw[e.1]
    exact bW (bI (by omega) (ih (k+1) _ h (by omega) (Lv hu) hr hs.to))
   ·cases hrp
theorem Wh {p2 c:Nat} {a:Option Addr} {pv wv ov vv:Value} {ps:List (List Ins)} {ws os vs:List Int} (hC:Cf.Ok) (_:Gb G) (hg:Ob G 1 sF) (he:Aw Cf ps ws os vs=0) (ho:A.Vu G pv wv ov vv ps ws os vs) (hA:Mc.Yn Cf (S5 ps ws) N M) (hlog:M.log.length≤1000) (hk:∀h',Q (.bool true) h'):
  ∀(f i:Nat) (h:AH),i+f=Cf.aF.toNat→Hs G h (zU a c M.log::bG G Cf m M::aE p2 0 (H0 Cf pv wv ov vv)::L)→Dd 8 7 [] Q [(pt p2 0 0),(pt m 0 0),(.slice a M.log.length c),(I i)] h:=by
 obtain⟨_,e1,e2,e3,e4,e5,e6,e7⟩:=Dn he
 obtain⟨⟨vi,hv,hpo,hpi⟩,hwo,hoo,hvo⟩:=ho
 have hpc:=A.wF e5
 have hc:=hC.1
 intro f
 induction f with
 |zero=>
  intro i h hi hs
  exact bW (aA (aA (aC (b:=p2) (o:=0) hs rfl (aU (aI (by omega) (jY (hk _)))))))
 |succ f ih=>
  intro i h hi hs
  obtain⟨p,hp,_⟩:=kT (l:=ps) (i:=i) (by omega)
  obtain⟨v,hvi,_⟩:=kT (l:=vi) (i:=i) (by omega)
  obtain⟨w,hwi,_⟩:=kT (l:=ws) (i:=i) (by omega)
  have hic:(i:Int)<Cf.aF:=by omega
  have hwr:=e6 w (List.mem_of_getElem? hwi)
  have hpr:=hpc p (List.mem_of_getElem? hp)
  have eS:S5 ps ws i=pT p w:=by unfold S5;rw[List.getD_eq_getElem?_getD,List.getD_eq_getElem?_getD,hp,hwi];rfl
  refine bW (aA (aA (aC (b:=p2) (o:=0) hs rfl (aU (bM (by omega) (bW (aR hs fun rr h hs=>aA (aC (b:=p2) (o:=0) hs rfl ?_))))))))
  have hs:=A.oF hwo hs
  refine tV hs (x:=[I w]) (by simp[A.Af,hwi]) rfl ?_
  have hs:=hs.tail
  refine aA (aC (b:=p2) (o:=0) hs rfl ?_)
  have hs:=xO (e:=3) (by simp) hpo hs
  refine tV hs (x:=[v]) (by simp[hvi]) rfl ?_
  have hs:=A.F4 (hpi i v p hvi hp) hs.tail
  refine Lf (i:=i) (pr:=p) (w:=w) (by omega) hwr hg hpr hs fun q h hs=>aG rfl (aG rfl (aX (aI (by omega) (cS (bS (bW ?_))))))
  rw[←eS] at hs
  have hsok:(S5 ps ws i).Ok:=Lo he i hic
  refine vn (L:=bG G Cf m M::aE p2 0 (H0 Cf pv wv ov vv)::L) (a:=a) (c:=c) (log:=M.log) (t:=M.aH i) hlog ?_ M.log.length 0 (S5 ps ws i) h (by omega) hsok (by rw[List.drop_zero];exact hA.Xp i hic) hs.to
  intro h hs
  have hSok:=hA.inv.yZ i hic
  refine bW (Rf hC hs fun h hs=>?_)
  unfold cY.core
  rw[if_pos (by omega),Int.toNat_natCast]
  refine aG rfl (aG rfl (bK hs fun p4 h hs=>bA (b:=p4) hs rfl rfl rfl rfl fun h hs=>?_))
  refine Cc (i:=i) (p:=q) (s:=M.aH i) hSok hs fun h hs=>?_
  have hwt:M.waits i=true→∃x,aY.next? (M.aH i)=some x∧x.op=8:=by
   intro hw
   obtain⟨g,hg⟩:=(Dl hC hA.inv.dQ).1 (show M.dQ.calls i=true from hw)
   have:=hA.wait.op g i hg
   rwa [Int.toNat_natCast] at this
  obtain⟨y,b,hyb,hy8⟩:∃(y:Ins) (b:Bool),(if(M.aH i).over then Value.tuple ⟨[.agg ⟨o6.enc⟩,.bool false]⟩ else .tuple ⟨[.agg ⟨(vU (M.aH i).prog (M.aH i).at').enc⟩,.bool true]⟩)= .tuple ⟨[.agg ⟨y.enc⟩,.bool b]⟩∧(M.waits i=true→y.op=8):=by
   cases hov:(M.aH i).over with
   |true=>
    refine⟨o6,false,rfl,fun hw=>?_⟩
    obtain⟨x,hx,_⟩:=hwt hw
    unfold aY.next? at hx
    rw[hov] at hx
    cases hx
   |false=>
    refine⟨_,true,rfl,fun hw=>?_⟩
    obtain⟨x,hx,h8⟩:=hwt hw
    unfold aY.next? at hx
    rw[hov] at hx
    cases hx
    exact h8
  rw[hyb]
  refine aG rfl (aG rfl (bK hs fun p10 h hs=>bA (b:=p10) hs rfl rfl rfl rfl fun h hs=>aR hs fun r2 h hs=>aX (aI (by omega) ?_)))
  refine aN (b:=p4) (o:=0) hs (by decide) (l:=(M.aH i).core) rfl rfl ?_
  obtain⟨a3,c3,hs⟩:=lH (hs.front (iY i q (M.aH i)))
  refine aB (aA (hZ (b:=q) (o:=0) hs (by decide) (l:=(M.aH i).core) rfl rfl (S0 (bS ?_))))
  refine A3 (M:=M) hA.inv.dQ hs fun h hs=>dA (fun hw=>?_) (fun hw=>?_)
  ·refine aA (aC (b:=p10) (o:=0) hs rfl (lu (bU (dI (bM (hy8 hw) (bW (bI (by omega) (ih (i+1) h (by omega) hs.to))))))))
  ·exact bI (by omega) (ih (i+1) h (by omega) hs.to)
theorem Dc {pv wv ov vv lv:Value} {ps:List (List Ins)} {ws os vs:List Int} {l:List Do} (hn:ps.length≤9223372036854775807) (hG:Gb G) (hg:Ob G 1 sF) (hom:A.Vu G pv wv ov vv ps ws os vs) (hd:N2 G lv l) (hs:Hs G h L)
  (hk:∀h',Q (.bool true) h'):Cl Pr K 8 [.agg ⟨H0 Cf pv wv ov vv⟩,lv] h Q:=by
 refine cW (dJ (cs:=H0 Cf pv wv ov vv) hs fun p2 h hs=>aN (b:=p2) (o:=0) hs (by decide) (l:=H0 Cf pv wv ov vv) rfl rfl ?_)
 refine mr hn hom hs (fun hf h hs=>bU (dI (dY ?_))) (fun h hs=>bU (dI (bS (jY (hk _)))))
 refine cu hd (kG (aS (fun _=>jY (hk _)) (fun h4=>bW (aN (b:=p2) (o:=0) hs (by decide) (l:=H0 Cf pv wv ov vv) rfl rfl ?_))))
 refine Yj (Cf:=Cf) (by omega) hG hg hom hs (fun he h hs=>?_) fun he m h hs=>?_
 ·exact aG rfl (aG rfl (aX (bM he (aX (bM he (Gg (dY (jY (hk _)))))))))
 refine aG rfl (aG rfl (aX (aI (by omega) (cS (bS (bW ?_))))))
 obtain⟨hC,_⟩:=Dn he
 refine uh (L:=aE p2 0 (H0 Cf pv wv ov vv)::L) hC hG (by omega) hd ?_ l.length 0 _ h (by omega) (Y3 he) hs
 intro M h hA hlog hs
 refine bW (Hc (Cf:=Cf) (M:=M) (by omega) hs fun a c h hs=>bZ (X4 (Cf:=Cf) (M:=M) hs fun h hs=>aX (aI (by simp) (bW ?_))))
 exact Wh (L:=L) (N:=1000) hC hG hg he hom hA hlog hk Cf.aF.toNat 0 h (by omega) hs.to
end Go.Proofs.YtajjljbmfdboaaaGreatDoor
end
end
