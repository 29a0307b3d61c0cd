/- A part of the proof. -/
import Derived.Test.YtajjljbmfdboaaaGreatDoorP15
import Derived.Test.YtajjljbmfdboaaaGreatDoorP18
import Derived.Test.YtajjljbmfdboaaaGreatDoorP11
section
open Go Go.Ab
attribute [local irreducible] aZ Br oM rI sQ Bi lE tH kU Qb gI lF pD pW oR kH zH tJ W2 Ut Qa Nn T3 P6 Km Lx T2 jR mX rV iO copyV iB vL Va Uo Fm kB Lu Sv Vn nF rH wK zB Cl wX T1 rM qX jI gS cI cA
section
namespace Go.Proofs.YtajjljbmfdboaaaGreatDoor
open Go Go.Ab Go.Hm Go.At Go.Mc Go.Ct Go.Nt Go.Is
def O6 (w:Nat→Bool):List Value:=[.bool (w 0),.bool (w 1),.bool (w 2),.bool (w 3)]
def zW (f:Nat→aY):List Value:=(f 0).core++(f 1).core++(f 2).core++(f 3).core
theorem xI {w:Nat→Bool} {k:Nat} (hk:k<4):(O6 w)[0+k*1]?=some (.bool (w k)):=by
 have:k=0∨k=1∨k=2∨k=3:=by omega
 rcases this with rfl|rfl|rfl|rfl<;>rfl
theorem th {w:Nat→Bool} {k:Nat} {b:Bool} (hk:k<4):dH (O6 w) (0+k*1) [.bool b]=O6 (bT w k b):=by
 have:k=0∨k=1∨k=2∨k=3:=by omega
 rcases this with rfl|rfl|rfl|rfl<;>rfl
theorem Xw {f:Nat→aY} {k:Nat} (hk:k<4):((zW f).drop (0+k*7)).take 7=(f k).core:=by
 have:k=0∨k=1∨k=2∨k=3:=by omega
 rcases this with rfl|rfl|rfl|rfl<;>rfl
theorem qw {f:Nat→aY} {k:Nat} (hk:k<4):(zW f)[0+k*7+4]?=some (I (f k).at'):=by
 have:k=0∨k=1∨k=2∨k=3:=by omega
 rcases this with rfl|rfl|rfl|rfl<;>rfl
theorem I6 {f:Nat→aY} {k:Nat} {s:aY} (hk:k<4):dH (zW f) (0+k*7) s.core=zW (bT f k s):=by
 have:k=0∨k=1∨k=2∨k=3:=by omega
 rcases this with rfl|rfl|rfl|rfl<;>rfl
def r6:aY:=⟨fun _=>0,0,0,false,[]⟩
set_option maxRecDepth 100000
variable {G:Bg} {h:AH} {L L':List HP} {Q:Value→AH→Prop} {Cf:bQ} {m N:Nat} {M M':cY}
theorem Kv {k:Nat} (hC:Cf.Ok) (hkc:(k:Int)<Cf.aF) (hs:Hs G h L) [mm:Has (bG G Cf m) L M L'] (hk:∀h',Hs G h' (bG G Cf m M::L')→Q (.tuple ⟨[.agg ⟨(M.aH k).core⟩,I 0]⟩) h'):Cl Pr K 16 [pt m 0 0,I k] h Q:=by
 refine Rf hC hs fun h hs=>?_
 unfold cY.core
 rw[if_pos (by omega),Int.toNat_natCast]
 exact hk h hs
theorem m4 {t1 t7:Value} {pd pw pc p2:Nat} {dv:List Value} {c0:List Value} (hC:Cf.Ok) (hI:eN Cf N M) (hc0:c0[0]?=some (I Cf.aF))
  (hk:∀w f h',(∀j:Nat,(j:Int)<Cf.aF→w j=M.waits j∧f j=M.aH j)→Hs G h' (aE pw 0 (O6 w)::aE pc 0 (zW f)::aE pd 0 dv::bG G Cf m M::aE p2 0 c0::L)→
   Cl Pr K 19 [pt m 0 0] h' fun v4 h4=>aZ (rI h4 4 (pt pd 0 0)) fun v5=>aZ (lD [(I 0),(I 0),(I 0),(I 0)] [(0,4,v5)]) fun l7=>tH h4 4 23 l7 1 1 fun s8 h6=>
    Cl Pr K 15 [pt m 0 0,s8] h6 fun _ h9=>Cl Pr K 17 [pt m 0 0] h9 fun v10 h10=>Dd 9 8 [] Q [t1,pt p2 0 0,pt m 0 0,t7,pt pd 0 0,pt pw 0 0,pt pc 0 0,v4,v10,I 0] h10):
  ∀(f k:Nat) (w:Nat→Bool) (s:Nat→aY) (h:AH),k+f=Cf.aF.toNat→(∀j,j<k→w j=M.waits j∧s j=M.aH j)→Hs G h (aE pw 0 (O6 w)::aE pc 0 (zW s)::aE pd 0 dv::bG G Cf m M::aE p2 0 c0::L)→
   Dd 9 5 [] Q [t1,pt p2 0 0,pt m 0 0,t7,pt pd 0 0,pt pw 0 0,pt pc 0 0,I k] h:=by
 have hc:=hC.1
 intro f
 induction f with
 |zero=>
  intro k w s h hkf hw hs
  exact bW (aA (aA (aC (b:=p2) (o:=0) hs hc0 (aU (aI (by omega) (hk w s h (fun j hj=>hw j (by omega)) hs))))))
 |succ f ih=>
  intro k w s h hkf hw hs
  have hk4:k<4:=by omega
  refine bW (aA (aA (aC (b:=p2) (o:=0) hs hc0 (aU (bM (by omega) (aU (bM (by omega) (bW ?_))))))))
  refine A3 (M:=M) hI.dQ hs fun h hs=>dF hk4 ?_
  refine bE (b:=pw) (o:=0) (j:=0+k*1) (vs:=[.bool (M.waits k)]) hs rfl (Nat.ble_eq_true_of_le (by show _≤4;omega)) rfl rfl fun h hs=>?_
  rw[th hk4] at hs
  refine Kv (M:=M) (k:=k) hC (by omega) hs fun h hs=>aG rfl (aG rfl (dF hk4 ?_))
  refine bE (b:=pc) (o:=0) (j:=0+k*7) (vs:=(M.aH k).core) hs rfl (Nat.ble_eq_true_of_le (by show _≤28;show 0+k*7+7≤28;omega)) rfl rfl fun h hs=>?_
  rw[I6 hk4] at hs
  refine bI (by omega) (ih (k+1) (bT w k (M.waits k)) (bT s k (M.aH k)) h (by omega) (fun j hj=>?_) hs.to)
  unfold bT
  by_cases e:j=k
  ·subst e;rw[if_pos rfl,if_pos rfl];exact⟨rfl,rfl⟩
  ·rw[if_neg e,if_neg e];exact hw j (by omega)
theorem Lh {s:aY} {k:Value→Prop} (hk:k (.bool false)) {c0:Bool} (hc:c0=true:=by kernel_rfl):Lx c0 [0,0,0,0,0,0,1] .neq (.agg ⟨s.core⟩) (.agg ⟨s.core⟩) k:=S0 hk hc
theorem bt {t1:Value} {i pd pw pc p2 cl:Nat} {al:Option Addr} {d:Do} {w:Nat→Bool} {s:Nat→aY} {c0:List Value} (hC:Cf.Ok) (hI:eN Cf N M') (hw:∀j:Nat,(j:Int)<Cf.aF→w j=M.waits j∧s j=M.aH j) (ho:∀j:Nat,aBy d M M' j) (hi:i≤200) (hlog:M.log.length≤1000) (hc0:c0[0]?=some (I Cf.aF))
  (hk:∀h',Hs G h' (bG G Cf m M'::aE p2 0 c0::L)→Dd 9 3 [] Q [t1,pt p2 0 0,pt m 0 0,I ((i:Int)+1)] h'):
  ∀(f k:Nat) (h:AH),k+f=Cf.aF.toNat→Hs G h (zU al cl M'.log::aE pw 0 (O6 w)::aE pc 0 (zW s)::aE pd 0 d.enc::bG G Cf m M'::aE p2 0 c0::L)→
   Dd 9 8 [] Q [t1,pt p2 0 0,pt m 0 0,I i,pt pd 0 0,pt pw 0 0,pt pc 0 0,I M.log.length,.slice al M'.log.length cl,I k] h:=by
 have hc:=hC.1
 intro f
 induction f with
 |zero=>
  intro k h hkf hs
  exact bW (aA (aA (aC (b:=p2) (o:=0) hs hc0 (aU (aI (by omega) (bI (by omega) (hk h hs.to)))))))
 |succ f ih=>
  intro k h hkf hs
  have hk4:k<4:=by omega
  obtain⟨ew,es⟩:=hw k (by omega)
  refine bW (aA (aA (aC (b:=p2) (o:=0) hs hc0 (aU (bM (by omega) (aU (bM (by omega) (bW ?_))))))))
  refine Kv (M:=M') (k:=k) hC (by omega) hs fun h hs=>aG rfl (aG rfl (bK hs fun p4 h hs=>bA (b:=p4) hs rfl rfl rfl rfl fun h hs=>?_))
  have next:∀{h':AH} {L2:List HP},Hs G h' L2→[sb:Ab.Sub L2 (zU al cl M'.log::aE pw 0 (O6 w)::aE pc 0 (zW s)::aE pd 0 d.enc::bG G Cf m M'::aE p2 0 c0::L)]→Dd 9 8 [] Q [t1,pt p2 0 0,pt m 0 0,I i,pt pd 0 0,pt pw 0 0,pt pc 0 0,I M.log.length,.slice al M'.log.length cl,I ((k:Int)+1)] h':=fun hs'=>ih (k+1) _ (by omega) hs'.to
  refine A3 (M:=M') hI.dQ hs fun h hs=>aR hs fun r8 h hs=>dF hk4 (aC (b:=pw) (o:=0) hs (xI hk4) ?_)
  rw[ew]
  cases a:M.waits (k:Int) with
  |true=>
   rw[a] at ew
   cases b:M'.waits (k:Int) with
   |true=>
    have e:=(ho k).tt a b
    refine dY (dY (aN (b:=p4) (o:=0) hs (by decide) (l:=(M'.aH k).core) rfl rfl (dF hk4 (aN (b:=pc) (o:=0) hs (by decide) (l:=(M'.aH k).core) (by rw[Xw hk4,es,e]) rfl (Lh (bS ?_))))))
    refine dF hk4 (aC (b:=pw) (o:=0) hs (xI hk4) ?_)
    rw[ew]
    refine bU (dI (dY ?_))
    refine aR hs fun r9 h hs=>dF hk4 (aC (b:=pw) (o:=0) hs (xI hk4) ?_)
    rw[ew]
    exact dY (bU (dI (dY (bI (by omega) (next hs)))))
   |false=>
    obtain⟨hd,v,hl,hvc,hv8,hv0,hat⟩:=(ho k).tf a b
    refine dY (bS ?_)
    refine dF hk4 (aC (b:=pw) (o:=0) hs (xI hk4) ?_)
    rw[ew]
    refine bU (dI (dY ?_))
    refine aR hs fun r9 h hs=>dF hk4 (aC (b:=pw) (o:=0) hs (xI hk4) ?_)
    rw[ew]
    refine dY (bU (dI (bS ?_)))
    have hv:M'.log[((M.log.length:Nat):Int).toNat]?=some v:=by rw[hl,Int.toNat_natCast];simp
    refine aA (aC (b:=pd) (o:=0) hs (v:=I d.kE) rfl (aX (aI (by omega) (bZ (bI (by omega) (aX (aI (by rw[hl];simp) ?_)))))))
    refine J6 (l:=M'.log) (a:=al) (c:=cl) (enc:=Ev.enc) (e:=80) hs (by omega) hv (j:=0) (u:=I v.core) rfl (aX (aI (by omega) ?_))
    refine J6 (l:=M'.log) (a:=al) (c:=cl) (enc:=Ev.enc) (e:=80) hs (by omega) hv (j:=2) (u:=I v.op) rfl (aX (aI (by omega) ?_))
    refine J6 (l:=M'.log) (a:=al) (c:=cl) (enc:=Ev.enc) (e:=80) hs (by omega) hv (j:=6) (u:=I v.code) rfl (aX (aI (by omega) ?_))
    have hsk:=(hI.yZ k (by omega)).2.1
    refine aA (aC (b:=p4) (o:=0) hs (v:=I (M'.aH k).at') rfl (dF hk4 (aA (aC (b:=pc) (o:=0) hs (v:=I (s k).at') (qw hk4) ?_))))
    rw[es]
    have h0:=(hI.yZ k (by omega)).1
    exact bI (by omega) (aX (aI (by omega) (bW (bI (by omega) (next hs)))))
  |false=>
   rw[a] at ew
   refine bS ?_
   refine dF hk4 (aC (b:=pw) (o:=0) hs (xI hk4) ?_)
   rw[ew]
   refine bU (dI (bS ?_))
   cases b:M'.waits (k:Int) with
   |true=>
    obtain⟨hd,hda,e⟩:=(ho k).ft a b
    refine dY (aA (aC (b:=pd) (o:=0) hs (v:=I d.kE) rfl (aX (aI (by omega) (aA (aC (b:=pd) (o:=0) hs (v:=I d.a) rfl (aX (aI (by omega) ?_))))))))
    refine aN (b:=p4) (o:=0) hs (by decide) (l:=(M'.aH k).core) rfl rfl (dF hk4 (aN (b:=pc) (o:=0) hs (by decide) (l:=(M'.aH k).core) (by rw[Xw hk4,es,e]) rfl (Lh (bS (bW ?_)))))
    refine aR hs fun r9 h hs=>dF hk4 (aC (b:=pw) (o:=0) hs (xI hk4) ?_)
    rw[ew]
    exact bS (bI (by omega) (next hs))
   |false=>
    refine bS ?_
    refine aR hs fun r9 h hs=>dF hk4 (aC (b:=pw) (o:=0) hs (xI hk4) ?_)
    rw[ew]
    exact bS (bI (by omega) (next hs))
theorem na {S:Nat→aY} {lv:Value} {p2:Nat} {c0:List Value} {l:List Do} (hC:Cf.Ok) (hG:Gb G) (hl:l.length≤200) (hd:N2 G lv l) (hc0:c0[0]?=some (I Cf.aF)) (hk:∀h',Q (.bool true) h'):
  ∀(f i:Nat) (M:cY) (h:AH),i+f=l.length→Mc.Yn Cf S (2*i) M→Hs G h (bG G Cf m M::aE p2 0 c0::L)→Dd 9 3 [] Q [lv,pt p2 0 0,(pt m 0 0),(I i)] h:=by
 intro f
 induction f with
 |zero=>
  intro i M h hi hA hs
  exact bW (cu hd (aU (aI (by omega) (jY (hk _)))))
 |succ f ih=>
  intro i M h hi hA hs
  obtain⟨d,hx,_⟩:=kT (l:=l) (i:=i) (by omega)
  have hlog:=hA.len
  have hI':=hA.Fj (d:=d) hC
  have hs:=Xn hd hs
  refine bW (cu hd (aU (bM (by omega) (bW (vk hs (by decide) (Wt hx) (bK hs.tail fun pd h hs=>bA (b:=pd) hs rfl rfl rfl rfl fun h hs=>bK hs fun pw h hs=>bK hs fun pc h hs=>?_))))))
  have hs:Hs G h (aE pc 0 (zW fun _=>r6)::aE pw 0 (O6 fun _=>false)::aE pd 0 d.enc::bG G Cf m M::aE p2 0 c0::L):=hs
  have hs:=hs.perm (List.Perm.swap _ _ _)
  refine m4 (M:=M) (dv:=d.enc) (c0:=c0) hC hA.inv hc0 (fun w s h hw hs=>?_) Cf.aF.toNat 0 _ _ h (by omega) (fun j hj=>by omega) hs
  refine X4 (Cf:=Cf) (M:=M) hs fun h hs=>?_
  refine aN (b:=pd) (o:=0) hs (by decide) (l:=d.enc) rfl rfl (aK (c:=d.enc) rfl (dP (W:=4) (n:=1) (c:=1) hs rfl rfl rfl fun a h hs=>?_))
  refine ra (d:=d) (M:=M) (L:=aE pw 0 (O6 w)::aE pc 0 (zW s)::aE pd 0 d.enc::aE p2 0 c0::L) hC hG hA.inv (by omega) hs.to fun h hs=>?_
  refine Hc (Cf:=Cf) (M:=(M.Fj Cf d).1) (by have:=hI'.len;omega) hs fun al cl h hs=>?_
  exact bt (M:=M) (M':=(M.Fj Cf d).1) (L:=L) hC hI'.inv hw (fun j=>(Xt (d:=d) hC hA.inv hA.wait).aDw hC hA.inv hI'.inv hA.wait j) (by omega) (by omega) hc0 (fun h hs=>ih (i+1) _ h (by omega) hI' hs) Cf.aF.toNat 0 h (by omega) hs.to
theorem Fk {pv wv ov vv lv:Value} {ps:List (List Ins)} {ws os vs:List Int} {l:List Do} (hn:ps.length≤9223372036854775807) (hG:Gb G) (hg:Ob G 1 sF) (hom:A.Vu G pv wv ov vv ps ws os vs) (hd:N2 G lv l) (hs:Hs G h L)
  (hk:∀h',Q (.bool true) h'):Cl Pr K 9 [.agg ⟨H0 Cf pv wv ov vv⟩,lv] h Q:=by
 refine cW (dJ (cs:=H0 Cf pv wv ov vv) hs fun p2 h hs=>aN (b:=p2) (o:=0) hs (by decide) (l:=H0 Cf pv wv ov vv) rfl rfl ?_)
 refine mr hn hom hs (fun hf h hs=>bU (dI (dY ?_))) (fun h hs=>bU (dI (bS (jY (hk _)))))
 refine cu hd (kG (aS (fun _=>jY (hk _)) (fun h4=>bW (aN (b:=p2) (o:=0) hs (by decide) (l:=H0 Cf pv wv ov vv) rfl rfl ?_))))
 refine Yj (Cf:=Cf) (by omega) hG hg hom hs (fun he h hs=>?_) fun he m h hs=>?_
 ·exact aG rfl (aG rfl (aX (bM he (aX (bM he (Gg (dY (jY (hk _)))))))))
 refine aG rfl (aG rfl (aX (aI (by omega) (cS (bS (bW ?_))))))
 obtain⟨hC,_⟩:=Dn he
 exact na (c0:=H0 Cf pv wv ov vv) (L:=L) hC hG (by omega) hd rfl hk l.length 0 _ h (by omega) (Y3 he) hs
end Go.Proofs.YtajjljbmfdboaaaGreatDoor
end
end
