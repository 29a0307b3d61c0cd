/- A part of the proof. -/
import Derived.Test.YtajjljbmfdboaaaGreatDoorP21
import Derived.Test.YtajjljbmfdboaaaGreatDoorP22
import Derived.Test.YtajjljbmfdboaaaGreatDoorP15
import Derived.Test.YtajjljbmfdboaaaGreatDoorP16
import Derived.Test.YtajjljbmfdboaaaGreatDoorP10
section
namespace Go.Proofs.YtajjljbmfdboaaaGreatDoor
open Go Go.Ab Go.Hm Go.Is Go.At Go.Mc Go.RowKit
noncomputable def K25:FuncId→List Value→Option gX:=fc K0 25 (.bool true)
theorem aEv:K=K25:=rfl
noncomputable def aDy (B:Nat) (hB:4≤B):Ctx Pr B K:=by rw[aEv];exact(zq B hB).add 25 (.bool true) rfl fun _ hg=>ji Tl hg
theorem aCn:_root_.Go.Proofs.YtajjljbmfdboaaaGreatDoor.fB=Go.Hm.fB:=by kernel_rfl
theorem aBw:_root_.Go.Proofs.YtajjljbmfdboaaaGreatDoor.sF=Go.Is.sF:=by kernel_rfl
theorem aBn:_root_.Go.Proofs.YtajjljbmfdboaaaGreatDoor.jt=Go.Nt.tZ:=by kernel_rfl
theorem aD0:_root_.Go.Proofs.YtajjljbmfdboaaaGreatDoor.oh=Go.Ct.gZ:=by kernel_rfl
abbrev i7:List (Option IntKind):=[some .i64,some .i64,some .i64,some .i64,some .i64,some .i64,some .i64]
abbrev i4:List (Option IntKind):=[some .i64,some .i64,some .i64,some .i64]
abbrev i1:List (Option IntKind):=[some .i64]
theorem su:pR Tryz.prog 8 58=some i7:=by kernel_rfl
theorem um:pR Tryz.prog 8 86=some i4:=by kernel_rfl
theorem Ou:pR Tryz.prog 8 3=some i1:=by kernel_rfl
theorem ng:Tryz.prog.cellsOf 86=i4.length:=by kernel_rfl
theorem Gv:Tryz.prog.cellsOf 3=i1.length:=by kernel_rfl
theorem im:Tryz.prog.cellsOf 58=7:=by kernel_rfl
theorem No:Tryz.prog.cellsOf 60=1:=by kernel_rfl
theorem jq:Tryz.prog.cellsOf 78=1:=by kernel_rfl
theorem o8:Tryz.prog.cellsOf 59=1:=by kernel_rfl
theorem dh:Tryz.prog.cellsOf 62=11:=by kernel_rfl
theorem nz {l:List Value} (h0:Flat i7 l):∃a b c d e f g:Int,l=[I a,I b,I c,I d,I e,I f,I g]:=by
 obtain⟨a,l1,e1,h1⟩:=gE h0
 obtain⟨b,l2,e2,h2⟩:=gE h1
 obtain⟨c,l3,e3,h3⟩:=gE h2
 obtain⟨d,l4,e4,h4⟩:=gE h3
 obtain⟨e,l5,e5,h5⟩:=gE h4
 obtain⟨f,l6,e6,h6⟩:=gE h5
 obtain⟨g,l7,e7,h7⟩:=gE h6
 have e8:=Bu h7
 subst e8 e7 e6 e5 e4 e3 e2 e1
 exact⟨a,b,c,d,e,f,g,rfl⟩
theorem wo {l:List Value} (h0:Flat i4 l):∃x:Ins,l=x.enc∧True:=by
 obtain⟨a,l1,e1,h1⟩:=gE h0
 obtain⟨b,l2,e2,h2⟩:=gE h1
 obtain⟨c,l3,e3,h3⟩:=gE h2
 obtain⟨d,l4,e4,h4⟩:=gE h3
 have e5:=Bu h4
 subst e5 e4 e3 e2 e1
 exact⟨⟨a,b,c,d⟩,rfl,trivial⟩
theorem y6 {l:List Value} (h0:Flat i1 l):∃x:Int,l=[I x]∧True:=by
 obtain⟨a,l1,e1,h1⟩:=gE h0
 have e2:=Bu h1
 subst e2 e1
 exact⟨a,rfl,trivial⟩
theorem y8 {l:List Value} (h:l.length=11) {a b c d:Value} (h7:l[7]?=some a) (h8:l[8]?=some b) (h9:l[9]?=some c) (h10:l[10]?=some d):l=l.take 7++[a,b,c,d]:=by
 apply List.ext_getElem?
 intro i
 by_cases hi:i<7
 ·rw[List.getElem?_append_left (by simp;omega),List.getElem?_take_of_lt hi]
 ·rw[List.getElem?_append_right (by simp;omega)]
  have e:(l.take 7).length=7:=by simp;omega
  rw[e]
  by_cases h11:i<11
  ·have:i=7∨i=8∨i=9∨i=10:=by omega
   rcases this with rfl|rfl|rfl|rfl
   ·exact h7
   ·exact h8
   ·exact h9
   ·exact h10
  ·rw[List.getElem?_eq_none (by omega),List.getElem?_eq_none (by simp;omega)]
set_option maxRecDepth 100000 in
theorem Kz {H:Type} {enc:TypeId×Value→H} {W:World} {base:Nat} {v:Value} {d:DataW H} {p:List MemPlace} (hok:Value.okWide Tryz.prog W .any base 62 v) (h:DataW.Trod enc Tryz.prog W 0 (fun _=>true) true 62 v d p):
  ∃(C:bQ) (aP:Option Addr) (lP cP:Nat) (aW:Option Addr) (lW cW:Nat) (aO:Option Addr) (lO cO:Nat) (aV:Option Addr) (lV cV:Nat),v= .agg ⟨C.enc++[.slice aP lP cP,.slice aW lW cW,.slice aO lO cO,.slice aV lV cV]⟩∧lP≤maxLen∧B9 i4 W aP lP cP∧iF i1 W aW lW cW∧iF i1 W aO lO cO∧iF i1 W aV lV cV:=by
 have hu:=Tryz.underlying62
 obtain⟨l,rfl,hl⟩:=j8 hu hok
 rw[dh] at hl
 have h0:=G1 (i:=0) (n:=8) hu rfl su h
 obtain⟨aP,lP,cP,h7,hm,hP⟩:=Jd (i:=1) (n:=8) hu rfl Tryz.underlying59 Tryz.underlying78 o8 jq um ng (by decide) h
 obtain⟨aW,lW,cW,h8,hW⟩:=sP (i:=2) (n:=8) hu rfl Tryz.underlying60 No Ou Gv (by decide) h
 obtain⟨aO,lO,cO,h9,hO⟩:=sP (i:=3) (n:=8) hu rfl Tryz.underlying60 No Ou Gv (by decide) h
 obtain⟨aV,lV,cV,h10,hV⟩:=sP (i:=4) (n:=8) hu rfl Tryz.underlying60 No Ou Gv (by decide) h
 have e:=y8 hl h7 h8 h9 h10
 have h0:Flat i7 ((l.drop 0).take (Tryz.prog.cellsOf 58)):=h0
 rw[im,List.drop_zero] at h0
 obtain⟨a,b,c,d',e',f,g,h0e⟩:=nz h0
 rw[h0e] at e
 exact⟨⟨a,b,c,d',e',f,g⟩,aP,lP,cP,aW,lW,cW,aO,lO,cO,aV,lV,cV,by rw[e];rfl,hm,hP,hW,hO,hV⟩
theorem Pw {_G:Bg} {_W:World} {_v:Value} {n:Nat} {at':Nat→List Value} (hf:∀i,i<n→Flat i1 (at' i)):∃l:List Int,l.length=n∧∀G v,rL G 1 v n at'→A.F0 G v l:=by
 obtain⟨l,hl,_,k⟩:=Ah (W:=1) (f:=fun x:Int=>[I x]) (R:=fun _=>True) (fun i hi=>y6 (hf i hi))
 exact⟨l,hl,fun G v ho=>k G v ho⟩
theorem wj {n:Nat} {at':Nat→List Value} (hf:∀i,i<n→Flat i4 (at' i)):∃l:List Ins,l.length=n∧∀G v,rL G 4 v n at'→A.S9 G v l:=by
 obtain⟨l,hl,_,k⟩:=Ah (W:=4) (f:=Ins.enc) (R:=fun _=>True) (fun i hi=>wo (hf i hi))
 exact⟨l,hl,fun G v ho=>k G v ho⟩
theorem qh {k0:Nat} {W:World} {a:Option Addr} {len cap:Nat} {r:OB} {rs:List OB} {t:Nat→Value} {vs:List Value} {ns:List Nat} {at':Nat→Nat→List Value} (hn:aBp Pr W i4 k0 a len cap r rs t vs ns at'):
  ∃ps:List (List Ins),ps.length=len∧∀(G:Bg) k,k<G.base→G.old k=r.1→(∀i x,rs[i]?=some x→k0+i<G.base∧G.old (k0+i)=x.1)→
   ∃vi:List Value,vi.length=ps.length∧rL G 1 (t k) (vi.map fun x=>[x]).length (fun i=>(vi.map fun x=>[x]).getD i [])∧∀(i:Nat) (v:Value) (p:List Ins),vi[i]?=some v→ps[i]?=some p→A.S9 G v p:=by
 have hch:∀i,∃l:List Ins,∀n,ns[i]?=some n→∀G v,rL G 4 v n (at' i)→A.S9 G v l:=fun i=>by
  cases h:ns[i]? with
  |none=>exact⟨[],fun n hn=>by cases hn⟩
  |some n=>
   obtain⟨l,_,k⟩:=wj (hn.flat i n h)
   exact⟨l,fun n' hn'=>by cases hn';exact k⟩
 refine⟨(List.range len).map fun i=>(hch i).choose,by simp,fun G k hk hg hall=>?_⟩
 obtain⟨o1,_,o2⟩:=hn.old G k hk hg hall
 refine⟨vs,by simp[hn.lvs],?_,fun i v p hv hp=>?_⟩
 ·rw[List.length_map,hn.lvs]
  obtain⟨a,c,e,hh⟩:=o1
  refine⟨a,c,e,fun i hi=>?_⟩
  obtain⟨b,o,cells,h1,h2,h3,h4⟩:=hh i hi
  refine⟨b,o,cells,h1,h2,h3.trans ?_,h4⟩
  have hi':i<vs.length:=by rw[hn.lvs];exact hi
  simp[List.getD_eq_getElem?_getD,List.getElem?_eq_getElem hi']
 ·have hil:i<len:=by have:=(List.getElem?_eq_some_iff.1 hv).1;rw[hn.lvs] at this;exact this
  have hp':p=(hch i).choose:=by
   rw[List.getElem?_map,List.getElem?_range hil] at hp
   simpa using hp.symm
  subst hp'
  have hni:ns[i]?=some (ns[i]'(by rw[hn.mI];exact hil)):=List.getElem?_eq_getElem _
  exact(hch i).choose_spec _ hni G v (o2 i v _ hv hni).1
theorem Yr:Tryz.prog.cellsOf 23=i4.length:=by kernel_rfl
theorem zm {l:List Value} (h0:Flat i4 l):∃x:Do,l=x.enc∧True:=by
 obtain⟨a,b,c,d,rfl⟩:=aDh h0
 exact⟨⟨a,b,c,d⟩,rfl,trivial⟩
theorem Yx {n:Nat} {at':Nat→List Value} (hf:∀i,i<n→Flat i4 (at' i)):∃l:List Do,l.length=n∧∀G v,rL G 4 v n at'→N2 G v l:=by
 obtain⟨l,hl,_,k⟩:=Ah (W:=4) (f:=Do.enc) (R:=fun _=>True) (fun i hi=>zm (hf i hi))
 exact⟨l,hl,fun G v ho=>k G v ho⟩
theorem Tx {ks:List (Option IntKind)} {W:World}:iF ks W none 0 0:= .inl ⟨rfl,rfl,rfl⟩
theorem H4 {W:World} (hL:Gl W) {C:bQ} {aP aW aO aV aL aM:Option Addr} {lP cP lW cW lO cO lV cV lL cL lM cM:Nat} (hm:lP≤maxLen) (hP:B9 i4 W aP lP cP) (hW:iF i1 W aW lW cW) (hO:iF i1 W aO lO cO) (hV:iF i1 W aV lV cV) (hE:iF i4 W aL lL cL) (hF:iF i4 W aM lM cM) {f:FuncId}
  (mk:Value→Value→Value→List Value) (hmk:∀ρ c c' d d' e e',aD ρ c c'→aD ρ d d'→aD ρ e e'→aT ρ (mk c d e) (mk c' d' e'))
  (hok:∀(G:Bg) (h:AH) (pv wv ov vv lv nv:Value) (ps:List (List Ins)) (ws os vs:List Int) (l n:List Do),ps.length≤9223372036854775807→Gb G→Ob G 1 Go.Is.sF→A.Vu G pv wv ov vv ps ws os vs→N2 G lv l→N2 G nv n→Hs G h []→Cl Pr K f (mk (.agg ⟨H0 C pv wv ov vv⟩) lv nv) h fun v _=>v= .bool true):
  Calls Pr f ⟨mk (.agg ⟨C.enc++[.slice aP lP cP,.slice aW lW cW,.slice aO lO cO,.slice aV lV cV]⟩) (.slice aL lL cL) (.slice aM lM cM)⟩ W fun e W'=>e= .returned (.bool true)∧Below W.heap.size W W':=by
 obtain⟨rw',tw,bw,vw,atw,fw,ow⟩:=tD Pr hW
 obtain⟨ro,to,bo,vo,ato,fo,oo⟩:=tD Pr hO
 obtain⟨rv,tv,bv,vv',atv,fv,ov'⟩:=tD Pr hV
 obtain⟨rl,tl,bl,vl,atl,fl,ol⟩:=tD Pr hE
 obtain⟨rm,tm,bm,vm,atm,fm,om⟩:=tD Pr hF
 obtain⟨rp,rs,tp,vs,ns,atp,hn⟩:=gu Pr 10 hP
 obtain⟨lws,hws,kw⟩:=Pw (_G:=⟨0,fun _=>none⟩) (_W:=W) (_v:=undef) fw
 obtain⟨los,hos,ko⟩:=Pw (_G:=⟨0,fun _=>none⟩) (_W:=W) (_v:=undef) fo
 obtain⟨lvs,hvs,kv⟩:=Pw (_G:=⟨0,fun _=>none⟩) (_W:=W) (_v:=undef) fv
 obtain⟨le,hle,ke⟩:=Yx fl
 obtain⟨lf,hlf,kf⟩:=Yx fm
 obtain⟨ps,hps,kp⟩:=qh hn
 have hL':=hL
 have h4:=Pd hL
 obtain⟨⟨e0,z0,h0⟩,⟨e1,z1,h1⟩,⟨e2,z2,h2⟩,⟨e3,z3,h3⟩⟩:=hL
 let R:List OB:=rw'::ro::rv::rl::rm::rp::rs
 have hR:∀i x,rs[i]?=some x→R[6+i]?=some x:=fun i x hx=>by
  rw[Nat.add_comm]
  exact hx
 have reads:Reads Pr (4+R.length) (vI 4 (ud e0 z0 e1 z1 e2 z2 e3 z3) R) (pU 4 R) W:=Zm (by rw[Sd];exact Nat.le_refl _) h4 (gz h0 h1 h2 h3) (fun x hx=>by
  rcases List.mem_cons.1 hx with rfl|hx
  ·exact bw.at' _
  rcases List.mem_cons.1 hx with rfl|hx
  ·exact bo.at' _
  rcases List.mem_cons.1 hx with rfl|hx
  ·exact bv.at' _
  rcases List.mem_cons.1 hx with rfl|hx
  ·exact bl.at' _
  rcases List.mem_cons.1 hx with rfl|hx
  ·exact bm.at' _
  rcases List.mem_cons.1 hx with rfl|hx
  ·exact hn.out _ fun i y hy=>by
    have:=qK (g:=4) (hR i y hy)
    rwa [show 4+(6+i)=10+i by omega] at this
  ·exact(hn.ok x hx).at' _)
 have hlen:R.length=6+rs.length:=by show rs.length+1+1+1+1+1+1=_;omega
 let G:Bg:=⟨4+R.length,vI 4 (ud e0 z0 e1 z1 e2 z2 e3 z3) R⟩
 have og:∀i x,R[i]?=some x→4+i<G.base∧G.old (4+i)=x.1:=fun i x hx=>⟨by have:=(List.getElem?_eq_some_iff.1 hx).1;show 4+i<4+R.length;omega,q7 hx⟩
 have gw:=og 0 rw' rfl
 have go:=og 1 ro rfl
 have gv:=og 2 rv rfl
 have gl:=og 3 rl rfl
 have gm:=og 4 rm rfl
 have gp:=og 5 rp rfl
 obtain⟨vi,hvi,hpo,hpi⟩:=kp G 9 gp.1 gp.2 (fun i x hx=>by
  have:=og (6+i) x (hR i x hx)
  rwa [show 4+(6+i)=10+i by omega] at this)
 have gb:∀(b:Nat) (l:List Value) (e:TypeId) (z:Nat×Nat),b<4→ud e0 z0 e1 z1 e2 z2 e3 z3 b=some (.cells l e z true)→Ob G b l:=fun b l e z hb hg=>⟨by show b<4+R.length;omega,e,z,true,(ic (g:=4) (i:=b) (gl:=ud e0 z0 e1 z1 e2 z2 e3 z3) (rs:=R) hb).trans hg⟩
 have ok:=hok G (Go.Ab.start G.base G.old) (tp 9) (tw 4) (to 5) (tv 6) (tl 7) (tm 8) ps lws los lvs le lf (by rw[hps];unfold maxLen at hm;omega)
  ⟨by first|exact gb 0 _ e0 z0 (by omega) rfl|(rw[←aCn];exact gb 0 _ e0 z0 (by omega) rfl),by first|exact gb 2 _ e2 z2 (by omega) rfl|(rw[←aBn];exact gb 2 _ e2 z2 (by omega) rfl),by first|exact gb 3 _ e3 z3 (by omega) rfl|(rw[←aD0];exact gb 3 _ e3 z3 (by omega) rfl)⟩ (by first|exact gb 1 _ e1 z1 (by omega) rfl|(rw[←aBw];exact gb 1 _ e1 z1 (by omega) rfl))
  ⟨⟨vi,hvi,hpo,hpi⟩,kw G _ (ow G 4 gw.1 gw.2).1,ko G _ (oo G 5 go.1 go.2).1,kv G _ (ov' G 6 gv.1 gv.2).1⟩ (ke G _ (ol G 7 gl.1 gl.2).1) (kf G _ (om G 8 gm.1 gm.2).1) q9
 have hrel:aT (pU 4 R) (mk (.agg ⟨H0 C (tp 9) (tw 4) (to 5) (tv 6)⟩) (tl 7) (tm 8)) (mk (.agg ⟨C.enc++[.slice aP lP cP,.slice aW lW cW,.slice aO lO cO,.slice aV lV cV]⟩) (.slice aL lL cL) (.slice aM lM cM)):=by
  refine hmk _ _ _ _ _ _ _ ?_ (vl _ 7 (qK (g:=4) (i:=3) (rs:=R) rfl)) (vm _ 8 (qK (g:=4) (i:=4) (rs:=R) rfl))
  simp only[aD]
  exact⟨_,aT.append (nT _ (by rfl)) (aT.cons (hn.rel _ 9 (qK (g:=4) (i:=5) (rs:=R) rfl)) (aT.cons (vw _ 4 (qK (g:=4) (i:=0) (rs:=R) rfl)) (aT.cons (vo _ 5 (qK (g:=4) (i:=1) (rs:=R) rfl)) (aT.cons (vv' _ 6 (qK (g:=4) (i:=2) (rs:=R) rfl)) aT.nil)))),rfl⟩
 have:=Hk (aDy W.heap.size h4) hL' reads hrel ok
 intro cs
 obtain⟨e,w',fr,⟨ρ',o,h',v',he,hv',hq,_,hb⟩,hx⟩:=this cs
 rw[hq] at hv'
 simp only[aD] at hv'
 exact⟨e,w',fr,⟨by rw[he,hv'],hb⟩,hx⟩
end Go.Proofs.YtajjljbmfdboaaaGreatDoor
end
