/- FairFew: for every input the law answers true, and each argument reads afterwards as it read before. No condition but the listed variables' text. -/
import Derived.Test.YtajjljbmfdboaaaGreatDoorF19
import Derived.Test.YtajjljbmfdboaaaGreatDoorF17
import Derived.Test.YtajjljbmfdboaaaGreatDoorF10
section
namespace Go.Proofs.YtajjljbmfdboaaaGreatDoor
open Go Go.Ab Go.Hm Go.Is Go.At Go.Mc Go.RowKit
noncomputable def K25:FuncId→List Value→Option hJ:=gh K0 29 (.bool true)
theorem aFr:K=K25:=rfl
noncomputable def aFk (B:Nat) (hB:4≤B):Ctx Pr B K:=by rw[aFr];exact(zo B hB).add 29 (.bool true) rfl fun _ hg=>mg Rc hg
theorem aDz:_root_.Go.Proofs.YtajjljbmfdboaaaGreatDoor.fB=Go.Hm.fB:=by kernel_rfl
theorem aDc:_root_.Go.Proofs.YtajjljbmfdboaaaGreatDoor.tU=Go.Is.tU:=by kernel_rfl
theorem aCo:_root_.Go.Proofs.YtajjljbmfdboaaaGreatDoor.nu=Go.Nt.uY:=by kernel_rfl
theorem aD4:_root_.Go.Proofs.YtajjljbmfdboaaaGreatDoor.jb=Go.Ct.hM:=by kernel_rfl
abbrev i7:List (Option IntKind):=[some .i64,some .i64,some .i64,some .i64,some .i64,some .i64,some .i64]
abbrev i4:List (Option IntKind):=[some .i64,some .i64,some .i64,some .i64]
abbrev i1:List (Option IntKind):=[some .i64]
theorem yd:qC Tryz.prog 8 58=some i7:=by kernel_rfl
theorem x8:qC Tryz.prog 8 86=some i4:=by kernel_rfl
theorem O5:qC Tryz.prog 8 3=some i1:=by kernel_rfl
theorem qp:Tryz.prog.cellsOf 86=i4.length:=by kernel_rfl
theorem Ht:Tryz.prog.cellsOf 3=i1.length:=by kernel_rfl
theorem j1:Tryz.prog.cellsOf 58=7:=by kernel_rfl
theorem My:Tryz.prog.cellsOf 60=1:=by kernel_rfl
theorem jc:Tryz.prog.cellsOf 78=1:=by kernel_rfl
theorem m6:Tryz.prog.cellsOf 59=1:=by kernel_rfl
theorem av:Tryz.prog.cellsOf 62=11:=by kernel_rfl
theorem ij {l:List Value} (h0:Flat i7 l):∃a b c d e f g:Int,l=[I a,I b,I c,I d,I e,I f,I g]:=by
 obtain⟨a,l1,e1,h1⟩:=gJ h0
 obtain⟨b,l2,e2,h2⟩:=gJ h1
 obtain⟨c,l3,e3,h3⟩:=gJ h2
 obtain⟨d,l4,e4,h4⟩:=gJ h3
 obtain⟨e,l5,e5,h5⟩:=gJ h4
 obtain⟨f,l6,e6,h6⟩:=gJ h5
 obtain⟨g,l7,e7,h7⟩:=gJ h6
 have e8:=B0 h7
 subst e8 e7 e6 e5 e4 e3 e2 e1
 exact⟨a,b,c,d,e,f,g,rfl⟩
theorem vx {l:List Value} (h0:Flat i4 l):∃x:Ins,l=x.enc∧True:=by
 obtain⟨a,l1,e1,h1⟩:=gJ h0
 obtain⟨b,l2,e2,h2⟩:=gJ h1
 obtain⟨c,l3,e3,h3⟩:=gJ h2
 obtain⟨d,l4,e4,h4⟩:=gJ h3
 have e5:=B0 h4
 subst e5 e4 e3 e2 e1
 exact⟨⟨a,b,c,d⟩,rfl,trivial⟩
theorem zc {l:List Value} (h0:Flat i1 l):∃x:Int,l=[I x]∧True:=by
 obtain⟨a,l1,e1,h1⟩:=gJ h0
 have e2:=B0 h1
 subst e2 e1
 exact⟨a,rfl,trivial⟩
theorem aA6 {l:List Value} (h:l.length=11) {a b c d:Value} (h7:l[7]?=some a) (h8:l[8]?=some b) (h9:l[9]?=some c) (h10:l[10]?=some d):l=l.take 7++[a,b,c,d]:=by
 apply List.ext_getElem?
 intro i
 by_cases hi:i<7
 ·rw[List.getElem?_append_left (by simp;omega),List.getElem?_take_of_lt hi]
 ·rw[List.getElem?_append_right (by simp;omega)]
  have e:(l.take 7).length=7:=by simp;omega
  rw[e]
  by_cases h11:i<11
  ·have:i=7∨i=8∨i=9∨i=10:=by omega
   rcases this with rfl|rfl|rfl|rfl
   ·exact h7
   ·exact h8
   ·exact h9
   ·exact h10
  ·rw[List.getElem?_eq_none (by omega),List.getElem?_eq_none (by simp;omega)]
set_option maxRecDepth 100000 in
theorem ca {H:Type} {enc:TypeId×Value→H} {W:World} {base:Nat} {v:Value} {d:DataW H} {p:List MemPlace} (hok:Value.okWide Tryz.prog W .any base 62 v) (h:DataW.Trod enc Tryz.prog W 0 (fun _=>true) true 62 v d p):
  ∃(C:bL) (aP:Option Addr) (lP cP:Nat) (aW:Option Addr) (lW cW:Nat) (aO:Option Addr) (lO cO:Nat) (aV:Option Addr) (lV cV:Nat),v= .agg ⟨C.enc++[.slice aP lP cP,.slice aW lW cW,.slice aO lO cO,.slice aV lV cV]⟩∧lP≤maxLen∧Df i4 W aP lP cP∧iK i1 W aW lW cW∧iK i1 W aO lO cO∧iK i1 W aV lV cV:=by
 have hu:=Tryz.underlying62
 obtain⟨l,rfl,hl⟩:=ku hu hok
 rw[av] at hl
 have h0:=Jd (i:=0) (n:=8) hu rfl yd h
 obtain⟨aP,lP,cP,h7,hm,hP⟩:=Gz (i:=1) (n:=8) hu rfl Tryz.underlying59 Tryz.underlying78 m6 jc x8 qp (by decide) h
 obtain⟨aW,lW,cW,h8,hW⟩:=tC (i:=2) (n:=8) hu rfl Tryz.underlying60 My O5 Ht (by decide) h
 obtain⟨aO,lO,cO,h9,hO⟩:=tC (i:=3) (n:=8) hu rfl Tryz.underlying60 My O5 Ht (by decide) h
 obtain⟨aV,lV,cV,h10,hV⟩:=tC (i:=4) (n:=8) hu rfl Tryz.underlying60 My O5 Ht (by decide) h
 have e:=aA6 hl h7 h8 h9 h10
 have h0:Flat i7 ((l.drop 0).take (Tryz.prog.cellsOf 58)):=h0
 rw[j1,List.drop_zero] at h0
 obtain⟨a,b,c,d',e',f,g,h0e⟩:=ij h0
 rw[h0e] at e
 exact⟨⟨a,b,c,d',e',f,g⟩,aP,lP,cP,aW,lW,cW,aO,lO,cO,aV,lV,cV,by rw[e];rfl,hm,hP,hW,hO,hV⟩
theorem O7 {_G:Bg} {_W:World} {_v:Value} {n:Nat} {at':Nat→List Value} (hf:∀i,i<n→Flat i1 (at' i)):∃l:List Int,l.length=n∧∀G v,sA G 1 v n at'→A.Fv G v l:=by
 obtain⟨l,hl,_,k⟩:=Au (W:=1) (f:=fun x:Int=>[I x]) (R:=fun _=>True) (fun i hi=>zc (hf i hi))
 exact⟨l,hl,fun G v ho=>k G v ho⟩
theorem xp {n:Nat} {at':Nat→List Value} (hf:∀i,i<n→Flat i4 (at' i)):∃l:List Ins,l.length=n∧∀G v,sA G 4 v n at'→A.Qp G v l:=by
 obtain⟨l,hl,_,k⟩:=Au (W:=4) (f:=Ins.enc) (R:=fun _=>True) (fun i hi=>vx (hf i hi))
 exact⟨l,hl,fun G v ho=>k G v ho⟩
theorem pn {k0:Nat} {W:World} {a:Option Addr} {len cap:Nat} {r:OB} {rs:List OB} {t:Nat→Value} {vs:List Value} {ns:List Nat} {at':Nat→Nat→List Value} (hn:aCq Pr W i4 k0 a len cap r rs t vs ns at'):
  ∃ps:List (List Ins),ps.length=len∧∀(G:Bg) k,k<G.base→G.old k=r.1→(∀i x,rs[i]?=some x→k0+i<G.base∧G.old (k0+i)=x.1)→
   ∃vi:List Value,vi.length=ps.length∧sA G 1 (t k) (vi.map fun x=>[x]).length (fun i=>(vi.map fun x=>[x]).getD i [])∧∀(i:Nat) (v:Value) (p:List Ins),vi[i]?=some v→ps[i]?=some p→A.Qp G v p:=by
 have hch:∀i,∃l:List Ins,∀n,ns[i]?=some n→∀G v,sA G 4 v n (at' i)→A.Qp G v l:=fun i=>by
  cases h:ns[i]? with
  |none=>exact⟨[],fun n hn=>by cases hn⟩
  |some n=>
   obtain⟨l,_,k⟩:=xp (hn.flat i n h)
   exact⟨l,fun n' hn'=>by cases hn';exact k⟩
 refine⟨(List.range len).map fun i=>(hch i).choose,by simp,fun G k hk hg hall=>?_⟩
 obtain⟨o1,_,o2⟩:=hn.old G k hk hg hall
 refine⟨vs,by simp[hn.lvs],?_,fun i v p hv hp=>?_⟩
 ·rw[List.length_map,hn.lvs]
  obtain⟨a,c,e,hh⟩:=o1
  refine⟨a,c,e,fun i hi=>?_⟩
  obtain⟨b,o,cells,h1,h2,h3,h4⟩:=hh i hi
  refine⟨b,o,cells,h1,h2,h3.trans ?_,h4⟩
  have hi':i<vs.length:=by rw[hn.lvs];exact hi
  simp[List.getD_eq_getElem?_getD,List.getElem?_eq_getElem hi']
 ·have hil:i<len:=by have:=(List.getElem?_eq_some_iff.1 hv).1;rw[hn.lvs] at this;exact this
  have hp':p=(hch i).choose:=by
   rw[List.getElem?_map,List.getElem?_range hil] at hp
   simpa using hp.symm
  subst hp'
  have hni:ns[i]?=some (ns[i]'(by rw[hn.jE];exact hil)):=List.getElem?_eq_getElem _
  exact(hch i).choose_spec _ hni G v (o2 i v _ hv hni).1
theorem vb:Tryz.prog.cellsOf 23=i4.length:=by kernel_rfl
theorem aB4 {l:List Value} (h0:Flat i4 l):∃x:Do,l=x.enc∧True:=by
 obtain⟨a,b,c,d,rfl⟩:=aD2 h0
 exact⟨⟨a,b,c,d⟩,rfl,trivial⟩
theorem Xu {n:Nat} {at':Nat→List Value} (hf:∀i,i<n→Flat i4 (at' i)):∃l:List Do,l.length=n∧∀G v,sA G 4 v n at'→Rz G v l:=by
 obtain⟨l,hl,_,k⟩:=Au (W:=4) (f:=Do.enc) (R:=fun _=>True) (fun i hi=>aB4 (hf i hi))
 exact⟨l,hl,fun G v ho=>k G v ho⟩
theorem pk {ks:List (Option IntKind)} {W:World}:iK ks W none 0 0:= .inl ⟨rfl,rfl,rfl⟩
theorem T0 {W:World} (hL:Gl W) {C:bL} {aP aW aO aV aL aM:Option Addr} {lP cP lW cW lO cO lV cV lL cL lM cM:Nat} (hm:lP≤maxLen) (hP:Df i4 W aP lP cP) (hW:iK i1 W aW lW cW) (hO:iK i1 W aO lO cO) (hV:iK i1 W aV lV cV) (hE:iK i4 W aL lL cL) (hF:iK i4 W aM lM cM) {f:FuncId}
  (mk:Value→Value→Value→List Value) (hmk:∀ρ c c' d d' e e',aD ρ c c'→aD ρ d d'→aD ρ e e'→aT ρ (mk c d e) (mk c' d' e'))
  (hok:∀(G:Bg) (h:AH) (pv wv ov vv lv nv:Value) (ps:List (List Ins)) (ws os vs:List Int) (l n:List Do),ps.length≤9223372036854775807→Gb G→Ob G 1 Go.Is.tU→A.ga G pv wv ov vv ps ws os vs→Rz G lv l→Rz G nv n→Hs G h []→Cl Pr K f (mk (.agg ⟨Ky C pv wv ov vv⟩) lv nv) h fun v _=>v= .bool true):
  Calls Pr f ⟨mk (.agg ⟨C.enc++[.slice aP lP cP,.slice aW lW cW,.slice aO lO cO,.slice aV lV cV]⟩) (.slice aL lL cL) (.slice aM lM cM)⟩ W fun e W'=>e= .returned (.bool true)∧Below W.heap.size W W':=by
 obtain⟨rw',tw,bw,vw,atw,fw,ow⟩:=tI Pr hW
 obtain⟨ro,to,bo,vo,ato,fo,oo⟩:=tI Pr hO
 obtain⟨rv,tv,bv,vv',atv,fv,ov'⟩:=tI Pr hV
 obtain⟨rl,tl,bl,vl,atl,fl,ol⟩:=tI Pr hE
 obtain⟨rm,tm,bm,vm,atm,fm,om⟩:=tI Pr hF
 obtain⟨rp,rs,tp,vs,ns,atp,hn⟩:=la Pr 10 hP
 obtain⟨lws,hws,kw⟩:=O7 (_G:=⟨0,fun _=>none⟩) (_W:=W) (_v:=undef) fw
 obtain⟨los,hos,ko⟩:=O7 (_G:=⟨0,fun _=>none⟩) (_W:=W) (_v:=undef) fo
 obtain⟨lvs,hvs,kv⟩:=O7 (_G:=⟨0,fun _=>none⟩) (_W:=W) (_v:=undef) fv
 obtain⟨le,hle,ke⟩:=Xu fl
 obtain⟨lf,hlf,kf⟩:=Xu fm
 obtain⟨ps,hps,kp⟩:=pn hn
 have hL':=hL
 have h4:=Na hL
 obtain⟨⟨e0,z0,h0⟩,⟨e1,z1,h1⟩,⟨e2,z2,h2⟩,⟨e3,z3,h3⟩⟩:=hL
 let R:List OB:=rw'::ro::rv::rl::rm::rp::rs
 have hR:∀i x,rs[i]?=some x→R[6+i]?=some x:=fun i x hx=>by
  rw[Nat.add_comm]
  exact hx
 have reads:Reads Pr (4+R.length) (vZ 4 (wg e0 z0 e1 z1 e2 z2 e3 z3) R) (qG 4 R) W:=Zn (by rw[Sf];exact Nat.le_refl _) h4 (jl h0 h1 h2 h3) (fun x hx=>by
  rcases List.mem_cons.1 hx with rfl|hx
  ·exact bw.at' _
  rcases List.mem_cons.1 hx with rfl|hx
  ·exact bo.at' _
  rcases List.mem_cons.1 hx with rfl|hx
  ·exact bv.at' _
  rcases List.mem_cons.1 hx with rfl|hx
  ·exact bl.at' _
  rcases List.mem_cons.1 hx with rfl|hx
  ·exact bm.at' _
  rcases List.mem_cons.1 hx with rfl|hx
  ·exact hn.out _ fun i y hy=>by
    have:=qW (g:=4) (hR i y hy)
    rwa [show 4+(6+i)=10+i by omega] at this
  ·exact(hn.ok x hx).at' _)
 have hlen:R.length=6+rs.length:=by show rs.length+1+1+1+1+1+1=_;omega
 let G:Bg:=⟨4+R.length,vZ 4 (wg e0 z0 e1 z1 e2 z2 e3 z3) R⟩
 have og:∀i x,R[i]?=some x→4+i<G.base∧G.old (4+i)=x.1:=fun i x hx=>⟨by have:=(List.getElem?_eq_some_iff.1 hx).1;show 4+i<4+R.length;omega,o6 hx⟩
 have gw:=og 0 rw' rfl
 have go:=og 1 ro rfl
 have gv:=og 2 rv rfl
 have gl:=og 3 rl rfl
 have gm:=og 4 rm rfl
 have gp:=og 5 rp rfl
 obtain⟨vi,hvi,hpo,hpi⟩:=kp G 9 gp.1 gp.2 (fun i x hx=>by
  have:=og (6+i) x (hR i x hx)
  rwa [show 4+(6+i)=10+i by omega] at this)
 have gb:∀(b:Nat) (l:List Value) (e:TypeId) (z:Nat×Nat),b<4→wg e0 z0 e1 z1 e2 z2 e3 z3 b=some (.cells l e z true)→Ob G b l:=fun b l e z hb hg=>⟨by show b<4+R.length;omega,e,z,true,(lz (g:=4) (i:=b) (gl:=wg e0 z0 e1 z1 e2 z2 e3 z3) (rs:=R) hb).trans hg⟩
 have ok:=hok G (Go.Ab.start G.base G.old) (tp 9) (tw 4) (to 5) (tv 6) (tl 7) (tm 8) ps lws los lvs le lf (by rw[hps];unfold maxLen at hm;omega)
  ⟨by first|exact gb 0 _ e0 z0 (by omega) rfl|(rw[←aDz];exact gb 0 _ e0 z0 (by omega) rfl),by first|exact gb 2 _ e2 z2 (by omega) rfl|(rw[←aCo];exact gb 2 _ e2 z2 (by omega) rfl),by first|exact gb 3 _ e3 z3 (by omega) rfl|(rw[←aD4];exact gb 3 _ e3 z3 (by omega) rfl)⟩ (by first|exact gb 1 _ e1 z1 (by omega) rfl|(rw[←aDc];exact gb 1 _ e1 z1 (by omega) rfl))
  ⟨⟨vi,hvi,hpo,hpi⟩,kw G _ (ow G 4 gw.1 gw.2).1,ko G _ (oo G 5 go.1 go.2).1,kv G _ (ov' G 6 gv.1 gv.2).1⟩ (ke G _ (ol G 7 gl.1 gl.2).1) (kf G _ (om G 8 gm.1 gm.2).1) qe
 have hrel:aT (qG 4 R) (mk (.agg ⟨Ky C (tp 9) (tw 4) (to 5) (tv 6)⟩) (tl 7) (tm 8)) (mk (.agg ⟨C.enc++[.slice aP lP cP,.slice aW lW cW,.slice aO lO cO,.slice aV lV cV]⟩) (.slice aL lL cL) (.slice aM lM cM)):=by
  refine hmk _ _ _ _ _ _ _ ?_ (vl _ 7 (qW (g:=4) (i:=3) (rs:=R) rfl)) (vm _ 8 (qW (g:=4) (i:=4) (rs:=R) rfl))
  simp only[aD]
  exact⟨_,aT.append (oH _ (by rfl)) (aT.cons (hn.rel _ 9 (qW (g:=4) (i:=5) (rs:=R) rfl)) (aT.cons (vw _ 4 (qW (g:=4) (i:=0) (rs:=R) rfl)) (aT.cons (vo _ 5 (qW (g:=4) (i:=1) (rs:=R) rfl)) (aT.cons (vv' _ 6 (qW (g:=4) (i:=2) (rs:=R) rfl)) aT.nil)))),rfl⟩
 have:=G9 (aFk W.heap.size h4) hL' reads hrel ok
 intro cs
 obtain⟨e,w',fr,⟨ρ',o,h',v',he,hv',hq,_,hb⟩,hx⟩:=this cs
 rw[hq] at hv'
 simp only[aD] at hv'
 exact⟨e,w',fr,⟨by rw[he,hv'],hb⟩,hx⟩
end Go.Proofs.YtajjljbmfdboaaaGreatDoor
end
section
namespace Go.Proofs.YtajjljbmfdboaaaGreatDoor
open Go Go.Ab Go.Hm Go.Is Go.At Go.Mc Go.RowKit
theorem Ov (os:Os) (args:Array Value):laidMetH Tryz.prog Rows.fairFewRow.laid ((World.doorLaid Tryz.prog 4000 os).forCall (fun _ _=>0) ⟨#[],args,[]⟩).memory:=
 laidMetH_of_parts3 (fuel:=8) (laidMet_of_run' 8 (by kernel_rfl) (by kernel_rfl)) (by kernel_rfl) (by kernel_rfl)
set_option maxRecDepth 100000 in
theorem H2 (os:Os) (started:os.Started) (H:Type) (enc:TypeId×Value→H):
  ReturnsInHanded {} Tryz.checked os 11 .any (fun w args=>(Rows.fairFewSpec.pre enc Tryz.prog Tryz.f11 [] false w args∧laidMetH Tryz.prog Rows.fairFewRow.laid w)∧sizedMet enc Tryz.prog Tryz.f11 (OpenSpec.ofChange Rows.fairFewSpec) false w args)
   (Rows.fairFewSpec.post enc Tryz.prog Tryz.f11 false true false false):=by
 refine Vt (C:=Tryz.checked) started own (by kernel_rfl) Tryz.func11 laidOut (by kernel_rfl) rfl Tryz.underlying4 rfl (fun ds hd=>by
   match ds,hd with
   |[d1,d2],_=>rfl)
  (ChangeSpec.witness_shaped (enc:=enc) (C:=Tryz.checked) (os:=os) (X:=fun w _=>laidMetH Tryz.prog Rows.fairFewRow.laid w) false (World.doorLaid Tryz.prog 4000 os) #[.agg #[.int .i64 0,.int .i64 0,.int .i64 0,.int .i64 0,.int .i64 0,.int .i64 0,.int .i64 0,.slice none 0 0,.slice none 0 0,.slice none 0 0,.slice none 0 0],.slice none 0 0] 8 rfl (World.shaped_of_RefB (by kernel_rfl) (by kernel_rfl)) (by kernel_rfl) (by kernel_rfl) (by kernel_rfl) (Ov os _)) ?_
 intro W base args ds ps hA hval hL
 rw[show(Tryz.f11.params.toList)=[62,35] from by rw[Tryz.params11]] at hA
 rw[Tryz.params11] at hval
 obtain⟨v0,vs0,dd0,ds0,p0,q0,rfl,rfl,rfl,h0,r0⟩:=ChangeShapes.trodAll_cons hA
 obtain⟨v1,vs1,dd1,ds1,p1,q1,rfl,rfl,rfl,h1,r1⟩:=ChangeShapes.trodAll_cons r0
 obtain⟨rfl,rfl,rfl⟩:=ChangeShapes.trodAll_nil r1
 obtain⟨C,aP,lP,cP,aW,lW,cW,aO,lO,cO,aV,lV,cV,rfl,hm,hP,hW,hO,hV⟩:=ca (hval 0 _ v0 rfl rfl) h0
 obtain⟨aD1,lD1,cD1,rfl,hD1⟩:=di Tryz.underlying35 aAi vb (by decide) (hval 1 _ v1 rfl rfl) h1
 have hg:Gl W:=aCn (by kernel_rfl) hL (by simp[Rows.fairFewRow]) (by simp[Rows.fairFewRow]) (by simp[Rows.fairFewRow]) (by simp[Rows.fairFewRow])
 exact T0 hg hm hP hW hO hV hD1 pk (fun c d _=>[c,d]) (fun ρ c c' d d' e e' a b _=>aT.cons a (aT.cons b aT.nil)) fun G h pv wv ov vv lv nv ps ws os vs l n hn hG hg hom hd _ hs=>Wl hn hG hg hom hd hs fun _=>rfl
set_option maxRecDepth 100000
theorem Up:(Rows.fairFewRow.inPlace==Tryz.prog.inPlace 11)=true:=by kernel_rfl
theorem V5:(Rows.fairFewRow.unfollowed==Tryz.prog.unfollowed 11)=true:=by kernel_rfl
theorem Uz:(Rows.fairFewRow.recurses==Tryz.prog.recurses 11)=true:=by kernel_rfl
theorem Vp:(Rows.fairFewRow.named==Tryz.prog.varsNamed 11)=true:=by kernel_rfl
theorem Pe:false=Rows.fairFewRow.goesBy Tryz.prog:=by kernel_rfl
theorem Al:Tryz.prog.funcNamed "donjon/donjonlaw19.FairFew"=some 11:=by kernel_rfl
theorem I3:joinedFacts Tryz.prog 11 Tryz.f11 Rows.fairFewSpec Rows.fairFewRow=true:=
 (mD (mD (mD (mD (mD (mD (mD (mD (mD (mD (mD (mD (mD (mD (mD (mD (mD (mD (mD (mD (mD (mD (mD (mD (mD (mD (mD (mD (mD (mD (mD (by kernel_rfl) laidOut) zn) (by kernel_rfl)) (by kernel_rfl)) (by kernel_rfl)) xb) (by kernel_rfl)) uu) Up) V5) Uz) Vp) (by kernel_rfl)) (by kernel_rfl)) (by kernel_rfl)) (by kernel_rfl)) (by kernel_rfl)) (by kernel_rfl)) (by kernel_rfl)) (by kernel_rfl)) (by kernel_rfl)) vz) (by kernel_rfl)) th) ub) xe) aBv) (by kernel_rfl)) (by kernel_rfl)) (by kernel_rfl)) (by kernel_rfl))
theorem Nj:Rows.fairFewRow.holds Tryz.pinned (OpenSpec.ofChange Rows.fairFewSpec):=
 OpenClaim.holds_of_wide 11 Tryz.f11 rfl rfl rfl rfl rfl rfl rfl ⟨rfl,rfl,rfl,rfl,rfl⟩ rfl rfl rfl rfl rfl Al Tryz.func11 I3
  (of_decide_eq_true (by kernel_rfl)) (by unfold Func.isWrapper;first|(rw[if_pos (by decide+kernel)];kernel_rfl)|(rw[if_neg (by decide+kernel)];exact⟨rfl,rfl⟩))
  (fun os started H enc _=>H2 os started H enc)
theorem fairFew_proved:Rows.FairFewCardSaid:=
 Claim7.holds_tied_plain_at .later [] Rows.fairFewCard.laidKinds true Rows.fairFewCard.stood.harness false
  Nj (fun _ h=>by cases h) (by kernel_rfl) (fun _ h=>by cases h) fairFew_row_tie rfl ⟨rfl,rfl⟩ zr rfl
  (fun f fn hf hfn=>by
   obtain rfl:f=11:=Option.some.inj (Al.symm.trans hf)|>.symm
   obtain rfl:fn=Tryz.f11:=(Option.some.inj (Tryz.func11.symm.trans hfn)).symm
   exact⟨yc,fun j t ht=>by
    rw[Tryz.params11] at ht
    have hm:t∈[62,35]:=by simpa using Array.mem_of_getElem? ht
    have hall:([62,35].all fun u=> !Tryz.prog.wantsStandIn u)=true:=by kernel_rfl
    exact(show Tryz.prog.wantsStandIn t=false by simpa using List.all_eq_true.1 hall t hm)⟩)
  Pe
end Go.Proofs.YtajjljbmfdboaaaGreatDoor
end
