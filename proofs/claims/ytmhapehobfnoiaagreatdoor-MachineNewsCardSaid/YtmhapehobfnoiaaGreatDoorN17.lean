/- A part of the proof. -/
import Derived.Test.YtmhapehobfnoiaaGreatDoorN15
import Derived.Test.YtmhapehobfnoiaaGreatDoorN16
import Derived.Test.YtmhapehobfnoiaaGreatDoorN11
import Derived.Test.YtmhapehobfnoiaaGreatDoorN12
import Derived.Test.YtmhapehobfnoiaaGreatDoorN9
namespace Go.Proofs.YtmhapehobfnoiaaGreatDoor
open Go Go.Ab
section
set_option maxRecDepth 100000
variable (e0:TypeId) (z0:Nat×Nat) (e1:TypeId) (z1:Nat×Nat) (e2:TypeId) (z2:Nat×Nat) (e3:TypeId) (z3:Nat×Nat)
theorem Pb:((Py Pr K1 8000 (.call 10 []) (st4 e0 z0 e1 z1 e2 z2 e3 z3)).any fun r=>oO r.1.v (.bool true))=true:=by kernel_rfl
end
section
set_option maxRecDepth 100000
variable (e0:TypeId) (z0:Nat×Nat) (e1:TypeId) (z1:Nat×Nat) (e2:TypeId) (z2:Nat×Nat) (e3:TypeId) (z3:Nat×Nat)
theorem O2:((Py Pr K1 3000 (.call 25 []) (st4 e0 z0 e1 z1 e2 z2 e3 z3)).any fun r=>oO r.1.v (.bool true))=true:=by kernel_rfl
end
end Go.Proofs.YtmhapehobfnoiaaGreatDoor
namespace Go.Proofs.YtmhapehobfnoiaaGreatDoor
open Go Go.Ab Go.Hm Go.Is Go.At Go.Mc Go.RowKit
section
noncomputable def K25:FuncId->List Value->Option fC:=O6 (O6 K0 10 (.bool true)) 25 (.bool true)
theorem aC0:K=K25:=rfl
noncomputable def aBi (B:Nat) (hB:4<=B):Ctx Pr B K:=by rw[aC0];exact((xe B hB).add 10 (.bool true) rfl fun _ a=>N0 Pb a).add 25 (.bool true) rfl fun _ a=>N0 O2 a
theorem zj:_root_.Go.Proofs.YtmhapehobfnoiaaGreatDoor.jK=Go.Hm.jK:=by kernel_rfl
theorem y7:_root_.Go.Proofs.YtmhapehobfnoiaaGreatDoor.rT=Go.Is.rT:=by kernel_rfl
theorem ye:_root_.Go.Proofs.YtmhapehobfnoiaaGreatDoor.Ys=Go.Nt.dc:=by kernel_rfl
theorem yl:_root_.Go.Proofs.YtmhapehobfnoiaaGreatDoor.cy=Go.Ct.su:=by kernel_rfl
abbrev i7:List (Option IntKind):=[some .i64,some .i64,some .i64,some .i64,some .i64,some .i64,some .i64]
abbrev i4:List (Option IntKind):=[some .i64,some .i64,some .i64,some .i64]
abbrev i1:List (Option IntKind):=[some .i64]
theorem jz:pQ Tryz.prog 8 23=some i7:=by kernel_rfl
theorem mu:pQ Tryz.prog 8 76=some i4:=by kernel_rfl
theorem J0:pQ Tryz.prog 8 3=some i1:=by kernel_rfl
theorem iz:Tryz.prog.cellsOf 76=i4.length:=by kernel_rfl
theorem F1:Tryz.prog.cellsOf 3=i1.length:=by kernel_rfl
theorem fq:Tryz.prog.cellsOf 23=7:=by kernel_rfl
theorem Ly:Tryz.prog.cellsOf 25=1:=by kernel_rfl
theorem aj:Tryz.prog.cellsOf 77=1:=by kernel_rfl
theorem Y1:Tryz.prog.cellsOf 24=1:=by kernel_rfl
theorem Wg:Tryz.prog.cellsOf 27=11:=by kernel_rfl
theorem Zi {l:List Value} (n:Flat i7 l):∃a b c d e f g:Int,l=[I a,I b,I c,I d,I e,I f,I g]:=by
 obtain⟨a,v,e1,o⟩:=eG n;obtain⟨b,w,e2,p⟩:=eG o;obtain⟨c,x,e3,q⟩:=eG p;obtain⟨d,y,h,r⟩:=eG q;obtain⟨e,z,i,s⟩:=eG r;obtain⟨f,A,j,t⟩:=eG s;obtain⟨g,B,k,u⟩:=eG t;have m:=Ah u;subst m k j i h e3 e2 e1;exact⟨a,b,c,d,e,f,g,rfl⟩
theorem kx {l:List Value} (g:Flat i4 l):∃x:Ins,l=x.enc/\True:=by
 obtain⟨a,m,e1,h⟩:=eG g;obtain⟨b,n,e2,i⟩:=eG h;obtain⟨c,o,e3,j⟩:=eG i;obtain⟨d,p,e,k⟩:=eG j;have f:=Ah k;subst f e e3 e2 e1;exact⟨⟨a,b,c,d⟩,rfl,trivial⟩
theorem uq {l:List Value} (b:Flat i1 l):∃x:Int,l=[I x]/\True:=by
 obtain⟨a,d,e1,c⟩:=eG b;have e2:=Ah c;subst e2 e1;exact⟨a,rfl,trivial⟩
theorem v8 {l:List Value} (h:l.length=11) {a b c d:Value} (j:l[7]?=some a) (k:l[8]?=some b) (m:l[9]?=some c) (f:l[10]?=some d):l=l.take 7++[a,b,c,d]:=by
 apply List.ext_getElem?;intro i;by_cases n:i<7;rw[List.getElem?_append_left (by simp;omega),List.getElem?_take_of_lt n];rw[List.getElem?_append_right (by simp;omega)];have e:(l.take 7).length=7:=by simp;omega
 rw[e];by_cases g:i<11;have:i=7\/i=8\/i=9\/i=10:=by omega
 rcases this with rfl|rfl|rfl|rfl;exact j;exact k;exact m;exact f;rw[List.getElem?_eq_none (by omega),List.getElem?_eq_none (by simp;omega)]
set_option maxRecDepth 100000 in
theorem Vh {H:Type} {enc:TypeId×Value->H} {W:World} {k:Nat} {v:Value} {d:DataW H} {p:List MemPlace} (E:Value.okWide Tryz.prog W .any k 27 v) (h:DataW.Trod enc Tryz.prog W 0 (fun _=>true) true 27 v d p):
  ∃(C:bA) (q:Option Addr) (m u:Nat) (s:Option Addr) (A cW:Nat) (o:Option Addr) (y t:Nat) (r:Option Addr) (z w:Nat),v= .agg ⟨C.enc++[.slice q m u,.slice s A cW,.slice o y t,.slice r z w]⟩/\m<=maxLen/\zO i4 W q m u/\gI i1 W s A cW/\gI i1 W o y t/\gI i1 W r z w:=by
 have j:=Tryz.underlying27
 obtain⟨l,rfl,F⟩:=ah j E
 rw[Wg] at F
 have x:=Fl (i:=0) (n:=8) j rfl jz h
 obtain⟨q,m,u,J,P,hP⟩:=Ey (i:=1) (n:=8) j rfl Tryz.underlying24 Tryz.underlying77 Y1 aj mu iz (by decide) h
 obtain⟨s,A,cW,K,O⟩:=pY (i:=2) (n:=8) j rfl Tryz.underlying25 Ly J0 F1 (by decide) h
 obtain⟨o,y,t,L,M⟩:=pY (i:=3) (n:=8) j rfl Tryz.underlying25 Ly J0 F1 (by decide) h
 obtain⟨r,z,w,D,N⟩:=pY (i:=4) (n:=8) j rfl Tryz.underlying25 Ly J0 F1 (by decide) h
 have e:=v8 F J K L D
 have x:Flat i7 ((l.drop 0).take (Tryz.prog.cellsOf 23)):=x
 rw[fq,List.drop_zero] at x
 obtain⟨a,b,c,G,I,f,g,B⟩:=Zi x
 rw[B] at e
 exact⟨⟨a,b,c,G,I,f,g⟩,q,m,u,s,A,cW,o,y,t,r,z,w,by rw[e];rfl,P,hP,O,M,N⟩
theorem La {_G:Bg} {_W:World} {_v:Value} {n:Nat} {at':Nat->List Value} (a:∀i,i<n->Flat i1 (at' i)):∃l:List Int,l.length=n/\∀G v,oY G 1 v n at'->A.wO G v l:=by
 obtain⟨l,c,_,k⟩:=xU (W:=1) (f:=fun x:Int=>[I x]) (R:=fun _=>True) (fun i b=>uq (a i b));exact⟨l,c,fun G v d=>k G v d⟩
theorem qh {n:Nat} {at':Nat->List Value} (a:∀i,i<n->Flat i4 (at' i)):∃l:List Ins,l.length=n/\∀G v,oY G 4 v n at'->A.M7 G v l:=by
 obtain⟨l,c,_,k⟩:=xU (W:=4) (f:=Ins.enc) (R:=fun _=>True) (fun i b=>kx (a i b));exact⟨l,c,fun G v d=>k G v d⟩
theorem bq {y:Nat} {W:World} {a:Option Addr} {len cap:Nat} {r:OB} {rs:List OB} {t:Nat->Value} {vs:List Value} {ns:List Nat} {at':Nat->Nat->List Value} (d:zd Pr W i4 y a len cap r rs t vs ns at'):
  ∃z:List (List Ins),z.length=len/\∀(G:Bg) k,k<G.base->G.old k=r.1->(∀i x,rs[i]?=some x->y+i<G.base/\G.old (y+i)=x.1)->
   ∃q:List Value,q.length=z.length/\oY G 1 (t k) (q.map fun x=>[x]).length (fun i=>(q.map fun x=>[x]).getD i [])/\∀(i:Nat) (v:Value) (p:List Ins),q[i]?=some v->z[i]?=some p->A.M7 G v p:=by
 have f:∀i,∃l:List Ins,∀n,ns[i]?=some n->∀G v,oY G 4 v n (at' i)->A.M7 G v l:=fun i=>by
  cases h:ns[i]? with
  |none=>exact⟨[],fun n d=>by cases d⟩
  |some n=>
   obtain⟨l,_,k⟩:=qh (d.flat i n h);exact⟨l,fun O u=>by cases u;exact k⟩
 refine⟨(List.range len).map fun i=>(f i).choose,by simp,fun G k L J g=>?_⟩
 obtain⟨M,_,N⟩:=d.old G k L J g
 refine⟨vs,by simp[d.xv],?_,fun i v p D C=>?_⟩
 .rw[List.length_map,d.xv];obtain⟨a,c,e,K⟩:=M;refine⟨a,c,e,fun i B=>?_⟩;obtain⟨b,o,cells,E,F,H,I⟩:=K i B;refine⟨b,o,cells,E,F,H.trans ?_,I⟩;have s:i<vs.length:=by rw[d.xv];exact B
  simp[List.getD_eq_getElem?_getD,List.getElem?_eq_getElem s]
 .have j:i<len:=by have:=(List.getElem?_eq_some_iff.1 D).1;rw[d.xv] at this;exact this
  have w:p=(f i).choose:=by
   rw[List.getElem?_map,List.getElem?_range j] at C;simpa using C.symm
  subst w
  have m:ns[i]?=some (ns[i]'(by rw[d.jS];exact j)):=List.getElem?_eq_getElem _
  exact(f i).choose_spec _ m G v (N i v _ D m).1
theorem um {l:List Value} (e:Flat i4 l):∃x:Do,l=x.enc/\True:=by
 obtain⟨a,b,c,d,rfl⟩:=y6 e;exact⟨⟨a,b,c,d⟩,rfl,trivial⟩
theorem Uo {n:Nat} {at':Nat->List Value} (a:∀i,i<n->Flat i4 (at' i)):∃l:List Do,l.length=n/\∀G v,oY G 4 v n at'->wj G v l:=by
 obtain⟨l,c,_,k⟩:=xU (W:=4) (f:=Do.enc) (R:=fun _=>True) (fun i b=>um (a i b));exact⟨l,c,fun G v d=>k G v d⟩
theorem Ot {a:List (Option IntKind)} {W:World}:gI a W none 0 0:= .inl ⟨rfl,rfl,rfl⟩
theorem S0 {W:World} (M:Gl W) {C:bA} {B E w D t u:Option Addr} {s J lW cW Z I lV L X F Y H:Nat} (hm:s<=maxLen) (hP:zO i4 W B s J) (hW:gI i1 W E lW cW) (hO:gI i1 W w Z I) (hV:gI i1 W D lV L) (hE:gI i4 W t X F) (hF:gI i4 W u Y H) {f:FuncId}
  (mk:Value->Value->Value->List Value) (P:∀ρ c c' d d' e e',aA ρ c c'->aA ρ d d'->aA ρ e e'->aE ρ (mk c d e) (mk c' d' e'))
  (Q:∀(G:Bg) (h:AH) (pv wv ov vv lv nv:Value) (ps:List (List Ins)) (ws os vs:List Int) (l n:List Do),ps.length<=9223372036854775807->Gb G->Ob G 1 Go.Is.rT->A.dq G pv wv ov vv ps ws os vs->wj G lv l->wj G nv n->Hs G h []->Cl Pr K f (mk (.agg ⟨Hb C pv wv ov vv⟩) lv nv) h fun v _=>v= .bool true):
  Calls Pr f ⟨mk (.agg ⟨C.enc++[.slice B s J,.slice E lW cW,.slice w Z I,.slice D lV L]⟩) (.slice t X F) (.slice u Y H)⟩ W fun e W'=>e= .returned (.bool true)/\Below W.heap.size W W':=by
 obtain⟨q,tw,bw,vw,μ,fw,ow⟩:=qN Pr hW
 obtain⟨ro,to,bo,vo,θ,fo,oo⟩:=qN Pr hO
 obtain⟨rv,tv,bv,δ,κ,fv,γ⟩:=qN Pr hV
 obtain⟨rl,tl,bl,vl,ζ,fl,ol⟩:=qN Pr hE
 obtain⟨rm,tm,bm,vm,η,fm,om⟩:=qN Pr hF
 obtain⟨rp,j,tp,vs,ns,ι,r⟩:=Yi Pr 10 hP
 obtain⟨β,π,kw⟩:=La (_G:=⟨0,fun _=>none⟩) (_W:=W) (_v:=undef) fw
 obtain⟨α,ξ,ko⟩:=La (_G:=⟨0,fun _=>none⟩) (_W:=W) (_v:=undef) fo
 obtain⟨xv,ο,kv⟩:=La (_G:=⟨0,fun _=>none⟩) (_W:=W) (_v:=undef) fv
 obtain⟨le,hle,ke⟩:=Uo fl
 obtain⟨lf,ν,kf⟩:=Uo fm
 obtain⟨ps,U,kp⟩:=bq r
 have N:=M
 have h4:=Jo M
 obtain⟨⟨e0,z0,h0⟩,⟨e1,z1,h1⟩,⟨e2,z2,h2⟩,⟨e3,z3,h3⟩⟩:=M
 let R:List OB:=q::ro::rv::rl::rm::rp::j
 have hR:∀i x,j[i]?=some x->R[6+i]?=some x:=fun i x a=>by
  rw[Nat.add_comm];exact a
 have reads:Reads Pr (4+R.length) (tN 4 (pk e0 z0 e1 z1 e2 z2 e3 z3) R) (mT 4 R) W:=Vz (by rw[Mv];exact Nat.le_refl _) h4 (Zw h0 h1 h2 h3) (fun x a=>by
  rcases List.mem_cons.1 a with rfl|a;exact bw.at' _;rcases List.mem_cons.1 a with rfl|a;exact bo.at' _;rcases List.mem_cons.1 a with rfl|a;exact bv.at' _;rcases List.mem_cons.1 a with rfl|a;exact bl.at' _;rcases List.mem_cons.1 a with rfl|a;exact bm.at' _;rcases List.mem_cons.1 a with rfl|a;exact r.out _ fun i y hy=>by
   have:=nZ (g:=4) (hR i y hy);rwa [show 4+(6+i)=10+i by omega] at this
  exact(r.ok x a).at' _)
 have ε:R.length=6+j.length:=by show j.length+1+1+1+1+1+1=_;omega
 let G:Bg:=⟨4+R.length,tN 4 (pk e0 z0 e1 z1 e2 z2 e3 z3) R⟩
 have m:∀i x,R[i]?=some x->4+i<G.base/\G.old (4+i)=x.1:=fun i x a=>⟨by have:=(List.getElem?_eq_some_iff.1 a).1;show 4+i<4+R.length;omega,de a⟩
 have gw:=m 0 q rfl
 have go:=m 1 ro rfl
 have gv:=m 2 rv rfl
 have gl:=m 3 rl rfl
 have gm:=m 4 rm rfl
 have gp:=m 5 rp rfl
 obtain⟨vi,V,T,S⟩:=kp G 9 gp.1 gp.2 (fun i x a=>by
  have:=m (6+i) x (hR i x a);rwa [show 4+(6+i)=10+i by omega] at this)
 have gb:∀(b:Nat) (l:List Value) (e:TypeId) (z:Nat×Nat),b<4->pk e0 z0 e1 z1 e2 z2 e3 z3 b=some (.cells l e z true)->Ob G b l:=fun b l e z O hg=>⟨by show b<4+R.length;omega,e,z,true,(ia (g:=4) (i:=b) (gl:=pk e0 z0 e1 z1 e2 z2 e3 z3) (rs:=R) O).trans hg⟩
 have ok:=Q G (Go.Ab.start G.base G.old) (tp 9) (tw 4) (to 5) (tv 6) (tl 7) (tm 8) ps β α xv le lf (by rw[U];unfold maxLen at hm;omega)
  ⟨by first|exact gb 0 _ e0 z0 (by omega) rfl|(rw[<-zj];exact gb 0 _ e0 z0 (by omega) rfl),by first|exact gb 2 _ e2 z2 (by omega) rfl|(rw[<-ye];exact gb 2 _ e2 z2 (by omega) rfl),by first|exact gb 3 _ e3 z3 (by omega) rfl|(rw[<-yl];exact gb 3 _ e3 z3 (by omega) rfl)⟩ (by first|exact gb 1 _ e1 z1 (by omega) rfl|(rw[<-y7];exact gb 1 _ e1 z1 (by omega) rfl))
  ⟨⟨vi,V,T,S⟩,kw G _ (ow G 4 gw.1 gw.2).1,ko G _ (oo G 5 go.1 go.2).1,kv G _ (γ G 6 gv.1 gv.2).1⟩ (ke G _ (ol G 7 gl.1 gl.2).1) (kf G _ (om G 8 gm.1 gm.2).1) cr
 have p:aE (mT 4 R) (mk (.agg ⟨Hb C (tp 9) (tw 4) (to 5) (tv 6)⟩) (tl 7) (tm 8)) (mk (.agg ⟨C.enc++[.slice B s J,.slice E lW cW,.slice w Z I,.slice D lV L]⟩) (.slice t X F) (.slice u Y H)):=by
  refine P _ _ _ _ _ _ _ ?_ (vl _ 7 (nZ (g:=4) (i:=3) (rs:=R) rfl)) (vm _ 8 (nZ (g:=4) (i:=4) (rs:=R) rfl));simp only[aA];exact⟨_,aE.append (jH _ (by rfl)) (aE.cons (r.rel _ 9 (nZ (g:=4) (i:=5) (rs:=R) rfl)) (aE.cons (vw _ 4 (nZ (g:=4) (i:=0) (rs:=R) rfl)) (aE.cons (vo _ 5 (nZ (g:=4) (i:=1) (rs:=R) rfl)) (aE.cons (δ _ 6 (nZ (g:=4) (i:=2) (rs:=R) rfl)) aE.nil)))),rfl⟩
 have:=F0 (aBi W.heap.size h4) N reads p ok
 intro cs
 obtain⟨e,w',fr,⟨ρ',o,h',v',he,k,hq,_,O⟩,a⟩:=this cs
 rw[hq] at k
 simp only[aA] at k
 exact⟨e,w',fr,⟨by rw[he,k],O⟩,a⟩
end
end Go.Proofs.YtmhapehobfnoiaaGreatDoor
