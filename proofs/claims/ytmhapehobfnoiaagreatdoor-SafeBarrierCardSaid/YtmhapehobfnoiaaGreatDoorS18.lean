/- A part of the proof. -/
import Derived.Test.YtmhapehobfnoiaaGreatDoorS17
import Derived.Test.YtmhapehobfnoiaaGreatDoorS14
import Derived.Test.YtmhapehobfnoiaaGreatDoorS9
namespace Go.Proofs.YtmhapehobfnoiaaGreatDoor
open Go Go.Ab Go.RowKit
section
set_option maxRecDepth 100000
theorem nZ {a b:Bool} (c:a=true) (hb:b=true):(a&&b)=true:=by rw[c,hb];rfl
theorem aEc:mapsRowed Tryz.prog=true:=by kernel_rfl
theorem aA4:(Tryz.prog.stops==[])=true:=by kernel_rfl
theorem yk:(Tryz.prog.stopKnobs==[])=true:=by kernel_rfl
theorem z7:(Rows.machineNewsRow.plainKeys==Tryz.prog.plainKeys)=true:=by kernel_rfl
theorem y6:Tryz.prog.stopsHeard=true:=by kernel_rfl
theorem yn:Tryz.prog.mayEnter=true:=by kernel_rfl
theorem xh:(Rows.machineNewsRow.lifted==Tryz.prog.liftsFinal)=true:=by kernel_rfl
theorem aD2:(Tryz.prog.make==some Rows.machineNewsRow.make)=true:=by kernel_rfl
theorem aD3:Tryz.prog.mainIs=some (Rows.machineNewsCard.stood.harness.1,Rows.machineNewsCard.stood.harness.2.toList):=by kernel_rfl
theorem yb:false=Tryz.prog.looks []:=by kernel_rfl
end
end Go.Proofs.YtmhapehobfnoiaaGreatDoor
namespace Go.Proofs.YtmhapehobfnoiaaGreatDoor
open Go Go.Ab
section
set_option maxRecDepth 100000
variable (e0:TypeId) (z0:Nat×Nat) (e1:TypeId) (z1:Nat×Nat) (e2:TypeId) (z2:Nat×Nat) (e3:TypeId) (z3:Nat×Nat)
theorem R7:((run Pr K0 3000 (.call 25 []) (st4 e0 z0 e1 z1 e2 z2 e3 z3)).any fun r=>pY r.1.v (.bool true))=true:=by kernel_rfl
end
end Go.Proofs.YtmhapehobfnoiaaGreatDoor
namespace Go.Proofs.YtmhapehobfnoiaaGreatDoor
open Go Go.Ab Go.Hm Go.Is Go.At Go.Mc Go.RowKit
section
noncomputable def K25:FuncId->List Value->Option kA:=kl K0 25 (.bool true)
theorem aIw:K=K25:=rfl
noncomputable def aJc (B:Nat) (hB:4<=B):Ctx Pr B K:=by rw[aIw];exact(aHa B hB).add 25 (.bool true) rfl fun _ a=>od R7 a
theorem aGk:_root_.Go.Proofs.YtmhapehobfnoiaaGreatDoor.fJ=Go.Hm.fJ:=by kernel_rfl
theorem aG8:_root_.Go.Proofs.YtmhapehobfnoiaaGreatDoor.yM=Go.Is.yM:=by kernel_rfl
theorem aG1:_root_.Go.Proofs.YtmhapehobfnoiaaGreatDoor.ny=Go.Nt.yK:=by kernel_rfl
theorem aH9:_root_.Go.Proofs.YtmhapehobfnoiaaGreatDoor.tk=Go.Ct.kH:=by kernel_rfl
abbrev i7:List (Option IntKind):=[some .i64,some .i64,some .i64,some .i64,some .i64,some .i64,some .i64]
abbrev i4:List (Option IntKind):=[some .i64,some .i64,some .i64,some .i64]
abbrev i1:List (Option IntKind):=[some .i64]
theorem y2:sG Tryz.prog 8 23=some i7:=by kernel_rfl
theorem aAo:sG Tryz.prog 8 76=some i4:=by kernel_rfl
theorem Q2:sG Tryz.prog 8 3=some i1:=by kernel_rfl
theorem mw:Tryz.prog.cellsOf 76=i4.length:=by kernel_rfl
theorem K8:Tryz.prog.cellsOf 3=i1.length:=by kernel_rfl
theorem s6:Tryz.prog.cellsOf 23=7:=by kernel_rfl
theorem Qw:Tryz.prog.cellsOf 25=1:=by kernel_rfl
theorem rf:Tryz.prog.cellsOf 77=1:=by kernel_rfl
theorem ve:Tryz.prog.cellsOf 24=1:=by kernel_rfl
theorem bg:Tryz.prog.cellsOf 27=11:=by kernel_rfl
theorem uo {l:List Value} (n:Flat i7 l):∃a b c d e f g:Int,l=[I a,I b,I c,I d,I e,I f,I g]:=by
 obtain⟨a,l1,e1,o⟩:=hU n;obtain⟨b,l2,e2,p⟩:=hU o;obtain⟨c,l3,e3,q⟩:=hU p;obtain⟨d,v,h,r⟩:=hU q;obtain⟨e,w,i,s⟩:=hU r;obtain⟨f,x,j,t⟩:=hU s;obtain⟨g,y,k,u⟩:=hU t;have m:=Dv u;subst m k j i h e3 e2 e1;exact⟨a,b,c,d,e,f,g,rfl⟩
theorem xt {l:List Value} (g:Flat i4 l):∃x:Ins,l=x.enc/\True:=by
 obtain⟨a,l1,e1,h⟩:=hU g;obtain⟨b,l2,e2,i⟩:=hU h;obtain⟨c,l3,e3,j⟩:=hU i;obtain⟨d,m,e,k⟩:=hU j;have f:=Dv k;subst f e e3 e2 e1;exact⟨⟨a,b,c,d⟩,rfl,trivial⟩
theorem aCl {l:List Value} (b:Flat i1 l):∃x:Int,l=[I x]/\True:=by
 obtain⟨a,l1,e1,c⟩:=hU b;have e2:=Dv c;subst e2 e1;exact⟨a,rfl,trivial⟩
theorem aE4 {l:List Value} (h:l.length=11) {a b c d:Value} (j:l[7]?=some a) (k:l[8]?=some b) (m:l[9]?=some c) (f:l[10]?=some d):l=l.take 7++[a,b,c,d]:=by
 apply List.ext_getElem?;intro i;by_cases n:i<7;rw[List.getElem?_append_left (by simp;omega),List.getElem?_take_of_lt n];rw[List.getElem?_append_right (by simp;omega)];have e:(l.take 7).length=7:=by simp;omega
 rw[e];by_cases g:i<11;have:i=7\/i=8\/i=9\/i=10:=by omega
 rcases this with rfl|rfl|rfl|rfl;exact j;exact k;exact m;exact f;rw[List.getElem?_eq_none (by omega),List.getElem?_eq_none (by simp;omega)]
set_option maxRecDepth 100000 in
theorem jo {H:Type} {enc:TypeId×Value->H} {W:World} {k:Nat} {v:Value} {d:DataW H} {p:List MemPlace} (E:Value.okWide Tryz.prog W .any k 27 v) (h:DataW.Trod enc Tryz.prog W 0 (fun _=>true) true 27 v d p):
  ∃(C:bN) (q:Option Addr) (m u:Nat) (s:Option Addr) (A cW:Nat) (o:Option Addr) (y t:Nat) (r:Option Addr) (z w:Nat),v= .agg ⟨C.enc++[.slice q m u,.slice s A cW,.slice o y t,.slice r z w]⟩/\m<=maxLen/\Ed i4 W q m u/\jQ i1 W s A cW/\jQ i1 W o y t/\jQ i1 W r z w:=by
 have j:=Tryz.underlying27
 obtain⟨l,rfl,F⟩:=oe j E
 rw[bg] at F
 have x:=Jf (i:=0) (n:=8) j rfl y2 h
 obtain⟨q,m,u,J,P,hP⟩:=Jp (i:=1) (n:=8) j rfl Tryz.underlying24 Tryz.underlying77 ve rf aAo mw (by decide) h
 obtain⟨s,A,cW,K,O⟩:=vB (i:=2) (n:=8) j rfl Tryz.underlying25 Qw Q2 K8 (by decide) h
 obtain⟨o,y,t,L,M⟩:=vB (i:=3) (n:=8) j rfl Tryz.underlying25 Qw Q2 K8 (by decide) h
 obtain⟨r,z,w,D,N⟩:=vB (i:=4) (n:=8) j rfl Tryz.underlying25 Qw Q2 K8 (by decide) h
 have e:=aE4 F J K L D
 have x:Flat i7 ((l.drop 0).take (Tryz.prog.cellsOf 23)):=x
 rw[s6,List.drop_zero] at x
 obtain⟨a,b,c,G,I,f,g,B⟩:=uo x
 rw[B] at e
 exact⟨⟨a,b,c,G,I,f,g⟩,q,m,u,s,A,cW,o,y,t,r,z,w,by rw[e];rfl,P,hP,O,M,N⟩
theorem Qs {_G:Bg} {_W:World} {_v:Value} {n:Nat} {at':Nat->List Value} (a:∀i,i<n->Flat i1 (at' i)):∃l:List Int,l.length=n/\∀G v,uA G 1 v n at'->A.Hh G v l:=by
 obtain⟨l,c,_,k⟩:=Di (W:=1) (f:=fun x:Int=>[I x]) (R:=fun _=>True) (fun i b=>aCl (a i b));exact⟨l,c,fun G v d=>k G v d⟩
theorem aAp {n:Nat} {at':Nat->List Value} (a:∀i,i<n->Flat i4 (at' i)):∃l:List Ins,l.length=n/\∀G v,uA G 4 v n at'->A.T2 G v l:=by
 obtain⟨l,c,_,k⟩:=Di (W:=4) (f:=Ins.enc) (R:=fun _=>True) (fun i b=>xt (a i b));exact⟨l,c,fun G v d=>k G v d⟩
theorem sq {y:Nat} {W:World} {a:Option Addr} {len cap:Nat} {r:OB} {rs:List OB} {t:Nat->Value} {vs:List Value} {ns:List Nat} {at':Nat->Nat->List Value} (d:aGg Pr W i4 y a len cap r rs t vs ns at'):
  ∃z:List (List Ins),z.length=len/\∀(G:Bg) k,k<G.base->G.old k=r.1->(∀i x,rs[i]?=some x->y+i<G.base/\G.old (y+i)=x.1)->
   ∃q:List Value,q.length=z.length/\uA G 1 (t k) (q.map fun x=>[x]).length (fun i=>(q.map fun x=>[x]).getD i [])/\∀(i:Nat) (v:Value) (p:List Ins),q[i]?=some v->z[i]?=some p->A.T2 G v p:=by
 have f:∀i,∃l:List Ins,∀n,ns[i]?=some n->∀G v,uA G 4 v n (at' i)->A.T2 G v l:=fun i=>by
  cases h:ns[i]? with
  |none=>exact⟨[],fun n d=>by cases d⟩
  |some n=>
   obtain⟨l,_,k⟩:=aAp (d.flat i n h);exact⟨l,fun O u=>by cases u;exact k⟩
 refine⟨(List.range len).map fun i=>(f i).choose,by simp,fun G k L J g=>?_⟩
 obtain⟨M,_,N⟩:=d.old G k L J g
 refine⟨vs,by simp[d.lvs],?_,fun i v p D C=>?_⟩
 .rw[List.length_map,d.lvs];obtain⟨a,c,e,K⟩:=M;refine⟨a,c,e,fun i B=>?_⟩;obtain⟨b,o,cells,E,F,H,I⟩:=K i B;refine⟨b,o,cells,E,F,H.trans ?_,I⟩;have s:i<vs.length:=by rw[d.lvs];exact B
  simp[List.getD_eq_getElem?_getD,List.getElem?_eq_getElem s]
 .have j:i<len:=by have:=(List.getElem?_eq_some_iff.1 D).1;rw[d.lvs] at this;exact this
  have w:p=(f i).choose:=by
   rw[List.getElem?_map,List.getElem?_range j] at C;simpa using C.symm
  subst w
  have m:ns[i]?=some (ns[i]'(by rw[d.iC];exact j)):=List.getElem?_eq_getElem _
  exact(f i).choose_spec _ m G v (N i v _ D m).1
theorem aA7:Tryz.prog.cellsOf 62=i4.length:=by kernel_rfl
theorem aBz {l:List Value} (e:Flat i4 l):∃x:Do,l=x.enc/\True:=by
 obtain⟨a,b,c,d,rfl⟩:=aHc e;exact⟨⟨a,b,c,d⟩,rfl,trivial⟩
theorem af {n:Nat} {at':Nat->List Value} (a:∀i,i<n->Flat i4 (at' i)):∃l:List Do,l.length=n/\∀G v,uA G 4 v n at'->Wi G v l:=by
 obtain⟨l,c,_,k⟩:=Di (W:=4) (f:=Do.enc) (R:=fun _=>True) (fun i b=>aBz (a i b));exact⟨l,c,fun G v d=>k G v d⟩
theorem uz {a:List (Option IntKind)} {W:World}:jQ a W none 0 0:= .inl ⟨rfl,rfl,rfl⟩
theorem Vk {W:World} (M:Gl W) {C:bN} {B E w D t u:Option Addr} {s J lW cW Z I lV L X F Y H:Nat} (hm:s<=maxLen) (hP:Ed i4 W B s J) (hW:jQ i1 W E lW cW) (hO:jQ i1 W w Z I) (hV:jQ i1 W D lV L) (hE:jQ i4 W t X F) (hF:jQ i4 W u Y H) {f:FuncId}
  (mk:Value->Value->Value->List Value) (P:∀ρ c c' d d' e e',aF ρ c c'->aF ρ d d'->aF ρ e e'->aU ρ (mk c d e) (mk c' d' e'))
  (Q:∀(G:Bg) (h:AH) (pv wv ov vv lv nv:Value) (ps:List (List Ins)) (ws os vs:List Int) (l n:List Do),ps.length<=9223372036854775807->Gb G->Ob G 1 Go.Is.yM->A.jl G pv wv ov vv ps ws os vs->Wi G lv l->Wi G nv n->Hs G h []->Cl Pr K f (mk (.agg ⟨Py C pv wv ov vv⟩) lv nv) h fun v _=>v= .bool true):
  Calls Pr f ⟨mk (.agg ⟨C.enc++[.slice B s J,.slice E lW cW,.slice w Z I,.slice D lV L]⟩) (.slice t X F) (.slice u Y H)⟩ W fun e W'=>e= .returned (.bool true)/\Below W.heap.size W W':=by
 obtain⟨q,tw,bw,vw,μ,fw,ow⟩:=wK Pr hW
 obtain⟨ro,to,bo,vo,θ,fo,oo⟩:=wK Pr hO
 obtain⟨rv,tv,bv,δ,κ,fv,γ⟩:=wK Pr hV
 obtain⟨rl,tl,bl,vl,ζ,fl,ol⟩:=wK Pr hE
 obtain⟨rm,tm,bm,vm,η,fm,om⟩:=wK Pr hF
 obtain⟨rp,j,tp,vs,ns,ι,r⟩:=mf Pr 10 hP
 obtain⟨β,π,kw⟩:=Qs (_G:=⟨0,fun _=>none⟩) (_W:=W) (_v:=undef) fw
 obtain⟨α,ξ,ko⟩:=Qs (_G:=⟨0,fun _=>none⟩) (_W:=W) (_v:=undef) fo
 obtain⟨lvs,ο,kv⟩:=Qs (_G:=⟨0,fun _=>none⟩) (_W:=W) (_v:=undef) fv
 obtain⟨le,hle,ke⟩:=af fl
 obtain⟨lf,ν,kf⟩:=af fm
 obtain⟨ps,U,kp⟩:=sq r
 have N:=M
 have h4:=Y5 M
 obtain⟨⟨e0,z0,h0⟩,⟨e1,z1,h1⟩,⟨e2,z2,h2⟩,⟨e3,z3,h3⟩⟩:=M
 let R:List OB:=q::ro::rv::rl::rm::rp::j
 have hR:∀i x,j[i]?=some x->R[6+i]?=some x:=fun i x a=>by
  rw[Nat.add_comm];exact a
 have reads:Reads Pr (4+R.length) (yU 4 (glM e0 z0 e1 z1 e2 z2 e3 z3) R) (sH 4 R) W:=iq (by rw[Uv];exact Nat.le_refl _) h4 (aB3 h0 h1 h2 h3) (fun x a=>by
  rcases List.mem_cons.1 a with rfl|a;exact bw.at' _;rcases List.mem_cons.1 a with rfl|a;exact bo.at' _;rcases List.mem_cons.1 a with rfl|a;exact bv.at' _;rcases List.mem_cons.1 a with rfl|a;exact bl.at' _;rcases List.mem_cons.1 a with rfl|a;exact bm.at' _;rcases List.mem_cons.1 a with rfl|a;exact r.out _ fun i y hy=>by
   have:=tA (g:=4) (hR i y hy);rwa [show 4+(6+i)=10+i by omega] at this
  exact(r.ok x a).at' _)
 have ε:R.length=6+j.length:=by show j.length+1+1+1+1+1+1=_;omega
 let G:Bg:=⟨4+R.length,yU 4 (glM e0 z0 e1 z1 e2 z2 e3 z3) R⟩
 have m:∀i x,R[i]?=some x->4+i<G.base/\G.old (4+i)=x.1:=fun i x a=>⟨by have:=(List.getElem?_eq_some_iff.1 a).1;show 4+i<4+R.length;omega,r8 a⟩
 have gw:=m 0 q rfl
 have go:=m 1 ro rfl
 have gv:=m 2 rv rfl
 have gl:=m 3 rl rfl
 have gm:=m 4 rm rfl
 have gp:=m 5 rp rfl
 obtain⟨vi,V,T,S⟩:=kp G 9 gp.1 gp.2 (fun i x a=>by
  have:=m (6+i) x (hR i x a);rwa [show 4+(6+i)=10+i by omega] at this)
 have gb:∀(b:Nat) (l:List Value) (e:TypeId) (z:Nat×Nat),b<4->glM e0 z0 e1 z1 e2 z2 e3 z3 b=some (.cells l e z true)->Ob G b l:=fun b l e z O hg=>⟨by show b<4+R.length;omega,e,z,true,(te (g:=4) (i:=b) (gl:=glM e0 z0 e1 z1 e2 z2 e3 z3) (rs:=R) O).trans hg⟩
 have ok:=Q G (Go.Ab.start G.base G.old) (tp 9) (tw 4) (to 5) (tv 6) (tl 7) (tm 8) ps β α lvs le lf (by rw[U];unfold maxLen at hm;omega)
  ⟨by first|exact gb 0 _ e0 z0 (by omega) rfl|(rw[<-aGk];exact gb 0 _ e0 z0 (by omega) rfl),by first|exact gb 2 _ e2 z2 (by omega) rfl|(rw[<-aG1];exact gb 2 _ e2 z2 (by omega) rfl),by first|exact gb 3 _ e3 z3 (by omega) rfl|(rw[<-aH9];exact gb 3 _ e3 z3 (by omega) rfl)⟩ (by first|exact gb 1 _ e1 z1 (by omega) rfl|(rw[<-aG8];exact gb 1 _ e1 z1 (by omega) rfl))
  ⟨⟨vi,V,T,S⟩,kw G _ (ow G 4 gw.1 gw.2).1,ko G _ (oo G 5 go.1 go.2).1,kv G _ (γ G 6 gv.1 gv.2).1⟩ (ke G _ (ol G 7 gl.1 gl.2).1) (kf G _ (om G 8 gm.1 gm.2).1) vq
 have p:aU (sH 4 R) (mk (.agg ⟨Py C (tp 9) (tw 4) (to 5) (tv 6)⟩) (tl 7) (tm 8)) (mk (.agg ⟨C.enc++[.slice B s J,.slice E lW cW,.slice w Z I,.slice D lV L]⟩) (.slice t X F) (.slice u Y H)):=by
  refine P _ _ _ _ _ _ _ ?_ (vl _ 7 (tA (g:=4) (i:=3) (rs:=R) rfl)) (vm _ 8 (tA (g:=4) (i:=4) (rs:=R) rfl));simp only[aF];exact⟨_,aU.append (qH _ (by rfl)) (aU.cons (r.rel _ 9 (tA (g:=4) (i:=5) (rs:=R) rfl)) (aU.cons (vw _ 4 (tA (g:=4) (i:=0) (rs:=R) rfl)) (aU.cons (vo _ 5 (tA (g:=4) (i:=1) (rs:=R) rfl)) (aU.cons (δ _ 6 (tA (g:=4) (i:=2) (rs:=R) rfl)) aU.nil)))),rfl⟩
 have:=S6 (aJc W.heap.size h4) N reads p ok
 intro cs
 obtain⟨e,w',fr,⟨ρ',o,h',v',he,k,hq,_,O⟩,a⟩:=this cs
 rw[hq] at k
 simp only[aF] at k
 exact⟨e,w',fr,⟨by rw[he,k],O⟩,a⟩
end
end Go.Proofs.YtmhapehobfnoiaaGreatDoor
