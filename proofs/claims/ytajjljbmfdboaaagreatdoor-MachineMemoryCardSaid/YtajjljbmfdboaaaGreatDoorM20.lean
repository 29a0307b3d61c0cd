/- MachineMemory: for every input the law answers true, and each argument reads afterwards as it read before. No condition but the listed variables' text. -/
import Derived.Test.YtajjljbmfdboaaaGreatDoorM18
import Derived.Test.YtajjljbmfdboaaaGreatDoorM19
import Derived.Test.YtajjljbmfdboaaaGreatDoorM15
import Derived.Test.YtajjljbmfdboaaaGreatDoorM10
import Derived.Test.YtajjljbmfdboaaaGreatDoorM17
namespace Go.Proofs.YtajjljbmfdboaaaGreatDoor
open Go Go.Ab
section
set_option maxRecDepth 100000
variable (e0:TypeId) (z0:Nat×Nat) (e1:TypeId) (z1:Nat×Nat) (e2:TypeId) (z2:Nat×Nat) (e3:TypeId) (z3:Nat×Nat)
theorem V2:((Yj Pr K1 8000 (.call 25 []) (st4 e0 z0 e1 z1 e2 z2 e3 z3)).any fun r=>oI r.1.v (.bool true))=true:=by kernel_rfl
end
end Go.Proofs.YtajjljbmfdboaaaGreatDoor
namespace Go.Proofs.YtajjljbmfdboaaaGreatDoor
open Go Go.Ab Go.Hm Go.Is Go.At Go.Mc Go.RowKit
section
noncomputable def K25:FuncId->List Value->Option jE:=kn K0 25 (.bool true)
theorem aJu:K=K25:=rfl
noncomputable def aK7 (B:Nat) (hB:4<=B):Ctx Pr B K:=by rw[aJu];exact(aFf B hB).add 25 (.bool true) rfl fun _ a=>wj V2 a
theorem aIl:_root_.Go.Proofs.YtajjljbmfdboaaaGreatDoor.fV=Go.Hm.fV:=by kernel_rfl
theorem aI3:_root_.Go.Proofs.YtajjljbmfdboaaaGreatDoor.wR=Go.Is.wR:=by kernel_rfl
theorem aH5:_root_.Go.Proofs.YtajjljbmfdboaaaGreatDoor.sy=Go.Nt.yI:=by kernel_rfl
theorem aGv:_root_.Go.Proofs.YtajjljbmfdboaaaGreatDoor.wu=Go.Ct.jN:=by kernel_rfl
abbrev i7:List (Option IntKind):=[some .i64,some .i64,some .i64,some .i64,some .i64,some .i64,some .i64]
abbrev i4:List (Option IntKind):=[some .i64,some .i64,some .i64,some .i64]
abbrev i1:List (Option IntKind):=[some .i64]
theorem aBg:sR Tryz.prog 8 58=some i7:=by kernel_rfl
theorem aB6:sR Tryz.prog 8 86=some i4:=by kernel_rfl
theorem Qn:sR Tryz.prog 8 3=some i1:=by kernel_rfl
theorem qq:Tryz.prog.cellsOf 86=i4.length:=by kernel_rfl
theorem Kr:Tryz.prog.cellsOf 3=i1.length:=by kernel_rfl
theorem qd:Tryz.prog.cellsOf 58=7:=by kernel_rfl
theorem Si:Tryz.prog.cellsOf 60=1:=by kernel_rfl
theorem yk:Tryz.prog.cellsOf 78=1:=by kernel_rfl
theorem qw:Tryz.prog.cellsOf 59=1:=by kernel_rfl
theorem o6:Tryz.prog.cellsOf 62=11:=by kernel_rfl
theorem qe {l:List Value} (n:Flat i7 l):∃a b c d e f g:Int,l=[I a,I b,I c,I d,I e,I f,I g]:=by
 obtain⟨a,v,e1,o⟩:=iD n;obtain⟨b,w,e2,p⟩:=iD o;obtain⟨c,x,e3,q⟩:=iD p;obtain⟨d,y,h,r⟩:=iD q;obtain⟨e,z,i,s⟩:=iD r;obtain⟨f,A,j,t⟩:=iD s;obtain⟨g,B,k,u⟩:=iD t;have m:=Gm u;subst m k j i h e3 e2 e1;exact⟨a,b,c,d,e,f,g,rfl⟩
theorem y8 {l:List Value} (g:Flat i4 l):∃x:Ins,l=x.enc/\True:=by
 obtain⟨a,m,e1,h⟩:=iD g;obtain⟨b,n,e2,i⟩:=iD h;obtain⟨c,o,e3,j⟩:=iD i;obtain⟨d,p,e,k⟩:=iD j;have f:=Gm k;subst f e e3 e2 e1;exact⟨⟨a,b,c,d⟩,rfl,trivial⟩
theorem aDt {l:List Value} (b:Flat i1 l):∃x:Int,l=[I x]/\True:=by
 obtain⟨a,d,e1,c⟩:=iD b;have e2:=Gm c;subst e2 e1;exact⟨a,rfl,trivial⟩
theorem aEz {l:List Value} (h:l.length=11) {a b c d:Value} (j:l[7]?=some a) (k:l[8]?=some b) (m:l[9]?=some c) (f:l[10]?=some d):l=l.take 7++[a,b,c,d]:=by
 apply List.ext_getElem?;intro i;by_cases n:i<7;rw[List.getElem?_append_left (by simp;omega),List.getElem?_take_of_lt n];rw[List.getElem?_append_right (by simp;omega)];have e:(l.take 7).length=7:=by simp;omega
 rw[e];by_cases g:i<11;have:i=7\/i=8\/i=9\/i=10:=by omega
 rcases this with rfl|rfl|rfl|rfl;exact j;exact k;exact m;exact f;rw[List.getElem?_eq_none (by omega),List.getElem?_eq_none (by simp;omega)]
set_option maxRecDepth 100000 in
theorem j2 {H:Type} {enc:TypeId×Value->H} {W:World} {k:Nat} {v:Value} {d:DataW H} {p:List MemPlace} (E:Value.okWide Tryz.prog W .any k 62 v) (h:DataW.Trod enc Tryz.prog W 0 (fun _=>true) true 62 v d p):
  ∃(C:bM) (q:Option Addr) (m u:Nat) (s:Option Addr) (A cW:Nat) (o:Option Addr) (y t:Nat) (r:Option Addr) (z w:Nat),v= .agg ⟨C.enc++[.slice q m u,.slice s A cW,.slice o y t,.slice r z w]⟩/\m<=maxLen/\E9 i4 W q m u/\jW i1 W s A cW/\jW i1 W o y t/\jW i1 W r z w:=by
 have j:=Tryz.underlying62
 obtain⟨l,rfl,F⟩:=yl j E
 rw[o6] at F
 have x:=Kx (i:=0) (n:=8) j rfl aBg h
 obtain⟨q,m,u,J,P,hP⟩:=Ly (i:=1) (n:=8) j rfl Tryz.underlying59 Tryz.underlying78 qw yk aB6 qq (by decide) h
 obtain⟨s,A,cW,K,O⟩:=vL (i:=2) (n:=8) j rfl Tryz.underlying60 Si Qn Kr (by decide) h
 obtain⟨o,y,t,L,M⟩:=vL (i:=3) (n:=8) j rfl Tryz.underlying60 Si Qn Kr (by decide) h
 obtain⟨r,z,w,D,N⟩:=vL (i:=4) (n:=8) j rfl Tryz.underlying60 Si Qn Kr (by decide) h
 have e:=aEz F J K L D
 have x:Flat i7 ((l.drop 0).take (Tryz.prog.cellsOf 58)):=x
 rw[qd,List.drop_zero] at x
 obtain⟨a,b,c,G,I,f,g,B⟩:=qe x
 rw[B] at e
 exact⟨⟨a,b,c,G,I,f,g⟩,q,m,u,s,A,cW,o,y,t,r,z,w,by rw[e];rfl,P,hP,O,M,N⟩
theorem Sn {_G:Bg} {_W:World} {_v:Value} {n:Nat} {at':Nat->List Value} (a:∀i,i<n->Flat i1 (at' i)):∃l:List Int,l.length=n/\∀G v,uU G 1 v n at'->A.I0 G v l:=by
 obtain⟨l,c,_,k⟩:=Eu (W:=1) (f:=fun x:Int=>[I x]) (R:=fun _=>True) (fun i b=>aDt (a i b));exact⟨l,c,fun G v d=>k G v d⟩
theorem aBh {n:Nat} {at':Nat->List Value} (a:∀i,i<n->Flat i4 (at' i)):∃l:List Ins,l.length=n/\∀G v,uU G 4 v n at'->A.Vd G v l:=by
 obtain⟨l,c,_,k⟩:=Eu (W:=4) (f:=Ins.enc) (R:=fun _=>True) (fun i b=>y8 (a i b));exact⟨l,c,fun G v d=>k G v d⟩
theorem yz {y:Nat} {W:World} {a:Option Addr} {len cap:Nat} {r:OB} {rs:List OB} {t:Nat->Value} {vs:List Value} {ns:List Nat} {at':Nat->Nat->List Value} (d:aHr Pr W i4 y a len cap r rs t vs ns at'):
  ∃z:List (List Ins),z.length=len/\∀(G:Bg) k,k<G.base->G.old k=r.1->(∀i x,rs[i]?=some x->y+i<G.base/\G.old (y+i)=x.1)->
   ∃q:List Value,q.length=z.length/\uU G 1 (t k) (q.map fun x=>[x]).length (fun i=>(q.map fun x=>[x]).getD i [])/\∀(i:Nat) (v:Value) (p:List Ins),q[i]?=some v->z[i]?=some p->A.Vd G v p:=by
 have f:∀i,∃l:List Ins,∀n,ns[i]?=some n->∀G v,uU G 4 v n (at' i)->A.Vd G v l:=fun i=>by
  cases h:ns[i]? with
  |none=>exact⟨[],fun n d=>by cases d⟩
  |some n=>
   obtain⟨l,_,k⟩:=aBh (d.flat i n h);exact⟨l,fun O u=>by cases u;exact k⟩
 refine⟨(List.range len).map fun i=>(f i).choose,by simp,fun G k L J g=>?_⟩
 obtain⟨M,_,N⟩:=d.old G k L J g
 refine⟨vs,by simp[d.lvs],?_,fun i v p D C=>?_⟩
 .rw[List.length_map,d.lvs];obtain⟨a,c,e,K⟩:=M;refine⟨a,c,e,fun i B=>?_⟩;obtain⟨b,o,cells,E,F,H,I⟩:=K i B;refine⟨b,o,cells,E,F,H.trans ?_,I⟩;have s:i<vs.length:=by rw[d.lvs];exact B
  simp[List.getD_eq_getElem?_getD,List.getElem?_eq_getElem s]
 .have j:i<len:=by have:=(List.getElem?_eq_some_iff.1 D).1;rw[d.lvs] at this;exact this
  have w:p=(f i).choose:=by
   rw[List.getElem?_map,List.getElem?_range j] at C;simpa using C.symm
  subst w
  have m:ns[i]?=some (ns[i]'(by rw[d.kL];exact j)):=List.getElem?_eq_getElem _
  exact(f i).choose_spec _ m G v (N i v _ D m).1
theorem zp:Tryz.prog.cellsOf 23=i4.length:=by kernel_rfl
theorem aE7 {l:List Value} (e:Flat i4 l):∃x:Do,l=x.enc/\True:=by
 obtain⟨a,b,c,d,rfl⟩:=aHk e;exact⟨⟨a,b,c,d⟩,rfl,trivial⟩
theorem df {n:Nat} {at':Nat->List Value} (a:∀i,i<n->Flat i4 (at' i)):∃l:List Do,l.length=n/\∀G v,uU G 4 v n at'->bg G v l:=by
 obtain⟨l,c,_,k⟩:=Eu (W:=4) (f:=Do.enc) (R:=fun _=>True) (fun i b=>aE7 (a i b));exact⟨l,c,fun G v d=>k G v d⟩
theorem ur {a:List (Option IntKind)} {W:World}:jW a W none 0 0:= .inl ⟨rfl,rfl,rfl⟩
theorem Zj {W:World} (M:Gl W) {C:bM} {B E w D t u:Option Addr} {s J lW cW Z I lV L X F Y H:Nat} (hm:s<=maxLen) (hP:E9 i4 W B s J) (hW:jW i1 W E lW cW) (hO:jW i1 W w Z I) (hV:jW i1 W D lV L) (hE:jW i4 W t X F) (hF:jW i4 W u Y H) {f:FuncId}
  (mk:Value->Value->Value->List Value) (P:∀ρ c c' d d' e e',aF ρ c c'->aF ρ d d'->aF ρ e e'->aY ρ (mk c d e) (mk c' d' e'))
  (Q:∀(G:Bg) (h:AH) (pv wv ov vv lv nv:Value) (ps:List (List Ins)) (ws os vs:List Int) (l n:List Do),ps.length<=9223372036854775807->Gb G->Ob G 1 Go.Is.wR->A.jd G pv wv ov vv ps ws os vs->bg G lv l->bg G nv n->Hs G h []->Cl Pr K f (mk (.agg ⟨Te C pv wv ov vv⟩) lv nv) h fun v _=>v= .bool true):
  Calls Pr f ⟨mk (.agg ⟨C.enc++[.slice B s J,.slice E lW cW,.slice w Z I,.slice D lV L]⟩) (.slice t X F) (.slice u Y H)⟩ W fun e W'=>e= .returned (.bool true)/\Below W.heap.size W W':=by
 obtain⟨q,tw,bw,vw,μ,fw,ow⟩:=xK Pr hW
 obtain⟨ro,to,bo,vo,θ,fo,oo⟩:=xK Pr hO
 obtain⟨rv,tv,bv,δ,κ,fv,γ⟩:=xK Pr hV
 obtain⟨rl,tl,bl,vl,ζ,fl,ol⟩:=xK Pr hE
 obtain⟨rm,tm,bm,vm,η,fm,om⟩:=xK Pr hF
 obtain⟨rp,j,tp,vs,ns,ι,r⟩:=xp Pr 10 hP
 obtain⟨β,π,kw⟩:=Sn (_G:=⟨0,fun _=>none⟩) (_W:=W) (_v:=undef) fw
 obtain⟨α,ξ,ko⟩:=Sn (_G:=⟨0,fun _=>none⟩) (_W:=W) (_v:=undef) fo
 obtain⟨lvs,ο,kv⟩:=Sn (_G:=⟨0,fun _=>none⟩) (_W:=W) (_v:=undef) fv
 obtain⟨le,hle,ke⟩:=df fl
 obtain⟨lf,ν,kf⟩:=df fm
 obtain⟨ps,U,kp⟩:=yz r
 have N:=M
 have h4:=Qo M
 obtain⟨⟨e0,z0,h0⟩,⟨e1,z1,h1⟩,⟨e2,z2,h2⟩,⟨e3,z3,h3⟩⟩:=M
 let R:List OB:=q::ro::rv::rl::rm::rp::j
 have hR:∀i x,j[i]?=some x->R[6+i]?=some x:=fun i x a=>by
  rw[Nat.add_comm];exact a
 have reads:Reads Pr (4+R.length) (zK 4 (glM e0 z0 e1 z1 e2 z2 e3 z3) R) (sM 4 R) W:=j4 (by rw[Uf];exact Nat.le_refl _) h4 (vh h0 h1 h2 h3) (fun x a=>by
  rcases List.mem_cons.1 a with rfl|a;exact bw.at' _;rcases List.mem_cons.1 a with rfl|a;exact bo.at' _;rcases List.mem_cons.1 a with rfl|a;exact bv.at' _;rcases List.mem_cons.1 a with rfl|a;exact bl.at' _;rcases List.mem_cons.1 a with rfl|a;exact bm.at' _;rcases List.mem_cons.1 a with rfl|a;exact r.out _ fun i y hy=>by
   have:=tR (g:=4) (hR i y hy);rwa [show 4+(6+i)=10+i by omega] at this
  exact(r.ok x a).at' _)
 have ε:R.length=6+j.length:=by show j.length+1+1+1+1+1+1=_;omega
 let G:Bg:=⟨4+R.length,zK 4 (glM e0 z0 e1 z1 e2 z2 e3 z3) R⟩
 have m:∀i x,R[i]?=some x->4+i<G.base/\G.old (4+i)=x.1:=fun i x a=>⟨by have:=(List.getElem?_eq_some_iff.1 a).1;show 4+i<4+R.length;omega,rb a⟩
 have gw:=m 0 q rfl
 have go:=m 1 ro rfl
 have gv:=m 2 rv rfl
 have gl:=m 3 rl rfl
 have gm:=m 4 rm rfl
 have gp:=m 5 rp rfl
 obtain⟨vi,V,T,S⟩:=kp G 9 gp.1 gp.2 (fun i x a=>by
  have:=m (6+i) x (hR i x a);rwa [show 4+(6+i)=10+i by omega] at this)
 have gb:∀(b:Nat) (l:List Value) (e:TypeId) (z:Nat×Nat),b<4->glM e0 z0 e1 z1 e2 z2 e3 z3 b=some (.cells l e z true)->Ob G b l:=fun b l e z O hg=>⟨by show b<4+R.length;omega,e,z,true,(sb (g:=4) (i:=b) (gl:=glM e0 z0 e1 z1 e2 z2 e3 z3) (rs:=R) O).trans hg⟩
 have ok:=Q G (Go.Ab.start G.base G.old) (tp 9) (tw 4) (to 5) (tv 6) (tl 7) (tm 8) ps β α lvs le lf (by rw[U];unfold maxLen at hm;omega)
  ⟨by first|exact gb 0 _ e0 z0 (by omega) rfl|(rw[<-aIl];exact gb 0 _ e0 z0 (by omega) rfl),by first|exact gb 2 _ e2 z2 (by omega) rfl|(rw[<-aH5];exact gb 2 _ e2 z2 (by omega) rfl),by first|exact gb 3 _ e3 z3 (by omega) rfl|(rw[<-aGv];exact gb 3 _ e3 z3 (by omega) rfl)⟩ (by first|exact gb 1 _ e1 z1 (by omega) rfl|(rw[<-aI3];exact gb 1 _ e1 z1 (by omega) rfl))
  ⟨⟨vi,V,T,S⟩,kw G _ (ow G 4 gw.1 gw.2).1,ko G _ (oo G 5 go.1 go.2).1,kv G _ (γ G 6 gv.1 gv.2).1⟩ (ke G _ (ol G 7 gl.1 gl.2).1) (kf G _ (om G 8 gm.1 gm.2).1) u9
 have p:aY (sM 4 R) (mk (.agg ⟨Te C (tp 9) (tw 4) (to 5) (tv 6)⟩) (tl 7) (tm 8)) (mk (.agg ⟨C.enc++[.slice B s J,.slice E lW cW,.slice w Z I,.slice D lV L]⟩) (.slice t X F) (.slice u Y H)):=by
  refine P _ _ _ _ _ _ _ ?_ (vl _ 7 (tR (g:=4) (i:=3) (rs:=R) rfl)) (vm _ 8 (tR (g:=4) (i:=4) (rs:=R) rfl));simp only[aF];exact⟨_,aY.append (pY _ (by rfl)) (aY.cons (r.rel _ 9 (tR (g:=4) (i:=5) (rs:=R) rfl)) (aY.cons (vw _ 4 (tR (g:=4) (i:=0) (rs:=R) rfl)) (aY.cons (vo _ 5 (tR (g:=4) (i:=1) (rs:=R) rfl)) (aY.cons (δ _ 6 (tR (g:=4) (i:=2) (rs:=R) rfl)) aY.nil)))),rfl⟩
 have:=Jz (aK7 W.heap.size h4) N reads p ok
 intro cs
 obtain⟨e,w',fr,⟨ρ',o,h',v',he,k,hq,_,O⟩,a⟩:=this cs
 rw[hq] at k
 simp only[aF] at k
 exact⟨e,w',fr,⟨by rw[he,k],O⟩,a⟩
end
section
theorem D2 (os:Os) (args:Array Value):laidMetH Tryz.prog Rows.machineMemoryRow.laid ((World.doorLaid Tryz.prog 4000 os).forCall (fun _ _=>0) ⟨#[],args,[]⟩).memory:=
 laidMetH_of_parts3 (fuel:=8) (laidMet_of_run' 8 (by kernel_rfl) (by kernel_rfl)) (by kernel_rfl) (by kernel_rfl)
set_option maxRecDepth 100000 in
theorem Aw (os:Os) (started:os.Started) (H:Type) (enc:TypeId×Value->H):
  ReturnsInHanded {} Tryz.checked os 10 .any (fun w f=>(Rows.machineMemorySpec.pre enc Tryz.prog Tryz.f10 [] false w f/\laidMetH Tryz.prog Rows.machineMemoryRow.laid w)/\sizedMet enc Tryz.prog Tryz.f10 (OpenSpec.ofChange Rows.machineMemorySpec) false w f)
   (Rows.machineMemorySpec.post enc Tryz.prog Tryz.f10 false true false false):=by
 refine Z7 (C:=Tryz.checked) started own (by kernel_rfl) Tryz.func10 laidOut (by kernel_rfl) rfl Tryz.underlying4 rfl (fun p j=>by
   match p,j with
   |[d1,d2],_=>rfl)
  (ChangeSpec.witness_shaped (enc:=enc) (C:=Tryz.checked) (os:=os) (X:=fun w _=>laidMetH Tryz.prog Rows.machineMemoryRow.laid w) false (World.doorLaid Tryz.prog 4000 os) #[.agg #[.int .i64 0,.int .i64 0,.int .i64 0,.int .i64 0,.int .i64 0,.int .i64 0,.int .i64 0,.slice none 0 0,.slice none 0 0,.slice none 0 0,.slice none 0 0],.slice none 0 0] 8 rfl (World.shaped_of_RefB (by kernel_rfl) (by kernel_rfl)) (by kernel_rfl) (by kernel_rfl) (by kernel_rfl) (D2 os _)) ?_
 intro W o f p K hA g z
 rw[show(Tryz.f10.params.toList)=[62,35] from by rw[Tryz.params10]] at hA
 rw[Tryz.params10] at g
 obtain⟨v0,N,s,u,p0,q0,rfl,rfl,rfl,x,L⟩:=ChangeShapes.trodAll_cons hA
 obtain⟨v1,O,t,v,p1,q1,rfl,rfl,rfl,y,M⟩:=ChangeShapes.trodAll_cons L
 obtain⟨rfl,rfl,rfl⟩:=ChangeShapes.trodAll_nil M
 obtain⟨C,Q,lP,V,S,lW,cW,P,lO,U,R,lV,Y,rfl,E,hP,D,A,B⟩:=j2 (g 0 _ v0 rfl rfl) x
 obtain⟨q,J,r,rfl,i⟩:=iy Tryz.underlying35 aDm zp (by decide) (g 1 _ v1 rfl rfl) y
 have k:Gl W:=aHi (by kernel_rfl) z (by simp[Rows.machineMemoryRow]) (by simp[Rows.machineMemoryRow]) (by simp[Rows.machineMemoryRow]) (by simp[Rows.machineMemoryRow])
 exact Zj k E hP D A B i ur (fun c d _=>[c,d]) (fun ρ c T d Z e e' a b _=>aY.cons a (aY.cons b aY.nil)) fun G h pv wv ov vv lv nv K ws os vs l n F hG k m j _ I=>Gv F hG k m j I fun _=>rfl
set_option maxRecDepth 100000
theorem H7:(Rows.machineMemoryRow.inPlace==Tryz.prog.inPlace 10)=true:=by kernel_rfl
theorem Hv:(Rows.machineMemoryRow.unfollowed==Tryz.prog.unfollowed 10)=true:=by kernel_rfl
theorem G3:(Rows.machineMemoryRow.recurses==Tryz.prog.recurses 10)=true:=by kernel_rfl
theorem Hr:(Rows.machineMemoryRow.named==Tryz.prog.varsNamed 10)=true:=by kernel_rfl
theorem Ea:false=Rows.machineMemoryRow.goesBy Tryz.prog:=by kernel_rfl
theorem sO:Tryz.prog.funcNamed "donjon/donjonlaw16.MachineMemory"=some 10:=by kernel_rfl
theorem A5:joinedFacts Tryz.prog 10 Tryz.f10 Rows.machineMemorySpec Rows.machineMemoryRow=true:=
 (nX (nX (nX (nX (nX (nX (nX (nX (nX (nX (nX (nX (nX (nX (nX (nX (nX (nX (nX (nX (nX (nX (nX (nX (nX (nX (nX (nX (nX (nX (nX (by kernel_rfl) laidOut) aE8) (by kernel_rfl)) (by kernel_rfl)) (by kernel_rfl)) aAi) (by kernel_rfl)) aAg) H7) Hv) G3) Hr) (by kernel_rfl)) (by kernel_rfl)) (by kernel_rfl)) (by kernel_rfl)) (by kernel_rfl)) (by kernel_rfl)) (by kernel_rfl)) (by kernel_rfl)) (by kernel_rfl)) aBb) (by kernel_rfl)) ze) aB5) aBr) aFv) (by kernel_rfl)) (by kernel_rfl)) (by kernel_rfl)) (by kernel_rfl))
theorem Dh:Rows.machineMemoryRow.holds Tryz.pinned (OpenSpec.ofChange Rows.machineMemorySpec):=
 OpenClaim.holds_of_wide 10 Tryz.f10 rfl rfl rfl rfl rfl rfl rfl ⟨rfl,rfl,rfl,rfl,rfl⟩ rfl rfl rfl rfl rfl sO Tryz.func10 A5
  (of_decide_eq_true (by kernel_rfl)) (by unfold Func.isWrapper;first|(rw[aLb (by decide+kernel)];kernel_rfl)|(rw[aLa (by decide+kernel)];exact⟨rfl,rfl⟩))
  (fun a started H enc _=>Aw a started H enc)
theorem machineMemory_proved:Rows.MachineMemoryCardSaid:=
 Claim7.holds_tied_plain_at .later [] Rows.machineMemoryCard.laidKinds true Rows.machineMemoryCard.stood.harness false
  Dh (fun _ h=>by cases h) (by kernel_rfl) (fun _ h=>by cases h) machineMemory_row_tie rfl ⟨rfl,rfl⟩ aF6 rfl
  (fun f d e b=>by
   obtain rfl:f=10:=Option.some.inj (sO.symm.trans e)|>.symm;obtain rfl:d=Tryz.f10:=(Option.some.inj (Tryz.func10.symm.trans b)).symm;exact⟨z7,fun j t c=>by
    rw[Tryz.params10] at c;have g:t∈[62,35]:=by simpa using Array.mem_of_getElem? c
    have a:([62,35].all fun u=> !Tryz.prog.wantsStandIn u)=true:=by kernel_rfl
    exact(show Tryz.prog.wantsStandIn t=false by simpa using List.all_eq_true.1 a t g)⟩)
  Ea
end
end Go.Proofs.YtajjljbmfdboaaaGreatDoor
