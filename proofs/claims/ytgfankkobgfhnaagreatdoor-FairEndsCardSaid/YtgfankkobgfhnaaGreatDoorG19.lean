/- A part of the proof. -/
import Derived.Test.YtgfankkobgfhnaaGreatDoorG18
import Derived.Test.YtgfankkobgfhnaaGreatDoorG13
import Derived.Test.YtgfankkobgfhnaaGreatDoorG8
set_option linter.all false
set_option maxRecDepth 100000
open Go Go.Ab
namespace Go.Proofs.Z
open Go.Proofs.YtgfankkobgfhnaaGreatDoor
open Go.RowKit
def sZ {a b:Bool} (c:a=true) (hb:b=true):(a&&b)=true:=by rw[c,hb];rfl
def aSw:mapsRowed Tryz.prog=true:=FD
def aOx:(Tryz.prog.stops==[])=true:=FD
def aNm:(Tryz.prog.stopKnobs==[])=true:=FD
def aM9:(Rows.fairEndsRow.plainKeys==Tryz.prog.plainKeys)=true:=FD
def aNf:Tryz.prog.stopsHeard=true:=FD
def aMk:Tryz.prog.mayEnter=true:=FD
def aOl:(Rows.fairEndsRow.lifted==Tryz.prog.liftsFinal)=true:=FD
def aTp:(Tryz.prog.make==some Rows.fairEndsRow.make)=true:=FD
def aTk:Tryz.prog.mainIs=some (Rows.fairEndsCard.stood.harness.1,Rows.fairEndsCard.stood.harness.2.toList):=FD
def aOf:false=Tryz.prog.looks []:=FD
end Go.Proofs.Z
variable {l vs:EU} {n:Nat} {W:World} {a:List (Option IntKind)} {t:Nat->Value}
namespace Go.Proofs.Z
open Go.Proofs.YtgfankkobgfhnaaGreatDoor
open Go.Hm Go.Is Go.At Go.Mc Go.RowKit
noncomputable def aYu (B:Nat) (hB:4<=B):Vz Pr B K:=aXt B hB
def aW4:_root_.Go.Proofs.Z.iF=Go.Hm.iF:=FD
def aW3:_root_.Go.Proofs.Z.xT=Go.Is.xT:=FD
def aWk:_root_.Go.Proofs.Z.aK4=Go.Nt.Eb:=FD
def aVp:_root_.Go.Proofs.Z.aHl=Go.Ct.oP:=FD
abbrev i7:List (Option IntKind):=[some .i64,some .i64,some .i64,some .i64,some .i64,some .i64,some .i64]
abbrev i4:List (Option IntKind):=[some .i64,some .i64,some .i64,some .i64]
abbrev i1:List (Option IntKind):=[some .i64]
def aMr:yY Tryz.prog 8 23=some i7:=FD
def aNj:yY Tryz.prog 8 49=some i4:=FD
def Zf:yY Tryz.prog 8 3=some i1:=FD
def aIv:Tryz.prog.cellsOf 49=i4.length:=FD
def R0:Tryz.prog.cellsOf 3=i1.length:=FD
def aG2:Tryz.prog.cellsOf 23=7:=FD
def Zc:Tryz.prog.cellsOf 25=1:=FD
def aFn:Tryz.prog.cellsOf 47=1:=FD
def aHa:Tryz.prog.cellsOf 24=1:=FD
def aDh:Tryz.prog.cellsOf 27=11:=FD
def aFi (p:rL i7 l):∃a b c d e f g:Int,l=[I a,I b,I c,I d,I e,I f,I g]:=by
 obtain⟨a,l1,h,q⟩:=lQ p;obtain⟨b,x,e2,r⟩:=lQ q;obtain⟨c,l3,i,s⟩:=lQ r;obtain⟨d,y,j,t⟩:=lQ s;obtain⟨e,z,k,u⟩:=lQ t;obtain⟨f,A,m,v⟩:=lQ u;obtain⟨g,B,n,w⟩:=lQ v;have o:=Mt w;subst o n m k j i e2 h;exact⟨a,b,c,d,e,f,g,rfl⟩
def aP6 (i:rL i4 l):∃x:iD,l=x.enc/\True:=by
 obtain⟨a,l1,e,j⟩:=lQ i;obtain⟨b,o,e2,k⟩:=lQ j;obtain⟨c,l3,f,m⟩:=lQ k;obtain⟨d,p,g,n⟩:=lQ m;have h:=Mt n;subst h g f e2 e;exact⟨⟨a,b,c,d⟩,rfl,trivial⟩
def aT3 (c:rL i1 l):∃x:Int,l=[I x]/\True:=by
 obtain⟨a,l1,b,d⟩:=lQ c;have e2:=Mt d;subst e2 b;exact⟨a,rfl,trivial⟩
def aS1 (h:l.length=11) {a b c d:Value} (j:l[7]?=some a) (k:l[8]?=some b) (m:l[9]?=some c) (f:l[10]?=some d):l=l.take 7++[a,b,c,d]:=by
 apply q6;intro i;by_cases n:i<7;rw[q5 FG,BI n];rw[oX FG];have e:(l.take 7).length=7:=FG
 rw[e];by_cases g:i<11;have:i=7\/i=8\/i=9\/i=10:=FA
 rcases this with rfl|rfl|rfl|rfl;exact j;exact k;exact m;exact f;rw[z1 FA,z1 FG]
set_option maxRecDepth 100000 in
def aCm {H:Type} {enc:TypeId×Value->H} {W:World} {base:Nat} {v:Value} {d:DataW H} {p:List MemPlace} (D:Value.okWide Tryz.prog W .any base 27 v) (h:DataW.Trod enc Tryz.prog W 0 (fun _=>true) true 27 v d p):
  ∃(C:bQ) (o:EX) (k t:Nat) (r:EX) (z cW:Nat) (m:EX) (x s:Nat) (q:EX) (y u:Nat),v= .agg ⟨C.enc++[.slice o k t,.slice r z cW,.slice m x s,.slice q y u]⟩/\k<=maxLen/\M8 i4 W o k t/\oD i1 W r z cW/\oD i1 W m x s/\oD i1 W q y u:=by
 have j:=Tryz.underlying27
 obtain⟨l,rfl,E⟩:=aGz j D
 rw[aDh] at E
 have w:=Uj (i:=0) (n:=8) j rfl aMr h
 obtain⟨o,k,t,I,O,hP⟩:=Sq (i:=1) (n:=8) j rfl Tryz.underlying24 Tryz.underlying47 aHa aFn aNj aIv FC h
 obtain⟨r,z,cW,J,N⟩:=Ck (i:=2) (n:=8) j rfl Tryz.underlying25 Zc Zf R0 FC h
 obtain⟨m,x,s,K,L⟩:=Ck (i:=3) (n:=8) j rfl Tryz.underlying25 Zc Zf R0 FC h
 obtain⟨q,y,u,B,M⟩:=Ck (i:=4) (n:=8) j rfl Tryz.underlying25 Zc Zf R0 FC h
 have e:=aS1 E I J K B
 have w:rL i7 ((l.drop 0).take<|Tryz.prog.cellsOf 23):=w
 rw[aG2,l5] at w
 obtain⟨a,b,c,F,G,f,g,A⟩:=aFi w
 rw[A] at e
 exact⟨⟨a,b,c,F,G,f,g⟩,o,k,t,r,z,cW,m,x,s,q,y,u,GF,O,hP,N,L,M⟩
def Yp {G:Bg} {W:World} {v:Value} {at':Nat->EU} (a:∀i,i<n->rL i1 (at' i)):∃l:EV,l.length=n/\∀G v,zE G 1 v n at'->A.N1 G v l:=by
 obtain⟨l,c,_,k⟩:=Js (W:=1) (f:=fun x:Int=>[I x]) (R:=fun _=>True) fun i b=>aT3<|a i b;exact⟨l,c,fun G v d=>k G v d⟩
def aNh {at':Nat->EU} (a:∀i,i<n->rL i4 (at' i)):∃l:ID,l.length=n/\∀G v,zE G 4 v n at'->A.Rv G v l:=by
 obtain⟨l,c,_,k⟩:=Js (W:=4) (f:=iD.enc) (R:=fun _=>True) fun i b=>aP6<|a i b;exact⟨l,c,fun G v d=>k G v d⟩
def aHy {B:Nat} {a:EX} {len cap:Nat} {r:OB} {rs:IS} {ns:EW} {at':Nat->Nat->EU} (d:aWe Pr W i4 B a len cap r rs t vs ns at'):
  ∃s:List (ID),s.length=len/\(∀p∈s,p.length<=maxLen)/\∀(G:Bg) k,k<G.base->G.old k=r.1->(∀i x,rs[i]?=some x->B+i<G.base/\G.old (B+i)=x.1)->
   ∃u:EU,u.length=s.length/\zE G 1 (t k) (u.map fun x=>[x]).length (fun i=>(u.map fun x=>[x]).getD i [])/\∀(i:Nat) (v:Value) (p:ID),u[i]?=some v->s[i]?=some p->A.Rv G v p:=by
 have f:∀i,∃l:ID,l.length<=maxLen/\∀n,ns[i]?=some n->∀G v,zE G 4 v n (at' i)->A.Rv G v l:=fun i=>by
  cases h:ns[i]? with
  |none=>exact⟨[],m6 _,fun n d=>by cases d⟩
  |some n=>
   obtain⟨l,O,k⟩:=aNh<|d.aYy i n h;exact⟨l,by have:=d.nl i n h;omega,fun P y=>by cases y;exact k⟩
 refine⟨(List.range len).map fun i=>(f i).choose,FF,fun p q=>?_,fun G k L J g=>?_⟩
 .obtain⟨i,_,rfl⟩:=eV.1 q;exact(f i).choose_spec.1
 obtain⟨M,_,N⟩:=d.old G k L J g
 refine⟨vs,by simp[d.lvs],?_,fun i v p D q=>?_⟩
 .rw[js,d.lvs];obtain⟨a,c,e,K⟩:=M;refine⟨a,c,e,fun i C=>?_⟩;obtain⟨b,o,cells,E,F,H,I⟩:=K i C;refine⟨b,o,cells,E,F,H.trans ?_,I⟩;have w:i<vs.length:=by rw[d.lvs];exact C
  simp[aP,bj w]
 .have j:i<len:=by have:=(eh.1 D).1;rw[d.lvs] at this;exact this
  have z:p=(f i).choose:=by
   rw[km,oV j] at q;simpa using q.symm
  subst z
  have m:ns[i]?=some (ns[i]'(by rw[d.cB];exact j)):=bj _
  exact(f i).choose_spec.2 _ m G v (N i v _ D m).1
def aLd:Tryz.prog.cellsOf 56=i4.length:=FD
def aTy (e:rL i4 l):∃x:Do,l=x.enc/\True:=by
 obtain⟨a,b,c,d,rfl⟩:=aVt e;exact⟨⟨a,b,c,d⟩,rfl,trivial⟩
def zj {at':Nat->EU} (a:∀i,i<n->rL i4 (at' i)):∃l:IF,l.length=n/\∀G v,zE G 4 v n at'->ml G v l:=by
 obtain⟨l,c,_,k⟩:=Js (W:=4) (f:=Do.enc) (R:=fun _=>True) fun i b=>aTy<|a i b;exact⟨l,c,fun G v d=>k G v d⟩
def aK7:oD a W none 0 0:= .inl ⟨rfl,rfl,rfl⟩
def qf (T:Gl W) {C:bQ} {J M I L F H:EX} {E Q lW cW lO P lV S lL N lM O:Nat} (hm:E<=maxLen) (hP:M8 i4 W J E Q) (hW:oD i1 W M lW cW) (hO:oD i1 W I lO P) (hV:oD i1 W L lV S) (hE:oD i4 W F lL N) (hF:oD i4 W H lM O) {f:FuncId}
  (mk:Value->Value->Value->EU) (X:∀ρ c c' d d' e e',aR ρ c c'->aR ρ d d'->aR ρ e e'->bV ρ (mk c d e) (mk c' d' e'))
  (Y:∀(G:Bg) (h:AH) (pv wv ov vv lv nv:Value) (ps:List (ID)) (ws os vs:EV) (l n:IF),ps.length<=9223372036854775807->(∀p∈ps,p.length<=9223372036854775807)->Gb G->Ob G 1 Go.Is.xT->A.Nx G pv wv ov vv ps ws os vs->ml G lv l->ml G nv n->Hs G h []->IU f (mk (.agg ⟨Co C pv wv ov vv⟩) lv nv) h fun v _=>v= .bool true):
  Calls Pr f ⟨mk (.agg ⟨C.enc++[.slice J E Q,.slice M lW cW,.slice I lO P,.slice L lV S]⟩) (.slice F lL N)<|.slice H lM O⟩ W fun e W'=>e= .returned (.bool true)/\Below W.heap.size W W':=by
 obtain⟨B,tw,bw,vw,π,fw,ow⟩:=C0 Pr hW
 obtain⟨ro,to,bo,vo,ν,fo,oo⟩:=C0 Pr hO
 obtain⟨rv,tv,bv,θ,ο,fv,η⟩:=C0 Pr hV
 obtain⟨rl,tl,bl,vl,κ,fl,ol⟩:=C0 Pr hE
 obtain⟨rm,tm,bm,vm,μ,fm,om⟩:=C0 Pr hF
 obtain⟨rp,j,tp,vs,ns,ξ,D⟩:=aIo Pr 10 hP
 obtain⟨ζ,υ,kw⟩:=Yp (G:=⟨0,fun _=>none,0⟩) (W:=W) (v:=undef) fw
 obtain⟨ε,σ,ko⟩:=Yp (G:=⟨0,fun _=>none,0⟩) (W:=W) (v:=undef) fo
 obtain⟨lvs,τ,kv⟩:=Yp (G:=⟨0,fun _=>none,0⟩) (W:=W) (v:=undef) fv
 obtain⟨le,hle,ke⟩:=zj fl
 obtain⟨lf,ρ,kf⟩:=zj fm
 obtain⟨ps,γ,α,kp⟩:=aHy D
 have U:=T
 have h4:=aNv T
 obtain⟨⟨q,z0,h0⟩,⟨r,t,h1⟩,⟨e2,u,h2⟩,⟨s,z3,h3⟩⟩:=T
 let R:IS:=B::ro::rv::rl::rm::rp::j
 have hR:∀i x,j[i]?=some x->R[6+i]?=some x:=fun i x a=>by
  rw[DQ];exact a
 have aKy:pf Pr (4+R.length) (Ph 4 (glM q z0 r t e2 u s z3) R) (Jn 4 R) W:=aAy (by rw[aFx];exact b0 _) h4 (aWw h0 h1 h2 h3) (fun x a=>by
  rcases eD.1 a with rfl|a;exact bw.at' _;rcases eD.1 a with rfl|a;exact bo.at' _;rcases eD.1 a with rfl|a;exact bv.at' _;rcases eD.1 a with rfl|a;exact bl.at' _;rcases eD.1 a with rfl|a;exact bm.at' _;rcases eD.1 a with rfl|a;exact D.out _ fun i y hy=>by
   have:=Am (g:=4)<|hR i y hy;rwa [show 4+(6+i)=10+i by omega] at this
  exact(D.ok x a).at' _)
 have ι:R.length=6+j.length:=by show j.length+1+1+1+1+1+1=_;omega
 let G:Bg:=⟨4+R.length,Ph 4 (glM q z0 r t e2 u s z3) R,4+R.length⟩
 have m:∀i x,R[i]?=some x->4+i<G.base/\G.old (4+i)=x.1:=fun i x a=>⟨by have:=(eh.1 a).1;show 4+i<4+R.length;omega,aHz a⟩
 have gw:=m 0 B rfl
 have go:=m 1 ro rfl
 have gv:=m 2 rv rfl
 have gl:=m 3 rl rfl
 have gm:=m 4 rm rfl
 have gp:=m 5 rp rfl
 obtain⟨vi,δ,β,Z⟩:=kp G 9 gp.1 gp.2 (fun i x a=>by
  have:=m (6+i) x<|hR i x a;rwa [show 4+(6+i)=10+i by omega] at this)
 have gb:∀(b:Nat) (l:EU) (e:TypeId) (z:Nat×Nat),b<4->glM q z0 r t e2 u s z3 b=some (.cells l e z true)->Ob G b l:=fun b l e z V hg=>⟨by show b<4+R.length;omega,e,z,true,(aKa (g:=4) (i:=b) (gl:=glM q z0 r t e2 u s z3) (rs:=R) V).trans hg⟩
 have ok:=Y G (Go.Ab.Bz G.base G.old) (tp 9) (tw 4) (to 5) (tv 6) (tl 7) (tm 8) ps ζ ε lvs le lf (by rw[γ];unfold maxLen at hm;omega) (fun p hp=>by have:=α p hp;unfold maxLen at this;omega)
  ⟨by first|exact gb 0 _ q z0 FA rfl|(rw[<-aW4];exact gb 0 _ q z0 FA rfl),by first|exact gb 2 _ e2 u FA rfl|(rw[<-aWk];exact gb 2 _ e2 u FA rfl),by first|exact gb 3 _ s z3 FA rfl|(rw[<-aVp];exact gb 3 _ s z3 FA rfl)⟩ (by first|exact gb 1 _ r t FA rfl|(rw[<-aW3];exact gb 1 _ r t FA rfl))
  ⟨⟨vi,δ,β,Z⟩,kw G _ (ow G 4 gw.1 gw.2).1,ko G _ (oo G 5 go.1 go.2).1,kv G _ (η G 6 gv.1 gv.2).1⟩ (ke G _ (ol G 7 gl.1 gl.2).1) (kf G _ (om G 8 gm.1 gm.2).1) aH4
 have w:bV (Jn 4 R) (mk (.agg ⟨Co C (tp 9) (tw 4) (to 5)<|tv 6⟩) (tl 7)<|tm 8) (mk (.agg ⟨C.enc++[.slice J E Q,.slice M lW cW,.slice I lO P,.slice L lV S]⟩) (.slice F lL N)<|.slice H lM O):=by
  refine X _ _ _ _ _ _ _ ?_ (vl _ 7<|Am (g:=4) (i:=3) (rs:=R) rfl)<|vm _ 8<|Am (g:=4) (i:=4) (rs:=R) rfl;simp only[aR];exact⟨_,bV.append (Ah _ HN)<|bV.cons (D.rel _ 9<|Am (g:=4) (i:=5) (rs:=R) rfl)<|bV.cons (vw _ 4<|Am (g:=4) (i:=0) (rs:=R) rfl)<|bV.cons (vo _ 5<|Am (g:=4) (i:=1) (rs:=R) rfl)<|bV.cons (θ _ 6<|Am (g:=4) (i:=2) (rs:=R) rfl) bV.nil,rfl⟩
 have:=aJi (aYu W.heap.size h4) U aKy w ok
 intro cs
 obtain⟨e,w',fr,⟨ρ',o,h',v',he,k,hq,_,V⟩,a⟩:=this cs
 rw[hq] at k
 simp only[aR] at k
 exact⟨e,w',fr,⟨by rw[he,k],V⟩,a⟩
end Go.Proofs.Z
