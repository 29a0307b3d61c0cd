/- A part of the proof. -/
import Derived.Test.YtgfankkobgfhnaaGreatDoorG9
import Derived.Test.YtgfankkobgfhnaaGreatDoorG8
set_option linter.all false
set_option maxRecDepth 100000
open Go Go.Ab
variable {L L' M:IB} {N b c cap hb i k mb n o p pm q:Nat} {a wa:EX} {g r st w x:Int} {Q:Value->AH->Prop} {f:Nat->Bool} {t:IJ->HP} {c' cs:EU} {v:Value} {l xs:EW} {e:TypeId} {j:Int->Int×Bool}
section
attribute [local irreducible] cE Br xE zJ Ba K1 sO D9 sF na mC tH yM yV yE pR Be dr bf dm Xy bu py qY vS oL nR Fs Qe rE Xn lz Hj Cl E5 pw A9 zV qJ kI fJ dX
namespace Go.Proofs.Z.H
open Go.Hm
variable {G:Bg} {h:AH}
def gH (b o:Nat) (r:bP):HP:=fun q=>∃a c,xG [aN b o<|r.enc a c,dY 9 185 a c (r.aH.length,iL r.aH)] q
def fN {r:bP} (e:Hs G h (gH b o r::L)):∃a c,Hs G h (aN b o (r.enc a c)::dY 9 185 a c (r.aH.length,iL r.aH)::L):=by
 obtain⟨q,q2,⟨a,c,k⟩,g,f,i,j⟩:=e.fst;exact⟨a,c,e.base,e.old,e.wf,e.fr,_,(mF).2 ⟨q,q2,k,g,f,rfl⟩,(eJ.jC f).2 ⟨i,j⟩⟩
def nQ (r:bP) (f:Hs G h (aN b o (r.enc a c)::dY 9 185 a c (r.aH.length,iL r.aH)::L)):Hs G h (gH b o r::L):=
 Hs.Dl (A:=[_,_]) f fun _ e=>⟨a,c,e⟩
theorem Gj (c:Q (.bool<|decide<|0<=x/\x<5) h):IU 240 [I x] h Q:=by
 refine cW<|fX<|bG (fun a=>bE ?_) fun a=>?_;show Q _ _;grind;show Q _ _;grind
theorem aIk (a:Q (.bool<|U9 x) h):IU 242 [I x] h Q:=by
 refine cW<|Gj<|bG (fun c=>bU ?_) fun c=>?_;show Q _ _;rw[show decide _=U9 x from by simp_all[U9,cL,AK]];exact a;show Q _ _;rw[show false=U9 x from by simp_all[U9,cM,sr]];exact a
def x6 {r:bP} (e:Hs G h L) [m:eB (gH b o) L r L'] (g:∀f,Hs G f (gH b o r.kW::L')->Q (.tuple ⟨[]⟩) f):IU 201 [pt b o 0] h Q:=by
 obtain⟨a,c,e⟩:=fN<|m.of e;refine cW ?_;repeat' first
  |refine aA ?_
  |refine aC ?_
  |(refine ay e ?_;intro h e)
  |refine aZ rfl ?_
 exact g _<|nQ r.kW e
theorem aIg {r:bP} (h:r.owner=x):r.iB x={r with sh:=mD r.sh x false,owner:= -1}:=by simp_all[bP.iB,bA1]
theorem aFu {r:bP} (h:¬r.owner=x):r.iB x={r with sh:=mD r.sh x false}:=by simp_all[bP.iB,bA0]
def Mg {r:bP} (e:Hs G h L) [m:eB (gH b o) L r L'] (k:0<=x/\x<4) (f:∀j,Hs G j (gH b o (r.iB x)::L')->Q (.tuple ⟨[]⟩) j):IU 164 [pt b o 0,I x] h Q:=by
 obtain⟨a,c,e⟩:=fN<|m.of e;refine cW ?_;have i:x=0\/x=1\/x=2\/x=3:=FA
 rcases i with rfl|rfl|rfl|rfl;all_goals
  refine aC<|aA<|gK FC FC ?_
  repeat' first
   |refine aA ?_
   |refine aC ?_
   |refine cC ?_
   |refine aE e rfl ?_
   |(refine ay e ?_;intro h e)
   |(refine bG (fun g=>?_) fun g=>?_)
  .rw[aIg g] at f;exact f _<|nQ _ e
  .rw[aFu g] at f;exact f _<|nQ _ e
theorem at4 (a:i<4) {k:Value->Prop} (c:k (.bool<|f i)):cE (Xn 4 1 (.agg ⟨[.bool<|f 0,.bool<|f 1,.bool<|f 2,.bool<|f 3]⟩)<|I i) k:=by
 grind[qy,Xn]
theorem wb {r:bP} (s:Hs G h (aN b o (r.enc a c)::L)):∀(f i:Nat) (t:Value),i+f=4->Q (I<|r.Ax x f i) h->
  Dd 167 1 [] Q [pt b o 0,I x,I<|-1,.agg ⟨[.bool<|r.sh 0,.bool<|r.sh 1,.bool<|r.sh 2,.bool<|r.sh 3]⟩,I i,t] h:=by
 intro f
 induction f with
 |zero=>
  intro i t q e
  exact bW (bE<|aab e)
 |succ f u=>
  intro i t q e
  refine bW<|bE<|aae<|bW<|at4 FA ?_
  have next:∀t,r.lY x i=false->Dd 167 3 [] Q [pt b o 0,I x,I<|-1,I i,.agg _,I i,t] h:=fun t v=>by
   refine bW<|aad<|u (i+1) _ FA ?_;grind[bP.Ax]
  refine cC<|bG (fun g=>next _ ?_) fun g=>bW<|eA (fun j=>bW ?_) fun j=>bW ?_
  .exact aA6 g
  .rw[j];refine gF<|bW ?_;have:r.lY x i=true:=uu g j;rw[bP.Ax,bA1 this] at e;exact e
  .repeat' first
    |refine aA ?_
    |refine aC ?_
    |refine cC ?_
    |refine aE s rfl ?_
   refine bG (fun k=>bW ?_) fun k=>next _ ?_
   .have:r.lY x i=true:=we g k;rw[bP.Ax,bA1 this] at e;exact e
   grind[zz]
def Df {r:bP} (e:Hs G h L) [m:eB (gH b o) L r L'] (f:Hs G h (gH b o r::L')->Q (I<|r.first x) h):IU 167 [pt b o 0,I x] h Q:=by
 have f:=f<|m.of e;obtain⟨a,c,e⟩:=fN<|m.of e;refine cW ?_;repeat' first
  |refine aA ?_
  |refine aC ?_
  |refine bB e FC rfl rfl ?_
 exact wb e 4 0 _ rfl f
def aCt (b o:Nat) (r:bP):HP:=aN b o r.aAp
def Ta (b o:Nat) (r:bP):HP:=A5 fun x:EX×Nat=>sp [aN b (o+5)<|r.ku x.1 x.2,dY 9 185 x.1 x.2 (r.aH.length,iL r.aH)]
def Un {r:bP} (e:Hs G h (gH b o r::L)):Hs G h (aCt b o r::Ta b o r::L):=by
 obtain⟨a,c,e⟩:=fN e;have f:Hs G h (aN b (o+5) (r.ku a c)::dY 9 185 a c (r.aH.length,iL r.aH)::aN b o r.aAp::L):=(e.split (c:=r.aAp)).cH (by
  exact(List.Perm.swap _ _ _).trans ((List.Perm.swap _ _ _).cons _))
 exact(Hs.Cn (a,c)<|Hs.nY f).cH (List.Perm.swap _ _ _)
def W6 {r:bP} (e:Hs G h (Ta b o r::L)):∃a c,Hs G h (aN b (o+5) (r.ku a c)::dY 9 185 a c (r.aH.length,iL r.aH)::L):=by
 obtain⟨⟨a,c⟩,e⟩:=e.Fl;exact⟨a,c,e.fQ⟩
def uz (r:bP) (e:Hs G h (aN b (o+5) (r.ku a c)::dY 9 185 a c (r.aH.length,iL r.aH)::L)):Hs G h (Ta b o r::L):=
 Hs.Cn (A:=fun x:EX×Nat=>sp [aN b (o+5)<|r.ku x.1 x.2,dY 9 185 x.1 x.2 (r.aH.length,iL r.aH)]) (a,c) (Hs.nY (A:=[_,_]) e)
def Xt {r:bP} (e:Hs G h (aCt b o r::Ta b o r::L)):Hs G h (gH b o r::L):=by
 obtain⟨a,c,e⟩:=W6<|e.cH<|List.Perm.swap _ _ _;refine nQ r (a:=a) (c:=c) ?_;rw[bP.aCa];exact Hs.Qw (e.cH ((List.Perm.swap _ _ _).cons _|>.trans (List.Perm.swap _ _ _))) rfl
def Wo (b o p q:Nat) (x:Int) (r:bP):HP:=sp [aCt b o r,aN p 0 [pt b o 0],aN q 0 [I x]]
def s6 (a:Hs G h L) (e:∀p q c,Hs G c (aN p 0 [pt b o 0]::aN q 0 [I x]::L)->Q (.func (.func 223) #[] #[IV p,IV q]) c):IU 169 [pt b o 0,I x] h Q:=by
 refine cW ?_;repeat' first
  |(refine eT a ?_;intro p h a)
 exact e _ _ _<|a.cH<|List.Perm.swap _ _ _
theorem Y4 {r:bP} {J:HP} {y:Value}
  (R:∀z rest h M,Hs G h (t (z::rest)::M)->E5 Pr K y z h fun v a=>(v= .bool true/\Hs G a (t rest::M))\/(v= .bool false/\Hs G a (J::M)))
  (O:∀v a,Hs G a (Wo b o p q x r::t []::L)->Q v a) (E:∀v a,Hs G a (Wo b o p q x r::J::L)->Q v a):
  ∀(f i:Nat) (h:AH),i+f=4->Hs G h (Wo b o p q x r::t ((r.jU x f i).map fun(c:Nat)=>[I c])::L)->
   Dd 223 1 [] Q [y,IV p,IV q,.agg ⟨[.bool<|r.sh 0,.bool<|r.sh 1,.bool<|r.sh 2,.bool<|r.sh 3]⟩,I i] h:=by
 intro f
 induction f with
 |zero=>
  intro i h P j
  exact bW (bE<|aab<|O _ _ j)
 |succ f w=>
  intro i h P j
  refine bW<|bE<|aae<|bW<|at4 FA ?_
  have k:=j
  have j:=j.fQ
  have yes:r.lY x i=true->E5 Pr K y [I i] h fun v a=>(v= .bool true/\Hs G a _)\/(v= .bool false/\Hs G a _):=fun B=>by
   rw[bP.jU,bA1 B] at k;exact(R _ _ h _<|k.cH<|List.Perm.swap _ _ _).mono fun v a s=>(s.imp (fun e=>⟨e.1,e.2.cH<|List.Perm.swap _ _ _⟩) fun e=>⟨e.1,e.2.cH<|List.Perm.swap _ _ _⟩)
  have no:r.lY x i=false->Hs G h _:=fun B=>by
   simpa only[bP.jU,B,aO,dd] using k
  refine aE j rfl<|cC<|bG (fun u=>aad<|w (i+1) h FA<|no<|aA6 u) fun u=>cX<|fM<|eA (fun A=>?_) fun A=>?_
  .refine(yes<|uu u A).mono fun v a s=>?_;rcases s with⟨rfl,g⟩|⟨rfl,g⟩
   .exact cX (cS<|bW<|aad<|w (i+1) a FA g)
   .exact cX (gF<|E _ _ g)
  .have D:Hs G h (aN b o r.aAp::_):=j;refine aE j rfl (aC<|aA<|aE D rfl<|bU<|bG (fun F=>?_) fun F=>?_)
   .exact bW (aad<|w (i+1) h FA<|no<|zz A F)
   .refine bW ((yes<|we u FB).mono fun v a s=>?_);rcases s with⟨rfl,g⟩|⟨rfl,g⟩
    .exact cX (cS<|bW<|aad<|w (i+1) a FA g)
    .exact cX (gF<|E _ _ g)
theorem aDk {r:bP}:yy Pr K G 223 [] [IV p,IV q] (Wo b o p q x r) ((r.iV x).map fun(c:Nat)=>[I c]):=by
 intro k J y L h Q f j g i;refine cW ?_;have a:=f.fQ;have e:Hs G h (aN b o r.aAp::_):=a;refine aE a rfl<|aC<|aA<|bB e FC rfl rfl ?_;exact Y4 j g i 4 0 h rfl f
def gW (v:Value) (l:IA):HP:=A5 fun x:EX×Nat=>sp [Dm<|v= .slice x.1 l.length x.2,dY 9 185 x.1 x.2 (l.length,iL l)]
def Nv {l:IA} (e:n=l.length) (hc:cs=iL l) (f:Hs G h (dY 9 185 a c (n,cs)::L)):Hs G h (gW (.slice a n c) l::L):=by
 subst e;subst hc;exact Hs.Cn (a,c)<|Hs.nY<|Hs.bh rfl f
def aHc {l:IA} (e:Hs G h (gW v l::L)):∃a c,v= .slice a l.length c/\Hs G h (dY 9 185 a c (l.length,iL l)::L):=by
 obtain⟨⟨a,c⟩,e⟩:=e.Fl;obtain⟨f,e⟩:=Hs.yv e.fQ;exact⟨a,c,f,e⟩
def la {aI state:Int}:eR aI state (l++[i])=eR aI state l++[⟨11,i,aI,0,state,0,0,false,0⟩]:=by simp[eR,aG.zero]
theorem aSs {j:Nat} {v:Bool}:mD f i v j=if j=i then v else f j:=by
 grind[mD,Int.ofNat_inj]
theorem jo {r:bP}:r.iO (l++[i])={r.iO l with dS:=mD (r.iO l).dS i true}:=by
 simp only[bP.iO,bP.mk.injEq,true_and,and_true];grind[aSs]
def aO6 {r:bP} {v:Bool} {k:AH->Prop} (g:Hs G h L) [m:eB (aN b<|o+5) L (r.ku a c) L'] (j:i<4) (f:∀e,Hs G e (aN b (o+5) (({r with dS:=mD r.dS i v}:bP).ku a c)::L')->k e):cE (Ba h 1 (pt b o<|17+(i:Int).toNat*1)<|.bool v) k:=by
 rw[aVm (m:=5) FA];have:i=0\/i=1\/i=2\/i=3:=FA
 rcases this with rfl|rfl|rfl|rfl;all_goals
  refine ay (m.of g) ?_
  exact f
def prC (b o p2 p5 g f:Nat) (aI state:Int) (r:bP) (xs:EW) (e:Nat->Value) (d l:Nat) (rest:IJ) (done:EW) (a:EX) (c:Nat):IB:=
 [Dm<|rest=(xs.drop done.length).map fun(c:Nat)=>[I c],Dm<|xs.take done.length=done,
    pG Pr 168 (qM 58) 26 e d l (.ready,none),aN p2 0 [pt b o 0],aN p5 0 [I aI],aN g 0 [I state],Ta b o<|r.iO done,
    aN f 0 [.slice a done.length c],dY 9 185 a c (done.length,iL<|eR aI state done)]
def prI (b o p2 p5 c a:Nat) (aI state:Int) (r:bP) (xs:EW) (e:Nat->Value) (d l:Nat) (rest:IJ):HP:=
 A5 fun x:EW×EX×Nat=>sp<|prC b o p2 p5 c a aI state r xs e d l rest x.1 x.2.1 x.2.2
def aVj {p2 p5 g f:Nat} {aI state:Int} {r:bP} {e:Nat->Value} {d l:Nat} {rest:IJ} (done:EW) (a:EX) (c:Nat) (i:rest=(xs.drop done.length).map fun(c:Nat)=>[I c]) (j:xs.take done.length=done)
  (k:Hs G h (sp ((prC b o p2 p5 g f aI state r xs e d l rest done a c).drop 2)::L)):Hs G h (prI b o p2 p5 g f aI state r xs e d l rest::L):=
 Hs.Cn (done,a,c) (Ft i<|Ft j k)
def aPg {p2 p5 g:Nat} {aI state:Int} {r:bP} {e:Nat->Value} {d l:Nat} {rest:IJ} (f:Hs G h (prI b o p2 p5 i g aI state r xs e d l rest::L)):∃done a c,(rest=(xs.drop done.length).map fun(c:Nat)=>[I c])/\xs.take done.length=done/\
  Hs G h (pG Pr 168 (qM 58) 26 e d l (.ready,none)::aN p2 0 [pt b o 0]::aN p5 0 [I aI]::aN i 0 [I state]::Ta b o (r.iO done)::aN g 0 [.slice a done.length c]::dY 9 185 a c (done.length,iL<|eR aI state done)::L):=by
 obtain⟨⟨done,a,c⟩,f⟩:=Hs.Fl f
 obtain⟨j,f⟩:=kL f
 obtain⟨k,f⟩:=kL f
 exact⟨done,a,c,j,k,f.fQ⟩
theorem Lh {aI state:Int} {r:bP} {g:FuncId} {j:EU} {A:HP} (Z:yy Pr K G g [] j A (xs.map fun(c:Nat)=>[I c])) (V:∀c∈xs,c<4) (X:xs.length<=4) (P:lU Pr g=true)
  (f:Hs G h (A::Ta b o r::L)) (R:∀v k,Hs G k (gW v (eR aI state xs)::A::Ta b o (r.iO xs)::L)->Q v k):
  IU 168 [pt b o 0,I aI,I state,.func (.func g) #[] ⟨j⟩] h Q:=by
 refine cW<|eT f fun p2 h f=>eT f fun p5 h f=>eT f fun p8 h f=>cK f fun w h f=>oE f fun d h f=>?_
 intro e O
 refine rI f fun l h f=>(xQ P ?_)
 have f:=jO (W:=9) (e:=185) f
 have D:r.iO []=r:=by simp[bP.iO]
 have u:Hs G h (A::prI b o p2 p5 p8 w aI state r xs e d l (xs.map fun(c:Nat)=>[I c])::mk d ()::L):=by
  refine Hs.pS<|aVj [] none 0 rfl rfl ?_;rw[<-D] at f;simp only[prC,CK,l5,AQ,eR,CT,Wz];exact f.to
 refine Z _ (Dm False) _ _ h _ u ?_ ?_ ?_
 .intro x rest h M f;obtain⟨done,a,c,q,s,U⟩:=aPg f;cases hx2:xs.drop done.length with
  |nil=>grind
  |cons i y=>
   rw[hx2] at q
   obtain⟨rfl,rfl⟩:=q
   have t:=V i<|DK<|by rw[hx2];grind
   have J:done.length<xs.length:=by
    rcases ql done.length xs.length with h|h;exact h;grind
   obtain⟨z,c2,f⟩:=W6<|U.cH<|fU.cH (A:=Ta b o<|r.iO done)
   refine rW (yH f) O<|kY f fun h f=>aE f rfl<|aC<|aA<|gK FA FA ?_
   refine aO6 f t fun h f=>aE f rfl<|aE f rfl<|aE f rfl<|aZ (c:=aG.enc _) rfl<|aZ (c:=aG.enc ⟨11,i,aI,0,_,0,0,_,0⟩) rfl ?_
   refine dV f rfl rfl rfl fun a3 h f=>tG f FA ?_
   intro a4 B h f
   refine ax f ?_
   intro h f
   refine lJ f fun h f=>.inl ⟨rfl,?_⟩
   rw[<-jo] at f
   have T:(done++[i]).length=done.length+1:=FF
   have Y:xs=done++i::y:=by have:=ta done.length xs;rw[s,hx2] at this;exact this.symm
   refine aVj (done++[i]) a4 B ?_ ?_ ?_
   .simp_all
   .grind
   .simp only[prC,CK,l5,T,la,Ea,Sl,Wz,g7];exact(uz (r.iO<|done++[i])<|f.dC (aN b (o+5) _)<|dY 9 185 z c2 ((r.iO done).aH.length,iL (r.iO done).aH)).to
 .intro v k f;obtain⟨done,a,c,q,s,f⟩:=aPg f.pS;have F:xs=done:=by
   have:xs.drop done.length=[]:=by simpa using q.symm
   rw[<-s,e6<|by simpa using this]
  subst F
  refine qZ f fun k f=>rC ?_
  refine aE f rfl<|qP f fun k f=>oA<|R _ _ ?_
  have E:(eR aI state xs).length=xs.length:=by simp[eR]
  exact(Nv E.symm rfl<|f.cH<|fU.cH (A:=dY 9 185 a c (xs.length,iL _))).to
 .intro v k f;exact(Hs.yv<|f.pS).1.elim
def qg {v:Bool} {k:AH->Prop} (r:bP) (g:Hs G h L) [m:eB (aN b o) L c' L'] (hc:c'=r.enc a c) (i:0<=x/\x<4) (f:∀e,Hs G e (aN b o (({r with sh:=mD r.sh x v}:bP).enc a c)::L')->k e):cE (Ba h 1 (pt b o<|0+1+x.toNat*1)<|.bool v) k:=by
 subst hc;have:x=0\/x=1\/x=2\/x=3:=FA
 rcases this with rfl|rfl|rfl|rfl;all_goals
  refine ay g ?_
  exact f
def aS6 {v:Bool} {k:AH->Prop} (r:bP) (g:Hs G h L) [m:eB (aN b o) L c' L'] (hc:c'=r.enc a c) (i:0<=x/\x<4) (f:∀e,Hs G e (aN b o (({r with dS:=mD r.dS x v}:bP).enc a c)::L')->k e):cE (Ba h 1 (pt b o<|0+17+x.toNat*1)<|.bool v) k:=by
 subst hc;have:x=0\/x=1\/x=2\/x=3:=FA
 rcases this with rfl|rfl|rfl|rfl;all_goals
  refine ay g ?_
  exact f
def pT (mb:Nat) (C:bQ) (b o cap:Nat):EU:=[IV mb,I C.aB,I C.aJ,I C.aY,I C.ways,I C.eG,I C.lH,I C.bZ,.slice (some ⟨b,o,none⟩) C.aF cap]
structure HmA where
 mb:Nat
 b:Nat
 o:Nat
 cap:Nat
def aRm (G:Bg) (hb:Nat) (C:bQ) (H:nD) (x:HmA):IB:=
 [aN hb 0<|pT x.mb C x.b x.o x.cap,gQ G C.aF x.mb C fun i=>(H i).2,gJ G 25 187 (some ⟨x.b,x.o,none⟩) x.cap C.aF x.b x.o,eP C.aF fun i=>gH x.b (x.o+i*25) (H i).1]
def jJ (G:Bg) (hb:Nat) (C:bQ) (H:nD):HP:=A5 fun x:HmA=>sp<|aRm G hb C H x
def Ez (b o n:Nat) (H:nD) (l:Nat):HP:=sp<|((List.range n).erase l).map fun i=>gH b (o+i*25) (H i).1
variable {C:bQ}
def sN {H:nD} (a:Hs G h (jJ G hb C H::L)):∃mb b o cap,Hs G h (aN hb 0 (pT mb C b o cap)::gQ G C.aF mb C (fun i=>(H i).2)::gJ G 25 187 (some ⟨b,o,none⟩) cap C.aF b o::eP C.aF (fun i=>gH b (o+i*25) (H i).1)::L):=by
 obtain⟨⟨mb,b,o,cap⟩,a⟩:=a.Fl;exact⟨mb,b,o,cap,a.fQ⟩
def Mb {l:Nat} {H:nD} (c:l<C.aF) (a:Hs G h (jJ G hb C H::L)):∃mb b o cap,Hs G h (gH b (o+l*25) (H l).1::aN hb 0 (pT mb C b o cap)::gQ G C.aF mb C (fun i=>(H i).2)::gJ G 25 187 (some ⟨b,o,none⟩) cap C.aF b o::Ez b o C.aF H l::L):=by
 obtain⟨mb,b,o,cap,a⟩:=sN a;exact⟨mb,b,o,cap,(show Hs G h (gH b _ _::Ez b o C.aF H l::_) from((a.bF<|eP C.aF fun i=>gH b (o+i*25) (H i).1).oI l c)).to⟩
def zL {H:nD} (a:Hs G h (aN hb 0 (pT mb C b o cap)::gQ G C.aF mb C (fun i=>(H i).2)::gJ G 25 187 (some ⟨b,o,none⟩) cap C.aF b o::eP C.aF (fun i=>gH b (o+i*25) (H i).1)::L)):Hs G h (jJ G hb C H::L):=
 Hs.Cn (A:=fun x=>sp<|aRm G hb C H x) ⟨mb,b,o,cap⟩ (Hs.nY (A:=aRm G hb C H ⟨mb,b,o,cap⟩) a)
theorem aU1 {H:nD} {l:Nat} {x:iN}:(fun i=>(bD H l x i).2)=bD (fun i=>(H i).2) l x.2:=by
 grind[bD]
theorem gU {e L2 f g c:IB} (hb:Nat) (C:bQ) (H:nD) (l:Nat) (r:bP) (m:Ln) (mem:Nat->Ln) (mb b o cap:Nat) (q:l<C.aF) (s:mem=bD (fun i=>(H i).2) l m) (a:Hs G h L) [u:fU (gH b (o+l*25) r) L e] [v:fU (aN hb 0<|pT mb C b o cap) e L2] [w:fU (gQ G C.aF mb C mem) L2 f]
  [y:fU (gJ G 25 187 (some ⟨b,o,none⟩) cap C.aF b o) f g] [z:fU (Ez b o C.aF H l) g c]:Hs G h (jJ G hb C (bD H l (r,m))::c):=by
 subst s
 have a:Hs G h (gH b (o+l*25) r::Ez b o C.aF H l::aN hb 0 (pT mb C b o cap)::gQ G C.aF mb C (bD (fun i=>(H i).2) l m)::gJ G 25 187 (some ⟨b,o,none⟩) cap C.aF b o::c):=
  (a.cH<|u.cH.trans<|(v.cH.trans<|(w.cH.trans<|(y.cH.trans<|z.cH.cons _).cons _).cons _).cons _).to
 have k:(fun i=>gH b (o+i*25) (bD H l (r,m) i).1) l=gH b (o+l*25) r:=by simp only[dJ]
 rw[<-k] at a
 unfold Ez at a
 have a:=a.qN (fun i=>gH b (o+i*25) (H i).1) (fun i=>gH b (o+i*25) (bD H l (r,m) i).1) q fun j _ t=>by grind[bO]
 rw[<-aU1 (x:=(r,m))] at a
 exact zL (mb:=mb) (b:=b) (o:=o) (cap:=cap) a.to
def Kt {a:Addr} {n:aG} (hc:cs=n.enc) (c:Hs G h (dY 9 185 (some a) 1 (1,cs)::L)):Hs G h (gW (.slice (some a) 1 1) [n]::L):=Nv rfl (by rw[hc];simp) c
def wP (a:Hs G h L):Hs G h (gW (.slice none 0 0) []::L):=Nv rfl rfl<|jO a
section
variable {r:bP} {wc:Nat} {aI:Int} {d:Ln}
def gD (b o:Nat) (r:bP) (a:EX) (c:Nat) {f L2:IB} (i:Hs G h L) [m:eB (aN b o) L c' f] (hc:c'=r.enc a c) [j:eB (dY 9 185 a c) f (n,cs) L2] (g:n=r.aH.length) (e:cs=iL r.aH):Hs G h (gH b o r::L2):=by
 subst hc;subst g;subst e;exact nQ r<|i.cH<|m.cH.trans<|j.cH.cons _
def aO8 (e:r.aX.kind=2) (c:Hs G h (aN p 0 (r.oY aI 0 d).enc::aN b o (r.enc wa wc)::dY 9 185 wa wc (r.aH.length,iL r.aH)::L)) (g:∀v f,Hs G f (gW v (r.dZ aI d).2::gH b o (r.dZ aI d).1::L)->Q v f):
  Dd 222 3 [] Q [pt b o 0,I r.aX.core,IV p] h:=by
 simp only[bP.dZ,bA1 e] at g
 refine bW ?_
 repeat' first
  |refine aA ?_
  |refine aC ?_
  |refine bB c FC rfl rfl ?_
  |(refine ay c ?_;intro h c)
  |(refine dV c rfl rfl rfl ?_;intro a h c)
  |refine aZ rfl ?_
 refine g _ _ ?_
 exact(gD b o {r with owner:=r.aX.core,sh:=fun _=>false,cG:=true} wa wc (Kt (n:=r.oY aI 4 d) rfl c) rfl rfl rfl).to
def aNk (g:r.aX.kind≠2) (hc:0<=r.aX.core/\r.aX.core<4) (c:Hs G h (aN p 0 (r.oY aI 0 d).enc::aN b o (r.enc wa wc)::dY 9 185 wa wc (r.aH.length,iL r.aH)::L)) (e:∀v i,Hs G i (gW v (r.dZ aI d).2::gH b o (r.dZ aI d).1::L)->Q v i):
  Dd 222 4 [] Q [pt b o 0,I r.aX.core,IV p] h:=by
 simp only[bP.dZ,bA0 g] at e
 have c:=gD b o r wa wc c rfl rfl rfl
 refine bW<|Df c fun c=>?_
 obtain⟨wa,wc,c⟩:=fN c
 refine cC<|bG (fun f=>?_) fun f=>?_
 .rw[bA1 f] at e;refine bW<|aA<|ay c fun h c=>aC<|aA<|ay c ?_;intro h c;refine aC<|aA<|gK hc.1 hc.2<|qg {r with owner:=r.aX.core} c rfl hc ?_;intro h c;repeat' first
   |refine aA ?_
   |refine aC ?_
   |refine bB c FC rfl rfl ?_
   |(refine ay c ?_;intro h c)
   |(refine dV c rfl rfl rfl ?_;intro a h c)
   |refine aZ rfl ?_
  refine e _ _ ?_
  exact(gD b o {r with owner:=r.aX.core,sh:=mD r.sh r.aX.core false,cG:=true} wa wc (Kt (n:=r.oY aI 2 d) rfl c) rfl rfl rfl).to
 .rw[bA0 f] at e;refine bW<|aA<|ay c fun h c=>aC<|aA<|gK hc.1 hc.2<|qg r c rfl hc ?_;intro h c;repeat' first
   |refine aA ?_
   |refine aC ?_
   |refine bB c FC rfl rfl ?_
   |(refine ay c ?_;intro h c)
   |(refine dV c rfl rfl rfl ?_;intro a h c)
   |refine aZ rfl ?_
  refine e _ _ ?_
  exact(gD b o {r with sh:=mD r.sh r.aX.core true,cG:=true} wa wc (Kt (n:=r.oY aI 1 d) rfl c) rfl rfl rfl).to
end
def gZ {H:nD} {l:Nat}:bD (fun i=>(H i).2) l (H l).2=fun i=>(H i).2:=zM
theorem M3 (hC:C.Ok) {l:Nat} {H:nD} (j:Ob G 0 iF) (a:Hs G h L) [m:eB (jJ G hb C) L H L'] (q:l<C.aF) (hc:0<=(H l).1.aX.core/\(H l).1.aX.core<4)
  (u:∀v e,Hs G e (gW v ((H l).1.dZ l<|(H l).1.yU (H l).2).2::jJ G hb C (bD H l (((H l).1.dZ l<|(H l).1.yU (H l).2).1,(H l).2))::L')->Q v e):
  IU 222 [IV hb,I l] h Q:=by
 obtain⟨mb,b,o,cap,a⟩:=Mb q<|m.of a
 refine cW ?_
 have k:∀d,d=(H l).1.yU (H l).2->∀p wa wc h,Hs G h (aN p 0 ((H l).1.oY l 0 d).enc::aN b (o+l*25) ((H l).1.enc wa wc)::dY 9 185 wa wc ((H l).1.aH.length,iL (H l).1.aH)::aN hb 0 (pT mb C b o cap)::gQ G C.aF mb C (fun i=>(H i).2)::gJ G 25 187 (some ⟨b,o,none⟩) cap C.aF b o::Ez b o C.aF H l::L')->
   (((H l).1.aX.kind=2->Dd 222 3 [] Q [pt b (o+l*25) 0,I (H l).1.aX.core,IV p] h)/\((H l).1.aX.kind≠2->Dd 222 4 [] Q [pt b (o+l*25) 0,I (H l).1.aX.core,IV p] h)):=by
  intro d t p wa wc h a
  subst t
  have g:∀v e,Hs G e (gW v ((H l).1.dZ l<|(H l).1.yU (H l).2).2::gH b (o+l*25) ((H l).1.dZ l<|(H l).1.yU (H l).2).1::aN hb 0 (pT mb C b o cap)::gQ G C.aF mb C (fun i=>(H i).2)::gJ G 25 187 (some ⟨b,o,none⟩) cap C.aF b o::Ez b o C.aF H l::L')->Q v e:=fun v e a=>
   u v e (gU hb C H l ((H l).1.dZ l<|(H l).1.yU (H l).2).1 _ _ mb b o cap q gZ.symm a).to
  exact⟨fun f=>aO8 f a g,fun f=>aNk f hc a g⟩
 obtain⟨wa,wc,a⟩:=fN a
 refine aC<|aA<|aE a rfl<|fD q<|aC<|aA<|aA<|aE a rfl<|bI a ?_
 intro w h a
 refine aC<|aA<|aE a rfl<|aC<|aA<|bB a FC (l:=[I _,I _]) rfl rfl<|aZ (c:=((H l).1.oY l 0 ((H l).1.d0,(H l).1.d1)).enc) rfl<|nJ a rfl rfl ?_
 intro p h a
 refine ax a fun h a=>aC<|aA<|aE a rfl<|cX<|fM<|eA (fun s=>?_) fun s=>?_
 .refine bW (aC<|aA<|aA<|aE a rfl<|cC ?_);have:=k ((H l).1.d0,(H l).1.d1) (by simp[bP.yU,s]) p wa wc h a.to;exact bG this.1 this.2
 .refine bW (aC<|aA<|aE a rfl<|aO3 hC j a q fun h a=>?_);refine aQ rfl<|aQ rfl<|aA<|ay a fun h a=>aC<|aA<|aA<|aE a rfl<|cC ?_;have:=k (H l).2 (by simp[bP.yU,s]) p wa wc h (a.sg (b:=p) (o:=0) (c:=((H l).1.oY l 0 (H l).2).enc) rfl).to;exact bG this.1 this.2
def Tv (e:TypeId) (p:Nat) (a:EX) (c:Nat) (xs:EV):HP:=sp [aN p 0 [.slice a xs.length c],dY 1 e a c (xs.length,xs.map I)]
def Oz {xs:EV} (j:n=xs.length) (f:Hs G h L) [m:eB (dY 1 e a c) L (n,xs.map I) L'] (i:∀p g,Hs G g (Tv e p a c xs::L')->Q (.func (.func 87) #[] #[IV p]) g):IU 54 [.slice a n c] h Q:=by
 subst j;have f:=m.of f;exact cW<|eT f fun p h f=>i p _<|Hs.nY f
def G7 {xs:EV} (D:xs.length<2^62):yy Pr K G 87 [] [IV p] (Tv e p a c xs) (xs.map fun x=>[I x]):=by
 intro q J y L h Q g A t u;refine cW<|aE g.fQ rfl<|dB ?_;have loop:∀(f i:Nat) (h:AH),i+f=xs.length->Hs G h (Tv e p a c xs::q ((xs.drop i).map fun x=>[I x])::L)->Dd 87 1 [] Q [y,.slice a xs.length c,I xs.length,I i] h:=by
  intro f;induction f with
  |zero=>
   intro i h w g;refine bW<|bE<|aab ?_;rw[AT FA] at g;exact t _ _ g
  |succ f B=>
   intro i h w g;have j:i<xs.length:=FA
   refine bW<|bE<|aae<|bW ?_;obtain⟨b,o,rfl,H,k,_⟩:=(g.fQ.bF<|dY 1 e a c (xs.length,xs.map I)).uZ FA;refine fD j (aQ4 k (v:=I xs[i]) (by simp[j]) ?_);rw[mn j] at g;refine(A _ _ h _ g.pS).mono fun v s z=>?_;rcases z with⟨rfl,g⟩|⟨rfl,g⟩;exact cX<|cS<|bW<|aad<|B (i+1) s FA g.pS;exact cX<|gF<|u _ _ g.pS
 exact loop xs.length 0 h FA g
variable {l:Nat} {H:nD} {n:aG} {r:bP} {m:Ln}
def xZ (G:Bg) (hb p mb b o cap l:Nat) (C:bQ) (H:nD) (n:aG) (r:bP) (m:Ln):IB:=
 [gH b (o+l*25) r,aN p 0 n.enc,aN hb 0<|pT mb C b o cap,gQ G C.aF mb C<|bD (fun i=>(H i).2) l m,gJ G 25 187 (some ⟨b,o,none⟩) cap C.aF b o,Ez b o C.aF H l]
theorem qs (hC:C.Ok) (e:Ob G 0 iF) (i:l<C.aF) (j:n.aI=l) (hc:0<=r.aX.core/\r.aX.core<4) (q:r.kK=true) (a:Hs G h (xZ G hb p mb b o cap l C H n r m++L))
  (c:∀v k,Hs G k (gW v (r.rest l m).2::jJ G hb C (bD H l ((r.rest l m).1,m))::L)->Q v k):Dd 202 7 [] Q [IV hb,IV p,pt b (o+l*25) 0] h:=by
 simp only[xZ,e7,gk] at a
 simp only[bP.rest,bA1 q] at c
 have f:=a
 obtain⟨wa,wc,a⟩:=fN<|show Hs G h _ from a
 refine bW<|aC<|aA<|aA<|aE a rfl<|cC<|bG (fun g=>?_) fun g=>?_
 .rw[bA1 g] at c;exact bW<|x6 f fun h a=>c _ _<|(wP<|gU hb C H l r.kW m _ mb b o cap i rfl a).to
 .rw[bA0 g] at c;refine aA<|aE a rfl ?_;rw[j];have a:=gU hb C H l r m _ mb b o cap i rfl f;refine M3 hC e a i (by grind[dJ]) fun v h a=>c _ _ ?_;simp only[dJ,Ag] at a;exact a.to
theorem vh (hC:C.Ok) (c:Ob G 0 iF) (q:l<C.aF) (i:n.aI=l) (hc:0<=r.aX.core/\r.aX.core<4) (a:Hs G h (xZ G hb p mb b o cap l C H n r m++L))
  (g:∀v k,Hs G k (gW v (r.rest l m).2::jJ G hb C (bD H l ((r.rest l m).1,m))::L)->Q v k):Dd 202 4 [] Q [IV hb,IV p,pt b (o+l*25) 0] h:=by
 have e:=a
 simp only[xZ,e7,gk] at a
 have j:=a
 obtain⟨wa,wc,a⟩:=fN<|show Hs G h _ from a
 refine bW<|aC<|aA<|bB a FC (l:=[.bool _,.bool _,.bool _,.bool _]) rfl rfl<|aZ rfl<|aHf<|eA (fun f=>?_) fun f=>?_
 .have f:r.kK=false:=by unfold bP.kK;rw[f];rfl
  simp only[bP.rest,f,aO,dd] at g
  exact g _ _<|(wP<|gU hb C H l r m _ mb b o cap q rfl<|show Hs G h _ from j).to
 .exact qs hC c q i hc (by grind[bP.kK]) e g
end Go.Proofs.Z.H
namespace Go.Proofs.Z
open Go.Hm Go.At Go.Mc
def Qg:Mc.mS:=⟨0,0,0,0,0,0,false,0,fun _=>false⟩
def Hb (r:Mc.mS):EU:=[I r.core,I r.bA,I r.call,I r.aS,I r.to]
def zD (r:Mc.mS):EU:=[I r.core,I r.bA,I r.call,I r.aS,I r.to,I r.kC,.bool r.oG]
def oM (f:Nat->Option Mc.mS) (k:Nat):EY:=(f k).map fun r=> .agg ⟨r.enc⟩
theorem Nm {f:Nat->Option Mc.mS} {g:Nat} {x:Option Mc.mS}:Tm (oM f) g (x.map fun r=> .agg ⟨r.enc⟩)=oM (bD f g x):=by
 grind[Tm,oM,bD]
variable {m:Mon}
theorem aCd:Jm (oM m.eI)=m.fO:=by
 grind[Jm,Mon.fO,oM]
theorem aJf:(if 0<=g then oM m.eI g.toNat else none)=(m.run g).map fun r=>Value.agg ⟨r.enc⟩:=by
 grind[Mon.run,oM]
variable {G:Bg} {h:AH} {C:bQ}
def jQ (C:bQ) (p:Nat) (m:Mon):HP:=A5 fun x:Nat×Nat=>sp [aN p 0 [IV x.1,I C.aB,lE x.2],mG x.1 m.eQ,qV x.2<|oM m.eI]
def pZ (a:Hs G h (jQ C p m::L)):∃t b,Hs G h (aN p 0 [IV t,I C.aB,lE b]::mG t m.eQ::qV b (oM m.eI)::L):=by
 obtain⟨⟨t,b⟩,a⟩:=a.Fl;exact⟨t,b,a.E4⟩
theorem fT {t:Nat} (a:Hs G h (aN p 0 [IV t,I C.aB,lE b]::mG t m.eQ::qV b (oM m.eI)::L)):Hs G h (jQ C p m::L):=
 Hs.Cn (A:=fun x:Nat×Nat=>sp [aN p 0 [IV x.1,I C.aB,lE x.2],mG x.1 m.eQ,qV x.2<|oM m.eI]) (t,b) a.Vc
theorem Wg {k:Value->Prop} (c:Hs G h L) [e:eB (qV b) L (oM m.eI) L'] (a:k (.agg ⟨((m.run g).getD Qg).enc⟩)):cE (lkV (.agg ⟨[I 0,I 0,I 0,I 0,I 0,I 0,.bool false,I 0,.bool false,.bool false,.bool false,.bool false]⟩) h (lE b) (I g) false) k:=by
 refine aY6 c ?_;rw[aJf];cases hr:m.run g with
 |none=>rw[hr] at a;exact a
 |some r=>grind
theorem aD7:((m.run g).getD Qg).phase=m.phase g:=by
 unfold Mon.phase;cases m.run g<;>rfl
theorem Uu (a:Hs G h L) [e:eB (jQ C p) L m L'] (f:∀c,Hs G c (jQ C p m::L')->Q (I<|m.phase g) c):IU 57 [IV p,I g] h Q:=by
 obtain⟨t,b,a⟩:=pZ<|e.of a;refine cW<|dM<|cS<|aC<|aA<|aE a rfl<|Wg a<|xi rfl ?_;show Q _ _;grind[aD7,fT]
theorem aVe (a:Hs G h L) [j:eB (jQ C p) L m L'] (i:∀l e,Hs G e (jQ C p m::L')->(m.phase g≠0->l=Hb ((m.run g).getD Qg))->l.length=5->l.all gM=true->Q (.tuple ⟨[.agg ⟨l⟩,.bool<|decide<|m.phase g≠0]⟩) e):IU 26 [IV p,I g] h Q:=by
 refine cW<|cK a fun q h a=>Uu (C:=C) a fun h a=>cC<|bG (fun f=>?_) fun f=>?_;refine aZ (c:=(Hb Qg)) rfl<|ax a fun h a=>bB a FC (l:=(Hb Qg)) rfl rfl ?_;have:=i (Hb Qg) h a.to FA rfl rfl;rw[cM FA] at this;exact this;obtain⟨t,b,a⟩:=pZ a;refine aC<|aA<|aE a rfl<|Wg a<|Rc rfl rfl<|Rc (m:=Hb _) rfl rfl<|ax a fun h a=>bB a FC (l:=Hb _) rfl rfl ?_;have:=i _ h (fT (t:=t) (b:=b) a.to) (fun _=>rfl) rfl rfl;rw[cL f] at this;exact this
def J9 (f:Hs G h L) [s:eB (jQ C p) L m L'] (j:∀q a c i,Hs G i (H.Tv 3 q a c (m.fO.map fun k:Nat=>(k:Int))::jQ C p m::L')->Q (.func (.func 87) #[] #[IV q]) i):IU 25 [IV p] h Q:=by
 obtain⟨t,b,f⟩:=pZ<|s.of f;refine cW<|dM<|cS<|aC<|aA<|aE f rfl<|cW<|aX0 f fun q h f=>?_;have f:Hs G h (aN q 0 [lE b]::mt q (138,true,1)::qV b (oM m.eI)::aN p 0 [IV t,I C.aB,lE b]::mG t m.eQ::L'):=f.to;refine aJp rfl f fun a g h f=>?_;rw[aCd] at f ⊢;have e:(m.fO.map fun k:Nat=>I k)=(m.fO.map fun k:Nat=>(k:Int)).map I:=by rw[BT];rfl
 rw[e] at f;refine H.Oz (e:=3) FF f fun q2 h f=>?_;have f:Hs G h (aN p 0 [IV t,I C.aB,lE b]::mG t m.eQ::qV b (oM m.eI)::H.Tv 3 q2 a g (m.fO.map fun k:Nat=>(k:Int))::L'):=f.to;exact j q2 a g _ (fT f).pS
end Go.Proofs.Z
namespace Go.Ct
open Go.Hm
variable {S:Nat->IC}
variable {ways:Nat} {no:Int} {x:vU}
theorem Zh {l:IC} (h:no∉l.map (·.1)):zI no l=l:=by
 induction l with
 |nil=>rfl
 |cons t l a=>
  grind[zI]
def yz {l:IC} (a:(l.map (·.1)).Nodup):zI no (zI no l)=zI no l:=Zh<|Qr a
theorem Rt {l:IC} (h:get no l=some x):(zI no l).length<l.length:=by
 rw[Qy,h];have:=Rn h;grind
theorem tL (a:(bJ n S no).2=0):get no (S<|cT n no)=some (bJ n S no).1/\0<=no:=by
 grind[bJ]
theorem yF (c:∀i,tW ways<|S i) (e:(bJ n S no).2=0):(pD n ways S no x).2=0:=by
 obtain⟨a,f⟩:=tL e;have:=Rt a;have:=(c<|cT n no).len;unfold pD;grind
theorem Zx (a:0<=no):jN n S no (cT n no)=zI no (S<|cT n no):=by
 unfold jN bD;simp_all[bA0,bA1]
def jx (a:∀i,tW ways<|S i) (c:(bJ n S no).2=0):aIa n ways S no=0:=by
 obtain⟨e,f⟩:=tL c;have:=Rt e;have:=(a<|cT n no).len;unfold aIa;rw[bA1 c];unfold pD;rw[Zx f,yz (a _).nd,aaa]
def zW (c:∀i,tW ways<|S i) (f:0<=no) (a:(pD n ways S no x).2=0):bJ n (pD n ways S no x).1 no=(x,0):=by
 unfold pD at a ⊢;split at a;cases a;rename_i e;rw[bA0 e];unfold bJ bD;rw[aaa];dsimp only;rw[bA1 rfl,aF4<|Qr (c _).nd]
theorem Hq (c:∀i,tW ways<|S i) (a:(bJ n S no).2=0):bJ n (Ge n ways S no) no=bJ n S no:=by
 obtain⟨g,f⟩:=tL a;have e:=jx c a;unfold aIa at e;rw[bA1 a] at e;unfold Ge;rw[bA1 a,zW (wS c) f e];grind
theorem Sh {l a:Int} {w:Bool} (h:pK n S l a w=true):pK n S l a false=true:=by
 grind[pK,rR,Ch,P2]
end Go.Ct
namespace Go.Hm
structure vX (k:Nat) (r:bP):Prop where
 core:0<=r.aX.core/\r.aX.core<4
 owner: -1<=r.owner/\r.owner<4
 aH:∀n∈r.aH,n.aI=k/\(0<=n.core/\n.core<4)/\(n.kind=0\/n.kind=1\/n.kind=2\/n.kind=3)
 iZ:∀i:Nat,i<4->r.sh i=true->(i:Int)≠r.owner
 fV:r.busy=true->r.cG=false->r.aX.kind=0\/r.aX.kind=2\/r.owner≠r.aX.core
 sD:r.cG=true\/r.busy=false->r.kK=true
 gb:r.cG=true->r.busy=true
def vX.inv {r:bP} (h:vX k r):r.gB:=⟨h.core,h.owner,fun n a=>(h.aH n a).2.1⟩
def aPf (k:Nat):vX k Ee:=⟨FC,FC,by simp[Ee],by simp[Ee],by simp[Ee],fun _=>rfl,by simp[Ee]⟩
theorem Hz {r r':bP} (h:r'.dS=r.dS):r'.kK=r.kK:=by grind[bP.kK]
theorem Gh {r:bP} {c:Int} (h:vX k r):vX k (r.iB c) where
 core:=h.core
 owner:=by unfold bP.iB;simp only;split;omega;exact h.owner
 aH:=h.aH
 iZ:=fun i g a=>by
  unfold bP.iB mD at a ⊢;simp only at a ⊢;split at a;cases a;split;omega;exact h.iZ i g a
 fV:=fun e f=>by
  rcases h.fV e f with h|h|j;exact .inl h;exact .inr<|.inl h;refine .inr<|.inr ?_;have:=h.core;grind[bP.iB]
 sD:=fun e=>(Hz (r':=r.iB c) rfl).trans<|h.sD e
 gb:=h.gb
def Iz {r:bP} (h:vX k r) (c:r.kK=true):vX k r.kW where
 core:=by show(0:Int)<=0/\(0:Int)<4;omega
 owner:=h.owner
 aH:=h.aH
 iZ:=h.iZ
 fV:=fun a=>by cases a
 sD:=fun _=>(Hz (r':=r.kW) rfl).trans c
 gb:=fun a=>by cases a
theorem Ie {r:bP} {n:aG} (h:vX k r) (a:n.aI=k) (c:0<=n.core/\n.core<4) (e:n.kind=0\/n.kind=1\/n.kind=2\/n.kind=3):vX k (r.lF n) where
 core:=h.core
 owner:=h.owner
 aH:=fun m hm=>by
  rcases cj.1 hm with hm|hm;exact h.aH m hm;grind
 iZ:=h.iZ
 fV:=h.fV
 sD:=fun a=>(Hz (r':=r.lF n) rfl).trans<|h.sD a
 gb:=h.gb
def Iv {r:bP} {n:aG} {w:IA} (h:vX k r) (e:r.aH=n::w):vX k (r.next w) where
 core:=h.core
 owner:=h.owner
 aH:=fun m c=>h.aH m (by rw[e];exact ca _ c)
 iZ:=h.iZ
 fV:=h.fV
 sD:=fun a=>(Hz (r':=r.next w) rfl).trans<|h.sD a
 gb:=h.gb
structure Ja (k:Nat) (r:bP):Prop where
 core:0<=r.aX.core/\r.aX.core<4
 owner: -1<=r.owner/\r.owner<4
 aH:∀n∈r.aH,n.aI=k/\(0<=n.core/\n.core<4)/\(n.kind=0\/n.kind=1\/n.kind=2\/n.kind=3)
 iZ:∀i:Nat,i<4->r.sh i=true->(i:Int)≠r.owner
 fV:r.aX.kind=0\/r.aX.kind=2\/r.owner≠r.aX.core
 busy:r.busy=true
 gr:r.cG=false
def Ja.aEe {r:bP} (h:Ja k r):vX k r:=⟨h.core,h.owner,h.aH,h.iZ,fun _ _=>h.fV,fun a=>by rw[h.busy,h.gr] at a;simp at a,fun a=>by rw[h.gr] at a;cases a⟩
variable {d:Ln}
theorem Dx {r:bP} {aI:Int} (h:Ja k r) (f:r.aX.kind≠0) (c:r.kK=true):vX k (r.dZ aI d).1:=by
 have g:=h.core;unfold bP.dZ;split;exact⟨h.core,FB,h.aH,FB,FB,fun _=>c,fun _=>h.busy⟩;split;refine⟨h.core,FB,h.aH,fun i e a=>?_,FB,fun _=>c,fun _=>h.busy⟩;grind[mD];refine⟨h.core,h.owner,h.aH,fun i e a=>?_,FB,fun _=>c,fun _=>h.busy⟩;simp only[mD] at a ⊢;split at a;rcases h.fV with h|h|h;grind;grind;grind;exact h.iZ i e a
def Hp {r:bP} (h:Ja k r):vX k (r.iO l):=Ja.aEe ⟨h.core,h.owner,h.aH,h.iZ,h.fV,h.busy,h.gr⟩
variable {m:Ln}
theorem aD9 {r:bP} {aI:Int} (h:Ja k r):vX k (r.rest aI m).1:=by
 unfold bP.rest;split;rename_i a;split;exact Iz h.aEe a;grind[Dx];exact h.aEe
theorem J7 {r:bP} {n:aG} (h:vX k r) (t:0<=n.core/\n.core<4) (q:r.dS n.core.toNat=true):Ja k (r.dE n):=by
 have f:r.kK=false:=by
  have:n.core.toNat=0\/n.core.toNat=1\/n.core.toNat=2\/n.core.toNat=3:=FA
  unfold bP.kK;grind
 have a:r.cG=false:=by
  cases a:r.cG with
  |false=>rfl
  |true=>have:=h.sD<|.inl a;grind
 have hb:r.busy=true:=by
  cases hb:r.busy with
  |true=>rfl
  |false=>have:=h.sD<|.inr hb;grind
 have e:Ja k (r.iG n):=⟨h.core,h.owner,h.aH,h.iZ,h.fV hb a,hb,a⟩;have g:Ja k ((r.iG n).Kf n):=⟨h.core,by show -1<=(-1:Int)/\(-1:Int)<4;omega,h.aH,fun i s _=>by show(i:Int)≠ -1;omega,by
  have:=h.core;right;right;show(-1:Int)≠r.aX.core;omega,hb,a⟩
 have j:∀{r:bP},Ja k r->Ja k (r.qL n):=fun h=>⟨h.core,h.owner,h.aH,h.iZ,h.fV,h.busy,h.gr⟩;unfold bP.dE;split;have:=Gh (c:=n.core) e.aEe;exact⟨this.core,this.owner,this.aH,this.iZ,this.fV hb a,hb,a⟩;grind
theorem aBw {x:iN} {n:aG} (h:vX k x.1) (f:cU n.kind) (e:n.aI=k) (c:0<=n.core/\n.core<4):vX k (iN.take x k n).1.1:=by
 unfold iN.take;split;split;exact h;have a:x.1.cG=true:=by
  cases a:x.1.cG with
  |true=>rfl
  |false=>grind
 exact Iz h<|h.sD<|.inl a;split;split;exact h;exact aD9<|J7 h c FB;grind[Ie,cU]
theorem P8 {r:bP}:∀(f i:Nat),r.Ax x f i≠ -1->r.jU x f i≠[]:=by
 intro f;induction f with
 |zero=>intro i h;exact absurd rfl h
 |succ f a=>
  grind[bP.Ax,bP.jU]
theorem iu {r:bP}:∀(f i:Nat),∀c∈r.jU x f i,(c:Int)≠x:=by
 intro f;induction f with
 |zero=>grind[bP.jU]
 |succ f a=>
  grind[bP.jU,bP.lY]
def aG.Cr (n:aG):aG:=if n.kind=0 then {n with core:= -1} else n
theorem Uo {r:bP} {n:aG} (f:r.aX.core=n.core) (c:n.kind=1\/n.kind=2) (e:n.aI=k):(∀m∈(r.dZ k d).2,m.aPc n.Cr (r.dZ k d).2.length)/\(r.dZ k d).2≠[]:=by
 have g:n.Cr=n:=GY
 rw[g];unfold bP.dZ;split;refine⟨fun m a=>?_,FF⟩;rw[aV.1 a];exact⟨e.symm,rfl,.inl ⟨rfl,f,rfl,c⟩⟩;split;refine⟨fun m a=>?_,FF⟩;rw[aV.1 a];exact⟨e.symm,rfl,.inl ⟨rfl,f,rfl,c⟩⟩;refine⟨fun m a=>?_,FF⟩;rw[aV.1 a];exact⟨e.symm,rfl,.inl ⟨rfl,f,rfl,c⟩⟩
theorem Hh {n:aG} (f:n.aI=k) (j:n.kind=1\/n.kind=2\/(n.kind=0/\st=0)) (hc:∀c∈l,(c:Int)≠n.Cr.core) {len:Nat}:∀m∈eR k st l,m.aPc n.Cr len:=by
 intro m g;obtain⟨c,a,rfl⟩:=eV.1 g;have e:n.Cr.aI=k:=by unfold aG.Cr;split<;>exact f
 have i:n.Cr.kind=n.kind:=by unfold aG.Cr;split<;>rfl
 refine⟨e.symm,rfl,.inr<|.inr<|.inr ⟨rfl,rfl,hc c a,?_⟩⟩;grind
theorem aM7 {r:bP} {n:aG} (h:vX k r) (hb:r.busy=false) (i:n.aI=k) (j:0<=n.core/\n.core<4) (v:n.kind=1\/n.kind=2):
  vX k (r.get k m n w).1/\(∀x∈(r.get k m n w).2,x.aPc n.Cr (r.get k m n w).2.length)/\(r.get k m n w).2≠[]:=by
 have y:=h.sD<|.inr hb
 have a:r.cG=false:=by
  cases a:r.cG with
  |false=>rfl
  |true=>have:=h.gb a;grind
 have q:n.Cr=n:=GY
 unfold bP.get
 simp only
 split
 .rename_i u;have s:Ja k (r.iM n w):=⟨j,h.owner,h.aH,h.iZ,.inr<|.inl u,rfl,a⟩;unfold bP.Ky;split
  .rename_i f;refine⟨Hp s,?_,?_⟩
   .exact Hh i FA (fun c g=>by rw[q];exact iu 4 0 c g)
   .intro e;exact(P8 4 0 f) (List.map_eq_nil_iff.1 e)
  .exact⟨Dx s (by show n.kind≠0;omega) y,Uo rfl v i⟩
 .have z:(r.iM n w).jZ.aX=n/\(r.iM n w).jZ.dS=r.dS/\((r.iM n w).jZ.owner= -1\/((r.iM n w).jZ.owner=r.owner/\r.owner≠n.core))/\Ja k (r.iM n w).jZ:=by
   unfold bP.jZ;split;refine⟨rfl,rfl,.inl rfl,⟨j,FB,h.aH,FB,.inr<|.inr ?_,rfl,a⟩⟩;show(-1:Int)≠n.core;omega;rename_i f;exact⟨rfl,rfl,.inr ⟨rfl,f⟩,⟨j,h.owner,h.aH,h.iZ,.inr<|.inr f,rfl,a⟩⟩
  obtain⟨A,B,D,t⟩:=z
  unfold bP.Jv
  split
  .refine⟨Hp t,Hh i (.inl FA) fun c g=>?_,by simp[eR]⟩;rw[aV.1 g,q];have:=t.owner;omega
  grind[Dx,Hz,Uo]
theorem aDd {r:bP} {n:aG} (h:vX k r) (hb:r.busy=false) (f:n.aI=k) (s:0<=n.core/\n.core<4) (t:n.kind=0\/n.kind=1\/n.kind=2\/n.kind=3):
  vX k (r.eX k m n j).1.1/\(∀x∈(r.eX k m n j).2,x.aPc n.Cr (r.eX k m n j).2.length)/\((r.eX k m n j).2≠[]\/n.Cr.kind=0):=by
 have e:r.cG=false:=by
  cases e:r.cG with
  |false=>rfl
  |true=>have:=h.gb e;grind
 unfold bP.eX
 split
 .rename_i q;have a:n.Cr=n:=GY
  refine⟨Gh h,fun x g=>?_,.inl FF⟩
  rw[aV.1 g,a]
  exact⟨f.symm,rfl,.inr<|.inr<|.inl ⟨rfl,rfl,rfl,rfl,q⟩⟩
 .split
  .rename_i c;have a:n.Cr=n:=GY
   split
   .grind[aM7]
   .refine⟨h,fun x g=>?_,.inl FF⟩;rw[aV.1 g,a];exact⟨f.symm,rfl,.inr<|.inl ⟨rfl,rfl,rfl,rfl,c⟩⟩
  .have i:n.kind=0:=FA
   have a:n.Cr={n with core:= -1}:=by unfold aG.Cr;rw[bA1 i]
   split
   .grind
   .exact⟨Hp ⟨s,h.owner,h.aH,h.iZ,.inl i,rfl,e⟩,Hh f FA FB,.inr FB⟩
theorem kB {r:bP} {aI:Int}:(r.dZ aI d).1.aH=r.aH:=by
 grind[bP.dZ]
theorem u5 {r:bP} {aI:Int}:(r.rest aI m).1.aH=r.aH:=by
 unfold bP.rest;split;split;rfl;exact kB;rfl
theorem mE {r:bP} {n:aG}:(r.dE n).aH=r.aH:=by
 unfold bP.dE;repeat' split
 all_goals rfl
theorem aBg {r:bP} {aI:Int} {n:aG}:(r.get aI m n w).1.aH=r.aH:=by
 have a:(r.iM n w).jZ.aH=r.aH:=by unfold bP.jZ;split<;>rfl
 unfold bP.get;simp only;split;unfold bP.Ky;split;rfl;exact kB;unfold bP.Jv;split;exact a;grind[kB]
theorem Gn {r:bP} {aI:Int} {n:aG}:(r.eX aI m n j).1.1.aH=r.aH:=by
 unfold bP.eX;split;rfl;split;grind[aBg];split<;>rfl
theorem X0 {r:bP} {aI:Int}:(r.dZ aI d).2.length<=4:=by
 grind[bP.dZ]
theorem Rz {aI:Int}:(eR aI st l).length=l.length:=by simp[eR]
theorem Z7 {r:bP} {aI:Int} {n:aG}:(r.get aI m n w).2.length<=4:=by
 grind[bP.get,bP.Ky,Rz,tY,X0,bP.Jv]
theorem aD3 {r:bP} {aI:Int} {n:aG}:(r.eX aI m n j).2.length<=4:=by
 grind[bP.eX,Z7,Rz,tY]
theorem Yh {C:bQ} {H:nD} {l:Int}:(eO C H l j).2.1.length<=4:=by
 grind[eO,iN.dK,aD3]
end Go.Hm
namespace Go.Mc
open Go.Hm Go.At Go.Is Go.Ct Go.Nt
variable {C:bQ} {m:Mon} {F:eN} {s:aT}
section
structure iY (C:bQ) (m:Mon):Prop where
 len:m.eQ.length=C.aJ.toNat
 Ve:∀x∈m.eQ,0<=x.owner/\x.owner<=4
 run:∀g r,m.eI g=some r->(g:Int)<C.aJ/\r.aS=g/\(r.phase=1\/r.phase=2)/\(0<=r.core/\r.core<C.aB)/\(0<=r.kC/\r.kC<=4)
def uk (Cf:bQ) (F:eN):Prop:=∀c w,(F c w).length<=Cf.eG
theorem iY.jW (h:iY C m) (a:m.kG g):0<=(m.jW g).owner/\(m.jW g).owner<=4:=by
 refine h.Ve _ ?_;grind[Mon.kG,Mon.jW]
def iY.aWv (hC:C.Ok) (a:iY C m):∀g r,m.eI g=some r->g<16:=by
 intro g r c;have:=(a.run g r c).1;have:=hC.2.1;omega
def uk.Vl {Cf:bQ} (hC:Cf.Ok) (h:uk Cf F):∀c w,(F c w).length<=500:=by
 intro c w;have:=h c w;have:=hC.2.2.2.2.1;omega
structure aIu (Cf:bQ) (M:bR) (i:Nat):Prop where
 bH:iY Cf M.bH
 B1:(M.aD i).Ok
 Pa:iJ Cf (M.bT i)
 gE:(M.aU i).bN.length<=100
 cB:uk Cf M.cB
 eY:M.eY.length<=2^30
structure E6 (Cf:bQ) (M:bR) (n:aG):Prop where
 core:0<=n.core/\n.core<Cf.aB
 bH:iY Cf M.bH
 aK:Bb Cf M.aK (2^30 - 4)
 Pa:iJ Cf (M.bT n.core.toNat)
 gE:(M.aU n.core.toNat).bN.length<=100
 aS:0<=(M.aU n.core.toNat).aS/\(M.aU n.core.toNat).aS<Cf.aJ
 dF:n.kind=12->0<=n.d0/\n.d0<=1000000
structure vz (C:bQ) (n:aG):Prop where
 gE:gE C n=0
 dF:n.kind=12->0<=n.d0/\n.d0<=1000000
def dp (C:bQ) (N:Nat) (H:nD):Prop:=∀l,l<C.aF->vX l (H l).1/\(H l).1.aH.length<=N
structure Qf (C:bQ) (F:eN):Prop where
 len:uk C F
 yI:∀c w,∀n∈F c w,vz C n/\n.core.toNat=c/\cN n=w
def Fo (C:bQ) (c:jL):Prop:=(c.bN.length:Int)<=C.lH/\0<=c.aS/\c.aS<C.aJ
structure dD (C:bQ) (N:Nat) (M:bR):Prop where
 bH:iY C M.bH
 B1:∀i:Nat,(i:Int)<C.aB->(M.aD i).Ok
 Pa:∀i:Nat,(i:Int)<C.aB->iJ C (M.bT i)
 gE:∀i:Nat,(i:Int)<C.aB->Fo C (M.aU i)
 aK:dp C N M.aK
 cB:Qf C M.cB
 eY:M.eY.length<=N
variable {M:bR}
theorem dp.h {H:nD} (h:dp C N H) {K:Nat} (c:N<=K):Bb C H K:=fun l a=>⟨(h l a).1.inv,cO (h l a).2 c⟩
theorem Fo.len (hC:C.Ok) {c:jL} (h:Fo C c):c.bN.length<=100:=by
 have:=h.1;grind[bQ.Ok]
def dD.step (h:dD C N M) (hC:C.Ok) (c:N<=2^29) (a:(i:Int)<C.aB):aIu C M i:=⟨h.bH,h.B1 i a,h.Pa i a,(h.gE i a).len hC,h.cB.len,by have:=h.eY;omega⟩
theorem fI {n:aG} (h:gE C n=0):Nj n.kind/\0<=n.core/\n.core<C.aB:=by
 unfold Nt.gE at h;split at h
 .rename_i f;split at h
  .split at h
   .rename_i j;refine⟨f,?_⟩;have a:=j.1;unfold Nj at f;have:∃c,I8 n.kind.toNat=1::c:=by
     rcases k14 (k:=n.kind.toNat) FA with e|e|e|e|e|e|e|e|e|e|e|e|e|e;omega;all_goals rw[e];exact⟨_,rfl⟩
    obtain⟨c,g⟩:=this;rw[g] at a;unfold jK at a;split at a;rename_i i;exact i;cases a
   cases h
  cases h
 cases h
def Xs {n:aG} (h:gE C n=0) (c:n.kind=8):n.state=1\/n.state=2\/n.state=4:=by
 unfold Nt.gE at h;rw[c] at h;split at h;split at h;split at h;rename_i f;have a:=f.1;rw[show I8 _=[1,2,4,6,8,9] from rfl] at a;simp only[jK] at a;split at a;split at a;split at a;split at a;rename_i e;exact e;cases a;cases a;cases a;cases a;cases h;cases h;cases h
def mi {n:aG} (h:gE C n=0) (g:n.kind=1\/n.kind=2\/n.kind=3\/n.kind=4\/n.kind=5\/n.kind=8\/n.kind=9\/n.kind=10\/n.kind=11):0<=n.aI/\n.aI<C.aF:=by
 unfold Nt.gE at h;split at h;split at h;split at h;rename_i j;have a:=j.1;have:∃c,I8 n.kind.toNat=1::2::c:=by
  rcases g with e|e|e|e|e|e|e|e|e<;>rw[e]<;>exact⟨_,rfl⟩
 obtain⟨c,f⟩:=this;rw[f] at a;unfold jK at a;split at a;unfold jK at a;split at a;rename_i i;exact i;cases a;cases a;cases h;cases h;cases h
theorem Mz {a b c:Int} (hF:Qf C F) (e:(F.take C a b c).2.2=0):vz C (F.take C a b c).2.1/\(F.take C a b c).2.1∈F a.toNat b.toNat:=by
 unfold eN.take at e ⊢;by_cases g:(0<=a/\a<C.aB)/\(0<=b/\b<4);rw[bA0 fun h=>h g] at e ⊢;by_cases i:F a.toNat b.toNat=[];grind;rw[bA0 i];have q:0<(F a.toNat b.toNat).length:=FB;have hb:(c % ((F a.toNat b.toNat).length:Int)).toNat<(F a.toNat b.toNat).length:=by
  have j:=BD c (show((F a.toNat b.toNat).length:Int)≠0 by omega);have k:=BW c (show(0:Int)<((F a.toNat b.toNat).length:Int) by omega);omega
 have f:(F a.toNat b.toNat).getD (c % ((F a.toNat b.toNat).length:Int)).toNat aG.zero∈F a.toNat b.toNat:=by
  grind
 exact⟨(hF.yI _ _ _ f).1,f⟩;grind
theorem Uy {a b c:Int} (hF:Qf C F):Qf C (F.take C a b c).1:=by
 unfold eN.take;split;exact hF;dsimp only;split;exact hF;constructor;intro x y;unfold eN.set;dsimp only;split;have:=hF.len x y;grind;exact hF.len x y;intro x y n e;unfold eN.set at e;dsimp only at e;split at e;have:=hF.yI _ _ n<|List.mem_of_mem_eraseIdx e;grind;exact hF.yI x y n e
theorem aLm {n:aG} (hF:Qf C F) (f:vz C n) (c:((F n.core.toNat<|cN n).length:Int)<C.eG):Qf C (F.A4 n):=by
 constructor;intro x y;unfold eN.A4 eN.set;split;grind;exact hF.len x y;intro x y k a;unfold eN.A4 eN.set at a;split at a;rename_i e;rcases cj.1 a with a|a;rw[e.1,e.2];exact hF.yI _ _ k a;grind;exact hF.yI x y k a
theorem aFa:∀{l:IA} {F a:eN},Qf C F->(∀n∈l,vz C n)->eN.xN C.eG F l=some a->Qf C a:=by
 intro l;induction l with
 |nil=>intro F a hF _ h;cases h;exact hF
 |cons n l c=>
  grind[eN.xN,aLm,List.mem_cons_self,List.mem_cons_of_mem]
theorem C4:∀{l:IA},aU C l=0->∀n∈l,Nt.gE C n=0
 |[],_,n,a=>by cases a
 |k::l,h,n,a=>by
  unfold aU at h;split at h;grind;rcases eD.1 a with rfl|a;grind;exact C4 h n a
theorem Gt {l:IA} (hF:Qf C F) (e:∀n∈l,n.kind=12->0<=n.d0/\n.d0<=1000000):Qf C (F.fY C l).1:=by
 unfold eN.fY;split;exact hF;split;rename_i f c;exact aFa hF (fun n a=>⟨C4 FB n a,e n a⟩) c;exact hF
theorem R5 (a:s.Ok) (h:s.over=false):aKw (mX s.prog s.at') s.prog.length/\s.at'<s.prog.length:=by
 have c:=a.2.2.1;rw[h] at c;have e:=Ds c.symm;exact⟨M5<|a.2.2.2.2 _<|De a.1 e,e⟩
theorem vG {t:aT} {a:Int} (f:s.Ok) (g:t.prog=s.prog) (c:0<=a) (e:a<=s.prog.length):(t.jB a).Ok:=by
 grind[aT.Ok,aT.jB]
theorem aFo {r:aT×Ev} (a:s.Ok) (h:aT.mM s i=some r):r.1.Ok:=by
 unfold aT.mM aT.kQ at h;cases hov:s.over with
 |true=>grind
 |false=>
  rw[hov] at h;simp only[aO,dd] at h;obtain⟨c,g⟩:=R5 a hov;have f:=a.1;split at h;cases h;exact vG a rfl FA FA;split at h;cases h;exact vG a rfl FA FA;split at h;grind[vG];split at h;split at h;cases h;exact vG a rfl FA FA;grind[vG];split at h;rename_i e;have:=c.p1 e;grind[vG];split at h;rename_i e;have:=c.p2 e;grind[vG];cases h
theorem aEh {v c:Int} (a:s.Ok):(aT.bL s i v c).1.Ok:=by
 unfold aT.bL;cases hn:aT.kQ s with
 |none=>exact a
 |some x=>
  have e:s.over=false:=by
   unfold aT.kQ at hn;cases h:s.over with
   |false=>rfl
   |true=>grind
  obtain⟨g,j⟩:=R5 a e;have f:=a.1;dsimp only;split;exact vG a rfl FA FA;split;split;exact a;split;grind[vG];split;grind[vG];exact vG a rfl FA FA;exact a
theorem aId (hC:C.Ok) {c:jL} {f:Int×Int} (h:Fo C c):Fo C (c.Bo C f):=by
 have a:1<=C.lH:=by unfold bQ.Ok at hC;omega
 refine⟨?_,h.2⟩;unfold jL.Bo;have:=h.1;grind
theorem aE6 {c:jL} (h:Fo C c):Fo C (c.dK C g).1:=by
 unfold jL.dK;split;exact h;split;exact h;split;exact h;refine⟨h.1,?_⟩;show 0<=g/\g<C.aJ;grind
def aDe (hC:C.Ok) {c:jL} {a:Int} (h:Fo C c):Fo C (c.eU C a w).1:=by
 have e:1<=C.aJ:=hC.2.1.1;unfold jL.eU;split;exact h;split;exact h;split;exact h;dsimp only;split;exact h;split;exact h;split;exact h;refine⟨(aId hC h).1,?_⟩;show(0:Int)<=0/\(0:Int)<C.aJ;omega
theorem aOk {c:jL} (h:Fo C c):Fo C (c.drop C g).1:=by
 unfold jL.drop;split;exact h;refine⟨?_,h.2⟩;have:=h.1;grind
end
variable {M:bR}
theorem dD.mono {K:Nat} (h:dD C N M) (c:N<=K):dD C K M:=⟨h.bH,h.B1,h.Pa,h.gE,fun l a=>⟨(h.aK l a).1,cO (h.aK l a).2 c⟩,h.cB,cO h.eY c⟩
theorem ag {α:Type} {P:α->Prop} {s:Nat->α} {t:α} {n:Int} (h:∀j:Nat,(j:Int)<n->P (s j)) (a:P t):∀j:Nat,(j:Int)<n->P (bD s i t j):=by
 grind[bD]
theorem dD.bM (h:dD C N M) (hF:Qf C F):dD C N (M.bM F):={h with cB:=hF}
theorem dD.jH (h:dD C N M) (a:iY C m):dD C N (M.jH m):={h with bH:=a}
def dD.mI (h:dD C N M) {H:nD} {K:Nat} (c:N<=K) (a:dp C K H):dD C K (M.mI H):={h.mono c with aK:=a}
def dD.jX (h:dD C N M) {c:jR} (hc:iJ C c):dD C N (M.jX i c):={h with Pa:=ag h.Pa hc}
def dD.eM (h:dD C N M) {c:jL} (hc:Fo C c):dD C N (M.eM i c):={h with gE:=ag h.gE hc}
def dD.pC (h:dD C N M) {c:aT} (hc:c.Ok):dD C N (M.pC i c):={h with B1:=ag h.B1 hc}
def dD.Za (h:dD C N M) {v:Ev}:dD C (N+1) (M.Za v):={h.mono (o4 N) with eY:=by rw[cV,tb];have:=h.eY;omega}
theorem aN3 (h:iY C m) (a:m.kG g):0<=(m.jW g).owner/\(m.jW g).owner<=4:=by
 refine h.Ve _ ?_;grind[Mon.kG,Mon.jW]
theorem zr (h:iY C m) {g:Nat} {x:mP} (c:0<=x.owner/\x.owner<=4):iY C (m.oO g x):=
 ⟨by show(m.eQ.set g x).length=_;rw[p7];exact h.len,fun y a=>by
  rcases List.mem_or_eq_of_mem_set a with a|rfl;exact h.Ve y a;exact c,h.run⟩
theorem Ym (h:iY C m) {g:Nat} {x:Option Mc.mS} (c:∀r,x=some r->(g:Int)<C.aJ/\r.aS=g/\(r.phase=1\/r.phase=2)/\(0<=r.core/\r.core<C.aB)/\(0<=r.kC/\r.kC<=4)):iY C (m.dO g x):=
 ⟨h.len,h.Ve,fun k r a=>by
  unfold Mon.dO bD at a;dsimp only at a;split at a;grind;exact h.run k r a⟩
theorem aK5 {c o t:Int}:0<=(jP c w o t).1/\(jP c w o t).1<=4:=by
 grind[jP]
theorem fy (h:iY C m) {a:Mc.Nk}:iY C (m.call C.aB a).1:=by
 unfold Mon.call;split;exact h;rename_i e;split;exact h;have c:m.kG a.aS:=FB;split;exact h;split;exact h;dsimp only;split;exact h;have g:=h.len;unfold Mon.kG at c;refine Ym (zr h (x:=⟨_,true⟩)<|aN3 h c) fun r f=>?_;cases f;refine⟨FA,?_,.inl rfl,aW.1 e,aK5⟩;show a.aS=_;omega
theorem O8 (h:iY C m) {c:Int}:iY C (m.eF C.aB g c).1:=by
 unfold Mon.eF;split;exact h;split;exact h;rename_i r f;split;exact h;split;exact h;unfold Mon.run at f;split at f;refine Ym h fun j i=>?_;cases i;obtain⟨a,b,c,d,e⟩:=h.run _ r f;grind[mS.gX,mS.dE];cases f
theorem g9 (h:iY C m):iY C (m.over g).1/\∀u,(m.over g).2.1=some u->0<=u.core/\u.core<C.aB:=by
 unfold Mon.over;split;grind;split;grind;rename_i r f;split;grind;unfold Mon.run at f;split at f;obtain⟨a,b,c,d,e⟩:=h.run _ r f;grind[Ym,zr];cases f
theorem dp.C3 {H:nD} (h:dp C N H) {l:Nat} {x:iN} (c:vX l x.1) (e:x.1.aH.length<=N+1):dp C (N+1) (bD H l x):=by
 intro k a;unfold bD;split;grind;exact⟨(h k a).1,ts (h k a).2⟩
theorem dp.mono {H:nD} {K:Nat} (h:dp C N H) (c:N<=K):dp C K H:=fun l a=>⟨(h l a).1,cO (h l a).2 c⟩
def V5 {H:nD} {l:Int} (h:dp C N H):dp C (N+1) (jS C H l).1:=by
 unfold jS;split;rename_i a;obtain⟨k,rfl⟩:=aL a.1;obtain⟨c,e⟩:=h k (by have:=a.2;omega);refine h.C3 (Ie c rfl (by show(0:Int)<=0/\(0:Int)<4;omega)<|.inl rfl) ?_;show((H k).1.aH++[nU k]).length<=N+1;simp;omega;exact h.mono<|o4 N
theorem aHm {H:nD} {n:aG} (hC:C.Ok) (h:dp C N H):dp C (N+1) (eW C H n).1:=by
 have k:=hC.1;unfold eW;split;exact h.mono<|o4 N;have s:cU n.kind:=FB;split;rename_i q;obtain⟨t,f⟩:=q;obtain⟨l,a⟩:=aL f.1;have e:n.aI.toNat=l:=FA
 obtain⟨g,i⟩:=h l (by have:=f.2;omega);rw[a];refine h.C3 (aBw g s a FA) ?_;by_cases c:n.kind=4;unfold iN.take;rw[bA1 c];split;grind;exact ts i;by_cases j:n.kind=5;unfold iN.take;grind[iN.nI,u5,mE];unfold iN.take;rw[bA0 c,bA0 j];show((H l).1.aH++[n]).length<=N+1;simp;omega;exact h.mono<|o4 N
theorem aCe {H:nD} {l:Int} (h:dp C N H):dp C (N+1) (eO C H l j).1:=by
 unfold eO;split;rename_i g;obtain⟨k,rfl⟩:=aL g.1;simp only[aM];obtain⟨e,i⟩:=h k (by have:=g.2;omega);unfold iN.dK;split;exact h.C3 e FB;cases hw:(H k).1.aH with
 |nil=>exact h.C3 e FB
 |cons n w=>
  have f:=e.aH n FB;obtain⟨a,b,c⟩:=aDd (m:=(H k).2) (j:=j) (Iv e hw) (show((H k).1.next w).busy=false from(by grind:(H k).1.busy=false)) f.1 f.2.1 f.2.2;refine h.C3 a ?_;rw[Gn];show w.length<=N+1;grind
 exact h.mono<|o4 N
def aCs {H:nD} (h:dp C N H):dp C N (nS H g):=by
 intro l a;unfold nS;split;exact h l a;exact h l a
theorem aBj {n:Int} (c:0<=n/\n<=16) (a:0<=g/\g<=100):0<=lK n g/\lK n g<=1000:=HW
theorem aKf {es:IP} (k:es.length<=16) (f:∀x∈es,0<=x.owner/\x.owner<=4) {a:Int}:0<=(kA es a).1/\(kA es a).1<=1000000:=by
 have c:∀w∈mZ es,0<=w/\w<=1000000:=by
  intro w hw;unfold mZ at hw;rcases cj.1 hw with hw|hw;obtain⟨j,e,rfl⟩:=eV.1 hw;have e:=z2.1 e;unfold Vr;split;grind;have:=aBj (n:=es.length) (g:=((4*j:Nat):Int)) FA FA;omega;obtain⟨x,i,rfl⟩:=eV.1 hw;have:=f x i;unfold Zk;split<;>omega
 unfold kA;split;simp_all;grind
theorem Gy (h:dD C N M) {v c:Int} (a:(i:Int)<C.aB):dD C (N+1) (M.bL i v c).1:=by
 unfold bR.bL;dsimp only;split;exact h.mono<|o4 N;exact(h.pC<|aEh<|h.B1 i a).Za
def KK (k:Int):Prop:=k=6\/k=7\/k=12\/k=13
theorem aSy {l:IA} (h:∀n∈l,n.kind≠12):∀n∈l,n.kind=12->0<=n.d0/\n.d0<=1000000:=FB
def noK {l:IA} (h:∀n∈l,¬KK n.kind):∀n∈l,n.kind=12->0<=n.d0/\n.d0<=1000000:=aSy fun n a e=>h n a FR
def aTg (h:dD C N M) {a:Mc.Nk} (c:(i:Int)<C.aB):dD C (N+1) (M.call C i a).1:=by
 unfold bR.call;dsimp only;split;exact Gy h c;split;exact h.mono<|o4 N;refine((h.bM<|Gt h.cB<|aSy ?_).jH<|fy h.bH).mono (o4 N);intro n e;obtain⟨k,_,rfl⟩:=eV.1 e;show(13:Int)≠12;omega
theorem aSr (h:dD C N M) (a:(i:Int)<C.aB):dD C (N+1) (M.Cm C i g).1:=by
 unfold bR.Cm;dsimp only;split;exact h.mono<|o4 N;split;exact h.mono<|o4 N;refine((h.bM<|Gt h.cB<|aSy ?_).eM<|aE6<|h.gE i a).mono (o4 N);intro n c;rw[aV.1 c];show(6:Int)≠12;omega
theorem aI5 {core:Int} {s:jR} {l:Int} {wr:Bool}:∀n∈(fV C core s l w wr).2.1,¬KK n.kind:=by
 intro n a;unfold fV at a;split at a;cases a;split at a;cases a;split at a;cases a;split at a;cases a;grind[zZ,tX,List.mem_singleton,KK]
theorem aRh (h:dD C N M) {l:Int} {wr:Bool} (a:(i:Int)<C.aB):dD C (N+1) (M.fV C i l wr).1:=by
 unfold bR.fV;dsimp only;split;exact h.mono<|o4 N;split;exact h.mono<|o4 N;exact((h.bM<|Gt h.cB<|noK aI5).jX<|aBp<|h.Pa i a).mono (o4 N)
theorem aSe (h:dD C N M) {l a o:Int} {x:vR} (c:(i:Int)<C.aB):dD C (N+1) (M.jY C i l a o x).1:=by
 unfold bR.jY;refine Gy (h.jX ?_) c;have e:iJ C (if x.Fz=true then pH C (M.bT i) l a o else M.bT i):=by
  split;exact Iq<|h.Pa i c;exact h.Pa i c
 grind[U0]
theorem aGj (h:dD C N M) {a:vR} (c:(i:Int)<C.aB):dD C (N+1) (M.fF C i a).1:=by
 unfold bR.fF;split;exact Gy h c;dsimp only;split;exact h.mono<|o4 N;grind[aSr,Gy,aRh,aSe]
def aSz (h:dD C N M) {a:Int}:dD C (N+1) (M.step C a).1:=by
 unfold bR.step;split;exact h.mono<|o4 N;have c:((a.toNat:Nat):Int)<C.aB:=FA
 dsimp only;split;exact h.mono<|o4 N;split;exact h.mono<|o4 N;split;rename_i r e;exact(h.pC<|aFo (h.B1 _ c) e).Za;split;exact aTg h c;split;exact aGj h c;exact h.mono<|o4 N
theorem xy {r:bP} {aI:Int} {d:Ln}:∀n∈(r.dZ aI d).2,¬KK n.kind:=by
 intro n a;unfold bP.dZ at a;have e:∀s,(r.oY aI s d).kind=8:=fun _=>rfl;unfold KK;grind
theorem j4 {aI:Int}:∀n∈eR aI st l,¬KK n.kind:=by
 grind[eR,KK]
theorem aTs {r:bP} {aI:Int} {m:Ln}:∀n∈(r.rest aI m).2,¬KK n.kind:=by
 grind[bP.rest,xy]
theorem Xj {H:nD} {n:aG}:∀x∈(eW C H n).2.1,¬KK x.kind:=by
 intro x a;unfold eW at a;split at a;cases a;split at a;unfold iN.take at a;split at a;grind;split at a;split at a;cases a;exact aTs x a;cases a;cases a
theorem aUx {r:bP} {aI:Int} {m:Ln} {n:aG}:∀x∈(r.get aI m n w).2,¬KK x.kind:=by
 grind[bP.get,bP.Ky,j4,xy,bP.Jv]
theorem Sx {H:nD} {l:Int}:∀x∈(eO C H l j).2.1,¬KK x.kind:=by
 intro x a;unfold eO at a;split at a;unfold iN.dK at a;split at a;cases a;split at a;cases a;unfold bP.eX at a;split at a;rw[aV.1 a];show ¬KK 10;unfold KK;omega;split at a;split at a;exact aUx x a;rw[aV.1 a];show ¬KK 9;unfold KK;omega;grind[j4];cases a
theorem aAb {core:Int} {s:jR} {n:aG}:∀x∈(fP C core s n).2.1,¬KK x.kind:=by
 intro x a;have e:∀y,(iQ core n y).kind=5:=fun y=>by grind[iQ]
 unfold fP vJ Bh rS lI at a;repeat' split at a
 all_goals (unfold KK;grind)
theorem dD.take (h:dD C N M) (hC:C.Ok) (g:N<=2^29) {n:aG} (c:vz C n):E6 C M n:=by
 obtain⟨f,e⟩:=fI c.gE;have a:((n.core.toNat:Nat):Int)<C.aB:=FA
 exact⟨e,h.bH,h.aK.h FA,h.Pa _ a,(h.gE _ a).len hC,(h.gE _ a).2,c.dF⟩
theorem aLt (h:dD C N M) (hC:C.Ok) {n:aG} (f:vz C n):dD C (N+2) (M.cU C n).1/\∀x∈(M.cU C n).2.1,x.kind=12->0<=x.d0/\x.d0<=1000000:=by
 obtain⟨j,k⟩:=fI f.gE;have c:((n.core.toNat:Nat):Int)<C.aB:=FA
 have q:=h.bH.len;have i:=hC.2.1;unfold bR.cU;split;exact⟨(h.mI (o4 N)<|aHm hC h.aK).mono<|o4 _,noK Xj⟩;split;refine⟨(h.jX<|Wr ?_<|h.Pa _ c).mono FA,noK aAb⟩;intro g;have:=Xs f.gE g;omega;split;refine⟨h.mono FA,fun x a _=>?_⟩;rw[aV.1 a];exact aKf FA h.bH.Ve;split;refine⟨(h.eM<|aDe hC<|h.gE _ c).mono FA,fun x a e=>?_⟩;dsimp only at a;split at a;cases a;rw[aV.1 a] at e;exact absurd e (by show(6:Int)≠12;omega);split;refine⟨(h.eM<|aOk<|h.gE _ c).mono FA,fun x a e=>?_⟩;rw[aV.1 a] at e;exact absurd e (by show(7:Int)≠12;omega);split;refine⟨?_,FB⟩;dsimp only;split;exact(h.jH<|O8 h.bH).mI FA (V5<|V5 h.aK);exact(h.jH<|O8 h.bH).mono FA;exact⟨h.mono FA,FB⟩
theorem aB8 (h:dD C N M) (hC:C.Ok) {a b c:Int}:dD C (N+2) (M.cZ C a b c).1:=by
 unfold bR.cZ;dsimp only;split;exact h.mono FA;rename_i g;obtain⟨e,f⟩:=aLt h hC (Mz h.cB<|aW.1 g).1;split;exact h.mono FA;split;exact h.mono FA;exact e.bM<|Gt (Uy h.cB) f
def aP0 (h:dD C N M) {a:Int}:dD C (N+2) (M.dK C a).1:=by
 unfold bR.dK;dsimp only;split;exact h.mono FA;split;exact h.mono FA;exact((h.bM<|Gt h.cB<|noK Sx).mI (o4 N)<|aCe h.aK).mono FA
def aGk (h:dD C N M) {a:Int}:dD C (N+2) (M.gI C a).1:=by
 obtain⟨c,e⟩:=g9 (g:=a) h.bH;unfold bR.gI;split;exact h.mono FA;split;exact h.mono FA;dsimp only;split;exact h.mono FA;rename_i u f;have i:=e u f;refine(Gy (N:=N) ?_ FA).mono FA;split;exact(h.jH c).mI (b0 N) (aCs h.aK);exact h.jH c
theorem aPu (h:dD C N M) (hC:C.Ok) {d:Do}:dD C (N+2) (M.mK C d).1:=by
 unfold bR.mK;split;exact(aSz h).mono FA;split;grind[aB8];split;exact aP0 h;split;exact aGk h;exact h.mono FA
end Go.Mc
namespace Go.Proofs.Z
open Go.Hm Go.At
variable {G:Bg} {h:AH}
variable {C:bQ}
theorem aKh (hC:C.Ok) {l:Nat} {mem:Nat->Ln} (j:l<C.aF) (c:Hs G h (gQ G C.aF mb C mem::L)):
  ∃(b o cap:Nat) (r w:Int) (b2 o2 cp:Nat) (H:HP),Hs G h (aN mb 0 (C.enc++[.slice (some ⟨b,o,none⟩) C.bZ.toNat cap])::aN b (o+(l % C.bZ.toNat)*3) [I r,I w,.slice (some ⟨b2,o2,none⟩) (qI C.aF C.bZ.toNat<|l % C.bZ.toNat) cp]::aN b2 (o2+l/C.bZ.toNat*2) (Va<|mem l)::H::L)/\
   ∀v f M,Hs G f (aN mb 0 (C.enc++[.slice (some ⟨b,o,none⟩) C.bZ.toNat cap])::aN b (o+(l % C.bZ.toNat)*3) [I r,I w,.slice (some ⟨b2,o2,none⟩) (qI C.aF C.bZ.toNat<|l % C.bZ.toNat) cp]::aN b2 (o2+l/C.bZ.toNat*2) (Va v)::H::M)->Hs G f (gQ G C.aF mb C (bD mem l v)::M):=by
 have hb:=bQ.bk hC
 obtain⟨b,o,cap,c⟩:=Cx c
 have c:=(c.bF<|eP C.bZ.toNat fun i=>kO C.aF C.bZ.toNat b (o+i*3) i mem).oI (l % C.bZ.toNat)<|AX _ hb.2.1
 obtain⟨r,w,a,cp,c⟩:=Il c
 have g:=Re hb.2.1 j
 obtain⟨b2,o2,rfl,H,c,e⟩:=Hs.aGn (ae (B:=C.bZ.toNat) (i:=l % C.bZ.toNat) (mem:=mem)) g<|c.bF<|dY 2 169 a cp (qI C.aF C.bZ.toNat _,(List.range _).flatMap _)
 rw[aHx hb.2.1] at c
 refine⟨b,o,cap,r,w,b2,o2,cp,sp [H,sp<|((List.range C.bZ.toNat).erase<|l % C.bZ.toNat).map fun i=>kO C.aF C.bZ.toNat b (o+i*3) i mem,gJ G 3 227 (some ⟨b,o,none⟩) cap C.bZ.toNat b o],c.to,?_⟩
 intro v f M c
 have c:=(c.bF<|sp [H,sp<|((List.range C.bZ.toNat).erase<|l % C.bZ.toNat).map fun i=>kO C.aF C.bZ.toNat b (o+i*3) i mem,gJ G 3 227 (some ⟨b,o,none⟩) cap C.bZ.toNat b o]).E4
 have c:=e _ _ _ rfl rfl<|c.dC (aN b2 _<|Va v) H
 rw[Zd hb.2.1] at c
 have c:=xA<|c.sg (b:=b) (o:=o+l % C.bZ.toNat*3) rfl
 exact zK (b:=b) (o:=o) (cap:=cap)<|(c.qN (i:=l % C.bZ.toNat) (fun i=>kO C.aF C.bZ.toNat b (o+i*3) i mem) (fun i=>kO C.aF C.bZ.toNat b (o+i*3) i<|bD mem l v) (AX _ hb.2.1) fun i q k=>by grind[kO,aI2]).to
def y1 (hC:C.Ok) {w:Nat} {mem:Nat->Ln} (j:Ob G 0 iF) (a:Hs G h (gQ G C.aF mb C mem::L)) (s:w<C.aF*2)
  (q:∀(b2 o2:Nat) (H:HP) c,Hs G c (aN b2 o2 (Va<|mem<|w/2)::H::L)->(∀v c M,Hs G c (aN b2 o2 (Va v)::H::M)->Hs G c (gQ G C.aF mb C (bD mem (w/2) v)::M))->Q (.tuple ⟨[pt b2 o2<|0+w % 2*1,I 0]⟩) c):IU 73 [IV mb,I w] h Q:=by
 have hb:=bQ.bk hC
 have f:w/2<C.aF:=FA
 obtain⟨b,o,cap,r,k,b2,o2,i,H,a,e⟩:=aKh hC f a
 refine cW<|dM<|cS<|bW<|aC<|aA<|bB a FC (l:=C.enc) rfl rfl<|Od hC j a fun h a=>?_
 rw[aac]
 refine aQ rfl<|aQ rfl<|aQ rfl<|bU<|aab<|bW ?_
 rw[aM]
 refine Bq hC j a f fun h a=>aQ rfl<|aQ rfl<|aQ rfl<|bU<|aab<|aC<|aA<|aE a rfl ?_
 have g:=Re hb.2.1 f
 refine fD g<|kS FA<|q _ _ (sp [aN mb 0<|C.enc++[.slice (some ⟨b,o,none⟩) C.bZ.toNat cap],aN b (o+(w/2 % C.bZ.toNat)*3) [I r,I k,.slice (some ⟨b2,o2,none⟩) (qI C.aF C.bZ.toNat<|w/2 % C.bZ.toNat) i],H]) _ a.to fun v c M a=>?_
 have a:=(a.bF<|sp [aN mb 0<|C.enc++[.slice (some ⟨b,o,none⟩) C.bZ.toNat cap],aN b (o+(w/2 % C.bZ.toNat)*3) [I r,I k,.slice (some ⟨b2,o2,none⟩) (qI C.aF C.bZ.toNat<|w/2 % C.bZ.toNat) i],H]).E4
 exact e v c M a.to
def aWx (l:Ln) (w:Nat):(Va l)[0+w % 2*1]?=some (I<|if w % 2=0 then l.1 else l.2):=by
 have:w % 2=0\/w % 2=1:=FA
 rcases this with h|h<;>rw[h]<;>rfl
def Xr (hC:C.Ok) {w:Nat} {mem:Nat->Ln} (j:Ob G 0 iF) (c:Hs G h L) [m:eB (gQ G C.aF mb C) L mem L'] (g:w<C.aF*2)
  (i:∀f,Hs G f (gQ G C.aF mb C mem::L')->Q (.tuple ⟨[I<|Cw mem w,I 0]⟩) f):IU 85 [IV mb,I w] h Q:=by
 refine cW<|y1 hC j (m.of c) g fun k q H h c a=>aQ rfl<|aQ rfl<|bU<|aab<|aC<|aE c (aWx _ w) ?_
 have c:=a _ _ _ c
 rw[zM] at c
 have:=i _ c
 unfold Cw at this
 split at this
 .rename_i e;rw[bA1 e];exact this
 .rename_i e;rw[bA0 e];exact this
def Oy (hC:C.Ok) {w:Nat} {v:Int} {mem:Nat->Ln} (j:Ob G 0 iF) (a:Hs G h L) [m:eB (gQ G C.aF mb C) L mem L'] (i:w<C.aF*2)
  (g:∀f,Hs G f (gQ G C.aF mb C (Fb mem w v)::L')->Q (I 0) f):IU 35 [IV mb,I w,I v] h Q:=by
 refine cW<|y1 hC j (m.of a) i fun k q H h a c=>aQ rfl<|aQ rfl<|bU<|aab<|bW<|aC ?_
 have e:w % 2=0\/w % 2=1:=FA
 rcases e with e|e
 .rw[e];refine ay a fun h a=>?_;have a:=c (v,(mem _).2) _ _ a;exact(g _<|by unfold Fb;rw[bA1 e];exact a)
 .rw[e];refine ay a fun h a=>?_;have a:=c ((mem _).1,v) _ _ a;exact(g _<|by unfold Fb;rw[aaa];exact a)
end Go.Proofs.Z
namespace Go.Proofs.Z.A
open Go.Hm Go.At Go.Is
variable {G:Bg} {h:AH}
theorem gy {a b:Int} {l:EV} (z:l.length<1000000) (k:∀q,Hs G q (Gc G 1 e v (l.map fun x=>[I x])::L)->Q (.bool<|xH a b l) q):
  ∀(f i:Nat) (h:AH),i+f=l.length->xH a b l=xH a b (l.drop i)->Hs G h (Gc G 1 e v (l.map fun x=>[I x])::L)->Dd 66 1 [] Q [I a,I b,v,I l.length,I i] h:=by
 intro f
 induction f with
 |zero=>
  intro i h u g j
  rw[eg FA] at g
  refine bW<|bE<|aab ?_
  have:=k _ j
  rw[g] at this
  exact this
 |succ f y=>
  intro i h u g j
  obtain⟨x,w,t⟩:=sB (l:=l) (i:=i) FA
  rw[t] at g
  have s:xH a b (x::l.drop (i+1))=(decide _&&xH a b _):=rfl
  rw[s] at g
  refine bW<|bE<|aae<|bW<|Cz j (x:=[I x]) (by simp[w]) rfl<|bE<|bG (fun c=>?_) fun c=>oT<|bG (fun d=>?_) fun d=>?_
  .have:=k _ j;rw[g,cM FA] at this;exact this
  .have:=k _ j;rw[g,cM FA] at this;exact this
  .rw[cL FA,AK] at g;exact bW<|aad<|y (i+1) h FA g j
def No {a b:Int} {l:EV} (j:l.length<1000000) (g:Hs G h (Gc G 1 e v (l.map fun x=>[I x])::L)) (i:∀f,Hs G f (Gc G 1 e v (l.map fun x=>[I x])::L)->Q (.bool<|xH a b l) f):IU 66 [I a,I b,v] h Q:=by
 obtain⟨q,tc,k⟩:=Dk g;refine cW ?_;have c:=gy j i l.length 0 h FA rfl g;rw[k] at c ⊢;simp only[js] at c ⊢;exact dB c
theorem rB {g:Addr} {a b:Int} (c:Hs G h (dY 1 e (some g) 1 (1,[I x])::L)) (i:∀f,Hs G f L->Q (.bool<|decide<|a<=x/\x<=b) f):IU 66 [I a,I b,.slice (some g) 1 1] h Q:=by
 have c:=cf (l:=[x].map fun x=>[I x]) FF rfl rfl c;refine No FF c fun f c=>?_;have:=i _ c.tail;grind[xH,decide]
def ia {c o t:Int} (f:Hs G h L) (e:∀j,Hs G j L->Q (.tuple ⟨[I (jP c w o t).1,.bool (jP c w o t).2.1,I (jP c w o t).2.2]⟩) j):IU 176 [I c,I w,I o,I t] h Q:=by
 refine cW<|aZ (c:=[I w]) rfl<|dV f rfl rfl rfl fun a h f=>rB f fun h f=>cX<|fM<|bG (fun s=>?_) fun s=>?_;rotate_left;have:=e _ f;unfold jP at this;rw[aac] at this;exact this;refine aZ (c:=[I o]) rfl<|dV f rfl rfl rfl fun a h f=>rB f fun h f=>cX<|fM<|bG (fun u=>?_) fun u=>?_;rotate_left;have:=e _ f;unfold jP at this;rw[aac] at this;exact this;unfold jP at e;rw[aaa] at e;refine bW<|cC<|bG (fun g=>?_) fun n1=>bW<|cC<|bG (fun g=>?_) fun i=>bW<|cC<|bG (fun g=>?_) fun k=>bW<|cC<|bG (fun g=>?_) fun v=>?_;rw[bA1 g] at e;refine bW<|bU<|bG (fun g1=>?_) fun g1=>?_;rw[bA1 g1] at e;exact e _ f;rw[bA0 g1] at e;refine bW<|bU<|bG (fun g2=>?_) fun g2=>?_;rw[bA1 g2] at e;exact e _ f;rw[bA0 g2] at e;refine bW<|aZ (c:=[I t]) rfl<|dV f rfl rfl rfl fun a h f=>rB f fun h f=>cX<|fM<|bG (fun g3=>?_) fun g3=>?_;rw[aaa] at e;exact e _ f;rw[aac] at e;exact e _ f;rw[bA0 n1,bA1 g] at e;refine bW<|cC<|bG (fun g1=>?_) fun g1=>?_;rw[bA1 g1] at e;exact e _ f;rw[bA0 g1] at e;refine bW<|bU<|bG (fun g2=>bU<|bG (fun g3=>?_) fun g3=>?_) fun g2=>?_;rw[aac] at e;exact e _ f;rw[aaa] at e;exact e _ f;rw[aaa] at e;exact e _ f;rw[bA0 n1,bA0 i,bA1 g] at e;refine bW<|cC<|bG (fun g1=>?_) fun g1=>bU<|bG (fun g2=>?_) fun g2=>?_;rw[aac] at e;exact e _ f;rw[aac] at e;exact e _ f;rw[aaa] at e;refine bW<|aZ (c:=[I t]) rfl<|dV f rfl rfl rfl fun a h f=>rB f fun h f=>cX<|fM<|bG (fun g3=>cC<|bG (fun q=>?_) fun q=>?_) fun g3=>?_;rw[aac] at e;exact e _ f;rw[aaa] at e;exact e _ f;rw[aac] at e;exact e _ f;rw[bA0 n1,bA0 i,bA0 k,bA1 g] at e;refine bW<|cC<|bG (fun g1=>?_) fun g1=>?_;rw[bA1 g1] at e;exact e _ f;rw[bA0 g1] at e;refine bW<|bU<|bG (fun g2=>?_) fun g2=>?_;rw[bA1 g2] at e;exact e _ f;rw[bA0 g2] at e;exact e _ f;rw[bA0 n1,bA0 i,bA0 k,bA0 v] at e;exact e _ f
def yP (p:ID):EU:=p.flatMap iD.enc
theorem zk {p:ID} (c:i<p.length):((yP p).drop<|i*4).take 4=(p.getD i ⟨0,0,0,0⟩).enc:=by
 have a:=(E1 (W:=4) (l:=p.map iD.enc) (i:=i) (x:=(p.getD i ⟨0,0,0,0⟩).enc) (by simp[iD.enc]) FB).1;rw[<-a];rfl
theorem aLy {p:ID} (c:i<p.length):(yP p)[i*4+0]?=some (I (p.getD i ⟨0,0,0,0⟩).op):=by
 have a:=zk c;have e:(((yP p).drop<|i*4).take 4)[0]?=some (I (p.getD i ⟨0,0,0,0⟩).op):=by rw[a];rfl
 grind
variable {s:aT}
def sR (a:0<=r) (c:r<4):(s.core++[v])[0+0+0+r.toNat*1]?=some (I<|s.dI r.toNat):=by
 have:r=0\/r=1\/r=2\/r=3:=FA
 rcases this with rfl|rfl|rfl|rfl<;>rfl
def aGg (a:0<=r) (c:r<4):bM (s.core++[v]) (0+0+0+r.toNat*1) [I x]=(s.dO r x).core++[v]:=by
 have:r=0\/r=1\/r=2\/r=3:=FA
 rcases this with rfl|rfl|rfl|rfl<;>rfl
def B0 {k:AH->Prop} (a:Hs G h L) [m:eB (aN b q) L (s.core++[v]) L'] (e:0<=r) (f:r<4) (g:∀c,Hs G c (aN b q ((s.dO r x).core++[v])::L')->k c):cE (Ba h 1 (pt b q<|0+0+0+r.toNat*1)<|I x) k:=by
 refine cF a rfl ?_ rfl rfl fun h a=>g h ?_;have:r=0\/r=1\/r=2\/r=3:=FA
 rcases this with rfl|rfl|rfl|rfl<;>rfl;rw[aGg e f] at a;exact a
def M6 {at':Int} (k:0<=at') (f:Hs G h (aN b q (s.core++[.slice a s.prog.length c])::dY 4 49 a c (s.prog.length,yP s.prog)::L))
  (j:∀i,Hs G i (aN b q ((s.jB at').core++[.slice a s.prog.length c])::dY 4 49 a c (s.prog.length,yP s.prog)::L)->Q (.tuple ⟨[]⟩) i):IU 70 [pt b q 0,I at'] h Q:=by
 refine cW<|aC<|aA<|aA<|ay f fun h f=>aC<|aA<|aE f rfl<|dB<|fX<|bG (fun g=>?_) fun g=>?_
 .refine aC (aA<|aA<|ay f fun h f=>(j _ ?_));have e:s.jB at'={s with at':=at',over:=true}:=by unfold aT.jB G2;rw[bA1 g]
  rw[e]
  exact f
 .obtain⟨n,rfl⟩:∃n:Nat,at'=n:=⟨at'.toNat,FA⟩;refine aC<|aA<|aE f rfl<|aI9 (e:=49) f FA (aLy FA)<|cC<|aC<|aA<|aA<|ay f fun h f=>(j _ ?_);have e:s.jB n={s with at':=n,over:=decide ((s.prog.getD n ⟨0,0,0,0⟩).op=11)}:=by unfold aT.jB G2;rw[bA0 g];rfl
  rw[e]
  exact f
end Go.Proofs.Z.A
namespace Go.Proofs.Z
open Go.Hm Go.At Go.Mc
variable {m:Mon}
theorem yA {g:Nat}:g∈m.fO↔g<16/\(m.eI g).isSome:=by grind[Mon.fO]
variable {G:Bg} {h:AH} {C:bQ}
def Ib {t:Nat} (e:Hs G h L) [f:eB (mG t) L m.eQ L'] (c:∀a,Hs G a (mG t m.eQ::L')->Q (if m.kG g then .tuple ⟨[.agg ⟨(m.jW g).enc⟩,I 0]⟩ else .tuple ⟨[.agg ⟨pU.enc⟩,I 10]⟩) a):IU 170 [IV t,I g] h Q:=
 aCv e c
abbrev aF0 (C:bQ) (m:Mon) (p p2 p3 f p5:Nat) (a:Mc.Nk) (e:Nat->Value) (d l:Nat) (st:LoopState×Option Code) (b:Bool) (c:Int) (pr:Prop):HP:=
 sp [Dm pr,pG Pr 131 (qM 1018) 113 e d l st,sp [aN p2 0 [IV p],aN p3 0 a.enc,aN f 0 [.bool b],aN p5 0 [I c]],jQ C p m]
set_option maxHeartbeats 600000 in
theorem wy {a:Mc.Nk} (hC:C.Ok) (hm:iY C m) (s:Hs G h L) [mm:eB (jQ C p) L m L'] (u:∀O,Hs G O (jQ C p (m.call C.aB a).1::L')->Q (.tuple ⟨[.bool (m.call C.aB a).2.1,I (m.call C.aB a).2.2]⟩) O):IU 131 [IV p,.agg ⟨a.enc⟩] h Q:=by
 have hc:=hC.1;have κ:=hC.2.1;have ι:=hm.len;have s:=mm.of s;unfold Mon.call at u;refine cW<|eT s fun z h s=>eT s fun B h s=>cK s fun w h s=>cK s fun y h s=>aE s rfl<|dM<|cS ?_;have bad:∀{h:AH} {M:IB} (e:Int),[F2 M (jQ C p m::L')]->Hs G h (aN w 0 [.bool false]::aN y 0 [I 0]::M)->(∀O,Hs G O (jQ C p m::L')->Q (.tuple ⟨[.bool false,I e]⟩) O)->
   cE (Ba h 1 (IV w)<|.bool false) fun P=>cE (Ba P 1 (IV y)<|I e) fun h6=>cE (dX [] h6) fun W=>cE (xE W<|IV w) fun v8=>cE (xE W<|IV y) fun v9=>Q (.tuple ⟨[v8,v9]⟩) W:=by
  intro h M e _ s hq
  exact ax s fun h s=>ax s fun h s=>oA<|aE s rfl<|aE s rfl<|hq _ s.to
 obtain⟨t,b,s⟩:=pZ<|s.bF<|jQ C p m;have D:∀{h:AH} {M:IB},Hs G h (aN p 0 _::mG t m.eQ::qV b _::M)->Hs G h (jQ C p m::M):=fun s=>fT s;refine bW<|bI s fun r1 h s=>aA<|aE s rfl<|bE<|bG (fun h1=>?_) fun h1=>?_;rw[aac] at u;have s:=D<|s.dR _ _ _;exact bad (M:=jQ C p m::L') 1 s.to u;refine aA<|aE s rfl<|aE s rfl<|aC<|aA<|aE s rfl<|fX<|bG (fun h2=>?_) fun h2=>?_;rw[aac] at u;have s:=D<|s.dR _ _ _;exact bad (M:=jQ C p m::L') 1 s.to u;rw[aaa] at u;refine bW<|bI s fun r2 h s=>aE s rfl<|aC<|aA<|aE s rfl<|aA<|aE s rfl<|Ib s fun h s=>?_;by_cases J:m.kG a.aS;rotate_left;rw[bA0 J];rw[bA1 J] at u;refine aQ rfl<|aQ rfl<|nJ s rfl rfl fun F h s=>ax s fun h s=>cR (aQ rfl jF)<|bU<|aae ?_;have s:=D<|s.dR _ _ _;exact bad (M:=jQ C p m::L') 10 s.to u;rw[bA1 J];rw[bA0 FB] at u;have ζ:=hm.jW J;have Y:0<=a.aS/\a.aS<C.aJ:=by unfold Mon.kG at J;omega
 refine aQ rfl<|aQ rfl<|nJ s rfl rfl fun F h s=>ax s fun h s=>cR (aQ rfl jF)<|bU<|aab ?_;have s:=D<|s.dR _ _ _;refine bW<|aE s rfl<|aA<|aE s rfl<|Uu (C:=C) s fun h s=>bU<|bG (fun V=>?_) fun V=>?_;rw[bA1 V] at u;exact bad (M:=jQ C p m::L') 17 s.to u;rw[bA0 V] at u;refine bW<|aE s rfl<|J9 (C:=C) s fun q qa qc h s=>oE s fun d h s=>fun e he=>rI s fun l h s=>xQ rfl ?_;have s:Hs G h (H.Tv 3 q qa qc (m.fO.map fun k:Nat=>(k:Int))::aF0 C m p z B w y a e d l (.ready,none) false 0 (∀g∈([]:EV),m.qR a.core g.toNat=false)::sp [mk d (),aN F 0 (m.jW a.aS).enc]::L'):=by
  have s:=(s.dC (mk d ())<|aN F 0 (m.jW a.aS).enc).F4;have s:=(s.pQ (aN z 0 [IV p]) (aN B 0 a.enc) (aN w 0 [.bool false])<|aN y 0 [I 0]).Rh;have s:=s.dR (pG Pr 131 (qM 1018) 113 e d l (.ready,none)) (sp [aN z 0 [IV p],aN B 0 a.enc,aN w 0 [.bool false],aN y 0 [I 0]])<|jQ C p m;have s:=Hs.Rh<|Hs.bh (p:=∀g∈([]:EV),m.qR a.core g.toNat=false) FF s;exact s.to
 refine(H.G7 GP).Nf
  (X:=fun done=>aF0 C m p z B w y a e d l (.ready,none) false 0 (∀g∈done,m.qR a.core g.toNat=false)) (Z:=fun _ x=>aF0 C m p z B w y a e d l (.done,some .ret) false 13<|x∈(m.fO.map fun k:Nat=>(k:Int))/\m.qR a.core x.toNat=true) s ?_ ?_ ?_
 .intro done x h M hp s;obtain⟨R,s⟩:=kL s;have s:=s.E4;obtain⟨k,ε,rfl⟩:∃k∈m.fO,(k:Int)=x:=by
   obtain⟨ys,θ⟩:=hp;have:x∈m.fO.map fun k:Nat=>(k:Int):=by rw[<-θ];simp
   grind
  obtain⟨r,hr⟩:=c7.1 (yA.1 ε).2;have η:m.run (k:Int)=some r:=by unfold Mon.run;rw[aac];exact hr
  have s:=(s.bF<|sp [aN z 0 [IV p],aN B 0 a.enc,aN w 0 [.bool false],aN y 0 [I 0]]).un4;refine rW (yH s) he<|kY s fun h s=>bI s fun rr h s=>?_;obtain⟨t,b,s⟩:=pZ<|s.bF<|jQ C p m;refine aE s rfl<|aC<|aA<|aE s rfl<|Wg s ?_;rw[η];refine Rc rfl rfl<|Rc (m:=Hb r) rfl rfl<|xi rfl<|aA<|aE s rfl<|cC<|bG (fun c1=>?_) fun c1=>?_;refine ax s fun h s=>ax s fun h s=>lJ s fun h s=> .inr ⟨rfl,?_⟩;have s:=fT<|s.dR (aN p 0 [IV t,I C.aB,lE b]) (mG t m.eQ) _;have s:=(s.pQ (aN z 0 [IV p]) (aN B 0 a.enc) (aN w 0 [.bool false])<|aN y 0 [I 13]).Rh;have s:=s.dR (pG Pr 131 (qM 1018) 113 e d l (.done,some .ret)) (sp [aN z 0 [IV p],aN B 0 a.enc,aN w 0 [.bool false],aN y 0 [I 13]])<|jQ C p m;refine(Hs.Rh<|Hs.bh (p:=((k:Int)∈(m.fO.map fun k:Nat=>(k:Int))/\m.qR a.core ((k:Int)).toNat=true)) ⟨FB,?_⟩ s).to;grind[Mon.qR,Int.toNat_natCast,decide_eq_true]
  .refine lJ s fun h s=> .inl ⟨rfl,?_⟩;have s:=fT<|s.dR (aN p 0 [IV t,I C.aB,lE b]) (mG t m.eQ) _;have s:=(s.pQ (aN z 0 [IV p]) (aN B 0 a.enc) (aN w 0 [.bool false])<|aN y 0 [I 0]).Rh;have s:=s.dR (pG Pr 131 (qM 1018) 113 e d l (.ready,none)) (sp [aN z 0 [IV p],aN B 0 a.enc,aN w 0 [.bool false],aN y 0 [I 0]])<|jQ C p m;refine(Hs.Rh<|Hs.bh (p:=∀g∈done++[((k:Nat):Int)],m.qR a.core g.toNat=false) ?_ s).to;grind[List.mem_singleton,Int.toNat_natCast,Mon.qR,decide_eq_false]
 .intro v h s;obtain⟨R,s⟩:=kL<|s.bF<|aF0 C m p z B w y a e d l (.ready,none) false 0 (∀g∈m.fO.map (fun k:Nat=>(k:Int)),m.qR a.core g.toNat=false);have s:=s.E4;have μ:m.iC a.core=false:=by
   unfold Mon.iC;rw[CU];intro g U;have:=R g<|eV.2 ⟨g,U,rfl⟩;rw[aM] at this;rw[this];simp
  rw[bA0 FB] at u;have s:=(s.bF<|sp [aN z 0 [IV p],aN B 0 a.enc,aN w 0 [.bool false],aN y 0 [I 0]]).un4;have s:=(s.bF<|sp [mk d (),aN F 0 (m.jW a.aS).enc]).Fk;refine qZ s fun h s=>rC<|aA<|aE s rfl<|aA<|aE s rfl<|aA<|aE s rfl<|aA<|aE s rfl<|A.ia s fun h s=>?_;dsimp only at u;have β:0<=(jP a.call a.bA (m.jW a.aS).owner a.to).1/\(jP a.call a.bA (m.jW a.aS).owner a.to).1<=4:=by
   unfold jP;repeat' split
   all_goals grind
  generalize jP a.call a.bA _ a.to=jj at u β ⊢;refine aQ rfl<|aQ rfl<|aQ rfl<|bU<|bG (fun P=>?_) fun P=>?_;rw[bA1 P] at u;refine ax s fun h s=>ax s fun h s=>qP s fun h s=>oA<|aE s rfl<|aE s rfl<|u _ s.to;rw[bA0 P] at u;obtain⟨t,b,s⟩:=pZ<|s.bF<|jQ C p m;refine bW<|bI s fun rr h s=>aE s rfl<|aC<|aA<|aE s rfl<|aA<|aE s rfl<|aA<|aE s rfl<|aZ (c:=(⟨(m.jW a.aS).owner,true⟩:mP).enc) rfl<|Oc s fun h s=>?_;have E:(0<=a.aS/\a.aS<m.eQ.length)/\(0<=(m.jW a.aS).owner/\(m.jW a.aS).owner<=4):=⟨J,ζ⟩;rw[bA1 E] at s;rw[bA1 E];refine bU<|aab<|bW<|an B s (l:=a.enc) rfl rfl<|aZ (c:=[I a.core,I a.bA,I a.call,I a.aS,I a.to,I jj.1,.bool jj.2.1]) rfl<|aZ (c:=(⟨a.core,a.bA,a.call,a.aS,a.to,jj.1,jj.2.1,1,fun _=>false⟩:Mc.mS).enc) rfl<|cK s fun pr h s=>ax (b:=pr) s fun h s=>am z s rfl<|aC<|aA<|am p s rfl ?_;have loop:∀(k i:Nat) (h:AH),i+k=C.aB.toNat->Hs G h (aN pr 0 (⟨a.core,a.bA,a.call,a.aS,a.to,jj.1,jj.2.1,1,fun j=>decide<|j<i⟩:Mc.mS).enc::aN p 0 [IV t,I C.aB,lE b]::mG t (m.eQ.set a.aS.toNat ⟨(m.jW a.aS).owner,true⟩)::qV b (oM m.eI)::aN z 0 [IV p]::aN B 0 a.enc::aN w 0 [.bool false]::aN y 0 [I 0]::mk d ()::L')->
    Dd 131 8 [d] Q [IV z,IV B,IV w,IV y,IV pr,I C.aB,I i] h:=by
   intro k
   induction k with
   |zero=>
    intro i h hi s
    refine bW<|bE<|aab<|bW<|bI s fun rr h s=>aE s rfl<|aC<|aA<|aE s rfl<|aA<|aE s rfl<|bB s FC (l:=(⟨_,_,_,_,a.to,jj.1,_,1,fun j=>decide _⟩:Mc.mS).enc) rfl rfl ?_
    obtain⟨g,U⟩:=aL Y.1
    rw[show(a.aS)=((g:Nat):Int) from U]
    refine Zg s FA fun h s=>?_
    rw[<-U] at s
    refine ax s fun h s=>ax s fun h s=>qP s fun h s=>oA<|aE s rfl<|aE s rfl<|u _ ?_
    have hw:(⟨a.core,a.bA,a.call,a.aS,a.to,jj.1,jj.2.1,1,fun j=>decide<|j<i⟩:Mc.mS)=a.run C.aB jj:=by
     unfold Nk.run;congr 1;funext j;exact FB
    have e1:=Nm (f:=m.eI) (g:=g) (x:=some<|a.run C.aB jj)
    rw[rk] at e1
    have s:=s.dR (aN p 0 [IV t,I C.aB,lE b]) (mG t<|m.eQ.set a.aS.toNat ⟨(m.jW a.aS).owner,true⟩)<|qV b<|Tm (oM m.eI) g<|some<|.agg ⟨(⟨a.core,a.bA,a.call,a.aS,a.to,jj.1,jj.2.1,1,fun j=>decide<|j<i⟩:Mc.mS).enc⟩
    rw[hw,e1] at s
    have α:g=a.aS.toNat:=FA
    rw[α] at s
    exact(fT (m:=(m.oO a.aS.toNat _).dO a.aS.toNat _) s).to
   |succ k ih=>
    intro i h hi s
    refine bW<|bE<|aae<|bW<|aA<|kS FA ?_
    have hl:(⟨a.core,a.bA,a.call,a.aS,a.to,jj.1,jj.2.1,1,fun j=>decide<|j<i⟩:Mc.mS).enc.length=12:=rfl
    refine cF s rfl (by grind[Nat.ble_eq_true_of_le]) rfl rfl fun h s=>aad<|ih (i+1) h FA ?_
    have e:bM (⟨a.core,a.bA,a.call,a.aS,a.to,jj.1,jj.2.1,1,fun j=>decide<|j<i⟩:Mc.mS).enc (0+8+i*1) [.bool true]=(⟨a.core,a.bA,a.call,a.aS,a.to,jj.1,jj.2.1,1,fun j=>decide<|j<i+1⟩:Mc.mS).enc:=by
     have:i=0\/i=1\/i=2\/i=3:=FA
     rcases this with rfl|rfl|rfl|rfl<;>rfl
    grind
  refine loop C.aB.toNat 0 h FA ?_;have e:(⟨_,_,_,_,a.to,jj.1,_,1,fun _=>false⟩:Mc.mS).enc=(⟨a.core,a.bA,a.call,a.aS,a.to,jj.1,jj.2.1,1,fun j=>decide<|j<0⟩:Mc.mS).enc:=rfl;rw[e] at s;exact s.to
 .intro done x v h hp s;obtain⟨R,s⟩:=kL<|s.bF<|aF0 C m p z B w y a e d l (.done,some .ret) false 13<|x∈(m.fO.map fun k:Nat=>(k:Int))/\m.qR a.core x.toNat=true;have s:=s.E4;have T:m.iC a.core=true:=by
   unfold Mon.iC;rw[EI];obtain⟨k,γ,δ⟩:=eV.1 R.1;refine⟨k,γ,?_⟩;have:=R.2;rw[<-δ,aM] at this;exact this
  rw[bA1 T] at u;have s:=(s.bF<|sp [aN z 0 [IV p],aN B 0 a.enc,aN w 0 [.bool false],aN y 0 [I 13]]).un4;have s:=(s.bF<|sp [mk d (),aN F 0 (m.jW a.aS).enc]).Fk;refine Kv s fun h s=>aK0<|qP s fun h s=>oA<|aE s rfl<|aE s rfl<|u _ s.to
end Go.Proofs.Z
namespace Go.Proofs.Z.A
open Go.Hm Go.At Go.Is
variable {G:Bg} {h:AH}
def aF7 (mem:Nat->Ln) (done:EW):Nat->Ln:=done.foldl (fun m l=>bD m l (0,0)) mem
abbrev scX (G:Bg) (C:bQ) (mb p2:Nat) (mem:Nat->Ln) (e:Nat->Value) (d l:Nat) (done:EW):HP:=sp [pG Pr 113 (qM 122) 34 e d l (.ready,none),aN p2 0 [IV mb],gQ G C.aF mb C<|aF7 mem done]
variable {C:bQ}
theorem jk (hC:C.Ok) {g:Nat} {mem:Nat->Ln} (s:Ob G 0 iF) (a:Hs G h L) [m:eB (gQ G C.aF mb C) L mem L'] (w:(g:Int)<C.aJ)
  (A:∀v k,Hs G k (gQ G C.aF mb C (oG mem g)::L')->Q v k):IU 113 [IV mb,I g] h Q:=by
 have hb:C.aJ<=16:=hC.2.1.2
 have B:=bQ.fC hC
 have a:=m.of a
 refine cW<|eT a fun f h a=>cK a fun j h a=>aE a rfl<|dM<|cS<|bW<|bE<|aab ?_
 obtain⟨b,o,cap,a⟩:=Cx<|a.bF<|gQ G C.aF mb C mem
 refine aE a rfl<|aC<|aA<|aA<|aE a rfl<|fX<|aab<|bW<|aE a rfl<|aC<|aA<|bB a FC (l:=C.enc) rfl rfl<|Kj a fun p q h a=>oE a fun d h a=>?_
 have a:=Tj C.aF mb C mem b o cap a
 intro e z
 refine rI a fun l h a=>xQ rfl ?_
 have a:Hs G h (sp [aN p 0 C.enc,aN q 0 [I g]]::scX G C mb f mem e d l []::sp [aN j 0 [I 0],mk d ()]::L'):=by
  have a:=a.dR (pG Pr 113 (qM 122) 34 e d l (.ready,none)) (aN f 0 [IV mb])<|gQ G C.aF mb C mem;have a:Hs G h (scX G C mb f mem e d l []::_):=a.Vc;have a:=(a.dC (aN j 0 [I 0])<|mk d ()).F4;exact a.dR _ _ _
 refine(O1 hC w s).Nf (Z:=fun _ _=>Dm False) a ?_ ?_ ?_
 .intro done y h M t a;have D:y<C.aF:=by
   obtain⟨E,i⟩:=t;have:y∈[g*2,g*2+1]:=by rw[<-i];simp
   simp at this;omega
  have a:=a.E4
  refine rW (yH a) z<|kY a fun h a=>aE a rfl<|aZ (c:=Va (0,0)) rfl<|T8 hC s a D fun h a=>bU<|aab<|lJ a fun h a=> .inl ⟨rfl,Hs.Vc ?_⟩
  have u:aF7 mem (done++[y])=bD (aF7 mem done) y (0,0):=by unfold aF7;rw[CS];rfl
  rw[u]
  exact a.to
 .intro v h a;have a:=(a.bF<|scX G C mb f mem e d l [g*2,g*2+1]).E4;refine qZ a fun h a=>rC ?_;have a:=(a.bF<|sp [aN j 0 [I 0],mk d ()]).Fk;refine ax a fun h a=>qP a fun h a=>oA<|aE a rfl<|A _ _ ?_;have e2:aF7 mem [g*2,g*2+1]=oG mem g:=rfl;rw[e2] at a;exact a.to
 .intro done y v h t a;exact(a.bF<|Dm False).yv.1.elim
abbrev Vb (pm:Nat) (C:bQ) (v:Value) (a:EX) (n c mb:Nat):HP:=aN pm 0<|C.enc++[v,.slice a n c,IV mb]
theorem s5 {o:EV} {g:Nat} (h:g<o.length):(o.map I)[g]?=some (I<|o.getD g 0):=by
 grind
variable {m:AM}
def aMx (hC:m.fG.Ok) (s:(m.dA.length:Int)=m.fG.aJ) (k:Ob G 0 iF)
  (f:Hs G h (Vb pm m.fG v a m.dA.length c mb::dY 1 3 a c (m.dA.length,m.dA.map I)::L))
  (g:∀j,Hs G j (Vb pm m.fG v a m.dA.length c mb::dY 1 3 a c (m.dA.length,m.dA.map I)::L)->Q (.bool<|m.Ql w x) j):IU 175 [IV pm,I w,I x] h Q:=by
 have q:=bQ.fC hC
 unfold AM.Ql at g
 refine cW<|aC<|aA<|bB f FC (l:=m.fG.enc) rfl rfl<|Od hC k f fun h f=>?_
 by_cases i:0<=x/\x<m.fG.aF*2
 .rw[bA1 i] at g ⊢;refine aQ rfl<|aQ rfl<|aQ rfl<|bU<|aab<|bW<|aC<|aA<|bB f FC (l:=m.fG.enc) rfl rfl<|xe hC FA k f fun h f=>(aQ rfl<|aQ rfl<|cC<|aae<|aC<|aA<|aE f rfl<|Yl (e:=3) f (s5 FA)<|af ?_);have:=g _ f;rw[show x.toNat/4=x.toNat/2/2 by omega] at this;exact this
 .rw[bA0 i] at g ⊢;exact aQ rfl<|aQ rfl<|aQ rfl<|bU<|aae<|g _ f
theorem aDy (h:m.Ql w x=true):0<=x/\x<m.fG.aF*2:=by
 grind[AM.Ql]
variable {pv:Value}
theorem Of (hC:m.fG.Ok) (z:(m.dA.length:Int)=m.fG.aJ) {x:iD} (A:x.op=3\/x.op=4\/x.op=5) (g:0<=x.a/\x.a<4) (hb:0<=x.b/\x.b<4) (t:Ob G 0 iF)
  (f:Hs G h (Vb pm m.fG v a m.dA.length c mb::dY 1 3 a c (m.dA.length,m.dA.map I)::gQ G m.fG.aF mb m.fG m.mem::aN b q ((m.aD i).core++[pv])::L))
  (j:∀y,Hs G y (Vb pm m.fG v a m.dA.length c mb::dY 1 3 a c (m.dA.length,m.dA.map I)::gQ G m.fG.aF mb m.fG (m.fF i x).1.mem::aN b q (((m.fF i x).1.aD i).core++[pv])::L)->Q (.tuple ⟨[I (m.fF i x).2.1,I (m.fF i x).2.2]⟩) y):IU 118 [IV pm,pt b q 0,.agg ⟨x.enc⟩] h Q:=by
 refine cW<|eT f fun B h f=>bI f fun s h f=>(aA<|aE f rfl<|aC<|aA<|aA<|gK hb.1 hb.2<|aE f (sR hb.1 hb.2)<|aA<|aE f rfl<|cC ?_)
 have go:Dd 118 3 [] Q [IV pm,pt b q 0,IV B,I<|(m.aD i).dI x.b.toNat] h:=by
  unfold AM.fF at j;refine bW<|aC<|aA<|aA<|aE f rfl ?_;refine aMx (a:=a) (c:=c) (mb:=mb) (v:=v) hC z t (f.dC _ _) fun h f=>cX<|fM<|eA (fun k=>?_) fun k=>?_;rotate_left;rw[bA0<|by simp[k]] at j;exact j _ f.to;rw[bA1 k] at j;have E:=aDy k;generalize D:(m.aD i).dI x.b.toNat=W at*;obtain⟨w,rfl⟩:∃w:Nat,W=w:=FB;simp only[aM] at j;refine bW<|aC<|aA<|aE f rfl ?_;refine Xr hC t f FA fun h f=>aQ rfl<|aQ rfl<|bU<|aab<|bW<|aA<|aE f rfl<|bU<|bG (fun u=>?_) fun u=>?_;rw[bA0 u] at j;refine bW<|bI f fun s h f=>aC<|aA<|aE f rfl<|aA<|aE f rfl<|aC<|aA<|aA<|gK g.1 g.2<|aE f (sR g.1 g.2)<|Oy hC t f FA fun h f=>aA<|aE f rfl<|cC<|bG (fun c2=>?_) fun c2=>?_;rw[bA1 c2] at j;refine bW<|bI f fun s h f=>aA<|aE f rfl<|aC<|aA<|aA<|gK g.1 g.2<|aE f (sR g.1 g.2)<|j _ ?_;simp only[AM.jH];exact f.to;rw[bA0 c2] at j;refine bW<|bI f fun s h f=>aA<|aE f rfl<|aC<|aA<|aA<|gK g.1 g.2<|B0 f g.1 g.2 fun h f=>(j _ ?_);simp only[AM.jH,AM.pC,dJ];exact f.to;rw[aac] at j;refine bW<|aA<|aE f rfl<|cC<|aab ?_;refine bW<|bI f fun s h f=>aA<|aE f rfl<|aC<|aA<|aA<|gK g.1 g.2<|B0 f g.1 g.2 fun h f=>(j _ ?_);simp only[AM.jH,AM.pC,dJ];exact f.to
 rcases A with e|e|e
 .refine aae (bW ?_);rw[cL FA];exact gF go
 .refine aab (bW<|cC<|aae<|bW ?_);rw[cL FA];exact gF go
 .exact aab (bW<|cC<|aab<|bW<|cC<|aae go)
theorem aMt (hC:m.fG.Ok) (B:(m.dA.length:Int)=m.fG.aJ) {cl t:Int} {busy:Bool} (z:Ob G 0 iF)
  (f:Hs G h (Vb pm m.fG v a m.dA.length c mb::dY 1 3 a c (m.dA.length,m.dA.map I)::gQ G m.fG.aF mb m.fG m.mem::L))
  (i:∀s,Hs G s (Vb pm m.fG v a m.dA.length c mb::dY 1 3 a c (m.dA.length,(m.call cl w g t busy).1.dA.map I)::gQ G m.fG.aF mb m.fG (m.call cl w g t busy).1.mem::L)->Q (I (m.call cl w g t busy).2) s):IU 119 [IV pm,I cl,I w,I g,I t,.bool busy] h Q:=by
 have hb:m.fG.aJ<=16:=hC.2.1.2
 unfold AM.call at i
 refine cW<|aC<|aA<|aE f rfl<|dB<|Aa FA<|aZ (c:=[I g]) rfl<|dV f rfl rfl rfl fun A h f=>(rB f fun h j=>cX<|fM<|bG (fun y=>?_) fun y=>?_)
 rotate_left
 .rw[aac] at i;exact i _ j
 rw[aaa] at i
 clear f
 have f:=j
 clear j
 obtain⟨n,rfl⟩:∃n:Nat,g=n:=⟨g.toNat,FA⟩
 simp only[aM] at i
 refine bW<|eA (fun k=>?_) fun k=>?_
 .rw[bA1 k] at i;exact i _ f
 rw[bA0<|by simp[k]] at i
 refine bW<|aC<|aA<|aE f rfl<|Yl (e:=3) f (s5 FA)<|ia f fun h f=>aQ rfl<|aQ rfl<|aQ rfl<|bU<|bG (fun q=>?_) fun q=>?_
 .rw[bA1 q] at i;exact i _ f
 rw[bA0 q] at i
 refine bW<|aC<|aA<|aE f rfl<|aJe (e:=3) f rfl FA fun h f=>eA (fun u=>?_) fun u=>?_
 .rw[bA1 u] at i;refine bW<|aC<|aA<|aE f rfl<|jk hC z f FA fun _ h f=>i _ ?_;rw[<-List.map_set] at f;simp only[AM.jH,AM.G4];exact f.to
 .rw[bA0 FB] at i;refine i _ ?_;rw[<-List.map_set] at f;simp only[AM.jH,AM.G4];exact f.to
def lD (b o:Nat) (s:aT):HP:=A5 fun x:EX×Nat=>sp [aN b o<|s.core++[.slice x.1 s.prog.length x.2],dY 4 49 x.1 x.2 (s.prog.length,yP s.prog)]
def X4 {s:aT} (e:Hs G h (lD b o s::L)):∃a c,Hs G h (aN b o (s.core++[.slice a s.prog.length c])::dY 4 49 a c (s.prog.length,yP s.prog)::L):=by
 obtain⟨⟨a,c⟩,e⟩:=e.Fl;exact⟨a,c,e.fQ⟩
def Aw {s:aT} (e:Hs G h (aN b o (s.core++[.slice a s.prog.length c])::dY 4 49 a c (s.prog.length,yP s.prog)::L)):Hs G h (lD b o s::L):=
 Hs.Cn (A:=fun x:EX×Nat=>sp [aN b o<|s.core++[.slice x.1 s.prog.length x.2],dY 4 49 x.1 x.2 (s.prog.length,yP s.prog)]) (a,c) (Hs.nY (A:=[_,_]) e)
structure AtA where
 b:Nat
 o:Nat
 cap:Nat
 a:EX
 c:Nat
 mb:Nat
def H5 (G:Bg) (pm:Nat) (m:AM) (x:AtA):IB:=[Vb pm m.fG (.slice (some ⟨x.b,x.o,none⟩) m.fG.aB.toNat x.cap) x.a m.dA.length x.c x.mb,dY 1 3 x.a x.c (m.dA.length,m.dA.map I),gQ G m.fG.aF x.mb m.fG m.mem,
  gJ G 8 162 (some ⟨x.b,x.o,none⟩) x.cap m.fG.aB.toNat x.b x.o,eP m.fG.aB.toNat fun i=>lD x.b (x.o+i*8)<|m.aD i]
def vC (G:Bg) (pm:Nat) (m:AM):HP:=A5 fun x:AtA=>sp<|H5 G pm m x
def Gz (e:Hs G h (vC G pm m::L)):∃b o cap a c mb,Hs G h (Vb pm m.fG (.slice (some ⟨b,o,none⟩) m.fG.aB.toNat cap) a m.dA.length c mb::dY 1 3 a c (m.dA.length,m.dA.map I)::gQ G m.fG.aF mb m.fG m.mem::
  gJ G 8 162 (some ⟨b,o,none⟩) cap m.fG.aB.toNat b o::eP m.fG.aB.toNat (fun i=>lD b (o+i*8)<|m.aD i)::L):=by
 obtain⟨⟨b,o,cap,a,c,mb⟩,e⟩:=e.Fl
 exact⟨b,o,cap,a,c,mb,e.fQ⟩
def rM (e:Hs G h (Vb pm m.fG (.slice (some ⟨b,o,none⟩) m.fG.aB.toNat cap) a m.dA.length c mb::dY 1 3 a c (m.dA.length,m.dA.map I)::gQ G m.fG.aF mb m.fG m.mem::
  gJ G 8 162 (some ⟨b,o,none⟩) cap m.fG.aB.toNat b o::eP m.fG.aB.toNat (fun i=>lD b (o+i*8)<|m.aD i)::L)):Hs G h (vC G pm m::L):=
 Hs.Cn (A:=fun x:AtA=>sp<|H5 G pm m x) ⟨b,o,cap,a,c,mb⟩ (Hs.nY (A:=H5 G pm m ⟨b,o,cap,a,c,mb⟩) e)
theorem aG6 {r:AM} {p6 u:Nat} {t:EX} {w:Ev} {nx:Int} (F:r.fG=m.fG) (J:r.dA.length=m.dA.length) (O:∀j,j≠i->r.aD j=m.aD j) (P:(r.aD i).prog=(m.aD i).prog) (B:0<=nx) (D:i<m.fG.aB.toNat)
  (e:Hs G h (Vb pm m.fG (.slice (some ⟨b,o,none⟩) m.fG.aB.toNat cap) a m.dA.length c mb::dY 1 3 a c (m.dA.length,r.dA.map I)::gQ G m.fG.aF mb m.fG r.mem::
   gJ G 8 162 (some ⟨b,o,none⟩) cap m.fG.aB.toNat b o::sp (((List.range m.fG.aB.toNat).erase i).map fun i=>lD b (o+i*8)<|m.aD i)::aN b (o+i*8) ((r.aD i).core++[.slice t (m.aD i).prog.length u])::
   dY 4 49 t u ((m.aD i).prog.length,yP (m.aD i).prog)::aN q 0 w.enc::aN p6 0 [I 0,I 0,I 0,I 0,I 0,I 0,I 0]::L))
  (E:∀f,Hs G f (vC G pm (r.jB i nx)::L)->Q (.tuple ⟨[.agg ⟨w.enc⟩,I 0]⟩) f):
  IU 70 [pt b (o+i*8) 0,I nx] h fun v f=>cE (zJ f 7<|IV q) fun y=>cE (Ba f 7 (IV p6) y) fun g=>cE (zJ g 7<|IV p6) fun z=>Q (.tuple ⟨[z,I 0]⟩) g:=by
 rw[<-P] at e
 refine M6 (s:=r.aD i) (a:=t) (c:=u) B (e.dC _ _) fun h e=>(bB e FC (l:=w.enc) rfl rfl<|ax e fun h e=>bB e FC (l:=w.enc) rfl rfl<|E _ ?_)
 have e:=Aw<|e.dC (aN b (o+i*8)<|((r.aD i).jB nx).core++[.slice t (r.aD i).prog.length u])<|dY 4 49 t u ((r.aD i).prog.length,yP (r.aD i).prog)
 have A:lD b (o+i*8) ((r.aD i).jB nx)=(fun j=>lD b (o+j*8)<|(r.jB i nx).aD j) i:=by simp only[AM.jB,AM.pC,dJ]
 rw[A] at e
 have e:=e.qN (fun j=>lD b (o+j*8)<|m.aD j) (fun j=>lD b (o+j*8)<|(r.jB i nx).aD j) D (fun j _ k=>by
  have:(r.jB i nx).aD j=m.aD j:=by rw[<-O j k];exact bO k
  grind)
 have e2:(r.jB i nx).fG=m.fG:=F
 refine rM (b:=b) (o:=o) (cap:=cap) (a:=a) (c:=c) (mb:=mb) ?_
 rw[e2,show(r.jB i nx).dA=r.dA from rfl,J,show(r.jB i nx).mem=r.mem from rfl]
 exact e.to
theorem aOm (F:m.Ok) {E:Int} {busy:Bool} (hl:Ob G 0 iF) (f:Hs G h L) [mm:eB (vC G pm) L m L']
  (A:∀J,Hs G J (vC G pm (m.step E busy).1::L')->Q (.tuple ⟨[.agg ⟨(m.step E busy).2.1.enc⟩,I (m.step E busy).2.2]⟩) J):IU 84 [IV pm,I E,.bool busy] h Q:=by
 have ε:m.fG.aB<=4/\1<=m.fG.aB:=⟨F.fG.1.2,F.fG.1.1⟩
 obtain⟨b,o,cap,a,c,mb,f⟩:=Gz<|mm.of f
 refine cW<|cK f fun U h f=>dM<|cS<|bW ?_
 refine aC<|aA<|aE f rfl<|dB<|Aa FA<|aZ (c:=[I E]) rfl<|dV f rfl rfl rfl fun ad h f=>(rB f fun h q=>cX<|fM<|bG (fun h1=>?_) fun h1=>?_)
 rotate_left
 .refine aZ (c:=[I 0,I 0,I 0,I 0,I 0,I 0,I 0]) rfl (ax q fun h f=>bB f FC (l:=[I 0,I 0,I 0,I 0,I 0,I 0,I 0]) rfl rfl ?_);unfold AM.step at A;rw[aac] at A;refine A _<|rM (b:=b) (o:=o) (cap:=cap) (a:=a) (c:=c) (mb:=mb) f.to
 clear f
 have f:=q
 clear q
 obtain⟨i,rfl⟩:∃i:Nat,E=i:=⟨E.toNat,FA⟩
 have Y:i<m.fG.aB.toNat:=FA
 unfold AM.step at A
 rw[aaa] at A
 simp only[aM] at A
 have f:=(f.bF<|eP m.fG.aB.toNat fun i=>lD b (o+i*8)<|m.aD i).oI i Y
 obtain⟨V,W,f⟩:=X4 f
 refine bW<|aC<|aA<|aE f rfl<|fD Y<|aC<|aA<|aA<|aE f rfl<|eA (fun X=>?_) fun X=>?_
 .rw[bA1 X] at A;refine aZ (c:=[I 0,I 0,I 0,I 0,I 0,I 0,I 0]) rfl<|ax f fun h f=>bB f FC (l:=[I 0,I 0,I 0,I 0,I 0,I 0,I 0]) rfl rfl<|A _ ?_;have f:=Aw<|f.dC (aN b (o+i*8)<|(m.aD i).core++[.slice V _ W]) _;have f:=f.qN _ (fun j=>lD b (o+j*8)<|m.aD j) Y fun _ _ _=>rfl;exact rM (b:=b) (o:=o) (cap:=cap) (a:=a) (c:=c) (mb:=mb) f.to
 rw[bA0 FB] at A
 have z:=F.aD i FA
 have P:=Ds (by rw[<-z.2.2.1];exact X)
 have B:=M5<|z.2.2.2.2 _<|De z.1 P
 have R:=Xl (b:=busy) B z.1 P
 obtain⟨k1,k2,k3,k4⟩:=Kw (m:=m) (i:=i) (x:=mX (m.aD i).prog (m.aD i).at') (b:=busy)
 have α:∃n:Nat,(m.aD i).at'=n:=⟨(m.aD i).at'.toNat,by have:=z.1;omega⟩
 obtain⟨n,hn⟩:=α
 have ζ:mX (m.aD i).prog (m.aD i).at'=(m.aD i).prog.getD n ⟨0,0,0,0⟩:=by rw[hn];rfl
 generalize hx:mX _ _=x at*
 have δ:=z.2.2.2.1
 refine bW<|bI f fun D h f=>(aC<|aA<|aE f rfl<|aC<|aA<|aA<|aE f rfl ?_)
 rw[hn]
 refine aG4 (e:=49) (x:=x.enc) f FC FA (by grind[zk]) rfl<|nJ f rfl rfl fun T h f=>ax f fun h f=>bI f fun η h f=>?_
 refine aC<|aA<|aA<|aE f rfl<|aA<|aE f rfl<|aC<|aA<|aA<|aE f rfl<|aZ (c:=[I i,I _,I x.op,I _,I 0,I 0,I 0]) rfl ?_
 refine nJ f rfl rfl fun k h f=>ax f fun h f=>(aC<|aA<|aA<|aE f rfl<|aad<|aA<|aE f rfl<|cC ?_)
 have sY:∀(r:AM) (w v Z nx:Int) (h:AH),m.jY i x busy=(r,w,v,Z,nx)->
   Hs G h (Vb pm m.fG (.slice (some ⟨b,o,none⟩) m.fG.aB.toNat cap) a m.dA.length c mb::dY 1 3 a c (m.dA.length,r.dA.map I)::gQ G m.fG.aF mb m.fG r.mem::
   gJ G 8 162 (some ⟨b,o,none⟩) cap m.fG.aB.toNat b o::sp (((List.range m.fG.aB.toNat).erase i).map fun i=>lD b (o+i*8)<|m.aD i)::aN b (o+i*8) ((r.aD i).core++[.slice V (m.aD i).prog.length W])::
   dY 4 49 V W ((m.aD i).prog.length,yP (m.aD i).prog)::aN k 0 [I i,I (m.aD i).at',I x.op,I (m.aD i).bA,I w,I v,I Z]::aN U 0 [I 0,I 0,I 0,I 0,I 0,I 0,I 0]::L')->
   IU 70 [pt b (o+i*8) 0,I nx] h fun v J=>cE (zJ J 7<|IV k) fun β=>cE (Ba J 7 (IV U) β) fun O=>cE (zJ O 7<|IV U) fun γ=>Q (.tuple ⟨[γ,I 0]⟩) O:=by
  intro r w v Z nx h hd f
  rw[hd] at A k1 k2 k3 k4 R
  exact aG6 k1 k2 k3 k4 R.1 Y f A
 refine bG (fun u=>?_) fun n1=>bW<|cC<|bG (fun u=>?_) fun n2=>bW<|cC ?_
 .have s:=B.r1<|.inl u;refine bW (aA<|aE f rfl<|aA<|ay f fun h f=>bI f fun D h f=>aA<|aE f rfl<|aA<|aE f rfl<|aC<|aA<|aA<|gK s.1 s.2<|B0 f s.1 s.2 fun h f=>(sY (m.pC i<|(m.aD i).dO x.a x.b) 0 x.b 0 _ h ?_ ?_))
  .unfold AM.jY;grind
  .have f:=f.sg (b:=k) (o:=0) (c:=[I i,I _,I x.op,I _,I 0,I x.b,I 0]) rfl;simp only[AM.pC,dJ];exact f.to
 .have s:=B.r1 FA;have hb:=B.r2<|.inl u;have y:=B.r3<|.inl u;refine bW<|bI f fun D h f=>aA<|aE f rfl<|aC<|aA<|aA<|gK hb.1 hb.2<|aE f (sR hb.1 hb.2)<|aA<|aE f rfl<|aC<|aA<|aA<|gK y.1 y.2<|aE f (sR y.1 y.2)<|cv<|aA<|ay f fun h f=>?_;refine bI f fun D h f=>aA (aE f rfl<|aA<|aE f rfl<|aC<|aA<|aA<|gK s.1 s.2<|B0 f s.1 s.2 fun h f=>(sY (m.pC i<|(m.aD i).dO x.a<|wr<|(m.aD i).dI x.b.toNat+(m.aD i).dI x.c.toNat) 0 (wr<|(m.aD i).dI x.b.toNat+(m.aD i).dI x.c.toNat) 0 _ h ?_ ?_))
  .unfold AM.jY;grind
  .have f:=f.sg (b:=k) (o:=0) (c:=[I i,I _,I x.op,I _,I 0,I _,I 0]) rfl;simp only[AM.pC,dJ];exact f.to
 have acc:x.op=3\/x.op=4\/x.op=5->Dd 84 10 [] Q [IV pm,IV U,pt b (o+i*8) 0,IV T,IV k,I<|(m.aD i).at'+1] h:=by
  intro ho;have s:=B.r1 FA;have hb:=B.r2 FA;refine bW<|bI f fun D h f=>aA<|aE f rfl<|aC<|aA<|aA<|gK hb.1 hb.2<|aE f (sR hb.1 hb.2)<|aA<|ay f fun h f=>bB f FC (l:=x.enc) rfl rfl ?_;obtain⟨e1,e2,e3,e4,e5⟩:=Mm (m:=m) (i:=i) (x:=x);refine Of (i:=i) (pv:= .slice V (m.aD i).prog.length W) F.fG F.dA ho s hb hl (f.pQ (Vb pm m.fG (.slice (some ⟨b,o,none⟩) m.fG.aB.toNat cap) a m.dA.length c mb) _ _ _) fun h f=>?_;refine aQ rfl<|aQ rfl<|aA<|ay f fun h f=>aA<|ay f fun h f=>?_;refine sY (m.fF i x).1 ((m.aD i).dI x.b.toNat) (m.fF i x).2.1 (m.fF i x).2.2 _ h ?_ ?_;unfold AM.jY;grind;have f:=f.sg (b:=k) (o:=0) (c:=[I i,I _,I x.op,I _,I _,I _,I _]) rfl;rw[e2];exact f.to
 have rest:¬(x.op=3\/x.op=4\/x.op=5)->∀t114,Dd 84 11 [] Q [IV pm,.bool busy,IV U,pt b (o+i*8) 0,IV T,IV k,I<|(m.aD i).at'+1,I x.op,t114] h:=by
  intro n3 t114;refine bW<|cC<|bG (fun u=>?_) fun n4=>bW<|cC<|bG (fun u=>?_) fun n5=>bW<|cC<|bG (fun u=>?_) fun n6=>bW<|cC<|bG (fun u=>?_) fun n7=>?_;refine bW<|aA<|aE f rfl<|aA<|ay f fun h f=>aC<|aA<|aA<|aE f rfl<|cC<|bG (fun c2=>?_) fun c2=>?_;refine bW<|aA<|aE f rfl<|aC<|aA<|aA<|ay f fun h f=>(sY (m.pC i<|(m.aD i).Yo x.a) 0 x.a 0 _ h ?_ ?_);unfold AM.jY;grind;have f:=f.sg (b:=b) (o:=o+i*8) (c:=((m.aD i).Yo x.a).core++[.slice V _ W]) rfl;have f:=f.sg (b:=k) (o:=0) (c:=[I i,I _,I x.op,I _,I 0,I x.a,I 0]) rfl;simp only[AM.pC,dJ];exact f.to;refine bW<|aA<|ay f fun h f=>(sY m 0 x.a 18 _ h ?_ ?_);unfold AM.jY;grind;have f:=f.sg (b:=k) (o:=0) (c:=[I i,I _,I x.op,I _,I 0,I x.a,I 18]) rfl;exact f.to;have hb:=B.r2 FA;have y:=B.r3 FA;refine bW<|bI f fun D h f=>aA<|aE f rfl<|aC<|aA<|aA<|gK hb.1 hb.2<|aE f (sR hb.1 hb.2)<|aA<|aE f rfl<|aC<|aA<|aA<|gK y.1 y.2<|aE f (sR y.1 y.2) ?_;refine aA<|ay f fun X q=>aA<|ay q fun h f=>(cR dG<|cR (aA dG)<|cR (aE q rfl jF)<|cR (aC dG)<|cR (aA dG)<|cR (aA dG)<|cR (gK y.1 y.2 dG)<|cR (aE q (sR y.1 y.2) jF) ?_);clear q;refine bI f fun D h f=>aA<|aE f rfl<|aC<|aA<|aA<|aE f rfl<|aA<|aE f rfl<|aA<|aE f rfl ?_;obtain⟨e1,e2,e3⟩:=J6 (m:=m) (c:=x.a) (w:=(m.aD i).bA) (g:=(m.aD i).dI x.b.toNat) (t:=(m.aD i).dI x.c.toNat) (b:=busy);refine aMt F.fG F.dA hl (f.dR (Vb pm m.fG (.slice (some ⟨b,o,none⟩) m.fG.aB.toNat cap) a m.dA.length c mb) _ _) fun h f=>?_;refine aA<|ay f fun h f=>bI f fun D h f=>aA<|aE f rfl<|aA<|aE f rfl<|aC<|aA<|aA<|gK hb.1 hb.2<|B0 f hb.1 hb.2 fun h f=>?_;refine sY ((m.call x.a (m.aD i).bA ((m.aD i).dI x.b.toNat) ((m.aD i).dI x.c.toNat) busy).1.pC i<|(m.aD i).dO x.b (m.call x.a (m.aD i).bA ((m.aD i).dI x.b.toNat) ((m.aD i).dI x.c.toNat) busy).2) ((m.aD i).dI x.b.toNat) ((m.aD i).dI x.c.toNat) (m.call x.a (m.aD i).bA ((m.aD i).dI x.b.toNat) ((m.aD i).dI x.c.toNat) busy).2 _ h ?_ ?_;unfold AM.jY;grind;have f:=f.sg (b:=k) (o:=0) (c:=[I i,I _,I x.op,I _,I _,I _,I _]) rfl;simp only[AM.pC,dJ];exact f.to;refine bW<|aA<|aE f rfl<|aA<|ay f fun h f=>aA<|aE f rfl<|sY m 0 x.a 0 _ h ?_ ?_;unfold AM.jY;grind;have f:=f.sg (b:=k) (o:=0) (c:=[I i,I _,I x.op,I _,I 0,I x.a,I 0]) rfl;exact f.to;have s:=B.r1 FA;refine bW<|bI f fun D h f=>aA<|aE f rfl<|aC<|aA<|aA<|gK s.1 s.2<|aE f (sR s.1 s.2)<|aA<|ay f fun h f=>aA<|aE f rfl<|cC<|bG (fun c2=>?_) fun c2=>?_;refine bW<|aA<|aE f rfl<|sY m 0 ((m.aD i).dI x.a.toNat) 0 _ h ?_ ?_;unfold AM.jY;grind;have f:=f.sg (b:=k) (o:=0) (c:=[I i,I _,I x.op,I _,I 0,I _,I 0]) rfl;exact f.to;refine bW<|sY m 0 ((m.aD i).dI x.a.toNat) 0 _ h ?_ ?_;unfold AM.jY;grind;have f:=f.sg (b:=k) (o:=0) (c:=[I i,I _,I x.op,I _,I 0,I _,I 0]) rfl;exact f.to;refine bW<|sY m 0 0 0 _ h ?_ ?_;unfold AM.jY;grind;exact f.to
 refine bG (fun u=>bW ?_) fun n3=>bW<|cC<|bG (fun u=>bW ?_) fun n4=>bW<|cC<|bG (fun u=>acc FA) fun n5=>rest FA _
 .rw[cL u];exact gF<|acc FA
 .rw[cL u];exact gF<|acc FA
def aSi (k:n<=100) (j:Hs G h L) [m:eB (dY 2 169 a c) L (n,cs) L'] (i:∀e f g,Hs G g (dY 2 169 e f (n,cs)::dY 2 169 a c (n,cs)::L')->Q (.slice e n f) g):IU 174 [.slice a n c] h Q:=
 cW (zB (bytes:=16) j FA i)
def aRf (k:n<=100) (j:Hs G h L) [m:eB (dY 3 227 a c) L (n,cs) L'] (i:∀e f g,Hs G g (dY 3 227 e f (n,cs)::dY 3 227 a c (n,cs)::L')->Q (.slice e n f) g):IU 173 [.slice a n c] h Q:=
 cW (zB (bytes:=40) j FA i)
def aSa (k:n<=100) (j:Hs G h L) [m:eB (dY 8 162 a c) L (n,cs) L'] (i:∀e f g,Hs G g (dY 8 162 e f (n,cs)::dY 8 162 a c (n,cs)::L')->Q (.slice e n f) g):IU 116 [.slice a n c] h Q:=
 cW (zB (bytes:=80) j FA i)
def aRk (k:n<=100) (j:Hs G h L) [m:eB (dY 1 3 a c) L (n,cs) L'] (i:∀e f g,Hs G g (dY 1 3 e f (n,cs)::dY 1 3 a c (n,cs)::L')->Q (.slice e n f) g):IU 68 [.slice a n c] h Q:=
 cW (zB (bytes:=8) j FA i)
def aSb (k:n<=100) (j:Hs G h L) [m:eB (dY 4 49 a c) L (n,cs) L'] (i:∀e f g,Hs G g (dY 4 49 e f (n,cs)::dY 4 49 a c (n,cs)::L')->Q (.slice e n f) g):IU 69 [.slice a n c] h Q:=
 cW (zB (bytes:=32) j FA i)
def aNe {l:IJ} (j:l.length<=100) (hc:l.flatten.all gM=true) (i:Hs G h (Gc G 1 e v l::L)) (g:∀a c f,Hs G f (dY 1 3 a c (l.length,l.flatten)::Gc G 1 e v l::L)->Q (.slice a l.length c) f):IU 68 [v] h Q:=
 cW (Sb (bytes:=8) i FC rfl hc FA g)
def aOy {l:IJ} (j:l.length<=100) (hc:l.flatten.all gM=true) (i:Hs G h (Gc G 4 e v l::L)) (g:∀a c f,Hs G f (dY 4 49 a c (l.length,l.flatten)::Gc G 4 e v l::L)->Q (.slice a l.length c) f):IU 69 [v] h Q:=
 cW (Sb (bytes:=32) i FC rfl hc FA g)
def Vu (n B:Nat) (i:Nat) (x:BkA):EU:=[I x.r,I x.w,.slice x.a (qI n B i) x.cap]
def bkD (n B:Nat) (mem:Nat->Ln) (i:Nat) (x:BkA):HP:=dY 2 169 x.a x.cap (qI n B i,(List.range<|qI n B i).flatMap<|ij B i mem)
theorem ru {B:Nat} {mem:Nat->Ln} {f:Nat->BkA} (hB:B<=4) (J:n<=32) (D:∀t,Hs G t (aN p 0 (C.enc++[.slice (some ⟨b,o,none⟩) B cap])::eP B (fun i=>kO n B b (o+i*3) i mem)::eP B (fun i=>bkD n B mem i<|f i)::L)->Q (IV p) t):
  ∀(r i:Nat) (h:AH) (M:IB),i+r=B->Hs G h (aN p 0 (C.enc++[.slice (some ⟨b,o,none⟩) B cap])::eP B (fun j=>if j<i then kO n B b (o+j*3) j mem else aN b (o+j*3) (Vu n B j<|f j))::eP B (fun i=>bkD n B mem i<|f i)::L)->
  Dd 117 2 [] Q [IV p,I B,I i] h:=by
 intro r
 induction r with
 |zero=>
  intro i h M z a
  obtain rfl:i=B:=FA
  refine bW<|bE<|aab<|D _ ?_
  have a:=a.bF<|eP i fun j=>if j<i then kO n i b (o+j*3) j mem else aN b (o+j*3) (Vu n i j<|f j)
  have a:=wI (fun j A=>by rw[bA1 A]) a
  exact a.dR _ _ _
 |succ r F=>
  intro i h M z a
  have g:i<B:=FA
  have y:=xt (n:=n) (B:=B) (i:=i) FA
  refine bW<|bE<|aae<|bW<|bI a fun K h a=>?_
  have a:=(a.bF<|eP B fun j=>if j<i then kO n B b (o+j*3) j mem else aN b (o+j*3) (Vu n B j<|f j)).oI i g
  simp only[DE,dd] at a
  have a:=(a.bF<|eP B fun j=>bkD n B mem j<|f j).oI i g
  refine aC<|aA<|aE a rfl<|aC<|aA<|aE a rfl<|fD g<|aA<|aE a rfl ?_
  have a:Hs G h (dY 2 169 _ _ (qI n B i,(List.range _).flatMap _)::_):=a
  refine aSi FA a fun q s h a=>(fD g<|aA<|ay a fun w k=>?_)
  refine cR dG<|cR (aC dG)<|cR (aA dG)<|cR (aE a rfl Ls)<|cR jF<|aad<|F (i+1) w [] FA ?_
  have k:=k.sg (b:=b) (o:=o+i*3) (c:=[I _,I _,.slice q _ s]) rfl
  have e:=xA<|k.dC (aN b (o+i*3) [I (f i).r,I (f i).w,.slice q _ s])<|dY 2 169 q s (qI n B i,(List.range _).flatMap<|ij B i mem)
  have u:kO n B b (o+i*3) i mem=(fun j=>if j<i+1 then kO n B b (o+j*3) j mem else aN b (o+j*3) (Vu n B j<|f j)) i:=GV
  rw[u] at e
  have e:=e.qN (fun j=>if j<i then kO n B b (o+j*3) j mem else aN b (o+j*3) (Vu n B j<|f j)) (fun j=>if j<i+1 then kO n B b (o+j*3) j mem else aN b (o+j*3) (Vu n B j<|f j)) g fun j _ E=>by
   grind
  have v:(dY 2 169 _ _ (qI n B i,(List.range _).flatMap _))=(fun j=>bkD n B mem j<|f j) i:=rfl
  rw[v] at e
  have e:=e.qN _ (fun j=>bkD n B mem j<|f j) g fun _ _ _=>rfl
  exact e.to
theorem Tx (hC:C.Ok) {mem:Nat->Ln} (a:Hs G h L) [m:eB (gQ G C.aF mb C) L mem L'] (u:∀j t,Hs G t (gQ G C.aF j C mem::gQ G C.aF mb C mem::L')->Q (IV j) t):IU 117 [IV mb] h Q:=by
 have hb:=bQ.bk hC;have s:=bQ.fC hC;obtain⟨b,o,cap,a⟩:=Cx<|m.of a;refine cW<|dM<|cS<|bW<|bI a fun w h a=>?_;have g:Hs G h (eP C.bZ.toNat (fun i=>A5 fun x=>sp [aN b _<|Vu C.aF C.bZ.toNat i x,bkD C.aF C.bZ.toNat mem i x])::gJ G 3 227 (some ⟨b,o,none⟩) cap C.bZ.toNat b o::_):=a.dC (eP C.bZ.toNat fun i=>kO C.aF C.bZ.toNat b (o+i*3) i mem) _;obtain⟨f,a⟩:=Hs.bt (W:=3) (⟨0,0,none,0⟩:BkA) (fun _ _=>rfl) (fun _ _=>rfl) FC hb.2.1 g;clear g;refine aC<|aA<|bB a FC (l:=C.enc) rfl rfl<|aC<|aA<|aE a rfl<|aRf FA a fun v q h a=>?_;obtain⟨e,k,rfl,a⟩:=Hs.Yu (W:=3) (fun _=>rfl) hb.2.1 a;refine aZ (c:=C.enc++[.slice _ C.bZ.toNat q]) rfl<|D6 a rfl rfl fun p h a=>?_;refine cR dG<|cR (aC dG)<|cR (aA dG)<|cR (bB a FC rfl rfl<|uW HE)<|aC<|aA<|aE a rfl<|dB ?_;have a:=a.dR (aN p 0<|C.enc++[.slice (some ⟨e,k,none⟩) C.bZ.toNat q]) (eP C.bZ.toNat fun i=>aN e (k+i*3)<|Vu C.aF C.bZ.toNat i<|f i)<|eP C.bZ.toNat fun i=>bkD C.aF C.bZ.toNat mem i<|f i;have a:=(a.pS).dR (aN p 0<|C.enc++[.slice (some ⟨e,k,none⟩) C.bZ.toNat q]) (eP C.bZ.toNat fun i=>aN e (k+i*3)<|Vu C.aF C.bZ.toNat i<|f i)<|eP C.bZ.toNat fun i=>bkD C.aF C.bZ.toNat mem i<|f i;refine ru hb.2.2 s.2.2 (fun h a=>u p _ ?_) C.bZ.toNat 0 h [] FA GI;have a:=zK (o:=k) (cap:=q)<|a.dR (aN p 0 _) _<|eP C.bZ.toNat fun i=>kO C.aF C.bZ.toNat e _ i mem;have a:=a.dC (dY 3 227 (some ⟨b,o,none⟩) cap (C.bZ.toNat,(List.range C.bZ.toNat).flatMap fun i=>Vu C.aF C.bZ.toNat i<|f i))<|eP C.bZ.toNat fun i=>bkD C.aF C.bZ.toNat mem i<|f i;have a:Hs G h (eP C.bZ.toNat (fun i=>kO C.aF C.bZ.toNat b _ i mem)::gJ G 3 227 _ cap C.bZ.toNat b o::_):=Hs.vg f FB hb.2.1 a;have a:=zK (o:=o) (cap:=cap)<|a.dR (aN mb 0 _) _<|eP C.bZ.toNat fun i=>kO C.aF C.bZ.toNat b _ i mem;exact a.to
def seC (m:AM) (i:Nat) (x:EX×Nat):EU:=(m.aD i).core++[.slice x.1 (m.aD i).prog.length x.2]
def seD (m:AM) (i:Nat) (x:EX×Nat):HP:=dY 4 49 x.1 x.2 ((m.aD i).prog.length,yP (m.aD i).prog)
theorem qq {B v:Nat} {f:Nat->EX×Nat} (hB:B<=4) (J:∀i,i<B->(m.aD i).prog.length<=32)
  (E:∀u,Hs G u (Vb p m.fG (.slice (some ⟨b,o,none⟩) B cap) a v c mb::eP B (fun i=>lD b (o+i*8)<|m.aD i)::eP B (fun i=>seD m i<|f i)::L)->Q (IV p) u):
  ∀(r i:Nat) (h:AH),i+r=B->Hs G h (Vb p m.fG (.slice (some ⟨b,o,none⟩) B cap) a v c mb::eP B (fun j=>if j<i then lD b (o+j*8) (m.aD j) else aN b (o+j*8) (seC m j<|f j))::eP B (fun i=>seD m i<|f i)::L)->
  Dd 83 2 [] Q [IV p,I B,I i] h:=by
 intro r
 induction r with
 |zero=>
  intro i h A e
  obtain rfl:i=B:=FA
  refine bW<|bE<|aab<|E _ ?_
  have e:=e.bF<|eP i fun j=>if j<i then lD b (o+j*8) (m.aD j) else aN b (o+j*8) (seC m j<|f j)
  have e:=wI (fun j D=>by rw[bA1 D]) e
  exact e.dR _ _ _
 |succ r O=>
  intro i h A e
  have g:i<B:=FA
  have K:=J i g
  refine bW<|bE<|aae<|bW<|bI e fun P h e=>?_
  have e:=(e.bF<|eP B fun j=>if j<i then lD b (o+j*8) (m.aD j) else aN b (o+j*8) (seC m j<|f j)).oI i g
  simp only[DE,dd] at e
  have e:=(e.bF<|eP B fun j=>seD m j<|f j).oI i g
  refine aC<|aA<|aE e rfl<|aC<|aA<|aE e rfl<|fD g<|aA<|aE e rfl ?_
  have e:Hs G h (dY 4 49 _ _ ((m.aD i).prog.length,yP _)::_):=e
  refine aSb FA e fun s t h e=>(fD g<|aA<|ay e fun z q=>?_)
  refine cR dG<|cR (aC dG)<|cR (aA dG)<|cR (aE e rfl Ls)<|cR jF<|aad<|O (i+1) z FA ?_
  have q:=q.sg (b:=b) (o:=o+i*8) (c:=(m.aD i).core++[.slice s _ t]) rfl
  have k:=Aw (b:=b) (o:=o+i*8)<|q.dC _<|dY 4 49 s t ((m.aD i).prog.length,yP _)
  have w:lD b (o+i*8) (m.aD i)=(fun j=>if j<i+1 then lD b (o+j*8) (m.aD j) else aN b (o+j*8) (seC m j<|f j)) i:=GV
  rw[w] at k
  have k:=k.qN (fun j=>if j<i then lD b (o+j*8) (m.aD j) else aN b (o+j*8) (seC m j<|f j)) (fun j=>if j<i+1 then lD b (o+j*8) (m.aD j) else aN b (o+j*8) (seC m j<|f j)) g (fun j _ F=>by
   have:(j<i+1)=(j<i):=propext FA;simp only[this])
  have y:(dY 4 49 _ _ ((m.aD i).prog.length,yP _))=(fun j=>seD m j<|f j) i:=rfl
  rw[y] at k
  have k:=k.qN _ (fun j=>seD m j<|f j) g fun _ _ _=>rfl
  exact k.to
theorem uh (u:m.Ok) (e:Hs G h L) [U:eB (vC G pm) L m L'] (R:∀p2 E,Hs G E (vC G p2 m::vC G pm m::L')->Q (IV p2) E):IU 83 [IV pm] h Q:=by
 have O:m.fG.aB<=4/\1<=m.fG.aB:=⟨u.fG.1.2,u.fG.1.1⟩;have P:m.fG.aJ<=16:=u.fG.2.1.2;have T:=u.dA;have B:0<m.fG.aB.toNat:=FA
 obtain⟨b,o,cap,a,c,mb,e⟩:=Gz<|U.of e;refine cW<|dM<|cS<|bW<|bI e fun Y h e=>?_;have w:Hs G h (eP m.fG.aB.toNat (fun i=>A5 fun x=>sp [aN b (o+i*8)<|seC m i x,seD m i x])::gJ G 8 162 (some ⟨b,o,none⟩) cap m.fG.aB.toNat b o::_):=e.dC (eP m.fG.aB.toNat fun i=>lD b _ _) _;obtain⟨f,e⟩:=Hs.bt (W:=8) (none,0) (fun _ _=>rfl) (fun _ _=>rfl) FC B w;clear w;refine aC<|aA<|bB e FC (l:=m.fG.enc) rfl rfl<|aC<|aA<|aE e rfl<|aSa FA e fun F z V q=>?_;refine aC<|aA<|aE q rfl<|aRk FA q fun A c2 I g=>(aC<|aA<|aE g rfl<|Tx u.fG g fun t J j=>?_);obtain⟨v,y,rfl,j⟩:=Hs.Yu (W:=8) (fun _=>rfl) B<|j.bF<|dY 8 162 F z (m.fG.aB.toNat,(List.range m.fG.aB.toNat).flatMap fun i=>seC m i<|f i);refine aZ (c:=m.fG.enc++[.slice (some ⟨v,y,none⟩) m.fG.aB.toNat z,.slice A m.dA.length c2,IV t]) rfl<|D6 j rfl rfl fun p D k=>?_;have s:uG _ (.agg ⟨m.fG.enc⟩)=true:=uW HE;refine cR dG<|cR dG<|cR dG<|cR (aC dG)<|cR (aC dG)<|cR (aC dG)<|cR (aA dG)<|cR (aA dG)<|cR (aA dG) ?_;refine cR (bB q FC (l:=m.fG.enc) rfl rfl s)<|cR (bB g FC (l:=m.fG.enc) rfl rfl s)<|cR (bB k FC (l:=m.fG.enc) rfl rfl s)<|cR dG<|cR (aC dG)<|cR (aA dG)<|cR (aE e rfl Ls)<|cR dG<|cR dG<|cR (aC dG)<|cR (aC dG)<|cR (aA dG)<|cR (aA dG)<|cR (aE e rfl dG)<|cR (aE q rfl dG) ?_;clear e q g j;refine aC<|aA<|aE k rfl<|dB ?_;have e:=(k.dC (eP m.fG.aB.toNat fun i=>aN v (y+i*8)<|seC m i<|f i)<|eP m.fG.aB.toNat fun i=>seD m i<|f i);have e:=e.dR (Vb p m.fG (.slice (some ⟨v,y,none⟩) m.fG.aB.toNat z) A m.dA.length c2 t) (eP m.fG.aB.toNat fun i=>aN v (y+i*8)<|seC m i<|f i)<|eP m.fG.aB.toNat fun i=>seD m i<|f i;refine qq FA (fun i X=>(u.aD i FA).2.2.2.1) (fun h e=>R p _ ?_) m.fG.aB.toNat 0 D FA HB;have e:=rM (b:=v) (o:=y) (cap:=z)<|(e.pQ (Vb p m.fG _ A m.dA.length c2 t) _ _ _).sn _;have e:=e.dC (dY 8 162 (some ⟨b,o,none⟩) cap (m.fG.aB.toNat,(List.range m.fG.aB.toNat).flatMap fun i=>seC m i<|f i))<|eP m.fG.aB.toNat fun i=>seD m i<|f i;have e:Hs G h (eP m.fG.aB.toNat (fun i=>lD b _ _)::gJ G 8 162 _ cap m.fG.aB.toNat b o::_):=Hs.vg f (fun _ _=>rfl) B e;have e:=rM (b:=b) (o:=o) (cap:=cap)<|(e.pQ (Vb pm m.fG _ a m.dA.length c mb) _ _ _).sn _;exact e.to
def K5 (l:EV):IJ:=l.map fun x=>[I x]
theorem uK (l:EV):(K5 l).length=l.length:=by simp[K5]
theorem Wh (l:EV):(K5 l).flatten=l.map I:=by
 unfold K5;induction l with
 |nil=>rfl
 |cons x l a=>grind
def tu (l:EV):(l.map I).all gM=true:=by
 induction l with
 |nil=>rfl
 |cons x l a=>rw[kd,EE,a];rfl
def Zp (p:ID):IJ:=p.map iD.enc
def Gw (p:ID):(Zp p).length=p.length:=by simp[Zp]
theorem Yb (p:ID):(Zp p).flatten=yP p:=by
 grind[Zp,yP]
def rn (p:ID):(yP p).all gM=true:=by
 unfold yP;induction p with
 |nil=>rfl
 |cons x l a=>rw[AD,DL,a];rfl
def N1 (G:Bg) (v:Value) (l:EV):Prop:=zE G 1 v (K5 l).length fun i=>(K5 l).getD i []
def Rv (G:Bg) (v:Value) (p:ID):Prop:=zE G 4 v (Zp p).length fun i=>(Zp p).getD i []
structure Nx (G:Bg) (pv wv ov vv:Value) (ps:List (ID)) (ws os vs:EV):Prop where
 ps:∃vi:EU,vi.length=ps.length/\zE G 1 pv (vi.map fun x=>[x]).length (fun i=>(vi.map fun x=>[x]).getD i [])/\∀(i:Nat) (v:Value) (p:ID),vi[i]?=some v->ps[i]?=some p->Rv G v p
 ws:N1 G wv ws
 os:N1 G ov os
 vs:N1 G vv vs
def zC {l:EV} (a:N1 G v l) (c:Hs G h L):Hs G h (Gc G 1 3 v (K5 l)::L):=Ew (by simp[K5]) a c
def Qx {p:ID} (a:Rv G v p) (c:Hs G h L):Hs G h (Gc G 4 49 v (Zp p)::L):=Ew (by simp[Zp,iD.enc]) a c
def qQ {W:Nat} {at':Nat->EU} {k:Value->Prop} (f:zE G W v n at') (e:k (I n)):cE (pR v) k:=by
 obtain⟨a,c,rfl,_⟩:=f;exact dB e
variable {ps:List (ID)}
theorem wh {C:bQ} {t2 t3 t4 t5:Value} {q:EU} (F:q.length=ps.length) (y:zE G 1 pv (q.map fun x=>[x]).length fun i=>(q.map fun x=>[x]).getD i [])
  (u:∀(i:Nat) (v:Value) (p:ID),q[i]?=some v->ps[i]?=some p->Rv G v p) (t:Ob G 1 xT) (E:ps.length<=1000000)
  (B:Ap ps≠0->∀j,Hs G j L->Q (.tuple ⟨[.pointer none,I<|Ap ps]⟩) j) (D:Ap ps=0->∀j,Hs G j L->Dd 30 5 [] Q [pv,t2,t3,t4,t5] j):
  ∀(f i:Nat) (h:AH),i+f=ps.length->Ap ps=Ap (ps.drop i)->Hs G h L->Dd 30 3 [] Q [pv,t2,t3,t4,t5,pv,I ps.length,I i] h:=by
 intro f
 induction f with
 |zero=>
  intro i h w g a
  rw[eg FA] at g
  exact bW (bE<|aab<|D g _ a)
 |succ f A=>
  intro i h w g a
  obtain⟨p,z,s⟩:=sB (l:=ps) (i:=i) FA
  obtain⟨v,k,_⟩:=sB (l:=q) (i:=i) FA
  rw[s,Ap] at g
  have a:=Ew (e:=3) FF y a
  refine bW<|bE<|aae<|bW<|Cz a (x:=[v]) (by simp[k]) rfl<|Me t (Qx (u i v p k z) a.tail) fun h a=>aQ rfl<|aQ rfl<|bU<|bG (fun c=>?_) fun c=>?_
  .rw[bA1 c] at g;rw[<-g];exact B FB _ a.tail
  .rw[bA0 c] at g;exact bW<|aad<|A (i+1) h FA g a.tail
def uf (hC:C.Ok) {t1 t2 t3 t5 vv:Value} {vs:EV} (t:N1 G vv vs) (q:Ob G 0 iF) (w:vs.length=C.aF*2)
  (k:∀e,Hs G e (gQ G C.aF mb C (uA uF vs 0)::L)->Dd 30 11 [] Q [t1,t2,t3,t5,IV mb] e):
  ∀(f i:Nat) (mem:Nat->Ln) (h:AH),i+f=vs.length->uA uF vs 0=uA mem (vs.drop i) i->Hs G h (gQ G C.aF mb C mem::L)->Dd 30 9 [] Q [t1,t2,t3,t5,IV mb,vv,I vs.length,I i] h:=by
 have s:=bQ.fC hC
 intro f
 induction f with
 |zero=>
  intro i mem h j c a
  rw[eg FA,uA] at c
  rw[c] at k
  exact bW (bE<|aab<|k _ a)
 |succ f v=>
  intro i mem h j c a
  obtain⟨x,u,g⟩:=sB (l:=vs) (i:=i) FA
  rw[g,uA] at c
  have a:=zC t a
  refine bW<|bE<|aae<|bW<|Cz a (x:=[I x]) (by simp[K5,u]) rfl<|Oy hC q a.tail FA fun h a=>bU<|aab<|bW<|aad<|v (i+1) _ h FA c a
end Go.Proofs.Z.A
namespace Go.Proofs.Z.H
open Go.Hm
variable {G:Bg} {h:AH}
section
variable {l:Nat} {C:bQ} {H:nD} {n:aG} {r:bP} {m:Ln}
def aI1 (hC:C.Ok) (c:Ob G 0 iF) (s:l<C.aF) (i:n.aI=l) (hc:0<=r.aX.core/\r.aX.core<4) (a:Hs G h (xZ G hb p mb b o cap l C H n r m++L))
  (g:∀v q,Hs G q (gW v ((r.qL n).rest l m).2::jJ G hb C (bD H l (((r.qL n).rest l m).1,m))::L)->Q v q):Dd 202 8 [] Q [IV hb,IV p,pt b (o+l*25) 0] h:=by
 simp only[xZ,e7,gk] at a
 obtain⟨wa,wc,a⟩:=fN a
 refine bW<|bI a fun t h a=>aA<|bB a FC (l:=[I n.d0,I n.d1]) rfl rfl<|aC<|aA<|ay a ?_
 intro h a
 have k:=a
 refine aC<|aA<|ay a fun h a=>cR dG<|cR (aA dG)<|cR (bB k FC (l:=[I n.d0,I n.d1]) rfl rfl<|uW<|by simp[uG]) ?_
 have a:=gD b (o+l*25) (r.qL n) wa wc a rfl rfl rfl
 have a:Hs G h (xZ G hb p mb b o cap l C H n (r.qL n) m++L):=by
  simp only[xZ,e7,gk];exact a.to
 have f:=a
 simp only[xZ,e7,gk] at a
 have j:=a
 obtain⟨wa,wc,a⟩:=fN a
 refine(aC<|aA<|bB a FC (l:=[.bool<|r.dS 0,.bool<|r.dS 1,.bool<|r.dS 2,.bool<|r.dS 3]) rfl rfl<|aZ rfl<|aHf<|eA (fun e=>?_) fun e=>?_)
 .have e:(r.qL n).kK=false:=GJ
  simp only[bP.rest,e,aO,dd] at g
  exact g _ _ (wP<|gU hb C H l (r.qL n) m _ mb b o cap s rfl j).to
 .exact qs (r:=r.qL n) hC c s i hc GJ f g
end
theorem aIz {C:bQ} (hC:C.Ok) {l:Nat} {H:nD} {n:aG} (c:Ob G 0 iF) (a:Hs G h L) [m:eB (jJ G hb C) L H L'] (j:l<C.aF) (g:n.aI=l) (i:0<=n.core/\n.core<4) (hc:0<=(H l).1.aX.core/\(H l).1.aX.core<4)
  (e:∀v B,Hs G B (gW v (iN.nI (H l) l n).2::jJ G hb C (bD H l (iN.nI (H l) l n).1)::L')->Q v B):
  IU 202 [IV hb,.agg ⟨n.enc⟩] h Q:=by
 have a:=m.of a
 simp only[iN.nI] at e
 refine cW<|eT a fun p h a=>bI a ?_
 intro F h a
 obtain⟨mb,b,o,cap,a⟩:=Mb j<|a.bF<|jJ G hb C H
 obtain⟨wa,wc,a⟩:=fN a
 refine aC<|aA<|aE a rfl<|aA<|aE a rfl ?_
 rw[g]
 refine fD j<|bI a fun E h a=>aA<|aE a rfl<|aC<|aA<|gK i.1 i.2<|aS6 _ a rfl i ?_
 intro h a
 have f:=gD b (o+l*25) ((H l).1.iG n) wa wc a rfl rfl rfl
 refine aC<|aA<|aA<|aE a rfl<|bU<|bG (fun u=>bW ?_) fun u=>bW ?_
 .simp only[bP.dE,bA1 u] at e;unfold bP.yT at e;refine aA (aE f rfl<|Mg f i fun h a=>(aA<|aE a rfl<|eA (fun s=>bW ?_) fun s=>?_))
  .rw[bA1 ⟨u,s⟩] at e;refine bI a fun A h a=>aC<|aA<|aE a rfl<|aA<|aE a rfl ?_;rw[g];refine aA<|bB a FC (l:=Va (n.d0,n.d1)) rfl rfl<|T8 hC c a j fun h a=>?_;generalize y:((H l).1.iG n).iB n.core=r2 at a e;have q:0<=r2.aX.core/\r2.aX.core<4:=by rw[<-y];exact hc
   have a:Hs G h (xZ G hb p mb b o cap l C H n r2 (n.d0,n.d1)++L'):=by
    simp only[xZ,e7,gk];exact a.to
   have t:=a
   simp only[xZ,e7,gk] at a
   have f:=a
   obtain⟨wa,wc,a⟩:=fN a
   refine(aC<|aA<|bB a FC (l:=[.bool _,.bool _,.bool _,.bool _]) rfl rfl<|aZ rfl<|aHf<|eA (fun w=>?_) fun w=>?_)
   .have w:r2.kK=false:=by unfold bP.kK;rw[w];rfl
    simp only[bP.rest,w,aO,dd] at e
    exact e _ _ (wP<|gU hb C H l r2 (n.d0,n.d1) _ mb b o cap j rfl f).to
   .exact qs hC c j g q (by grind[bP.kK]) t e
  .rw[bA0 FB] at e;generalize y:((H l).1.iG n).iB n.core=r2 at a e;have q:0<=r2.aX.core/\r2.aX.core<4:=by rw[<-y];exact hc
   refine vh hC c j g q (mb:=mb) (cap:=cap) ?_ e
   simp only[xZ,e7,gk,gZ]
   exact a.to
 .have D:(H l).1.yT (H l).2 n=(H l).2:=by unfold bP.yT;rw[bA0 FB]
  simp only[bP.dE,bA0 u,D] at e
  refine aA<|aE a rfl<|bU<|bG (fun s=>bW ?_) fun s=>bW ?_
  .simp only[bA1 s] at e;refine aC<|aA<|ay a ?_;intro h a;refine bI a fun A h a=>aA<|aE a rfl<|aA<|aE a rfl<|aIk ?_;have z:=a;refine aC<|aA<|gK i.1 i.2<|qg {(H l).1.iG n with owner:= -1} a rfl i fun h a=>cR dG<|cR (aA dG)<|cR (aE z rfl jF)<|cR (aC dG)<|cR (aA dG) ?_;have f:=gD b (o+l*25) (((H l).1.iG n).Kf n) wa wc a rfl rfl rfl;refine aA (aE a rfl<|eA (fun k=>?_) fun k=>?_)
   .simp only[k,ew] at e;refine aI1 (r:=((H l).1.iG n).Kf n) hC c j g hc (mb:=mb) (cap:=cap) ?_ e;simp only[xZ,e7,gk,gZ];exact f.to
   .simp only[k,aO,dd] at e;refine vh (r:=((H l).1.iG n).Kf n) hC c j g hc (mb:=mb) (cap:=cap) ?_ e;simp only[xZ,e7,gk,gZ];exact f.to
  .simp only[bA0 s] at e;refine aA (aE a rfl<|eA (fun k=>?_) fun k=>?_)
   .simp only[k,ew] at e;refine aI1 (r:=(H l).1.iG n) hC c j g hc (mb:=mb) (cap:=cap) ?_ e;simp only[xZ,e7,gk,gZ];exact f.to
   .simp only[k,aO,dd] at e;refine vh (r:=(H l).1.iG n) hC c j g hc (mb:=mb) (cap:=cap) ?_ e;simp only[xZ,e7,gk,gZ];exact f.to
def Wk {aI state:Int} {r:bP} (a:Hs G h L) [m:eB (gH b o) L r L'] (e:∀v c,Hs G c (gW v (eR aI state<|r.iV x)::gH b o (r.iO<|r.iV x)::L')->Q v c):
  IU 169 [pt b o 0,I x] h fun v c=>IU 168 [pt b o 0,I aI,I state,v] c Q:=by
 refine s6 (m.of a) fun p q h a=>?_
 have a:=Un<|a.bF<|gH b o r
 refine Lh (G:=G) (r:=r) (A:=Wo b o p q x r) (L:=L') aDk vy tY FD ?_ fun v h a=>e v h ?_
 .simp only[Wo];exact a.to
 .have a:=a.pS.fQ;have a:Hs G h (aCt b o r::Ta b o (r.iO<|r.iV x)::gW v (eR aI state<|r.iV x)::L'):=a.to;exact(Xt a).pS
theorem aDn {aI state:Int} {r:bP} (k:0<=x/\x<4) (f:Hs G h L) [m:eB (dY 1 e a c) L (1,cs) L'] (i:cs=[I x]) [s:eB (gH b o) L' r M] (j:∀v g,Hs G g (gW v (eR aI state [x.toNat])::gH b o (r.iO [x.toNat])::M)->Q v g):
  IU 54 [.slice a 1 c] h fun v g=>IU 168 [pt b o 0,I aI,I state,v] g Q:=by
 subst i
 have f:Hs G h (dY 1 e a c (1,[x].map I)::gH b o r::M):=f.cH<|m.cH.trans<|s.cH.cons _
 refine Oz (e:=e) rfl f fun p h f=>?_
 have f:=Un<|f.bF<|gH b o r
 have q:yy Pr K G 87 [] [IV p] (Tv e p a c [x]) ([x.toNat].map fun(c:Nat)=>[I c]):=by
  have:=G7 (G:=G) (e:=e) (p:=p) (a:=a) (c:=c) (xs:=[x]) FF;simp only[kd,CT,CM k.1] at this ⊢;exact this
 refine Lh (r:=r) (L:=aCt b o r::M) q (fun c t=>FB) FF FD ?_ fun v h f=>j v h ?_
 .exact f.to
 .have f:Hs G h (aCt b o r::Ta b o (r.iO [x.toNat])::gW v (eR aI state [x.toNat])::M):=f.to;exact(Xt f).pS
end Go.Proofs.Z.H
end
