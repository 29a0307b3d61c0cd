/- A part of the proof. -/
import Derived.Test.YtgfankkobgfhnaaGreatDoorG11
import Derived.Test.YtgfankkobgfhnaaGreatDoorG10
import Derived.Test.YtgfankkobgfhnaaGreatDoorG12
import Derived.Test.YtgfankkobgfhnaaGreatDoorG9
import Derived.Test.YtgfankkobgfhnaaGreatDoorG8
set_option linter.all false
set_option maxRecDepth 100000
open Go Go.Ab
variable {L L':IB} {N b c cap g hb i m n o p2 p3 q:Nat} {x:Int} {Q:Value->AH->Prop} {a:EX} {O cs y:EU} {f:Nat->EX×Nat} {l:EW} {ov pv v vv:Value} {e:TypeId} {os vs:EV}
section
attribute [local irreducible] cE Br xE zJ Ba K1 sO D9 sF na mC tH yM yV yE pR Be dr bf dm Xy bu py qY vS oL nR Fs Qe rE Xn lz Hj Cl E5 pw A9 zV qJ kI fJ dX
namespace Go.Proofs.Z.H
open Go.Hm
section
variable {G:Bg} {h:AH}
def aHt {C:bQ} {H:nD} (a:Hs G h L) [m:eB (jJ G hb C) L H L'] (c:Hs G h (jJ G hb C H::L')->Q (I<|Lv C H x) h):IU 44 [IV hb,I x] h Q:=by
 have c:=c<|m.of a;have⟨mb,b,o,cap,a⟩:=sN<|m.of a;rw[Lv] at c;refine cW<|B6 a<|cX<|fM<|bG (fun e=>?_) fun e=>?_;obtain⟨l,rfl⟩:=aL e.1;have f:l<C.aF:=by have:=e.2;omega
 have⟨wa,wc,a⟩:=fN<|Ld (H:=H) (b:=b) (o:=o) f a;rw[bA1 e,aM] at c;exact aC<|aA<|aE a rfl<|fD f<|aA<|aE a rfl<|dB c;rwa [bA0 e] at c
def aJ8 (n:Nat):(fun i=>(sM n i).2)=uF:=by funext i;unfold sM uF;split<;>rfl
def Uw {C:bQ} (hC:C.Ok) (k:∀g,Hs G g (jJ G hb C (sM C.aF)::L)->Q (.tuple ⟨[IV hb,I 0]⟩) g):∀(f n:Nat) (h:AH),n+f=C.aF->Hs G h (jJ G hb C (sM n)::L)->Dd 34 3 [] Q [IV hb,I C.aF,I n] h:=by
 have l:=bQ.fC hC;intro f;induction f with
 |zero=>
  intro n h p a;have:n=C.aF:=FA
  subst this;exact bW (bE<|aab<|k _ a)
 |succ f q=>
  intro n h p a;have e:n<C.aF:=FA
  refine bW<|bE<|aae<|bW ?_;obtain⟨r,b,o,c,a⟩:=Mb e a;obtain⟨s,t,a⟩:=fN a;refine aC<|aA<|aE a rfl<|fD e<|aA<|ay a ?_;intro h a;refine aad<|q (n+1) h FA ?_;have j:(sM n n).1={Ee with owner:=0}:=by unfold sM;rw[aaa]
  have e2:(sM n n).2=(0,0):=by unfold sM;rw[aaa]
  rw[j] at a;have a:=gD b (o+n*25) Ee s t a rfl rfl rfl;have a:=gU hb C (sM n) n Ee (0,0) (fun i=>(sM n i).2) r b o c e (by rw[<-e2];exact gZ.symm) a;rw[aCu] at a;exact a
theorem wk {C:bQ} (hC:C.Ok) (f:Ob G 0 iF) (e:Hs G h L) (s:∀j k,Hs G k (jJ G j C (sM C.aF)::L)->Q (.tuple ⟨[IV j,I 0]⟩) k):IU 34 [.agg ⟨C.enc⟩] h Q:=by
 have t:=bQ.fC hC;refine cW<|eT e ?_;intro p h e;refine bB e FC (l:=C.enc) rfl rfl<|uJ f e fun h e=>?_;rw[bA1 hC];refine bU<|aab<|bW<|bB e FC (l:=C.enc) rfl rfl<|Xh hC f e fun q h e=>?_;refine aQ rfl<|aQ rfl<|bU<|aab<|bW<|bI e ?_;intro v h e;refine bB e FC (l:=C.enc) rfl rfl<|bB e FC (l:=C.enc) rfl rfl<|uU hC f e fun h e=>aHk FA FA ?_;dsimp only;refine oS e rfl rfl ?_ rfl ?_ ?_;rw[lB,xO (W:=25) fun _=>rfl];rw[lB];exact zT (fun _=>rfl) _;intro a h e;obtain⟨b,o,r,e⟩:=Hs.T3 (W:=25) rfl FA e;cases r;refine aZ (c:=pT q C b o C.aF) rfl<|D6 e rfl rfl ?_;intro j h e;refine cR dG (cR (bB e FC (l:=C.enc) rfl rfl<|uW<|by simp[uG,bQ.enc])<|aC<|aA<|aE e rfl<|dB ?_);refine Uw hC (s j) C.aF 0 h FA ?_;have e:=(e.bF<|eP C.aF fun i=>aN b (o+i*25) [I 0,.bool false,.bool false,.bool false,.bool false,.slice none 0 0,.bool false,I 0,I 0,I 0,I 0,I 0,I 0,I 0,.bool false,I 0,I 0,.bool false,.bool false,.bool false,.bool false,.bool false,.bool false,I 0,I 0]);have e:=Hs.S2 (g:=fun i=>gH b (o+i*25) (sM 0 i).1) C.aF _ (fun i u h L e=>nQ {Ee with owner:=0} (a:=none) (c:=0) (jO e).pS) e;rw[<-aJ8 0] at e;exact(D1 C (sM 0) j q b o C.aF e).to
end
variable {G:Bg} {h:AH}
def dt (H:nD) (i:Nat) (x:EX×Nat):EU:=(H i).1.enc x.1 x.2
def ja (H:nD) (i:Nat) (x:EX×Nat):HP:=yZ x.1 x.2 (H i).1.aH
def aNb {H:nD} (e:Hs G h (eP n (fun i=>gH b (o+i*25) (H i).1)::L)):Hs G h (eP n (fun i=>A5 fun x=>sp [aN b (o+i*25)<|dt H i x,ja H i x])::L):=
 Hs.S2 n L (fun i _ h L e=>by
  obtain⟨a,c,e⟩:=fN e;exact Hs.Cn (A:=fun x:EX×Nat=>sp [aN b (o+i*25)<|dt H i x,ja H i x]) (a,c) e.F4) e
def aNp {H:nD} (e:Hs G h (eP n (fun i=>A5 fun x=>sp [aN b (o+i*25)<|dt H i x,ja H i x])::L)):Hs G h (eP n (fun i=>gH b (o+i*25) (H i).1)::L):=
 Hs.S2 n L (fun i _ h L e=>by
  obtain⟨⟨a,c⟩,e⟩:=e.Fl;exact nQ (H i).1 (a:=a) (c:=c) e.Fk) e
def aCp (j:n<=100) (i:Hs G h L) [m:eB (dY 25 187 a c) L (n,cs) L'] (g:∀b e f,Hs G f (dY 25 187 b e (n,cs)::dY 25 187 a c (n,cs)::L')->Q (.slice b n e) f):IU 162 [.slice a n c] h Q:=
 cW (zB (bytes:=152) i FA g)
theorem rb {B p mb:Nat} {C:bQ} {H:nD} (hB:B<=32) (D:C.aF=B) (O:∀i,i<B->(H i).1.aH.length<=2^30)
  (J:∀x,Hs G x (aN p 0 (pT mb C b o cap)::eP B (fun i=>gH b (o+i*25) (H i).1)::eP B (fun i=>ja H i<|f i)::L)->Q (IV p) x):
  ∀(r i:Nat) (h:AH),i+r=B->Hs G h (aN p 0 (pT mb C b o cap)::eP B (fun j=>if j<i then gH b (o+j*25) (H j).1 else aN b (o+j*25) (dt H j<|f j))::eP B (fun i=>ja H i<|f i)::L)->
  Dd 110 2 [] Q [IV p,I B,I i] h:=by
 intro r
 induction r with
 |zero=>
  intro i h E e
  obtain rfl:i=B:=FA
  refine bW<|bE<|aab<|J _ ?_
  have e:=e.bF<|eP i fun j=>if j<i then gH b (o+j*25) (H j).1 else aN b (o+j*25) (dt H j<|f j)
  have e:=wI (g:=fun j=>gH b (o+j*25) (H j).1) (fun j F=>by rw[bA1 F]) e
  exact e.dR (aN p 0<|pT mb C b o cap) (eP i fun j=>gH b (o+j*25) (H j).1) (eP i fun j=>ja H j<|f j)
 |succ r S=>
  intro i h E e
  have q:i<B:=FA
  have t:i<C.aF:=FA
  have R:=O i q
  refine bW<|bE<|aae<|bW<|bI e fun T h e=>?_
  have e:=(e.bF<|eP B fun j=>if j<i then gH b (o+j*25) (H j).1 else aN b (o+j*25) (dt H j<|f j)).oI i q
  simp only[DE,dd] at e
  have e:=(e.bF<|eP B fun j=>ja H j<|f j).oI i q
  refine aC<|aA<|am p e rfl<|aC<|aA<|am p e rfl<|fD t<|aA<|aE (b:=b) (o:=o+i*25) e rfl ?_
  have e:Hs G h (yZ (f i).1 (f i).2 (H i).1.aH::_):=e
  refine Ep (l:=(H i).1.aH) (a:=(f i).1) (c:=(f i).2) FA e fun u v h e=>?_
  refine fD t<|aA<|ay (b:=b) (o:=o+i*25) e fun A s=>?_
  refine cR dG<|cR (aC dG)<|cR (aA dG)<|cR (am p e rfl Ls)<|cR jF<|aad ?_
  refine S (i+1) A FA ?_
  have s:=s.sg (b:=b) (o:=o+i*25) (c:=(H i).1.enc u v) rfl
  have k:=nQ (b:=b) (o:=o+i*25) (H i).1 (a:=u) (c:=v)<|s.dC (aN b (o+i*25)<|(H i).1.enc u v)<|yZ u v (H i).1.aH
  have y:gH b (o+i*25) (H i).1=(fun j=>if j<i+1 then gH b (o+j*25) (H j).1 else aN b (o+j*25) (dt H j<|f j)) i:=GV
  rw[y] at k
  have k:=k.qN (n:=B) (i:=i) (fun j=>if j<i then gH b (o+j*25) (H j).1 else aN b (o+j*25) (dt H j<|f j)) (fun j=>if j<i+1 then gH b (o+j*25) (H j).1 else aN b (o+j*25) (dt H j<|f j)) q (fun j _ K=>by
   have:(j<i+1)=(j<i):=propext ⟨fun h=>FA,fun h=>FA⟩;simp only[this])
  have z:yZ (f i).1 (f i).2 (H i).1.aH=(fun j=>ja H j<|f j) i:=rfl
  rw[z] at k
  have k:=k.qN (n:=B) (i:=i) (fun j=>ja H j<|f j) (fun j=>ja H j<|f j) q fun _ _ _=>rfl
  exact k.to
theorem Ue {C:bQ} {H:nD} (hC:C.Ok) (R:Bb C H (2^30)) (a:Hs G h L) [T:eB (jJ G hb C) L H L'] (S:∀p2 I,Hs G I (jJ G p2 C H::jJ G hb C H::L')->Q (IV p2) I):IU 110 [IV hb] h Q:=by
 have V:=(bQ.fC hC);have y:0<C.aF:=FA
 obtain⟨F,b,o,e,a⟩:=sN<|T.of a;refine cW<|dM<|cS<|bW<|bI a fun X h a=>?_;have a:=aNb<|a.bF<|eP C.aF fun i=>gH b (o+i*25) (H i).1;have u:Hs G h (eP C.aF (fun i=>A5 fun x=>sp [aN b (o+i*25)<|dt H i x,ja H i x])::gJ G 25 187 (some ⟨b,o,none⟩) e C.aF b o::_):=a.dC (eP C.aF fun i=>A5 fun x=>sp [aN b (o+i*25)<|dt H i x,ja H i x])<|gJ G 25 187 (some ⟨b,o,none⟩) e C.aF b o;obtain⟨f,a⟩:=Hs.bt (W:=25) (c:=dt H) (d:=ja H) (none,0) (fun _ _=>rfl) (fun _ _=>rfl) FC y u;clear u;refine aC<|aA<|am hb a rfl<|A.Tx hC a fun k U q=>?_;refine aC<|aA<|kR (b:=hb) (o:=0) q FC (l:=C.enc) rfl rfl<|aC<|aA<|am hb q rfl ?_;refine aCp FA q fun J t O g=>?_;obtain⟨r,s,rfl,g⟩:=Hs.Yu (W:=25) (c:=fun i=>dt H i<|f i) (fun _=>rfl) y<|g.bF<|dY 25 187 J t (C.aF,(List.range C.aF).flatMap fun i=>dt H i<|f i);refine aZ (c:=pT k C r s t) rfl<|D6 (i:=15) (n:=17) (D:=[]) g rfl rfl fun p z j=>?_;have v:uG (.agg ⟨C.enc⟩) (.agg ⟨C.enc⟩)=true:=uW HE;refine cR dG<|cR dG<|cR (aC dG)<|cR (aC dG)<|cR (aA dG)<|cR (aA dG) ?_;refine cR (kR (b:=hb) (o:=0) a FC (l:=C.enc) rfl rfl v)<|cR (kR (b:=hb) (o:=0) j FC (l:=C.enc) rfl rfl v) ?_;refine cR dG<|cR (aC dG)<|cR (aA dG)<|cR (am hb a rfl Ls) ?_;clear a q g;refine aC<|aA<|am p j rfl<|dB ?_;have a:=j.dR (aN p 0<|pT k C r s t) (eP C.aF fun i=>aN r (s+i*25)<|dt H i<|f i)<|eP C.aF fun i=>ja H i<|f i;refine rb (B:=C.aF) (C:=C) (b:=r) (o:=s) (cap:=t) (mb:=k) (H:=H) (f:=f) FA rfl (fun i E=>(R i E).2) ?_ C.aF 0 z FA GI;intro h a;refine S p _ ?_;have a:=zL<|a.pQ (aN p 0<|pT k C r s t) (gQ G C.aF k C fun i=>(H i).2) (gJ G 25 187 (some ⟨r,s,none⟩) t C.aF r s)<|eP C.aF fun i=>gH r (s+i*25) (H i).1;have a:=a.dC (dY 25 187 (some ⟨b,o,none⟩) e (C.aF,(List.range C.aF).flatMap fun i=>dt H i<|f i))<|eP C.aF fun i=>ja H i<|f i;have a:Hs G h (eP C.aF (fun i=>A5 fun x=>sp [aN b (o+i*25)<|dt H i x,ja H i x])::gJ G 25 187 (some ⟨b,o,none⟩) e C.aF b o::_):=Hs.vg (W:=25) (c:=dt H) (d:=ja H) f (fun _ _=>rfl) y a;have a:=aNp a;have a:=zL<|a.pQ (aN hb 0<|pT F C b o e) (gQ G C.aF F C fun i=>(H i).2) (gJ G 25 187 (some ⟨b,o,none⟩) e C.aF b o)<|eP C.aF fun i=>gH b (o+i*25) (H i).1;exact a.to
end Go.Proofs.Z.H
namespace Go.Proofs.Z.H
open Go.Hm Go.Mc
variable {G:Bg} {h:AH}
def aQp {α:Type} {l:List α} (h:i<l.length):∃x,l[i]?=some x/\l.drop i=x::l.drop (i+1):=⟨l[i],FF,mn h⟩
def Vf (l:IA):Int:=((l.filter fun n=>decide<|n.kind=0).length:Int)
theorem aGc {l:IA} {n:aG} (h:l[i]?=some n):Vf (l.take<|i+1)=Vf (l.take i)+if n.kind=0 then 1 else 0:=by
 unfold Vf;rw[AE,h];simp only[Option.toList_some,AJ,DB,EN];split<;>simp_all
def F9 {l:IA} {k:Int} (hb:l.length<=2^30) (y:0<=k/\k<=1) (x:∀q,Hs G q (yZ a c l::L)->Q (I<|k+Vf l) q):
  ∀(f i:Nat) (h:AH),i+f=l.length->Hs G h (yZ a c l::L)->Dd 62 4 [] Q [I<|k+Vf (l.take i),.slice a l.length c,I l.length,I i] h:=by
 intro f
 induction f with
 |zero=>
  intro i h v g
  rw[e6 FA]
  exact bW (bE<|aab<|x _ g)
 |succ f s=>
  intro i h v g
  obtain⟨n,r,z⟩:=aQp (l:=l) (i:=i) FA
  have u:Vf (l.take i)<=2^30/\0<=Vf (l.take i):=by
   unfold Vf;have:=qv (fun n:aG=>decide<|n.kind=0)<|l.take i;have:=List.length_take_le i l;omega
  have j:=aGc r
  refine bW<|bE<|aae<|bW<|Ac (l:=l) (a:=a) (c:=c) (enc:=aG.enc) (e:=185) g FC FA (by rw[aM];exact r)<|cK g fun t h g=>ax (b:=t) g fun h g=>aA<|am t g rfl<|cC<|bG (fun p=>?_) fun p=>?_
  .rw[bA1 p] at j;refine bW<|aad<|aad ?_;have:=s (i+1) h FA g.to;rw[j] at this;rw[show k+Vf (l.take i)+1=k+(Vf (l.take i)+1) by omega];exact this
  .rw[bA0 p] at j;refine bW<|aad ?_;have:=s (i+1) h FA g.to;rw[j,Int.add_zero] at this;exact this
theorem Yn {C:bQ} {H:nD} (B:Bb C H (2^30)) (f:Hs G h L) [D:eB (jJ G hb C) L H L'] (q:∀A,Hs G A (jJ G hb C H::L')->Q (I<|gO C H x) A):IU 62 [IV hb,I x] h Q:=by
 have f:=D.of f;unfold gO at q;by_cases t:C.kG x;rotate_left;rw[bA0 t] at q;obtain⟨s,b,o,g,f⟩:=sN f;refine cW<|B6 f<|cX<|fM<|bC t<|q _ (D1 C H hb s b o g f).to;rw[bA1 t] at q;obtain⟨l,rfl⟩:=aL t.1;have v:l<C.aF:=by have:=t.2;omega
 rw[aM] at q;obtain⟨s,b,o,g,f⟩:=Mb v f;obtain⟨a,c,f⟩:=fN f;have r:=(B l v).2;have f:Hs G h (aN b (o+l*25) ((H l).1.enc a c)::yZ a c (H l).1.aH::aN hb 0 (pT s C b o g)::gQ G C.aF s C (fun i=>(H i).2)::gJ G 25 187 (some ⟨b,o,none⟩) g C.aF b o::Ez b o C.aF H l::L'):=f;have p:∀{h:AH},Hs G h (yZ a c (H l).1.aH::aN b (o+l*25) ((H l).1.enc a c)::aN hb 0 (pT s C b o g)::gQ G C.aF s C (fun i=>(H i).2)::gJ G 25 187 (some ⟨b,o,none⟩) g C.aF b o::Ez b o C.aF H l::L')->Hs G h (jJ G hb C H::L'):=by
  intro h f;have f:=nQ (H l).1 (a:=a) (c:=c) f.pS;have f:=gU hb C H l (H l).1 (H l).2 _ s b o g v gZ.symm f;have e:bD H l ((H l).1,(H l).2)=H:=by funext j;unfold bD;split<;>simp_all
  rw[e] at f;exact f
 refine cW<|B6 f<|cX<|fM<|cI t<|bW<|aC<|aA<|am hb f rfl<|fD v<|aC<|aA<|aE (b:=b) (o:=o+l*25) f rfl<|eA (fun y=>?_) fun y=>?_;refine aC<|aA<|aA<|aE (b:=b) (o:=o+l*25) f rfl<|cC<|bG (fun z=>?_) fun z=>?_;refine bW<|aad<|aC<|aA<|aE (b:=b) (o:=o+l*25) f rfl<|dB ?_;refine F9 (a:=a) (c:=c) (l:=(H l).1.aH) (k:=1) r FA (fun h f=>?_) (H l).1.aH.length 0 h FA f.pS;have:=q h<|p f;unfold bP.Eu at this;rw[bA1 ⟨y,z⟩] at this;exact this;refine bW<|aC<|aA<|aE (b:=b) (o:=o+l*25) f rfl<|dB ?_;refine F9 (a:=a) (c:=c) (l:=(H l).1.aH) (k:=0) r FA (fun h f=>?_) (H l).1.aH.length 0 h FA f.pS;have:=q h<|p f;unfold bP.Eu at this;rw[bA0 fun u=>z u.2] at this;exact this;refine aC<|aA<|aE (b:=b) (o:=o+l*25) f rfl<|dB ?_;refine F9 (a:=a) (c:=c) (l:=(H l).1.aH) (k:=0) r FA (fun h f=>?_) (H l).1.aH.length 0 h FA f.pS;have:=q h<|p f;unfold bP.Eu at this;rw[bA0 fun u=>by rw[y] at u;cases u.1] at this;exact this
end Go.Proofs.Z.H
namespace Go.Proofs.Z
open Go.Hm Go.At Go.Mc Go.Ct Go.Nt
variable {Cf:bQ} {M:bR}
section
def wR (C:bQ) (H:nD) (l:EW):nD:=l.foldl (fun H (l:Nat)=>(jS C H l).1) H
def ug {C:bQ} {H:nD} {k:Nat}:wR C H (l++[k])=(jS C (wR C H l) k).1:=by unfold wR;rw[CS];rfl
def ur {C:bQ} {H:nD} {l:Int} (h:Bb C H N):Bb C (jS C H l).1 (N+1):=by
 intro k f;obtain⟨a,c⟩:=h k f;unfold jS;split;unfold bD;dsimp only;split;rename_i e;subst e;refine⟨⟨a.core,a.owner,?_⟩,?_⟩;intro n b;rcases cj.1 b with b|b;exact a.aH n b;rw[aV.1 b];show(0:Int)<=0/\(0:Int)<4;omega;show((H l.toNat).1.aH++[nU l]).length<=N+1;rw[cV,tb];omega;exact⟨a,FA⟩;exact⟨a,ts c⟩
def mj {C:bQ}:∀{l:EW} {H:nD},Bb C H N->Bb C (wR C H l) (N+l.length):=by
 intro l;induction l generalizing N with
 |nil=>intro H h;exact h
 |cons k l a=>
  intro H h;rw[hK,show N+(l.length+1)=N+1+l.length by omega];exact a<|ur (l:=k) h
variable {G:Bg} {h:AH}
abbrev swX (G:Bg) (Cf:bQ) (m p2:Nat) (M:bR) (e:Nat->Value) (d l:Nat) (done:EW):HP:=sp [pG Pr 157 (qM 14) 18 e d l (.ready,none),aN p2 0 [IV m],cD G Cf m<|M.mI<|wR Cf M.aK done]
theorem aDm (hC:Cf.Ok) (hG:Gb G) (z:(g:Int)<Cf.aJ) (A:Bb Cf M.aK (2^30 - 4)) (a:Hs G h L) [B:eB (cD G Cf m) L M L'] (f:∀v j,Hs G j (cD G Cf m (M.mI<|oJ Cf M.aK g)::L')->Q v j):IU 157 [IV m,I g] h Q:=by
 refine cW<|eT (B.of a) fun c h a=>?_;obtain⟨x,i,a⟩:=dN<|a.bF<|cD G Cf m M;refine am c a rfl<|aC<|aA<|kR (b:=m) (o:=0) a FC (l:=Cf.enc) rfl rfl<|Kj (C:=Cf) a fun s q2 h a=>?_;have a:Hs G h (cD G Cf m (M.mI<|wR Cf M.aK [])::_):=bY (m:=m) (x:=x) M i a;refine oE a fun d h a=>?_;intro e u;refine rI a fun l h a=>xQ rfl ?_;have a:Hs G h (sp [aN s 0 Cf.enc,aN q2 0 [I g]]::swX G Cf m c M e d l []::mk d ()::L'):=by
  have a:=(a.dR (pG Pr 157 (qM 14) 18 e d l (.ready,none)) (aN c 0 [IV m])<|cD G Cf m<|M.mI<|wR Cf M.aK []).Vc;exact a.to
 refine(O1 (C:=Cf) hC z (p:=s) (q:=q2) hG.Ng).Nf (X:=fun done=>swX G Cf m c M e d l done) (Z:=fun _ _=>Dm False) a ?_ ?_ ?_
 .intro done y h N r a;have a:=a.E4;have t:done.length<=1:=by have:=r.length_le;simp at this;omega
  obtain⟨x,i,a⟩:=dN<|a.bF<|cD G Cf m<|M.mI<|wR Cf M.aK done;refine rW (yH a) u<|kY a fun h a=>am c a rfl<|aC<|aA<|am m a rfl ?_;refine H.aFf (C:=Cf) (H:=wR Cf M.aK done) (fun k f=>by have:=mj (l:=done) A k f;exact⟨this.1,FA⟩) a fun h a=>lJ a fun h a=> .inl ⟨rfl,?_⟩;rw[<-ug] at a;have a:=bY (m:=m) (x:=x) (M.mI<|wR Cf M.aK<|done++[y]) i a;exact((a.dR (pG Pr 157 (qM 14) 18 e d l (.ready,none)) (aN c 0 [IV m])<|cD G Cf m<|M.mI<|wR Cf M.aK<|done++[y]).Vc).to
 intro v h a;have a:=(a.bF<|swX G Cf m c M e d l [g*2,g*2+1]).E4;have e2:wR Cf M.aK [g*2,g*2+1]=oJ Cf M.aK g:=by unfold wR oJ;simp
 rw[e2] at a;exact qZ a fun h a=>rC<|qP a fun h a=>oA<|f _ _ a.to
 .intro done y v h r a;exact(((a.bF<|Dm False).yv).1).elim
end
section
variable {G:Bg} {h:AH} {n:aG}
def aTb (G:Bg) (Cf:bQ) (m:Nat) (Z:HP) (b:Value) (A B:bR):Prop:=∀(h:AH) (L:IB) (Q:Value->AH->Prop),Hs G h (Z::cD G Cf m A::L)->(∀v a,Hs G a (cD G Cf m B::L)->Q v a)->E5 Pr K b [] h Q
abbrev TK (G:Bg) (Cf:bQ) (m:Nat) (M:bR) (L:IB) (Q:Value->AH->Prop) (r:bR×IA×Int):Prop:=∀v a Z b,Hs G b (H.gW v r.2.1::Z::cD G Cf m M::L)->(r.2.2=0->∀F,aTb G Cf m Z a (M.bM F)<|r.1.bM F)->Q (.tuple ⟨[v,a,I r.2.2]⟩) b
def Oi {C:bQ} {H:nD} {N':Nat} (h:Bb C H N) (b:N<=N'):Bb C H N':=fun k a=>⟨(h k a).1,cO (h k a).2 b⟩
def aLl (hC:Cf.Ok) (hG:Gb G) (j:E6 Cf M n) (a:Hs G h (aN p2 0 [IV m]::aN p3 0 n.enc::cD G Cf m M::L)) (g:TK G Cf m M L Q (M.mI (eW Cf M.aK n).1,(eW Cf M.aK n).2.1,(eW Cf M.aK n).2.2)):Dd 108 3 [] Q [IV p2,IV p3] h:=by
 obtain⟨x,i,a⟩:=dN<|a.bF<|cD G Cf m M;refine bW<|am p2 a rfl<|aC<|aA<|am m a rfl<|H.Ue (C:=Cf) hC (Oi j.aK FA) a fun q h a=>cK a fun c h a=>ax (b:=c) a fun h a=>am c a rfl<|an p3 a (l:=n.enc) rfl rfl ?_;refine H.Mx (C:=Cf) (hb:=q) (H:=M.aK) (n:=n) hC hG.Ng (Oi j.aK FA) a fun v h a=>aQ rfl<|aQ rfl ?_;have a:=bY (m:=m) (x:=x) M i a;have a:=(a.dR (aN c 0 [IV q]) (aN p2 0 [IV m])<|H.jJ G q Cf (eW Cf M.aK n).1).Vc;refine g v _ (sp [aN c 0 [IV q],aN p2 0 [IV m],H.jJ G q Cf (eW Cf M.aK n).1]) h a.to fun _ F=>?_;intro h L Q a g;have a:=a.E4;obtain⟨x,i,a⟩:=dN<|a.bF<|cD G Cf m<|M.bM F;refine qB rfl<|cW (f:=144)<|am p2 a rfl<|am c a rfl<|aC<|aA<|ay (b:=m) (o:=0) a fun h a=>g _ _ ?_;have e:bM (jG Cf x M.eY.length) (0+10) [IV q]=jG Cf {x with hb:=q} M.eY.length:=rfl;rw[e] at a;exact(bY (m:=m) (x:={x with hb:=q}) ((M.mI (eW Cf M.aK n).1).bM F) i a).to
def aKk (hC:Cf.Ok) (hG:Gb G) (z:E6 Cf M n) (g:Hs G h (aN p2 0 [IV m]::aN p3 0 n.enc::cD G Cf m M::L)) (y:TK G Cf m M L Q (M.jX n.core.toNat (fP Cf n.core (M.bT n.core.toNat) n).1,(fP Cf n.core (M.bT n.core.toNat) n).2.1,(fP Cf n.core (M.bT n.core.toNat) n).2.2)):Dd 108 9 [] Q [IV p2,IV p3] h:=by
 have p:Bd (M.bT n.core.toNat):=z.Pa.bd (sK hC).2.2.2;obtain⟨i,A⟩:=aL z.core.1;have J:(i:Int)<Cf.aB:=by have:=z.core.2;omega
 rw[A,aM] at y;have k:=z.Pa;rw[A,aM] at k p;obtain⟨x,u,g⟩:=dN<|g.bF<|cD G Cf m M;have j:i<x.lk.length:=HF
 have B:n.enc[0+1]?=some (I i):=by show some (I n.core)=_;rw[A]
 refine bW<|bI g fun E h g=>am p2 g rfl<|aC<|aA<|am m g rfl<|aA<|am p3 g B<|Nr g j ?_;have g:=kT (R:=wQ G Cf) (l:=x.lk) (s:=M.bT) j g;refine C.ye (C:=Cf) (core:=(i:Int)) (c:=x.lk.getD i 0) (s:=M.bT i) hC p g fun q h g=>nJ (r:=E) (i:=9) (n:=11) (D:=[]) g rfl rfl fun v h g=>ax (b:=v) g fun h g=>am v g rfl<|an p3 g (l:=n.enc) rfl rfl ?_;refine C.Mx (C:=Cf) (core:=(i:Int)) (c:=q) (s:=M.bT i) (n:=n) hC p k.sts hG.Ng hG.jA g fun a c h g=>aQ rfl<|aQ rfl ?_;have g:=Ik (Cf:=Cf) (l:=x.lk) (s:=M.bT) (i:=i) (t:=M.bT i) j g;rw[cY] at g;have g:=bY (m:=m) (x:=x) M u g;have g:=(g.pQ (aN v 0 [IV q]) (aN p2 0 [IV m]) (aN p3 0 n.enc)<|C.lR G q Cf i (fP Cf i (M.bT i) n).1).Rh;have g:=H.Nv (l:=(fP Cf i (M.bT i) n).2.1) rfl rfl<|g.bF<|dY 9 185 a c ((fP Cf i (M.bT i) n).2.1.length,iL (fP Cf i (M.bT i) n).2.1);refine y _ _ (sp [aN v 0 [IV q],aN p2 0 [IV m],aN p3 0 n.enc,C.lR G q Cf i (fP Cf i (M.bT i) n).1]) h g.to fun _ F=>?_;intro h L Q g y;have g:=g.un4;obtain⟨x,u,g⟩:=dN<|g.bF<|cD G Cf m<|M.bM F;have j:i<x.lk.length:=HF
 refine qB rfl<|cW (f:=147)<|bI g fun E h g=>am p2 g rfl<|aC<|aA<|am m g rfl<|aA<|am p3 g B<|am v g rfl<|aAc g j fun h g=>y _ _ ?_;have g:=kT (R:=wQ G Cf) (l:=x.lk) (s:=M.bT) j g;have g:=Ma (R:=wQ G Cf) (l:=x.lk) (s:=M.bT) (i:=i) (q:=q) (t:=(fP Cf i (M.bT i) n).1) j g;have e:jG Cf x M.eY.length=jG Cf {x with lk:=x.lk.set i q} M.eY.length:=GW
 rw[e] at g;exact(bY (m:=m) (x:={x with lk:=x.lk.set i q}) ((M.jX i (fP Cf i (M.bT i) n).1).bM F) ⟨u.1,by rw[p7];exact u.2.1,u.2.2⟩ g).to
end
variable {p6:Nat}
section
def je {m:Mon} {c g:Int} (h:(m.eF c g x).2.1=true):m.kG g:=by
 unfold Mon.eF at h;by_cases a:m.kG g;exact a;rw[bA1 a] at h;cases h
variable {G:Bg} {h:AH} {n:aG}
def aFq {l:IA} (a:Hs G h (H.gW v l::L)):Hs G h (H.gW v l::sp []::L):=(Hs.nY (A:=[]) a).pS
def V9 {a:Addr} {x:aG} (b:Hs G h (dY 9 185 (some a) c (1,x.enc)::L)):Hs G h (H.gW (.slice (some a) 1 c) [x]::L):=H.Nv (l:=[x]) rfl (by simp[iL]) b
def Ot (a:Hs G h L):Hs G h (H.gW (.slice none 0 0) []::L):=H.wP a
def aMz (hC:Cf.Ok) (j:E6 Cf M n) (e:Hs G h (aN p2 0 [IV m]::aN p3 0 n.enc::cD G Cf m M::L)) (g:TK G Cf m M L Q (M,[nN n.core (kA M.bH.eQ n.no).1 n.no],(kA M.bH.eQ n.no).2)):Dd 108 13 [] Q [IV p2,IV p3] h:=by
 have i:=j.bH.len;have k:=hC.2.1;obtain⟨x,l,e⟩:=dN<|e.bF<|cD G Cf m M;obtain⟨t,b,e⟩:=pZ<|e.bF<|jQ Cf x.mb M.bH;refine bW<|bI e fun p h e=>am p2 e rfl<|aC<|aA<|am m e rfl<|aC<|aA<|aE (b:=x.mb) (o:=0) e rfl<|aA<|am p3 e rfl<|aF9 (es:=M.bH.eQ) FA j.bH.Ve e fun h e=>?_;refine aQ rfl<|aQ rfl<|aA<|am p3 e rfl<|aZ (c:=[I (kA M.bH.eQ n.no).1,I 0]) rfl<|aA<|am p3 e rfl<|aZ (c:=(nN n.core (kA M.bH.eQ n.no).1 n.no).enc) rfl<|aZ (c:=(nN n.core (kA M.bH.eQ n.no).1 n.no).enc) rfl<|dV (W:=9) (n:=1) (c:=1) e rfl rfl rfl fun a h e=>?_;have e:=fT<|e.dR (aN x.mb 0 [IV t,I Cf.aB,lE b]) (mG t M.bH.eQ)<|qV b<|oM M.bH.eI;have e:=bY (m:=m) (x:=x) M l e;have e:=V9<|e.bF<|dY 9 185 (some a) 1 (1,(nN n.core (kA M.bH.eQ n.no).1 n.no).enc);refine g _ _ (sp []) h (aFq e.to) fun _ F=>?_;intro h L Q e g;exact qB rfl<|cW (f:=149)<|g _ _ e.tail
def aEw {t:jL} (hC:Cf.Ok) (j:n.enc[0+1]?=some (I i)) (k:(i:Int)<Cf.aB) (F:eN):aTb G Cf m (sp [aN p6 0 [IV q],aN p2 0 [IV m],aN p3 0 n.enc,pL q Cf t]) (.func (.func 152) #[] #[IV p6,IV p2,IV p3]) (M.bM F) ((M.eM i t).bM F):=by
 intro h L Q a p;have a:=a.un4;obtain⟨x,g,a⟩:=dN<|a.bF<|cD G Cf m<|M.bM F;have c:i<x.lq.length:=by have:=g.2.2;omega
 refine qB rfl<|cW (f:=152)<|bI a fun r h a=>am p2 a rfl<|aC<|aA<|am m a rfl<|aA<|am p3 a j<|am p6 a rfl<|az a c fun h a=>p _ _ ?_;have a:=kT (R:=wM Cf) (l:=x.lq) (s:=M.aU) c a;have a:=Ma (R:=wM Cf) (l:=x.lq) (s:=M.aU) (i:=i) (q:=q) (t:=t) c a;have e:jG Cf x M.eY.length=jG Cf {x with lq:=x.lq.set i q} M.eY.length:=GW
 rw[e] at a;exact(bY (m:=m) (x:={x with lq:=x.lq.set i q}) ((M.eM i t).bM F) ⟨g.1,g.2.1,by rw[p7];exact g.2.2⟩ a).to
def aLh {t:jL} (hC:Cf.Ok) (j:n.enc[0+1]?=some (I i)) (k:(i:Int)<Cf.aB) (F:eN):aTb G Cf m (sp [aN p6 0 [IV q],aN p2 0 [IV m],aN p3 0 n.enc,pL q Cf t]) (.func (.func 154) #[] #[IV p6,IV p2,IV p3]) (M.bM F) ((M.eM i t).bM F):=by
 intro h L Q a p;have a:=a.un4;obtain⟨x,g,a⟩:=dN<|a.bF<|cD G Cf m<|M.bM F;have c:i<x.lq.length:=by have:=g.2.2;omega
 refine qB rfl<|cW (f:=154)<|bI a fun r h a=>am p2 a rfl<|aC<|aA<|am m a rfl<|aA<|am p3 a j<|am p6 a rfl<|az a c fun h a=>p _ _ ?_;have a:=kT (R:=wM Cf) (l:=x.lq) (s:=M.aU) c a;have a:=Ma (R:=wM Cf) (l:=x.lq) (s:=M.aU) (i:=i) (q:=q) (t:=t) c a;have e:jG Cf x M.eY.length=jG Cf {x with lq:=x.lq.set i q} M.eY.length:=GW
 rw[e] at a;exact(bY (m:=m) (x:={x with lq:=x.lq.set i q}) ((M.eM i t).bM F) ⟨g.1,g.2.1,by rw[p7];exact g.2.2⟩ a).to
def aAq (hC:Cf.Ok) (A:E6 Cf M n) (S:0<=n.d0/\n.d0<=1000000) (f:Hs G h (aN p2 0 [IV m]::aN p3 0 n.enc::cD G Cf m M::L))
  (y:TK G Cf m M L Q (M.eM n.core.toNat ((M.aU n.core.toNat).eU Cf n.no n.d0).1,if((M.aU n.core.toNat).eU Cf n.no n.d0).2.2.1 then [] else [cJ 6 n.core ((M.aU n.core.toNat).eU Cf n.no n.d0).2.1],((M.aU n.core.toNat).eU Cf n.no n.d0).2.2.2)):Dd 108 16 [] Q [IV p2,IV p3] h:=by
 obtain⟨i,O⟩:=aL A.core.1
 have v:(i:Int)<Cf.aB:=by have:=A.core.2;omega
 have j:=A.gE
 have u:=A.aS
 have z:n.enc[0+1]?=some (I i):=by show some (I n.core)=_;rw[O]
 rw[O,aM] at y j u
 obtain⟨x,E,f⟩:=dN<|f.bF<|cD G Cf m M
 have g:i<x.lq.length:=by have:=E.2.2;omega
 refine bW<|bI f fun T h f=>am p2 f rfl<|aC<|aA<|am m f rfl<|aA<|am p3 f z<|Ov f g ?_
 have f:=kT (R:=wM Cf) (l:=x.lq) (s:=M.aU) g f
 refine J5 (C:=Cf) (p:=x.lq.getD i 0) (s:=M.aU i) j f fun q h f=>nJ (r:=T) (i:=9) (n:=11) (D:=[]) f rfl rfl fun k h f=>ax (b:=k) f fun h f=>am k f rfl<|aA<|am p3 f rfl<|aA<|gK FC FC<|am p3 f rfl ?_
 refine aDw (C:=Cf) (p:=q) (s:=M.aU i) hC j u S f fun h f=>aQ rfl<|aQ rfl<|aQ rfl<|cX<|fM<|eA (fun B=>?_) fun B=>?_
 .rw[B,bA1 rfl] at y;have f:=Bm (Cf:=Cf) (l:=x.lq) (s:=M.aU) (i:=i) (t:=M.aU i) g f;rw[cY] at f;have f:=bY (m:=m) (x:=x) M E f;have f:=(f.pQ (aN k 0 [IV q]) (aN p2 0 [IV m]) (aN p3 0 n.enc)<|pL q Cf ((M.aU i).eU Cf n.no n.d0).1).Rh;exact y _ _ (sp [aN k 0 [IV q],aN p2 0 [IV m],aN p3 0 n.enc,pL q Cf ((M.aU i).eU Cf n.no n.d0).1]) h (Ot f.to) fun _ F=>aEw hC z v F
 .rw[B,bA0 FF] at y;have f:=wY (enc:=aG.enc) (e:=185) f;refine bW<|aA<|am p3 f z<|aZ (c:=(cJ 6 i ((M.aU i).eU Cf n.no n.d0).2.1).enc) rfl<|aZ (c:=(cJ 6 i ((M.aU i).eU Cf n.no n.d0).2.1).enc) rfl<|dV (W:=9) (n:=1) (c:=1) f rfl rfl rfl fun a h f=>?_;have f:=tB (enc:=aG.enc) (x:=cJ 6 i ((M.aU i).eU Cf n.no n.d0).2.1) f;refine qT (enc:=aG.enc) (e:=185) (l:=[]) (l2:=[cJ 6 i ((M.aU i).eU Cf n.no n.d0).2.1]) (a:=none) (c:=0) (a2:=some a) (c2:=1) f FF fun J K h f=>?_;have f:=Bm (Cf:=Cf) (l:=x.lq) (s:=M.aU) (i:=i) (t:=M.aU i) g f;rw[cY] at f;have f:=bY (m:=m) (x:=x) M E f;have f:=(f.pQ (aN k 0 [IV q]) (aN p2 0 [IV m]) (aN p3 0 n.enc)<|pL q Cf ((M.aU i).eU Cf n.no n.d0).1).Rh;have f:=f.bF<|ls aG.enc 9 185 J K<|[]++[cJ 6 i ((M.aU i).eU Cf n.no n.d0).2.1];unfold ls at f;have f:=H.Nv (l:=[cJ 6 i ((M.aU i).eU Cf n.no n.d0).2.1]) rfl (by simp[eL,iL]) f;exact y (.slice J [cJ 6 i ((M.aU i).eU Cf n.no n.d0).2.1].length K) _ (sp [aN k 0 [IV q],aN p2 0 [IV m],aN p3 0 n.enc,pL q Cf ((M.aU i).eU Cf n.no n.d0).1]) h f.to fun _ F=>aEw hC z v F
def aO0 (hC:Cf.Ok) (v:E6 Cf M n) (e:Hs G h (aN p2 0 [IV m]::aN p3 0 n.enc::cD G Cf m M::L))
  (z:TK G Cf m M L Q (M.eM n.core.toNat ((M.aU n.core.toNat).drop Cf n.no).1,[cJ 7 n.core n.no],((M.aU n.core.toNat).drop Cf n.no).2)):Dd 108 19 [] Q [IV p2,IV p3] h:=by
 obtain⟨i,y⟩:=aL v.core.1
 have u:(i:Int)<Cf.aB:=by have:=v.core.2;omega
 have g:=v.gE
 have k:n.enc[0+1]?=some (I i):=by show some (I n.core)=_;rw[y]
 rw[y,aM] at z g
 obtain⟨x,A,e⟩:=dN<|e.bF<|cD G Cf m M
 have f:i<x.lq.length:=by have:=A.2.2;omega
 refine bW<|bI e fun B h e=>am p2 e rfl<|aC<|aA<|am m e rfl<|aA<|am p3 e k<|Ov e f ?_
 have e:=kT (R:=wM Cf) (l:=x.lq) (s:=M.aU) f e
 refine J5 (C:=Cf) (p:=x.lq.getD i 0) (s:=M.aU i) g e fun q h e=>nJ (r:=B) (i:=9) (n:=11) (D:=[]) e rfl rfl fun j h e=>ax (b:=j) e fun h e=>am j e rfl<|aA<|am p3 e rfl ?_
 refine re (C:=Cf) (p:=q) (s:=M.aU i) g e fun _ h e=>aQ rfl<|aQ rfl<|aA<|am p3 e k<|aA<|am p3 e rfl<|aZ (c:=(cJ 7 i n.no).enc) rfl<|aZ (c:=(cJ 7 i n.no).enc) rfl<|dV (W:=9) (n:=1) (c:=1) e rfl rfl rfl fun a h e=>?_
 have e:=Bm (Cf:=Cf) (l:=x.lq) (s:=M.aU) (i:=i) (t:=M.aU i) f e
 rw[cY] at e
 have e:=bY (m:=m) (x:=x) M A e
 have e:=(e.pQ (aN j 0 [IV q]) (aN p2 0 [IV m]) (aN p3 0 n.enc)<|pL q Cf ((M.aU i).drop Cf n.no).1).Rh
 have e:=V9<|e.bF<|dY 9 185 (some a) 1 (1,(cJ 7 i n.no).enc)
 exact z _ _ (sp [aN j 0 [IV q],aN p2 0 [IV m],aN p3 0 n.enc,pL q Cf ((M.aU i).drop Cf n.no).1]) h e.to fun _ F=>aLh hC k u F
def sv (hC:Cf.Ok) (hG:Gb G) (k:E6 Cf M n) (a:Hs G h (aN p2 0 [IV m]::aN p3 0 n.enc::cD G Cf m M::L))
  (c:TK G Cf m M L Q (if(M.bH.eF Cf.aB n.no n.core).2.1 then(M.jH (M.bH.eF Cf.aB n.no n.core).1).mI (oJ Cf M.aK n.no) else M.jH (M.bH.eF Cf.aB n.no n.core).1,[],(M.bH.eF Cf.aB n.no n.core).2.2)):Dd 108 21 [] Q [IV p2,IV p3] h:=by
 obtain⟨x,s,a⟩:=dN<|a.bF<|cD G Cf m M
 refine bW<|am p2 a rfl<|aC<|aA<|am m a rfl<|T4 (C:=Cf) (m:=M.bH) hC k.bH a fun q h a=>cK a fun l h a=>ax (b:=l) a fun h a=>am l a rfl<|aA<|am p3 a rfl<|aA<|am p3 a rfl ?_
 refine Vg (C:=Cf) (m:=M.bH) (p:=q) hC k.bH a fun h a=>aQ rfl<|aQ rfl<|cK a fun i h a=>ax (b:=i) a fun h a=>?_
 have a:=bY (m:=m) (x:=x) M s a
 have a:=(a.dC (aN i 0 [.bool (M.bH.eF Cf.aB n.no n.core).2.1])<|aN p3 0 n.enc).F4
 have a:=(a.pQ (aN l 0 [IV q]) (aN p2 0 [IV m]) (sp [aN i 0 [.bool (M.bH.eF Cf.aB n.no n.core).2.1],aN p3 0 n.enc])<|jQ Cf q (M.bH.eF Cf.aB n.no n.core).1).Rh
 refine c _ _ (sp [aN l 0 [IV q],aN p2 0 [IV m],sp [aN i 0 [.bool (M.bH.eF Cf.aB n.no n.core).2.1],aN p3 0 n.enc],jQ Cf q (M.bH.eF Cf.aB n.no n.core).1]) h (Ot a.to) fun _ F=>?_
 intro h L Q a c
 have a:=a.un4
 have a:=(a.bF<|sp [aN i 0 [.bool (M.bH.eF Cf.aB n.no n.core).2.1],aN p3 0 n.enc]).Fk
 obtain⟨x,s,a⟩:=dN<|a.bF<|cD G Cf m<|M.bM F
 refine qB rfl<|cW (f:=156)<|am p2 a rfl<|am l a rfl<|aC<|aA<|ay (b:=m) (o:=0) a fun h a=>am i a rfl<|eA (fun r=>?_) fun r=>?_
 .have t:=je r;obtain⟨g,j,u,_⟩:=Y6 k.bH hC t;have y:=k.bH.len;rw[bA1 r] at c;have e:bM (jG Cf x M.eY.length) (0+11) [IV q]=jG Cf {x with mb:=q} M.eY.length:=rfl;rw[e] at a;have e2:n.enc[0+8]?=some (I g):=by show some (I n.no)=_;rw[j]
  refine am p2 a rfl<|aA<|am p3 a e2 ?_
  have a:=bY (m:=m) (x:={x with mb:=q}) ((M.jH (M.bH.eF Cf.aB n.no n.core).1).bM F) s a
  rw[j] at c a
  exact aDm (Cf:=Cf) (M:=(M.jH (M.bH.eF Cf.aB g n.core).1).bM F) hC hG FA k.aK a fun v h a=>c _ _ a.to
 .rw[bA0<|by rw[r];simp] at c;have e:bM (jG Cf x M.eY.length) (0+11) [IV q]=jG Cf {x with mb:=q} M.eY.length:=rfl;rw[e] at a;exact c _ _ (bY (m:=m) (x:={x with mb:=q}) ((M.jH (M.bH.eF Cf.aB n.no n.core).1).bM F) s a).to
end
variable {d:Do}
section
variable {G:Bg} {h:AH} {n:aG}
def aHi (hC:Cf.Ok) (hG:Gb G) (g:E6 Cf M n) (c:Hs G h L) [D:eB (cD G Cf m) L M L'] (a:TK G Cf m M L' Q (M.cU Cf n)):IU 108 [IV m,.agg ⟨n.enc⟩] h Q:=by
 refine cW<|eT (D.of c) fun s h c=>eT c fun k h c=>aA<|am k c rfl ?_;have c:Hs G h (aN s 0 [IV m]::aN k 0 n.enc::cD G Cf m M::L'):=c.to;have aK:(n.kind=1\/n.kind=2\/n.kind=3\/n.kind=4\/n.kind=5)->Dd 108 3 [] Q [IV s,IV k] h:=fun f=>by
  unfold bR.cU at a;rw[bA1 f] at a;exact aLl hC hG g c a
 have U3:¬(n.kind=1\/n.kind=2\/n.kind=3\/n.kind=4\/n.kind=5)->(n.kind=8\/n.kind=9\/n.kind=10\/n.kind=11)->Dd 108 9 [] Q [IV s,IV k] h:=fun A f=>by
  unfold bR.cU at a;rw[bA0 A,bA1 f] at a;exact aKk hC hG g c a
 refine cC<|bG (fun t=>bW<|cI t<|aK FA) fun t=>bW ?_;refine cC<|bG (fun u=>bW<|cI u<|aK FA) fun u=>bW ?_;refine cC<|bG (fun v=>bW<|cI v<|aK FA) fun v=>bW ?_;refine cC<|bG (fun x=>bW<|cI x<|aK FA) fun x=>bW ?_;refine cC<|bG (fun B=>aK FA) fun B=>bW ?_;refine cC<|bG (fun y=>bW<|cI y<|U3 FA FA) fun y=>bW ?_;refine cC<|bG (fun z=>bW<|cI z<|U3 FA FA) fun z=>bW ?_;refine cC<|bG (fun j=>bW<|cI j<|U3 FA FA) fun j=>bW ?_;refine cC<|bG (fun p=>U3 FA FA) fun p=>bW ?_;unfold bR.cU at a;rw[aaa,aaa] at a;refine cC<|bG (fun q=>?_) fun q=>bW ?_;rw[bA1 q] at a;exact aMz hC g c a;rw[bA0 q] at a;refine cC<|bG (fun e=>?_) fun e=>bW ?_;rw[bA1 e] at a;exact aAq hC g (g.dF e) c a;rw[bA0 e] at a;refine cC<|bG (fun i=>?_) fun i=>bW ?_;rw[bA1 i] at a;exact aO0 hC g c a;rw[bA0 i] at a;refine cC<|bG (fun r=>?_) fun r=>?_;rw[bA1 r] at a;exact sv hC hG g c a;rw[bA0 r] at a;have c:Hs G h (cD G Cf m M::L'):=c.to;exact a _ _ (sp []) h (aFq<|Ot c) fun l=>absurd l (by show ¬(15:Int)=0;omega)
theorem aE3 (hC:Cf.Ok):(M.cU Cf n).2.1.length<=100:=by
 unfold bR.cU;split;unfold eW;split;simp;split;unfold iN.take;split;split<;>simp;split;split;simp;unfold iN.nI;dsimp only;have a:= @X0;have b:= @tY;grind [bP.rest];simp;simp
 .split;have:=aJ5 (C:=Cf) (core:=n.core) (s:=M.bT n.core.toNat) (nt:=n);dsimp only;omega
  .repeat' split
   all_goals simp
   all_goals split<;>simp
theorem iq (hC:Cf.Ok) (hG:Gb G) (A:uk Cf M.cB) (E:∀n,(M.cB.take Cf d.a d.b d.c).2.2=0->(M.cB.take Cf d.a d.b d.c).2.1=n->E6 Cf M n) (j:uk Cf (M.cB.take Cf d.a d.b d.c).1) (g:Hs G h L) [O:eB (cD G Cf m) L M L'] (i:∀z,Hs G z (cD G Cf m (M.cZ Cf d.a d.b d.c).1::L')->Q (I (M.cZ Cf d.a d.b d.c).2) z):IU 78 [IV m,.agg ⟨d.enc⟩] h Q:=by
 unfold bR.cZ at i;refine cW<|eT (cs:=d.enc) (O.of g) fun y h g=>?_;obtain⟨x,r,g⟩:=dN<|g.bF<|cD G Cf m M;refine aC<|aA<|am m g rfl<|ud (C:=Cf) (F:=M.cB) hC (A.Vl hC) g fun q h g=>?_;refine aA<|am y g rfl<|aA<|am y g rfl<|aA<|am y g rfl ?_;refine qj (C:=Cf) (f:=q) (F:=M.cB) hC (A.Vl hC) g fun h g=>aQ rfl<|aQ rfl<|cK g fun D h g=>ax (b:=D) g fun h g=>bU<|bG (fun p=>?_) fun p=>?_;rw[bA1 p] at i;exact i _ (bY (m:=m) (x:=x) M r g).to;rw[bA0 p] at i;have B:=E _ FA rfl;generalize M.cB.take Cf d.a d.b d.c=tt at i g p B j;have g:=bY (m:=m) (x:=x) M r g;refine bW<|an D g (l:=tt.2.1.enc) rfl rfl<|aHi (Cf:=Cf) (M:=M) (n:=tt.2.1) hC hG B g ?_;intro v R Z h g k;refine aQ rfl<|aQ rfl<|aQ rfl<|bU<|bG (fun s=>?_) fun s=>?_;dsimp only at i;rw[bA1 s] at i;exact i _ g.to;dsimp only at i;rw[bA0 s] at i;obtain⟨a,c,J,u⟩:=H.aHc g;subst J;have g:Hs G h (yZ a c (M.cU Cf tt.2.1).2.1::_):=u;refine bW ?_;refine xJ (C:=Cf) (f:=q) (F:=tt.1) (l:=(M.cU Cf tt.2.1).2.1) (a:=a) (c:=c) hC (j.Vl hC) (aE3 hC) hG.kin hG.Ng g fun h g=>bU<|bG (fun t=>?_) fun t=>?_;rw[bA1 t] at i;exact i _ g.to;rw[bA0 t] at i;obtain⟨x,r,g⟩:=dN<|g.bF<|cD G Cf m M;refine bW<|aC<|aA<|ay (b:=m) (o:=0) g fun h g=>?_;have e:bM (jG Cf x M.eY.length) (0+12) [IV q]=jG Cf {x with fb:=q} M.eY.length:=rfl;rw[e] at g;have g:=bY (m:=m) (x:={x with fb:=q}) (M.bM (tt.1.fY Cf (M.cU Cf tt.2.1).2.1).1) r g;exact k FA _ h _ _ (g.dC Z<|cD G Cf m<|M.bM (tt.1.fY Cf (M.cU Cf tt.2.1).2.1).1) fun v h g=>i _ g.to
end
section
variable {G:Bg} {h:AH}
theorem aD6 (hC:Cf.Ok) (hG:Gb G) (E:iY Cf M.bH) (A:Bb Cf M.aK (2^30 - 4)) (D:uk Cf M.cB) (g:Hs G h L) [O:eB (cD G Cf m) L M L'] (i:∀z,Hs G z (cD G Cf m (M.dK Cf d.a).1::L')->Q (I (M.dK Cf d.a).2) z):IU 79 [IV m,.agg ⟨d.enc⟩] h Q:=by
 unfold bR.dK at i;refine cW<|eT (cs:=d.enc) (O.of g) fun R h g=>?_;obtain⟨x,u,g⟩:=dN<|g.bF<|cD G Cf m M;refine aC<|aA<|am m g rfl<|H.Ue (C:=Cf) hC (Oi A FA) g fun q h g=>bI g fun S h g=>aA<|am R g rfl ?_;refine aC<|aA<|kR (b:=m) (o:=0) g FC (l:=Cf.enc) rfl rfl<|aC<|aA<|am m g rfl<|aZ (c:=Cf.enc++[IV x.mb]) rfl ?_;have g:=g.dC (H.jJ G q Cf M.aK)<|jQ Cf x.mb M.bH;refine H.U2 (C:=Cf) (hb:=q) (H:=M.aK) hC hG.Ng (Z5 (p:=x.mb) hC E hG.Ng) A g (BQ _) fun v h g=>aQ rfl<|aQ rfl ?_;have B:(fun w=>Tt Cf M.bH w d.a)=M.gC Cf d.a:=rfl;rw[B] at g ⊢;have t:=Yh (C:=Cf) (H:=M.aK) (l:=d.a) (j:=M.gC Cf d.a);generalize eO Cf M.aK d.a (M.gC Cf d.a)=r at i g t ⊢;refine bU<|bG (fun s=>?_) fun s=>?_;rw[bA1 s] at i;exact i _ (bY (m:=m) (x:=x) M u g).to;dsimp only at i;rw[bA0 s] at i;obtain⟨a,c,J,y⟩:=H.aHc g;subst J;have g:Hs G h (yZ a c r.2.1::_):=y;refine bW<|aC<|aA<|am m g rfl ?_;refine xJ (C:=Cf) (f:=x.fb) (F:=M.cB) (l:=r.2.1) (a:=a) (c:=c) hC (D.Vl hC) FA hG.kin hG.Ng g fun h g=>bU<|bG (fun k=>?_) fun k=>?_;rw[bA1 k] at i;rw[M4 k] at g;exact i _ (bY (m:=m) (x:=x) M u g).to;rw[bA0 k] at i;refine bW<|aC<|aA<|ay (b:=m) (o:=0) g fun h g=>i _ ?_;have e:bM (jG Cf x M.eY.length) (0+10) [IV q]=jG Cf {x with hb:=q} M.eY.length:=rfl;rw[e] at g;exact(bY (m:=m) (x:={x with hb:=q}) ((M.bM (eN.fY Cf M.cB r.2.1).1).mI r.1) u g).to
abbrev sdX (G:Bg) (Cf:bQ) (m p2 p3:Nat) (M:bR) (b:Bool) (e:Nat->Value) (d l:Nat) (st:LoopState×Option Code) (pr:Prop):HP:=sp [Dm pr,pG Pr 29 (qM 218) 29 e d l st,sp [aN p2 0 [IV m],aN p3 0 [.bool b]],cD G Cf m M]
def Wp (hC:Cf.Ok) (hG:Gb G) (R:(g:Int)<Cf.aJ) (S:Bb Cf M.aK (2^30)) (a:Hs G h L) [U:eB (cD G Cf m) L M L'] (k:∀A,Hs G A (cD G Cf m M::L')->Q (.bool<|M.gX Cf g) A):IU 29 [IV m,I g] h Q:=by
 refine cW<|eT (U.of a) fun f h a=>?_;obtain⟨x,t,a⟩:=dN<|a.bF<|cD G Cf m M;refine am f a rfl<|aC<|aA<|am m a rfl<|Uu (C:=Cf) (m:=M.bH) a fun h a=>cC<|cK a fun c h a=>ax (b:=c) a fun h a=>?_;generalize J:decide (M.bH.phase g=2)=b at a;refine am f a rfl<|aC<|aA<|kR (b:=m) (o:=0) a FC (l:=Cf.enc) rfl rfl<|Kj (C:=Cf) a fun F q2 h a=>?_;have a:=bY (m:=m) (x:=x) M t a;refine oE a fun d h a=>?_;intro e O;refine rI a fun l h a=>xQ rfl ?_;have a:Hs G h (sp [aN F 0 Cf.enc,aN q2 0 [I g]]::sdX G Cf m f c M b e d l (.ready,none) (∀l∈([]:EW),¬gO Cf M.aK l>0)::mk d ()::L'):=by
  have a:=(a.dC (aN f 0 [IV m])<|aN c 0 [.bool b]).F4;have a:=a.dR (pG Pr 29 (qM 218) 29 e d l (.ready,none)) (sp [aN f 0 [IV m],aN c 0 [.bool b]])<|cD G Cf m M;have a:=Hs.Rh<|Hs.bh (p:=∀l∈([]:EW),¬gO Cf M.aK l>0) FF a;exact a.to
 refine(O1 (C:=Cf) hC R (p:=F) (q:=q2) hG.Ng).Nf (X:=fun done=>sdX G Cf m f c M b e d l (.ready,none) (∀l∈done,¬gO Cf M.aK l>0)) (Z:=fun _ y=>sdX G Cf m f c M false e d l (.done,some<|.exit 0)<|gO Cf M.aK y>0/\(y=g*2\/y=g*2+1)) a ?_ ?_ ?_
 .intro done y h N E a;obtain⟨i,a⟩:=kL a;have a:=a.E4;have T:y=g*2\/y=g*2+1:=by
   obtain⟨V,u⟩:=E;have:y∈[g*2,g*2+1]:=by rw[<-u];simp
   simpa using this
  have a:=(a.bF<|sp [aN f 0 [IV m],aN c 0 [.bool b]]).Fk;obtain⟨x,t,a⟩:=dN<|a.bF<|cD G Cf m M;refine rW (yH a) O<|kY a fun h a=>am f a rfl<|aC<|aA<|am m a rfl<|H.Yn (C:=Cf) (H:=M.aK) S a fun h a=>?_;have a:=bY (m:=m) (x:=x) M t a;refine oT<|bG (fun r=>?_) fun r=>?_;refine ax (b:=c) a fun h a=>lJ a fun h a=> .inr ⟨rfl,?_⟩;have a:=(a.dC (aN f 0 [IV m])<|aN c 0 [.bool false]).F4;have a:=a.dR (pG Pr 29 (qM 218) 29 e d l (.done,some<|.exit 0)) (sp [aN f 0 [IV m],aN c 0 [.bool false]])<|cD G Cf m M;exact(Hs.Rh<|Hs.bh (p:=gO Cf M.aK y>0/\(y=g*2\/y=g*2+1)) ⟨r,T⟩ a).to
  .refine lJ a fun h a=> .inl ⟨rfl,?_⟩;have a:=(a.dC (aN f 0 [IV m])<|aN c 0 [.bool b]).F4;have a:=a.dR (pG Pr 29 (qM 218) 29 e d l (.ready,none)) (sp [aN f 0 [IV m],aN c 0 [.bool b]])<|cD G Cf m M;refine(Hs.Rh<|Hs.bh (p:=∀l∈done++[y],¬gO Cf M.aK l>0) ?_ a).to;intro z j;rcases cj.1 j with j|j;exact i z j;rw[aV.1 j];exact r
 intro v h a;obtain⟨i,a⟩:=kL<|a.bF<|sdX G Cf m f c M b e d l (.ready,none) (∀l∈[g*2,g*2+1],¬gO Cf M.aK l>0);have a:=a.E4;have s:M.gX Cf g=b:=by
  have B:=i (g*2) FF;have D:=i (g*2+1) FF;rw[<-J];unfold bR.gX;simp only[DM,Int.natCast_add] at B D;rw[cM (p:=gO Cf M.aK (g*2)>0) B,cM (p:=gO Cf M.aK (g*2+1)>0) D];simp
 rw[s] at k;have a:=(a.bF<|sp [aN f 0 [IV m],aN c 0 [.bool b]]).Fk;exact qZ a fun h a=>rC<|am c a rfl<|qP a fun h a=>oA<|k _ a.to
 .intro done y v h E a;obtain⟨i,a⟩:=kL<|a.bF<|sdX G Cf m f c M false e d l (.done,some<|.exit 0)<|gO Cf M.aK y>0/\(y=g*2\/y=g*2+1);have a:=a.E4;have s:M.gX Cf g=false:=by
   unfold bR.gX;rcases i.2 with e|e;have:=i.1;rw[e] at this;simp only[DM] at this;rw[cL (p:=gO Cf M.aK (g*2)>0) this];simp;have:=i.1;rw[e] at this;simp only[DM,Int.natCast_add] at this;rw[cL (p:=gO Cf M.aK (g*2+1)>0) this];simp
  rw[s] at k;have a:=(a.bF<|sp [aN f 0 [IV m],aN c 0 [.bool false]]).Fk;exact Kv a fun h a=>N8 rfl<|am c a rfl<|qP a fun h a=>oA<|k _ a.to
end
section
def sx {H:nD}:nS H g=fun i=>((H i).1,oG (fun i=>(H i).2) g i):=by
 funext i;unfold nS oG bD;by_cases a:i=g*2+1;subst a;simp;by_cases b:i=g*2;subst b;simp;rw[aaa,bA0 a,bA0 b]
def W0 {m:Mon} {g:Int} {u:Mc.mS} (h:(m.over g).2.1=some u):m.run g=some u/\(m.over g).2.2=0/\m.kG g:=by
 unfold Mon.over at h ⊢;by_cases a:m.kG g;rw[bA0 GI] at h ⊢;cases hr:m.run g with
 |none=>rw[hr] at h;cases h
 |some r=>
  rw[hr] at h;dsimp only at h ⊢;split at h;cases h;rename_i b;cases h;rw[bA0 b];exact⟨rfl,rfl,a⟩
 rw[bA1 a] at h;cases h
def Xq {m:Mon} {g:Int} (h:(m.over g).2.1=none):(m.over g).1=m/\(m.over g).2.2≠0:=by
 unfold Mon.over at h ⊢;split;exact⟨rfl,FN⟩;rename_i a;rw[bA0 a] at h;split;exact⟨rfl,FN⟩;rename_i r c;rw[c] at h;dsimp only at h;split;exact⟨rfl,FN⟩;rename_i b;rw[bA0 b] at h;cases h
variable {G:Bg} {h:AH}
def qn (hC:Cf.Ok) (hG:Gb G) (T:iY Cf M.bH) (W:Bb Cf M.aK (2^30)) (t:∀i:Nat,(i:Int)<Cf.aB->(M.aD i).Ok) (l:M.eY.length<=2^30) (e:Hs G h L) [X:eB (cD G Cf m) L M L'] (f:∀J,Hs G J (cD G Cf m (M.gI Cf d.a).1::L')->Q (I (M.gI Cf d.a).2) J):IU 80 [IV m,.agg ⟨d.enc⟩] h Q:=by
 unfold bR.gI at f;refine cW<|eT (cs:=d.enc) (X.of e) fun y h e=>bI e fun rr h e=>?_;obtain⟨x,q,e⟩:=dN<|e.bF<|cD G Cf m M;refine aA<|am y e rfl<|bE<|bG (fun O=>?_) fun O=>?_;rw[aac] at f;exact f _ (bY (m:=m) (x:=x) M q e).to;refine aA<|am y e rfl<|aC<|aA<|aA<|am m e rfl<|fX<|bG (fun R=>?_) fun R=>?_;rw[aac] at f;exact f _ (bY (m:=m) (x:=x) M q e).to;rw[aaa] at f;obtain⟨w,a,b,c⟩:=d;dsimp only at O R f;obtain⟨g,rfl⟩:=aL (show 0<=a by omega);have e:=bY (m:=m) (x:=x) M q e;refine bW<|aA<|am y e rfl<|Wp (Cf:=Cf) (M:=M) hC hG FA W e fun h e=>cX<|fM<|eA (fun z=>?_) fun z=>?_;rotate_left;rw[bA1 z] at f;exact f _ e.to;rw[bA0<|by rw[z];simp] at f;obtain⟨x,q,e⟩:=dN<|e.bF<|cD G Cf m M;refine bW<|bI e fun Z h e=>aC<|aA<|am m e rfl<|aA<|am y e rfl ?_;refine u7 (C:=Cf) (m:=M.bH) (p:=x.mb) hC T e fun h e=>aQ rfl<|aQ rfl<|nJ (r:=Z) (i:=10) (n:=13) (D:=[]) e rfl rfl fun v h e=>ax (b:=v) e fun h e=>cR (aQ rfl jF)<|bU<|bG (fun B=>?_) fun B=>?_;cases hu:(M.bH.over (g:Int)).2.1 with
 |some u=>exact absurd (W0 hu).2.1 B
 |none=>
  rw[hu] at f;dsimp only at f;rw[(Xq hu).1] at e;exact f _ (bY (m:=m) (x:=x) M q e).to
 cases hu:(M.bH.over (g:Int)).2.1 with
 |none=>exact absurd (Xq hu).2 B
 |some u=>
 obtain⟨u1,_,u2⟩:=W0 hu;obtain⟨o1,U,o3,Y,o5⟩:=T.run g u<|aGd u1;rw[hu] at f e;dsimp only at f;simp only[p4] at e;obtain⟨i,S⟩:=aL Y.1;have k:(i:Int)<Cf.aB:=FA
 have F:(zD u)[0+0+0]?=some (I i):=by show some (I u.core)=_;rw[S]
 have V:(zD u)[0+0+3]?=some (I g):=by show some (I u.aS)=_;rw[U]
 rw[show u.core.toNat=i by rw[S];rfl,U] at f;refine bW<|aA<|am v e rfl<|eA (fun E=>?_) fun E=>?_;rw[bA1 E] at f;obtain⟨s,b,o,j,e⟩:=H.sN<|e.bF<|H.jJ G x.hb Cf M.aK;refine bW<|bI e fun r3 h e=>aC<|aA<|am m e rfl<|aC<|aA<|aE (b:=x.hb) (o:=0) e rfl<|aA<|aA<|am v e V ?_;refine A.jk (C:=Cf) (mb:=s) (g:=g) (mem:=fun i=>(M.aK i).2) hC hG.Ng e FA fun _ h e=>aA<|aA<|am v e F ?_;have e:=H.zL (H:=nS M.aK g) (hb:=x.hb) (C:=Cf) (mb:=s) (b:=b) (o:=o) (cap:=j) (by rw[sx];exact e.pQ (aN x.hb 0<|H.pT s Cf b o j) (gQ G Cf.aF s Cf<|oG (fun i=>(M.aK i).2) g) (gJ G 25 187 (some ⟨b,o,none⟩) j Cf.aF b o)<|eP Cf.aF fun i=>H.gH b (o+i*25) (M.aK i).1);have e:=bY (m:=m) (x:=x) ((M.jH (M.bH.over g).1).mI<|nS M.aK g) q e;exact tC (Cf:=Cf) (M:=(M.jH (M.bH.over g).1).mI<|nS M.aK g) k (t i k) l e fun h e=>f _ e.to;rw[bA0<|by rw[E];simp] at f;have e:=bY (m:=m) (x:=x) (M.jH (M.bH.over g).1) q e;exact aA<|aA<|am v e F<|tC (Cf:=Cf) (M:=M.jH (M.bH.over g).1) k (t i k) l e fun h e=>f _ e.to
end
def Km:EU:=[.func (.func 77) #[] #[],.func (.func 78) #[] #[],.func (.func 79) #[] #[],.func (.func 80) #[] #[]]
variable {G:Bg} {h:AH}
def aJu (a:Hs G h L) (f:∀e,Hs G e L->Q (.agg ⟨Km⟩) e):IU 38 [] h Q:=
 cW (cK a fun p h a=>aZ (c:=Km) rfl<|ax (b:=p) a fun h a=>an p a (l:=Km) rfl rfl<|f _ a.tail)
def aOd {f:Value} (hC:Cf.Ok) (hG:Gb G) (a:dD Cf N M) (j:N<=2^29) (o:0<=d.mH/\d.mH<=3) (k:Km[d.mH.toNat]?=some f) (c:Hs G h L) [s:eB (cD G Cf m) L M L'] (b:∀g,Hs G g (cD G Cf m (M.mK Cf d).1::L')->Q (I (M.mK Cf d).2) g):E5 Pr K f [IV m,.agg ⟨d.enc⟩] h Q:=by
 unfold bR.mK at b;have o:d.mH=0\/d.mH=1\/d.mH=2\/d.mH=3:=FA
 have l:=a.eY;rcases o with e|e|e|e;all_goals
  rw[e] at k
  cases k
 rw[bA1 e] at b;exact qB rfl<|aGa hC hG (fun i q=>a.step hC j q) c b;rw[aaa,bA1 e] at b;exact qB rfl (iq hC hG a.cB.len (fun n p r=>by rw[<-r];exact a.take hC j (Mz a.cB p).1) (Uy a.cB).len c b);rw[aaa,aaa,bA1 e] at b;exact qB rfl<|aD6 hC hG a.bH (a.aK.h FA) a.cB.len c b;rw[aaa,aaa,aaa,bA1 e] at b;exact qB rfl<|qn hC hG a.bH (a.aK.h FA) a.B1 FA c b
def aJw {l:IF} (h:l[i]?=some d):(l.map Do.enc)[i]?=some d.enc:=by rw[km,h];rfl
def aTf {l:IF} (hC:Cf.Ok) (hG:Gb G) (s:dD Cf N M) (B:N+2*l.length<=2^29) (g:Hs G h (Gc G 4 e v (l.map Do.enc)::cD G Cf m M::L)) (j:∀r,Hs G r (Gc G 4 e v (l.map Do.enc)::cD G Cf m (M.Ao Cf l 0).1::L)->Q (.tuple ⟨[I (M.Ao Cf l 0).2.1,I (M.Ao Cf l 0).2.2]⟩) r):IU 17 [IV m,v] h Q:=by
 obtain⟨a,c,E⟩:=Dk g;rw[js] at E;have q:∀{k:Value->Prop},k (I l.length)->cE (pR v) k:=fun j=>by rw[E];exact dB j
 refine cW<|dM<|cS<|bW<|aJu g fun h g=>cK g fun p h g=>ax (b:=p) g fun h g=>q ?_;have loop:∀(f i N:Nat) (M:bR) (h:AH),i+f=l.length->dD Cf N M->N+2*f<=2^29->(∀r,Hs G r (Gc G 4 e v (l.map Do.enc)::cD G Cf m (M.Ao Cf (l.drop i) i).1::L)->Q (.tuple ⟨[I (M.Ao Cf (l.drop i) i).2.1,I (M.Ao Cf (l.drop i) i).2.2]⟩) r)->
   Hs G h (Gc G 4 e v (l.map Do.enc)::aN p 0 Km::cD G Cf m M::L)->Dd 17 2 [] Q [IV m,v,IV p,v,I l.length,I i] h:=by
  intro f
  induction f with
  |zero=>
   intro i N M h R s B j g
   rw[eg FA] at j
   unfold bR.Ao at j
   have A:i=l.length:=FA
   subst A
   exact bW (bE<|aab<|q<|j _ g.to)
  |succ f S=>
   intro i N M h R s B j g
   obtain⟨d,O,z⟩:=rK (l:=l) (i:=i) FA
   rw[z] at j
   unfold bR.Ao at j
   refine bW<|bE<|aae<|bW<|aC4 g FC (aJw O)<|cK g fun u h g=>ax (b:=u) g fun h g=>aA<|am u g rfl<|bE<|bG (fun F=>?_) fun F=>?_
   .have x:M.mK Cf d=(M,1):=by unfold bR.mK;rw[aaa,aaa,aaa,aaa]
    rw[x,bA1<|show(M,(1:Int)).2≠0 by show(1:Int)≠0;omega] at j
    exact j _ g.to
   refine aA<|am u g rfl<|oT<|bG (fun J=>?_) fun J=>?_
   .have x:M.mK Cf d=(M,1):=by unfold bR.mK;rw[aaa,aaa,aaa,aaa]
    rw[x,bA1<|show(M,(1:Int)).2≠0 by show(1:Int)≠0;omega] at j
    exact j _ g.to
   have t:d.mH.toNat<4:=FA
   have D:Km[d.mH.toNat]?=some (Km[d.mH.toNat]'t):=bj t
   refine bW<|bI g fun T h g=>aA<|am u g rfl<|gK FA FA<|am p g (by simpa using D)<|an u g (l:=d.enc) rfl rfl ?_
   refine aOd hC hG s FA FA D g fun h g=>bU<|bG (fun y=>?_) fun y=>?_
   .rw[bA1 y] at j;exact j _ g.to
   .rw[bA0 y] at j;refine bW<|aad ?_;exact S (i+1) (N+2) _ h FA (aPu s hC) FA j g.to
 exact loop l.length 0 N M h FA s FA (by simpa using j) g.to
end Go.Proofs.Z
namespace Go.Proofs.Z.A
open Go.Hm Go.At Go.Is
variable {G:Bg} {h:AH}
abbrev zS:EU:=[I 0,I 0,I 0,I 0,I 0,I 0,.bool false,.slice none 0 0]
variable {ps:List (ID)}
theorem wm {B p E mb:Nat} {C:bQ} {F:Value} {ws:EV} (hB:B<=4) (X:ps.length=B) (Z:ws.length=B) (V:∀p∈ps,p.length<=32)
  (hv:y.length=ps.length) (U:zE G 1 pv (y.map fun x=>[x]).length fun i=>(y.map fun x=>[x]).getD i []) (K:∀(i:Nat) (v:Value) (p:ID),y[i]?=some v->ps[i]?=some p->Rv G v p) (Y:N1 G F ws)
  (S:∀D,Hs G D (Vb p C (.slice (some ⟨b,o,none⟩) B cap) a E c mb::eP B (fun i=>lD b (o+i*8)<|An (ps.getD i [])<|ws.getD i 0)::L)->Q (.tuple ⟨[IV p,I 0]⟩) D):
  ∀(r i:Nat) (h:AH),i+r=B->Hs G h (Vb p C (.slice (some ⟨b,o,none⟩) B cap) a E c mb::eP B (fun j=>if j<i then lD b (o+j*8) (An (ps.getD j [])<|ws.getD j 0) else aN b (o+j*8) zS)::L)->
  Dd 30 13 [] Q [pv,F,IV p,I B,I i] h:=by
 intro r
 induction r with
 |zero=>
  intro i h k f
  obtain rfl:i=B:=FA
  refine bW<|bE<|aab<|S _ ?_
  exact(wI (g:=fun j=>lD b (o+j*8)<|An (ps.getD j [])<|ws.getD j 0) (fun j R=>by rw[bA1 R]) f.pS).pS
 |succ r ih=>
  intro i h O f
  have k:i<B:=FA
  obtain⟨pp,q,_⟩:=sB (l:=ps) (i:=i) FA
  obtain⟨v,t,_⟩:=sB (l:=y) (i:=i) FA
  obtain⟨w,u,_⟩:=sB (l:=ws) (i:=i) FA
  have W:pp.length<=32:=V pp<|hX q
  have f:=(f.bF<|eP B fun j=>if j<i then lD b (o+j*8) (An (ps.getD j [])<|ws.getD j 0) else aN b (o+j*8) zS).oI i k
  simp only[DE,dd] at f
  refine bW<|bE<|aae<|bW<|aC<|aA<|am p f rfl<|fD k ?_
  refine Cz (Ew (e:=3) FF U f) (x:=[v]) (by simp[t]) rfl ?_
  refine aOy (by rw[Gw];omega) (by rw[Yb];exact rn _) (Qx (K i v pp t q) f) fun z A h f=>?_
  rw[Gw,Yb] at f
  rw[Gw]
  refine aC<|aA<|ay (b:=b) (o:=o+i*8) f fun h f=>?_
  refine Cz (zC Y f) (x:=[I w]) (by simp[K5,u]) rfl ?_
  refine aC<|aA<|aA<|ay (b:=b) (o:=o+i*8) f fun h f=>?_
  have f:=f.sg (b:=b) (o:=o+i*8) (c:=(⟨fun _=>0,0,w,false,pp⟩:aT).core++[.slice z pp.length A]) rfl
  refine M6 (s:=⟨fun _=>0,0,w,false,pp⟩) (a:=z) (c:=A) FA (f.dC (aN b (o+i*8)<|(⟨fun _=>0,0,w,false,pp⟩:aT).core++[.slice z pp.length A])<|dY 4 49 z A (pp.length,yP pp)) fun h f=>aad ?_
  refine ih (i+1) h FA ?_
  have f:=Aw (b:=b) (o:=o+i*8) (s:=(⟨fun _=>0,0,w,false,pp⟩:aT).jB 0) f
  have e:(⟨fun _=>0,0,w,false,pp⟩:aT).jB 0=An (ps.getD i []) (ws.getD i 0):=by
   rw[aP,aP,q,u];rfl
  rw[e] at f
  have J:lD b (o+i*8) (An (ps.getD i [])<|ws.getD i 0)=(fun j=>if j<i+1 then lD b (o+j*8) (An (ps.getD j [])<|ws.getD j 0) else aN b (o+j*8) zS) i:=GV
  rw[J] at f
  have f:=f.qN (n:=B) (i:=i) (fun j=>if j<i then lD b (o+j*8) (An (ps.getD j [])<|ws.getD j 0) else aN b (o+j*8) zS) (fun j=>if j<i+1 then lD b (o+j*8) (An (ps.getD j [])<|ws.getD j 0) else aN b (o+j*8) zS) k (fun j _ T=>by
   have:(j<i+1)=(j<i):=propext ⟨fun h=>FA,fun h=>FA⟩;simp only[this])
  exact f.to
def C6:∀{ps:List (ID)},Ap ps=0->∀p∈ps,(rF p).2=0
 |[],_,p,a=>by simp at a
 |q::l,h,p,a=>by
  rw[Ap] at h;split at h;rename_i b;exact absurd h b;rename_i b;rcases eD.1 a with rfl|a;omega;exact C6 h p a
def H2 {p:ID} (h:(rF p).2=0):p.length<=32:=by
 unfold rF at h;split at h;cases h;omega
def aJn {C:bQ} {S:Value} {ws:EV} (O:ps.length<=1000000/\ws.length<1000000/\os.length<1000000) (J:Ob G 0 iF) (X:Ob G 1 xT) (ho:Nx G pv S ov vv ps ws os vs) (f:Hs G h L)
  (q:tE C ps ws os vs≠0->∀j,Hs G j L->Q (.tuple ⟨[.pointer none,I<|tE C ps ws os vs]⟩) j)
  (y:tE C ps ws os vs=0->∀p j,Hs G j (vC G p (B8 C ps ws os vs)::L)->Q (.tuple ⟨[IV p,I 0]⟩) j):IU 30 [.agg ⟨C.enc⟩,pv,S,ov,vv] h Q:=by
 obtain⟨⟨vi,R,v,D⟩,x,u,E⟩:=ho
 have lp:∀{k:Value->Prop},k (I ps.length)->cE (pR pv) k:=fun t=>qQ v (by simpa [R] using t)
 have lw:∀{k:Value->Prop},k (I ws.length)->cE (pR S) k:=fun t=>qQ x (by simpa [uK] using t)
 have lo:∀{k:Value->Prop},k (I os.length)->cE (pR ov) k:=fun t=>qQ u (by simpa [uK] using t)
 have T:∀{k:Value->Prop},k (I vs.length)->cE (pR vv) k:=fun t=>qQ E (by simpa [uK] using t)
 unfold tE at q y
 refine cW<|eT f fun r h f=>bB f FC (l:=C.enc) rfl rfl<|uJ J f fun h f=>?_
 by_cases hC:C.Ok
 rotate_left
 .rw[bA1 hC] at q;rw[bA0 hC];exact bU<|aae<|q FA _ f.tail
 rw[bA0<|by simpa using hC] at q y
 rw[bA1 hC]
 have Z:=bQ.fC hC
 have F:=bQ.bk hC
 have V:C.aB<=4/\1<=C.aB:=⟨hC.1.2,hC.1.1⟩
 have Y:C.aJ<=16:=hC.2.1.2
 have bad:((ps.length:Int)≠C.aB\/(ws.length:Int)≠C.aB\/(os.length:Int)≠C.aJ\/vs.length≠C.aF*2)->∀j,Hs G j (aN r 0 C.enc::L)->Q (.tuple ⟨[.pointer none,I 1]⟩) j:=fun F j f=>by
  rw[bA1 F] at q;exact q FA _ f.tail
 refine bU<|aab<|bW<|lp<|aA<|am r f rfl<|bU<|bG (fun g=>bad (.inl g) _ f) fun g1=>lw<|aA<|am r f rfl<|bU<|bG (fun g=>bad (.inr<|.inl g) _ f) fun g2=>lo<|aA<|am r f rfl<|bU<|bG (fun g=>bad (.inr<|.inr<|.inl g) _ f) fun g3=>T<|an r f (l:=C.enc) rfl rfl<|fq hC J f fun h f=>bU<|bG (fun g=>bad (.inr<|.inr<|.inr FA) _ f) fun g4=>?_
 clear bad
 rw[aaa] at q y
 refine bW<|lp<|wh (C:=C) R v D X O.1 (fun e h f=>?_) (fun e h f=>?_) ps.length 0 h FA rfl f
 .rw[bA1 e] at q;exact q e _ f.tail
 rw[bA0 HB] at q y
 have s:¬(xH 0 3 ws=true/\xH 0 4 os=true)->∀j,Hs G j (aN r 0 C.enc::L)->Q (.tuple ⟨[.pointer none,I 10]⟩) j:=fun F j f=>by
  rw[bA1 F] at q;exact q FA _ f.tail
 refine bW<|No (l:=ws) O.2.1 (zC x f) fun h f=>cX<|fM<|eA (fun g1=>?_) fun g1=>s (by simp[g1]) _ f.tail
 refine No (l:=os) O.2.2 (zC u f.tail) fun h f=>cX<|fM<|eA (fun g2=>?_) fun g2=>s (by simp[g2]) _ f.tail
 clear s
 rw[bA0<|by simp[g1,g2]] at q y
 have f:=f.tail
 refine bW<|an r f (l:=C.enc) rfl rfl<|Xh hC J f fun z h f=>aQ rfl<|aQ rfl<|bU<|aab<|bW<|T ?_
 refine uf (L:=aN r 0 C.enc::L) hC E J FA (fun h f=>?_) vs.length 0 uF h FA rfl f
 refine bW<|bI f fun rv h f=>an r f (l:=C.enc) rfl rfl<|aA<|am r f rfl<|Yi FA FA FA ?_
 dsimp only
 refine oS f rfl rfl ?_ rfl ?_ ?_
 .rw[lB,xO (W:=8) fun _=>rfl]
 .rw[lB];exact zT (fun _=>rfl) _
 intro a h f
 obtain⟨b,o,U,f⟩:=Hs.T3 (W:=8) rfl FA f
 cases U
 refine aNe (by rw[uK];omega) (by rw[Wh];exact tu _) (zC u f) fun A c2 h f=>?_
 rw[uK,Wh] at f
 rw[uK]
 refine aZ (c:=C.enc++[.slice (some ⟨b,o,none⟩) C.aB.toNat C.aB.toNat,.slice A os.length c2,IV z]) rfl<|D6 f rfl rfl fun p h f=>?_
 refine cR (an r f (l:=C.enc) rfl rfl<|uW HE)<|cR (aA dG)<|cR (am r f rfl jF)<|cR dG<|aC<|aA<|am p f rfl<|dB ?_
 have f:=f.dC (Vb p C (.slice (some ⟨b,o,none⟩) C.aB.toNat C.aB.toNat) A os.length c2 z)<|eP C.aB.toNat fun i=>aN b (o+i*8) zS
 refine wm (B:=C.aB.toNat) (b:=b) (o:=o) (C:=C) (ps:=ps) (ws:=ws) FA FA FA (fun p hp=>H2<|C6 e p hp) R v D x ?_ C.aB.toNat 0 h FA HT
 intro h f
 refine y rfl p _ ?_
 have f:=rM (b:=b) (o:=o) (cap:=C.aB.toNat) (a:=A) (c:=c2) (mb:=z) (m:=B8 C ps ws os vs)<|(f.pQ (Vb p C (.slice (some ⟨b,o,none⟩) C.aB.toNat C.aB.toNat) A os.length c2 z) (dY 1 3 A c2 (os.length,os.map I)) (gQ G C.aF z C<|uA uF vs 0)<|gJ G 8 162 (some ⟨b,o,none⟩) C.aB.toNat C.aB.toNat b o).sn<|eP C.aB.toNat fun i=>lD b (o+i*8)<|An (ps.getD i [])<|ws.getD i 0
 exact f.to
end Go.Proofs.Z.A
namespace Go.Proofs.Z
open Go.Hm Go.At Go.Mc Go.Ct Go.Nt Go.Is
variable {Cf:bQ} {a2:EX} {p5:Nat} {ps:List (ID)}
section
def Co (C:bQ) (pv a ov vv:Value):EU:=C.enc++[pv,a,ov,vv]
def Y3 (ps:List (ID)) (ws:EV) (i:Nat):aT:=An (ps.getD i [])<|ws.getD i 0
variable {G:Bg} {h:AH} {M:bR}
def mkE (C:bQ) (a1 a2 a3:EX) (n a c2 c3:Nat):EU:=C.enc++[.slice a1 n a,.slice a2 n c2,.slice a3 n c3,.pointer none,.pointer none,.pointer none,.slice none 0 0]
def dc {c2:Nat} {k:Value×AH->Prop} {N:IB} (hb:l.length<=100) (b:Hs G h L) [s:eB (ls pE 1 e a c) L l L'] [r:fU (dY 1 e a2 c2 (1,[IV q])) L' N]
  (p:∀f g o,Hs G o (ls pE 1 e f g (l++[q])::N)->k (.slice f (l.length+1) g,o)):cE (oL 1 8 e h (.slice a l.length c)<|.slice a2 1 c2) k:=by
 have b:=s.of b
 have i:Hs G h (dY 1 e a2 c2 (1,[IV q])::ls pE 1 e a c l::N):=(b.cH<|r.cH.cons _).pS
 have j:=(tB (enc:=pE) (x:=q) i).pS
 have:=qT (enc:=pE) (e:=e) (l:=l) (l2:=[q]) (a:=a) (c:=c) (a2:=a2) (c2:=c2) (bytes:=8) (k:=k) j FG fun f g h b=>by
  have:=p f g h b.pS.tail;rw[cV,tb];exact this
 exact this
def Uw {wv:Value} {ws:EV} (hC:Cf.Ok) (hG:Gb G) (hg:Ob G 1 xT) (α:ps.length=Cf.aB.toNat) (β:ws.length=Cf.aB.toNat) (Z:∀w∈ws,0<=w/\w<=3) (V:∀p∈ps,(rF p).2=0)
  (hv:O.length=ps.length) (ho:zE G 1 pv (O.map fun x=>[x]).length fun i=>(O.map fun x=>[x]).getD i []) (hi:∀(i:Nat) (v:Value) (p:ID),O[i]?=some v->ps[i]?=some p->A.Rv G v p) (hw:A.N1 G wv ws)
  (hk:∀lc lk lq a1 a2 a3 j c2 c3 h',lc.length=Cf.aB.toNat->lk.length=Cf.aB.toNat->lq.length=Cf.aB.toNat->Hs G h' (aN p5 0 (mkE Cf a1 a2 a3 Cf.aB.toNat j c2 c3)::ptc a1 j lc::qo a2 c2 lk::qb a3 c3 lq::wF Al lc (Y3 ps ws)::wF (wQ G Cf) lk (fun _=>jR.kD)::wF (wM Cf) lq (fun _=>Oj)::aN p2 0 (Co Cf pv wv ov vv)::L)->Dd 14 4 [] Q [IV p2,IV p5] h'):
  ∀(f i:Nat) (lc lk lq:EW) (a1 a2 a3:EX) (j c2 c3:Nat) (h:AH),i+f=Cf.aB.toNat->lc.length=i->lk.length=i->lq.length=i->Hs G h (aN p5 0 (mkE Cf a1 a2 a3 i j c2 c3)::ptc a1 j lc::qo a2 c2 lk::qb a3 c3 lq::wF Al lc (Y3 ps ws)::wF (wQ G Cf) lk (fun _=>jR.kD)::wF (wM Cf) lq (fun _=>Oj)::aN p2 0 (Co Cf pv wv ov vv)::L)->
  Dd 14 2 [] Q [IV p2,IV p5,I Cf.aB,I i] h:=by
 have hc:=hC.1
 intro f
 induction f with
 |zero=>
  intro i lc lk lq a1 a2 a3 j c2 c3 h T S B E g
  obtain rfl:i=Cf.aB.toNat:=FA
  exact bW (bE<|aab<|hk _ _ _ _ _ _ _ _ _ _ S B E g)
 |succ f ih=>
  intro i lc lk lq a1 a2 a3 j c2 c3 h T S B E g
  obtain⟨p,U,_⟩:=rK (l:=ps) (i:=i) FA
  obtain⟨v,F,_⟩:=rK (l:=O) (i:=i) FA
  obtain⟨w,D,_⟩:=rK (l:=ws) (i:=i) FA
  have Y:=Z w<|hX D
  have X:=V p<|hX U
  have eS:Y3 ps ws i=An p w:=by unfold Y3;rw[aP,aP,U,D];rfl
  refine bW<|bE<|aae<|bW<|bI g fun rr h g=>aA<|am p2 g rfl ?_
  have g:=A.zC hw g
  refine Cz g (x:=[I w]) (by simp[A.K5,D]) rfl ?_
  have g:=g.tail
  refine aA<|am p2 g rfl ?_
  have g:=Ew (e:=3) FF ho g
  refine Cz g (x:=[v]) (by simp[F]) rfl ?_
  have g:=A.Qx (hi i v p F U) g.tail
  refine aAu (i:=i) (pr:=p) (w:=w) FA Y hg X g fun J h g=>aQ rfl<|aQ rfl<|bU<|aab<|bW ?_
  rw[<-eS] at g
  refine aA<|kR (b:=p2) (o:=0) g FC (l:=Cf.enc) rfl rfl ?_
  refine C.br (C:=Cf) (core:=(i:Int)) hC FA hG.Ng g fun q2 h g=>aQ rfl<|aQ rfl<|bU<|aab<|bW ?_
  refine aA<|aA<|am p2 g rfl<|aA<|aA<|am p2 g rfl ?_
  refine aDu (C:=Cf) hC g fun K h g=>aQ rfl<|aQ rfl<|bU<|aab<|bW ?_
  subst S
  refine aC<|aA<|am p5 g rfl<|aZ (c:=[IV J]) rfl<|dV (W:=1) (n:=1) (c:=1) g rfl rfl rfl fun b1 h g=>?_
  refine dc (l:=lc) (a:=a1) (c:=j) (e:=84) (q:=J) (a2:=some b1) (c2:=1) FA g fun k u h g=>aC<|aA<|ay (b:=p5) (o:=0) g fun h g=>?_
  refine aC<|aA<|am p5 g rfl<|aZ (c:=[IV q2]) rfl<|dV (W:=1) (n:=1) (c:=1) g rfl rfl rfl fun b2 h g=>?_
  rw[<-B]
  refine dc (l:=lk) (a:=a2) (c:=c2) (e:=100) (q:=q2) (a2:=some b2) (c2:=1) FA g fun r y h g=>aC<|aA<|ay (b:=p5) (o:=0) g fun h g=>?_
  rw[B]
  refine aC<|aA<|am p5 g rfl<|aZ (c:=[IV K]) rfl<|dV (W:=1) (n:=1) (c:=1) g rfl rfl rfl fun b3 h g=>?_
  rw[<-E]
  refine dc (l:=lq) (a:=a3) (c:=c3) (e:=103) (q:=K) (a2:=some b3) (c2:=1) FA g fun t z h g=>aC<|aA<|ay (b:=p5) (o:=0) g fun h g=>?_
  have e5:bM (bM (bM (mkE Cf a1 a2 a3 lc.length j c2 c3) (0+7) [.slice k (lc.length+1) u]) (0+8) [.slice r (lk.length+1) y]) (0+9) [.slice t (lq.length+1) z]=mkE Cf k r t (lc.length+1) u y z:=by rw[B,E];rfl
  rw[e5] at g
  have g:=Qt (R:=Al) (l:=lc) (q:=J) (s:=Y3 ps ws)<|g.dC (rH lc.length J<|Y3 ps ws lc.length)<|wF Al lc<|Y3 ps ws
  rw[<-B] at g
  have g:=Qt (R:=wQ G Cf) (l:=lk) (q:=q2) (s:=fun _=>jR.kD)<|g.dC (C.lR G q2 Cf lk.length jR.kD)<|wF (wQ G Cf) lk fun _=>jR.kD
  have g:=Qt (R:=wM Cf) (l:=lq) (q:=K) (s:=fun _=>Oj)<|g.dC (pL K Cf Oj)<|wF (wM Cf) lq fun _=>Oj
  rw[B] at g
  rw[E]
  exact aad<|ih (lc.length+1) (lc++[J]) (lk++[q2]) (lq++[K]) k r t u y z h FA FF FG FG g.to
end
section
def mkF (C:bQ) (a1 a2 a3:EX) (n a c2 c3:Nat) (x y z:Value):EU:=C.enc++[.slice a1 n a,.slice a2 n c2,.slice a3 n c3,x,y,z,.slice none 0 0]
def Sk {a b:Int} {l:EV} (h:xH a b l=true):∀x∈l,a<=x/\x<=b:=by
 unfold xH at h;intro x c;exact cP<|ss.1 h x c
def E2 {C:bQ} {ws:EV} (h:tE C ps ws os vs=0):C.Ok/\ps.length=C.aB.toNat/\ws.length=C.aB.toNat/\os.length=C.aJ.toNat/\vs.length=C.aF*2/\Ap ps=0/\(∀w∈ws,0<=w/\w<=3)/\∀o∈os,0<=o/\o<=4:=by
 unfold tE at h;split at h;cases h;rename_i hC;split at h;cases h;rename_i c;split at h;rename_i b;exact absurd h b;rename_i b;split at h;cases h;rename_i a;have a:=aW.1 a;exact⟨aW.1 hC,FA,FA,FA,FA,aW.1 b,Sk a.1,Sk a.2⟩
variable {G:Bg} {h:AH} {M:bR}
def aAr {mb:Nat} {hE:EU} {k:Value} {z:EU} (hC:Cf.Ok) (hG:Gb G) (B:vs.length=Cf.aF*2) (s:A.N1 G vv vs) (u:z[10]?=some (IV hb)) (e:hE[0]?=some (IV mb))
  (j:∀g,Hs G g (gQ G Cf.aF mb Cf (At.uA uF vs 0)::aN hb 0 hE::aN p5 0 z::aN p2 0 (Co Cf pv k ov vv)::L)->Dd 14 11 [] Q [IV p2,IV p5] g):
  ∀(f i:Nat) (mem:Nat->Ln) (h:AH),i+f=vs.length->At.uA uF vs 0=At.uA mem (vs.drop i) i->Hs G h (gQ G Cf.aF mb Cf mem::aN hb 0 hE::aN p5 0 z::aN p2 0 (Co Cf pv k ov vv)::L)->
  Dd 14 8 [] Q [IV p2,IV p5,vv,I vs.length,I i] h:=by
 have r:=bQ.fC hC
 intro f
 induction f with
 |zero=>
  intro i mem h q c a
  rw[eg FA,At.uA] at c
  rw[c] at j
  exact bW (bE<|aab<|j _ a)
 |succ f y=>
  intro i mem h q c a
  obtain⟨x,t,p⟩:=rK (l:=vs) (i:=i) FA
  rw[p,At.uA] at c
  have a:=A.zC s a
  refine bW<|bE<|aae<|bW<|Cz a (x:=[I x]) (by simp[A.K5,t]) rfl<|aC<|aA<|am p5 a u<|aC<|aA<|am hb a e ?_
  exact Oy (C:=Cf) (mb:=mb) (mem:=mem) (w:=i) (v:=x) hC hG.Ng a.tail FA fun h a=>bU<|aab<|bW<|aad<|y (i+1) _ h FA c a
theorem yb {B:Value} {ws:EV} (hn:ps.length<=1000000/\ws.length<1000000/\os.length<1000000) (hG:Gb G) (O:Ob G 1 xT) (S:A.Nx G pv B ov vv ps ws os vs) (a:Hs G h L)
  (k1:tE Cf ps ws os vs≠0->∀u,Hs G u L->Q (.tuple ⟨[.pointer none,I<|tE Cf ps ws os vs]⟩) u)
  (k2:tE Cf ps ws os vs=0->∀m u,Hs G u (cD G Cf m (MC.kD ⟨Cf,ps,ws,os,vs⟩)::L)->Q (.tuple ⟨[IV m,I 0]⟩) u):IU 14 [.agg ⟨Co Cf pv B ov vv⟩] h Q:=by
 refine cW<|eT a fun f h a=>aA<|kR (b:=f) (o:=0) a FC (l:=Cf.enc) rfl rfl<|aA<|am f a rfl<|aA<|am f a rfl<|aA<|am f a rfl<|aA<|am f a rfl ?_
 refine A.aJn (C:=Cf) hn hG.Ng O S a (fun v h a=>aQ rfl<|aQ rfl<|bU<|cI v<|k1 v _ a.tail) fun v pa h a=>aQ rfl<|aQ rfl<|bU<|aab ?_
 obtain⟨hC,U,e2,V,W,X,Y,Z⟩:=E2 v
 have a:Hs G h (aN f 0 (Co Cf pv B ov vv)::L):=a.to
 have hc:=hC.1
 obtain⟨⟨vi,hv,F,E⟩,J,D,y⟩:=S
 refine bW<|aA<|kR (b:=f) (o:=0) a FC (l:=Cf.enc) rfl rfl<|aZ (c:=mkE Cf none none none 0 0 0 0) rfl<|eT a fun p h a=>aA<|aA<|am f a rfl ?_
 have a:=Rg (R:=wM Cf) (s:=fun _=>Oj) a
 have a:=Rg (R:=wQ G Cf) (s:=fun _=>jR.kD) a
 have a:=Rg (R:=Al) (s:=Y3 ps ws) a
 have a:=wY (enc:=pE) (e:=84) a
 have a:=wY (enc:=pE) (e:=100) a
 have a:=wY (enc:=pE) (e:=103) a
 refine Uw (L:=L) (ov:=ov) (vv:=vv) (Cf:=Cf) hC hG O U e2 Y (A.C6 X) hv F E J ?_ Cf.aB.toNat 0 [] [] [] none none none 0 0 0 h FA rfl rfl rfl a.to
 intro lc lk lq a1 r a3 t c2 c3 h l1 T l3 a
 refine bW<|aA<|kR (b:=f) (o:=0) a FC (l:=Cf.enc) rfl rfl ?_
 refine H.wk (C:=Cf) hC hG.Ng a fun g h a=>aQ rfl<|aQ rfl<|aC<|aA<|ay (b:=p) (o:=0) a fun h a=>bU<|aab ?_
 have e8:bM (mkE Cf a1 r a3 Cf.aB.toNat t c2 c3) (0+10) [IV g]=mkF Cf a1 r a3 Cf.aB.toNat t c2 c3 (IV g) (.pointer none) (.pointer none):=rfl
 rw[e8] at a
 obtain⟨k,b,o,j,a⟩:=H.sN<|a.bF<|H.jJ G g Cf<|sM Cf.aF
 have em:(fun i=>(sM Cf.aF i).2)=uF:=by
  funext i;unfold sM uF;split<;>rfl
 rw[em] at a
 have a:=a.pQ (gQ G Cf.aF k Cf uF) (aN g 0<|H.pT k Cf b o j) (aN p 0<|mkF Cf a1 r a3 Cf.aB.toNat t c2 c3 (IV g) (.pointer none)<|.pointer none)<|aN f 0<|Co Cf pv B ov vv
 refine bW<|aA<|am f a rfl<|Zw y ?_
 refine aAr (Cf:=Cf) (p2:=f) (p5:=p) (hb:=g) (mb:=k) (hE:=H.pT k Cf b o j) (z:=mkF Cf a1 r a3 Cf.aB.toNat t c2 c3 (IV g) (.pointer none)<|.pointer none) hC hG W y rfl rfl ?_ vs.length 0 uF h FA rfl a
 intro h a
 have a:=H.zL (H:=MC.aK ⟨Cf,ps,ws,os,vs⟩) (hb:=g) (C:=Cf) (mb:=k) (b:=b) (o:=o) (cap:=j)<|a.pQ (aN g 0<|H.pT k Cf b o j) (gQ G Cf.aF k Cf<|At.uA uF vs 0) (gJ G 25 187 (some ⟨b,o,none⟩) j Cf.aF b o)<|eP Cf.aF fun i=>H.gH b (o+i*25) (sM Cf.aF i).1
 refine bW<|aA<|aA<|am f a rfl<|aA<|am f a rfl ?_
 refine aBc (C:=Cf) hC D V Z a fun q h a=>aQ rfl<|aQ rfl<|aC<|aA<|ay (b:=p) (o:=0) a fun h a=>bU<|aab<|bW ?_
 refine aA<|kR (b:=f) (o:=0) a FC (l:=Cf.enc) rfl rfl ?_
 refine aB5 (C:=Cf) hC hG.Ng a fun fb h a=>aQ rfl<|aQ rfl<|aC<|aA<|ay (b:=p) (o:=0) a fun h a=>bU<|aab<|k2 v _ _ ?_
 have a:=wY (enc:=Ev.enc) (e:=68) a
 have e9:bM (bM (mkF Cf a1 r a3 Cf.aB.toNat t c2 c3 (IV g) (.pointer none)<|.pointer none) (0+11) [IV q]) (0+12) [IV fb]=jG Cf ⟨lc,lk,lq,a1,r,a3,none,t,c2,c3,0,g,q,fb⟩ 0:=by
  unfold jG;dsimp only;rw[l1,T,l3];rfl
 rw[e9] at a
 have a:Hs G h (cD G Cf p (⟨Y3 ps ws,fun _=>jR.kD,fun _=>Oj,MC.aK ⟨Cf,ps,ws,os,vs⟩,⟨Bx os,fun _=>none⟩,fun _ _=>[],[]⟩:bR)::L):=(bY (m:=p) (x:=⟨lc,lk,lq,a1,r,a3,none,t,c2,c3,0,g,q,fb⟩) (⟨Y3 ps ws,fun _=>jR.kD,fun _=>Oj,MC.aK ⟨Cf,ps,ws,os,vs⟩,⟨Bx os,fun _=>none⟩,fun _ _=>[],[]⟩:bR) ⟨l1,T,l3⟩ a).to
 exact a
end
variable {G:Bg} {h:AH} {M:bR}
def aT0 {C:bQ} {t:Value} {ws:EV} (X:ps.length<=9223372036854775807) (F:A.Nx G pv t ov vv ps ws os vs) (a:Hs G h L)
  (S:ps.length<=6/\ws.length<=6/\os.length<=20/\vs.length<=80->∀j,Hs G j L->Q (.bool true) j) (s:∀j,Hs G j L->Q (.bool false) j):IU 16 [.agg ⟨Co C pv t ov vv⟩] h Q:=by
 obtain⟨⟨V,O,q,y⟩,B,u,z⟩:=F
 have lp:∀{k:Value->Prop},k (I ps.length)->cE (pR pv) k:=fun g=>A.qQ q (by simpa [O] using g)
 have lw:∀{k:Value->Prop},k (I ws.length)->cE (pR t) k:=fun g=>Zw B g
 have T:∀{k:Value->Prop},k (I os.length)->cE (pR ov) k:=fun g=>Zw u g
 have U:∀{k:Value->Prop},k (I vs.length)->cE (pR vv) k:=fun g=>Zw z g
 refine cW<|eT a fun c h a=>?_
 have loop:∀(f i:Nat) (h:AH),i+f=ps.length->Hs G h (aN c 0 (Co C pv t ov vv)::L)->Dd 16 1 [] Q [IV c,I i] h:=by
  intro f;induction f with
  |zero=>
   intro i h E a;refine bW<|aA<|am c a (v:=pv) rfl<|lp<|bE<|aab<|aA<|am c a (v:=pv) rfl<|lp<|Ak<|bG (fun g1=>?_) fun g1=>s _ a.tail;refine aA<|am c a (v:=t) rfl<|lw<|Ak<|bG (fun g2=>?_) fun g2=>s _ a.tail;refine aA<|am c a (v:=ov) rfl<|T<|Ak<|bG (fun g3=>?_) fun g3=>s _ a.tail;refine aA<|am c a (v:=vv) rfl<|U<|Ak ?_;by_cases D:(vs.length:Int)<=80;rw[cL D];exact S ⟨FA,FA,FA,FA⟩ _ a.tail;rw[cM D];exact s _ a.tail
  |succ f R=>
   intro i h E a;obtain⟨p,J,W⟩:=rK (l:=ps) (i:=i) FA;obtain⟨v,r,_⟩:=rK (l:=V) (i:=i) FA;refine bW<|aA<|am c a (v:=pv) rfl<|lp<|bE<|aae<|bW<|aA<|am c a (v:=pv) rfl ?_;refine Cz (Ew (e:=3) FF q a) (x:=[v]) (by simp[r]) rfl<|A.qQ (y i v p r J)<|oT<|bG (fun _=>s _ a.tail) fun _=>bW<|aad<|R (i+1) h FA a
 exact loop ps.length 0 h FA a
def bR.core (Cf:bQ) (M:bR) (x:Int):EU×Int:=if 0<=x/\x<Cf.aB then((M.aD x.toNat).core,0) else([I 0,I 0,I 0,I 0,I 0,I 0,.bool false],10)
def Rs (hC:Cf.Ok) (e:Hs G h L) [A:eB (cD G Cf m) L M L'] (g:∀j,Hs G j (cD G Cf m M::L')->Q (.tuple ⟨[.agg ⟨(bR.core Cf M x).1⟩,I (bR.core Cf M x).2]⟩) j):IU 10 [IV m,I x] h Q:=by
 have B:=hC.1;unfold bR.core at g;refine cW<|cK (cs:=[I 0,I 0,I 0,I 0,I 0,I 0,.bool false]) (A.of e) fun q h e=>dM<|cS<|bW ?_;obtain⟨y,k,e⟩:=dN<|e.bF<|cD G Cf m M;have u:=k.1;have bad:∀{h:AH},Hs G h (cD G Cf m M::aN q 0 [I 0,I 0,I 0,I 0,I 0,I 0,.bool false]::L')->(∀j,Hs G j (cD G Cf m M::L')->Q (.tuple ⟨[.agg ⟨[I 0,I 0,I 0,I 0,I 0,I 0,.bool false]⟩,I 10]⟩) j)->
   cE (tQ [I 0,I 0,I 0,I 0,I 0,I 0,.bool false] []) fun c=>cE (Ba h 7 (IV q)<|.agg ⟨c⟩) fun h=>cE (zJ h 7<|IV q) fun v=>Q (.tuple ⟨[v,I 10]⟩) h:=by
  intro h e z
  exact aZ (c:=[I 0,I 0,I 0,I 0,I 0,I 0,.bool false]) rfl<|ax (b:=q) e fun h e=>an q e (l:=[I 0,I 0,I 0,I 0,I 0,I 0,.bool false]) rfl rfl<|z _ e.to
 refine bE<|bG (fun p=>?_) fun p=>?_;rw[aaa] at g;exact bad (bY (m:=m) (x:=y) M k e).to g;refine aC<|aA<|am m e rfl<|dB<|fX<|bG (fun r=>?_) fun r=>?_;rw[aaa] at g;exact bad (bY (m:=m) (x:=y) M k e).to g;rw[aac] at g;obtain⟨i,rfl⟩:=aL (show 0<=x by omega);have f:i<y.lc.length:=FA
 refine aC<|aA<|am m e rfl<|Ka e f ?_;have e:=kT (R:=Al) (l:=y.lc) (s:=M.aD) f e;obtain⟨a,c,e⟩:=vI e;refine aC<|aA<|kR (b:=y.lc.getD i 0) (o:=0) e FC (l:=(M.aD i).core) rfl rfl<|ax (b:=q) e fun h e=>an q e (l:=(M.aD i).core) rfl rfl<|g _ ?_;have e:=qF (y.lc.getD i 0) i (M.aD i) (a:=a) (c:=c) (e.dC (aN (y.lc.getD i 0) 0<|yN i (M.aD i) a c)<|du a c (M.aD i).prog) rfl rfl;have e:=Lo (l:=y.lc) (s:=M.aD) (i:=i) (t:=M.aD i) f e;rw[cY] at e;exact(bY (m:=m) (x:=y) M k e).to
def aL9 (a:Hs G h L) [g:eB (cD G Cf m) L M L'] (e:∀c,Hs G c (cD G Cf m M::L')->Q (I M.eY.length) c):IU 15 [IV m] h Q:=by
 obtain⟨y,f,a⟩:=dN<|g.of a;exact cW<|dM<|cS<|aC<|aA<|am m a rfl<|dB<|e _ (bY (m:=m) (x:=y) M f a).to
def veR (q:Nat) (a:EX) (c:Nat) (l:IM):HP:=sp [aN q 0 [.slice a l.length c],Q5 a c l]
def aXy {l:IM} (hb:l.length<=100000):yy Pr K G 86 [] [IV q] (veR q a c l) (l.map fun n=>[.agg ⟨n.enc⟩]):=by
 intro p J y L h Q g E t u;have g:=g.Fk;have j:∀{h:AH} {M:IB},Hs G h (aN q 0 [.slice a l.length c]::Q5 a c l::M)->Hs G h (veR q a c l::M):=fun g=>g.F4;refine cW<|am q g rfl<|dB ?_;have loop:∀(f i:Nat) (h:AH),i+f=l.length->Hs G h (aN q 0 [.slice a l.length c]::Q5 a c l::p ((l.drop i).map fun n=>[.agg ⟨n.enc⟩])::L)->Dd 86 1 [] Q [y,.slice a l.length c,I l.length,I i] h:=by
  intro f;induction f with
  |zero=>
   intro i h A g;rw[eg FA] at g;exact bW (bE<|aab<|t _ _<|j g)
  |succ f F=>
   intro i h A g;obtain⟨x,D,z⟩:=rK (l:=l) (i:=i) FA;rw[z,kd] at g;refine bW (bE<|aae<|bW<|Ac (l:=l) (a:=a) (c:=c) (enc:=Ev.enc) (e:=68) g FC FA (by rw[aM];exact D)<|cK g fun r h g=>ax (b:=r) g fun h g=>an r g (l:=x.enc) rfl rfl ?_);refine(E _ _ h _<|g.bF<|p ([.agg ⟨x.enc⟩]::((l.drop<|i+1).map fun n=>[.agg ⟨n.enc⟩]))).mono fun v s B=>?_;rcases B with⟨rfl,k⟩|⟨rfl,k⟩;exact cX<|cS<|bW<|aad<|F (i+1) s FA k.to;exact cX<|gF<|u _ _<|j k.to
 exact loop l.length 0 h FA (by rw[l5];exact g)
end Go.Proofs.Z
namespace Go.Mc
open Go.Hm Go.At Go.Is Go.Ct Go.Nt
variable {s:aT} {d:Do}
section
variable {C:bQ} {M:bR}
def rp (i:Nat) (s:aT) (x:Ev):Option aT:=match aT.mM s i with
 |some r=>if r.2=x then some r.1 else none
 |none=>if(aT.bL s i x.value x.code).2.2=0/\(aT.bL s i x.value x.code).2.1=x then some (aT.bL s i x.value x.code).1 else none
def Sy {r:aT×Ev} (h:aT.mM s i=some r):r.2.core=i:=by
 unfold aT.mM at h;cases hn:aT.kQ s with
 |none=>rw[hn] at h;cases h
 |some x=>
  rw[hn] at h;repeat' split at h
  all_goals first|cases h|skip
  all_goals rfl
theorem aJ0 {r:aT×Ev} (h:aT.mM s i=some r):rp i s r.2=some r.1:=by
 unfold rp;grind
theorem cy {v c:Int} (h:(aT.bL s i v c).2.2=0):aT.mM s i=none:=by
 unfold aT.bL at h;unfold aT.mM;cases hn:aT.kQ s with
 |none=>rfl
 |some x=>
  rw[hn] at h;unfold Jb at h;grind
theorem Bs {v c:Int} (h:(aT.bL s i v c).2.2=0):(aT.bL s i v c).2.1.core=i:=by
 unfold aT.bL at h ⊢;cases hn:aT.kQ s with
 |none=>rw[hn] at h;cases h
 |some x=>
  repeat' split at h
  all_goals first|cases h|skip
  all_goals simp_all [aT.ev]
theorem W5 {v c:Int} (h:(aT.bL s i v c).2.2=0):rp i s (aT.bL s i v c).2.1=some (aT.bL s i v c).1:=by
 unfold rp;rw[cy h];have e:aT.bL s i (aT.bL s i v c).2.1.value (aT.bL s i v c).2.1.code=aT.bL s i v c:=by
  unfold aT.bL at h ⊢;cases hn:aT.kQ s with
  |none=>rfl
  |some x=>
   unfold aT.ev;grind
 grind
def rc (m:Mon) (g:Nat):Option Int:=(m.eI g).map mS.core
structure Dc (M:bR):Prop where
 op:∀g c,rc M.bH g=some c->∃x,aT.kQ (M.aD c.toNat)=some x/\x.op=8
 E8:∀g g' c,rc M.bH g=some c->rc M.bH g'=some c->g=g'
theorem wX (hC:C.Ok) {m:Mon} (a:iY C m) {c:Int}:m.iC c=true↔∃g,rc m g=some c:=by
 unfold Mon.iC Mon.fO rc;rw[EI];constructor;rintro ⟨g,b,h⟩;unfold Mon.qR at h;grind;rintro ⟨g,h⟩;cases hr:m.eI g with
 |none=>rw[hr] at h;cases h
 |some r=>
  refine⟨g,BB.2 ⟨z2.2<|a.aWv hC g r hr,by rw[hr];rfl⟩,?_⟩;unfold Mon.qR;grind
inductive Dn (C:bQ) (d:Do) (M M':bR):Prop where
 |qE (h1:M'.aD=M.aD) (h2:M'.eY=M.eY) (h3:∀g,rc M'.bH g=rc M.bH g)
 |ev (i:Nat) (s:aT) (v:Ev) (hi:(i:Int)<C.aB) (hd:d.mH=0/\d.a=i) (hw:M.bH.iC i=false) (h1:M'.aD=bD M.aD i s) (h2:M'.eY=M.eY++[v]) (hc:v.core=i) (hr:rp i (M.aD i) v=some s) (h3:∀g,rc M'.bH g=rc M.bH g)
 |uB (i g:Nat) (hi:(i:Int)<C.aB) (hd:d.mH=0/\d.a=i) (hw:M.bH.iC i=false) (h1:M'.aD=M.aD) (h2:M'.eY=M.eY) (hx:∃x,aT.kQ (M.aD i)=some x/\x.op=8) (h3:∀g',rc M'.bH g'=if g'=g then some (i:Int) else rc M.bH g') (h0:rc M.bH g=none)
 |sY (i g:Nat) (s:aT) (v:Ev) (hi:(i:Int)<C.aB) (hd:d.mH=3) (hg:rc M.bH g=some (i:Int)) (h1:M'.aD=bD M.aD i s) (h2:M'.eY=M.eY++[v]) (hc:v.core=i) (ho:v.op=8/\v.code=0) (ha:s.at'=(M.aD i).at'+1) (hr:rp i (M.aD i) v=some s) (h3:∀g',rc M'.bH g'=if g'=g then none else rc M.bH g')
def Ec {v c:Int} (b:(i:Int)<C.aB) (a:d.mH=0/\d.a=i) (e:M.bH.iC i=false):Dn C d M (M.bL i v c).1:=by
 unfold bR.bL;dsimp only;split;exact .qE rfl rfl fun _=>rfl;rename_i h;have h:(aT.bL (M.aD i) i v c).2.2=0:=aW.1 h;exact .ev i _ _ b a e rfl rfl (Bs h) (W5 h) fun _=>rfl
theorem aSh {a:Mc.Nk} (h:aT.xR s i=some a):a.core=i/\∃x,aT.kQ s=some x/\x.op=8:=by
 unfold aT.xR at h;grind
theorem aGx {a:Mc.Nk} (q:dD C N M) (j:(i:Int)<C.aB) (g:d.mH=0/\d.a=i) (k:M.bH.iC i=false) (s:aT.xR (M.aD i) i=some a):Dn C d M (M.call C i a).1:=by
 obtain⟨o,p⟩:=aSh s;unfold bR.call;dsimp only;split;exact Ec j g k
 .rename_i b;split;exact .qE rfl rfl fun _=>rfl
  .have b:(M.bH.call C.aB a).2.2=0:=aW.1 b;have e:rc M.bH a.aS.toNat=none:=by
    unfold Mon.call at b;split at b;cases b;split at b;cases b;rename_i f;split at b;cases b;rename_i c;have l:0<=a.aS:=(aW.1 f).1;have c:M.bH.phase a.aS=0:=aW.1 c;unfold Mon.phase Mon.run at c;rw[bA1 l] at c;unfold rc;cases hr:M.bH.eI a.aS.toNat with
    |none=>rfl
    |some r=>have:=(q.bH.run _ r hr).2.2.1;grind
   refine .uB i a.aS.toNat j g k rfl rfl p (fun u=>?_) e;unfold Mon.call at b ⊢;repeat' split at b
   all_goals first|(revert b;simp;done)|skip
   rename_i n1 f c t;rw[bA0 n1,bA0 f,bA0 c,bA0 t];dsimp only at b ⊢;split at b;grind;rename_i n5;rw[bA0 n5];unfold rc Mon.dO bD;dsimp only;split;show some a.core=_;rw[o];rfl
theorem vq {a:vR} (q:(i:Int)<C.aB) (j:d.mH=0/\d.a=i) (t:M.bH.iC i=false):Dn C d M (M.fF C i a).1:=by
 have qE:∀{r:bR},r.aD=M.aD->r.eY=M.eY->r.bH=M.bH->Dn C d M r:=fun a b c=> .qE a b fun g=>by rw[c]
 unfold bR.fF;split;exact Ec q j t;dsimp only;split;grind;split;unfold bR.Cm;grind;split;exact Ec q j t;split;unfold bR.fV;grind;unfold bR.jY;rcases Ec (C:=C) (M:=M.jX i<|if a.iS=true then mU C (if a.Fz=true then pH C (M.bT i) (a.dF/2) (a.dF % 2) (M.bN i<|a.dF/2/2) else M.bT i) (a.dF/2) (a.dF % 2) (M.bN i<|a.dF/2/2) a.value else if a.Fz=true then pH C (M.bT i) (a.dF/2) (a.dF % 2) (M.bN i<|a.dF/2/2) else M.bT i) (d:=d) (v:=if a.Fz=true then Ip C (M.bT i) (a.dF/2) (a.dF % 2) else 0) (c:=0) q j t with⟨a,b,c⟩|⟨i,s,v,a,b,c,e,f,g,k,l⟩|⟨i,g,a,b,c,e,f,k,l,z⟩|⟨i,g,s,v,a,b,c,e,f,k,l,n,o,p⟩;exact .qE a b c;exact .ev i s v a b c e f g k l;exact .uB i g a b c e f k l z;grind
def Kh {m:Mon} {g c:Int}:∀k,rc (m.eF C.aB g c).1 k=rc m k:=by
 intro k;unfold Mon.eF;split;rfl;split;rfl;rename_i r a;split;rfl;split;rfl;unfold Mon.run at a;split at a;unfold rc Mon.dO bD;dsimp only;split;rename_i e;subst e;rw[a];rfl;rfl;cases a
def Oa {n:aG}:(M.cU C n).1.aD=M.aD/\(M.cU C n).1.eY=M.eY/\∀g,rc (M.cU C n).1.bH g=rc M.bH g:=by
 unfold bR.cU;repeat' split
 all_goals first
  |exact⟨rfl,rfl,fun _=>rfl⟩
  |skip
 dsimp only;split;exact⟨rfl,rfl,fun g=>Kh g⟩;exact⟨rfl,rfl,fun g=>Kh g⟩
def aM6 {m:Mon} {g:Int} {u:Mc.mS} (h:(m.over g).2.1=some u):rc m g.toNat=some u.core/\∀k,rc (m.over g).1 k=if k=g.toNat then none else rc m k:=by
 unfold Mon.over at h ⊢;split at h;cases h;rename_i n1;rw[bA0 n1];cases hr:m.run g with
 |none=>rw[hr] at h;cases h
 |some r=>
  rw[hr] at h;dsimp only at h ⊢;split at h;cases h;rename_i a;rw[bA0 a];cases h;unfold Mon.run at hr;split at hr;refine⟨by unfold rc;rw[hr];rfl,fun k=>?_⟩;unfold rc Mon.dO bD;dsimp only;split;rfl;rfl;cases hr
theorem H0 (hC:C.Ok) (s:dD C N M) (z:Dc M):Dn C d M (M.mK C d).1:=by
 have qE:∀{r:bR},r.aD=M.aD->r.eY=M.eY->(∀g,rc r.bH g=rc M.bH g)->Dn C d M r:=fun a b c=> .qE a b c;unfold bR.mK;split;rename_i o;unfold bR.step;split;grind;rename_i l;have l:0<=d.a/\d.a<C.aB:=aW.1 l;have j:((d.a.toNat:Nat):Int)<C.aB:=FA
 have e:d.mH=0/\d.a=(d.a.toNat:Nat):=⟨o,FA⟩;dsimp only;split;grind;split;grind;rename_i f;have f:M.bH.iC ((d.a.toNat:Nat):Int)=false:=by
  rw[<-e.2];unfold bR.aH at f;simpa using f
 split;rename_i r t;exact .ev _ _ _ j e f rfl rfl (Sy t) (aJ0 t) fun _=>rfl;split;rename_i a l;exact aGx s j e f l;split;exact vq j e f;grind
 .split
  .unfold bR.cZ;dsimp only;repeat' split
   all_goals first
    |exact qE rfl rfl fun _=>rfl
    |exact qE Oa.1 Oa.2.1 Oa.2.2
  split;unfold bR.dK;grind;split;rename_i o;unfold bR.gI;split;grind;split;grind;dsimp only;split;grind;rename_i u v;obtain⟨q,F⟩:=aM6 v;have A:=(g9 (g:=d.a) s.bH).2 u v;obtain⟨i,j⟩:=aL A.1;obtain⟨x,I,y⟩:=z.op _ _ q;have E:u.core.toNat=i:=FA
  have B:∀P:bR,P.aD=M.aD->P.eY=M.eY->(∀g,rc P.bH g=if g=d.a.toNat then none else rc M.bH g)->Dn C d M (P.bL i 0 0).1:=by
   intro P p1 J D;have k:aT.bL (P.aD i) i 0 0=(((M.aD i).dO x.b 0).jB<|(M.aD i).at'+1,aT.ev (M.aD i) i x ((M.aD i).dI x.b.toNat) ((M.aD i).dI x.c.toNat) 0,0):=by
    rw[p1];unfold aT.bL;grind
   have p:(aT.bL (M.aD i) i 0 0).2.2=0:=by rw[<-p1,k]
   unfold bR.bL;dsimp only;rw[bA0<|by rw[k];simp];refine .sY i d.a.toNat (aT.bL (P.aD i) i 0 0).1 (aT.bL (P.aD i) i 0 0).2.1 FA o (by rw[q,j]) FB FB ?_ ?_ ?_ ?_ D;rw[p1];exact Bs p;rw[k];exact⟨y,rfl⟩;rw[k];rfl;rw[p1];exact W5 p
  grind;grind
end
variable {C:bQ} {M M':bR}
def yh {m:Mon} (a:iY C m) {c:Int} (h:rc m g=some c):0<=c/\c<C.aB:=by
 unfold rc at h;cases hr:m.eI g with
 |none=>rw[hr] at h;cases h
 |some r=>
  rw[hr] at h;cases h;exact(a.run g r hr).2.2.2.1
theorem Dc.out (hC:C.Ok) (r:dD C N M) (l:Dc M) (B:Dn C d M M'):Dc M':=by
 have t:∀{i:Nat},M.bH.iC i=false->∀g c,rc M.bH g=some c->c.toNat≠i:=by
  intro i J g c f e;have p:=yh r.bH f;have:c=i:=FA
  subst this;have:=(wX hC r.bH).2 ⟨g,f⟩;grind
 cases B with
 |qE p q j=>exact⟨fun g c f=>by rw[p];exact l.op g c<|by rw[<-j];exact f,fun g o c a b=>l.E8 g o c (by rw[<-j];exact a)<|by rw[<-j];exact b⟩
 |ev i s v y x z p q A D j=>
  refine⟨fun g c f=>?_,fun g o c a b=>l.E8 g o c (by rw[<-j];exact a)<|by rw[<-j];exact b⟩;rw[j] at f;rw[p];unfold bD;rw[bA0<|t z g c f];exact l.op g c f
 |uB i g y x z p q E j=>
  constructor;intro o c f;rw[j] at f;rw[p];split at f;cases f;exact E;exact l.op o c f;intro g1 g2 c a b;rw[j] at a b;split at a;grind;split at b;grind;exact l.E8 g1 g2 c a b
 |sY i g s v y x f p q A K I D j=>
  constructor;intro o c k;rw[j] at k;split at k;cases k;rename_i u;rw[p];unfold bD;have F:=yh r.bH k;rw[bA0 fun e=>u<|l.E8 o g c k FB];exact l.op o c k;intro g1 g2 c a b;rw[j] at a b;split at a;cases a;split at b;cases b;exact l.E8 g1 g2 c a b
def zh (i:Nat) (s:aT):IM->Option aT
 |[]=>some s
 |x::l=>if x.core=i then(match rp i s x with|some t=>zh i t l|none=>none) else zh i s l
def ch {i:Nat}:∀{l:IM} {s t:aT} {x:Ev},zh i s l=some t->zh i s (l++[x])=if x.core=i then rp i t x else some t
 |[],s,t,x,h=>by
  cases h;show zh i s [x]=_;unfold zh;split;cases rp i s x<;>rfl;rfl
 |y::l,s,t,x,h=>by
  rw[e7];unfold zh at h ⊢;split;rename_i e;rw[bA1 e] at h;cases hr:rp i s y with
  |none=>rw[hr] at h;cases h
  |some u=>rw[hr] at h;exact ch h
  rename_i e;rw[bA0 e] at h;exact ch h
def RPs (C:bQ) (S:Nat->aT) (M:bR):Prop:=∀i:Nat,(i:Int)<C.aB->zh i (S i) M.eY=some (M.aD i)
variable {S:Nat->aT}
theorem RPs.out (h:RPs C S M) (q:Dn C d M M'):RPs C S M':=by
 have E8:∀{i:Nat} {s:aT} {v:Ev},M'.aD=bD M.aD i s->M'.eY=M.eY++[v]->v.core=i->rp i (M.aD i) v=some s->RPs C S M':=by
  intro i s v a b f k j p;rw[a,b,ch<|h j p];unfold bD;by_cases e:j=i;subst e;rw[bA1 f,bA1 rfl];exact k;grind
 cases q with
 |qE a b l=>intro i c;rw[a,b];exact h i c
 |ev i s v c o r a b f k l=>exact E8 a b f k
 |uB i g c o r a b y l=>intro i c;rw[a,b];exact h i c
 |sY i g s v c o u a b f x t k l=>exact E8 a b f k
structure av (C:bQ) (S:Nat->aT) (N:Nat) (M:bR):Prop where
 inv:dD C N M
 lF:Dc M
 zh:RPs C S M
def av.mK (hC:C.Ok) (h:av C S N M):av C S (N+2) (M.mK C d).1:=by
 have a:=H0 (d:=d) hC h.inv h.lF;exact⟨aPu h.inv hC,h.lF.out hC h.inv a,h.zh.out a⟩
def av.len (h:av C S N M):M.eY.length<=N:=h.inv.eY
def aJ2:(M.Ao C [d] 0).1=(M.mK C d).1:=by
 unfold bR.Ao;split;rfl;rfl
end Go.Mc
end
variable {k:Value->Prop}
namespace Go.Proofs.Z
open Go.Hm Go.At Go.Mc Go.Ct Go.Nt Go.Is
variable {ps:List (ID)}
def aDr {C:bQ} {ws:EV} (h:tE C ps ws os vs=0):∀i:Nat,(i:Int)<C.aB->(Y3 ps ws i).Ok:=by
 obtain⟨hC,g,e2,j,k,b,l,o⟩:=E2 h;intro i p;have e:ps.getD i []∈ps:=by rw[aP,bj FA];exact v7 _
 have a:=A.C6 b _ e;have c:=A.H2 a;refine⟨show(0:Int)<=0 by decide,show(0:Int)<=32 by decide,rfl,c,fun x f=>?_⟩;unfold rF at a;rw[aaa] at a;exact q7 _ _ a x f
def aMg {C:bQ} {ws:EV} (h:tE C ps ws os vs=0):dD C 0 (MC.kD ⟨C,ps,ws,os,vs⟩):=by
 obtain⟨hC,t,e2,a,u,v,y,b⟩:=E2 h;refine⟨⟨?_,?_,fun g r q=>by cases q⟩,aDr h,fun i f=>fj,fun i f=>⟨?_,?_⟩,fun l j=>?_,⟨fun c w=>?_,fun c w n k=>by cases k⟩,b0 0⟩;show(os.map fun o=>(⟨o,false⟩:mP)).length=_;rw[js];exact a;intro x s;obtain⟨o,p,rfl⟩:=eV.1 s;exact b o p;show((0:Nat):Int)<=C.lH;have:1<=C.lH:=by unfold bQ.Ok at hC;omega
 omega;show(0:Int)<=0/\(0:Int)<C.aJ;have:=hC.2.1.1;omega;have e:((MC.kD ⟨C,ps,ws,os,vs⟩).aK l).1=Ee:=by
  show(sM C.aF l).1=Ee;unfold sM;rw[bA1 j]
 rw[e];exact⟨aPf l,m6 _⟩;show((0:Nat):Int)<=C.eG;have:1<=C.eG:=hC.2.2.2.2.1.1;omega
def Y0 {C:bQ} {ws:EV} (h:tE C ps ws os vs=0):Mc.av C (Y3 ps ws) 0 (MC.kD ⟨C,ps,ws,os,vs⟩):=
 ⟨aMg h,⟨(fun g c a=>by cases a),(fun g b c a=>by cases a)⟩,fun i e=>rfl⟩
def aKm {s:aT} (b:k (.bool false)) {a:Bool} (hc:a=true:=by kernel_rfl):bu a [0,0,0,0,0,0,1] .neq (.agg ⟨s.core⟩) (.agg ⟨s.core⟩) k:=⟨hc,_,by simp[Xy,vW,Zb,eqn,aT.core],b⟩
attribute [local irreducible] cE Br xE zJ Ba K1 sO D9 sF na mC tH yM yV yE pR Be dr bf dm Xy bu py qY vS oL nR Fs Qe rE Xn lz Hj Cl E5 pw A9 zV qJ kI fJ dX
variable {G:Bg} {h:AH} {Cf:bQ} {M:bR}
def ml (G:Bg) (v:Value) (l:IF):Prop:=zE G 4 v (l.map Do.enc).length fun i=>(l.map Do.enc).getD i []
def aNr {l:IF} (a:ml G v l) (b:Hs G h L):Hs G h (Gc G 4 56 v (l.map Do.enc)::L):=Ew (by simp[Do.enc]) a b
def aR8 {l:IF} (b:ml G v l) (a:k (I l.length)):cE (pR v) k:=A.qQ b (by rw[js];exact a)
def ub {d:Do} {a:Addr} {k:Value->AH->Prop} (hC:Cf.Ok) (hG:Gb G) (f:dD Cf N M) (i:N<=2^28) (b:Hs G h (dY 4 56 (some a) c (1,d.enc)::cD G Cf m M::L))
  (g:∀e,Hs G e (cD G Cf m (M.mK Cf d).1::L)->k (.tuple ⟨[I (M.Ao Cf [d] 0).2.1,I (M.Ao Cf [d] 0).2.2]⟩) e):IU 17 [IV m,.slice (some a) 1 c] h k:=by
 have b:=cf (l:=[d].map Do.enc) (n:=1) (cs:=d.enc) (by simp[Do.enc]) rfl FF b
 refine aTf (l:=[d]) (v:= .slice (some a) 1 c) hC hG f FG b fun h b=>g h ?_
 rw[aJ2] at b
 exact b.tail
end Go.Proofs.Z
variable {t:TypeId} {spare:Nat->Bool} {gl:Nat->II} {B j r:List (Option IntKind)} {W:World}
namespace Go.Ab
open Go.RowKit Go.ChangeShapes Go.WideShapes Go.ChangeAt
variable {P:Program} {H:Type} {enc:TypeId×Value->H} {w:World} {base:Nat} {held:Bool}
def aMl {ρ:nL}:aR ρ top v:=by simp[top,aR]
def xw {ρ:nL}:∀{l l':EU},l.length=l'.length->(∀(j:Nat) (u v:Value),l[j]?=some u->l'[j]?=some v->aR ρ u v)->bV ρ l l'
 |[],[],_,_=>bV.nil
 |u::l,v::l',h,k=>bV.cons (k 0 u v rfl rfl) (xw HL fun j a b c e=>k (j+1) a b (by simpa using c) HB)
 |[],_::_,h,_=>by simp at h
 |_::_,[],h,_=>by simp at h
def aTn (P:Program) (w:World) (ρ:nL) (r:OB):Prop:=
 (∀o,r.1=some o->∀b s,r.2=some (b,s)->∃a,w.heap[b]?=some a/\Ca P ρ s o a)/\(∀b s,r.2=some (b,s)->b<w.heap.size)
def aBk.at' {r:OB} (h:aBk P w r) (ρ:nL):aTn P w ρ r:=⟨fun o f b s e=>let⟨g,a,c⟩:=h.1 o f b s e;⟨g,a,c ρ⟩,h.2⟩
def aAy {rs:IS} (t:P.globals.size<=g) (p:g<=w.heap.size) (e:aUr P g gl w) (j:∀r∈rs,aTn P w (Jn g rs) r):pf P (g+rs.length) (Ph g gl rs) (Jn g rs) w where
 yS:=fun i o f c b s a=>by
  unfold Ph at c;unfold Jn at a;split at c;rename_i h;rw[bA1 h] at a;cases a;obtain⟨q,k,l⟩:=e i o h c;exact⟨q,k,l _⟩;rename_i h;rw[bA0 h] at a;rw[bj FA] at c a;exact(j _<|v7 FA).1 o c b s a
 low:=fun i b s f a=>by
  unfold Jn at a;split at a;cases a;omega;rw[bj FA] at a;exact(j _<|v7 FA).2 b s a
 none:=fun i f=>by unfold Jn;rw[aaa,z1 FA];rfl
 xS:=fun i f=>by unfold Jn;rw[aac]
def M8 (j:List (Option IntKind)) (w:World) (a:EX) (len cap:Nat):Prop:=
 (a=none/\len=0/\cap=0)\/(∃x,a=some x/\len=0)\/
 ∃x cc e g,a=some x/\0<len/\x.spot=none/\len<=cap/\w.heap[x.block]?=some (.cells cc e g)/\x.off+len<=cc.size/\
  ∀i,i<len->∃c b f,cc.toList[x.off+i]?=some (.slice c b f)/\oD j w c b f/\b<=maxLen
def aDx {e2:TypeId} {fuel:Nat} {x:DataW H×List MemPlace} (ht:P.underlying t=some (.slice e)) (K:P.underlying e=some (.slice e2)) (X:yY P n e2=some r) (B:P.cellsOf e2=r.length) (hc:P.cellsOf e=1) (V:0<r.length)
  (h:DataW.trod enc P w base spare held fuel t cs=some x):∃a len k,cs=[.slice a len k]/\len<=maxLen/\M8 r w a len k:=by
 rcases EH ht h with⟨rfl,_⟩|⟨a,len,k,elems,rest,m,_,rfl,_,v,Y,hm,O,E,_,_⟩
 .exact⟨none,0,0,rfl,m6 _,.inl ⟨rfl,rfl,rfl⟩⟩
 refine⟨some a,len,k,rfl,FA,?_⟩
 rcases AY len with z|z
 .exact .inr (.inl ⟨a,rfl,z⟩)
 refine .inr<|.inr ?_
 have each:∀i,i<len->∃g f j,w.cell? (a.add i)=some (.slice g f j)/\oD r w g f j/\f<=maxLen:=by
  intro i F;have p:=E i F;rw[bj FA,hc,BP] at p;obtain⟨c,l,R⟩:=p;obtain⟨g,f,j,D,hr⟩:=N3 K X B V R;subst D;refine⟨g,f,j,?_,hr,?_⟩;rotate_left;rcases EH K R with⟨A,_⟩|⟨a2,S,J,_,_,_,_,A,_,_,Z,α,_⟩;cases A;exact m6 _;cases A;omega;unfold World.cells? at l;split at l;have:=mapM_some_get l 0 0 FF;rw[EP] at this;have U:(a.add i).add 0=a.add i:=rfl;rw[U] at this;simpa using this;cases l
 obtain⟨a0,l0,c0,b,β⟩:=each 0 z
 obtain⟨cc,T,s,v,y⟩:∃cc e s,w.heap[a.block]?=some (.cells cc e s)/\a.spot=none:=by
  have I:a.add 0=a:=rfl;rw[I] at b;unfold World.cell? at b;split at b;rename_i c e s v;split at b;cases b;rename_i y;exact⟨c,e,s,v,by simpa using y⟩;cases b
 have q:∀o,w.cell? ⟨a.block,o,none⟩=cc[o]?:=by
  intro o;unfold World.cell?;rw[v];simp
 have u:∀i,i<len->∃g f j,cc.toList[a.off+i]?=some (.slice g f j)/\oD r w g f j/\f<=maxLen:=by
  intro i F;obtain⟨g,f,j,p,W⟩:=each i F;rw[um y,q] at p;exact⟨g,f,j,by rw[BA];exact p,W⟩
 refine⟨a,cc,T,s,rfl,z,y,Y,v,?_,u⟩
 obtain⟨g,f,j,p,_⟩:=u (len - 1) FA
 have:=(eh.1 p).1
 simp at this
 omega
variable {fs:Array Field} {d:DataW H}
def Uj {f:Field} {l:EU} {p:List MemPlace} {g:List (Option IntKind)} (k:P.underlying t=some (.struct fs)) (c:fs[i]?=some f) (j:yY P n f.type=some g)
  (h:DataW.Trod enc P W 0 (fun _=>true) true t (.agg ⟨l⟩) d p):rL g ((l.drop f.offset).take<|P.cellsOf f.type):=by
 obtain⟨fuel,b⟩:=h
 obtain⟨r,m,_,_,q,o,a⟩:=CE k b
 have e:=a i f c
 rw[bj<|by rw[o];exact(hY.1 c).1] at e
 simpa [Value.cells] using(Wc n j e)
def Sq {e2:TypeId} {f:Field} {l:EU} {p:List MemPlace} (B:P.underlying t=some (.struct fs)) (q:fs[i]?=some f)
  (D:P.underlying f.type=some (.slice e)) (o:P.underlying e=some (.slice e2)) (u:P.cellsOf f.type=1) (v:P.cellsOf e=1) (x:yY P n e2=some j) (hc:P.cellsOf e2=j.length) (s:0<j.length)
  (h:DataW.Trod enc P W 0 (fun _=>true) true t (.agg ⟨l⟩) d p):∃a len b,l[f.offset]?=some (.slice a len b)/\len<=maxLen/\M8 j W a len b:=by
 obtain⟨fuel,k⟩:=h
 obtain⟨I,m,_,_,F,E,c⟩:=CE B k
 have r:=c i f q
 rw[bj<|by rw[E];exact(hY.1 q).1] at r
 obtain⟨a,len,b,g,y,A⟩:=aDx D o x hc v s r
 refine⟨a,len,b,?_,y,A⟩
 rw[u] at g
 have:=l6 (fun z=>z[0]?) g
 simpa [Value.cells] using this
structure aWe (P:Program) (w:World) (ks:List (Option IntKind)) (k0:Nat) (a:EX) (len cap:Nat) (r:OB) (rs:IS) (t:Nat->Value) (vs:EU) (ns:EW) (at':Nat->Nat->EU):Prop where
 ok:∀x∈rs,aBk P w x
 out:∀ρ:nL,(∀i x,rs[i]?=some x->ρ (k0+i)=x.2)->aTn P w ρ r
 rel:∀ρ k,ρ k=r.2->aR ρ (t k) (.slice a len cap)
 lvs:vs.length=len
 cB:ns.length=len
 aYy:∀i n,ns[i]?=some n->∀j,j<n->rL ks (at' i j)
 old:∀(G:Bg) k,k<G.base->G.old k=r.1->(∀i x,rs[i]?=some x->k0+i<G.base/\G.old (k0+i)=x.1)->
  zE G 1 (t k) len (fun i=>[vs.getD i undef])/\aGe G (t k) len/\∀i v n,vs[i]?=some v->ns[i]?=some n->zE G ks.length v n (at' i)/\aGe G v n
 nl:∀(i n:Nat),ns[i]?=some n->n<=maxLen
def aIo (P:Program) {len:Nat} (A:Nat) (h:M8 B w a len cap):∃r rs t vs ns at',aWe P w B A a len cap r rs t vs ns at':=by
 rcases h with⟨rfl,rfl,rfl⟩|⟨x,rfl,rfl⟩|⟨x,cc,e,O,rfl,h0,hs,hl,U,α,hf⟩;exact⟨(none,none),[],fun _=> .slice none 0 0,[],[],fun _ _=>[],⟨fun x T=>(by cases T),fun ρ _=>⟨fun o h=>FH,fun b s h=>FH⟩,fun ρ k _=>HD,rfl,rfl,fun i n f=>(by simp at f),fun G k _ _ _=>⟨⟨none,0,rfl,fun i c=>FA⟩,.inl ⟨rfl,rfl⟩,fun i v n p=>(by simp at p)⟩,fun i n f=>(by simp at f)⟩⟩;refine⟨(none,none),[],fun _=> .slice (some ⟨0,0,some 0⟩) 0 0,[],[],fun _ _=>[],⟨fun x T=>(by cases T),fun ρ _=>⟨fun o h=>FH,fun b s h=>FH⟩,fun ρ k _=>?_,rfl,rfl,fun i n f=>(by simp at f),fun G k _ _ _=>⟨⟨some ⟨0,0,some 0⟩,0,rfl,fun i c=>FA⟩,.inr<|.inl ⟨rfl,rfl⟩,fun i v n p=>(by simp at p)⟩,fun i n f=>(by simp at f)⟩⟩;simp only[aR];exact⟨trivial,trivial,x,cap,fun h=>FA,fun h=>FA,rfl⟩;have F:∀i,∃(y:OB×(Nat->Value)×(Nat->EU)×Nat×Value),i<len->cc.toList[x.off+i]?=some y.2.2.2.2/\aBk P w y.1/\(∀ρ k,ρ k=y.1.2->aR ρ (y.2.1 k) y.2.2.2.2)/\(∀j,j<y.2.2.2.1->rL B (y.2.2.1 j))/\
   (∀(G:Bg) k,k<G.base->G.old k=y.1.1->zE G B.length (y.2.1 k) y.2.2.2.1 y.2.2.1/\aGe G (y.2.1 k) y.2.2.2.1)/\y.2.2.2.1<=maxLen:=by
  intro i
  by_cases c:i<len
  .obtain⟨Z,X,c',q,R,h9⟩:=hf i c;obtain⟨r,t,S,h4,at',h5,h6⟩:=C0 P R;exact⟨(r,t,at',X,.slice Z X c'),fun _=>⟨q,S,h4,h5,h6,h9⟩⟩
  .exact⟨((none,none),fun _=>undef,fun _=>[],0,undef),fun h=>absurd h c⟩
 obtain⟨Y,D⟩:∃Y:Nat->OB×(Nat->Value)×(Nat->EU)×Nat×Value,∀i,i<len->cc.toList[x.off+i]?=some (Y i).2.2.2.2/\aBk P w (Y i).1/\(∀ρ k,ρ k=(Y i).1.2->aR ρ ((Y i).2.1 k) (Y i).2.2.2.2)/\(∀j,j<(Y i).2.2.2.1->rL B ((Y i).2.2.1 j))/\
   (∀(G:Bg) k,k<G.base->G.old k=(Y i).1.1->zE G B.length ((Y i).2.1 k) (Y i).2.2.2.1 (Y i).2.2.1/\aGe G ((Y i).2.1 k) (Y i).2.2.2.1)/\(Y i).2.2.2.1<=maxLen:=
  ⟨fun i=>(F i).choose,fun i c=>(F i).choose_spec c⟩
 have l:∀{α:Type} (g:Nat->α) (i:Nat) (z:α),((List.range len).map g)[i]?=some z->i<len/\z=g i:=by
  intro α g i z K;have c:i<len:=by have:=(eh.1 K).1;simpa using this
  rw[km,oV c] at K;simp only[rk,Option.some.injEq] at K;exact⟨c,K.symm⟩
 refine⟨(some<|.cells ((List.range cc.size).map fun j=>if x.off<=j/\j<x.off+len then(Y<|j - x.off).2.1 (A+(j - x.off)) else top) e O false,some (x.block,(0,0))),(List.range len).map fun i=>(Y i).1,fun k=> .slice (some ⟨k,x.off,none⟩) len cap,
     (List.range len).map fun i=>(Y i).2.1<|A+i,(List.range len).map fun i=>(Y i).2.2.2.1,fun i=>(Y i).2.2.1,⟨?_,?_,?_,FF,FF,?_,?_,fun i n f=>?_⟩⟩
 intro y hy;obtain⟨i,c,rfl⟩:=eV.1 hy;exact(D i<|z2.1 c).2.1;intro ρ hρ;refine⟨fun o ho b s I=>?_,fun b s I=>?_⟩;cases ho;cases I;refine⟨_,U,cc,rfl,?_,FF,fun h=>FH⟩;rw[l5,e6 FF];refine xw FF fun j u v J p=>?_;rw[km] at J;rw[oV<|by have:=(eh.1 p).1;simpa using this] at J;simp only[rk,Option.some.injEq] at J;subst J;split;obtain⟨q,_,S,_,_⟩:=D (j - x.off) FA;rw[show x.off+(j - x.off)=j by omega,p] at q;simp only[Option.some.injEq] at q;rw[q];refine S ρ _<|hρ (j - x.off) _ ?_;rw[km,oV FA];rfl;exact aMl;cases I;exact(hY.1 U).1;intro ρ k I;exact⟨x.block,(0,0),cap,I,b0 _,FF,by cases x;subst hs;rfl⟩;intro i n f j hj;obtain⟨c,rfl⟩:=l _ i n f;exact(D i c).2.2.2.1 j hj;intro G k W V E;refine⟨⟨_,_,rfl,fun i c=>⟨k,x.off,_,rfl,⟨W,e,O,false,V⟩,?_,FG⟩⟩,.inr<|.inr ⟨k,x.off,cap,_,e,O,rfl,h0,hl,W,V⟩,fun i v n p f=>?_⟩;rw[mn FG,BK,List.take_zero];have e1:((List.range len).map fun i=>(Y i).2.1<|A+i).getD i undef=(Y i).2.1 (A+i):=by
  rw[aP,km,oV c];rfl
 show[_]=[((List.range len).map fun i=>(Y i).2.1<|A+i).getD i undef];rw[e1];simp only[List.getElem_map,DU];rw[aac,show x.off+i*1 - x.off=i by omega];obtain⟨c,rfl⟩:=l _ i v p;obtain⟨_,rfl⟩:=l _ i n f;obtain⟨q,R⟩:=E i (Y i).1 (by rw[km,oV c];rfl);exact(D i c).2.2.2.2.1 G (A+i) q R;obtain⟨c,rfl⟩:=l _ i n f;exact(D i c).2.2.2.2.2
end Go.Ab
variable {p:Nat->Bool}
section
attribute [local irreducible] cE Br xE zJ Ba K1 sO D9 sF na mC tH yM yV yE pR Be dr bf dm Xy bu py qY vS oL nR Fs Qe rE Xn lz Hj Cl E5 pw A9 zV qJ kI fJ dX
namespace Go.Proofs.Z
open Go.Hm Go.At Go.Mc Go.Nt
def fE (q:Nat):EU:=[.func (.func 123) #[] #[IV q]]
instance:Fx fE 1:=⟨fun _=>rfl,fun _=>rfl⟩
abbrev fns (a:EX) (c:Nat) (l:EW):HP:=ls fE 1 93 a c l
def iR (F:eN):Nat->IA:=fun k=>F (k/4)<|k % 4
def Et (F:eN):Nat->Nat
 |0=>0
 |n+1=>Et F n+(iR F n).length
def Zu {F:eN} (a:∀c w,(F c w).length<=500):∀n,Et F n<=500*n
 |0=>b0 _
 |n+1=>by
  have b:=Zu a n;have e:=a (n/4)<|n % 4;show Et F n+(F (n/4)<|n % 4).length<=_;omega
def aJ9 {done:EW} {y:Nat} (h:done++[y]<+:l):done.length<l.length/\l.getD done.length 0=y:=by
 obtain⟨t,rfl⟩:=h;refine⟨FF,?_⟩;simp[aP]
variable {G:Bg} {h:AH} {M:IB} {C:bQ}
abbrev Zl:Nat->Nat->IA->HP:=fun _ q l=>vnR q l
def aVu (e:Hs G h L) [m:eB (fns a c) L l L'] (g:i<l.length) (q:k (.func (.func 123) #[] #[IV<|l.getD i 0])):cE (qY 1 (.slice a l.length c)<|I i) fun p=>cE (xE h p) k:=by
 have r:l[i]?=some (l.getD i 0):=by rw[aP,bj g];rfl
 have e:Hs G h (dY 1 93 a c (l.length,eL fE l)::L'):=m.of e;obtain⟨b,o,rfl,f⟩:=e.jV FA;refine fD g ?_;rw[show pt b (o+i*1) 0=pt b o (i*1) by simp[pt]];have e2:(eL fE l)[i*1]?=some (.func (.func 123) #[] #[IV<|l.getD i 0]):=Z8 (enc:=fE) (W:=1) (j:=0) r rfl;exact aE (b:=b) (o:=o) (j:=i*1) f e2 q
def xm (z:Nat) (l:EW):HP:=A5 fun x:EX×Nat=>sp [aN z 0 [.slice x.1 l.length x.2],fns x.1 x.2 l]
variable {F:eN}
def aOj {f:Nat} {t:Value} (hC:C.Ok) (z:∀c w,(F c w).length<=500) (A:(i:Int)<C.aB)
  (B:∀b a c o,b.length=4*i+4->Hs G o (fns a c b::wF Zl b (iR F)::tF C f F::L)->Dd 81 6 [] Q [IV f,.slice a b.length c,t,I i] o):
  ∀(g w:Nat) (b:EW) (a:EX) (c:Nat) (h:AH),w+g=4->b.length=4*i+w->Hs G h (fns a c b::wF Zl b (iR F)::tF C f F::L)->Dd 81 4 [] Q [IV f,.slice a b.length c,I i,t,I i,I w] h:=by
 have J:=hC.1
 intro g
 induction g with
 |zero=>
  intro w b a c h D p j
  exact bW (bE<|aab<|B b a c h FA j)
 |succ g E=>
  intro w b a c h D p j
  refine bW<|bE<|aae<|bW<|my (C:=C) (F:=F) (x:=i) (y:=w) hC z A FA j fun q h j=>?_
  have v:iR F b.length=F i w:=by
   unfold iR;rw[p,show(4*i+w)/4=i by omega,show(4*i+w) % 4=w by omega]
  have j:Hs G h (Zl b.length q (iR F b.length)::tF C f F::fns a c b::wF Zl b (iR F)::L):=by rw[v];exact j.to
  refine aZ (c:=fE q) rfl<|dV (W:=1) (n:=1) (c:=1) j rfl rfl rfl fun k h j=>?_
  have j:=tB (enc:=fE) (W:=1) (e:=93) (x:=q) j
  refine qT (enc:=fE) (W:=1) (e:=93) (l:=b) (l2:=[q]) (a:=a) (c:=c) (a2:=some k) (c2:=1) j FG fun r u h j=>?_
  have j:=Qt (R:=Zl) (l:=b) (q:=q) (s:=iR F)<|j.dC (Zl b.length q<|iR F b.length)<|wF Zl b<|iR F
  exact aad<|E (w+1) (b++[q]) r u h FA FG j.to
def aLq {f:Nat} (hC:C.Ok) (q:∀c w,(F c w).length<=500) (k:Hs G h L) [m:eB (tF C f) L F L']
  (u:∀z j l,j.length=4*C.aB.toNat->Hs G l (xm z j::wF Zl j (iR F)::tF C f F::L')->Q (.func (.func 172) #[] #[IV z]) l):IU 81 [IV f] h Q:=by
 have B:=hC.1
 have loop:∀(g i:Nat) (j:EW) (a:EX) (c:Nat) (h:AH),i+g=C.aB.toNat->j.length=4*i->Hs G h (fns a c j::wF Zl j (iR F)::tF C f F::L')->Dd 81 2 [] Q [IV f,.slice a j.length c,I C.aB,I i] h:=by
  intro g;induction g with
  |zero=>
   intro i j a c h r p k;refine bW<|bE<|aab<|cW<|eT k fun z h k=>u z j h FA ?_;exact Hs.Cn (A:=fun x:EX×Nat=>sp [aN z 0 [.slice x.1 j.length x.2],fns x.1 x.2 j]) (a,c) k.F4
  |succ g y=>
   intro i j a c h r p k;refine bW<|bE<|aae<|bW ?_;refine aOj (f:=f) (i:=i) (t:=I C.aB) hC q FA (fun j a c h p k=>?_) 4 0 j a c h rfl FA k;exact bW<|aad<|y (i+1) j a c h FA FA k
 obtain⟨pl,k⟩:=Hy<|m.of k
 refine cW<|cu<|gF<|bW<|aC<|aA<|aA<|am f k (v:=I C.aB) rfl ?_
 have k:=wY (enc:=fE) (W:=1) (e:=93)<|Rg (R:=Zl) (s:=iR F)<|rV k
 exact loop C.aB.toNat 0 [] none 0 h FA rfl k
def aQn {z:Nat} (hb:l.length<=1000):yy Pr K G 172 [] [IV z] (xm z l) (l.map fE):=by
 intro p J y L h Q e D r s;obtain⟨⟨a,c⟩,e⟩:=e.Fl;have e:=e.Fk;have g:∀{h:AH} {M:IB},Hs G h (aN z 0 [.slice a l.length c]::fns a c l::M)->Hs G h (xm z l::M):=fun e=>Hs.Cn (A:=fun x:EX×Nat=>sp [aN z 0 [.slice x.1 l.length x.2],fns x.1 x.2 l]) (a,c) e.F4;refine cW<|am z e rfl<|dB ?_;have loop:∀(f i:Nat) (h:AH),i+f=l.length->Hs G h (aN z 0 [.slice a l.length c]::fns a c l::p ((l.drop i).map fE)::L)->Dd 172 1 [] Q [y,.slice a l.length c,I l.length,I i] h:=by
  intro f;induction f with
  |zero=>
   intro i h u e;rw[eg FA] at e;exact bW (bE<|aab<|r _ _<|g e)
  |succ f E=>
   intro i h u e;have j:i<l.length:=FA
   have t:l.drop i=l.getD i 0::l.drop (i+1):=by rw[mn j,aP,bj j];rfl
   rw[t,kd] at e;refine bW<|bE<|aae<|bW<|aVu (l:=l) (a:=a) (c:=c) e j ?_;refine(D _ _ h _<|e.bF<|p (fE (l.getD i 0)::((l.drop<|i+1).map fE))).mono fun v q B=>?_;rcases B with⟨rfl,k⟩|⟨rfl,k⟩;exact cX<|cS<|bW<|aad<|E (i+1) q FA k.to;exact cX<|gF<|s _ _<|g k.to
 exact loop l.length 0 h FA (by rw[l5];exact e)
abbrev flX (p:Nat) (e:Nat->Value) (d l:Nat) (a:EW) (F:eN) (done:EW):HP:=sp [pG Pr 40 (qM 58) 13 e d l (.ready,none),aN p 0 [I<|Et F done.length],wF Zl a<|iR F]
abbrev flY (p n:Nat) (e e2:Nat->Value) (d l l2:Nat) (done:IA):HP:=sp [pG Pr 40 (qM 938) 13 e2 d l2 (.ready,none),pG Pr 40 (qM 58) 13 e d l (.busy,none),aN p 0 [I (n+done.length:Nat)]]
theorem aCf {f:Nat} (hC:C.Ok) (B:∀c w,(F c w).length<=500) (a:Hs G h L) [m:eB (tF C f) L F L']
  (hk:∀O,Hs G O (tF C f F::L')->Q (I<|Et F<|4*C.aB.toNat) O):IU 40 [IV f] h Q:=by
 have hc:=hC.1
 refine cW<|cK (m.of a) fun p h a=>ax (b:=p) a fun h a=>aLq (C:=C) (F:=F) hC B a fun z g h J a=>?_
 refine oE a fun d h a=>?_
 intro e he
 refine rI a fun l h a=>xQ rfl ?_
 have a:Hs G h (xm z g::flX p e d l g F []::mk d ()::tF C f F::L'):=by
  have a:=(a.dR (pG Pr 40 (qM 58) 13 e d l (.ready,none)) (aN p 0 [I 0])<|wF Zl g<|iR F).Vc;have a:Hs G h (flX p e d l g F []::_):=a;exact a.to
 refine(aQn (z:=z) (l:=g) FA).Nf (X:=flX p e d l g F) (Z:=fun _ _=>Dm False) a ?_ ?_ ?_
 .intro done y h N T a;have a:=a.E4;obtain⟨r,V⟩:=aJ9 T;have a:=kT (R:=Zl) (l:=g) (s:=iR F) r a;rw[V] at a;refine rW (yH a) he<|kY a fun h a=>aB6 a ?_;intro e2 D;refine rI a fun u h a=>xQ rfl ?_;have a:Hs G h (vnR y (iR F done.length)::flY p (Et F done.length) e e2 d l u []::Mk Zl g (iR F) done.length::N):=by
   have a:=(a.dR (pG Pr 40 (qM 938) 13 e2 d u (.ready,none)) (pG Pr 40 (qM 58) 13 e d l (.busy,none))<|aN p 0 [I<|Et F done.length]).Vc;exact a.to
  have S:(iR F done.length).length<=500:=B _ _
  have U:=Zu B done.length
  refine(aUw (q:=y) (l:=iR F done.length) FA).Nf (X:=flY p (Et F done.length) e e2 d l u) (Z:=fun _ _=>Dm False) a ?_ ?_ ?_
  .intro k x h N t a;have a:=a.E4;have α:k.length<=500:=by have:=t.length_le;simp at this;omega
   refine rW (yH a) D<|kY a fun h a=>am p a rfl<|aad<|ax (b:=p) a fun h a=>lJ a fun h a=> .inl ⟨rfl,?_⟩
   have A:((Et F done.length+k.length:Nat):Int)+1=((Et F done.length+(k++[x]).length:Nat):Int):=FG
   rw[A] at a
   exact((a.dR (pG Pr 40 (qM 938) 13 e2 d u (.ready,none)) (pG Pr 40 (qM 58) 13 e d l (.busy,none))<|aN p 0 [I (Et F done.length+(k++[x]).length:Nat)]).Vc).to
  .intro v h a;have a:=(a.bF<|flY p (Et F done.length) e e2 d l u<|iR F done.length).E4;refine qZ a fun h a=>rC<|lJ a fun h a=> .inl ⟨rfl,?_⟩;have A:Et F done.length+(iR F done.length).length=Et F (done++[y]).length:=by rw[cV];rfl
   rw[A] at a
   have Y:vnR y (iR F done.length)=Zl done.length (g.getD done.length 0) (iR F done.length):=by rw[V]
   rw[Y] at a
   have a:=Hx (R:=Zl) (l:=g) (s:=iR F) (i:=done.length) (x:=iR F done.length) r<|a.dC (Zl done.length (g.getD done.length 0)<|iR F done.length)<|Mk Zl g (iR F) done.length
   have W:(fun j=>if j=done.length then iR F done.length else iR F j)=iR F:=by funext j;split<;>simp_all
   rw[W] at a
   exact((a.dR (pG Pr 40 (qM 58) 13 e d l (.ready,none)) (aN p 0 [I<|Et F (done++[y]).length])<|wF Zl g<|iR F).Vc).to
  .intro k x v h t a;obtain⟨E,a⟩:=(a.bF<|Dm False).yv;exact E.elim
 .intro v h a;have a:=(a.bF<|flX p e d l g F g).E4;rw[J] at a;exact qZ a fun h a=>rC<|am p a rfl<|qP a fun h a=>oA<|hk _ a.to
 .intro done y v h T a;obtain⟨E,a⟩:=(a.bF<|Dm False).yv;exact E.elim
end Go.Proofs.Z
namespace Go.Proofs.Z
open Go.Hm Go.At Go.Mc Go.Ct Go.Nt
def Wy {F:eN}:∀n,((List.range n).flatMap fun c=>(List.range 4).flatMap fun w=>F c w).length=Et F (4*n)
 |0=>rfl
 |n+1=>by
  rw[dx (n:=n),l9,cV,Wy n];have e:Et F (4*(n+1))=Et F (4*n)+(F n 0).length+(F n 1).length+(F n 2).length+(F n 3).length:=by
   show Et F (4*n)+(F ((4*n)/4)<|(4*n) % 4).length+(F ((4*n+1)/4)<|(4*n+1) % 4).length+(F ((4*n+2)/4)<|(4*n+2) % 4).length+(F ((4*n+3)/4)<|(4*n+3) % 4).length=_;rw[show(4*n)/4=n by omega,show(4*n) % 4=0 by omega,show(4*n+1)/4=n by omega,show(4*n+1) % 4=1 by omega,show(4*n+2)/4=n by omega,show(4*n+2) % 4=2 by omega,show(4*n+3)/4=n by omega,show(4*n+3) % 4=3 by omega]
  have e2:(([n]:EW).flatMap fun c=>(List.range 4).flatMap fun w=>F c w).length=(F n 0).length+(F n 1).length+(F n 2).length+(F n 3).length:=by
   simp[dx];omega
  rw[e,e2];omega
def aKj (a:i<n) (h:p i=false):(List.range n).all p=false:=by
 rw[List.all_eq_false];exact⟨i,z2.2 a,by rw[h];decide⟩
def aA1 (h:∀i,i<n->p i=true):(List.range n).all p=true:=ss.2 fun i a=>h i<|z2.1 a
variable {G:Bg} {h:AH} {Cf:bQ} {M:bR}
theorem Nb (hC:Cf.Ok) (hG:Gb G) (hL:uk Cf M.cB) (hi:Bb Cf M.aK (2^30)) (k:Hs G h L) [mm:eB (cD G Cf m) L M L'] (r:∀W,Hs G W (cD G Cf m M::L')->Q (.bool<|M.over Cf) W):IU 19 [IV m] h Q:=by
 have hc:=hC.1;have β:=bQ.fC hC;have v:=hL.Vl hC;have D:=Wy (F:=M.cB) Cf.aB.toNat;have X:=Zu v<|4*Cf.aB.toNat;obtain⟨x,q,k⟩:=dN<|mm.of k;refine cW<|dM<|cS<|aC<|aA<|am m k rfl<|aCf (C:=Cf) (F:=M.cB) hC v k fun h k=>?_;have k:=bY (m:=m) (x:=x) M q k;unfold bR.over bR.pg at r;refine oT<|bG (fun h1=>?_) fun h1=>bW ?_;rw[cM fun e=>by rw[e] at D;simp at D;omega,sr,sr] at r;exact r _ k;rw[cL<|g6 FA,AK] at r;have aF:∀(f l:Nat) (h:AH),(List.range Cf.aB.toNat).all (fun i=>(M.aD i).over&& !(M.bT i).pO&& !(M.aU i).dP)=true->l+f=Cf.aF->(∀j,j<l->(M.aK j).1.aH=[])->Hs G h (cD G Cf m M::L')->Dd 19 6 [] Q [IV m,I Cf.aF,I l] h:=by
  intro f;induction f with
  |zero=>
   intro l h E U y k;rw[E,AK,aA1 fun j u=>cL<|y j FA] at r;exact bW (bE<|aab<|r _ k)
  |succ f V=>
   intro l h E U y k;obtain⟨x,q,k⟩:=dN k;refine bW<|bE<|aae<|bW<|aC<|aA<|am m k rfl<|H.aHt (C:=Cf) (H:=M.aK) (x:=l) k fun k=>?_;have k:=bY (m:=m) (x:=x) M q k;have e:Lv Cf M.aK l=(M.aK l).1.aH.length:=by unfold Lv;rw[bA1 GM,aM]
   rw[e];refine oT<|bG (fun O=>?_) fun O=>bW<|aad<|V (l+1) h E FA (fun j u=>?_) k;rw[E,AK,aKj (i:=l) FA<|cM fun e=>by rw[e] at O;simp at O] at r;exact r _ k;by_cases e:j=l;subst e;exact g6 FA;exact y j FA
 have aB:∀(f i:Nat) (x:MN) (h:AH),qh Cf x->i+f=Cf.aB.toNat->(∀j,j<i->((M.aD j).over&& !(M.bT j).pO&& !(M.aU j).dP)=true)->Hs G h (vB G Cf m x M::L')->Dd 19 2 [] Q [IV m,.slice x.ac x.lc.length x.cc,I x.lc.length,I i] h:=by
  intro f;induction f with
  |zero=>
   intro i x h q T y k;have α:=q.1;refine bW<|bE<|aab<|bW ?_;obtain⟨q,k⟩:=nV k;refine aC<|aA<|kR (b:=m) (o:=0) k FC (l:=Cf.enc) rfl rfl<|uU (C:=Cf) hC hG.Ng k fun h k=>?_;have k:=bY (m:=m) (x:=x) M q k;exact aF Cf.aF 0 h (aA1 fun j u=>y j FA) FA (fun j u=>FA) k
  |succ f V=>
   intro i x h q T y k;obtain⟨_,k⟩:=nV k;obtain⟨l1,Y,l3⟩:=q;have B:i<x.lc.length:=FA
   have z:i<x.lk.length:=FA
   have A:i<x.lq.length:=FA
   refine bW<|bE<|aae<|bW<|Ka k B<|aC<|aA<|am m k rfl<|Nr k z ?_;have k:=kT (R:=wQ G Cf) (l:=x.lk) (s:=M.bT) z k;refine C.aGu (C:=Cf) (core:=i) (c:=x.lk.getD i 0) (s:=M.bT i) k fun h k=>aQ rfl<|aQ rfl<|aQ rfl ?_;have k:=Hx (R:=wQ G Cf) (l:=x.lk) (s:=M.bT) (i:=i) (x:=M.bT i) z<|k.dC (C.lR G (x.lk.getD i 0) Cf i<|M.bT i)<|Mk (wQ G Cf) x.lk M.bT i;have Z:(fun j=>if j=i then M.bT i else M.bT j)=M.bT:=by funext j;split<;>simp_all
   rw[Z] at k;refine aC<|aA<|am m k rfl<|Ov k A ?_;have k:=kT (R:=wM Cf) (l:=x.lq) (s:=M.aU) A k;refine r8 (C:=Cf) (p:=x.lq.getD i 0) (s:=M.aU i) k fun g a h k=>aQ rfl<|aQ rfl<|aQ rfl ?_;have k:=Bm (Cf:=Cf) (l:=x.lq) (s:=M.aU) (i:=i) (t:=M.aU i) A k;rw[cY] at k;refine Z9 (l:=x.lc) (S:=M.aD) B k ?_;have k:=tI (m:=m) (x:=x) M ⟨l1,Y,l3⟩ k;have no:((M.aD i).over&& !(M.bT i).pO&& !(M.aU i).dP)=false->Q (.bool false) h:=fun e=>by
    rw[aKj (i:=i) FA e,sr] at r;exact r _<|q9 k
   refine cX (fM<|eA (fun a1=>eA (fun J=>no<|by rw[J];simp) fun J=>eA (fun a3=>no<|by rw[a3];simp) fun a3=>bW<|aad ?_) fun a1=>no<|by rw[a1];rfl);refine V (i+1) x h ⟨l1,Y,l3⟩ FA (fun j u=>?_) k;by_cases e:j=i;subst e;rw[a1,J,a3];rfl;exact y j FA
 obtain⟨x,k⟩:=bg k;obtain⟨q,k⟩:=nV k;refine aC<|aA<|am m k rfl<|dB ?_;have k:=tI (m:=m) (x:=x) M q k;exact aB Cf.aB.toNat 0 x h q FA (fun j y=>FA) k
end Go.Proofs.Z
namespace Go.Proofs.Z.H
open Go.Hm Go.Mc
def Fg (H:nD) (l:Nat):Bool:= !(H l).1.busy&&decide ((H l).1.aH≠[])
def mQ (H:nD) (n:Nat):EW:=(List.range n).filter fun l=>Fg H l
def aOa {H:nD}:mQ H (n+1)=mQ H n++if Fg H n then [n] else []:=by
 unfold mQ;rw[dx,AJ,DB,EN]
def fe {H:nD}:(mQ H n).length<=n:=by
 unfold mQ;have:=qv (fun l=>Fg H l)<|List.range n;simp at this;exact this
variable {G:Bg} {h:AH}
def jr (G:Bg) (C:bQ) (q hb:Nat) (H:nD):HP:=sp [aN q 0 [IV hb],jJ G hb C H]
def zU (H:nD):Nat->Nat->EW
 |0,_=>[]
 |f+1,i=>if Fg H i then i::zU H f (i+1) else zU H f (i+1)
def aA2 {H:nD}:∀(f i:Nat),mQ H (i+f)=mQ H i++zU H f i
 |0,i=>by simp[zU]
 |f+1,i=>by
  have:=aA2 (H:=H) f<|i+1;rw[show i+(f+1)=i+1+f by omega,this,aOa];show _=_++(if Fg H i then i::zU H f (i+1) else zU H f (i+1));split<;>simp
def aRn {C:bQ} {H:nD} (O:C.aF<=1000):yy Pr K G 94 [] [IV q] (jr G C q hb H) ((mQ H C.aF).map fun l:Nat=>[I l]):=by
 intro A J y L h Q k X T U;have k:=k.Fk;have k:Hs G h (jJ G hb C H::aN q 0 [IV hb]::A ((mQ H C.aF).map fun l:Nat=>[I l])::L):=k.pS;obtain⟨r,b,o,p,k⟩:=sN k;have R:mQ H C.aF=zU H C.aF 0:=by
  have:=aA2 (H:=H) C.aF 0;rw[AB] at this;rw[this];rfl
 rw[R] at k;have s:∀{h:AH} {B:HP},Hs G h (eP C.aF (fun i=>gH b (o+i*25) (H i).1)::aN q 0 [IV hb]::aN hb 0 (pT r C b o p)::gQ G C.aF r C (fun i=>(H i).2)::gJ G 25 187 (some ⟨b,o,none⟩) p C.aF b o::B::L)->Hs G h (jr G C q hb H::B::L):=fun {h B} k=>by
  have k:=D1 C H hb r b o p k;exact(k.dC (aN q 0 [IV hb])<|jJ G hb C H).F4
 have loop:∀(f i:Nat) (h:AH),i+f=C.aF->Hs G h (eP C.aF (fun i=>gH b (o+i*25) (H i).1)::aN q 0 [IV hb]::aN hb 0 (pT r C b o p)::gQ G C.aF r C (fun i=>(H i).2)::gJ G 25 187 (some ⟨b,o,none⟩) p C.aF b o::A ((zU H f i).map fun l:Nat=>[I l])::L)->
   Dd 94 2 [] Q [y,.slice (some ⟨b,o,none⟩) C.aF p,I C.aF,I i] h:=by
  intro f
  induction f with
  |zero=>
   intro i h V k
   exact bW (bE<|aab<|T _ _<|s k)
  |succ f E=>
   intro i h V k
   have D:i<C.aF:=FA
   have k:=Ld (H:=H) (b:=b) (o:=o) D k
   obtain⟨u,x,k⟩:=fN k
   refine bW<|bE<|aae<|bW<|fD D<|bB (b:=b) (o:=o+i*25) k FC (l:=(H i).1.enc u x) rfl rfl<|cK k fun F h k=>ax (b:=F) k fun h k=>?_
   have vL:∀{h:AH} {B:HP} {M:IB},Hs G h (B::aN b (o+i*25) ((H i).1.enc u x)::dY 9 185 u x ((H i).1.aH.length,iL (H i).1.aH)::Ez b o C.aF H i::aN q 0 [IV hb]::aN hb 0 (pT r C b o p)::gQ G C.aF r C (fun i=>(H i).2)::gJ G 25 187 (some ⟨b,o,none⟩) p C.aF b o::M)->
     Hs G h (eP C.aF (fun i=>gH b (o+i*25) (H i).1)::aN q 0 [IV hb]::aN hb 0 (pT r C b o p)::gQ G C.aF r C (fun i=>(H i).2)::gJ G 25 187 (some ⟨b,o,none⟩) p C.aF b o::B::M):=fun {h B M} k=>by
    have k:=nQ (H i).1 (a:=u) (c:=x)<|k.dC (aN b (o+i*25)<|(H i).1.enc u x)<|dY 9 185 u x ((H i).1.aH.length,iL (H i).1.aH)
    have k:=Hs.aFm (i:=i) (f:=fun i=>gH b (o+i*25) (H i).1) (g:=fun i=>gH b (o+i*25) (H i).1) D (fun j _=>rfl)<|k.dC (gH b (o+i*25) (H i).1)<|Ez b o C.aF H i
    exact k.to
   refine aA<|am F k rfl<|cX<|fM<|eA (fun z=>?_) fun z=>?_
   .have e:zU H (f+1) i=zU H f (i+1):=by
     show(if Fg H i then _ else _)=_;rw[bA0<|by unfold Fg;rw[z];simp]
    rw[e] at k
    exact aad<|E (i+1) h FA<|vL k.to
   .refine aA (am F k rfl<|dB<|oT<|bG (fun c2=>?_) fun c2=>?_)
    .have e:zU H (f+1) i=i::zU H f (i+1):=by
      show(if Fg H i then _ else _)=_;rw[bA1<|by unfold Fg;rw[z];simp;intro e;rw[e] at c2;simp at c2]
     rw[e,kd] at k
     refine(X _ _ h _<|k.bF<|A ([I i]::(zU H f<|i+1).map fun l:Nat=>[I l])).mono fun v S W=>?_
     rcases W with⟨rfl,t⟩|⟨rfl,t⟩
     .exact cX (cS<|bW<|aad<|E (i+1) S FA<|vL t.to)
     .exact cX (gF<|U _ _<|s<|vL t.to)
    .have e:zU H (f+1) i=zU H f (i+1):=by
      show(if Fg H i then _ else _)=_;rw[bA0<|by unfold Fg;rw[z];simp;exact g6 FA]
     rw[e] at k
     exact aad<|E (i+1) h FA<|vL k.to
 refine cW<|am q k rfl<|dM<|cS<|bW<|am q k rfl<|aC<|aA<|am hb k rfl<|dB ?_;exact loop C.aF 0 h FA k.to
def P7 (x:Int):EU:=[I x]
instance:Fx P7 1:=⟨fun _=>rfl,fun _=>rfl⟩
def aKi {l:EV}:eL P7 l=l.map I:=by
 induction l with
 |nil=>rfl
 |cons a l b=>rw[uV,b];rfl
def pI (l:EW):EV:=l.map fun x:Nat=>(x:Int)
abbrev hrX (p:Nat) (e:Nat->Value) (d l:Nat) (done:EW):HP:=A5 fun x:EX×Nat=>sp [pG Pr 28 (qM 58) 14 e d l (.ready,none),aN p 0 [.slice x.1 (pI done).length x.2],ls P7 1 3 x.1 x.2<|pI done]
theorem mc {C:bQ} {H:nD} (g:C.aF<=1000) (f:Hs G h L) [E:eB (jJ G hb C) L H L']
  (D:∀q a c r,Hs G r (Tv 3 q a c (pI<|mQ H C.aF)::jJ G hb C H::L')->Q (.func (.func 87) #[] #[IV q]) r):IU 28 [IV hb] h Q:=by
 refine cW<|cK (E.of f) fun p h f=>cW<|eT f fun q h f=>oE f fun d h f=>?_
 intro e z
 refine rI f fun l h f=>xQ rfl ?_
 have f:=wY (enc:=P7) (W:=1) (e:=3) f
 have f:Hs G h (jr G C q hb H::hrX p e d l []::mk d ()::L'):=by
  have f:=(f.dR (pG Pr 28 (qM 58) 14 e d l (.ready,none)) (aN p 0 [.slice none 0 0])<|ls P7 1 3 none 0 []).Vc;have f:Hs G h (hrX p e d l []::_):=Hs.Cn (A:=fun x:EX×Nat=>sp [pG Pr 28 (qM 58) 14 e d l (.ready,none),aN p 0 [.slice x.1 (pI []).length x.2],ls P7 1 3 x.1 x.2<|pI []]) (none,0) f;have f:=(f.dC (aN q 0 [IV hb])<|jJ G hb C H).F4;have f:Hs G h (jr G C q hb H::_):=f;exact f.to
 refine(aRn (C:=C) (q:=q) (hb:=hb) (H:=H) g).Nf (X:=hrX p e d l) (Z:=fun _ _=>Dm False) f ?_ ?_ ?_
 .intro done y h N t f;have s:done.length<=1000:=by
   have:=t.length_le;have:=fe (H:=H) (n:=C.aF);simp at*;omega
  obtain⟨⟨a,c⟩,f⟩:=f.Fl
  have f:=f.E4
  refine rW (yH f) z<|kY f fun h f=>am p f rfl<|aZ (c:=[I y]) rfl<|dV (W:=1) (n:=1) (c:=1) f rfl rfl rfl fun k h f=>?_
  have f:=tB (enc:=P7) (W:=1) (e:=3) (x:=(y:Int)) f
  refine qT (enc:=P7) (W:=1) (e:=3) (l:=pI done) (l2:=[(y:Int)]) (a:=a) (c:=c) (a2:=some k) (c2:=1) f (by simp[pI];omega) fun i j h f=>ax (b:=p) f fun h f=>lJ f fun h f=> .inl ⟨rfl,?_⟩
  have e2:pI done++[(y:Int)]=pI (done++[y]):=by simp[pI]
  rw[e2] at f
  have f:=(f.dR (pG Pr 28 (qM 58) 14 e d l (.ready,none)) (aN p 0 [.slice i (pI<|done++[y]).length j])<|ls P7 1 3 i j<|pI<|done++[y]).Vc
  have f:Hs G h (hrX p e d l (done++[y])::_):=Hs.Cn (A:=fun x:EX×Nat=>sp [pG Pr 28 (qM 58) 14 e d l (.ready,none),aN p 0 [.slice x.1 (pI<|done++[y]).length x.2],ls P7 1 3 x.1 x.2<|pI<|done++[y]]) (i,j) f
  exact f.to
 .intro v h f;obtain⟨⟨a,c⟩,f⟩:=(f.bF<|hrX p e d l<|mQ H C.aF).Fl;have f:=f.E4;refine qZ f fun h f=>rC<|am p f rfl ?_;have f:=f.bF<|ls P7 1 3 a c<|pI<|mQ H C.aF;have u:ls P7 1 3 a c (pI<|mQ H C.aF)=dY 1 3 a c ((pI<|mQ H C.aF).length,(pI<|mQ H C.aF).map I):=by unfold ls;rw[aKi]
  rw[u] at f
  refine Oz (e:=3) (xs:=pI<|mQ H C.aF) rfl f fun q2 h f=>qP f fun h f=>oA<|D q2 a c _ ?_
  have f:=(f.bF<|jr G C q hb H).Fk
  exact f.to
 .intro done y v h t f;obtain⟨B,f⟩:=(f.bF<|Dm False).yv;exact B.elim
end Go.Proofs.Z.H
end
