/- A part of the proof. -/
import Derived.Test.YtgfankkobgfhnaaGreatDoorG11
import Derived.Test.YtgfankkobgfhnaaGreatDoorG9
import Derived.Test.YtgfankkobgfhnaaGreatDoorG8
set_option linter.all false
set_option maxRecDepth 100000
open Go Go.Ab
variable {L L' M:IB} {Q:Value->AH->Prop} {a a2:EX} {c c2 f j n p q y:Nat} {g w x:Int} {v:Value} {pl:Nat->Nat}
section
attribute [local irreducible] cE Br xE zJ Ba K1 sO D9 sF na mC tH yM yV yE pR Be dr bf dm Xy bu py qY vS oL nR Fs Qe rE Xn lz Hj Cl E5 pw A9 zV qJ kI fJ dX
namespace Go.Proofs.Z
open Go.Hm Go.At Go.Mc
variable {s:jL}
section
def aS0 (m:Nat):(iE [I 0,I 0] m).length=m*2/\(iE [I 0,I 0] m).all gM=true:=by
 have:iE [I 0,I 0] m=eL eZ (List.replicate m (0,0)):=by
  induction m with
  |zero=>rfl
  |succ m a=>rw[AR,uV,<-a];rfl
 rw[this];exact⟨by rw[J1,List.length_replicate],Tz⟩
variable {G:Bg} {h:AH} {C:bQ}
def sf {l:List (Int×Int)} (n:0<l.length) (d:Hs G h L) [m:eB (ls eZ 2 329 a c) L l L']
  (y:∀k,Hs G k (ls eZ 2 329 a c (l.drop 1)::L')->Q (.slice a (l.drop 1).length c) k):IU 250 [.slice a l.length c,I 0,I 1] h Q:=by
 have d:Hs G h (dY 2 329 a c (l.length,eL eZ l)::L'):=m.of d
 have f:l.length<=c:=by
  obtain⟨r,A,⟨_,_,z⟩,_⟩:=d.fst;rcases z with⟨j,_⟩|⟨j,_⟩|⟨f,_⟩;simp only at j;omega;simp only at j;omega;exact f
 obtain⟨b,o,w,_⟩:=d.uZ n
 refine cW<|dB ?_
 refine qy (v:= .slice (some ⟨b,o+0*2,none⟩) (0+1 - 0) (l.length - 0)) ?_ ?_
 .subst w;have q:sW (some<|I l.length) c c=some l.length:=FQ
  have t:sW (some<|I 1) l.length l.length=some 1:=by simp only[sW];rw[aac];rfl
  have u:sW (some<|I 0) 0 1=some 0:=by simp only[sW];rw[aac];rfl
  have g:¬l.length=0:=FA
  simp only[Fs,q,t,u,AZ,sr,dn,aO,dd,g,fA]
  rw[aac]
 refine cC<|aab<|bW<|dB<|bI d ?_
 intro r h d
 refine aPo (i:=0) FC rfl rfl n d ?_
 intro h d
 have e:(eL eZ l).take (0*2)++(eL eZ l).drop ((0+1)*2)=eL eZ (l.drop 1):=by rw[Yy];simp
 rw[e] at d
 have:=y h
 rw[oH] at this
 refine this ?_
 unfold ls
 rw[oH]
 exact d.to
def aJ7 {x:Int×Int} (hC:C.Ok) (hb:s.bN.length<=100) (d:Hs G h L) [m:eB (pL p C) L s L'] (g:∀t,Hs G t (pL p C (s.Bo C x)::L')->Q (.tuple ⟨[]⟩) t):IU 210 [IV p,.agg ⟨eZ x⟩] h Q:=by
 have v:1<=C.lH/\C.lH<=8:=hC.2.2.2.2.2.1;obtain⟨a,c,d⟩:=pV<|m.of d;unfold jL.Bo at g;refine cW<|eT d fun q h d=>bI d fun w h d=>?_;refine aC<|aA<|am p d rfl<|dB<|aC<|aA<|am p d rfl<|fX<|bG (fun n=>?_) fun n=>?_;rw[bA1 n] at g;refine bW<|aC<|aA<|am p d rfl<|sf (a:=a) (c:=c) (l:=s.bN) FA d fun h d=>?_;refine aC<|aA<|ay (b:=p) (o:=0) d fun h d=>bI d fun u h d=>aC<|aA<|am p d rfl<|an q d (l:=eZ x) rfl rfl<|aZ (c:=eZ x) rfl<|oS (i:=6) (N:=11) (D:=[]) d rfl rfl rfl rfl rfl fun f h d=>?_;refine qT (enc:=eZ) (W:=2) (e:=329) (a:=a) (c:=c) (l:=s.bN.drop 1) (a2:=some f) (c2:=1) (l2:=[x]) (show Hs G h (ls eZ 2 329 (some f) 1 [x]::_) from d) FG fun j k h d=>?_;refine aC<|aA<|ay (b:=p) (o:=0) d fun h d=>cR dG<|g _ ?_;exact(fZ p C {s with bN:=s.bN.drop 1++[x]} (a:=j) (c:=k) d rfl rfl).to;rw[bA0 n] at g;refine bI d fun u h d=>aC<|aA<|am p d rfl<|an q d (l:=eZ x) rfl rfl<|aZ (c:=eZ x) rfl<|oS (r:=u) (i:=6) (N:=11) (D:=[]) d rfl rfl rfl rfl rfl fun f h d=>?_;refine qT (enc:=eZ) (W:=2) (e:=329) (a:=a) (c:=c) (l:=s.bN) (a2:=some f) (c2:=1) (l2:=[x]) (show Hs G h (ls eZ 2 329 (some f) 1 [x]::_) from d) FG fun j k h d=>?_;refine aC<|aA<|ay (b:=p) (o:=0) d fun h d=>cR dG<|g _ ?_;exact(fZ p C {s with bN:=s.bN++[x]} (a:=j) (c:=k) d rfl rfl).to
def aDw {at':Int} (hC:C.Ok) (hb:s.bN.length<=100) (H:0<=s.aS/\s.aS<C.aJ) (R:0<=w/\w<=1000000) (d:Hs G h L) [m:eB (pL p C) L s L']
  (f:∀l,Hs G l (pL p C (s.eU C at' w).1::L')->Q (.tuple ⟨[I (s.eU C at' w).2.1,.bool (s.eU C at' w).2.2.1,I (s.eU C at' w).2.2.2]⟩) l):IU 151 [IV p,I at',I w] h Q:=by
 have P:=hC.2.1
 obtain⟨a,c,d⟩:=pV<|m.of d
 unfold jL.eU at f
 have t:∀{h:AH},Hs G h (aN p 0 (Qa C s a c)::ls eZ 2 329 a c s.bN::L')->Hs G h (pL p C s::L'):=fun d=>fZ p C s (a:=a) (c:=c) d rfl rfl
 refine cW<|dM<|cS<|bW<|aC<|aA<|aA<|am p d rfl<|cX<|fM<|eA (fun y=>?_) fun y=>?_
 rotate_left
 .rw[bA1 y] at f;exact f _<|t d
 rw[bA0<|by rw[y];simp] at f
 refine bW<|aC<|aA<|aA<|am p d rfl<|bU<|bG (fun z=>?_) fun z=>?_
 .rw[bA1 z] at f;exact f _<|t d
 rw[bA0 z] at f
 refine bW<|aC<|aA<|aA<|am p d rfl<|Df FA<|aQ rfl<|aQ rfl<|bU<|aab<|bW<|aC<|aA<|aA<|am p d rfl<|eA (fun A=>?_) fun A=>?_
 .rw[bA1 A] at f;refine bW<|aC<|aA<|aA<|ay (b:=p) (o:=0) d fun h d=>aC<|aA<|aA<|ay (b:=p) (o:=0) d fun h d=>f _ ?_;exact fZ p C s.iT (a:=a) (c:=c) d rfl rfl
 rw[bA0<|by rw[A];simp] at f
 refine bW<|bI d fun T h d=>aC<|aA<|am p d rfl<|aC<|aA<|aA<|am p d rfl<|aG9 (n:=C.aJ) (g:=s.aS) ⟨P,H⟩ R d fun h d=>?_
 generalize lT C.aJ s.aS at' w=r at f
 obtain⟨nx,x,S,e⟩:=r
 simp only at f ⊢
 refine aQ rfl<|aQ rfl<|aQ rfl<|aQ rfl<|nJ (i:=17) (n:=22) (D:=[]) d rfl rfl fun j h d=>ax (b:=j) d fun h d=>cR (aQ rfl aWm)<|cR (aQ rfl jF)<|bU<|bG (fun B=>?_) fun B=>?_
 .rw[bA1 B] at f;exact f _<|t d.to
 rw[bA0 B] at f
 have k:∀{h:AH} {M:IB} (v:Int) (u:jL),[F2 M L']->Qa C u a c=bM (Qa C s a c) 2 [I v]->u.bN=s.bN->Hs G h (aN p 0 (Qa C s a c)::ls eZ 2 329 a c s.bN::M)->(∀l,Hs G l (pL p C u::L')->Q (.tuple ⟨[I v,.bool false,I 0]⟩) l)->Dd 151 10 [] Q [IV p,I v] h:=by
  intro h M v u _ O J d N;refine bW<|aC<|aA<|aA<|ay (b:=p) (o:=0) d fun h d=>N _ ?_;have:=fZ p C u (a:=a) (c:=c) d O.symm J.symm;exact this.to
 have q:∀{h:AH},Hs G h (aN j 0 x.enc::aN p 0 (Qa C s a c)::ls eZ 2 329 a c s.bN::L')->(∀l,Hs G l (pL p C (s.Bo C (s.aS,x.owner)).done::L')->Q (.tuple ⟨[I 0,.bool true,I 0]⟩) l)->Dd 151 11 [] Q [IV p,IV j] h:=by
  intro h d N;refine bW<|bI d fun U h d=>aC<|aA<|aA<|am p d rfl<|aA<|am j d rfl<|aZ (c:=eZ (s.aS,x.owner)) rfl ?_;have d:=fZ p C s (a:=a) (c:=c) d rfl rfl;refine aJ7 hC hb d fun h d=>?_;obtain⟨a3,c3,d⟩:=pV d;refine aZ (c:=[.bool false,I 0,I 0,.bool false]) rfl<|aC<|aA<|ay (b:=p) (o:=0) d fun h d=>N _ ?_;exact(fZ p C (s.Bo C (s.aS,x.owner)).done (a:=a3) (c:=c3) d rfl rfl).to
 have d:Hs G h (aN j 0 x.enc::aN p 0 (Qa C s a c)::ls eZ 2 329 a c s.bN::L'):=d.to
 refine bW<|eA (fun E=>?_) fun E=>?_
 .subst E;refine aA (am j d rfl<|eA (fun F=>?_) fun F=>?_)
  .rw[bA1 ⟨rfl,F⟩] at f;exact bW<|cX<|gF<|k (M:=aN j 0 x.enc::L') (s.aS/4) (s.goto<|s.aS/4) rfl rfl d.to f
  .rw[bA0<|by rw[F];simp,bA0 FF] at f;exact bW<|cX<|cS<|q d f
 .subst E;rw[bA0 FF,bA1 rfl] at f;exact cX<|gF<|k (M:=aN j 0 x.enc::L') nx (s.goto nx) rfl rfl d.to f
def B2 (g:Int) (x:Int×Int):Bool:=decide<|g= -1\/x.1=g
def aCw:aMe G (.func (.func 213) #[] #[IV p]) (sp [aN p 0 [.func (.func 211) #[] #[IV q]],aN q 0 [I g]]) (B2 g):=by
 intro x h L Q a f;have a:=a.Fk;have c:∀{h:AH} {M:IB} {b:Bool},[F2 M L]->b=B2 g x->Hs G h (aN p 0 [.func (.func 211) #[] #[IV q]]::aN q 0 [I g]::M)->Q (.bool b) h:=by
  intro h M b _ e a;show Q _ _;rw[e];exact f _<|Hs.F4 a.to
 refine qB rfl<|cW<|eT a fun r h a=>am p a rfl<|aA<|am r a rfl ?_;refine qB rfl<|cW<|am q a rfl<|cC<|bG (fun d=>?_) fun d=>am q a rfl<|cC ?_;exact c (M:=aN r 0 (eZ x)::L) (by unfold B2;rw[cL<|.inl d]) a.to;exact c (M:=aN r 0 (eZ x)::L) (by unfold B2;exact AW.2 FA) a.to
def vk {f:Value} {A:HP} {p:Int×Int->Bool} (O:aMe G f A p) {l:List (Int×Int)} (hb:l.length<=1000) (d:Hs G h (A::ls eZ 2 329 a c l::L))
  (E:∀N,Hs G N (A::ls eZ 2 329 a c (l.filter fun x=> !p x)::L)->Q (.slice a (l.filter fun x=> !p x).length c) N):IU 212 [.slice a l.length c,f] h Q:=by
 refine cW<|ou O hb d fun h d=>?_
 rcases Uq (p:=p) (l:=l) (i:=0) with⟨w,e2⟩|⟨j,x,w,e2,S,T⟩
 .rw[w];have V:l.filter (fun x=> !p x)=l:=AS.2 fun x hx=>by rw[e2 x hx];rfl
  rw[V] at E
  exact cC<|aae<|E _ d
 rw[w]
 have Y:=(eh.1 e2).1
 refine cC<|aab<|bW<|aad ?_
 have loop:∀(k i:Nat) (m:List (Int×Int)) (h:AH),i+k=l.length->m.length<i->m=(l.take i).filter (fun x=> !p x)->∀t:List (Int×Int),(m++t).length=i->Hs G h (A::ls eZ 2 329 a c (m++t++l.drop i)::L)->
   Dd 212 2 [] Q [.slice a l.length c,f,I m.length,I i] h:=by
  intro k
  induction k with
  |zero=>
   intro i m h W Z r t q d
   have u:i=l.length:=FA
   refine bW<|dB<|bE<|aab<|bW ?_
   rw[u,BO] at r
   rw[u,List.drop_length,g7] at d
   have d:Hs G h (dY 2 329 a c ((m++t).length,eL eZ<|m++t)::A::L):=d.pS
   have F:(m++t).length=l.length:=FA
   rw[<-F]
   refine aWi (n:=(m++t).length) (i:=m.length) (e:=329) (cs:=eL eZ<|m++t) FC aS0 FA d fun h d=>?_
   have:=E h
   rw[<-r] at this
   refine this ?_
   rw[yf,List.take_left] at d
   exact d.pS
  |succ k P=>
   intro i m h W Z r t q d
   obtain⟨y,H,D⟩:=sB (l:=l) (i:=i) FA
   have g:(m++t++l.drop i).length=l.length:=by rw[cV,q,oH];omega
   have J:(m++t++l.drop i)[i]?=some y:=by rw[oX FA,q,BF,D];rfl
   have v:l.take (i+1)=l.take i++[y]:=by rw[AE,H];rfl
   refine bW<|dB<|bE<|aae<|bW ?_
   rw[<-g]
   refine Ac (l:=m++t++l.drop i) (a:=a) (c:=c) (enc:=eZ) (e:=329) d FC FA (by rw[aM];exact J)<|cK d fun R h d=>ax d fun h d=>an R d (l:=eZ y) rfl rfl ?_
   refine O y h _ _ (d.bF A) fun h d=>cX<|fM<|eA (fun B=>?_) fun B=>?_
   .refine bW (aad ?_);have:=P (i+1) m h FA FA (by rw[v,AJ,<-r];simp[B]) (t++[y]) (by simp at q ⊢;omega);rw[g];refine this ?_;rw[show m++(t++[y])++l.drop (i+1)=m++t++l.drop i by rw[D];simp];exact d.to
   .refine bW (an R d (l:=eZ y) rfl rfl ?_);refine zn (l:=m++t++l.drop i) (a:=a) (c:=c) (enc:=eZ) (e:=329) (y:=y) d FC FA FA fun h d=>?_;cases t with
    |nil=>simp at q;omega
    |cons z t=>
     refine aad<|aad ?_
     have:=P (i+1) (m++[y]) h FA FG (by rw[v,AJ,<-r];simp[B]) (t++[y]) (by simp at q ⊢;omega)
     rw[cV] at this
     rw[g]
     refine this ?_
     have U:(m++z::t++l.drop i).set ((m.length:Int)).toNat y=m++[y]++(t++[y])++l.drop (i+1):=by
      rw[aM,D,ef,List.set_append_right _ _<|b0 _,BF];simp
     rw[<-U]
     exact d.to
 have:=loop (l.length - (j+1)) (j+1) (l.take j) h FA HC ?_ [x] ?_ ?_
 .rw[l4,Nat.min_eq_left FA] at this;rw[AB];exact this
 .rw[AE,e2,AJ];rw[AS.2 fun y H=>by rw[T y H];rfl];simp[S]
 .simp;omega
 .rw[show l.take j++[x]++l.drop (j+1)=l by
   obtain⟨X,ex⟩:=eh.1 e2;rw[<-ex,ef,List.singleton_append,<-mn X,ta]]
  exact d
end
section
variable {G:Bg} {h:AH} {C:bQ}
theorem re (hb:s.bN.length<=100) (d:Hs G h L) [m:eB (pL p C) L s L']
  (e:∀n t,Hs G t (pL p C (s.drop C g).1::L')->Q (.tuple ⟨[I n,I (s.drop C g).2]⟩) t):IU 153 [IV p,I g] h Q:=by
 obtain⟨a,c,d⟩:=pV<|m.of d
 unfold jL.drop at e
 have f:∀{h:AH} {M:IB},[F2 M L']->Hs G h (aN p 0 _::ls eZ 2 329 a c s.bN::M)->Hs G h (pL p C s::L'):=fun d=>(fZ p C s (a:=a) (c:=c) d rfl rfl).to
 refine cW<|eT d fun q h d=>dM<|cS<|bW<|bI d fun r h d=>aE d rfl<|bE<|bG (fun u=>?_) fun u=>?_
 .rw[bA1<|.inl u] at e;exact e _ _<|f (M:=aN q 0 [I g]::L') d.to
 refine aE d rfl<|aC<|aA<|aE d rfl<|fX<|bG (fun v=>?_) fun v=>?_
 .rw[bA1<|.inr v] at e;exact e _ _<|f (M:=aN q 0 [I g]::L') d.to
 rw[aaa] at e
 dsimp only at e
 refine bW<|cK d fun p1 h d=>ax d fun h d=>aC<|aA<|aE d rfl<|dB<|aC<|aA<|aE d rfl ?_
 have d:=d.dC (aN p1 0 [.func (.func 211) #[] #[IV q]])<|aN q 0 [I g]
 have d:=d.F4
 have d:=d.dC (sp [aN p1 0 [.func (.func 211) #[] #[IV q]],aN q 0 [I g]])<|ls eZ 2 329 a c s.bN
 refine vk (aCw) FA d fun h d=>?_
 have d:=d.Fk
 refine aC<|aA<|ay d fun h d=>bI d fun B h d=>aC<|aA<|aA<|aE d rfl ?_
 have A:s.bN.filter (fun x=> !B2 g x)=s.bN.filter (fun x=> !decide _):=rfl
 have tail:∀{h:AH} {M:IB} (st:Bool),[F2 M L']->Hs G h (aN p 0 [.bool s.dP,I s.aS,I s.at',.bool st,I C.lH,I C.aJ,.slice a (s.bN.filter fun x=> !B2 g x).length c]::ls eZ 2 329 a c (s.bN.filter fun x=> !B2 g x)::M)->
   st=(s.kJ||(s.dP&&decide (g= -1\/s.aS=g)))->∀n:Int,Q (.tuple ⟨[I n,I 0]⟩) h:=by
  intro h M st _ d l n
  refine e n h ?_
  rw[<-l]
  have:=fZ p C {s with bN:=s.bN.filter fun x=> !B2 g x,kJ:=st} d rfl rfl
  exact(show Hs G h (pL p C {s with bN:=s.bN.filter fun x=> !decide _,kJ:=st}::M) from this).to
 refine eA (fun w=>?_) fun w=>?_
 .refine aE d rfl (aC<|aA<|aA<|aE d rfl ?_);refine qB rfl<|cW<|aE d rfl<|cC ?_;have go:∀{b:Bool},b=decide (g= -1\/s.aS=g)->Br (.bool b) (Dd 153 3 [] Q [IV p,I s.bN.length] h) (cE (tH<|IV p) fun v26=>cE (mC 6 v26) fun v27=>cE (xE h v27) fun v28=>cE (pR v28) fun v29=>cE (Be .sub (I s.bN.length) v29) fun v30=>Q (.tuple ⟨[v30,I 0]⟩) h):=by
   intro b j;have k:=qv (fun x=> !B2 g x) s.bN;refine eA (fun y=>?_) fun y=>?_;refine bW<|aC<|aA<|aA<|ay d fun h d=>aC<|aA<|aE d rfl<|dB<|Aa FA<|tail (M:=aN p1 0 [.func (.func 211) #[] #[IV q]]::aN q 0 [I g]::L') true (d.sg (b:=p) (o:=0) (c:=[.bool s.dP,I s.aS,I s.at',.bool true,I C.lH,I C.aJ,.slice a _ c]) rfl).to ?_ _;rw[<-j,y,w];simp;refine aC<|aA<|aE d rfl<|dB<|Aa FA<|tail (M:=aN p1 0 [.func (.func 211) #[] #[IV q]]::aN q 0 [I g]::L') s.kJ (d.sg (b:=p) (o:=0) (c:=[.bool s.dP,I s.aS,I s.at',.bool s.kJ,I C.lH,I C.aJ,.slice a _ c]) rfl).to ?_ _;grind
  refine bG (fun z=>go FB) fun z=>aE d rfl<|cC<|go FB
 .have k:=qv (fun x=> !B2 g x) s.bN;refine aC<|aA<|aE d rfl<|dB<|Aa FA<|tail (M:=aN p1 0 [.func (.func 211) #[] #[IV q]]::aN q 0 [I g]::L') s.kJ (d.sg (b:=p) (o:=0) (c:=[.bool s.dP,I s.aS,I s.at',.bool s.kJ,I C.lH,I C.aJ,.slice a _ c]) rfl).to ?_ _;grind
def r8 (b:Hs G h L) [m:eB (pL p C) L s L'] (f:∀g a e,Hs G e (pL p C s::L')->Q (.tuple ⟨[g,a,.bool s.dP]⟩) e):IU 42 [IV p] h Q:=by
 obtain⟨a,c,b⟩:=pV<|m.of b;refine cW<|dM<|cS<|aC<|aA<|aA<|aE b rfl<|cX<|fM<|eA (fun d=>?_) fun d=>?_;refine bI b fun r h b=>aC<|aA<|aA<|aE b rfl<|aC<|aA<|aA<|aE b rfl ?_;have:=f (I s.aS) (I s.at') h (fZ p C s b rfl rfl).to;rw[d] at this;exact this;have:=f (I 0) (I 0) h<|fZ p C s b rfl rfl;rw[d] at this;exact this
def Yj (q:Nat) (l:List (Int×Int)):HP:=A5 fun x:EX×Nat=>sp [aN q 0 [.slice x.1 l.length x.2],ls eZ 2 329 x.1 x.2 l]
def aDv (hb:s.bN.length<=100) (b:Hs G h L) [m:eB (pL p C) L s L'] (g:∀q f,Hs G f (Yj q s.bN::pL p C s::L')->Q (.func (.func 233) #[] #[IV q]) f):IU 193 [IV p] h Q:=by
 obtain⟨a,c,b⟩:=pV<|m.of b;refine cW<|cK b fun q h b=>cu<|gF<|bW<|aC<|aA<|aE b rfl<|Md hb b fun d e h b=>ax b fun h b=>g q _ ?_;have b:=fZ p C s (a:=a) (c:=c) (b.dC (aN p 0 _)<|ls eZ 2 329 a c s.bN) rfl rfl;have b:=b.dC (aN q 0 [.slice d s.bN.length e])<|ls eZ 2 329 d e s.bN;exact Hs.Cn (d,e) b.F4
theorem aMc {l:List (Int×Int)} (hb:l.length<=1000):yy Pr K G 233 [] [IV q] (Yj q l) (l.map eZ):=by
 intro j J y L h Q b w n o;obtain⟨⟨a,c⟩,b⟩:=b.Fl;have b:=b.Fk;have d:∀{h:AH} {M:IB},Hs G h (aN q 0 [.slice a l.length c]::ls eZ 2 329 a c l::M)->Hs G h (Yj q l::M):=fun b=>Hs.Cn (a,c) b.F4;refine cW<|aE b rfl<|dB ?_;have loop:∀(f i:Nat) (h:AH),i+f=l.length->Hs G h (aN q 0 [.slice a l.length c]::ls eZ 2 329 a c l::j ((l.drop i).map eZ)::L)->Dd 233 1 [] Q [y,.slice a l.length c,I l.length,I i] h:=by
  intro f;induction f with
  |zero=>
   intro i h t b;rw[eg FA] at b;exact bW (bE<|aab<|n _ _<|d b)
  |succ f z=>
   intro i h t b;obtain⟨x,A,r⟩:=sB (l:=l) (i:=i) FA;rw[r,kd] at b;refine bW<|bE<|aae<|bW<|Ac (enc:=eZ) (e:=329) b FC FA FB<|cK b fun B h b=>ax b fun h b=>aA<|aE b rfl<|aA<|aE b rfl<|(w _ _ h _<|b.bF<|j (eZ x::((l.drop<|i+1).map eZ))).mono fun v k u=>?_;rcases u with⟨rfl,g⟩|⟨rfl,g⟩;exact cX<|cS<|bW<|aad<|z (i+1) k FA g.to;exact cX<|gF<|o _ _<|d g.to
 exact loop l.length 0 h FA (by rw[l5];exact b)
end
instance:Fx aG.enc 9:=⟨fun _=>rfl,fun _=>rfl⟩
variable {G:Bg} {h:AH} {C:bQ}
abbrev yZ (a:EX) (c:Nat) (l:IA):HP:=ls aG.enc 9 185 a c l
def uD (C:bQ) (p:Nat) (l:IA):HP:=A5 fun x:EX×Nat=>sp [aN p 0 [I C.eG,.slice x.1 l.length x.2],yZ x.1 x.2 l]
def Hu {l:IA} (b:Hs G h (uD C p l::L)):∃a c,Hs G h (aN p 0 [I C.eG,.slice a l.length c]::yZ a c l::L):=by
 obtain⟨⟨a,c⟩,b⟩:=b.Fl;exact⟨a,c,b.Fk⟩
def tM {l:IA} (b:Hs G h (aN p 0 [I C.eG,.slice a l.length c]::yZ a c l::L)):Hs G h (uD C p l::L):=
 Hs.Cn (A:=fun x:EX×Nat=>sp [aN p 0 [I C.eG,.slice x.1 l.length x.2],yZ x.1 x.2 l]) (a,c) b.F4
def aE9 (hC:C.Ok) (a:Hs G h L) (d:∀p b,Hs G b (uD C p []::L)->Q (.tuple ⟨[IV p,I 0]⟩) b):IU 76 [I C.eG] h Q:=by
 have f:1<=C.eG/\C.eG<=16:=hC.2.2.2.2.1;refine cW<|bE<|aab<|oT<|aab<|aZ (c:=[I C.eG,.slice none 0 0]) rfl<|eT a fun p h a=>d _ _ ?_;have a:=(wY (enc:=aG.enc) (W:=9) (e:=185) a).pS;exact tM a
def Ep {l:IA} (hb:l.length<=2^30) (f:Hs G h L) [m:eB (yZ a c) L l L']
  (d:∀a' c' b,Hs G b (yZ a' c' l::yZ a c l::L')->Q (.slice a' l.length c') b):IU 93 [.slice a l.length c] h Q:=
 cW (zB (e:=185) (show Hs G h (dY 9 185 a c (l.length,eL aG.enc l)::L') from m.of f) FA d)
def zl {l:IA} (g:1<=C.eG/\C.eG<=16) (hb:l.length<=1000) (d:Hs G h L) [m:eB (uD C p) L l L'] (f:∀e,Hs G e (uD C p l::L')->Q (I<|C.eG - l.length) e):IU 220 [IV p] h Q:=by
 obtain⟨a,c,d⟩:=Hu<|m.of d;refine cW<|dM<|cS<|bI d fun r h d=>aC<|aA<|am p d rfl<|aC<|aA<|am p d rfl<|dB<|Aa FA<|f _ ?_;exact tM (a:=a) (c:=c) d.to
def aN2 {l:IA} {n:aG} (k:1<=C.eG/\C.eG<=16) (hb:(l.length:Int)<C.eG) (d:Hs G h L) [m:eB (uD C p) L l L'] [r:fU (yZ a2 c2 [n]) L' M] (q:∀j,Hs G j (uD C p (l++[n])::M)->Q (I 0) j):
  IU 161 [IV p,.slice a2 1 c2] h Q:=by
 have d:Hs G h (uD C p l::yZ a2 c2 [n]::M):=(m.of d).cH<|r.cH.cons _
 refine cW<|dM<|cS<|bW<|dB<|zl (C:=C) (p:=p) (l:=l) k FA d fun h d=>oT<|aab ?_
 obtain⟨a,c,d⟩:=Hu d
 refine bW<|aC<|aA<|am p d rfl ?_
 refine qT (enc:=aG.enc) (W:=9) (e:=185) (a:=a) (c:=c) (l:=l) (a2:=a2) (c2:=c2) (l2:=[n]) d FG fun f g h d=>?_
 refine aC<|aA<|ay (b:=p) (o:=0) d fun h d=>q _ ?_
 have d:Hs G h (aN p 0 [I C.eG,.slice f (l++[n]).length g]::yZ f g (l++[n])::M):=(d.sg (b:=p) (o:=0) (c:=[I C.eG,.slice f (l++[n]).length g]) rfl).to
 exact tM d
def Mx {l:IA} (hb:l.length<=1000) (g:Hs G h L) [m:eB (uD C p) L l L']
  (Z:l=[]->∀u,Hs G u (uD C p l::L')->Q (.tuple ⟨[.agg ⟨aG.zero.enc⟩,I 12]⟩) u)
  (T:l≠[]->∀u,Hs G u (uD C p (l.eraseIdx (w % (l.length:Int)).toNat)::L')->Q (.tuple ⟨[.agg ⟨(l.getD (w % (l.length:Int)).toNat aG.zero).enc⟩,I 0]⟩) u):IU 142 [IV p,I w] h Q:=by
 obtain⟨a,c,g⟩:=Hu<|m.of g
 refine cW<|cK (cs:=aG.zero.enc) g fun j h g=>dM<|cS<|bW<|aC<|aA<|am p g rfl<|dB<|cC<|bG (fun H=>?_) fun H=>?_
 .have E:l=[]:=g6 FA;refine aZ (c:=aG.zero.enc) rfl<|ax (b:=j) g fun h g=>an j g (l:=aG.zero.enc) rfl rfl<|Z E _<|tM (a:=a) (c:=c) g.to
 have E:l≠[]:=fun e=>by rw[e] at H;simp at H
 have U:0<l.length:=DO.2 E
 refine bW<|aC<|aA<|am p g rfl<|dB<|aT9 FA ?_
 obtain⟨k,r,α⟩:∃k:Nat,(k:Int)=w % (l.length:Int)/\k<l.length:=by
  have B:=BD w (b:=(l.length:Int)) FA;have e2:=BW w (b:=(l.length:Int)) FA;exact⟨(w % (l.length:Int)).toNat,FA,FA⟩
 rw[<-r,aM] at T
 have v:∀(M:IB) (h:AH) (q:Nat),[F2 M L']->Hs G h (aN q 0 aG.zero.enc::aN j 0 aG.zero.enc::aN p 0 [I C.eG,.slice a l.length c]::yZ a c l::M)->Dd 142 5 [] Q [IV p,IV j,I k,IV q,.slice none 0 0,.slice a l.length c,I l.length,I 0] h:=by
  intro M h q _ g;have loop:∀(f i:Nat) (b:EX) (d:Nat) (x:aG) (h:AH),i+f=l.length->x=(if i<=k then aG.zero else l.getD k aG.zero)->
    Hs G h (yZ b d ((l.take i).eraseIdx k)::aN q 0 x.enc::aN j 0 aG.zero.enc::aN p 0 [I C.eG,.slice a l.length c]::yZ a c l::M)->
    Dd 142 5 [] Q [IV p,IV j,I k,IV q,.slice b ((l.take i).eraseIdx k).length d,.slice a l.length c,I l.length,I i] h:=by
   intro f
   induction f with
   |zero=>
    intro i b d x h hi F g
    have N:i=l.length:=FA
    rw[aaa] at F
    subst N
    rw[BO] at g ⊢
    refine bW<|bE<|aab<|bW<|aC<|aA<|ay (b:=p) (o:=0) g fun h g=>an q g (l:=x.enc) rfl rfl<|ax (b:=j) g fun h g=>an j g (l:=x.enc) rfl rfl ?_
    rw[F]
    refine T E h ?_
    have g:Hs G h (aN p 0 [I C.eG,.slice b (l.eraseIdx k).length d]::yZ b d (l.eraseIdx k)::M):=(g.sg (b:=p) (o:=0) (c:=[I C.eG,.slice b (l.eraseIdx k).length d]) rfl).to
    exact(tM g).to
   |succ f V=>
    intro i b d x h hi F g
    obtain⟨y,O,hd⟩:=sB (l:=l) (i:=i) FA
    have A:l.take (i+1)=l.take i++[y]:=by rw[AE,O];rfl
    have hle:((l.take i).eraseIdx k).length<=l.length:=by
     have:=List.length_eraseIdx_le (l.take i) k;rw[l4] at this;omega
    refine bW<|bE<|aae<|bW<|Ac (l:=l) (a:=a) (c:=c) (enc:=aG.enc) (e:=185) g.tail FC FA (by rw[aM];exact O)<|cK g fun P h g=>ax (b:=P) g fun h g=>cC<|bG (fun S=>?_) fun S=>?_
    .have J:i=k:=FA
     refine bW<|an P g (l:=y.enc) rfl rfl<|ax (b:=q) g fun h g=>aad ?_
     have z:(l.take i).length=i:=HC
     have B:(l.take<|i+1).eraseIdx k=(l.take i).eraseIdx k:=by
      have e2:(l.take i).eraseIdx k=l.take i:=CG FA;rw[A,List.eraseIdx_append_of_length_le FA,z,show k - i=0 by omega,e2];simp
     have:=V (i+1) b d y h FA (by rw[aaa,<-J,aP,O];rfl)
     rw[B] at this
     exact this g.to
    .refine bW (an P g (l:=y.enc) rfl rfl<|aZ (c:=y.enc) rfl<|dV (W:=9) (n:=1) (c:=1) g rfl rfl rfl fun R h g=>?_);refine qT (enc:=aG.enc) (W:=9) (e:=185) (a:=b) (c:=d) (l:=(l.take i).eraseIdx k) (a2:=some R) (c2:=1) (l2:=[y]) (tB g) FG fun X Y h g=>aad ?_;have B:(l.take<|i+1).eraseIdx k=(l.take i).eraseIdx k++[y]:=by
      rw[A];by_cases z:k<i;rw[List.eraseIdx_append_of_lt_length HC];rw[CG FG,CG HC]
     have:=V (i+1) X Y x h FA (by rw[F];by_cases e:i<=k;rw[bA1 e,aac];rw[bA0 e,aaa])
     rw[B] at this
     exact this g.to
  have:=loop l.length 0 none 0 aG.zero h FA FF (by simpa using wY (enc:=aG.enc) (W:=9) (e:=185) g);simpa using this
 by_cases t:w.tmod (l.length:Int)<0
 .refine bE (cI t<|bW<|aC<|aA<|am p g rfl<|dB ?_);have e:w.tmod (l.length:Int)+(l.length:Int)=(k:Int):=by
   rw[r];rw[Int.tmod_eq_emod] at t ⊢;split at t;have:=BD w (b:=(l.length:Int)) FA;omega;rename_i D;rw[bA0 D];simp
  refine aad ?_
  rw[e]
  exact cK (cs:=aG.zero.enc) g fun q h g=>aC<|aA<|am p g rfl<|dB<|v L' h q g.to
 .refine bE (bC t<|bW ?_);have e:w.tmod (l.length:Int)=(k:Int):=by
   rw[r];rw[Int.tmod_eq_emod] at t ⊢;split at t;rename_i D;rw[bA1 D];simp;rename_i D;exfalso;have S:=BW w (b:=(l.length:Int)) FA;have h3:=BD w (b:=(l.length:Int)) FA;simp at t;omega
  rw[e]
  exact cK (cs:=aG.zero.enc) g fun q h g=>aC<|aA<|am p g rfl<|dB<|v L' h q g.to
def r7 {l:IA} (hb:l.length<=1000) (d:Hs G h L) [m:eB (uD C p) L l L'] (j:∀q g,Hs G g (uD C q l::uD C p l::L')->Q (IV q) g):IU 141 [IV p] h Q:=by
 obtain⟨a,c,d⟩:=Hu<|m.of d;refine cW<|dM<|cS<|bI d fun r h d=>aC<|aA<|am p d rfl<|aC<|aA<|am p d rfl<|Ep (a:=a) (c:=c) (l:=l) FA d fun e f h d=>?_;refine aZ (c:=[I C.eG,.slice e l.length f]) rfl<|D6 (i:=10) (r:=r) d rfl rfl fun q h d=>cR dG<|cR (aC dG)<|cR (aA dG)<|cR (am p d rfl jF)<|j _ _ ?_;have d:Hs G h (aN p 0 [I C.eG,.slice a l.length c]::yZ a c l::aN q 0 [I C.eG,.slice e l.length f]::yZ e f l::L'):=d.to;have d:=tM d;exact(tM<|show Hs G h (aN q 0 [I C.eG,.slice e l.length f]::yZ e f l::uD C p l::L') from d.to).to
def vnR (q:Nat) (l:IA):HP:=A5 fun x:EX×Nat=>sp [aN q 0 [.slice x.1 l.length x.2],yZ x.1 x.2 l]
def aFg {l:IA} (b:Hs G h L) [m:eB (yZ a c) L l L'] (e:∀q d,Hs G d (vnR q l::L')->Q (.func (.func 123) #[] #[IV q]) d):IU 92 [.slice a l.length c] h Q:=by
 refine cW<|eT (m.of b) fun q h b=>e q h ?_;exact Hs.Cn (A:=fun x:EX×Nat=>sp [aN q 0 [.slice x.1 l.length x.2],yZ x.1 x.2 l]) (a,c) b.F4
def aUw {l:IA} (hb:l.length<=100000):yy Pr K G 123 [] [IV q] (vnR q l) (l.map fun n=>[.agg ⟨n.enc⟩]):=by
 intro k J y L h Q d F u w;obtain⟨⟨a,c⟩,d⟩:=d.Fl;have d:=d.Fk;have g:∀{h:AH} {M:IB},Hs G h (aN q 0 [.slice a l.length c]::yZ a c l::M)->Hs G h (vnR q l::M):=fun d=>Hs.Cn (A:=fun x:EX×Nat=>sp [aN q 0 [.slice x.1 l.length x.2],yZ x.1 x.2 l]) (a,c) d.F4;refine cW<|am q d rfl<|dB ?_;have loop:∀(f i:Nat) (h:AH),i+f=l.length->Hs G h (aN q 0 [.slice a l.length c]::yZ a c l::k ((l.drop i).map fun n=>[.agg ⟨n.enc⟩])::L)->Dd 123 1 [] Q [y,.slice a l.length c,I l.length,I i] h:=by
  intro f;induction f with
  |zero=>
   intro i h B d;rw[eg FA] at d;exact bW (bE<|aab<|u _ _<|g d)
  |succ f H=>
   intro i h B d;obtain⟨x,E,z⟩:=sB (l:=l) (i:=i) FA;rw[z,kd] at d;refine bW (bE<|aae<|bW<|Ac (l:=l) (a:=a) (c:=c) (enc:=aG.enc) (e:=185) d FC FA (by rw[aM];exact E)<|cK d fun r h d=>ax (b:=r) d fun h d=>an r d (l:=x.enc) rfl rfl ?_);refine(F _ _ h _<|d.bF<|k ([.agg ⟨x.enc⟩]::((l.drop<|i+1).map fun n=>[.agg ⟨n.enc⟩]))).mono fun v t D=>?_;rcases D with⟨rfl,j⟩|⟨rfl,j⟩;exact cX<|cS<|bW<|aad<|H (i+1) t FA j.to;exact cX<|gF<|w _ _<|g j.to
 exact loop l.length 0 h FA (by rw[l5];exact d)
def aCb {l:IA} (hb:l.length<=1000) (d:Hs G h L) [m:eB (uD C p) L l L'] (j:∀q e,Hs G e (vnR q l::uD C p l::L')->Q (.func (.func 123) #[] #[IV q]) e):IU 59 [IV p] h Q:=by
 obtain⟨a,c,d⟩:=Hu<|m.of d;refine cW<|dM<|cS<|aC<|aA<|am p d rfl<|Ep (a:=a) (c:=c) (l:=l) FA d fun f g h d=>aFg (a:=f) (c:=g) (l:=l) d fun q h d=>j q h ?_;have d:Hs G h (aN p 0 [I C.eG,.slice a l.length c]::yZ a c l::vnR q l::L'):=d.to;exact(tM d).pS
end Go.Proofs.Z
namespace Go.Proofs.Z
open Go.Hm Go.At Go.Mc Go.Nt
variable {F:eN}
section
def aWy {k:Nat} (h:1<=k/\k<14):∃a,I8 k=1::a:=by
 rcases k14 h.2 with rfl|rfl|rfl|rfl|rfl|rfl|rfl|rfl|rfl|rfl|rfl|rfl|rfl|rfl;omega;all_goals exact⟨_,rfl⟩
def aGm {C:bQ} {n:aG} (h:gE C n=0):Nj n.kind/\0<=n.core/\n.core<C.aB:=by
 unfold gE at h;split at h;rename_i b;split at h;split at h;rename_i c;refine⟨b,?_⟩;unfold Nj at b;obtain⟨f,d⟩:=aWy (k:=n.kind.toNat) FA;rw[d] at c;have a:=c.1;unfold jK at a;split at a;rename_i e;exact e;cases a;cases h;cases h;cases h
def aIj {k:Nat} (h:k<14):0<=Ws k/\Ws k<4:=by
 rcases k14 h with rfl|rfl|rfl|rfl|rfl|rfl|rfl|rfl|rfl|rfl|rfl|rfl|rfl|rfl<;>decide
theorem xP {n:aG} (h:Nj n.kind):cN n<4/\Ws n.kind.toNat=(cN n:Int):=by
 unfold Nj at h;have:=aIj (k:=n.kind.toNat) FA;unfold cN;omega
def Ru {α:Type} {g:Nat->Value} (c:j<n):bM ((List.range n).map g) j [v]=(List.range n).map fun k=>if k=j then v else g k:=by
 rw[<-tS _ _ _ FG];apply q6;intro i;unfold dU;by_cases h:i<j;rw[ef,q5 FG,BI h,km,km];by_cases a:i<n;rw[oV a];simp;intro e;omega;omega;rw[ef,oX FG];have d:min j n=j:=FA
 simp only[l4,js,List.length_range,d];by_cases b:i=j;subst b;rw[q5 FF,BF,km,oV c];simp;rw[oX<|by rw[tb];omega,BV,tb,show j+1+(i - j - 1)=i by omega,km,km];by_cases a:i<n;rw[oV a];simp[b];rw[z1 FG];rfl
variable {G:Bg} {h:AH} {C:bQ}
def rO (C:bQ) (pl:Nat->Nat):EU:=C.enc++(List.range 16).map fun k=>if k<4*C.aB.toNat then IV (pl k) else .pointer none
def aOh {k:Nat} (a:k<16):(rO C pl)[7+k]?=some (if k<4*C.aB.toNat then IV (pl k) else .pointer none):=by
 unfold rO;rw[oX<|by simp[bQ.enc]];simp[bQ.enc,oV a]
abbrev uC (C:bQ) (pl:Nat->Nat) (F:eN) (k:Nat):HP:=uD C (pl k)<|F (k/4)<|k % 4
def tF (C:bQ) (f:Nat) (F:eN):HP:=A5 fun pl:Nat->Nat=>sp [aN f 0<|rO C pl,eP (4*C.aB.toNat)<|uC C pl F]
def Hy (a:Hs G h (tF C f F::L)):∃pl,Hs G h (aN f 0 (rO C pl)::eP (4*C.aB.toNat) (uC C pl F)::L):=by
 obtain⟨pl,a⟩:=a.Fl;exact⟨pl,a.Fk⟩
def rV (a:Hs G h (aN f 0 (rO C pl)::eP (4*C.aB.toNat) (uC C pl F)::L)):Hs G h (tF C f F::L):=
 Hs.Cn (A:=fun pl:Nat->Nat=>sp [aN f 0<|rO C pl,eP (4*C.aB.toNat)<|uC C pl F]) pl a.F4
def wx (C:bQ) (pl:Nat->Nat) (F:eN) (k:Nat):HP:=sp<|((List.range<|4*C.aB.toNat).erase k).map<|uC C pl F
def Mo {k:Nat} (a:k<4*C.aB.toNat) (b:Hs G h (eP (4*C.aB.toNat) (uC C pl F)::L)):Hs G h (uD C (pl k) (F (k/4)<|k % 4)::wx C pl F k::L):=b.oI k a
def aK1 {k:Nat} {l:IA}:(F.set (k/4) (k % 4) l) (j/4) (j % 4)=if j=k then l else F (j/4) (j % 4):=by
 unfold eN.set;by_cases e:j=k;subst e;simp;rw[bA0 e,aaa]
def Ul {k:Nat} {l:IA} (b:k<4*C.aB.toNat) (c:Hs G h (uD C (pl k) l::wx C pl F k::L)):Hs G h (eP (4*C.aB.toNat) (uC C pl<|F.set (k/4) (k % 4) l)::L):=by
 refine Hs.aFm (i:=k) (f:=uC C pl F) (g:=uC C pl<|F.set (k/4) (k % 4) l) b (fun j a=>?_) ?_;unfold uC;rw[aK1,bA0 a];have e:uC C pl (F.set (k/4) (k % 4) l) k=uD C (pl k) l:=by unfold uC;rw[aK1,bA1 rfl]
 rw[e];exact c
def Dt {y:Int} (hC:C.Ok) (c:Hs G h L) [m:eB (aN f 0) L (rO C pl) L'] (a:Q (if(0<=x/\x<C.aB)/\(0<=y/\y<4) then IV (pl<|x.toNat*4+y.toNat) else .pointer none) h):IU 58 [IV f,I x,I y] h Q:=by
 have k:=hC.1;refine cW<|dM<|cS<|bE<|bG (fun d=>?_) fun d=>aC<|aA<|aA<|am f c rfl<|fX<|bG (fun e=>?_) fun e=>bE<|bG (fun g=>?_) fun g=>fX<|bG (fun j=>?_) fun j=>?_;rw[aaa] at a;exact a;rw[aaa] at a;exact a;rw[aaa] at a;exact a;rw[aaa] at a;exact a;rw[aac] at a;refine aC<|aA<|gK FA FA<|gK FA FA<|am f c (v:=IV<|pl<|x.toNat*4+y.toNat) ?_ a;rw[show 0+7+x.toNat*4+y.toNat*1=7+(x.toNat*4+y.toNat) by omega,aOh FA,aac]
def aKb {x:Nat} (hC:C.Ok) (j:∀c w,(F c w).length<=1000) (n:(x:Int)<C.aB) (o:y<4) (a:Hs G h (aN f 0 (rO C pl)::eP (4*C.aB.toNat) (uC C pl F)::L)) (k:∀g,Hs G g (aN f 0 (rO C pl)::eP (4*C.aB.toNat) (uC C pl F)::L)->Q (I<|C.eG - (F x y).length) g):IU 160 [IV f,I x,I y] h Q:=by
 refine cW<|Dt (C:=C) (pl:=pl) hC a ?_;rw[aac];have b:x*4+y<4*C.aB.toNat:=FA
 have a:=Mo b a.pS;rw[show((x:Int)).toNat*4+((y:Int)).toNat=x*4+y by omega];refine zl (C:=C) (l:=F ((x*4+y)/4)<|(x*4+y) % 4) hC.2.2.2.2.1 (j _ _) a fun h a=>?_;have d:(x*4+y)/4=x/\(x*4+y) % 4=y:=FA
 rw[d.1,d.2];refine(k h) ?_;have a:=Ul b a;have e2:F.set ((x*4+y)/4) ((x*4+y) % 4) (F ((x*4+y)/4)<|(x*4+y) % 4)=F:=by
  funext c w;unfold eN.set;split;rename_i e;rw[e.1,e.2];rfl
 rw[e2] at a;exact a.pS
def Da (F a:eN):EU:=(List.range 16).map fun k=>I<|((a (k/4)<|k % 4).length:Int) - (F (k/4)<|k % 4).length
def aJg {a:eN} {x:Nat} (c:x<4) (d:y<4):(Da F a)[x*4+y]?=some (I<|((a x y).length:Int) - (F x y).length):=by
 unfold Da;rw[km,oV FA];have b:(x*4+y)/4=x/\(x*4+y) % 4=y:=FA
 simp[b.1,b.2]
def aIt {a:eN} {n:aG} {x:Nat} (c:n.core.toNat=x) (f:cN n=y) (d:x<4) (g:y<4):bM (Da F a) (x*4+y) [I<|((a x y).length:Int) - (F x y).length+1]=Da F (a.A4 n):=by
 unfold Da;rw[Ru (α:=Nat) FA];refine sz fun k j=>?_;unfold eN.A4;rw[c,f];by_cases e:k=x*4+y;subst e;have b:(x*4+y)/4=x/\(x*4+y) % 4=y:=FA
 rw[bA1 rfl,b.1,b.2];unfold eN.set;simp;omega;rw[bA0 e];unfold eN.set;rw[aaa]
end
variable {G:Bg} {h:AH} {C:bQ}
def aCg {d:Int} {n:aG} {l:IA}:eN.xN d F (n::l)=if((F n.core.toNat<|cN n).length:Int)<d then eN.xN d (F.A4 n) l else none:=rfl
def aDa {n:aG} {l:IA}:aU C (n::l)=if gE C n≠0 then gE C n else aU C l:=rfl
def lx {l:IA} (h:aU C l=0):∀n∈l,gE C n=0:=by
 induction l with
 |nil=>intro n a;cases a
 |cons x l c=>
  unfold aU at h;split at h;rename_i b;exact absurd h b;rename_i b;intro n a;rcases eD.1 a with rfl|a;omega;exact c h n a
def sP {n:aG} (hC:C.Ok) (k:gE C n=0) (o:((F n.core.toNat<|cN n).length:Int)<C.eG)
  (a:Hs G h (yZ a2 c2 [n]::aN f 0 (rO C pl)::eP (4*C.aB.toNat) (uC C pl F)::L)) (g:∀e,Hs G e (aN f 0 (rO C pl)::eP (4*C.aB.toNat) (uC C pl<|F.A4 n)::L)->Q (I 0) e):
  IU 161 [IV<|pl<|n.core.toNat*4+cN n,.slice a2 1 c2] h Q:=by
 obtain⟨d,j⟩:=aGm k
 have r:=(xP d).1
 have q:=hC.1
 have b:n.core.toNat*4+cN n<4*C.aB.toNat:=FA
 have c:(n.core.toNat*4+cN n)/4=n.core.toNat/\(n.core.toNat*4+cN n) % 4=cN n:=FA
 have a:=Mo b<|a.bF<|eP (4*C.aB.toNat)<|uC C pl F
 rw[c.1,c.2] at a
 refine aN2 (C:=C) (l:=F n.core.toNat<|cN n) (n:=n) hC.2.2.2.2.1 o a fun h a=>?_
 have a:Hs G h (uD C (pl<|n.core.toNat*4+cN n) (F n.core.toNat (cN n)++[n])::wx C pl F (n.core.toNat*4+cN n)::aN f 0 (rO C pl)::L):=a.to
 have a:=Ul b a
 rw[c.1,c.2] at a
 exact g _ a.pS
def xJ {l:IA} (hC:C.Ok) (hd:∀c w,(F c w).length<=500) (hl:l.length<=100) (T:Ob G 2 Eb) (ε:Ob G 0 iF) (d:Hs G h L) [m:eB (tF C f) L F L'] [m2:fU (yZ a c l) L' M]
  (S:∀h',Hs G h' (tF C f (eN.fY C F l).1::yZ a c l::M)->Q (I (eN.fY C F l).2) h'):IU 109 [IV f,.slice a l.length c] h Q:=by
 have hc:=hC.1
 have ι:1<=C.eG/\C.eG<=16:=hC.2.2.2.2.1
 obtain⟨pl,d⟩:=Hy<|m.of d
 have d:Hs G h (yZ a c l::aN f 0 (rO C pl)::eP (4*C.aB.toNat) (uC C pl F)::M):=d.cH<|((m2.cH.cons _).cons _).trans<|((List.Perm.swap _ _ _).cons _).trans<|List.Perm.swap _ _ _
 unfold eN.fY at S
 have P:∀{h:AH} {L2:IB} {J:eN},[F2 L2 M]->Hs G h (yZ a c l::aN f 0 (rO C pl)::eP (4*C.aB.toNat) (uC C pl J)::L2)->Hs G h (tF C f J::yZ a c l::M):=by
  intro h L2 J _ d;have d:=d.dC (aN f 0<|rO C pl)<|eP (4*C.aB.toNat)<|uC C pl J;exact(rV d).to
 have α:∀(k i:Nat) (j Fe:eN) (L2:IB) (h:AH),[F2 L2 M]->i+k=l.length->aU C l=0->eN.xN C.eG F l=some Fe->eN.xN C.eG j (l.drop i)=some Fe->Hs G h (yZ a c l::aN f 0 (rO C pl)::eP (4*C.aB.toNat) (uC C pl j)::L2)->
   Dd 109 10 [] Q [IV f,.slice a l.length c,I l.length,I i] h:=by
  intro k
  induction k with
  |zero=>
   intro i j Fe L2 h _ hi q g O d
   rw[eg FA] at O
   cases O
   rw[aaa,g] at S
   exact bW (bE<|aab<|S _<|P d)
  |succ k ih=>
   intro i j Fe L2 h _ hi q g O d
   obtain⟨x,W,v⟩:=sB (l:=l) (i:=i) FA
   have E:=lx q x<|hX W
   obtain⟨z,δ⟩:=aGm E
   obtain⟨t,U⟩:=xP z
   rw[v] at O
   unfold eN.xN at O
   split at O
   .rename_i V;refine bW (bE<|aae<|bW<|Ac (l:=l) (a:=a) (c:=c) (enc:=aG.enc) (e:=185) d FC FA (by rw[aM];exact W)<|cK d fun u h d=>ax (b:=u) d fun h d=>aA<|am u d rfl<|N.y4 T d ?_);rw[bA1 z,U];refine aQ rfl<|aQ rfl<|bU<|aab<|bW<|bI d fun r1 h0 B=>aA<|am u B rfl<|Dt (C:=C) (pl:=pl) hC B ?_;rw[aac];refine an u B (l:=x.enc) rfl rfl<|aZ (c:=x.enc) rfl<|oS (r:=r1) (i:=6) (N:=9) (D:=[]) B rfl rfl rfl rfl rfl fun a2 h d=>?_;have d:=tB d;have d:Hs G h (yZ (some a2) 1 [x]::aN f 0 (rO C pl)::eP (4*C.aB.toNat) (uC C pl j)::yZ a c l::L2):=d.to;rw[show(x.core.toNat*4+((cN x:Nat):Int).toNat)=x.core.toNat*4+cN x by omega];refine sP (f:=f) hC E V d fun h d=>cR (an u B (l:=x.enc) rfl rfl<|uW ?_)<|bU<|aab<|bW<|aad<|ih (i+1) (j.A4 x) Fe L2 h FA q g O d.to;simp[aG.enc,uG]
   .cases O
 have Z:∀(k i p:Nat) (j:eN) (L2:IB) (h:AH),[F2 L2 M]->i+k=l.length->aU C l=0->eN.xN C.eG F l=eN.xN C.eG j (l.drop i)->(∀c w,(j c w).length<=500+i)->Hs G h (aN p 0 (Da F j)::yZ a c l::aN f 0 (rO C pl)::eP (4*C.aB.toNat) (uC C pl F)::L2)->
   Dd 109 6 [] Q [IV f,.slice a l.length c,IV p,.slice a l.length c,I l.length,I i] h:=by
  intro k
  induction k with
  |zero=>
   intro i p j L2 h _ hi q g A d
   rw[eg FA] at g
   refine bW<|bE<|aab<|bW<|dB ?_
   exact α l.length 0 F j L2 h FA q g (by rw[l5];exact g) d.tail
  |succ k ih=>
   intro i p j L2 h _ hi q g A d
   obtain⟨x,W,v⟩:=sB (l:=l) (i:=i) FA
   have E:=lx q x<|hX W
   obtain⟨z,δ⟩:=aGm E
   obtain⟨t,U⟩:=xP z
   obtain⟨y,hy⟩:∃y:Nat,x.core=(y:Int):=⟨x.core.toNat,FA⟩
   have X:x.core.toNat=y:=FA
   rw[v,aCg,X] at g
   have η:=A y<|cN x
   have θ:=hd y<|cN x
   refine bW<|bE<|aae<|bW<|Ac (l:=l) (a:=a) (c:=c) (enc:=aG.enc) (e:=185) d FC FA (by rw[aM];exact W)<|cK d fun u h d=>ax (b:=u) d fun h d=>aA<|am u d rfl<|N.y4 T d ?_
   rw[bA1 z,U]
   have H:x.enc[0+1]?=some (I (y:Int)):=by rw[<-hy];rfl
   have R:∀{J:eN},(Da F J)[0+y*4+cN x*1]?=some (I<|((J y<|cN x).length:Int) - (F y<|cN x).length):=by
    intro J;rw[show 0+y*4+cN x*1=y*4+cN x by omega];exact aJg FA t
   have γ:bM (Da F j) (0+y*4+cN x*1) [I<|((j y<|cN x).length:Int) - (F y<|cN x).length+1]=Da F (j.A4 x):=by
    rw[show 0+y*4+cN x*1=y*4+cN x by omega];exact aIt X rfl FA t
   have β:(Da F j).length=16:=by simp[Da]
   refine aQ rfl<|aQ rfl<|bU<|aab<|bW<|bI d fun r1 h d=>aA<|am u d H<|kS FA<|kS t<|am p d R<|aad<|kS FA<|kS t ?_
   refine cF (b:=p) (o:=0) d rfl (by rw[β];exact m4 FA) rfl (by rw[β];rfl) fun h d=>?_
   rw[γ] at d
   refine bI d fun r2 h d=>aA<|am u d H<|kS FA<|kS t<|am p d R<|aA<|am u d H ?_
   have ζ:((j.A4 x) y<|cN x).length=(j y<|cN x).length+1:=by unfold eN.A4 eN.set;rw[X,bA1 ⟨rfl,rfl⟩,cV];rfl
   have d:=d.dC (aN f 0<|rO C pl)<|eP (4*C.aB.toNat)<|uC C pl F
   refine aKb (C:=C) (F:=F) (x:=y) (y:=cN x) hC (fun c w=>by have:=hd c w;omega) FA t d fun h d=>oT ?_
   refine cR (aA dG)<|cR (am u d H jF)<|cR jF<|cR (kS FA dG)<|cR (kS t dG)<|cR (am p d R jF) ?_
   rw[ζ]
   refine bG (fun h1=>?_) fun h1=>?_
   .rw[aaa] at g;rw[aaa,g] at S;refine S _ ?_;have d:=d.dC (aN f 0<|rO C pl)<|eP (4*C.aB.toNat)<|uC C pl F;exact(rV d).to
   .rw[aac] at g;refine bW<|aad<|ih (i+1) p (j.A4 x) L2 h FA q g (fun c w=>?_) d.to;have h2:((j.A4 x) c w).length<=(j c w).length+1:=by
     unfold eN.A4 eN.set;split;rename_i e;rw[e.1,e.2];simp;omega
    have:=A c w
    omega
 have Y:∀(k i:Nat) (h:AH),i+k=l.length->aU C l=aU C (l.drop i)->Hs G h (yZ a c l::aN f 0 (rO C pl)::eP (4*C.aB.toNat) (uC C pl F)::M)->
   Dd 109 2 [] Q [IV f,.slice a l.length c,.slice a l.length c,I l.length,I i] h:=by
  intro k
  induction k with
  |zero=>
   intro i h hi g d
   rw[eg FA] at g
   refine bW<|bE<|aab<|bW<|cK d fun p h d=>dB ?_
   refine Z l.length 0 p F M h FA g (by rw[l5]) (fun c w=>by have:=hd c w;omega) ?_
   have e:Da F F=[I 0,I 0,I 0,I 0,I 0,I 0,I 0,I 0,I 0,I 0,I 0,I 0,I 0,I 0,I 0,I 0]:=by
    unfold Da;simp only[Int.sub_self];rfl
   rw[e];exact d
  |succ k ih=>
   intro i h hi g d
   obtain⟨x,W,v⟩:=sB (l:=l) (i:=i) FA
   rw[v,aDa] at g
   refine bW<|bE<|aae<|bW<|Ac (l:=l) (a:=a) (c:=c) (enc:=aG.enc) (e:=185) d FC FA (by rw[aM];exact W)<|cK d fun u h d=>ax (b:=u) d fun h d=>bI d fun r1 h d=>aC<|aA<|an f d (l:=C.enc) rfl rfl<|an u d (l:=x.enc) rfl rfl ?_
   refine N.aQm (C:=C) (n:=x) T ε d fun h d=>bU<|bG (fun h1=>?_) fun h1=>?_
   .rw[bA1 h1] at g;rw[bA1<|by rw[g];exact h1,g] at S;exact S _<|P (L2:=aN u 0 x.enc::M) d.to
   .rw[bA0 h1] at g;exact bW<|aad<|ih (i+1) h FA g d.to
 refine cW<|dM<|cS<|bW<|dB ?_
 exact Y l.length 0 h FA (by rw[l5]) d
end Go.Proofs.Z
end
variable {k:Value->Prop} {i:Nat}
namespace Go.Proofs.Z
open Go.Hm Go.At Go.Mc Go.Nt
variable {F:eN}
section
def bx (a:k (.bool true)):cE (dr .eql (.pointer none)<|.pointer none) k:=⟨_,rfl,a⟩
attribute [local irreducible] cE Br xE zJ Ba K1 sO D9 sF na mC tH yM yV yE pR Be dr bf dm Xy bu py qY vS oL nR Fs Qe rE Xn lz Hj Cl E5 pw A9 zV qJ kI fJ dX
variable {G:Bg} {h:AH} {C:bQ}
def qj {y:Int} (hC:C.Ok) (u:∀c w,(F c w).length<=500) (a:Hs G h L) [m:eB (tF C f) L F L']
  (d:∀g,Hs G g (tF C f (eN.take C F x y w).1::L')->Q (.tuple ⟨[.agg ⟨(eN.take C F x y w).2.1.enc⟩,I (eN.take C F x y w).2.2]⟩) g):IU 107 [IV f,I x,I y,I w] h Q:=by
 have z:=hC.1
 obtain⟨pl,a⟩:=Hy<|m.of a
 unfold eN.take at d
 refine cW<|cK (cs:=aG.zero.enc) a fun p h a=>dM<|cS<|bW<|Dt (C:=C) (pl:=pl) hC a ?_
 by_cases q:(0<=x/\x<C.aB)/\(0<=y/\y<4)
 .rw[aaa] at d;rw[bA1 q];refine dM<|cS ?_;have j:x.toNat*4+y.toNat<4*C.aB.toNat:=FA
  have k:(x.toNat*4+y.toNat)/4=x.toNat/\(x.toNat*4+y.toNat) % 4=y.toNat:=FA
  have a:=Mo j<|a.bF<|eP (4*C.aB.toNat)<|uC C pl F
  rw[k.1,k.2] at a
  have sY:∀{h:AH} (l:IA) (n:aG) (e:Int),Hs G h (uD C (pl<|x.toNat*4+y.toNat) l::wx C pl F (x.toNat*4+y.toNat)::aN p 0 aG.zero.enc::aN f 0 (rO C pl)::L')->(∀g,Hs G g (tF C f (F.set x.toNat y.toNat l)::L')->Q (.tuple ⟨[.agg ⟨n.enc⟩,I e]⟩) g)->
    cE (yM 0<|.tuple ⟨[.agg ⟨n.enc⟩,I e]⟩) fun v3=>cE (yM 1<|.tuple ⟨[.agg ⟨n.enc⟩,I e]⟩) fun v4=>cE (Ba h 9 (IV p) v3) fun t=>cE (zJ t 9<|IV p) fun v6=>Q (.tuple ⟨[v6,v4]⟩) t:=by
   intro h l n e a v
   refine aQ rfl<|aQ rfl<|ax (b:=p) a fun h a=>an p a (l:=n.enc) rfl rfl<|v _ ?_
   have a:=Ul j<|a.dC (uD C (pl<|x.toNat*4+y.toNat) l)<|wx C pl F<|x.toNat*4+y.toNat
   rw[k.1,k.2] at a
   have a:=a.dC (aN f 0<|rO C pl)<|eP (4*C.aB.toNat)<|uC C pl<|F.set x.toNat y.toNat l
   exact(rV a).to
  dsimp only at d
  refine Mx (C:=C) (l:=F x.toNat y.toNat) (by have:=u x.toNat y.toNat;omega) a (fun r h a=>?_) fun r h a=>?_
  .rw[bA1 r] at d;refine sY _ _ _ a fun h a=>d _ ?_;have e2:F.set x.toNat y.toNat (F x.toNat y.toNat)=F:=by
    funext c w;unfold eN.set;split;rename_i e;rw[e.1,e.2];rfl
   rw[e2] at a
   exact a
  .rw[bA0 r] at d;exact sY _ _ _ a d
 .rw[bA1 q] at d;rw[bA0 q];refine bx<|gF<|aZ (c:=aG.zero.enc) rfl ?_;refine ax (b:=p) a fun h a=>?_;refine an p a (l:=aG.zero.enc) rfl rfl<|d _ ?_;exact rV a.tail
def my {x:Nat} (hC:C.Ok) (j:∀c w,(F c w).length<=500) (o:(x:Int)<C.aB) (r:y<4) (a:Hs G h L) [m:eB (tF C f) L F L']
  (k:∀q g,Hs G g (vnR q (F x y)::tF C f F::L')->Q (.func (.func 123) #[] #[IV q]) g):IU 27 [IV f,I x,I y] h Q:=by
 have n:=hC.1
 obtain⟨pl,a⟩:=Hy<|m.of a
 refine cW<|Dt (C:=C) (pl:=pl) hC a ?_
 rw[aac]
 have b:x*4+y<4*C.aB.toNat:=FA
 have d:(x*4+y)/4=x/\(x*4+y) % 4=y:=FA
 have a:=Mo b a.pS
 rw[show((x:Int)).toNat*4+((y:Int)).toNat=x*4+y by omega]
 rw[d.1,d.2] at a
 refine aCb (C:=C) (l:=F x y) (by have:=j x y;omega) a fun q h a=>k q _ ?_
 have a:=Ul b<|a.dC (uD C (pl<|x*4+y)<|F x y)<|wx C pl F<|x*4+y
 rw[d.1,d.2] at a
 have e2:F.set x y (F x y)=F:=by
  funext c w;unfold eN.set;split;rename_i e;rw[e.1,e.2];rfl
 rw[e2] at a
 have a:=a.dC (aN f 0<|rO C pl)<|eP (4*C.aB.toNat)<|uC C pl F
 exact(rV a).to
def A6 (C:bQ) (pl:Nat->Nat) (n:Nat):EU:=C.enc++(List.range 16).map fun k=>if k<n then IV (pl k) else .pointer none
def mq (d:n<16):bM (A6 C pl n) (7+n) [IV p]=A6 C (bD pl n p) (n+1):=by
 unfold A6;have e:∀(A B:EU) (j:Nat) (v:EU),j+v.length<=B.length->bM (A++B) (A.length+j) v=A++bM B j v:=by
  intro A;induction A with
  |nil=>intro B j v c;simp
  |cons x A f=>intro B j v c;rw[e7,hK,show A.length+1+j=(A.length+j)+1 by omega];show x::bM (A++B) (A.length+j) v=_;rw[f B j v c];rfl
 rw[show 7+n=C.enc.length+n by simp[bQ.enc],e _ _ _ _ FG,Ru (α:=Nat) d];congr 1;refine sz fun k _=>?_;by_cases a:k=n;subst a;rw[bA1 rfl,aac,dJ];rw[bA0 a];by_cases b:k<n;rw[bA1 b,aac,bO a];rw[bA0 b,aaa]
def Li:(A6 C pl n).length=23:=by unfold A6;simp[bQ.enc]
def zo (a:Hs G h (uD C p (F (n/4)<|n % 4)::eP n (uC C pl F)::L)):Hs G h (eP (n+1) (uC C (bD pl n p) F)::L):=by
 refine Hs.gq ?_;have b:uC C (bD pl n p) F n=uD C p (F (n/4)<|n % 4):=by unfold uC;rw[dJ]
 rw[b];have a:=a.pS;have a:=wI (g:=uC C (bD pl n p) F) (fun j c=>by unfold uC;rw[bO FA]) a;exact a.pS
theorem aB5 (hC:C.Ok) (g:Ob G 0 iF) (a:Hs G h L) (t:∀f r,Hs G r (tF C f (fun _ _=>[])::L)->Q (.tuple ⟨[IV f,I 0]⟩) r):IU 37 [.agg ⟨C.enc⟩] h Q:=by
 have v:=hC.1;refine cW<|eT a fun p h a=>an p a (l:=C.enc) rfl rfl<|uJ g a fun h a=>?_;rw[bA1 hC];refine bU<|aab<|bW<|an p a (l:=C.enc) rfl rfl<|aZ (c:=A6 C (fun _=>0) 0) rfl<|eT a fun f h a=>aA<|am p a rfl ?_;have inner:∀(k w x:Nat) (pl:Nat->Nat) (h:AH),w+k=4->(x:Int)<C.aB->(∀(pl:Nat->Nat) (h:AH),Hs G h (aN f 0 (A6 C pl<|4*x+4)::aN p 0 C.enc::eP (4*x+4) (uC C pl fun _ _=>[])::L)->Dd 37 6 [] Q [IV p,IV f,I C.aB,I x] h)->
   Hs G h (aN f 0 (A6 C pl<|4*x+w)::aN p 0 C.enc::eP (4*x+w) (uC C pl fun _ _=>[])::L)->Dd 37 4 [] Q [IV p,IV f,I x,I C.aB,I x,I w] h:=by
  intro k
  induction k with
  |zero=>
   intro w x pl h u d j a
   have:w=4:=FA
   subst this
   exact bW (bE<|aab<|j pl h a)
  |succ k n=>
   intro w x pl h u d j a
   refine bW<|bE<|aae<|bW<|aA<|am p a rfl<|aE9 hC a fun q h a=>aQ rfl<|aQ rfl<|bU<|aab<|bW<|aC<|aA<|kS FA<|kS FA ?_
   refine cF (b:=f) (o:=0) a rfl (by rw[Li];exact m4 FG) rfl (by rw[Li];rfl) fun h a=>aad ?_
   rw[show 0+7+x*4+w*1=7+(4*x+w) by omega,mq FA] at a
   refine n (w+1) x (bD pl (4*x+w) q) h FA d j ?_
   have a:=a.dC (uD C q [])<|eP (4*x+w)<|uC C pl fun _ _=>[]
   have a:=zo (F:=fun _ _=>[]) a
   exact(show Hs G h (aN f 0 (A6 C (bD pl (4*x+w) q)<|4*x+(w+1))::aN p 0 C.enc::eP (4*x+(w+1)) (uC C (bD pl (4*x+w) q) fun _ _=>[])::L) from a.to)
 have outer:∀(k x:Nat) (pl:Nat->Nat) (h:AH),x+k=C.aB.toNat->Hs G h (aN f 0 (A6 C pl<|4*x)::aN p 0 C.enc::eP (4*x) (uC C pl fun _ _=>[])::L)->Dd 37 2 [] Q [IV p,IV f,I C.aB,I x] h:=by
  intro k;induction k with
  |zero=>
   intro x pl h d a;refine bW<|bE<|aab<|t f h ?_;have e:x=C.aB.toNat:=FA
   subst e;have a:Hs G h (aN f 0 (rO C pl)::aN p 0 C.enc::eP (4*C.aB.toNat) (uC C pl fun _ _=>[])::L):=a;exact(rV<|show Hs G h (aN f 0 (rO C pl)::eP (4*C.aB.toNat) (uC C pl fun _ _=>[])::L) from a.to)
  |succ k n=>
   intro x pl h d a;refine bW<|bE<|aae<|bW ?_;refine inner 4 0 x pl h FA FA (fun pl h a=>bW<|aad<|n (x+1) pl h FA ?_) a;exact(show Hs G h (aN f 0 (A6 C pl<|4*(x+1))::aN p 0 C.enc::eP (4*(x+1)) (uC C pl fun _ _=>[])::L) from by rw[show 4*(x+1)=4*x+4 by omega];exact a)
 have a:=Hs.jc (f:=uC C (fun _=>0) fun _ _=>[]) a;exact outer C.aB.toNat 0 (fun _=>0) h FA<|show Hs G h (aN f 0 (A6 C (fun _=>0) 0)::aN p 0 C.enc::eP 0 (uC C (fun _=>0) fun _ _=>[])::L) from a.to
end
def aT8 {a:Nat} {l m:EU} (e:i<n) (c:i*a+a<=l.length) (d:(l.drop<|i*a).take a=m) (b:k (.agg ⟨m⟩)):cE (lz n a (.agg ⟨l⟩)<|I i) k:=
 ⟨.agg ⟨m⟩,by unfold lz;simp only;rw[bA1 ⟨FA,FA,by simpa using c⟩];simp[d],b⟩
attribute [local irreducible] cE Br xE zJ Ba K1 sO D9 sF na mC tH yM yV yE pR Be dr bf dm Xy bu py qY vS oL nR Fs Qe rE Xn lz Hj Cl E5 pw A9 zV qJ kI fJ dX
variable {G:Bg} {h:AH} {C:bQ}
def qH (C:bQ) (pl:Nat->Nat):EU:=(List.range 16).map fun k=>if k<4*C.aB.toNat then IV (pl k) else .pointer none
def Jy:(qH C pl).length=16:=by simp[qH]
def aIp {x w:Nat} (b:x<4) (a:w<4):(((qH C pl).drop<|x*4).take 4)[w]?=some (if x*4+w<4*C.aB.toNat then IV (pl<|x*4+w) else .pointer none):=by
 rw[BI a,BV];unfold qH;rw[km,oV FA];rfl
def aE4 (a:Q (.pointer none) h):IU 141 [.pointer none] h Q:=
 cW (bx<|gF a)
def aE8 (d:n<=j) (a:j<16):bM (A6 C pl n) (7+j) [.pointer none]=A6 C pl n:=by
 unfold A6;have e:∀(A B:EU) (j:Nat) (v:EU),j+v.length<=B.length->bM (A++B) (A.length+j) v=A++bM B j v:=by
  intro A;induction A with
  |nil=>intro B j v a;simp
  |cons x A c=>intro B j v a;rw[e7,hK,show A.length+1+j=(A.length+j)+1 by omega];show x::bM (A++B) (A.length+j) v=_;rw[c B j v a];rfl
 rw[show 7+j=C.enc.length+j by simp[bQ.enc],e _ _ _ _ FG,Ru (α:=Nat) a];congr 1;refine sz fun k _=>?_;by_cases b:k=j;rw[bA1 b,aaa];rw[bA0 b]
def ud (hC:C.Ok) (S:∀c w,(F c w).length<=500) (a:Hs G h L) [m:eB (tF C f) L F L'] (U:∀g O,Hs G O (tF C g F::tF C f F::L')->Q (IV g) O):IU 106 [IV f] h Q:=by
 have Y:=hC.1;obtain⟨pl,a⟩:=Hy<|m.of a;refine cW<|dM<|cS<|bW<|aC<|aA<|an f a (l:=C.enc) rfl rfl<|aZ (c:=A6 C (fun _=>0) 0) rfl<|eT a fun g h a=>aC<|aA<|an f a (l:=qH C pl) ?_ Jy ?_;unfold rO qH;rw[show 0+7=C.enc.length by simp[bQ.enc],List.drop_left,e6 FF];let N:=4*C.aB.toNat;have inner:∀(k w x:Nat) (d:Nat->Nat) (n:IB) (h:AH),[F2 n L']->w+k=4->x<4->(∀(d:Nat->Nat) (h:AH),Hs G h (aN g 0 (A6 C d<|min N<|4*x+4)::eP (min N<|4*x+4) (uC C d F)::aN f 0 (rO C pl)::eP N (uC C pl F)::n)->Dd 106 6 [] Q [IV g,.agg ⟨qH C pl⟩,I x] h)->
   Hs G h (aN g 0 (A6 C d<|min N<|4*x+w)::eP (min N<|4*x+w) (uC C d F)::aN f 0 (rO C pl)::eP N (uC C pl F)::n)->Dd 106 4 [] Q [IV g,I x,.agg ⟨qH C pl⟩,I x,.agg ⟨((qH C pl).drop<|x*4).take 4⟩,I w] h:=by
  intro k
  induction k with
  |zero=>
   intro w x d n h _ V y D a
   have:w=4:=FA
   subst this
   exact bW (bE<|aab<|D d h a)
  |succ k H=>
   intro w x d n h _ V y D a
   refine bW<|bE<|aae<|bW<|ze FA (aIp y FA)<|bI a fun r h a=>?_
   have sY:∀(v:Value) (u:Nat->Nat) (h:AH),gM v=true->Cv v [v]->bM (A6 C d<|min N<|4*x+w) (7+(4*x+w)) [v]=A6 C u (min N<|4*x+(w+1))->
     Hs G h (aN g 0 (A6 C d<|min N<|4*x+w)::eP (min N<|4*x+(w+1)) (uC C u F)::aN f 0 (rO C pl)::eP N (uC C pl F)::n)->
     cE (tH<|IV g) fun v4=>cE (mC 7 v4) fun v5=>cE (vS 4 4 v5<|I x) fun v6=>cE (vS 4 1 v6<|I w) fun W=>cE (Ba h 1 W v) fun P=>(uG (IV g) (IV g)=true)/\((uG (I x) (I x)=true)/\((uG (I w) (I w)=true)/\((cE (tH<|IV g) fun v9=>uG v9 v4=true)/\((cE (mC 7 v4) fun v10=>uG v10 v5=true)/\((cE (vS 4 4 v5<|I x) fun v11=>uG v11 v6=true)/\(cE (Be .add (I w)<|I 1) fun J=>Dd 106 4 [] Q [IV g,I x,.agg ⟨qH C pl⟩,I x,.agg ⟨((qH C pl).drop<|x*4).take 4⟩,J] P)))))):=by
    intro v u h E R T a
    refine aC<|aA<|kS y<|kS FA ?_
    refine cF (b:=g) (o:=0) a rfl (by rw[Li];exact m4 FG) (by simp[E]) (by rw[Li];rfl) fun h a=>?_
    rw[show 0+7+x*4+w*1=7+(4*x+w) by omega,T] at a
    refine cR dG<|cR jF<|cR jF<|cR (aC dG)<|cR (aA dG)<|cR (kS y dG)<|aad ?_
    exact H (w+1) x u n h FA y D a
   by_cases A:x*4+w<4*C.aB.toNat
   .rw[bA1 A];have X:eP N (uC C pl F)=eP (4*C.aB.toNat) (uC C pl F):=rfl;have a:=Mo A<|a.bF<|eP N<|uC C pl F;refine r7 (C:=C) (l:=F ((x*4+w)/4)<|(x*4+w) % 4) (by have:=S ((x*4+w)/4)<|(x*4+w) % 4;omega) a fun q h a=>?_;have a:=Ul A<|a.dC (uD C (pl<|x*4+w)<|F ((x*4+w)/4)<|(x*4+w) % 4)<|wx C pl F<|x*4+w;have e2:F.set ((x*4+w)/4) ((x*4+w) % 4) (F ((x*4+w)/4)<|(x*4+w) % 4)=F:=by
     funext c w;unfold eN.set;split;rename_i e;rw[e.1,e.2];rfl
    rw[e2] at a
    have j:min N (4*x+w)=4*x+w:=by show min (4*C.aB.toNat) _=_;omega
    have t:min N (4*x+(w+1))=4*x+w+1:=by show min (4*C.aB.toNat) _=_;omega
    rw[j] at a
    rw[show x*4+w=4*x+w by omega] at a
    have a:=a.dC (uD C q<|F ((4*x+w)/4)<|(4*x+w) % 4)<|eP (4*x+w)<|uC C d F
    have a:=zo a
    refine sY (IV q) (bD d (4*x+w) q) h rfl inferInstance ?_ ?_
    .rw[j,t,mq FA]
    .rw[j,t];exact a.to
   .rw[bA0 A];have j:min N (4*x+w)=N:=FZ
    have t:min N (4*x+(w+1))=N:=FZ
    refine aE4<|sY (.pointer none) d h rfl inferInstance ?_ ?_
    .rw[j,t];exact aE8 (by show 4*C.aB.toNat<=_;omega) FA
    .rw[j] at a;rw[j,t];exact a.to
 have outer:∀(k x:Nat) (d:Nat->Nat) (n:IB) (h:AH),[F2 n L']->x+k=4->Hs G h (aN g 0 (A6 C d<|min N<|4*x)::eP (min N<|4*x) (uC C d F)::aN f 0 (rO C pl)::eP N (uC C pl F)::n)->Dd 106 2 [] Q [IV g,.agg ⟨qH C pl⟩,I x] h:=by
  intro k;induction k with
  |zero=>
   intro x d n h _ y a;refine bW<|bE<|aab<|U g h ?_;have j:min N (4*x)=N:=FZ
   rw[j] at a;have a:Hs G h (aN g 0 (rO C d)::eP (4*C.aB.toNat) (uC C d F)::aN f 0 (rO C pl)::eP (4*C.aB.toNat) (uC C pl F)::n):=a;have a:=rV a;have a:=a.dC (aN f 0<|rO C pl)<|eP (4*C.aB.toNat)<|uC C pl F;have a:=rV a;exact a.to
  |succ k H=>
   intro x d n h _ y a;refine bW (bE<|aae<|bW<|aT8 FA (by rw[Jy];omega) rfl<|cK a fun p h a=>?_);have z:(((qH C pl).drop<|x*4).take 4).length=4:=by rw[l4,oH,Jy];omega
   have B:(((qH C pl).drop<|x*4).take 4).all gM=true:=by
    refine ss.2 fun v E=>?_;have:=DK<|List.mem_of_mem_take E;unfold qH at this;obtain⟨k,_,rfl⟩:=eV.1 this;split<;>rfl
   refine bK (b:=p) a rfl rfl z B fun h a=>an p a (l:=((qH C pl).drop<|x*4).take 4) (by rw[l5];exact e6 FA) z ?_;refine inner 4 0 x d (aN p 0 (((qH C pl).drop<|x*4).take 4)::n) h FA FA (fun d h a=>bW<|aad<|H (x+1) d (aN p 0 (((qH C pl).drop<|x*4).take 4)::n) h FA<|by rw[show 4*(x+1)=4*x+4 by omega];exact a) ?_;exact a.to
 have a:=Hs.jc (f:=uC C (fun _=>0) F) a;refine outer 4 0 (fun _=>0) L' h FA ?_;rw[show min N (4*0)=0 by omega];exact a.to
end Go.Proofs.Z
variable {l:EW} {m:Nat} {cs z:EU} {L2 b:IB} {e:TypeId} {co:Int}
section
attribute [local irreducible] cE Br xE zJ Ba K1 sO D9 sF na mC tH yM yV yE pR Be dr bf dm Xy bu py qY vS oL nR Fs Qe rE Xn lz Hj Cl E5 pw A9 zV qJ kI fJ dX
namespace Go.Proofs.Z
open Go.Hm Go.At Go.Is Go.Mc
variable {s:aT}
section
instance:Fx iD.enc 4:=⟨fun _=>rfl,fun _=>rfl⟩
variable {G:Bg} {h:AH}
abbrev du (a:EX) (c:Nat) (l:ID):HP:=ls iD.enc 4 49 a c l
def yN (i:Nat) (s:aT) (a:EX) (c:Nat):EU:=s.core++[I i,.slice a s.prog.length c]
def rH (i:Nat) (p:Nat) (s:aT):HP:=A5 fun x:EX×Nat=>sp [aN p 0<|yN i s x.1 x.2,du x.1 x.2 s.prog]
def vI (b:Hs G h (rH i p s::L)):∃a c,Hs G h (aN p 0 (yN i s a c)::du a c s.prog::L):=by
 obtain⟨⟨a,c⟩,b⟩:=b.Fl;exact⟨a,c,b.Fk⟩
def qF (p i:Nat) (s:aT) {l:ID} (f:Hs G h L) [m:eB (aN p 0) L cs b] [g:eB (du a c) b l L2] (d:cs=yN i s a c) (e:l=s.prog):Hs G h (rH i p s::L2):=by
 subst d;subst e;exact Hs.Cn (A:=fun x:EX×Nat=>sp [aN p 0<|yN i s x.1 x.2,du x.1 x.2 s.prog]) (a,c)<|Hs.nY (A:=[_,_])<|f.cH<|m.cH.trans<|g.cH.cons _
def aSc {k:Int} (b:0<=k/\k<4):(yN i s a c)[0+0+0+k.toNat*1]?=some (I<|s.dI k.toNat):=by
 have:k=0\/k=1\/k=2\/k=3:=FA
 rcases this with rfl|rfl|rfl|rfl<;>rfl
def aOr {k v:Int} (b:0<=k/\k<4):bM (yN i s a c) (0+0+0+k.toNat*1) [I v]=yN i (s.dO k v) a c:=by
 have:k=0\/k=1\/k=2\/k=3:=FA
 rcases this with rfl|rfl|rfl|rfl<;>rfl
def Gu {k:Int} {q:Value->Prop} (f:Hs G h L) [m:eB (aN p 0) L (yN i s a c) L'] (d:0<=k/\k<4) (e:q (I<|s.dI k.toNat)):cE (tH<|IV p) fun v4=>cE (mC 0 v4) fun v5=>cE (mC 0 v5) fun v6=>cE (vS 4 1 v6<|I k) fun g=>cE (xE h g) q:=
 aC (aA<|aA<|gK d.1 d.2<|am p f (aSc d) e)
def B0 {k v:Int} {q:AH->Prop} (d:Hs G h L) [m:eB (aN p 0) L (yN i s a c) L'] (e:0<=k/\k<4) (j:∀f,Hs G f (aN p 0 (yN i (s.dO k v) a c)::L')->q f):cE (tH<|IV p) fun v4=>cE (mC 0 v4) fun v5=>cE (mC 0 v5) fun v6=>cE (vS 4 1 v6<|I k) fun l=>cE (Ba h 1 l<|I v) q:=by
 refine aC<|aA<|aA<|gK e.1 e.2 ?_;have g:(yN i s a c).length=9:=rfl;refine cF (b:=p) (o:=0) d rfl (by rw[g];exact m4 FG) rfl rfl fun h d=>?_;rw[aOr e] at d;exact j _ d
def aA7 (q:0<=x) (d:cs[8]?=some (.slice a s.prog.length c)) (g:Hs G h L) [m:eB (aN p 0) L cs L'] [r:eB (du a c) L' s.prog M] (f:∀n,Hs G n L->Q (.bool<|G2 s.prog x) n):IU 97 [IV p,I x] h Q:=by
 have k:Hs G h (aN p 0 cs::du a c s.prog::M):=g.cH<|m.cH.trans<|r.cH.cons _;unfold G2 at f;refine cW<|bE<|aab<|aC<|aA<|am p g d<|dB<|fX<|bG (fun j=>?_) fun j=>?_;rw[bA1 j] at f;exact f _ g;rw[bA0 j] at f;refine aC<|aA<|am p g d<|aIm (l:=s.prog) (a:=a) (c:=c) (enc:=iD.enc) (e:=49) (x:=mX s.prog x) k q ?_ rfl<|cC ?_;unfold mX;rw[aP,bj FA];rfl;exact f _ g
def M6 (g:0<=x) (d:Hs G h L) [m:eB (rH i p) L s L'] (f:∀e,Hs G e (rH i p (s.jB x)::L')->Q (.tuple ⟨[]⟩) e):IU 71 [IV p,I x] h Q:=by
 obtain⟨a,c,d⟩:=vI<|m.of d;refine cW<|aC<|aA<|aA<|ay (b:=p) (o:=0) d fun h d=>?_;refine aA7 (s:=s) (a:=a) (c:=c) g rfl d fun h d=>aC<|aA<|aA<|ay (b:=p) (o:=0) d fun h d=>f _ ?_;exact qF p i (s.jB x) (a:=a) (c:=c) d rfl rfl
def iw {x:iD} (d:Hs G h L) [m:eB (aN p 0) L (yN i s a c) L'] (f:∀e,Hs G e L->Q (.agg ⟨(aT.ev s i x 0 0 0).enc⟩) e):IU 129 [IV p,.agg ⟨x.enc⟩] h Q:=by
 refine cW<|eT d fun q h d=>cK d fun r h d=>bI d fun g h d=>?_;refine aC<|aA<|am p d rfl<|aC<|aA<|aA<|am p d rfl<|aA<|am q d rfl<|aC<|aA<|aA<|am p d rfl<|aZ (c:=(aT.ev s i x 0 0 0).enc) rfl ?_;refine ax (b:=r) d fun h d=>an r d (l:=(aT.ev s i x 0 0 0).enc) rfl rfl<|f _ d.to
def aTh:iD:=⟨0,0,0,0⟩
def Rk (j:s.Ok) (d:Hs G h L) [m:eB (rH i p) L s L'] (g:∀k,Hs G k (rH i p s::L')->Q (if s.over then .tuple ⟨[.agg ⟨aTh.enc⟩,.bool false]⟩ else .tuple ⟨[.agg ⟨(mX s.prog s.at').enc⟩,.bool true]⟩) k):IU 128 [IV p] h Q:=by
 obtain⟨a,c,d⟩:=vI<|m.of d;refine cW<|cK d fun q h d=>dM<|cS<|aC<|aA<|aA<|am p d rfl<|aA7 (s:=s) (a:=a) (c:=c) j.1 rfl d fun h d=>?_;rw[<-j.2.2.1];refine eA (fun f=>?_) fun f=>?_;rw[f,bA1 rfl] at g;refine aZ (c:=aTh.enc) rfl<|ax (b:=q) d fun h d=>an q d (l:=aTh.enc) rfl rfl<|g _ ?_;exact(qF p i s (a:=a) (c:=c) d rfl rfl).to;rw[f] at g;have r:=Ds (p:=s.prog) (a:=s.at') (by rw[<-j.2.2.1];exact f);have n:=j.1;refine bI d fun t h d=>aC<|aA<|am p d rfl<|aC<|aA<|aA<|am p d rfl ?_;refine Ac (l:=s.prog) (a:=a) (c:=c) (enc:=iD.enc) (e:=49) (x:=mX s.prog s.at') d FC n ?_ ?_;unfold mX;rw[aP,bj FA];rfl;refine ax (b:=q) d fun h d=>an q d (l:=(mX s.prog s.at').enc) rfl rfl<|g _ ?_;exact(qF p i s (a:=a) (c:=c) d rfl rfl).to
def X1 (a:Q (.bool<|Jb x) h):IU 132 [I x] h Q:=by
 unfold Jb at a;refine cW<|cC<|bG (fun b=>?_) fun b=>cC<|bG (fun c=>?_) fun c=>cC ?_;rw[cL FA] at a;exact a;rw[cL FA] at a;exact a;rw[show decide (x=3\/x=4\/x=5)=decide (x=5) from AW.2 FA] at a;exact a
end
section
def Ig (a:s.Ok) (h:s.over=false):aKw (mX s.prog s.at') s.prog.length:=
 M5 (a.2.2.2.2 _<|De a.1<|Ds<|by rw[<-a.2.2.1];exact h)
variable {G:Bg} {h:AH}
def qA {v:Ev} {q2 e:Nat} {b:Value} (q:z.length=7) (n:0<=x) (a:Hs G h (rH i p s::aN e 0 v.enc::aN q2 0 z::L)) (k:∀j,Hs G j (rH i p (s.jB x)::L)->Q (.tuple ⟨[.agg ⟨v.enc⟩,b]⟩) j):
  IU 71 [IV p,I x] h fun _ c=>cE (zJ c 7<|IV e) fun f=>cE (Ba c 7 (IV q2) f) fun d=>cE (zJ d 7<|IV q2) fun g=>Q (.tuple ⟨[g,b]⟩) d:=by
 refine M6 (i:=i) (s:=s) n a fun h a=>an e a (l:=v.enc) rfl rfl<|bK (b:=q2) a (by rw[q];rfl) rfl rfl rfl fun h a=>an q2 a (l:=v.enc) rfl rfl<|k _ a.to
def aJx (A:s.Ok) (d:Hs G h L) [m:eB (rH i p) L s L']
  (f:∀F,Hs G F (rH i p (match aT.mM s i with|some r=>r.1|none=>s)::L')->Q (match aT.mM s i with|some r=> .tuple ⟨[.agg ⟨r.2.enc⟩,.bool true]⟩|none=> .tuple ⟨[.agg ⟨Nl.enc⟩,.bool false]⟩) F):IU 101 [IV p] h Q:=by
 have d:=m.of d
 have J:=A.1
 unfold aT.mM aT.kQ at f
 refine cW<|cK (cs:=Nl.enc) d fun q2 h d=>Rk (i:=i) (s:=s) A d fun h d=>?_
 cases hov:s.over with
 |true=>
  simp only[hov,ew] at f ⊢
  refine aQ rfl<|aQ rfl<|cK d fun j h d=>ax (b:=j) d fun h d=>cX<|gF<|aZ (c:=Nl.enc) rfl ?_
  refine ax (b:=q2) d fun h d=>an q2 d (l:=Nl.enc) rfl rfl (f _ d.to)
 |false=>
  have q:=Ig A hov
  simp only[hov,aO,dd] at f ⊢
  generalize N:mX s.prog s.at'=x at f q
  refine aQ rfl<|aQ rfl<|cK d fun j h d=>ax (b:=j) d fun h d=>cX<|cS ?_
  obtain⟨a,c,d⟩:=vI<|d.bF<|rH i p s
  refine bW<|an j d (l:=x.enc) rfl rfl<|iw (a:=a) (c:=c) (s:=s) d fun h d=>cK d fun g h d=>ax (b:=g) d fun h d=>?_
  refine aC<|aA<|aA<|am p d rfl<|bX (by have:=A.2.1;omega)<|aA<|am j d rfl ?_
  have d:Hs G h (aN j 0 x.enc::aN g 0 (aT.ev s i x 0 0 0).enc::aN q2 0 Nl.enc::aN p 0 (yN i s a c)::du a c s.prog::L'):=d.to
  have e:∀{h:AH} {s':aT} {M:IB} {v:Ev},s'.prog=s.prog->Hs G h (aN g 0 v.enc::aN q2 0 Nl.enc::aN p 0 (yN i s' a c)::du a c s.prog::L')->Hs G h (rH i p s'::aN g 0 v.enc::aN q2 0 Nl.enc::L'):=by
   intro h s' M v B d;exact qF p i s' (a:=a) (c:=c) d rfl B.symm
  refine cC<|bG (fun n=>?_) fun n=>bW<|cC<|bG (fun c2=>?_) fun c2=>bW<|cC<|bG (fun u=>?_) fun u=>bW<|cC<|bG (fun w=>?_) fun w=>bW<|cC<|bG (fun z=>?_) fun z=>bW<|cC<|bG (fun t=>?_) fun t=>?_
  .simp only[n,ew] at f;have y:=q.r1 FA;refine bW<|aA<|am j d rfl<|aA<|ay (b:=g) (o:=0) d fun h d=>bI d fun H h d=>aA<|am j d rfl<|aA<|am g d rfl<|B0 (s:=s) (a:=a) (c:=c) d y fun h d=>?_;have d:=d.sg (b:=g) (o:=0) (c:=(aT.ev s i x 0 x.b 0).enc) rfl;exact qA (s:=s.dO x.a x.b) (v:=aT.ev s i x 0 x.b 0) rfl FA (e (M:=L) (s':=s.dO x.a x.b) rfl d.to) f
  .simp only[bA0 n,c2,ew] at f;have y:=q.r1 FA;have D:=q.r2 FA;have E:=q.r3 FA;refine bW<|bI d fun H h d=>aA<|am j d rfl<|Gu (s:=s) (i:=i) (a:=a) (c:=c) d D<|aA<|am j d rfl<|Gu (s:=s) (i:=i) (a:=a) (c:=c) d E<|cv<|aA ?_;refine ay (b:=g) (o:=0) d fun h d=>bI d fun I h d=>aA<|am j d rfl<|aA<|am g d rfl<|B0 (s:=s) (a:=a) (c:=c) d y fun h d=>?_;have d:=d.sg (b:=g) (o:=0) (c:=(aT.ev s i x 0 (wr<|s.dI x.b.toNat+s.dI x.c.toNat) 0).enc) rfl;exact qA (s:=s.dO x.a<|wr<|s.dI x.b.toNat+s.dI x.c.toNat) (v:=aT.ev s i x 0 (wr<|s.dI x.b.toNat+s.dI x.c.toNat) 0) rfl FA (e (M:=L) (s':=s.dO x.a<|wr<|s.dI x.b.toNat+s.dI x.c.toNat) rfl d.to) f
  .simp only[bA0 n,bA0 c2,u,ew] at f;exact bW<|qA (s:=s) (v:=aT.ev s i x 0 0 0) rfl FA (e (M:=L) (s':=s) rfl d.to) f
  .simp only[bA0 n,bA0 c2,bA0 u,w,ew] at f;refine bW (aA<|am j d rfl<|aA<|ay (b:=g) (o:=0) d fun h d=>aC<|aA<|aA<|am p d rfl<|cC<|bG (fun k=>?_) fun k=>?_)
   .simp only[k,ew] at f;refine bW<|aA<|am j d rfl<|aC<|aA<|aA<|ay (b:=p) (o:=0) d fun h d=>?_;have d:=(d.sg (b:=g) (o:=0) (c:=(aT.ev s i x 0 x.a 0).enc) rfl).sg (b:=p) (o:=0) (c:=yN i (s.Yo x.a) a c) rfl;exact qA (s:=s.Yo x.a) (v:=aT.ev s i x 0 x.a 0) rfl FA (e (M:=L) (s':=s.Yo x.a) rfl d.to) f
   .simp only[bA0 k] at f;refine bW<|aA<|ay (b:=g) (o:=0) d fun h d=>?_;have d:=d.sg (b:=g) (o:=0) (c:=(aT.ev s i x 0 x.a 18).enc) rfl;exact qA (s:=s) (v:=aT.ev s i x 0 x.a 18) rfl FA (e (M:=L) (s':=s) rfl d.to) f
  .simp only[bA0 n,bA0 c2,bA0 u,bA0 w,z,ew] at f;have B:=q.p1 FA;refine bW<|aA<|am j d rfl<|aA<|ay (b:=g) (o:=0) d fun h d=>aA<|am j d rfl ?_;have d:=d.sg (b:=g) (o:=0) (c:=(aT.ev s i x 0 x.a 0).enc) rfl;exact qA (s:=s) (v:=aT.ev s i x 0 x.a 0) rfl FA (e (M:=L) (s':=s) rfl d.to) f
  .simp only[bA0 n,bA0 c2,bA0 u,bA0 w,bA0 z,t,ew] at f;have y:=q.r1 FA;have B:=q.p2 FA;refine bW<|bI d fun H h d=>aA<|am j d rfl<|Gu (s:=s) (i:=i) (a:=a) (c:=c) d y<|aA ?_;refine ay (b:=g) (o:=0) d fun h d=>aA (am g d rfl<|cC<|bG (fun k=>?_) fun k=>?_)
   .have k:s.dI x.a.toNat=0:=k;simp only[bA1 k] at f;have d:=d.sg (b:=g) (o:=0) (c:=(aT.ev s i x 0 (s.dI x.a.toNat) 0).enc) rfl;refine bW<|aA<|am j d rfl ?_;exact qA (s:=s) (v:=aT.ev s i x 0 (s.dI x.a.toNat) 0) rfl FA (e (M:=L) (s':=s) rfl d.to) f
   .have k:¬s.dI x.a.toNat=0:=k;simp only[bA0 k] at f;have d:=d.sg (b:=g) (o:=0) (c:=(aT.ev s i x 0 (s.dI x.a.toNat) 0).enc) rfl;exact bW<|qA (s:=s) (v:=aT.ev s i x 0 (s.dI x.a.toNat) 0) rfl FA (e (M:=L) (s':=s) rfl d.to) f
  .simp only[bA0 n,bA0 c2,bA0 u,bA0 w,bA0 z,bA0 t] at f;refine aZ (c:=Nl.enc) rfl<|ax (b:=q2) d fun h d=>an q2 d (l:=Nl.enc) rfl rfl<|f _ ?_;exact(qF p i s (a:=a) (c:=c) d rfl rfl).to
end
section
def Ad (a:vR):EU:=[I a.dF,.bool a.iS,.bool a.Fz,I a.value]
def Zq:vR:=⟨0,false,false,0⟩
def aBe:Mc.Nk:=⟨0,0,0,0,0⟩
variable {G:Bg} {h:AH}
def Of (y:s.Ok) (d:Hs G h L) [m:eB (rH i p) L s L']
  (f:∀k,Hs G k (rH i p s::L')->Q (match aT.iI s with|some a=> .tuple ⟨[.agg ⟨Ad a⟩,.bool true]⟩|none=> .tuple ⟨[.agg ⟨Ad Zq⟩,.bool false]⟩) k):IU 104 [IV p] h Q:=by
 have d:=m.of d
 unfold aT.iI aT.kQ at f
 refine cW<|cK (cs:=Ad Zq) d fun q2 h d=>Rk (i:=i) (s:=s) y d fun h d=>?_
 cases hov:s.over with
 |true=>
  simp only[hov,ew] at f ⊢
  refine aQ rfl<|aQ rfl<|cK d fun g h d=>ax (b:=g) d fun h d=>cX<|gF<|aZ (c:=Ad Zq) rfl ?_
  refine ax (b:=q2) d fun h d=>an q2 d (l:=Ad Zq) rfl rfl (f _ d.to)
 |false=>
  have q:=Ig y hov
  simp only[hov,aO,dd] at f ⊢
  generalize F:mX s.prog s.at'=x at f q
  refine aQ rfl<|aQ rfl<|cK d fun g h d=>ax (b:=g) d fun h d=>cX<|cS<|aA<|am g d rfl<|X1<|cX<|fM<|eA (fun j=>?_) fun j=>?_
  .have j:Jb x.op=true:=j;have B:x.op=3\/x.op=4\/x.op=5:=cP j;simp only[j,ew] at f;have z:=q.r1 FA;have t:=q.r2 FA;obtain⟨a,c,d⟩:=vI<|d.bF<|rH i p s;have d:Hs G h (aN g 0 x.enc::aN q2 0 (Ad Zq)::aN p 0 (yN i s a c)::du a c s.prog::L'):=d.to;have sY:∀{h:AH} {M:IB} (e:Nat) (v:vR),[F2 M L']->Hs G h (aN e 0 (Ad v)::aN q2 0 (Ad Zq)::aN p 0 (yN i s a c)::du a c s.prog::M)->(∀k,Hs G k (rH i p s::L')->Q (.tuple ⟨[.agg ⟨Ad v⟩,.bool true]⟩) k)->
     cE (zJ h 4<|IV e) fun v1=>cE (Ba h 4 (IV q2) v1) fun w=>cE (zJ w 4<|IV q2) fun v3=>Q (.tuple ⟨[v3,.bool true]⟩) w:=by
    intro h M e v _ d E
    refine an e d (l:=Ad v) rfl rfl<|ax (b:=q2) d fun h d=>an q2 d (l:=Ad v) rfl rfl<|E _ ?_
    exact(qF p i s (a:=a) (c:=c) d rfl rfl).to
   refine bW<|bI d fun u h d=>aA<|am g d rfl<|Gu (s:=s) (i:=i) (a:=a) (c:=c) d t<|aZ (c:=Ad ⟨s.dI x.b.toNat,false,false,0⟩) rfl ?_
   refine nJ (r:=u) (i:=9) (n:=11) (D:=[]) (cs:=Ad Zq) d rfl rfl fun e h d=>ax (b:=e) d fun h d=>aA<|am g d rfl<|cC<|bG (fun c3=>?_) fun c3=>bW<|cC<|bG (fun c5=>?_) fun c5=>bW<|cC<|bG (fun A=>?_) fun A=>?_
   .rw[cM FA,cL<|show x.op≠4 by omega,bA1<|show x.op=3 by omega] at f;refine bW<|aA<|ay (b:=e) (o:=0) d fun h d=>?_;have d:=d.sg (b:=e) (o:=0) (c:=Ad ⟨s.dI x.b.toNat,false,true,0⟩) rfl;exact sY (M:=L') e ⟨s.dI x.b.toNat,false,true,0⟩ d.to f
   .rw[cL<|show x.op≠3 by omega,cL<|show x.op≠4 by omega,bA0<|show ¬x.op=3 by omega] at f;refine bW<|aA<|ay (b:=e) (o:=0) d fun h d=>aA<|ay (b:=e) (o:=0) d fun h d=>bI d fun u h d=>aA<|am g d rfl<|Gu (s:=s) (i:=i) (a:=a) (c:=c) d z<|aA<|ay (b:=e) (o:=0) d fun h d=>?_;have d:=d.sg (b:=e) (o:=0) (c:=Ad ⟨s.dI x.b.toNat,true,true,s.dI x.a.toNat⟩) rfl;exact sY (M:=L') e ⟨s.dI x.b.toNat,true,true,s.dI x.a.toNat⟩ d.to f
   .rw[cL<|show x.op≠3 by omega,cM FA,bA0<|show ¬x.op=3 by omega] at f;refine bW<|aA<|ay (b:=e) (o:=0) d fun h d=>bI d fun u h d=>aA<|am g d rfl<|Gu (s:=s) (i:=i) (a:=a) (c:=c) d z<|aA<|ay (b:=e) (o:=0) d fun h d=>?_;have d:=d.sg (b:=e) (o:=0) (c:=Ad ⟨s.dI x.b.toNat,true,false,s.dI x.a.toNat⟩) rfl;exact sY (M:=L') e ⟨s.dI x.b.toNat,true,false,s.dI x.a.toNat⟩ d.to f
   .omega
  .have j:Jb x.op=false:=j;simp only[j,aO,dd] at f;refine aZ (c:=Ad Zq) rfl<|ax (b:=q2) d fun h d=>an q2 d (l:=Ad Zq) rfl rfl<|f _ d.to
def aSk (r:s.Ok) (d:Hs G h L) [m:eB (rH i p) L s L']
  (e:∀q,Hs G q (rH i p s::L')->Q (match aT.xR s i with|some a=> .tuple ⟨[.agg ⟨a.enc⟩,.bool true]⟩|none=> .tuple ⟨[.agg ⟨aBe.enc⟩,.bool false]⟩) q):IU 102 [IV p] h Q:=by
 have d:=m.of d
 unfold aT.xR aT.kQ at e
 refine cW<|cK (cs:=aBe.enc) d fun q2 h d=>Rk (i:=i) (s:=s) r d fun h d=>?_
 cases hov:s.over with
 |true=>
  simp only[hov,ew] at e ⊢
  refine aQ rfl<|aQ rfl<|cK d fun g h d=>ax (b:=g) d fun h d=>cX<|gF<|aZ (c:=aBe.enc) rfl ?_
  refine ax (b:=q2) d fun h d=>an q2 d (l:=aBe.enc) rfl rfl (e _ d.to)
 |false=>
  have j:=Ig r hov
  simp only[hov,aO,dd] at e ⊢
  generalize t:mX s.prog s.at'=x at e j
  refine aQ rfl<|aQ rfl<|cK d fun g h d=>ax (b:=g) d fun h d=>cX<|cS<|aA<|am g d rfl<|bU<|bG (fun f=>?_) fun f=>?_
  .have f:¬x.op=8:=f;rw[bA0 f] at e;refine aZ (c:=aBe.enc) rfl<|ax (b:=q2) d fun h d=>an q2 d (l:=aBe.enc) rfl rfl<|e _ d.to
  .have f:x.op=8:=by have:¬x.op≠8:=f;omega
   rw[bA1 f] at e
   have k:=j.r2 FA
   have n:=j.r3 FA
   obtain⟨a,c,d⟩:=vI<|d.bF<|rH i p s
   refine bI d fun u h d=>aC<|aA<|am p d rfl<|aC<|aA<|aA<|am p d rfl<|aA<|am g d rfl<|aA<|am g d rfl ?_
   refine Gu (s:=s) (i:=i) (a:=a) (c:=c) d k<|aA<|am g d rfl<|Gu (s:=s) (i:=i) (a:=a) (c:=c) d n ?_
   refine aZ (c:=(⟨i,s.bA,x.a,s.dI x.b.toNat,s.dI x.c.toNat⟩:Mc.Nk).enc) rfl<|ax (b:=q2) d fun h d=>an q2 d (l:=(⟨i,s.bA,x.a,s.dI x.b.toNat,s.dI x.c.toNat⟩:Mc.Nk).enc) rfl rfl<|e _ ?_
   exact(qF p i s (a:=a) (c:=c) d rfl rfl).to
def u9 {x:iD} {e A:Nat} {code:Int} {k:AH->Nat->Prop} {y:Bool} (r:y=true) (H:0<=x.b/\x.b<4) (d:Hs G h (aN e 0 x.enc::aN A 0 Nl.enc::aN p 0 (yN i s a c)::du a c s.prog::L))
  (F:∀q z,Hs G z (aN q 0 (aT.ev s i x (s.dI x.b.toNat) 0 code).enc::aN e 0 x.enc::aN A 0 Nl.enc::aN p 0 (yN i s a c)::du a c s.prog::L)->k z q):
  cE (zJ h 4<|IV e) fun v0=>IU 129 [IV p,v0] h fun v1 B=>K1 B (.cells [I 0,I 0,I 0,I 0,I 0,I 0,I 0] 68 (0,0) true) fun f D=>cE (Ba D 7 (IV f) v1) fun E=>na y E 13 fun _ n=>
   cE (mC 2<|IV e) fun J=>cE (xE n J) fun N=>cE (tH<|IV p) fun v9=>cE (mC 0 v9) fun v10=>cE (mC 0 v10) fun v11=>cE (vS 4 1 v11 N) fun t=>cE (xE n t) fun u=>cE (mC 4<|IV f) fun v=>cE (Ba n 1 v u) fun g=>cE (mC 6<|IV f) fun w=>cE (Ba g 1 w<|I code) fun j=>
   (uG (I code) (I code)=true)/\k j f:=by
 refine an e d (l:=x.enc) rfl rfl<|iw (a:=a) (c:=c) (s:=s) (i:=i) d fun h d=>cK d fun q h d=>ax (b:=q) d fun h d=>bI (hc:=r) d fun O h d=>aA<|am e d rfl ?_
 refine Gu (s:=s) (i:=i) (a:=a) (c:=c) d H<|aA<|ay (b:=q) (o:=0) d fun h d=>aA<|ay (b:=q) (o:=0) d fun h d=>cR jF<|F _ _ ?_
 have d:=d.sg (b:=q) (o:=0) (c:=(aT.ev s i x (s.dI x.b.toNat) 0 code).enc) rfl
 exact d.to
def aCz {value code:Int} (J:s.Ok) (d:Hs G h L) [m:eB (rH i p) L s L']
  (g:∀H,Hs G H (rH i p (aT.bL s i value code).1::L')->Q (.tuple ⟨[.agg ⟨(aT.bL s i value code).2.1.enc⟩,I (aT.bL s i value code).2.2]⟩) H):IU 171 [IV p,I value,I code] h Q:=by
 have d:=m.of d
 have Z:=J.1
 have V:=J.2.1
 unfold aT.bL aT.kQ at g
 refine cW<|cK (cs:=Nl.enc) d fun j h d=>dM<|cS<|bW<|Rk (i:=i) (s:=s) J d fun h d=>?_
 have bad:∀{h:AH} {M:IB} (e:Int),[F2 M (rH i p s::L')]->Hs G h (aN j 0 Nl.enc::M)->(∀H,Hs G H (rH i p s::L')->Q (.tuple ⟨[.agg ⟨Nl.enc⟩,I e]⟩) H)->
   cE (tQ [I 0,I 0,I 0,I 0,I 0,I 0,I 0] []) fun c5=>cE (Ba h 7 (IV j)<|.agg ⟨c5⟩) fun S=>cE (zJ S 7<|IV j) fun Y=>Q (.tuple ⟨[Y,I e]⟩) S:=by
  intro h M e _ d X
  refine aZ (c:=Nl.enc) rfl<|ax (b:=j) d fun h d=>an j d (l:=Nl.enc) rfl rfl<|X _ ?_
  exact d.tail.to
 cases hov:s.over with
 |true=>
  simp only[hov,ew] at g ⊢
  refine aQ rfl<|aQ rfl<|cK d fun f h d=>ax (b:=f) d fun h d=>cX<|gF ?_
  exact bad (M:=rH i p s::L') 16 d.to g
 |false=>
  have E:=Ig J hov
  simp only[hov,aO,dd] at g ⊢
  generalize hx:mX s.prog s.at'=x at g E
  refine aQ rfl<|aQ rfl<|cK d fun f h d=>ax (b:=f) d fun h d=>cX<|cS<|aA<|am f d rfl ?_
  have tail:∀{h:AH} {a:EX} {c q:Nat},(x.op=8\/Jb x.op=true/\(code=0\/code=19))->Hs G h (aN q 0 (aT.ev s i x (s.dI x.b.toNat) 0 code).enc::aN f 0 x.enc::aN j 0 Nl.enc::aN p 0 (yN i s a c)::du a c s.prog::L')->
    cE (mC 0<|IV f) fun r=>cE (xE h r) fun t=>cE (Be .eql t<|I 8) fun v20=>Br v20 (Dd 171 4 [] Q [IV p,I code,IV j,IV f,IV q] h) (Dd 171 5 [] Q [IV p,I value,I code,IV j,IV f,IV q] h):=by
   intro h a c q T d
   have u:∀{h:AH} {s':aT} {v:Ev},s'.prog=s.prog->Hs G h (aN q 0 v.enc::aN j 0 Nl.enc::aN p 0 (yN i s' a c)::du a c s.prog::L')->Hs G h (rH i p s'::aN q 0 v.enc::aN j 0 Nl.enc::L'):=by
    intro h s' v W d;exact qF p i s' (a:=a) (c:=c) d rfl W.symm
   refine aA<|am f d rfl<|cC<|bG (fun n=>?_) fun n=>bW ?_
   .have n:x.op=8:=n;simp only[n,ew] at g;have y:=E.r2 FA;have O:=E.r3 FA;refine bW<|bI d fun P h d=>aA<|am f d rfl<|Gu (s:=s) (i:=i) (a:=a) (c:=c) d O<|aA<|ay (b:=q) (o:=0) d fun h d=>bI d fun P h d=>aA<|am f d rfl<|B0 (s:=s) (a:=a) (c:=c) d y fun h d=>?_;refine aC<|aA<|aA<|am p d rfl<|bX FP ?_;have d:=d.sg (b:=q) (o:=0) (c:=(aT.ev s i x (s.dI x.b.toNat) (s.dI x.c.toNat) code).enc) rfl;exact qA (s:=s.dO x.b code) (v:=aT.ev s i x (s.dI x.b.toNat) (s.dI x.c.toNat) code) (x:=s.at'+1) rfl FA (u (s':=s.dO x.b code) rfl d.to) g
   .have n:¬x.op=8:=n;obtain⟨w,T⟩:Jb x.op=true/\(code=0\/code=19):=by rcases T with h|h;exact absurd h n;exact h
    have N:x.op=3\/x.op=4\/x.op=5:=cP w
    have U:=E.r1 FA
    simp only[bA0 n,w,ew] at g
    rw[aaa] at g
    refine cC<|bG (fun z=>?_) fun z=>bW<|aA<|am f d rfl<|cC<|bG (fun A=>?_) fun A=>?_
    .simp only[z,ew] at g;subst z;refine bW<|aC<|aA<|aA<|am p d rfl<|aad ?_;exact qA (s:=s) (v:=aT.ev s i x (s.dI x.b.toNat) 0 19) (x:=s.at'+1) rfl FA (u (s':=s) rfl d.to) g
    .have A:x.op=4:=A;simp only[bA0 z,A,ew] at g;have B:code=0:=FA
     subst B
     refine bW<|bI d fun P h d=>aA<|am f d rfl<|Gu (s:=s) (i:=i) (a:=a) (c:=c) d U<|aA<|ay (b:=q) (o:=0) d fun h d=>aC<|aA<|aA<|am p d rfl<|bX FP ?_
     have d:=d.sg (b:=q) (o:=0) (c:=(aT.ev s i x (s.dI x.b.toNat) (s.dI x.a.toNat) 0).enc) rfl
     exact qA (s:=s) (v:=aT.ev s i x (s.dI x.b.toNat) (s.dI x.a.toNat) 0) (x:=s.at'+1) rfl FA (u (s':=s) rfl d.to) g
    .have A:¬x.op=4:=A;simp only[bA0 z,bA0 A] at g;have B:code=0:=FA
     subst B
     refine bW<|aA<|ay (b:=q) (o:=0) d fun h d=>bI d fun P h d=>aA<|am f d rfl<|B0 (s:=s) (a:=a) (c:=c) d U fun h d=>aC<|aA<|aA<|am p d rfl<|bX FP ?_
     have d:=d.sg (b:=q) (o:=0) (c:=(aT.ev s i x (s.dI x.b.toNat) value 0).enc) rfl
     exact qA (s:=s.dO x.a value) (v:=aT.ev s i x (s.dI x.b.toNat) value 0) (x:=s.at'+1) rfl FA (u (s':=s.dO x.a value) rfl d.to) g
  have D:∀{h:AH} {M:IB},[F2 M L']->Hs G h (aN f 0 x.enc::aN j 0 Nl.enc::rH i p s::M)->∃a c,Hs G h (aN f 0 x.enc::aN j 0 Nl.enc::aN p 0 (yN i s a c)::du a c s.prog::L'):=by
   intro h M _ d;obtain⟨a,c,d⟩:=vI<|d.bF<|rH i p s;exact⟨a,c,d.to⟩
  have d:Hs G h (aN f 0 x.enc::aN j 0 Nl.enc::rH i p s::L'):=d.to
  refine bU<|bG (fun n=>?_) fun n=>?_
  .have n:¬x.op=8:=n;refine aA (am f d rfl<|X1<|cX<|fM<|eA (fun w=>?_) fun w=>?_)
   .have w:Jb x.op=true:=w;have N:x.op=3\/x.op=4\/x.op=5:=cP w;have y:=E.r2 FA;refine bW (aA<|am f d rfl<|bU<|cI n<|bU<|bG (fun R=>bU<|bG (fun F=>?_) fun F=>?_) fun R=>?_)
    .simp only[bA0 n,w,ew] at g;rw[bA1 ⟨R,F⟩] at g;exact bad (M:=rH i p s::L') 1 d.to g
    .obtain⟨a,c,d⟩:=D (M:=L') d;refine bW<|u9 (k:=fun h q=>cE (mC 0<|IV f) fun r=>cE (xE h r) fun t=>cE (Be .eql t<|I 8) fun v20=>Br v20 (Dd 171 4 [] Q [IV p,I code,IV j,IV f,IV q] h)<|Dd 171 5 [] Q [IV p,I value,I code,IV j,IV f,IV q] h) FD y d fun q h d=>tail (.inr ⟨w,FA⟩) d
    .obtain⟨a,c,d⟩:=D (M:=L') d;exact u9 (k:=fun h q=>cE (mC 0<|IV f) fun r=>cE (xE h r) fun t=>cE (Be .eql t<|I 8) fun v20=>Br v20 (Dd 171 4 [] Q [IV p,I code,IV j,IV f,IV q] h)<|Dd 171 5 [] Q [IV p,I value,I code,IV j,IV f,IV q] h) FD y d fun q h d=>tail (.inr ⟨w,FA⟩) d
   .have w:Jb x.op=false:=w;simp only[bA0 n,w,aO,dd] at g;exact bad (M:=rH i p s::L') 16 d.to g
  .have n:x.op=8:=by have:¬x.op≠8:=n;omega
   have y:=E.r2 FA
   refine aA<|am f d rfl<|bU<|bC (by show ¬x.op≠8;omega) ?_
   obtain⟨a,c,d⟩:=D (M:=L') d
   exact u9 (k:=fun h q=>cE (mC 0<|IV f) fun r=>cE (xE h r) fun t=>cE (Be .eql t<|I 8) fun v20=>Br v20 (Dd 171 4 [] Q [IV p,I code,IV j,IV f,IV q] h)<|Dd 171 5 [] Q [IV p,I value,I code,IV j,IV f,IV q] h) FD y d fun q h d=>tail (.inl n) d
end
variable {G:Bg} {h:AH}
theorem zw {α:Type} {enc:α->EU} {l:List α}:(l.map enc).flatten=eL enc l:=by simp[eL,List.flatMap]
theorem cm {l:ID} (hb:l.length<=1000) (b:Hs G h (Gc G 4 e v (l.map iD.enc)::L)) (f:∀a c d,Hs G d (du a c l::Gc G 4 e v (l.map iD.enc)::L)->Q (.slice a l.length c) d):IU 69 [v] h Q:=by
 refine cW (Sb b FC FB (by grind[zw,Tz]) FA fun a c h b=>f a c h ?_);rwa [zw] at b
theorem aAu {pr:ID} (k:i<4) (l:0<=w/\w<=3) (g:Ob G 1 xT) (hc:(rF pr).2=0) (b:Hs G h (Gc G 4 e v (pr.map iD.enc)::L))
  (j:∀p d,Hs G d (rH i p (An pr w)::Gc G 4 e v (pr.map iD.enc)::L)->Q (.tuple ⟨[IV p,I 0]⟩) d):IU 31 [I i,I w,v] h Q:=by
 have f:pr.length<=32:=by
  rw[rF] at hc;split at hc;cases hc;omega
 refine cW<|bE<|aab<|fX<|aab<|bE<|aab<|oT<|aab<|bW<|Me g b fun h b=>aQ rfl<|aQ rfl<|bU<|aab<|bW ?_
 refine cm FA b fun a c h b=>(aZ (c:=yN i ⟨fun _=>0,0,0,_,pr⟩ a c) rfl<|eT b fun p h b=>aC<|aA<|aA<|ay b fun h b=>?_)
 have b:Hs G h (aN p 0 (yN i ⟨fun _=>0,0,w,_,pr⟩ a c)::du a c pr::Gc G 4 e v _::L):=b
 have b:=qF p i _ b rfl rfl
 exact M6 (s:=⟨fun _=>0,0,w,_,pr⟩) FA b fun h b=>j _ _ b
end Go.Proofs.Z
namespace Go.Proofs.Z
open Go.Hm Go.At Go.Mc Go.Ct
variable {Cf:bQ}
section
instance:Fx Ev.enc 7 where
 len _:=rfl
 cel _:=rfl
structure MN where
 lc:EW
 lk:EW
 lq:EW
 ac:EX
 ak:EX
 aq:EX
 al:EX
 cc:Nat
 ck:Nat
 cq:Nat
 cl:Nat
 hb:Nat
 mb:Nat
 fb:Nat
def jG (Cf:bQ) (x:MN) (n:Nat):EU:=Cf.enc++[.slice x.ac x.lc.length x.cc,.slice x.ak x.lk.length x.ck,.slice x.aq x.lq.length x.cq,IV x.hb,IV x.mb,IV x.fb,.slice x.al n x.cl]
def qh (Cf:bQ) (x:MN):Prop:=x.lc.length=Cf.aB.toNat/\x.lk.length=Cf.aB.toNat/\x.lq.length=Cf.aB.toNat
abbrev Al:Nat->Nat->aT->HP:=fun i p s=>rH i p s
abbrev wQ (G:Bg) (Cf:bQ):Nat->Nat->jR->HP:=fun i p s=>C.lR G p Cf i s
abbrev wM (Cf:bQ):Nat->Nat->jL->HP:=fun _ p s=>pL p Cf s
abbrev Q5 (a:EX) (c:Nat) (l:IM):HP:=ls Ev.enc 7 68 a c l
abbrev ptc (a:EX) (c:Nat) (l:EW):HP:=ls pE 1 84 a c l
abbrev qo (a:EX) (c:Nat) (l:EW):HP:=ls pE 1 100 a c l
abbrev qb (a:EX) (c:Nat) (l:EW):HP:=ls pE 1 103 a c l
def Xk (G:Bg) (Cf:bQ) (m:Nat) (M:bR) (x:MN):IB:=[Dm<|qh Cf x,aN m 0<|jG Cf x M.eY.length,ptc x.ac x.cc x.lc,qo x.ak x.ck x.lk,qb x.aq x.cq x.lq,
  wF Al x.lc M.aD,wF (wQ G Cf) x.lk M.bT,wF (wM Cf) x.lq M.aU,H.jJ G x.hb Cf M.aK,jQ Cf x.mb M.bH,tF Cf x.fb M.cB,Q5 x.al x.cl M.eY]
def vB (G:Bg) (Cf:bQ) (m:Nat) (x:MN) (M:bR):HP:=sp<|Xk G Cf m M x
def cD (G:Bg) (Cf:bQ) (m:Nat) (M:bR):HP:=A5 fun x:MN=>sp<|Xk G Cf m M x
variable {G:Bg} {h:AH} {M:bR}
def dN (a:Hs G h (cD G Cf m M::L)):∃x,qh Cf x/\Hs G h (aN m 0 (jG Cf x M.eY.length)::ptc x.ac x.cc x.lc::qo x.ak x.ck x.lk::qb x.aq x.cq x.lq::
  wF Al x.lc M.aD::wF (wQ G Cf) x.lk M.bT::wF (wM Cf) x.lq M.aU::H.jJ G x.hb Cf M.aK::jQ Cf x.mb M.bH::tF Cf x.fb M.cB::Q5 x.al x.cl M.eY::L):=by
 obtain⟨x,a⟩:=a.Fl
 obtain⟨b,a⟩:=Hs.yv a.fQ
 exact⟨x,b,a⟩
def D3 {x:MN} (a:qh Cf x) (b:Hs G h (aN m 0 (jG Cf x M.eY.length)::ptc x.ac x.cc x.lc::qo x.ak x.ck x.lk::qb x.aq x.cq x.lq::
  wF Al x.lc M.aD::wF (wQ G Cf) x.lk M.bT::wF (wM Cf) x.lq M.aU::H.jJ G x.hb Cf M.aK::jQ Cf x.mb M.bH::tF Cf x.fb M.cB::Q5 x.al x.cl M.eY::L)):Hs G h (cD G Cf m M::L):=
 Hs.Cn (A:=fun x:MN=>sp<|Xk G Cf m M x) x (Hs.nY (A:=Xk G Cf m M x)<|Hs.bh a b)
def bY {x:MN} (M:bR) (q:qh Cf x) {e f g j k l n o a:IB} (r:Hs G h L) [t:fU (aN m 0<|jG Cf x M.eY.length) L e] [u:fU (ptc x.ac x.cc x.lc) e L2] [v:fU (qo x.ak x.ck x.lk) L2 f] [w:fU (qb x.aq x.cq x.lq) f g] [y:fU (wF Al x.lc M.aD) g j] [z:fU (wF (wQ G Cf) x.lk M.bT) j k] [A:fU (wF (wM Cf) x.lq M.aU) k l] [B:fU (H.jJ G x.hb Cf M.aK) l n] [D:fU (jQ Cf x.mb M.bH) n o] [c:fU (tF Cf x.fb M.cB) o a] [d:fU (Q5 x.al x.cl M.eY) a b]:Hs G h (cD G Cf m M::b):=
 D3 (x:=x) q (r.cH<|t.cH.trans<|(u.cH.trans<|(v.cH.trans<|(w.cH.trans<|(y.cH.trans<|(z.cH.trans<|(A.cH.trans<|(B.cH.trans<|(D.cH.trans<|(c.cH.trans<|(d.cH).cons _).cons _).cons _).cons _).cons _).cons _).cons _).cons _).cons _).cons _)
def tI {x:MN} (M:bR) (q:qh Cf x) {e f g j k l n o a:IB} (r:Hs G h L) [t:fU (aN m 0<|jG Cf x M.eY.length) L e] [u:fU (ptc x.ac x.cc x.lc) e L2] [v:fU (qo x.ak x.ck x.lk) L2 f] [w:fU (qb x.aq x.cq x.lq) f g] [y:fU (wF Al x.lc M.aD) g j] [z:fU (wF (wQ G Cf) x.lk M.bT) j k] [B:fU (wF (wM Cf) x.lq M.aU) k l] [D:fU (H.jJ G x.hb Cf M.aK) l n] [E:fU (jQ Cf x.mb M.bH) n o] [c:fU (tF Cf x.fb M.cB) o a] [d:fU (Q5 x.al x.cl M.eY) a b]:Hs G h (vB G Cf m x M::b):=
 Hs.nY (A:=Xk G Cf m M x) (Hs.bh q<|r.cH<|t.cH.trans<|(u.cH.trans<|(v.cH.trans<|(w.cH.trans<|(y.cH.trans<|(z.cH.trans<|(B.cH.trans<|(D.cH.trans<|(E.cH.trans<|(c.cH.trans<|(d.cH).cons _).cons _).cons _).cons _).cons _).cons _).cons _).cons _).cons _).cons _)
def nV {x:MN} (a:Hs G h (vB G Cf m x M::L)):qh Cf x/\Hs G h (aN m 0 (jG Cf x M.eY.length)::ptc x.ac x.cc x.lc::qo x.ak x.ck x.lk::qb x.aq x.cq x.lq::
  wF Al x.lc M.aD::wF (wQ G Cf) x.lk M.bT::wF (wM Cf) x.lq M.aU::H.jJ G x.hb Cf M.aK::jQ Cf x.mb M.bH::tF Cf x.fb M.cB::Q5 x.al x.cl M.eY::L):=Hs.yv a.fQ
def bg (a:Hs G h (cD G Cf m M::L)):∃x,Hs G h (vB G Cf m x M::L):=a.Fl
def q9 {x:MN} (a:Hs G h (vB G Cf m x M::L)):Hs G h (cD G Cf m M::L):=Hs.Cn (A:=fun x:MN=>sp<|Xk G Cf m M x) x a
def Ka (f:Hs G h L) [g:eB (ptc a c) L l L'] (b:i<l.length) (d:k (IV<|l.getD i 0)):cE (qY 1 (.slice a l.length c)<|I i) fun p=>cE (xE h p) k:=
 aEz (e:=84) (show Hs G h (ptc a c l::L') from g.of f) b d
def Nr (f:Hs G h L) [g:eB (qo a c) L l L'] (b:i<l.length) (d:k (IV<|l.getD i 0)):cE (qY 1 (.slice a l.length c)<|I i) fun p=>cE (xE h p) k:=
 aEz (e:=100) (show Hs G h (qo a c l::L') from g.of f) b d
def aAc {k:AH->Prop} (g:Hs G h L) [j:eB (qo a c) L l L'] (d:i<l.length) (f:∀b,Hs G b (qo a c (l.set i q)::L')->k b):cE (qY 1 (.slice a l.length c)<|I i) fun p=>cE (Ba h 1 p<|IV q) k:=
 aJq (e:=100) (show Hs G h (qo a c l::L') from j.of g) d f
def Ov (f:Hs G h L) [g:eB (qb a c) L l L'] (b:i<l.length) (d:k (IV<|l.getD i 0)):cE (qY 1 (.slice a l.length c)<|I i) fun p=>cE (xE h p) k:=
 aEz (e:=103) (show Hs G h (qb a c l::L') from g.of f) b d
def az {k:AH->Prop} (g:Hs G h L) [j:eB (qb a c) L l L'] (d:i<l.length) (f:∀b,Hs G b (qb a c (l.set i q)::L')->k b):cE (qY 1 (.slice a l.length c)<|I i) fun p=>cE (Ba h 1 p<|IV q) k:=
 aJq (e:=103) (show Hs G h (qb a c l::L') from j.of g) d f
def Lo {s:Nat->aT} {t:aT} (a:i<l.length) (b:Hs G h L) [k:fU (rH i (l.getD i 0) t) L L'] {N:IB} [c:fU (Mk Al l s i) L' N]:Hs G h (wF Al l (bD s i t)::N):=Hx a<|b.dC (rH i (l.getD i 0) t)<|Mk Al l s i
def aa {l:IM} {v:Ev} {k:Value×AH->Prop} {N:IB} (hb:l.length<=2^30) (b:Hs G h L) [n:eB (Q5 a c) L l L'] [j:fU (Q5 a2 c2 [v]) L' N]
  (g:∀d e f,Hs G f (Q5 d e (l++[v])::N)->k (.slice d (l++[v]).length e,f)):cE (oL 7 56 68 h (.slice a l.length c)<|.slice a2 1 c2) k:=by
 have b:=n.of b
 exact qT (l:=l) (l2:=[v]) (a:=a) (c:=c) (a2:=a2) (c2:=c2) (b.cH<|j.cH.cons _) FG fun d e h b=>g d e h b.pS.tail
end
section
variable {G:Bg} {h:AH} {M:bR}
theorem tC {v c:Int} (H:(i:Int)<Cf.aB) (B:(M.aD i).Ok) (k:M.eY.length<=2^30) (d:Hs G h L) [E:eB (cD G Cf m) L M L'] (g:∀A,Hs G A (cD G Cf m (M.bL i v c).1::L')->Q (I (M.bL i v c).2) A):IU 114 [IV m,I i,I v,I c] h Q:=by
 obtain⟨x,z,d⟩:=dN<|E.of d;have f:i<x.lc.length:=by have:=z.1;omega
 unfold bR.bL at g;refine cW<|aC<|aA<|am m d rfl<|Ka d f ?_;have d:=kT (R:=Al) (l:=x.lc) (s:=M.aD) f d;refine aCz (i:=i) (p:=x.lc.getD i 0) (s:=M.aD i) B d fun h d=>?_;have d:=Lo (l:=x.lc) (s:=M.aD) (i:=i) (t:=(aT.bL (M.aD i) i v c).1) f d;refine aQ rfl<|aQ rfl<|cK d fun q h d=>ax (b:=q) d fun h d=>bU<|bG (fun n=>?_) fun n=>?_;rw[bA1 n] at g;refine g _ ?_;have e:bD M.aD i (aT.bL (M.aD i) i v c).1=M.aD:=by
  have:(aT.bL (M.aD i) i v c).1=M.aD i:=by
   unfold aT.bL at n ⊢;cases hn:aT.kQ (M.aD i) with
   |none=>rfl
   |some y=>grind
  rw[this];funext j;unfold bD;split;rename_i e;rw[e];rfl
 rw[e] at d;exact D3 z d.to;rw[bA0 n] at g;refine bW<|bI d fun F h d=>aC<|aA<|am m d rfl<|an q d (l:=(aT.bL (M.aD i) i v c).2.1.enc) rfl rfl<|aZ (c:=(aT.bL (M.aD i) i v c).2.1.enc) rfl ?_;refine oS (r:=F) (i:=6) (N:=11) (D:=[]) (W:=7) d rfl rfl rfl rfl rfl fun a h d=>?_;have d:=tB (enc:=Ev.enc) (x:=(aT.bL (M.aD i) i v c).2.1) d;refine aa (l:=M.eY) (v:=(aT.bL (M.aD i) i v c).2.1) k d fun u w h d=>aC<|aA<|ay (b:=m) (o:=0) d fun h d=>cR dG<|g _ ?_;have e:bM (jG Cf x M.eY.length) (0+13) [.slice u (M.eY++[(aT.bL (M.aD i) i v c).2.1]).length w]=jG Cf {x with al:=u,cl:=w} (M.eY++[(aT.bL (M.aD i) i v c).2.1]).length:=rfl;rw[e] at d;exact D3 (M:=(M.pC i (aT.bL (M.aD i) i v c).1).Za (aT.bL (M.aD i) i v c).2.1) (x:={x with al:=u,cl:=w}) z d.to
end
section
variable {G:Bg} {h:AH} {x:MN} {M:bR}
abbrev wtX (G:Bg) (Cf:bQ) (m:Nat) (x:MN) (M:bR) (p2 p3 a:Nat) (co:Int) (e:Nat->Value) (d l:Nat) (st:LoopState×Option Code) (b:Bool) (pr:Prop):HP:=
 sp [Dm pr,pG Pr 11 (qM 58) 32 e d l st,sp [aN p2 0 [IV m],aN p3 0 [I co],aN a 0 [.bool b]],vB G Cf m x M]
def Nn (hm:iY Cf M.bH) (f:Hs G h L) [mm:eB (vB G Cf m x) L M L'] (z:∀V,Hs G V (vB G Cf m x M::L')->Q (.bool<|M.aH co) V):IU 11 [IV m,I co] h Q:=by
 unfold bR.aH at z;refine cW<|eT (mm.of f) fun n h f=>eT f fun t h f=>cK f fun j h f=>am n f rfl<|dM<|cS ?_;obtain⟨S,f⟩:=nV<|f.bF<|vB G Cf m x M;refine bW<|am n f rfl<|aC<|aA<|am m f rfl<|J9 (C:=Cf) (m:=M.bH) f fun q qa qc h f=>?_;have f:=tI (m:=m) (x:=x) M S f;refine oE f fun d h f=>?_;intro e he;refine rI f fun l h f=>xQ rfl ?_;have f:Hs G h (H.Tv 3 q qa qc (M.bH.fO.map fun k:Nat=>(k:Int))::wtX G Cf m x M n t j co e d l (.ready,none) false (∀g∈([]:EV),M.bH.qR co g.toNat=false)::mk d ()::L'):=by
  have f:=(f.dR (aN n 0 [IV m]) (aN t 0 [I co])<|aN j 0 [.bool false]).Vc;have f:=f.dR (pG Pr 11 (qM 58) 32 e d l (.ready,none)) (sp [aN n 0 [IV m],aN t 0 [I co],aN j 0 [.bool false]])<|vB G Cf m x M;have f:=Hs.Rh<|Hs.bh (p:=∀g∈([]:EV),M.bH.qR co g.toNat=false) FF f;exact f.to
 refine(H.G7 (e:=3) (p:=q) (a:=qa) (c:=qc) (xs:=M.bH.fO.map fun k:Nat=>(k:Int))<|by have:=qv (fun g=>(M.bH.eI g).isSome)<|List.range 16;simp[Mon.fO] at this ⊢;omega).Nf
  (X:=fun done=>wtX G Cf m x M n t j co e d l (.ready,none) false (∀g∈done,M.bH.qR co g.toNat=false)) (Z:=fun _ y=>wtX G Cf m x M n t j co e d l (.done,some .ret) true<|y∈(M.bH.fO.map fun k:Nat=>(k:Int))/\M.bH.qR co y.toNat=true) f ?_ ?_ ?_
 .intro done y h N W f;obtain⟨w,f⟩:=kL f;have f:=f.E4;obtain⟨k,A,rfl⟩:∃k∈M.bH.fO,(k:Int)=y:=by
   obtain⟨ys,U⟩:=W;have:y∈M.bH.fO.map fun k:Nat=>(k:Int):=by rw[<-U];simp
   obtain⟨k,h1,h2⟩:=eV.1 this;exact⟨k,h1,h2⟩
  obtain⟨r,F⟩:=c7.1 (yA.1 A).2;have D:M.bH.run (k:Int)=some r:=by unfold Mon.run;rw[aac];exact F
  have B:M.bH.phase (k:Int)≠0:=by
   unfold Mon.phase;rw[D];have:=(hm.run k r F).2.2.1;dsimp only;omega
  have f:=(f.bF<|sp [aN n 0 [IV m],aN t 0 [I co],aN j 0 [.bool false]]).E4;obtain⟨S,f⟩:=nV<|f.bF<|vB G Cf m x M;refine rW (yH f) he<|kY f fun h f=>am n f rfl<|aC<|aA<|am m f rfl<|aVe (C:=Cf) (m:=M.bH) f fun a h f O α β=>?_;rw[O B,D,cL B];have f:=tI (m:=m) (x:=x) M S f;refine aQ rfl<|aQ rfl<|cK f fun Y h f=>bK (b:=Y) (vs:=Hb r) f rfl rfl rfl rfl fun h f=>gF<|aA<|am Y f rfl<|am t f rfl<|cC<|bG (fun J=>?_) fun J=>?_;refine ax (b:=j) f fun h f=>lJ f fun h f=> .inr ⟨rfl,?_⟩;have f:=(f.dR (aN n 0 [IV m]) (aN t 0 [I co])<|aN j 0 [.bool true]).Vc;have f:=f.dR (pG Pr 11 (qM 58) 32 e d l (.done,some .ret)) (sp [aN n 0 [IV m],aN t 0 [I co],aN j 0 [.bool true]])<|vB G Cf m x M;refine(Hs.Rh<|Hs.bh (p:=((k:Int)∈(M.bH.fO.map fun k:Nat=>(k:Int))/\M.bH.qR co ((k:Int)).toNat=true)) ⟨eV.2 ⟨k,A,rfl⟩,?_⟩ f).to;unfold Mon.qR;rw[aM,F];exact cL J
  .refine lJ f fun h f=> .inl ⟨rfl,?_⟩;have f:=(f.dR (aN n 0 [IV m]) (aN t 0 [I co])<|aN j 0 [.bool false]).Vc;have f:=f.dR (pG Pr 11 (qM 58) 32 e d l (.ready,none)) (sp [aN n 0 [IV m],aN t 0 [I co],aN j 0 [.bool false]])<|vB G Cf m x M;refine(Hs.Rh<|Hs.bh (p:=∀g∈done++[((k:Nat):Int)],M.bH.qR co g.toNat=false) ?_ f).to;intro g u;rcases cj.1 u with u|u;exact w g u;rw[aV.1 u,aM];unfold Mon.qR;rw[F];exact cM J
 intro v h f;obtain⟨w,f⟩:=kL<|f.bF<|wtX G Cf m x M n t j co e d l (.ready,none) false (∀g∈M.bH.fO.map (fun k:Nat=>(k:Int)),M.bH.qR co g.toNat=false);have f:=f.E4;have T:M.bH.iC co=false:=by
  unfold Mon.iC;rw[CU];intro g u;have:=w g<|eV.2 ⟨g,u,rfl⟩;rw[aM] at this;rw[this];simp
 rw[T] at z;have f:=(f.bF<|sp [aN n 0 [IV m],aN t 0 [I co],aN j 0 [.bool false]]).E4;exact qZ f fun h f=>rC<|ax (b:=j) f fun h f=>qP f fun h f=>oA<|am j f rfl<|z _ f.to
 .intro done y v h W f;obtain⟨w,f⟩:=kL<|f.bF<|wtX G Cf m x M n t j co e d l (.done,some .ret) true<|y∈(M.bH.fO.map fun k:Nat=>(k:Int))/\M.bH.qR co y.toNat=true;have f:=f.E4;have E:M.bH.iC co=true:=by
   unfold Mon.iC;rw[EI];obtain⟨k,P,R⟩:=eV.1 w.1;refine⟨k,P,?_⟩;have:=w.2;rw[<-R,aM] at this;exact this
  rw[E] at z;have f:=(f.bF<|sp [aN n 0 [IV m],aN t 0 [I co],aN j 0 [.bool true]]).E4;exact Kv f fun h f=>aK0<|qP f fun h f=>oA<|am j f rfl<|z _ f.to
def uc (d:iY Cf M.bH) (a:Hs G h L) [e:eB (cD G Cf m) L M L'] (c:∀b,Hs G b (cD G Cf m M::L')->Q (.bool<|M.aH co) b):IU 11 [IV m,I co] h Q:=by
 obtain⟨x,a⟩:=bg<|e.of a;exact Nn (x:=x) d a fun h a=>c _<|q9 a
end
def aDg {l done:List (Int×Int)} {y:Int×Int} (b:done++[y]<+:l) (a:∀z∈done,z.1≠g) (c:y.1=g):jD l g=some y.2:=by
 obtain⟨r,rfl⟩:=b;unfold jD;rw[ef,List.find?_append,DX.2 GI];simp[c]
def wj {l:List (Int×Int)} (a:∀z∈l,z.1≠g):jD l g=none:=by
 unfold jD;rw[DX.2 GI];rfl
variable {G:Bg} {h:AH} {M:bR}
abbrev knX (G:Bg) (Cf:bQ) (m:Nat) (M:bR) (p2 a:Nat) (g v:Int) (e:Nat->Value) (d l:Nat) (st:LoopState×Option Code) (pr:Prop):HP:=
 sp [Dm pr,pG Pr 136 (qM 218) 25 e d l st,sp [aN p2 0 [I g],aN a 0 [I v]],cD G Cf m M]
def Bm {s:Nat->jL} {t:jL} (a:i<l.length) (b:Hs G h L) [k:fU (pL (l.getD i 0) Cf t) L L'] {N:IB} [c:fU (Mk (wM Cf) l s i) L' N]:Hs G h (wF (wM Cf) l (bD s i t)::N):=Hx a<|b.dC (pL (l.getD i 0) Cf t)<|Mk (wM Cf) l s i
theorem cY {α:Type} {s:Nat->α}:bD s i (s i)=s:=by
 funext j;unfold bD;split;rename_i e;rw[e];rfl
def aB1 (F:(i:Int)<Cf.aB) (hb:(M.aU i).bN.length<=100) (a:Hs G h L) [E:eB (cD G Cf m) L M L'] (n:∀w,Hs G w (cD G Cf m M::L')->Q (I<|M.bN i g) w):IU 136 [IV m,I i,I g] h Q:=by
 unfold bR.bN at n;refine cW<|eT (E.of a) fun f h a=>cK a fun c h a=>ax (b:=c) a fun h a=>?_;obtain⟨x,A,a⟩:=dN<|a.bF<|cD G Cf m M;have j:i<x.lq.length:=by have:=A.2.2;omega
 refine aC<|aA<|am m a rfl<|Ov a j ?_;have a:=kT (R:=wM Cf) (l:=x.lq) (s:=M.aU) j a;refine aDv (C:=Cf) (p:=x.lq.getD i 0) (s:=M.aU i) hb a fun q h a=>?_;have a:=Bm (Cf:=Cf) (l:=x.lq) (s:=M.aU) (i:=i) (t:=M.aU i) j a;rw[cY] at a;have a:=bY (m:=m) (x:=x) M A a;refine oE a fun d h a=>?_;intro e D;refine rI a fun l h a=>xQ rfl ?_;have a:Hs G h (Yj q (M.aU i).bN::knX G Cf m M f c g 0 e d l (.ready,none) (∀z∈([]:List (Int×Int)),z.1≠g)::mk d ()::L'):=by
  have a:=(a.dC (aN f 0 [I g])<|aN c 0 [I 0]).F4;have a:=a.dR (pG Pr 136 (qM 218) 25 e d l (.ready,none)) (sp [aN f 0 [I g],aN c 0 [I 0]])<|cD G Cf m M;have a:=Hs.Rh<|Hs.bh (p:=∀z∈([]:List (Int×Int)),z.1≠g) FF a;exact a.to
 refine(aMc (q:=q) (l:=(M.aU i).bN) FA).Nf
  (X:=fun done=>knX G Cf m M f c g 0 e d l (.ready,none) (∀z∈done,z.1≠g)) (Z:=fun done y=>knX G Cf m M f c g y.2 e d l (.done,some<|.exit 0)<|jD (M.aU i).bN g=some y.2) a ?_ ?_ ?_
 .intro done y h N B a;obtain⟨k,a⟩:=kL a;have a:=a.E4;have a:=(a.bF<|sp [aN f 0 [I g],aN c 0 [I 0]]).Fk;refine rW (yH a) D<|kY a fun h a=>am f a rfl<|cC<|bG (fun u=>?_) fun u=>?_;refine ax (b:=c) a fun h a=>lJ a fun h a=> .inr ⟨rfl,?_⟩;have a:=(a.dC (aN f 0 [I g])<|aN c 0 [I y.2]).F4;exact(Hs.Rh<|Hs.bh (p:=jD (M.aU i).bN g=some y.2) (aDg B k u)<|a.dR (pG Pr 136 (qM 218) 25 e d l (.done,some<|.exit 0)) (sp [aN f 0 [I g],aN c 0 [I y.2]])<|cD G Cf m M).to
  .refine lJ a fun h a=> .inl ⟨rfl,?_⟩;have a:=(a.dC (aN f 0 [I g])<|aN c 0 [I 0]).F4;refine(Hs.Rh<|Hs.bh (p:=∀z∈done++[y],z.1≠g) ?_<|a.dR (pG Pr 136 (qM 218) 25 e d l (.ready,none)) (sp [aN f 0 [I g],aN c 0 [I 0]])<|cD G Cf m M).to;intro z r;rcases cj.1 r with r|r;exact k z r;rw[aV.1 r];exact u
 intro v h a;obtain⟨k,a⟩:=kL<|a.bF<|knX G Cf m M f c g 0 e d l (.ready,none) (∀z∈(M.aU i).bN,z.1≠g);have a:=a.E4;rw[wj k] at n;have a:=(a.bF<|sp [aN f 0 [I g],aN c 0 [I 0]]).Fk;exact qZ a fun h a=>rC<|am c a rfl<|qP a fun h a=>oA<|n _ a.to
 .intro done y v h B a;obtain⟨k,a⟩:=kL<|a.bF<|knX G Cf m M f c g y.2 e d l (.done,some<|.exit 0)<|jD (M.aU i).bN g=some y.2;have a:=a.E4;rw[k] at n;have a:=(a.bF<|sp [aN f 0 [I g],aN c 0 [I y.2]]).Fk;exact Kv a fun h a=>N8 rfl<|am c a rfl<|qP a fun h a=>oA<|n _ a.to
end Go.Proofs.Z
namespace Go.Proofs.Z
open Go.Hm Go.At Go.Mc Go.Ct Go.Nt Go.Is
variable {Cf:bQ}
section
instance:Fx aG.enc 9:=inferInstance
structure Gb (G:Bg):Prop where
 Ng:Ob G 0 iF
 kin:Ob G 2 Eb
 jA:Ob G 3 oP
variable {G:Bg} {h:AH} {M:bR}
def Ma {α:Type} {R:Nat->Nat->α->HP} {s:Nat->α} {t:α} (a:i<l.length) (b:Hs G h L) [k:fU (R i q t) L L'] {N:IB} [c:fU (Mk R l s i) L' N]:Hs G h (wF R (l.set i q) (bD s i t)::N):=aF5 a<|b.dC (R i q t)<|Mk R l s i
def M4 {F:eN} {l:IA} (h:(eN.fY Cf F l).2≠0):(eN.fY Cf F l).1=F:=by
 unfold eN.fY at h ⊢;split;rfl;rename_i a;rw[bA0 a] at h;cases hp:eN.xN Cf.eG F l with
 |none=>rfl
 |some b=>rw[hp] at h;exact absurd rfl h
def aGl (hC:Cf.Ok) (hG:Gb G) (A:(i:Int)<Cf.aB) (hb:(M.aU i).bN.length<=100) (y:uk Cf M.cB) (d:Hs G h L) [z:eB (cD G Cf m) L M L'] (k:∀w,Hs G w (cD G Cf m (M.Cm Cf i g).1::L')->Q (I (M.Cm Cf i g).2) w):IU 135 [IV m,I i,I g] h Q:=by
 unfold bR.Cm at k;obtain⟨x,r,d⟩:=dN<|z.of d;have j:i<x.lq.length:=by have:=r.2.2;omega
 refine cW<|aC<|aA<|am m d rfl<|Ov d j ?_;have d:=kT (R:=wM Cf) (l:=x.lq) (s:=M.aU) j d;refine J5 (C:=Cf) (p:=x.lq.getD i 0) (s:=M.aU i) hb d fun q h d=>?_;refine nf (C:=Cf) (p:=q) (s:=M.aU i) hC hb d fun h d=>aQ rfl<|aQ rfl<|bU<|bG (fun v=>?_) fun v=>?_;rw[bA1 v] at k;have d:=Bm (Cf:=Cf) (l:=x.lq) (s:=M.aU) (i:=i) (t:=M.aU i) j d;rw[cY] at d;exact k _ (bY (m:=m) (x:=x) M r d).to;rw[bA0 v] at k;refine bW<|aC<|aA<|am m d rfl<|aZ (c:=(cJ 6 i ((M.aU i).dK Cf g).2.1).enc) rfl<|aZ (c:=(cJ 6 i ((M.aU i).dK Cf g).2.1).enc) rfl<|dV (W:=9) (n:=1) (c:=1) d rfl rfl rfl fun a h d=>?_;have d:=tB (enc:=aG.enc) (x:=cJ 6 i ((M.aU i).dK Cf g).2.1) d;refine xJ (C:=Cf) (f:=x.fb) (F:=M.cB) (l:=[cJ 6 i ((M.aU i).dK Cf g).2.1]) (a:=some a) (c:=1) hC (y.Vl hC) FF hG.kin hG.Ng d fun h d=>bU<|bG (fun u=>?_) fun u=>?_;dsimp only at k;rw[bA1 u] at k;rw[M4 u] at d;have d:=Bm (Cf:=Cf) (l:=x.lq) (s:=M.aU) (i:=i) (t:=M.aU i) j d;rw[cY] at d;exact k _ (bY (m:=m) (x:=x) M r d).to;dsimp only at k;rw[bA0 u] at k;refine bW<|aC<|aA<|am m d rfl<|az d j fun h d=>k _ ?_;have d:=Ma (R:=wM Cf) (l:=x.lq) (s:=M.aU) (i:=i) (q:=q) (t:=((M.aU i).dK Cf g).1) j d;have e:jG Cf x M.eY.length=jG Cf {x with lq:=x.lq.set i q} M.eY.length:=GW
 rw[e] at d;exact(bY (m:=m) (x:={x with lq:=x.lq.set i q}) ((M.bM (eN.fY Cf M.cB [cJ 6 i ((M.aU i).dK Cf g).2.1]).1).eM i ((M.aU i).dK Cf g).1) ⟨r.1,r.2.1,by rw[p7];exact r.2.2⟩ d).to
end
section
variable {G:Bg} {h:AH} {M:bR}
def kl {S:Nat->aT} (e:i<l.length) (d:Hs G h L) [g:eB (wF Al l) L S L'] (f:k (I (S i).bA)):cE (tH<|IV<|l.getD i 0) fun v=>cE (mC 0 v) fun v=>cE (mC 5 v) fun v=>cE (xE h v) k:=by
 have d:=kT (R:=Al) (l:=l) (s:=S) e d;obtain⟨a,c,d⟩:=vI d;exact aC<|aA<|aA<|aE (b:=l.getD i 0) (o:=0) d rfl f
def Ik {s:Nat->jR} {t:jR} (a:i<l.length) (b:Hs G h L) [k:fU (C.lR G (l.getD i 0) Cf i t) L L'] {N:IB} [c:fU (Mk (wQ G Cf) l s i) L' N]:Hs G h (wF (wQ G Cf) l (bD s i t)::N):=Hx a<|b.dC (C.lR G (l.getD i 0) Cf i t)<|Mk (wQ G Cf) l s i
theorem aEy {aI:Int} {wr:Bool} (hC:Cf.Ok) (hG:Gb G) (B:(i:Int)<Cf.aB) (hb:iJ Cf (M.bT i)) (z:uk Cf M.cB) (d:Hs G h L) [A:eB (cD G Cf m) L M L'] (j:∀y,Hs G y (cD G Cf m (M.fV Cf i aI wr).1::L')->Q (I (M.fV Cf i aI wr).2) y):IU 138 [IV m,I i,I aI,.bool wr] h Q:=by
 unfold bR.fV at j;have n:Bd (M.bT i):=hb.bd (sK hC).2.2.2;obtain⟨x,k,d⟩:=dN<|A.of d;have r:i<x.lc.length:=by have:=k.1;omega
 have g:i<x.lk.length:=by have:=k.2.1;omega
 refine cW<|aC<|aA<|am m d rfl<|Nr d g ?_;have d:=kT (R:=wQ G Cf) (l:=x.lk) (s:=M.bT) g d;refine C.ye (C:=Cf) (core:=(i:Int)) (c:=x.lk.getD i 0) (s:=M.bT i) hC n d fun q h d=>?_;refine aC<|aA<|am m d rfl<|Ka d r<|kl (l:=x.lc) (S:=M.aD) r d ?_;refine C.ar (C:=Cf) (core:=(i:Int)) (c:=q) (s:=M.bT i) hC n hG.Ng hG.jA d fun a c h d=>aQ rfl<|aQ rfl<|bU<|bG (fun v=>?_) fun v=>?_;rw[bA1 v] at j;have d:=Ik (Cf:=Cf) (l:=x.lk) (s:=M.bT) (i:=i) (t:=M.bT i) g d;rw[cY] at d;exact j _ (bY (m:=m) (x:=x) M k d).to;rw[bA0 v] at j;have d:Hs G h (yZ a c (fV Cf i (M.bT i) aI (M.aD i).bA wr).2.1::_):=d;refine bW<|aC<|aA<|am m d rfl ?_;refine xJ (C:=Cf) (f:=x.fb) (F:=M.cB) (l:=(fV Cf i (M.bT i) aI (M.aD i).bA wr).2.1) (a:=a) (c:=c) hC (z.Vl hC) (by have:=aGq (C:=Cf) (core:=(i:Int)) (s:=M.bT i) (l:=aI) (w:=(M.aD i).bA) (wr:=wr);omega) hG.kin hG.Ng d fun h d=>bU<|bG (fun u=>?_) fun u=>?_;dsimp only at j;rw[bA1 u] at j;rw[M4 u] at d;have d:=Ik (Cf:=Cf) (l:=x.lk) (s:=M.bT) (i:=i) (t:=M.bT i) g d;rw[cY] at d;exact j _ (bY (m:=m) (x:=x) M k d).to;dsimp only at j;rw[bA0 u] at j;refine bW<|aC<|aA<|am m d rfl<|aAc d g fun h d=>j _ ?_;have d:=Ma (R:=wQ G Cf) (l:=x.lk) (s:=M.bT) (i:=i) (q:=q) (t:=(fV Cf i (M.bT i) aI (M.aD i).bA wr).1) g d;have e:jG Cf x M.eY.length=jG Cf {x with lk:=x.lk.set i q} M.eY.length:=GW
 rw[e] at d;exact(bY (m:=m) (x:={x with lk:=x.lk.set i q}) ((M.bM (eN.fY Cf M.cB (fV Cf i (M.bT i) aI (M.aD i).bA wr).2.1).1).jX i (fV Cf i (M.bT i) aI (M.aD i).bA wr).1) ⟨k.1,by rw[p7];exact k.2.1,k.2.2⟩ d).to
end
def tq:(List.range<|i+1).map (fun i:Nat=>cJ 13 i g)=(List.range i).map (fun i:Nat=>cJ 13 i g)++[cJ 13 i g]:=by
 rw[dx,kt];rfl
variable {G:Bg} {h:AH} {M:bR}
theorem aJv {a:Mc.Nk} (hC:Cf.Ok) (hG:Gb G) (R:(i:Int)<Cf.aB) (N:iY Cf M.bH) (U:(M.aD i).Ok) (v:M.eY.length<=2^30) (O:uk Cf M.cB) (d:Hs G h L) [Y:eB (cD G Cf m) L M L'] (g:∀t,Hs G t (cD G Cf m (M.call Cf i a).1::L')->Q (I (M.call Cf i a).2) t):IU 103 [IV m,I i,.agg ⟨a.enc⟩] h Q:=by
 unfold bR.call at g;have Z:=hC.1;refine cW<|eT (Y.of d) fun D h d=>?_;obtain⟨x,B,d⟩:=dN<|d.bF<|cD G Cf m M;refine aC<|aA<|am m d rfl<|T4 (C:=Cf) (m:=M.bH) hC N d fun q h d=>?_;have V:=d.tail;refine an D d (l:=a.enc) rfl rfl<|wy (C:=Cf) (m:=M.bH) (p:=q) hC N d fun h d=>aQ rfl<|aQ rfl<|bU<|bG (fun E=>?_) fun E=>?_;rw[bA1 E] at g;have d:=bY (m:=m) (x:=x) M B d;exact tC (Cf:=Cf) (M:=M) R U v d fun h d=>g _ d.to;rw[bA0 E] at g;generalize P:M.bH.call Cf.aB a=rc at g d;have loop:∀(f j:Nat) (h:AH) (b:EX) (c:Nat),j+f=Cf.aB.toNat->Hs G h (yZ b c ((List.range j).map fun i:Nat=>cJ 13 i a.aS)::jQ Cf q rc.1::aN m 0 (jG Cf x M.eY.length)::ptc x.ac x.cc x.lc::qo x.ak x.ck x.lk::qb x.aq x.cq x.lq::
   wF Al x.lc M.aD::wF (wQ G Cf) x.lk M.bT::wF (wM Cf) x.lq M.aU::H.jJ G x.hb Cf M.aK::jQ Cf x.mb M.bH::tF Cf x.fb M.cB::Q5 x.al x.cl M.eY::aN D 0 a.enc::L')->
   Dd 103 2 [] Q [IV m,IV D,IV q,.slice b j c,I Cf.aB,I j] h:=by
  intro f
  induction f with
  |zero=>
   intro j h b c S d
   have J:j=Cf.aB.toNat:=FA
   have r:((List.range j).map fun i:Nat=>cJ 13 i a.aS)=sC Cf.aB a.aS:=by rw[J];rfl
   rw[r] at d
   have u:(sC Cf.aB a.aS).length=j:=by rw[<-r];simp
   refine bW<|bE<|aab<|bW<|aC<|aA<|am m d rfl ?_
   rw[<-u]
   refine xJ (C:=Cf) (f:=x.fb) (F:=M.cB) (l:=sC Cf.aB a.aS) (a:=b) (c:=c) hC (O.Vl hC) FA hG.kin hG.Ng d fun h d=>bU<|bG (fun A=>?_) fun A=>?_
   .dsimp only at g;rw[bA1 A] at g;rw[M4 A] at d;exact g _ (bY (m:=m) (x:=x) M B d).to
   .dsimp only at g;rw[bA0 A] at g;refine bW<|aC<|aA<|ay (b:=m) (o:=0) d fun h d=>g _ ?_;have e:bM (jG Cf x M.eY.length) (0+11) [IV q]=jG Cf {x with mb:=q} M.eY.length:=rfl;rw[e] at d;exact(bY (m:=m) (x:={x with mb:=q}) ((M.bM (eN.fY Cf M.cB<|sC Cf.aB a.aS).1).jH rc.1) B d).to
  |succ f X=>
   intro j h b c S d
   refine bW<|bE<|aae<|bW<|aA<|am D d rfl<|aZ (c:=(cJ 13 j a.aS).enc) rfl<|aZ (c:=(cJ 13 j a.aS).enc) rfl<|dV (W:=9) (n:=1) (c:=1) d rfl rfl rfl fun y h d=>?_
   have d:=tB (enc:=aG.enc) (x:=cJ 13 j a.aS) d
   have r:((List.range j).map fun i:Nat=>cJ 13 i a.aS).length=j:=FF
   have ap:∀k:Value×AH->Prop,(∀w z t,Hs G t (yZ w z ((List.range j).map (fun i:Nat=>cJ 13 i a.aS)++[cJ 13 j a.aS])::yZ (some y) 1 [cJ 13 j a.aS]::_)->k (.slice w ((List.range j).map (fun i:Nat=>cJ 13 i a.aS)++[cJ 13 j a.aS]).length z,t))->cE (oL 9 72 185 h (.slice b ((List.range j).map fun i:Nat=>cJ 13 i a.aS).length c)<|.slice (some y) [cJ 13 j a.aS].length 1) k:=fun k g=>qT (enc:=aG.enc) (e:=185) (l:=(List.range j).map fun i:Nat=>cJ 13 i a.aS) (l2:=[cJ 13 j a.aS]) (a:=b) (c:=c) (a2:=some y) (c2:=1) d FG g
   rw[r] at ap
   refine ap _ fun w z h d=>aad ?_
   rw[<-tq] at d ⊢
   have:=X (j+1) h w z FA d.to
   rw[show((List.range<|j+1).map fun i:Nat=>cJ 13 i a.aS).length=j+1 by simp]
   exact this
 have T:x.lc.length=Cf.aB.toNat:=B.1;refine bW<|aC<|aA<|am m d rfl<|dB ?_;have d:Hs G h (yZ none 0 ((List.range 0).map fun i:Nat=>cJ 13 i a.aS)::_):=wY (enc:=aG.enc) (e:=185) d;have e:(x.lc.length:Int)=Cf.aB:=FA
 rw[e];exact loop Cf.aB.toNat 0 h none 0 FA d.to
end Go.Proofs.Z
namespace Go.Proofs.Z
open Go.Hm Go.At Go.Mc Go.Ct Go.Nt
variable {S:Nat->IC} {Cf:bQ}
section
def N9 {C:bQ} {l at' a:Int} {w:Bool} (b:0<=l/\l<C.aF) (d:0<=at'/\at'<2) (c:pK C.aY.toNat S l a w=true):tD C S l at' a w=0:=by
 unfold tD vH;rw[cL b,bA0 FF,aaa,aaa,bA0<|by rw[c];simp]
theorem aOn {C:bQ} {s:jR} (e:iJ C s) {l b at':Int} {w:Bool} (c:0<=l/\l<C.aF) (d:0<=at'/\at'<2) (a:pK C.aY.toNat s.S l b w=true):pK C.aY.toNat (pH C s l at' b).S l b w=true:=by
 unfold pH;rw[bA1<|N9 c d<|Sh a];have f:(bJ C.aY.toNat s.S l).2=0:=by
  unfold pK at a;grind
 unfold pK at a ⊢;rw[Hq e.aY f];exact a
variable {G:Bg} {h:AH} {M:bR}
def aIe {a:vR} {p2:Nat} {aI at':Int} (hC:Cf.Ok) (hG:Gb G) (B:(i:Int)<Cf.aB) (hb:iJ Cf (M.bT i)) (D:(M.aD i).Ok) (n:M.eY.length<=2^30) (z:0<=aI/\aI<Cf.aF) (A:0<=at'/\at'<2) (r:pK Cf.aY.toNat (M.bT i).S aI g a.iS=true)
  (d:Hs G h (cD G Cf m M::aN p2 0 (Ad a)::L)) (k:∀q,Hs G q (cD G Cf m (M.jY Cf i aI at' g a).1::L)->Q (I (M.jY Cf i aI at' g a).2) q):Dd 105 6 [] Q [IV m,I i,IV p2,I aI,I at',I g] h:=by
 unfold bR.jY at k
 have wr:∀(s:jR) (v:Int) (h:AH),iJ Cf s->pK Cf.aY.toNat s.S aI g a.iS=true->Hs G h (cD G Cf m (M.jX i s)::aN p2 0 (Ad a)::L)->
   (∀q,Hs G q (cD G Cf m ((M.jX i<|if a.iS then mU Cf s aI at' g a.value else s).bL i v 0).1::L)->Q (I ((M.jX i<|if a.iS then mU Cf s aI at' g a.value else s).bL i v 0).2) q)->
   Dd 105 8 [] Q [IV m,I i,IV p2,I aI,I at',I g,I v] h:=by
  intro s v h hb r d k
  refine bW<|aA<|am p2 d rfl<|eA (fun y=>?_) fun y=>?_
  .rw[y] at r;rw[bA1 y] at k;obtain⟨x,u,d⟩:=dN d;have f:i<x.lk.length:=HF
   refine bW<|bI d fun E h d=>aC<|aA<|am m d rfl<|Nr d f<|aA<|am p2 d rfl ?_
   have d:=kT (R:=wQ G Cf) (l:=x.lk) (s:=bD M.bT i s) f d
   rw[show bD M.bT i s i=s by unfold bD;rw[bA1 rfl]] at d
   refine C.aB0 (C:=Cf) (core:=(i:Int)) (c:=x.lk.getD i 0) (s:=s) hC hb (N9 z A r) hG.Ng hG.jA d fun h d=>bU<|aab ?_
   have d:=Ik (Cf:=Cf) (l:=x.lk) (s:=bD M.bT i s) (i:=i) (t:=mU Cf s aI at' g a.value) f d
   rw[show bD (bD M.bT i s) i (mU Cf s aI at' g a.value)=bD M.bT i (mU Cf s aI at' g a.value) by funext j;unfold bD;split<;>rfl] at d
   have d:=bY (m:=m) (x:=x) (M.jX i<|mU Cf s aI at' g a.value) u d
   exact tC (Cf:=Cf) (M:=M.jX i<|mU Cf s aI at' g a.value) B D n d fun h d=>k _ d.to
  .rw[bA0<|by rw[y];simp] at k;exact tC (Cf:=Cf) (M:=M.jX i s) B D n d fun h d=>k _ d.to
 refine bW<|aA<|am p2 d rfl<|eA (fun w=>?_) fun w=>?_
 .rw[bA1 w] at k;rw[bA1 w] at k;obtain⟨x,u,d⟩:=dN d;have f:i<x.lk.length:=HF
  refine bW<|aC<|aA<|am m d rfl<|Nr d f ?_
  have d:=kT (R:=wQ G Cf) (l:=x.lk) (s:=M.bT) f d
  refine C.aJc (C:=Cf) (core:=(i:Int)) (c:=x.lk.getD i 0) (s:=M.bT i) hC hb (N9 z A<|Sh r) hG.Ng hG.jA d fun h d=>aQ rfl<|aQ rfl<|bU<|aab ?_
  have d:=Ik (Cf:=Cf) (l:=x.lk) (s:=M.bT) (i:=i) (t:=pH Cf (M.bT i) aI at' g) f d
  have d:=bY (m:=m) (x:=x) (M.jX i<|pH Cf (M.bT i) aI at' g) u d
  refine wr _ _ h (Iq hb) (aOn hb z A r) d.to fun q d=>?_
  exact k _ d
 .rw[bA0<|by rw[w];simp] at k;rw[bA0<|by rw[w];simp] at k;refine wr (M.bT i) 0 h hb r ?_ fun q d=>k _ d;have e:M.jX i (M.bT i)=M:=by unfold bR.jX;rw[cY]
  rw[e]
  exact d.to
def wz {a:vR} (hC:Cf.Ok) (hG:Gb G) (q:(i:Int)<Cf.aB) (hb:iJ Cf (M.bT i)) (D:(M.aD i).Ok) (n:(M.aU i).bN.length<=100) (J:uk Cf M.cB) (f:M.eY.length<=2^30) (d:Hs G h L) [U:eB (cD G Cf m) L M L'] (e:∀F,Hs G F (cD G Cf m (M.fF Cf i a).1::L')->Q (I (M.fF Cf i a).2) F):IU 105 [IV m,I i,.agg ⟨Ad a⟩] h Q:=by
 unfold bR.fF at e;have T:=(bQ.fC hC).2.2;refine cW<|eT (cs:=Ad a) (U.of d) fun E h d=>bI d fun W h d=>?_;obtain⟨x,g,d⟩:=dN<|d.bF<|cD G Cf m M;have O:∀{h:AH} {N:IB},Hs G h (aN m 0 (jG Cf x M.eY.length)::ptc x.ac x.cc x.lc::qo x.ak x.ck x.lk::qb x.aq x.cq x.lq::
  wF Al x.lc M.aD::wF (wQ G Cf) x.lk M.bT::wF (wM Cf) x.lq M.aU::H.jJ G x.hb Cf M.aK::jQ Cf x.mb M.bH::tF Cf x.fb M.cB::Q5 x.al x.cl M.eY::N)->Hs G h (cD G Cf m M::N):=fun d=>D3 g d
 have k:i<x.lq.length:=by have:=g.2.2;omega
 have r:i<x.lc.length:=by have:=g.1;omega
 refine aC<|aA<|kR (b:=m) (o:=0) d FC (l:=Cf.enc) rfl rfl<|aA<|am E d rfl<|Od (C:=Cf) hC hG.Ng d fun h d=>?_;by_cases v:0<=a.dF/\a.dF<Cf.aF*2;rotate_left;rw[bA0 v];rw[bA1 v] at e;have d:=bY (m:=m) (x:=x) M g d;exact aQ rfl<|aQ rfl<|aQ rfl<|bU<|aae<|tC (Cf:=Cf) (M:=M) q D f d fun h d=>e _ d.to;rw[bA1 v];rw[bA0<|by simpa using v] at e;obtain⟨w,y⟩:=aL v.1;have P:((a.dF.toNat/2:Nat):Int)=a.dF/2:=by rw[y];simp
 have e2:((a.dF.toNat % 2:Nat):Int)=a.dF % 2:=by rw[y];simp
 rw[P,e2];have u:0<=a.dF/2/\a.dF/2<Cf.aF:=FA
 refine aQ rfl<|aQ rfl<|aQ rfl<|bU<|aab<|bW<|aC<|aA<|kR (b:=m) (o:=0) d FC (l:=Cf.enc) rfl rfl<|Po (C:=Cf) hC hG.Ng d fun h d=>?_;rw[bA1<|show Cf.kG (a.dF/2) from u];refine aQ rfl<|aQ rfl<|bU<|aab<|bW<|bI d fun V h d=>aC<|aA<|am m d rfl<|Ov d k<|aC<|aA<|am m d rfl<|Ka d r<|kl (l:=x.lc) (S:=M.aD) r d ?_;have d:=kT (R:=wM Cf) (l:=x.lq) (s:=M.aU) k d;refine aE5 (C:=Cf) (p:=x.lq.getD i 0) (s:=M.aU i) n d fun h d=>?_;have d:=Bm (Cf:=Cf) (l:=x.lq) (s:=M.aU) (i:=i) (t:=M.aU i) k d;rw[cY] at d;have d:=bY (m:=m) (x:=x) M g d;dsimp only at e;refine aQ rfl<|aQ rfl<|bU<|bG (fun z=>?_) fun z=>?_;rw[bA1 z] at e;exact e _ d.to;rw[bA0 z] at e;refine bW<|cC<|bG (fun A=>?_) fun A=>?_;rw[bA1 A] at e;exact aGl (Cf:=Cf) (M:=M) hC hG q n J d fun h d=>e _ d.to;rw[bA0 A] at e;refine bW<|cC<|bG (fun B=>?_) fun B=>?_;rw[bA1 B] at e;exact tC (Cf:=Cf) (M:=M) q D f d fun h d=>e _ d.to;rw[bA0 B] at e;refine bW<|aB1 (Cf:=Cf) (M:=M) q n d fun h d=>bI d fun r3 h d=>?_;obtain⟨x,g,d⟩:=dN<|d.bF<|cD G Cf m M;have j:i<x.lk.length:=by have:=g.2.1;omega
 refine aC<|aA<|am m d rfl<|Nr d j<|aA<|am E d rfl ?_;have d:=kT (R:=wQ G Cf) (l:=x.lk) (s:=M.bT) j d;refine C.Zn (C:=Cf) (core:=(i:Int)) (c:=x.lk.getD i 0) (s:=M.bT i) hC (hb.bd (sK hC).2.2.2) hG.jA d fun h d=>?_;have d:=Ik (Cf:=Cf) (l:=x.lk) (s:=M.bT) (i:=i) (t:=M.bT i) j d;rw[cY] at d;have d:=bY (m:=m) (x:=x) M g d;cases hmy:pK Cf.aY.toNat (M.bT i).S (a.dF/2) (M.bN i<|a.dF/2/2) a.iS with
 |false=>
  rw[bA1 hmy] at e;exact cX (fM<|cS<|aA<|am E d rfl<|aEy (Cf:=Cf) (M:=M) hC hG q hb J d fun h d=>e _ d.to)
 |true=>
  rw[bA0<|by rw[hmy];simp] at e;exact cX<|fM<|gF<|aIe (L:=L') (Cf:=Cf) (M:=M) hC hG q hb D f u FA hmy d.to fun h d=>e _ d.to
end
variable {G:Bg} {h:AH} {M:bR}
def Z9 {S:Nat->aT} (e:i<l.length) (d:Hs G h L) [g:eB (wF Al l) L S L'] (f:k (.bool (S i).over)):cE (tH<|IV<|l.getD i 0) fun v=>cE (mC 0 v) fun v=>cE (mC 6 v) fun v=>cE (xE h v) k:=by
 have d:=kT (R:=Al) (l:=l) (s:=S) e d;obtain⟨a,c,d⟩:=vI d;exact aC<|aA<|aA<|aE (b:=l.getD i 0) (o:=0) d rfl f
def aGa {d:Do} (hC:Cf.Ok) (hG:Gb G) (H:∀i:Nat,(i:Int)<Cf.aB->aIu Cf M i) (f:Hs G h L) [U:eB (cD G Cf m) L M L'] (g:∀J,Hs G J (cD G Cf m (M.step Cf d.a).1::L')->Q (I (M.step Cf d.a).2) J):IU 77 [IV m,.agg ⟨d.enc⟩] h Q:=by
 unfold bR.step at g;have V:=hC.1;refine cW<|eT (cs:=d.enc) (U.of f) fun u h f=>bI f fun Y h f=>?_;obtain⟨x,f⟩:=bg<|f.bF<|cD G Cf m M;obtain⟨n,f⟩:=nV f;refine aA<|am u f rfl<|bE<|bG (fun O=>?_) fun O=>?_;rw[aac] at g;exact g _ (bY (m:=m) (x:=x) M n f).to;have T:=n.1;refine aA<|am u f rfl<|aC<|aA<|am m f rfl<|dB<|fX<|bG (fun P=>?_) fun P=>?_;rw[aac] at g;exact g _ (bY (m:=m) (x:=x) M n f).to;rw[aaa] at g;obtain⟨w,a,b,c⟩:=d;dsimp only at O P g;obtain⟨i,rfl⟩:=aL (show 0<=a by omega);rw[aM] at g;have k:i<x.lc.length:=FA
 have F:(i:Int)<Cf.aB:=FA
 have j:=H i F;refine bW<|bI f fun X h f=>aC<|aA<|am m f rfl<|aA<|am u f rfl<|Ka f k<|Z9 (l:=x.lc) (S:=M.aD) k f<|eA (fun B=>?_) fun B=>?_;rw[bA1 B] at g;exact g _ (bY (m:=m) (x:=x) M n f).to;rw[bA0<|by rw[B];simp] at g;have f:=tI (m:=m) (x:=x) M n f;refine bW<|aA<|am u f rfl<|Nn (x:=x) (M:=M) j.bH f fun h f=>eA (fun E=>?_) fun E=>?_;rw[bA1 E] at g;exact g _ (q9 f).to;rw[bA0<|by rw[E];simp] at g;obtain⟨n,f⟩:=nV<|f.bF<|vB G Cf m x M;have f:=kT (R:=Al) (l:=x.lc) (s:=M.aD) k f;refine bW<|aJx (i:=i) (p:=x.lc.getD i 0) (s:=M.aD i) j.B1 f fun h f=>?_;cases hlo:aT.mM (M.aD i) i with
 |some r=>
  rw[hlo] at f g;dsimp only at f g;have f:=Lo (l:=x.lc) (s:=M.aD) (i:=i) (t:=r.1) k f;refine aQ rfl<|aQ rfl<|cK f fun q h f=>ax (b:=q) f fun h f=>gF<|bW<|bI f fun r3 h f=>aC<|aA<|am m f rfl<|an q f (l:=r.2.enc) rfl rfl<|aZ (c:=r.2.enc) rfl ?_;refine oS (r:=r3) (i:=6) (N:=11) (D:=[]) (W:=7) f rfl rfl rfl rfl rfl fun a h f=>?_;have f:=tB (enc:=Ev.enc) (x:=r.2) f;refine aa (l:=M.eY) (v:=r.2) j.eY f fun z A h f=>aC<|aA<|ay (b:=m) (o:=0) f fun h f=>cR dG<|g _ ?_;have e:bM (jG Cf x M.eY.length) (0+13) [.slice z (M.eY++[r.2]).length A]=jG Cf {x with al:=z,cl:=A} (M.eY++[r.2]).length:=rfl;rw[e] at f;exact(bY (m:=m) (x:={x with al:=z,cl:=A}) ((M.pC i r.1).Za r.2) n f).to
 |none=>
  rw[hlo] at f g;dsimp only at f g;refine aQ rfl<|aQ rfl<|cK f fun q h f=>ax (b:=q) f fun h f=>cS<|bW<|aSk (i:=i) (p:=x.lc.getD i 0) (s:=M.aD i) j.B1 f fun h f=>?_;cases kG:aT.xR (M.aD i) i with
  |some r=>
   rw[kG] at g;dsimp only at g;have f:=Lo (l:=x.lc) (s:=M.aD) (i:=i) (t:=M.aD i) k f;rw[cY] at f;have f:=bY (m:=m) (x:=x) M n f;exact aQ rfl (aQ rfl<|cK f fun q2 h f=>ax (b:=q2) f fun h f=>gF<|aA<|am u f rfl<|an q2 f (l:=r.enc) rfl rfl<|aJv (Cf:=Cf) (M:=M) hC hG F j.bH j.B1 j.eY j.cB f fun h f=>g _ f.to)
  |none=>
   rw[kG] at g;dsimp only at g;refine aQ rfl<|aQ rfl<|cK f fun q2 h f=>ax (b:=q2) f fun h f=>cS<|bW<|Of (i:=i) (p:=x.lc.getD i 0) (s:=M.aD i) j.B1 f fun h f=>?_;have f:=Lo (l:=x.lc) (s:=M.aD) (i:=i) (t:=M.aD i) k f;rw[cY] at f;have f:=bY (m:=m) (x:=x) M n f;cases hac:aT.iI (M.aD i) with
   |some r=>
    rw[hac] at g;dsimp only at g;exact aQ rfl (aQ rfl<|cK f fun y h f=>ax (b:=y) f fun h f=>cX<|fM<|gF<|aA<|am u f rfl<|an y f (l:=Ad r) rfl rfl<|wz (Cf:=Cf) (M:=M) hC hG F j.Pa j.B1 j.gE j.cB j.eY f fun h f=>g _ f.to)
   |none=>
    rw[hac] at g;dsimp only at g;exact aQ rfl<|aQ rfl<|cK f fun y h f=>ax (b:=y) f fun h f=>cX<|fM<|cS<|g _ f.to
end Go.Proofs.Z
end
