/- A part of the proof. -/
import Derived.Test.YtgfankkobgfhnaaGreatDoorG15
import Derived.Test.YtgfankkobgfhnaaGreatDoorG14
set_option linter.all false
open Go Go.Ab
variable {N c d e i k w:Nat} {j:Int->Int×Bool} {A aB g l o s x:Int} {b:Bool}
namespace Go.Mc
open Go.Hm Go.At Go.Is Go.Ct Go.Nt Go.Pc
variable {C:bQ} {M M':bR} {V V':Nat->Ln} {n:aG} {r:bP} {m:Ln} {L L':IA} {a:vR} {F:eN} {f:Nat}
theorem aC8 (f:M'.aD c=M.aD c) (e:M'.aU c=M.aU c) (g:M'.bH=M.bH) (h:∀a,qX C (M.aD c)=some a->mY C (M'.bT c) a.aI<=mY C (M.bT c) a.aI+d)
  (p:∀a,qX C (M.aD c)=some a->fB M.bH a.aS=false->oC C M c a->oC C M' c a):hJ C M' c<=hJ C M c+d:=by
 unfold hJ
 rw[f,e,g]
 cases ha:qX C _ with
 |none=>grind
 |some a=>
  dsimp only
  have j:=h a ha
  by_cases b:fB M.bH a.aS=true
  .grind
  .rw[bA0 b,bA0 b];have o:(if tU C M' c a=true then 0 else 34)<=(if tU C M c a=true then 0 else 34):=by
    by_cases l:tU C M c a=true;simp_all[nC,bA1,b0];grind
   omega
theorem F7 {s:aT} (h:qX C s=some a):0<=a.aI/\a.aI<C.aF/\0<=a.dF/\a.dF<C.aF*2/\aT.iI s=some a:=by
 grind[qX]
def aAf {y:aG} (h:y.kind=4\/y.kind=5):nW C M y=1/\cN y=1:=by
 refine⟨?_,?_⟩;rw[M9 FA];rcases h with h|h<;>rw[h]<;>rfl;rw[cN];rcases h with h|h<;>rw[h]<;>rfl
theorem aI8 (hC:C.Ok) (X:dD C N M) {l:IA} (hc:(c:Int)<C.aB) (hw:w<4) (Z:M.cB c w=n::l) (O:n.kind=8\/n.kind=9\/n.kind=10\/n.kind=11) (v:(M.cZ C (c:Int) (w:Int) 0).2=0)
  (h8:n.kind=8->∀a,qX C (M.aD n.core.toNat)=some a->fB M.bH a.aS=false->¬oC C M n.core.toNat a):
  ph C (M.cZ C (c:Int) (w:Int) 0).1+(if jM C M n then 1 else 0)<=ph C M:=by
 have T:=tO hc hw Z
 unfold bR.cZ at v ⊢
 rw[T] at v ⊢
 dsimp only at v ⊢
 rw[bA0 FC] at v ⊢
 have R:(dL C M.cB).Perm (n::dL C (M.cB.set c w l)):=by
  have:=oW (by rw[T]);rw[T] at this;exact this
 have Q:=rU X.cB<|R.mem_iff.2 c9
 by_cases t:(M.cU C n).2.2≠0
 .grind
 rw[bA0 t] at v ⊢
 by_cases q:((M.cB.set c w l).fY C (M.cU C n).2.1).2≠0
 .grind
 rw[bA0 q]
 have q:=aW.1 q
 have t:=aW.1 t
 have J:=(fI Q.gE).2
 have⟨i,hi⟩:=aL J.1
 have z:n.core.toNat=i:=FA
 have K:(i:Int)<C.aB:=FA
 rw[z] at h8
 have et:M.cU C n=(M.jX i (fP C n.core (M.bT i) n).1,(fP C n.core (M.bT i) n).2.1,(fP C n.core (M.bT i) n).2.2):=by
  rw[bR.cU];rw[aaa,bA1 O,z]
 rw[et] at t q ⊢
 dsimp only at t q ⊢
 have u:=aEt (X.Pa i K) O t
 generalize hG:fP C n.core _ n=G at*
 obtain⟨p,out,er⟩:=G
 dsimp only at u t q ⊢
 have A:∀x∈out,(x.kind=4\/x.kind=5):=fun x s=>by
  rcases u.w with⟨_,e⟩|⟨_,e⟩|⟨y,e,hy⟩;grind;grind;grind
 have B:=(gG q).1
 have hE:xY C M ((M.cB.set c w l).fY C out).1<=xY C M M.cB:=by
  have h4:=Io (M:=M) q fun x s=>FB
  have h5:=Lk (M:=M) hc Z;have h6:out.countP (fun x=>decide<|cN x=2/\jM C M x=true)=0:=AI.2 fun x s=>by
   simp[(aAf (C:=C) (M:=M)<|A x s).2]
  omega
 generalize hF:((M.cB.set c w l).fY C out).1=F' at B hE ⊢
 have h:bS C ((M.jX i p).bM F')=bS C M:=rD rfl rfl rfl
 have P:nW C ((M.jX i p).bM F')=nW C M:=o6 rfl rfl rfl
 have δ:∀L,nT C _ L=nT C M L:=fun L=>by unfold nT;rw[P]
 have hB:nT C M (dL C F')+nW C M n=nT C M (dL C M.cB)+nT C M out:=by
  rw[lX R,hQ,lX B,sX];omega
 have hD:P9 C ((M.jX i p).bM F')<=P9 C M:=by
  refine cO (AF ?_) hE;exact nM fun i _=>R2 h _
 have β:Qc C _=Qc C M:=nM fun j _=>by
  unfold mL;rw[sJ h]
 have hU:au C ((M.jX i p).bM F')=au C M:=rfl
 have mem:∀{o:Int} {j:Nat} {ll:Int},(∀x∈dL C M.cB,fi o j ll x=false)->∀x∈dL C F',fi o j ll x=false:=fun hb x s=>by
  grind[Fc]
 have hA:Mi C ((M.jX i p).bM F')<=Mi C M+(if n.kind=8 then 12 else 0):=by
  have h9:=rA (f:=hJ C<|(M.jX i p).bM F') (g:=hJ C M) (k:=i) (n:=C.aB.toNat) FA fun j _ hj=>by
   have H:((M.jX i p).bM F').bT j=M.bT j:=Ab.bO hj;exact xK rfl rfl rfl FB fun a _ _ b=>⟨by rw[H];exact b.pO,by rw[H];exact b.al,by rw[H];exact b.aw,b.kn,b.Ql,mem b.ln,b.wt⟩
  have D:((M.jX i p).bM F').bT i=p:=cQ;have α:hJ C ((M.jX i p).bM F') i<=hJ C M i+(if n.kind=8 then 12 else 0):=by
   refine aC8 rfl rfl rfl (fun a Y=>by rw[D];exact u.aY7 a.aI (F7 Y).1) fun a Y γ b=>?_;rcases O with k8|E|k1;grind;have⟨_,h11,_⟩:=u.al<|.inr E;have I:=b.ln n<|R.mem_iff.2 c9;exact absurd ⟨FA,by rw[<-h11];exact b.al,.inl E⟩<|CO I;have⟨a1,a2,a3⟩:=u.uB k1;exact⟨by rw[D,a1];exact b.pO,by rw[D,a2];exact b.al,by rw[D,a3];exact b.aw,b.kn,b.Ql,mem b.ln,b.wt⟩
  unfold Mi;omega
 have hW:nT C M out+(if n.kind=8 then 12 else 0)+(if jM C M n then 1 else 0)<=nW C M n:=by
  rcases u.w with⟨E,e⟩|⟨U,e⟩|⟨y,e,hy⟩;rw[e,aaa];show 0+0+_<=_;by_cases s:jM C M n=true;rw[bA1 s,F8<|by rw[jM] at s;simpa using s,aaa,E];decide;grind;rw[e,aaa,Ji FA,M9 FA,U];show 0+0+1<=Qj 10;decide;rw[e,hQ,(aAf (C:=C) (M:=M) (y:=y) FA).1,Ji FA,M9 FA];show 1+0+_+1<=_;rcases hy with⟨k8,_⟩|⟨W,_⟩;rw[k8];decide;rw[W];decide
 unfold ph
 grind
theorem j8 (hC:C.Ok) (l:dD C N M) (s:RY C M V) (f:(i:Int)<C.aB) (hc:n.core=(i:Int)) (p:n.kind=6) (w:(dL C M.cB).Perm (n::L)):
  (yC C (M.aU i)<|nN n.core (kA M.bH.eQ n.no).1 n.no).2.2.1=true->(yC C (M.aU i)<|nN n.core (kA M.bH.eQ n.no).1 n.no).2.1.kM=fB M.bH (M.aU i).aS:=by
 have h:=s.gE.cH w
 have⟨hw,h0,hno⟩:=h.Jq f hc<|.inl p
 have x:=h.pl i f hw
 have e:=h.gr i f
 have y:=h.no n FB<|.inl p
 have q:=l.bH.len
 have o:=hC.2.1
 have⟨g,hg⟩:=aL e.1
 have b:g<M.bH.eQ.length:=FA
 have t:(M.bH.eQ.length:Int)=C.aJ:=FA
 have j:=Ya (a:=n.no) FA l.bH.Ve b FB
 rw[t,<-hg] at j
 intro u
 have v:(lT C.aJ _ n.no (kA M.bH.eQ n.no).1).2.2.1=true:=u
 show(lT C.aJ _ n.no (kA M.bH.eQ n.no).1).2.1.kM=_
 grind[fB,Mon.jW]
theorem aTa {k:jL} {y:aG} (b:n.kind=6) (e:y.kind=12) (h:(yC C k y).2.2.1=true->(yC C k y).2.1.kM=false):Bi C k y+1=Bi C k n:=by
 grind[Bi]
theorem aG1 (hA:∀i:Nat,(i:Int)<C.aB->∀a,qX C (M.aD i)=some a->fB M.bH a.aS=false->oC C M i a->oC C (M.bM F) i a)
  (hB:nT C M (dL C F)+d<=nT C M (dL C M.cB)+e) (hD:xY C M F<=xY C M M.cB):ph C (M.bM F)+d<=ph C M+e:=by
 have b:bS C (M.bM F)=bS C M:=rD rfl rfl rfl
 have f:nW C (M.bM F)=nW C M:=o6 rfl rfl rfl
 have g:∀L,nT C _ L=nT C M L:=fun L=>by unfold nT;rw[f]
 have h:Mi C (M.bM F)<=Mi C M:=gY fun i l=>xK rfl rfl rfl FB FB
 have j:P9 C _<=P9 C M:=cO (AF<|nM fun i _=>R2 b _) hD
 grind[Qc,nM,mL,sJ,au,ph]
theorem Ra (h:mB C M.aU M.bH (n::L)) (b:(i:Int)<C.aB) (hc:n.core=(i:Int)) (e:n.kind=6\/n.kind=12):∀x∈L,x.core=(i:Int)->x.kind≠6/\x.kind≠12:=fun x g f=>by
 have⟨_,_,h2⟩:=h.Jq b hc e;grind
theorem qC (hc:(c:Int)<C.aB) (b:w<4) {x:aG} (h:x∈F c w):x∈dL C F:=by
 rw[dL];grind
def z7 {j v:Nat} {l:IA} (h:F c w=n::l) {x:aG} (b:x∈(F.set c w l) j v):x∈F j v:=by
 rw[eN.set] at b;split at b;rename_i e;rw[e.1,e.2,h];exact ca _ b;exact b
theorem aP4 (hC:C.Ok) (E:dD C N M) (R:RY C M V) {l:IA} (hc:(c:Int)<C.aB) (hw:w<4) (H:M.cB c w=n::l) (q:n.kind=6) (s:(M.cZ C (c:Int) (w:Int) 0).2=0):
  ph C (M.cZ C (c:Int) (w:Int) 0).1+(if jM C M n then 1 else 0)<=ph C M:=by
 have O:=tO hc hw H
 unfold bR.cZ at s ⊢
 rw[O] at s ⊢
 dsimp only at s ⊢
 rw[bA0 FC] at s ⊢
 have u:(dL C M.cB).Perm (n::dL C (M.cB.set c w l)):=by
  have:=oW (by rw[O]);rw[O] at this;exact this
 have J:=rU E.cB<|u.mem_iff.2 c9
 by_cases Y:(M.cU C n).2.2≠0
 .grind
 rw[bA0 Y] at s ⊢
 by_cases g:((M.cB.set c w l).fY C (M.cU C n).2.1).2≠0
 .grind
 rw[bA0 g]
 have g:=aW.1 g
 have G:=(fI J.gE).2
 have⟨i,hi⟩:=aL G.1
 have p:n.core.toNat=i:=FA
 have t:(i:Int)<C.aB:=FA
 have W:M.cU C n=(M,[nN n.core (kA M.bH.eQ n.no).1 n.no],(kA M.bH.eQ n.no).2):=by
  rw[bR.cU];rw[aaa,aaa,bA1 q]
 rw[W] at g ⊢
 dsimp only at g ⊢
 have K:=j8 hC E R t hi q u
 generalize T:nN n.core _ n.no=y at*
 have D:y.kind=12:=by rw[<-T];rfl
 have γ:y.core=n.core:=by rw[<-T];rfl
 have⟨hF,_,_⟩:=sP g
 have v:=(gG g).1
 have β:=Ra (R.gE.cH u) t hi<|.inl q
 have hE:xY C M ((M.cB.set c w l).fY C [y]).1<=xY C M M.cB:=by
  rw[hF];have Z:=Lk (M:=M) hc H;refine cO (gY fun j hj=>?_) Z;have z:∀x∈(M.cB.set c w l) j 2,x.core.toNat=j:=fun x b=>(E.cB.yI j 2 x<|z7 H b).2.1;rw[eN.A4];generalize M.cB.set c w l=F0 at*;by_cases e:j=y.core.toNat/\2=cN y;have U:(F0.set y.core.toNat (cN y)<|F0 y.core.toNat (cN y)++[y]) j 2=F0 j 2++[y]:=by
   rw[eN.set];rw[bA1 e,<-e.1,<-e.2]
  rw[U,aJr fun x b=>?_];grind;have Q:=qC (C:=C) FA FA b;intro X;have α:x.core=(i:Int):=by
   have h7:=z x b;have h8:=e.1;have⟨c3,w3,_,_,hx3⟩:=uP<|u.mem_iff.2<|ca _ Q;have h9:=(fI (E.cB.yI c3 w3 x hx3).1.gE).2;omega
  grind;simp_all[cN,eN.set,bA0]
 refine aG1 (e:=0) (fun j _ a _ _ o=>⟨o.pO,o.al,o.aw,o.kn,o.Ql,fun x b=>?_,o.wt⟩) ?_ hE
 .rcases cj.1 (v.mem_iff.1 b) with b|b
  .grind[List.mem_singleton,Fc]
  .exact o.ln x FB
 .rw[lX u,hQ,lX v,sX,hQ];show nW C M y+0+_+_<=_;have B:y.core.toNat=i:=FA
  by_cases b:jM C M n=true
  .have f:bS C M n=false:=by rw[jM] at b;simpa using b
   have P:fB M.bH (M.aU i).aS=false:=by
    rw[bS] at f;rw[bA1<|.inl q,p] at f;have:pJ C (M.aU i) n=false:=by rw[pJ];grind
    grind
   have A:bS C M y=false:=by
    rw[bS];grind
   have:=aTa q D fun h=>by rw[K h,P]
   rw[bA1 b,F8 f,F8 A,aac,aac,p,B]
   omega
  .have f:bS C M n=true:=by rw[jM] at b;simpa using b
   have I:fB M.bH (M.aU i).aS=true:=by
    rw[bS] at f;rw[bA1<|.inl q,p] at f;simp only[ep] at f;exact f.1
   have A:bS C M y=true:=by
    rw[bS];rw[bA1<|.inr D,B,I];rw[pJ];cases h1:(yC C _ y).2.2.1 with
    |false=>simp
    |true=>grind
   simp_all[bA0,P4]
theorem w7 (h:bS C M n=true->bS C M' n=true):jM C M' n=true->jM C M n=true:=by
 unfold jM;grind
theorem U5 {p q:aG->Bool}:∀{l:IA},(∀x∈l,p x=true->q x=true)->l.countP p<=l.countP q
 |[],_=>b0 _
 |x::l,h=>by
  have e:=U5 fun y b=>h y<|ca _ b;grind
theorem Mr:∀{l:IA},(∀x∈l,bS C M x=true->bS C M' x=true)->gA C M' l<=gA C M l
 |[],_=>b0 _
 |x::l,h=>by
  have g:=Mr fun y b=>h y<|ca _ b;have e:l.countP (jM C M')<=l.countP (jM C M):=U5 fun y b=>w7 FB;have f:Bu C M' x<=Bu C M x:=by
   cases h1:bS C M' x with
   |true=>simp_all[Y9,m6]
   |false=>
    simp_all[zF,b0]
  grind[gA]
theorem yu:∀{l:IA},(∀x∈l,bS C M x=true->bS C M' x=true)->Mc.e2 C M' l<=Mc.e2 C M l
 |[],_=>b0 _
 |x::l,h=>by
  unfold Mc.e2;split;exact U5 fun y b=>w7 FB;exact yu FB
theorem T0:∀{l:IA},(∀x∈l,nW C M' x<=nW C M x)->nT C M' l<=nT C M l
 |[],_=>b0 _
 |x::l,h=>by
  exact ER FB<|T0 FB
theorem yj (b:n.kind≠6/\n.kind≠12) (h:bS C M n=true->bS C M' n=true):nW C M' n<=nW C M n:=by
 cases h1:bS C M' n with
 |true=>simp_all[P4,m6]
 |false=>
  simp_all[F8,bA0,b0]
theorem j6 {k:jL} (b:M'.aD=M.aD) (e2:M'.aU=bD M.aU i k) (e:M'.bH=M.bH) (f:n.core.toNat≠i\/(n.kind≠6/\n.kind≠12))
  (h:yX C (M.aD i) (M.aU i) M.bH=true->yX C (M.aD i) k M.bH=true):bS C M n=true->bS C M' n=true:=by
 unfold bS
 unfold tP
 rw[b,e2,e]
 grind[cQ,Ab.bO]
theorem Ns {k:jL} (h:(k.eU C n.no n.d0).2.2.2=0):k.dP=true/\n.no=k.at'/\
  ((k.kJ=true/\k.eU C n.no n.d0=(k.iT,k.aS/4,false,0))\/
   (k.kJ=false/\(yC C k n).2.2.1=true/\(yC C k n).2.1.kM=true/\k.eU C n.no n.d0=(k.goto<|k.aS/4,k.aS/4,false,0))\/
   (k.kJ=false/\(yC C k n).2.2.1=false/\k.eU C n.no n.d0=(k.goto (yC C k n).1,(yC C k n).1,false,0))\/
   (k.kJ=false/\(yC C k n).2.2.1=true/\(yC C k n).2.1.kM=false/\k.eU C n.no n.d0=((k.Bo C (k.aS,(yC C k n).2.1.owner)).done,0,true,0))):=by
 rw[yC]
 rw[jL.eU] at h ⊢
 by_cases b:k.dP=false
 .grind
 by_cases e:n.no≠k.at'
 .grind
 refine⟨FB,FA,?_⟩
 by_cases f:k.kJ=true
 .grind
 grind
theorem aAt {k:jL}:vP (k.Bo C (g,o)).done g=true:=by
 show(((if(k.bN.length:Int)>=C.lH then k.bN.drop 1 else k.bN)++[(g,o)]).find? _|>.map _).isSome=true;grind
theorem tf {k:jL} {a x:Nat} (o:(i:Int)<C.aB) (b:∀x,x.core.toNat≠i\/(x.kind≠6/\x.kind≠12)->bS C M x=true->bS C ((M.eM i k).bM F) x=true)
  (h:∀l:Nat,l<C.aF->∀x∈(M.aK l).1.aH,x.kind≠6/\x.kind≠12) (hE:∀j:Nat,(j:Int)<C.aB->∀x∈F j 2,x.core.toNat≠i\/(x.kind≠6/\x.kind≠12)) (hD:xY C M F+x<=xY C M M.cB)
  (A:∀j:Nat,(j:Int)<C.aB->j≠i->∀a,oC C M j a->oC C ((M.eM i k).bM F) j a) (hA:hJ C ((M.eM i k).bM F) i+a<=hJ C M i+f)
  (hB:nT C ((M.eM i k).bM F) (dL C F)+f+d<=nT C M (dL C M.cB)+e+a):ph C ((M.eM i k).bM F)+d+x<=ph C M+e:=by
 have u:Mi C ((M.eM i k).bM F)+a<=Mi C M+f:=by
  have z:=rA (f:=hJ C<|(M.eM i k).bM F) (g:=hJ C M) (k:=i) (n:=C.aB.toNat) FA fun j p q=>by
   simp_all[xK,Ab.bO,b0]
  unfold Mi;omega
 have v:P9 C ((M.eM i k).bM F)+x<=P9 C M:=by
  refine cO (BH (gY fun j p=>?_) x) hD;exact yu FB
 have w:Qc C _<=Qc C M:=gY fun l s=>by
  unfold mL;exact BH (Mr fun x t=>b x<|.inr<|h l s x t) _
 have y:au C ((M.eM i k).bM F)=au C M:=rfl
 unfold ph
 grind
def Dp {j:Nat} {k:jL} (b:j≠i) (h:oC C M j a) (e:∀x∈dL C F,fi (M.bH.jW a.aS).owner j a.aI x=false):oC C ((M.eM i k).bM F) j a:=
 ⟨h.pO,h.al,h.aw,by show vP (bD M.aU i k j) _=true;rw[Ab.bO b];exact h.kn,h.Ql,e,h.wt⟩
theorem rJ {q w g:Bool} (l:qX C (M.aD c)=some a) (e:fB M.bH a.aS=b) (f:vP (M.aU c) a.aS=q) (h:(M.aU c).dP=w) (j:tU C M c a=g):
  hJ C M c=mY C (M.bT c) a.aI+(if b then(if q then 34 else 0) else(if q then 34 else if w then 0 else 40)+(if g then 0 else 34)):=by
 grind[hJ]
def aT4 {l:IA} (hc:(c:Int)<C.aB) (h:F c w=n::l) (p:w=2) (g:n.kind=12) (o:∀x∈l,x.kind≠12):xY C M (F.set c w l)+l.countP (jM C M)<=xY C M F:=by
 subst p;have:=pX (f:=fun j=>Mc.e2 C M<|(F.set c 2 l) j 2) (k:=c) (n:=C.aB.toNat) FA fun j _ q=>by
  have e:(F.set c 2 l) j 2=F j 2:=by rw[eN.set];rw[aaa]
  rw[e]
 have b:(F.set c 2 l) c 2=l:=by rw[eN.set];rw[bA1 ⟨rfl,rfl⟩]
 have e2:Mc.e2 C M (F c 2)=l.countP (jM C M):=by rw[h];rw[Mc.e2];rw[bA1 g]
 rw[b,e2,yx o] at this;unfold xY;omega
theorem Wx (hC:C.Ok) (hI:dD C N M) (hR:RY C M V) (ι:En C M) {l:IA} (hc:(c:Int)<C.aB) (hw:w<4) (hl:M.cB c w=n::l) (H:n.kind=12) (Z:(M.cZ C (c:Int) (w:Int) 0).2=0):
  ph C (M.cZ C (c:Int) (w:Int) 0).1+(if jM C M n then 1 else 0)+l.countP (jM C M)<=ph C M:=by
 have ht:=tO hc hw hl
 unfold bR.cZ at Z ⊢
 rw[ht] at Z ⊢
 dsimp only at Z ⊢
 rw[bA0 FC] at Z ⊢
 have hp:(dL C M.cB).Perm (n::dL C (M.cB.set c w l)):=by
  have:=oW (by rw[ht]);rw[ht] at this;exact this
 have ο:=rU hI.cB<|hp.mem_iff.2 c9
 by_cases W:(M.cU C n).2.2≠0
 .grind
 rw[bA0 W] at Z ⊢
 by_cases q:((M.cB.set c w l).fY C (M.cU C n).2.1).2≠0
 .grind
 rw[bA0 q]
 have q:=aW.1 q
 have W:=aW.1 W
 have μ:=(fI ο.gE).2
 have⟨i,hi⟩:=aL μ.1
 have v:n.core.toNat=i:=FA
 have t:(i:Int)<C.aB:=FA
 have et:M.cU C n=(M.eM i ((M.aU i).eU C n.no n.d0).1,if((M.aU i).eU C n.no n.d0).2.2.1 then [] else [cJ 6 n.core ((M.aU i).eU C n.no n.d0).2.1],((M.aU i).eU C n.no n.d0).2.2.2):=by
  rw[bR.cU];rw[aaa,aaa,aaa,bA1 H,v]
 rw[et] at W q ⊢
 dsimp only at W q ⊢
 have y:=hR.gE.cH hp
 have χ:=Ra y t hi<|.inr H
 have⟨hwk,hno,hcase⟩:=Ns W
 have ψ:=y.pl i t hwk
 have σ:=y.gr i t
 have⟨a,hacc,hword,s⟩:=ι.w1 i t hwk
 have B:qX C (M.aD i)=some a:=by rw[qX];grind
 have s:a.aS=(M.aU i).aS:=s.symm
 have θ:vP (M.aU i) (M.aU i).aS=false:=by
  rw[vP];cases δ:jD _ _ with
  |none=>rfl
  |some o=>exact absurd (eV.2 ⟨_,Gi δ,rfl⟩)<|(y.nd i t).2 hwk
 have φ:yX C (M.aD i) (M.aU i) M.bH=false:=by
  rw[yX];rw[B];dsimp only;rw[s,θ,p9]
 have I:∀{M1:bR},vP (M1.aU i) a.aS=false->tU C M1 i a=false:=fun {M1} h=>by
  cases K:tU C M1 i a with
  |false=>rfl
  |true=>
   have:=(nC.1 K).kn;grind
 have z:vP (M.aU i) a.aS=false:=FB
 have ρ:=rJ B rfl z hwk<|I z
 have ν:∀x∈dL C _,x.core.toNat=i->x.core=(i:Int):=fun x p e=>by
  have⟨c3,w3,_,_,hx3⟩:=uP<|hp.mem_iff.2<|ca _ p;have h9:=(fI (hI.cB.yI c3 w3 x hx3).1.gE).2;omega
 have α:∀x∈dL C (M.cB.set c w l),x.core.toNat≠i\/(x.kind≠6/\x.kind≠12):=FB
 have β:∀l:Nat,l<C.aF->∀x∈(M.aK l).1.aH,x.kind≠6/\x.kind≠12:=fun l hl x p=>by
  have:=((hR.rX.aI l hl).jA.aH x p).2.2;omega
 have κ:=(hI.cB.yI c w n FB).2
 have E:w=2:=by
  rw[<-κ.2];rw[cN];rw[H];rfl
 have ε:∀x∈l,x.kind≠12:=fun x p=>by
  have hxm:x∈dL C (M.cB.set c w l):=qC hc hw (by grind[eN.set]);have ω:=(hI.cB.yI c w x FB).2.1;grind
 have γ:=aT4 (M:=M) hc hl E H ε
 have G:∀{k:jL} {F:eN},(∀x,x.core.toNat≠i\/(x.kind≠6/\x.kind≠12)->bS C M x=true->bS C _ x=true)->nT C ((M.eM i k).bM F) _<=nT C M _:=fun {k F} X=>
  T0 fun x p=>by
   by_cases e:x.kind=6\/x.kind=12;have T:x.core.toNat≠i:=by rcases α x p with h|h;exact h;omega
   have ej:((M.eM i k).bM F).aU x.core.toNat=M.aU x.core.toNat:=Ab.bO T;have es:bS C ((M.eM i k).bM F) x=bS C M x:=by
    unfold bS;rw[bA1 e,bA1 e,ej]
   unfold nW;grind;exact yj FA<|X x<|.inr FA
 have η:=lX (C:=C) (M:=M) hp
 rw[hQ] at η
 have goes:∀(k:jL) (g:Int),k.bN=(M.aU i).bN->k.aS=(M.aU i).aS->k.dP=true->
   ((M.cB.set c w l).fY C [cJ 6 n.core g]).2=0->(fB M.bH (M.aU i).aS=false->Bi C k (cJ 6 n.core g)+1<=nW C M n)->(fB M.bH (M.aU i).aS=true->jM C M n=false)->
   ph C ((M.eM i k).bM ((M.cB.set c w l).fY C [cJ 6 n.core g]).1)+(if jM C M n then 1 else 0)+l.countP (jM C M)<=ph C M:=by
  intro k g e1 e2 e3 q hu Q
  have⟨hF,_,_⟩:=sP q
  have D:=(gG q).1
  generalize π:((M.cB.set c w l).fY C _).1=F at hF D ⊢
  have δ:∀g',vP k g'=vP (M.aU i) g':=fun g'=>by unfold vP;rw[e1]
  have b:∀x,x.core.toNat≠i\/(x.kind≠6/\x.kind≠12)->bS C M x=true->bS C ((M.eM i k).bM F) x=true:=fun x p=>
   j6 rfl rfl rfl p FB
  have P:∀j,F j 2=(M.cB.set c w l) j 2:=fun j=>by
   rw[hF];show(if j=(cJ 6 n.core g).core.toNat/\2=cN _ then _ else _)=_;rw[bA0 (fun e=>by have h7:cN (cJ 6 n.core g)=0:=rfl;grind)]
  refine tf (e:=0) (f:=0) (a:=0) t b β (fun j hj x p=>?_) (cO (BH (AF<|nM fun j _=>by rw[P]) _) γ) (fun j _ O a K=>Dp O K fun x p=>?_) ?_ ?_
  .grind[qC]
  .rcases cj.1 (D.mem_iff.1 p) with p|p
   .rw[aV.1 p];exact Fc (by show(6:Int)≠9/\(6:Int)≠1/\(6:Int)≠2;decide)
   .exact K.ln x FB
  .have Y:((M.eM i k).bM F).aU i=k:=cQ;have h7:vP (((M.eM i k).bM F).aU i) a.aS=false:=FB
   have h8:=rJ (M:=(M.eM i k).bM F) (w:=true) B rfl h7 FB<|I h7
   grind
  .rw[lX D,sX,hQ];have h4:=G b;show nW C _ _+0+_+0+_<=_+0;have Y:((M.eM i k).bM F).aU i=k:=cQ;have J:(cJ 6 n.core g).core.toNat=i:=v;by_cases R:fB M.bH (M.aU i).aS=true
   .have X:bS C ((M.eM i k).bM F) (cJ 6 n.core g)=true:=by
     rw[bS];rw[bA1<|.inl rfl,J,Y,e2];show(fB M.bH _&&_)=true;rw[R];rw[pJ];rw[cM<|by show ¬(6:Int)=12;decide];rfl
    grind[P4]
   .have R:fB M.bH (M.aU i).aS=false:=by simpa using R
    have X:bS C ((M.eM i k).bM F) (cJ 6 n.core g)=false:=by
     rw[bS];rw[bA1<|.inl rfl,J,Y,e2];grind
    rw[F8 X,bA1<|show(cJ 6 n.core g).kind=6\/_ from .inl rfl,J,Y]
    grind
 have U:fB M.bH (M.aU i).aS=false->nW C M n=Bi C _ n:=fun h=>by
  have X:bS C M n=false:=by
   rw[bS];grind
  rw[F8 X,bA1<|.inr H,v]
 have A:pJ C (M.aU i) n=false->fB M.bH (M.aU i).aS=true->jM C M n=false:=fun h h'=>by
  grind[jM,bS]
 rcases hcase with⟨u,e⟩|⟨u,ho,Q,e⟩|⟨u,ho,e⟩|⟨u,ho,Q,e⟩
 .rw[e] at q ⊢;refine goes _ _ rfl rfl hwk q (fun h=>?_) (A<|by grind[pJ]);rw[U h];unfold Bi;rw[bA1<|show(M.aU i).iT.at'=(M.aU i).iT.aS/4 from rfl,bA1<|show(cJ 6 n.core _).kind=6 from rfl,bA0<|show ¬n.kind=6 by omega,u];show 34+2+(2+0)+1<=34+_+(1+4);omega
 .rw[e] at q ⊢;refine goes _ _ rfl rfl hwk q (fun h=>?_) (A<|by grind[pJ]);rw[U h];unfold Bi;rw[bA1<|show((M.aU i).goto<|(M.aU i).aS/4).at'=((M.aU i).goto<|(M.aU i).aS/4).aS/4 from rfl,bA1<|show(cJ 6 n.core _).kind=6 from rfl,bA0<|show ¬n.kind=6 by omega,ho,Q,
      show((M.aU i).goto<|(M.aU i).aS/4).kJ=false from u]
  grind
 .rw[e] at q ⊢;refine goes _ _ rfl rfl hwk q (fun h=>?_) (A<|by grind[pJ]);rw[U h];have E:=(y.dF n FB H).1;rw[v,<-hno] at E;have⟨h5,h6⟩:=E.2 ho;have T:¬((M.aU i).goto (yC C (M.aU i) n).1).at'=((M.aU i).goto (yC C (M.aU i) n).1).aS/4:=by
   show ¬(lT C.aJ _ n.no n.d0).1=(M.aU i).aS/4;rw[h5];have:=hC.2.1;rw[lK];omega
  unfold Bi
  rw[bA0 T,bA1<|show(cJ 6 n.core _).kind=6 from rfl,bA0<|show ¬n.kind=6 by omega,ho,bA1<|show(M.aU i).at'=(M.aU i).aS/4 by grind,u,
      show((M.aU i).goto (yC C _ n).1).kJ=false from u]
  simp
 .rw[e] at q ⊢;rw[bA1 rfl] at q ⊢;have D:=(gG q).1;have hF:((M.cB.set c w l).fY C []).1=M.cB.set c w l:=rfl;generalize ξ:((M.aU i).Bo C ((M.aU i).aS,(yC C _ n).2.1.owner)).done=k;have τ:vP k (M.aU i).aS=true:=by rw[<-ξ];exact aAt
  have b:∀x,x.core.toNat≠i\/(x.kind≠6/\x.kind≠12)->bS C M x=true->bS C ((M.eM i k).bM<|M.cB.set c w l) x=true:=fun x p=>
   j6 rfl rfl rfl p FB
  have ζ:bS C M n=false:=by
   rw[bS];rw[bA1<|.inr H,v];rw[pJ];grind
  have υ:35<=nW C M n:=by
   rw[F8 ζ,bA1<|.inr H,v];rw[Bi];grind
  refine tf (e:=0) (f:=34) (a:=0) t b β (fun j hj x p=>α x<|qC FA FA p) γ (fun j _ O a K=>Dp O K fun x p=>K.ln x FB) ?_ ?_
  .have Y:((M.eM i k).bM<|M.cB.set c w l).aU i=k:=cQ;have h7:vP (((M.eM i k).bM<|M.cB.set c w l).aU i) a.aS=true:=FB
   have h8:=rJ (M:=(M.eM i k).bM _) B rfl h7 rfl rfl
   grind
  grind
def iX (i:Nat) (n:aG):Bool:=decide<|n.core=(i:Int)/\(n.kind=1\/n.kind=2\/n.kind=9)
theorem nB:∀{n:Nat} {f:Nat->Nat},(∀i,i<n->f i=0)->fH f n=0
 |0,_,_=>rfl
 |n+1,f,h=>by
  show fH f n+f n=0;rw[nB FB,h n FA]
theorem lS {f g:Nat->Nat}:∀{n:Nat},fH (fun i=>f i+g i) n=fH f n+fH g n
 |0=>rfl
 |n+1=>by
  show fH _ n+(f n+g n)=fH f n+f n+(fH g n+g n);rw[lS];omega
theorem Dh {f:Nat->Nat} {k b:Nat}:∀{n:Nat},(∀i,i<n->i≠k->f i=0)->f k<=b->fH f n<=b
 |0,_,_=>m6 _
 |n+1,h,g=>by
  show fH f n+f n<=b;by_cases e:n=k;grind[nB];rw[h n FA e];exact Dh FB g
theorem ng {i l:Nat}:∀{L:IA},(L.filter<|Q8 l).countP (iX i)=fS 1 i l (L.filter<|Q8 l)+fS 2 i l (L.filter<|Q8 l)+fS 9 i l (L.filter<|Q8 l)
 |[]=>rfl
 |x::L=>by
  have f:=ng (i:=i) (l:=l) (L:=L);by_cases b:Q8 l x=true;rw[BR b];simp[dW,m0,iX,y0];have e:=(cP b).1;grind;grind
theorem zi {i n:Nat}:∀{L:IA},(∀x∈L,iX i x=true->0<=x.aI/\x.aI<n)->L.countP (iX i)=fH (fun l=>(L.filter<|Q8 l).countP<|iX i) n
 |[],_=>(nB fun _ _=>rfl).symm
 |x::L,h=>by
  rw[m0,zi fun y j=>h y<|ca _ j];by_cases b:iX i x=true;have⟨h1,h2⟩:=h x FB b;have⟨k,hk⟩:=aL h1;have g:=(cP b).2;have:=pX (f:=fun l=>((x::L).filter<|Q8 l).countP<|iX i) (k:=k) (n:=n) FA fun l _ p=>by
   rw[AP];intro e;have:=(cP e).1;omega
  have o:((x::L).filter<|Q8 k).countP (iX i)=(L.filter<|Q8 k).countP (iX i)+1:=by
   rw[BR<|show Q8 k x=true from cL ⟨hk,GG⟩,m0,bA1 b]
  grind;grind
theorem kr {i l:Nat}:∀{w:IA},(∀x∈w,x.aI=(l:Int)/\(x.kind=0\/x.kind=1\/x.kind=2\/x.kind=3))->w.countP (iX i)=fS 1 i l w+fS 2 i l w
 |[],_=>rfl
 |x::w,h=>by
  have f:=kr (i:=i) fun y e=>h y<|ca _ e;simp[dW,m0];have:(if iX i x=true then 1 else 0)=(if x.kind=1/\x.core=(i:Int)/\x.aI=(l:Int) then 1 else 0)+(if x.kind=2/\x.core=(i:Int)/\x.aI=(l:Int) then 1 else 0):=by
   rw[iX];simp[y0];by_cases b:x.core=(i:Int);grind;simp[b]
  omega
theorem aN8 (hC:C.Ok) (g:RY C M V) (j:(i:Int)<C.aB):(dL C M.cB).countP (iX i)+fH (fun l=>(M.aK l).1.aH.countP<|iX i) C.aF<=1:=by
 have h:=hC.1;rw[zi fun x e o=>(g.rX.nb x e<|by have:=(cP o).2;unfold PK;omega).2,<-lS];have each:∀l:Nat,l<C.aF->((dL C M.cB).filter<|Q8 l).countP (iX i)+(M.aK l).1.aH.countP (iX i)<=(rY C M.bT l i).qO.toNat:=fun l b=>by
  have f:=g.rX.aI l b;have t1:=f.t1 i FA;rw[ng,kr fun x e=>⟨(f.jA.aH x e).1,(f.jA.aH x e).2.2⟩];grind[H5]
 have kG:∀l:Nat,(rY C M.bT l i).qO=((M.bT i).pO&&decide _):=fun l=>rfl;have zero:∀l:Nat,l<C.aF->l≠(M.bT i).al.toNat->((dL C M.cB).filter<|Q8 l).countP (iX i)+(M.aK l).1.aH.countP (iX i)=0:=fun l b p=>by
  have:(rY C M.bT l i).qO=false:=by
   rw[kG,cM FA,p9]
  grind
 by_cases b:(M.bT i).al.toNat<C.aF;apply Dh zero;have q:=each _ b;have:(rY C M.bT (M.bT i).al.toNat i).qO.toNat<=1:=by cases(rY C M.bT _ i).qO<;>decide
 omega;rw[nB FB];omega
abbrev up2 (C:bQ) (M:bR) (L:IA):Nat:=L.countP fun x=>decide<|cN x=2/\jM C M x=true
theorem Mh {p:EW}:nT C M (eR l s p)=2*p.length/\up2 C M (eR l s p)=0:=by
 rw[eR];induction p with
 |nil=>exact⟨rfl,rfl⟩
 |cons x p b=>
  rw[kd,hQ,b.1];have e:nW C M {aG.zero with kind:=11,core:=(x:Int),aI:=l,state:=s}=2:=by
   rw[M9 FB];rfl
  rw[e];refine⟨FG,?_⟩;show List.countP _ _=0;exact b.2
theorem H4 (h:r.busy=false):nO r=0:=by
 grind[nO]
theorem aBh {w:IA} (hb:r.busy=false) (D:r.cG=false) (H:r.aH=n::w) (R:n.kind=0\/n.kind=1\/n.kind=2\/n.kind=3) (E:n.aI=l) (Q:(j n.bA).2=true->fB M.bH (l/2)=false):
  mL C M (bP.eX (r.next w) l m n j).1.1+nT C M (bP.eX (r.next w) l m n j).2+up2 C M (bP.eX (r.next w) l m n j).2+(if jM C M n then 1 else 0)<=mL C M r:=by
 have G:mL C M r=Bu C M n+gA C M w+w.countP (jM C M):=by
  rw[mL];rw[H4 hb,H];rfl
 rw[G]
 rw[bP.eX]
 by_cases t:n.kind=3
 .have v:nT C M [mR 10 n.core l]=1:=by rw[hQ,M9<|by show(10:Int)≠6/\(10:Int)≠12/\(10:Int)≠1/\(10:Int)≠2/\(10:Int)≠9;decide];rfl
  have q:mL C M ((r.next w).iB n.core)=gA C M w:=by
   show gA C M w+nO _=_;rw[H4 (r:=(r.next w).iB n.core) hb];rfl
  rw[zF<|O2 FA,bA0<|show ¬(n.kind=1\/n.kind=2) by omega,bA1 t]
  grind
 rw[bA0 t]
 by_cases e:n.kind=1\/n.kind=2
 .rw[bA1 e];by_cases h:(j n.bA).2=true
  .rw[bA1 h];have g:bS C M n=false:=by
    rw[bS];grind
   rw[zF g,bA1 e]
   have v:(if jM C M n then 1 else 0)<=1:=by split<;>omega
   have dS:∀{b:bP} {p:EW} {s:Int},b.aH=w->b.busy=true->b.cG=false->b.aX.kind≠0->p.length<=4->mL C M (b.iO p)+nT C M (eR l s p)+up2 C M (eR l s p)+(if jM C M n then 1 else 0)<=26+gA C M w+w.countP (jM C M):=fun {b p s} u e2 z A O=>by
    rw[Mh.1,Mh.2];have:mL C M (b.iO p)=gA C M w+17:=by
     show gA C M b.aH+nO _=_;rw[u];rw[nO];rw[bA1<|show(b.iO p).busy=true/\(b.iO p).cG=false from⟨e2,z⟩,bA0<|show ¬(b.iO p).aX.kind=0 from A]
    omega
   have f:∀{b:bP} {d:Ln},b.aH=w->mL C M (b.dZ l d).1+nT C M (b.dZ l d).2+up2 C M (b.dZ l d).2+(if jM C M n then 1 else 0)<=26+gA C M w+w.countP (jM C M):=fun {b d} u=>by
    have⟨g1,g2⟩:=yg (C:=C) (M:=M) (r:=b) (l:=l) (d:=d);grind[mL,gA,R1,Pc.kB]
   unfold bP.get
   split
   .rw[bP.Ky];split
    .exact dS rfl rfl D (show n.kind≠0 by omega) tY
    .exact f rfl
   .have T:(((r.next w).iM n (j n.bA).1).jZ).aX=n/\(((r.next w).iM n (j n.bA).1).jZ).aH=w/\(((r.next w).iM n (j n.bA).1).jZ).busy=true/\(((r.next w).iM n (j n.bA).1).jZ).cG=r.cG:=by rw[bP.jZ];split<;>exact⟨rfl,rfl,rfl,rfl⟩
    rw[bP.Jv]
    split
    .simp_all
    grind
  .rw[bA0 h];have q:mL C M (r.next w)=gA C M w:=by
    show gA C M w+nO _=_;rw[H4 (r:=r.next w) hb];rfl
   have o:bS C M (mR 9 n.core l)=bS C M n:=by
    unfold bS;rw[bA0<|show ¬((mR 9 n.core l).kind=6\/(mR 9 n.core l).kind=12) by show ¬((9:Int)=6\/(9:Int)=12);decide,bA0<|show ¬(n.kind=6\/n.kind=12) by omega,
          bA1 (show(mR 9 n.core l).kind=1\/(mR 9 n.core l).kind=2\/(mR 9 n.core l).kind=9 from .inr<|.inr rfl),aac,E]
    rfl
   dsimp only
   show _+(_+0)+List.countP _ [_]+_<=_
   cases g:bS C M n with
   |true=>
    have I:jM C M (mR 9 n.core l)=false:=by rw[jM];rw[o,g];rfl
    have J:jM C M n=false:=by rw[jM];rw[g];rfl
    grind[P4]
   |false=>
    have B:List.countP (fun x=>decide<|cN x=2/\jM C M x=true) [mR 9 n.core l]<=1:=FB
    have y:nW C M (mR 9 n.core l)=1:=by rw[F8<|o.trans g];rfl
    have P:(if jM C M n then 1 else 0)<=1:=by split<;>omega
    rw[zF g,bA1 e,y]
    omega
 rw[bA0 e]
 have K:n.kind=0:=FA
 have g:bS C M n=false:=O2 FA
 rw[zF g,bA0 e,bA0 t]
 have v:(if jM C M n then 1 else 0)<=1:=by split<;>omega
 split
 .have q:mL C M (r.next w)=gA C M w:=by
   show gA C M w+nO _=_;rw[H4 (r:=r.next w) hb];rfl
  dsimp only
  rw[q]
  show _+0+0+_<=_
  omega
 .dsimp only;rw[Mh.1,Mh.2];have B:=tY (r:=r.next w) (x:= -1);have y:mL C M (((r.next w).Np n).iO<|(r.next w).iV<|-1)<=gA C M w+1:=by
   show gA C M w+nO _<=_;rw[nO];split;rw[bA1<|show(((r.next w).Np n).iO _).aX.kind=0 from K];grind;omega
  omega
theorem Gn:(bP.eX r l m n j).1.1.aH=r.aH:=by
 rw[bP.eX];split;rfl;split;split;unfold bP.get;split;rw[bP.Ky];split;rfl;rw[Pc.kB];rfl;have b:((r.iM n (j n.bA).1).jZ).aH=r.aH:=by rw[bP.jZ];split<;>rfl
 rw[bP.Jv];split;exact b;grind[Pc.kB];rfl;split<;>rfl
theorem u0 (g:n.kind=0\/n.kind=1\/n.kind=2\/n.kind=3):∀y∈(bP.eX r l m n j).2,(y.kind≠9/\y.kind≠1/\y.kind≠2/\y.kind≠12)\/(y.kind=9/\y.core=n.core/\y.aI=l/\(n.kind=1\/n.kind=2)/\(j n.bA).2=false):=by
 have pr:∀{s:Int} {p:EW},∀y∈eR l s p,y.kind≠9/\y.kind≠1/\y.kind≠2/\y.kind≠12:=fun y b=>by
  grind[eR]
 have gr:∀{f:bP} {d:Ln},∀y∈(f.dZ l d).2,y.kind≠9/\y.kind≠1/\y.kind≠2/\y.kind≠12:=fun y b=>by
  have:=(H6 y b).1;omega
 rw[bP.eX];split;intro y b;rw[aV.1 b];left;show(10:Int)≠9/\(10:Int)≠1/\(10:Int)≠2/\(10:Int)≠12;decide;split;rename_i e;split;grind[bP.get,bP.Ky,bP.Jv];intro y b;rw[aV.1 b];exact .inr ⟨rfl,rfl,rfl,e,FB⟩;grind
theorem kq (hC:C.Ok) (hI:dD C N M) (X:RY C M V) (I:(M.dK C (k:Int)).2=0):∃n w,(M.aK k).1.aH=n::w/\k<C.aF/\
  ph C (M.dK C (k:Int)).1+(if jM C M n then 1 else 0)<=ph C M:=by
 unfold bR.dK at I ⊢
 dsimp only at I ⊢
 by_cases A:(eO C M.aK (k:Int)<|M.gC C (k:Int)).2.2≠0
 .grind
 rw[bA0 A] at I ⊢
 by_cases u:(M.cB.fY C (eO C M.aK (k:Int)<|M.gC C (k:Int)).2.1).2≠0
 .grind
 rw[bA0 u]
 have A:=aW.1 A
 have u:=aW.1 u
 have s:C.kG (k:Int):=by
  apply gg;intro e;rw[eO] at A;grind
 have y:k<C.aF:=by have:=s.2;omega
 have e:eO C M.aK (k:Int) (M.gC C (k:Int))=(bD M.aK k (iN.dK (M.aK k) (k:Int)<|M.gC C (k:Int)).1,(iN.dK (M.aK k) (k:Int)<|M.gC C (k:Int)).2):=by
  rw[eO];rw[bA1 s];rfl
 rw[e] at A u ⊢
 dsimp only at A u ⊢
 have D:=(X.rX.aI k y).jA
 have O:(M.aK k).1.busy=false:=by
  cases O:(M.aK k).1.busy with
  |false=>rfl
  |true=>grind[iN.dK]
 have J:(M.aK k).1.cG=false:=by
  cases q:(M.aK k).1.cG with
  |false=>rfl
  |true=>have:=D.gb q;grind
 cases hw:(M.aK k).1.aH with
 |nil=>
  simp_all[iN.dK,bA0]
 |cons n w=>
  refine⟨n,w,rfl,y,?_⟩
  have U:iN.dK (M.aK k) (k:Int) (M.gC C (k:Int))=((bP.eX ((M.aK k).1.next w) (k:Int) (M.aK k).2 n<|M.gC C (k:Int)).1,(bP.eX ((M.aK k).1.next w) (k:Int) (M.aK k).2 n<|M.gC C (k:Int)).2,0):=by
   rw[iN.dK];rw[bA0 FB,hw]
  rw[U] at u ⊢
  dsimp only at u ⊢
  have⟨hnl,hnc,hnk⟩:=D.aH n FB
  have Q:((k:Int)/2)=((k/2:Nat):Int):=FA
  have hj:∀x,(M.gC C _ x).2=(!fB M.bH _&&yL x _):=fun x=>by
   unfold bR.gC;rw[bA1 s];rfl
  have E:=aBh (C:=C) (M:=M) (m:=(M.aK k).2) (j:=M.gC C (k:Int)) O J hw hnk hnl FB
  have b:=u0 (r:=(M.aK k).1.next w) (l:=(k:Int)) (m:=(M.aK k).2) (j:=M.gC C (k:Int)) hnk
  have B:=Gn (r:=(M.aK k).1.next w) (l:=(k:Int)) (m:=(M.aK k).2) (n:=n) (j:=M.gC C (k:Int))
  generalize hG:bP.eX _ _ _ n _=G at*
  obtain⟨⟨t,v⟩,out⟩:=G
  dsimp only at E b B u ⊢
  have z:=(gG u).1
  have hE:=Io (M:=M) u fun x p=>by rcases b x p with h|h<;>omega
  generalize hF:(M.cB.fY C out).1=F' at z hE ⊢
  have o:bS C ((M.bM F').mI<|bD M.aK k (t,v))=bS C M:=rD rfl rfl rfl
  have K:nW C ((M.bM F').mI<|bD M.aK k (t,v))=nW C M:=o6 rfl rfl rfl
  have β:∀L,nT C _ L=nT C M L:=fun L=>by unfold nT;rw[K]
  have hB:nT C M (dL C F')=nT C M out+nT C M (dL C M.cB):=by rw[lX z,sX]
  have hD:P9 C ((M.bM F').mI<|bD M.aK k (t,v))<=P9 C M+up2 C M out:=by
   refine cO (AF ?_) hE;exact nM fun i _=>R2 o _
  have Y:Qc C ((M.bM F').mI<|bD M.aK k (t,v))+mL C M (M.aK k).1=Qc C M+mL C M t:=by
   have:=pX (f:=fun i=>mL C ((M.bM F').mI _) (bD M.aK k (t,v) i).1) (g:=fun i=>mL C M _) y fun i _ Z=>by
    rw[Ab.bO Z];unfold mL;rw[sJ o]
   rw[cQ] at this;have T:mL C ((M.bM F').mI<|bD M.aK k (t,v)) t=mL C M t:=by unfold mL;rw[sJ o]
   rw[T] at this;exact this
  have hA:Mi C ((M.bM F').mI<|bD M.aK k (t,v))<=Mi C M:=by
   refine gY fun i _=>xK rfl rfl rfl FB fun a ha γ q=>⟨q.pO,q.al,q.aw,q.kn,q.Ql,fun x p=>?_,fun x p=>?_⟩;rcases cj.1 (z.mem_iff.1 p) with p|p;rcases b x p with h|⟨h9,δ,ε,W,α⟩;grind[Fc];refine cM fun P=>?_;have R:=q.wt n FB;have R:=CO R;grind;exact q.ln x p;have p:x∈(bD M.aK k (t,v) a.aI.toNat).1.aH:=p;by_cases H:a.aI.toNat=k;rw[H,cQ] at p;rw[B] at p;exact q.wt x (by rw[H,hw];exact ca _ p);rw[Ab.bO H] at p;exact q.wt x p
  grind[au,bD,ph]
theorem Up {k k':Mon} (h:k'.eQ=k.eQ):k'.jW=k.jW:=by
 grind[Mon.jW]
theorem Ef (e:M'.aD=M.aD) (e2:M'.aU=M.aU) (b:M'.bH.eQ=M.bH.eQ):bS C M'=bS C M:=by
 have f:fB M'.bH=fB M.bH:=by funext g;unfold fB;rw[Up b]
 funext n;simp_all[bS,tP,yX]
def aMv (b:M'.aD=M.aD) (e2:M'.aU=M.aU) (e:M'.bH.eQ=M.bH.eQ):nW C M'=nW C M:=by
 unfold nW;rw[Ef b e2 e,e2]
theorem aAk {g b:Nat}:∀n:Nat,fH (fun l=>if l/2=g then b else 0) n<=(if n<=g*2 then 0 else if n=g*2+1 then b else b+b)
 |0=>by exact b0 _
 |n+1=>by
  have e:=aAk (g:=g) (b:=b) n;grind[fH]
theorem aB9 (e:M'.aD c=M.aD c) (b:M'.aU c=M.aU c) (f:M'.bT c=M.bT c) (j:M'.bH.eQ=M.bH.eQ) (l:M'.bH.iC (c:Int)=M.bH.iC (c:Int)) (p:∀a,oC C M c a->oC C M' c a):hJ C M' c<=hJ C M c:=by
 have h:fB M'.bH=fB M.bH:=by funext g;unfold fB;rw[Up j]
 unfold hJ;rw[e,b,f,l,h];cases ha:qX C _ with
 |none=>grind
 |some a=>
  refine CN ?_ _;split;grind;refine CN ?_ _;by_cases o:tU C M c a=true;simp_all[bA1,nC,b0];grind
theorem aHq (hC:C.Ok) {k k':Mon} (b:iY C k) (e:iY C k') (h:∀g,rc k' g=rc k g) {i:Int}:k'.iC i=k.iC i:=by
 grind[wX]
theorem s8 {k:Mon} {core:Int} (h:(k.eF aB g core).2.2=0):k.kG g/\∃r,k.run g=some r/\r.phase=1/\k.eF aB g core=(k.dO g.toNat<|some (r.dE core).gX,(r.dE core).none,0):=by
 rw[Mon.eF] at h ⊢;grind
theorem se (hC:C.Ok) (X:dD C N M) (hR:RY C M V) (hS:Sw C M) {l:IA} (hc:(c:Int)<C.aB) (hw:w<4) (v:M.cB c w=n::l) (J:n.kind=7) (A:(M.cZ C (c:Int) (w:Int) 0).2=0)
  (p:iY C (M.cZ C (c:Int) (w:Int) 0).1.bH):ph C (M.cZ C (c:Int) (w:Int) 0).1+1<=ph C M:=by
 have ht:=tO hc hw v
 unfold bR.cZ at A p ⊢
 rw[ht] at A p ⊢
 dsimp only at A p ⊢
 rw[bA0 FC] at A p ⊢
 have Y:(dL C M.cB).Perm (n::dL C (M.cB.set c w l)):=by
  have:=oW (by rw[ht]);grind
 have R:=rU X.cB<|Y.mem_iff.2 c9
 by_cases z:(M.cU C n).2.2≠0
 .grind
 rw[bA0 z] at A p ⊢
 by_cases h3:((M.cB.set c w l).fY C (M.cU C n).2.1).2≠0
 .grind
 rw[bA0 h3] at p ⊢
 have z:=aW.1 z
 have et:M.cU C n=((if(M.bH.eF C.aB n.no n.core).2.1 then(M.jH (M.bH.eF C.aB n.no n.core).1).mI (oJ C M.aK n.no) else M.jH (M.bH.eF C.aB n.no n.core).1),[],(M.bH.eF C.aB n.no n.core).2.2):=by
  rw[bR.cU];rw[aaa,aaa,aaa,aaa,aaa,bA1 J]
 have s:∀g,rc (M.bH.eF C.aB n.no n.core).1 g=rc M.bH g:=Kh
 rw[et] at z p ⊢
 dsimp only at z p ⊢
 have⟨hhas,r,hrun,hp1,hd⟩:=s8 z
 have P:=Ks R.gE<|.inl J
 have⟨g,hg⟩:=aL P.1
 have H:(g:Int)<C.aJ:=FA
 have γ:=oN H
 have ε:M.bH.eI g=some r:=by
  rw[Mon.run] at hrun;grind
 have I:n.no.toNat=g:=FA
 rw[hd] at s p ⊢
 dsimp only at s p ⊢
 rw[I] at s p ⊢
 generalize u:M.bH.dO g _=k at s p ⊢
 have j:k.eQ=M.bH.eQ:=by rw[<-u];rfl
 have hF:((M.cB.set c w l).fY C []).1=M.cB.set c w l:=rfl
 rw[hF]
 have U:∀l:Nat,l<C.aF->(M.aK l).1.aH.length<=5:=fun l v=>Im (hR.rX.aI l v)<|cO (hS.sw l v) HM
 have E:∀{H':nD} {d:Nat},iY C k->(∀l:Nat,∀x∈(H' l).1.aH,x∈(M.aK l).1.aH\/x.kind=0)->Qc C {M with bH:=k,aK:=H',cB:=M.cB.set c w l}<=Qc C M+d->Cb k g+d<=Cb M.bH g->
   ph C {M with bH:=k,aK:=H',cB:=M.cB.set c w l}+1<=ph C M:=by
  intro H' d K W β ζ
  have o:bS C {M with bH:=k,aK:=H',cB:=M.cB.set c w l}=bS C M:=Ef rfl rfl j
  have Q:nW C {M with bH:=k,aK:=H',cB:=M.cB.set c w l}=nW C M:=aMv rfl rfl j
  have δ:∀L,nT C _ L=nT C M L:=fun L=>by unfold nT;rw[Q]
  have O:nW C M n=1:=by rw[M9 FA,J];rfl
  have hB:=lX (C:=C) (M:=M) Y
  rw[hQ,O] at hB
  have hD:P9 C {M with bH:=k,aK:=H',cB:=M.cB.set c w l}<=P9 C M:=by
   refine cO (AF ?_)<|Lk hc v;exact nM fun i _=>R2 o _
  have hA:Mi C {M with bH:=k,aK:=H',cB:=M.cB.set c w l}<=Mi C M:=by
   refine gY fun i _=>aB9 rfl rfl rfl j (aHq hC X.bH K s) fun a q=>⟨q.pO,q.al,q.aw,q.kn,by rw[show(k.jW a.aS)=M.bH.jW a.aS by rw[Up j]];exact q.Ql,fun x t=>?_,fun x t=>?_⟩;rw[Up j];exact q.ln x FB;rw[Up j];rcases W _ x t with h|h;exact q.wt x h;grind[Fc]
  have hU:au C {M with bH:=k,aK:=H',cB:=M.cB.set c w l}+Cb M.bH g=au C M+Cb k g:=by
   refine pX (f:=Cb k) FA fun i _ hi=>?_;unfold Cb;rw[<-u];show(match bD M.bH.eI g _ i with|some r=>_|none=>_)=_;rw[Ab.bO hi];rfl
  unfold ph
  grind
 have Z:Cb M.bH g=30:=by rw[Cb];grind
 have T:k.eI g=some (r.dE n.core).gX:=by rw[<-u];exact cQ
 by_cases y:(r.dE n.core).none=true
 .rw[bA1 y] at p ⊢;have B:Cb k g=0:=by
   rw[Cb];rw[T];have:((r.dE n.core).gX).phase=2:=by
    show(if(r.dE n.core).none=true then(2:Int) else _)=2;rw[bA1 y]
   grind
  have D:∀l:Nat,oJ C M.aK n.no l=if l/2=g then iN.mf _ l else M.aK l:=fun l=>by
   have e1:n.no*2=((g*2:Nat):Int):=FA
   have e2:n.no*2+1=((g*2+1:Nat):Int):=FA
   unfold oJ jS;rw[e2,e1,bA1 FV,bA1 FV,aM,aM];dsimp only;by_cases e:l=g*2;subst e;rw[Ab.bO FA,Ab.dJ,aac];by_cases e2:l=g*2+1;subst e2;rw[Ab.dJ,aac,Ab.bO FA];rw[Ab.bO e2,Ab.bO e,aaa]
  refine E (H':=oJ C M.aK n.no) (d:=30) p (fun l x t=>?_) ?_ FA
  .rw[D] at t;split at t
   .have t:x∈(M.aK l).1.aH++[nU l]:=t;rcases cj.1 t with t|t
    .grind
    .right;rw[aV.1 t];rfl
   grind
  .have o:bS C {M with bH:=k,aK:=oJ C M.aK n.no,cB:=M.cB.set c w l}=bS C M:=Ef rfl rfl j;have h7:=aAk (g:=g) (b:=15) C.aF;have h8:(if C.aF<=g*2 then 0 else if C.aF=g*2+1 then 15 else 15+15)<=30:=FB
   have h9:Qc C {M with bH:=k,aK:=oJ C M.aK n.no,cB:=M.cB.set c w l}<=fH (fun l=>mL C M (M.aK l).1+(if l/2=g then 15 else 0)) C.aF:=gY fun l v=>by
    show mL C _ (oJ C M.aK n.no l).1<=_;unfold mL;rw[sJ o,D];by_cases e:l/2=g;rw[bA1 e,bA1 e];show gA C M ((M.aK l).1.aH++[nU l])+nO (M.aK l).1<=_;have G:Bu C M (nU l)=10:=by rw[zF<|O2<|by show(0:Int)≠6/\(0:Int)≠12/\(0:Int)≠1/\(0:Int)≠2/\(0:Int)≠9;decide];rfl
    have α:=U l v;rw[O3,G];split<;>omega;grind
   grind[lS,Qc]
 .rw[bA0 y] at p ⊢;have B:Cb k g<=30:=by rw[Cb];grind
  refine E (H':=M.aK) (d:=0) p FB ?_ FA
  have o:bS C {M with bH:=k,aK:=M.aK,cB:=M.cB.set c w l}=bS C M:=Ef rfl rfl j
  refine AF<|nM fun l _=>?_
  grind[mL,sJ]
theorem aN0 {k:jL} (h:(i:Int)<C.aB) (b:∀x,bS C M x=true->bS C ((M.eM i k).bM F) x=true) (hD:xY C M F<=xY C M M.cB)
  (y:∀j:Nat,(j:Int)<C.aB->j≠i->∀a,oC C M j a->oC C ((M.eM i k).bM F) j a) (hA:hJ C ((M.eM i k).bM F) i<=hJ C M i+f)
  (hB:nT C ((M.eM i k).bM F) (dL C F)+f+d<=nT C M (dL C M.cB)+e):ph C ((M.eM i k).bM F)+d<=ph C M+e:=by
 have s:Mi C ((M.eM i k).bM F)<=Mi C M+f:=by
  have w:=rA (f:=hJ C<|(M.eM i k).bM F) (g:=hJ C M) (k:=i) (n:=C.aB.toNat) FA fun j o p=>by
   simp_all[xK,Ab.bO,b0]
  unfold Mi;omega
 have t:P9 C _<=P9 C M:=cO (gY fun j o=>yu fun x q=>b x) hD
 have u:Qc C _<=Qc C M:=gY fun l z=>by
  unfold mL;exact BH (Mr fun x q=>b x) _
 have v:au C ((M.eM i k).bM F)=au C M:=rfl
 unfold ph
 grind
theorem jw (h:mB C M.aU M.bH (n::L)) {g:Nat} (e:(i:Int)<C.aB) (b:(g:Int)<C.aJ) (hc:n.core=(i:Int)) (l:n.kind=13) (j:n.no=(g:Int)):fB M.bH g=true:=by
 have f:=h.cd g i e;rw[rP,aac] at f;rw[fB,h.vY g b];grind[Fa]
theorem aGv {k:jL} {b:Int} (f:0<=g/\g<C.aJ) (e:b≠g):vP (k.drop C g).1 b=vP k b:=by
 grind[jL.drop,vP,jD]
theorem Vm {k:jL} (b:0<=g/\g<C.aJ):vP (k.drop C g).1 g=false:=by
 grind[jL.drop,vP,jD]
theorem Tb (h:∀x,0<=x.core->iX i x=false->bS C M x=true->bS C M' x=true):∀{l:IA},(∀x∈l,0<=x.core)->l.countP (jM C M')<=l.countP (jM C M)+l.countP (iX i)
 |[],_=>m6 _
 |x::l,g=>by
  have b:∀y∈l,0<=y.core:=FB;have o:=Tb h b;have j:(if jM C M' x=true then 1 else 0)<=(if jM C M x=true then 1 else 0)+(if iX i x=true then 1 else 0):=by
   by_cases f:iX i x=true;grind;by_cases e:jM C M' x=true;rw[bA1 e,bA1<|w7 (h x (g x c9) HT) e];omega;grind
  grind
theorem kx (h:∀x,0<=x.core->iX i x=false->bS C M x=true->bS C M' x=true):∀{l:IA},(∀x∈l,0<=x.core)->gA C M' l<=gA C M l+(26+l.length)*l.countP (iX i)
 |[],_=>m6 _
 |x::l,g=>by
  have b:∀y∈l,0<=y.core:=FB;have o:=kx h b;have f:=Tb h b;have j:Bu C M' x<=Bu C M x+(if iX i x=true then 26 else 0):=by
   cases h1:bS C M' x with
   |true=>simp_all[Y9,m6]
   |false=>
    by_cases e:iX i x=true;rw[bA1 e,zF h1];grind;grind[zF]
  unfold gA;rw[m0,hK];grind
theorem aPr (h:∀x,0<=x.core->iX i x=false->bS C M x=true->bS C M' x=true):∀{l:IA},(∀x∈l,0<=x.core)->Mc.e2 C M' l<=Mc.e2 C M l+l.countP (iX i)
 |[],_=>m6 _
 |x::l,f=>by
  have b:∀y∈l,0<=y.core:=FB;have g:=aPr h b;have e:=Tb h b;grind[Mc.e2]
theorem aV9 (e:n.kind≠6/\n.kind≠12) (h:iX i n=false->bS C M n=true->bS C M' n=true):nW C M' n<=nW C M n+(if iX i n=true then 32 else 0):=by
 cases h1:bS C M' n with
 |true=>simp_all[P4,m6]
 |false=>
  by_cases b:iX i n=true;rw[bA1 b,F8 h1,aaa];grind[Qj];simp_all[F8,bA0]
variable {p:aG->Bool}
def vD {f:Nat->Nat} {b:Nat}:∀{n:Nat},fH (fun l=>b*f l) n=b*fH f n
 |0=>rfl
 |n+1=>by
  show fH _ n+b*f n=b*(fH f n+f n);rw[vD,Nat.mul_add]
theorem w9:fH (fun c=>(F c 2).countP p) C.aB.toNat<=(dL C F).countP p:=by
 rw[dL];generalize C.aB.toNat=k;induction k with
 |zero=>exact m6 _
 |succ k b=>
  grind[fH,List.range_succ,List.flatMap_singleton,Nat.add_le_add]
variable {M2:bR} {d0 d1:Int}
theorem vc {k:jL} {x:aG} (h:pJ C k x=false):pJ C (k.drop C g).1 x=false:=by
 unfold pJ yC at*;rw[xB.2];have b:(k.drop C g).1.kJ=k.kJ\/(k.drop C g).1.kJ=true:=by
  rw[jL.drop];split;grind;grind
 grind
theorem Oh {x:aG} (b:(0<=x.core/\iX i x=false)\/yX C (M.aD i) ((M.aU i).drop C g).1 M.bH=yX C (M.aD i) (M.aU i) M.bH) (h:bS C M x=true):bS C ((M.eM i ((M.aU i).drop C g).1).bM F) x=true:=by
 rw[bS] at h ⊢;by_cases l:x.kind=6\/x.kind=12;by_cases e:x.core.toNat=i;have f:((M.eM i ((M.aU i).drop C g).1).bM F).aU x.core.toNat=((M.aU i).drop C g).1:=by rw[e];exact cQ
 rw[f,xB.2];simp_all[ep,AN,vc];grind[bM,aU,Ab.bO];rw[bA0 l] at h ⊢;split;rename_i o;rw[bA1 o] at h;simp[ep] at h ⊢;refine⟨h.1,?_⟩;by_cases e:x.core.toNat=i;have f:((M.eM i ((M.aU i).drop C g).1).bM F).aU x.core.toNat=((M.aU i).drop C g).1:=by rw[e];exact cQ
 have j:=h.2;rw[tP] at j ⊢;rcases b with⟨p,b⟩|b;exact absurd FA<|CO b;grind;grind[bM,aU,Ab.bO];grind
theorem xh {x:aG} (o:0<=g) (t:fB M.bH g=true) (p:0<=x.core) (b:x.kind=6\/x.kind=12):nW C ((M.eM i ((M.aU i).drop C g).1).bM F) x<=nW C M x:=by
 by_cases e:x.core.toNat=i;rotate_left;have f:((M.eM i ((M.aU i).drop C g).1).bM F).aU x.core.toNat=M.aU x.core.toNat:=Ab.bO e;have q:bS C ((M.eM i ((M.aU i).drop C g).1).bM F) x=bS C M x:=by
  unfold bS;rw[bA1 b,bA1 b,f]
 unfold nW;grind;have f:((M.eM i ((M.aU i).drop C g).1).bM F).aU x.core.toNat=((M.aU i).drop C g).1:=by rw[e];exact cQ
 cases h1:bS C _ x with
 |true=>rw[P4 h1];grind
 |false=>
  have l:bS C M x=false:=by
   cases h3:bS C M x with
   |false=>rfl
   |true=>
    have:=Oh (i:=i) (g:=g) (F:=F) (.inl ⟨p,cM FA⟩) h3;grind
  rw[F8 h1,F8 l,bA1 b,bA1 b,f,e];have u:((M.aU i).drop C g).1.kJ=(M.aU i).kJ:=by
   have h:=h1;rw[bS] at h;rw[bA1 b,f,xB.2] at h;rw[jL.drop] at h ⊢;split at h;grind;rename_i j;rw[bA0 j];cases hw:(M.aU i).dP with
   |false=>grind
   |true=>
    grind[pJ]
  have s:((M.aU i).drop C g).1.at'=(M.aU i).at':=by rw[jL.drop];split<;>rfl
  unfold Bi yC;simp_all[xB,b0]
def aSx (b:∀x∈L,nW C M' x<=nW C M x+(if iX i x=true then 32 else 0)):nT C M' L<=nT C M L+32*L.countP (iX i):=by
 induction L with
 |nil=>exact m6 _
 |cons x L h=>
  have f:=b x c9;have j:=h fun y g=>b y<|ca _ g;rw[hQ,hQ,m0,Nat.mul_add];split at f;rename_i e;rw[bA1 e];omega;rename_i e;omega
theorem aM3 (hC:C.Ok) (hI:dD C N M) (hR:RY C M V) (hS:Sw C M) {l:IA} (hc:(c:Int)<C.aB) (hw:w<4) (A:M.cB c w=n::l) (hk:n.kind=13) (O:(M.cZ C (c:Int) (w:Int) 0).2=0):
  ph C (M.cZ C (c:Int) (w:Int) 0).1+1<=ph C M:=by
 have ht:=tO hc hw A
 unfold bR.cZ at O ⊢
 rw[ht] at O ⊢
 dsimp only at O ⊢
 rw[bA0 FC] at O ⊢
 have Z:(dL C M.cB).Perm (n::dL C (M.cB.set c w l)):=by
  have:=oW (by rw[ht]);rw[ht] at this;exact this
 have Y:=rU hI.cB<|Z.mem_iff.2 c9
 by_cases h2:(M.cU C n).2.2≠0
 .grind
 rw[bA0 h2] at O ⊢
 by_cases H:((M.cB.set c w l).fY C (M.cU C n).2.1).2≠0
 .grind
 rw[bA0 H]
 have H:=aW.1 H
 have δ:=(fI Y.gE).2
 have⟨i,hi⟩:=aL δ.1
 have ε:n.core.toNat=i:=FA
 have I:(i:Int)<C.aB:=FA
 have et:M.cU C n=(M.eM i ((M.aU i).drop C n.no).1,[cJ 7 n.core n.no],((M.aU i).drop C n.no).2):=by
  rw[bR.cU];rw[aaa,aaa,aaa,aaa,bA1 hk,ε]
 rw[et] at H ⊢
 dsimp only at H ⊢
 have z:=Ks Y.gE<|.inr hk
 have⟨g,hg⟩:=aL z.1
 have K:fB M.bH n.no=true:=by rw[hg];exact jw (hR.gE.cH Z) I FA hi hk hg
 have⟨hF,_,_⟩:=sP H
 have E:=(gG H).1
 generalize ρ:((M.cB.set c w l).fY C _).1=F at hF E ⊢
 have pos:∀x∈dL C M.cB,0<=x.core:=fun x o=>by
  have⟨c3,w3,_,_,hx3⟩:=uP o;exact(fI (hI.cB.yI c3 w3 x hx3).1.gE).2.1
 have u:∀x∈dL C _,0<=x.core:=fun x o=>pos x<|Z.mem_iff.2<|ca _ o
 have β:∀l:Nat,l<C.aF->∀x∈(M.aK l).1.aH,0<=x.core:=fun l A x o=>((hR.rX.aI l A).jA.aH x o).2.1.1
 have J:∀j,F j 2=(M.cB.set c w l) j 2:=fun j=>by
  rw[hF];show(if j=(cJ 7 n.core n.no).core.toNat/\2=cN _ then _ else _)=_;rw[bA0 (fun e=>by have G:cN (cJ 7 n.core n.no)=1:=rfl;grind)]
 have T:=Lk (M:=M) hc A
 have θ:∀l:Nat,l<C.aF->(M.aK l).1.aH.length<=5:=fun l A=>Im (hR.rX.aI l A)<|cO (hS.sw l A) HM
 have ι:=aN8 hC hR I
 have σ:(dL C<|M.cB.set c w l).countP (iX i)<=(dL C M.cB).countP (iX i):=by
  rw[Z.countP_eq,m0];omega
 have α:=lX (C:=C) (M:=M) Z
 rw[hQ,M9 FA,hk] at α
 have hy:nW C ((M.eM i ((M.aU i).drop C n.no).1).bM F) (cJ 7 n.core n.no)=1:=by
  rw[M9<|by show(7:Int)≠6/\(7:Int)≠12/\(7:Int)≠1/\(7:Int)≠2/\(7:Int)≠9;decide];rfl
 have γ:nT C ((M.eM i ((M.aU i).drop C n.no).1).bM F) (dL C F)=1+nT C ((M.eM i ((M.aU i).drop C n.no).1).bM F) (dL C<|M.cB.set c w l):=by
  rw[lX E,sX,hQ,hy];rfl
 have Q:∀j:Nat,(j:Int)<C.aB->j≠i->∀a,oC C M j a->oC C ((M.eM i ((M.aU i).drop C n.no).1).bM F) j a:=fun j _ D a v=>Dp D v fun x o=>by
  rcases cj.1 (E.mem_iff.1 o) with o|o;rw[aV.1 o];exact Fc GS;exact v.ln x FB
 have t:∀x,0<=x.core->iX i x=false->bS C M x=true->bS C ((M.eM i ((M.aU i).drop C n.no).1).bM F) x=true:=fun x o ha=>Oh FB
 by_cases y:∀a,qX C (M.aD i)=some a->vP ((M.aU i).drop C n.no).1 a.aS=vP (M.aU i) a.aS
 .have η:yX C (M.aD i) ((M.aU i).drop C n.no).1 M.bH=yX C (M.aD i) (M.aU i) M.bH:=by
   unfold yX;cases s:qX C _ with
   |none=>rfl
   |some a=>grind
  have P:∀x,bS C M x=true->bS C ((M.eM i _).bM F) x=true:=fun x=>Oh<|.inr η
  have ek:((M.eM i _).bM F).aU i=((M.aU i).drop C n.no).1:=cQ
  refine aN0 (e:=0) (f:=0) I P (cO (AF<|nM FB) T) Q ?_ ?_
  .cases s:qX C (M.aD i) with
   |none=>
    grind[hJ]
   |some a=>
    rw[rJ s rfl rfl rfl rfl,rJ (M:=(M.eM i ((M.aU i).drop C n.no).1).bM F) (b:=fB M.bH a.aS) (q:=vP (M.aU i) a.aS) (w:=(M.aU i).dP) s rfl FB (by grind[xB]) rfl]
    refine CN ?_ _
    split
    .grind
    .refine CN ?_ _;by_cases v:tU C M i a=true
     .have G:=nC.1 v;have h8:tU C ((M.eM i _).bM F) i a=true:=nC.2 ⟨G.pO,G.al,G.aw,by rw[ek,y a s];exact G.kn,G.Ql,fun x o=>by
       rcases cj.1 (E.mem_iff.1 o) with o|o;rw[aV.1 o];exact Fc GS;exact G.ln x FB,G.wt⟩
      grind
     grind
  .have h9:nT C ((M.eM i _).bM F) _<=nT C M _:=T0 fun x o=>by
    by_cases e:x.kind=6\/x.kind=12;exact xh z.1 K (u x o) e;simp_all[yj]
   grind[Qj]
 .obtain⟨a,s,X⟩:∃a,qX C _=some a/\vP _ a.aS≠vP _ a.aS:=by
   apply gg;intro e;exact y fun a ha=>gg fun h=>e ⟨a,ha,h⟩
  have R:a.aS=n.no:=by
   apply gg;intro e;exact X<|aGv z e
  have U:vP ((M.aU i).drop C n.no).1 a.aS=false:=by rw[R];exact Vm z
  have ζ:vP (M.aU i) a.aS=true:=by
   cases h:vP _ a.aS with
   |true=>rfl
   |false=>exact absurd (U.trans h.symm) X
  have ek:((M.eM i _).bM F).aU i=((M.aU i).drop C n.no).1:=cQ
  have W:fB M.bH a.aS=true:=by rw[R];exact K
  have h5:=rJ s W ζ rfl rfl
  have h6:=rJ (M:=(M.eM i _).bM F) (q:=false) s W (by rwa [ek]) rfl rfl
  simp only[ew,aO,dd] at h5 h6
  have hA:Mi C ((M.eM i ((M.aU i).drop C n.no).1).bM F)+34<=Mi C M:=by
   have h9:=rA (f:=hJ C<|(M.eM i _).bM F) (g:=hJ C M) (k:=i) (n:=C.aB.toNat) FA fun j hj D=>by
    exact xK rfl (Ab.bO D) rfl FB fun a _ _ v=>Q j FA D a v
   have κ:mY C (((M.eM i ((M.aU i).drop C n.no).1).bM F).bT i) a.aI=mY C (M.bT i) a.aI:=rfl;unfold Mi;omega
  have hB:=aSx (C:=C) (M':=(M.eM i _).bM F) fun x o=>by
   by_cases e:x.kind=6\/x.kind=12;exact cO (xh z.1 K (u x o) e)<|EK _ _;exact aV9 FA<|t x<|u x o
  have hD:P9 C ((M.eM i ((M.aU i).drop C n.no).1).bM F)<=P9 C M+(dL C<|M.cB.set c w l).countP (iX i):=by
   have B:P9 C ((M.eM i _).bM F)<=fH _ C.aB.toNat:=gY fun j hj=>by
    show Mc.e2 C _ (F j 2)<=_;rw[J];exact aPr t fun x o=>u x<|qC FA FA o
   rw[lS] at B;have μ:=w9 (C:=C) (F:=M.cB.set c w l) (p:=iX i);have ν:fH (fun j=>Mc.e2 C M _) C.aB.toNat<=P9 C M:=T;omega
  have τ:Qc C ((M.eM i ((M.aU i).drop C n.no).1).bM F)<=Qc C M+31*fH (fun l=>(M.aK l).1.aH.countP<|iX i) C.aF:=by
   have B:Qc C ((M.eM i ((M.aU i).drop C n.no).1).bM F)<=fH (fun l=>mL C M (M.aK l).1+31*(M.aK l).1.aH.countP (iX i)) C.aF:=gY fun l A=>by
    have ξ:=kx t<|β l A;have ο:=θ l A;have π:(26+(M.aK l).1.aH.length)*(M.aK l).1.aH.countP _<=31*(M.aK l).1.aH.countP (iX i):=og _ FA;grind[mL]
   rw[lS,vD] at B;exact B
  grind[au,bM,Qj,ph]
structure Sp (C:bQ) (M M':bR):Prop where
 aD:M'.aD=M.aD
 bH:M'.bH=M.bH
 eY:M'.eY=M.eY
 kn:∀i g,vP (M'.aU i) g=vP (M.aU i) g
 cB:∀c w,(M'.cB c w).filter (jM C M')=(M.cB c w).filter (jM C M)
 jA:∀l,l<C.aF->∃w,(M'.aK l).1=(M.aK l).1.next w
 wt:∀l,l<C.aF->(M'.aK l).1.aH.filter (jM C M')=(M.aK l).1.aH.filter (jM C M)
 le:ph C M'<=ph C M
theorem Sp.refl:Sp C M M:=⟨rfl,rfl,rfl,fun _ _=>rfl,fun _ _=>rfl,fun _ _=>⟨_,rfl⟩,fun _ _=>rfl,b0 _⟩
def Sp.trans (h:Sp C M M') (b:Sp C M' M2):Sp C M M2:=
 ⟨b.aD.trans h.aD,b.bH.trans h.bH,b.eY.trans h.eY,fun i g=>(b.kn i g).trans<|h.kn i g,fun c w=>(b.cB c w).trans<|h.cB c w,fun l e=>by
  have⟨w,hw⟩:=h.jA l e;have⟨w',hw'⟩:=b.jA l e;exact⟨w',by rw[hw',hw];rfl⟩,fun l e=>(b.wt l e).trans<|h.wt l e,cO b.le h.le⟩
def Mv (C:bQ) (M M':bR):Prop:=M.eY.length<M'.eY.length\/ph C M'<ph C M\/Sp C M M'
theorem Mv.refl:Mv C M M:= .inr (.inr Sp.refl)
theorem K4 {l:IA} (h:F c w=n::l) (b:p n=false) (c' w':Nat):((F.set c w l) c' w').filter p=(F c' w').filter p:=by
 grind[eN.set]
theorem He (b:p n=false) (c' w':Nat):((F.A4 n) c' w').filter p=(F c' w').filter p:=by
 unfold eN.A4 eN.set;grind
theorem fh (e:RY C M V) (b:(i:Int)<C.aB) (h:(M.aU i).dP=false):∀x∈dL C M.cB,x.core=(i:Int)->x.kind≠6/\x.kind≠12:=fun x j g=>by
 have f:=e.gE.cw i b;grind[Zj]
theorem aHg (b:dD C N M) {x:aG} (f:x∈dL C M.cB) (e:x.core.toNat=i):x.core=(i:Int):=by
 have⟨c3,w3,_,_,hx3⟩:=uP f;have g:=(fI (b.cB.yI c3 w3 x hx3).1.gE).2;omega
theorem aN4 (hC:C.Ok) (hI:dD C N M) (hR:RY C M V) (K:(i:Int)<C.aB) (T:qX C (M.aD i)=some a) (s:vP (M.aU i) a.aS=false):Mv C M (M.Cm C i a.aS).1/\((M.aU i).dP=false->(M.cB i 0=[])->fB M.bH a.aS=false->ph C (M.Cm C i a.aS).1<ph C M):=by
 have J:0<=a.aS/\a.aS<C.aJ:=by
  have⟨Q,A,_⟩:=F7 T;have h3:=(bQ.fC hC).1;grind
 have U:(M.aU i).dP=false->(M.aU i).dK C a.aS=((M.aU i).Bz a.aS,a.aS/4,0):=fun E=>by
  rw[jL.dK,bA0 fun e=>e J,bA0<|by unfold vP at s;rw[s];simp,bA0<|by rw[E];simp]
 have hsend:(M.cB i 0=[])->(M.cB.fY C [cJ 6 (i:Int)<|a.aS/4]).2=0:=fun he=>by
  have hk:Nt.gE C (cJ 6 (i:Int)<|a.aS/4)=0:=by
   have I:=J;have γ:=hC.2.1;rw[Nt.gE];rw[bA1<|show Nj (cJ 6 (i:Int)<|a.aS/4).kind by show Nj 6;decide,bA1 hC];have hf:I8 (cJ 6 (i:Int)<|a.aS/4).kind.toNat=[1,12]:=rfl;rw[hf];have m1:C2 C 1 (Ci (cJ 6 (i:Int)<|a.aS/4) 1):=by show 0<=(i:Int)/\(i:Int)<C.aB;omega
   have m2:C2 C 12 (Ci (cJ 6 (i:Int)<|a.aS/4) 12):=by show 0<=a.aS/4/\a.aS/4<20;omega
   rw[jK];rw[bA1 m1];rw[jK];rw[bA1 m2];exact bA1 ⟨rfl,rfl⟩
  rw[eN.fY];have ζ:aU C [cJ 6 (i:Int)<|a.aS/4]=0:=by
   rw[aU];rw[bA0 FB];rfl
  have X:((M.cB (cJ 6 (i:Int)<|a.aS/4).core.toNat<|cN<|cJ 6 (i:Int)<|a.aS/4).length:Int)<C.eG:=by
   have e1:(cJ 6 (i:Int)<|a.aS/4).core.toNat=i:=aM i;have e2:cN (cJ 6 (i:Int)<|a.aS/4)=0:=rfl;rw[e1,e2,he];have:=hC.2.2.2.2.1;grind
  simp_all[eN.xN,bA1]
 unfold bR.Cm;dsimp only;by_cases Q:((M.aU i).dK C a.aS).2.2≠0;grind[Mv.refl];rw[bA0 Q];have E:(M.aU i).dP=false:=by
  cases E:(M.aU i).dP with
  |false=>rfl
  |true=>
   grind[jL.dK]
 rw[U E];dsimp only;by_cases A:(M.cB.fY C [cJ 6 (i:Int)<|a.aS/4]).2≠0;simp_all[bA1,Mv.refl,absurd];rw[bA0 A];have A:=aW.1 A;have⟨hF,_,_⟩:=sP A;have D:=(gG A).1;have η:=fh hR K E;generalize δ:(M.cB.fY C _).1=F at hF D ⊢;generalize q:(M.aU i).Bz a.aS=k;have μ:∀g,vP k g=vP (M.aU i) g:=fun g=>GU
 have kw:k.dP=true:=GU
 have kg:k.aS=a.aS:=GU
 have ka:k.at'=k.aS/4:=GU
 have ks:k.kJ=false:=GU
 show Mv C M ((M.eM i k).bM F)/\(_->_->_->ph C ((M.eM i k).bM F)<_);generalize hy:cJ 6 _ _=y at*;have yk:y.kind=6:=by rw[<-hy];rfl
 have yc:y.core.toNat=i:=by rw[<-hy];exact aM i
 have ek:((M.eM i k).bM F).aU i=k:=cQ;have t:∀j g,vP (((M.eM i k).bM F).aU j) g=vP (M.aU j) g:=fun j g=>by
  grind[bM,aU,Ab.bO]
 have β:∀x,x.core.toNat≠i\/(x.kind≠6/\x.kind≠12)->bS C ((M.eM i k).bM F) x=bS C M x:=fun x o=>by
  have ι:tP C ((M.eM i k).bM F) x.core.toNat=tP C M x.core.toNat:=by
   unfold tP yX;cases qX C _ with
   |none=>rfl
   |some b=>grind
  unfold bS;by_cases e:x.kind=6\/x.kind=12;have ej:((M.eM i k).bM F).aU x.core.toNat=M.aU x.core.toNat:=Ab.bO FB;grind;grind
 have G:∀x∈dL C M.cB,x.core.toNat≠i\/(x.kind≠6/\x.kind≠12):=fun x o=>by
  grind[aHg]
 have R:∀l:Nat,l<C.aF->∀x∈(M.aK l).1.aH,x.kind≠6/\x.kind≠12:=fun l X x o=>by
  have:=((hR.rX.aI l X).jA.aH x o).2.2;omega
 have B:∀j,F j 2=M.cB j 2:=fun j=>by
  rw[hF];show(if j=y.core.toNat/\2=cN y then _ else _)=_;have:cN y=0:=by rw[cN];rw[yk];rfl
  grind
 have H:∀{p:aG->Bool},p y=false->∀u v,(F u v).filter p=(M.cB u v).filter p:=fun hp u v=>by simp_all[He]
 have z:∀{P:bR},vP (P.aU i) a.aS=false->tU C P i a=false:=fun {P} h=>by
  cases I:tU C P i a with
  |false=>rfl
  |true=>
   have:=(nC.1 I).kn;grind
 have h7:vP (((M.eM i k).bM F).aU i) a.aS=false:=by rw[t];exact s
 have c0:=rJ T rfl s E<|z s;have c1:=rJ (M:=(M.eM i k).bM F) (w:=true) T rfl h7 FB<|z h7;have α:nT C ((M.eM i k).bM F) (dL C M.cB)<=nT C M _:=T0 fun x o=>by
  grind[bM,aU,Ab.bO,nW,yj]
 have Z:∀{b},fB M.bH a.aS=b->bS C _ y=b:=fun {b} h=>by
  rw[bS,bA1<|.inl yk,yc,ek,kg];grind[fB,pJ]
 have O:∀{d a':Nat},hJ C _ i+a'<=hJ C M i->nW C ((M.eM i k).bM F) y+d<=a'->ph C ((M.eM i k).bM F)+d<=ph C M:=fun {d a'} Q A=>by
  have:=tf (M:=M) (k:=k) (F:=F) (e:=0) (f:=0) (a:=a') (x:=0) K FB R (fun j hj x o=>by
   rw[B] at o;exact G x<|qC hj FA o) (AF<|nM FB) (fun j _ W b I=>Dp W I fun x o=>by
    rcases cj.1 (D.mem_iff.1 o) with o|o;grind[List.mem_singleton,Fc];exact I.ln x o) Q (by rw[lX D,sX,hQ];show _+0+_+0+d<=_;omega)
  omega
 cases hlk:fB M.bH a.aS with
 |true=>
  refine⟨.inr<|.inr ⟨rfl,rfl,rfl,t,fun u v=>?_,fun l _=>⟨_,rfl⟩,fun l X=>?_,?_⟩,FB⟩;rw[show(F u v).filter _=(M.cB u v).filter _ from H HI u v];refine CV fun x o=>?_;unfold jM;have Y:=hI.cB.yI u v x o;by_cases ε:(u:Int)<C.aB;by_cases κ:v<4;grind[qC];have:=xP (fI Y.1.gE).1;omega;grind;grind[List.filter_congr,jM];have:=O (d:=0) (a':=0) FB (by simp_all[P4,b0]);omega
 |false=>
  have θ:nW C ((M.eM i k).bM F) y=38:=by
   rw[F8<|Z hlk,bA1<|.inl yk,yc,ek];rw[Bi];grind
  have:=O (d:=1) (a':=40) (by
   grind) FB
  exact⟨.inr FA,FA⟩
theorem wW {fs:EV} (hC:C.Ok) (e:n.kind=(k:Int)) (g:1<=k/\k<14) (b:I8 k=fs) (f:jK C n fs (sA k)=(true,n)):Nt.gE C n=0:=by
 rw[Nt.gE,bA1<|show Nj n.kind by unfold Nj;omega,bA1 hC,e,aM,b,f];grind
theorem aS2 {k core w:Int} (hC:C.Ok) (b:k=1\/k=2) (e:0<=core/\core<C.aB) (f:0<=l/\l<C.aF) (g:0<=w/\w<=3):Nt.gE C ⟨k,core,l,w,0,0,0,false,0⟩=0:=by
 rcases b with rfl|rfl;apply wW (fs:=[1,2,3]) hC rfl FC rfl;grind[jK,C2,Ci,F6,sA,aG.zero];apply wW (fs:=[1,2,3]) hC rfl FC rfl;grind[jK,C2,Ci,F6,sA,aG.zero]
def aQy {core w:Int} (hC:C.Ok) (e:0<=core/\core<C.aB) (f:0<=l/\l<C.aF) (g:0<=w/\w<=4):Nt.gE C ⟨3,core,l,w,0,d0,d1,b,0⟩=0:=by
 apply wW (fs:=[1,2,4,8,9,10]) hC rfl FC rfl;cases b<;>simp[jK,C2,Ci,F6,sA,aG.zero,e,f,g]
theorem aOw {core:Int} (hC:C.Ok) (b:0<=core/\core<C.aB) (e:0<=l/\l<C.aF):Nt.gE C ⟨4,core,l,0,0,0,0,false,0⟩=0:=by
 apply wW (fs:=[1,2]) hC rfl FC rfl;grind[jK,C2,Ci,F6,sA,aG.zero]
theorem Ti {core:Int} (hC:C.Ok) (e:0<=core/\core<C.aB) (f:0<=l/\l<C.aF) (g:0<=s/\s<=4):Nt.gE C ⟨5,core,l,0,s,d0,d1,b,0⟩=0:=by
 apply wW (fs:=[1,2,5,8,9,10,11]) hC rfl FC rfl;cases b<;>simp[jK,C2,Ci,F6,sA,aG.zero,e,f,g]
def aOu {core a:Int} (hC:C.Ok) (b:0<=core/\core<C.aB) (e:0<=a/\a<20):Nt.gE C (cJ 6 core a)=0:=by
 apply wW (fs:=[1,12]) hC rfl FC rfl;simp[jK,C2,Ci,F6,sA,aG.zero,cJ,b,e]
def xa {core:Int} (hC:C.Ok) (b:0<=core/\core<C.aB) (e:0<=g/\g<C.aJ):Nt.gE C (cJ 7 core g)=0:=by
 apply wW (fs:=[1,13]) hC rfl FC rfl;simp[jK,C2,Ci,F6,sA,aG.zero,cJ,b,e]
theorem Sz {core w:Int} (hC:C.Ok) (b:0<=core/\core<C.aB) (e:0<=l/\l<C.aF) (f:0<=w/\w<=4) (g:s=1\/s=2\/s=4):Nt.gE C ⟨8,core,l,w,s,d0,d1,false,0⟩=0:=by
 apply wW (fs:=[1,2,4,6,8,9]) hC rfl FC rfl;grind[jK,C2,Ci,F6,sA,aG.zero]
def aG8 {k core:Int} (hC:C.Ok) (f:k=9\/k=10) (b:0<=core/\core<C.aB) (e:0<=l/\l<C.aF):Nt.gE C (mR k core l)=0:=by
 rcases f with rfl|rfl;apply wW (fs:=[1,2,11]) hC rfl FC rfl;simp[jK,C2,Ci,F6,sA,aG.zero,mR,b,e];apply wW (fs:=[1,2]) hC rfl FC rfl;simp[jK,C2,Ci,F6,sA,aG.zero,mR,b,e]
theorem aHo {core:Int} (hC:C.Ok) (b:0<=core/\core<C.aB) (e:0<=l/\l<C.aF) (f:s=0\/s=1):Nt.gE C {aG.zero with kind:=11,core:=core,aI:=l,state:=s}=0:=by
 apply wW (fs:=[1,2,7]) hC rfl FC rfl;grind[jK,C2,Ci,F6,sA,aG.zero]
def aB7 {core w a:Int} (hC:C.Ok) (b:0<=core/\core<C.aB) (e:0<=a/\a<20):Nt.gE C (nN core w a)=0:=by
 apply wW (fs:=[1,8,9,12]) hC rfl FC rfl;simp[jK,C2,Ci,F6,sA,aG.zero,nN,cJ,b,e]
def aOc {core:Int} (hC:C.Ok) (b:0<=core/\core<C.aB) (e:0<=g/\g<C.aJ):Nt.gE C (cJ 13 core g)=0:=by
 apply wW (fs:=[1,13]) hC rfl FC rfl;simp[jK,C2,Ci,F6,sA,aG.zero,cJ,b,e]
abbrev Ml (l:IA) (n:aG):Nat:=l.countP fun x=>decide<|x.core.toNat=n.core.toNat/\cN x=cN n
theorem Xw:∀{l:IA} {F:eN},(∀n∈l,((F n.core.toNat<|cN n).length:Int)+(Ml l n:Nat)<=C.eG)->∃e,eN.xN C.eG F l=some e
 |[],F,_=>⟨F,rfl⟩
 |y::l,F,h=>by
  have f:=h y c9;rw[Ml,List.countP_cons_of_pos FF] at f;rw[eN.xN,aac];refine Xw fun n g=>?_;have b:=h n<|ca _ g;rw[Ml] at b ⊢;rw[m0] at b;unfold eN.A4 eN.set;grind
theorem aJt:∀{l:IA},(∀n∈l,Nt.gE C n=0)->aU C l=0
 |[],_=>rfl
 |n::l,h=>by
  rw[aU,bA0 FB];exact aJt FB
theorem xJ {l:IA} (e:∀n∈l,Nt.gE C n=0) (b:∀n∈l,((F n.core.toNat<|cN n).length:Int)+(Ml l n:Nat)<=C.eG):(F.fY C l).2=0:=by
 have⟨F',h⟩:=Xw b;simp_all[eN.fY,bA0,aJt]
theorem S5 (b:Nt.gE C n=0) (e:((F n.core.toNat<|cN n).length:Int)<C.eG):(F.fY C [n]).2=0:=
 xJ FB FB
theorem aKt {s:jR} {b:Nat} (o:(i:Int)<C.aB) (x:∀j:Nat,(j:Int)<C.aB->j≠i->∀a,oC C M j a->oC C ((M.jX i s).bM F) j a) (hD:xY C M F<=xY C M M.cB)
  (hA:hJ C ((M.jX i s).bM F) i+b<=hJ C M i+f) (hB:nT C M (dL C F)+f+d<=nT C M (dL C M.cB)+e+b):ph C ((M.jX i s).bM F)+d<=ph C M+e:=by
 have h:bS C ((M.jX i s).bM F)=bS C M:=rD rfl rfl rfl
 have l:nW C ((M.jX i s).bM F)=nW C M:=o6 rfl rfl rfl
 have q:∀L,nT C _ L=nT C M L:=fun L=>by unfold nT;rw[l]
 have t:Mi C ((M.jX i s).bM F)+b<=Mi C M+f:=by
  have w:=rA (f:=hJ C<|(M.jX i s).bM F) (g:=hJ C M) (k:=i) (n:=C.aB.toNat) FA fun j y p=>by
   simp_all[bM,Ab.bO,xK]
  unfold Mi;omega
 have u:P9 C _<=P9 C M:=cO (AF<|nM fun i _=>R2 h _) hD
 have v:Qc C _=Qc C M:=nM fun j _=>by unfold mL;rw[sJ h]
 grind[au,bM,ph]
theorem x9 {s:jR} {w core:Int} {wr:Bool} (h:(Ct.fV C core s l w wr).2.2=0):s.pO=false/\
  ((kU C.aY.toNat C.ways.toNat s.S l=none/\Ct.fV C core s l w wr=({s with al:=l,aw:=wr,pO:=true},[⟨if wr then 2 else 1,core,l,w,0,0,0,false,0⟩],0))\/
   (∃v,kU C.aY.toNat C.ways.toNat s.S l=some v/\(bJ C.aY.toNat s.S v.1).2=0/\
    Ct.fV C core s l w wr=({s with S:=jN C.aY.toNat s.S v.1,gl:=v.1,gc:=(bJ C.aY.toNat s.S v.1).1,uH:=true,al:=l,aw:=wr,pO:=true},[⟨3,core,v.1,(bJ C.aY.toNat s.S v.1).1.w,0,(bJ C.aY.toNat s.S v.1).1.d.1,(bJ C.aY.toNat s.S v.1).1.d.2,qK (bJ C.aY.toNat s.S v.1).1.st,0⟩,⟨if wr then 2 else 1,core,l,w,0,0,0,false,0⟩],0))):=by
 rw[Ct.fV] at h ⊢
 by_cases b:vH C l=false
 .grind
 rw[bA0 b] at h ⊢
 by_cases e:s.pO=true
 .grind
 rw[bA0 e] at h ⊢
 by_cases f:s.uH=true/\s.gl=l
 .grind
 rw[bA0 f] at h ⊢
 by_cases g:(bJ C.aY.toNat s.S l).2=0/\rR (bJ C.aY.toNat s.S l).1.st wr=true
 .grind
 rw[bA0 g] at h ⊢
 refine⟨FB,?_⟩
 rw[zZ] at h ⊢
 cases hv:kU C.aY.toNat C.ways.toNat s.S l with
 |none=>exact .inl ⟨rfl,rfl⟩
 |some v=>
  rw[hv] at h
  dsimp only at h ⊢
  by_cases j:s.uH=true
  .grind
  rw[bA0 j] at h ⊢
  by_cases o:(bJ C.aY.toNat s.S v.1).2≠0
  .grind
  rw[bA0 o]
  exact .inr ⟨v,rfl,FA,rfl⟩
theorem Xu {s:jR} (h:kU C.aY.toNat C.ways.toNat s.S l=none):mY C s l=0:=by grind[mY]
theorem aCk {s:jR} {v:Th} (h:kU C.aY.toNat C.ways.toNat s.S l=some v):mY C s l=12:=by grind[mY]
theorem aB4 {s s':jR} {v:Th} (f:iJ C s) (b:kU C.aY.toNat C.ways.toNat s.S l=some v) (e:s'.S=jN C.aY.toNat s.S v.1):mY C s' l=0:=by
 apply Xu;rw[kU] at b;split at b;cases b;split at b;cases b;have g:v∈s.S (cT C.aY.toNat l):=FB
 have⟨hv0,hvs⟩:=f.pl _ v g;have h:=Qu<|xj f g;have j:=(f.aY<|cT C.aY.toNat l).len;rw[kU,e];grind
theorem aOe (hC:C.Ok) (p:RY C M V) (s:(i:Int)<C.aB) (q:(M.bT i).pO=false) {l:Nat} (u:l<C.aF):
  (∀x∈dL C M.cB,x.core=(i:Int)->x.aI=(l:Int)->x.kind≠1/\x.kind≠2/\x.kind≠8/\x.kind≠9)/\∀x∈(M.aK l).1.aH,x.core=(i:Int)->x.kind≠1/\x.kind≠2:=by
 have j:=p.rX.aI l u
 have t1:=j.t1 i FI
 have e:(rY C M.bT l i).qO=false:=by
  show((M.bT i).pO&&_)=false;rw[q];rfl
 refine⟨fun x g o b=>?_,fun x g o=>?_⟩
 .have f:∀k,x.kind=k->PK k->0<fS k i l _:=fun k t v=>gS (zH.2 ⟨g,b,FB⟩) t o b;refine⟨fun h=>?_,fun h=>?_,fun h=>?_,fun h=>?_⟩
  .have:=f 1 h FC;grind
  .have:=f 2 h FC;grind
  .have:=f 8 h FC;grind
  .have:=f 9 h FC;grind
 .have b:=(j.jA.aH x g).1;grind[gS]
def Wf (e:RY C M V) (b:(i:Int)<C.aB) (h:jD (M.aU i).bN g=some o):o=(M.bH.jW g).owner:=(e.gE.bN i b _<|Gi h).2.1
theorem Ts {w:Int} (h:yL w o=true):(0<=w/\w<=3)/\0<=o/\o<=4:=by
 grind[yL]
theorem ar (hC:C.Ok) (g:dD C N M) (f:En C M) (b:(i:Int)<C.aB) {w:Int} {wr:Bool} (q:0<=l/\l<C.aF) (j:(M.bT i).pO=false) (o:(M.bT i).uH=false)
  (p:Ct.pK C.aY.toNat (M.bT i).S l (sL M.bH l.toNat) wr=false):(Ct.fV C i (M.bT i) l w wr).2.2=0:=by
 rw[Ct.fV,bA0<|show ¬vH C l=false by unfold vH;grind,bA0 FB,bA0 FB]
 rw[bA0 (fun e=>by
  have s:=f.tc i b l.toNat FA FB;grind[Int.toNat_of_nonneg,Ct.pK])]
 rw[zZ]
 cases hv:kU C.aY.toNat C.ways.toNat _ l with
 |none=>rfl
 |some v=>
  dsimp only
  rw[bA0 FB]
  have h:(bJ C.aY.toNat (M.bT i).S v.1).2=0:=by
   rw[kU] at hv;split at hv;cases hv;split at hv;cases hv;have⟨h0,hvS⟩:=eh.1 hv;exact xj (g.Pa i b) (by rw[<-hvS];exact v7 h0)
  rw[bA0 FB]
  rfl
theorem aP7 (hC:C.Ok) (hI:dD C N M) (hR:RY C M V) (H:En C M) (o:(i:Int)<C.aB) (ha:qX C (M.aD i)=some a) (E:vP (M.aU i) a.aS=true) (A:yL (M.aD i).bA (M.bH.jW a.aS).owner=true):
  Mv C M (M.fV C i a.aI a.iS).1/\((M.bT i).pO=false->(M.bT i).uH=false->M.cB i 0=[]->2<=C.eG->fB M.bH a.aS=false->Ct.pK C.aY.toNat (M.bT i).S a.aI (M.bH.jW a.aS).owner a.iS=false->ph C (M.fV C i a.aI a.iS).1<ph C M):=by
 have⟨hl0,hl1,hw0,hw1,hacc⟩:=F7 ha
 have α:=hI.Pa i o
 have z:=(Ts A).1
 have δ:((a.aI.toNat:Nat):Int)=a.aI:=FA
 have β:((a.aI.toNat/2:Nat):Int)=a.aS:=FB
 have κ:sL M.bH a.aI.toNat=(M.bH.jW a.aS).owner:=by rw[sL];rw[β]
 have O:(M.aU i).dP=false:=by
  cases hw:(M.aU i).dP with
  |false=>rfl
  |true=>
   have⟨b,I,_,t⟩:=H.w1 i o hw;grind[vP,Option.isSome_iff_exists,Ha]
 unfold bR.fV
 dsimp only
 by_cases R:(Ct.fV C (i:Int) (M.bT i) a.aI (M.aD i).bA a.iS).2.2≠0
 .grind[Mv.refl,e2,absurd,ar]
 rw[bA0 R]
 have R:=aW.1 R
 have⟨hais,hcase⟩:=x9 R
 have⟨hno,hnow⟩:=aOe hC hR o hais (l:=a.aI.toNat) FA
 rw[δ] at hno
 have Q:tU C M i a=false:=by
  cases u:tU C M i a with
  |false=>rfl
  |true=>have:=(nC.1 u).pO;grind
 generalize U:(⟨_,_,_,_,0,0,0,_,0⟩:aG)=y at*
 have yc:y.core=(i:Int):=by rw[<-U]
 have yk:y.kind=1\/y.kind=2:=by
  grind
 have yl:y.aI=a.aI:=by rw[<-U]
 have yw:y.bA=(M.aD i).bA:=by rw[<-U]
 have ν:Nt.gE C y=0:=by
  rw[<-U];exact aS2 hC FB ⟨FA,o⟩ ⟨hl0,hl1⟩ z
 have θ:cN y=0:=by
  rw[cN];rcases yk with h|h<;>rw[h]<;>rfl
 have yK:∀{s:jR} {F:eN} {out:IA},s.pO=true->s.al=a.aI->s.aw=a.iS->(dL C F).Perm (out++dL C M.cB)->(∀x∈out,x=y\/x.kind=3)->oC C ((M.jX i s).bM F) i a:=fun {s F out} e1 e2 e3 hp ho=>by
  have ei:((M.jX i s).bM F).bT i=s:=cQ;refine⟨FB,FB,fun h=>FB,E,A,fun x q=>?_,fun x q=>?_⟩;rcases cj.1 (hp.mem_iff.1 q) with q|q;rcases ho x q with h|h;refine cM fun I=>?_;grind;grind[Fc];refine cM fun I=>?_;grind;refine cM fun I=>?_;have:=hnow x q I.1;have h0:=((hR.rX.aI a.aI.toNat FA).jA.aH x q).2.2;omega
 have others:∀{s:jR} {F:eN} {out:IA},(dL C F).Perm _->(∀x∈out,x=y\/x.kind=3)->∀j:Nat,(j:Int)<C.aB->j≠i->∀b,oC C M j b->oC C ((M.jX i s).bM F) j b:=fun {s F out} hp ho j _ γ b u=>by
  have X:((M.jX i s).bM F).bT j=M.bT j:=Ab.bO γ;refine⟨by rw[X];exact u.pO,by rw[X];exact u.al,by rw[X];exact u.aw,u.kn,u.Ql,fun x q=>?_,u.wt⟩;rcases cj.1 (hp.mem_iff.1 q) with q|q;rcases ho x q with h|h;refine cM fun I=>?_;grind;exact Fc FA;exact u.ln x q
 have c0:=rJ ha rfl E O Q
 have W:∀{s:jR} {F:eN},oC C _ i a->hJ C _ i=mY C s a.aI+34:=fun {s F} u=>by
  rw[rJ (M:=(M.jX i s).bM F) ha rfl E O<|nC.2 u];grind[bM,cQ]
 have ι:bS C M y=fB M.bH a.aS:=by
  rw[bS];rw[aaa,aac,yl,yc,aM];unfold tP yX;grind
 have yW:nW C M y=if fB M.bH a.aS then 0 else 32:=by
  cases hlk:fB M.bH a.aS with
  |true=>grind[P4]
  |false=>
   rw[F8<|ι.trans hlk,aaa];grind[Qj]
 rcases hcase with⟨T,e⟩|⟨v,T,J,e⟩
 .rw[e];dsimp only;by_cases t:(M.cB.fY C [y]).2≠0
  .grind[Mv.refl,absurd,S5]
  rw[bA0 t]
  have t:=aW.1 t
  have g:=(gG t).1
  have hE:=Io (M:=M) t FB
  have Y:[y].countP (fun x=>decide<|cN x=2/\jM C M x=true)=0:=AI.2 FB
  have⟨hF,_,_⟩:=sP t
  generalize Z:(M.cB.fY C [y]).1=F at hF g hE ⊢
  generalize w:({M.bT i with al:=a.aI,aw:=a.iS,pO:=true}:jR)=s
  have D:=yK (s:=s) HJ HJ HJ g FB
  have ζ:mY C s a.aI=0:=by rw[<-w];exact Xu T
  show Mv C M ((M.jX i s).bM F)/\(_->_->_->_->_->_->ph C ((M.jX i s).bM F)<_)
  have P:∀{d b:Nat},hJ C ((M.jX i s).bM F) i+b<=hJ C M i->nW C M y+d<=b->ph C ((M.jX i s).bM F)+d<=ph C M:=fun {d b} g1 g2=>by
   have:=aKt (M:=M) (e:=0) (f:=0) (b:=b) o (others g FB) FA g1 (by rw[lX g,sX,hQ];show _+0+_+0+d<=_;omega);omega
  cases hlk:fB M.bH a.aS with
  |true=>
   have ε:bS C ((M.jX i s).bM F)=bS C M:=rD rfl rfl rfl
   have ο:=B3 ε
   refine⟨.inr<|.inr ⟨rfl,rfl,rfl,fun _ _=>rfl,fun c' w'=>?_,fun l _=>⟨_,rfl⟩,FB,?_⟩,FB⟩
   .simp_all[He,jM]
   .have:=P (d:=0) (b:=0) FB FB;omega
  |false=>
   have:=P (d:=1) (b:=34) FB FB
   exact⟨.inr FA,FA⟩
 .rw[e];dsimp only;generalize G:(⟨3,_,v.1,_,0,_,_,_,0⟩:aG)=p at*;have pk:p.kind=3:=by rw[<-G]
  have pc:p.core=(i:Int):=by rw[<-G]
  have η:cN p=0:=by rw[cN];rw[pk];rfl
  have K:0<=v.1/\v.1<C.aF:=⟨su J,(hR.rX.Bc i FI).bd _ J⟩
  have μ:Nt.gE C p=0:=by
   rw[<-G];apply aQy hC ⟨FA,o⟩ K;have ht:=H.tc i o v.1.toNat FA FB;rw[CM K.1] at ht;rw[ht];have h3:=(bQ.fC hC).1;have h4:=hI.bH.len;exact hI.bH.jW ⟨FA,FA⟩
  by_cases t:(M.cB.fY C [p,y]).2≠0
  .rw[bA1 t];refine⟨Mv.refl,fun _ _ e3 e4 _ _=>absurd (xJ (fun x q=>?_) fun x q=>?_) t⟩
   .grind
   grind
  rw[bA0 t]
  have t:=aW.1 t
  have g:=(gG t).1
  have B:∀x∈[p,y],x=y\/x.kind=3:=FB
  have hE:=Io (M:=M) t fun x q=>FB
  have Y:[p,y].countP (fun x=>decide<|cN x=2/\jM C M x=true)=0:=AI.2 fun x q=>by
   grind
  generalize Z:(M.cB.fY C _).1=F at g hE ⊢
  generalize w:({M.bT i with S:=jN C.aY.toNat _ v.1,gl:=v.1,gc:=(bJ C.aY.toNat _ v.1).1,uH:=true,al:=a.aI,aw:=a.iS,pO:=true}:jR)=s
  have D:=yK (s:=s) HJ HJ HJ g B
  have ζ:mY C s a.aI=0:=aB4 α T HJ
  have ξ:=aCk T
  show Mv C M ((M.jX i s).bM F)/\(_->_->_->_->_->_->ph C ((M.jX i s).bM F)<_)
  have pW:nW C M p=10:=by rw[M9 FA,pk];rfl
  have:ph C ((M.jX i s).bM F)+1<=ph C M:=by
   have:=aKt (M:=M) (s:=s) (F:=F) (i:=i) (d:=1) (e:=0) (f:=0) (b:=if fB M.bH a.aS then 12 else 46) o (others g B) FA (by
     grind) (by
     rw[lX g,sX,hQ,hQ,pW,yW];show 10+(_+0)+_+0+1<=_;grind)
   omega
  exact⟨.inr FA,FA⟩
theorem aN7 {k:Mon} {a:Mc.Nk} (h:(k.call aB a).2.2=0):k.kG a.aS/\k.phase a.aS=0/\∃r,r.phase=1/\r.core=a.core/\k.call aB a=((k.oO a.aS.toNat ⟨(k.jW a.aS).owner,true⟩).dO a.aS.toNat<|some r,true,0):=by
 rw[Mon.call] at h ⊢;by_cases b:¬(0<=a.core/\a.core<aB);grind;rw[bA0 b] at h ⊢;by_cases e:¬k.kG a.aS;grind;rw[bA0 e] at h ⊢;by_cases f:k.phase a.aS≠0;grind;rw[bA0 f] at h ⊢;by_cases g:k.iC a.core=true;grind;rw[bA0 g] at h ⊢;by_cases j:(jP a.call a.bA (k.jW a.aS).owner a.to).2.2≠0;grind;rw[bA0 j];exact⟨FB,FA,_,rfl,rfl,rfl⟩
theorem y2:nT C M (sC aB g)=2*aB.toNat/\up2 C M (sC aB g)=0:=by
 rw[sC];have:∀l:EW,nT C M (l.map fun i:Nat=>cJ 13 i g)=2*l.length/\up2 C M (l.map fun i:Nat=>cJ 13 i g)=0:=by
  intro l;induction l with
  |nil=>exact⟨rfl,rfl⟩
  |cons x l b=>
   rw[kd,hQ,b.1];have e:nW C M (cJ 13 (x:Int) g)=2:=by
    rw[M9<|by show(13:Int)≠6/\(13:Int)≠12/\(13:Int)≠1/\(13:Int)≠2/\(13:Int)≠9;decide];rfl
   refine⟨FG,?_⟩;show List.countP _ _=0;exact b.2
 grind
theorem zN {x:aG} (h:x∈sC aB g):∃i:Nat,(i:Int)<aB/\x=cJ 13 i g:=by
 grind[sC]
theorem od:Ml (sC aB g) (cJ 13 (i:Int) g)<=1:=by
 unfold Ml sC;rw[List.countP_map];have:∀n,(List.range n).countP ((fun x=>decide<|x.core.toNat=(cJ 13 (i:Int) g).core.toNat/\cN x=cN (cJ 13 (i:Int) g))∘fun j:Nat=>cJ 13 (j:Int) g)<=if i<n then 1 else 0:=by
  intro n;induction n with
  |zero=>grind
  |succ n o=>
   rw[dx,u3];by_cases e:n=i;grind;have f:List.countP ((fun x=>decide<|x.core.toNat=(cJ 13 (i:Int) g).core.toNat/\cN x=cN (cJ 13 (i:Int) g))∘fun j:Nat=>cJ 13 (j:Int) g) [n]=0:=by
    refine AI.2 fun x b=>?_;rw[aV.1 b];intro h;have l:(n:Int).toNat=(i:Int).toNat:=(cP h).1;omega
   grind
 grind
theorem Ly {v code:Int} (h:(aT.bL (M.aD i) i v code).2.2=0):M.eY.length<(M.bL i v code).1.eY.length:=by
 unfold bR.bL;grind
theorem x7 (hC:C.Ok) (E:dD C N M) (hR:RY C M V) (Z:(i:Int)<C.aB) {ak:Mc.Nk} (t:aT.xR (M.aD i) i=some ak) (γ:M.bH.iC i=false):
  Mv C M (M.call C i ak).1/\((∀j,M.cB j 3=[])->M.eY.length<(M.call C i ak).1.eY.length\/ph C (M.call C i ak).1<ph C M):=by
 have X:ak.core=i:=by obtain⟨x,_,_,rfl⟩:=Zo t;rfl
 have P:=E.bH.len
 have J:=hC.2.1
 have u:iY C (M.bH.call C.aB ak).1:=fy E.bH
 unfold bR.call
 dsimp only
 by_cases A:(M.bH.call C.aB ak).2.2≠0
 .rw[bA1 A];have:=Ly (v:=0) (code:=(M.bH.call C.aB ak).2.2)<|zb t;exact⟨.inl this,FA⟩
 rw[bA0 A]
 have A:=aW.1 A
 have⟨hhas,hph0,rr,hr1,hrc,e⟩:=aN7 A
 have⟨g,hg⟩:=aL hhas.1
 have Y:(g:Int)<C.aJ:=by have:=hhas.2;omega
 rw[hg,aM] at e
 rw[hg] at hph0 hhas
 by_cases w:(M.cB.fY C<|sC C.aB ak.aS).2≠0
 .rw[bA1 w];refine⟨Mv.refl,fun hl=>absurd (xJ (fun x q=>?_) fun x q=>?_) w⟩
  .obtain⟨j,z,rfl⟩:=zN q;exact aOc hC ⟨FA,z⟩ FA
  .obtain⟨j,z,rfl⟩:=zN q;have:cN (cJ 13 (j:Int) ak.aS)=3:=rfl;have R:=od (aB:=C.aB) (g:=ak.aS) (i:=j);have:=hC.2.2.2.2.1;grind
 rw[bA0 w]
 have w:=aW.1 w
 rw[e] at u ⊢
 dsimp only at u ⊢
 have y:=(gG w).1
 have hE:=Io (M:=M) w fun x q=>by obtain⟨j,_,rfl⟩:=zN q;show(13:Int)≠12;decide
 have I:(sC C.aB ak.aS).countP (fun x=>decide<|cN x=2/\jM C M x=true)=0:=y2.2
 rw[I] at hE
 generalize hF:(M.cB.fY C _).1=F at y hE ⊢
 have hn:=wu E hph0
 generalize K:(M.bH.oO g _).dO g _=k at*
 suffices h:ph C ((M.bM F).jH k)+1<=ph C M from⟨.inr FA,FA⟩
 have s:∀x:Int,(k.jW x).owner=(M.bH.jW x).owner/\((M.bH.jW x).kM=true->(k.jW x).kM=true):=fun x=>by
  grind[Mon.jW,Mon.oO,Mon.dO]
 have ε:∀x:Int,fB M.bH x=true->fB k x=true:=fun x=>(s x).2
 have D:∀x,k.eI x=if x=g then some rr else M.bH.eI x:=fun x=>by
  rw[<-K];show bD M.bH.eI g _ x=_;rfl
 have B:∀x,rc k x=if x=g then some (i:Int) else rc M.bH x:=fun x=>by
  unfold rc;grind
 have G:∀j:Int,M.bH.iC j=true->k.iC j=true:=fun j z=>by
  have⟨g0,h0⟩:=(wX hC E.bH).1 z;refine(wX hC u).2 ⟨g0,?_⟩;rw[B,bA0];exact h0;grind[rc]
 have δ:=(wX hC u).2 ⟨g,by rw[B,bA1 rfl]⟩
 have Q:∀j:Nat,tP C M j=true->tP C ((M.bM F).jH k) j=true:=fun j=>by
  unfold tP yX;grind
 have p:∀x,bS C M x=true->bS C ((M.bM F).jH k) x=true:=fun x=>by
  grind[bS]
 have hB:nT C _ (dL C M.cB)<=nT C M _:=T0 fun x q=>by
  by_cases ek:x.kind=6\/x.kind=12;cases hs:bS C M x with
  |true=>rw[P4<|p x hs];grind
  |false=>
   cases hs':bS C _ x with
   |true=>rw[P4 hs'];grind
   |false=>simp_all[F8,bA1,b0]
  simp_all[yj]
 have U:nT C ((M.bM F).jH k) (dL C F)<=nT C M (dL C M.cB)+8:=by
  rw[lX y,sX,y2.1];have:=hC.1;omega
 have hD:P9 C _<=P9 C M:=cO (gY fun j _=>yu fun x _=>p x) hE
 have W:Qc C _<=Qc C M:=gY fun l _=>by
  unfold mL;exact BH (Mr fun x _=>p x) _
 have hU:au C ((M.bM F).jH k)=au C M+30:=by
  have:=pX (f:=Cb k) (g:=Cb M.bH) (k:=g) (n:=C.aJ.toNat) FA fun j _ z=>by
   unfold Cb;rw[D,bA0 z]
  have H:Cb k g=30:=by rw[Cb];grind
  have e2:Cb M.bH g=0:=by rw[Cb];rw[hn]
  rw[H,e2] at this;exact this
 have hA:Mi C ((M.bM F).jH k)+40<=Mi C M:=by
  have T:=rA (f:=hJ C<|(M.bM F).jH k) (g:=hJ C M) (k:=i) (n:=C.aB.toNat) FA fun j _ α=>by
   unfold hJ;cases hb:qX C _ with
   |none=>
    grind
   |some b=>
    dsimp only;by_cases R:fB M.bH b.aS=true;grind;by_cases h4:fB k b.aS=true;grind;have O:tU C M j b=true->tU C ((M.bM F).jH k) j b=true:=fun O=>by
     have o:=nC.1 O;refine nC.2 ⟨o.pO,o.al,o.aw,o.kn,by rw[show(((M.bM F).jH k).bH.jW b.aS).owner=_ from(s b.aS).1];exact o.Ql,fun x q=>?_,fun x q=>?_⟩;rw[show(((M.bM F).jH k).bH.jW b.aS).owner=_ from(s b.aS).1];rcases cj.1 (y.mem_iff.1 q) with q|q;obtain⟨j2,_,rfl⟩:=zN q;exact Fc (by show(13:Int)≠9/\(13:Int)≠1/\(13:Int)≠2;decide);exact o.ln x q;rw[show(((M.bM F).jH k).bH.jW b.aS).owner=_ from(s b.aS).1];exact o.wt x q
    grind
  have β:qX C (M.aD i)=none:=by rw[qX];rw[Rb t]
  have H:hJ C M i=40:=by
   rw[hJ];grind
  have e2:hJ C ((M.bM F).jH k) i=0:=by
   rw[hJ];grind
  rw[H,e2] at T;unfold Mi;omega
 unfold ph
 grind
def pz (C:bQ) (M M':bR):Prop:=M.eY.length<M'.eY.length\/ph C M'<ph C M
def pz.mv (h:pz C M M'):Mv C M M':=by
 rcases h with h|h;exact .inl h;exact .inr<|.inl h
structure aRa (C:bQ) (M:bR) (i:Nat):Prop where
 dP:(M.aU i).dP=false
 pO:(M.bT i).pO=false
 uH:(M.bT i).uH=false
 l0:M.cB i 0=[]
 l3:∀j,M.cB j 3=[]
 dep:2<=C.eG
 lk:∀g,0<=g->g<C.aJ->fB M.bH g=false
 wd:0<=(M.aD i).bA/\(M.aD i).bA<=3
theorem Xx (hC:C.Ok) (w:dD C N M) (q:RY C M V) (p:En C M) (h:(i:Int)<C.aB) (b:aT.iI (M.aD i)=some a):
  Mv C M (M.fF C i a).1/\(aRa C M i->pz C M (M.fF C i a).1):=by
 rw[bR.fF]
 by_cases l:0<=a.dF/\a.dF<C.aF*2
 rotate_left
 .rw[bA1 l];have:=Ly (v:=0)<|K3 b<|.inr rfl;exact⟨.inl this,fun _=> .inl this⟩
 rw[aaa]
 have s:qX C (M.aD i)=some a:=by rw[qX];rw[b];exact bA1 l
 have g:0<=a.aS/\a.aS<C.aJ:=by
  have⟨h1,h2,_⟩:=F7 s;have z:=(bQ.fC hC).1;grind
 dsimp only
 show Mv C M (if((M.aU i).uB C _ a.aS).2≠0 then(M,((M.aU i).uB C _ a.aS).2)
  else if((M.aU i).uB C _ a.aS).1=3 then M.Cm C i a.aS
  else if((M.aU i).uB C _ a.aS).1=2 then M.bL i 0 19
  else if Ct.pK C.aY.toNat _ a.aI (M.bN i a.aS) a.iS=false then M.fV C i a.aI a.iS
  else M.jY C i a.aI _ (M.bN i a.aS) a).1/\(_->pz C M (if((M.aU i).uB C _ a.aS).2≠0 then(M,((M.aU i).uB C _ a.aS).2)
  else if((M.aU i).uB C _ a.aS).1=3 then M.Cm C i a.aS
  else if((M.aU i).uB C _ a.aS).1=2 then M.bL i 0 19
  else if Ct.pK C.aY.toNat _ a.aI (M.bN i a.aS) a.iS=false then M.fV C i a.aI a.iS
  else M.jY C i a.aI _ (M.bN i a.aS) a).1)
 by_cases j:0<=(M.aD i).bA/\(M.aD i).bA<=3
 rotate_left
 .have e:(M.aU i).uB C (M.aD i).bA a.aS=(0,10):=by rw[jL.uB];rw[aaa]
  rw[e,aac]
  exact⟨Mv.refl,fun f=>absurd f.wd j⟩
 cases hkn:jD _ a.aS with
 |none=>
  have e:(M.aU i).uB C (M.aD i).bA a.aS=(3,0):=by rw[jL.uB];rw[bA1 ⟨g,j⟩,hkn]
  rw[e,bA0 FC,bA1 rfl]
  have⟨h1,h2⟩:=aN4 hC w q h s (by rw[vP];rw[hkn];rfl)
  exact⟨h1,fun f=> .inr (h2 f.dP f.l0<|f.lk _ g.1 g.2)⟩
 |some o=>
  have y:=Wf q h hkn
  have t:M.bN i a.aS=(M.bH.jW a.aS).owner:=by rw[bR.bN];rw[hkn,<-y];rfl
  by_cases x:yL (M.aD i).bA o=true
  rotate_left
  .have e:(M.aU i).uB C (M.aD i).bA a.aS=(2,0):=by rw[jL.uB];grind
   rw[e,bA0 FC,bA0 FC,bA1 rfl]
   have:=Ly (v:=0)<|K3 b<|.inr rfl
   exact⟨.inl this,fun _=> .inl this⟩
  have e:(M.aU i).uB C (M.aD i).bA a.aS=(1,0):=by rw[jL.uB];grind
  rw[e,bA0 FC,bA0 FC,bA0 FC,t]
  split
  .rename_i u;have⟨h1,h2⟩:=aP7 hC w q p h s (by rw[vP];rw[hkn];rfl) FB;exact⟨h1,fun f=> .inr (h2 f.pO f.uH f.l0 f.dep (f.lk _ g.1 g.2) u)⟩
  .unfold bR.jY;have:=Ly (M:=M.jX i<|if a.iS=true then mU C (if a.Fz=true then pH C (M.bT i) a.aI (a.dF % 2) (M.bH.jW a.aS).owner else M.bT i) a.aI (a.dF % 2) (M.bH.jW a.aS).owner a.value else(if a.Fz=true then pH C (M.bT i) a.aI (a.dF % 2) (M.bH.jW a.aS).owner else M.bT i)) (v:=if a.Fz=true then Ip C (M.bT i) a.aI (a.dF % 2) else 0)<|K3 b<|.inl rfl;exact⟨.inl this,fun _=> .inl this⟩
theorem aDz (q:dD C N M) (g:(i:Int)<C.aB) (s:(M.aD i).over=false) (l:aT.mM (M.aD i) i=none) (p:aT.xR (M.aD i) i=none):∃a,aT.iI (M.aD i)=some a:=by
 have j:=q.B1 i g;have h:aT.kQ (M.aD i)=some (mX (M.aD i).prog (M.aD i).at'):=by rw[aT.kQ];rw[bA0 FB]
 have f:G2 (M.aD i).prog (M.aD i).at'=false:=by rw[<-j.2.2.1];exact s
 have t:=(R3<|j.2.2.2.2 _<|De j.1<|Ds f).1;have o:(mX (M.aD i).prog (M.aD i).at').op≠11:=by
  rw[G2] at f;grind
 generalize mX _ _=x at*;rw[aT.mM,h] at l;rw[aT.xR,h] at p;rw[aT.iI,h];have b:x.op=3\/x.op=4\/x.op=5:=by
  apply gg;intro e;have:x.op=1\/x.op=2\/x.op=6\/x.op=7\/x.op=8\/x.op=9\/x.op=10:=FA
  rcases this with k|k|k|k|k|k|k;grind;grind;grind;grind;grind;grind;grind
 exact⟨_,bA1<|cL b⟩
theorem Yw (hC:C.Ok) (g:dD C N M) (h:RY C M V) (f:En C M):Mv C M (M.step C A).1:=by
 rw[bR.step];by_cases b:0<=A/\A<C.aB;rotate_left;simp_all[bA1,Mv.refl];rw[bA0 fun e=>e b];dsimp only;obtain⟨i,rfl⟩:=aL b.1;split;exact Mv.refl;split;exact Mv.refl;split;refine .inl ?_;grind;grind[x7,bR.aH,Xx,Mv.refl]
theorem aM2 (hC:C.Ok) (f:dD C N M) (g:RY C M V) (e:En C M) (b:(i:Int)<C.aB) (h:aRa C M i) (l:(M.aD i).over=false) (j:M.bH.iC (i:Int)=false):pz C M (M.step C (i:Int)).1:=by
 rw[bR.step,aaa];rw[aM,bA0 FB,bA0<|by grind[bR.aH]];cases h1:aT.mM _ i with
 |some r=>
  refine .inl ?_;grind
 |none=>
  cases h2:aT.xR _ i with
  |some a=>exact(x7 hC f g b h2 j).2 h.l3
  |none=>
   grind[aDz,Xx]
structure K7 (C:bQ) (M:bR) (c w:Nat) (n:aG) (l:IA):Prop where
 e:(M.cZ C (c:Int) (w:Int) 0)=((M.cU C n).1.bM ((M.cB.set c w l).fY C (M.cU C n).2.1).1,0)
 t0:(M.cU C n).2.2=0
 s0:((M.cB.set c w l).fY C (M.cU C n).2.1).2=0
 core:n.core.toNat=c
 aU2:cN n=w
 gE:Nt.gE C n=0
 cH:(dL C M.cB).Perm (n::dL C (M.cB.set c w l))
theorem M7 (e:dD C N M) {l:IA} (g:M.cB c w=n::l):n.core=(c:Int)/\cN n=w/\Nt.gE C n=0:=by
 have b:=e.cB.yI c w n FB;have f:=(fI b.1.gE).2;exact⟨FB,b.2.2,b.1.gE⟩
theorem Wj {l:IA} (hc:(c:Int)<C.aB) (e:w<4) (b:M.cB c w=n::l):(dL C M.cB).Perm (n::dL C (M.cB.set c w l)):=by
 have f:=tO hc e b;grind[oW]
theorem Kc (f:dD C N M) {l:IA} (hc:(c:Int)<C.aB) (e:w<4) (b:M.cB c w=n::l):
  ((M.cZ C (c:Int) (w:Int) 0).2≠0/\(M.cZ C (c:Int) (w:Int) 0).1=M/\((M.cU C n).2.2≠0\/((M.cB.set c w l).fY C (M.cU C n).2.1).2≠0))\/K7 C M c w n l:=by
 have h:=tO hc e b
 have⟨h1,h2,h3⟩:=M7 f b
 by_cases g:(M.cU C n).2.2≠0
 .grind[bR.cZ]
 by_cases e2:((M.cB.set c w l).fY C (M.cU C n).2.1).2≠0
 .grind[bR.cZ]
 .right;refine⟨?_,FA,FA,FA,h2,h3,Wj hc e b⟩;grind[bR.cZ]
theorem Xc {k:jL} (o:∀g,vP k g=vP (M.aU i) g) {x:aG} (p:x.core.toNat≠i\/(x.kind≠6/\x.kind≠12)):bS C ((M.eM i k).bM F) x=bS C M x:=by
 have f:∀j g,vP (((M.eM i k).bM F).aU j) g=vP (M.aU j) g:=fun j g=>by
  grind[bM,aU,cQ,Ab.bO]
 have h:tP C ((M.eM i k).bM F) x.core.toNat=tP C M x.core.toNat:=by
  unfold tP yX;cases qX C _ with
  |none=>rfl
  |some b=>grind
 unfold bS;by_cases e:x.kind=6\/x.kind=12;have l:((M.eM i k).bM F).aU x.core.toNat=M.aU x.core.toNat:=Ab.bO FB;grind;grind
theorem aN5 {k:jL} (b:∀g,vP k g=vP (M.aU i) g):∀j g,vP (((M.eM i k).bM F).aU j) g=vP (M.aU j) g:=fun j g=>by
 grind[bM,aU,cQ,Ab.bO]
theorem zu (h:jM C M n=false):bS C M n=true:=HI
theorem I5 (h:bS C M n=true):n.kind=6\/n.kind=12\/n.kind=1\/n.kind=2\/n.kind=9:=by
 grind[O2]
theorem aSf (p:dD C N M) {l:IA} (o:M.cB c w=n::l) (q:n.kind=1\/n.kind=2) (s:bS C M n=true) (f:K7 C M c w n l) (hle:ph C (M.cZ C (c:Int) (w:Int) 0).1<=ph C M):Sp C M (M.cZ C (c:Int) (w:Int) 0).1:=by
 have j:M.cU C n=(M.mI<|bD M.aK n.aI.toNat ((M.aK n.aI.toNat).1.lF n,(M.aK n.aI.toNat).2),[],0):=by
  rw[bR.cU];rw[aac];have:eW C M.aK n=(bD M.aK n.aI.toNat ((M.aK n.aI.toNat).1.lF n,(M.aK n.aI.toNat).2),[],0):=by
   rw[eW];rw[bA0<|by grind[Go.Hm.cU],bA1 ⟨(fI f.gE).2,mi f.gE FA⟩];have:iN.take (M.aK n.aI.toNat) n.aI n=(((M.aK n.aI.toNat).1.lF n,(M.aK n.aI.toNat).2),[],0):=by
    rw[iN.take];rw[aaa,aaa]
   rw[this]
  rw[this]
 rw[f.e,j] at hle ⊢;have b:bS C ((M.mI<|bD M.aK n.aI.toNat ((M.aK n.aI.toNat).1.lF n,(M.aK n.aI.toNat).2)).bM ((M.cB.set c w l).fY C []).1)=bS C M:=rD rfl rfl rfl;refine⟨rfl,rfl,rfl,fun _ _=>rfl,fun h g=>?_,fun k _=>?_,fun k _=>?_,hle⟩;rw[B3 b];exact K4 o HI h g;show∃g,(bD M.aK n.aI.toNat _ k).1=_;by_cases e:k=n.aI.toNat;subst e;rw[cQ];exact⟨_,rfl⟩;rw[Ab.bO e];exact⟨_,rfl⟩;rw[B3 b];show List.filter _ (bD M.aK n.aI.toNat _ k).1.aH=_;by_cases e:k=n.aI.toNat;subst e;rw[cQ];show List.filter _ ((M.aK n.aI.toNat).1.aH++[n])=_;grind[List.filter_cons_of_neg,jM];grind[Ab.bO]
theorem aOz {l:IA} (o:M.cB c w=n::l) (j:n.kind=9) (q:bS C M n=true) (h:K7 C M c w n l) (hle:ph C (M.cZ C (c:Int) (w:Int) 0).1<=ph C M):Sp C M (M.cZ C (c:Int) (w:Int) 0).1:=by
 obtain⟨s,e,g⟩:∃s e,M.cU C n=(M.jX n.core.toNat s,[],e):=by
  rw[bR.cU,aaa,aac];rw[fP,aaa,bA1 j];split;grind;rw[Bh];split;grind;split<;>exact⟨_,_,rfl⟩
 rw[h.e,g] at hle ⊢;have b:bS C ((M.jX n.core.toNat s).bM ((M.cB.set c w l).fY C []).1)=bS C M:=rD rfl rfl rfl;refine⟨rfl,rfl,rfl,fun _ _=>rfl,fun f p=>?_,fun k _=>⟨_,rfl⟩,fun k _=>by rw[B3 b],hle⟩;rw[B3 b];exact K4 o HI f p
theorem aLn (hC:C.Ok) (o:dD C N M) (t:RY C M V) {l:IA} (hc:(c:Int)<C.aB) (u:M.cB c w=n::l) (p:n.kind=6) (x:bS C M n=true) (f:K7 C M c w n l) (hle:ph C (M.cZ C (c:Int) (w:Int) 0).1<=ph C M):Sp C M (M.cZ C (c:Int) (w:Int) 0).1:=by
 have g:=(M7 o u).1;have s:M.cU C n=(M,[nN n.core (kA M.bH.eQ n.no).1 n.no],(kA M.bH.eQ n.no).2):=by
  rw[bR.cU];rw[aaa,aaa,bA1 p]
 have v:=j8 hC o t hc g p f.cH;have e:=f.s0;rw[f.e] at hle ⊢;rw[s] at hle e ⊢;generalize q:nN n.core _ n.no=y at*;have j:y.core=n.core:=GU
 have h:fB M.bH (M.aU c).aS=true:=by
  rw[bS] at x;grind
 have z:bS C M y=true:=by
  rw[bS];rw[bA1<|.inr GU,j,f.core,h];rw[pJ];cases h1:(yC C _ y).2.2.1 with
  |false=>simp
  |true=>grind
 have⟨hF,_,_⟩:=sP e;generalize((M.cB.set c w l).fY C [y]).1=F at hF hle ⊢;have b:bS C (M.bM F)=bS C M:=rD rfl rfl rfl;refine⟨rfl,rfl,rfl,fun _ _=>rfl,fun A B=>?_,fun k _=>⟨_,rfl⟩,fun k _=>by rw[B3 b],hle⟩;rw[B3 b];simp_all[He,jM,K4]
theorem aCc (hC:C.Ok) (O:dD C N M) (P:RY C M V) {l:IA} (hc:(c:Int)<C.aB) (E:M.cB c w=n::l) (Q:n.kind=12) (hs:bS C M n=true) (t:K7 C M c w n l) (hle:ph C (M.cZ C (c:Int) (w:Int) 0).1<=ph C M):Sp C M (M.cZ C (c:Int) (w:Int) 0).1:=by
 have B:=(M7 O E).1;have U:M.cU C n=(M.eM c ((M.aU c).eU C n.no n.d0).1,if((M.aU c).eU C n.no n.d0).2.2.1 then [] else [cJ 6 n.core ((M.aU c).eU C n.no n.d0).2.1],((M.aU c).eU C n.no n.d0).2.2.2):=by
  rw[bR.cU];rw[aaa,aaa,aaa,bA1 Q,t.core]
 have s:=t.t0;have b:=t.s0;rw[t.e] at hle ⊢;rw[U] at hle b s ⊢;dsimp only at hle b s ⊢;have A:=P.gE.cH t.cH;have I:=Ra A hc B<|.inr Q;have H:fB M.bH (M.aU c).aS=true/\pJ C (M.aU c) n=false:=by
  rw[bS] at hs;grind
 have goes:∀(k:jL) (g:Int),k.bN=(M.aU c).bN->k.aS=(M.aU c).aS->((M.cB.set c w l).fY C [cJ 6 n.core g]).2=0->ph C ((M.eM c k).bM ((M.cB.set c w l).fY C [cJ 6 n.core g]).1)<=ph C M->Sp C M ((M.eM c k).bM ((M.cB.set c w l).fY C [cJ 6 n.core g]).1):=by
  intro k g T e2 W X;have u:∀z,vP k z=vP (M.aU c) z:=fun z=>by unfold vP;rw[T]
  have⟨hF,_,_⟩:=sP W;have K:((M.eM c k).bM ((M.cB.set c w l).fY C [cJ 6 n.core g]).1).aU c=k:=cQ;have J:bS C ((M.eM c k).bM ((M.cB.set c w l).fY C [cJ 6 n.core g]).1) (cJ 6 n.core g)=true:=by
   rw[bS];rw[bA1<|.inl rfl,show(cJ 6 n.core g).core.toNat=c from t.core,K,e2];show(fB M.bH _&&_)=true;rw[H.1];rw[pJ];rw[cM<|by show ¬(6:Int)=12;decide];rfl
  have o:=X;generalize((M.cB.set c w l).fY C _).1=F at hF J o K ⊢;have G:∀f j,∀x∈(M.cB.set c w l) f j,x.core.toNat≠c\/(x.kind≠6/\x.kind≠12):=fun f j x y=>by
   have h:=O.cB.yI f j x<|z7 E y;by_cases e:x.core.toNat=c;right;exact I x (qC FA (by rw[<-h.2.2];exact xP (fI h.1.gE).1) y) (by have:=(fI h.1.gE).2;omega);grind
  refine⟨rfl,rfl,rfl,aN5 u,fun f j=>?_,fun k _=>⟨_,rfl⟩,fun k D=>?_,o⟩;have Y:(F f j).filter (jM C<|(M.eM c k).bM F)=((M.cB.set c w l) f j).filter (jM C<|(M.eM c k).bM F):=by
   have:∀p:aG->Bool,p _=false->(F f j).filter p=((M.cB.set c w l) f j).filter p:=fun p Z=>by rw[hF,He Z]
   exact this _ HI
  rw[Y,<-K4 E HI f j];grind[List.filter_congr,jM,Xc];refine CV fun x y=>?_;unfold jM;rw[Xc u<|.inr<|by have:=((P.rX.aI _ D).jA.aH x y).2.2;omega]
 have⟨hwk,h,hcase⟩:=Ns s;rcases hcase with⟨q,e⟩|⟨q,R,v,e⟩|⟨q,R,e⟩|⟨q,R,v,e⟩;rw[e] at b hle ⊢;exact goes _ _ rfl rfl b hle;rw[e] at b hle ⊢;exact goes _ _ rfl rfl b hle;rw[e] at b hle ⊢;exact goes _ _ rfl rfl b hle;grind[pJ,decide_eq_true]
theorem aKg (z:RY C M V) {w:IA} (l:k<C.aF) (t:(M.aK k).1.aH=n::w) (s:bS C M n=true) (h:(M.dK C (k:Int)).2=0) (hle:ph C (M.dK C (k:Int)).1<=ph C M):Sp C M (M.dK C (k:Int)).1:=by
 have⟨hnl,hnc,hnk⟩:=(z.rX.aI k l).jA.aH n FB;have f:n.kind=1\/n.kind=2:=by have:=I5 s;omega
 have b:C.kG (k:Int):=⟨FA,FA⟩;have o:fB M.bH ((k:Int)/2)=true/\tP C M n.core.toNat=true:=by
  rw[bS] at s;grind
 have B:(M.gC C (k:Int) n.bA).2=false:=by
  rw[bR.gC];rw[bA1 b];show(!fB M.bH _&&_)=false;rw[o.1];rfl
 unfold bR.dK at h hle ⊢;by_cases y:(eO C M.aK (k:Int)<|M.gC C (k:Int)).2.2≠0;grind;rw[bA0 y] at h hle ⊢;have e:eO C M.aK (k:Int) (M.gC C (k:Int))=(bD M.aK k (iN.dK (M.aK k) (k:Int)<|M.gC C (k:Int)).1,(iN.dK (M.aK k) (k:Int)<|M.gC C (k:Int)).2):=by
  rw[eO];rw[bA1 b];rfl
 have A:(M.aK k).1.busy=false:=by
  cases A:(M.aK k).1.busy with
  |false=>rfl
  |true=>grind[iN.dK]
 have x:iN.dK (M.aK k) (k:Int) (M.gC C (k:Int))=(((M.aK k).1.next w,(M.aK k).2),[mR 9 n.core (k:Int)],0):=by
  rw[iN.dK];rw[bA0 FB,t];dsimp only;rw[bP.eX];rw[aaa,bA1 f,bA0 FB]
 rw[x] at e;rw[e] at h hle ⊢;by_cases q:(M.cB.fY C [mR 9 n.core (k:Int)]).2≠0;grind;rw[bA0 q] at hle ⊢;have⟨hF,_,_⟩:=sP<|aW.1 q;generalize(M.cB.fY C _).1=F at hF hle ⊢;have p:bS C ((M.bM F).mI<|bD M.aK k ((M.aK k).1.next w,(M.aK k).2))=bS C M:=rD rfl rfl rfl;refine⟨rfl,rfl,rfl,fun _ _=>rfl,fun v u=>?_,fun j _=>?_,fun j _=>?_,hle⟩;rw[hF];refine He ?_ v u;unfold jM bS;show(!(fB M.bH ((k:Int)/2)&&tP C M n.core.toNat))=false;grind;show∃u,(bD M.aK k _ j).1=_;by_cases g:j=k;grind[cQ];rw[Ab.bO g];exact⟨_,rfl⟩;rw[B3 p];show List.filter _ (bD M.aK k _ j).1.aH=_;by_cases g:j=k;subst g;rw[cQ,t];show List.filter _ w=_;grind[List.filter_cons_of_neg,jM];grind[Ab.bO]
variable {S:Nat->aT}
theorem fk (hC:C.Ok) (b:dD C N M) (e:Dc M) (f:aT.iI (M.aD i)=some a):M.bH.iC (i:Int)=false:=by
 cases h:M.bH.iC (i:Int) with
 |false=>rfl
 |true=>
  have⟨g,hg⟩:=(wX hC b.bH).1 h;have⟨x,hx,h8⟩:=e.op g _ hg;simp_all[aT.iI,bA0,Jb]
theorem aE1 (hC:C.Ok) (j:dD C N M) (p:Dc M) (l:RY C M V) (f:(i:Int)<C.aB) (q:qX C (M.aD i)=some a) (s:vP (M.aU i) a.aS=true) (u:yL (M.aD i).bA (M.bH.jW a.aS).owner=true)
  (y:Ct.pK C.aY.toNat (M.bT i).S a.aI (M.bH.jW a.aS).owner a.iS=true):M.eY.length<(M.step C (i:Int)).1.eY.length:=by
 have⟨hl0,hl1,hw0,hw1,hacc⟩:=F7 q
 have b:0<=a.aS/\a.aS<C.aJ:=by
  have w:=(bQ.fC hC).1;grind
 have h:=fk hC j p hacc
 rw[bR.step,aaa]
 rw[aM]
 have v:¬(M.aD i).over=true:=fun e=>by
  grind[aT.iI,aT.kQ]
 rw[bA0 v,bA0<|by grind[bR.aH]]
 cases h1:aT.mM _ i with
 |some r=>grind
 |none=>
  cases h2:aT.xR _ i with
  |some x=>grind[Rb]
  |none=>
   rw[hacc]
   dsimp only
   rw[bR.fF,aaa]
   dsimp only
   have⟨o,hko⟩:=c7.1 s
   have g:=Wf l f hko
   have e:(M.aU i).uB C (M.aD i).bA (a.dF/2/2)=(1,0):=by
    rw[jL.uB];rw[bA1 ⟨b,(Ts u).1⟩,show jD _ _=some o from hko];grind
   have t:M.bN i (a.dF/2/2)=(M.bH.jW a.aS).owner:=by rw[bR.bN];rw[show jD _ _=some o from hko,g];rfl
   grind[bR.jY,Ly,K3]
def Zs.mem (h:Zs C S N M):dD C N M/\Dc M/\(∃V,RY C M V)/\En C M/\Sw C M:=⟨h.all.inv,h.all.lF,h.ry,h.en,h.sw⟩
theorem aJm (hC:C.Ok) (h:Zs C S N M) {l:IA} (hc:(c:Int)<C.aB) (J:M.cB c 2=n::l) (w:n.kind=8) (I:qX C (M.aD c)=some a) (q:oC C M c a) (g:K7 C M c 2 n l):
  M.eY.length<((M.cZ C (c:Int) ((2:Nat):Int) 0).1.step C (c:Int)).1.eY.length:=by
 have⟨hI,hW,⟨V,hR⟩,hEn,_⟩:=h.mem
 have p:c<4:=FI
 have x:=mi g.gE FA
 have⟨k,hkl⟩:=aL x.1
 have b:k<C.aF:=FA
 have s:=hR.rX.aI k b
 have o:=zH.2 ⟨g.cH.mem_iff.2 FB,hkl,GZ⟩
 have O:=gS o w ((M7 hI J).1) hkl
 have t1:=s.t1 c p
 have kG:(rY C M.bT k c).qO=true:=by
  cases e:(rY C M.bT k c).qO with
  |true=>rfl
  |false=>grind
 have j:(M.bT c).al=(k:Int):=by
  have H:((M.bT c).pO&&decide _)=true:=kG;rw[ep] at H;exact FB
 have f:a.aI=(k:Int):=by rw[<-q.al];exact j
 have K:=Xs g.gE w
 have⟨s',et,es,ecl,_,_⟩:=R7 (core:=n.core) w hkl b (hI.Pa c hc) (hR.rX.Bc c p) kG FA
 have E:M.cU C n=(M.jX c s',[⟨4,n.core,n.aI,0,0,0,0,false,0⟩],0):=by
  rw[bR.cU];rw[aaa,aac,g.core,et]
 have y:Zs C S (N+2) (M.cZ C (c:Int) ((2:Nat):Int) 0).1:=by
  have:=h.mK (d:=⟨1,(c:Int),((2:Nat):Int),0⟩) hC;rw[bR.mK] at this;grind
 rw[g.e,E] at y ⊢
 generalize((M.cB.set c 2 l).fY C _).1=F at y ⊢
 have B:M.eY.length=((M.jX c s').bM F).eY.length:=rfl
 have⟨hI1,hW1,⟨V1,hR1⟩,hEn1,_⟩:=y.mem
 have z:((M.jX c s').bM F).bT c=s':=cQ
 apply aE1 hC hI1 hW1 hR1 hc I q.kn q.Ql
 rw[z]
 have u:=l6 CL.st ecl
 have u:(dT C.aY.toNat s' k).st=n.state:=u
 rw[Jc] at u
 by_cases D:(bJ C.aY.toNat s'.S (k:Int)).2=0
 .rw[bA1 D] at u;have v:=hEn1.tc c hc k b FB;rw[z] at v;have t:sL M.bH k=(M.bH.jW a.aS).owner:=by
   rw[sL];rw[show((k/2:Nat):Int)=a.aS by grind]
  rw[Ct.pK,f,cL D,cL<|v.trans t,u]
  cases hw:a.iS with
  |true=>
   have A:=(s.gN n o w).2.1
   rw[g.core] at A
   have G:(rY C M.bT k c).aw=true:=by
    show((M.bT c).pO&&decide _&&(M.bT c).aw)=true;rw[q.pO,cL j,q.aw hw];rfl
   rw[A.2 G]
   rfl
  |false=>
   show P2 n.state=true
   grind[P2]
 grind
theorem aGo (hC:C.Ok) (h:Zs C S N M) {l:IA} (hc:(c:Int)<C.aB) (j:w<4) (b:M.cB c w=n::l) (g:K7 C M c w n l)
  (y:n.kind=8->∀a,qX C (M.aD n.core.toNat)=some a->fB M.bH a.aS=false->¬oC C M n.core.toNat a):
  (jM C M n=true->ph C (M.cZ C (c:Int) (w:Int) 0).1<ph C M)/\Mv C M (M.cZ C (c:Int) (w:Int) 0).1:=by
 have⟨hI,hW,⟨V,hR⟩,hEn,hS⟩:=h.mem
 have f:(M.cZ C (c:Int) (w:Int) 0).2=0:=by rw[g.e]
 have z:=(fI g.gE).1
 rw[Nj] at z
 have sY:∀{P:Prop},ph C (M.cZ C (c:Int) (w:Int) 0).1+(if jM C M n then 1 else 0)<=ph C M->(bS C M n=true->ph C _<=ph C M->Sp C M _)->
   (jM C M n=true->ph C (M.cZ C (c:Int) (w:Int) 0).1<ph C M)/\Mv C M (M.cZ C (c:Int) (w:Int) 0).1:=fun {_} u x=>by
  cases hg:jM C M n with
  |true=>rw[hg,bA1 rfl] at u;exact⟨fun _=>FA,.inr<|.inl FA⟩
  |false=>rw[hg,bA0 FF] at u;exact⟨FB,.inr<|.inr<|x (zu hg) FA⟩
 by_cases t:1<=n.kind/\n.kind<=5
 .exact sY (P:=True) (aO7 hC hI hR hS hc j b t f) fun e hle=>(aSf hI b (by grind[I5]) e g hle)
 by_cases p:n.kind=8\/n.kind=9\/n.kind=10\/n.kind=11
 .exact sY (P:=True) (aI8 hC hI hc j b p f y) fun e hle=>(aOz b (by grind[I5]) e g hle)
 by_cases v:n.kind=6
 .exact sY (P:=True) (aP4 hC hI hR hc j b v f) fun e hle=>aLn hC hI hR hc b v e g hle
 by_cases o:n.kind=12
 .exact sY (P:=True) (by have:=Wx hC hI hR hEn hc j b o f;omega) fun e hle=>aCc hC hI hR hc b o e g hle
 by_cases s:n.kind=13
 .have:=aM3 hC hI hR hS hc j b s f;exact⟨FA,.inr FA⟩
 .have q:iY C (M.cZ C (c:Int) (w:Int) 0).1.bH:=by
   have:=(h.mK (d:=⟨1,(c:Int),(w:Int),0⟩) hC).all.inv.bH;rw[bR.mK] at this;grind
  have:=se hC hI hR hS hc j b FA f q
  exact⟨FA,.inr FA⟩
variable {d:Do}
def Mv.trans (e:Mv C M M') (b:Mv C M' M2) (l1:M.eY.length<=M'.eY.length) (l2:M'.eY.length<=M2.eY.length):Mv C M M2:=by
 rcases e with e|e|e;exact .inl FA;rcases b with b|b|b;exact .inl FA;exact .inr FA;exact .inr (.inl<|by have:=b.le;omega);rcases b with b|b|b;exact .inl FA;exact .inr (.inl<|by have:=e.le;omega);exact .inr<|.inr<|e.trans b
def pz.trans (e:pz C M M') (b:Mv C M' M2) (l1:M.eY.length<=M'.eY.length) (l2:M'.eY.length<=M2.eY.length):pz C M M2:=by
 rcases e with e|e;exact .inl FA;rcases b with b|b|b;exact .inl FA;exact .inr FA;exact .inr (by have:=b.le;omega)
theorem Mv.go (e:Mv C M M') (b:pz C M' M2) (l1:M.eY.length<=M'.eY.length) (l2:M'.eY.length<=M2.eY.length):pz C M M2:=by
 rcases e with e|e|e;exact .inl FA;rcases b with b|b;exact .inl FA;exact .inr FA;rcases b with b|b;exact .inl FA;exact .inr (by have:=e.le;omega)
inductive IsR (C:bQ):Do->Prop where
 |step (i:Nat) (hi:(i:Int)<C.aB):IsR C ⟨0,i,0,0⟩
 |del (c w:Nat) (hc:(c:Int)<C.aB) (hw:w<4):IsR C ⟨1,c,w,0⟩
 |beg (l:Nat) (hl:l<C.aF):IsR C ⟨2,l,0,0⟩
 |sY (g:Nat) (hg:(g:Int)<C.aJ):IsR C ⟨3,g,0,0⟩
theorem T6 {d:Do} (h:d∈M.ready C):IsR C d:=by
 rcases cj.1 h with h|h;rcases cj.1 h with h|h;rcases cj.1 h with h|h;obtain⟨i,e,rfl⟩:=eV.1 h;exact .step i FB;have⟨c,hc,h⟩:=EG.1 h;obtain⟨w,j,rfl⟩:=eV.1 h;exact .del c w FB FB;obtain⟨l,f,rfl⟩:=eV.1 h;exact .beg l FB;obtain⟨g,b,rfl⟩:=eV.1 h;exact .sY g FB
theorem a8:M.mK C ⟨0,i,0,0⟩=M.step C i:=rfl
theorem Dv:M.mK C ⟨1,c,w,0⟩=M.cZ C c w 0:=rfl
theorem wq {l:Nat}:M.mK C ⟨2,l,0,0⟩=M.dK C l:=rfl
theorem w5 {l:Nat}:M.mK C ⟨3,l,0,0⟩=M.gI C l:=rfl
theorem Bk (b:¬(d.mH=1/\d.b=2)):(lN C (M,k) d).1=(M.mK C d).1:=by
 unfold lN;grind
theorem Ps (b:d.mH=1/\d.b=2):(lN C (M,k) d).1=if(M.mK C d).2≠0 then(M.mK C d).1 else((M.mK C d).1.step C d.a).1:=by
 unfold lN;dsimp only;split;rfl;have e:(M.mK C d).1.mK C ⟨0,d.a,0,0⟩=(M.mK C d).1.step C d.a:=rfl;grind
def Zs.up (h:Zs C S (N+2) M):Zs C S (N+4) M:=
 ⟨⟨⟨h.all.inv.bH,h.all.inv.B1,h.all.inv.Pa,h.all.inv.gE,fun l b=>⟨(h.all.inv.aK l b).1,by have:=(h.all.inv.aK l b).2;omega⟩,h.all.inv.cB,by have:=h.all.inv.eY;omega⟩,h.all.lF,h.all.zh⟩,h.ry,h.en,h.sw⟩
def Zs.aEk (hC:C.Ok) (h:Zs C S N M):M.eY.length<=(M.mK C d).1.eY.length:=(Sg<|H0 (d:=d) hC h.all.inv h.all.lF).1
def Zs.yo (hC:C.Ok) (h:Zs C S N M):Zs C S (N+4) (lN C (M,k) d).1/\M.eY.length<=(lN C (M,k) d).1.eY.length:=by
 have b:=h.mK (d:=d) hC;have g1:=h.aEk (d:=d) hC;by_cases e:d.mH=1/\d.b=2;rw[Ps e];split;exact⟨b.up,g1⟩;exact⟨b.mK (d:=⟨0,d.a,0,0⟩) hC,cO g1<|b.aEk (d:=⟨0,d.a,0,0⟩) hC⟩;rw[Bk e];exact⟨b.up,g1⟩
theorem O0 (h:(M.dK C l).2≠0):(M.dK C l).1=M:=by
 grind[bR.dK]
theorem V7 (b:M.cB c w=[]):(M.cZ C (c:Int) (w:Int) 0)=(M,(M.cZ C (c:Int) (w:Int) 0).2)/\(M.cZ C (c:Int) (w:Int) 0).2≠0:=by
 grind[bR.cZ,eN.take]
theorem aJa (hC:C.Ok) (h:Zs C S N M) (b:(M.gI C g).2=0):M.eY.length<(M.gI C g).1.eY.length:=by
 have⟨hI,hW,⟨V,hR⟩,_,_⟩:=h.mem;grind[Rf,Nat.lt_of_le_of_lt,Nat.le_of_eq,aAw]
theorem Ht (hC:C.Ok) (h:Zs C S N M) {l:IA} (hc:(c:Int)<C.aB) (x:w<4) (p:M.cB c w=n::l) (b:K7 C M c w n l) (o:jM C M n=true\/(n.kind=12/\0<l.countP (jM C M))):pz C M (lN C (M,k) ⟨1,c,w,0⟩).1:=by
 have g1:=h.aEk (d:=⟨1,c,w,0⟩) hC;have aP8:(n.kind=8->∀a,qX C _=some a->fB M.bH a.aS=false->¬oC C M n.core.toNat a)->pz C M _:=fun y=>by
  rcases o with o|⟨s,v⟩;exact .inr<|(aGo hC h hc x p b y).1 o;have⟨hI,hW,⟨V,hR⟩,hEn,hS⟩:=h.mem;have:=Wx hC hI hR hEn hc x p s (by rw[b.e]);exact .inr FA
 by_cases g:w=2;subst g;rw[Ps ⟨rfl,rfl⟩,Dv,bA0<|by rw[b.e];simp];have t:=h.mK (d:=⟨1,c,(2:Nat),0⟩) hC;have g2:=t.aEk (d:=⟨0,c,0,0⟩) hC;have⟨hI1,_,⟨V1,hR1⟩,hEn1,_⟩:=t.mem;by_cases f:n.kind=8/\∃a,qX C (M.aD c)=some a/\fB M.bH a.aS=false/\oC C M c a;obtain⟨j,a,u,_,e⟩:=f;exact .inl<|aJm hC h hc p j u e b;refine(aP8 fun j a u q e=>f ⟨j,a,?_,q,?_⟩).trans (Yw hC hI1 hR1 hEn1 (A:=(c:Int))) g1 g2;rwa [<-b.core];rwa [<-b.core];rw[Bk FB,Dv];refine aP8 fun j=>?_;exfalso;apply g;rw[<-b.aU2];rw[cN,j];rfl
theorem aI4 (hC:C.Ok) (h:Zs C S N M) (x:IsR C d):Mv C M (lN C (M,k) d).1:=by
 have⟨hI,hW,⟨V,hR⟩,hEn,hS⟩:=h.mem;cases x with
 |step i z=>
  grind[Bk,a8,Yw]
 |beg l o=>
  rw[Bk FB,wq];by_cases q:(M.dK C (l:Int)).2=0;have⟨n,w,p,hkl,hle⟩:=kq hC hI hR q;cases f:jM C M n with
  |true=>rw[f,bA1 rfl] at hle;exact .inr FA
  |false=>exact .inr<|.inr<|aKg hR hkl p (zu f) q FA
  grind[O0,Mv.refl]
 |sY g f=>
  rw[Bk FB,w5];by_cases q:(M.gI C (g:Int)).2=0;exact .inl<|aJa hC h q;grind[Lz,Mv.refl]
 |del c w t p=>
  cases o:M.cB c w with
  |nil=>
   have⟨e1,e2⟩:=V7 (C:=C) o;have s:(M.cZ C (c:Int) (w:Int) 0).1=M:=by rw[e1]
   by_cases j:(1:Int)=1/\(w:Int)=2;rw[Ps j,Dv,bA1 e2,s];exact Mv.refl;grind[Bk,Dv,Mv.refl]
  |cons n l=>
   rcases Kc hI t p o with⟨e2,s,_⟩|b;by_cases j:(1:Int)=1/\(w:Int)=2;rw[Ps j,Dv,bA1 e2,s];exact Mv.refl;grind[Bk,Dv,Mv.refl];cases f:jM C M n with
   |true=>exact(Ht hC h t p o b<|.inl f).mv
   |false=>
    have y:n.kind≠8:=fun e=>by
     have:=I5<|zu f;omega
    have v:=(aGo hC h t p o b FA).2;by_cases j:(1:Int)=1/\(w:Int)=2;rw[Ps j,Dv,bA0<|by rw[b.e];simp];have g1:=h.aEk (d:=⟨1,c,w,0⟩) hC;have u:=h.mK (d:=⟨1,c,w,0⟩) hC;have g2:=u.aEk (d:=⟨0,c,0,0⟩) hC;have⟨hI1,_,⟨V1,hR1⟩,hEn1,_⟩:=u.mem;exact v.trans (Yw hC hI1 hR1 hEn1) g1 g2;grind[Bk,Dv]
abbrev no6 (a b:aG):Prop:=a.kind≠6
def Wl (F:eN):Prop:=∀c:Nat,(F c 0).Pairwise no6
structure Ex (C:bQ) (M:bR):Prop where
 wl:Wl M.cB
 wd:∀i:Nat,(i:Int)<C.aB->0<=(M.aD i).bA/\(M.aD i).bA<=3
theorem y6 {d:Int}:∀{l:IA} {F b:eN},Wl F->(∀x∈l,cN x=0->∀y∈F x.core.toNat 0,y.kind≠6)->l.Pairwise no6->eN.xN d F l=some b->Wl b
 |[],F,b,h,_,_,e=>by cases e;exact h
 |n::l,F,b,h,j,o,e=>by
  rw[eN.xN] at e;split at e;rotate_left;cases e;have q:∀c,∀y∈(F.A4 n) c 0,y∈F c 0\/(y=n/\c=n.core.toNat/\cN n=0):=fun c y f=>by
   unfold eN.A4 eN.set at f;grind
  refine y6 (fun c=>?_) (fun x s p y f=>?_) FB e;unfold eN.A4 eN.set;split;rename_i g;rw[g.2.symm];refine List.pairwise_append.2 ⟨h _,FB,fun y f _ _=>?_⟩;grind;exact h c;grind[List.pairwise_cons]
theorem Qv {l:IA} (h:Wl F) (b:∀x∈l,cN x=0->∀y∈F x.core.toNat 0,y.kind≠6) (e:l.Pairwise no6):Wl (F.fY C l).1:=by
 grind[eN.fY,y6]
theorem ig {l:IA} (h:Wl F) (e:∀x∈l,cN x≠0) (b:l.Pairwise no6):Wl (F.fY C l).1:=Qv h FB b
theorem Qm {l:IA} (h:∀x∈l,x.kind≠6):l.Pairwise no6:=List.Pairwise.imp_of_mem (R:=fun _ _=>True) FB<|List.pairwise_of_forall FB
theorem aMu {y z:Int} (h:Wl F):Wl (F.take C x y z).1:=by
 rw[eN.take];split;exact h;dsimp only;split;exact h;intro c;show(eN.set _ _ _ _ c 0).Pairwise no6;rw[eN.set];split;rename_i e;have:F x.toNat y.toNat=F c 0:=by rw[<-e.1,<-e.2]
 exact(h c).sublist FB;exact h c
theorem aQu (h:cN n≠0):n.kind≠6:=fun e=>h (by rw[cN,e];rfl)
theorem aNg (s:dD C N M) (u:Nt.gE C n=0) (f:(M.cU C n).2.2=0):∀x∈(M.cU C n).2.1,cN x≠0\/(n.kind=12/\x.core=n.core/\(M.cU C n).2.1=[x]):=by
 have t:=(fI u).2;have j:((n.core.toNat:Nat):Int)<C.aB:=FA
 intro x b;rw[bR.cU] at f b ⊢;by_cases p:n.kind=1\/n.kind=2\/n.kind=3\/n.kind=4\/n.kind=5;rw[bA1 p] at f b;left;rw[eW] at b;split at b;cases b;split at b;rw[iN.take] at b;split at b;grind;split at b;split at b;cases b;rw[cN,(Oo x b).1];decide;cases b;cases b;rw[bA0 p] at f b ⊢;by_cases o:n.kind=8\/n.kind=9\/n.kind=10\/n.kind=11;rw[bA1 o] at f b;left;rcases(aEt (s.Pa _ j) o f).w with⟨_,e⟩|⟨_,e⟩|⟨y,e,v⟩;grind;grind;rw[e] at b;rw[aV.1 b];rw[cN];rcases v with⟨_,h⟩|⟨_,h⟩<;>rw[h]<;>decide;rw[bA0 o] at f b ⊢;by_cases q:n.kind=6;rw[bA1 q] at b;left;rw[aV.1 b];show(2:Nat)≠0;decide;rw[bA0 q] at f b ⊢;by_cases g:n.kind=12;rw[bA1 g] at b ⊢;right;dsimp only at b ⊢;split at b;cases b;rename_i h;rw[bA0 h,aV.1 b];exact⟨g,rfl,rfl⟩;rw[bA0 g] at f b ⊢;by_cases l:n.kind=13;rw[bA1 l] at b;left;rw[aV.1 b];show(1:Nat)≠0;decide;grind
theorem q8 (l:dD C N M) (u:RY C M V) (h:Wl M.cB) {y z:Int}:Wl (M.cZ C x y z).1.cB:=by
 unfold bR.cZ;dsimp only;by_cases e:(M.cB.take C x y z).2.2≠0;grind;rw[bA0 e];have e:=aW.1 e;have f:=(Mz l.cB e).1;have q:=oW e;have D:=aMu (C:=C) (x:=x) (y:=y) (z:=z) h;have o:=Uy (a:=x) (b:=y) (c:=z) l.cB;by_cases e2:(M.cU C (M.cB.take C x y z).2.1).2.2≠0;grind;rw[bA0 e2];split;exact h;generalize(M.cB.take C x y z).2.1=n at*;generalize(M.cB.take C x y z).1=F at*;have t:=aNg l f.gE<|aW.1 e2;have v:=(fI f.gE).2;refine Qv D (fun w E J y s=>?_) ?_;rcases t w E with I|⟨p,G,_⟩;grind;have g:y∈dL C F:=qC FA FA s;have j:=rU l.cB<|q.mem_iff.2<|ca _ g;intro A;have B:=Ra (u.gE.cH q) (i:=n.core.toNat) FA FA (.inr p) y g;have H:=(o.yI _ _ y s).2.1;have j:=(fI j.gE).2;grind;grind[Qm,aQu]
theorem aLx (B:dD C N M) (D:RY C M V) (s:En C M) (h:Wl M.cB):Wl (M.step C A).1.cB:=by
 rw[bR.step];by_cases t:0<=A/\A<C.aB;rotate_left;grind;rw[bA0 fun e=>e t];dsimp only;obtain⟨i,rfl⟩:=aL t.1;rw[aM];have f:=t.2;split;exact h;split;exact h;split;exact h;split;unfold bR.call;dsimp only;split;grind[iK];split;exact h;refine ig h (fun x g=>?_)<|Qm fun x g=>?_;obtain⟨j,_,rfl⟩:=zN g;show(3:Nat)≠0;decide;obtain⟨j,_,rfl⟩:=zN g;show(13:Int)≠6;decide;split
 .rename_i a l;have q:(M.aU i).dP=false->∀y∈M.cB i 0,y.kind≠6:=fun p y z=>by
   have E:=qC f FA z;exact(fh D f p y E<|aHg B E (B.cB.yI i 0 y z).2.1).1
  rw[bR.fF];split;grind[iK];dsimp only;split;exact h;rename_i v;split;unfold bR.Cm;dsimp only;split;exact h;split;exact h;have p:(M.aU i).dP=false:=by
   cases p:(M.aU i).dP with
   |false=>rfl
   |true=>
    grind[jL.dK]
  grind[Qv,List.mem_singleton,cJ,Int.toNat_natCast];rename_i u;split;grind[iK];split
  .unfold bR.fV;dsimp only;split;exact h;rename_i w;split;exact h;have I:(M.aU i).dP=false:=by
    cases p:(M.aU i).dP with
    |false=>rfl
    |true=>
     exfalso;have⟨b,hb,_,h2⟩:=s.w1 i f p;rw[l] at hb;cases hb;rw[jL.uB] at u v;split at v;rotate_left;exact v FC;rename_i G;cases hko:jD (M.aU i).bN (a.dF/2/2) with
     |none=>grind
     |some o=>
      have:=Ha D f (by rwa [h2]);grind
   have⟨_,hcase⟩:=x9<|aW.1 w;have J:∀{out:IA},(∀x∈out,x.core=(i:Int)/\x.kind≠6)->Wl (M.cB.fY C out).1:=fun {out} H=>Qv h (fun x g _ y z=>by
     grind)<|Qm fun x g=>(H x g).2
   grind
  unfold bR.jY;rwa [iK.2.2.2.2]
 exact h
theorem aK6 (o:RY C M V) (h:Wl M.cB):Wl (M.dK C x).1.cB:=by
 by_cases j:(M.dK C x).2=0;rotate_left;rwa [O0 j];unfold bR.dK at j ⊢;dsimp only at j ⊢;split;exact h;rename_i p;split;exact h;by_cases b:C.kG x;rotate_left;grind[eO];have⟨k,l⟩:=aL b.1;have f:∀y∈(eO C M.aK x<|M.gC C x).2.1,8<=y.kind/\y.kind<=11:=fun y e=>by
  rw[eO,bA1 b] at e;rw[iN.dK] at e;split at e;cases e;split at e;cases e;rename_i n w q;have g:=(o.rX.aI k<|by have:=b.2;omega).jA;exact(Xe ((g.aH n FB).2.2) (by rw[l,aM];exact g.owner) y e).2.1
 exact ig h (fun y e=>by
  have:=f y e;have l:y.kind=8\/y.kind=9\/y.kind=10\/y.kind=11:=FA
  rw[cN];rcases l with h|h|h|h<;>rw[h]<;>decide)<|Qm FB
theorem aH3 {s t:aT} {v:Ev} (g:s.Ok) (h:rp i s v=some t) (e:0<=s.bA/\s.bA<=3):0<=t.bA/\t.bA<=3:=by
 rw[rp] at h;split at h;rename_i r b;split at h;cases h;rw[aT.mM] at b;cases hn:aT.kQ s with
 |none=>grind
 |some x=>
  rw[hn] at b;dsimp only at b;split at b;cases b;exact e;split at b;cases b;exact e;split at b;cases b;exact e;split at b;rename_i l;split at b;cases b;show 0<=x.a/\x.a<=3;rw[aT.kQ] at hn;split at hn;cases hn;rename_i f;cases hn;have f:s.over=false:=HT
  have j:=(R3<|g.2.2.2.2 _<|De g.1<|Ds<|by rw[<-g.2.2.1];exact f).2.1;rw[l] at j;have:=cP j;omega;cases b;exact e;split at b;cases b;exact e;split at b;cases b;exact e;cases b
 cases h;split at h;cases h;rw[aT.bL];split;exact e;split;exact e;split;split;exact e;split;exact e;split;exact e;exact e;exact e;cases h
theorem Ex.mK (hC:C.Ok) (h:Zs C S N M) (b:Ex C M) {d:Do}:Ex C (M.mK C d).1:=by
 have⟨hI,hW,⟨V,hR⟩,hEn,hS⟩:=h.mem;refine⟨?_,fun i x=>?_⟩;rw[bR.mK];split;exact aLx hI hR hEn b.wl;split;exact q8 hI hR b.wl;split;exact aK6 hR b.wl;split;by_cases w:(M.gI C d.a).2=0;have⟨g,r,_,_,_,_,_,he⟩:=Rf hR w;rw[he,iK.2.2.2.2];split<;>exact b.wl;rw[Lz hR hC hI hW w];exact b.wl;exact b.wl;have z:=b.wd;have up:∀(j:Nat) (s:aT) (v:Ev),(j:Int)<C.aB->rp j (M.aD j) v=some s->0<=(bD M.aD j s i).bA/\(bD M.aD j s i).bA<=3:=fun j s v p q=>by
  by_cases e:i=j;subst e;rw[cQ];exact aH3 (hI.B1 i x) q<|z i x;grind[Ab.bO]
 cases H0 (d:=d) hC hI hW with
 |qE f l o=>grind
 |ev j s v p u t f l y q o=>rw[f];grind
 |uB j g p u t f l A o=>grind
 |sY j g s v p u D f l y E B q o=>rw[f];grind
def V4 {aI:Int} {d:Ln} (hC:C.Ok) (hc:0<=r.aX.core/\r.aX.core<C.aB) (b:0<=aI/\aI<C.aF) (e:0<=r.bA/\r.bA<=4):∃y,(r.dZ aI d).2=[y]/\Nt.gE C y=0/\y.kind=8/\y.core=r.aX.core:=by
 rw[bP.dZ];split;exact⟨_,rfl,Sz hC hc b e FA,rfl,rfl⟩;split;exact⟨_,rfl,Sz hC hc b e FA,rfl,rfl⟩;exact⟨_,rfl,Sz hC hc b e<|.inl rfl,rfl,rfl⟩
structure aHd (C:bQ) (M:bR) (n y:aG):Prop where
 gE:Nt.gE C y=0
 k:(n.kind=5/\y.kind=8/\y.core=(M.aK n.aI.toNat).1.aX.core/\(M.aK n.aI.toNat).1.busy=true/\(M.aK n.aI.toNat).1.cG=false/\(M.aK n.aI.toNat).1.aX.kind≠0)\/(y.core=n.core/\((n.kind=8/\y.kind=4)\/(n.kind=11/\y.kind=5)\/(n.kind=6/\y.kind=12)\/(n.kind=12/\y.kind=6)\/(n.kind=13/\y.kind=7)))
theorem Bf (hC:C.Ok) (f:RY C M V) {l:Nat} (g:l<C.aF) (hb:(M.aK l).1.busy=true) (o:(M.aK l).1.cG=false) (j:(M.aK l).1.aX.kind≠0):
  ∃i:Nat,(i:Int)<C.aB/\(M.aK l).1.aX.core=(i:Int)/\(rY C M.bT l i).qO=true/\By (M.aK l).1 i=1:=by
 have b:=f.rX.aI l g
 have⟨i,hi⟩:=aL b.jA.core.1
 have h:By (M.aK l).1 i=1:=by rw[By];rw[bA1 FB]
 have t1:=b.t1 i (by have:=b.jA.core.2;omega)
 have kG:(rY C M.bT l i).qO=true:=by
  cases e:(rY C M.bT l i).qO with
  |true=>rfl
  |false=>grind
 exact⟨i,f.rX.A3<|.inl kG,hi,kG,h⟩
theorem Uh (b:RY C M V) {l:Nat} (e:l<C.aF) (h:i<4) (g:(M.aK l).1.dS i=true):(M.aK l).1.busy=true/\(M.aK l).1.cG=false:=by
 have f:¬(M.aK l).1.kK=true:=fun f=>by
  grind[hM]
 have:=((b.rX.aI l e).jA).sD;grind
theorem gx (hC:C.Ok) (u:dD C N M) (J:RY C M V) (Q:En C M) (hp:(dL C M.cB).Perm (n::L)):
  (M.cU C n).2.2=0/\((M.cU C n).2.1=[]\/∃y,(M.cU C n).2.1=[y]/\aHd C M n y):=by
 have E:n∈dL C M.cB:=FB
 have X:=rU u.cB E
 have W:=X.gE
 have o:=J.rX.cH hp
 have b:=J.gE.cH hp
 have⟨hik,hco⟩:=fI W
 rw[Nj] at hik
 have⟨i,hi⟩:=aL hco.1
 have q:n.core.toNat=i:=FA
 have f:(i:Int)<C.aB:=FA
 have T:i<4:=FI
 have α:=hC.2.1
 rw[bR.cU]
 by_cases k1:n.kind=1\/n.kind=2\/n.kind=3\/n.kind=4\/n.kind=5
 .rw[bA1 k1];have h:=o.nb n FB GG;have⟨l,hl⟩:=aL h.2.1;have w:l<C.aF:=FA
  have U:n.aI.toNat=l:=FA
  have⟨H',out,hh,_,_,_⟩:=o.aL1 hC FA
  rw[hh]
  refine⟨rfl,?_⟩
  have e:eW C M.aK n=(bD M.aK l (iN.take (M.aK l) n.aI n).1,(iN.take (M.aK l) n.aI n).2):=by
   rw[eW];rw[bA0<|by grind[Hm.cU],bA1 ⟨h.1,FV⟩,U]
  rw[e] at hh
  have G:(iN.take _ n.aI n).2.1=out:=l6 (fun x=>x.2.1) hh
  rw[<-G]
  rw[iN.take]
  by_cases k4:n.kind=4
  .grind
  rw[bA0 k4]
  by_cases k5:n.kind=5
  rotate_left
  .grind
  rw[bA1 k5]
  by_cases R:(M.aK l).1.dS n.core.toNat=false
  .grind
  rw[bA0 R]
  have⟨hb,hg⟩:=Uh J w T FB
  unfold iN.nI bP.rest
  have⟨q1,q2,q3,q4⟩:=Eh (r:=(M.aK l).1) (n:=n)
  split
  .split
   .grind
   .rename_i P;rw[q4] at P;right;have⟨j,hj,hjc,_⟩:=Bf hC J w hb hg P;have D:=u.bH.len;have hL:=(bQ.fC hC).1;obtain⟨y,I,h2,h3,h4⟩:=V4 (d:=((M.aK l).1.dE n).yU<|(M.aK l).1.yT (M.aK l).2 n) hC (by rw[q4,hjc];omega) h.2 (by
     rw[q1,Q.tr l w hb hg P];exact u.bH.jW ⟨FA,FA⟩)
    exact⟨y,I,h2,.inl ⟨k5,h3,FB,FB,FB,FB⟩⟩
  grind
 rw[bA0 k1]
 by_cases k8:n.kind=8\/n.kind=9\/n.kind=10\/n.kind=11
 .rw[bA1 k8];have h:=o.nb n FB GG;have⟨s',out,hh,_,_⟩:=o.U3 hC FA;rw[hh];refine⟨rfl,?_⟩;dsimp only;rw[q] at hh;have B:=u.Pa i f;have G:(fP C n.core (M.bT i) n).2.1=out:=by rw[hh]
  have v:(fP C n.core (M.bT i) n).2.2=0:=by rw[hh]
  rw[<-G]
  have hz:vH C n.aI=true:=by rw[vH];grind
  rw[fP] at v ⊢
  by_cases e8:n.kind=8
  .rw[bA1 e8,bA0 FB] at v ⊢;rw[vJ] at v ⊢;split
   .grind
   split
   .grind
   split
   .grind
   .exact .inr ⟨_,rfl,aOw hC hco h.2,FB⟩
  rw[bA0 e8] at v ⊢
  by_cases e9:n.kind=9
  .grind[Bh]
  rw[bA0 e9] at v ⊢
  by_cases K:n.kind=10
  .grind[rS]
  rw[bA0 K] at v ⊢
  have O:n.kind=11:=FA
  rw[bA1 O,bA0 FB] at v ⊢
  have rep:∀{x:vU},(0<=x.st/\x.st<=4)->Nt.gE C (iQ n.core n x)=0/\(iQ n.core n x).core=n.core/\(iQ n.core n x).kind=5:=fun {x} hx=>by
   grind[iQ,Ti,Hd]
  rw[lI]
  split
  .grind
  split
  .rename_i Y;have γ:=uS B.aY Y;have⟨r1,r2,r3⟩:=rep (x:=(bJ C.aY.toNat (M.bT i).S n.aI).1) FA;exact .inr ⟨_,rfl,r1,FA⟩
  split
  .exact .inr ⟨_,rfl,Ti hC hco h.2 FA,FB⟩
  split
  .exact .inr ⟨_,rfl,Ti hC hco h.2 FA,FB⟩
  .have⟨r1,r2,r3⟩:=rep<|B.vL FB;exact .inr ⟨_,rfl,r1,FA⟩
 rw[bA0 k8]
 have D:=u.bH.len
 have β:=b.gr i f
 have place:∀{x:Int},x=(M.aU i).aS/4\/x=lK C.aJ (M.aU i).aS->0<=x/\x<20:=fun {x} hx=>by
  grind[lK]
 by_cases z:n.kind=6
 .rw[bA1 z];have A:=b.no n FB<|.inl z;rw[q] at A;exact⟨(b.dS FA FA u.bH.Ve f hi z).1,.inr ⟨_,rfl,aB7 hC hco<|place<|by rw[A];exact b.pl i f<|(b.Jq f hi<|.inl z).1,.inr ⟨rfl,.inr<|.inr<|.inl ⟨z,rfl⟩⟩⟩⟩
 rw[bA0 z]
 by_cases s:n.kind=12
 .rw[bA1 s,q];have I:=b.eU f hi s hC.2.1.1;refine⟨I.1,?_⟩;dsimp only;split
  .grind
  .refine .inr ⟨_,rfl,aOu hC hco<|place ?_,.inr ⟨rfl,.inr<|.inr<|.inr<|.inl ⟨s,rfl⟩⟩⟩;have⟨hwk,p,hcase⟩:=Ns I.1;rcases hcase with⟨_,e⟩|⟨_,_,_,e⟩|⟨_,G,e⟩|⟨_,_,_,e⟩
   .grind
   .grind
   .rw[e];have H:=(b.dF n FB s).1;rw[q,<-p] at H;exact .inr (H.2 G).1
   grind
 rw[bA0 s]
 by_cases t:n.kind=13
 .rw[bA1 t,q];have p:=Ks W<|.inr t;exact⟨(b.eF f hi t p).1,.inr ⟨_,rfl,xa hC hco p,.inr ⟨rfl,.inr<|.inr<|.inr<|.inr ⟨t,rfl⟩⟩⟩⟩
 rw[bA0 t]
 have Z:n.kind=7:=FA
 rw[bA1 Z]
 have p:=Ks W<|.inl Z
 have⟨g,hg⟩:=aL p.1
 have⟨r,_,_,_,hd,_⟩:=b.dE hC u.bH f hi Z hg
 grind
end Go.Mc
