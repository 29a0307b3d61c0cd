/- A part of the proof. -/
import Derived.Test.YtbcndiahccicpaaGreatDoorS11
import Derived.Test.YtbcndiahccicpaaGreatDoorS9
set_option linter.all false
open Go Go.Ab
variable {N N' c i k w:Nat} {A aB g l x:Int} {b:Bool} {j:Int->Int×Bool}
namespace Go.Mc
open Go.Hm Go.At Go.Is Go.Ct Go.Nt Go.Pc
variable {C:bQ} {M M':bU} {V V':Nat->Ln} {n:aG} {r:bT} {m:Ln} {L L':IT} {a:vT}
theorem T0 (h:∀x,0<=x.core->iZ i x=false->bV C M x=true->bV C M' x=true):∀{l:IT},(∀x∈l,0<=x.core)->l.countP (jS C M')<=l.countP (jS C M)+l.countP (iZ i)
 |[],_=>og _
 |x::l,g=>by
  have b:∀y∈l,0<=y.core:=FR;have o:=T0 h b;have j:(if jS C M' x=true then 1 else 0)<=(if jS C M x=true then 1 else 0)+(if iZ i x=true then 1 else 0):=by
   by_cases f:iZ i x=true;grind;by_cases e:jS C M' x=true;rw[bD2 e,bD2<|yd (h x (g x eg)<|by simpa using f) e];omega;grind
  grind
theorem np (h:∀x,0<=x.core->iZ i x=false->bV C M x=true->bV C M' x=true):∀{l:IT},(∀x∈l,0<=x.core)->gC C M' l<=gC C M l+(26+l.length)*l.countP (iZ i)
 |[],_=>og _
 |x::l,g=>by
  have b:∀y∈l,0<=y.core:=FR;have o:=np h b;have f:=T0 h b;have j:B0 C M' x<=B0 C M x+(if iZ i x=true then 26 else 0):=by
   cases h1:bV C M' x with
   |true=>simp_all[Zu,og]
   |false=>
    by_cases e:iZ i x=true;rw[bD2 e,zJ h1];grind;grind[zJ]
  unfold gC;rw[l9,js];grind
theorem aRo (h:∀x,0<=x.core->iZ i x=false->bV C M x=true->bV C M' x=true):∀{l:IT},(∀x∈l,0<=x.core)->Mc.e2 C M' l<=Mc.e2 C M l+l.countP (iZ i)
 |[],_=>og _
 |x::l,f=>by
  have b:∀y∈l,0<=y.core:=FR;have g:=aRo h b;have e:=T0 h b;grind[Mc.e2]
theorem aXd (e:n.kind≠6/\n.kind≠12) (h:iZ i n=false->bV C M n=true->bV C M' n=true):nW C M' n<=nW C M n+(if iZ i n=true then 32 else 0):=by
 cases h1:bV C M' n with
 |true=>simp_all[Qf,og]
 |false=>
  by_cases b:iZ i n=true;rw[bD2 b,Ga h1,aaa];grind[Qv];simp_all[Ga,bD1]
variable {F:eO} {p:aG->Bool}
def vG {f:Nat->Nat} {b:Nat}:∀{n:Nat},eZ (fun l=>b*f l) n=b*eZ f n
 |0=>rfl
 |n+1=>by
  show eZ _ n+b*f n=b*(eZ f n+f n);rw[vG,Nat.mul_add]
theorem yf:eZ (fun c=>(F c 2).countP p) C.aB.toNat<=(dR C F).countP p:=by
 rw[dR];generalize C.aB.toNat=k;induction k with
 |zero=>exact og _
 |succ k b=>
  grind[eZ,List.range_succ,List.flatMap_singleton,Nat.add_le_add]
variable {M2:bU} {d0 d1:Int} {s:jR}
theorem w7 {k:jO} {x:aG} (h:pJ C k x=false):pJ C (k.drop C g).1 x=false:=by
 unfold pJ yE at*;rw[xF.2];have b:(k.drop C g).1.kG=k.kG\/(k.drop C g).1.kG=true:=by
  rw[jO.drop];split;grind;grind
 grind
theorem Ot {x:aG} (ha:(0<=x.core/\iZ i x=false)\/yY C (M.aD i) ((M.aT i).drop C g).1 M.bH=yY C (M.aD i) (M.aT i) M.bH) (h:bV C M x=true):bV C ((M.eP i ((M.aT i).drop C g).1).bM F) x=true:=by
 rw[bV] at h ⊢;by_cases f:x.kind=6\/x.kind=12;by_cases e:x.core.toNat=i;have b:((M.eP i ((M.aT i).drop C g).1).bM F).aT x.core.toNat=((M.aT i).drop C g).1:=by rw[e];exact cR
 rw[b,xF.2];simp_all[dn,AW,w7];grind[bM,aT,Ab.bO];rw[bD1 f] at h ⊢;split;rename_i j;rw[bD2 j] at h;simp[dn] at h ⊢;refine⟨h.1,?_⟩;by_cases e:x.core.toNat=i;have b:((M.eP i ((M.aT i).drop C g).1).bM F).aT x.core.toNat=((M.aT i).drop C g).1:=by rw[e];exact cR
 have l:=h.2;rcases ha with⟨o,ha⟩|ha;exact absurd FQ<|DA ha;grind;grind[bM,aT,Ab.bO];grind
theorem yq {x:aG} (o:0<=g) (t:fC M.bH g=true) (p:0<=x.core) (b:x.kind=6\/x.kind=12):nW C ((M.eP i ((M.aT i).drop C g).1).bM F) x<=nW C M x:=by
 by_cases e:x.core.toNat=i;rotate_left;have f:((M.eP i ((M.aT i).drop C g).1).bM F).aT x.core.toNat=M.aT x.core.toNat:=Ab.bO e;have q:bV C ((M.eP i ((M.aT i).drop C g).1).bM F) x=bV C M x:=by
  unfold bV;rw[bD2 b,bD2 b,f]
 unfold nW;grind;have f:((M.eP i ((M.aT i).drop C g).1).bM F).aT x.core.toNat=((M.aT i).drop C g).1:=by rw[e];exact cR
 cases h1:bV C _ x with
 |true=>rw[Qf h1];grind
 |false=>
  have l:bV C M x=false:=by
   cases h3:bV C M x with
   |false=>rfl
   |true=>
    have:=Ot (i:=i) (g:=g) (F:=F) (.inl ⟨p,cr FQ⟩) h3;grind
  rw[Ga h1,Ga l,bD2 b,bD2 b,f,e];have u:((M.aT i).drop C g).1.kG=(M.aT i).kG:=by
   have h:=h1;rw[bV] at h;rw[bD2 b,f,xF.2] at h;rw[jO.drop] at h ⊢;split at h;grind;rename_i j;rw[bD1 j];cases hw:(M.aT i).dM with
   |false=>grind
   |true=>
    grind[pJ]
  have s:((M.aT i).drop C g).1.at'=(M.aT i).at':=by rw[jO.drop];split<;>rfl
  unfold Bn yE;simp_all[xF,bb]
def aUu (b:∀x∈L,nW C M' x<=nW C M x+(if iZ i x=true then 32 else 0)):nQ C M' L<=nQ C M L+32*L.countP (iZ i):=by
 induction L with
 |nil=>exact og _
 |cons x L h=>
  have f:=b x eg;have j:=h fun y g=>b y<|aW _ g;rw[hZ,hZ,l9,Nat.mul_add];split at f;rename_i e;rw[bD2 e];omega;omega
theorem aNv (hC:C.Ok) (hI:cX C N M) (hR:RY C M V) (hS:Sw C M) {l:IT} (hc:(c:Int)<C.aB) (hw:w<4) (B:M.cD c w=n::l) (hk:n.kind=13) (h0:(M.dE C (c:Int) (w:Int) 0).2=0):
  ph C (M.dE C (c:Int) (w:Int) 0).1+1<=ph C M:=by
 have A:=N5 hI hc hw B h0
 have h3:=A.s0
 have hp:=A.cI
 rw[A.e]
 have β:=(fJ A.gG).2
 have⟨i,hi⟩:=ay β.1
 have hit:n.core.toNat=i:=FQ
 have I:(i:Int)<C.aB:=FQ
 have et:M.dF C n=(M.eP i ((M.aT i).drop C n.no).1,[cN 7 n.core n.no],((M.aT i).drop C n.no).2):=by
  rw[bU.dF];rw[aaa,aaa,aaa,aaa,bD2 hk,hit]
 rw[et] at h3 ⊢
 dsimp only at h3 ⊢
 have z:=Ky A.gG<|.inr hk
 have⟨g,hg⟩:=ay z.1
 have K:fC M.bH n.no=true:=by rw[hg];exact lz (hR.gG.cI hp) I FQ hi hk hg
 have⟨hF,_,_⟩:=sS h3
 have G:=(gM h3).1
 generalize ξ:((M.cD.set c w l).gJ C _).1=F at hF G ⊢
 have pos:∀x∈dR C M.cD,0<=x.core:=fun x o=>by
  have⟨c3,w3,_,_,hx3⟩:=uM o;exact(fJ (hI.cD.yK c3 w3 x hx3).1.gG).2.1
 have u:∀x∈dR C _,0<=x.core:=fun x o=>pos x<|hp.mem_iff.2<|aW _ o
 have Z:∀l:Nat,l<C.aF->∀x∈(M.aJ l).1.aH,0<=x.core:=fun l B x o=>((hR.rY.aI l B).iU.aH x o).2.1.1
 have J:∀j,F j 2=(M.cD.set c w l) j 2:=fun j=>by
  rw[hF];show(if j=(cN 7 n.core n.no).core.toNat/\2=cQ _ then _ else _)=_;rw[bD1 (fun e=>by have H:cQ (cN 7 n.core n.no)=1:=rfl;grind)]
 have T:=Ls (M:=M) hc B
 have ε:∀l:Nat,l<C.aF->(M.aJ l).1.aH.length<=5:=fun l B=>Iq (hR.rY.aI l B)<|cL (hS.sw l B) IG
 have ζ:=aP2 hC hR I
 have ο:(dR C<|M.cD.set c w l).countP (iZ i)<=(dR C M.cD).countP (iZ i):=by
  rw[hp.countP_eq,l9];omega
 have Y:=lY (C:=C) (M:=M) hp
 rw[hZ,Ni FQ,hk] at Y
 have hy:nW C ((M.eP i ((M.aT i).drop C n.no).1).bM F) (cN 7 n.core n.no)=1:=by
  rw[Ni<|by show(7:Int)≠6/\(7:Int)≠12/\(7:Int)≠1/\(7:Int)≠2/\(7:Int)≠9;decide];rfl
 have α:nQ C ((M.eP i ((M.aT i).drop C n.no).1).bM F) (dR C F)=1+nQ C ((M.eP i ((M.aT i).drop C n.no).1).bM F) (dR C<|M.cD.set c w l):=by
  rw[lY G,tA,hZ,hy];rfl
 have Q:∀j:Nat,(j:Int)<C.aB->j≠i->∀a,nX C M j a->nX C ((M.eP i ((M.aT i).drop C n.no).1).bM F) j a:=fun j _ E a v=>Dy E v fun x o=>by
  rcases cg.1 (G.mem_iff.1 o) with o|o;rw[aV.1 o];exact Fo HL;exact v.ln x FR
 have t:∀x,0<=x.core->iZ i x=false->bV C M x=true->bV C ((M.eP i ((M.aT i).drop C n.no).1).bM F) x=true:=fun x o ha=>Ot FR
 by_cases y:∀a,qZ C (M.aD i)=some a->vS ((M.aT i).drop C n.no).1 a.aR=vS (M.aT i) a.aR
 .have δ:yY C (M.aD i) ((M.aT i).drop C n.no).1 M.bH=yY C (M.aD i) (M.aT i) M.bH:=by
   unfold yY;cases s:qZ C _ with
   |none=>rfl
   |some a=>grind
  have O:∀x,bV C M x=true->bV C ((M.eP i _).bM F) x=true:=fun x=>Ot<|.inr δ
  have ek:((M.eP i _).bM F).aT i=((M.aT i).drop C n.no).1:=cR
  refine aOu (e:=0) (f:=0) I O (cL (AO<|nL FR) T) Q ?_ ?_
  .cases s:qZ C (M.aD i) with
   |none=>
    grind[hM]
   |some a=>
    rw[rM s rfl rfl rfl rfl,rM (M:=(M.eP i ((M.aT i).drop C n.no).1).bM F) (b:=fC M.bH a.aR) (q:=vS (M.aT i) a.aR) (w:=(M.aT i).dM) s rfl FR (by grind[xF]) rfl]
    refine CW ?_ _
    split
    .grind
    .refine CW ?_ _;by_cases v:tR C M i a=true
     .have H:=nB.1 v;have h8:tR C ((M.eP i _).bM F) i a=true:=nB.2 ⟨H.pM,H.al,H.aw,by rw[ek,y a s];exact H.kn,H.Nw,fun x o=>by
       rcases cg.1 (G.mem_iff.1 o) with o|o;rw[aV.1 o];exact Fo HL;exact H.ln x FR,H.wt⟩
      grind
     grind
  .have h9:nQ C ((M.eP i _).bM F) _<=nQ C M _:=Ul fun x o=>by
    by_cases e:x.kind=6\/x.kind=12;exact yq z.1 K (u x o) e;simp_all[zq]
   grind[Qv]
 .obtain⟨a,s,X⟩:∃a,qZ C _=some a/\vS _ a.aR≠vS _ a.aR:=by
   apply hK;intro e;exact y fun a ha=>hK fun h=>e ⟨a,ha,h⟩
  have R:a.aR=n.no:=by
   apply hK;intro e;exact X<|aIa z e
  have U:vS ((M.aT i).drop C n.no).1 a.aR=false:=by rw[R];exact Wa z
  have γ:vS (M.aT i) a.aR=true:=by
   cases h:vS _ a.aR with
   |true=>rfl
   |false=>exact absurd (U.trans h.symm) X
  have ek:((M.eP i _).bM F).aT i=((M.aT i).drop C n.no).1:=cR
  have W:fC M.bH a.aR=true:=by rw[R];exact K
  have h5:=rM s W γ rfl rfl
  have h6:=rM (M:=(M.eP i _).bM F) (q:=false) s W (by rwa [ek]) rfl rfl
  simp only[eD,aO,dx] at h5 h6
  have hA:Mq C ((M.eP i ((M.aT i).drop C n.no).1).bM F)+34<=Mq C M:=by
   have h9:=rE (f:=hM C<|(M.eP i _).bM F) (g:=hM C M) (k:=i) (n:=C.aB.toNat) FQ fun j hj E=>by
    exact xN rfl (Ab.bO E) rfl FR fun a _ _ v=>Q j FQ E a v
   have η:mX C (((M.eP i ((M.aT i).drop C n.no).1).bM F).bR i) a.aI=mX C (M.bR i) a.aI:=rfl;unfold Mq;omega
  have hB:=aUu (C:=C) (M':=(M.eP i _).bM F) fun x o=>by
   by_cases e:x.kind=6\/x.kind=12;exact cL (yq z.1 K (u x o) e)<|EU _ _;exact aXd FQ<|t x<|u x o
  have hD:Qk C ((M.eP i ((M.aT i).drop C n.no).1).bM F)<=Qk C M+(dR C<|M.cD.set c w l).countP (iZ i):=by
   have D:Qk C ((M.eP i _).bM F)<=eZ _ C.aB.toNat:=iI fun j hj=>by
    show Mc.e2 C _ (F j 2)<=_;rw[J];exact aRo t fun x o=>u x<|qB FQ FQ o
   rw[lT] at D;have θ:=yf (C:=C) (F:=M.cD.set c w l) (p:=iZ i);have ι:eZ (fun j=>Mc.e2 C M _) C.aB.toNat<=Qk C M:=T;omega
  have π:Qn C ((M.eP i ((M.aT i).drop C n.no).1).bM F)<=Qn C M+31*eZ (fun l=>(M.aJ l).1.aH.countP<|iZ i) C.aF:=by
   have D:Qn C ((M.eP i ((M.aT i).drop C n.no).1).bM F)<=eZ (fun l=>mK C M (M.aJ l).1+31*(M.aJ l).1.aH.countP (iZ i)) C.aF:=iI fun l B=>by
    have κ:=np t<|Z l B;have μ:=ε l B;have ν:(26+(M.aJ l).1.aH.length)*(M.aJ l).1.aH.countP _<=31*(M.aJ l).1.aH.countP (iZ i):=o0 _ FQ;grind[mK]
   rw[lT,vG] at D;exact D
  grind[da,bM,Qv,ph]
structure Sp (C:bQ) (M M':bU):Prop where
 aD:M'.aD=M.aD
 bH:M'.bH=M.bH
 eF:M'.eF=M.eF
 kn:∀i g,vS (M'.aT i) g=vS (M.aT i) g
 cD:∀c w,(M'.cD c w).filter (jS C M')=(M.cD c w).filter (jS C M)
 iU:∀l,l<C.aF->∃w,(M'.aJ l).1=(M.aJ l).1.next w
 wt:∀l,l<C.aF->(M'.aJ l).1.aH.filter (jS C M')=(M.aJ l).1.aH.filter (jS C M)
 le:ph C M'<=ph C M
theorem Sp.refl:Sp C M M:=⟨rfl,rfl,rfl,fun _ _=>rfl,fun _ _=>rfl,fun _ _=>⟨_,rfl⟩,fun _ _=>rfl,bb _⟩
def Sp.trans (h:Sp C M M') (b:Sp C M' M2):Sp C M M2:=
 ⟨b.aD.trans h.aD,b.bH.trans h.bH,b.eF.trans h.eF,fun i g=>(b.kn i g).trans<|h.kn i g,fun c w=>(b.cD c w).trans<|h.cD c w,fun l e=>by
  have⟨w,hw⟩:=h.iU l e;have⟨w',hw'⟩:=b.iU l e;exact⟨w',by rw[hw',hw];rfl⟩,fun l e=>(b.wt l e).trans<|h.wt l e,cL b.le h.le⟩
def Mv (C:bQ) (M M':bU):Prop:=M.eF.length<M'.eF.length\/ph C M'<ph C M\/Sp C M M'
theorem Mv.refl:Mv C M M:= .inr (.inr Sp.refl)
theorem Lf {l:IT} (h:F c w=n::l) (b:p n=false) (c' w':Nat):((F.set c w l) c' w').filter p=(F c' w').filter p:=by
 grind[eO.set]
theorem Hj (b:p n=false) (c' w':Nat):((F.A9 n) c' w').filter p=(F c' w').filter p:=by
 unfold eO.A9 eO.set;grind
theorem ig (e:RY C M V) (b:(i:Int)<C.aB) (h:(M.aT i).dM=false):∀x∈dR C M.cD,x.core=(i:Int)->x.kind≠6/\x.kind≠12:=fun x j g=>by
 have f:=e.gG.cw i b;grind[Z5]
theorem aIv (b:cX C N M) {x:aG} (f:x∈dR C M.cD) (e:x.core.toNat=i):x.core=(i:Int):=by
 have⟨c3,w3,_,_,hx3⟩:=uM f;have g:=(fJ (b.cD.yK c3 w3 x hx3).1.gG).2;omega
theorem aOy (hC:C.Ok) (hI:cX C N M) (hR:RY C M V) (K:(i:Int)<C.aB) (ha:qZ C (M.aD i)=some a) (s:vS (M.aT i) a.aR=false):Mv C M (M.Bk C i a.aR).1/\((M.aT i).dM=false->(M.cD i 0=[])->fC M.bH a.aR=false->ph C (M.Bk C i a.aR).1<ph C M):=by
 have J:0<=a.aR/\a.aR<C.aM:=by
  have⟨R,A,_⟩:=F9 ha;have h3:=(bQ.fF hC).1;grind
 have U:(M.aT i).dM=false->(M.aT i).dJ C a.aR=((M.aT i).A3 a.aR,a.aR/4,0):=fun E=>by
  rw[jO.dJ,bD1 fun e=>e J,bD1<|by unfold vS at s;rw[s];simp,bD1<|by rw[E];simp]
 have hsend:(M.cD i 0=[])->(M.cD.gJ C [cN 6 (i:Int)<|a.aR/4]).2=0:=fun he=>by
  have hk:Nt.gG C (cN 6 (i:Int)<|a.aR/4)=0:=by
   have I:=J;have γ:=hC.2.1;rw[Nt.gG];rw[bD2<|show Nv (cN 6 (i:Int)<|a.aR/4).kind by show Nv 6;decide,bD2 hC];have hf:Jd (cN 6 (i:Int)<|a.aR/4).kind.toNat=[1,12]:=rfl;rw[hf];have m1:C6 C 1 (Cn (cN 6 (i:Int)<|a.aR/4) 1):=by show 0<=(i:Int)/\(i:Int)<C.aB;omega
   have m2:C6 C 12 (Cn (cN 6 (i:Int)<|a.aR/4) 12):=by show 0<=a.aR/4/\a.aR/4<20;omega
   rw[jM];rw[bD2 m1];rw[jM];rw[bD2 m2];exact bD2 ⟨rfl,rfl⟩
  rw[eO.gJ];have ζ:aT C [cN 6 (i:Int)<|a.aR/4]=0:=by
   rw[aT];rw[bD1 FR];rfl
  have X:((M.cD (cN 6 (i:Int)<|a.aR/4).core.toNat<|cQ<|cN 6 (i:Int)<|a.aR/4).length:Int)<C.eR:=by
   have e1:(cN 6 (i:Int)<|a.aR/4).core.toNat=i:=aL i;have e2:cQ (cN 6 (i:Int)<|a.aR/4)=0:=rfl;rw[e1,e2,he];have:=hC.2.2.2.2.1;grind
  simp_all[eO.sE,bD2]
 unfold bU.Bk;dsimp only;by_cases R:((M.aT i).dJ C a.aR).2.2≠0;grind[Mv.refl];rw[bD1 R];have E:(M.aT i).dM=false:=by
  cases E:(M.aT i).dM with
  |false=>rfl
  |true=>
   grind[jO.dJ]
 rw[U E];dsimp only;by_cases A:(M.cD.gJ C [cN 6 (i:Int)<|a.aR/4]).2≠0;simp_all[bD2,Mv.refl,absurd];rw[bD1 A];have A:=cb.1 A;have⟨hF,_,_⟩:=sS A;have D:=(gM A).1;have η:=ig hR K E;generalize δ:(M.cD.gJ C _).1=F at hF D ⊢;generalize q:(M.aT i).A3 a.aR=k;have μ:∀g,vS k g=vS (M.aT i) g:=fun g=>HS
 have kw:k.dM=true:=HS
 have kg:k.aR=a.aR:=HS
 have ka:k.at'=k.aR/4:=HS
 have ks:k.kG=false:=HS
 show Mv C M ((M.eP i k).bM F)/\(_->_->_->ph C ((M.eP i k).bM F)<_);generalize hy:cN 6 _ _=y at*;have yk:y.kind=6:=by rw[<-hy];rfl
 have yc:y.core.toNat=i:=by rw[<-hy];exact aL i
 have ek:((M.eP i k).bM F).aT i=k:=cR;have t:∀j g,vS (((M.eP i k).bM F).aT j) g=vS (M.aT j) g:=fun j g=>by
  grind[bM,aT,Ab.bO]
 have β:∀x,x.core.toNat≠i\/(x.kind≠6/\x.kind≠12)->bV C ((M.eP i k).bM F) x=bV C M x:=fun x o=>by
  have ι:uK C ((M.eP i k).bM F) x.core.toNat=uK C M x.core.toNat:=by
   unfold uK yY;cases qZ C _ with
   |none=>rfl
   |some b=>grind
  unfold bV;by_cases e:x.kind=6\/x.kind=12;have ej:((M.eP i k).bM F).aT x.core.toNat=M.aT x.core.toNat:=Ab.bO FR;grind;grind
 have G:∀x∈dR C M.cD,x.core.toNat≠i\/(x.kind≠6/\x.kind≠12):=fun x o=>by
  grind[aIv]
 have T:∀l:Nat,l<C.aF->∀x∈(M.aJ l).1.aH,x.kind≠6/\x.kind≠12:=fun l X x o=>by
  have:=((hR.rY.aI l X).iU.aH x o).2.2;omega
 have B:∀j,F j 2=M.cD j 2:=fun j=>by
  rw[hF];show(if j=y.core.toNat/\2=cQ y then _ else _)=_;have:cQ y=0:=by rw[cQ];rw[yk];rfl
  grind
 have H:∀{p:aG->Bool},p y=false->∀u v,(F u v).filter p=(M.cD u v).filter p:=fun hp u v=>by simp_all[Hj]
 have z:∀{Q:bU},vS (Q.aT i) a.aR=false->tR C Q i a=false:=fun {Q} h=>by
  cases I:tR C Q i a with
  |false=>rfl
  |true=>
   have:=(nB.1 I).kn;grind
 have h7:vS (((M.eP i k).bM F).aT i) a.aR=false:=by rw[t];exact s
 have c0:=rM ha rfl s E<|z s;have c1:=rM (M:=(M.eP i k).bM F) (w:=true) ha rfl h7 FR<|z h7;have α:nQ C ((M.eP i k).bM F) (dR C M.cD)<=nQ C M _:=Ul fun x o=>by
  grind[bM,aT,Ab.bO,nW,zq]
 have Z:∀{b},fC M.bH a.aR=b->bV C _ y=b:=fun {b} h=>by
  rw[bV,bD2<|.inl yk,yc,ek,kg];grind[fC,pJ]
 have O:∀{d a':Nat},hM C _ i+a'<=hM C M i->nW C ((M.eP i k).bM F) y+d<=a'->ph C ((M.eP i k).bM F)+d<=ph C M:=fun {d a'} R A=>by
  have:=vc (M:=M) (k:=k) (F:=F) (e:=0) (f:=0) (a:=a') (x:=0) K FR T (fun j hj x o=>by
   rw[B] at o;exact G x<|qB hj FQ o) (AO<|nL FR) (fun j _ W b I=>Dy W I fun x o=>by
    rcases cg.1 (D.mem_iff.1 o) with o|o;grind[List.mem_singleton,Fo];exact I.ln x o) R (by rw[lY D,tA,hZ];show _+0+_+0+d<=_;omega)
  omega
 cases hlk:fC M.bH a.aR with
 |true=>
  refine⟨.inr<|.inr ⟨rfl,rfl,rfl,t,fun u v=>?_,fun l _=>⟨_,rfl⟩,fun l X=>?_,?_⟩,FR⟩;rw[show(F u v).filter _=(M.cD u v).filter _ from H ID u v];refine DI fun x o=>?_;unfold jS;have Y:=hI.cD.yK u v x o;by_cases ε:(u:Int)<C.aB;by_cases κ:v<4;grind[qB];have:=xT (fJ Y.1.gG).1;omega;grind;grind[List.filter_congr,jS];have:=O (d:=0) (a':=0) FR (by simp_all[Qf,bb]);omega
 |false=>
  have θ:nW C ((M.eP i k).bM F) y=38:=by
   rw[Ga<|Z hlk,bD2<|.inl yk,yc,ek];rw[Bn];grind
  have:=O (d:=1) (a':=40) (by
   grind) FR
  exact⟨.inr FQ,FQ⟩
theorem xC {fs:FK} (hC:C.Ok) (e:n.kind=(k:Int)) (g:1<=k/\k<14) (b:Jd k=fs) (f:jM C n fs (sA k)=(true,n)):Nt.gG C n=0:=by
 rw[Nt.gG,bD2<|show Nv n.kind by unfold Nv;omega,bD2 hC,e,aL,b,f];grind
theorem aTz {k core w:Int} (hC:C.Ok) (b:k=1\/k=2) (e:0<=core/\core<C.aB) (f:0<=l/\l<C.aF) (g:0<=w/\w<=3):Nt.gG C ⟨k,core,l,w,0,0,0,false,0⟩=0:=by
 rcases b with rfl|rfl;apply xC (fs:=[1,2,3]) hC rfl FV rfl;grind[jM,C6,Cn,F8,sA,aG.zero];apply xC (fs:=[1,2,3]) hC rfl FV rfl;grind[jM,C6,Cn,F8,sA,aG.zero]
def aSt {core w:Int} (hC:C.Ok) (e:0<=core/\core<C.aB) (f:0<=l/\l<C.aF) (g:0<=w/\w<=4):Nt.gG C ⟨3,core,l,w,0,d0,d1,b,0⟩=0:=by
 apply xC (fs:=[1,2,4,8,9,10]) hC rfl FV rfl;cases b<;>simp[jM,C6,Cn,F8,sA,aG.zero,e,f,g]
theorem aQw {core:Int} (hC:C.Ok) (b:0<=core/\core<C.aB) (e:0<=l/\l<C.aF):Nt.gG C ⟨4,core,l,0,0,0,0,false,0⟩=0:=by
 apply xC (fs:=[1,2]) hC rfl FV rfl;grind[jM,C6,Cn,F8,sA,aG.zero]
theorem T4 {core s:Int} (hC:C.Ok) (e:0<=core/\core<C.aB) (f:0<=l/\l<C.aF) (g:0<=s/\s<=4):Nt.gG C ⟨5,core,l,0,s,d0,d1,b,0⟩=0:=by
 apply xC (fs:=[1,2,5,8,9,10,11]) hC rfl FV rfl;cases b<;>simp[jM,C6,Cn,F8,sA,aG.zero,e,f,g]
def aQu {core a:Int} (hC:C.Ok) (b:0<=core/\core<C.aB) (e:0<=a/\a<20):Nt.gG C (cN 6 core a)=0:=by
 apply xC (fs:=[1,12]) hC rfl FV rfl;simp[jM,C6,Cn,F8,sA,aG.zero,cN,b,e]
def yg {core:Int} (hC:C.Ok) (b:0<=core/\core<C.aB) (e:0<=g/\g<C.aM):Nt.gG C (cN 7 core g)=0:=by
 apply xC (fs:=[1,13]) hC rfl FV rfl;simp[jM,C6,Cn,F8,sA,aG.zero,cN,b,e]
theorem Tl {core w s:Int} (hC:C.Ok) (b:0<=core/\core<C.aB) (e:0<=l/\l<C.aF) (f:0<=w/\w<=4) (g:s=1\/s=2\/s=4):Nt.gG C ⟨8,core,l,w,s,d0,d1,false,0⟩=0:=by
 apply xC (fs:=[1,2,4,6,8,9]) hC rfl FV rfl;grind[jM,C6,Cn,F8,sA,aG.zero]
def aHn {k core:Int} (hC:C.Ok) (f:k=9\/k=10) (b:0<=core/\core<C.aB) (e:0<=l/\l<C.aF):Nt.gG C (mO k core l)=0:=by
 rcases f with rfl|rfl;apply xC (fs:=[1,2,11]) hC rfl FV rfl;simp[jM,C6,Cn,F8,sA,aG.zero,mO,b,e];apply xC (fs:=[1,2]) hC rfl FV rfl;simp[jM,C6,Cn,F8,sA,aG.zero,mO,b,e]
theorem aJ5 {core s:Int} (hC:C.Ok) (b:0<=core/\core<C.aB) (e:0<=l/\l<C.aF) (f:s=0\/s=1):Nt.gG C {aG.zero with kind:=11,core:=core,aI:=l,state:=s}=0:=by
 apply xC (fs:=[1,2,7]) hC rfl FV rfl;grind[jM,C6,Cn,F8,sA,aG.zero]
def aCc {core w a:Int} (hC:C.Ok) (b:0<=core/\core<C.aB) (e:0<=a/\a<20):Nt.gG C (nZ core w a)=0:=by
 apply xC (fs:=[1,8,9,12]) hC rfl FV rfl;simp[jM,C6,Cn,F8,sA,aG.zero,nZ,cN,b,e]
def aQb {core:Int} (hC:C.Ok) (b:0<=core/\core<C.aB) (e:0<=g/\g<C.aM):Nt.gG C (cN 13 core g)=0:=by
 apply xC (fs:=[1,13]) hC rfl FV rfl;simp[jM,C6,Cn,F8,sA,aG.zero,cN,b,e]
abbrev Mt (l:IT) (n:aG):Nat:=l.countP fun x=>decide<|x.core.toNat=n.core.toNat/\cQ x=cQ n
theorem Yk:∀{l:IT} {F:eO},(∀n∈l,((F n.core.toNat<|cQ n).length:Int)+(Mt l n:Nat)<=C.eR)->∃e,eO.sE C.eR F l=some e
 |[],F,_=>⟨F,rfl⟩
 |y::l,F,h=>by
  have f:=h y eg;rw[Mt,List.countP_cons_of_pos FW] at f;rw[eO.sE,aac];refine Yk fun n g=>?_;have b:=h n<|aW _ g;rw[Mt] at b ⊢;rw[l9] at b;unfold eO.A9 eO.set;grind
theorem aLh:∀{l:IT},(∀n∈l,Nt.gG C n=0)->aT C l=0
 |[],_=>rfl
 |n::l,h=>by
  rw[aT,bD1 FR];exact aLh FR
theorem xM {l:IT} (e:∀n∈l,Nt.gG C n=0) (b:∀n∈l,((F n.core.toNat<|cQ n).length:Int)+(Mt l n:Nat)<=C.eR):(F.gJ C l).2=0:=by
 have⟨F',h⟩:=Yk b;simp_all[eO.gJ,bD1,aLh]
theorem Tu (b:Nt.gG C n=0) (e:((F n.core.toNat<|cQ n).length:Int)<C.eR):(F.gJ C [n]).2=0:=
 xM FR FR
theorem aMh {d e f b:Nat} (o:(i:Int)<C.aB) (x:∀j:Nat,(j:Int)<C.aB->j≠i->∀a,nX C M j a->nX C ((M.kC i s).bM F) j a) (hD:yA C M F<=yA C M M.cD)
  (hA:hM C ((M.kC i s).bM F) i+b<=hM C M i+f) (hB:nQ C M (dR C F)+f+d<=nQ C M (dR C M.cD)+e+b):ph C ((M.kC i s).bM F)+d<=ph C M+e:=by
 have h:bV C ((M.kC i s).bM F)=bV C M:=rG rfl rfl rfl
 have l:nW C ((M.kC i s).bM F)=nW C M:=q8 rfl rfl rfl
 have q:∀L,nQ C _ L=nQ C M L:=fun L=>by unfold nQ;rw[l]
 have t:Mq C ((M.kC i s).bM F)+b<=Mq C M+f:=by
  have w:=rE (f:=hM C<|(M.kC i s).bM F) (g:=hM C M) (k:=i) (n:=C.aB.toNat) FQ fun j y p=>by
   simp_all[bM,Ab.bO,xN]
  unfold Mq;omega
 have u:Qk C _<=Qk C M:=cL (AO<|nL fun i _=>Sk h _) hD
 have v:Qn C _=Qn C M:=nL fun j _=>by unfold mK;rw[sN h]
 grind[da,bM,ph]
theorem zg {w core:Int} {wr:Bool} (h:(Ct.fY C core s l w wr).2.2=0):s.pM=false/\
  ((kR C.aU.toNat C.ways.toNat s.S l=none/\Ct.fY C core s l w wr=({s with al:=l,aw:=wr,pM:=true},[⟨if wr then 2 else 1,core,l,w,0,0,0,false,0⟩],0))\/
   (∃v,kR C.aU.toNat C.ways.toNat s.S l=some v/\(bJ C.aU.toNat s.S v.1).2=0/\
    Ct.fY C core s l w wr=({s with S:=jQ C.aU.toNat s.S v.1,gl:=v.1,gc:=(bJ C.aU.toNat s.S v.1).1,uD:=true,al:=l,aw:=wr,pM:=true},[⟨3,core,v.1,(bJ C.aU.toNat s.S v.1).1.w,0,(bJ C.aU.toNat s.S v.1).1.d.1,(bJ C.aU.toNat s.S v.1).1.d.2,qH (bJ C.aU.toNat s.S v.1).1.st,0⟩,⟨if wr then 2 else 1,core,l,w,0,0,0,false,0⟩],0))):=by
 rw[Ct.fY] at h ⊢
 by_cases b:vK C l=false
 .grind
 rw[bD1 b] at h ⊢
 by_cases e:s.pM=true
 .grind
 rw[bD1 e] at h ⊢
 by_cases f:s.uD=true/\s.gl=l
 .grind
 rw[bD1 f] at h ⊢
 by_cases g:(bJ C.aU.toNat s.S l).2=0/\sZ (bJ C.aU.toNat s.S l).1.st wr=true
 .grind
 rw[bD1 g] at h ⊢
 refine⟨FR,?_⟩
 rw[Ag] at h ⊢
 cases hv:kR C.aU.toNat C.ways.toNat s.S l with
 |none=>exact .inl ⟨rfl,rfl⟩
 |some v=>
  rw[hv] at h
  dsimp only at h ⊢
  by_cases j:s.uD=true
  .grind
  rw[bD1 j] at h ⊢
  by_cases o:(bJ C.aU.toNat s.S v.1).2≠0
  .grind
  rw[bD1 o]
  exact .inr ⟨v,rfl,FQ,rfl⟩
theorem Yi (h:kR C.aU.toNat C.ways.toNat s.S l=none):mX C s l=0:=by grind[mX]
theorem aDt {v:Th} (h:kR C.aU.toNat C.ways.toNat s.S l=some v):mX C s l=12:=by grind[mX]
theorem aC8 {s':jR} {v:Th} (f:iH C s) (b:kR C.aU.toNat C.ways.toNat s.S l=some v) (e:s'.S=jQ C.aU.toNat s.S v.1):mX C s' l=0:=by
 apply Yi;rw[kR] at b;split at b;cases b;split at b;cases b;have g:v∈s.S (cU C.aU.toNat l):=FR
 have⟨hv0,hvs⟩:=f.pl _ v g;have h:=Q8<|yu f g;have j:=(f.aU<|cU C.aU.toNat l).len;rw[kR,e];grind
theorem aQd (hC:C.Ok) (p:RY C M V) (q:(i:Int)<C.aB) (ha:(M.bR i).pM=false) {l:Nat} (t:l<C.aF):
  (∀x∈dR C M.cD,x.core=(i:Int)->x.aI=(l:Int)->x.kind≠1/\x.kind≠2/\x.kind≠8/\x.kind≠9)/\∀x∈(M.aJ l).1.aH,x.core=(i:Int)->x.kind≠1/\x.kind≠2:=by
 have j:=p.rY.aI l t
 have t1:=j.t1 i GA
 have e:(rZ C M.bR l i).qP=false:=by
  show((M.bR i).pM&&_)=false;rw[ha];rfl
 refine⟨fun x g o b=>?_,fun x g o=>?_⟩
 .have f:∀k,x.kind=k->PK k->0<fS k i l _:=fun k s u=>gS (zL.2 ⟨g,b,FR⟩) s o b;refine⟨fun h=>?_,fun h=>?_,fun h=>?_,fun h=>?_⟩
  .have:=f 1 h FV;grind
  .have:=f 2 h FV;grind
  .have:=f 8 h FV;grind
  .have:=f 9 h FV;grind
 .have b:=(j.iU.aH x g).1;grind[gS]
def W1 (e:RY C M V) (b:(i:Int)<C.aB) {o:Int} (h:jC (M.aT i).bL g=some o):o=(M.bH.jX g).owner:=(e.gG.bL i b _<|Gk h).2.1
theorem Ud {w o:Int} (h:yM w o=true):(0<=w/\w<=3)/\0<=o/\o<=4:=by
 grind[yM]
theorem cz (hC:C.Ok) (g:cX C N M) (f:En C M) (b:(i:Int)<C.aB) {w:Int} {wr:Bool} (q:0<=l/\l<C.aF) (j:(M.bR i).pM=false) (o:(M.bR i).uD=false)
  (p:Ct.pK C.aU.toNat (M.bR i).S l (sP M.bH l.toNat) wr=false):(Ct.fY C i (M.bR i) l w wr).2.2=0:=by
 rw[Ct.fY,bD1<|show ¬vK C l=false by unfold vK;grind,bD1 FR,bD1 FR]
 rw[bD1 (fun e=>by
  have s:=f.tc i b l.toNat FQ FR;grind[Int.toNat_of_nonneg,Ct.pK])]
 rw[Ag]
 cases hv:kR C.aU.toNat C.ways.toNat _ l with
 |none=>rfl
 |some v=>
  dsimp only
  rw[bD1 FR]
  have h:(bJ C.aU.toNat (M.bR i).S v.1).2=0:=by
   rw[kR] at hv;split at hv;cases hv;split at hv;cases hv;have⟨h0,hvS⟩:=ew.1 hv;exact yu (g.Pp i b) (by rw[<-hvS];exact AE h0)
  rw[bD1 FR]
  rfl
theorem aR6 (hC:C.Ok) (hI:cX C N M) (hR:RY C M V) (E:En C M) (g:(i:Int)<C.aB) (ha:qZ C (M.aD i)=some a) (A:vS (M.aT i) a.aR=true) (z:yM (M.aD i).aY (M.bH.jX a.aR).owner=true):
  Mv C M (M.fY C i a.aI a.iV).1/\((M.bR i).pM=false->(M.bR i).uD=false->M.cD i 0=[]->2<=C.eR->fC M.bH a.aR=false->Ct.pK C.aU.toNat (M.bR i).S a.aI (M.bH.jX a.aR).owner a.iV=false->ph C (M.fY C i a.aI a.iV).1<ph C M):=by
 have⟨hl0,hl1,hw0,hw1,hacc⟩:=F9 ha
 have α:=hI.Pp i g
 have w:=(Ud z).1
 have ε:((a.aI.toNat:Nat):Int)=a.aI:=FQ
 have γ:((a.aI.toNat/2:Nat):Int)=a.aR:=FR
 have μ:sP M.bH a.aI.toNat=(M.bH.jX a.aR).owner:=by rw[sP];rw[γ]
 have K:(M.aT i).dM=false:=by
  cases hw:(M.aT i).dM with
  |false=>rfl
  |true=>
   have⟨b,G,_,t⟩:=E.w1 i g hw;grind[vS,Option.isSome_iff_exists,He]
 unfold bU.fY
 dsimp only
 by_cases R:(Ct.fY C (i:Int) (M.bR i) a.aI (M.aD i).aY a.iV).2.2≠0
 .grind[Mv.refl,e2,absurd,cz]
 rw[bD1 R]
 have R:=cb.1 R
 have⟨hais,hcase⟩:=zg R
 have⟨hno,hnow⟩:=aQd hC hR g hais (l:=a.aI.toNat) FQ
 rw[ε] at hno
 have Q:tR C M i a=false:=by
  cases u:tR C M i a with
  |false=>rfl
  |true=>have:=(nB.1 u).pM;grind
 generalize U:(⟨_,_,_,_,0,0,0,_,0⟩:aG)=y at*
 have yc:y.core=(i:Int):=by rw[<-U]
 have yk:y.kind=1\/y.kind=2:=by
  grind
 have yl:y.aI=a.aI:=by rw[<-U]
 have yw:y.aY=(M.aD i).aY:=by rw[<-U]
 have ξ:Nt.gG C y=0:=by
  rw[<-U];exact aTz hC FR ⟨FQ,g⟩ ⟨hl0,hl1⟩ w
 have ι:cQ y=0:=by
  rw[cQ];rcases yk with h|h<;>rw[h]<;>rfl
 have yZ:∀{s:jR} {F:eO} {out:IT},s.pM=true->s.al=a.aI->s.aw=a.iV->(dR C F).Perm (out++dR C M.cD)->(∀x∈out,x=y\/x.kind=3)->nX C ((M.kC i s).bM F) i a:=fun {s F out} e1 e2 e3 hp ho=>by
  have ei:((M.kC i s).bM F).bR i=s:=cR;refine⟨FR,FR,fun h=>FR,A,z,fun x q=>?_,fun x q=>?_⟩;rcases cg.1 (hp.mem_iff.1 q) with q|q;rcases ho x q with h|h;refine cr fun G=>?_;grind;grind[Fo];refine cr fun G=>?_;grind;refine cr fun G=>?_;have:=hnow x q G.1;have h0:=((hR.rY.aI a.aI.toNat FQ).iU.aH x q).2.2;omega
 have others:∀{s:jR} {F:eO} {out:IT},(dR C F).Perm _->(∀x∈out,x=y\/x.kind=3)->∀j:Nat,(j:Int)<C.aB->j≠i->∀b,nX C M j b->nX C ((M.kC i s).bM F) j b:=fun {s F out} hp ho j _ δ b u=>by
  have X:((M.kC i s).bM F).bR j=M.bR j:=Ab.bO δ;refine⟨by rw[X];exact u.pM,by rw[X];exact u.al,by rw[X];exact u.aw,u.kn,u.Nw,fun x q=>?_,u.wt⟩;rcases cg.1 (hp.mem_iff.1 q) with q|q;rcases ho x q with h|h;refine cr fun G=>?_;grind;exact Fo FQ;exact u.ln x q
 have c0:=rM ha rfl A K Q
 have W:∀{s:jR} {F:eO},nX C _ i a->hM C _ i=mX C s a.aI+34:=fun {s F} u=>by
  rw[rM (M:=(M.kC i s).bM F) ha rfl A K<|nB.2 u];grind[bM,cR]
 have κ:bV C M y=fC M.bH a.aR:=by
  rw[bV];rw[aaa,aac,yl,yc,aL];unfold uK yY;grind
 have yW:nW C M y=if fC M.bH a.aR then 0 else 32:=by
  cases hlk:fC M.bH a.aR with
  |true=>grind[Qf]
  |false=>
   rw[Ga<|κ.trans hlk,aaa];grind[Qv]
 rcases hcase with⟨T,e⟩|⟨v,T,I,e⟩
 .rw[e];dsimp only;by_cases t:(M.cD.gJ C [y]).2≠0
  .grind[Mv.refl,absurd,Tu]
  rw[bD1 t]
  have t:=cb.1 t
  have o:=(gM t).1
  have hE:=Ir (M:=M) t FR
  have Y:[y].countP (fun x=>decide<|cQ x=2/\jS C M x=true)=0:=AR.2 FR
  have⟨hF,_,_⟩:=sS t
  generalize Z:(M.cD.gJ C [y]).1=F at hF o hE ⊢
  generalize D:({M.bR i with al:=a.aI,aw:=a.iV,pM:=true}:jR)=s
  have β:=yZ (s:=s) (by rw[<-D]) (by rw[<-D]) (by rw[<-D]) o FR
  have η:mX C s a.aI=0:=by rw[<-D];exact Yi T
  show Mv C M ((M.kC i s).bM F)/\(_->_->_->_->_->_->ph C ((M.kC i s).bM F)<_)
  have O:∀{d b:Nat},hM C ((M.kC i s).bM F) i+b<=hM C M i->nW C M y+d<=b->ph C ((M.kC i s).bM F)+d<=ph C M:=fun {d b} g1 g2=>by
   have:=aMh (M:=M) (e:=0) (f:=0) (b:=b) g (others o FR) FQ g1 (by rw[lY o,tA,hZ];show _+0+_+0+d<=_;omega);omega
  cases hlk:fC M.bH a.aR with
  |true=>
   have ζ:bV C ((M.kC i s).bM F)=bV C M:=rG rfl rfl rfl
   have π:=B7 ζ
   refine⟨.inr<|.inr ⟨rfl,rfl,rfl,fun _ _=>rfl,fun c' w'=>?_,fun l _=>⟨_,rfl⟩,FR,?_⟩,FR⟩
   .simp_all[Hj,jS]
   .have:=O (d:=0) (b:=0) FR FR;omega
  |false=>
   have:=O (d:=1) (b:=34) FR FR
   exact⟨.inr FQ,FQ⟩
 .rw[e];dsimp only;generalize B:(⟨3,_,v.1,_,0,_,_,_,0⟩:aG)=p at*;have pk:p.kind=3:=by rw[<-B]
  have pc:p.core=(i:Int):=by rw[<-B]
  have θ:cQ p=0:=by rw[cQ];rw[pk];rfl
  have J:0<=v.1/\v.1<C.aF:=⟨uv I,(hR.rY.Bi i GA).bd _ I⟩
  have ν:Nt.gG C p=0:=by
   rw[<-B];apply aSt hC ⟨FQ,g⟩ J;have ht:=E.tc i g v.1.toNat FQ FR;rw[CV J.1] at ht;rw[ht];have h3:=(bQ.fF hC).1;have h4:=hI.bH.len;exact hI.bH.jX ⟨FQ,FQ⟩
  by_cases t:(M.cD.gJ C [p,y]).2≠0
  .rw[bD2 t];refine⟨Mv.refl,fun _ _ e3 e4 _ _=>absurd (xM (fun x q=>?_) fun x q=>?_) t⟩
   .grind
   grind
  rw[bD1 t]
  have t:=cb.1 t
  have o:=(gM t).1
  have H:∀x∈[p,y],x=y\/x.kind=3:=FR
  have hE:=Ir (M:=M) t fun x q=>FR
  have Y:[p,y].countP (fun x=>decide<|cQ x=2/\jS C M x=true)=0:=AR.2 fun x q=>by
   grind
  generalize Z:(M.cD.gJ C _).1=F at o hE ⊢
  generalize D:({M.bR i with S:=jQ C.aU.toNat _ v.1,gl:=v.1,gc:=(bJ C.aU.toNat _ v.1).1,uD:=true,al:=a.aI,aw:=a.iV,pM:=true}:jR)=s
  have η:mX C s a.aI=0:=aC8 α T (by rw[<-D])
  have ο:=aDt T
  show Mv C M ((M.kC i s).bM F)/\(_->_->_->_->_->_->ph C ((M.kC i s).bM F)<_)
  have pW:nW C M p=10:=by rw[Ni FQ,pk];rfl
  have:ph C ((M.kC i s).bM F)+1<=ph C M:=by
   have:=aMh (M:=M) (s:=s) (F:=F) (i:=i) (d:=1) (e:=0) (f:=0) (b:=if fC M.bH a.aR then 12 else 46) g (others o H) FQ (by
     grind) (by
     rw[lY o,tA,hZ,hZ,pW,yW];show 10+(_+0)+_+0+1<=_;grind)
   omega
  exact⟨.inr FQ,FQ⟩
theorem aP1 {k:Mon} {a:Mc.Np} (h:(k.call aB a).2.2=0):k.kJ a.aR/\k.phase a.aR=0/\∃r,r.phase=1/\r.core=a.core/\k.call aB a=((k.oL a.aR.toNat ⟨(k.jX a.aR).owner,true⟩).dL a.aR.toNat<|some r,true,0):=by
 rw[Mon.call] at h ⊢;by_cases b:¬(0<=a.core/\a.core<aB);grind;rw[bD1 b] at h ⊢;by_cases e:¬k.kJ a.aR;grind;rw[bD1 e] at h ⊢;by_cases f:k.phase a.aR≠0;grind;rw[bD1 f] at h ⊢;by_cases g:k.gZ a.core=true;grind;rw[bD1 g] at h ⊢;by_cases j:(jK a.call a.aY (k.jX a.aR).owner a.to).2.2≠0;grind;rw[bD1 j];exact⟨FR,FQ,_,rfl,rfl,rfl⟩
theorem aA4:nQ C M (sB aB g)=2*aB.toNat/\up2 C M (sB aB g)=0:=by
 rw[sB];have:∀l:FL,nQ C M (l.map fun i:Nat=>cN 13 i g)=2*l.length/\up2 C M (l.map fun i:Nat=>cN 13 i g)=0:=by
  intro l;induction l with
  |nil=>exact⟨rfl,rfl⟩
  |cons x l b=>
   rw[k7,hZ,b.1];have e:nW C M (cN 13 (x:Int) g)=2:=by
    rw[Ni<|by show(13:Int)≠6/\(13:Int)≠12/\(13:Int)≠1/\(13:Int)≠2/\(13:Int)≠9;decide];rfl
   refine⟨FX,?_⟩;exact b.2
 grind
theorem zT {x:aG} (h:x∈sB aB g):∃i:Nat,(i:Int)<aB/\x=cN 13 i g:=by
 grind[sB]
theorem qt:Mt (sB aB g) (cN 13 (i:Int) g)<=1:=by
 unfold Mt sB;rw[List.countP_map];have:∀n,(List.range n).countP ((fun x=>decide<|x.core.toNat=(cN 13 (i:Int) g).core.toNat/\cQ x=cQ (cN 13 (i:Int) g))∘fun j:Nat=>cN 13 (j:Int) g)<=if i<n then 1 else 0:=by
  intro n;induction n with
  |zero=>grind
  |succ n o=>
   rw[ep,AK];by_cases e:n=i;grind;have f:List.countP ((fun x=>decide<|x.core.toNat=(cN 13 (i:Int) g).core.toNat/\cQ x=cQ (cN 13 (i:Int) g))∘fun j:Nat=>cN 13 (j:Int) g) [n]=0:=by
    refine AR.2 fun x b=>?_;rw[aV.1 b];intro h;have l:(n:Int).toNat=(i:Int).toNat:=(c8 h).1;omega
   grind
 grind
theorem Mf {v code:Int} (h:(aQ.bK (M.aD i) i v code).2.2=0):M.eF.length<(M.bK i v code).1.eF.length:=by
 unfold bU.bK;grind
theorem ze (hC:C.Ok) (E:cX C N M) (hR:RY C M V) (α:(i:Int)<C.aB) {ak:Mc.Np} (t:aQ.xW (M.aD i) i=some ak) (δ:M.bH.gZ i=false):
  Mv C M (M.call C i ak).1/\((∀j,M.cD j 3=[])->M.eF.length<(M.call C i ak).1.eF.length\/ph C (M.call C i ak).1<ph C M):=by
 have Y:ak.core=i:=by obtain⟨x,_,_,rfl⟩:=aa t;rfl
 have Q:=E.bH.len
 have J:=hC.2.1
 have u:jE C (M.bH.call C.aB ak).1:=jb E.bH
 unfold bU.call
 dsimp only
 by_cases A:(M.bH.call C.aB ak).2.2≠0
 .rw[bD2 A];have:=Mf (v:=0) (code:=(M.bH.call C.aB ak).2.2)<|aAc t;exact⟨.inl this,FQ⟩
 rw[bD1 A]
 have A:=cb.1 A
 have⟨hhas,hph0,rr,hr1,hrc,e⟩:=aP1 A
 have⟨g,hg⟩:=ay hhas.1
 have Z:(g:Int)<C.aM:=by have:=hhas.2;omega
 rw[hg,aL] at e
 rw[hg] at hph0 hhas
 by_cases w:(M.cD.gJ C<|sB C.aB ak.aR).2≠0
 .rw[bD2 w];refine⟨Mv.refl,fun hl=>absurd (xM (fun x q=>?_) fun x q=>?_) w⟩
  .obtain⟨j,z,rfl⟩:=zT q;exact aQb hC ⟨FQ,z⟩ FQ
  .obtain⟨j,z,rfl⟩:=zT q;have:cQ (cN 13 (j:Int) ak.aR)=3:=rfl;have T:=qt (aB:=C.aB) (g:=ak.aR) (i:=j);have:=hC.2.2.2.2.1;grind
 rw[bD1 w]
 have w:=cb.1 w
 rw[e] at u ⊢
 dsimp only at u ⊢
 have y:=(gM w).1
 have hE:=Ir (M:=M) w fun x q=>by obtain⟨j,_,rfl⟩:=zT q;show(13:Int)≠12;decide
 have I:(sB C.aB ak.aR).countP (fun x=>decide<|cQ x=2/\jS C M x=true)=0:=aA4.2
 rw[I] at hE
 generalize hF:(M.cD.gJ C _).1=F at y hE ⊢
 have hn:=x5 E hph0
 generalize K:(M.bH.oL g _).dL g _=k at*
 suffices h:ph C ((M.bM F).jI k)+1<=ph C M from⟨.inr FQ,FQ⟩
 have s:∀x:Int,(k.jX x).owner=(M.bH.jX x).owner/\((M.bH.jX x).lB=true->(k.jX x).lB=true):=fun x=>by
  grind[Mon.jX,Mon.oL,Mon.dL]
 have ζ:∀x:Int,fC M.bH x=true->fC k x=true:=fun x=>(s x).2
 have D:∀x,k.eI x=if x=g then some rr else M.bH.eI x:=fun x=>by
  rw[<-K];rfl
 have B:∀x,rc k x=if x=g then some (i:Int) else rc M.bH x:=fun x=>by
  unfold rc;grind
 have G:∀j:Int,M.bH.gZ j=true->k.gZ j=true:=fun j z=>by
  have⟨g0,h0⟩:=(tT hC E.bH).1 z;refine(tT hC u).2 ⟨g0,?_⟩;rw[B,bD1];exact h0;grind[rc]
 have ε:=(tT hC u).2 ⟨g,by rw[B,bD2 rfl]⟩
 have R:∀j:Nat,uK C M j=true->uK C ((M.bM F).jI k) j=true:=fun j=>by
  unfold uK yY;grind
 have p:∀x,bV C M x=true->bV C ((M.bM F).jI k) x=true:=fun x=>by
  grind[bV]
 have hB:nQ C _ (dR C M.cD)<=nQ C M _:=Ul fun x q=>by
  by_cases ek:x.kind=6\/x.kind=12;cases hs:bV C M x with
  |true=>rw[Qf<|p x hs];grind
  |false=>
   cases hs':bV C _ x with
   |true=>rw[Qf hs'];grind
   |false=>simp_all[Ga,bD2,bb]
  simp_all[zq]
 have W:nQ C ((M.bM F).jI k) (dR C F)<=nQ C M (dR C M.cD)+8:=by
  rw[lY y,tA,aA4.1];have:=hC.1;omega
 have hD:Qk C _<=Qk C M:=cL (iI fun j _=>z6 fun x _=>p x) hE
 have X:Qn C _<=Qn C M:=iI fun l _=>by
  unfold mK;exact BP (M3 fun x _=>p x) _
 have hU:da C ((M.bM F).jI k)=da C M+30:=by
  have:=pS (f:=Cg k) (g:=Cg M.bH) (k:=g) (n:=C.aM.toNat) FQ fun j _ z=>by
   unfold Cg;rw[D,bD1 z]
  have H:Cg k g=30:=by rw[Cg];grind
  have e2:Cg M.bH g=0:=by rw[Cg];rw[hn]
  rw[H,e2] at this;exact this
 have hA:Mq C ((M.bM F).jI k)+40<=Mq C M:=by
  have U:=rE (f:=hM C<|(M.bM F).jI k) (g:=hM C M) (k:=i) (n:=C.aB.toNat) FQ fun j _ β=>by
   unfold hM;cases hb:qZ C _ with
   |none=>
    grind
   |some b=>
    by_cases T:fC M.bH b.aR=true;grind;by_cases h4:fC k b.aR=true;grind;have O:tR C M j b=true->tR C ((M.bM F).jI k) j b=true:=fun O=>by
     have o:=nB.1 O;refine nB.2 ⟨o.pM,o.al,o.aw,o.kn,by rw[show(((M.bM F).jI k).bH.jX b.aR).owner=_ from(s b.aR).1];exact o.Nw,fun x q=>?_,fun x q=>?_⟩;rw[show(((M.bM F).jI k).bH.jX b.aR).owner=_ from(s b.aR).1];rcases cg.1 (y.mem_iff.1 q) with q|q;obtain⟨j2,_,rfl⟩:=zT q;exact Fo (by show(13:Int)≠9/\(13:Int)≠1/\(13:Int)≠2;decide);exact o.ln x q;rw[show(((M.bM F).jI k).bH.jX b.aR).owner=_ from(s b.aR).1];exact o.wt x q
    grind
  have γ:qZ C (M.aD i)=none:=by rw[qZ];rw[Rq t]
  have H:hM C M i=40:=by
   rw[hM];grind
  have e2:hM C ((M.bM F).jI k) i=0:=by
   rw[hM];grind
  rw[H,e2] at U;unfold Mq;omega
 unfold ph
 grind
def sa (C:bQ) (M M':bU):Prop:=M.eF.length<M'.eF.length\/ph C M'<ph C M
def sa.mv (h:sa C M M'):Mv C M M':=by
 rcases h with h|h;exact .inl h;exact .inr<|.inl h
structure aT3 (C:bQ) (M:bU) (i:Nat):Prop where
 dM:(M.aT i).dM=false
 pM:(M.bR i).pM=false
 uD:(M.bR i).uD=false
 l0:M.cD i 0=[]
 l3:∀j,M.cD j 3=[]
 dep:2<=C.eR
 lk:∀g,0<=g->g<C.aM->fC M.bH g=false
 wd:0<=(M.aD i).aY/\(M.aD i).aY<=3
theorem Yl (hC:C.Ok) (w:cX C N M) (q:RY C M V) (p:En C M) (h:(i:Int)<C.aB) (b:aQ.iG (M.aD i)=some a):
  Mv C M (M.eK C i a).1/\(aT3 C M i->sa C M (M.eK C i a).1):=by
 rw[bU.eK]
 by_cases l:0<=a.dD/\a.dD<C.aF*2
 rotate_left
 .rw[bD2 l];have:=Mf (v:=0)<|Ld b<|.inr rfl;exact⟨.inl this,fun _=> .inl this⟩
 rw[aaa]
 have s:qZ C (M.aD i)=some a:=by rw[qZ];rw[b];exact bD2 l
 have g:0<=a.aR/\a.aR<C.aM:=by
  have⟨h1,h2,_⟩:=F9 s;have z:=(bQ.fF hC).1;grind
 dsimp only
 show Mv C M (if((M.aT i).uC C _ a.aR).2≠0 then(M,((M.aT i).uC C _ a.aR).2)
  else if((M.aT i).uC C _ a.aR).1=3 then M.Bk C i a.aR
  else if((M.aT i).uC C _ a.aR).1=2 then M.bK i 0 19
  else if Ct.pK C.aU.toNat _ a.aI (M.bL i a.aR) a.iV=false then M.fY C i a.aI a.iV
  else M.kD C i a.aI _ (M.bL i a.aR) a).1/\(_->sa C M (if((M.aT i).uC C _ a.aR).2≠0 then(M,((M.aT i).uC C _ a.aR).2)
  else if((M.aT i).uC C _ a.aR).1=3 then M.Bk C i a.aR
  else if((M.aT i).uC C _ a.aR).1=2 then M.bK i 0 19
  else if Ct.pK C.aU.toNat _ a.aI (M.bL i a.aR) a.iV=false then M.fY C i a.aI a.iV
  else M.kD C i a.aI _ (M.bL i a.aR) a).1)
 by_cases j:0<=(M.aD i).aY/\(M.aD i).aY<=3
 rotate_left
 .have e:(M.aT i).uC C (M.aD i).aY a.aR=(0,10):=by rw[jO.uC];rw[aaa]
  rw[e,aac]
  exact⟨Mv.refl,fun f=>absurd f.wd j⟩
 cases hkn:jC _ a.aR with
 |none=>
  have e:(M.aT i).uC C (M.aD i).aY a.aR=(3,0):=by rw[jO.uC];rw[bD2 ⟨g,j⟩,hkn]
  rw[e,bD1 FV,bD2 rfl]
  have⟨h1,h2⟩:=aOy hC w q h s (by rw[vS];rw[hkn];rfl)
  exact⟨h1,fun f=> .inr (h2 f.dM f.l0<|f.lk _ g.1 g.2)⟩
 |some o=>
  have y:=W1 q h hkn
  have t:M.bL i a.aR=(M.bH.jX a.aR).owner:=by rw[bU.bL];rw[hkn,<-y];rfl
  by_cases x:yM (M.aD i).aY o=true
  rotate_left
  .have e:(M.aT i).uC C (M.aD i).aY a.aR=(2,0):=by rw[jO.uC];grind
   rw[e,bD1 FV,bD1 FV,bD2 rfl]
   have:=Mf (v:=0)<|Ld b<|.inr rfl
   exact⟨.inl this,fun _=> .inl this⟩
  have e:(M.aT i).uC C (M.aD i).aY a.aR=(1,0):=by rw[jO.uC];grind
  rw[e,bD1 FV,bD1 FV,bD1 FV,t]
  split
  .rename_i u;have⟨h1,h2⟩:=aR6 hC w q p h s (by rw[vS];rw[hkn];rfl) FR;exact⟨h1,fun f=> .inr (h2 f.pM f.uD f.l0 f.dep (f.lk _ g.1 g.2) u)⟩
  .have:=Mf (M:=M.kC i<|if a.iV=true then mQ C (if a.F4=true then pG C (M.bR i) a.aI (a.dD % 2) (M.bH.jX a.aR).owner else M.bR i) a.aI (a.dD % 2) (M.bH.jX a.aR).owner a.value else(if a.F4=true then pG C (M.bR i) a.aI (a.dD % 2) (M.bH.jX a.aR).owner else M.bR i)) (v:=if a.F4=true then Iu C (M.bR i) a.aI (a.dD % 2) else 0)<|Ld b<|.inl rfl;exact⟨.inl this,fun _=> .inl this⟩
theorem aFa (q:cX C N M) (g:(i:Int)<C.aB) (s:(M.aD i).over=false) (l:aQ.lI (M.aD i) i=none) (p:aQ.xW (M.aD i) i=none):∃a,aQ.iG (M.aD i)=some a:=by
 have j:=q.B6 i g;have h:aQ.kO (M.aD i)=some (mW (M.aD i).prog (M.aD i).at'):=by rw[aQ.kO];rw[bD1 FR]
 have f:G7 (M.aD i).prog (M.aD i).at'=false:=by rw[<-j.2.2.1];exact s
 have t:=(Sl<|j.2.2.2.2 _<|Di j.1<|D1 f).1;have o:(mW (M.aD i).prog (M.aD i).at').op≠11:=by
  rw[G7] at f;grind
 generalize mW _ _=x at*;rw[aQ.lI,h] at l;rw[aQ.xW,h] at p;rw[aQ.iG,h];have b:x.op=3\/x.op=4\/x.op=5:=by
  apply hK;intro e;have:x.op=1\/x.op=2\/x.op=6\/x.op=7\/x.op=8\/x.op=9\/x.op=10:=FQ
  rcases this with k|k|k|k|k|k|k;grind;grind;grind;grind;grind;grind;grind
 exact⟨_,bD2<|cj b⟩
theorem Zh (hC:C.Ok) (g:cX C N M) (h:RY C M V) (b:En C M):Mv C M (M.step C A).1:=by
 rw[bU.step];by_cases f:0<=A/\A<C.aB;rotate_left;simp_all[bD2,Mv.refl];rw[bD1 fun e=>e f];dsimp only;split;exact Mv.refl;split;exact Mv.refl;split;refine .inl ?_;grind;grind[ze,bU.aH,Yl,Mv.refl]
theorem aNu (hC:C.Ok) (f:cX C N M) (g:RY C M V) (e:En C M) (b:(i:Int)<C.aB) (h:aT3 C M i) (l:(M.aD i).over=false) (j:M.bH.gZ (i:Int)=false):sa C M (M.step C (i:Int)).1:=by
 rw[bU.step,aaa];rw[aL,bD1 FR,bD1<|by grind[bU.aH]];cases h1:aQ.lI _ i with
 |some r=>
  refine .inl ?_;grind
 |none=>
  cases h2:aQ.xW _ i with
  |some a=>exact(ze hC f g b h2 j).2 h.l3
  |none=>
   grind[aFa,Yl]
theorem X1 {k:jO} (o:∀g,vS k g=vS (M.aT i) g) {x:aG} (p:x.core.toNat≠i\/(x.kind≠6/\x.kind≠12)):bV C ((M.eP i k).bM F) x=bV C M x:=by
 have f:∀j g,vS (((M.eP i k).bM F).aT j) g=vS (M.aT j) g:=fun j g=>by
  grind[bM,aT,cR,Ab.bO]
 have h:uK C ((M.eP i k).bM F) x.core.toNat=uK C M x.core.toNat:=by
  unfold uK yY;cases qZ C _ with
  |none=>rfl
  |some b=>grind
 unfold bV;by_cases e:x.kind=6\/x.kind=12;have l:((M.eP i k).bM F).aT x.core.toNat=M.aT x.core.toNat:=Ab.bO FR;grind;grind
theorem aOz {k:jO} (b:∀g,vS k g=vS (M.aT i) g):∀j g,vS (((M.eP i k).bM F).aT j) g=vS (M.aT j) g:=fun j g=>by
 grind[bM,aT,cR,Ab.bO]
theorem aAw (h:jS C M n=false):bV C M n=true:=ID
theorem I9 (h:bV C M n=true):n.kind=6\/n.kind=12\/n.kind=1\/n.kind=2\/n.kind=9:=by
 grind[Pf]
theorem aUd (p:cX C N M) {l:IT} (o:M.cD c w=n::l) (q:n.kind=1\/n.kind=2) (s:bV C M n=true) (f:Ji C M c w n l) (hle:ph C (M.dE C (c:Int) (w:Int) 0).1<=ph C M):Sp C M (M.dE C (c:Int) (w:Int) 0).1:=by
 have j:M.dF C n=(M.mJ<|bA M.aJ n.aI.toNat ((M.aJ n.aI.toNat).1.lE n,(M.aJ n.aI.toNat).2),[],0):=by
  rw[bU.dF];rw[aac];have:eW C M.aJ n=(bA M.aJ n.aI.toNat ((M.aJ n.aI.toNat).1.lE n,(M.aJ n.aI.toNat).2),[],0):=by
   rw[eW];rw[bD1<|by grind[Go.Hm.dF],bD2 ⟨(fJ f.gG).2,pb f.gG FQ⟩];have:iN.take (M.aJ n.aI.toNat) n.aI n=(((M.aJ n.aI.toNat).1.lE n,(M.aJ n.aI.toNat).2),[],0):=by
    rw[iN.take];rw[aaa,aaa]
   rw[this]
  rw[this]
 rw[f.e,j] at hle ⊢;have b:bV C ((M.mJ<|bA M.aJ n.aI.toNat ((M.aJ n.aI.toNat).1.lE n,(M.aJ n.aI.toNat).2)).bM ((M.cD.set c w l).gJ C []).1)=bV C M:=rG rfl rfl rfl;refine⟨rfl,rfl,rfl,fun _ _=>rfl,fun h g=>?_,fun k _=>?_,fun k _=>?_,hle⟩;rw[B7 b];exact Lf o ID h g;show∃g,(bA M.aJ n.aI.toNat _ k).1=_;by_cases e:k=n.aI.toNat;subst e;rw[cR];exact⟨_,rfl⟩;rw[Ab.bO e];exact⟨_,rfl⟩;rw[B7 b];show List.filter _ (bA M.aJ n.aI.toNat _ k).1.aH=_;by_cases e:k=n.aI.toNat;subst e;rw[cR];show List.filter _ ((M.aJ n.aI.toNat).1.aH++[n])=_;grind[List.filter_cons_of_neg,jS];grind[Ab.bO]
theorem aQz {l:IT} (o:M.cD c w=n::l) (j:n.kind=9) (q:bV C M n=true) (h:Ji C M c w n l) (hle:ph C (M.dE C (c:Int) (w:Int) 0).1<=ph C M):Sp C M (M.dE C (c:Int) (w:Int) 0).1:=by
 obtain⟨s,e,g⟩:∃s e,M.dF C n=(M.kC n.core.toNat s,[],e):=by
  rw[bU.dF,aaa,aac];rw[fP,aaa,bD2 j];split;grind;rw[Bm];split;grind;split<;>exact⟨_,_,rfl⟩
 rw[h.e,g] at hle ⊢;have b:bV C ((M.kC n.core.toNat s).bM ((M.cD.set c w l).gJ C []).1)=bV C M:=rG rfl rfl rfl;refine⟨rfl,rfl,rfl,fun _ _=>rfl,fun f p=>?_,fun k _=>⟨_,rfl⟩,fun k _=>by rw[B7 b],hle⟩;rw[B7 b];exact Lf o ID f p
theorem aNf (hC:C.Ok) (o:cX C N M) (s:RY C M V) {l:IT} (hc:(c:Int)<C.aB) (t:M.cD c w=n::l) (p:n.kind=6) (v:bV C M n=true) (f:Ji C M c w n l) (hle:ph C (M.dE C (c:Int) (w:Int) 0).1<=ph C M):Sp C M (M.dE C (c:Int) (w:Int) 0).1:=by
 have g:=(Ng o t).1;have u:=mo hC o s hc g p f.cI;have e:=f.s0;rw[f.e] at hle ⊢;rw[tk6 p] at hle e ⊢;generalize q:nZ n.core _ n.no=y at*;have j:y.core=n.core:=HS
 have h:fC M.bH (M.aT c).aR=true:=by
  rw[bV] at v;grind
 have x:bV C M y=true:=by
  rw[bV];rw[bD2<|.inr HS,j,f.core,h];rw[pJ];cases h1:(yE C _ y).2.2.1 with
  |false=>simp
  |true=>grind
 have⟨hF,_,_⟩:=sS e;generalize((M.cD.set c w l).gJ C [y]).1=F at hF hle ⊢;have b:bV C (M.bM F)=bV C M:=rG rfl rfl rfl;refine⟨rfl,rfl,rfl,fun _ _=>rfl,fun z A=>?_,fun k _=>⟨_,rfl⟩,fun k _=>by rw[B7 b],hle⟩;rw[B7 b];simp_all[Hj,jS,Lf]
theorem aDm (hC:C.Ok) (K:cX C N M) (O:RY C M V) {l:IT} (hc:(c:Int)<C.aB) (E:M.cD c w=n::l) (Q:n.kind=12) (Z:bV C M n=true) (s:Ji C M c w n l) (hle:ph C (M.dE C (c:Int) (w:Int) 0).1<=ph C M):Sp C M (M.dE C (c:Int) (w:Int) 0).1:=by
 have B:=(Ng K E).1;have v:=s.t0;have b:=s.s0;rw[s.e] at hle ⊢;rw[aY0 Q s.core] at hle b v ⊢;have A:=O.gG.cI s.cI;have H:fC M.bH (M.aT c).aR=true/\pJ C (M.aT c) n=false:=by
  rw[bV] at Z;grind
 have goes:∀(k:jO) (g:Int),k.bL=(M.aT c).bL->k.aR=(M.aT c).aR->((M.cD.set c w l).gJ C [cN 6 n.core g]).2=0->ph C ((M.eP c k).bM ((M.cD.set c w l).gJ C [cN 6 n.core g]).1)<=ph C M->Sp C M ((M.eP c k).bM ((M.cD.set c w l).gJ C [cN 6 n.core g]).1):=by
  intro k g T e2 U W;have t:∀z,vS k z=vS (M.aT c) z:=fun z=>by unfold vS;rw[T]
  have⟨hF,_,_⟩:=sS U;have J:((M.eP c k).bM ((M.cD.set c w l).gJ C [cN 6 n.core g]).1).aT c=k:=cR;have I:bV C ((M.eP c k).bM ((M.cD.set c w l).gJ C [cN 6 n.core g]).1) (cN 6 n.core g)=true:=by
   rw[bV];rw[bD2<|.inl rfl,show(cN 6 n.core g).core.toNat=c from s.core,J,e2];show(fC M.bH _&&_)=true;rw[H.1];rw[pJ];rw[cr<|by show ¬(6:Int)=12;decide];rfl
  have o:=W;generalize((M.cD.set c w l).gJ C _).1=F at hF I o J ⊢;have G:∀f j,∀x∈(M.cD.set c w l) f j,x.core.toNat≠c\/(x.kind≠6/\x.kind≠12):=fun f j x y=>by
   have h:=K.cD.yK f j x<|aB2 E y;by_cases e:x.core.toNat=c;right;exact(Rp A hc B<|.inr Q) x (qB FQ (by rw[<-h.2.2];exact xT (fJ h.1.gG).1) y) (by have:=(fJ h.1.gG).2;omega);grind
  refine⟨rfl,rfl,rfl,aOz t,fun f j=>?_,fun k _=>⟨_,rfl⟩,fun k D=>?_,o⟩;have X:(F f j).filter (jS C<|(M.eP c k).bM F)=((M.cD.set c w l) f j).filter (jS C<|(M.eP c k).bM F):=by
   have:∀p:aG->Bool,p _=false->(F f j).filter p=((M.cD.set c w l) f j).filter p:=fun p Y=>by rw[hF,Hj Y]
   exact this _ ID
  rw[X,<-Lf E ID f j];grind[List.filter_congr,jS,X1];refine DI fun x y=>?_;unfold jS;rw[X1 t<|.inr<|by have:=((O.rY.aI _ D).iU.aH x y).2.2;omega]
 have⟨hwk,h,hcase⟩:=N3 v;rcases hcase with⟨q,e⟩|⟨q,R,u,e⟩|⟨q,R,e⟩|⟨q,R,u,e⟩;rw[e] at b hle ⊢;exact goes _ _ rfl rfl b hle;rw[e] at b hle ⊢;exact goes _ _ rfl rfl b hle;rw[e] at b hle ⊢;exact goes _ _ rfl rfl b hle;grind[pJ,decide_eq_true]
theorem aM3 (z:RY C M V) {w:IT} (l:k<C.aF) (t:(M.aJ k).1.aH=n::w) (s:bV C M n=true) (h:(M.dJ C (k:Int)).2=0) (hle:ph C (M.dJ C (k:Int)).1<=ph C M):Sp C M (M.dJ C (k:Int)).1:=by
 have⟨hnl,hnc,hnk⟩:=(z.rY.aI k l).iU.aH n FR;have f:n.kind=1\/n.kind=2:=by have:=I9 s;omega
 have b:C.kJ (k:Int):=⟨FQ,FQ⟩;have o:fC M.bH ((k:Int)/2)=true/\uK C M n.core.toNat=true:=by
  rw[bV] at s;grind
 have B:(M.gE C (k:Int) n.aY).2=false:=by
  rw[bU.gE];rw[bD2 b];show(!fC M.bH _&&_)=false;rw[o.1];rfl
 unfold bU.dJ at h hle ⊢;by_cases y:(eQ C M.aJ (k:Int)<|M.gE C (k:Int)).2.2≠0;grind;rw[bD1 y] at h hle ⊢;have e:eQ C M.aJ (k:Int) (M.gE C (k:Int))=(bA M.aJ k (iN.dJ (M.aJ k) (k:Int)<|M.gE C (k:Int)).1,(iN.dJ (M.aJ k) (k:Int)<|M.gE C (k:Int)).2):=by
  rw[eQ];rw[bD2 b];rfl
 have A:(M.aJ k).1.busy=false:=by
  cases A:(M.aJ k).1.busy with
  |false=>rfl
  |true=>grind[iN.dJ]
 have x:iN.dJ (M.aJ k) (k:Int) (M.gE C (k:Int))=(((M.aJ k).1.next w,(M.aJ k).2),[mO 9 n.core (k:Int)],0):=by
  rw[iN.dJ];rw[bD1 FR,t];dsimp only;rw[bT.eY];rw[aaa,bD2 f,bD1 FR]
 rw[x] at e;rw[e] at h hle ⊢;by_cases q:(M.cD.gJ C [mO 9 n.core (k:Int)]).2≠0;grind;rw[bD1 q] at hle ⊢;have⟨hF,_,_⟩:=sS<|cb.1 q;generalize(M.cD.gJ C _).1=F at hF hle ⊢;have p:bV C ((M.bM F).mJ<|bA M.aJ k ((M.aJ k).1.next w,(M.aJ k).2))=bV C M:=rG rfl rfl rfl;refine⟨rfl,rfl,rfl,fun _ _=>rfl,fun v u=>?_,fun j _=>?_,fun j _=>?_,hle⟩;rw[hF];refine Hj ?_ v u;show(!(fC M.bH ((k:Int)/2)&&uK C M n.core.toNat))=false;grind;show∃u,(bA M.aJ k _ j).1=_;by_cases g:j=k;grind[cR];rw[Ab.bO g];exact⟨_,rfl⟩;rw[B7 p];show List.filter _ (bA M.aJ k _ j).1.aH=_;by_cases g:j=k;subst g;rw[cR,t];show List.filter _ w=_;grind[List.filter_cons_of_neg,jS];grind[Ab.bO]
variable {S:Nat->aQ}
theorem il (hC:C.Ok) (b:cX C N M) (e:Dh M) (ha:aQ.iG (M.aD i)=some a):M.bH.gZ (i:Int)=false:=by
 cases h:M.bH.gZ (i:Int) with
 |false=>rfl
 |true=>
  have⟨g,hg⟩:=(tT hC b.bH).1 h;have⟨x,hx,h8⟩:=e.op g _ hg;simp_all[aQ.iG,bD1,Qo]
theorem aFc (hC:C.Ok) (j:cX C N M) (p:Dh M) (l:RY C M V) (f:(i:Int)<C.aB) (ha:qZ C (M.aD i)=some a) (q:vS (M.aT i) a.aR=true) (t:yM (M.aD i).aY (M.bH.jX a.aR).owner=true)
  (w:Ct.pK C.aU.toNat (M.bR i).S a.aI (M.bH.jX a.aR).owner a.iV=true):M.eF.length<(M.step C (i:Int)).1.eF.length:=by
 have⟨hl0,hl1,hw0,hw1,hacc⟩:=F9 ha
 have b:0<=a.aR/\a.aR<C.aM:=by
  have v:=(bQ.fF hC).1;grind
 have h:=il hC j p hacc
 rw[bU.step,aaa]
 rw[aL]
 have u:¬(M.aD i).over=true:=fun e=>by
  grind[aQ.iG,aQ.kO]
 rw[bD1 u,bD1<|by grind[bU.aH]]
 cases h1:aQ.lI _ i with
 |some r=>grind
 |none=>
  cases h2:aQ.xW _ i with
  |some x=>grind[Rq]
  |none=>
   rw[hacc]
   dsimp only
   rw[bU.eK,aaa]
   have⟨o,hko⟩:=c7.1 q
   have g:=W1 l f hko
   have e:(M.aT i).uC C (M.aD i).aY (a.dD/2/2)=(1,0):=by
    rw[jO.uC];rw[bD2 ⟨b,(Ud t).1⟩,show jC _ _=some o from hko];grind
   have s:M.bL i (a.dD/2/2)=(M.bH.jX a.aR).owner:=by rw[bU.bL];rw[show jC _ _=some o from hko,g];rfl
   grind[bU.kD,Mf,Ld]
def Zs.mem (h:Zs C S N M):cX C N M/\Dh M/\(∃V,RY C M V)/\En C M/\Sw C M:=⟨h.all.inv,h.all.lE,h.ry,h.en,h.sw⟩
theorem aL9 (hC:C.Ok) (h:Zs C S N M) {l:IT} (hc:(c:Int)<C.aB) (H:M.cD c 2=n::l) (w:n.kind=8) (ha:qZ C (M.aD c)=some a) (q:nX C M c a) (g:Ji C M c 2 n l):
  M.eF.length<((M.dE C (c:Int) ((2:Nat):Int) 0).1.step C (c:Int)).1.eF.length:=by
 have⟨hI,hW,⟨V,hR⟩,hEn,_⟩:=h.mem
 have p:c<4:=GA
 have x:=pb g.gG FQ
 have⟨k,hkl⟩:=ay x.1
 have b:k<C.aF:=FQ
 have s:=hR.rY.aI k b
 have o:=zL.2 ⟨g.cI.mem_iff.2 FR,hkl,HW⟩
 have J:=gS o w ((Ng hI H).1) hkl
 have t1:=s.t1 c p
 have kJ:(rZ C M.bR k c).qP=true:=by
  cases e:(rZ C M.bR k c).qP with
  |true=>rfl
  |false=>grind
 have j:(M.bR c).al=(k:Int):=by
  have G:((M.bR c).pM&&decide _)=true:=kJ;rw[dn] at G;exact FR
 have f:a.aI=(k:Int):=by rw[<-q.al];exact j
 have I:=Yg g.gG w
 have⟨s',et,es,ecl,_,_⟩:=Sr (core:=n.core) w hkl b (hI.Pp c hc) (hR.rY.Bi c p) kJ FQ
 have D:M.dF C n=(M.kC c s',[⟨4,n.core,n.aI,0,0,0,0,false,0⟩],0):=by
  rw[bU.dF];rw[aaa,aac,g.core,et]
 have y:Zs C S (N+2) (M.dE C (c:Int) ((2:Nat):Int) 0).1:=by
  have:=h.mC (d:=⟨1,(c:Int),((2:Nat):Int),0⟩) hC;rw[bU.mC] at this;grind
 rw[g.e,D] at y ⊢
 generalize((M.cD.set c 2 l).gJ C _).1=F at y ⊢
 have⟨hI1,hW1,⟨V1,hR1⟩,hEn1,_⟩:=y.mem
 have z:((M.kC c s').bM F).bR c=s':=cR
 apply aFc hC hI1 hW1 hR1 hc ha q.kn q.Nw
 rw[z]
 have u:=eV CL.st ecl
 have u:=u
 rw[Jh] at u
 by_cases B:(bJ C.aU.toNat s'.S (k:Int)).2=0
 .rw[bD2 B] at u;have v:=hEn1.tc c hc k b FR;rw[z] at v;have t:sP M.bH k=(M.bH.jX a.aR).owner:=by
   rw[sP];rw[show((k/2:Nat):Int)=a.aR by grind]
  rw[Ct.pK,f,cj B,cj<|v.trans t,u]
  cases hw:a.iV with
  |true=>
   have A:=(s.gN n o w).2.1
   rw[g.core] at A
   have E:(rZ C M.bR k c).aw=true:=by
    show((M.bR c).pM&&decide _&&(M.bR c).aw)=true;rw[q.pM,cj j,q.aw hw];rfl
   rw[A.2 E]
   rfl
  |false=>
   show Qc n.state=true
   grind[Qc]
 grind
theorem aI3 (hC:C.Ok) (h:Zs C S N M) {l:IT} (hc:(c:Int)<C.aB) (j:w<4) (b:M.cD c w=n::l) (g:Ji C M c w n l)
  (y:n.kind=8->∀a,qZ C (M.aD n.core.toNat)=some a->fC M.bH a.aR=false->¬nX C M n.core.toNat a):
  (jS C M n=true->ph C (M.dE C (c:Int) (w:Int) 0).1<ph C M)/\Mv C M (M.dE C (c:Int) (w:Int) 0).1:=by
 have⟨hI,hW,⟨V,hR⟩,hEn,hS⟩:=h.mem
 have f:(M.dE C (c:Int) (w:Int) 0).2=0:=by rw[g.e]
 have z:=(fJ g.gG).1
 rw[Nv] at z
 have sL:∀{P:Prop},ph C (M.dE C (c:Int) (w:Int) 0).1+(if jS C M n then 1 else 0)<=ph C M->(bV C M n=true->ph C _<=ph C M->Sp C M _)->
   (jS C M n=true->ph C (M.dE C (c:Int) (w:Int) 0).1<ph C M)/\Mv C M (M.dE C (c:Int) (w:Int) 0).1:=fun {_} u x=>by
  cases hg:jS C M n with
  |true=>rw[hg,bD2 rfl] at u;exact⟨fun _=>FQ,.inr<|.inl FQ⟩
  |false=>rw[hg,bD1 FW] at u;exact⟨FR,.inr<|.inr<|x (aAw hg) FQ⟩
 by_cases t:1<=n.kind/\n.kind<=5
 .exact sL (P:=True) (aQ6 hC hI hR hS hc j b t f) fun e hle=>(aUd hI b (by grind[I9]) e g hle)
 by_cases p:n.kind=8\/n.kind=9\/n.kind=10\/n.kind=11
 .exact sL (P:=True) (aJr hC hI hc j b p f y) fun e hle=>(aQz b (by grind[I9]) e g hle)
 by_cases v:n.kind=6
 .exact sL (P:=True) (aR3 hC hI hR hc j b v f) fun e hle=>aNf hC hI hR hc b v e g hle
 by_cases o:n.kind=12
 .exact sL (P:=True) (by have:=Xk hC hI hR hEn hc j b o f;omega) fun e hle=>aDm hC hI hR hc b o e g hle
 by_cases s:n.kind=13
 .have:=aNv hC hI hR hS hc j b s f;exact⟨FQ,.inr FQ⟩
 .have q:jE C (M.dE C (c:Int) (w:Int) 0).1.bH:=by
   have:=(h.mC (d:=⟨1,(c:Int),(w:Int),0⟩) hC).all.inv.bH;rw[bU.mC] at this;grind
  have:=uq hC hI hR hS hc j b FQ f q
  exact⟨FQ,.inr FQ⟩
variable {v:Ev} {d:Do}
def Mv.trans (e:Mv C M M') (b:Mv C M' M2) (l1:M.eF.length<=M'.eF.length) (l2:M'.eF.length<=M2.eF.length):Mv C M M2:=by
 rcases e with e|e|e;exact .inl FQ;rcases b with b|b|b;exact .inl FQ;exact .inr FQ;exact .inr (.inl<|by have:=b.le;omega);rcases b with b|b|b;exact .inl FQ;exact .inr (.inl<|by have:=e.le;omega);exact .inr<|.inr<|e.trans b
def sa.trans (e:sa C M M') (b:Mv C M' M2) (l1:M.eF.length<=M'.eF.length) (l2:M'.eF.length<=M2.eF.length):sa C M M2:=by
 rcases e with e|e;exact .inl FQ;rcases b with b|b|b;exact .inl FQ;exact .inr FQ;exact .inr (by have:=b.le;omega)
theorem Mv.go (e:Mv C M M') (b:sa C M' M2) (l1:M.eF.length<=M'.eF.length) (l2:M'.eF.length<=M2.eF.length):sa C M M2:=by
 rcases e with e|e|e;exact .inl FQ;rcases b with b|b;exact .inl FQ;exact .inr FQ;rcases b with b|b;exact .inl FQ;exact .inr (by have:=e.le;omega)
inductive IsR (C:bQ):Do->Prop where
 |step (i:Nat) (hi:(i:Int)<C.aB):IsR C ⟨0,i,0,0⟩
 |del (c w:Nat) (hc:(c:Int)<C.aB) (hw:w<4):IsR C ⟨1,c,w,0⟩
 |beg (l:Nat) (hl:l<C.aF):IsR C ⟨2,l,0,0⟩
 |sL (g:Nat) (hg:(g:Int)<C.aM):IsR C ⟨3,g,0,0⟩
theorem Ur (h:d∈M.ready C):IsR C d:=by
 rcases cg.1 h with h|h;rcases cg.1 h with h|h;rcases cg.1 h with h|h;obtain⟨i,e,rfl⟩:=gk.1 h;exact .step i FR;have⟨c,hc,h⟩:=EP.1 h;obtain⟨w,j,rfl⟩:=gk.1 h;exact .del c w FR FR;obtain⟨l,f,rfl⟩:=gk.1 h;exact .beg l FR;obtain⟨g,b,rfl⟩:=gk.1 h;exact .sL g FR
theorem df:M.mC C ⟨0,i,0,0⟩=M.step C i:=rfl
theorem D5:M.mC C ⟨1,c,w,0⟩=M.dE C c w 0:=rfl
theorem xz {l:Nat}:M.mC C ⟨2,l,0,0⟩=M.dJ C l:=rfl
theorem ya {l:Nat}:M.mC C ⟨3,l,0,0⟩=M.gH C l:=rfl
theorem Bp (b:¬(d.mI=1/\d.b=2)):(lS C (M,k) d).1=(M.mC C d).1:=by
 unfold lS;grind
theorem P4 (b:d.mI=1/\d.b=2):(lS C (M,k) d).1=if(M.mC C d).2≠0 then(M.mC C d).1 else((M.mC C d).1.step C d.a).1:=by
 unfold lS;dsimp only;split;rfl;have e:(M.mC C d).1.mC C ⟨0,d.a,0,0⟩=(M.mC C d).1.step C d.a:=rfl;grind
def Zs.up (h:Zs C S (N+2) M):Zs C S (N+4) M:=
 ⟨⟨⟨h.all.inv.bH,h.all.inv.B6,h.all.inv.Pp,h.all.inv.gG,fun l b=>⟨(h.all.inv.aJ l b).1,by have:=(h.all.inv.aJ l b).2;omega⟩,h.all.inv.cD,by have:=h.all.inv.eF;omega⟩,h.all.lE,h.all.rps⟩,h.ry,h.en,h.sw⟩
def Zs.aFy (hC:C.Ok) (h:Zs C S N M):M.eF.length<=(M.mC C d).1.eF.length:=(S2<|H4 (d:=d) hC h.all.inv h.all.lE).1
def Zs.zw (hC:C.Ok) (h:Zs C S N M):Zs C S (N+4) (lS C (M,k) d).1/\M.eF.length<=(lS C (M,k) d).1.eF.length:=by
 have b:=h.mC (d:=d) hC;have g1:=h.aFy (d:=d) hC;by_cases e:d.mI=1/\d.b=2;rw[P4 e];split;exact⟨b.up,g1⟩;exact⟨b.mC (d:=⟨0,d.a,0,0⟩) hC,cL g1<|b.aFy (d:=⟨0,d.a,0,0⟩) hC⟩;rw[Bp e];exact⟨b.up,g1⟩
theorem Pd (h:(M.dJ C l).2≠0):(M.dJ C l).1=M:=by
 grind[bU.dJ]
theorem Wu (b:M.cD c w=[]):(M.dE C (c:Int) (w:Int) 0)=(M,(M.dE C (c:Int) (w:Int) 0).2)/\(M.dE C (c:Int) (w:Int) 0).2≠0:=by
 grind[bU.dE,eO.take]
theorem aKz (hC:C.Ok) (h:Zs C S N M) (b:(M.gH C g).2=0):M.eF.length<(M.gH C g).1.eF.length:=by
 have⟨hI,hW,⟨V,hR⟩,_,_⟩:=h.mem;grind[Rv,Nat.lt_of_le_of_lt,Nat.le_of_eq,aC0]
theorem Hw (hC:C.Ok) (h:Zs C S N M) {l:IT} (hc:(c:Int)<C.aB) (x:w<4) (p:M.cD c w=n::l) (b:Ji C M c w n l) (o:jS C M n=true\/(n.kind=12/\0<l.countP (jS C M))):sa C M (lS C (M,k) ⟨1,c,w,0⟩).1:=by
 have g1:=h.aFy (d:=⟨1,c,w,0⟩) hC;have aR7:(n.kind=8->∀a,qZ C _=some a->fC M.bH a.aR=false->¬nX C M n.core.toNat a)->sa C M _:=fun y=>by
  rcases o with o|⟨s,v⟩;exact .inr<|(aI3 hC h hc x p b y).1 o;have⟨hI,hW,⟨V,hR⟩,hEn,hS⟩:=h.mem;have:=Xk hC hI hR hEn hc x p s (by rw[b.e]);exact .inr FQ
 by_cases g:w=2;subst g;rw[P4 ⟨rfl,rfl⟩,D5,bD1<|by rw[b.e];simp];have t:=h.mC (d:=⟨1,c,(2:Nat),0⟩) hC;have⟨hI1,_,⟨V1,hR1⟩,hEn1,_⟩:=t.mem;by_cases f:n.kind=8/\∃a,qZ C (M.aD c)=some a/\fC M.bH a.aR=false/\nX C M c a;obtain⟨j,a,u,_,e⟩:=f;exact .inl<|aL9 hC h hc p j u e b;refine(aR7 fun j a u q e=>f ⟨j,a,?_,q,?_⟩).trans (Zh hC hI1 hR1 hEn1 (A:=(c:Int))) g1 (t.aFy (d:=⟨0,c,0,0⟩) hC);rwa [<-b.core];rwa [<-b.core];rw[Bp FR,D5];refine aR7 fun j=>?_;exfalso;apply g;rw[<-b.aVy];rw[cQ,j];rfl
theorem aJl (hC:C.Ok) (h:Zs C S N M) (x:IsR C d):Mv C M (lS C (M,k) d).1:=by
 have⟨hI,hW,⟨V,hR⟩,hEn,hS⟩:=h.mem;cases x with
 |step i z=>
  grind[Bp,df,Zh]
 |beg l o=>
  rw[Bp FR,xz];by_cases q:(M.dJ C (l:Int)).2=0;have⟨n,w,p,hkl,hle⟩:=ng hC hI hR q;cases f:jS C M n with
  |true=>rw[f,bD2 rfl] at hle;exact .inr FQ
  |false=>exact .inr<|.inr<|aM3 hR hkl p (aAw f) q FQ
  grind[Pd,Mv.refl]
 |sL g f=>
  rw[Bp FR,ya];by_cases q:(M.gH C (g:Int)).2=0;exact .inl<|aKz hC h q;grind[Mg,Mv.refl]
 |del c w t p=>
  cases o:M.cD c w with
  |nil=>
   have⟨e1,e2⟩:=Wu (C:=C) o;have s:(M.dE C (c:Int) (w:Int) 0).1=M:=by rw[e1]
   by_cases j:(1:Int)=1/\(w:Int)=2;rw[P4 j,D5,bD2 e2,s];exact Mv.refl;grind[Bp,D5,Mv.refl]
  |cons n l=>
   rcases Ei hI t p o with⟨e2,s,_⟩|b;by_cases j:(1:Int)=1/\(w:Int)=2;rw[P4 j,D5,bD2 e2,s];exact Mv.refl;grind[Bp,D5,Mv.refl];cases f:jS C M n with
   |true=>exact(Hw hC h t p o b<|.inl f).mv
   |false=>
    have y:n.kind≠8:=fun e=>by
     have:=I9<|aAw f;omega
    have v:=(aI3 hC h t p o b FQ).2;by_cases j:(1:Int)=1/\(w:Int)=2;rw[P4 j,D5,bD1<|by rw[b.e];simp];have u:=h.mC (d:=⟨1,c,w,0⟩) hC;have⟨hI1,_,⟨V1,hR1⟩,hEn1,_⟩:=u.mem;exact v.trans (Zh hC hI1 hR1 hEn1) (h.aFy (d:=⟨1,c,w,0⟩) hC)<|u.aFy (d:=⟨0,c,0,0⟩) hC;grind[Bp,D5]
abbrev no6 (a b:aG):Prop:=a.kind≠6
def Wl (F:eO):Prop:=∀c:Nat,(F c 0).Pairwise no6
structure Ex (C:bQ) (M:bU):Prop where
 wl:Wl M.cD
 wd:∀i:Nat,(i:Int)<C.aB->0<=(M.aD i).aY/\(M.aD i).aY<=3
theorem aA7 {d:Int}:∀{l:IT} {F b:eO},Wl F->(∀x∈l,cQ x=0->∀y∈F x.core.toNat 0,y.kind≠6)->l.Pairwise no6->eO.sE d F l=some b->Wl b
 |[],F,b,h,_,_,e=>by cases e;exact h
 |n::l,F,b,h,j,o,e=>by
  rw[eO.sE] at e;split at e;rotate_left;cases e;have q:∀c,∀y∈(F.A9 n) c 0,y∈F c 0\/(y=n/\c=n.core.toNat/\cQ n=0):=fun c y f=>by
   unfold eO.A9 eO.set at f;grind
  refine aA7 (fun c=>?_) (fun x s p y f=>?_) FR e;unfold eO.A9 eO.set;split;rename_i g;rw[g.2.symm];refine List.pairwise_append.2 ⟨h _,FR,fun y f _ _=>?_⟩;grind;exact h c;grind[List.pairwise_cons]
theorem Q9 {l:IT} (h:Wl F) (b:∀x∈l,cQ x=0->∀y∈F x.core.toNat 0,y.kind≠6) (e:l.Pairwise no6):Wl (F.gJ C l).1:=by
 grind[eO.gJ,aA7]
theorem jx {l:IT} (h:Wl F) (e:∀x∈l,cQ x≠0) (b:l.Pairwise no6):Wl (F.gJ C l).1:=Q9 h FR b
theorem Qx {l:IT} (h:∀x∈l,x.kind≠6):l.Pairwise no6:=List.Pairwise.imp_of_mem (R:=fun _ _=>True) FR<|List.pairwise_of_forall FR
theorem aOn {y z:Int} (h:Wl F):Wl (F.take C x y z).1:=by
 rw[eO.take];split;exact h;dsimp only;split;exact h;intro c;show(eO.set _ _ _ _ c 0).Pairwise no6;rw[eO.set];split;rename_i e;exact(h c).sublist FR;exact h c
theorem aSr (h:cQ n≠0):n.kind≠6:=fun e=>h (by rw[cQ,e];rfl)
theorem aPb (q:cX C N M) (t:Nt.gG C n=0) (f:(M.dF C n).2.2=0):∀x∈(M.dF C n).2.1,cQ x≠0\/(n.kind=12/\x.core=n.core/\(M.dF C n).2.1=[x]):=by
 have s:=(fJ t).2;intro x b;rw[bU.dF] at f b ⊢;by_cases o:n.kind=1\/n.kind=2\/n.kind=3\/n.kind=4\/n.kind=5;rw[bD2 o] at f b;left;rw[eW] at b;split at b;cases b;split at b;rw[iN.take] at b;split at b;grind;split at b;split at b;cases b;rw[cQ,(Oz x b).1];decide;cases b;cases b;rw[bD1 o] at f b ⊢;by_cases l:n.kind=8\/n.kind=9\/n.kind=10\/n.kind=11;rw[bD2 l] at f b;left;rcases(aG6 (q.Pp _ FQ) l f).w with⟨_,e⟩|⟨_,e⟩|⟨y,e,u⟩;grind;grind;rw[e] at b;rw[aV.1 b];rw[cQ];rcases u with⟨_,h⟩|⟨_,h⟩<;>rw[h]<;>decide;rw[bD1 l] at f b ⊢;by_cases p:n.kind=6;rw[bD2 p] at b;left;rw[aV.1 b];show(2:Nat)≠0;decide;rw[bD1 p] at f b ⊢;by_cases g:n.kind=12;rw[bD2 g] at b ⊢;right;dsimp only at b ⊢;split at b;cases b;rename_i h;rw[bD1 h,aV.1 b];exact⟨g,rfl,rfl⟩;rw[bD1 g] at f b ⊢;by_cases j:n.kind=13;rw[bD2 j] at b;left;rw[aV.1 b];show(1:Nat)≠0;decide;grind
theorem tz (l:cX C N M) (u:RY C M V) (h:Wl M.cD) {y z:Int}:Wl (M.dE C x y z).1.cD:=by
 unfold bU.dE;dsimp only;by_cases e:(M.cD.take C x y z).2.2≠0;grind;rw[bD1 e];have e:=cb.1 e;have f:=(M9 l.cD e).1;have q:=Dl e;have D:=aOn (C:=C) (x:=x) (y:=y) (z:=z) h;have o:=Vl (a:=x) (b:=y) (c:=z) l.cD;by_cases e2:(M.dF C (M.cD.take C x y z).2.1).2.2≠0;grind;rw[bD1 e2];split;exact h;generalize(M.cD.take C x y z).2.1=n at*;generalize(M.cD.take C x y z).1=F at*;have t:=aPb l f.gG<|cb.1 e2;have v:=(fJ f.gG).2;refine Q9 D (fun w E J y s=>?_) ?_;rcases t w E with I|⟨p,G,_⟩;grind;have g:y∈dR C F:=qB FQ FQ s;have j:=E0 l.cD<|q.mem_iff.2<|aW _ g;intro A;have B:=Rp (u.gG.cI q) (i:=n.core.toNat) FQ FQ (.inr p) y g;have H:=(o.yK _ _ y s).2.1;have j:=(fJ j.gG).2;grind;grind[Qx,aSr]
theorem aNp (z:cX C N M) (B:RY C M V) (s:En C M) (h:Wl M.cD):Wl (M.step C A).1.cD:=by
 rw[bU.step];by_cases f:0<=A/\A<C.aB;rotate_left;grind;rw[bD1 fun e=>e f];dsimp only;obtain⟨i,rfl⟩:=ay f.1;rw[aL];split;exact h;split;exact h;split;exact h;split;unfold bU.call;dsimp only;split;grind[iJ];split;exact h;refine jx h (fun x g=>?_)<|Qx fun x g=>?_;obtain⟨j,_,rfl⟩:=zT g;show(3:Nat)≠0;decide;obtain⟨j,_,rfl⟩:=zT g;show(13:Int)≠6;decide;split
 .rename_i a l;have q:(M.aT i).dM=false->∀y∈M.cD i 0,y.kind≠6:=fun p y w=>by
   have D:=qB f.2 FQ w;exact(ig B f.2 p y D<|aIv z D (z.cD.yK i 0 y w).2.1).1
  rw[bU.eK];split;grind[iJ];dsimp only;split;exact h;rename_i u;split;unfold bU.Bk;dsimp only;split;exact h;split;exact h;have p:(M.aT i).dM=false:=by
   cases p:(M.aT i).dM with
   |false=>rfl
   |true=>
    grind[jO.dJ]
  grind[Q9,List.mem_singleton,cN,Int.toNat_natCast];rename_i t;split;grind[iJ];split
  .unfold bU.fY;dsimp only;split;exact h;rename_i v;split;exact h;have G:(M.aT i).dM=false:=by
    cases p:(M.aT i).dM with
    |false=>rfl
    |true=>
     exfalso;have⟨b,hb,_,h2⟩:=s.w1 i f.2 p;rw[l] at hb;cases hb;rw[jO.uC] at t u;split at u;rotate_left;exact u FV;cases hko:jC (M.aT i).bL (a.dD/2/2) with
     |none=>grind
     |some o=>
      have:=He B f.2 (by rwa [h2]);grind
   have⟨_,hcase⟩:=zg<|cb.1 v;have H:∀{out:IT},(∀x∈out,x.core=(i:Int)/\x.kind≠6)->Wl (M.cD.gJ C out).1:=fun {out} E=>Q9 h (fun x g _ y w=>by
     grind)<|Qx fun x g=>(E x g).2
   grind
  unfold bU.kD;rwa [iJ.2.2.2.2]
 exact h
theorem aLu (o:RY C M V) (h:Wl M.cD):Wl (M.dJ C x).1.cD:=by
 by_cases j:(M.dJ C x).2=0;rotate_left;rwa [Pd j];unfold bU.dJ at j ⊢;dsimp only at j ⊢;split;exact h;split;exact h;by_cases b:C.kJ x;rotate_left;grind[eQ];have⟨k,l⟩:=ay b.1;have f:∀y∈(eQ C M.aJ x<|M.gE C x).2.1,8<=y.kind/\y.kind<=11:=fun y e=>by
  rw[eQ,bD2 b] at e;rw[iN.dJ] at e;split at e;cases e;split at e;cases e;rename_i n w p;have g:=(o.rY.aI k<|by have:=b.2;omega).iU;exact(X4 ((g.aH n FR).2.2) (by rw[l,aL];exact g.owner) y e).2.1
 exact jx h (fun y e=>by
  have:=f y e;have l:y.kind=8\/y.kind=9\/y.kind=10\/y.kind=11:=FQ
  rw[cQ];rcases l with h|h|h|h<;>rw[h]<;>decide)<|Qx FR
theorem aIh {s t:aQ} (f:s.Ok) (h:rp i s v=some t) (e:0<=s.aY/\s.aY<=3):0<=t.aY/\t.aY<=3:=by
 rw[rp] at h;split at h;rename_i r b;split at h;cases h;rw[aQ.lI] at b;cases hn:aQ.kO s with
 |none=>grind
 |some x=>
  rw[hn] at b;dsimp only at b;split at b;cases b;exact e;split at b;cases b;exact e;split at b;cases b;exact e;split at b;rename_i l;split at b;cases b;show 0<=x.a/\x.a<=3;rw[aQ.kO] at hn;split at hn;cases hn;rename_i j;cases hn;have g:=(Sl<|f.2.2.2.2 _<|Di f.1<|D1<|by rw[<-f.2.2.1];exact(by simpa using j)).2.1;rw[l] at g;have:=c8 g;omega;cases b;exact e;split at b;cases b;exact e;split at b;cases b;exact e;cases b
 cases h;split at h;cases h;rw[aQ.bK];split;exact e;split;exact e;split;split;exact e;split;exact e;split;exact e;exact e;exact e;cases h
theorem Ex.mC (hC:C.Ok) (h:Zs C S N M) (b:Ex C M):Ex C (M.mC C d).1:=by
 have⟨hI,hW,⟨V,hR⟩,hEn,hS⟩:=h.mem;refine⟨?_,fun i x=>?_⟩;rw[bU.mC];split;exact aNp hI hR hEn b.wl;split;exact tz hI hR b.wl;split;exact aLu hR b.wl;split;by_cases w:(M.gH C d.a).2=0;have⟨g,r,_,_,_,_,_,he⟩:=Rv hR w;rw[he,iJ.2.2.2.2];split<;>exact b.wl;rw[Mg hR hC hI hW w];exact b.wl;exact b.wl;have z:=b.wd;have up:∀(j:Nat) (s:aQ) (v:Ev),(j:Int)<C.aB->rp j (M.aD j) v=some s->0<=(bA M.aD j s i).aY/\(bA M.aD j s i).aY<=3:=fun j s v p q=>by
  by_cases e:i=j;subst e;rw[cR];exact aIh (hI.B6 i x) q<|z i x;grind[Ab.bO]
 cases H4 (d:=d) hC hI hW with
 |qD f l o=>grind
 |ev j s v p u t f l y q o=>rw[f];grind
 |uC j g p u t f l A o=>grind
 |sL j g s v p u D f l y E B q o=>rw[f];grind
def Wr {aI:Int} {d:Ln} (hC:C.Ok) (hc:0<=r.aX.core/\r.aX.core<C.aB) (b:0<=aI/\aI<C.aF) (e:0<=r.aY/\r.aY<=4):∃y,(r.dW aI d).2=[y]/\Nt.gG C y=0/\y.kind=8/\y.core=r.aX.core:=by
 rw[bT.dW];split;exact⟨_,rfl,Tl hC hc b e FQ,rfl,rfl⟩;split;exact⟨_,rfl,Tl hC hc b e FQ,rfl,rfl⟩;exact⟨_,rfl,Tl hC hc b e<|.inl rfl,rfl,rfl⟩
structure aIs (C:bQ) (M:bU) (n y:aG):Prop where
 gG:Nt.gG C y=0
 k:(n.kind=5/\y.kind=8/\y.core=(M.aJ n.aI.toNat).1.aX.core/\(M.aJ n.aI.toNat).1.busy=true/\(M.aJ n.aI.toNat).1.cJ=false/\(M.aJ n.aI.toNat).1.aX.kind≠0)\/(y.core=n.core/\((n.kind=8/\y.kind=4)\/(n.kind=11/\y.kind=5)\/(n.kind=6/\y.kind=12)\/(n.kind=12/\y.kind=6)\/(n.kind=13/\y.kind=7)))
theorem Bl (hC:C.Ok) (f:RY C M V) {l:Nat} (g:l<C.aF) (hb:(M.aJ l).1.busy=true) (o:(M.aJ l).1.cJ=false) (j:(M.aJ l).1.aX.kind≠0):
  ∃i:Nat,(i:Int)<C.aB/\(M.aJ l).1.aX.core=(i:Int)/\(rZ C M.bR l i).qP=true/\B4 (M.aJ l).1 i=1:=by
 have b:=f.rY.aI l g
 have⟨i,hi⟩:=ay b.iU.core.1
 have h:B4 (M.aJ l).1 i=1:=by rw[B4];rw[bD2 FR]
 have t1:=b.t1 i (by have:=b.iU.core.2;omega)
 have kJ:(rZ C M.bR l i).qP=true:=by
  cases e:(rZ C M.bR l i).qP with
  |true=>rfl
  |false=>grind
 exact⟨i,f.rY.A5<|.inl kJ,hi,kJ,h⟩
theorem U2 (b:RY C M V) {l:Nat} (e:l<C.aF) (g:i<4) (ha:(M.aJ l).1.dQ i=true):(M.aJ l).1.busy=true/\(M.aJ l).1.cJ=false:=by
 have f:¬(M.aJ l).1.kI=true:=fun f=>by
  grind[hQ]
 have:=((b.rY.aI l e).iU).sD;grind
theorem jl (hC:C.Ok) (t:cX C N M) (H:RY C M V) (O:En C M) (hp:(dR C M.cD).Perm (n::L)):
  (M.dF C n).2.2=0/\((M.dF C n).2.1=[]\/∃y,(M.dF C n).2.1=[y]/\aIs C M n y):=by
 have D:n∈dR C M.cD:=FR
 have X:=E0 t.cD D
 have U:=X.gG
 have o:=H.rY.cI hp
 have b:=H.gG.cI hp
 have⟨hik,hco⟩:=fJ U
 rw[Nv] at hik
 have⟨i,hi⟩:=ay hco.1
 have hit:n.core.toNat=i:=FQ
 have f:(i:Int)<C.aB:=FQ
 have R:i<4:=GA
 have α:=hC.2.1
 rw[bU.dF]
 by_cases k1:n.kind=1\/n.kind=2\/n.kind=3\/n.kind=4\/n.kind=5
 .rw[bD2 k1];have h:=o.nb n FR HA;have⟨l,hl⟩:=ay h.2.1;have v:l<C.aF:=FQ
  have T:n.aI.toNat=l:=FQ
  have⟨H',out,hh,_,_,_⟩:=o.aMq hC FQ
  rw[hh]
  refine⟨rfl,?_⟩
  have e:eW C M.aJ n=(bA M.aJ l (iN.take (M.aJ l) n.aI n).1,(iN.take (M.aJ l) n.aI n).2):=by
   rw[eW];rw[bD1<|by grind[Hm.dF],bD2 ⟨h.1,GL⟩,T]
  rw[e] at hh
  rw[<-(eV (fun x=>x.2.1) hh)]
  rw[iN.take]
  by_cases k4:n.kind=4
  .grind
  rw[bD1 k4]
  by_cases k5:n.kind=5
  rotate_left
  .grind
  rw[bD2 k5]
  by_cases Q:(M.aJ l).1.dQ n.core.toNat=false
  .grind
  rw[bD1 Q]
  have⟨hb,hg⟩:=U2 H v R FR
  unfold iN.nH bT.rest
  have⟨q1,q2,q3,q4⟩:=Et (r:=(M.aJ l).1) (n:=n)
  split
  .split
   .grind
   .rename_i K;rw[q4] at K;right;have⟨j,hj,hjc,_⟩:=Bl hC H v hb hg K;have B:=t.bH.len;have hL:=(bQ.fF hC).1;obtain⟨y,G,h2,h3,h4⟩:=Wr (d:=((M.aJ l).1.dA n).yV<|(M.aJ l).1.yS (M.aJ l).2 n) hC (by rw[q4,hjc];omega) h.2 (by
     rw[q1,O.tr l v hb hg K];exact t.bH.jX ⟨FQ,FQ⟩)
    exact⟨y,G,h2,.inl ⟨k5,h3,FR,FR,FR,FR⟩⟩
  grind
 rw[bD1 k1]
 by_cases k8:n.kind=8\/n.kind=9\/n.kind=10\/n.kind=11
 .rw[bD2 k8];have h:=o.nb n FR HA;have⟨s',out,hh,_,_⟩:=o.Vp hC FQ;rw[hh];refine⟨rfl,?_⟩;dsimp only;rw[hit] at hh;have A:=t.Pp i f;have W:(fP C n.core (M.bR i) n).2.1=out:=by rw[hh]
  have u:(fP C n.core (M.bR i) n).2.2=0:=by rw[hh]
  rw[<-W]
  have hz:vK C n.aI=true:=by rw[vK];grind
  rw[fP] at u ⊢
  by_cases e8:n.kind=8
  .rw[bD2 e8,bD1 FR] at u ⊢;rw[vM] at u ⊢;split
   .grind
   split
   .grind
   split
   .grind
   .exact .inr ⟨_,rfl,aQw hC hco h.2,FR⟩
  rw[bD1 e8] at u ⊢
  by_cases e9:n.kind=9
  .grind[Bm]
  rw[bD1 e9] at u ⊢
  by_cases I:n.kind=10
  .grind[rU]
  rw[bD1 I] at u ⊢
  have J:n.kind=11:=FQ
  rw[bD2 J,bD1 FR] at u ⊢
  have rep:∀{x:vX},(0<=x.st/\x.st<=4)->Nt.gG C (iS n.core n x)=0/\(iS n.core n x).core=n.core/\(iS n.core n x).kind=5:=fun {x} hx=>by
   grind[iS,T4,Hi]
  rw[lK]
  split
  .grind
  split
  .rename_i Y;have γ:=uR A.aU Y;have⟨r1,r2,r3⟩:=rep (x:=(bJ C.aU.toNat (M.bR i).S n.aI).1) FQ;exact .inr ⟨_,rfl,r1,FQ⟩
  split
  .exact .inr ⟨_,rfl,T4 hC hco h.2 FQ,FR⟩
  split
  .exact .inr ⟨_,rfl,T4 hC hco h.2 FQ,FR⟩
  .have⟨r1,r2,r3⟩:=rep<|A.vO FR;exact .inr ⟨_,rfl,r1,FQ⟩
 rw[bD1 k8]
 have B:=t.bH.len
 have β:=b.gr i f
 have place:∀{x:Int},x=(M.aT i).aR/4\/x=lN C.aM (M.aT i).aR->0<=x/\x<20:=fun {x} hx=>by
  grind[lN]
 by_cases w:n.kind=6
 .rw[bD2 w];have z:=b.no n FR<|.inl w;rw[hit] at z;exact⟨(b.dQ FQ FQ t.bH.V0 f hi w).1,.inr ⟨_,rfl,aCc hC hco<|place<|by rw[z];exact b.pl i f<|(b.Jx f hi<|.inl w).1,.inr ⟨rfl,.inr<|.inr<|.inl ⟨w,rfl⟩⟩⟩⟩
 rw[bD1 w]
 by_cases q:n.kind=12
 .rw[bD2 q,hit];have G:=b.fM f hi q hC.2.1.1;refine⟨G.1,?_⟩;dsimp only;split
  .grind
  .refine .inr ⟨_,rfl,aQu hC hco<|place ?_,.inr ⟨rfl,.inr<|.inr<|.inr<|.inl ⟨q,rfl⟩⟩⟩;have⟨hwk,p,hcase⟩:=N3 G.1;rcases hcase with⟨_,e⟩|⟨_,_,_,e⟩|⟨_,W,e⟩|⟨_,_,_,e⟩
   .grind
   .grind
   .rw[e];have E:=(b.dD n FR q).1;rw[hit,<-p] at E;exact .inr (E.2 W).1
   grind
 rw[bD1 q]
 by_cases s:n.kind=13
 .rw[bD2 s,hit];have p:=Ky U<|.inr s;exact⟨(b.eE f hi s p).1,.inr ⟨_,rfl,yg hC hco p,.inr ⟨rfl,.inr<|.inr<|.inr<|.inr ⟨s,rfl⟩⟩⟩⟩
 rw[bD1 s]
 have Z:n.kind=7:=FQ
 rw[bD2 Z]
 have p:=Ky U<|.inl Z
 have⟨g,hg⟩:=ay p.1
 have⟨r,_,_,_,hd,_⟩:=b.dA hC t.bH f hi Z hg
 grind
theorem fG (f:cX C N M) (j:n∈M.cD c w):(w=0/\(n.kind=1\/n.kind=2\/n.kind=3\/n.kind=6))\/(w=1/\(n.kind=4\/n.kind=5\/n.kind=7))\/(w=2/\(n.kind=8\/n.kind=9\/n.kind=10\/n.kind=12))\/(w=3/\(n.kind=11\/n.kind=13)):=by
 have h:=f.cD.yK c w n j;have g:=(fJ h.1.gG).1;rw[Nv] at g;have b:=h.2.2;rw[cQ] at b;have:n.kind=1\/n.kind=2\/n.kind=3\/n.kind=4\/n.kind=5\/n.kind=6\/n.kind=7\/n.kind=8\/n.kind=9\/n.kind=10\/n.kind=11\/n.kind=12\/n.kind=13:=FQ
 rcases this with e|e|e|e|e|e|e|e|e|e|e|e|e<;>rw[e] at b;have b:0=w:=b;omega;have b:0=w:=b;omega;have b:0=w:=b;omega;have b:1=w:=b;omega;have b:1=w:=b;omega;have b:0=w:=b;omega;have b:1=w:=b;omega;have b:2=w:=b;omega;have b:2=w:=b;omega;have b:2=w:=b;omega;have b:3=w:=b;omega;have b:2=w:=b;omega;have b:3=w:=b;omega
theorem I5 (b:cX C N M) (e:n∈M.cD c w):(c:Int)<C.aB/\w<4:=by
 have h:=b.cD.yK c w n e;have f:=fJ h.1.gG;grind[xT]
theorem aJu:(F.set c w []).set c w (F c w)=F:=by
 grind[eO.set]
theorem X5 (hc:(c:Int)<C.aB) (b:w<4):(dR C F).Perm (F c w++dR C (F.set c w [])):=by
 have h:=Vs (F:=F.set c w []) (l:=F c w) (l':=F c w) hc b (by
  simp_all[eO.set,bD2])
 grind[aJu]
def aO3 (hc:(c:Int)<C.aB) (b:w<4):(F c w).countP p<=(dR C F).countP p:=by
 rw[(X5 hc b).countP_eq,AK];omega
theorem S4 {v:Nat} (hc:(c:Int)<C.aB) (g:w<4) (f:v<4) (b:w≠v):(F c w).countP p+(F c v).countP p<=(dR C F).countP p:=by
 rw[(X5 hc g).countP_eq,AK];have h:=aO3 (F:=F.set c w []) (p:=p) hc f;have e:(F.set c w []) c v=F c v:=by rw[eO.set];rw[aaa]
 grind
def V5 (x:aG):Bool:=decide<|x.kind=6\/x.kind=12
theorem Q1 (g:cX C N M) (j:RY C M V) (hc:(c:Int)<C.aB):(M.cD c 0).countP V5+(M.cD c 2).countP V5<=(M.aT c).dM.toNat:=by
 have h:=S4 (F:=M.cD) (w:=0) (v:=2) (p:=fun n=>decide<|n.core=(c:Int)/\(n.kind=6\/n.kind=12)) hc FQ FQ FQ;have f:=j.gG.cw c hc;rw[Mc.cw] at f;have e:∀w,(M.cD c w).countP V5=(M.cD c w).countP (fun n=>decide<|n.core=(c:Int)/\(n.kind=6\/n.kind=12)):=fun w=>List.countP_congr fun x l=>by
  have b:=g.cD.yK c w x l;have o:=(fJ b.1.gG).2;rw[V5];grind
 grind
def Ks:∀{l:IT},(∀x∈l,p x=true)->l.countP p=l.length:=fun {_} h=>List.countP_eq_length.2 h
def J7 (hC:C.Ok) (g:cX C N M) (q:RY C M V) (f:En C M) {l:IT} (hc:(c:Int)<C.aB) (o:w<4) (j:M.cD c w=n::l) (b:∀y,aIs C M n y->(((M.cD.set c w l) y.core.toNat<|cQ y).length:Int)<C.eR):Ji C M c w n l:=by
 rcases Ei g hc o j with⟨_,_,h⟩|h;exfalso;have⟨h0,e⟩:=jl hC g q f<|W7 hc o j;rcases h with h|h;exact h h0;rcases e with e|⟨y,e,p⟩;rw[e] at h;exact h rfl;rw[e] at h;exact h<|Tu p.gG<|b y p;exact h
def Wo (C:bQ) (M:bU):Prop:=∀c:Nat,(c:Int)<C.aB->M.cD c 1=[]/\M.cD c 3=[]
def aTq (e:cX C N M) (f:RY C M V) (j:Wo C M) (hc:(c:Int)<C.aB):uK C M c=false:=by
 cases h:uK C M c with
 |false=>rfl
 |true=>
  unfold uK yY at h;cases ha:qZ C _ with
  |none=>rw[ha] at h;cases h
  |some a=>
   rw[ha] at h;rw[dn] at h;have⟨o,ho⟩:=c7.1 h.2;have⟨_,_,h3⟩:=f.gG.bL c hc _<|Gk ho;have⟨x,hx,k13,xc,_⟩:=h3 h.1;have⟨c2,w2,hc2,hw2,hx2⟩:=uM hx;have g:=fG e hx2;have b:w2=3:=FQ
   subst b;rw[(j c2 hc2).2] at hx2;cases hx2
def P9 (b:cX C N M) (e:RY C M V) (f:Wo C M) {x:aG} (hc:0<=x.core/\x.core<C.aB) (g:x.kind≠6/\x.kind≠12):jS C M x=true:=by
 unfold jS bV;rw[aaa];split;rw[aTq b e f FQ,r5];rfl;rfl
theorem Gp {l l':IT} (h:l'.filter (jS C M')=l.filter (jS C M)) {x:aG} (e:x∈l) (b:jS C M x=true):x∈l'/\jS C M' x=true:=by
 have:x∈l'.filter (jS C M'):=FR
 grind
theorem Sp.aVy (h:Sp C M M') (b:∀x∈M.cD c w,jS C M x=true) (e:∀x∈M'.cD c w,jS C M' x=true):M'.cD c w=M.cD c w:=by
 have:=h.cD c w;grind[List.filter_eq_self]
theorem aL7 (b:cX C N M) (e:w=1\/w=3) {x:aG} (f:x∈M.cD c w):jS C M x=true:=by
 grind[fG,Jp]
def Sp.l13 (h:Sp C M M') (g:cX C N M) (b:cX C N' M') (f:w=1\/w=3) (c:Nat):M'.cD c w=M.cD c w:=
 h.aVy (fun _ e=>aL7 g f e) (fun _ e=>aL7 b f e)
def Sp.q13 (h:Sp C M M') (e:cX C N M) (b:cX C N' M') (g:Wo C M):Wo C M':=fun c f=>by
 rw[h.l13 e b<|.inl rfl,h.l13 e b<|.inr rfl];exact g c f
def Sp.vO (h:Sp C M M') {x:aG} (e:x∈M'.cD c w) (b:jS C M' x=true):x∈M.cD c w/\jS C M x=true:=Gp (h.cD c w).symm e b
def Sp.yn (h:Sp C M M') {x:aG} (e:x∈M.cD c w) (b:jS C M x=true):x∈M'.cD c w/\jS C M' x=true:=Gp (h.cD c w) e b
def fi (C:bQ) (S:Nat->aQ) (M:bU) (d:Do):Prop:=∀(M':bU) (b:Nat),Zs C S b M'->Ex C M'->Sp C M M'->∀k,sa C M' (lS C (M',k) d).1
def Ry (b:Nt.gG C n=0):∃l:Nat,n.aI=(l:Int)/\l<C.aF:=by
 have⟨h1,h2⟩:=ku b;exact⟨n.aI.toNat,FQ,FQ⟩
theorem Md (hC:C.Ok) (s:cX C N M) (h:RY C M V) {l:Nat} (u:l<C.aF) (hb:(M.aJ l).1.busy=true) (t:(M.aJ l).1.cJ=false) (p:(M.aJ l).1.aX.kind≠0) (B:(M.aJ l).1.aX.core=(i:Int)):
  ∀x∈dR C M.cD,x.core=(i:Int)->x.kind≠1/\x.kind≠2/\x.kind≠8/\x.kind≠9:=by
 have⟨j,hj,hjc,kJ,hs⟩:=Bl hC h u hb t p
 have:j=i:=FQ
 subst this
 intro x o g
 have⟨xl,hxl,hxll⟩:=Ry (E0 s.cD o).gG
 have t1:=(h.rY.aI xl hxll).t1 j GA
 have v:∀q,x.kind=q->PK q->0<fS q j xl _:=fun q b D=>gS (zL.2 ⟨o,hxl,FR⟩) b g hxl
 have y:∀q,x.kind=q->(q=1\/q=2\/q=8\/q=9)->False:=fun q b w=>by
  have A:=v q b HA;have f:(rZ C M.bR xl j).qP=true:=by
   cases e:(rZ C M.bR xl j).qP with
   |true=>rfl
   |false=>
    grind
  have z:((M.bR j).pM&&decide _)=true:=kJ;have e2:((M.bR j).pM&&decide _)=true:=f;grind
 grind
theorem aBw (hC:C.Ok) (l:cX C N M) (o:RY C M V) (s:(i:Int)<C.aB) {x y:aG} (p:x∈dR C M.cD) (q:y∈dR C M.cD) (h:x.core=(i:Int)) (j:y.core=(i:Int)) (f:x.kind=10):y.kind≠3:=by
 intro g;have b:i<4:=GA
 have⟨xl,hxl,hxll⟩:=Ry (E0 l.cD p).gG;have⟨yl,hyl,hyll⟩:=Ry (E0 l.cD q).gG;have t1:=(o.rY.aI xl hxll).t2 i b;have t2:=(o.rY.aI yl hyll).t2 i b;have u:=gS (zL.2 ⟨p,hxl,by rw[f];decide⟩) f h hxl;have v:=gS (zL.2 ⟨q,hyl,by rw[g];decide⟩) g j hyl;have g1:(rZ C M.bR xl i).gi=true:=by
  cases e:(rZ C M.bR xl i).gi with
  |true=>rfl
  |false=>grind
 have g2:(rZ C M.bR yl i).gi=true:=by
  cases e:(rZ C M.bR yl i).gi with
  |true=>rfl
  |false=>grind
 have t:((M.bR i).uD&&decide _)=true:=g1;have e2:((M.bR i).uD&&decide _)=true:=g2;grind
theorem lH (b:cX C N M) {x:aG} (e:x∈M.cD c w):x.core=(c:Int)/\x∈dR C M.cD/\0<=x.core/\x.core<C.aB:=by
 have h:=b.cD.yK c w x e;have f:=(fJ h.1.gG).2;have⟨h3,h4⟩:=I5 b e;grind[qB]
theorem X6 {c' w':Nat} {l:IT} (h:¬(c'=c/\w'=w)):(F.set c w l) c' w'=F c' w':=by simp_all[eO.set,bD1]
theorem iz (b:cX C N M) (e:RY C M V) (hc:(c:Int)<C.aB) (h:∀x∈M.cD c 2,x.kind=12):(M.cD c 2).length<=1:=by
 have f:=Q1 b e hc;have g:=Ks (p:=V5) (l:=M.cD c 2) fun x j=>by rw[V5];grind
 have:(M.aT c).dM.toNat<=1:=HG
 omega
theorem nu (b:cX C N M) (f:RY C M V) (hc:(c:Int)<C.aB) {x:aG} (g:x∈M.cD c 2) (p:x.kind=12):∀y∈M.cD c 0,y.kind≠6:=fun y h e=>by
 have j:=Q1 b f hc;have l:0<(M.cD c 2).countP V5:=AQ.2 ⟨x,g,by rw[V5];grind⟩;have o:0<(M.cD c 0).countP V5:=AQ.2 ⟨y,h,by rw[V5];grind⟩;have:(M.aT c).dM.toNat<=1:=HG
 omega
theorem Uv {l:IT} (h:∀x∈l,False):l=[]:=by
 cases l with
 |nil=>rfl
 |cons x l=>grind[List.mem_cons_self]
theorem aXj (hC:C.Ok) (ε:2<=C.eR) (h:Zs C S N M) (hc:(c:Int)<C.aB) (Y:M.cD c 1≠[]):∃c2 w2:Nat,(c2:Int)<C.aB/\w2<4/\M.cD c2 w2≠[]/\fi C S M ⟨1,c2,w2,0⟩:=by
 have⟨hI,hW,⟨V,hR⟩,hEn,hS⟩:=h.mem;cases hl:M.cD c 1 with
 |nil=>grind
 |cons n l=>
 have hk:=fG hI (show n∈M.cD c 1 by grind);have⟨nl,hnl,hnll⟩:=Ry (Ng hI hl).2.2;by_cases s:n.kind=5/\(M.aJ nl).1.aX.kind≠0/\∃x∈M.cD (M.aJ nl).1.aX.core.toNat 2,x.kind=10
 .obtain⟨U,Z,x,hx,K⟩:=s;refine⟨_,2,(I5 hI hx).1,FQ,(fun e=>FR),fun M' N' u α b q=>?_⟩;have⟨hI',hW',⟨V',hR'⟩,hEn',hS'⟩:=u.mem;have⟨w,hw⟩:=b.iU nl hnll;have J:(M'.aJ nl).1.aX=(M.aJ nl).1.aX:=by rw[hw];rfl
  generalize hi:(M.aJ nl).1.aX.core.toNat=i at*;have f:=(I5 hI hx).1;have p:M'.cD c 1=n::l:=by rw[b.l13 hI hI'<|.inl rfl,hl]
  have I:n∈M'.cD c 1:=by rw[p];exact eg
  have A:=hR'.rY.aI nl hnll;have E:c<4:=GA
  have B:(M'.aJ nl).1.dQ c=true:=by
   have t3:=A.t3 c E;have h5:=gS (zL.2 ⟨(lH hI' I).2.1,hnl,by rw[U];decide⟩) U (lH hI' I).1 hnl;cases e:(M'.aJ nl).1.dQ c with
   |true=>rfl
   |false=>grind
  have⟨D,G⟩:=U2 hR' hnll E B;have O:=b.yn hx<|Jp FQ;have t:(M'.aJ nl).1.aX.core=(i:Int):=by
   have:=A.iU.core.1;grind
  have Jx:=Md hC hI' hR' hnll D G (by rw[J];exact Z) t;cases hl2:M'.cD i 2 with
  |nil=>grind
  |cons v l2=>
  have g:v∈M'.cD i 2:=FR
  have η:=Jx v (lH hI' g).2.1 (lH hI' g).1;have H:=fG hI' g;have H:v.kind=10\/v.kind=12:=FQ
  rcases H with μ|T;refine Hw hC u f FQ hl2 (J7 hC hI' hR' hEn' f FQ hl2 fun y Q=>?_)<|.inl<|Jp FQ;have:=Q.k;omega;refine Hw hC u f FQ hl2 (J7 hC hI' hR' hEn' f FQ hl2 fun y Q=>?_)<|.inr ⟨T,?_⟩;have R:y.kind=6/\y.core=v.core:=by have:=Q.k;omega
  have W:y.core.toNat=i:=by rw[R.2];exact(hI'.cD.yK i 2 v g).2.1
  have e2:cQ y=0:=by rw[cQ];rw[R.1];rfl
  rw[W,e2,X6 FQ,Uv (l:=M'.cD i 0) fun z o=>?_];grind;have δ:=fG hI' o;have γ:=Jx z (lH hI' o).2.1 (lH hI' o).1;have ι:=aBw hC hI' hR' f (lH hI' O.1).2.1 (lH hI' o).2.1 (lH hI' O.1).1 (lH hI' o).1 K;have κ:=nu hI' hR' f g T z o;omega;grind
 .refine⟨c,1,hc,FQ,Y,fun M' N' u α b q=>?_⟩;have⟨hI',hW',⟨V',hR'⟩,hEn',hS'⟩:=u.mem;have p:M'.cD c 1=n::l:=by rw[b.l13 hI hI'<|.inl rfl,hl]
  refine Hw hC u hc FQ p (J7 hC hI' hR' hEn' hc FQ p fun y Q=>?_)<|.inl<|Jp FQ;rcases Q.k with⟨U,k8,β,D,G,X⟩|θ;rotate_left;omega;rw[hnl,aL] at β D G X;have⟨w,hw⟩:=b.iU nl hnll;have J:(M'.aJ nl).1.aX=(M.aJ nl).1.aX:=by rw[hw];rfl
  have⟨j,hj,hjc,_,_⟩:=Bl hC hR' hnll D G X;have W:y.core.toNat=j:=FR
  have e2:cQ y=2:=by rw[cQ];rw[k8];rfl
  rw[W,e2,X6 FQ];have:=iz hI' hR' hj fun z o=>by
   have δ:=fG hI' o;have γ:=(Md hC hI' hR' hnll D G X hjc) z (lH hI' o).2.1 (lH hI' o).1;have ζ:z.kind≠10:=fun e=>s ⟨U,FR,z,by
    have:=(b.vO o<|Jp FQ).1;grind,e⟩
   omega
  omega
theorem aXm (hC:C.Ok) (h:Zs C S N M) (s:∀c:Nat,(c:Int)<C.aB->M.cD c 1=[]) (hc:(c:Int)<C.aB) (j:M.cD c 3≠[]):fi C S M ⟨1,c,(3:Nat),0⟩:=fun M' v o t f q=>by
 have⟨hI,hW,⟨V,hR⟩,hEn,hS⟩:=h.mem;have⟨hI',hW',⟨V',hR'⟩,hEn',hS'⟩:=o.mem;cases hl:M.cD c 3 with
 |nil=>exact absurd hl j
 |cons n l=>
 have b:M'.cD c 3=n::l:=by rw[f.l13 hI hI'<|.inr rfl,hl]
 have w:=fG hI' (show n∈M'.cD c 3 by grind);refine Hw hC o hc FQ b (J7 hC hI' hR' hEn' hc FQ b fun y u=>?_)<|.inl<|Jp FQ;have g:(y.kind=5\/y.kind=7)/\y.core=n.core:=by have:=u.k;omega
 have p:y.core.toNat=c:=by rw[g.2];exact(hI'.cD.yK c 3 n FR).2.1
 have e2:cQ y=1:=by rw[cQ];rcases g.1 with e|e<;>rw[e]<;>rfl
 rw[p,e2,X6 FQ,f.l13 hI hI'<|.inl rfl,s c hc];have:=hC.2.2.2.2.1;grind
theorem aXy (hC:C.Ok) (h:Zs C S N M) (s:Wo C M) (hc:(c:Int)<C.aB) {x:aG} (g:x∈M.cD c 0) (u:x.kind≠6):fi C S M ⟨1,c,(0:Nat),0⟩:=fun M' z o j b q=>by
 have⟨hI,hW,⟨V,hR⟩,hEn,hS⟩:=h.mem;have⟨hI',hW',⟨V',hR'⟩,hEn',hS'⟩:=o.mem;have v:=fG hI g;have f:=(b.yn g<|P9 hI hR s (lH hI g).2.2 FQ).1;cases hl:M'.cD c 0 with
 |nil=>grind
 |cons n l=>
 have p:n∈M'.cD c 0:=FR
 have A:=fG hI' p;have t:n.kind≠6:=fun e=>by
  rw[hl] at f;rcases e6.1 f with e2|e2;grind;have:=j.wl c;simp_all
 refine Hw hC o hc FQ hl (J7 hC hI' hR' hEn' hc FQ hl fun y w=>?_)<|.inl<|P9 hI' hR' (b.q13 hI hI' s) (lH hI' p).2.2 FQ;have:=w.k;omega
def Q0 (C:bQ) (M:bU):Prop:=∀c:Nat,(c:Int)<C.aB->∀x∈M.cD c 0,x.kind=6
def Q2 (C:bQ) (M:bU):Prop:=∀c:Nat,(c:Int)<C.aB->∀x∈M.cD c 2,x.kind=12
def Sp.q0 (h:Sp C M M') (l:cX C N M) (b:cX C N' M') (f:RY C M' V') (p:Wo C M) (j:Q0 C M):Q0 C M':=fun c o x g=>by
 have q:=fG b g;apply hK;intro e;exact e<|j c o x<|(h.vO g<|P9 b f (h.q13 l b p) (lH b g).2.2 FQ).1
def Sp.q2 (h:Sp C M M') (l:cX C N M) (b:cX C N' M') (f:RY C M' V') (p:Wo C M) (j:Q2 C M):Q2 C M':=fun c o x g=>by
 have q:=fG b g;apply hK;intro e;exact e<|j c o x<|(h.vO g<|P9 b f (h.q13 l b p) (lH b g).2.2 FQ).1
theorem aRn (hC:C.Ok) (e:cX C N M) (p:RY C M V) (s:Wo C M) (o:Q0 C M) (hc:(c:Int)<C.aB) {l:IT} (x:M.cD c 2=n::l):∀y,aIs C M n y->(((M.cD.set c 2 l) y.core.toNat<|cQ y).length:Int)<C.eR:=fun y t=>by
 have f:n∈M.cD c 2:=FR
 have w:=fG e f;have q:=hC.2.2.2.2.1;have b:y.core=n.core/\((n.kind=8/\y.kind=4)\/(n.kind=12/\y.kind=6)):=by have:=t.k;omega
 have h:y.core.toNat=c:=by rw[b.1];exact(e.cD.yK c 2 n f).2.1
 rcases b.2 with⟨_,u⟩|⟨g,v⟩;have e2:cQ y=1:=by rw[cQ];rw[u];rfl
 rw[h,e2,X6 FQ,(s c hc).1];grind;have e2:cQ y=0:=by rw[cQ];rw[v];rfl
 rw[h,e2,X6 FQ,Uv fun z j=>nu e p hc f g z j<|o c hc z j];grind
theorem aYs (hC:C.Ok) (h:Zs C S N M) (f:Wo C M) (s:Q0 C M) (hc:(c:Int)<C.aB) {x:aG} (g:x∈M.cD c 2) (p:x.kind≠12):fi C S M ⟨1,c,(2:Nat),0⟩:=fun M' y j t b q=>by
 have⟨hI,hW,⟨V,hR⟩,hEn,hS⟩:=h.mem;have⟨hI',hW',⟨V',hR'⟩,hEn',hS'⟩:=j.mem;have e:=b.q13 hI hI' f;have v:=fG hI g;have u:=b.yn g<|P9 hI hR f (lH hI g).2.2 FQ;cases hl:M'.cD c 2 with
 |nil=>grind
 |cons n l=>
 have o:n∈M'.cD c 2:=FR
 have z:=fG hI' o;apply Hw hC j hc FQ hl<|J7 hC hI' hR' hEn' hc FQ hl<|aRn hC hI' hR' e (b.q0 hI hI' hR' f s) hc hl;by_cases w:n.kind=12;grind;exact .inl<|P9 hI' hR' e (lH hI' o).2.2 FQ
theorem aWq (hC:C.Ok) (h:Zs C S N M) (A:Wo C M) (I:Q0 C M) (J:Q2 C M) (hc:(c:Int)<C.aB) {x:aG} (Q:x∈M.cD c w) (D:jS C M x=true):fi C S M ⟨1,c,w,0⟩:=fun M' U G R f q=>by
 have⟨hI,hW,⟨V,hR⟩,hEn,hS⟩:=h.mem;have⟨hI',hW',⟨V',hR'⟩,hEn',hS'⟩:=G.mem;have g:=f.q13 hI hI' A;have j:=f.q0 hI hI' hR' A I;have b:=f.yn Q D;have B:=fG hI' b.1;have t:=(I5 hI' b.1).2;have s:w=0\/w=2:=by
  rcases B with e|e|e|e;exact .inl e.1;have o:=b.1;rw[e.1,(g c hc).1] at o;cases o;exact .inr e.1;have o:=b.1;rw[e.1,(g c hc).2] at o;cases o
 have O:=Q1 hI' hR' hc;have W:=Ks (p:=V5) fun z E=>by rw[V5];exact cj<|.inl<|j c hc z E
 have c2:=Ks (p:=V5) fun z E=>by rw[V5];exact cj<|.inr<|(f.q2 hI hI' hR' A J) c hc z E
 have hle:(M'.aT c).dM.toNat<=1:=by cases(M'.aT c).dM<;>decide
 cases hl:M'.cD c w with
 |nil=>rw[hl] at b;cases b.1
 |cons n l=>
 have v:x=n:=by
  grind
 have K:=hC.2.2.2.2.1;refine Hw hC G hc t hl (J7 hC hI' hR' hEn' hc t hl ?_)<|.inl<|v▸b.2;rcases s with rfl|rfl;intro y T;have u:y.core=n.core/\y.kind=12:=by have:=T.k;grind
 have H:y.core.toNat=c:=by rw[u.1];exact(hI'.cD.yK c 0 n<|by rw[hl];exact eg).2.1
 have e2:cQ y=2:=by rw[cQ];rw[u.2];rfl
 rw[H,e2,X6 FQ];grind;exact aRn hC hI' hR' g j hc hl
theorem xg (hC:C.Ok) (H:n.kind=0\/n.kind=1\/n.kind=2\/n.kind=3) (h:0<=l/\l<C.aF) (z:(j n.aY).2=true->0<=(j n.aY).1/\(j n.aY).1<=4)
  (hc:∀y∈(bT.eY r l m n j).2,0<=y.core/\y.core<C.aB):(∃y,(bT.eY r l m n j).2=[y]/\Nt.gG C y=0/\cQ y=2)\/∀y∈(bT.eY r l m n j).2,Nt.gG C y=0/\cQ y=3/\Mt (bT.eY r l m n j).2 y<=1:=by
 have pr:∀{s:Int} {p:FL},(s=0\/s=1)->p.Nodup->(∀y∈eT l s p,0<=y.core/\y.core<C.aB)->∀y∈eT l s p,Nt.gG C y=0/\cQ y=3/\Mt (eT l s p) y<=1:=fun {s p} B A g y v=>by
  have o:=g y v;obtain⟨i,G,rfl⟩:=gk.1 v;refine⟨aJ5 hC o h B,rfl,?_⟩;unfold Mt eT;refine cL ?_<|List.nodup_iff_count.1 A i;simp_all[List.count_eq_countP,List.countP_mono_left]
 have gr:∀{e:bT} {f:Ln},(e.aX.core=n.core)->(0<=e.aY/\e.aY<=4)->(∀y∈(e.dW l f).2,0<=y.core/\y.core<C.aB)->∃y,(e.dW l f).2=[y]/\Nt.gG C y=0/\cQ y=2:=fun {e f} _ D g=>by
  have⟨t,hy0⟩:∃t,(e.dW l f).2=[t]:=by
   grind[bT.dW]
  have E:=(H9 t<|by rw[hy0];grind).2.1;have⟨y,e1,e2,e3,_⟩:=Wr (d:=f) hC FR h D;exact⟨y,e1,e2,by rw[cQ,e3];rfl⟩
 rw[bT.eY] at hc ⊢
 by_cases x:n.kind=3
 .rw[bD2 x] at hc ⊢;exact .inl ⟨_,rfl,aHn hC (.inr rfl) (hc (mO 10 n.core l) FR) h,rfl⟩
 rw[bD1 x] at hc ⊢
 by_cases q:n.kind=1\/n.kind=2
 .rw[bD2 q] at hc ⊢;by_cases b:(j n.aY).2=true
  .rw[bD2 b] at hc ⊢;unfold bT.get at hc ⊢;by_cases w:n.kind=2
   .rw[bD2 w] at hc ⊢;rw[bT.La] at hc ⊢;split
    .grind[Es]
    .rename_i u;rw[bD1 u] at hc;exact .inl<|gr rfl (z b) hc
   .rw[bD1 w] at hc ⊢;have I:(((r.iL n (j n.aY).1).jY).aX.core=n.core)/\((r.iL n (j n.aY).1).jY).aY=(j n.aY).1:=by rw[bT.jY];split<;>exact⟨rfl,rfl⟩
    rw[bT.J2] at hc ⊢
    split
    .grind
    simp_all
  .rw[bD1 b] at hc ⊢;exact .inl ⟨_,rfl,aHn hC (.inl rfl) (hc (mO 9 n.core l) FR) h,rfl⟩
 by_cases u:r.first (-1)= -1
 .grind
 .grind[Es]
theorem Dg (hC:C.Ok) (q:cX C N M) (s:RY C M V) (b:En C M) (o:Wo C M) (p:Q2 C M) {l:Nat} (j:l<C.aF):(M.aJ l).1.busy=false:=by
 cases hb:(M.aJ l).1.busy with
 |false=>rfl
 |true=>
  have hIn:=s.rY.aI l j;have none:∀{x:aG},x∈H8 l (dR C M.cD)->x.kind=4\/x.kind=5\/x.kind=8\/x.kind=11->False:=fun {x} u v=>by
   have⟨c2,w2,hc2,hw2,hx2⟩:=uM (zL.1 u).1;rcases fG q hx2 with e|e|e|e;omega;rw[e.1,(o c2 hc2).1] at hx2;cases hx2;rw[e.1] at hx2;have:=p c2 hc2 x hx2;omega;rw[e.1,(o c2 hc2).2] at hx2;cases hx2
  rcases b.bz l j hb with t|g;have⟨i,h⟩:=ay hIn.iU.core.1;have t4:=hIn.t4 i (by have:=hIn.iU.core.2;omega);have:Cj (M.aJ l).1 i=1:=by rw[Cj];rw[bD2 ⟨t,h⟩]
  grind[fS,H8,dR,Ja];have:∃i,i<4/\(M.aJ l).1.dQ i=true:=by
   rw[bT.kI] at g;cases e0:(M.aJ l).1.dQ 0 with
   |true=>grind
   |false=>
    grind
  obtain⟨i,f,h⟩:=this;have t3:=hIn.t3 i f;grind[fS,H8,dR,Ja]
theorem N6 (h:cX C N M) (b:RY C M V) (j:Wo C M) {l:Nat} (e:l<C.aF):∀x∈(M.aJ l).1.aH,jS C M x=true:=fun x f=>by
 have o:=((b.rY.aI l e).iU.aH x f).2.2;by_cases g:x.kind=0;grind[Jp];exact P9 h b j (b.rY.fh e f g) FQ
theorem Sp.aH (h:Sp C M M') (g:cX C N M) (o:RY C M V) (b:cX C N' M') (e:RY C M' V') (j:Wo C M) {l:Nat} (f:l<C.aF):(M'.aJ l).1.aH=(M.aJ l).1.aH:=by
 have:=h.wt l f;rwa [BC.2<|N6 g o j f,BC.2<|N6 b e (h.q13 g b j) f] at this
theorem aX7 (hC:C.Ok) (K:2<=C.eR) (h:Zs C S N M) (H:Wo C M) (Y:Q0 C M) (T:Q2 C M) {l:Nat} (B:l<C.aF) (E:(M.aJ l).1.aH≠[]):fi C S M ⟨2,l,0,0⟩:=fun M' X R U u q=>by
 have⟨hI,hW,⟨V,hR⟩,hEn,hS⟩:=h.mem;have⟨hI',hW',⟨V',hR'⟩,hEn',hS'⟩:=R.mem;have t:=u.q13 hI hI' H;have v:=u.q2 hI hI' hR' H T;have hb:=Dg hC hI' hR' hEn' t v B;rw[<-u.aH hI hR hI' hR' H B] at E;rw[Bp FR,xz];suffices G:(M'.dJ C _).2=0 by
  obtain⟨n,w,I,_,hle⟩:=ng hC hI' hR' G;have:=N6 hI' hR' t B n (by rw[I];grind);rw[this,bD2 rfl] at hle;exact .inr FQ
 cases I:(M'.aJ l).1.aH with
 |nil=>grind
 |cons n w=>
 have o:C.kJ (l:Int):=⟨FQ,FQ⟩;have Q:iN.dJ (M'.aJ l) (l:Int) (M'.gE C (l:Int))=((bT.eY ((M'.aJ l).1.next w) (l:Int) (M'.aJ l).2 n<|M'.gE C (l:Int)).1,(bT.eY ((M'.aJ l).1.next w) (l:Int) (M'.aJ l).2 n<|M'.gE C (l:Int)).2,0):=by
  rw[iN.dJ];rw[bD1 FR,I]
 have e:eQ C M'.aJ (l:Int) (M'.gE C (l:Int))=(bA M'.aJ l (bT.eY ((M'.aJ l).1.next w) (l:Int) (M'.aJ l).2 n<|M'.gE C (l:Int)).1,(bT.eY ((M'.aJ l).1.next w) (l:Int) (M'.aJ l).2 n<|M'.gE C (l:Int)).2,0):=by
  rw[eQ];rw[bD2 o,aL,Q]
 have⟨H',out,er,h3,h4,h5,_⟩:=hR'.rY.Eg (l:=(l:Int)) (j:=M'.gE C (l:Int));rw[e] at h3;have p:(bT.eY _ _ _ n _).2=out:=eV (fun x=>x.2.1) h3;have O:=hI'.bH.len;have Z:=(bQ.fF hC).1;have b:=xg (l:=(l:Int)) (j:=M'.gE C _) hC (((hR'.rY.aI l B).iU.aH n FR).2.2) FQ (fun _=>by
  rw[bU.gE,bD2 o];exact hI'.bH.jX ⟨FQ,FQ⟩) fun y f=>by
   rw[p] at f;exact(h4.nb y FR (h5 y f).2).1
 have A:∀y∈out,0<=y.core/\y.core<C.aB:=fun y f=>(h4.nb y FR (h5 y f).2).1;have hsend:(M'.cD.gJ C (bT.eY ((M'.aJ l).1.next w) (l:Int) (M'.aJ l).2 n<|M'.gE C (l:Int)).2).2=0:=by
  rw[p] at b ⊢;rcases b with⟨y,f,D,s⟩|g;rw[f];have J:=A y FR;apply Tu D;rw[s];have:=iz (c:=y.core.toNat) hI' hR' FQ fun z W=>v _ FQ z W;omega;refine xM (fun y f=>(g y f).1) fun y f=>?_;have⟨_,s,hm⟩:=g y f;have J:=A y f;rw[s,(t y.core.toNat FQ).2];grind
 grind[bU.dJ]
theorem aBa (hC:C.Ok) (p:cX C N M) (j:RY C M V) (l:Wo C M) {g:Nat} {r:Mc.mP} (o:M.bH.eI g=some r):r.phase=2:=by
 apply hK;intro v;have⟨h1,h2⟩:=j.gG.ph g r o;have q:¬r.none=true:=FR;have:∃i,i<4/\r.aH i=true:=by
  rw[mP.none] at q;cases e0:r.aH 0 with
  |true=>grind
  |false=>
   grind
 obtain⟨i,_,u⟩:=this;have f:(i:Int)<C.aB:=by
  grind
 have b:=j.gG.cd g i f;rw[Fl,o] at b;dsimp only at b;rw[Mc.cd] at b;obtain⟨x,s,h⟩:=AQ.1 (show 0<_ by rw[b];grind);have t:=(c8 h).2.2;have⟨c2,w2,hc2,hw2,hx2⟩:=uM s;rcases fG p hx2 with e|e|e|e;omega;rw[e.1,(l c2 hc2).1] at hx2;cases hx2;omega;rw[e.1,(l c2 hc2).2] at hx2;cases hx2
theorem aB3 {l:Nat} (hb:(M.aJ l).1.busy=false) (b:(M.aJ l).1.aH=[]):¬gO C M.aJ (l:Int)>0:=by
 grind[gO,bT.E5]
theorem ja (hC:C.Ok) (f:cX C N M) (h:RY C M V) (b:En C M) (j:Wo C M) (o:Q2 C M) (e:∀l,l<C.aF->(M.aJ l).1.aH=[]) {g:Nat} {r:Mc.mP} (p:M.bH.eI g=some r):M.gX C g=true:=by
 have⟨l0,l1⟩:=oK<|(f.bH.run g r p).1;have q:=aBa hC f h j p;have e2:M.bH.phase (g:Int)=2:=by
  unfold Mon.phase Mon.run;grind
 have s0:=aB3 (C:=C) (Dg hC f h b j o l0)<|e _ l0;have s1:=aB3 (C:=C) (Dg hC f h b j o l1)<|e _ l1;grind[bU.gX,decide_eq_true,decide_eq_false,Int,Nat]
theorem aX1 (hC:C.Ok) (h:Zs C S N M) (u:Wo C M) (B:Q2 C M) (H:∀l,l<C.aF->(M.aJ l).1.aH=[]) {g:Nat} {r:Mc.mP} (D:M.bH.eI g=some r):fi C S M ⟨3,g,0,0⟩:=fun M' J v I f q=>by
 have⟨hI,hW,⟨V,hR⟩,hEn,hS⟩:=h.mem;have⟨hI',hW',⟨V',hR'⟩,hEn',hS'⟩:=v.mem;have j:=f.q13 hI hI' u;have o:=f.q2 hI hI' hR' u B;have s:∀l,l<C.aF->(M'.aJ l).1.aH=[]:=fun l t=>by rw[f.aH hI hR hI' hR' u t];grind
 have b:M'.bH.eI g=some r:=by rw[f.bH];exact D
 have G:=ja hC hI' hR' hEn' j o s b;have p:=(hI'.bH.run g r b).1;have z:=aBa hC hI' hR' j b;have⟨l0,l1⟩:=oK p;have cl:∀l,l<C.aF->Sm _->Pc.vQ _:=fun l t E=>by
  rcases E with(⟨e,_⟩|⟨x,O,_⟩)|e;rw[Dg hC hI' hR' hEn' j o t] at e;cases e;grind;exact e
 have A:=hR'.Vq g r b z;have w:=hR'.gH hC hI' hW' p b z FR;rw[Bp FR,ya];refine .inl<|aKz hC v ?_;have K:M'.bH.over g=((M'.bH.oL r.aR.toNat ⟨r.kB,false⟩).dL g none,some r,0):=by
  have y:=hI'.bH.len;rw[Mon.over];rw[bD1 fun e=>e ⟨FQ,FQ⟩];rw[Mon.run];rw[aac,aL,b];dsimp only;grind
 grind[bU.gH]
theorem iy (f:cX C N M) (h:RY C M V) (s:Wo C M) (q:∀g,M.bH.eI g=none) (o:∀c w x,x∈M.cD c w->jS C M x=false) (c w:Nat):M.cD c w=[]:=Uv fun x p=>by
 have t:=aAw<|o c w x p;have j:=lH f p;have u:x.kind=6\/x.kind=12:=by
  apply hK;intro e;have:=P9 f h s j.2.2 FQ;grind
 have l:=h.gG.gr c<|(I5 f p).1;have b:fC M.bH (M.aT c).aR=true:=by
  rw[bV] at t;grind
 have⟨g,hg⟩:=ay l.1;rw[hg] at b;have:=(h.gG.wI g FQ).1 b;grind
theorem all_nil (h:∀c w,M.cD c w=[]):dR C M.cD=[]:=by
 simp_all[dR]
theorem zt (hC:C.Ok) (s:2<=C.eR) (G:cX C N M) (o:RY C M V) (z:En C M) (y:Ex C M) (u:∀c w,M.cD c w=[]) (v:∀l,l<C.aF->(M.aJ l).1.aH=[]) (A:∀g,M.bH.eI g=none) (t:(i:Int)<C.aB):aT3 C M i:=by
 have p:=all_nil (C:=C) u;have H:Wo C M:=fun c _=>FR;have E:Q2 C M:=fun c _ x y=>FR
 have f:i<4:=GA
 have b:=o.rY.Bi i f;have D:∀q l,fS q i l (H8 l<|dR C M.cD)=0:=fun q l=>by rw[p];rfl
 have I:∀q l,l<C.aF->fS q i l (M.aJ l).1.aH=0:=fun q l h=>by rw[v l h];rfl
 refine⟨?_,?_,?_,u i 0,fun j=>u j 3,s,fun g g0 gl=>?_,y.wd i t⟩;have:=o.gG.cw i t;rw[p] at this;cases e:(M.aT i).dM with
 |false=>rfl
 |true=>rw[e] at this;cases this
 cases e:(M.bR i).pM with
 |false=>rfl
 |true=>
  obtain⟨⟨a0,a1⟩,_⟩:=b.al e;have⟨l,hll⟩:=ay a0;have t1:=(o.rY.aI l FQ).t1 i f;have kJ:(rZ C M.bR l i).qP=true:=by
   show((M.bR i).pM&&decide _)=true;grind
  have B:B4 (M.aJ l).1 i=0:=by rw[B4];rw[bD1 fun e2=>by grind[Dg]]
  grind
 cases e:(M.bR i).uD with
 |false=>rfl
 |true=>
  have⟨a0,a1⟩:=b.gl e;have⟨l,hll⟩:=ay a0;have t2:=(o.rY.aI l FQ).t2 i f;have kJ:(rZ C M.bR l i).gi=true:=by
   show((M.bR i).uD&&decide _)=true;grind
  grind
 have⟨g',hg'⟩:=ay g0;rw[hg'];cases e:fC M.bH _ with
 |false=>rfl
 |true=>
  have:=(o.gG.wI g' FQ).1 e;grind
theorem T3 {i:Int} (b:∀g,M.bH.eI g=none):M.bH.gZ i=false:=by
 grind[Mon.gZ,List.any_eq_false,Mon.qR]
theorem aXe (hC:C.Ok) (j:2<=C.eR) (h:Zs C S N M) (u:Wo C M) (z:∀c w x,x∈M.cD c w->jS C M x=false) (A:∀l,l<C.aF->(M.aJ l).1.aH=[]) (s:∀g,M.bH.eI g=none)
 (o:(i:Int)<C.aB) (E:(M.aD i).over=false):fi C S M ⟨0,i,0,0⟩:=fun M' D v t f q=>by
 have⟨hI,hW,⟨V,hR⟩,hEn,hS⟩:=h.mem
 have⟨hI',hW',⟨V',hR'⟩,hEn',hS'⟩:=v.mem
 have b:∀g,M'.bH.eI g=none:=fun g=>by rw[f.bH];exact s g
 have p:∀c w x,x∈M'.cD c w->jS C M' x=false:=fun c w x B=>by
  cases e:jS C M' x with
  |false=>rfl
  |true=>
   have:=f.vO B e;grind
 rw[Bp FR,df]
 exact aNu hC hI' hR' hEn' o (zt hC j hI' hR' hEn' t (iy hI' hR' (f.q13 hI hI' u) b p) (fun l y=>by rw[f.aH hI hR hI' hR' u y];grind) b o) (by rwa [f.aD])<|T3 b
theorem Cs (hc:(c:Int)<C.aB) (b:w<4) (h:M.cD c w≠[]):(⟨1,c,w,0⟩:Do)∈M.ready C:=by
 rw[bU.ready];grind
theorem aMj (hC:C.Ok) (j:2<=C.eR) (h:Zs C S N M) (O:Ex C M) (B:M.over C=false):∃d∈M.ready C,fi C S M d:=by
 have⟨hI,hW,⟨V,hR⟩,hEn,hS⟩:=h.mem;by_cases p1:∃c:Nat,(c:Int)<C.aB/\M.cD c 1≠[];grind[aXj,Cs];have l1:∀c:Nat,(c:Int)<C.aB->M.cD c 1=[]:=FR;by_cases U:∃c:Nat,(c:Int)<C.aB/\M.cD c 3≠[];obtain⟨c,f,o⟩:=U;exact⟨_,Cs f FQ o,aXm hC h l1 f o⟩;have q:Wo C M:=fun c f=>FR;by_cases n1:∃c:Nat,(c:Int)<C.aB/\∃x∈M.cD c 0,x.kind≠6;obtain⟨c,f,x,b,u⟩:=n1;exact⟨_,Cs f FQ FR,aXy hC h q f b u⟩;have A:Q0 C M:=fun c f x b=>FR;by_cases Q:∃c:Nat,(c:Int)<C.aB/\∃x∈M.cD c 2,x.kind≠12;obtain⟨c,f,x,b,u⟩:=Q;exact⟨_,Cs f FQ FR,aYs hC h q A f b u⟩;have y:Q2 C M:=fun c f x b=>FR;by_cases R:∃c w x,x∈M.cD c w/\jS C M x=true;obtain⟨c,w,x,b,G⟩:=R;have⟨f,hw⟩:=I5 hI b;exact⟨_,Cs f hw FR,aWq hC h q A y f b G⟩;have v:∀c w x,x∈M.cD c w->jS C M x=false:=FR;by_cases T:∃l,l<C.aF/\(M.aJ l).1.aH≠[];obtain⟨l,z,o⟩:=T;refine⟨_,?_,aX7 hC j h q A y z o⟩;rw[bU.ready];grind[Dg,decide_eq_true];have p:∀l,l<C.aF->(M.aJ l).1.aH=[]:=FR;by_cases n5:∃g r,M.bH.eI g=some r;obtain⟨g,r,E⟩:=n5;refine⟨_,?_,aX1 hC h q y p E⟩;refine cg.2<|.inr ?_;have I:=(hI.bH.run g r E).1;exact gk.2 ⟨g,BN.2 ⟨FR,ja hC hI hR hEn q y p E⟩,rfl⟩;have t:∀g,M.bH.eI g=none:=fun g=>by
  cases e:M.bH.eI g with
  |none=>rfl
  |some r=>grind
 have z:=iy hI hR q t v;have D:∃i:Nat,(i:Int)<C.aB/\(M.aD i).over=false:=by
  apply hK;intro e;rw[bU.over] at B;have W:M.rh C=[]:=by rw[Ys];exact all_nil z
  have e2:((List.range C.aB.toNat).all fun i=>(M.aD i).over&& !(M.bR i).pM&& !(M.aT i).dM)=true:=ux.2 fun i J=>by
   have s:(i:Int)<C.aB:=by have:=AI.1 J;omega
   have H:=zt hC j hI hR hEn O z p t s;have:(M.aD i).over=true:=by
    cases e3:(M.aD i).over with
    |true=>rfl
    |false=>grind
   rw[this,H.pM,H.dM];rfl
  grind
 obtain⟨i,s,K⟩:=D;refine⟨_,?_,aXe hC j h q v p t s K⟩;rw[bU.ready];refine cg.2<|.inl<|cg.2<|.inl<|cg.2<|.inl<|gk.2 ⟨i,BN.2 ⟨FR,?_⟩,rfl⟩;grind[bU.aH,T3]
theorem Ex.zw (hC:C.Ok) (h:Zs C S N M) (f:Ex C M):Ex C (lS C (M,k) d).1:=by
 have b:=f.mC hC h (d:=d);by_cases e:d.mI=1/\d.b=2;rw[P4 e];split;exact b;exact b.mC hC (h.mC hC) (d:=⟨0,d.a,0,0⟩);grind[Bp]
structure aY5 (C:bQ) (S:Nat->aQ) (N:Nat) (M M':bU):Prop where
 zs:Zs C S N M'
 ex:Ex C M'
 gr:M.eF.length<=M'.eF.length
theorem ff (hC:C.Ok):∀{l:IY} {N:Nat} {M:bU} {k:Nat},Zs C S N M->Ex C M->(∀d∈l,IsR C d)->aY5 C S (N+4*l.length) M (l.foldl (lS C) (M,k)).1/\Mv C M (l.foldl (lS C) (M,k)).1:=by
 intro l;induction l with
 |nil=>intro N M k h b _;exact⟨⟨h,b,bb _⟩,Mv.refl⟩
 |cons d l f=>
  intro N M k h b e;have⟨h1,g1⟩:=h.zw (d:=d) (k:=k) hC;have⟨r2,m2⟩:=f (k:=(lS C (M,k) d).2) h1 (b.zw (d:=d) (k:=k) hC h) FR;refine⟨⟨?_,r2.ex,cL g1 r2.gr⟩,(aJl (k:=k) hC h<|e d eg).trans m2 g1 r2.gr⟩;have:=r2.zs;grind
theorem q7 (hC:C.Ok) (j:2<=C.eR) (h:Zs C S N M) (f:Ex C M) (p:M.over C=false):sa C M (M.round C).1:=by
 have⟨d,hd,hp⟩:=aMj hC j h f p;have⟨l1,l2,hl⟩:=List.append_of_mem hd;have b:∀x∈M.ready C,IsR C x:=fun x f=>Ur f;rw[bU.round];rw[hl] at b ⊢;rw[DG,CX];have⟨r1,m1⟩:=ff (k:=0) hC h f fun x f=>b x<|cg.2<|.inl f;generalize l1.foldl _ (M,0)=A at*;obtain⟨l,g⟩:=A;dsimp only at r1 m1;have e:=r1.zs.zw (d:=d) (k:=g) hC;have o:sa C M (lS C (l,g) d).1:=by
  rcases m1 with m1|m1|m1;exact .inl FQ;exact sa.trans (.inr m1) (aJl (k:=g) hC r1.zs FR) r1.gr e.2;exact(Mv.go (.inr<|.inr m1) (hp l _ r1.zs r1.ex m1 g) r1.gr e.2)
 have⟨r3,m3⟩:=ff (k:=(lS C (l,g) d).2) hC e.1 (r1.ex.zw (d:=d) (k:=g) hC r1.zs) fun x f=>b x<|cg.2<|.inr<|aW _ f;exact o.trans m3 (cL r1.gr e.2) r3.gr
def T1 (hC:C.Ok) (h:Zs C S N M) (e:Ex C M):aY5 C S (N+400) M (M.round C).1:=by
 have b:=(ff (l:=M.ready C) (k:=0) hC h e fun x e=>Ur e).1;have f:=(Ox (C:=C) (M:=M)).2.2;have g:=hC.1;have j:=(bQ.fF hC);refine⟨⟨⟨b.zs.all.inv.mono FQ,b.zs.all.lE,b.zs.all.rps⟩,b.zs.ry,b.zs.en,b.zs.sw⟩,b.ex,b.gr⟩
variable {P:Nat->IW}
def O2 (p:IW):Prop:=∀a:Int,0<=a->a<p.length->((mW p a).op=9->a<(mW p a).a)/\((mW p a).op=10->a<(mW p a).b)
theorem aT4 {s t:aQ} (j:s.Ok) (g:O2 s.prog) (h:rp i s v=some t):t.prog=s.prog/\s.at'+1<=t.at'/\t.at'<=s.prog.length:=by
 have nx:∀{x:iW},aQ.kO s=some x->s.at'<s.prog.length/\x=mW s.prog s.at'/\aMk x s.prog.length:=fun {x} e=>by
  rw[aQ.kO] at e;split at e;cases e;grind[Sn]
 rw[rp] at h;split at h;rename_i r b;split at h;cases h;rw[aQ.lI] at b;cases e:aQ.kO s with
 |none=>grind
 |some x=>
  rw[e] at b;have⟨h1,h2,h3⟩:=nx e;have l:=g s.at' j.1 h1;dsimp only at b;split at b;cases b;exact⟨rfl,BX _,GD⟩;split at b;cases b;exact⟨rfl,BX _,GD⟩;split at b;cases b;exact⟨rfl,BX _,GD⟩;split at b;split at b;cases b;exact⟨rfl,BX _,GD⟩;cases b;exact⟨rfl,BX _,GD⟩;split at b;rename_i o;cases b;exact⟨rfl,by show s.at'+1<=x.a;grind,(h3.p1 o).2⟩;split at b;rename_i f;cases b;have p:=(h3.p2 f).2;refine⟨rfl,?_,?_⟩;show s.at'+1<=(if s.dK x.a.toNat=0 then x.b else s.at'+1);grind;show(if s.dK x.a.toNat=0 then x.b else s.at'+1)<=_;grind;cases b
 cases h;split at h;rename_i b;cases h;have b:=b.1;rw[aQ.bK] at b ⊢;cases e:aQ.kO s with
 |none=>grind
 |some x=>
  have⟨h1,h2,h3⟩:=nx e;dsimp only at b ⊢;split;exact⟨rfl,BX _,GD⟩;split;split;grind;split;exact⟨rfl,BX _,GD⟩;split;exact⟨rfl,BX _,GD⟩;exact⟨rfl,BX _,GD⟩;grind
 cases h
structure St (C:bQ) (P:Nat->IW) (M:bU):Prop where
 pr:∀i:Nat,(i:Int)<C.aB->(M.aD i).prog=P i
 le:∀i:Nat,(i:Int)<C.aB->(M.aD i).at'<=(P i).length
 lg:M.eF.length<=eZ (fun i=>(M.aD i).at'.toNat) C.aB.toNat
theorem St.ev (p:cX C N M) (hP:∀i:Nat,(i:Int)<C.aB->O2 (P i)) (h:St C P M) {s:aQ} (o:(i:Int)<C.aB) (l:M'.aD=bA M.aD i s) (u:M'.eF=M.eF++[v]) (q:rp i (M.aD i) v=some s):St C P M':=by
 have g:=p.B6 i o;have⟨a1,a2,a3⟩:=aT4 g (by rw[h.pr i o];grind) q;rw[h.pr i o] at a1 a3;have t:=g.1;refine⟨fun j b=>?_,fun j b=>?_,?_⟩;rw[l];by_cases e:j=i;grind[cR];rw[Ab.bO e];exact h.pr j b;rw[l];by_cases e:j=i;grind[cR];rw[Ab.bO e];exact h.le j b;have:=pS (f:=fun j=>(M'.aD j).at'.toNat) (k:=i) (n:=C.aB.toNat) FQ fun j _ b=>by rw[l,Ab.bO b]
 have e:(M'.aD i).at'=s.at':=by rw[l,cR]
 have w:=h.lg;grind
def St.mC (hC:C.Ok) (o:cX C N M) (u:Dh M) (hP:∀i:Nat,(i:Int)<C.aB->O2 (P i)) (h:St C P M):St C P (M.mC C d).1:=by
 cases H4 (d:=d) hC o u with
 |qD b e l=>exact⟨by rw[b];exact h.pr,by rw[b];exact h.le,by rw[b,e];exact h.lg⟩
 |ev j s v f t q b e w p l=>exact h.ev o hP f b e p
 |uC j g f t q b e x l=>exact⟨by rw[b];exact h.pr,by rw[b];exact h.le,by rw[b,e];exact h.lg⟩
 |sL j g s v f t z b e w A y p l=>exact h.ev o hP f b e p
theorem St.zw (hC:C.Ok) (e:Zs C S N M) (hP:∀i:Nat,(i:Int)<C.aB->O2 (P i)) (h:St C P M):St C P (lS C (M,k) d).1:=by
 have f:=h.mC hC e.all.inv e.all.lE hP (d:=d);by_cases g:d.mI=1/\d.b=2;rw[P4 g];split;exact f;have b:=e.mC (d:=d) hC;exact f.mC hC b.all.inv b.all.lE hP (d:=⟨0,d.a,0,0⟩);grind[Bp]
theorem St.aT0 (hC:C.Ok) (hP:∀i:Nat,(i:Int)<C.aB->O2 (P i)):∀{l:IY} {N:Nat} {M:bU} {k:Nat},Zs C S N M->St C P M->St C P (l.foldl (lS C) (M,k)).1:=by
 intro l;induction l with
 |nil=>grind
 |cons d l e=>
  intro N M k b h;exact e (b.zw hC).1<|h.zw hC b hP
theorem St.aMl (b:cX C N M) (h:St C P M):M.eF.length<=eZ (fun i=>(P i).length) C.aB.toNat:=by
 refine cL h.lg<|iI fun i e=>?_;have:=h.le i FQ;grind
theorem aGv (h:(M.step C A).2≠0):(M.step C A).1=M:=by
 rw[bU.step] at h ⊢;split;rfl;dsimp only at h ⊢;split;rfl;split;rfl;split;grind;rename_i f;split;rename_i a b;unfold bU.call at h ⊢;dsimp only at h ⊢;split;simp_all[bD2,D6];grind;rename_i e;split;rename_i a b;rw[b] at h;dsimp only at h;rw[bU.eK] at h ⊢;split;simp_all[bD2,D6];dsimp only at h ⊢;split;rfl;split;grind[bU.Bk];split;simp_all[bD2,D6];split;grind[bU.fY];unfold bU.kD at h;simp_all[bU.bK,bD1,Ld];rfl
theorem aUl (hC:C.Ok) (h:Zs C S N M) (p:IsR C d) (e:(M.mC C d).2≠0):(M.mC C d).1=M:=by
 have⟨hI,hW,⟨V,hR⟩,hEn,hS⟩:=h.mem;cases p with
 |step i t=>grind[df,aGv]
 |beg l f=>grind[xz,Pd]
 |sL g s=>grind[ya,Mg]
 |del c w o q=>
  rw[D5] at e ⊢;cases f:M.cD c w with
  |nil=>grind[Wu]
  |cons n l=>
   rcases Ei hI o q f with⟨_,j,_⟩|b;exact j;rw[b.e] at e;grind
theorem aXo (hC:C.Ok) (h:Zs C S N M) (b:IsR C d):k<=(lS C (M,k) d).2/\((lS C (M,k) d).2=k->(lS C (M,k) d).1=M):=by
 unfold lS;dsimp only;split;rename_i e;exact⟨bb _,fun _=>aUl hC h b e⟩;grind
theorem aU2 (hC:C.Ok):∀{l:IY} {N:Nat} {M:bU} {k:Nat},Zs C S N M->(∀d∈l,IsR C d)->k<=(l.foldl (lS C) (M,k)).2/\((l.foldl (lS C) (M,k)).2=k->(l.foldl (lS C) (M,k)).1=M):=by
 intro l;induction l with
 |nil=>grind
 |cons d l e=>
  intro N M k h b;have⟨h1,h2⟩:=aXo (k:=k) hC h<|b d eg;have⟨h3,h4⟩:=e (k:=(lS C (M,k) d).2) (h.zw (d:=d) (k:=k) hC).1 FR;grind
def aE7 (hC:C.Ok) (b:2<=C.eR) (h:Zs C S N M) (j:Ex C M) (g:M.over C=false):0<(M.round C).2:=by
 apply hK;intro e;have f:=q7 hC b h j g;have e2:(M.round C).1=M:=(aU2 hC h fun x j=>Ur j).2 (by show(M.round C).2=0;omega);rw[e2] at f;rcases f with f|f<;>omega
def Qg (x:aG):Bool:=decide<|x.kind=1\/x.kind=2\/x.kind=8\/x.kind=9
def Qu (x:aG):Bool:=decide<|x.kind=3\/x.kind=10
def F2 (p:aG->Bool) (i:Nat) (x:aG):Bool:=decide (x.core=(i:Int))&&p x
def Il {f:Nat->Nat->Nat} {a:Nat}:∀{b:Nat},eZ (fun l=>eZ (f l) a) b=eZ (fun i=>eZ (fun l=>f l i) b) a
 |0=>(nA fun _ _=>rfl).symm
 |b+1=>by
  show eZ _ b+eZ _ a=_;rw[Il,<-lT];rfl
def ic {f:Nat->Nat}:∀{n:Nat},eZ (fun l=>f<|l/2) (n*2)=2*eZ f n
 |0=>rfl
 |n+1=>by
  rw[show(n+1)*2=n*2+1+1 by omega];show eZ _ _+f _+f _=2*(eZ f n+f n);rw[ic,show n*2/2=n by omega,show(n*2+1)/2=n by omega];omega
def Kr {b:Nat}:∀{n:Nat},eZ (fun _=>b) n=b*n
 |0=>rfl
 |n+1=>by show eZ _ n+b=_;rw[Kr,Nat.mul_succ]
theorem Gg {p:aG->Bool} {n:Nat}:∀{L:IT},(∀x∈L,p x=true->0<=x.core/\x.core<n)->L.countP p=eZ (fun i=>L.countP<|F2 p i) n
 |[],_=>(nA fun _ _=>rfl).symm
 |x::L,h=>by
  rw[l9,Gg fun y e=>h y<|aW _ e];split;rename_i b;have⟨h1,h2⟩:=h x FR b;have⟨k,hk⟩:=ay h1;have:=pS (f:=fun i=>(x::L).countP<|F2 p i) (k:=k) (n:=n) FQ fun i _ g=>by
   rw[List.countP_cons_of_neg];grind[F2]
  grind[F2,List.countP_cons_of_pos];grind[nL,List.countP_cons_of_neg,F2]
theorem Gs {p:aG->Bool} {n:Nat}:∀{L:IT},(∀x∈L,p x=true->(0<=x.aI/\x.aI<n)/\PK x.kind)->L.countP p=eZ (fun l=>(L.filter<|Rn l).countP p) n
 |[],_=>(nA fun _ _=>rfl).symm
 |x::L,h=>by
  rw[l9,Gs fun y o=>h y<|aW _ o];by_cases b:p x=true;obtain⟨⟨g,s⟩,j⟩:=h x FR b;have⟨k,hk⟩:=ay g;have:=pS (f:=fun l=>((x::L).filter<|Rn l).countP p) (k:=k) (n:=n) FQ fun l _ t=>by
   rw[AX];intro e;have:=(c8 e).1;omega
  have q:((x::L).filter<|Rn k).countP p=(L.filter<|Rn k).countP p+1:=by
   rw[BV<|show Rn k x=true from cj ⟨hk,j⟩,l9,bD2 b]
  grind;grind
theorem dp {i l:Nat}:∀{L:IT},(∀x∈L,x.aI=(l:Int))->L.countP (F2 Qg i)=fS 1 i l L+fS 2 i l L+fS 8 i l L+fS 9 i l L/\L.countP (F2 Qu i)=fS 3 i l L+fS 10 i l L
 |[],_=>⟨rfl,rfl⟩
 |x::L,h=>by
  have⟨h1,h2⟩:=dp (i:=i) fun y f=>h y<|aW _ f;simp[dU,l9];have a:(if F2 Qg i x=true then 1 else 0)=(if x.kind=1/\x.core=(i:Int)/\x.aI=(l:Int) then 1 else 0)+(if x.kind=2/\x.core=(i:Int)/\x.aI=(l:Int) then 1 else 0)+(if x.kind=8/\x.core=(i:Int)/\x.aI=(l:Int) then 1 else 0)+(if x.kind=9/\x.core=(i:Int)/\x.aI=(l:Int) then 1 else 0):=by
   unfold F2 Qg;by_cases e:x.core=(i:Int);grind;simp[e]
  have b:(if F2 Qu i x=true then 1 else 0)=(if x.kind=3/\x.core=(i:Int)/\x.aI=(l:Int) then 1 else 0)+(if x.kind=10/\x.core=(i:Int)/\x.aI=(l:Int) then 1 else 0):=by
   unfold F2 Qu;by_cases e:x.core=(i:Int);grind;simp[e]
  omega
theorem aYj (hC:C.Ok) (t:RY C M V) (y:(i:Int)<C.aB):(dR C M.cD).countP (F2 Qg i)+eZ (fun l=>(M.aJ l).1.aH.countP (F2 Qg i)+B4 (M.aJ l).1 i) C.aF<=1/\
  (dR C M.cD).countP (F2 Qu i)+eZ (fun l=>(M.aJ l).1.aH.countP<|F2 Qu i) C.aF<=1:=by
 have g:i<4:=GA
 have v:∀{p:aG->Bool},(∀x,p x=true->PK x.kind)->∀x∈dR C M.cD,F2 p i x=true->(0<=x.aI/\x.aI<C.aF)/\PK x.kind:=fun {p} u x f h=>by
  rw[F2,dn] at h;exact⟨(t.rY.nb x f<|u x h.2).2,u x h.2⟩
 rw[Gs<|v fun x h=>by have:=c8 h;rw[PK];omega,Gs (v fun x h=>by have:=c8 h;unfold PK;omega),<-lT,<-lT]
 have each:∀l:Nat,l<C.aF->((dR C M.cD).filter<|Rn l).countP (F2 Qg i)+((M.aJ l).1.aH.countP (F2 Qg i)+B4 (M.aJ l).1 i)<=(rZ C M.bR l i).qP.toNat/\
   ((dR C M.cD).filter<|Rn l).countP (F2 Qu i)+(M.aJ l).1.aH.countP (F2 Qu i)<=(rZ C M.bR l i).gi.toNat:=fun l j=>by
  have o:=t.rY.aI l j
  have t1:=o.t1 i g
  have t2:=o.t2 i g
  have⟨a1,a2⟩:=dp (i:=i) (L:=(dR C M.cD).filter _) fun x f=>(zL.1<|show x∈H8 l _ from f).2.1
  have⟨b1,b2⟩:=dp (i:=i) fun x f=>(o.iU.aH x f).1
  have z:∀q,(q=8\/q=9\/q=10)->fS q i l _=0:=fun q A=>AR.2 fun x f e=>by
   have:=(o.iU.aH x f).2.2;have:=(c8 e).1;omega
  grind[H8]
 refine⟨?_,?_⟩
 .have kJ:∀l:Nat,(rZ C M.bR l i).qP=((M.bR i).pM&&decide _):=fun l=>rfl;by_cases j:(M.bR i).al.toNat<C.aF
  .refine Dn (k:=(M.bR i).al.toNat) (fun l b s=>?_) ?_
   .have:(rZ C M.bR l i).qP=false:=IS
    grind
   .have w:=(each _ j).1;have:(rZ C M.bR (M.bR i).al.toNat i).qP.toNat<=1:=by cases(rZ C M.bR _ i).qP<;>decide
    omega
  .rw[nA fun l b=>?_]
   .omega
   .have:(rZ C M.bR l i).qP=false:=IS
    grind
 .have kJ:∀l:Nat,(rZ C M.bR l i).gi=((M.bR i).uD&&decide _):=fun l=>rfl;by_cases j:(M.bR i).gl.toNat<C.aF
  .refine Dn (k:=(M.bR i).gl.toNat) (fun l b s=>?_) ?_
   .have:(rZ C M.bR l i).gi=false:=IS
    grind
   .have w:=(each _ j).2;have:(rZ C M.bR (M.bR i).gl.toNat i).gi.toNat<=1:=by cases(rZ C M.bR _ i).gi<;>decide
    omega
  .rw[nA fun l b=>?_]
   .omega
   .have:(rZ C M.bR l i).gi=false:=IS
    grind
theorem aQ1 (q:cX C N M) (s:Dh M):eZ (fun g=>if(M.bH.eI g).isSome then 1 else 0) C.aM.toNat<=C.aB.toNat:=by
 have o:∀g,(if(M.bH.eI g).isSome then 1 else 0)=eZ (fun i=>if rc M.bH g=some (i:Int) then 1 else 0) C.aB.toNat:=fun g=>by
  cases hr:M.bH.eI g with
  |none=>
   grind[nA,rc]
  |some r=>
   obtain⟨_,_,_,⟨h,v⟩,_⟩:=q.bH.run g r hr;have⟨i,hi⟩:=ay h;have e:rc M.bH g=some (i:Int):=by rw[rc];grind
   have:=pS (f:=fun j=>if rc M.bH g=some (j:Int) then 1 else 0) (g:=fun _=>0) (k:=i) (n:=C.aB.toNat) FQ FR;simp_all[bD2,nA]
 rw[nL fun g _=>o g,Il];have p:eZ (fun _=>1) C.aB.toNat=C.aB.toNat:=by rw[Kr];omega
 refine cL (iI fun i _=>?_)<|AO p;by_cases u:∃g,rc M.bH g=some (i:Int);obtain⟨g,t⟩:=u;refine Dn (k:=g) (fun l _ b=>?_) ?_;rw[bD1];exact fun e=>b<|s.Fh l g _ e t;grind;simp_all[nA,bD1]
end Go.Mc
