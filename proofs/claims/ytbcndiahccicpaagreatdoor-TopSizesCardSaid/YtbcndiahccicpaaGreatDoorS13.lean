/- A part of the proof. -/
import Derived.Test.YtbcndiahccicpaaGreatDoorS12
import Derived.Test.YtbcndiahccicpaaGreatDoorS7
import Derived.Test.YtbcndiahccicpaaGreatDoorS8
import Derived.Test.YtbcndiahccicpaaGreatDoorS9
set_option linter.all false
open Go Go.Ab
variable {N i:Nat}
namespace Go.Mc
open Go.Hm Go.At Go.Is Go.Ct Go.Nt Go.Pc
variable {C:bQ} {M':bU} {S:Nat->aQ} {d:Do}
section
variable {M:bU} {V V':Nat->Ln} {n:aG} {r:bT} {k c:Nat} {L:IT}
theorem aNw {F:eO}:nQ C M (dR C F)=eZ (fun c=>nQ C M (F c 0)+nQ C M (F c 1)+nQ C M (F c 2)+nQ C M (F c 3)) C.aB.toNat:=by
 rw[dR];generalize C.aB.toNat=n;induction n with
 |zero=>rfl
 |succ n a=>
  rw[ep (n:=n),oX,tA,a];congr 1;rw[AN,ET,kx];show nQ C M ([0,1,2,3].flatMap fun w=>F n w)=_;grind[tA]
theorem aWt:nW C M n<=42*(if V5 n then 1 else 0)+32*(if Qg n then 1 else 0)+10*(if Qu n then 1 else 0)+(if n.kind=4\/n.kind=5\/n.kind=7 then 1 else 0)+2*(if n.kind=11\/n.kind=13 then 1 else 0):=by
 cases hs:bV C M n with
 |true=>simp_all[Qf,og]
 |false=>
  rw[Ga hs];split;rename_i a;have b:V5 n=true:=cj a;grind[Bn,yE];grind[Qv,Qg,Qu]
theorem aI4:∀{L:IT},(∀x∈L,¬(x.kind=4\/x.kind=5\/x.kind=7)/\¬(x.kind=11\/x.kind=13))->nQ C M L<=42*L.countP V5+32*L.countP Qg+10*L.countP Qu
 |[],_=>og _
 |x::L,h=>by
  have f:=aI4 fun y a=>h y<|aW _ a;have b:=aWt (C:=C) (M:=M) (n:=x);grind[hZ]
theorem aIg {b:Nat}:∀{L:IT},(∀x∈L,nW C M x<=b)->nQ C M L<=b*L.length
 |[],_=>og _
 |x::L,h=>by
  have f:=aIg fun y a=>h y<|aW _ a;grind[List.mem_cons_self,hZ,List.length_cons,Nat.mul_succ]
theorem aS3:∀{L:IT},(∀x∈L,V5 x=true\/Qg x=true\/Qu x=true)->L.countP V5<=1->Mc.e2 C M L<=L.countP Qg+L.countP Qu
 |[],_,_=>og _
 |x::L,h,b=>by
  rw[Mc.e2];rw[l9] at b;rw[l9,l9];split;rename_i a;have f:V5 x=true:=cj<|.inr a;rw[f,bD2 rfl] at b;have:∀{l:IT},(∀y∈l,Qg y=true\/Qu y=true)->l.countP (jS C M)<=l.countP Qg+l.countP Qu:=by
   intro l;induction l with
   |nil=>grind
   |cons y l i=>
    grind
  grind;have i:=aS3 (fun y g=>h y<|aW _ g) FQ;omega
theorem aKl (hC:C.Ok) (f:cX C N M) (g:RY C M V) (hc:(c:Int)<C.aB):
  nQ C M (M.cD c 0)+nQ C M (M.cD c 1)+nQ C M (M.cD c 2)+nQ C M (M.cD c 3)+Mc.e2 C M (M.cD c 2)<=42*(M.aT c).dM.toNat+33*(dR C M.cD).countP (F2 Qg c)+11*(dR C M.cD).countP (F2 Qu c)+48:=by
 have o:=Q1 f g hc
 have hle:(M.aT c).dM.toNat<=1:=HG
 have qD:∀{p:aG->Bool} w,(M.cD c w).countP p=(M.cD c w).countP (F2 p c):=fun {p} w=>List.countP_congr fun x a=>by
  rw[F2,cj (lH f a).1,AU]
 have hA:=S4 (F:=M.cD) (w:=0) (v:=2) (p:=F2 Qg c) hc FQ FQ FQ
 have hP:=S4 (F:=M.cD) (w:=0) (v:=2) (p:=F2 Qu c) hc FQ FQ FQ
 rw[<-qD,<-qD] at hA hP
 have n0:=aI4 (C:=C) (M:=M) (L:=M.cD c 0) fun x a=>by grind[fG]
 have q:=aI4 (C:=C) (M:=M) (L:=M.cD c 2) fun x a=>by grind[fG]
 have n1:=aIg (C:=C) (M:=M) (b:=1) (L:=M.cD c 1) fun x a=>by
  have m:=fG f a;grind[Ni,Qv]
 have s:=aIg (C:=C) (M:=M) (b:=2) (L:=M.cD c 3) fun x a=>by
  grind[fG,Ni,Qv]
 have e:=aS3 (C:=C) (M:=M) (L:=M.cD c 2) (fun x a=>by
  grind[fG,V5,Qg,Qu]) FQ
 have i:=f.cD.len c 1
 have j:=f.cD.len c 3
 have l:=hC.2.2.2.2.1
 omega
theorem aPg:hM C M c+42*(M.aT c).dM.toNat<=122:=by
 rw[hM];have b:∀{s:jR} {l:Int},mX C s l<=12:=aBb;cases qZ C _ with
 |none=>
  have:(M.aT c).dM.toNat<=1:=HG
  grind
 |some a=>
  dsimp only;have b:=b (s:=M.bR c) (l:=a.aI);cases(M.aT c).dM<;>cases fC M.bH a.aR<;>cases vS _ a.aR<;>cases tR C M c a<;>simp only[aO,dx,eD,Bool.toNat_false,Bool.toNat_true]<;>omega
theorem j8:∀{L:IT},(∀x∈L,x.kind=0\/x.kind=1\/x.kind=2\/x.kind=3)->L.length<=5->gC C M L<=30*L.countP Qg+8*L.countP Qu+14*L.countP ez
 |[],_,_=>og _
 |x::L,h,a=>by
  rw[js] at a;have f:=j8 (fun y b=>h y<|aW _ b) FQ;rw[gC];grind[B0,Qg,Qu,ez,Nat.le_trans]
theorem aSn (hC:C.Ok) (z:cX C N M) (g:RY C M V) (s:Sw C M) {l:Nat} (a:l<C.aF):
  mK C M (M.aJ l).1<=33*eZ (fun i=>(M.aJ l).1.aH.countP (F2 Qg i)+B4 (M.aJ l).1 i) C.aB.toNat+11*eZ (fun i=>(M.aJ l).1.aH.countP<|F2 Qu i) C.aB.toNat+14*qY (M.aJ l).1:=by
 have hIn:=g.rY.aI l a
 have y:=j8 (C:=C) (M:=M) (fun x b=>(hIn.iU.aH x b).2.2)<|Iq hIn<|cL (s.sw l a) IG
 have t:=Gg (p:=Qg) (n:=C.aB.toNat) fun x b j=>by
  have:=g.rY.fh a b (by have:=c8 j;omega);omega
 have u:=Gg (p:=Qu) (n:=C.aB.toNat) fun x b j=>by
  have:=g.rY.fh a b (by have:=c8 j;omega);omega
 rw[lT]
 have m:oN (M.aJ l).1<=17*eZ (B4 (M.aJ l).1) C.aB.toNat+(if(M.aJ l).1.busy=true/\(M.aJ l).1.aX.kind=0 then 1 else 0):=by
  rw[oN];split;rename_i o;split;grind;rename_i q;have⟨i,hi,_,_,hs⟩:=Bl hC g a o.1 o.2 q;have:=aBj (f:=B4 (M.aJ l).1) (k:=i) (n:=C.aB.toNat) FQ;grind;grind
 rw[mK]
 have v:qY _=(if(M.aJ l).1.busy=true/\(M.aJ l).1.aX.kind=0 then 1 else 0)+(M.aJ l).1.aH.countP ez:=rfl
 omega
theorem aRf (hC:C.Ok) (h:Zs C S N M):ph C M<=976:=by
 have⟨hI,hW,⟨V,hR⟩,hEn,hS⟩:=h.mem;have b:Mq C M+nQ C M (dR C M.cD)+Qk C M<=eZ (fun c=>170+33*(dR C M.cD).countP (F2 Qg c)+11*(dR C M.cD).countP (F2 Qu c)) C.aB.toNat:=by
  rw[aNw];unfold Mq Qk;rw[<-lT,<-lT];refine iI fun c t=>?_;have a:=aKl (c:=c) hC hI hR FQ;have q:=aPg (C:=C) (M:=M) (c:=c);omega
 have p:Qn C M<=eZ (fun i=>33*eZ (fun l=>(M.aJ l).1.aH.countP (F2 Qg i)+B4 (M.aJ l).1 i) C.aF+11*eZ (fun l=>(M.aJ l).1.aH.countP<|F2 Qu i) C.aF) C.aB.toNat+14*eZ (fun l=>qY (M.aJ l).1) C.aF:=by
  have a:Qn C M<=eZ _ C.aF:=iI fun l j=>aSn hC hI hR hS j;rw[lT,lT,vG,vG,vG,Il,Il (f:=fun l i=>(M.aJ l).1.aH.countP _),<-vG,<-vG,<-lT] at a;exact a
 have m:da C M+14*eZ (fun l=>qY (M.aJ l).1) C.aF<=30*eZ (fun g=>if(M.bH.eI g).isSome then 1 else 0) C.aM.toNat:=by
  have a:eZ (fun l=>qY (M.aJ l).1) C.aF<=2*eZ (ph2 M.bH) C.aM.toNat:=by
   rw[<-ic];have s:C.aF=C.aM.toNat*2:=by rw[bQ.aF];omega
   rw[<-s];exact iI fun l j=>hS.sw l j
  have q:da C M+28*eZ (ph2 M.bH) C.aM.toNat<=30*eZ (fun g=>if(M.bH.eI g).isSome then 1 else 0) C.aM.toNat:=by
   rw[da];rw[<-vG,<-vG,<-lT];refine iI fun g _=>?_;unfold Cg ph2;cases hr:M.bH.eI g with
   |none=>grind
   |some r=>
    grind
  omega
 have u:=aQ1 hI hW;have o:eZ (fun c=>170+33*(dR C M.cD).countP (F2 Qg c)+11*(dR C M.cD).countP (F2 Qu c)) C.aB.toNat+eZ (fun i=>33*eZ (fun l=>(M.aJ l).1.aH.countP (F2 Qg i)+B4 (M.aJ l).1 i) C.aF+11*eZ (fun l=>(M.aJ l).1.aH.countP<|F2 Qu i) C.aF) C.aB.toNat<=214*C.aB.toNat:=by
  rw[<-lT,<-Kr];refine iI fun i v=>?_;have⟨a1,a2⟩:=aYj (i:=i) hC hR FQ;omega
 have t:=hC.1;rw[ph];omega
end
section
variable {M:bU}
def LG (M M':bU):Prop:=M'.eF=M.eF\/∃x,M'.eF=M.eF++[x]/\x.code≠17
theorem C2 {P:bU} {v c:Int} (e:P.eF=M.eF) (hc:c≠17):LG M (P.bK i v c).1:=by
 unfold bU.bK;dsimp only;split;exact .inl e;rename_i h;refine .inr ⟨_,by show P.eF++_=_;rw[e],?_⟩;unfold aQ.bK at h ⊢;split;simp[Ns];grind [aQ.ev]
theorem aJ2 {s:aQ} {r:aQ×Ev} (h:aQ.lI s i=some r):r.2.code≠17:=by
 unfold aQ.lI at h;split at h;cases h;grind [aQ.ev]
theorem ua (f:cX C N M) (hC:C.Ok) (j:C.aB=1) {a:Np} (m:M.bH.gZ 0=false):(M.bH.call C.aB a).2.2≠17:=by
 unfold Mon.call;split;simp;split;simp;split;rename_i i;exfalso;apply i;unfold Mon.phase;cases hr:M.bH.run a.aR with
 |none=>rfl
 |some r=>
  exfalso;have b:M.bH.eI a.aR.toNat=some r:=by
   unfold Mon.run at hr;grind
  have l:=(f.bH.run _ r b).2.2.2.1;have g:r.core=0:=FQ
  have:M.bH.gZ (0:Nat)=true:=(tT hC f.bH).2 ⟨a.aR.toNat,by unfold rc;rw[b];simp[g]⟩;grind
 split;simp;dsimp only;split
 .unfold jK;repeat' split
  all_goals simp
 simp
theorem aO9 (hC:C.Ok) (f:C.aB=1) (g:cX C N M) {A:Int}:LG M (M.step C A).1:=by
 unfold bU.step;split;exact .inl rfl;rename_i hA;dsimp only;split;exact .inl rfl;split;exact .inl rfl;rename_i j;have b:A=0:=FQ
 subst b;split;rename_i r i;exact .inr ⟨_,rfl,aJ2 i⟩;split;rename_i a l;unfold bU.call;dsimp only;split;exact C2 rfl (ua g hC f<|by unfold bU.aH at j;grind);split<;>exact .inl rfl;split;unfold bU.eK;split;exact C2 rfl FV;dsimp only;split;exact .inl rfl;split;unfold bU.Bk;dsimp only;split;exact .inl rfl;split<;>exact .inl rfl;split;exact C2 rfl FV;split;unfold bU.fY;dsimp only;split;exact .inl rfl;split<;>exact .inl rfl;unfold bU.kD;exact C2 rfl FV;exact .inl rfl
def aD0 {n:aG}:(M.dF C n).1.eF=M.eF:=by
 unfold bU.dF;repeat' split
 all_goals first|rfl|(dsimp only;split<;>rfl)
def aTi (hC:C.Ok) (a:C.aB=1) (b:cX C N M):LG M (M.mC C d).1:=by
 unfold bU.mC;repeat' split
 all_goals first
  |exact aO9 hC a b
  |exact .inl rfl
  |skip
 .unfold bU.dE;dsimp only;repeat' split
  all_goals first
   |exact .inl rfl
   |exact .inl aD0
 .unfold bU.dJ;dsimp only;repeat' split
  all_goals exact .inl rfl
 .unfold bU.gH;repeat' split
  all_goals first
   |exact .inl rfl
   |(dsimp only;repeat' split
     all_goals first|exact .inl rfl|exact C2 rfl FV)
end
variable {M:bU} {k:Nat} {P:Nat->IW} {A0:AM}
def RN (C:bQ) (A0:AM) (M:bU):Prop:=(∃V,RX C A0 M V)/\(C.aB=1->∀x∈M.eF,x.code≠17)
theorem aU1 (hC:C.Ok) (f:cX C N M) (h:C.aB=1->∀x∈M.eF,x.code≠17):C.aB=1->∀x∈(M.mC C d).1.eF,x.code≠17:=fun a x b=>by
 rcases aTi hC a f (d:=d) with e|⟨y,e,g⟩<;>rw[e] at b;exact h a x b;grind
structure FE (C:bQ) (A0:AM) (S:Nat->aQ) (P:Nat->IW) (N:Nat) (M:bU):Prop where
 zs:Zs C S N M
 ex:Ex C M
 st:St C P M
 rx:RN C A0 M
 sp:∀i:Nat,(i:Int)<C.aB->O2 (P i)
def FE.mC (hC:C.Ok) (h:FE C A0 S P N M):FE C A0 S P (N+2) (M.mC C d).1:=by
 have⟨⟨V,hr⟩,hn⟩:=h.rx;exact⟨h.zs.mC hC,h.ex.mC hC h.zs,h.st.mC hC h.zs.all.inv h.zs.all.lE h.sp,⟨hr.mC hC h.zs.all.inv h.zs.all.lE,aU1 hC h.zs.all.inv hn⟩,h.sp⟩
def FE.zw (hC:C.Ok) (h:FE C A0 S P N M):FE C A0 S P (N+4) (lS C (M,k) d).1:=by
 refine⟨(h.zs.zw hC).1,h.ex.zw hC h.zs,h.st.zw hC h.zs h.sp,?_,h.sp⟩;have a:=h.mC (d:=d) hC;by_cases b:d.mI=1/\d.b=2;rw[P4 b];split;exact a.rx;exact(a.mC (d:=⟨0,d.a,0,0⟩) hC).rx;rw[Bp b];exact a.rx
def FE.aT0 (hC:C.Ok):∀{l:IY} {N:Nat} {M:bU} {k:Nat},FE C A0 S P N M->RN C A0 (l.foldl (lS C) (M,k)).1:=by
 intro l;induction l with
 |nil=>intro N M k h;exact h.rx
 |cons d l a=>
  intro N M k h;exact a<|h.zw hC
theorem FE.round (hC:C.Ok) (h:FE C A0 S P N M):FE C A0 S P (N+400) (M.round C).1:=by
 have a:=T1 hC h.zs h.ex;exact⟨a.zs,a.ex,St.aT0 hC h.sp h.zs h.st,FE.aT0 hC h,h.sp⟩
def mu (C:bQ) (P:Nat->IW) (M:bU):Nat:=1000*(eZ (fun i=>(P i).length) C.aB.toNat - M.eF.length)+ph C M
def FE.aWn (hC:C.Ok) (h:FE C A0 S P N M):mu C P M<=1000*eZ (fun i=>(P i).length) C.aB.toNat+976:=by
 have:=aRf hC h.zs;rw[mu];omega
def FE.aR7 (hC:C.Ok) (a:2<=C.eR) (h:FE C A0 S P N M) (b:M.over C=false):mu C P (M.round C).1<mu C P M/\0<(M.round C).2:=by
 have f:=h.round hC;have g:=q7 hC a h.zs h.ex b;have i:=(T1 hC h.zs h.ex).gr;have j:=aRf hC f.zs;have t1:=f.st.aMl f.zs.all.inv;refine⟨?_,aE7 hC a h.zs h.ex b⟩;unfold mu;rcases g with g|g<;>omega
theorem Yq (hC:C.Ok) (a:2<=C.eR):∀{f k N:Nat} {M:bU},FE C A0 S P N M->mu C P M<f->∃g b M',M.Bj C f k=(g,M')/\g<=k+f/\FE C A0 S P b M'/\b<=N+400*f/\M'.over C=true
 |0,_,_,_,_,h=>FQ
 |f+1,k,N,M,h,i=>by
  rw[bU.Bj];cases ho:M.over C with
  |true=>grind
  |false=>
   have⟨h1,h2⟩:=h.aR7 hC a ho;have⟨g,b,M',e1,e2,e3,e4,e5⟩:=Yq hC a (f:=f) (k:=k+1) (h.round hC) FQ;grind
structure bBu (C:bQ) (M:bU):Prop where
 B6:∀i:Nat,(i:Int)<C.aB->(M.aD i).over=true/\M.bH.gZ (i:Int)=false
 ready:M.ready C=[]
 round:M.round C=(M,0)
theorem aOi (hC:C.Ok) (h:Zs C S N M) (j:M.over C=true):bBu C M:=by
 have⟨hI,hW,_,_,_⟩:=h.mem;rw[bU.over,dn,dn] at j;obtain⟨⟨v,y⟩,z⟩:=j;have p:∀i:Nat,(i:Int)<C.aB->(M.aD i).over=true:=FR;have b:∀g,M.bH.eI g=none:=fun g=>by
  cases hr:M.bH.eI g with
  |none=>rfl
  |some r=>
   have m:=(hI.bH.run g r hr).2.2.2.1;have⟨x,a,_⟩:=hW.op g r.core (by grind[rc]);grind[aQ.kO]
 have f:M.ready C=[]:=by
  rw[bU.ready];have q:((List.range C.aB.toNat).filter fun i:Nat=> !(M.aD i).over&& !M.aH i)=[]:=CE.2 FR;have e2:((List.range C.aB.toNat).flatMap fun c=>((List.range 4).filter fun w=>decide<|M.cD c w≠[]).map fun w:Nat=>(⟨1,c,w,0⟩:Do))=[]:=by
   cases hq:((List.range C.aB.toNat).flatMap fun c=>((List.range 4).filter fun w=>decide<|M.cD c w≠[]).map fun w:Nat=>(⟨1,c,w,0⟩:Do)) with
   |nil=>rfl
   |cons x l=>
    exfalso;have a:x∈((List.range C.aB.toNat).flatMap fun c=>((List.range 4).filter fun w=>decide<|M.cD c w≠[]).map fun w:Nat=>(⟨1,c,w,0⟩:Do)):=FR
    have⟨c,hc,a⟩:=EP.1 a;have⟨w,hw,_⟩:=gk.1 a;have⟨hw4,hw⟩:=BN.1 hw;cases hl:M.cD c w with
    |nil=>exact(c8 hw) hl
    |cons n l=>
     have:n∈M.rh C:=by
      rw[Ys];exact qB (c:=c) FR (AI.1 hw4) FR
     grind
  have s:((List.range C.aF).filter fun l=> !(M.aJ l).1.busy&&decide ((M.aJ l).1.aH≠[]))=[]:=CE.2 FR;have t:((List.range C.aM.toNat).filter fun g:Nat=>M.gX C g)=[]:=CE.2 fun g u=>by
   grind[bU.gX,Mon.phase,Mon.run]
  grind
 refine⟨fun i o=>⟨p i o,T3 b⟩,f,?_⟩;grind[bU.round]
theorem FE.kT {c:MC} (o:c.Bf=0) (a:c.C=C) (ha:db C S 0 (MC.kT c)) (m:∀i:Nat,(i:Int)<C.aB->(S i).prog=P i/\(S i).at'=0/\0<=(S i).aY/\(S i).aY<=3) (p:(MC.kT c).aD=S) (b:∀i:Nat,(i:Int)<C.aB->O2 (P i))
  (g:∃V,RX C A0 (MC.kT c) V) (l:∃V,RY C (MC.kT c) V):FE C A0 S P 0 (MC.kT c):=by
 refine⟨⟨ha,l,En.kT a,Sw.kT⟩,⟨fun _=>List.Pairwise.nil,fun i f=>?_⟩,⟨fun i f=>?_,fun i f=>?_,og _⟩,⟨g,fun _ x j=>by cases j⟩,b⟩
 .grind
 .grind
 grind
end Go.Mc
variable {c cs:FJ} {P:Program} {L':IU} {W cap g n:Nat} {sl:List (Nat×Nat×Nat)} {M:List (JA)} {a:FM} {e:TypeId}
namespace Go.Ab
variable {G:Bg} {h:AH} {L:IU}
def Bat (P:Program) (h:AH) (σ:Sg) (s:Nat×Nat×Nat) (c:FJ):Prop:=
 ∃a e z x,h.get s.1=some (.cells a e z x)/\Rcs σ c ((a.drop s.2.1).take c.length)/\s.2.1+c.length+s.2.2*P.cellsOf e<=a.length
def aK0 (P:Program) (h:AH) (σ:Sg):List (Nat×Nat×Nat)->List (JA)->Prop
 |_,[]=>True
 |_::a,none::M=>aK0 P h σ a M
 |s::a,some c::M=>Bat P h σ s c/\aK0 P h σ a M
 |[],_::_=>False
def aK0.at {σ:Sg}:∀{M:List (JA)} {sl:List (Nat×Nat×Nat)} {i:Nat} {c:FJ},aK0 P h σ sl M->M[i]?.join=some c->Bat P h σ (sl.getD i (0,0,0)) c:=by
 intro M;induction M with
 |nil=>intro sl i c _ e;simp at e
 |cons x M a=>
  intro sl i c k e;cases sl with
  |nil=>cases x<;>exact False.elim k
  |cons s sl=>
   cases i with
   |zero=>
    cases x with
    |none=>simp at e
    |some y=>simp at e;subst e;exact k.1
   |succ i=>
    cases x with
    |none=>exact a (sl:=sl) k IH
    |some y=>exact a (sl:=sl) k.2 IH
noncomputable def eAt (h:AH) (b:Nat):TypeId×(Nat×Nat):=match h.get b with
 |some (.cells _ e z _)=>(e,z)
 |_=>(0,(0,0))
def Zn (k:aK0 P h (fun i=>sl.getD i (0,0,0)) sl M) (b:(M.all fun x=>(x.getD []).all<|okV<|isT g M)=true) (p:P.globals.size<=g/\g<=M.length) (a:∀i,i<g->sl.getD i (0,0,0)=(i,0,0)):
  K9 P g (fun i=>sl.getD i (0,0,0)) M (fun i=>(eAt h (sl.getD i (0,0,0)).1).1) (fun i=>(eAt h (sl.getD i (0,0,0)).1).2) h where
 uE:=fun i c e=>by
  obtain⟨j,e,z,x,f,l,m⟩:=k.at e;have o:eAt h (sl.getD i (0,0,0)).1=(e,z):=by unfold eAt;rw[f]
  simp only[o];exact⟨j,x,f,l,m⟩
 ok:=b
 rR:=p
 gs:=a
def I3 {σ:Sg}:∀{l u:FJ},Rcs σ l u->l.length=u.length
 |[],[],_=>rfl
 |_::_,_::_,⟨_,k⟩=>eV (·+1) (I3 k)
 |[],_::_,k=>k.elim
 |_::_,[],k=>k.elim
def Std (P:Program) (h:AH) (s:Nat×Nat×Nat) (c:FJ):Prop:=∀{σ:Sg} {a:FJ},Rcs σ a c->Bat P h σ s a
def Mj {b:Nat} (i:Hs G h L) (f:Ob G b c):Std P h (b,0,0) c:=fun a=>by
 obtain⟨e,z,x,g⟩:=f.get;exact⟨c,e,z,x,(i.cv f.lt).trans g,by rw[ll,I3 a,BF];exact a,by have:=I3 a;simp;omega⟩
def aNa {a:FJ} {o:Nat} (f:o+c.length<=a.length) (hc:∀j,j<c.length->a[o+j]?=c[j]?):(a.drop o).take c.length=c:=by
 refine ri fun j=>?_;by_cases b:j<c.length;rw[AV b,BJ,hc j b];rw[sr FX,sr FQ]
def yN {b o:Nat} (p:Hs G h L) [m:dZ (aK b o) L c L'] (i:0<c.length):Std P h (b,o,0) c:=fun f=>by
 obtain⟨_,g,e,x,j,hle,a⟩:=(m.of p).cells i;have l:=I3 f;exact⟨g,e,_,x,j,by rw[l,aNa hle a];exact f,by show o+_+0*_<=_;omega⟩
def sF (z:Hs G h L) [m:dZ (eC W e a cap) L (n,cs) L'] (B:0<n) (u:P.cellsOf e=W):
  ∃b o sp,a=some ⟨b,o,none⟩/\cap=sp+n/\Std P h (b,o,sp) cs:=by
 obtain⟨r,E,⟨p,v,q⟩,y,D,j,l⟩:=(m.of z).fst
 simp only at p v q
 rcases q with⟨A,_⟩|⟨A,_⟩|⟨f,b,g,s,ex,rfl,hle,rfl⟩
 .omega
 .omega
 obtain⟨sp,rfl⟩:=Nat.exists_eq_add_of_le' f
 obtain⟨_,x⟩:=K5 j l
 refine⟨b,g.length,sp,rfl,rfl,fun {σ t} i=>⟨_,e,_,ex,x,?_,?_⟩⟩
 .rw[I3 i,eh,FF,FA];exact i
 .show g.length+t.length+sp*_<=_;rw[u,I3 i,p];rw[CK] at hle;omega
def aHb (l:Hs G h L) [m:dZ (eC W e a cap) L (0,cs) L']:(a=none/\cap=0)\/∃g,a=some g:=by
 obtain⟨r,t,⟨s,q,j⟩,_⟩:=(m.of l).fst;rcases j with⟨_,_,i,rfl|⟨b,o,rfl⟩⟩|⟨_,_,b,o,cs,rfl,_⟩|⟨_,b,p,f,ex,rfl,_⟩;exact .inl ⟨rfl,i⟩;exact .inr ⟨_,rfl⟩;exact .inr ⟨_,rfl⟩;exact .inr ⟨_,rfl⟩
theorem Tb {x:Bool} (b:Hs G h L) (a:c.length=n*W) (hb:c.all gU=true):Hs G (h.alloc<|.cells c e (0,0) x) (eC W e (some ⟨h.next,0,none⟩) n (n,c)::L):=
 Hs.join (A:=[_,_]) (b.kT (c:=c) (e:=e) (x:=x)) fun r f=>⟨a,hb,.inr<|.inr ⟨bb _,_,[],[],x,rfl,by simp[a],by grind [xY]⟩⟩
def aAs {α:Type} {enc:α->FJ} {l:List α} (i:Hs G h L) [m:dZ (ls enc W e a cap) L l L'] (f:0<l.length) (g:P.cellsOf e=W):
  ∃b o sp,a=some ⟨b,o,none⟩/\cap=sp+l.length/\Std P h (b,o,sp) (eL enc l):=sF (n:=l.length) (show Hs G h (eC W e a cap (l.length,eL enc l)::L') from m.of i) f g
end Go.Ab
variable {l:FJ} {B o u:List (Option IntKind)} {spare:Nat->Bool} {gl:Nat->JC} {t:TypeId}
namespace Go.Ab
open Go.RowKit Go.ChangeShapes Go.WideShapes Go.ChangeAt
variable {H:Type} {enc:TypeId×Value->H} {w:World} {base:Nat} {held:Bool}
def aOf {ρ:kX} {v:Value}:bB ρ sb v:=by simp[sb,bB]
def y8 {ρ:kX}:∀{l l':FJ},l.length=l'.length->(∀(j:Nat) (u v:Value),l[j]?=some u->l'[j]?=some v->bB ρ u v)->bP ρ l l'
 |[],[],_,_=>bP.nil
 |u::l,v::l',h,k=>bP.cons (k 0 u v rfl rfl) (y8 IF fun j a b f g=>k (j+1) a b (by simpa using f)<|by simpa using g)
 |[],_::_,h,_=>by simp at h
 |_::_,[],h,_=>by simp at h
def aVk (P:Program) (w:World) (ρ:kX) (r:OB):Prop:=
 (∀o,r.1=some o->∀b s,r.2=some (b,s)->∃a,w.heap[b]?=some a/\zG P ρ s o a)/\(∀b s,r.2=some (b,s)->b<w.heap.size)
def aCq.at' {r:OB} (h:aCq P w r) (ρ:kX):aVk P w ρ r:=⟨fun o i b s g=>let⟨j,a,f⟩:=h.1 o i b s g;⟨j,a,f ρ⟩,h.2⟩
def aC2 {rs:JJ} (v:P.globals.size<=g) (t:g<=w.heap.size) (j:aWs P g gl w) (m:∀r∈rs,aVk P w (Ju g rs) r):Y1 P (g+rs.length) (Px g gl rs) (Ju g rs) w where
 uE:=fun i o l f b s a=>by
  unfold Px at f;unfold Ju at a;split at f;rename_i h;rw[bD2 h] at a;cases a;obtain⟨u,p,q⟩:=j i o h f;exact⟨u,p,q _⟩;rename_i h;rw[bD1 h] at a;rw[b0 FQ] at f a;exact(m _<|AE FQ).1 o f b s a
 low:=fun i b s l a=>by
  unfold Ju at a;split at a;cases a;omega;rw[b0 FQ] at a;exact(m _<|AE FQ).2 b s a
 none:=fun i l=>by unfold Ju;rw[aaa,sr FQ];rfl
 rR:=fun i l=>by unfold Ju;rw[aac]
def Nh (l:List (Option IntKind)) (w:World) (a:FM) (len cap:Nat):Prop:=
 (a=none/\len=0/\cap=0)\/(∃x,a=some x/\len=0)\/
 ∃x cc e j,a=some x/\0<len/\x.spot=none/\len<=cap/\w.heap[x.block]?=some (.cells cc e j)/\x.off+len<=cc.size/\
  ∀i,i<len->∃f b g,cc.toList[x.off+i]?=some (.slice f b g)/\qO l w f b g/\b<=maxLen
variable {x:DataW H×List MemPlace}
def aF7 {e2:TypeId} {fuel:Nat} (ht:P.underlying t=some (.slice e)) (T:P.underlying e=some (.slice e2)) (hf:yH P n e2=some u) (E:P.cellsOf e2=u.length) (hc:P.cellsOf e=1) (h0:0<u.length)
  (h:DataW.trod enc P w base spare held fuel t cs=some x):∃a len l,cs=[.slice a len l]/\len<=maxLen/\Nh u w a len l:=by
 rcases ER ht h with⟨rfl,_⟩|⟨a,len,l,elems,rest,m,_,rfl,_,z,hl,hm,U,J,_,_⟩
 .exact⟨none,0,0,rfl,og _,.inl ⟨rfl,rfl,rfl⟩⟩
 refine⟨some a,len,l,rfl,FQ,?_⟩
 rcases BK len with B|B
 .exact .inr (.inl ⟨a,rfl,B⟩)
 refine .inr<|.inr ?_
 have each:∀i,i<len->∃g f j,w.cell? (a.add i)=some (.slice g f j)/\qO u w g f j/\f<=maxLen:=by
  intro i O;have q:=J i O;rw[b0 FQ,hc,BT] at q;obtain⟨c,p,X⟩:=q;obtain⟨g,f,j,I,hr⟩:=Oa T hf E h0 X;subst I;refine⟨g,f,j,?_,hr,?_⟩;rotate_left;rcases ER T X with⟨D,_⟩|⟨a2,Y,R,_,_,_,_,D,_,_,β,γ,_⟩;cases D;exact og _;cases D;omega;unfold World.cells? at p;split at p;have:=mapM_some_get p 0 0 FW;rw[FB] at this;have e0:(a.add i).add 0=a.add i:=rfl;rw[e0] at this;simpa using this;cases p
 obtain⟨a0,l0,c0,b,δ⟩:=each 0 B
 obtain⟨cc,Z,v,z,A⟩:∃cc e v,w.heap[a.block]?=some (.cells cc e v)/\a.spot=none:=by
  have Q:a.add 0=a:=rfl;rw[Q] at b;unfold World.cell? at b;split at b;rename_i c e v z;split at b;cases b;rename_i A;exact⟨c,e,v,z,by simpa using A⟩;cases b
 have s:∀o,w.cell? ⟨a.block,o,none⟩=cc[o]?:=by
  intro o;unfold World.cell?;rw[z];simp
 have y:∀i,i<len->∃g f j,cc.toList[a.off+i]?=some (.slice g f j)/\qO u w g f j/\f<=maxLen:=by
  intro i O;obtain⟨g,f,j,q,h2⟩:=each i O;rw[vz A,s] at q;exact⟨g,f,j,by rw[BM];exact q,h2⟩
 refine⟨a,cc,Z,v,rfl,B,A,hl,z,?_,y⟩
 obtain⟨g,f,j,q,_⟩:=y (len - 1) FQ
 have:=(ew.1 q).1
 simp at this
 omega
variable {fs:Array Field} {f:Field} {d:DataW H} {p:List MemPlace}
def U5 {W:World} (s:P.underlying t=some (.struct fs)) (g:fs[i]?=some f) (q:yH P n f.type=some o)
  (h:DataW.Trod enc P W 0 (fun _=>true) true t (.agg ⟨l⟩) d p):rC o ((l.drop f.offset).take<|P.cellsOf f.type):=by
 obtain⟨fuel,b⟩:=h
 obtain⟨x,m,_,_,v,u,a⟩:=CI s b
 have j:=a i f g
 rw[b0<|by rw[u];exact(hX.1 g).1] at j
 simpa [Value.cells] using(Ny n q j)
def Tc {W:World} {e2:TypeId} (I:P.underlying t=some (.struct fs)) (u:fs[i]?=some f)
  (J:P.underlying f.type=some (.slice e)) (s:P.underlying e=some (.slice e2)) (y:P.cellsOf f.type=1) (A:P.cellsOf e=1) (B:yH P n e2=some o) (hc:P.cellsOf e2=o.length) (x:0<o.length)
  (h:DataW.Trod enc P W 0 (fun _=>true) true t (.agg ⟨l⟩) d p):∃a len b,l[f.offset]?=some (.slice a len b)/\len<=maxLen/\Nh o W a len b:=by
 obtain⟨fuel,q⟩:=h
 obtain⟨R,m,_,_,Q,O,g⟩:=CI I q
 have v:=g i f u
 rw[b0<|by rw[O];exact(hX.1 u).1] at v
 obtain⟨a,len,b,j,D,E⟩:=aF7 J s B hc A x v
 refine⟨a,len,b,?_,D,E⟩
 rw[y] at j
 have:=eV (fun z=>z[0]?) j
 simpa [Value.cells] using this
structure aYf (P:Program) (w:World) (ks:List (Option IntKind)) (k0:Nat) (a:FM) (len cap:Nat) (r:OB) (rs:JJ) (t:Nat->Value) (vs:FJ) (ns:FL) (at':Nat->Nat->FJ):Prop where
 ok:∀x∈rs,aCq P w x
 out:∀ρ:kX,(∀i x,rs[i]?=some x->ρ (k0+i)=x.2)->aVk P w ρ r
 rel:∀ρ k,ρ k=r.2->bB ρ (t k) (.slice a len cap)
 lvs:vs.length=len
 cD:ns.length=len
 bBv:∀i n,ns[i]?=some n->∀j,j<n->rC ks (at' i j)
 old:∀(G:Bg) k,k<G.base->G.old k=r.1->(∀i x,rs[i]?=some x->k0+i<G.base/\G.old (k0+i)=x.1)->
  zE G 1 (t k) len (fun i=>[vs.getD i undef])/\aHt G (t k) len/\∀i v n,vs[i]?=some v->ns[i]?=some n->zE G ks.length v n (at' i)/\aHt G v n
 nl:∀(i n:Nat),ns[i]?=some n->n<=maxLen
def aKa (P:Program) {len:Nat} (A:Nat) (h:Nh B w a len cap):∃r rs t vs ns at',aYf P w B A a len cap r rs t vs ns at':=by
 rcases h with⟨rfl,rfl,rfl⟩|⟨x,rfl,rfl⟩|⟨x,cc,e,R,rfl,h0,hs,hl,Z,β,hf⟩;exact⟨(none,none),[],fun _=> .slice none 0 0,[],[],fun _ _=>[],⟨fun x X=>(by cases X),fun ρ _=>⟨fun o h=>FZ,fun b s h=>FZ⟩,fun ρ k _=>GN,rfl,rfl,fun i n l=>(by simp at l),fun G k _ _ _=>⟨⟨none,0,rfl,fun i f=>FQ⟩,.inl ⟨rfl,rfl⟩,fun i v n p=>(by simp at p)⟩,fun i n l=>(by simp at l)⟩⟩;refine⟨(none,none),[],fun _=> .slice (some ⟨0,0,some 0⟩) 0 0,[],[],fun _ _=>[],⟨fun x X=>(by cases X),fun ρ _=>⟨fun o h=>FZ,fun b s h=>FZ⟩,fun ρ k _=>?_,rfl,rfl,fun i n l=>(by simp at l),fun G k _ _ _=>⟨⟨some ⟨0,0,some 0⟩,0,rfl,fun i f=>FQ⟩,.inr<|.inl ⟨rfl,rfl⟩,fun i v n p=>(by simp at p)⟩,fun i n l=>(by simp at l)⟩⟩;simp only[bB];exact⟨trivial,trivial,x,cap,fun h=>FQ,fun h=>FQ,rfl⟩;have I:∀i,∃(y:OB×(Nat->Value)×(Nat->FJ)×Nat×Value),i<len->cc.toList[x.off+i]?=some y.2.2.2.2/\aCq P w y.1/\(∀ρ k,ρ k=y.1.2->bB ρ (y.2.1 k) y.2.2.2.2)/\(∀j,j<y.2.2.2.1->rC B (y.2.2.1 j))/\
   (∀(G:Bg) k,k<G.base->G.old k=y.1.1->zE G B.length (y.2.1 k) y.2.2.2.1 y.2.2.1/\aHt G (y.2.1 k) y.2.2.2.1)/\y.2.2.2.1<=maxLen:=by
  intro i
  by_cases f:i<len
  .obtain⟨a',l',c',q,T,h9⟩:=hf i f;obtain⟨r,t,U,h4,at',h5,h6⟩:=Gu P T;exact⟨(r,t,at',l',.slice a' l' c'),fun _=>⟨q,U,h4,h5,h6,h9⟩⟩
  .exact⟨((none,none),fun _=>undef,fun _=>[],0,undef),fun h=>absurd h f⟩
 obtain⟨Y,D⟩:∃Y:Nat->OB×(Nat->Value)×(Nat->FJ)×Nat×Value,∀i,i<len->cc.toList[x.off+i]?=some (Y i).2.2.2.2/\aCq P w (Y i).1/\(∀ρ k,ρ k=(Y i).1.2->bB ρ ((Y i).2.1 k) (Y i).2.2.2.2)/\(∀j,j<(Y i).2.2.2.1->rC B ((Y i).2.2.1 j))/\
   (∀(G:Bg) k,k<G.base->G.old k=(Y i).1.1->zE G B.length ((Y i).2.1 k) (Y i).2.2.2.1 (Y i).2.2.1/\aHt G ((Y i).2.1 k) (Y i).2.2.2.1)/\(Y i).2.2.2.1<=maxLen:=
  ⟨fun i=>(I i).choose,fun i f=>(I i).choose_spec f⟩
 have m:∀{α:Type} (g:Nat->α) (i:Nat) (z:α),((List.range len).map g)[i]?=some z->i<len/\z=g i:=by
  intro α g i z Q;have f:i<len:=by have:=(ew.1 Q).1;simpa using this
  rw[k9,qv f] at Q;simp only[xa,Option.some.injEq] at Q;exact⟨f,Q.symm⟩
 refine⟨(some<|.cells ((List.range cc.size).map fun j=>if x.off<=j/\j<x.off+len then(Y<|j - x.off).2.1 (A+(j - x.off)) else sb) e R false,some (x.block,(0,0))),(List.range len).map fun i=>(Y i).1,fun k=> .slice (some ⟨k,x.off,none⟩) len cap,
     (List.range len).map fun i=>(Y i).2.1<|A+i,(List.range len).map fun i=>(Y i).2.2.2.1,fun i=>(Y i).2.2.1,⟨?_,?_,?_,FW,FW,?_,?_,fun i n l=>?_⟩⟩
 intro y hy;obtain⟨i,f,rfl⟩:=gk.1 hy;exact(D i<|AI.1 f).2.1;intro ρ hρ;refine⟨fun o ho b s J=>?_,fun b s J=>?_⟩;cases ho;cases J;refine⟨_,Z,cc,rfl,?_,FW,fun h=>FZ⟩;rw[ll,fm FW];refine y8 FW fun j u v O p=>?_;rw[k9] at O;rw[qv<|by have:=(ew.1 p).1;simpa using this] at O;simp only[xa,Option.some.injEq] at O;subst O;split;obtain⟨q,_,U,_,_⟩:=D (j - x.off) FQ;rw[show x.off+(j - x.off)=j by omega,p] at q;simp only[Option.some.injEq] at q;rw[q];refine U ρ _<|hρ (j - x.off) _ ?_;rw[k9,qv FQ];rfl;exact aOf;cases J;exact(hX.1 Z).1;intro ρ k J;exact⟨x.block,(0,0),cap,J,bb _,FW,by cases x;subst hs;rfl⟩;intro i n l j hj;obtain⟨f,rfl⟩:=m _ i n l;exact(D i f).2.2.2.1 j hj;intro G k hk hg E;refine⟨⟨_,_,rfl,fun i f=>⟨k,x.off,_,rfl,⟨hk,e,R,false,hg⟩,?_,FX⟩⟩,.inr<|.inr ⟨k,x.off,cap,_,e,R,rfl,h0,hl,hk,hg⟩,fun i v n p l=>?_⟩;rw[l7 FX,BB,List.take_zero];have e1:((List.range len).map fun i=>(Y i).2.1<|A+i).getD i undef=(Y i).2.1 (A+i):=by
  rw[aP,k9,qv f];rfl
 show[_]=[((List.range len).map fun i=>(Y i).2.1<|A+i).getD i undef];rw[e1];simp only[List.getElem_map,EC];rw[aac,show x.off+i*1 - x.off=i by omega];obtain⟨f,rfl⟩:=m _ i v p;obtain⟨_,rfl⟩:=m _ i n l;obtain⟨q,T⟩:=E i (Y i).1 (by rw[k9,qv f];rfl);exact(D i f).2.2.2.2.1 G (A+i) q T;obtain⟨f,rfl⟩:=m _ i n l;exact(D i f).2.2.2.2.2
end Go.Ab
variable {b:Bool}
namespace Go.At
open Go.Hm Go.Is
def uY (A:AM):Nat->JG
 |0=>[]
 |n+1=>if(A.step 0 false).2.2≠0 then [] else(A.step 0 false).2.1::uY (A.step 0 false).1 n
theorem Yx:∀{l:JG} {A B:AM} {k:Nat},uW A l k=(B,k+l.length,0)->A.lD.aB=1->(∀x∈l,x.code≠17)->(B.aD 0).over=true->∀n,uY A n=l.take n
 |[],A,B,k,h,i,_,f,n=>by
  cases n with
  |zero=>rfl
  |succ n=>
   unfold uW at h;cases h;unfold uY;rw[bD2];rfl;unfold AM.step;rw[aaa,bD2<|by exact f];simp
 |x::l,A,B,k,h,i,j,f,n=>by
  cases n with
  |zero=>rfl
  |succ n=>
   unfold uW at h;split at h;cases h;rename_i a;have a:=cb.1 a;have o:Ak x=false:=cr<|j x eg;unfold aDa at a;split at a;cases a;split at a;cases a;rename_i m;rw[o] at m h;have b:(A.step x.core false).2.2=0:=FR
   have g:(A.step x.core false).2.1=x:=FR
   have e2:x.core=0:=by
    unfold AM.step at b;split at b;cases b;omega
   rw[e2] at b g h;unfold uY;rw[bD1<|by rw[b];simp,g,BB,Yx (by rw[js] at h;rw[show k+1+l.length=k+(l.length+1) by omega];exact h) (by rw[Ua];exact i) (fun y p=>j y<|aW _ p) f n]
abbrev AM.at' (D:bQ) (A:AM):AM:={A with lD:=D}
variable {A:AM}
def nh {D:bQ} (f:D.aF=A.lD.aF) {x:iW}:AM.eK (A.at' D) i x=((A.eK i x).1.at' D,(A.eK i x).2):=by
 unfold AM.eK;have e:∀a b,AM.Nw (A.at' D) a b=A.Nw a b:=fun a b=>by unfold AM.Nw;dsimp only;rw[f]
 rw[e];split;split;rfl;split<;>rfl;rfl
def aCh {D:bQ} {c w g t:Int}:AM.call (A.at' D) c w g t b=((A.call c w g t b).1.at' D,(A.call c w g t b).2):=by
 unfold AM.call;dsimp only;split;rfl;split;rfl;split<;>rfl
def aCz {D:bQ} (a:D.aF=A.lD.aF) {x:iW}:AM.kD (A.at' D) i x b=((A.kD i x b).1.at' D,(A.kD i x b).2):=by
 unfold AM.kD;rw[nh a];dsimp only;split;rfl;split;rfl;split;rfl;split;split<;>rfl;split;rw[aCh];rfl;split;rfl;split<;>rfl
def aCv {D:bQ} (a:D.aB=A.lD.aB) (f:D.aF=A.lD.aF) {c:Int}:AM.step (A.at' D) c b=((A.step c b).1.at' D,(A.step c b).2):=by
 unfold AM.step;dsimp only;rw[a,aCz f];split;rfl;split<;>rfl
def S7 {D:bQ}:∀{n:Nat} {A:AM},D.aB=A.lD.aB->D.aF=A.lD.aF->uY (A.at' D) n=uY A n
 |0,_,_,_=>rfl
 |n+1,A,a,b=>by
  unfold uY;rw[aCv a b];dsimp only;rw[S7 (by rw[Ua];exact a)<|by rw[Ua];exact b]
end Go.At
namespace Go.Mc
open Go.Hm Go.At Go.Is Go.Ct Go.Nt Go.Pc
variable {C:bQ} {M M':bU} {S:Nat->aQ} {P:Nat->IW} {A0:AM}
def aPz (hC:C.Ok) (h:FE C A0 S P N M) (f:M.over C=true) (a:C.aB=1) (hA:A0.lD.aB=1) (m:(P 0).length<=100):uY A0 100=M.eF:=by
 obtain⟨⟨V,g⟩,b⟩:=h.rx;have t:=h.st.aMl h.zs.all.inv;have j:=(aOi hC h.zs f).B6 0 FQ;have e:=Yx (k:=0) (l:=M.eF) (B:=zI C M V) (by rw[AD];exact g.eF) hA (b a) j.1 100;rw[e];refine fm ?_;have:C.aB.toNat=1:=FQ
 rw[this] at t;have e2:eZ (fun i=>(P i).length) 1=(P 0).length:=by simp[eZ]
 omega
end Go.Mc
namespace Go.Ab
open Go.RowKit
variable {K:FuncId->FJ->IX} {G:Bg} {h h':AH} {L M:IU}
noncomputable def frz (G:Bg) (h:AH):Bg:=⟨h.next,h.get,G.hb⟩
def Hs.frz (a:Hs G h L):Hs (frz G h) h [] where
 base:=⟨a.base.1,cL a.base.2 a.wf⟩
 old:=fun _ _=>rfl
 wf:=bb _
 fr:=a.fr
 Wp:=⟨eJ.R4,rfl,⟨fun b o v h=>GS,fun b h=>GS,fun b e x n h=>GS,fun b o h=>GS⟩⟩
theorem Hs.bAh (l:Hs G h L) (j:Hs (Go.Ab.frz G h) h' M):Hs G h' (M++L):=by
 obtain⟨p,I,i1⟩:=l.Wp;obtain⟨q,J,i2⟩:=j.Wp;have A:∀b,h.get b≠none->b<h.next:=fun b f=>by
  rcases u4 b h.next with m|m
  exact m;exact absurd (l.fr b m) f
 have R:∀b t,p.A4 b=some t->b<h.next:=fun b t f=>by
  cases t with
  |lA=>exact(i1.lA b f).2.1
  |mt e x n=>obtain⟨_,c,g,_⟩:=i1.mt b e x n f;grind
  |Nu o=>obtain⟨_,g,_⟩:=i1.Nu b o f;grind
 have D:∀b t,q.A4 b=some t->h.next<=b:=fun b t f=>by
  cases t with
  |lA=>exact(i2.lA b f).1
  |mt e x n=>exact(i2.mt b e x n f).1
  |Nu o=>exact(i2.Nu b o f).1
 have y:∀b o v,p.gL b o=some v->b<h.next:=fun b o v f=>by
  obtain⟨_,_,_,_,g,_⟩:=i1.gL b o v f;grind
 have z:q.Be p:=by
  refine⟨fun b o=>?_,fun b=>?_⟩;cases m:p.gL b o with
  |none=>grind
  |some v=>
   cases h4:q.gL b o with
   |none=>grind
   |some u=>have O:=y b o v m;have Q:h.next<=b:=(i2.gL b o u h4).1;omega
  cases m:p.A4 b with
  |none=>grind
  |some v=>
   cases h4:q.A4 b with
   |none=>grind
   |some u=>grind
 have B:h.next<=h'.next:=j.wf
 have qD:∀b,b<h.next->h'.get b=h.get b:=fun b f=>j.old b f
 refine⟨⟨j.base.1,l.base.2⟩,fun i s=>(qD i<|l5 s l.wf).trans<|l.old i s,cL l.wf B,j.fr,_,mG.2 FR,(eJ.jB z).2 ⟨?_,?_⟩⟩;have E:∀b,h.next<=b->G.base<=b:=fun b f=>cL l.wf f
 exact⟨fun b o v a=>⟨E b (i2.gL b o v a).1,(i2.gL b o v a).2⟩,fun b a=>⟨FR,(i2.lA b a).2⟩,fun b e x n a=>⟨FR,(i2.mt b e x n a).2⟩,fun b o a=>⟨FR,(i2.Nu b o a).2⟩⟩;refine⟨fun b o v a=>?_,fun b a=>?_,fun b e x n a=>?_,fun b o a=>?_⟩;obtain⟨g1,g2⟩:=i1.gL b o v a;grind;obtain⟨g1,g2,g3⟩:=i1.lA b a;grind;obtain⟨g1,g2⟩:=i1.mt b e x n a;grind;obtain⟨g1,g2,g3⟩:=i1.Nu b o a;grind
structure Bg.Le (G G':Bg):Prop where
 base:G.base<=G'.base
 old:∀i,i<G.base->G'.old i=G.old i
def Hs.aS2 (a:Hs G h L):G.Le (Go.Ab.frz G h):=⟨a.wf,a.old⟩
theorem Ob.mono {f:Bg} (g:G.Le f) {b:Nat} (a:Ob G b c):Ob f b c:=
 ⟨l5 a.lt g.base,let⟨e,i,x,j⟩:=a.get;⟨e,i,x,(g.old b a.lt).trans j⟩⟩
theorem aPu {c:Nat} (B:0<W) (q:Hs G h (eC W e a c (n,cs)::L)):zE (Go.Ab.frz G h) W (.slice a n c) n (fun i=>(cs.drop<|i*W).take W):=by
 refine⟨a,c,rfl,fun i v=>?_⟩;obtain⟨r,I,f,y,E,m,o⟩:=q.fst;obtain⟨x,u,f⟩:=f;simp only at x u f;rcases f with⟨z,_⟩|⟨z,_⟩|⟨p,b,A,s,ex,rfl,hle,rfl⟩;omega;omega;obtain⟨D,l⟩:=K5 m o;have j:b<h.next:=by
  rcases u4 b h.next with g|g
  exact g;rw[q.fr b g] at l;cases l
 have t:(i+1)*W<=n*W:=o0 _ v;rw[CK,Nat.one_mul] at t;refine⟨b,_,_,rfl,⟨j,e,_,ex,l⟩,?_,FX⟩;rw[eh,<-x0,FF,BW FQ,AF FR]
end Go.Ab
