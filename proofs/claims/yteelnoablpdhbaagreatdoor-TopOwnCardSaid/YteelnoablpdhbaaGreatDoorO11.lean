/- A part of the proof. -/
import Derived.Test.YteelnoablpdhbaaGreatDoorO10
import Derived.Test.YteelnoablpdhbaaGreatDoorO8
import Derived.Test.YteelnoablpdhbaaGreatDoorO7
import Derived.Test.YteelnoablpdhbaaGreatDoorO6
import Derived.Test.YteelnoablpdhbaaGreatDoorO9
set_option linter.all false
open Go Go.Ab
variable {W:Nat->Int} {N i l w:Nat}
namespace Go.Qt
open Go.Hm Go.At Go.Is Go.Ct Go.Nt Go.Mc
variable {C:bT} {E:HR} {M':cN} {F':fI}
section
variable {P:Nat->HO} {M:cN} {F:fI} {n d:aI} {s s':aT} {c c':iJ} {k:lX} {F0 F1 F2 F0' F2':HM} {H H':kQ} {A:AM} {a:U3}
def Qz (M:cN) (i:Nat):Prop:=M.bN i 0=[]/\(M.aJ i).pY=false/\(M.aJ i).uF=false/\(M.aU i).eN=false/\(M.aC i).over=false
def QI.eN (hE:QE C E W P) (h:QI C E W P M) (z:(i:Int)<C.aE) (X:Mc.aT.iK (M.aC i)=some a) (o:0<=a.cS/\a.cS<C.aF*2) (D:fS (M.aU i).cC (a.cS/2/2)=none)
  (mi:∃N,eO C N (M.Er C i<|a.cS/2/2).1):(M.Er C i<|a.cS/2/2).2≠0/\(M.Er C i<|a.cS/2/2).1=M/\¬Qz M i\/(M.Er C i<|a.cS/2/2).2=0/\Mq C E W P i M (M.Er C i<|a.cS/2/2).1:=by
 have β:=bT.eJ hE.ok
 have f:=h.sq i z
 have la:=h.la i z
 have u:=f.sB
 generalize Y:a.cS/2/2=g at*
 have O:0<=g/\g<C.bB:=ER
 have hb:(M.aU i).fX C g=if(M.aU i).eN=true then(M.aU i,0,16) else((M.aU i).qR g,g/4,0):=by
  unfold lX.fX;rw[aXf fun e=>e O,aXf (c:=(fS _ _).isSome=true)<|by rw[D];decide]
 unfold cN.Er at mi ⊢
 rw[hb] at mi ⊢
 cases hw:(M.aU i).eN with
 |true=>exact .inl ⟨show(16:Int)≠0 by decide,rfl,fun q=>by rw[q.2.2.2.1] at hw;cases hw⟩
 |false=>
  rw[hw] at mi
  dsimp only[aO,c9] at mi ⊢
  rw[aXf zs] at mi ⊢
  dsimp only at mi ⊢
  rw[aXf (c:=(0:Int)≠0) ET] at mi ⊢
  by_cases t:(M.bN.mR C [fH 6 i<|g/4]).2=0
  .rw[aXf fun e=>e t] at mi ⊢;right;refine⟨rfl,?_⟩;obtain⟨Q,_,_⟩:=uY t;rw[Q] at mi ⊢;generalize x:fH 6 (i:Int) (g/4)=d at mi ⊢;have p:d.core=i:=by rw[<-x];rfl
   have l:dO d=0:=by rw[<-x];rfl
   have r:d.kind=6:=by rw[<-x];rfl
   have J:d.no=g/4:=by rw[<-x];rfl
   have v:(M.bN.jZ d) i 0=M.bN i 0++[d]:=by
    have:=Dy (F:=M.bN) p;rwa [l] at this
   have S:(M.bN.jZ d) i 1=M.bN i 1:=tN (by rw[l];decide)
   have T:(M.bN.jZ d) i 2=M.bN i 2:=tN (by rw[l];decide)
   have U:bJ M.aU i ((M.aU i).qR g) i=(M.aU i).qR g:=bR
   rw[hw,fP zs] at u
   have R:∀y∈M.bN i 0,y.kind≠6:=fun y b e=>by have:=Hn b e;omega
   have cz:∀y∈M.bN i 2,y.kind≠12:=fun y b e=>by have:=Hn b e;omega
   have Z:nW 6 (M.bN i 0++[d])=nW 6 (M.bN i 0)+1:=by rw[Qu,vZ,Xa,fZ r]
   have m:X5 C E (W i) i M ((M.dU<|M.bN.jZ d).Ag i<|(M.aU i).qR g):=
    ⟨rfl,fun _ _=>rfl,fun j B=>rfl,fun j B=>eA B,fun j B=>Mi p B,fun k D=>rfl⟩
   refine⟨⟨h.tC hE z m mi (h.gP i z) ?_ ?_ ?_,m,?_⟩,rfl,fun _ _ _=>rfl⟩
   .show LA C E i (W i) (M.aJ i) M.aK ((M.bN.jZ d) i 0) ((M.bN.jZ d) i 1) ((M.bN.jZ d) i 2);rw[v,S,T];exact la.frame (fun _ _=>La.refl) (fun k _=>Sm.add fun e=>FZ) (fun _ _=>Sm.refl) fun _ _=>Sm.refl
   .intro w y b;have b:y∈(M.bN.jZ d) i w:=b;by_cases V:w=0
    .subst V;rw[v] at b;rcases cL.1 b with e|e
     .exact h.nk i 0 y e
     .rw[c7.1 e,r];unfold qk;omega
    .rw[tN<|by rw[l];exact V] at b;exact h.nk i w y b
   .show SQ C E (M.aC i) (M.aJ i) (bJ M.aU i ((M.aU i).qR g) i) ((M.bN.jZ d) i 0) ((M.bN.jZ d) i 2);rw[v,T,U];refine⟨f.kn,?_,rfl,fun _=> .inl rfl,fun y b h6=>?_,fun y b I=>absurd I<|cz y b,fun _=>⟨a,X,o,Y.symm,D⟩,f.wq,f.Rt,f.go,f.bd⟩
    .show tk (true=true)=_;rw[fZ rfl,Z];omega
    .rcases cL.1 b with e|e
     .exact absurd h6 (R y e)
     .rw[c7.1 e,J];rfl
   .show ms C (P i) (M.aC i) (M.aJ i) (bJ M.aU i ((M.aU i).qR g) i) M.aK ((M.bN.jZ d) i 0) ((M.bN.jZ d) i 1)<ms C (P i) (M.aC i) (M.aJ i) (M.aU i) M.aK (M.bN i 0) (M.bN i 1);have h1:nR (M.aJ i) M.aK (M.bN i 0++[d])=nR (M.aJ i) M.aK (M.bN i 0):=by
     unfold nR;rw[zM,mD,fP ER,sN];rfl
    have h2:zG (M.aJ i) M.aK (M.bN i 0++[d])=zG (M.aJ i) M.aK (M.bN i 0):=by
     unfold zG;rw[rF,iB,fP ER,kM];rfl
    have h3:pZ C (M.aC i) (M.aJ i) ((M.aU i).qR g)+6=pZ C (M.aC i) (M.aJ i) (M.aU i):=by
     unfold pZ;rw[X];dsimp only;rw[aXg o,aXg o,Y,D,hw,aXg (c:=_\/((M.aU i).qR g).eN=true)<|.inr rfl,aXf (c:=(none:Option Int).isSome=true\/false=true) EV];omega
    have h4:Sj ((M.aU i).qR g) (M.bN i 0++[d])=4:=by
     unfold Sj;rw[aXg<|show((M.aU i).qR g).eN=true from rfl,aXg<|show((M.aU i).qR g).at'=((M.aU i).qR g).cJ/4 from rfl,Z];omega
    rw[v,S,U,ms,ms,h1,h2,h4]
    omega
  .rw[aXg t];refine .inl ⟨t,rfl,fun q=>t<|Aj (vu hE.ok ER<|by have:=hE.ok.2.1;omega) ?_⟩;show(((M.bN i 0).length:Nat):Int)<_;rw[q.1];have:=hE.dep;simp only[q6];omega
def nX (wr:Bool) (core l w:Int):aI:=⟨if wr then 2 else 1,core,l,w,0,0,0,false,0⟩
def aNv {wr:Bool} {core l w:Int}:(nX wr core l w).kind=1\/(nX wr core l w).kind=2:=by
 unfold nX;cases wr;exact .inl rfl;exact .inr rfl
def aJ3 {core l w:Int} {wr:Bool} (hC:C.Ok) (r:kK C c) (u:0<=l) (b:¬Qt.fY C c l) (h:(Ct.gM C core c l w wr).2.2=0):c.pY=false/\¬jY c l/\
  ((Ct.gM C core c l w wr=(iy c l wr,[nX wr core l w],0)/\(c.S<|cB C.bL.toNat l).length<C.ways.toNat)\/
   ∃v,c.uF=false/\Qt.fY C c v/\cB C.bL.toNat v=cB C.bL.toNat l/\v≠l/\Ct.gM C core c l w wr=(iy (uA C c v) l wr,[Ah C c core v,nX wr core l w],0)):=by
 unfold Ct.gM at h ⊢
 split at h
 .cases h
 rename_i q
 rw[aXf q]
 split at h
 .cases h
 rename_i m
 rw[aXf m]
 split at h
 .cases h
 rename_i o
 rw[aXf o]
 rw[aXf fun e=>b e.1] at h ⊢
 refine⟨by simpa using m,o,?_⟩
 unfold Co at h ⊢
 have f:Go.Ct.get l (c.S<|cB C.bL.toNat l)=none:=by
  unfold Qt.fY pk cI at b;rw[aab] at b;cases hx:Go.Ct.get l (c.S<|cB C.bL.toNat l) with
  |none=>rfl
  |some x=>rw[hx] at b;exact absurd rfl b
 cases hv:wI C.bL.toNat C.ways.toNat c.S l with
 |none=>
  left
  refine⟨rfl,?_⟩
  unfold wI at hv
  rw[f] at hv
  dsimp only at hv
  split at hv
  .assumption
  .have y:=CA.1 hv;have:=pW hC;omega
 |some v=>
  right
  rw[hv] at h
  dsimp only at h ⊢
  split at h
  .cases h
  rename_i p
  rw[aXf p]
  split at h
  .rename_i j;exact absurd h j
  rename_i j
  rw[aXf j]
  have t:v∈c.S (cB C.bL.toNat l):=by
   unfold wI at hv;rw[f] at hv;dsimp only at hv;split at hv;cases hv;exact fm hv
  have g:Qt.fY C c v.1:=og.1 j
  exact⟨v.1,by simpa using p,g,(r.pl _ _ t).2,fun e=>b<|e▸g,rfl⟩
def W9 {core l w:Int} {wr:Bool} (j:kK C c) (p:0<=l/\l<C.aF) (m:¬Qt.fY C c l) (g:c.pY=false) (b:c.uF=false):(Ct.gM C core c l w wr).2.2=0:=by
 unfold Ct.gM;rw[aXf FM,aXf<|by rw[g];decide,aXf<|by rw[b];simp,aXf fun e=>m e.1];unfold Co;cases hv:wI C.bL.toNat C.ways.toNat c.S l with
 |none=>rfl
 |some v=>
  dsimp only;rw[aXf<|by rw[b];decide];have f:v∈c.S (cB C.bL.toNat l):=by
   unfold wI at hv;split at hv;cases hv;split at hv;cases hv;exact fm hv
  have o:=j.pl _ _ f;rw[aXf];rfl;rw[og];unfold cI;rw[aab,o.2];cases hx:Go.Ct.get v.1 (c.S<|cB C.bL.toNat l) with
  |some x=>rfl
  |none=>
   unfold Go.Ct.get at hx;rw[Option.map_eq_none_iff,yg] at hx;have:=hx v f;simp at this
def aGo {m:aI} (h:(F.mR C [n,m]).2=0):(F.mR C [n,m]).1=(F.jZ n).jZ m:=by
 unfold fI.mR at h ⊢;by_cases b:aU C [n,m]≠0;rw[aXg b] at h;exact absurd h b;rw[aXf b] at h ⊢;simp only[fI.xP] at h ⊢;by_cases f:((F n.core.toNat<|dO n).length:Int)<C.eT;rw[aXg f] at h ⊢;by_cases g:(((F.jZ n) m.core.toNat<|dO m).length:Int)<C.eT;rw[aXg g];rw[aXf g] at h;cases h;rw[aXf f] at h;cases h
end
section
variable {P:Nat->HO} {M:cN} {F:fI} {n d:aI} {s s':aT} {c c':iJ} {k:lX} {F0 F1 F2 F0' F2':HM} {H H':kQ} {A:AM} {a:U3} {G:HM}
def QI.iH (hE:QE C E W P) (h:QI C E W P M) (D:(i:Int)<C.aE) (z:Mc.aT.iK (M.aC i)=some a) (p:0<=a.cS/\a.cS<C.aF*2) {o:Int} (q:fS (M.aU i).cC (a.cS/2/2)=some o) (O:vE (M.aC i).bG o=true)
 (V:a.cS/2=l) (hh:¬Qt.fY C (M.aJ i) l) (t:(M.aJ i).pY=false)
  (f0:F' i 0=M.bN i 0++G) (fw:∀w,w≠0->F' i w=M.bN i w) (X:∀j,j≠i->F' j=M.bN j) (x:∀n∈G,n.kind=1\/n.kind=2\/n.kind=3)
  (J:LA C E i (W i) c' M.aK (M.bN i 0++G) (M.bN i 1) (M.bN i 2)) (hv:∀l:Nat,l<C.aF->oA E (W i) l->Qt.val C c' (M.aK l) l=Qt.val C (M.aJ i) (M.aK l) l)
  (v:c'.pY=true/\c'.al=l) (c2:(c'.S<|cB C.bL.toNat l).length<C.ways.toNat) (c3:c'.uF=true->0<=c'.gl/\c'.gl<C.aF) (c4:∀k:Int,Qt.fY C c' k->Qt.fY C (M.aJ i) k)
  (m1:nR c' M.aK (M.bN i 0++G)<=4) (m2:zG c' M.aK (M.bN i 0++G)<=zG (M.aJ i) M.aK (M.bN i 0)+3) (mi:∃N,eO C N<|(M.dU F').rT i c'):Mq C E W P i M ((M.dU F').rT i c'):=by
 have f:=h.sq i D
 have u:bJ M.aJ i c' i=c':=bR
 have w6:nW 6 (M.bN i 0++G)=nW 6 (M.bN i 0):=by
  rw[Qu];have:nW 6 G=0:=List.countP_eq_zero.2 fun y g=>by have:=x y g;simp;omega
  omega
 have Q:(M.aU i).eN=false:=by
  cases e:(M.aU i).eN with
  |false=>rfl
  |true=>
   obtain⟨b,T,_,B,r⟩:=f.wk e;rw[z] at T;cases T;rw[B,q] at r;cases r
 have m:X5 C E (W i) i M ((M.dU F').rT i c'):=
  ⟨rfl,fun _ _=>rfl,fun j U=>eA U,fun j U=>rfl,X,fun k q=>rfl⟩
 refine⟨⟨h.tC hE D m mi (h.gP i D) ?_ ?_ ?_,m,?_⟩,rfl,fun k I ho=>?_⟩
 .show LA C E i (W i) (bJ M.aJ i c' i) M.aK (F' i 0) (F' i 1) (F' i 2);rw[f0,fw 1 ET,fw 2 ET,u];exact J
 .intro w y g;have g:y∈F' i w:=g;by_cases R:w=0
  .subst R;rw[f0] at g;rcases cL.1 g with e|e
   .exact h.nk i 0 y e
   .have:=x y e;unfold qk;omega
  .rw[fw w R] at g;exact h.nk i w y g
 .show SQ C E (M.aC i) (bJ M.aJ i c' i) (M.aU i) (F' i 0) (F' i 2);rw[f0,fw 2 ET,u];refine⟨f.kn,by rw[w6];exact f.sB,f.nQ,f.pl,fun y g Z=>?_,f.n12,f.wk,fun _=>⟨a,z,p,ER,o,?_,O⟩,fun _=>by rw[v.2];exact c2,c3,fun k q=>f.bd k<|c4 k q⟩
  .rcases cL.1 g with e|e
   .exact f.n6 y e Z
   .have:=x y e;omega
  .rw[v.2,<-V];exact q
 .show ms C (P i) (M.aC i) (bJ M.aJ i c' i) (M.aU i) M.aK (F' i 0) (F' i 1)<ms C (P i) (M.aC i) (M.aJ i) (M.aU i) M.aK (M.bN i 0) (M.bN i 1);have Y:nR (M.aJ i) M.aK (M.bN i 0)=0:=Hu t;have h3:pZ C (M.aC i) c' (M.aU i)+9=pZ C (M.aC i) (M.aJ i) (M.aU i):=by
   unfold pZ;rw[z];dsimp only;rw[aXg p,aXg p,V,aXg (c:=_\/c'.pY=true)<|.inr v.1,aXf (c:=Qt.fY C (M.aJ i) l\/_)<|by rw[t];simp[hh]]
  have S:Sj (M.aU i) (M.bN i 0++G)=0/\Sj (M.aU i) (M.bN i 0)=0:=by unfold Sj;rw[Q];exact⟨rfl,rfl⟩
  rw[f0,fw 1 ET,u,ms,ms,Y,S.1,S.2]
  omega
 .show val C (bJ M.aJ i c' i) (M.aK k) k=_;rw[u];exact hv k I ho
def QI.aRh (hE:QE C E W P) (h:QI C E W P M) (R:(i:Int)<C.aE) (ha:Mc.aT.iK (M.aC i)=some a) (η:0<=a.cS/\a.cS<C.aF*2) {o:Int} (b:fS (M.aU i).cC (a.cS/2/2)=some o) (p:vE (M.aC i).bG o=true)
  (hc:Ct.oD C.bL.toNat (M.aJ i).S (a.cS/2) o a.dX=false) (mi:∃N,eO C N (M.gM C i (a.cS/2) a.dX).1):
  (M.gM C i (a.cS/2) a.dX).2≠0/\(M.gM C i (a.cS/2) a.dX).1=M/\¬Qz M i\/(M.gM C i (a.cS/2) a.dX).2=0/\Mq C E W P i M (M.gM C i (a.cS/2) a.dX).1:=by
 have I:=h.sq i R
 have la:=h.la i R
 obtain⟨N,ν⟩:=h.mi
 have J:=ν.Jt i R
 have θ:=(h.gP i R).1
 have χ:=hE.w i R
 have ψ:=bT.eJ hE.ok
 have φ:=hE.len
 obtain⟨l,hl⟩:=cb<|show 0<=a.cS/2 by omega
 have γ:l<C.aF:=ER
 have u:o=xy E (a.cS/2/2):=(I.kn _<|Oy b).2
 have m:oA E (W i) l:=by
  unfold oA;unfold xy at u;rw[show(a.cS/2/2).toNat=l/2 by omega] at u;rw[<-u];have h3:o<=3:=by
   rw[u,ay,aL ER];exact(hE.oA _<|sz _).2
  rw[θ] at p;unfold vE at p;split at p;have:=eo p;omega;cases p
 have hq:=(la l γ).1 m
 have ο:o=W i:=by
  unfold oA at m;unfold xy at u;rw[u,show(a.cS/2/2).toNat=l/2 by omega,m]
 have Z:¬Qt.fY C (M.aJ i) l:=fun e=>by
  have t:=hq.cp e;rw[hl,ο] at hc;unfold Ct.oD at hc;unfold pk at t;unfold Qt.fY pk at e;rw[e,t.2.1] at hc;have:yZ (cI C.bL.toNat (M.aJ i).S l).1.st a.dX=true:=by
   rcases t.1 with e|e<;>rw[e]<;>cases a.dX<;>rfl
  rw[this] at hc;simp at hc
 unfold cN.gM at mi ⊢
 rw[hl] at mi ⊢
 dsimp only at mi ⊢
 by_cases Q:(Ct.gM C i (M.aJ i) l (M.aC i).bG a.dX).2.2=0
 rotate_left
 .rw[aXg Q];exact .inl ⟨Q,rfl,fun q=>Q<|W9 J ER Z q.2.1 q.2.2.1⟩
 obtain⟨g,ξ,z⟩:=aJ3 hE.ok J ER Z Q
 have na:¬vQ (M.aJ i) l:=fun e=>by rw[e.1] at g;cases g
 rw[aXf fun e=>e Q] at mi ⊢
 rw[θ] at mi z ⊢
 have π:=hq.a
 rw[fP na] at π
 have gk:=aNv (wr:=a.dX) (core:=i) (l:=l) (w:=W i)
 have gl:(nX a.dX i l<|W i).bA=l:=rfl
 have gc:(nX a.dX i l<|W i).core=i:=rfl
 have Y:dO (nX a.dX i l<|W i)=0:=by unfold dO;rcases gk with e|e<;>rw[e]<;>rfl
 have gG:nG [nX a.dX i l<|W i] l=1:=by rw[mD,sN,fZ ⟨gk,gl⟩]
 have g3:∀k,nK 3 [nX a.dX i l<|W i] k=0:=fun k=>by rw[iB,kM,fP ER]
 have β:Nt.mZ C (nX a.dX i l<|W i)=0:=aOo hE.ok FQ ER ER ER
 have gS:∀k:Nat,k≠l->¬rel k (nX a.dX i l<|W i):=fun k b e=>GG
 rcases z with⟨he,U⟩|⟨v,O,f,δ,τ,he⟩
 .rw[he] at mi ⊢;dsimp only at mi ⊢;by_cases r:(M.bN.mR C [nX a.dX i l<|W i]).2=0;rotate_left
  .rw[aXg r];refine .inl ⟨r,rfl,fun q=>r<|Aj β ?_⟩;rw[Y];show(((M.bN i 0).length:Nat):Int)<_;rw[q.1];have:=hE.dep;simp only[q6];omega
  rw[aXf fun e=>e r] at mi ⊢
  right
  refine⟨rfl,?_⟩
  obtain⟨σ,_,_⟩:=uY r
  rw[σ] at mi ⊢
  have hA:=hq.aTu g ξ Z (s':=iy (M.aJ i) l a.dX) rfl (k:=if a.dX then 2 else 1) (c:=i) FQ
  refine h.iH hE R ha η b p hl Z g (G:=[nX a.dX i l<|W i]) ?_ (fun w hw=>tN<|by rw[Y];exact hw) (fun j hj=>Mi gc hj) (fun y V=>by rw[c7.1 V];omega) ?_ ?_ ⟨rfl,rfl⟩ U I.go (fun k b=>b) ?_ ?_ mi
  .have:=Dy (F:=M.bN) gc;rwa [Y] at this
  .exact la.rG m (fun _ _=>rfl) hA.1 (fun k b=>ud ER g) (fun k b=>Sm.add<|gS k b) (fun _ _=>Sm.refl) (fun _ _=>Sm.refl)
  .intro k κ ho;by_cases e:k=l
   .subst e;exact hA.2
   .exact sK (ud ER g)
  .rw[Bs (l:=l) ⟨rfl,rfl⟩,zM,gG];omega
  .show zG (iy (M.aJ i) l a.dX) _ _<=_;have:zG (iy (M.aJ i) l a.dX) M.aK (M.bN i 0++[nX a.dX i l<|W i])=zG (M.aJ i) M.aK (M.bN i 0):=by
    unfold zG;show(if(M.aJ i).uF=true then 1+nK 3 (M.aK (M.aJ i).gl.toNat).1.aY (M.aJ i).gl+2*nK 3 _ (M.aJ i).gl else 0)=_;rw[rF,g3];rfl
   omega
 .rw[he] at mi ⊢;dsimp only at mi ⊢;by_cases r:(M.bN.mR C [Ah C (M.aJ i) i v,nX a.dX i l<|W i]).2=0;rotate_left
  .rw[aXg r];refine .inl ⟨r,rfl,fun q=>r<|zJ (fun y V=>?_) fun y V=>?_⟩
   .rcases j2.1 V with e|e
    .rw[e];have x:=I.bd v f;have m:oA E (W i) v.toNat:=hS fun ho=>((la v.toNat ER).2 ho).h (by rw[CF x.1];exact f);have t:=((la v.toNat ER).1 m).cp (by rw[CF x.1];exact f);rw[CF x.1] at t;exact aNn hE.ok ER x (by rw[t.2.1];omega)
    .rw[c7.1 e];exact β
   .have hle:ar [Ah C (M.aJ i) i v,nX a.dX i l<|W i] y<=2:=List.countP_le_length;have υ:M.bN y.core.toNat (dO y)=[]:=by
     rcases j2.1 V with e|e;rw[e];exact q.1;rw[c7.1 e,Y];exact q.1
    rw[υ]
    have:=hE.dep
    simp only[q6]
    omega
  rw[aXf fun e=>e r] at mi ⊢
  right
  refine⟨rfl,?_⟩
  rw[aGo r] at mi ⊢
  have x:=I.bd v f
  obtain⟨v,rfl⟩:=cb x.1
  have D:v<C.aF:=ER
  have ζ:v≠l:=fun e=>τ (by rw[e])
  have T:oA E (W i) v:=hS fun ho=>((la v D).2 ho).h f
  have hV:=((la v D).1 T).aRl J ER f (c:=i)
  have pc:(Ah C (M.aJ i) i v).core=i:=rfl
  have pL:dO (Ah C (M.aJ i) i v)=0:=rfl
  have pS:∀k:Nat,k≠v->¬rel k (Ah C (M.aJ i) i v):=fun k b e=>by
   have:(v:Int)=k:=e.1;omega
  have X:∀k:Nat,k≠v->La C k (M.aJ i) (uA C (M.aJ i) v):=fun k b=>uv ER O
  have ι:LA C E i (W i) (uA C (M.aJ i) v) M.aK (M.bN i 0++[Ah C (M.aJ i) i v]) (M.bN i 1) (M.bN i 2):=
   la.rG T (fun _ _=>rfl) hV.1 X (fun k b=>Sm.add<|pS k b) (fun _ _=>Sm.refl) (fun _ _=>Sm.refl)
  have B:(uA C (M.aJ i) v).pY=false:=g
  have hA:=((ι l γ).1 m).aTu B (fun e=>ζ (by have:(v:Int)=l:=e.2;omega)) (fun e=>Z<|(X l ζ.symm).fY.1 e) (s':=iy (uA C (M.aJ i) v) l a.dX) rfl (k:=if a.dX then 2 else 1) (c:=i) FQ
  have ef:(((M.bN.jZ<|Ah C (M.aJ i) i v).jZ<|nX a.dX i l<|W i) i 0)=M.bN i 0++[Ah C (M.aJ i) i v,nX a.dX i l<|W i]:=by
   have Q:=Dy (F:=M.bN.jZ<|Ah C (M.aJ i) i v) gc;have r:=Dy (F:=M.bN) pc;rw[Y] at Q;rw[pL] at r;rw[Q,r,dx];rfl
  have eG:M.bN i 0++[Ah C (M.aJ i) i v,nX a.dX i l<|W i]=(M.bN i 0++[Ah C (M.aJ i) i v])++[nX a.dX i l<|W i]:=by rw[dx];rfl
  have ε:∀k:Int,Qt.fY C (uA C (M.aJ i) v) k->Qt.fY C (M.aJ i) k:=fun k b=>by
   by_cases e:k=v;subst e;exact f;exact(uv e O).fY.1 b
  refine h.iH hE R ha η b p hl Z g (G:=[Ah C (M.aJ i) i v,nX a.dX i l<|W i]) ef (fun w hw=>(tN<|by rw[Y];exact hw).trans<|tN<|by rw[pL];exact hw) (fun j hj=>(Mi gc hj).trans<|Mi pc hj) (fun y V=>?_) ?_ ?_ ⟨rfl,rfl⟩ ?_ (fun _=>⟨by show 0<=(v:Int);omega,by show(v:Int)<_;omega⟩) ε ?_ ?_ mi
  .rcases j2.1 V with e|e
   .rw[e];exact .inr<|.inr rfl
   .rw[c7.1 e];omega
  .rw[eG];exact ι.rG m (fun _ _=>rfl) hA.1 (fun k b=>ud ER B) (fun k b=>Sm.add<|gS k b) (fun _ _=>Sm.refl) fun _ _=>Sm.refl
  .intro k κ ho;have e2:val C (uA C (M.aJ i) v) (M.aK k) k=val C (M.aJ i) (M.aK k) k:=by
    by_cases e:k=v;subst e;exact hV.2;exact sK<|X k e
   by_cases e:k=l
   .subst e;exact hA.2.trans e2
   .exact(sK<|ud ER B).trans e2
  .have μ:=aJd (n:=C.bL.toNat) (S:=(M.aJ i).S) (no:=(v:Int)) f;rw[δ] at μ;have:=(J.bL<|cB C.bL.toNat l).len;show(lT C.bL.toNat (M.aJ i).S v<|cB C.bL.toNat l).length<_;omega
  .rw[Bs (l:=l) ⟨rfl,rfl⟩,eG,zM,gG,zM,mD,sN,fP fun e=>by rcases e.1 with e|e<;>cases e];omega
  .have ρ:=(la v D).1 T;have hg:=ρ.g;rw[fP fun e=>by rw[e.1] at O;cases O] at hg;rw[K7 (l:=v) ⟨rfl,rfl⟩,eG,rF,g3,rF,iB,kM];have:=uU (a:=(Ah C (M.aJ i) i v).kind=3/\(Ah C (M.aJ i) i v).bA=v);omega
def Rs (C:bT) (E:HR) (W:Nat->Int) (P:Nat->HO) (i:Nat) (M:cN) (r:cN×Int):Prop:=r.2≠0/\r.1=M/\¬Qz M i\/r.2=0/\(Mq C E W P i M r.1\/Me C E W P i M r.1)
def QI.fV (hE:QE C E W P) (h:QI C E W P M) (l:(i:Int)<C.aE) (q:Mc.aT.iK (M.aC i)=some a) (mi:∃N,eO C N (M.fV C i a).1):Rs C E W P i M (M.fV C i a):=by
 have m:=h.sq i l;have Q:=(h.gP i l).1;have S:=hE.w i l;have T:=bT.eJ hE.ok;have v:∀{p:Prop},((0<=a.cS/\a.cS<C.aF*2)->∀o,fS (M.aU i).cC (a.cS/2/2)=some o->vE (M.aC i).bG o=true->False)->(M.aJ i).pY=false:=fun R=>by
  cases e:(M.aJ i).pY with
  |false=>rfl
  |true=>
   obtain⟨b,t,r,B,o,y,J⟩:=m.wq e;rw[q] at t;cases t;rw[B] at y;exact(R r o y J).elim
 have x:((0<=a.cS/\a.cS<C.aF*2)->fS (M.aU i).cC (a.cS/2/2)=none->False)->(M.aU i).eN=false:=fun R=>by
  cases e:(M.aU i).eN with
  |false=>rfl
  |true=>
   obtain⟨b,t,r,D,u⟩:=m.wk e;rw[q] at t;cases t;rw[D] at u;exact(R r u).elim
 unfold cN.fV at mi ⊢;by_cases g:0<=a.cS/\a.cS<C.aF*2;rotate_left;rw[aXg g] at mi ⊢;have:=h.aN9 hE l q (v (p:=True) fun e=>absurd e g) (x fun e=>absurd e g) (fun A hA=>by unfold AM.R2;rw[hA.fA,aXf g]) mi;exact .inr ⟨this.1,.inr this.2⟩;rw[aXf fun e=>e g] at mi ⊢;dsimp only at mi ⊢;have f:(M.aU i).vQ C (M.aC i).bG (a.cS/2/2)=match fS (M.aU i).cC (a.cS/2/2) with
  |none=>(3,0)
  |some o=>if vE (M.aC i).bG o then(1,0) else(2,0):=by
  unfold lX.vQ
  rw[aXg ⟨ER,ER⟩]
  rfl
 cases hk:fS (M.aU i).cC (a.cS/2/2) with
 |none=>
  rw[f,hk] at mi ⊢;have:=h.eN hE l q g hk mi;exact this.imp_right fun e=>⟨e.1,.inl e.2⟩
 |some o=>
  rw[hk] at f;dsimp only at f;have I:M.cC i (a.cS/2/2)=o:=by unfold cN.cC;rw[hk];rfl
  by_cases j:vE (M.aC i).bG o=true;rotate_left;have O:vE (M.aC i).bG o=false:=by simpa using j
  rw[aXf j] at f;rw[f] at mi ⊢;have:=h.aN9 hE l q (v (p:=True) fun _ U y J=>by rw[hk] at y;cases y;exact j J) (x fun _ e=>by rw[hk] at e;cases e) (fun A hA=>by
   rw[aEr hA g,<-(m.kn _<|Oy hk).2];exact O) mi
  exact .inr ⟨this.1,.inr this.2⟩;rw[aXg j] at f;rw[f,I] at mi ⊢;by_cases z:Ct.oD C.bL.toNat (M.aJ i).S (a.cS/2) o a.dX=false;dsimp only at mi ⊢;rw[aXg z] at mi ⊢;have:=h.aRh hE l q g hk j z mi;exact this.imp_right fun e=>⟨e.1,.inl e.2⟩;dsimp only at mi ⊢;rw[aXf z] at mi ⊢;have:=h.jJ hE l q g hk (Q▸j) (by simpa using z) mi;exact .inr ⟨this.1,.inr this.2⟩
def x7 {r:aT×Ev} (j:s.bG≠0) (f:((hQ s.prog s.at').op=9->s.at'<(hQ s.prog s.at').a)/\((hQ s.prog s.at').op=10->s.at'<(hQ s.prog s.at').b)) (h:Mc.aT.lM s i=some r):s.over=false/\r.1.bG=s.bG/\r.1.prog=s.prog/\s.at'<r.1.at':=by
 unfold Mc.aT.lM at h;cases hn:Mc.aT.lJ s with
 |none=>rw[hn] at h;cases h
 |some x=>
  rw[hn] at h;dsimp only at h;obtain⟨g,l⟩:=E8 hn;rw[<-l] at f;have b:s.at'<s.at'+1:=ER
  refine⟨g,?_⟩;split at h;cases h;exact⟨rfl,rfl,b⟩;split at h;cases h;exact⟨rfl,rfl,b⟩;split at h;cases h;exact⟨rfl,rfl,b⟩;split at h;try rw[aXf j] at h
  cases h;exact⟨rfl,rfl,b⟩;split at h;cases h;exact⟨rfl,rfl,f.1 ‹_›⟩;split at h;cases h;refine⟨rfl,rfl,?_⟩;show s.at'<if _ then _ else _
  split;exact f.2 ‹_›;exact b;cases h
def Zx (h:QI C E W P M) {j:Int}:M.dS.qS j=false:=by
 unfold gV.qS gV.eE;rw[DT];intro g b;have:=(BB.1 b).2;rw[h.lS] at this;cases this
def QI.step (hE:QE C E W P) (h:QI C E W P M) (g:(i:Int)<C.aE) (mi:∃N,eO C N (M.step C i).1):Rs C E W P i M (M.step C i):=by
 have l:=h.sq i g;obtain⟨U,o⟩:=h.gP i g;have R:=hE.w i g;obtain⟨N,m⟩:=h.mi;unfold cN.step at mi ⊢;rw[aXf fun e=>e ⟨ER,g⟩] at mi ⊢;rw[aP] at mi ⊢;dsimp only at mi ⊢;cases ho:(M.aC i).over with
 |true=>exact .inl ⟨show(20:Int)≠0 by decide,rfl,fun q=>by rw[q.2.2.2.2] at ho;cases ho⟩
 |false=>
  rw[ho] at mi;have z:M.aY (i:Int)=false:=Zx h;rw[z] at mi ⊢;rw[aXf zs,aXf zs] at mi ⊢;cases hlo:Mc.aT.lM (M.aC i) i with
  |some r=>
   rw[hlo] at mi;dsimp only at mi ⊢;have j:=Wc (m.gP i g) ho;have J:=(m.gP i g).1;obtain⟨_,O,Q,B⟩:=x7 ER (by rw[o] at j ⊢;exact hE.fw i g _ J j) hlo;have f:=aBe hlo;refine .inr ⟨rfl,.inr ⟨h.aI5 hE g ho O Q B ?_ ?_ (h.la i g) ⟨rfl,rfl,rfl,rfl⟩ l.bd (by rw[rM]) mi,?_,fun {A} hA=>?_⟩⟩;cases e:(M.aJ i).pY with
   |false=>rfl
   |true=>obtain⟨b,p,_⟩:=l.wq e;rw[f] at p;cases p
   cases e:(M.aU i).eN with
   |false=>rfl
   |true=>obtain⟨b,p,_⟩:=l.wk e;rw[f] at p;cases p
   show _<(bJ M.aC i r.1 i).at';rw[bR];exact B;have S:=aDi (A:=A) (i:=i) (b:=false) (by rw[hA.fA];exact g) (by rw[hA.gP];exact hlo);rw[S.1];refine⟨hA.fA,hA.oA,?_,hA.mem⟩;show bJ A.aC i r.1 i=bJ M.aC i r.1 i;rw[bR,bR]
  |none=>
   rw[hlo] at mi;dsimp only at mi ⊢;have u:Mc.aT.Vw (M.aC i) i=none:=by
    unfold Mc.aT.Vw;cases y:Mc.aT.lJ (M.aC i) with
    |none=>rfl
    |some x=>
     dsimp only;obtain⟨_,V⟩:=E8 y;rw[aXf<|by rw[V,o];exact hE.nc i g _]
   rw[u] at mi ⊢;dsimp only at mi ⊢;cases f:Mc.aT.iK (M.aC i) with
   |none=>
    exfalso;have t:=m.gP i g;have j:=Wc t ho;have v:=t.2.2.2.2 _<|Ec t.1 j;have D:=(Yq v).1;have T:¬(hQ (M.aC i).prog (M.aC i).at').op=11:=fun e=>by
     have:=t.2.2.1;rw[ho] at this;unfold Ga at this;rw[aab,e] at this;cases this
    have y:Mc.aT.lJ (M.aC i)=some (hQ (M.aC i).prog (M.aC i).at'):=by unfold Mc.aT.lJ;rw[ho];rfl
    have X:¬(hQ (M.aC i).prog (M.aC i).at').op=8:=by rw[o];exact hE.nc i g _
    generalize hQ (M.aC i).prog (M.aC i).at'=x at*;unfold Mc.aT.lM at hlo;unfold Mc.aT.iK at f;rw[y] at hlo f;dsimp only at hlo f;unfold M6 at f;split at f;cases f
    .rename_i I;have I:¬(x.op=3\/x.op=4\/x.op=5):=by simpa using I
     repeat' split at hlo
     all_goals first
      |omega
      |cases hlo
   |some a=>
    rw[f] at mi;exact h.fV hE g f mi
def QI.mi1 (hE:QE C E W P) (h:QI C E W P M) {d:Do}:∃N,eO C N (M.sJ C d).1:=by
 obtain⟨N,b⟩:=h.mi;exact⟨N+2,aE9 b hE.ok⟩
def QI.gH (hE:QE C E W P) (h:QI C E W P M) {a b q:Int} (mi:∃N,eO C N (M.gH C a b q).1):((M.gH C a b q).2≠0/\(M.gH C a b q).1=M)\/((M.gH C a b q).2=0/\∃i:Nat,a=i/\(i:Int)<C.aE/\Mq C E W P i M (M.gH C a b q).1):=by
 obtain⟨N,l⟩:=h.mi;by_cases g:(M.gH C a b q).2=0;right;refine⟨g,?_⟩;obtain⟨c,w,n,L,j,o,f⟩:=ku l g;refine⟨c,j,f.hc,?_⟩;have m:n∈M.bN c w:=by rw[f.p.mem_iff];exact ei
 rcases h.nk c w n m with e|e|e|e|e|e|e|e;exact h.V0 hE f mi ER;exact h.V0 hE f mi ER;exact h.V0 hE f mi ER;exact h.done hE f mi e;exact h.Er hE f mi e;exact h.eZ hE f mi e;exact h.sa hE f mi e;exact h.fN hE f mi e;exact .inl ⟨g,U4 g⟩
theorem QI.sJ (hE:QE C E W P) (h:QI C E W P M) (d:Do):((M.sJ C d).2≠0/\(M.sJ C d).1=M)\/((M.sJ C d).2=0/\∃i:Nat,(i:Int)<C.aE/\(Mq C E W P i M (M.sJ C d).1\/Me C E W P i M (M.sJ C d).1)):=by
 have mi:=h.mi1 hE (d:=d);unfold cN.sJ at mi ⊢;by_cases l:d.kR=0;rw[aXg l] at mi ⊢;by_cases b:0<=d.a/\d.a<C.aE;obtain⟨i,g⟩:=cb b.1;rw[g] at mi ⊢;exact(h.step hE (i:=i) ER mi).imp (fun e=>⟨e.1,e.2.1⟩) fun e=>⟨e.1,i,ER,e.2⟩;left;unfold cN.step;rw[aXg b];exact⟨show(10:Int)≠0 by decide,rfl⟩;rw[aXf l] at mi ⊢;by_cases m:d.kR=1;rw[aXg m] at mi ⊢;exact(h.gH hE mi).imp_right fun e=>⟨e.1,by obtain⟨i,_,b,j⟩:=e.2;exact⟨i,b,.inl j⟩⟩;rw[aXf m] at mi ⊢;by_cases o:d.kR=2;rw[aXg o] at mi ⊢;by_cases f:(M.fX C d.a).2=0;obtain⟨i,b,j⟩:=h.kN hE f mi;exact .inr ⟨f,i,b,.inl j⟩;exact .inl ⟨f,qe f⟩;rw[aXf o];by_cases p:d.kR=3;rw[aXg p];left;unfold cN.Ci;split;exact⟨show(10:Int)≠0 by decide,rfl⟩;have q:M.mY C d.a=false:=by
  unfold cN.mY gV.phase gV.run;split<;>simp_all [h.lS]
 rw[q,aXg rfl];exact⟨show(16:Int)≠0 by decide,rfl⟩;rw[aXf p];exact .inl ⟨show(1:Int)≠0 by decide,rfl⟩
end
variable {P:Nat->HO} {M:cN} {F:fI} {n d:aI} {L:HM}
def rB (hc:(i:Int)<C.aE) (j:w<4) (b:M.bN i w=n::L) (g:(M.dN C n).2.2=0) (f:((M.bN.set i w L).mR C (M.dN C n).2.1).2=0):(M.gH C i w 0).2=0:=by
 unfold cN.gH;rw[xo hc j b];dsimp only;rw[aXf ET,aXf fun e=>e g,aXf fun e=>e f]
def Vz (h:QI C E W P M) (l:(i:Int)<C.aE) (g:M.bN i w=n::L):n∈M.bN i w/\qk n.kind/\Nt.mZ C n=0/\n.core=i/\dO n=w:=by
 obtain⟨N,f⟩:=h.mi;have b:n∈M.bN i w:=by rw[g];exact ei
 have:=f.bN.Ss i w n b;have j:=(Jc this.1.mZ).2;exact⟨b,h.nk i w n b,this.1.mZ,ER,this.2.2⟩
def QI.go1 (h:QI C E W P M) (m:(i:Int)<C.aE) (o:M.bN i 1=n::L):(M.gH C i 1 0).2=0:=by
 obtain⟨x,u,t,r,p⟩:=Vz h m o;have b:=(xM t u).2.1.1 p;obtain⟨l,g,f⟩:=qL t u ER;have y:oA E (W i) l:=zY (F2:=M.bN i 2) (h.la i m) f g<|.inl ⟨x,b⟩;obtain⟨⟨v,q⟩,_⟩:=((h.la i m l f).1 y).done (n:=n) (F1':=L) (by rw[o]) b g;have z:gJ C M.aK n=(bJ M.aK l ((M.aK l).1.iW,(M.aK l).2),[],0):=by
  rw[xF (by rw[r];omega) g f<|by unfold Hm.dN;omega];unfold rU.take;rw[aXg b,aXf<|by rw[v,q,r];simp]
 have j:M.dN C n=(M.rC<|bJ M.aK l ((M.aK l).1.iW,(M.aK l).2),[],0):=by
  unfold cN.dN;rw[aae,z]
 exact rB m ET o (by rw[j]) (by rw[j,uO])
def aF4 {c:iJ} {F:HM} (h:∀n∈F,n.kind=10/\n.bA=c.gl):F.length=nK 10 F c.gl:=by
 symm;exact List.countP_eq_length.2 fun n b=>c8<|h n b
def aRx (hE:QE C E W P) (h:QI C E W P M) (v:(i:Int)<C.aE) (Y:0<nW 6 (M.bN i 0)):(M.bN i 2).length<=1:=by
 have q:=h.sq i v;have S:=q.sB;have:=uU (a:=(M.aU i).eN=true);have I:(M.aU i).eN=true:=oH.1 ER;obtain⟨a,U,_,B,D⟩:=q.wk I;have x:(M.aJ i).pY=false:=by
  cases e:(M.aJ i).pY with
  |false=>rfl
  |true=>
   obtain⟨b,O,_,y,o,r,_⟩:=q.wq e;rw[U] at O;cases O;rw[y,<-B,D] at r;cases r
 obtain⟨N,J⟩:=h.mi;have g:∀n∈M.bN i 2,n.kind=10/\n.bA=(M.aJ i).gl:=fun n j=>by
  have p:=J.bN.Ss i 2 n j;have R:=h.nk i 2 n j;have X:=(xM p.1.mZ R).2.2.1 p.2.2;have T:n.kind≠12:=fun e=>by have:=Hn j e;omega
  obtain⟨l,f,m⟩:=qL p.1.mZ R ER;have r:oA E (W i) l:=zY (F1:=M.bN i 1) (h.la i v) m f<|.inr ⟨j,ER⟩;have u:=(h.la i v l m).1 r;have Z:n.kind≠8:=fun e=>by
   have:=kX j e f;have hA:=u.a;rw[fP fun e=>by rw[e.1] at x;cases x] at hA;omega
  have t:n.kind=10:=ER
  have Q:jY (M.aJ i) l:=oH.1 (by have:=kX j t f;have:=u.g;omega);exact⟨t,by rw[Q.2];exact f⟩
 rw[aF4 g];by_cases e:(M.bN i 2)=[];rw[e];exact AK _;obtain⟨n,L,V⟩:=AD e;have j:n∈M.bN i 2:=by rw[V];exact ei
 have p:=J.bN.Ss i 2 n j;obtain⟨l,f,m⟩:=qL p.1.mZ (h.nk i 2 n j) (by have:=g n j;omega);have z:(M.aJ i).gl=l:=by rw[<-f];exact(g n j).2.symm
 have r:oA E (W i) l:=zY (F1:=M.bN i 1) (h.la i v) m f<|.inr ⟨j,.inr (g n j).1⟩;have Q:=((h.la i v l m).1 r).g;have:=uU (a:=jY (M.aJ i) l);rw[z];omega
def QI.go0 (hE:QE C E W P) (h:QI C E W P M) (j:(i:Int)<C.aE) (t:M.bN i 0=n::L):(M.gH C i 0 0).2=0:=by
 obtain⟨J,O,I,D,u⟩:=Vz h j t;have T:=(xM I O).1.1 u;by_cases q:n.kind=6;have f:=h.sq i j;have o:=f.n6 n J q;have U:=Hn J q;have Q:=f.sB;have:=uU (a:=(M.aU i).eN=true);have p:(M.aU i).eN=true:=oH.1 ER;obtain⟨N,y⟩:=h.mi;have S:=(y.mZ i j).2;obtain⟨g,r⟩:∃g:Nat,(M.aU i).cJ=g:=⟨(M.aU i).cJ.toNat,ER⟩;have m:=hE.len;have hC:=hE.ok;have B:=Uw (es:=E) (g:=g) (a:=(M.aU i).at') (by have:=hC.2.1;omega) (fun x X=>by have:=hE.oA x X;omega) ER (by rw[m,<-r];exact f.pl p);have b:M.dN C n=(M,[uJ i (iG E n.no).1 n.no],(iG E n.no).2):=by
  unfold cN.dN;rw[aab,aab,aXg q,D,h.eB]
 have R:0<=n.no/\n.no<20:=by
  rw[o];have:=hC.2.1;rcases f.pl p with e|e<;>rw[e];omega;unfold eP;omega
 refine rB j ET t (by rw[b,o];exact B.1) ?_;rw[b];refine Aj (xb hC ER R) ?_;show((((M.bN.set i 0 L) i 2).length:Nat):Int)<C.eT;rw[oQ ET];have:=aRx hE h j U;have:=hE.dep;omega;obtain⟨l,z,v⟩:=qL I O ER;have V:gJ C M.aK n=(bJ M.aK l ((M.aK l).1.mX n,(M.aK l).2),[],0):=by
  rw[xF (by rw[D];omega) z v<|by unfold Hm.dN;omega];unfold rU.take;rw[aab,aab]
 have b:M.dN C n=(M.rC<|bJ M.aK l ((M.aK l).1.mX n,(M.aK l).2),[],0):=by
  unfold cN.dN;rw[aae,V]
 exact rB j ET t (by rw[b]) (by rw[b,uO])
def QI.go2 (hE:QE C E W P) (h:QI C E W P M) (g:(i:Int)<C.aE) (l0:M.bN i 0=[]) (l1:M.bN i 1=[]) (t:M.bN i 2=n::L):(M.gH C i 2 0).2=0:=by
 obtain⟨y,V,R,J,T⟩:=Vz h g t;have S:=(xM R V).2.2.1 T;have j:=h.sq i g;obtain⟨N,x⟩:=h.mi;have X:=hE.dep;have Rt:∀d:aI,d.core=i->(dO d=0\/dO d=1)->((((M.bN.set i 2 L) d.core.toNat<|dO d).length:Nat):Int)<C.eT:=fun d Z hw=>by
  rw[Z,aP];rcases hw with e|e<;>rw[e,oQ ET];rw[l0];simp only[q6];omega;rw[l1];simp only[q6];omega
 rcases S with I|p|q;obtain⟨l,f,m⟩:=qL R V ER;have U:oA E (W i) l:=zY (F1:=M.bN i 1) (h.la i g) m f<|.inr ⟨y,.inl I⟩;have B:=(h.la i g l m).1 U;have u:vQ (M.aJ i) l:=oH.1 (by have:=kX y I f;have:=B.a;omega);have o:=j.Rt u.1;rw[u.2] at o;obtain⟨c',d,Q,r,_⟩:=B.eZ (n:=n) (F2':=L) (core:=n.core) (x.Jt i g) ER (by rw[t]) I f o;have b:M.dN C n=(M.rT i c',[d],0):=by
  unfold cN.dN;rw[aab,aae];unfold jU;rw[aXg I,aXf FM,show n.core.toNat=i by rw[J];rfl,Q]
 refine rB g ET t (by rw[b]) ?_;rw[b];exact Aj (by rw[r];exact aM1 hE.ok ER ER) (Rt d (by rw[r];exact J)<|.inr<|by rw[r];rfl);obtain⟨l,f,m⟩:=qL R V ER;have U:oA E (W i) l:=zY (F1:=M.bN i 1) (h.la i g) m f<|.inr ⟨y,.inr p⟩;obtain⟨v,_⟩:=((h.la i g l m).1 U).sa (n:=n) (F2':=L) (by rw[t]) p f rfl;have b:(M.dN C n).2=([],0):=by
  unfold cN.dN;rw[aab,aae,J,aP];unfold jU;rw[aab,aab,aXg p,aXf FM];unfold uK;rw[aXf<|by rw[v.1];decide,aXf<|by rw[v.2,f];simp]
 exact rB g ET t (by rw[b]) (by rw[b,uO]);have Y:=j.sB;have:=uU (a:=(M.aU i).eN=true);have hp:=Hn y q;have D:(M.aU i).eN=true:=oH.1 ER;have z:=j.n12 n y q;have O:=(x.mZ i g).2;have b:M.dN C n=(M.Ag i ((M.aU i).fN C (M.aU i).at' (iG E (M.aU i).at').1).1,if((M.aU i).fN C (M.aU i).at' (iG E (M.aU i).at').1).2.2.1 then [] else [fH 6 i ((M.aU i).fN C (M.aU i).at' (iG E (M.aU i).at').1).2.1],((M.aU i).fN C (M.aU i).at' (iG E (M.aU i).at').1).2.2.2):=by
  unfold cN.dN;rw[aab,aab,aab,aXg q,J,aP,z.1,z.2]
 rcases Tc hE D j.nQ O (j.pl D) with⟨hr,_⟩|hr;rw[hr] at b;refine rB g ET t (by rw[b]) ?_;rw[b];have:=hE.ok.2.1;exact Aj (vu hE.ok ER<|by show 0<=eP _ _/\eP _ _<20;unfold eP;omega)<|Rt _ rfl<|.inl rfl;rw[hr] at b;exact rB g ET t (by rw[b]) (by rw[b];exact eb Prod.snd uO)
def QI.goB (hE:QE C E W P) (h:QI C E W P M) (t:∀i w:Nat,(i:Int)<C.aE->w<4->M.bN i w=[]) (f:l<C.aF) (m:(M.aK l).1.aY≠[]):(M.aK l).1.busy=false/\(M.fX C l).2=0:=by
 obtain⟨n,w,m⟩:=AD m;obtain⟨i,g,v⟩:∃i:Nat,(i:Int)<C.aE/\oA E (W i) l:=AY fun O=>by
  have:=h.iW l f fun i g v=>O ⟨i,g,v⟩;rw[m] at this;cases this
 have x:=((h.la i g l f).1 v).b;rw[t i 1 g ET,t i 2 g ET,kM,kM] at x;have b:(M.aK l).1.busy=false:=by
  cases e:(M.aK l).1.busy with
  |false=>rfl
  |true=>rw[e,fZ rfl] at x;omega
 refine⟨b,?_⟩;obtain⟨j,D,_,_,_,y,d,o,p,I,q,B,_⟩:=h.beg hE f b m;have z:dO d=2:=by unfold dO;rcases I with e|e<;>rw[e]<;>rfl
 have u:rU.fX (M.aK l) l (M.yY C l)=(y,[d],0):=by
  unfold rU.fX;rw[aXf<|by rw[b];decide,m];dsimp only;rw[o]
 have r:kJ C M.aK l (M.yY C l)=(bJ M.aK l y,[d],0):=by
  unfold kJ;rw[aXg<|show C.fY (l:Int) by unfold bT.fY;omega,aP,u]
 have J:(M.bN.mR C [d]).2=0:=by
  refine Aj p ?_;rw[q,aP,z,t j 2 D ET];have:=hE.dep;simp only[q6];omega
 unfold cN.fX;rw[r];dsimp only;rw[aXf ET,aXf fun e=>e J]
def QI.yN (h:QI C E W P M) (m:∀i w:Nat,(i:Int)<C.aE->w<4->M.bN i w=[]) (t:∀l,l<C.aF->(M.aK l).1.aY=[]) (f:(i:Int)<C.aE):(M.aJ i).pY=false/\(M.aJ i).uF=false/\(M.aU i).eN=false:=by
 have g:=h.sq i f;refine⟨?_,?_,?_⟩;cases e:(M.aJ i).pY with
 |false=>rfl
 |true=>
  obtain⟨a,_,x,u,_⟩:=g.wq e;obtain⟨l,j⟩:=cb (show 0<=(M.aJ i).al by omega);have b:l<C.aF:=ER
  have o:vQ (M.aJ i) l:=⟨e,j⟩;by_cases q:oA E (W i) l;have hA:=((h.la i f l b).1 q).a;rw[fZ o,m i 0 f ET,m i 2 f ET,t l b] at hA;cases hA;exact absurd o ((h.la i f l b).2 q).a
 cases e:(M.aJ i).uF with
 |false=>rfl
 |true=>
  have v:=g.go e;obtain⟨l,j⟩:=cb v.1;have b:l<C.aF:=ER
  have p:jY (M.aJ i) l:=⟨e,j⟩;by_cases q:oA E (W i) l;have hG:=((h.la i f l b).1 q).g;rw[fZ p,m i 0 f ET,m i 2 f ET,t l b] at hG;cases hG;exact absurd p ((h.la i f l b).2 q).g
 cases e:(M.aU i).eN with
 |false=>rfl
 |true=>
  have r:=g.sB;rw[fZ e,m i 0 f ET,m i 2 f ET] at r;cases r
end Go.Qt
variable {j n:Nat} {v:Int} {b:Bool}
namespace Go.At
open Go.Hm Go.Is
def Pf {α:Type} {f:Nat->α} {a b:α}:bJ (bJ f i a) i b=bJ f i b:=by
 funext j;unfold bJ;split<;>rfl
theorem Wy {mem:Nat->Ln} {u:Nat}:iP (yV mem w v) u=if u=w then v else iP mem u:=by
 unfold iP yV bJ;by_cases e:u=w;subst e;simp;split<;>simp_all;rw[aXf e];by_cases h:u/2=w/2;rw[h,aXg rfl];by_cases b:u % 2=0<;>by_cases f:w % 2=0<;>simp_all<;>omega;simp[h]
def Gr (A:AM) (i:Nat):aT×Option (Nat×Int):=
 let s:=A.aC i
 let x:=hQ s.prog s.at'
 let u:=s.cX x.b.toNat
 let rd:=iP A.mem u.toNat
 if x.op=1 then((s.dL x.a x.b).iO<|s.at'+1,none)
 else if x.op=2 then((s.dL x.a<|wr<|s.cX x.b.toNat+s.cX x.c.toNat).iO<|s.at'+1,none)
 else if x.op=3\/x.op=4\/x.op=5 then
  if A.R2 s.bG u then(((if x.op=4 then s else s.dL x.a rd)).iO<|s.at'+1,if x.op=3 then none else some (u.toNat,s.cX x.a.toNat)) else(s.iO<|s.at'+1,none)
 else if x.op=9 then(s.iO x.a,none)
 else if x.op=10 then(s.iO<|if s.cX x.a.toNat=0 then x.b else s.at'+1,none)
 else(s.iO<|s.at'+1,none)
def Gt (mem:Nat->Ln):Option (Nat×Int)->Nat->Ln
 |none=>mem
 |some (w,v)=>yV mem w v
variable {A:AM}
def O6 (u:(i:Int)<A.fA.aE) (r:(A.aC i).over=false) (q:(hQ (A.aC i).prog (A.aC i).at').op≠8) (t:(A.aC i).bG≠0):
  (A.step (i:Int) b).1={A with aC:=bJ A.aC i (Gr A i).1,mem:=Gt A.mem (Gr A i).2}:=by
 unfold AM.step
 rw[aab,aP,aXf<|by rw[r];simp]
 dsimp only
 unfold AM.jJ AM.fV Gr AM.iO
 dsimp only
 generalize v:hQ (A.aC i).prog (A.aC i).at'=x at*
 by_cases g:x.op=1
 .simp[g,AM.kI,Pf,Gt,bR]
 by_cases j:x.op=2
 .simp[j,AM.kI,Pf,Gt,bR]
 by_cases l:x.op=3\/x.op=4\/x.op=5
 .simp only[aXf g,aXf j,aXg l];by_cases p:A.R2 (A.aC i).bG ((A.aC i).cX x.b.toNat)=true
  .simp only[p,e9];rcases l with e|e|e<;>simp[e,AM.kI,AM.oS,Pf,Gt,bR]
  .simp only[p];simp[AM.kI,Gt]
 by_cases m:x.op=7
 .simp[m,t,AM.kI,Gt]
 by_cases o:x.op=9
 .simp[o,AM.kI,Gt]
 by_cases f:x.op=10
 .simp[f,AM.kI,Gt]
 simp only[aXf g,aXf j,aXf l,aXf m,aXf q,aXf o,aXf f]
 simp[AM.kI,Gt]
def Ew (f:(A.aC i).over=true):(A.step (i:Int) b).1=A:=by
 unfold AM.step;split;rfl;rw[aP,aXg f]
structure Ht (A:AM):Prop where
 w:∀i j:Nat,(i:Int)<A.fA.aE->(j:Int)<A.fA.aE->i≠j->(A.aC i).bG≠(A.aC j).bG
 r:∀i:Nat,(i:Int)<A.fA.aE->(A.aC i).bG≠0
 nc:∀i:Nat,(i:Int)<A.fA.aE->∀k,(hQ (A.aC i).prog k).op≠8
 no:∀g,A.cK.getD g 0≠4
structure Lb (i:Nat) (A B:AM):Prop where
 fA:B.fA=A.fA
 oA:B.cK=A.cK
 gP:B.aC i=A.aC i
 mem:∀w,A.cK.getD (w/4) 0=(A.aC i).bG->iP B.mem w=iP A.mem w
theorem Lb.refl:Lb i A A:=⟨rfl,rfl,rfl,fun _ _=>rfl⟩
variable {B:AM}
def Lb.trans {D:AM} (h:Lb i A B) (k:Lb i B D):Lb i A D:=
 ⟨k.fA.trans h.fA,k.oA.trans h.oA,k.gP.trans h.gP,fun w e=>(k.mem w<|by rw[h.oA,h.gP];exact e).trans<|h.mem w e⟩
theorem Lb.symm (h:Lb i A B):Lb i B A:=
 ⟨h.fA.symm,h.oA.symm,h.gP.symm,fun w e=>(h.mem w<|by rw[<-h.oA,<-h.gP];exact e).symm⟩
def Jl:(Gr A i).1.bG=(A.aC i).bG/\(Gr A i).1.prog=(A.aC i).prog:=by
 unfold Gr;dsimp only;repeat' split
 all_goals exact⟨rfl,rfl⟩
theorem q8 (h:Ht A) (b:(i:Int)<A.fA.aE) {u:Int} (f:A.R2 (A.aC i).bG u=true):A.cK.getD (u.toNat/4) 0=(A.aC i).bG:=by
 unfold AM.R2 vE at f;have:=h.r i b;have:=h.no<|u.toNat/4;grind
def ug (h:Ht A) (f:(i:Int)<A.fA.aE) (b:(Gr A i).2=some (w,v)):A.cK.getD (w/4) 0=(A.aC i).bG:=by
 unfold Gr at b;dsimp only at b;repeat' split at b
 all_goals first
  |cases b
  |skip
 all_goals exact q8 h f ‹_›
def aJ8 (g:Ht A) (j:(i:Int)<A.fA.aE) (h:Lb i A B):Gr B i=Gr A i:=by
 unfold Gr;rw[h.gP];have e:∀a b,B.R2 a b=A.R2 a b:=fun a b=>by unfold AM.R2;rw[h.fA,h.oA]
 simp only[e];by_cases f:A.R2 (A.aC i).bG ((A.aC i).cX (hQ (A.aC i).prog (A.aC i).at').b.toNat)=true;rw[h.mem _<|q8 g j f];simp[f]
variable {m:Nat->Ln}
theorem aL2 (h:Ht A) {s:aT} (l:s.bG=(A.aC j).bG) (o:s.prog=(A.aC j).prog):Ht {A with aC:=bJ A.aC j s,mem:=m}:=by
 have f:∀k,(bJ A.aC j s k).bG=(A.aC k).bG:=fun k=>by unfold bJ;grind
 have g:∀k,(bJ A.aC j s k).prog=(A.aC k).prog:=fun k=>by unfold bJ;grind
 exact⟨fun a b x y z=>by show(bJ A.aC j s a).bG≠(bJ A.aC j s b).bG;rw[f,f];exact h.w a b x y z,fun a x=>by show(bJ A.aC j s a).bG≠0;rw[f];exact h.r a x,
    fun a x k=>by show(hQ (bJ A.aC j s a).prog k).op≠8;rw[g];exact h.nc a x k,h.no⟩
def aBz (h:¬(j:Int)<A.fA.aE):(A.step (j:Int) b).1=A:=by
 unfold AM.step;rw[aae]
def Nw (h:Ht A) (j:Nat) (b:Bool):(A.step (j:Int) b).1=A\/(j:Int)<A.fA.aE/\(A.aC j).over=false/\(A.step (j:Int) b).1={A with aC:=bJ A.aC j (Gr A j).1,mem:=Gt A.mem (Gr A j).2}:=by
 by_cases f:(j:Int)<A.fA.aE;cases ho:(A.aC j).over with
 |true=>exact .inl (Ew ho)
 |false=>exact .inr ⟨f,rfl,O6 f ho (h.nc j f _)<|h.r j f⟩
 exact .inl<|aBz f
def C5 (h:Ht A):Ht (A.step (j:Int) b).1:=by
 rcases Nw h j b with e|⟨_,_,e⟩<;>rw[e];exact h;exact aL2 h Jl.1 Jl.2
def a7 {o:Option (Nat×Int)} (h:∀u v,o=some (u,v)->u≠w):iP (Gt m o) w=iP m w:=by
 cases o with
 |none=>rfl
 |some p=>unfold Gt;rw[Wy,aXf fun e=>h p.1 p.2 rfl e.symm]
def zj (h:Ht A) (l:(i:Int)<A.fA.aE) (f:j≠i):Lb i A (A.step (j:Int) b).1:=by
 rcases Nw h j b with e|⟨g,_,e⟩<;>rw[e];exact Lb.refl;refine⟨rfl,rfl,eA fun e=>f e.symm,fun w o=>a7 fun u v m e=>?_⟩;subst e;have:=ug h g m;exact h.w j i g l f<|this.symm.trans o
def aCp (l:Ht A) (hb:Ht B) {m:Bool} (g:(i:Int)<A.fA.aE) (h:Lb i A B):Lb i (A.step (i:Int) b).1 (B.step (i:Int) m).1:=by
 have f:(i:Int)<B.fA.aE:=by rw[h.fA];exact g
 cases ho:(A.aC i).over with
 |true=>rw[Ew ho,Ew<|by rw[h.gP];exact ho];exact h
 |false=>
  rw[O6 g ho (l.nc i g _)<|l.r i g,O6 f (by rw[h.gP];exact ho) (hb.nc i f _)<|hb.r i f,aJ8 l g h];refine⟨h.fA,h.oA,by show bJ _ i _ i=bJ _ i _ i;rw[bR,bR],fun w j=>?_⟩;have j:A.cK.getD (w/4) 0=(A.aC i).bG:=by
   have e:(bJ A.aC i (Gr A i).1 i).bG=(A.aC i).bG:=by rw[bR];exact Jl.1
   exact j.trans e
  show iP (Gt B.mem _) w=iP (Gt A.mem _) w;cases(Gr A i).2 with
  |none=>exact h.mem w j
  |some p=>unfold Gt;rw[Wy,Wy,h.mem w j]
def aHe (h:Ht A) (l:∀i:Nat,(i:Int)<A.fA.aE->A.cK.getD (w/4) 0≠(A.aC i).bG):iP (A.step (j:Int) b).1.mem w=iP A.mem w:=by
 rcases Nw h j b with e|⟨f,_,e⟩<;>rw[e];exact a7 fun u v g e=>by subst e;exact l j f<|ug h f g
def N8 (A:AM) (i:Nat):Nat->AM
 |0=>A
 |k+1=>N8 (A.step (i:Int) false).1 i k
def Bt (A:AM) (K:Nat):Nat->AM
 |0=>A
 |n+1=>N8 (Bt A K n) n K
def vf {i:Nat}:∀{k:Nat} {A:AM},Ht A->Ht (N8 A i k)
 |0,_,h=>h
 |k+1,_,h=>vf (k:=k)<|C5 h
def J7:(A.step (j:Int) b).1.fA=A.fA:=aF3
def so {i:Nat}:∀{k:Nat} {A:AM},(N8 A i k).fA=A.fA
 |0,_=>rfl
 |k+1,_=>(so (k:=k)).trans J7
def Nx {i:Nat}:∀{k m:Nat} {A:AM},N8 A i (k+m)=N8 (N8 A i k) i m
 |0,m,A=>by rw[AQ];rfl
 |k+1,m,A=>by rw[show k+1+m=(k+m)+1 by omega];exact Nx (k:=k)
def Yr {i:Nat}:∀{k:Nat} {A:AM},(A.aC i).over=true->N8 A i k=A
 |0,_,_=>rfl
 |k+1,A,h=>by unfold N8;rw[Ew h];exact Yr h
def aGi {i:Nat}:∀{k:Nat} {A B:AM},Ht A->Ht B->(i:Int)<A.fA.aE->Lb i A B->Lb i (N8 A i k) (N8 B i k)
 |0,_,_,_,_,_,h=>h
 |k+1,_,_,b,f,g,h=>aGi (k:=k) (C5 b) (C5 f) (by rw[J7];exact g)<|aCp b f g h
def Bl {i j:Nat} (b:j≠i):∀{k:Nat} {A:AM},Ht A->(i:Int)<A.fA.aE->Lb i A (N8 A j k)
 |0,_,_,_=>Lb.refl
 |k+1,_,h,f=>(zj h f b).trans<|Bl b (k:=k) (C5 h)<|by rw[J7];exact f
def Dt {A:AM} {K:Nat} (h:Ht A):∀n,Ht (Bt A K n)
 |0=>h
 |n+1=>vf<|Dt h n
def Hy {A:AM} {K:Nat}:∀n,(Bt A K n).fA=A.fA
 |0=>rfl
 |n+1=>so.trans<|Hy n
def Qe {A:AM} {K i:Nat} (h:Ht A) (b:(i:Int)<A.fA.aE):∀n,n<=i->Lb i A (Bt A K n)
 |0,_=>Lb.refl
 |n+1,f=>(Qe h b n ER).trans<|Bl ER (Dt h n)<|by rw[Hy];exact b
def P1 {A:AM} {K i:Nat} (h:Ht A) (b:(i:Int)<A.fA.aE):∀d,Lb i (Bt A K<|i+1) (Bt A K<|i+1+d)
 |0=>Lb.refl
 |d+1=>(P1 h b d).trans<|Bl (by show i+1+d≠i;omega) (Dt h _)<|by rw[Hy];exact b
def aLb {K:Nat} (h:Ht A) (b:(i:Int)<A.fA.aE) (j:i<n):Lb i (N8 A i K) (Bt A K n):=by
 have g:Lb i (N8 A i K) (Bt A K<|i+1):=aGi h (Dt h i) b<|Qe h b i<|ba _;have f:=P1 (K:=K) h b<|n - (i+1);rw[show i+1+(n - (i+1))=n by omega] at f;exact g.trans f
def y9 (h:Ht A):(A.step (j:Int) b).1.cK=A.cK/\(A.step (j:Int) b).1.fA=A.fA/\∀k,((A.step (j:Int) b).1.aC k).bG=(A.aC k).bG/\((A.step (j:Int) b).1.aC k).prog=(A.aC k).prog:=by
 rcases Nw h j b with e|⟨_,_,e⟩<;>rw[e];exact⟨rfl,rfl,fun _=>⟨rfl,rfl⟩⟩;refine⟨rfl,rfl,fun k=>?_⟩;by_cases f:k=j;subst f;dsimp only;rw[bR];exact Jl;dsimp only;rw[eA f];exact⟨rfl,rfl⟩
def vW (w:Nat) (A:AM):Prop:=∀i:Nat,(i:Int)<A.fA.aE->A.cK.getD (w/4) 0≠(A.aC i).bG
def aEo (h:Ht A) (f:vW w A):vW w (A.step (j:Int) b).1/\iP (A.step (j:Int) b).1.mem w=iP A.mem w:=by
 have⟨e1,e2,e3⟩:=y9 h (j:=j) (b:=b);exact⟨fun i g=>by rw[e1,(e3 i).1];exact f i<|by rw[<-e2];exact g,aHe h f⟩
def aHm {w j:Nat}:∀{k:Nat} {A:AM},Ht A->vW w A->vW w (N8 A j k)/\iP (N8 A j k).mem w=iP A.mem w
 |0,_,_,f=>⟨f,rfl⟩
 |k+1,_,h,f=>have s:=aEo h (j:=j) (b:=false) f;have r:=aHm (k:=k) (C5 h) s.1;⟨r.1,r.2.trans s.2⟩
def Xi {w K:Nat} {A:AM} (h:Ht A) (b:vW w A):∀n,vW w (Bt A K n)/\iP (Bt A K n).mem w=iP A.mem w
 |0=>⟨b,rfl⟩
 |n+1=>have s:=Xi h b n;have r:=aHm (j:=n) (k:=K) (Dt h n) s.1;⟨r.1,r.2.trans s.2⟩
end Go.At
variable {k:Nat}
namespace Go.Qt
open Go.Hm Go.At Go.Is Go.Ct Go.Nt Go.Mc
variable {E:HR} {A0:AM}
section
variable {C:bT} {P:Nat->HO} {M M':cN} {F F':fI} {n:aI} {L:HM}
structure QR (C:bT) (E:HR) (W:Nat->Int) (P:Nat->HO) (A0:AM) (M:cN):Prop where
 qi:QI C E W P M
 lk:∀i:Nat,(i:Int)<C.aE->∃k:Nat,Lk C E (W i) i (N8 A0 i k) M/\(k:Int)<=(M.aC i).at'
 fr:∀l:Nat,l<C.aF->(∀i:Nat,(i:Int)<C.aE->¬oA E (W i) l)->(M.aK l).2=A0.mem l
theorem X5.lk (hE:QE C E W P) (h:QI C E W P M) (g:X5 C E (W i) i M M') (p:(i:Int)<C.aE) (q:(j:Int)<C.aE) (b:j≠i) {A:AM} (f:Lk C E (W j) j A M):Lk C E (W j) j A M':=
 ⟨f.fA,f.oA,by rw[g.aC j b];exact f.gP,fun l r o=>by
  rw[g.aJ j b,g.aK l fun m=>b<|hE.d j i q p<|o.symm.trans m];exact f.mem l r o⟩
def X5.mo (hE:QE C E W P) (h:QI C E W P M) (m:X5 C E (W i) i M M') (x:(i:Int)<C.aE) (o:(j:Int)<C.aE) (b:j≠i):mo C P M' j=mo C P M j:=by
 have g:=h.sq j o;have hH:∀l:Nat,l<C.aF->(vQ (M.aJ j) l\/jY (M.aJ j) l)->M'.aK l=M.aK l:=fun l y B=>by
  have p:oA E (W j) l:=hS fun z=>by
   have r:=(h.la j o l y).2 z;exact B.elim r.a r.g
  exact m.aK l fun q=>b<|hE.d j i o x<|p.symm.trans q
 unfold Qt.mo;rw[m.aC j b,m.aJ j b,m.aU j b,m.bN j b];have t:nR (M.aJ j) M'.aK (M.bN j 0)=nR (M.aJ j) M.aK (M.bN j 0):=by
  unfold nR;cases e:(M.aJ j).pY with
  |false=>rfl
  |true=>
   obtain⟨a,_,D,v,_⟩:=g.wq e;have f:(((M.aJ j).al.toNat:Nat):Int)=(M.aJ j).al:=ER
   rw[hH (M.aJ j).al.toNat ER<|.inl ⟨e,f.symm⟩]
 have u:zG (M.aJ j) M'.aK (M.bN j 0)=zG (M.aJ j) M.aK (M.bN j 0):=by
  unfold zG;cases e:(M.aJ j).uF with
  |false=>rfl
  |true=>
   have I:=g.go e;have f:(((M.aJ j).gl.toNat:Nat):Int)=(M.aJ j).gl:=ER
   rw[hH (M.aJ j).gl.toNat ER<|.inr ⟨e,f.symm⟩]
 rw[ms,ms,t,u]
def Mv.mu (hE:QE C E W P) (h:QI C E W P M) (m:(i:Int)<C.aE) (l:Mv C E W P i M M'):mu C P M'<mu C P M:=by
 have:=Yt (f:=Qt.mo C P M') (g:=Qt.mo C P M) (k:=i) (n:=C.aE.toNat) ER fun j o b=>l.Eg.mo hE h m ER b;have:=l.aQj;unfold Qt.mu;omega
def Mv.fr (hE:QE C E W P) (b:(i:Int)<C.aE) (f:Mv C E W P i M M') (g:∀i:Nat,(i:Int)<C.aE->¬oA E (W i) l):M'.aK l=M.aK l:=f.Eg.aK l<|g i b
def QR.sJ (hE:QE C E W P) (h:QR C E W P A0 M) (d:Do):((M.sJ C d).2≠0/\(M.sJ C d).1=M)\/((M.sJ C d).2=0/\QR C E W P A0 (M.sJ C d).1/\mu C P (M.sJ C d).1<mu C P M):=by
 rcases h.qi.sJ hE d with e|⟨e,i,g,hm⟩;exact .inl e;right;refine⟨e,?_⟩;generalize(M.sJ C d).1=M' at hm;have b:Mv C E W P i M M':=hm.elim (fun e=>⟨e.qi,e.Eg,e.aQj⟩) fun e=>⟨e.qi,e.Eg,e.aQj⟩;refine⟨⟨b.qi,fun j o=>?_,fun l q p=>by rw[b.fr hE g p];exact h.fr l q p⟩,b.mu hE h.qi g⟩;obtain⟨k,m,hle⟩:=h.lk j o;by_cases f:j=i;subst f;rcases hm with hm|hm;exact⟨k,m.qT hm,by rw[hm.aC];exact hle⟩;refine⟨k+1,?_,by have:=hm.on;omega⟩;rw[Nx];exact hm.lk m;exact⟨k,b.Eg.lk hE h.qi g o f m,by rw[b.Eg.aC j f];exact hle⟩
def QR.rnd (hE:QE C E W P) (h:QR C E W P A0 M) (d:Do):(oZ C (M,k) d=(M,k)/\(M.sJ C d).2≠0)\/(QR C E W P A0 (oZ C (M,k) d).1/\mu C P (oZ C (M,k) d).1<mu C P M/\k<(oZ C (M,k) d).2):=by
 unfold oZ;dsimp only;rcases h.sJ hE d with⟨b,l⟩|⟨b,g,j⟩;rw[aXg b,l];exact .inl ⟨rfl,b⟩;rw[aXf fun e=>e b];right;split;exact⟨g,j,AS _⟩;rcases g.sJ hE ⟨0,d.a,0,0⟩ with⟨f,m⟩|⟨f,o,p⟩;rw[aXf f,m];exact⟨g,j,AS _⟩;rw[aXg f];exact⟨o,FB,FB⟩
def QR.aNr (hE:QE C E W P):∀{l:HS} {M:cN} {k:Nat},QR C E W P A0 M->QR C E W P A0 (l.foldl (oZ C) (M,k)).1/\mu C P (l.foldl (oZ C) (M,k)).1<=mu C P M/\k<=(l.foldl (oZ C) (M,k)).2/\
  ((∃d∈l,(M.sJ C d).2=0)->mu C P (l.foldl (oZ C) (M,k)).1<mu C P M/\k<(l.foldl (oZ C) (M,k)).2)
 |[],M,k,h=>⟨h,ba _,ba _,fun⟨d,p,_⟩=>by cases p⟩
 |d::l,M,k,h=>by
  rw[CH];rcases h.rnd hE (k:=k) d with⟨e,g⟩|⟨f,j,m⟩;rw[e];have⟨a,b,c,q⟩:=QR.aNr hE (l:=l) (k:=k) h;refine⟨a,b,c,fun⟨x,t,o⟩=>q ⟨x,?_,o⟩⟩;rcases j2.1 t with e|e;subst e;exact absurd o g;exact e;generalize oZ C (M,k) d=r at f j m ⊢;obtain⟨v,u⟩:=r;dsimp only at f j m;have⟨a,b,c,_⟩:=QR.aNr hE (l:=l) (k:=u) f;exact⟨a,ER,ER,fun _=>⟨ER,ER⟩⟩
def aSm (h:QI C E W P M) (l:(i:Int)<C.aE):M.bN i 3=[]:=by
 obtain⟨N,j⟩:=h.mi;cases e:M.bN i 3 with
 |nil=>rfl
 |cons n L=>
  have g:n∈M.bN i 3:=by rw[e];exact ei
  have b:=j.bN.Ss i 3 n g;have f:=h.nk i 3 n g;have m:=xM b.1.mZ f;unfold qk at f;omega
def Jz (hc:(i:Int)<C.aE) (b:w<4) (h:M.bN i w≠[]):(⟨1,i,w,0⟩:Do)∈M.ready C:=by
 unfold cN.ready;refine cL.2<|.inl<|cL.2<|.inl<|cL.2<|.inr<|BG.2 ⟨i,k7.2 ER,gL.2 ⟨w,BB.2 ⟨k7.2 b,GK⟩,rfl⟩⟩
theorem QI.go (hE:QE C E W P) (h:QI C E W P M) (r:M.over C=false):∃d∈M.ready C,(M.sJ C d).2=0:=by
 by_cases p1:∃c:Nat,(c:Int)<C.aE/\M.bN c 1≠[];obtain⟨c,f,b⟩:=p1;obtain⟨n,L,g⟩:=AD b;exact⟨_,Jz f ET b,h.go1 f g⟩;by_cases x:∃c:Nat,(c:Int)<C.aE/\M.bN c 0≠[];obtain⟨c,f,b⟩:=x;obtain⟨n,L,g⟩:=AD b;exact⟨_,Jz f ET b,h.go0 hE f g⟩;have l1:∀c:Nat,(c:Int)<C.aE->M.bN c 1=[]:=fun c f=>hS fun e=>p1 ⟨c,f,e⟩;have l0:∀c:Nat,(c:Int)<C.aE->M.bN c 0=[]:=fun c f=>hS fun e=>x ⟨c,f,e⟩;by_cases y:∃c:Nat,(c:Int)<C.aE/\M.bN c 2≠[];obtain⟨c,f,b⟩:=y;obtain⟨n,L,g⟩:=AD b;exact⟨_,Jz f ET b,h.go2 hE f (l0 c f) (l1 c f) g⟩;have b:∀i w:Nat,(i:Int)<C.aE->w<4->M.bN i w=[]:=fun i w j m=>by
  have:w=0\/w=1\/w=2\/w=3:=ER
  rcases this with rfl|rfl|rfl|rfl;exact l0 i j;exact l1 i j;exact hS fun e=>y ⟨i,j,e⟩;exact aSm h j
 by_cases z:∃l,l<C.aF/\(M.aK l).1.aY≠[];obtain⟨l,q,m⟩:=z;have⟨hb,o⟩:=h.goB hE b q m;refine⟨⟨2,l,0,0⟩,?_,o⟩;unfold cN.ready;exact cL.2 (.inl<|cL.2<|.inr<|gL.2 ⟨l,BB.2 ⟨k7.2 q,by rw[hb];simpa using m⟩,rfl⟩);have m:∀l,l<C.aF->(M.aK l).1.aY=[]:=fun l b=>hS fun e=>z ⟨l,b,e⟩;obtain⟨i,j,v⟩:∃i:Nat,(i:Int)<C.aE/\(M.aC i).over=false:=AY fun D=>by
  have t:M.over C=true:=by
   unfold cN.over;have B:M.gf C=[]:=by
    unfold cN.gf;rw[AN];intro c f;rw[AN];intro w m;exact b c w (by have:=k7.1 f;omega)<|k7.1 m
   rw[B,c8 rfl,AJ,dn,lP,lP];refine⟨fun i j=>?_,fun l b=>c8<|m l<|k7.1 b⟩;have p:(i:Int)<C.aE:=by have:=k7.1 j;omega
   have o:=h.yN b m p;have:(M.aC i).over=true:=by
    cases e:(M.aC i).over with
    |true=>rfl
    |false=>exact absurd ⟨i,p,e⟩ D
   rw[this,o.1,o.2.2];rfl
  rw[t] at r;cases r
 refine⟨⟨0,i,0,0⟩,?_,?_⟩;unfold cN.ready;refine cL.2<|.inl<|cL.2<|.inl<|cL.2<|.inl<|gL.2 ⟨i,BB.2 ⟨k7.2 ER,?_⟩,rfl⟩;rw[v,show M.aY (i:Int)=false from Zx h];rfl;have o:=h.yN b m j;rcases h.step hE j (h.mi1 hE (d:=⟨0,i,0,0⟩)) with⟨_,_,u⟩|u;exact absurd ⟨b i 0 j ET,o.1,o.2.1,o.2.2,v⟩ u;exact u.1
def QR.round (hE:QE C E W P) (h:QR C E W P A0 M) (b:M.over C=false):QR C E W P A0 (M.round C).1/\mu C P (M.round C).1<mu C P M/\0<(M.round C).2:=by
 have⟨a,_,_,q⟩:=QR.aNr hE (l:=M.ready C) (k:=0) h;have q:=q<|h.qi.go hE b;exact⟨a,q.1,q.2⟩
def QR.Fw (hE:QE C E W P):∀{f k:Nat} {M:cN},QR C E W P A0 M->mu C P M<f->∃b M',M.Fw C f k=(b,M')/\QR C E W P A0 M'/\M'.over C=true
 |0,_,_,_,h=>ER
 |f+1,k,M,h,g=>by
  rw[cN.Fw];cases ho:M.over C with
  |true=>exact⟨k,M,rfl,h,ho⟩
  |false=>
   have⟨h1,h2,h3⟩:=h.round hE ho;rw[aXf zs,aXf fun e=>ER];exact QR.Fw hE (f:=f) (k:=k+1) h1 ER
def QR.jJ (hE:QE C E W P) (h:QR C E W P A0 M) (d:Do):QR C E W P A0 (M.sJ C d).1:=by
 rcases h.sJ hE d with⟨_,e⟩|⟨_,b,_⟩;rw[e];exact h;exact b
def aHi {f g:Nat->Nat}:∀{n:Nat},(∀i,i<n->f i<=16*g i+42)->vF f n<=16*vF g n+42*n
 |0,_=>ba _
 |n+1,h=>by
  have:=aHi (n:=n) (f:=f) (g:=g) fun i b=>h i ER;have:=h n ER;show vF f n+f n<=16*(vF g n+g n)+42*(n+1);omega
def QI.aTy (hE:QE C E W P) (h:QI C E W P M):mu C P M<1000*(2+vF (fun i=>(P i).length) C.aE.toNat):=by
 obtain⟨N,q⟩:=h.mi;have hC:=hE.ok;have:=aHi (f:=mo C P M) (g:=fun i=>(P i).length) (n:=C.aE.toNat) fun i J=>by
  have b:(i:Int)<C.aE:=ER
  have j:=h.sq i b;have x:=da (C:=C) (s:=M.aC i) (c:=M.aJ i) (k:=M.aU i);have y:nR (M.aJ i) M.aK (M.bN i 0)<=4:=by
   rcases V6 (H:=M.aK) j with⟨e,_⟩|⟨l,e,t⟩;omega;obtain⟨a,_,v,u,_⟩:=j.wq e.1;have m:l<C.aF:=FZ
   have p:oA E (W i) l:=hS fun o=>((h.la i b l m).2 o).a e;have hA:=((h.la i b l m).1 p).a;have:=uU (a:=vQ (M.aJ i) l);omega
  have z:zG (M.aJ i) M.aK (M.bN i 0)<=3:=by
   rcases jg (H:=M.aK) j with⟨e,_⟩|⟨l,e,t⟩;omega;have m:l<C.aF:=by have:=j.go e.1;have:=e.2;omega
   have p:oA E (W i) l:=hS fun o=>((h.la i b l m).2 o).g e;have hA:=((h.la i b l m).1 p).g;have:=uU (a:=jY (M.aJ i) l);omega
  have B:Sj (M.aU i) (M.bN i 0)<=4:=by
   have r:=j.sB;have:=uU (a:=(M.aU i).eN=true);unfold Sj;split;split<;>omega;omega
  have D:(M.bN i 1).length<=16:=by
   have:=q.bN.len i 1;have:=hC.2.2.2.2.1;omega
  have I:=(q.gP i b).1;show ms C (P i) (M.aC i) (M.aJ i) (M.aU i) M.aK (M.bN i 0) (M.bN i 1)<=_;unfold ms;omega
 have:=hC.1;unfold Qt.mu;omega
end
def Xh (p:HO):Prop:=∀a:Int,0<=a->a<p.length->((hQ p a).op=9->a<(hQ p a).a)/\((hQ p a).op=10->a<(hQ p a).b)
def lZ (os:EL):HR:=os.map fun o=>⟨o,false⟩
variable {ps:List (HO)}
variable {C:bT} {P:Nat->HO} {M M':cN} {ws os vs:EL}
def D1 {α:Type} {l:List α} {d:α} (h:i<l.length):l.getD i d∈l:=by
 rw[ay,aL h];exact sz _
theorem QE.lK (hC:C.Ok) (y:2<=C.eT) (I:ps.length=C.aE.toNat) (J:ws.length=C.aE.toNat) (f:os.length=C.bB.toNat) (m:∀w∈ws,0<=w/\w<=3) (q:∀o∈os,0<=o/\o<=4)
  (r:∀i:Nat,(i:Int)<C.aE->ws.getD i 0≠0) (t:∀o∈os,o≠4) (l:∀i j:Nat,(i:Int)<C.aE->(j:Int)<i->ws.getD j 0≠ws.getD i 0) (u:∀p∈ps,∀x∈p,x.op≠8) (v:∀p∈ps,Xh p):
  QE C (lZ os) (fun i=>ws.getD i 0) (fun i=>ps.getD i []):=by
 have B:=hC.1
 have D:=hC.2.1
 refine⟨hC,y,by unfold lZ;rw[js];omega,fun x g=>?_,fun x g=>?_,fun i b=>?_,fun i j b z e=>?_,fun i b a=>?_,fun i b=>v _<|D1 ER⟩
 .obtain⟨o,f,rfl⟩:=gL.1 g;have:=q o f;have:=t o f;show 0<=o/\o<=3;omega
 .obtain⟨o,f,rfl⟩:=gL.1 g;rfl
 .have:=m _ (D1 (d:=0)<|show i<ws.length by omega);have:=r i b;omega
 .rcases Nat.lt_trichotomy i j with h|h|h
  .exact absurd e (l j i z ER)
  .exact h
  .exact absurd e.symm (l i j b ER)
 .unfold hQ;by_cases e:a.toNat<(ps.getD i []).length
  .exact u _ (D1 ER) _ (D1 e)
  .rw[ay,l5 ER];show(0:Int)≠8;decide
def aPf {l:Int}:(pk C iJ.lK l).2≠0:=by
 unfold pk cI iJ.lK;split;show(10:Int)≠0;decide;show(12:Int)≠0;decide
def QR.lK (hE:QE C (lZ os) W P) (v:W=fun i=>ws.getD i 0) (hP:P=fun i=>ps.getD i []) (mi:eO C 0 (MC.lK ⟨C,ps,ws,os,vs⟩)):QR C (lZ os) W P (mr C ps ws os vs) (MC.lK ⟨C,ps,ws,os,vs⟩):=by
 have g:∀l:Nat,l<C.aF->((MC.lK ⟨C,ps,ws,os,vs⟩).aK l).1=G9:=fun l b=>by
  show((vH C.aF l).1:cU)=_;unfold vH;rw[aXg b]
 have m:∀l:Int,¬Qt.fY C iJ.lK l:=fun l=>aPf;have u:∀l:Int,¬vQ iJ.lK l:=fun l e=>by cases e.1
 have q:∀l:Int,¬jY iJ.lK l:=fun l e=>by cases e.1
 have p:∀l:Nat,val C iJ.lK ((MC.lK ⟨C,ps,ws,os,vs⟩).aK l) l=At.tO sU vs 0 l:=fun l=>by
  unfold val;rw[aXf<|m l,aXf<|q l];rfl
 refine⟨⟨⟨0,mi⟩,rfl,fun _=>rfl,fun i r=>by rw[v,hP];exact⟨rfl,rfl⟩,fun i r l b=>⟨fun z=>?_,fun z=>?_⟩,fun l b _=>by rw[g l b];rfl,fun i w n o=>(by cases o),fun i r=>?_⟩,fun i r=>⟨0,⟨rfl,?_,rfl,fun l b _=>(p l).symm⟩,by exact Int.le_refl 0⟩,fun l b _=>rfl⟩;have f:=g l b;have t:¬(-1:Int)=i:=ER
 refine⟨?_,?_,?_,?_,?_,?_,?_,?_,?_,fun e=>absurd e<|m l,fun e=>absurd e<|q l,?_,fun e=>GS,fun y j=>(by cases j)⟩;rw[f];show tk (vQ iJ.lK l)=_;rw[fP<|u l];rfl;rw[f];show tk (jY iJ.lK l)=_;rw[fP<|q l];rfl;rw[f];rfl;rw[f];show tk ((-1:Int)=i)=_+tk (Qt.fY C iJ.lK l)+_+_;rw[fP t,fP<|m l];rfl;rw[f];exact AK _;show tk (vQ iJ.lK l)+tk (Qt.fY C iJ.lK l)+tk (jY iJ.lK l)<=1;rw[fP<|u l,fP<|m l,fP<|q l];decide;rw[f];exact⟨rfl,(fun e=>GS),rfl,fun _=>rfl,.inr rfl⟩;rw[f];intro y j;cases j;rw[f];intro y j;rcases j with e|e<;>cases e;rw[f];intro y j;rcases j with e|e<;>cases e;exact⟨u l,q l,m l,⟨rfl,rfl⟩,rfl,⟨rfl,rfl⟩⟩;exact⟨fun x B=>(by cases B),rfl,rfl,fun e=>GS,fun n o=>(by cases o),fun n o=>(by cases o),fun e=>GS,fun e=>GS,fun e=>GS,fun e=>GS,fun l b=>absurd b<|m l⟩;show os=(lZ os).map iF.owner;unfold lZ;rw[BD];exact(List.map_id'' (fun _=>rfl) os).symm
def vh:(E.map iF.owner).getD w 0=(E.getD w mG).owner:=by
 rw[ay,gi,ay];cases E[w]?<;>rfl
def ve {m g:Nat->Ln} (b:iP m (2*l)=iP g (2*l)) (f:iP m (2*l+1)=iP g (2*l+1)):m l=g l:=by
 unfold iP at b f;rw[show 2*l % 2=0 by omega,show 2*l/2=l by omega] at b;rw[show(2*l+1) % 2=1 by omega,show(2*l+1)/2=l by omega] at f;exact Prod.ext b f
def QR.aW6 (hE:QE C E W P) (h:QR C E W P A0 M) (Q:M.over C=true) (x:Ht A0) (p:A0.fA=C) (D:A0.cK=E.map iF.owner) (S:∀i:Nat,(i:Int)<C.aE->(A0.aC i).bG=W i):
  (∀i:Nat,(i:Int)<C.aE->(Bt A0 100 C.aE.toNat).aC i=M.aC i)/\∀l:Nat,l<C.aF->
   (∀i:Nat,(i:Int)<C.aE->Qt.fY C (M.aJ i) l->(pk C (M.aJ i) l).1.d=(Bt A0 100 C.aE.toNat).mem l)/\
   ((∀i:Nat,(i:Int)<C.aE->¬Qt.fY C (M.aJ i) l)->(M.aK l).2=(Bt A0 100 C.aE.toNat).mem l):=by
 obtain⟨N,R⟩:=h.qi.mi
 rw[cN.over,dn,dn] at Q
 obtain⟨⟨U,V⟩,X⟩:=Q
 have T:∀i:Nat,(i:Int)<C.aE->(M.aC i).over=true:=fun i b=>by
  have:=lP.1 V i<|k7.2 ER;simp at this;exact this.1.1
 have q:∀l,l<C.aF->(M.aK l).1.aY=[]:=fun l u=>eo<|lP.1 X l<|k7.2 u
 have u:∀i w:Nat,(i:Int)<C.aE->w<4->M.bN i w=[]:=fun i w b q=>by
  have J:=eo U;unfold cN.gf at J;exact AN.1 (AN.1 J i<|k7.2 ER) w<|k7.2 q
 have I:∀i l:Nat,(i:Int)<C.aE->¬jY (M.aJ i) l:=fun i l b e=>by
  have:=(h.qi.yN u q b).2.1;rw[e.1] at this;cases this
 have r:∀i:Nat,(i:Int)<C.aE->(Bt A0 100 C.aE.toNat).aC i=M.aC i/\∀l:Nat,l<C.aF->oA E (W i) l->(Bt A0 100 C.aE.toNat).mem l=val C (M.aJ i) (M.aK l) l:=fun i b=>by
  obtain⟨k,t,hle⟩:=h.lk i b;have y:k<=100:=by have:=(R.gP i b).2.1;omega
  have B:((N8 A0 i k).aC i).over=true:=by rw[t.gP];exact T i b
  have e:N8 A0 i 100=N8 A0 i k:=by
   rw[show(100:Nat)=k+(100 - k) by omega,Nx,Yr B]
  have g:Lb i (N8 A0 i k) (Bt A0 100 C.aE.toNat):=e▸aLb (K:=100) x (by rw[p];exact b) ER;refine⟨g.gP.trans t.gP,fun l u f=>?_⟩;rw[<-t.mem l u f];have o:∀w:Nat,w/4=l/2->(N8 A0 i k).cK.getD (w/4) 0=((N8 A0 i k).aC i).bG:=fun w q=>by
   rw[t.oA,vh,t.gP,(h.qi.gP i b).1,q];exact f
  exact ve (g.mem _<|o _ ER)<|g.mem _<|o _ ER
 refine⟨fun i b=>(r i b).1,fun l j=>⟨fun i b O=>?_,fun z=>?_⟩⟩
 .have f:oA E (W i) l:=hS fun z=>((h.qi.la i b l j).2 z).h O;rw[(r i b).2 l j f,tu O]
 .by_cases v:∃i:Nat,(i:Int)<C.aE/\oA E (W i) l
  .obtain⟨i,b,f⟩:=v;rw[(r i b).2 l j f];unfold val;rw[aXf<|z i b,aXf<|I i l b]
  .have v:∀i:Nat,(i:Int)<C.aE->¬oA E (W i) l:=fun i b e=>v ⟨i,b,e⟩;rw[h.fr l j v];have m:∀w:Nat,w/4=l/2->vW w A0:=fun w q i b=>by
    rw[D,vh,S i<|by rw[<-p];exact b,q];exact v i (by rw[<-p];exact b)
   exact ve (Xi x (m _ ER) _).2.symm (Xi x (m _ ER) _).2.symm
def Ht.lK (hE:QE C (lZ os) W P) (l:W=fun i=>ws.getD i 0) (hP:P=fun i=>ps.getD i []):Ht (mr C ps ws os vs):=by
 subst l hP;refine⟨fun i j b o f e=>f<|hE.d i j b o e,fun i b e=>?_,fun i b k=>hE.nc i b k,fun g e=>?_⟩;have:=hE.w i b;have e:ws.getD i 0=0:=e;omega;have e:os.getD g 0=4:=e;by_cases m:g<os.length;have:=hE.oA ⟨os.getD g 0,false⟩<|gL.2 ⟨os.getD g 0,D1 m,rfl⟩;dsimp only at this;omega;rw[ay,l5 ER] at e;cases e
end Go.Qt
variable {P:Program} {L L':HL} {sl:List (Nat×Nat×Nat)} {M:List (HT)} {c cs:EK} {e:TypeId} {a:EN} {cap:Nat}
namespace Go.Ab
variable {G:Bg} {h:AH}
def Bat (P:Program) (h:AH) (σ:Sg) (s:Nat×Nat×Nat) (c:EK):Prop:=
 ∃b e z x,h.get s.1=some (.cells b e z x)/\Rcs σ c ((b.drop s.2.1).take c.length)/\s.2.1+c.length+s.2.2*P.cellsOf e<=b.length
def aFm (P:Program) (h:AH) (σ:Sg):List (Nat×Nat×Nat)->List (HT)->Prop
 |_,[]=>True
 |_::b,none::M=>aFm P h σ b M
 |s::b,some c::M=>Bat P h σ s c/\aFm P h σ b M
 |[],_::_=>False
def aFm.at {σ:Sg}:∀{M:List (HT)} {sl:List (Nat×Nat×Nat)} {i:Nat} {c:EK},aFm P h σ sl M->M[i]?.join=some c->Bat P h σ (sl.getD i (0,0,0)) c:=by
 intro M;induction M with
 |nil=>intro sl i c _ e;simp at e
 |cons x M b=>
  intro sl i c k e;cases sl with
  |nil=>cases x<;>exact False.elim k
  |cons s sl=>
   cases i with
   |zero=>
    cases x with
    |none=>simp at e
    |some y=>simp at e;subst e;exact k.1
   |succ i=>
    cases x with
    |none=>exact b (sl:=sl) k GY
    |some y=>exact b (sl:=sl) k.2 GY
noncomputable def eAt (h:AH) (b:Nat):TypeId×(Nat×Nat):=match h.get b with
 |some (.cells _ e z _)=>(e,z)
 |_=>(0,(0,0))
def Vt {g:Nat} (k:aFm P h (fun i=>sl.getD i (0,0,0)) sl M) (f:(M.all fun x=>(x.getD []).all<|okV<|isT g M)=true) (l:P.globals.size<=g/\g<=M.length) (b:∀i,i<g->sl.getD i (0,0,0)=(i,0,0)):
  Js P g (fun i=>sl.getD i (0,0,0)) M (fun i=>(eAt h (sl.getD i (0,0,0)).1).1) (fun i=>(eAt h (sl.getD i (0,0,0)).1).2) h where
 oP:=fun i c e=>by
  have⟨ch,e,z,x,h1,h2,h3⟩:=k.at e;have j:eAt h (sl.getD i (0,0,0)).1=(e,z):=by rw[eAt];rw[h1]
  simp only[j];exact⟨ch,x,h1,h2,h3⟩
 ok:=f
 pO:=l
 gs:=b
def Ff {σ:Sg}:∀{l u:EK},Rcs σ l u->l.length=u.length
 |[],[],_=>rfl
 |_::_,_::_,⟨_,k⟩=>eb (·+1) (Ff k)
 |[],_::_,k=>k.elim
 |_::_,[],k=>k.elim
def Std (P:Program) (h:AH) (s:Nat×Nat×Nat) (c:EK):Prop:=∀{σ:Sg} {b:EK},Rcs σ b c->Bat P h σ s b
def Il {b:Nat} (j:Hs G h L) (g:Ob G b c):Std P h (b,0,0) c:=fun f=>by
 have⟨e,z,x,hg⟩:=g.get;exact⟨c,e,z,x,(j.W6 g.lt).trans hg,by rwa [kt,Ff f,AG],by have:=Ff f;simp;omega⟩
def aIm {b:EK} {o:Nat} (g:o+c.length<=b.length) (hc:∀j,j<c.length->b[o+j]?=c[j]?):(b.drop o).take c.length=c:=by
 refine mn fun j=>?_;by_cases f:j<c.length;rw[v7 f,x4,hc j f];rw[l5 EW,l5 ER]
def vG {b o:Nat} (l:Hs G h L) [m:dH (aG b o) L c L'] (f:0<c.length):Std P h (b,o,0) c:=fun g=>by
 have⟨_,ch,e,x,hg,hle,hall⟩:=(m.of l).cells f;have j:=Ff g;exact⟨ch,e,_,x,hg,by rwa [j,aIm hle hall],by show o+_+0*_<=_;omega⟩
def vI {W:Nat} (t:Hs G h L) [m:dH (dJ W e a cap) L (n,cs) L'] (v:0<n) (q:P.cellsOf e=W):
  ∃b o sp,a=some ⟨b,o,none⟩/\cap=sp+n/\Std P h (b,o,sp) cs:=by
 have⟨r,r2,⟨hl,hc,hr⟩,hr2,hd,hi1,hi2⟩:=(m.of t).fst
 rcases hr with⟨u,_⟩|⟨u,_⟩|⟨f,b,g,l,ex,rfl,hle,rfl⟩
 .omega
 .omega
 obtain⟨sp,rfl⟩:=Nat.exists_eq_add_of_le' f
 have⟨_,hg⟩:=Eo hi1 hi2
 refine⟨b,g.length,sp,rfl,rfl,fun {σ p} j=>⟨_,e,_,ex,hg,?_,?_⟩⟩
 .rwa [Ff j,dx,EH,EF]
 .show g.length+p.length+sp*_<=_;rw[q,Ff j,hl];rw[BV] at hle;omega
def Yw {W:Nat} (p:Hs G h L) [m:dH (dJ W e a cap) L (0,cs) L']:(a=none/\cap=0)\/∃g,a=some g:=by
 obtain⟨r,v,⟨u,t,l⟩,_⟩:=(m.of p).fst;rcases l with⟨_,_,j,rfl|⟨b,o,rfl⟩⟩|⟨_,_,b,o,cs,rfl,_⟩|⟨_,b,q,f,ex,rfl,_⟩;exact .inl ⟨rfl,j⟩;exact .inr ⟨_,rfl⟩;exact .inr ⟨_,rfl⟩;exact .inr ⟨_,rfl⟩
theorem aOb {W:Nat} {x:Bool} (f:Hs G h L) (b:c.length=n*W) (hb:c.all gA=true):Hs G (h.alloc<|.cells c e (0,0) x) (dJ W e (some ⟨h.next,0,none⟩) n (n,c)::L):=
 Hs.join (A:=[_,_]) (f.lK (c:=c) (e:=e) (x:=x)) fun r g=>⟨b,hb,.inr<|.inr ⟨ba _,_,[],[],x,rfl,by simp[b],by grind [sL]⟩⟩
def Mf {α:Type} {enc:α->EK} {W:Nat} {l:List α} (j:Hs G h L) [m:dH (ls enc W e a cap) L l L'] (f:0<l.length) (g:P.cellsOf e=W):
  ∃b o sp,a=some ⟨b,o,none⟩/\cap=sp+l.length/\Std P h (b,o,sp) (eL enc l):=vI (n:=l.length) (show Hs G h (dJ W e a cap (l.length,eL enc l)::L') from m.of j) f g
end Go.Ab
variable {g o q:List (Option IntKind)} {spare:Nat->Bool} {gl:Nat->HW} {t:TypeId}
namespace Go.Ab
open Go.RowKit Go.ChangeShapes Go.WideShapes Go.ChangeAt
variable {H:Type} {enc:TypeId×Value->H} {w:World} {base:Nat} {held:Bool}
def aJq {ρ:jB} {v:Value}:aZ ρ Yb v:=by simp[Yb,aZ]
def rq {ρ:jB}:∀{l f:EK},l.length=f.length->(∀(j:Nat) (u v:Value),l[j]?=some u->f[j]?=some v->aZ ρ u v)->bH ρ l f
 |[],[],_,_=>bH.nil
 |u::l,v::f,h,k=>bH.cons (k 0 u v rfl rfl) (rq GK fun j a b g m=>k (j+1) a b (by simpa using g)<|by simpa using m)
 |[],_::_,h,_=>by simp at h
 |_::_,[],h,_=>by simp at h
def aQ7 (P:Program) (w:World) (ρ:jB) (r:OB):Prop:=
 (∀o,r.1=some o->∀b s,r.2=some (b,s)->∃f,w.heap[b]?=some f/\wP P ρ s o f)/\(∀b s,r.2=some (b,s)->b<w.heap.size)
def xw.at' {r:OB} (h:xw P w r) (ρ:jB):aQ7 P w ρ r:=⟨fun o l b s j=>let⟨m,f,g⟩:=h.1 o l b s j;⟨m,f,g ρ⟩,h.2⟩
def wo {g:Nat} {rs:List OB} (t:P.globals.size<=g) (q:g<=w.heap.size) (l:aRd P g gl w) (p:∀r∈rs,aQ7 P w (Gg g rs) r):Uz P (g+rs.length) (Lw g gl rs) (Gg g rs) w where
 oP:=fun i o m j b s f=>by
  rw[Lw] at j;rw[Gg] at f;split at j;rename_i h;rw[aXg h] at f;cases f;have⟨o',h1,h2⟩:=l i o h j;exact⟨o',h1,h2 _⟩;rename_i h;rw[aXf h] at f;rw[aL ER] at j f;exact(p _<|sz ER).1 o j b s f
 low:=fun i b s m f=>by
  rw[Gg] at f;split at f;cases f;omega;rw[aL ER] at f;exact(p _<|sz ER).2 b s f
 none:=fun i m=>by rw[Gg,aab,l5 ER];rfl
 pO:=fun i m=>by rw[Gg,aae]
def Jm (j:List (Option IntKind)) (w:World) (a:EN) (len cap:Nat):Prop:=
 (a=none/\len=0/\cap=0)\/(∃x,a=some x/\len=0)\/
 ∃x cc e g,a=some x/\0<len/\x.spot=none/\len<=cap/\w.heap[x.block]?=some (.cells cc e g)/\x.off+len<=cc.size/\
  ∀i,i<len->∃f b c',cc.toList[x.off+i]?=some (.slice f b c')/\oL j w f b c'/\b<=maxLen
variable {e2:TypeId} {x:DataW H×List MemPlace}
def aAt {fuel:Nat} (ht:P.underlying t=some (.slice e)) (R:P.underlying e=some (.slice e2)) (Z:vU P n e2=some q) (D:P.cellsOf e2=q.length) (hc:P.cellsOf e=1) (Y:0<q.length)
  (h:DataW.trod enc P w base spare held fuel t cs=some x):∃a len g,cs=[.slice a len g]/\len<=maxLen/\Jm q w a len g:=by
 rcases DW ht h with⟨rfl,_⟩|⟨a,len,g,elems,rest,m,_,rfl,_,v,hl,hm,S,I,_,_⟩
 .exact⟨none,0,0,rfl,AK _,.inl ⟨rfl,rfl,rfl⟩⟩
 refine⟨some a,len,g,rfl,ER,?_⟩
 rcases AW len with z|z
 .exact .inr (.inl ⟨a,rfl,z⟩)
 refine .inr<|.inr ?_
 have each:∀i,i<len->∃f b c',w.cell? (a.add i)=some (.slice f b c')/\oL q w f b c'/\b<=maxLen:=by
  intro i J;have p:=I i J;rw[aL ER,hc,BH] at p;obtain⟨c,j,T⟩:=p;have⟨f,b,c',hce,hr⟩:=Kd R Z D Y T;subst hce;refine⟨f,b,c',?_,hr,?_⟩;rotate_left;rcases DW R T with⟨B,_⟩|⟨a2,U,Q,_,_,_,_,B,_,_,β,γ,_⟩;cases B;exact AK _;cases B;omega;rw[World.cells?] at j;split at j;have:=mapM_some_get j 0 0 EV;rw[EG] at this;have X:(a.add i).add 0=a.add i:=rfl;rw[X] at this;simpa using this;cases j
 have⟨a0,l0,c0,h00,hr0⟩:=each 0 z
 obtain⟨cc,V,r,v,y⟩:∃cc e r,w.heap[a.block]?=some (.cells cc e r)/\a.spot=none:=by
  have O:a.add 0=a:=rfl;rw[O] at h00;rw[World.cell?] at h00;split at h00;rename_i c e r v;split at h00;cases h00;rename_i y;exact⟨c,e,r,v,by simpa using y⟩;cases h00
 have l:∀o,w.cell? ⟨a.block,o,none⟩=cc[o]?:=by
  intro o;rw[World.cell?];rw[v];simp
 have u:∀i,i<len->∃f b c',cc.toList[a.off+i]?=some (.slice f b c')/\oL q w f b c'/\b<=maxLen:=by
  intro i J;have⟨f,b,c',p,h2⟩:=each i J;rw[mh y,l] at p;exact⟨f,b,c',by rwa [AF],h2⟩
 refine⟨a,cc,V,r,rfl,z,y,hl,v,?_,u⟩
 have⟨f,b,c',p,_⟩:=u (len - 1) ER
 have:=(eh.1 p).1
 simp at this
 omega
variable {fs:Array Field} {d:DataW H} {p:List MemPlace}
def Q4 {W:World} {f:Field} {l:EK} (r:P.underlying t=some (.struct fs)) (g:fs[i]?=some f) (q:vU P n f.type=some o)
  (h:DataW.Trod enc P W 0 (fun _=>true) true t (.agg ⟨l⟩) d p):pI o ((l.drop f.offset).take<|P.cellsOf f.type):=by
 obtain⟨fuel,b⟩:=h
 have⟨xs,m,_,_,hl,hx,hall⟩:=BT r b
 have j:=hall i f g
 rw[aL<|by rw[hx];exact(fj.1 g).1] at j
 simpa [Value.cells] using(S5 n q j)
def Pb {W:World} {f:Field} {l:EK} (B:P.underlying t=some (.struct fs)) (q:fs[i]?=some f)
  (D:P.underlying f.type=some (.slice e)) (o:P.underlying e=some (.slice e2)) (v:P.cellsOf f.type=1) (x:P.cellsOf e=1) (y:vU P n e2=some g) (hc:P.cellsOf e2=g.length) (u:0<g.length)
  (h:DataW.Trod enc P W 0 (fun _=>true) true t (.agg ⟨l⟩) d p):∃a len b,l[f.offset]?=some (.slice a len b)/\len<=maxLen/\Jm g W a len b:=by
 obtain⟨fuel,j⟩:=h
 have⟨xs,m,_,_,hl,hx,hall⟩:=BT B j
 have r:=hall i f q
 rw[aL<|by rw[hx];exact(fj.1 q).1] at r
 have⟨a,len,b,hcs,hm,hr⟩:=aAt D o y hc x u r
 refine⟨a,len,b,?_,hm,hr⟩
 rw[v] at hcs
 have:=eb (fun z=>z[0]?) hcs
 simpa [Value.cells] using this
structure aSw (P:Program) (w:World) (ks:List (Option IntKind)) (k0:Nat) (a:EN) (len cap:Nat) (r:OB) (rs:List OB) (t:Nat->Value) (vs:EK) (ns:EM) (at':Nat->Nat->EK):Prop where
 ok:∀x∈rs,xw P w x
 out:∀ρ:jB,(∀i x,rs[i]?=some x->ρ (k0+i)=x.2)->aQ7 P w ρ r
 rel:∀ρ k,ρ k=r.2->aZ ρ (t k) (.slice a len cap)
 lvs:vs.length=len
 bN:ns.length=len
 aW5:∀i n,ns[i]?=some n->∀j,j<n->pI ks (at' i j)
 old:∀(G:Bg) k,k<G.base->G.old k=r.1->(∀i x,rs[i]?=some x->k0+i<G.base/\G.old (k0+i)=x.1)->
  wM G 1 (t k) len (fun i=>[vs.getD i undef])/\aDh G (t k) len/\∀i v n,vs[i]?=some v->ns[i]?=some n->wM G ks.length v n (at' i)/\aDh G v n
 nl:∀(i n:Nat),ns[i]?=some n->n<=maxLen
def aFy (P:Program) {D:List (Option IntKind)} {len:Nat} (B:Nat) (h:Jm D w a len cap):∃r rs t vs ns at',aSw P w D B a len cap r rs t vs ns at':=by
 rcases h with⟨rfl,rfl,rfl⟩|⟨x,rfl,rfl⟩|⟨x,cc,e,R,rfl,h0,hs,hl,V,β,hf⟩;exact⟨(none,none),[],fun _=> .slice none 0 0,[],[],fun _ _=>[],⟨fun x U=>(by cases U),fun ρ _=>⟨fun o h=>EY,fun b s h=>EY⟩,fun ρ k _=>EZ,rfl,rfl,fun i n l=>(by simp at l),fun G k _ _ _=>⟨⟨none,0,rfl,fun i f=>ER⟩,.inl ⟨rfl,rfl⟩,fun i v n p=>(by simp at p)⟩,fun i n l=>(by simp at l)⟩⟩;refine⟨(none,none),[],fun _=> .slice (some ⟨0,0,some 0⟩) 0 0,[],[],fun _ _=>[],⟨fun x U=>(by cases U),fun ρ _=>⟨fun o h=>EY,fun b s h=>EY⟩,fun ρ k _=>?_,rfl,rfl,fun i n l=>(by simp at l),fun G k _ _ _=>⟨⟨some ⟨0,0,some 0⟩,0,rfl,fun i f=>ER⟩,.inr<|.inl ⟨rfl,rfl⟩,fun i v n p=>(by simp at p)⟩,fun i n l=>(by simp at l)⟩⟩;simp only[aZ];exact⟨trivial,trivial,x,cap,fun h=>ER,fun h=>ER,rfl⟩;have J:∀i,∃(y:OB×(Nat->Value)×(Nat->EK)×Nat×Value),i<len->cc.toList[x.off+i]?=some y.2.2.2.2/\xw P w y.1/\(∀ρ k,ρ k=y.1.2->aZ ρ (y.2.1 k) y.2.2.2.2)/\(∀j,j<y.2.2.2.1->pI D (y.2.2.1 j))/\
   (∀(G:Bg) k,k<G.base->G.old k=y.1.1->wM G D.length (y.2.1 k) y.2.2.2.1 y.2.2.1/\aDh G (y.2.1 k) y.2.2.2.1)/\y.2.2.2.1<=maxLen:=by
  intro i
  by_cases f:i<len
  .have⟨a',l',c',q,S,h9⟩:=hf i f;have⟨r,t,h3,h4,at',h5,h6⟩:=Dh P S;exact⟨(r,t,at',l',.slice a' l' c'),fun _=>⟨q,h3,h4,h5,h6,h9⟩⟩
  .exact⟨((none,none),fun _=>undef,fun _=>[],0,undef),fun h=>absurd h f⟩
 have⟨Y,hY⟩:∃Y:Nat->OB×(Nat->Value)×(Nat->EK)×Nat×Value,∀i,i<len->cc.toList[x.off+i]?=some (Y i).2.2.2.2/\xw P w (Y i).1/\(∀ρ k,ρ k=(Y i).1.2->aZ ρ ((Y i).2.1 k) (Y i).2.2.2.2)/\(∀j,j<(Y i).2.2.2.1->pI D ((Y i).2.2.1 j))/\
   (∀(G:Bg) k,k<G.base->G.old k=(Y i).1.1->wM G D.length ((Y i).2.1 k) (Y i).2.2.2.1 (Y i).2.2.1/\aDh G ((Y i).2.1 k) (Y i).2.2.2.1)/\(Y i).2.2.2.1<=maxLen:=
  ⟨fun i=>(J i).choose,fun i f=>(J i).choose_spec f⟩
 have m:∀{α:Type} (g:Nat->α) (i:Nat) (z:α),((List.range len).map g)[i]?=some z->i<len/\z=g i:=by
  intro α g i z Q;have f:i<len:=by have:=(eh.1 Q).1;simpa using this
  rw[gi,nh f] at Q;simp[l4,Option.some.injEq] at Q;exact⟨f,Q.symm⟩
 refine⟨(some<|.cells ((List.range cc.size).map fun j=>if x.off<=j/\j<x.off+len then(Y<|j - x.off).2.1 (B+(j - x.off)) else Yb) e R false,some (x.block,(0,0))),(List.range len).map fun i=>(Y i).1,fun k=> .slice (some ⟨k,x.off,none⟩) len cap,
     (List.range len).map fun i=>(Y i).2.1<|B+i,(List.range len).map fun i=>(Y i).2.2.2.1,fun i=>(Y i).2.2.1,⟨?_,?_,?_,EV,EV,?_,?_,fun i n l=>?_⟩⟩
 intro y hy;obtain⟨i,f,rfl⟩:=gL.1 hy;exact(hY i<|k7.1 f).2.1;intro ρ hρ;refine⟨fun o ho b s O=>?_,fun b s O=>?_⟩;cases ho;cases O;refine⟨_,V,cc,rfl,?_,EV,fun h=>EY⟩;rw[kt,e8 EV];refine rq EV fun j u v T p=>?_;rw[gi,nh<|by simpa using((eh.1 p).1)] at T;simp[l4,Option.some.injEq] at T;subst T;split;have⟨q,_,h3,_,_⟩:=hY (j - x.off) ER;rw[show x.off+(j - x.off)=j by omega,p] at q;simp[Option.some.injEq] at q;rw[q];refine h3 ρ _<|hρ (j - x.off) _ ?_;rw[gi,nh ER];rfl;exact aJq;cases O;exact(fj.1 V).1;intro ρ k O;exact⟨x.block,(0,0),cap,O,ba _,EV,by cases x;subst hs;rfl⟩;intro i n l j hj;obtain⟨f,rfl⟩:=m _ i n l;exact(hY i f).2.2.2.1 j hj;intro G k Z X I;refine⟨⟨_,_,rfl,fun i f=>⟨k,x.off,_,rfl,⟨Z,e,R,false,X⟩,?_,EW⟩⟩,.inr<|.inr ⟨k,x.off,cap,_,e,R,rfl,h0,hl,Z,X⟩,fun i v n p l=>?_⟩;rw[k9 EW,BF,EI];have e1:((List.range len).map fun i=>(Y i).2.1<|B+i).getD i undef=(Y i).2.1 (B+i):=by
  rw[ay,gi,nh f];rfl
 show[_]=[((List.range len).map fun i=>(Y i).2.1<|B+i).getD i undef];rw[e1];simp only[List.getElem_map,DH];rw[aae,show x.off+i*1 - x.off=i by omega];obtain⟨f,rfl⟩:=m _ i v p;obtain⟨_,rfl⟩:=m _ i n l;obtain⟨q,S⟩:=I i (Y i).1 (by rw[gi,nh f];rfl);exact(hY i f).2.2.2.2.1 G (B+i) q S;obtain⟨f,rfl⟩:=m _ i n l;exact(hY i f).2.2.2.2.2
end Go.Ab
namespace Go.Ab
variable {K:FuncId->EK->HQ} {G:Bg} {h:AH} {M:HL}
def aEs {W c:Nat} (y:Hs G h (dJ W e a c (n,cs)::L)) (z:0<n):n<=c/\∃b o x,a=some ⟨b,o,none⟩/\qU h b=some x:=by
 obtain⟨r,O,⟨J,D,u⟩,v,I,t,j⟩:=y.fst;rcases u with⟨l,_⟩|⟨l,_⟩|⟨f,b,m,p,ex,rfl,hle,g⟩;simp at l;omega;simp at l;omega;simp only at g;subst g;obtain⟨B,q⟩:=Eo t j;exact⟨f,b,m.length,ex,rfl,by simp only[qU,q]⟩
variable {α:Type} {enc:α->EK} {W:Nat} [F:Fx enc W]
end Go.Ab
variable {f:FuncId} {Q:Value->AH->Prop}
namespace Go.Ab
open Go.Ct
variable {K:FuncId->EK->HQ} {G:Bg} {h:AH} {M:HL}
instance:Fx C0 5:=⟨fun _=>rfl,fun _=>rfl⟩
def aJh {W:Nat} {n:Int} (b:K f [.slice none 0 0,I n]=some (.Aa<|Lh e n)) (o:0<=n) (p:n<=1000) (j:Hs G h L)
  (g:∀a h',Hs G h' (dJ W e a 0 (0,[])::L)->Q (.slice a 0 0) h'):Cl P K f [.slice none 0 0,I n] h Q:=by
 by_cases l:n=0
 .exact uL b (by unfold Lh;rw[aXg l]) (g none h<|iY j)
 .refine uL b (by unfold Lh;rw[aXf l,aae]) (g _ _ ?_);have:=j.lK (c:=[]) (e:=e) (x:=false);refine Hs.join (A:=[_,_]) this fun r m=>?_;refine⟨EV,rfl,.inr<|.inl ⟨rfl,rfl,h.next,0,[],rfl,ba _,?_⟩⟩;simpa using sL m
def aJk {b o c:Nat} {l:HN} {args:EK} (B:K f args=some (.Aa<|Iq b o n)) (q:l.length=n) (S:0<n) (hle:n<=1000) (I:Mp l=true)
  (u:Hs G h (ls C0 5 e (some ⟨b,o,none⟩) c l::L)) (J:∀h',Hs G h' (ls C0 5 e (some ⟨b,o,none⟩) c (qO l)::L)->Q (.tuple ⟨[]⟩) h'):Cl P K f args h Q:=by
 have g:(qO l).length=l.length:=(nE l).length_eq
 have u:Hs G h (dJ 5 e (some ⟨b,o,none⟩) c (l.length,dM l)::L):=u
 obtain⟨R,U,D,m⟩:=u.gF ER
 cases D
 have O:dE h ⟨b,o,none⟩ (n*5)=some (dM l):=by
  obtain⟨v,y,rfl⟩:=aX (b:=b) (o:=o) (c:=dM l) (l:=dM l) (n:=n*5) (j:=0) (k:=fun v=>v= .agg ⟨dM l⟩) m ER (by rw[kt,e8<|by rw[mO,q];exact ba _]) (by rw[mO,q]) rfl;simp only[vD,pt,AI,aV] at y;obtain⟨T,z,r⟩:=y;rw[z];injection r with r;injection r with r;rw[r]
 obtain⟨h',p,x⟩:=bE (b:=b) (o:=o) (c:=dM l) (n:=n*5) (vs:=dM<|qO l) (v:= .agg ⟨dM<|qO l⟩) (k:=fun h'=>Hs G h' (aG b o (dM<|qO l)::fJ G 5 e (some ⟨b,o,none⟩) c l.length b o::L)) m
  (by rw[mO,q];exact Nat.beq_refl _) (k6 ER) (by rw[mO,g,q]) (tU _) fun h' m=>m
 have p:fL h ⟨b,o,none⟩ (dM<|qO l)=some h':=by
  have t:(dM<|qO l).length=n*5:=by rw[mO,g,q]
  simpa [vT,pt,kD,An,Value.cells,t] using p
 refine uL B (v:= .tuple ⟨[]⟩) (h':=h') ?_<|J h' ?_
 .unfold Iq;rw[O];simp only;rw[<-q,T8];simp only;rw[aXg<|by rw[I,k6<|show l.length<=1000 by omega];rfl,p];rfl
 .unfold ls;rw[g];exact Hs.kZ x (by show(dM<|qO l).length=_;rw[mO,g])<|tU _
end Go.Ab
namespace Go.Mc
open Go.Hm Go.At Go.Is Go.Ct Go.Nt
def Dq (n:Nat) (S:Nat->HN):HN:=qO<|(List.range n).flatMap S
def Yp:∀{l:HN},(l.map (·.1)).Nodup->Mp l=true
 |[],_=>rfl
 |x::l,h=>by
  rw[kx,AE] at h;simp only[Mp,dn,lP,BS,beq_eq_false_iff_ne];exact⟨fun y b e=>h.1<|gL.2 ⟨y,b,e⟩,Yp h.2⟩
def Tl {n ways:Nat} {S:Nat->HN} (j:∀i,qA ways<|S i) (f:Pl n S):∀k,(((List.range k).flatMap S).map (·.1)).Nodup
 |0=>EV
 |k+1=>by
  rw[er,u3,k8,CN];refine⟨Tl j f k,by simpa using(j k).nd,fun a p b q e=>?_⟩;obtain⟨x,g,rfl⟩:=gL.1 p;obtain⟨i,r,g⟩:=BG.1 g;obtain⟨y,l,rfl⟩:=gL.1 q;simp only[xc,CT,hX] at l;have m:=(f i x g).2;have o:=(f k y l).2;rw[e,o] at m;have:=k7.1 r;omega
def Cb {ways:Nat} {S:Nat->HN} (b:∀i,qA ways<|S i):∀k,((List.range k).flatMap S).length<=k*ways
 |0=>EV
 |k+1=>by
  rw[er,u3,bj,ux];have:=Cb b k;have:=(b k).len;simp only[xc,CT,hX];omega
variable {S:Nat->HN}
def Q7:(Dq n S).length=((List.range n).flatMap S).length:=(nE _).length_eq
def bq {t:Th}:t∈Dq n S↔∃i,i<n/\t∈S i:=by
 unfold Dq;rw[(nE _).mem_iff,BG];simp
def aHg (h:((List.range n).flatMap S).length=0):Dq n S=[]/\∀i,i<n->S i=[]:=by
 have b:=gg h;refine⟨by unfold Dq;rw[b];rfl,fun i f=>?_⟩;rw[AN] at b;exact b i<|k7.2 f
def cpE (x:Nat×Th):EK:=I x.1::C0 x.2
def knE (x:Nat×(Int×Int)):EK:=I x.1::dW x.2
instance:Fx cpE 6:=⟨fun _=>rfl,fun _=>rfl⟩
instance:Fx knE 3:=⟨fun _=>rfl,fun _=>rfl⟩
def Ce {α:Type} (i:Nat) (l:List α):List (Nat×α):=l.map fun t=>(i,t)
def qB (n:Nat) (X:Nat->iJ) (k:Nat):List (Nat×Th):=(List.range k).flatMap fun i=>Ce i<|Dq n (X i).S
def tL (X:Nat->lX) (k:Nat):List (Nat×(Int×Int)):=(List.range k).flatMap fun i=>Ce i (X i).cC
def N9 {X:Nat->iJ}:qB n X (k+1)=qB n X k++Ce k (Dq n (X k).S):=by simp[qB,er]
def O2 {X:Nat->lX}:tL X (k+1)=tL X k++Ce k (X k).cC:=by simp[tL,er]
variable {α:Type}
def th {l:List α} {x:α}:Ce i (l++[x])=Ce i l++[(i,x)]:=by simp[Ce]
def N5 {l:List α}:(Ce i l).length=l.length:=by simp[Ce]
def Ke {n b:Nat} {X:Nat->iJ}:∀{k},(∀i,i<k->(Dq n (X i).S).length<=b)->(qB n X k).length<=k*b
 |0,_=>by simp[qB]
 |k+1,h=>by
  rw[N9,bj,N5,ux];have:=Ke (k:=k) fun i f=>h i ER;have:=h k ER;omega
def To {X:Nat->lX} {b:Nat}:∀{k},(∀i,i<k->(X i).cC.length<=b)->(tL X k).length<=k*b
 |0,_=>by simp[tL]
 |k+1,h=>by
  rw[O2,bj,N5,ux];have:=To (k:=k) fun i f=>h i ER;have:=h k ER;omega
end Go.Mc
namespace Go.Ab
open Go.RowKit
variable {K:FuncId->EK->HQ} {G:Bg} {h h':AH} {M:HL}
noncomputable def frz (G:Bg) (h:AH):Bg:=⟨h.next,h.get,G.hb⟩
def Hs.frz (f:Hs G h L):Hs (frz G h) h [] where
 base:=⟨f.base.1,hI f.base.2 f.wf⟩
 old:=fun _ _=>rfl
 wf:=ba _
 fr:=f.fr
 R3:=⟨dQ.N7,rfl,⟨fun b o v h=>FN,fun b h=>FN,fun b e x n h=>FN,fun b o h=>FN⟩⟩
theorem Hs.aUv (m:Hs G h L) (l:Hs (Go.Ab.frz G h) h' M):Hs G h' (M++L):=by
 obtain⟨q,Q,i1⟩:=m.R3;obtain⟨r,R,i2⟩:=l.R3;have D:∀b,h.get b≠none->b<h.next:=fun b j=>by
  rcases ts b h.next with p|p
  exact p;exact absurd (m.fr b p) j
 have U:∀b t,q.sB b=some t->b<h.next:=fun b t j=>by
  cases t with
  |iW=>exact(i1.iW b j).2.1
  |mt e x n=>obtain⟨_,c,g,_⟩:=i1.mt b e x n j;grind
  |Eg o=>obtain⟨_,g,_⟩:=i1.Eg b o j;grind
 have J:∀b t,r.sB b=some t->h.next<=b:=fun b t j=>by
  cases t with
  |iW=>exact(i2.iW b j).1
  |mt e x n=>exact(i2.mt b e x n j).1
  |Eg o=>exact(i2.Eg b o j).1
 have z:∀b o v,q.fK b o=some v->b<h.next:=fun b o v j=>by
  obtain⟨_,_,_,_,g,_⟩:=i1.fK b o v j;grind
 have B:r.yS q:=by
  refine⟨fun b o=>?_,fun b=>?_⟩;cases p:q.fK b o with
  |none=>grind
  |some v=>
   cases h4:r.fK b o with
   |none=>grind
   |some u=>have S:=z b o v p;have T:h.next<=b:=(i2.fK b o u h4).1;omega
  cases p:q.sB b with
  |none=>grind
  |some v=>
   cases h4:r.sB b with
   |none=>grind
   |some u=>grind
 have I:h.next<=h'.next:=l.wf
 have wS:∀b,b<h.next->h'.get b=h.get b:=fun b j=>l.old b j
 refine⟨⟨l.base.1,m.base.2⟩,fun i y=>(wS i<|o0 y m.wf).trans<|m.old i y,hI m.wf I,l.fr,_,kA.2 ES,(dQ.gQ B).2 ⟨?_,?_⟩⟩;have O:∀b,h.next<=b->G.base<=b:=fun b j=>hI m.wf j
 exact⟨fun b o v f=>⟨O b (i2.fK b o v f).1,(i2.fK b o v f).2⟩,fun b f=>⟨ES,(i2.iW b f).2⟩,fun b e x n f=>⟨ES,(i2.mt b e x n f).2⟩,fun b o f=>⟨ES,(i2.Eg b o f).2⟩⟩;refine⟨fun b o v f=>?_,fun b f=>?_,fun b e x n f=>?_,fun b o f=>?_⟩;obtain⟨g1,g2⟩:=i1.fK b o v f;grind;obtain⟨g1,g2,g3⟩:=i1.iW b f;grind;obtain⟨g1,g2⟩:=i1.mt b e x n f;grind;obtain⟨g1,g2,g3⟩:=i1.Eg b o f;grind
structure Bg.Le (G G':Bg):Prop where
 base:G.base<=G'.base
 old:∀i,i<G.base->G'.old i=G.old i
def Hs.aN1 (b:Hs G h L):G.Le (Go.Ab.frz G h):=⟨b.wf,b.old⟩
theorem Ob.mono {g:Bg} (j:G.Le g) {b:Nat} (f:Ob G b c):Ob g b c:=
 ⟨o0 f.lt j.base,let⟨e,l,x,m⟩:=f.get;⟨e,l,x,(j.old b f.lt).trans m⟩⟩
theorem aL4 {W:Nat} {c:Nat} (I:0<W) (q:Hs G h (dJ W e a c (n,cs)::L)):wM (Go.Ab.frz G h) W (.slice a n c) n (fun i=>(cs.drop<|i*W).take W):=by
 refine⟨a,c,rfl,fun i x=>?_⟩;obtain⟨r,Q,f,z,O,m,o⟩:=q.fst;obtain⟨y,v,f⟩:=f;simp only at y v f;rcases f with⟨B,_⟩|⟨B,_⟩|⟨p,b,D,t,ex,rfl,hle,rfl⟩;omega;omega;obtain⟨J,l⟩:=Eo m o;have j:b<h.next:=by
  rcases ts b h.next with g|g
  exact g;rw[q.fr b g] at l;cases l
 have u:(i+1)*W<=n*W:=p9 _ x;rw[BV,Nat.one_mul] at u;refine⟨b,_,_,rfl,⟨j,e,_,ex,l⟩,?_,EW⟩;rw[dx,<-u4,EH,BI ER,xa ES]
end Go.Ab
