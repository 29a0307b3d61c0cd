/- A part of the proof. -/
import Derived.Test.YtbcndiahccicpaaGreatDoorS16
import Derived.Test.YtbcndiahccicpaaGreatDoorS8
import Derived.Test.YtbcndiahccicpaaGreatDoorS9
set_option linter.all false
set_option maxRecDepth 100000
open Go Go.Ab
variable {L L' L2 M:IU} {Q:Value->AH->Prop} {b c cap hb i mb n o p pm t:Nat} {a:FM} {k:Value->Prop} {cs:FJ} {jv v:Value} {l:JF} {e:TypeId} {x:Int} {j:Int->Int->Int×Bool}
section
attribute [local irreducible] cC Br vZ yU Ar Jj rJ Ce qL dj lQ sJ wV wJ vF rB A6 Yn Wh W3 Wi Wj gf qN tZ nJ mM Dv O9 pX Vx cn E2 Cl F3 ga zF yL oI jF eX dO
namespace Go.Proofs.Z.A
open Go.Hm Go.At Go.Is
variable {G:Bg} {h:AH}
def sC (b o:Nat) (s:aQ):HP:=Cr fun x:FM×Nat=>sp [aK b o<|s.core++[.slice x.1 s.prog.length x.2],eC 4 55 x.1 x.2 (s.prog.length,C7 s.prog)]
def aF9 {s:aQ} (d:Hs G h (sC b o s::L)):∃a c,Hs G h (aK b o (s.core++[.slice a s.prog.length c])::eC 4 55 a c (s.prog.length,C7 s.prog)::L):=by
 obtain⟨⟨a,c⟩,d⟩:=d.Cc;exact⟨a,c,d.fL⟩
def Kz {s:aQ} (d:Hs G h (aK b o (s.core++[.slice a s.prog.length c])::eC 4 55 a c (s.prog.length,C7 s.prog)::L)):Hs G h (sC b o s::L):=
 Hs.Cq (A:=fun x:FM×Nat=>sp [aK b o<|s.core++[.slice x.1 s.prog.length x.2],eC 4 55 x.1 x.2 (s.prog.length,C7 s.prog)]) (a,c) (Hs.nS (A:=[_,_]) d)
structure AtA where
 b:Nat
 o:Nat
 cap:Nat
 a:FM
 c:Nat
 mb:Nat
def H8 (G:Bg) (pm:Nat) (m:AM) (x:AtA):IU:=[qi pm m.lD (.slice (some ⟨x.b,x.o,none⟩) m.lD.aB.toNat x.cap) x.a m.dG.length x.c x.mb,eC 1 3 x.a x.c (m.dG.length,m.dG.map I),gK G m.lD.aF x.mb m.lD m.mem,
  gQ G 8 99 (some ⟨x.b,x.o,none⟩) x.cap m.lD.aB.toNat x.b x.o,fH m.lD.aB.toNat fun i=>sC x.b (x.o+i*8)<|m.aD i]
def Wg (G:Bg) (pm:Nat) (m:AM):HP:=Cr fun x:AtA=>sp<|H8 G pm m x
variable {m:AM}
def aJn (d:Hs G h (Wg G pm m::L)):∃b o cap a c mb,Hs G h (qi pm m.lD (.slice (some ⟨b,o,none⟩) m.lD.aB.toNat cap) a m.dG.length c mb::eC 1 3 a c (m.dG.length,m.dG.map I)::gK G m.lD.aF mb m.lD m.mem::
  gQ G 8 99 (some ⟨b,o,none⟩) cap m.lD.aB.toNat b o::fH m.lD.aB.toNat (fun i=>sC b (o+i*8)<|m.aD i)::L):=by
 obtain⟨⟨b,o,cap,a,c,mb⟩,d⟩:=d.Cc
 exact⟨b,o,cap,a,c,mb,d.fL⟩
def H5 (d:Hs G h (qi pm m.lD (.slice (some ⟨b,o,none⟩) m.lD.aB.toNat cap) a m.dG.length c mb::eC 1 3 a c (m.dG.length,m.dG.map I)::gK G m.lD.aF mb m.lD m.mem::
  gQ G 8 99 (some ⟨b,o,none⟩) cap m.lD.aB.toNat b o::fH m.lD.aB.toNat (fun i=>sC b (o+i*8)<|m.aD i)::L)):Hs G h (Wg G pm m::L):=
 Hs.Cq (A:=fun x:AtA=>sp<|H8 G pm m x) ⟨b,o,cap,a,c,mb⟩ (Hs.nS (A:=H8 G pm m ⟨b,o,cap,a,c,mb⟩) d)
theorem aHl {r:AM} {k p6:Nat} {q:FM} {u:Ev} {nx:Int} (D:r.lD=m.lD) (E:r.dG.length=m.dG.length) (F:∀j,j≠i->r.aD j=m.aD j) (J:(r.aD i).prog=(m.aD i).prog) (z:0<=nx) (A:i<m.lD.aB.toNat)
  (d:Hs G h (qi pm m.lD (.slice (some ⟨b,o,none⟩) m.lD.aB.toNat cap) a m.dG.length c mb::eC 1 3 a c (m.dG.length,r.dG.map I)::gK G m.lD.aF mb m.lD r.mem::
   gQ G 8 99 (some ⟨b,o,none⟩) cap m.lD.aB.toNat b o::sp (((List.range m.lD.aB.toNat).erase i).map fun i=>sC b (o+i*8)<|m.aD i)::aK b (o+i*8) ((r.aD i).core++[.slice q (m.aD i).prog.length t])::
   eC 4 55 q t ((m.aD i).prog.length,C7 (m.aD i).prog)::aK k 0 u.enc::aK p6 0 [I 0,I 0,I 0,I 0,I 0,I 0,I 0]::L))
  (B:∀e,Hs G e (Wg G pm (r.jA i nx)::L)->Q (.tuple ⟨[.agg ⟨u.enc⟩,I 0]⟩) e):
  JL 33 [pt b (o+i*8) 0,I nx] h fun v e=>cC (yU e 7<|JM k) fun w=>cC (Ar e 7 (JM p6) w) fun f=>cC (yU f 7<|JM p6) fun x=>Q (.tuple ⟨[x,I 0]⟩) f:=by
 rw[<-J] at d
 refine Nf (s:=r.aD i) (a:=q) (c:=t) z (d.dC _ _) fun h d=>(bC d FV (l:=u.enc) rfl rfl<|an d fun h d=>bC d FV (l:=u.enc) rfl rfl<|B _ ?_)
 have d:=Kz<|d.dC (aK b (o+i*8)<|((r.aD i).jA nx).core++[.slice q (r.aD i).prog.length t])<|eC 4 55 q t ((r.aD i).prog.length,C7 (r.aD i).prog)
 have y:sC b (o+i*8) ((r.aD i).jA nx)=(fun j=>sC b (o+j*8)<|(r.jA i nx).aD j) i:=by simp only[AM.jA,AM.oZ,dI]
 rw[y] at d
 have d:=d.tG (fun j=>sC b (o+j*8)<|m.aD j) (fun j=>sC b (o+j*8)<|(r.jA i nx).aD j) A (fun j _ g=>by
  have:(r.jA i nx).aD j=m.aD j:=by rw[<-F j g];exact bO g
  grind)
 have e2:(r.jA i nx).lD=m.lD:=D
 refine H5 (b:=b) (o:=o) (cap:=cap) (a:=a) (c:=c) (mb:=mb) ?_
 rw[e2,show(r.jA i nx).dG=r.dG from rfl,E,show(r.jA i nx).mem=r.mem from rfl]
 exact d.to
theorem aQm (F:m.Ok) {E:Int} {busy:Bool} (Y:Ob G 0 iM) (d:Hs G h L) [mm:dZ (Wg G pm) L m L']
  (B:∀J,Hs G J (Wg G pm (m.step E busy).1::L')->Q (.tuple ⟨[.agg ⟨(m.step E busy).2.1.enc⟩,I (m.step E busy).2.2]⟩) J):JL 11 [JM pm,I E,.bool busy] h Q:=by
 have α:m.lD.aB<=4/\1<=m.lD.aB:=⟨F.lD.1.2,F.lD.1.1⟩
 have⟨b,o,cap,a,c,mb,d⟩:=aJn<|mm.of d
 refine cW<|cT d fun S h d=>dN<|cY<|bW ?_
 refine aC<|aA<|aE d rfl<|dB<|Ec FQ<|aZ (c:=[I E]) rfl<|eA d rfl rfl rfl fun ad h d=>(wW d fun h k=>cZ<|fR<|bG (fun h1=>?_) fun h1=>?_)
 rotate_left
 .refine aZ (c:=[I 0,I 0,I 0,I 0,I 0,I 0,I 0]) rfl (an k fun h d=>bC d FV (l:=[I 0,I 0,I 0,I 0,I 0,I 0,I 0]) rfl rfl ?_);rw[AM.step,aac] at B;refine B _<|H5 (b:=b) (o:=o) (cap:=cap) (a:=a) (c:=c) (mb:=mb) d.to
 clear d
 have d:=k
 clear k
 obtain⟨i,rfl⟩:∃i:Nat,E=i:=⟨E.toNat,FQ⟩
 have T:i<m.lD.aB.toNat:=FQ
 rw[AM.step,aaa] at B
 simp[aL] at B
 have d:=(d.bE<|fH m.lD.aB.toNat fun i=>sC b (o+i*8)<|m.aD i).pI i T
 have⟨pa,pc,d⟩:=aF9 d
 refine bW<|aC<|aA<|aE d rfl<|fK T<|aC<|aA<|aA<|aE d rfl<|dX (fun V=>?_) fun V=>?_
 .rw[bD2 V] at B;refine aZ (c:=[I 0,I 0,I 0,I 0,I 0,I 0,I 0]) rfl<|an d fun h d=>bC d FV (l:=[I 0,I 0,I 0,I 0,I 0,I 0,I 0]) rfl rfl<|B _ ?_;have d:=Kz<|d.dC (aK b (o+i*8)<|(m.aD i).core++[.slice pa _ pc]) _;have d:=d.tG _ (fun j=>sC b (o+j*8)<|m.aD j) T fun _ _ _=>rfl;exact H5 (b:=b) (o:=o) (cap:=cap) (a:=a) (c:=c) (mb:=mb) d.to
 rw[bD1 FR] at B
 have z:=F.aD i FQ
 have O:=D1 (by rwa [<-z.2.2.1])
 have A:=Nd<|z.2.2.2.2 _<|Di z.1 O
 have P:=Yb (b:=busy) A z.1 O
 have⟨k1,k2,k3,k4⟩:=K6 (m:=m) (i:=i) (x:=mW (m.aD i).prog (m.aD i).at') (b:=busy)
 obtain⟨n,hn⟩:∃n:Nat,(m.aD i).at'=n:=⟨(m.aD i).at'.toNat,by have:=z.1;omega⟩
 have β:mW (m.aD i).prog (m.aD i).at'=(m.aD i).prog.getD n ⟨0,0,0,0⟩:=by rw[hn];rfl
 generalize hx:mW _ _=x at*
 have Z:=z.2.2.2.1
 refine bW<|bI d fun D h d=>(aC<|aA<|aE d rfl<|aC<|aA<|aA<|aE d rfl ?_)
 rw[hn]
 refine aHj (e:=55) (x:=x.enc) d FV FQ (by grind[aAm]) rfl<|nI d rfl rfl fun R h d=>an d fun h d=>bI d fun γ h d=>?_
 refine aC<|aA<|aA<|aE d rfl<|aA<|aE d rfl<|aC<|aA<|aA<|aE d rfl<|aZ (c:=[I i,I _,I x.op,I _,I 0,I 0,I 0]) rfl ?_
 refine nI d rfl rfl fun f h d=>an d fun h d=>(aC<|aA<|aA<|aE d rfl<|aad<|aA<|aE d rfl<|cF ?_)
 have sL:∀(r:AM) (w v U nx:Int) (h:AH),m.kD i x busy=(r,w,v,U,nx)->
   Hs G h (qi pm m.lD (.slice (some ⟨b,o,none⟩) m.lD.aB.toNat cap) a m.dG.length c mb::eC 1 3 a c (m.dG.length,r.dG.map I)::gK G m.lD.aF mb m.lD r.mem::
   gQ G 8 99 (some ⟨b,o,none⟩) cap m.lD.aB.toNat b o::sp (((List.range m.lD.aB.toNat).erase i).map fun i=>sC b (o+i*8)<|m.aD i)::aK b (o+i*8) ((r.aD i).core++[.slice pa (m.aD i).prog.length pc])::
   eC 4 55 pa pc ((m.aD i).prog.length,C7 (m.aD i).prog)::aK f 0 [I i,I (m.aD i).at',I x.op,I (m.aD i).aY,I w,I v,I U]::aK S 0 [I 0,I 0,I 0,I 0,I 0,I 0,I 0]::L')->
   JL 33 [pt b (o+i*8) 0,I nx] h fun v J=>cC (yU J 7<|JM f) fun W=>cC (Ar J 7 (JM S) W) fun N=>cC (yU N 7<|JM S) fun X=>Q (.tuple ⟨[X,I 0]⟩) N:=by
  intro r w v U nx h hd d
  rw[hd] at B k1 k2 k3 k4 P
  exact aHl k1 k2 k3 k4 P.1 T d B
 refine bG (fun u=>?_) fun n1=>bW<|cF<|bG (fun u=>?_) fun n2=>bW<|cF ?_
 .have q:=A.r1<|.inl u;refine bW (aA<|aE d rfl<|aA<|ax d fun h d=>bI d fun D h d=>aA<|aE d rfl<|aA<|aE d rfl<|aC<|aA<|aA<|fQ q.1 q.2<|B5 d q.1 q.2 fun h d=>(sL (m.oZ i<|(m.aD i).dL x.a x.b) 0 x.b 0 _ h ?_ ?_))
  .rw[AM.kD];grind
  .have d:=d.sg (b:=f) (o:=0) (c:=[I i,I _,I x.op,I _,I 0,I x.b,I 0]) rfl;simp[AM.oZ,dI];exact d.to
 .have q:=A.r1 FQ;have hb:=A.r2<|.inl u;have y:=A.r3<|.inl u;refine bW<|bI d fun D h d=>aA<|aE d rfl<|aC<|aA<|aA<|fQ hb.1 hb.2<|aE d (sU hb.1 hb.2)<|aA<|aE d rfl<|aC<|aA<|aA<|fQ y.1 y.2<|aE d (sU y.1 y.2)<|dw<|aA<|ax d fun h d=>?_;refine bI d fun D h d=>aA (aE d rfl<|aA<|aE d rfl<|aC<|aA<|aA<|fQ q.1 q.2<|B5 d q.1 q.2 fun h d=>(sL (m.oZ i<|(m.aD i).dL x.a<|wr<|(m.aD i).dK x.b.toNat+(m.aD i).dK x.c.toNat) 0 (wr<|(m.aD i).dK x.b.toNat+(m.aD i).dK x.c.toNat) 0 _ h ?_ ?_))
  .rw[AM.kD];grind
  .have d:=d.sg (b:=f) (o:=0) (c:=[I i,I _,I x.op,I _,I 0,I _,I 0]) rfl;simp[AM.oZ,dI];exact d.to
 have acc:x.op=3\/x.op=4\/x.op=5->Dd 11 10 [] Q [JM pm,JM S,pt b (o+i*8) 0,JM R,JM f,I<|(m.aD i).at'+1] h:=by
  intro ho;have q:=A.r1 FQ;have hb:=A.r2 FQ;refine bW<|bI d fun D h d=>aA<|aE d rfl<|aC<|aA<|aA<|fQ hb.1 hb.2<|aE d (sU hb.1 hb.2)<|aA<|ax d fun h d=>bC d FV (l:=x.enc) rfl rfl ?_;obtain⟨e1,e2,e3,e4,e5⟩:=Mu (m:=m) (i:=i) (x:=x);refine Oo (i:=i) (pv:= .slice pa (m.aD i).prog.length pc) F.lD F.dG ho q hb Y (d.rL (qi pm m.lD (.slice (some ⟨b,o,none⟩) m.lD.aB.toNat cap) a m.dG.length c mb) _ _ _) fun h d=>?_;refine aN rfl<|aN rfl<|aA<|ax d fun h d=>aA<|ax d fun h d=>?_;refine sL (m.eK i x).1 ((m.aD i).dK x.b.toNat) (m.eK i x).2.1 (m.eK i x).2.2 _ h ?_ ?_;rw[AM.kD];grind;have d:=d.sg (b:=f) (o:=0) (c:=[I i,I _,I x.op,I _,I _,I _,I _]) rfl;rw[e2];exact d.to
 have rest:¬(x.op=3\/x.op=4\/x.op=5)->∀t114,Dd 11 11 [] Q [JM pm,.bool busy,JM S,pt b (o+i*8) 0,JM R,JM f,I<|(m.aD i).at'+1,I x.op,t114] h:=by
  intro n3 t114;refine bW<|cF<|bG (fun u=>?_) fun n4=>bW<|cF<|bG (fun u=>?_) fun n5=>bW<|cF<|bG (fun u=>?_) fun n6=>bW<|cF<|bG (fun u=>?_) fun n7=>?_;refine bW<|aA<|aE d rfl<|aA<|ax d fun h d=>aC<|aA<|aA<|aE d rfl<|cF<|bG (fun c2=>?_) fun c2=>?_;refine bW<|aA<|aE d rfl<|aC<|aA<|aA<|ax d fun h d=>(sL (m.oZ i<|(m.aD i).Zc x.a) 0 x.a 0 _ h ?_ ?_);rw[AM.kD];grind;have d:=d.sg (b:=b) (o:=o+i*8) (c:=((m.aD i).Zc x.a).core++[.slice pa _ pc]) rfl;have d:=d.sg (b:=f) (o:=0) (c:=[I i,I _,I x.op,I _,I 0,I x.a,I 0]) rfl;simp[AM.oZ,dI];exact d.to;refine bW<|aA<|ax d fun h d=>(sL m 0 x.a 18 _ h ?_ ?_);rw[AM.kD];grind;have d:=d.sg (b:=f) (o:=0) (c:=[I i,I _,I x.op,I _,I 0,I x.a,I 18]) rfl;exact d.to;have hb:=A.r2 FQ;have y:=A.r3 FQ;refine bW<|bI d fun D h d=>aA<|aE d rfl<|aC<|aA<|aA<|fQ hb.1 hb.2<|aE d (sU hb.1 hb.2)<|aA<|aE d rfl<|aC<|aA<|aA<|fQ y.1 y.2<|aE d (sU y.1 y.2) ?_;refine aA<|ax d fun V k=>aA<|ax k fun h d=>(dT eG<|dT (aA eG)<|dT (aE k rfl lG)<|dT (aC eG)<|dT (aA eG)<|dT (aA eG)<|dT (fQ y.1 y.2 eG)<|dT (aE k (sU y.1 y.2) lG) ?_);clear k;refine bI d fun D h d=>aA<|aE d rfl<|aC<|aA<|aA<|aE d rfl<|aA<|aE d rfl<|aA<|aE d rfl ?_;obtain⟨e1,e2,e3⟩:=Kd (m:=m) (c:=x.a) (w:=(m.aD i).aY) (g:=(m.aD i).dK x.b.toNat) (t:=(m.aD i).dK x.c.toNat) (b:=busy);refine aOm F.lD F.dG Y (d.dV (qi pm m.lD (.slice (some ⟨b,o,none⟩) m.lD.aB.toNat cap) a m.dG.length c mb) _ _) fun h d=>?_;refine aA<|ax d fun h d=>bI d fun D h d=>aA<|aE d rfl<|aA<|aE d rfl<|aC<|aA<|aA<|fQ hb.1 hb.2<|B5 d hb.1 hb.2 fun h d=>?_;refine sL ((m.call x.a (m.aD i).aY ((m.aD i).dK x.b.toNat) ((m.aD i).dK x.c.toNat) busy).1.oZ i<|(m.aD i).dL x.b (m.call x.a (m.aD i).aY ((m.aD i).dK x.b.toNat) ((m.aD i).dK x.c.toNat) busy).2) ((m.aD i).dK x.b.toNat) ((m.aD i).dK x.c.toNat) (m.call x.a (m.aD i).aY ((m.aD i).dK x.b.toNat) ((m.aD i).dK x.c.toNat) busy).2 _ h ?_ ?_;rw[AM.kD];grind;have d:=d.sg (b:=f) (o:=0) (c:=[I i,I _,I x.op,I _,I _,I _,I _]) rfl;simp[AM.oZ,dI];exact d.to;refine bW<|aA<|aE d rfl<|aA<|ax d fun h d=>aA<|aE d rfl<|sL m 0 x.a 0 _ h ?_ ?_;rw[AM.kD];grind;have d:=d.sg (b:=f) (o:=0) (c:=[I i,I _,I x.op,I _,I 0,I x.a,I 0]) rfl;exact d.to;have q:=A.r1 FQ;refine bW<|bI d fun D h d=>aA<|aE d rfl<|aC<|aA<|aA<|fQ q.1 q.2<|aE d (sU q.1 q.2)<|aA<|ax d fun h d=>aA<|aE d rfl<|cF<|bG (fun c2=>?_) fun c2=>?_;refine bW<|aA<|aE d rfl<|sL m 0 ((m.aD i).dK x.a.toNat) 0 _ h ?_ ?_;rw[AM.kD];grind;have d:=d.sg (b:=f) (o:=0) (c:=[I i,I _,I x.op,I _,I 0,I _,I 0]) rfl;exact d.to;refine bW<|sL m 0 ((m.aD i).dK x.a.toNat) 0 _ h ?_ ?_;rw[AM.kD];grind;have d:=d.sg (b:=f) (o:=0) (c:=[I i,I _,I x.op,I _,I 0,I _,I 0]) rfl;exact d.to;refine bW<|sL m 0 0 0 _ h ?_ ?_;rw[AM.kD];grind;exact d.to
 refine bG (fun u=>bW ?_) fun n3=>bW<|cF<|bG (fun u=>bW ?_) fun n4=>bW<|cF<|bG (fun u=>acc FQ) fun n5=>rest FQ _
 .rw[cj u];exact gA<|acc FQ
 .rw[cj u];exact gA<|acc FQ
def aUg (k:n<=100) (i:Hs G h L) [m:dZ (eC 2 152 a c) L (n,cs) L'] (g:∀d e f,Hs G f (eC 2 152 d e (n,cs)::eC 2 152 a c (n,cs)::L')->Q (.slice d n e) f):JL 274 [.slice a n c] h Q:=
 cW (H3 (bytes:=16) i FQ g)
def aT8 (k:n<=100) (i:Hs G h L) [m:dZ (eC 3 205 a c) L (n,cs) L'] (g:∀d e f,Hs G f (eC 3 205 d e (n,cs)::eC 3 205 a c (n,cs)::L')->Q (.slice d n e) f):JL 273 [.slice a n c] h Q:=
 cW (H3 (bytes:=40) i FQ g)
def aP8 (k:l.length<=100) (hc:l.flatten.all gU=true) (i:Hs G h (Ge G 1 e v l::L)) (g:∀a d f,Hs G f (eC 1 3 a d (l.length,l.flatten)::Ge G 1 e v l::L)->Q (.slice a l.length d) f):JL 31 [v] h Q:=
 cW (Sy (bytes:=8) i FV rfl hc FQ g)
def aQy (k:l.length<=100) (hc:l.flatten.all gU=true) (i:Hs G h (Ge G 4 e v l::L)) (g:∀a d f,Hs G f (eC 4 55 a d (l.length,l.flatten)::Ge G 4 e v l::L)->Q (.slice a l.length d) f):JL 32 [v] h Q:=
 cW (Sy (bytes:=32) i FV rfl hc FQ g)
def Wk (n B:Nat) (i:Nat) (x:BkA):FJ:=[I x.r,I x.w,.slice x.a (pV n B i) x.cap]
def bkD (n B:Nat) (mem:Nat->Ln) (i:Nat) (x:BkA):HP:=eC 2 152 x.a x.cap (pV n B i,(List.range<|pV n B i).flatMap<|fu B i mem)
variable {C:bQ}
theorem ug {B:Nat} {mem:Nat->Ln} {f:Nat->BkA} (hB:B<=4) (F:n<=32) (A:∀t,Hs G t (aK p 0 (C.enc++[.slice (some ⟨b,o,none⟩) B cap])::fH B (fun i=>jZ n B b (o+i*3) i mem)::fH B (fun i=>bkD n B mem i<|f i)::L)->Q (JM p) t):
  ∀(r i:Nat) (h:AH) (M:IU),i+r=B->Hs G h (aK p 0 (C.enc++[.slice (some ⟨b,o,none⟩) B cap])::fH B (fun j=>if j<i then jZ n B b (o+j*3) j mem else aK b (o+j*3) (Wk n B j<|f j))::fH B (fun i=>bkD n B mem i<|f i)::L)->
  Dd 196 2 [] Q [JM p,I B,I i] h:=by
 intro r
 induction r with
 |zero=>
  intro i h M y a
  obtain rfl:i=B:=FQ
  refine bW<|bF<|aab<|A _ ?_
  have a:=a.bE<|fH i fun j=>if j<i then jZ n i b (o+j*3) j mem else aK b (o+j*3) (Wk n i j<|f j)
  exact(zN (fun j z=>by rw[bD2 z]) a).dV _ _ _
 |succ r E=>
  intro i h M y a
  have d:i<B:=FQ
  have x:=y5 (n:=n) (B:=B) (i:=i) FQ
  refine bW<|bF<|aae<|bW<|bI a fun J h a=>?_
  have a:=(a.bE<|fH B fun j=>if j<i then jZ n B b (o+j*3) j mem else aK b (o+j*3) (Wk n B j<|f j)).pI i d
  simp[EO,dx] at a
  have a:=(a.bE<|fH B fun j=>bkD n B mem j<|f j).pI i d
  refine aC<|aA<|aE a rfl<|aC<|aA<|aE a rfl<|fK d<|aA<|aE a rfl ?_
  have a:Hs G h (eC 2 152 _ _ (pV n B i,(List.range _).flatMap _)::_):=a
  refine aUg FQ a fun k q h a=>(fK d<|aA<|ax a fun w g=>?_)
  refine dT eG<|dT (aC eG)<|dT (aA eG)<|dT (aE a rfl j0)<|dT lG<|aad<|E (i+1) w [] FQ ?_
  have g:=g.sg (b:=b) (o:=o+i*3) (c:=[I _,I _,.slice k _ q]) rfl
  have e:=xD<|g.dC (aK b (o+i*3) [I (f i).r,I (f i).w,.slice k _ q])<|eC 2 152 k q (pV n B i,(List.range _).flatMap<|fu B i mem)
  have u:jZ n B b (o+i*3) i mem=(fun j=>if j<i+1 then jZ n B b (o+j*3) j mem else aK b (o+j*3) (Wk n B j<|f j)) i:=by simp[CN,eD]
  rw[u] at e
  have e:=e.tG (fun j=>if j<i then jZ n B b (o+j*3) j mem else aK b (o+j*3) (Wk n B j<|f j)) (fun j=>if j<i+1 then jZ n B b (o+j*3) j mem else aK b (o+j*3) (Wk n B j<|f j)) d fun j _ D=>by
   grind
  have v:(eC 2 152 _ _ (pV n B i,(List.range _).flatMap _))=(fun j=>bkD n B mem j<|f j) i:=rfl
  rw[v] at e
  exact(e.tG _ (fun j=>bkD n B mem j<|f j) d fun _ _ _=>rfl).to
theorem wm (hC:C.Ok) {mem:Nat->Ln} (a:Hs G h L) [m:dZ (gK G C.aF mb C) L mem L'] (u:∀e t,Hs G t (gK G C.aF e C mem::gK G C.aF mb C mem::L')->Q (JM e) t):JL 196 [JM mb] h Q:=by
 have hb:=bQ.bk hC;have⟨b,o,cap,a⟩:=Af<|m.of a;refine cW<|dN<|cY<|bW<|bI a fun w h a=>?_;have q:Hs G h (fH C.bX.toNat (fun i=>Cr fun x=>sp [aK b _<|Wk C.aF C.bX.toNat i x,bkD C.aF C.bX.toNat mem i x])::gQ G 3 205 (some ⟨b,o,none⟩) cap C.bX.toNat b o::_):=a.dC (fH C.bX.toNat fun i=>jZ C.aF C.bX.toNat b (o+i*3) i mem) _;obtain⟨f,a⟩:=Hs.aB6 (W:=3) (⟨0,0,none,0⟩:BkA) (fun _ _=>rfl) (fun _ _=>rfl) FV hb.2.1 q;refine aC<|aA<|bC a FV (l:=C.enc) rfl rfl<|aC<|aA<|aE a rfl<|aT8 FQ a fun v k h a=>?_;obtain⟨d,g,rfl,a⟩:=Hs.tk (W:=3) (fun _=>rfl) hb.2.1 a;refine aZ (c:=C.enc++[.slice _ C.bX.toNat k]) rfl<|Gw a rfl rfl fun p h a=>?_;refine dT eG (dT (aC eG)<|dT (aA eG)<|dT (bC a FV rfl rfl<|xL<|by simp[bQ.enc,lG])<|aC<|aA<|aE a rfl<|dB ?_);have a:=a.dV (aK p 0<|C.enc++[.slice (some ⟨d,g,none⟩) C.bX.toNat k]) (fH C.bX.toNat fun i=>aK d (g+i*3)<|Wk C.aF C.bX.toNat i<|f i)<|fH C.bX.toNat fun i=>bkD C.aF C.bX.toNat mem i<|f i;have a:=(a.qS).dV (aK p 0<|C.enc++[.slice (some ⟨d,g,none⟩) C.bX.toNat k]) (fH C.bX.toNat fun i=>aK d (g+i*3)<|Wk C.aF C.bX.toNat i<|f i)<|fH C.bX.toNat fun i=>bkD C.aF C.bX.toNat mem i<|f i;refine ug hb.2.2 (bQ.fF hC).2.2 (fun h a=>u p _ ?_) C.bX.toNat 0 h [] FQ GR;have a:=zO (o:=g) (cap:=k)<|a.dV (aK p 0 _) _<|fH C.bX.toNat fun i=>jZ C.aF C.bX.toNat d _ i mem;have a:=a.dC (eC 3 205 (some ⟨b,o,none⟩) cap (C.bX.toNat,(List.range C.bX.toNat).flatMap fun i=>Wk C.aF C.bX.toNat i<|f i))<|fH C.bX.toNat fun i=>bkD C.aF C.bX.toNat mem i<|f i;have a:Hs G h (fH C.bX.toNat (fun i=>jZ C.aF C.bX.toNat b _ i mem)::gQ G 3 205 _ cap C.bX.toNat b o::_):=Hs.aKp f FR hb.2.1 a;exact(zO (o:=o) (cap:=cap)<|a.dV (aK mb 0 _) _<|fH C.bX.toNat fun i=>jZ C.aF C.bX.toNat b _ i mem).to
def Lg (l:FK):JF:=l.map fun x=>[I x]
theorem Ac (l:FK):(Lg l).length=l.length:=by simp[Lg]
theorem W5 (l:FK):(Lg l).flatten=l.map I:=by
 unfold Lg;induction l with
 |nil=>rfl
 |cons x l a=>grind
def vk (l:FK):(l.map I).all gU=true:=by
 induction l with
 |nil=>rfl
 |cons x l a=>rw[k7,CG,a];rfl
def ae (p:IW):JF:=p.map iW.enc
def G0 (p:IW):(ae p).length=p.length:=by simp[ae]
theorem aFu (p:IW):(ae p).flatten=C7 p:=by
 grind[ae,C7]
def uf (p:IW):(C7 p).all gU=true:=by
 unfold C7;induction p with
 |nil=>rfl
 |cons x l a=>rw[AN,DX,a];rfl
def Qh (G:Bg) (v:Value) (l:FK):Prop:=zE G 1 v (Lg l).length fun i=>(Lg l).getD i []
def Y8 (G:Bg) (v:Value) (p:IW):Prop:=zE G 4 v (ae p).length fun i=>(ae p).getD i []
structure Zy (G:Bg) (pv wv ov vv:Value) (ps:List (IW)) (ws os vs:FK):Prop where
 ps:∃vi:FJ,vi.length=ps.length/\zE G 1 pv (vi.map fun x=>[x]).length (fun i=>(vi.map fun x=>[x]).getD i [])/\∀(i:Nat) (v:Value) (p:IW),vi[i]?=some v->ps[i]?=some p->Y8 G v p
 ws:Qh G wv ws
 os:Qh G ov os
 vs:Qh G vv vs
def zB {l:FK} (a:Qh G v l) (d:Hs G h L):Hs G h (Ge G 1 3 v (Lg l)::L):=E6 (by simp[Lg]) a d
def Rb {p:IW} (a:Y8 G v p) (d:Hs G h L):Hs G h (Ge G 4 55 v (ae p)::L):=E6 (by simp[ae,iW.enc]) a d
def sY {W:Nat} {at':Nat->FJ} (e:zE G W v n at') (d:k (I n)):cC (rB v) k:=by
 obtain⟨a,c,rfl,_⟩:=e;exact dB d
variable {ps:List (IW)}
theorem xr {C:bQ} {pv:Value} {t2 t3 t4 t5:Value} {q:FJ} (J:q.length=ps.length) (z:zE G 1 pv (q.map fun x=>[x]).length fun i=>(q.map fun x=>[x]).getD i [])
  (w:∀(i:Nat) (v:Value) (p:IW),q[i]?=some v->ps[i]?=some p->Y8 G v p) (u:Ob G 1 vV) (F:ps.length<=1000000)
  (D:Av ps≠0->∀g,Hs G g L->Q (.tuple ⟨[.pointer none,I<|Av ps]⟩) g) (E:Av ps=0->∀g,Hs G g L->Dd 10 5 [] Q [pv,t2,t3,t4,t5] g):
  ∀(f i:Nat) (h:AH),i+f=ps.length->Av ps=Av (ps.drop i)->Hs G h L->Dd 10 3 [] Q [pv,t2,t3,t4,t5,pv,I ps.length,I i] h:=by
 intro f
 induction f with
 |zero=>
  intro i h y d a
  rw[eo FQ] at d
  exact bW (bF<|aab<|E d _ a)
 |succ f B=>
  intro i h y d a
  obtain⟨p,A,t⟩:=sR (l:=ps) (i:=i) FQ
  obtain⟨v,k,_⟩:=sR (l:=q) (i:=i) FQ
  rw[t,Av] at d
  have a:=E6 (e:=3) FW z a
  refine bW<|bF<|aae<|bW<|C1 a (x:=[v]) (by simp[k]) rfl<|Mm u (Rb (w i v p k A) a.tail) fun h a=>aN rfl<|aN rfl<|bZ<|bG (fun c=>?_) fun c=>?_
  .rw[bD2 c] at d;rw[<-d];exact D FR _ a.tail
  .rw[bD1 c] at d;exact bW<|aad<|B (i+1) h FQ d a.tail
def vr (hC:C.Ok) {t1 t2 t3 t5 vv:Value} {vs:FK} (v:Qh G vv vs) (t:Ob G 0 iM) (z:vs.length=C.aF*2)
  (k:∀e,Hs G e (gK G C.aF mb C (tY uB vs 0)::L)->Dd 10 11 [] Q [t1,t2,t3,t5,JM mb] e):
  ∀(f i:Nat) (mem:Nat->Ln) (h:AH),i+f=vs.length->tY uB vs 0=tY mem (vs.drop i) i->Hs G h (gK G C.aF mb C mem::L)->Dd 10 9 [] Q [t1,t2,t3,t5,JM mb,vv,I vs.length,I i] h:=by
 have u:=bQ.fF hC
 intro f
 induction f with
 |zero=>
  intro i mem h q d a
  rw[eo FQ,tY] at d
  rw[d] at k
  exact bW (bF<|aab<|k _ a)
 |succ f y=>
  intro i mem h q d a
  obtain⟨x,w,g⟩:=sR (l:=vs) (i:=i) FQ
  rw[g,tY] at d
  have a:=zB v a
  refine bW<|bF<|aae<|bW<|C1 a (x:=[I x]) (by simp[Lg,w]) rfl<|O8 hC t a.tail FQ fun h a=>bZ<|aab<|bW<|aad<|y (i+1) _ h FQ d a
end Go.Proofs.Z.A
namespace Go.Proofs.Z.H
open Go.Hm
variable {C:bQ} {r:bT}
section
variable {G:Bg} {h:AH}
section
variable {l:Nat} {H:nC} {n:aG} {m:Ln}
def aJj (hC:C.Ok) (d:Ob G 0 iM) (u:l<C.aF) (i:n.aI=l) (hc:0<=r.aX.core/\r.aX.core<4) (a:Hs G h (yB G hb p mb b o cap l C H n r m++L))
  (g:∀v t,Hs G t (gW v ((r.qJ n).rest l m).2::jG G hb C (bA H l (((r.qJ n).rest l m).1,m))::L)->Q v t):Dd 255 8 [] Q [JM hb,JM p,pt b (o+l*25) 0] h:=by
 simp only[yB,gg,hT] at a
 obtain⟨w,x,a⟩:=fN a
 refine bW<|bI a fun y h a=>aA<|bC a FV (l:=[I n.d0,I n.d1]) rfl rfl<|aC<|aA<|ax a ?_
 intro h a
 have q:=a
 refine aC<|aA<|ax a fun h a=>dT eG<|dT (aA eG)<|dT (bC q FV (l:=[I n.d0,I n.d1]) rfl rfl<|xL<|by simp[wM]) ?_
 have a:=gF b (o+l*25) (r.qJ n) w x a rfl rfl rfl
 have a:Hs G h (yB G hb p mb b o cap l C H n (r.qJ n) m++L):=by
  simp only[yB,gg,hT];exact a.to
 have f:=a
 simp only[yB,gg,hT] at a
 have k:=a
 obtain⟨w,x,a⟩:=fN a
 refine(aC<|aA<|bC a FV (l:=[.bool<|r.dQ 0,.bool<|r.dQ 1,.bool<|r.dQ 2,.bool<|r.dQ 3]) rfl rfl<|aZ rfl<|aIu<|dX (fun e=>?_) fun e=>?_)
 .have e:(r.qJ n).kI=false:=HE
  simp only[bT.rest,e,aO,dx] at g
  exact g _ _ (wU<|gV hb C H l (r.qJ n) m _ mb b o cap u rfl k).to
 .exact tf (r:=r.qJ n) hC d u i hc HE f g
end
theorem aKm (hC:C.Ok) {l:Nat} {H:nC} {n:aG} (d:Ob G 0 iM) (a:Hs G h L) [m:dZ (jG G hb C) L H L'] (k:l<C.aF) (g:n.aI=l) (i:0<=n.core/\n.core<4) (hc:0<=(H l).1.aX.core/\(H l).1.aX.core<4)
  (e:∀v F,Hs G F (gW v (iN.nH (H l) l n).2::jG G hb C (bA H l (iN.nH (H l) l n).1)::L')->Q v F):
  JL 255 [JM hb,.agg ⟨n.enc⟩] h Q:=by
 have a:=m.of a
 simp only[iN.nH] at e
 refine cW<|fB a fun p h a=>bI a ?_
 intro N h a
 obtain⟨mb,b,o,cap,a⟩:=Mk k<|a.bE<|jG G hb C H
 obtain⟨D,E,a⟩:=fN a
 refine aC<|aA<|aE a rfl<|aA<|aE a rfl ?_
 rw[g]
 refine fK k<|bI a fun J h a=>aA<|aE a rfl<|aC<|aA<|fQ i.1 i.2<|aU6 _ a rfl i ?_
 intro h a
 have f:=gF b (o+l*25) ((H l).1.iE n) D E a rfl rfl rfl
 refine aC<|aA<|aA<|aE a rfl<|bZ<|bG (fun x=>bW ?_) fun x=>bW ?_
 .simp only[bT.dA,bD2 x] at e;unfold bT.yS at e;refine aA (aE f rfl<|Mo f i fun h a=>(aA<|aE a rfl<|dX (fun u=>bW ?_) fun u=>?_))
  .rw[bD2 ⟨x,u⟩] at e;refine bI a fun B h a=>aC<|aA<|aE a rfl<|aA<|aE a rfl ?_;rw[g];refine aA<|bC a FV (l:=Vw (n.d0,n.d1)) rfl rfl<|Ut hC d a k fun h a=>?_;generalize z:((H l).1.iE n).iC n.core=r2 at a e;have t:0<=r2.aX.core/\r2.aX.core<4:=by rw[<-z];exact hc
   have a:Hs G h (yB G hb p mb b o cap l C H n r2 (n.d0,n.d1)++L'):=by
    simp only[yB,gg,hT];exact a.to
   have w:=a
   simp only[yB,gg,hT] at a
   have f:=a
   obtain⟨D,E,a⟩:=fN a
   refine(aC<|aA<|bC a FV (l:=[.bool _,.bool _,.bool _,.bool _]) rfl rfl<|aZ rfl<|aIu<|dX (fun y=>?_) fun y=>?_)
   .have y:r2.kI=false:=by unfold bT.kI;rw[y];rfl
    simp only[bT.rest,y,aO,dx] at e
    exact e _ _ (wU<|gV hb C H l r2 (n.d0,n.d1) _ mb b o cap k rfl f).to
   .exact tf hC d k g t (by grind[bT.kI]) w e
  .rw[bD1 FR] at e;generalize z:((H l).1.iE n).iC n.core=r2 at a e;have t:0<=r2.aX.core/\r2.aX.core<4:=by rw[<-z];exact hc
   refine xb hC d k g t (mb:=mb) (cap:=cap) ?_ e
   simp only[yB,gg,hT,hJ]
   exact a.to
 .have I:(H l).1.yS (H l).2 n=(H l).2:=by unfold bT.yS;rw[bD1 FR]
  simp only[bT.dA,bD1 x,I] at e
  refine aA<|aE a rfl<|bZ<|bG (fun u=>bW ?_) fun u=>bW ?_
  .simp only[bD2 u] at e;refine aC<|aA<|ax a ?_;intro h a;refine bI a fun B h a=>aA<|aE a rfl<|aA<|aE a rfl<|aK5 ?_;have A:=a;refine aC<|aA<|fQ i.1 i.2<|sn {(H l).1.iE n with owner:= -1} a rfl i fun h a=>dT eG<|dT (aA eG)<|dT (aE A rfl lG)<|dT (aC eG)<|dT (aA eG) ?_;have f:=gF b (o+l*25) (((H l).1.iE n).Kl n) D E a rfl rfl rfl;refine aA (aE a rfl<|dX (fun q=>?_) fun q=>?_)
   .simp only[q,eD] at e;refine aJj (r:=((H l).1.iE n).Kl n) hC d k g hc (mb:=mb) (cap:=cap) ?_ e;simp only[yB,gg,hT,hJ];exact f.to
   .simp only[q,aO,dx] at e;refine xb (r:=((H l).1.iE n).Kl n) hC d k g hc (mb:=mb) (cap:=cap) ?_ e;simp only[yB,gg,hT,hJ];exact f.to
  .simp only[bD1 u] at e;refine aA (aE a rfl<|dX (fun q=>?_) fun q=>?_)
   .simp only[q,eD] at e;refine aJj (r:=(H l).1.iE n) hC d k g hc (mb:=mb) (cap:=cap) ?_ e;simp only[yB,gg,hT,hJ];exact f.to
   .simp only[q,aO,dx] at e;refine xb (r:=(H l).1.iE n) hC d k g hc (mb:=mb) (cap:=cap) ?_ e;simp only[yB,gg,hT,hJ];exact f.to
def W8 {aI state:Int} (a:Hs G h L) [m:dZ (gI b o) L r L'] (e:∀v d,Hs G d (gW v (eT aI state<|r.iX x)::gI b o (r.iO<|r.iX x)::L')->Q v d):
  JL 204 [pt b o 0,I x] h fun v d=>JL 203 [pt b o 0,I aI,I state,v] d Q:=by
 refine u0 (m.of a) fun p q h a=>?_
 have a:=Va<|a.bE<|gI b o r
 refine Lr (G:=G) (r:=r) (A:=Xb b o p q x r) (L:=L') aEr xn tW FU ?_ fun v h a=>e v h ?_
 .simp only[Xb];exact a.to
 .have a:=a.qS.fL;have a:Hs G h (aE2 b o r::Tz b o (r.iO<|r.iX x)::gW v (eT aI state<|r.iX x)::L'):=a.to;exact(Yh a).qS
theorem aEv {aI state:Int} (k:0<=x/\x<4) (d:Hs G h L) [m:dZ (eC 1 e a c) L (1,cs) L'] (g:cs=[I x]) [m2:dZ (gI b o) L' r M] (i:∀v f,Hs G f (gW v (eT aI state [x.toNat])::gI b o (r.iO [x.toNat])::M)->Q v f):
  JL 241 [.slice a 1 c] h fun v f=>JL 203 [pt b o 0,I aI,I state,v] f Q:=by
 subst g
 have d:Hs G h (eC 1 e a c (1,[x].map I)::gI b o r::M):=d.cI<|m.cI.trans<|m2.cI.cons _
 refine Pb (e:=e) rfl d fun p h d=>?_
 have d:=Va<|d.bE<|gI b o r
 have q:Yds Pr K G 303 [] [JM p] (Ug e p a c [x]) ([x.toNat].map fun(c:Nat)=>[I c]):=by
  have:=Hb (G:=G) (e:=e) (p:=p) (a:=a) (c:=c) (xs:=[x]) FW;simp only[k7,DJ,CV k.1] at this ⊢;exact this
 refine Lr (r:=r) (L:=aE2 b o r::M) q (fun c t=>FR) FW FU ?_ fun v h d=>i v h ?_
 .exact d.to
 .have d:Hs G h (aE2 b o r::Tz b o (r.iO [x.toNat])::gW v (eT aI state [x.toNat])::M):=d.to;exact(Yh d).qS
set_option maxHeartbeats 2000000 in
theorem Ts {C:bQ} (hC:C.Ok) {hb l:Nat} {H:nC} {n:aG} {aY:Int} {Q:Value->AH->Prop} (F:Ob G 0 iM) (d:Hs G h L) [m:dZ (jG G hb C) L H L'] (z:l<C.aF) (O:0<=n.core/\n.core<4) (t: -1<=(H l).1.owner/\(H l).1.owner<4)
  (f:∀v u,Hs G u (gW v ((H l).1.get l (H l).2 n aY).2::jG G hb C (bA H l (((H l).1.get l (H l).2 n aY).1,(H l).2))::L')->Q v u):
  JL 201 [JM hb,I l,I aY,.agg ⟨n.enc⟩] h Q:=by
 have d:=m.of d
 simp only[bT.get] at f
 refine cW<|fB d ?_
 intro p h d
 obtain⟨mb,b,o,cap,d⟩:=Mk z<|d.bE<|jG G hb C H
 obtain⟨x,y,d⟩:=fN d
 refine aC<|aA<|aE d rfl<|fK z<|bI d fun S h d=>bC d FV (l:=n.enc) rfl rfl<|aC<|aA<|ax d ?_
 intro h d
 have D:=d
 refine aC<|aA<|ax d fun h d=>aC<|aA<|ax d ?_
 intro h d
 refine dT eG<|dT eG<|dT eG<|dT (bC D FV rfl rfl<|xL<|by simp[wM,aG.enc])<|dT lG<|dT lG<|aA<|aE d rfl<|cF ?_
 have d:=gF b (o+l*25) ((H l).1.iL n aY) x y d rfl rfl rfl
 have k:((H l).1.iL n aY).aX.core=n.core:=rfl
 have t: -1<=((H l).1.iL n aY).owner/\((H l).1.iL n aY).owner<4:=t
 generalize R:(H l).1.iL n aY=r at d f k t
 have dW:∀(g:bT),g.aX.core=n.core->∀h,Hs G h (gI b (o+l*25) g::aK hb 0 (mH mb C b o cap)::gK G C.aF mb C (fun i=>(H i).2)::gQ G 25 240 (some ⟨b,o,none⟩) cap C.aF b o::E8 b o C.aF H l::L')->
   (∀v u,Hs G u (gW v (g.dW l<|g.yV (H l).2).2::jG G hb C (bA H l ((g.dW l<|g.yV (H l).2).1,(H l).2))::L')->Q v u)->JL 276 [JM hb,I l] h Q:=fun g J h d f=>by
  have d:=gV hb C H l g _ _ mb b o cap z hJ.symm d
  grind[Na,dI,Al]
 have q:∀(g:bT) (N:IT) v h,Hs G h (gW v N::gI b (o+l*25) g::aK hb 0 (mH mb C b o cap)::gK G C.aF mb C (fun i=>(H i).2)::gQ G 25 240 (some ⟨b,o,none⟩) cap C.aF b o::E8 b o C.aF H l::L')->Hs G h (gW v N::jG G hb C (bA H l (g,(H l).2))::L'):=fun g N v h d=>
  (gV hb C H l g _ _ mb b o cap z hJ.symm d).to
 refine bG (fun A=>?_) fun A=>?_
 .simp only[bD2 A,bT.La,k] at f;refine bW (aA<|aE d rfl<|Dj d fun d=>bZ<|bG (fun w=>?_) fun w=>?_)
  .rw[bD2 w] at f;exact aA<|aE d rfl<|W8 d fun v h d=>f _ _<|q _ _ _ _ d.to
  .rw[bD1 w] at f;exact dW r k _ d.to f
 .simp only[bD1 A,bT.J2] at f;refine bW<|bI d ?_;intro P h d;obtain⟨x,y,d⟩:=fN<|d.bE<|gI b (o+l*25) r;refine aC (aA<|aE d rfl<|aA<|aE d rfl<|cF<|bG (fun w=>bW ?_) fun w=>bW ?_)
  .have E:r.jY={r with owner:= -1}:=by unfold bT.jY;rw[bD2 FR]
   rw[E] at f
   simp only[ne_eq,not_true_eq_false,dx] at f
   refine aC<|aA<|ax d fun h d=>aC<|aA<|aE d rfl<|bZ<|bD FW ?_
   have d:=gF b (o+l*25) {r with owner:= -1} x y d rfl rfl rfl
   exact dW {r with owner:= -1} k _ d.to f
  .have E:r.jY=r:=by unfold bT.jY;rw[bD1 FR]
   rw[E] at f
   refine aC<|aA<|aE d rfl<|bZ<|bG (fun B=>?_) fun B=>?_
   .rw[bD2 B] at f;refine aC<|aA<|aE d rfl<|aZ (c:=[I r.owner]) rfl<|eA d rfl rfl rfl ?_;intro a h d;have d:=gF b (o+l*25) r x y d rfl rfl rfl;exact aEv (e:=3) FQ d rfl fun v h d=>f _ _<|q _ _ _ _ d.to
   .rw[bD1 B] at f;have d:=gF b (o+l*25) r x y d rfl rfl rfl;exact dW r k _ d.to f
def Ca (e:Hs G h L) [m:dZ (aK hb 0) L (mH mb C b o cap) L'] (d:Q (.bool<|decide<|C.kJ x) h):JL 131 [JM hb,I x] h Q:=by
 refine cW<|x6<|gA<|fV<|bG (fun a=>?_) fun a=>?_;refine aC<|aA<|aE e rfl<|dB<|bF ?_;show Q _ _;rw[show decide _=decide (C.kJ x) from BH.2 ⟨fun h=>⟨a,h⟩,fun h=>h.2⟩];exact d;show Q _ _;rw[show false=decide (C.kJ x) from(cr fun h=>a h.1).symm];exact d
def Lo {H:nC} {l:Nat} (a:l<C.aF) (d:Hs G h L) [k:fZ (fH C.aF fun i=>gI b (o+i*25) (H i).1) L L']:Hs G h (gI b (o+l*25) (H l).1::E8 b o C.aF H l::L'):=
 (d.bE<|fH C.aF fun i=>gI b (o+i*25) (H i).1).pI l a
def Eb (C:bQ) (H:nC) (hb mb b o cap:Nat) {a d e:IU} (f:Hs G h L) [g:fZ (aK hb 0<|mH mb C b o cap) L a] [k:fZ (gK G C.aF mb C fun i=>(H i).2) a L2]
  [q:fZ (gQ G 25 240 (some ⟨b,o,none⟩) cap C.aF b o) L2 d] [t:fZ (fH C.aF fun i=>gI b (o+i*25) (H i).1) d e]:Hs G h (jG G hb C H::e):=
 zP (mb:=mb) (b:=b) (o:=o) (cap:=cap) (f.cI<|g.cI.trans<|(k.cI.trans<|(q.cI.trans<|t.cI.cons _).cons _).cons _)
variable {l:Nat} {H:nC} {n:aG}
theorem aVw (hC:C.Ok) (u:Ob G 0 iM) (g:l<C.aF) (w:n.aI=l) (k:0<=n.core/\n.core<4) (E:(H l).1.fT) (J:(H l).1.aH.length<2^30)
  (d:Hs G h (aK p 0 n.enc::aK hb 0 (mH mb C b o cap)::gK G C.aF mb C (fun i=>(H i).2)::gQ G 25 240 (some ⟨b,o,none⟩) cap C.aF b o::fH C.aF (fun i=>gI b (o+i*25) (H i).1)::L))
  (f:∀v B,Hs G B (gW v (iN.take (H l) l n).2.1::jG G hb C (bA H l (iN.take (H l) l n).1)::L)->Q (.tuple ⟨[v,I (iN.take (H l) l n).2.2]⟩) B):
  Dd 177 6 [] Q [JM hb,JM p] h:=by
 unfold iN.take at f
 refine bW<|bI d ?_
 intro K h d
 have d:=Lo (H:=H) (b:=b) (o:=o) g d
 have qD:∀h,Hs G h (gI b (o+l*25) (H l).1::E8 b o C.aF H l::aK p 0 n.enc::aK hb 0 (mH mb C b o cap)::gK G C.aF mb C (fun i=>(H i).2)::gQ G 25 240 (some ⟨b,o,none⟩) cap C.aF b o::L)->Hs G h (gW _ []::jG G hb C (bA H l<|H l)::L):=fun h d=>
  wU ((gV hb C H l (H l).1 _ _ mb b o cap g hJ.symm d).to)
 have F:Hs G h (gI b (o+l*25) (H l).1::E8 b o C.aF H l::aK p 0 n.enc::aK hb 0 (mH mb C b o cap)::gK G C.aF mb C (fun i=>(H i).2)::gQ G 25 240 (some ⟨b,o,none⟩) cap C.aF b o::L):=d.to
 obtain⟨y,z,d⟩:=fN d
 refine aC<|aA<|aE d rfl<|aA<|aE d rfl ?_
 rw[w]
 refine fK g<|aA<|aE d rfl<|cF<|bG (fun A=>bW ?_) fun A=>bW ?_
 .rw[bD2 A] at f;refine bI d fun x h d=>aC (aA<|aE d rfl<|cZ<|fR<|dX (fun q=>?_) fun q=>?_)
  .refine aC (aA<|aA<|aE d rfl<|aA<|aE d rfl<|bZ<|bG (fun t=>?_) fun t=>bW ?_)
   .rw[bD2<|.inr t] at f;exact f _ _<|qD _ (gF b (o+l*25) _ y z d rfl rfl rfl).to
   .rw[bD1 FR] at f;have d:=gF b (o+l*25) _ y z d rfl rfl rfl;exact zc d fun h d=>f _ _<|wU<|(gV hb C H l (H l).1.lA _ _ mb b o cap g hJ.symm d).to
  .rw[bD2<|.inl q] at f;exact f _ _<|qD _ (gF b (o+l*25) _ y z d rfl rfl rfl).to
 .rw[bD1 A] at f;refine cF (bG (fun q=>bW ?_) fun q=>bW ?_)
  .rw[bD2 q] at f;refine bI d fun x h d=>aA (aE d rfl<|aC<|aA<|fQ k.1 k.2<|aE d (v:= .bool ((H l).1.dQ n.core.toNat)) ?_<|cZ<|fR<|dX (fun t=>?_) fun t=>?_)
   .have:n.core.toNat=0\/n.core.toNat=1\/n.core.toNat=2\/n.core.toNat=3:=FQ
    rcases this with e|e|e|e<;>rw[e]<;>rfl
   .rw[bD1 FR] at f;refine bC d FV (l:=n.enc) rfl rfl ?_;have d:=gF b (o+l*25) _ y z d rfl rfl rfl;have d:=gV hb C H l (H l).1 _ _ mb b o cap g hJ.symm d;rw[show bA H l ((H l).1,(H l).2)=H from zQ] at d;exact aKm hC u d g w k E.core fun v h d=>f _ _ d.to
   .rw[bD2 t] at f;exact f _ _<|qD _ (gF b (o+l*25) _ y z d rfl rfl rfl).to
  .rw[bD1 q] at f;refine bI d fun x h d=>aC<|aA<|aE d rfl<|bC d FV (l:=n.enc) rfl rfl<|aZ (c:=n.enc) rfl ?_;refine oR d rfl rfl rfl rfl rfl fun a h d=>yR d FQ ?_;intro a4 D h d;dsimp only;refine aC<|aA<|ax d fun h d=>dT eG<|f _ _ ?_;exact wU<|(gV hb C H l ((H l).1.lE n) _ _ mb b o cap g hJ.symm<|gF b (o+l*25) ((H l).1.lE n) a4 D d (by simp[bT.enc,bM,bT.lE]) (by simp[bT.lE])<|by simp[Ej,bT.lE]).to
end
variable {G:Bg} {h:AH}
section
variable {l:Nat} {H:nC} {n:aG}
theorem aVp (hC:C.Ok) (g:Ob G 0 iM) (u:Bh C H (2^30 - 1)) {t:Value}
  (a:Hs G h (aK p 0 n.enc::aK hb 0 (mH mb C b o cap)::gK G C.aF mb C (fun i=>(H i).2)::gQ G 25 240 (some ⟨b,o,none⟩) cap C.aF b o::fH C.aF (fun i=>gI b (o+i*25) (H i).1)::L)) (z:dF n.kind)
  (f:∀v q,Hs G q (gW v (eW C H n).2.1::jG G hb C (eW C H n).1::L)->Q (.tuple ⟨[v,I (eW C H n).2.2]⟩) q):Dd 177 4 [] Q [JM hb,JM p,t] h:=by
 rw[eW,bD1 FR] at f
 have y:=hC.1.2
 have no:¬((0<=n.core/\n.core<C.aB)/\C.kJ n.aI)->∀h,Hs G h (aK p 0 n.enc::aK hb 0 (mH mb C b o cap)::gK G C.aF mb C (fun i=>(H i).2)::gQ G 25 240 (some ⟨b,o,none⟩) cap C.aF b o::fH C.aF (fun i=>gI b (o+i*25) (H i).1)::L)->Q (.tuple ⟨[.slice none 0 0,I 10]⟩) h:=fun A h a=>by
  rw[bD1 A] at f;exact f _ _ (wU<|Eb C H hb mb b o cap a).to
 refine bW<|bI a fun B h a=>aA<|aE a rfl<|bF<|bG (fun w=>no FQ _ a.to) fun w=>?_
 refine aA<|aE a rfl<|aC<|aA<|aA<|aE a rfl<|fV<|bG (fun x=>no FQ _ a.to) fun x=>(aA<|aE a rfl<|Ca a<|cZ<|fR<|bG (fun k=>?_) fun k=>no FR _ a.to)
 rw[bD2 FR] at f
 have⟨l,hnl⟩:=ay k.1
 have d:l<C.aF:=by have:=k.2;omega
 have e:n.aI.toNat=l:=FQ
 rw[e,hnl] at f
 exact aVw (mb:=mb) (b:=b) (o:=o) (cap:=cap) hC g d hnl FQ (u l d).1 (by have:=(u l d).2;omega) a.to f
end
def M7 (hC:C.Ok) {H:nC} {n:aG} (e:Ob G 0 iM) (y:Bh C H (2^30 - 1)) (d:Hs G h L) [m:dZ (jG G hb C) L H L']
  (f:∀v i,Hs G i (gW v (eW C H n).2.1::jG G hb C (eW C H n).1::L')->Q (.tuple ⟨[v,I (eW C H n).2.2]⟩) i):JL 177 [JM hb,.agg ⟨n.enc⟩] h Q:=by
 refine cW<|fB (m.of d) ?_
 intro p h d
 obtain⟨mb,b,o,cap,d⟩:=rH d.qS
 have a:∀t,dF n.kind->Dd 177 4 [] Q [JM hb,JM p,t] h:=fun t g=>aVp (mb:=mb) (b:=b) (o:=o) (cap:=cap) hC e y d.to g f
 have no:¬dF n.kind->Q (.tuple ⟨[.slice none 0 0,I 15]⟩) h:=fun z=>by
  rw[eW,bD2 z] at f;exact f _ _ (wU<|Eb C H hb mb b o cap d).to
 refine dN<|cY<|bW<|aA<|aE d rfl<|cF<|bG (fun k=>bW<|cS k<|a _ HM) fun k=>bW<|cF<|bG (fun q=>bW<|cS q<|a _ HM) fun q=>bW ?_
 refine cF<|bG (fun u=>bW<|cS u<|a _ HM) fun u=>bW ?_
 exact cF<|bG (fun w=>bW<|cS w<|a _ HM) fun w=>bW<|cF<|bG (fun x=>a _ HM) fun x=>no HM
def aGt {H:nC} (q:Bh C H (2^30 - 1)) (d:Hs G h L) [m:dZ (jG G hb C) L H L']
  (e:∀i,Hs G i (jG G hb C (jT C H x).1::L')->Q (I (jT C H x).2) i):JL 266 [JM hb,I x] h Q:=by
 have⟨mb,b,o,cap,d⟩:=rH<|m.of d
 rw[jT] at e
 refine cW<|dN<|cY<|bW<|Ca d<|cZ<|fR<|bG (fun f=>bW ?_) fun f=>?_
 .rw[bD2 f] at e;obtain⟨l,rfl⟩:=ay f.1;simp[iN.oz,aL] at e;have g:l<C.aF:=by have:=f.2;omega
  have d:=Lo (H:=H) (b:=b) (o:=o) g d
  have⟨wa,wc,d⟩:=fN d
  have t:=(q l g).2
  refine aC<|aA<|aE d rfl<|fK g<|aC<|aA<|aE d rfl<|aZ (c:=(pQ l).enc) rfl<|aZ (c:=(pQ l).enc) rfl ?_
  refine eA d rfl rfl rfl fun a h d=>yR d FQ ?_
  intro a4 k h d
  refine aC<|aA<|ax d fun h d=>e _ ?_
  exact(gV hb C H l ((H l).1.lE<|pQ l) _ _ mb b o cap g hJ.symm<|gF b (o+l*25) ((H l).1.lE<|pQ l) a4 k d (by simp[bT.enc,bM,bT.lE]) (by simp[bT.lE])<|by simp[Ej,bT.lE]).to
 .rw[bD1 f] at e;exact e _ (Eb C H hb mb b o cap d).to
structure u9 (G:Bg) (A:HP) (jv:Value) (j:Int->Int->Int×Bool):Prop where
 ne:∀k:Value->Prop,k (.bool false)->cC (W3 true .eql jv .nilIface) k
 Nw:∀(h:AH) (L M:IU) (w l:Int) (Q:Value->AH->Prop),L.Perm (A::M)->Hs G h L->(∀h',Hs G h' L->Q (.tuple ⟨[I (j w l).1,.bool (j w l).2]⟩) h')->JL 200 [jv,I w,I l] h Q
section
variable {l:Nat} {H:nC} {n:aG}
def Dk (G:Bg) (hb p mb b o cap l:Nat) (C:bQ) (H:nC) (n:aG) (r:bT):IU:=
 [gI b (o+l*25) r,aK p 0 n.enc,aK hb 0<|mH mb C b o cap,gK G C.aF mb C fun i=>(H i).2,gQ G 25 240 (some ⟨b,o,none⟩) cap C.aF b o,E8 b o C.aF H l]
def aJd (q:l<C.aF) (g:n.kind≠3/\n.kind≠1/\n.kind≠2) (a:Hs G h (Dk G hb p mb b o cap l C H n r++L)) {t:Value}
  (d:∀v k,Hs G k (gW v (r.eY l (H l).2 n fun w=>j w l).2::jG G hb C (bA H l (r.eY l (H l).2 n fun w=>j w l).1)::L)->Q (.tuple ⟨[v,I 0]⟩) k):Dd 126 13 [] Q [JM hb,I l,jv,pt b (o+l*25) 0,JM p,t] h:=by
 rw[bT.eY,bD1 g.1,aaa] at d
 simp[Dk,gg,hT] at a
 refine bW<|Dj a fun a=>cF<|bG (fun f=>?_) fun f=>bW<|bI a ?_
 .rw[bD2 f] at d;exact d _ _<|wU<|(gV hb C H l r _ _ mb b o cap q hJ.symm a).to
 .rw[bD1 f] at d;intro y h a;refine bC a FV (l:=n.enc) rfl rfl ?_;obtain⟨u,x,a⟩:=fN<|a.bE<|gI b (o+l*25) r;refine aC<|aA<|ax a ?_;intro h a;have i:=a;refine aC (aA<|ax a fun h a=>dT eG<|dT (bC i FV rfl rfl<|xL<|by simp[wM,aG.enc]) ?_);have a:=gF b (o+l*25) (r.N0 n) u x a rfl rfl rfl;have e:(r.N0 n).iX (-1)=r.iX (-1):=rfl;refine W8 a fun v h a=>d _ _ ?_;rw[e] at a;exact(gV hb C H l ((r.N0 n).iO<|r.iX<|-1) _ _ mb b o cap q hJ.symm a).to
theorem jf (hC:C.Ok) (f:Ob G 0 iM) {A:HP} {u:IU} (x:u9 G A jv j) (hA:L.Perm (A::u)) (i:l<C.aF) (k:0<=n.core/\n.core<4) (y: -1<=r.owner/\r.owner<4) (g:n.kind=1\/n.kind=2) (d:Hs G h (Dk G hb p mb b o cap l C H n r++L))
  (e:∀v q,Hs G q (gW v (r.eY l (H l).2 n fun w=>j w l).2::jG G hb C (bA H l (r.eY l (H l).2 n fun w=>j w l).1)::L)->Q (.tuple ⟨[v,I 0]⟩) q):Dd 126 12 [] Q [JM hb,I l,jv,JM p] h:=by
 unfold bT.eY at e
 rw[aaa,bD2 g] at e
 simp[Dk,gg,hT] at d
 refine bW<|aA<|aE d rfl<|x.Nw _ _ _ _ _ _ ((hA.append_left<|Dk G hb p mb b o cap l C H n r).trans DN) d fun h d=>?_
 simp[Dk,gg,hT] at d
 refine aN rfl<|aN rfl<|cZ<|fR<|dX (fun t=>?_) fun t=>?_
 .rw[bD2 t] at e;refine bC d FV (l:=n.enc) rfl rfl ?_;have d:=gV hb C H l r _ _ mb b o cap i hJ.symm d;refine Ts hC f d i k (by grind[dI]) fun v h d=>e _ _ ?_;simp[dI,Al] at d;exact d.to
 .rw[bD1 FR] at e;refine aA<|aE d rfl<|aZ (c:=(mO 9 n.core l).enc) rfl<|aZ (c:=(mO 9 n.core l).enc) rfl<|eA d rfl rfl rfl fun a h d=>e _ _ ?_;exact(gV hb C H l r _ _ mb b o cap i hJ.symm<|K2 rfl d).to
theorem aOh (hC:C.Ok) (g:Ob G 0 iM) (i:l<C.aF) (f:0<=n.core/\n.core<4) (k:n.kind=3) (d:Hs G h (Dk G hb p mb b o cap l C H n r++L))
  (e:∀v q,Hs G q (gW v (r.eY l (H l).2 n fun w=>j w l).2::jG G hb C (bA H l (r.eY l (H l).2 n fun w=>j w l).1)::L)->Q (.tuple ⟨[v,I 0]⟩) q):Dd 126 6 [] Q [JM hb,I l,pt b (o+l*25) 0,JM p] h:=by
 rw[bT.eY,bD2 k] at e
 simp[Dk,gg,hT] at d
 refine bW<|bI d ?_
 intro z h d
 obtain⟨x,y,d⟩:=fN<|d.bE<|gI b (o+l*25) r
 refine aC<|aA<|aE d rfl<|aA<|aE d rfl<|cF<|bG (fun t=>?_) fun t=>?_
 .have d:=gF b (o+l*25) r x y d rfl rfl rfl;refine aA (aE d rfl<|dX (fun u=>bW<|bI d ?_) fun u=>bW ?_)
  .rw[bD2 ⟨t,u⟩] at e;intro z h d;refine aC<|aA<|aE d rfl<|aA<|bC d FV (l:=Vw (n.d0,n.d1)) rfl rfl<|Ut hC g d i fun h d=>(aA<|aE d rfl<|Mo d f fun h d=>?_);refine aA<|aE d rfl<|aZ (c:=(mO 10 n.core l).enc) rfl<|aZ (c:=(mO 10 n.core l).enc) rfl<|eA d rfl rfl rfl fun a h d=>e _ _ ?_;exact(gV hb C H l (r.iC n.core) (n.d0,n.d1) _ mb b o cap i rfl<|K2 rfl d).to
  .rw[bD1 FR] at e;refine aA<|aE d rfl<|Mo d f fun h d=>?_;refine aA<|aE d rfl<|aZ (c:=(mO 10 n.core l).enc) rfl<|aZ (c:=(mO 10 n.core l).enc) rfl<|eA d rfl rfl rfl fun a h d=>e _ _ ?_;exact(gV hb C H l (r.iC n.core) _ _ mb b o cap i hJ.symm<|K2 rfl d).to
 .rw[aaa] at e;have d:=gF b (o+l*25) r x y d rfl rfl rfl;refine aA<|aE d rfl<|Mo d f fun h d=>?_;refine aA<|aE d rfl<|aZ (c:=(mO 10 n.core l).enc) rfl<|aZ (c:=(mO 10 n.core l).enc) rfl<|eA d rfl rfl rfl fun a h d=>e _ _ ?_;exact(gV hb C H l (r.iC n.core) _ _ mb b o cap i hJ.symm<|K2 rfl d).to
end
theorem aMi (hC:C.Ok) {H:nC} {N:Nat} (g:Ob G 0 iM) {A:HP} {P:IU} (z:u9 G A jv j) (U:Bh C H N) (a:Hs G h L) [m:dZ (jG G hb C) L H L'] (hA:L'.Perm (A::P))
  (d:∀v E,Hs G E (gW v (eQ C H x fun w=>j w x).2.1::jG G hb C (eQ C H x fun w=>j w x).1::L')->Q (.tuple ⟨[v,I (eQ C H x fun w=>j w x).2.2]⟩) E):JL 126 [JM hb,I x,jv] h Q:=by
 have⟨mb,b,o,cap,a⟩:=rH<|m.of a
 rw[eQ] at d
 refine cW<|dN<|cY<|bW<|Ca a<|cZ<|fR<|bG (fun y=>bW<|z.ne _<|cY<|bW ?_) fun y=>?_
 rotate_left
 .rw[bD1 y] at d;exact d _ _ (wU<|Eb C H hb mb b o cap a).to
 rw[bD2 y] at d
 obtain⟨l,rfl⟩:=ay y.1
 have k:l<C.aF:=by have:=y.2;omega
 simp[aL] at d
 have a:=Lo (H:=H) (b:=b) (o:=o) k a
 have⟨wa,wc,a⟩:=fN a
 have qD:∀h,Hs G h (gI b (o+l*25) (H l).1::E8 b o C.aF H l::aK hb 0 (mH mb C b o cap)::gK G C.aF mb C (fun i=>(H i).2)::gQ G 25 240 (some ⟨b,o,none⟩) cap C.aF b o::L')->Hs G h (gW _ []::jG G hb C (bA H l<|H l)::L'):=fun h a=>
  wU ((gV hb C H l (H l).1 _ _ mb b o cap k hJ.symm a).to)
 rw[iN.dJ] at d
 refine aC<|aA<|aE a rfl<|fK k<|aC<|aA<|aE a rfl<|dX (fun F=>?_) fun F=>bW ?_
 .rw[bD2 F] at d;exact d _ _<|qD _ (gF b (o+l*25) _ wa wc a rfl rfl rfl).to
 rw[bD1 FR] at d
 refine aC<|aA<|aE a rfl<|dB<|cF<|bG (fun T=>?_) fun T=>bW ?_
 .have u:(H l).1.aH=[]:=FR;rw[u] at d;exact d _ _<|qD _ (gF b (o+l*25) _ wa wc a rfl rfl rfl).to
 .cases u:(H l).1.aH with
  |nil=>grind
  |cons n w=>
   rw[u] at d
   have q:=(U l k).1
   have t:=q.aH n FR
   have f:=a.bE<|eC 9 174 wa wc ((H l).1.aH.length,iK (H l).1.aH)
   rw[u] at f
   simp[js,S8] at f
   obtain⟨V,W,rfl,HH,B,_⟩:=f.vA FQ
   refine aC<|aA<|aE a rfl ?_
   rw[u]
   refine fK FW<|Sq B FV (l:=n.enc) (by simp[aG.enc]) rfl ?_
   apply cT f
   intro p h a
   refine an a fun h a=>aC<|aA<|aE a rfl ?_
   rw[u]
   refine aH5 (e:=174) a fun R S a=>aC<|aA<|ax a ?_
   intro h a
   have a:=gF b (o+l*25) ((H l).1.next w) R S a rfl rfl (by simp[bT.next,aG.enc])
   have a:Hs G h (Dk G hb p mb b o cap l C H n ((H l).1.next w)++L'):=by
    simp[Dk,gg,hT];exact a.to
   simp[Dk,gg,hT] at a
   refine aA<|aE a rfl<|cF<|bG (fun J=>aOh (j:=j) hC g k t J a d) fun J=>bW<|cF<|bG (fun D=>bW<|cS D<|jf (r:=(H l).1.next w) hC g z hA k t q.owner (.inl D) a d) fun D=>bW<|cF<|bG (fun O=>jf (r:=(H l).1.next w) hC g z hA k t q.owner (.inr O) a d) fun O=>aJd k FQ a d
end Go.Proofs.Z.H
end
variable {g:Int}
namespace Go.Proofs.Z
open Go.Hm Go.At Go.Mc
def aUs {a b c d:Bool} (f:k (.bool<|!(a||b||c||d))) {e:Bool} (hc:e=true:=by kernel_rfl):Wj e [1,1,1,1] .eql (.agg ⟨[.bool a,.bool b,.bool c,.bool d]⟩) (.agg ⟨[.bool false,.bool false,.bool false,.bool false]⟩) k:=by
 exact⟨hc,_,(by cases a<;>cases b<;>cases c<;>cases d<;>kernel_rfl),f⟩
attribute [local irreducible] cC Br vZ yU Ar Jj rJ Ce qL dj lQ sJ wV wJ vF rB A6 Yn Wh W3 Wi Wj gf qN tZ nJ mM Dv O9 pX Vx cn E2 Cl F3 ga zF yL oI jF eX dO
variable {G:Bg} {h:AH} {C:bQ} {m:Mon}
def Zq (d:jE C m) (hC:C.Ok) (a:m.kJ g):∃n:Nat,g=n/\n<m.eU.length/\n<16:=by
 have:=d.len;have:=hC.2.1;rw[Mon.kJ] at a;exact⟨g.toNat,FQ,FQ,FQ⟩
variable {r:Mc.mP}
def aDu (a:i<4):bM r.enc (0+8+i*1) [.bool false]=(r.dA i).enc:=by
 have:i=0\/i=1\/i=2\/i=3:=FQ
 rcases this with rfl|rfl|rfl|rfl<;>rfl
variable {f:Nat->Option Mc.mP}
def Wx {g:Nat}:T7 (oJ f) g (some<|.agg ⟨r.enc⟩)=oJ (bA f g<|some r):=Nx (x:=some r)
theorem V3 {core:Int} (hC:C.Ok) (B:jE C m) (a:Hs G h L) [D:dZ (jL C p) L m L'] (d:∀x,Hs G x (jL C p (m.eE C.aB g core).1::L')->Q (.tuple ⟨[.bool (m.eE C.aB g core).2.1,I (m.eE C.aB g core).2.2]⟩) x):JL 189 [JM p,I g,I core] h Q:=by
 have F:=hC.1;rw[Mon.eE] at d;have⟨t,b,a⟩:=oM<|D.of a;refine cW<|dN<|cY<|bW<|aC<|aA<|aE a rfl<|Ig a fun h a=>?_;by_cases v:m.kJ g;rotate_left;rw[bD1 v];rw[bD2 v] at d;exact aN rfl<|aN rfl<|cT a fun q h a=>an a fun h a=>bZ<|aae<|d _<|fU (t:=t) (b:=b) a.to;rw[bD2 v];rw[bD1 FR] at d;obtain⟨n,rfl,J,u⟩:=Zq B hC v;refine aN rfl<|aN rfl<|cT a fun q h a=>an a fun h a=>bZ<|aab<|bW<|aC<|aA<|aE a rfl<|W2 a<|cT a fun pr h a=>an a fun h a=>aA<|aE a rfl<|bZ<|bG (fun k=>?_) fun k=>?_;cases hr:m.run (n:Int) with
 |none=>rw[hr] at d;exact d _ (fU (t:=t) (b:=b) a.to)
 |some r=>
  rw[hr] at k d;simp only[ts] at k;dsimp only at d;rw[bD2 k] at d;exact d _<|fU (t:=t) (b:=b) a.to
 cases hr:m.run (n:Int) with
 |none=>rw[hr] at k;exact absurd (show(0:Int)≠1 by omega) k
 |some r=>
 rw[hr] at k a d;simp only[ts] at k a;dsimp only at d;rw[bD1 k] at d;by_cases y:0<=core/\core<C.aB;rotate_left;rw[bD2<|Or.inl y] at d;refine bW<|bF<|bG (fun A=>d _<|fU (t:=t) (b:=b) a.to) fun A=>aC<|aA<|aE a rfl<|fV<|aae<|d _<|fU (t:=t) (b:=b) a.to;obtain⟨i,rfl⟩:=ay y.1;have w:r.enc[0+8+i*1]?=some (.bool<|r.aH i):=by
  have:i=0\/i=1\/i=2\/i=3:=FQ
  rcases this with rfl|rfl|rfl|rfl<;>rfl
 refine bW<|bF<|aab<|aC<|aA<|aE a rfl<|fV<|aab<|aA<|kP FQ<|aE a w<|cZ<|fR ?_;rw[aL] at d;cases hw:r.aH i with
 |false=>
  rw[bD2<|Or.inr hw] at d;exact cY (d _<|fU (t:=t) (b:=b) a.to)
 |true=>
 rw[bD1 FR] at d;refine gA (bW<|aA<|kP FQ<|cG a rfl (by grind[Nat.ble_eq_true_of_le]) rfl rfl fun h a=>?_);rw[aDu FQ] at a;refine aA<|nD a FV (l:=[.bool _,.bool _,.bool _,.bool _]) rfl rfl<|aZ rfl<|aUs<|dX (fun f=>?_) fun f=>?_;have e:({(r.dA i) with phase:=2}:Mc.mP)=(r.dA i).gX:=by rw[mP.gX];rw[show(r.dA i).none=true from f];rfl
 refine bW<|aA<|ax a fun h a=>bI a fun E h a=>?_;have z:bM (r.dA i).enc (0+7) [I 2]=({(r.dA i) with phase:=2}:Mc.mP).enc:=rfl;rw[z,e] at a;refine aC<|aA<|aE a rfl<|bC a FV (l:=(r.dA i).gX.enc) rfl rfl<|Z1 a u fun h a=>?_;rw[Wx] at a;have a:Hs G h (jL C p (m.dL n<|some (r.dA i).gX)::L'):=(fU (m:=m.dL n<|some (r.dA i).gX)<|a.dV (aK p 0 [JM t,I C.aB,lC b]) (lZ t m.eU)<|qX b<|oJ<|bA m.eI n _).to;have:=d h a;rw[f];rwa [show(r.dA i).none=true from f] at this;have e:r.dA i=(r.dA i).gX:=by rw[mP.gX];rw[show(r.dA i).none=false from f];rfl
 rw[e] at a;refine bW<|bI a fun E h a=>aC<|aA<|aE a rfl<|bC a FV (l:=(r.dA i).gX.enc) rfl rfl<|Z1 a u fun h a=>?_;rw[Wx] at a;have a:Hs G h (jL C p (m.dL n<|some (r.dA i).gX)::L'):=(fU (m:=m.dL n<|some (r.dA i).gX)<|a.dV (aK p 0 [JM t,I C.aB,lC b]) (lZ t m.eU)<|qX b<|oJ<|bA m.eI n _).to;have:=d h a;rw[f];rwa [show(r.dA i).none=false from f] at this
theorem aHs (h:m.run (n:Int)=some r):m.eI n=some r:=by
 simp_all[Mon.run,bD2]
theorem wy (hC:C.Ok) (A:jE C m) (a:Hs G h L) [E:dZ (jL C p) L m L'] (d:∀u,Hs G u (jL C p (m.over g).1::L')->Q (.tuple ⟨[.agg ⟨zC<|(m.over g).2.1.getD Qt⟩,I (m.over g).2.2]⟩) u):JL 128 [JM p,I g] h Q:=by
 rw[Mon.over] at d;refine cW<|cT (cs:=zC Qt) (E.of a) fun q0 h a=>?_;obtain⟨t,b,a⟩:=oM<|a.bE<|jL C p m;refine dN<|cY<|bW<|aC<|aA<|aE a rfl<|Ig a fun h a=>?_;have bad:∀{h:AH} {M:IU} {e:Int},[F5 M L']->Hs G h (aK q0 0 (zC Qt)::aK p 0 [JM t,I C.aB,lC b]::lZ t m.eU::qX b (oJ m.eI)::M)->(∀u,Hs G u (jL C p m::L')->Q (.tuple ⟨[.agg ⟨zC Qt⟩,I e]⟩) u)->
   cC (tM [I 0,I 0,I 0,I 0,I 0,I 0,.bool false] []) fun y=>cC (Ar h 7 (JM q0)<|.agg ⟨y⟩) fun v=>cC (yU v 7<|JM q0) fun v12=>Q (.tuple ⟨[v12,I e]⟩) v:=by
  intro h M e _ a D
  exact aZ rfl<|an a fun h a=>bC a FV (l:=zC Qt) rfl rfl<|D _<|fU (t:=t) (b:=b) a.to
 by_cases w:m.kJ g;rotate_left;rw[bD1 w];rw[bD2 w] at d;exact aN rfl<|aN rfl<|cT a fun q h a=>an a fun h a=>bZ<|aae<|bad (M:=L') a.to d;rw[bD2 w];rw[bD1 FR] at d;obtain⟨n,rfl,F,B⟩:=Zq A hC w;refine aN rfl<|aN rfl<|cT a fun q h a=>an a fun h a=>bZ<|aab<|bW<|aC<|aA<|aE a rfl<|W2 a<|cT a fun pr h a=>an a fun h a=>aA<|aE a rfl<|bZ<|bG (fun k=>?_) fun k=>?_;cases hr:m.run (n:Int) with
 |none=>rw[hr] at d;exact bad (M:=L') a.to d
 |some r=>
  rw[hr] at k d;simp only[ts] at k;dsimp only at d;rw[bD2 k] at d;exact bad (M:=L') a.to d
 cases hr:m.run (n:Int) with
 |none=>rw[hr] at k;exact absurd (show(0:Int)≠2 by omega) k
 |some r=>
 rw[hr] at k a d;simp only[ts] at k a;dsimp only at d;rw[bD1 k] at d;have⟨o1,o2,o3,o4,o5⟩:=A.run n r<|aHs hr;refine bW<|bI a fun J h a=>aC<|aA<|aE a rfl<|aA<|aA<|aA<|aE a rfl<|aA<|aA<|aE a rfl<|aZ rfl<|Om (x:=⟨r.kB,_⟩) a fun h a=>?_;have i:(0<=r.aR/\r.aR<m.eU.length)/\(0<=r.kB/\r.kB<=4):=⟨FR,o5⟩;rw[bD2 i] at a;rw[bD2 i];refine bZ<|aab<|bW<|aC<|aA<|aE a rfl<|aTm a fun h a=>aA<|bC a FV (l:=zC r) rfl rfl<|an a fun h a=>bC a FV (l:=zC r) rfl rfl<|d _ ?_;have z:=Nx (f:=m.eI) (g:=n) (x:=none);rw[Option.map_none] at z;rw[z] at a;have a:Hs G h (jL C p ((m.oL r.aR.toNat ⟨r.kB,false⟩).dL n none)::L'):=(fU (m:=(m.oL r.aR.toNat ⟨r.kB,false⟩).dL n none)<|a.dV (aK p 0 [JM t,I C.aB,lC b]) (lZ t<|m.eU.set r.aR.toNat _)<|qX b<|oJ<|bA m.eI n none).to;exact a
end Go.Proofs.Z
section
attribute [local irreducible] cC Br vZ yU Ar Jj rJ Ce qL dj lQ sJ wV wJ vF rB A6 Yn Wh W3 Wi Wj gf qN tZ nJ mM Dv O9 pX Vx cn E2 Cl F3 ga zF yL oI jF eX dO
namespace Go.Proofs.Z
open Go.Hm Go.At Go.Mc
def Bt (m:Mon) (done:FK) (k:Nat):FN:=if(k:Int)∈done then oJ m.eI k else none
variable {m:Mon}
theorem aF2:Bt m []=fun _=>none:=by grind[Bt]
theorem aDw {done:FK} {k:Nat} {r:Mc.mP} (a:m.eI k=some r):T7 (Bt m done) k (some<|.agg ⟨r.enc⟩)=Bt m (done++[(k:Int)]):=by
 funext j;unfold T7 Bt;by_cases e:j=k;grind[oJ];grind
theorem aEg (a:∀g r,m.eI g=some r->g<16):Bt m (m.fO.map fun k:Nat=>(k:Int))=oJ m.eI:=by
 funext k;unfold Bt;split;rfl;rename_i d;cases hr:m.eI k with
 |none=>grind[oJ]
 |some r=>grind[absurd,yC]
variable {G:Bg} {h:AH} {C:bQ}
abbrev aXl (C:bQ) (m:Mon) (p p2 p3 q t b:Nat) (e:Nat->Value) (d l:Nat) (done:FK):HP:=
 sp [pD Pr 164 (qK 122) 39 e d l (.ready,none),sp [aK p2 0 [JM p],aK p3 0 [JM q]],jL C p m,sp [aK q 0 [JM t,I C.aB,lC b],lZ t m.eU,qX b<|Bt m done]]
theorem Up (hC:C.Ok) (B:jE C m) (a:Hs G h L) [R:dZ (jL C p) L m L'] (P:∀q z,Hs G z (jL C q m::jL C p m::L')->Q (JM q) z):JL 164 [JM p] h Q:=by
 have A:=B.len;have O:=hC.2.1;refine cW<|fB (R.of a) fun g h a=>(aE a rfl<|dN<|cY ?_);obtain⟨t0,F,a⟩:=oM<|a.bE<|jL C p m;refine bW<|bI a fun V W f=>aE f rfl<|aC<|aA<|aE f rfl<|xt FQ f fun t h a=>(aE a rfl<|aC<|aA<|aE a rfl<|aE a rfl<|aC<|aA<|aE a rfl<|aU9 a fun _=>aY4<|vd a rfl rfl fun b h a=>?_);refine aZ (c:=[JM t,I C.aB,lC b]) rfl (Gw a rfl rfl fun q h a=>nI a rfl rfl fun i h a=>an a fun h a=>(dT (aE f rfl eG)<|dT (aC eG)<|dT (aA eG)<|dT (aE f rfl lG)<|dT (aE f rfl eG)<|dT (aC eG)<|dT (aA eG)<|dT (aE f rfl<|by simp[wM,lC]) ?_));have a:=fU<|a.dV (aK p 0 [JM t0,I C.aB,lC F]) (lZ t0 m.eU) _;refine aE a rfl<|Kf (C:=C) a fun U S T h a=>nY a fun d h a=>fun e N=>rK a fun l h a=>xU rfl ?_;rw[<-aF2 (m:=m)] at a;have a:Hs G h (H.Ug 3 U S T (m.fO.map fun k:Nat=>(k:Int))::aXl C m p g i q t b e d l []::mk d ()::L'):=by
  have a:=(a.dV (aK q 0 [JM t,I C.aB,lC b]) (lZ t m.eU)<|qX b<|Bt m []).Vy;have a:=(a.dC (aK g 0 [JM p])<|aK i 0 [JM q]).F6;have a:=(a.rL (pD Pr 164 (qK 122) 39 e d l (.ready,none)) (sp [aK g 0 [JM p],aK i 0 [JM q]]) (jL C p m)<|sp [aK q 0 [JM t,I C.aB,lC b],lZ t m.eU,qX b<|Bt m []]).Rx;exact a.to
 refine(H.Hb HI).No
  (Z:=fun _ _=>Dw False) a ?_ ?_ ?_
 .intro done x h M D a;have a:=a.un4;obtain⟨k,u,rfl⟩:∃k∈m.fO,(k:Int)=x:=by
   obtain⟨Y,y⟩:=D;have:x∈m.fO.map fun k:Nat=>(k:Int):=by rw[<-y];simp
   grind
  obtain⟨r,E⟩:=c7.1 (yC.1 u).2;have w:m.run (k:Int)=some r:=by unfold Mon.run;rw[aac];exact E
  have a:=(a.bE<|sp [aK g 0 [JM p],aK i 0 [JM q]]).A7;have a:=(a.bE<|sp [aK q 0 [JM t,I C.aB,lC b],lZ t m.eU,qX b<|Bt m done]).Fc;refine rW (yJ a) N<|kV a fun h a=>bI a fun V h a=>?_;obtain⟨t2,J,a⟩:=oM<|a.bE<|jL C p m;refine aE a rfl<|aC<|aA<|aE a rfl<|aE a rfl<|aC<|aA<|aE a rfl<|W2 a ?_;rw[w];refine Z1 a (yC.1 u).1 fun h a=>lM a fun h a=> .inl ⟨rfl,?_⟩;rw[show(some r).getD Qt=r from rfl,aDw E] at a;have a:=fU<|a.dV (aK p 0 [JM t2,I C.aB,lC J]) (lZ t2 m.eU) _;have a:=(a.dV (aK q 0 [JM t,I C.aB,lC b]) (lZ t m.eU)<|qX b<|Bt m<|done++[(k:Int)]).Vy;have a:=(a.dC (aK g 0 [JM p])<|aK i 0 [JM q]).F6;have a:=(a.rL (pD Pr 164 (qK 122) 39 e d l (.ready,none)) (sp [aK g 0 [JM p],aK i 0 [JM q]]) (jL C p m)<|sp [aK q 0 [JM t,I C.aB,lC b],lZ t m.eU,qX b<|Bt m<|done++[(k:Int)]]).Rx;exact a.to
 intro v h a;have a:=(a.bE<|aXl C m p g i q t b e d l (m.fO.map fun k:Nat=>(k:Int))).un4;have a:=(a.bE<|sp [aK g 0 [JM p],aK i 0 [JM q]]).A7;have a:=(a.bE<|sp [aK q 0 [JM t,I C.aB,lC b],lZ t m.eU,qX b<|Bt m (m.fO.map fun k:Nat=>(k:Int))]).Fc;rw[aEg<|B.aZ1 hC] at a;have a:=fU<|a.dV (aK q 0 [JM t,I C.aB,lC b]) (lZ t m.eU) _;exact rD a fun h a=>rF<|aE a rfl<|qQ a fun h a=>nU<|P _ _ a.to
 .intro done x v h D a;obtain⟨X,_⟩:=(a.bE<|Dw False).z7;grind
end Go.Proofs.Z
end
variable {ov:Value} {os:FK} {w:Int}
namespace Go.Proofs.Z
open Go.Hm Go.At Go.Mc
def aJ3 {t:TypeId} (a:k (.bool false)):cC (W3 true .eql (.iface t v) .nilIface) k:=⟨_,rfl,a⟩
attribute [local irreducible] cC Br vZ yU Ar Jj rJ Ce qL dj lQ sJ wV wJ vF rB A6 Yn Wh W3 Wi Wj gf qN tZ nJ mM Dv O9 pX Vx cn E2 Cl F3 ga zF yL oI jF eX dO
variable {G:Bg} {h:AH} {C:bQ} {m:Mon}
theorem av (a:A.Qh G ov os) (d:k (I os.length)):cC (rB ov) k:=A.sY a (by grind[A.Ac])
def qM {α:Type} {l:List α} (h:i<l.length):∃x,l[i]?=some x/\l.drop i=x::l.drop (i+1):=⟨l[i],FW,l7 h⟩
def B3 (os:FK):JH:=os.map fun o=>⟨o,false⟩
theorem Zk (g:A.Qh G ov os) (v:os.length<=16) (q:∀o∈os,0<=o/\o<=4) {t0:Value} (k:∀d,Hs G d L->Dd 45 4 [] Q [t0,ov] d):
  ∀(f i:Nat) (h:AH),i+f=os.length->Hs G h L->Dd 45 2 [] Q [t0,ov,ov,I os.length,I i] h:=by
 intro f
 induction f with
 |zero=>intro i h e a;exact bW (bF<|aab<|k _ a)
 |succ f u=>
  intro i h e a
  have⟨x,hx,hd⟩:=qM (l:=os) (i:=i) FQ
  have t:=q x FR
  have a:=A.zB g a
  exact bW<|bF<|aae<|bW<|C1 a (x:=[I x]) (by simp[A.Lg,hx]) rfl<|bF<|aab<|qA<|aab<|bW<|aad<|u (i+1) h FQ a.tail
def aCy (a:os[i]?=some x):(B3 (os.take i)++List.replicate (os.length - i) qF).set i ⟨x,false⟩=B3 (os.take<|i+1)++List.replicate (os.length - (i+1)) qF:=by
 have⟨hi,hxi⟩:=ew.1 a;have d:(B3<|os.take i).length=i:=by simp[B3];omega
 rw[List.set_append_right _ _ FQ,d,BZ,show os.length - i=(os.length - (i+1))+1 by omega,BR,List.set_cons_zero,AP,a];simp[B3]
theorem aCi (hC:C.Ok) (g:A.Qh G ov os) (F:os.length=C.aM.toNat) (B:∀o∈os,0<=o/\o<=4) (a:Hs G h L) (z:∀q u,Hs G u (jL C q ⟨B3 os,fun _=>none⟩::L)->Q (.tuple ⟨[JM q,I 0]⟩) u):JL 45 [I C.aB,ov] h Q:=by
 have E:=hC.1;have w:=hC.2.1;refine cW<|bF<|aab<|qA<|aab<|av g<|bF<|aab<|av g<|qA<|aab<|bW<|av g<|Zk g FQ B ?_ os.length 0 h FQ a;intro h a;refine bW<|av g<|aDz FQ a fun t h a=>aN rfl<|aN rfl<|bZ<|aab<|bW<|aHq a fun b h a=>(aZ (c:=[JM t,I C.aB,lC b]) rfl<|fB a fun q h a=>av g ?_);have loop:∀(f i:Nat) (h:AH),i+f=os.length->Hs G h (lZ t (B3 (os.take i)++List.replicate (os.length - i) qF)::aK q 0 [JM t,I C.aB,lC b]::qX b (fun _=>none)::L)->Dd 45 7 [] Q [JM q,ov,I os.length,I i] h:=by
  intro f;induction f with
  |zero=>
   intro i h y a;refine bW<|bF<|aab<|z _ _ ?_;have k:i=os.length:=FQ
   subst k;rw[BF,BZ,List.replicate_zero,kx] at a;have a:Hs G h (aK q 0 [JM t,I C.aB,lC b]::lZ t (B3 os)::qX b (fun _=>none)::L):=a.to;exact fU a
  |succ f D=>
   intro i h y a;have⟨x,hx,hd⟩:=qM (l:=os) (i:=i) FQ;have a:=A.zB g a;refine bW (bF<|aae<|bW<|C1 a (x:=[I x]) (by simp[A.Lg,hx]) rfl<|aC<|aA<|aE a rfl<|aZ rfl<|Om (x:=⟨x,_⟩) a.tail fun h a=>?_);have v:(B3 (os.take i)++List.replicate (os.length - i) qF).length=os.length:=by simp[B3];omega
   have d:(0<=(i:Int)/\(i:Int)<(B3 (os.take i)++List.replicate (os.length - i) qF).length)/\(0<=(⟨x,false⟩:mV).owner/\(⟨x,false⟩:mV).owner<=4):=FR;rw[bD2 d] at a;rw[aL,aCy hx] at a;exact bZ<|aab<|bW<|aad<|D (i+1) h FQ a
 have e:(os.length:Int).toNat=os.length:=FQ;apply loop os.length 0 h FQ;rw[e] at a;have e2:List.replicate os.length qF=B3 (os.take 0)++List.replicate (os.length - 0) qF:=rfl;rw[e2] at a;exact a.to
theorem P2 (hC:C.Ok) (k:Ob G 0 iM) (a:Hs G h L)
  (d:∀e,Hs G e L->Q (if C.kJ x then .tuple ⟨[I<|x/2,I 0]⟩ else .tuple ⟨[I 0,I 10]⟩) e):JL 134 [.agg ⟨C.enc⟩,I x] h Q:=by
 have hb:=(bQ.fF hC).2.2
 have i:C.kJ x↔0<=x/\x<C.aF:=Iff.rfl
 refine cW<|fB a fun p h a=>bF<|bG (fun f=>?_) fun f=>?_
 .rw[bD1 FR] at d;exact d _ a.tail
 refine bC a FV (l:=C.enc) rfl rfl<|uS hC k a fun h a=>fV<|bG (fun g=>?_) fun g=>?_
 .rw[bD1 FR] at d;exact d _ a.tail
 .rw[bD2 FR] at d;exact M4 FQ FQ FQ<|d _ a.tail
def Ue (C:bQ) (m:Mon) (aY aI:Int):Int×Bool:=if C.kJ aI then((m.jX<|aI/2).owner,!(m.jX<|aI/2).lB&&yM aY (m.jX<|aI/2).owner) else(0,false)
def mw (hC:C.Ok) (v:jE C m) (k:Ob G 0 iM) (a:Hs G h L) [y:dZ (jL C p) L m L'] (d:∀g,Hs G g (jL C p m::L')->Q (.tuple ⟨[I (Ue C m w x).1,.bool (Ue C m w x).2]⟩) g):JL 374 [.agg ⟨C.enc++[JM p]⟩,I w,I x] h Q:=by
 have i:=v.len;have hb:=bQ.fF hC;rw[Ue] at d;refine cW<|fB (y.of a) fun q h a=>aA<|nD a FV (l:=C.enc) rfl rfl<|P2 hC k a fun h a=>?_;by_cases f:C.kJ x;rotate_left;rw[bD1 f];rw[bD1 f] at d;exact aN rfl<|aN rfl<|bZ<|aae<|d _ a.to;rw[bD2 f];rw[bD2 f] at d;rw[bQ.kJ] at f;have⟨t,b,a⟩:=oM<|a.bE<|jL C p m;refine aN rfl<|aN rfl<|bZ<|aab<|bW<|aA<|aE a rfl<|aC<|aA<|aE a rfl<|Ig a fun h a=>?_;rw[bD2<|by rw[Mon.kJ];omega];refine aN rfl<|aN rfl<|cT a fun u h a=>an a fun h a=>bZ<|aab<|bI a fun z h a=>aA<|aE a rfl<|aA<|aE a rfl<|cZ<|fR ?_;have e:=fU<|a.dV (aK p 0 [JM t,I C.aB,lC b]) (lZ t m.eU) _;cases hk2:(m.jX _).lB with
 |true=>
  rw[hk2] at d;exact gA (dT (aA eG)<|dT (aE a rfl lG)<|d _ e.to)
 |false=>
  rw[hk2] at d;exact cY<|aA<|aE a rfl<|ct<|dT (aA eG)<|dT (aE a rfl lG)<|d _ e.to
def br (hC:C.Ok) (g:jE C m) (f:Ob G 0 iM):H.u9 G (jL C p m) (.iface 304<|.agg ⟨C.enc++[JM p]⟩) (Ue C m) where
 ne:=fun k a=>aJ3 a
 Nw:=by
  intro h L M w l Q e d a;refine aTt rfl<|mw hC g f (d.cI e) fun h d=>⟨rfl,a _<|d.cI e.symm⟩
end Go.Proofs.Z
namespace Go.Proofs.Z.C
open Go.Hm Go.Ct
def uF {g a:Nat} {i:Int} (d:0<=i) (e:i<n) (f:k (pt g (i.toNat*a) 0)):cC (tZ n a (.pointer<|some ⟨g,0,none⟩)<|I i) k:=
 fQ (b:=g) (o:=0) (j:=0) d e (by simpa [pt] using f)
def xA {s:Int} (h:0<=s/\s<5):oO[s.toNat*8+1]?=some (.bool<|Qc s)/\oO[s.toNat*8+2]?=some (.bool<|Cm s)/\oO[s.toNat*8+3]?=some (.bool<|qH s)/\oO[s.toNat*8+4]?=some (.bool<|Kv s)
  /\oO[s.toNat*8+5]?=some (I<|if Cm s then 4 else 0)/\oO[s.toNat*8+6]?=some (I<|Rm s)/\oO[s.toNat*8+7]?=some (I 0):=by
 have:s=0\/s=1\/s=2\/s=3\/s=4:=FQ
 rcases this with rfl|rfl|rfl|rfl|rfl<;>exact⟨rfl,rfl,rfl,rfl,rfl,rfl,rfl⟩
attribute [local irreducible] cC Br vZ yU Ar Jj rJ Ce qL dj lQ sJ wV wJ vF rB A6 Yn Wh W3 Wi Wj gf qN tZ nJ mM Dv O9 pX Vx cn E2 Cl F3 ga zF yL oI jF eX dO
variable {G:Bg} {h:AH}
theorem Gm (d:Q (.bool<|isS x) h):JL 290 [I x] h Q:=by
 refine cW<|fV<|bG (fun a=>bF ?_) fun a=>?_;show Q _ _;rw[show decide _=isS x from BH.2 FQ];exact d;show Q _ _;simp_all[false,isS,cr]
def cx (h:isS x=true):0<=x/\x<5:=c8 h
def Zi (h:isS x=false):Qc x=false/\Cm x=false/\qH x=false/\Kv x=false:=by
 have:=DA h;refine⟨cr ?_,cr ?_,cr ?_,cr ?_⟩<;>omega
def aQ4 (f:Ob G 6 oO) (g:Hs G h L) (e:Q (.bool<|Qc x) h):JL 311 [I x] h Q:=by
 refine cW<|Gm<|dX (fun a=>?_) fun a=>?_;have d:=cx a;exact uF d.1 d.2<|aA<|Gt g f (xA d).1 e;rw[(Zi a).1] at e;exact e
def oy (f:Ob G 6 oO) (g:Hs G h L) (e:Q (.bool<|Cm x) h):JL 293 [I x] h Q:=by
 refine cW<|Gm<|dX (fun a=>?_) fun a=>?_;have d:=cx a;exact uF d.1 d.2<|aA<|Gt g f (xA d).2.1 e;rw[(Zi a).2.1] at e;exact e
def Vf (f:Ob G 6 oO) (g:Hs G h L) (e:Q (.bool<|qH x) h):JL 314 [I x] h Q:=by
 refine cW<|Gm<|dX (fun a=>?_) fun a=>?_;have d:=cx a;exact uF d.1 d.2<|aA<|Gt g f (xA d).2.2.1 e;rw[(Zi a).2.2.1] at e;exact e
def jo (f:Ob G 6 oO) (g:Hs G h L) (e:Q (.bool<|Kv x) h):JL 292 [I x] h Q:=by
 refine cW<|Gm<|dX (fun a=>?_) fun a=>?_;have d:=cx a;exact uF d.1 d.2<|aA<|Gt g f (xA d).2.2.2.1 e;rw[(Zi a).2.2.2] at e;exact e
def aIj (e:Ob G 6 oO) (f:Hs G h L) (d:Cm x=true) (g:Q (.tuple ⟨[I 4,I 0]⟩) h):JL 252 [I x] h Q:=by
 have a:0<=x/\x<5:=by have:=c8 d;omega
 refine cW<|Gm ?_;rw[show isS x=true from cj a];refine cZ<|cY<|bW<|oy e f ?_;rw[d];have:=(xA a).2.2.2.2.1;rw[bD2 d] at this;exact cZ<|cY<|uF a.1 a.2<|aA<|Gt f e this g
def Yu {to:Int} (d:Ob G 6 oO) (e:Hs G h L) (a:0<=x/\x<5) (k:to=0\/to=1) (g:Q (.tuple ⟨[I<|kL x to,.bool<|Kv x,.bool<|qH x,I 0]⟩) h):JL 339 [I x,I to] h Q:=by
 refine cW<|Gm ?_;rw[show isS x=true from cj a];refine cZ<|cY ?_;have i:=(xA a).2.2.2.2.2.1;have f:=(xA a).2.2.2.2.2.2;rcases k with rfl|rfl;exact bZ<|aae<|bZ<|aab<|bW<|uF a.1 a.2<|aA<|Gt e d (o:=x.toNat*8) (j:=7) f<|cF<|aab<|jo d e<|Vf d e g;exact bZ<|aab<|uF a.1 a.2<|aA<|Gt e d (o:=x.toNat*8) (j:=7) f<|cF<|cS rfl<|bW<|uF a.1 a.2<|aA<|Gt e d (o:=x.toNat*8) (j:=6) i<|jo d e<|Vf d e g
def Y0 {x:vX} {w:Bool} (f:Ob G 6 oO) (a:Hs G h L) (e:∀d,Hs G d L->Q (.bool<|sZ x.st w) d):JL 248 [.agg ⟨x.enc⟩,.bool w] h Q:=by
 refine cW<|fB a ?_;intro p h a;cases w;exact cY<|aA<|aE a rfl<|aQ4 f a<|e _ a.tail;exact gA<|aA<|aE a rfl<|oy f a<|e _ a.tail
end Go.Proofs.Z.C
variable {no:Int} {cp:Nat}
section
attribute [local irreducible] cC Br vZ yU Ar Jj rJ Ce qL dj lQ sJ wV wJ vF rB A6 Yn Wh W3 Wi Wj gf qN tZ nJ mM Dv O9 pX Vx cn E2 Cl F3 ga zF yL oI jF eX dO
namespace Go.Proofs.Z.C
open Go.Hm Go.Ct
variable {S:Nat->IV}
section
variable {G:Bg} {h:AH}
def dL (b o:Nat) (l:IV):HP:=Cr fun x:FM×Nat=>sp [aK b o [.slice x.1 l.length x.2],eC 5 256 x.1 x.2 (l.length,iR l)]
def Ay {l:IV} (d:Hs G h (dL b o l::L)):∃a c,Hs G h (aK b o [.slice a l.length c]::eC 5 256 a c (l.length,iR l)::L):=by
 have⟨⟨a,c⟩,d⟩:=d.Cc;exact⟨a,c,d.fL⟩
def oP (b o:Nat) (l:IV) {e:IU} (g:Hs G h L) [m:dZ (aK b o) L [.slice a n c] e] [m2:dZ (eC 5 256 a c) e (n,cs) L2] (f:n=l.length) (d:cs=iR l):Hs G h (dL b o l::L2):=by
 subst f d;exact Hs.Cq (a,c)<|Hs.nS<|g.cI<|m.cI.trans<|m2.cI.cons _
structure TgA where
 b:Nat
 o:Nat
 cap:Nat
def sH (ways n b o cap:Nat):FJ:=[I ways,.slice (some ⟨b,o,none⟩) n cap]
def mD (G:Bg) (t ways n:Nat) (S:Nat->IV):HP:=Cr fun x:TgA=>
 sp [aK t 0<|sH ways n x.b x.o x.cap,gQ G 1 253 (some ⟨x.b,x.o,none⟩) x.cap n x.b x.o,fH n fun i=>dL x.b (x.o+i*1)<|S i]
def Tq {ways:Nat} (a:Hs G h (mD G t ways n S::L)):∃b o cap,Hs G h (aK t 0 (sH ways n b o cap)::gQ G 1 253 (some ⟨b,o,none⟩) cap n b o::fH n (fun i=>dL b (o+i*1)<|S i)::L):=by
 have⟨⟨b,o,cap⟩,a⟩:=a.Cc;exact⟨b,o,cap,a.fL⟩
def Jc {ways:Nat} (a:Hs G h (aK t 0 (sH ways n b o cap)::gQ G 1 253 (some ⟨b,o,none⟩) cap n b o::fH n (fun i=>dL b (o+i*1)<|S i)::L)):Hs G h (mD G t ways n S::L):=
 Hs.Cq (A:=fun x:TgA=>sp [aK t 0<|sH ways n x.b x.o x.cap,gQ G 1 253 (some ⟨x.b,x.o,none⟩) x.cap n x.b x.o,fH n fun i=>dL x.b (x.o+i*1)<|S i]) ⟨b,o,cap⟩ (Hs.nS (A:=[_,_,_]) a)
def pn (b o n:Nat) (S:Nat->IV) (l:Nat):HP:=sp<|((List.range n).erase l).map fun i=>dL b (o+i*1)<|S i
def Rh {ways l:Nat} (d:l<n) (a:Hs G h (mD G t ways n S::L)):∃b o cap,Hs G h (dL b (o+l*1) (S l)::aK t 0 (sH ways n b o cap)::gQ G 1 253 (some ⟨b,o,none⟩) cap n b o::pn b o n S l::L):=by
 have⟨b,o,cap,a⟩:=Tq a;exact⟨b,o,cap,(show Hs G h (dL b _ _::pn b o n S l::_) from((a.bE<|fH n fun i=>dL b (o+i*1)<|S i).pI l d)).to⟩
theorem Ae {e f d:IU} (t ways n:Nat) (S:Nat->IV) (l:Nat) (x:IV) (b o cap:Nat) (k:l<n) (a:Hs G h L) [u:fZ (dL b (o+l*1) x) L e] [v:fZ (aK t 0<|sH ways n b o cap) e L2]
  [w:fZ (gQ G 1 253 (some ⟨b,o,none⟩) cap n b o) L2 f] [y:fZ (pn b o n S l) f d]:Hs G h (mD G t ways n (bA S l x)::d):=by
 have a:Hs G h (dL b (o+l*1) x::pn b o n S l::aK t 0 (sH ways n b o cap)::gQ G 1 253 (some ⟨b,o,none⟩) cap n b o::d):=
  (a.cI<|u.cI.trans<|(v.cI.trans<|(w.cI.trans<|y.cI.cons _).cons _).cons _).to
 have g:(fun i=>dL b (o+i*1)<|bA S l x i) l=dL b (o+l*1) x:=by simp[dI]
 rw[<-g] at a
 rw[pn] at a
 exact Jc (b:=b) (o:=o) (cap:=cap) (a.tG (fun i=>dL b (o+i*1)<|S i) (fun i=>dL b (o+i*1)<|bA S l x i) k fun j _ q=>by grind[bO]).to
theorem aN7 {α:Type} {f:Nat->α}:bA f i (f i)=f:=by
 grind[bA]
theorem aDj {a2 o2:Nat} {l:IV} (hb:l.length<=4):∀(r i:Nat) (h:AH) (L:IU),i+r=l.length->ix no (l.take i)=none->Hs G h (aK p 0 [I no]::eC 5 256 (some ⟨a2,o2,none⟩) cp (l.length,iR l)::L)->
  (∀D,Hs G D (aK p 0 [I no]::eC 5 256 (some ⟨a2,o2,none⟩) cp (l.length,iR l)::L)->Q (.tuple ⟨[pt b o 0,I<|ixI no l,I 0]⟩) D)->
  Dd 310 3 [] Q [pt b o 0,I<|-1,.func (.func 338) #[] #[JM p],.slice (some ⟨a2,o2,none⟩) l.length cp,I l.length,I i] h:=by
 have B:∀(i:Nat) (l:IV) (t:Th),ix no (l.take i)=none->l[i]?=some t->ix no (l.take<|i+1)=if t.1=no then some i else none:=by
  intro i;induction i with
  |zero=>
   intro l t _ u;cases l with
   |nil=>cases u
   |cons a l=>cases u;simp[ix]
  |succ i z=>
   intro l t A u;cases l with
   |nil=>cases u
   |cons a l=>
    simp[BB,ix] at A ⊢;by_cases f:a.1=no;grind;rw[bD1 f] at A ⊢;rw[z l t (by simpa using A) FR];grind
 have x:∀(l:IV) (i j:Nat),ix no (l.take i)=some j->ix no l=some j:=by
  intro l;induction l with
  |nil=>grind
  |cons a l z=>
   intro i j h;cases i with
   |zero=>simp[ix] at h
   |succ i=>
    simp[BB,ix] at h ⊢;by_cases f:a.1=no;grind;cases hx:ix no (l.take i) with
    |none=>grind
    |some k=>grind
 intro r
 induction r with
 |zero=>
  intro i h L F y d g
  rw[fm FQ] at y
  simp[ixI,y] at g
  exact bW (bF<|aab<|g _ d)
 |succ r z=>
  intro i h L F y d g
  have v:i<l.length:=FQ
  have⟨t,u⟩:∃t,l[i]?=some t:=⟨_,b0 v⟩
  refine bW<|bF<|aae<|bW<|fK v ?_
  obtain⟨J,K,E,w⟩:=(d.bE<|eC 5 256 (some ⟨a2,o2,none⟩) cp (l.length,iR l)).jW FQ
  cases E
  refine Sq w FV (l:=thE t) (by simp_all[BY,oa]) rfl ?_
  apply cT<|w.oG (I7 l)<|Ed l
  intro q h d
  refine an d fun h d=>bC d FV (l:=thE t) rfl rfl ?_
  refine vB FU<|cW<|fB d ?_
  intro q2 h d
  have e:=B i l t y u
  refine aA<|aE d rfl<|aE d rfl<|cF<|bG (fun f=>?_) fun f=>?_
  .rw[bD2 f] at e;simp[ixI,x _ _ _ e] at g;exact bW<|g _ d.to
  .rw[bD1 f] at e;exact bW<|aad<|z (i+1) h L FQ e d.to g
def ki (e:no<0) (a:Hs G h L) (f:∀d,Hs G d L->Q (.tuple ⟨[.pointer none,I 0,I 10]⟩) d):JL 310 [JM t,I no] h Q:=by
 exact cW<|fB a fun p h a=>dN<|cY<|bW<|aE a rfl<|bF<|cS e<|f _ a.tail
theorem qC (a:0<n):cU n no<n:=by
 rw[cU];simp_all[CZ,Int,CY]
theorem Bx {ways:Nat} {l:IV} (x:0<n) (v:0<=no) (hb:l.length<=4) (e:Hs G h L) [m:dZ (aK t 0) L (sH ways n b o cap) L'] [m2:dZ (dL b<|o+cU n no*1) L' l M]
  (k:∀g,Hs G g (aK t 0 (sH ways n b o cap)::dL b (o+cU n no*1) l::M)->Q (.tuple ⟨[pt b (o+cU n no*1) 0,I<|ixI no l,I 0]⟩) g):JL 310 [JM t,I no] h Q:=by
 have e:=e.cI<|m.cI.trans<|m2.cI.cons _
 have⟨a,c,e⟩:=Ay e.qS
 refine cW<|fB e ?_
 intro p h e
 refine dN<|cY<|bW<|aE e rfl<|bF<|aab<|bW<|bI e ?_
 intro r h e
 have f:=e.bE<|aK t 0<|sH ways n b o cap
 have u:no % (n:Int)=((cU n no:Nat):Int):=by
  rw[cU];have:=CY no (show(n:Int)≠0 by omega);omega
 refine aC<|aA<|aE f rfl<|aE f rfl<|aC<|aA<|aE f rfl<|dB<|gq v FQ ?_
 rw[u]
 refine fK (qC x)<|aC ?_
 have d:=f.bE<|aK b (o+cU n no*1) [.slice a l.length c]
 refine aE d rfl<|dB ?_
 by_cases w:l.length=0
 .have i:l=[]:=FR;subst i;exact bW<|bF<|bD FW<|k _<|(oP b (o+cU n no*1) [] d rfl rfl).to
 .obtain⟨q,y,rfl,_⟩:=(d.bE<|eC 5 256 a c (l.length,iR l)).vA FQ;apply aDj (no:=no) hb l.length 0 h (aK t 0 (sH ways n b o cap)::aK b (o+cU n no*1) [.slice (some ⟨q,y,none⟩) l.length c]::M) FQ rfl d.to;intro g e;exact k _<|(oP b (o+cU n no*1) l e rfl rfl).to
end
section
def G8:bA S (cU n no) (S<|cU n no)=S:=aN7
def aSm {l:IV} (h:0<l.length):(iR l)[0*5+(0+0)]?=some (I (l[0]).1):=by
 cases l with
 |nil=>simp at h
 |cons y l=>rfl
theorem zb {l:IV} {x:vX} (h:l[i]?=some (no,x)):((iR l).drop<|i*5+1).take 4=x.enc:=by
 rw[<-x0];have a:(((iR l).drop<|i*5).take 5).drop 1=x.enc:=by rw[oa h];rfl
 grind[List.drop_take]
variable {G:Bg} {h:AH}
def Nn {ways:Nat} (g:0<n) (hb:∀i,(S i).length<=4) (d:Hs G h L) [m:dZ (mD G t ways n) L S L']
  (e:∀k,Hs G k (mD G t ways n S::L')->Q (.tuple ⟨[.agg ⟨(bJ n S no).1.enc⟩,I (bJ n S no).2]⟩) k):JL 247 [JM t,I no] h Q:=by
 have d:=m.of d
 refine cW<|cT d ?_
 intro p h d
 unfold bJ at e
 split at e
 .rename_i q;refine ki q d fun h d=>aN rfl<|aN rfl<|aN rfl<|bZ<|aae<|bC d FV (l:=vX.zero.enc) rfl rfl ?_;exact an d fun h d=>bC d FV (l:=vX.zero.enc) rfl rfl<|e _ d.tail
 .have⟨b,o,cap,d⟩:=Rh (qC (no:=no) g)<|d.bE<|mD G t ways n S;refine Bx g FQ (hb _) d fun h d=>aN rfl<|aN rfl<|aN rfl<|bZ<|aab<|bW ?_;cases hx:ix no (S<|cU n no) with
  |none=>
   rw[(H6 hx).1] at e
   simp only[ixI,hx]
   refine bF<|aae<|bC d FV (l:=vX.zero.enc) rfl rfl ?_
   refine an d fun h d=>bC d FV (l:=vX.zero.enc) rfl rfl<|e _ ?_
   have:=Ae t ways n S (cU n no) (S<|cU n no) b o cap (qC g) d
   rw[G8] at this
   exact this.to
  |some i=>
   have⟨x,h1,h2,h3,h4⟩:=Ew hx
   rw[h2] at e
   simp only[ixI,hx]
   have⟨a,c,d⟩:=Ay<|d.bE<|dL b (o+cU n no*1)<|S<|cU n no
   obtain⟨u,v,rfl,f⟩:=(d.bE<|eC 5 256 a c ((S<|cU n no).length,iR<|S<|cU n no)).jW FQ
   refine bF<|aab<|aC<|aE f rfl<|fK h4<|aA<|Sq f FV (l:=x.enc) (by exact zb h1) rfl ?_
   refine bN (f.oG (I7 _)<|Ed _) rfl rfl rfl rfl fun h d=>bC d FV (l:=x.enc) rfl rfl<|e _ ?_
   have d:=oP b (o+cU n no*1) _ d rfl rfl
   have:=Ae t ways n S (cU n no) (S<|cU n no) b o cap (qC g) d
   rw[G8] at this
   exact this.to
def aC3 {ways:Nat} (z:0<ways) (k:0<n) (y:0<=no) (hb:∀i,(S i).length<=4) (d:Hs G h L) [m:dZ (mD G t ways n) L S L']
  (f:∀q,Hs G q (mD G t ways n S::L')->Q (match kR n ways S no with|some v=> .tuple ⟨[I v.1,.bool true,I 0]⟩|none=> .tuple ⟨[I 0,.bool false,I 0]⟩) q):JL 312 [JM t,I no] h Q:=by
 have d:=m.of d
 rw[kR] at f
 apply cW
 have⟨b,o,cap,d⟩:=Rh (qC (no:=no) k)<|d.bE<|mD G t ways n S
 refine Bx k FQ (hb _) d fun h d=>aN rfl<|aN rfl<|aN rfl<|bZ<|aab<|bW<|bI d ?_
 intro r h d
 have vO:∀{h:AH},Hs G h (y4 r (13,[])::aK t 0 (sH ways n b o cap)::dL b (o+cU n no*1) (S<|cU n no)::gQ G 1 253 (some ⟨b,o,none⟩) cap n b o::pn b o n S (cU n no)::L')->Hs G h (mD G t ways n S::L'):=fun d=>by
  have:=Ae t ways n S (cU n no) (S<|cU n no) b o cap (qC k) d;rw[G8] at this;exact this.to
 cases hx:ix no (S<|cU n no) with
 |some i=>
  have⟨x,h1,h2,h3,h4⟩:=Ew hx
  rw[h2] at f
  simp only[ixI,hx]
  exact fV (aae<|f _<|vO d)
 |none=>
  rw[(H6 hx).1] at f
  simp only[ixI,hx]
  obtain⟨a,c,d⟩:=Ay<|d.bE<|dL b (o+cU n no*1)<|S<|cU n no
  refine fV<|aab<|aC<|aE d rfl<|dB<|aC<|aA<|aE d rfl<|bF<|bG (fun u=>?_) fun u=>?_
  .simp[bD2<|show(S<|cU n no).length<ways by omega] at f;exact f _<|vO<|(oP b (o+cU n no*1) _ d rfl rfl).to
  .have g:0<(S<|cU n no).length:=FQ
   simp[bD1<|show ¬(S<|cU n no).length<ways by omega,b0 g] at f
   obtain⟨w,A,rfl,e⟩:=(d.bE<|eC 5 256 a c ((S _).length,iR<|S<|cU n no)).jW g
   refine aC<|aE e rfl<|fK g<|aA<|aS1 e ?_<|f _ ?_
   .exact aSm g
   .have e:=e.oG (I7 _)<|Ed _;exact vO<|(oP b (o+cU n no*1) _ e rfl rfl).to
theorem W6 {l:IV} (t:i<l.length) (hb:l.length<=4) (d:Hs G h L) [m:dZ (eC 5 256 a c) L (l.length,iR l) L']
  (u:∀f,Hs G f (eC 5 256 a c (l.length - 1,iR<|l.take i++l.drop (i+1))::L')->Q (.slice a (l.length - 1) c) f):JL 315 [.slice a l.length c,I i,I<|(i:Int)+1] h Q:=by
 have d:=m.of d
 have e:l.length<=c:=by
  obtain⟨r,y,⟨_,_,w⟩,_⟩:=d.fst;rcases w with⟨x,_⟩|⟨x,_⟩|⟨e,_⟩;grind;grind;exact e
 have⟨b,o,ha,_⟩:=d.vA FQ
 refine cW<|dB<|tn (v:= .slice (some ⟨b,o+i*5,none⟩) (i+1 - i) (l.length - i)) ?_ ?_
 .subst ha;have g:sM (some<|I l.length) c c=some l.length:=GI
  have k:sM (some<|I<|(i:Int)+1) l.length l.length=some (i+1):=by simp only[sM];rw[aac];congr 1
  have q:sM (some<|I i) 0 (i+1)=some i:=GI
  simp only[Dv,g,k,q,BL,y0,ef,aO,dx,FQ,fD]
  grind
 refine cF<|aab<|bW<|dB<|bI d ?_
 intro r h d
 refine aRl (i:=i) FV rfl rfl t d ?_
 intro h d
 apply u _
 rw[aD2,<-vf,<-Uw]
 exact d.to
theorem jk {l:IV} (h:ix no l=some i):zM no l=l.take i++l.drop (i+1):=by grind[Ew]
theorem mr {l:IV} (h:ix no l=some i):l.length - 1=(zM no l).length:=by
 grind[Ew,Re]
theorem bp {ways:Nat} (k:0<n) (hb:∀i,(S i).length<=4) (d:Hs G h L) [m:dZ (mD G t ways n) L S L']
  (e:∀q,Hs G q (mD G t ways n (jQ n S no)::L')->Q (.tuple ⟨[.agg ⟨(bJ n S no).1.enc⟩,I (bJ n S no).2]⟩) q):JL 313 [JM t,I no] h Q:=by
 have d:=m.of d
 refine cW<|cT d ?_
 intro p h d
 unfold bJ jQ at e
 by_cases g:no<0
 .rw[bD2 g,bD2 g] at e;refine ki g d fun h d=>aN rfl<|aN rfl<|aN rfl<|bZ<|aae<|bC d FV (l:=vX.zero.enc) rfl rfl ?_;exact an d fun h d=>bC d FV (l:=vX.zero.enc) rfl rfl<|e _ d.tail
 .rw[bD1 g,bD1 g] at e;have⟨b,o,cap,d⟩:=Rh (qC (no:=no) k)<|d.bE<|mD G t ways n S;refine Bx k FQ (hb _) d fun h d=>aN rfl<|aN rfl<|aN rfl<|bZ<|aab<|bW ?_;cases hx:ix no (S<|cU n no) with
  |none=>
   rw[(H6 hx).1,(H6 hx).2,G8] at e
   simp only[ixI,hx]
   refine bF<|aae<|bC d FV (l:=vX.zero.enc) rfl rfl ?_
   refine an d fun h d=>bC d FV (l:=vX.zero.enc) rfl rfl<|e _ ?_
   have:=Ae t ways n S (cU n no) (S<|cU n no) b o cap (qC k) d
   rw[G8] at this
   exact this.to
  |some i=>
   have⟨x,h1,h2,h3,h4⟩:=Ew hx
   rw[h2] at e
   simp only[ixI,hx]
   have⟨a,c,d⟩:=Ay<|d.bE<|dL b (o+cU n no*1)<|S<|cU n no
   obtain⟨u,v,rfl,f⟩:=(d.bE<|eC 5 256 a c ((S<|cU n no).length,iR<|S<|cU n no)).jW FQ
   refine bF<|aab<|bW<|aC<|aE f rfl<|fK h4<|aA<|Sq f FV (l:=x.enc) (by exact zb h1) rfl ?_
   refine bN (f.oG (I7 _)<|Ed _) rfl rfl rfl rfl fun h d=>aC<|aE d rfl<|cE FR<|W6 h4 (hb _) d fun h d=>?_
   refine aC<|ax d fun h d=>bC d FV (l:=x.enc) rfl rfl ?_
   refine an d fun h d=>bC d FV (l:=x.enc) rfl rfl<|e _ ?_
   rw[mr hx,<-jk hx] at d
   exact(Ae t ways n S (cU n no) (zM no<|S<|cU n no) b o cap (qC k)<|oP b (o+cU n no*1) _ d rfl rfl).to
end
variable {G:Bg} {h:AH}
def aY8 {t ways cap:Nat} {x:vX} {l:IV} (hb:l.length<=4)
  (d:Hs G h (aK p 0 x.enc::aK b (o+cU n no*1) [.slice a l.length c]::eC 5 256 a c (l.length,iR l)::L))
  (g:∀e,Hs G e (dL b (o+cU n no*1) (l++[(no,x)])::L)->Q (I 0) e):Dd 253 4 [] Q [I no,JM p,pt b (o+cU n no*1) 0] h:=by
 refine bW<|bI d ?_
 intro r h d
 refine aC<|aE d rfl<|bC d FV (l:=x.enc) rfl rfl<|aZ (c:=I no::x.enc) rfl<|aZ (c:=thE (no,x)) rfl ?_
 refine oR d rfl rfl rfl rfl rfl fun k h d=>yR d FQ ?_
 intro i q h d
 refine aC<|ax d fun h d=>dT (show wM _ _=true by simp[wM,pt])<|g _ ?_
 have f:iR l++thE (no,x)=iR (l++[(no,x)]):=by simp[iR]
 have d:=oP b (o+cU n no*1) _ d FW f
 exact d.to
theorem J6 {ways:Nat} {x:vX} (B:0<=no) (k:0<n) (hb:∀i,(S i).length<=4) (d:Hs G h L) [m:dZ (mD G t ways n) L S L']
  (f:∀v,Hs G v (mD G t ways n (pB n ways S no x).1::L')->Q (I (pB n ways S no x).2) v):JL 253 [JM t,I no,.agg ⟨x.enc⟩] h Q:=by
 have d:=m.of d
 refine cW<|fB d ?_
 intro p h d
 obtain⟨b,o,cap,d⟩:=Rh (qC (no:=no) k)<|d.bE<|mD G t ways n S
 refine Bx k FQ (hb _) d fun h d=>aN rfl<|aN rfl<|aN rfl<|bZ<|aab ?_
 obtain⟨a,c,d⟩:=Ay<|d.bE<|dL b (o+cU n no*1)<|S<|cU n no
 refine bW ?_
 have sL:∀{h:AH} {M:IU},Hs G h (aK t 0 (sH ways n b o cap)::aK p 0 x.enc::aK b (o+cU n no*1) [.slice a (zM no<|S<|cU n no).length c]::eC 5 256 a c ((zM no<|S<|cU n no).length,iR<|zM no<|S<|cU n no)::
   gQ G 1 253 (some ⟨b,o,none⟩) cap n b o::pn b o n S (cU n no)::L')->
   (cC (sJ<|pt b (o+cU n no*1) 0) fun A=>cC (vZ h A) fun v9=>cC (rB v9) fun v10=>cC (sJ<|JM t) fun v11=>cC (lQ 0 v11) fun v12=>cC (vZ h v12) fun q=>cC (A6 .geq v10 q) fun u=>
    Br u (Q (I 11) h) (Dd 253 4 [] Q [I no,JM p,pt b (o+cU n no*1) 0] h)):=by
  intro h M d
  have g:(zM no<|S<|cU n no).length<=4:=by rw[Re];have:=hb<|cU n no;split<;>omega
  unfold pB at f
  refine aC<|aE d rfl<|dB<|aC<|aA<|aE d rfl<|fV<|bG (fun z=>?_) fun z=>?_
  .rw[aac] at f;refine f _ ?_;exact(Ae t ways n S (cU n no) (zM no<|S<|cU n no) b o cap (qC k)<|oP b (o+cU n no*1) _ d rfl rfl).to
  .rw[aaa] at f;exact aY8 (t:=t) (ways:=ways) (cap:=cap) g (show Hs G h (aK p 0 x.enc::aK b _ _::eC 5 256 a c ((zM no _).length,iR _)::aK t 0 (sH ways n b o cap)::
    gQ G 1 253 (some ⟨b,o,none⟩) cap n b o::pn b o n S (cU n no)::L') from d.to) fun h d=>f _ (Ae t ways n S (cU n no) (zM no (S<|cU n no)++[(no,x)]) b o cap (qC k) d).to
 cases hx:ix no (S<|cU n no) with
 |none=>
  have e:=(H6 hx).2
  simp only[ixI,hx]
  refine fV<|aab<|bW<|bI d fun r h d=>sL (M:=[]) ?_
  rw[e]
  exact d.to
 |some i=>
  obtain⟨y,D,E,F,w⟩:=Ew hx
  simp only[ixI,hx]
  refine fV<|aae<|bW ?_
  refine aC<|aE d rfl<|cE FR<|W6 w (hb _) d fun h d=>(aC<|ax d ?_)
  intro h d
  refine bI d fun r h d=>sL (M:=[]) ?_
  rw[mr hx,<-jk hx] at d
  have d:=d.sg (b:=b) (o:=o+cU n no*1) (c:=[.slice a _ c]) rfl
  exact d.to
def Ts {ways:Nat} (q:0<=no) (k:0<n) (hb:∀i,(S i).length<=4) (a:Hs G h L) [m:dZ (mD G t ways n) L S L']
  (d:∀g,Hs G g (mD G t ways n (Gh n ways S no)::L')->Q (.tuple ⟨[.agg ⟨(bJ n S no).1.enc⟩,I<|aJt n ways S no]⟩) g):JL 251 [JM t,I no] h Q:=by
 have a:=m.of a
 refine cW<|cT a fun p h a=>bp (ways:=ways) k hb a fun h a=>aN rfl<|aN rfl<|an a ?_
 intro h a
 unfold Gh aJt at d
 refine bZ<|bG (fun f=>?_) fun f=>?_
 .rw[bD1 f,bD1 f] at d;exact bC a FV (l:=(bJ n S no).1.enc) rfl rfl<|an a fun h a=>bC a FV (l:=(bJ n S no).1.enc) rfl rfl<|d _ a.tail
 .rw[aac,aac] at d;apply bI a;intro r h a;refine bC a FV (l:=(bJ n S no).1.enc) rfl rfl (bC a FV (l:=(bJ n S no).1.enc) rfl rfl<|J6 (ways:=ways) q k (aLq hb) a fun h a=>(an a fun u e=>dT ?_ ?_))
  .exact bC a FV (l:=(bJ n S no).1.enc) rfl rfl (xL<|by simp[vX.enc,wM])
  .exact am p e (l:=(bJ n S no).1.enc) rfl rfl (d _ e.to)
end Go.Proofs.Z.C
end
variable {q:Nat}
namespace Go.Proofs.Z.C
open Go.Hm Go.Ct
def aVb (d:a=none->k (.bool true)) (e:a≠none->k (.bool false)):cC (Wh .eql (.slice a n c)<|.slice none 0 0) k:=by
 cases a with
 |none=>exact⟨_,rfl,d rfl⟩
 |some a=>exact⟨_,rfl,e FW⟩
attribute [local irreducible] cC Br vZ yU Ar Jj rJ Ce qL dj lQ sJ wV wJ vF rB A6 Yn Wh W3 Wi Wj gf qN tZ nJ mM Dv O9 pX Vx cn E2 Cl F3 ga zF yL oI jF eX dO
variable {G:Bg} {h:AH}
def aAg (d:Hs G h (fH n (fun i=>aK b (o+i*1) [.slice none 0 0])::L)):Hs G h (fH n (fun i=>dL b (o+i*1) [])::L):=
 Hs.To (g:=fun i=>dL b (o+i*1) []) n _ (fun i _ h L d=>(oP b (o+i*1) [] (a:=none) (c:=0) (n:=0) (cs:=[]) (lF (W:=5) (e:=256) d).qS rfl rfl)) d
def mf {s:Int} (q:1<=s/\s<=8) (t:1<=w/\w<=4) (d:Hs G h L) (k:∀p f,Hs G f (mD G p w.toNat s.toNat (fun _=>[])::L)->Q (.tuple ⟨[JM p,I 0]⟩) f):JL 88 [I s,I w] h Q:=by
 refine cW<|bF<|aab<|qA<|aab<|bF<|aab<|qA<|aab<|Y6 FQ FQ FQ ?_;dsimp only;refine eA d ?_ rfl ?_ ?_;rw[kZ,xS (W:=1) fun _=>rfl];rw[kZ];exact zZ (fun _=>rfl) _;intro a h d;obtain⟨b,o,g,d⟩:=Hs.Uo (W:=1) rfl FQ d;cases g;have e:w=(w.toNat:Int):=FQ
 refine aZ (c:=sH w.toNat s.toNat b o s.toNat) (by unfold sH;rw[<-e];rfl)<|fB d fun p h d=>k p h ?_;have d:=aAg<|d.bE<|fH s.toNat fun i=>aK b (o+i*1) _;exact Jc (b:=b) (o:=o) (cap:=s.toNat) d.to
theorem aM9 {l:IV} (hb:l.length<=4) (d:Hs G h L) [m:dZ (eC 5 256 a c) L (l.length,iR l) L']
  (k:∀e f i,Hs G i (eC 5 256 e f (l.length,iR l)::eC 5 256 a c (l.length,iR l)::L')->Q (.slice e l.length f) i):JL 316 [.slice a l.length c] h Q:=by
 have d:=m.of d
 refine cW<|aVb (fun g=>gA ?_) fun _=>cY<|aZ rfl ?_
 .subst g;have q:l=[]:=by
   cases l with
   |nil=>rfl
   |cons y l=>obtain⟨b,o,g,_⟩:=d.vA FW;cases g
  subst q
  exact k none 0 h<|lF d
 .refine eA d rfl rfl rfl fun t h d=>yR d FQ ?_;intro e f h d;have:=k e f h HY;show Q _ _;grind
variable {S:Nat->IV}
theorem aFo {p b2 o2 cap2 ways:Nat} (E:n<=8) (hb:∀i,(S i).length<=4)
  (x:∀t,Hs G t (fH n (fun i=>dL b (o+i*1)<|S i)::fH n (fun i=>dL b2 (o2+i*1)<|S i)::aK q 0 (sH ways n b2 o2 cap2)::L)->Q (JM q) t):∀(r i:Nat) (h:AH) (M:IU),i+r=n->
  Hs G h (fH n (fun i=>dL b (o+i*1)<|S i)::fH n (fun j=>dL b2 (o2+j*1)<|if j<i then S j else [])::aK q 0 (sH ways n b2 o2 cap2)::L)->
  Dd 256 2 [] Q [JM q,.slice (some ⟨b,o,none⟩) n cap,I n,I i] h:=by
 intro r
 induction r with
 |zero=>
  intro i h M w k
  have:i=n:=FQ
  subst this
  exact bW (bF<|aab<|x _<|(zN (fun j D=>FR) k.qS).qS)
 |succ r z=>
  intro i h M w k
  have e:i<n:=FQ
  refine bW<|bF<|aae<|bW<|fK e ?_
  have g:=k.pI i e
  obtain⟨a,c,g⟩:=Ay g
  refine aE g rfl<|bI g fun F h k=>aC<|aA<|aE k rfl<|aM9 (hb i) k fun A B h k=>?_
  have f:=(k.bE<|fH n fun j=>dL b2 (o2+j*1)<|if j<i then S j else []).pI i e
  simp only[EO,dx] at f
  obtain⟨a3,c3,f⟩:=Ay f
  refine fK e<|ax f ?_
  intro v d
  refine dT eG<|dT (aC eG)<|dT (aA eG)<|dT (aE f rfl j0)<|dT lG<|aad<|z (i+1) v [] FQ ?_
  have d:=oP b2 (o2+i*1) _ d rfl rfl
  have u:dL b2 (o2+i*1) (S i)=(fun j=>dL b2 (o2+j*1)<|if j<i+1 then S j else []) i:=by simp only[CN,eD]
  rw[u] at d
  have d:=d.tG (fun j=>dL b2 (o2+j*1)<|if j<i then S j else []) (fun j=>dL b2 (o2+j*1)<|if j<i+1 then S j else []) e fun j _ y=>by
   grind
  have d:=oP b (o+i*1) _ d rfl rfl
  have d:=d.tG _ (fun j=>dL b (o+j*1)<|S j) e fun _ _ _=>rfl
  exact d.to
def aQ3 {ways:Nat} (g:0<n) (w:n<=8) (hb:∀i,(S i).length<=4) (d:Hs G h L) [m:dZ (mD G t ways n) L S L']
  (v:∀q k,Hs G k (mD G q ways n S::mD G t ways n S::L')->Q (JM q) k):JL 256 [JM t] h Q:=by
 obtain⟨b,o,cap,d⟩:=Tq<|m.of d
 refine cW<|dN<|cY<|bW<|bI d fun x h d=>aC<|aA<|aE d rfl<|aC<|aA<|aE d rfl<|dB<|aIz FQ FQ ?_
 dsimp only
 refine oR d rfl rfl ?_ rfl ?_ ?_
 .rw[kZ,xS (W:=1) fun _=>rfl]
 .rw[kZ];exact zZ (fun _=>rfl) _
 intro a h d
 obtain⟨e,f,u,d⟩:=Hs.Uo (W:=1) rfl g d
 cases u
 refine aZ (c:=sH ways n e f n) rfl ?_
 refine Gw d rfl rfl fun q h d=>aC<|aA<|aE d rfl<|dB ?_
 have d:=aAg<|d.bE<|fH n fun i=>aK e (f+i*1) _
 refine aFo (G:=G) (p:=0) (ways:=ways) (b2:=e) (o2:=f) (cap2:=n) (L:=aK t 0 (sH ways n b o cap)::gQ G 1 253 (some ⟨b,o,none⟩) cap n b o::gQ G 1 253 (some ⟨e,f,none⟩) n n e f::L') w hb ?_ n 0 h [] FQ ?_
 .intro h d;refine v q h ?_;have d:Hs G h (aK q 0 (sH ways n e f n)::gQ G 1 253 (some ⟨e,f,none⟩) n n e f::fH n (fun i=>dL e (f+i*1)<|S i)::aK t 0 (sH ways n b o cap)::gQ G 1 253 (some ⟨b,o,none⟩) cap n b o::fH n (fun i=>dL b (o+i*1)<|S i)::L'):=d.to;have d:=Jc d;have d:Hs G h (aK t 0 (sH ways n b o cap)::gQ G 1 253 (some ⟨b,o,none⟩) cap n b o::fH n (fun i=>dL b (o+i*1)<|S i)::mD G q ways n S::L'):=d.to;exact(Jc d).qS
 .simp only[Nat.not_lt_zero,dx];exact d.to
end Go.Proofs.Z.C
section
attribute [local irreducible] cC Br vZ yU Ar Jj rJ Ce qL dj lQ sJ wV wJ vF rB A6 Yn Wh W3 Wi Wj gf qN tZ nJ mM Dv O9 pX Vx cn E2 Cl F3 ga zF yL oI jF eX dO
namespace Go.Proofs.Z.C
open Go.Hm Go.Ct
variable {C:bQ} {s:jR} {S:Nat->IV}
section
def pA (t:Nat) (C:bQ) (core:Int) (s:jR):FJ:=JM t::(C.enc++[I core,I s.al,.bool s.aw,.bool s.pM,I s.gl,I s.gc.st,I s.gc.w,I s.gc.d.1,I s.gc.d.2,.bool s.uD])
variable {G:Bg} {h:AH}
def lR (G:Bg) (c:Nat) (C:bQ) (core:Int) (s:jR):HP:=Cr fun t:Nat=>sp [aK c 0<|pA t C core s,mD G t C.ways.toNat C.aU.toNat s.S]
def pZ {core:Int} (a:Hs G h (lR G c C core s::L)):∃t,Hs G h (aK c 0 (pA t C core s)::mD G t C.ways.toNat C.aU.toNat s.S::L):=by
 obtain⟨t,a⟩:=a.Cc;exact⟨t,a.fL⟩
def dY (c t:Nat) (C:bQ) (core:Int) (s:jR) {a:IU} (f:Hs G h L) [m:dZ (aK c 0) L cs a] [m2:dZ (mD G t C.ways.toNat C.aU.toNat) a S L2] (d:cs=pA t C core s) (e:S=s.S):Hs G h (lR G c C core s::L2):=by
 subst d;subst e;exact Hs.Cq t<|Hs.nS<|f.cI<|m.cI.trans<|m2.cI.cons _
variable {core:Int}
def Ca (hC:C.Ok) {l:Int} (g:Ob G 0 iM) (a:Hs G h L) [m:dZ (lR G c C core) L s L'] (d:∀e,Hs G e (lR G c C core s::L')->Q (.bool<|vK C l) e):JL 258 [JM c,I l] h Q:=by
 obtain⟨t,a⟩:=pZ<|m.of a;refine cW<|fV<|bG (fun f=>?_) fun f=>?_;refine aC<|aA<|bC a FV (l:=C.enc) rfl rfl<|uS hC g a fun h a=>bF ?_;show Q _ _;rw[show decide _=vK C l from BH.2 FQ];exact d _<|dY c t C core s a rfl rfl;rw[show vK C l=false from cr FQ] at d;exact d _<|dY c t C core s a rfl rfl
def Z9 (hC:C.Ok) (hb:Bd s) {l i:Int} {w:Bool} (k:Ob G 6 oO) (a:Hs G h L) [m:dZ (lR G c C core) L s L'] (d:∀g,Hs G g (lR G c C core s::L')->Q (.bool<|pK C.aU.toNat s.S l i w) g):JL 170 [JM c,I l,I i,.bool w] h Q:=by
 obtain⟨t,a⟩:=pZ<|m.of a;refine cW<|dN<|cY<|bW<|aC<|aA<|aE a rfl ?_;refine Nn (ways:=C.ways.toNat) (sO hC).1 hb a fun h a=>aN rfl<|aN rfl<|cT a fun p h a=>an a ?_;intro h a;unfold pK at d;refine cF<|bG (fun e=>aA<|aE a rfl<|cF<|bG (fun f=>?_) fun f=>?_) fun e=>?_;rw[cj e,cj f,AU,AU] at d;exact bC a FV (l:=(bJ C.aU.toNat s.S l).1.enc) rfl rfl<|Y0 k a fun h a=>d _ (dY c t C core s a rfl rfl).to;rw[cr f,r5,y0] at d;exact d _ (dY c t C core s a rfl rfl).to;rw[cr e,y0,y0] at d;exact d _ (dY c t C core s a rfl rfl).to
theorem kf (hC:C.Ok) (hb:Bd s) {l at' q:Int} {w:Bool} (t:Ob G 0 iM) (u:Ob G 6 oO) (d:Hs G h L) [m:dZ (lR G c C core) L s L'] (a:∀i,Hs G i (lR G c C core s::L')->Q (I<|tF C s.S l at' q w) i):JL 250 [JM c,I l,I at',I q,.bool w] h Q:=by
 have d:=m.of d;unfold tF at a;refine cW<|dN<|cY<|bW<|Ca (core:=core) hC t d fun h d=>cZ<|fR<|dX (fun g=>?_) fun g=>?_;rw[g] at a;simp only[Bool.true_eq_false,dx] at a;refine bF<|bG (fun e=>?_) fun e=>fV<|bG (fun f=>?_) fun f=>bW<|Z9 (core:=core) hC hb u d fun h d=>cZ<|fR<|dX (fun k=>?_) fun k=>?_;rw[bD2 e] at a;exact a _ d;rw[bD1 e,bD2 f] at a;exact a _ d;rw[bD1 e,bD1 f,bD1 FR] at a;exact a _ d;rw[bD1 e,bD1 f,bD2 k] at a;exact a _ d;rw[bD2 g] at a;exact a _ d
end
variable {ns:IT}
section
variable {G:Bg} {h:AH} {core:Int}
def jn {s':jR} {a:IU} (d:cs=pA t C core s') (e:S=s'.S) (f:Hs G h L) [m:dZ (aK c 0) L cs a] [m2:dZ (mD G t C.ways.toNat C.aU.toNat) a S L2]:Hs G h (lR G c C core s'::L2):=dY c t C core s' f d e
def aAy {l:Int} {wr:Bool} (F:ns.length<=1) (d:Hs G h (aK c 0 (pA t C core (tV core s l w wr ns).1)::mD G t C.ways.toNat C.aU.toNat s.S::eC 9 174 a cp (ns.length,iK ns)::L))
  (D:∀e f z,Hs G z (eC 9 174 e f ((tV core s l w wr ns).2.1.length,iK (tV core s l w wr ns).2.1)::lR G c C core (tV core s l w wr ns).1::L)->Q (.tuple ⟨[.slice e (tV core s l w wr ns).2.1.length f,I 0]⟩) z):
  Br (.bool wr) (Dd 249 10 [] Q [JM c,I l,I w,.slice a ns.length cp] h) (cC (sJ<|JM c) fun v35=>cC (lQ 8 v35) fun v36=>cC (vZ h v36) fun v37=>
   cC (tM [I 0,I 0,I 0,I 0,I 0,I 0,I 0,.bool false,I 0] [(0,1,(I 1)),(1,1,v37),(2,1,(I l)),(3,1,(I w))]) fun i=>
   cC (tM [I 0,I 0,I 0,I 0,I 0,I 0,I 0,.bool false,I 0] [(0,9,(.agg ⟨i⟩))]) fun u=>
   Ce h 9 174 u 1 1 fun v k=>cC (nJ 9 72 174 k (.slice a ns.length cp) v) fun g=>(fun y q=>Q (.tuple ⟨[y,I 0]⟩) q) g.1 g.2):=by
 have sL:∀{h:AH} {e:FM} {f:Nat} (x:aG),x=⟨if wr then 2 else 1,core,l,w,0,0,0,false,0⟩->Hs G h (eC 9 174 e f (ns.length+1,iK ns++x.enc)::aK c 0 (pA t C core (tV core s l w wr ns).1)::mD G t C.ways.toNat C.aU.toNat s.S::L)->Q (.tuple ⟨[.slice e (ns.length+1) f,I 0]⟩) h:=by
  intro h e f x E d;have B:(tV core s l w wr ns).2.1=ns++[x]:=by rw[E];rfl
  have:=D e f h;rw[B] at this;simp[dd,js,AY,iK,oX,AN,ET,kx,AD] at this;apply this;have d:=jn (c:=c) rfl rfl d;exact d.qS
 cases wr
 .refine cY (aC<|aA<|aE d rfl<|aZ rfl<|aZ (c:=(⟨1,core,l,w,0,0,0,_,0⟩:aG).enc) rfl<|eA d rfl rfl rfl ?_);intro A h d;exact yR d FQ fun e f h d=>sL ⟨1,core,l,w,0,0,0,_,0⟩ rfl d.to
 .refine gA (bW<|aC<|aA<|aE d rfl<|aZ (c:=(⟨2,core,l,w,0,0,0,_,0⟩:aG).enc) rfl<|aZ (c:=(⟨2,core,l,w,0,0,0,_,0⟩:aG).enc) rfl<|eA d rfl rfl rfl ?_);intro A h d;exact yR d FQ fun e f h d=>sL ⟨2,core,l,w,0,0,0,_,0⟩ rfl d.to
def aD8 {l:Int} {wr:Bool} (k:ns.length<=1) (d:Hs G h (aK c 0 (pA t C core s)::mD G t C.ways.toNat C.aU.toNat s.S::eC 9 174 a cp (ns.length,iK ns)::L))
  (i:∀e f g,Hs G g (eC 9 174 e f ((tV core s l w wr ns).2.1.length,iK (tV core s l w wr ns).2.1)::lR G c C core (tV core s l w wr ns).1::L)->Q (.tuple ⟨[.slice e (tV core s l w wr ns).2.1.length f,I 0]⟩) g):
  Dd 249 8 [] Q [JM c,I l,I w,.bool wr,.slice a ns.length cp] h:=by
 refine bW<|aZ (c:=[I l,.bool wr,.bool true]) rfl<|aC<|aA<|ax d ?_
 intro h d
 exact aAy (t:=t) k (d.sg (b:=c) (o:=0) (c:=pA t C core (tV core s l w wr ns).1) rfl) i
theorem aPn (hb:Bd s) {l:Int} {x:vX} {wr:Bool} (v:Ob G 6 oO) (d:Hs G h (aK p 0 x.enc::aK c 0 (pA t C core s)::mD G t C.ways.toNat C.aU.toNat S::L))
  (u:∀f g k r,r=tV core {s with S:=S,gl:=no,gc:=x,uD:=true} l w wr [⟨3,core,no,x.w,0,x.d.1,x.d.2,qH x.st,0⟩]->Hs G k (eC 9 174 f g (r.2.1.length,iK r.2.1)::lR G c C core r.1::L)->Q (.tuple ⟨[.slice f r.2.1.length g,I 0]⟩) k):
  Dd 249 11 [] Q [JM c,I l,I w,.bool wr,.slice none 0 0,I no,JM p] h:=by
 refine bW<|bC d FV (l:=x.enc) rfl rfl<|aZ (c:=[I no,I x.st,I x.w,I _,I _,.bool true]) rfl<|aC<|aA<|ax d ?_
 intro h d
 have d:=d.sg (b:=c) (o:=0) (c:=pA t C core {s with S:=S,gl:=no,gc:=x,uD:=true}) rfl
 refine bI d fun A h d=>aC<|aA<|aE d rfl<|aA<|aE d rfl<|aA<|bC d FV (l:=[I _,I _]) rfl rfl<|aA<|aE d rfl<|Vf v d ?_
 refine aZ (c:=(⟨3,core,no,x.w,0,x.d.1,x.d.2,qH x.st,0⟩:aG).enc) rfl<|aZ (c:=(⟨3,core,no,x.w,0,x.d.1,x.d.2,qH x.st,0⟩:aG).enc) rfl ?_
 apply oR d rfl rfl rfl rfl rfl
 intro y h d
 have d:=lF (W:=9) (e:=174) d
 apply yR d FQ
 intro f g z q
 have i:=d.bE<|aK p 0 x.enc
 refine dT j0<|dT eG<|dT (aC eG)<|dT (aA eG)<|dT (aE (d.bE<|aK c 0<|pA t C core {s with S:=S,gl:=no,gc:=x,uD:=true}) rfl lG)<|dT lG<|dT (aA eG)<|dT (aE i rfl lG)<|dT (aA eG)<|dT (bC i FV (l:=[I _,I _]) rfl rfl<|xL<|by simp[wM])<|aZ (c:=[I l,.bool wr,.bool true]) rfl<|aC<|aA<|ax q ?_
 intro h d
 refine aAy (t:=t) (s:={s with S:=S,gl:=no,gc:=x,uD:=true}) (ns:=[⟨3,core,no,x.w,0,x.d.1,x.d.2,qH x.st,0⟩]) (a:=f) (cp:=g) (L:=L) FW ?_ fun f g k=>u f g k _ rfl
 exact(show Hs G h (aK c 0 _::mD G t C.ways.toNat C.aU.toNat S::eC 9 174 f g (0+1,[]++(⟨3,core,no,x.w,0,_,_,_,0⟩:aG).enc)::L) from(d.sg (b:=c) (o:=0) (c:=pA t C core (tV core {s with S:=S,gl:=no,gc:=x,uD:=true} l w wr [⟨3,core,no,x.w,0,x.d.1,x.d.2,qH x.st,0⟩]).1) rfl).to)
theorem aK3 (hC:C.Ok) (hb:Bd s) {l:Int} (x:0<=l) {wr:Bool} (y:Ob G 6 oO) (a:Hs G h (aK c 0 (pA t C core s)::mD G t C.ways.toNat C.aU.toNat s.S::L))
  (d:∀f g i,Hs G i (eC 9 174 f g ((Ag C core s l w wr).2.1.length,iK (Ag C core s l w wr).2.1)::lR G c C core (Ag C core s l w wr).1::L)->Q (.tuple ⟨[.slice f (Ag C core s l w wr).2.1.length g,I (Ag C core s l w wr).2.2]⟩) i):
  cC (sJ<|JM c) fun v0=>cC (lQ 0 v0) fun v1=>cC (vZ h v1) fun v2=>JL 312 [v2,I l] h fun v3 u=>
   cC (wV 0 v3) fun v4=>cC (wV 1 v3) fun v5=>cC (wV 2 v3) fun v6=>cC (A6 .neq v6<|I 0) fun z=>
   Br z (Q (.tuple ⟨[.slice none 0 0,v6]⟩) u) (Dd 249 6 [] Q [JM c,I l,I w,.bool wr,.slice none 0 0,v4,v5] u):=by
 rw[Ag] at d
 refine aC<|aA<|aE a rfl<|aC3 (sO hC).2.2.1 (sO hC).1 x hb a fun h a=>?_
 cases hv:kR C.aU.toNat C.ways.toNat s.S l with
 |none=>
  simp[hv] at d
  exact aN rfl (aN rfl<|aN rfl<|bZ<|aab<|bW<|cY<|aD8 FW (show Hs G h (aK c 0 _::mD G t C.ways.toNat C.aU.toNat s.S::eC 9 174 none 0 (0,[])::L) from(lF (W:=9) (e:=174) a).to) d)
 |some v=>
  simp only[hv] at d
  refine aN rfl<|aN rfl<|aN rfl<|bZ<|aab<|bW<|gA<|bW<|aC<|aA<|aA<|aE a rfl<|dX (fun q=>?_) fun q=>?_
  .simp only[q,eD] at d;exact d none 0 h<|lF<|jn rfl rfl a
  .simp only[bD1<|show ¬(s.uD=true) from FR] at d;refine bW<|aC<|aA<|aE a rfl<|bp (ways:=C.ways.toNat) (sO hC).1 hb a fun h a=>aN rfl<|aN rfl<|cT a ?_;intro p h a;refine an a fun h a=>bZ (bG (fun k=>?_) fun k=>?_)
   .simp only[bD2 k] at d;exact d none 0 h<|lF<|(dY c t C core {s with S:=jQ C.aU.toNat s.S v.1} a rfl rfl).to
   .simp[bD1 k] at d;apply aPn hb y<|show Hs G h (aK p 0 (bJ C.aU.toNat s.S v.1).1.enc::aK c 0 (pA t C core s)::mD G t C.ways.toNat C.aU.toNat (jQ C.aU.toNat s.S v.1)::L) from a.to;rintro f g i r rfl;exact d f g i
theorem cz (hC:C.Ok) (hb:Bd s) {l:Int} {wr:Bool} (P:Ob G 0 iM) (D:Ob G 6 oO) (a:Hs G h L) [m:dZ (lR G c C core) L s L']
  (d:∀i k q,Hs G q (eC 9 174 i k ((fY C core s l w wr).2.1.length,iK (fY C core s l w wr).2.1)::lR G c C core (fY C core s l w wr).1::L')->Q (.tuple ⟨[.slice i (fY C core s l w wr).2.1.length k,I (fY C core s l w wr).2.2]⟩) q):
  JL 249 [JM c,I l,I w,.bool wr] h Q:=by
 have a:=m.of a
 rw[fY] at d
 refine cW<|dN<|cY<|bW<|Ca (core:=core) hC P a fun h a=>cZ<|fR<|dX (fun x=>?_) fun x=>?_
 .simp[x,Bool.true_eq_false,dx] at d;have F:=(c8 x).1;have⟨t,a⟩:=pZ a;refine bW (aC<|aA<|aA<|aE a rfl<|dX (fun A=>?_) fun A=>bW ?_)
  .simp only[A,eD] at d;exact d none 0 h<|lF<|dY c t C core s a rfl rfl
  .simp[A,aO,dx] at d;have v:¬(s.uD=true/\s.gl=l)->(cC (sJ<|JM c) fun v0=>cC (lQ 0 v0) fun v1=>cC (vZ h v1) fun v2=>JL 247 [v2,I l] h fun v3 f=>
     cC (wV 0 v3) fun v4=>cC (wV 1 v3) fun v5=>Jj f (.cells [I 0,I 0,I 0,I 0] 154 (0,0) true) fun J O=>cC (Ar O 4 (JM J) v4) fun y=>cC (A6 .eql v5<|I 0) fun v9=>
     Br v9 (cC (yU y 4<|JM J) fun v10=>JL 248 [v10,.bool wr] y fun v11 u=>Br v11 (Q (.tuple ⟨[.slice none 0 0,I 13]⟩) u)<|Dd 249 5 [] Q [JM c,I l,I w,.bool wr] u)
      (cC (sJ<|JM c) fun v0=>cC (lQ 0 v0) fun v1=>cC (vZ y v1) fun v2=>JL 312 [v2,I l] y fun v3 f=>
       cC (wV 0 v3) fun v4=>cC (wV 1 v3) fun v5=>cC (wV 2 v3) fun v6=>cC (A6 .neq v6<|I 0) fun R=>
       Br R (Q (.tuple ⟨[.slice none 0 0,v6]⟩) f) (Dd 249 6 [] Q [JM c,I l,I w,.bool wr,.slice none 0 0,v4,v5] f))):=by
    intro f
    simp[bD1 f] at d
    refine aC<|aA<|aE a rfl ?_
    refine Nn (ways:=C.ways.toNat) (sO hC).1 hb a fun h a=>aN rfl<|aN rfl<|cT a ?_
    intro p h a
    refine an a ?_
    intro h a
    have E:Hs G h (aK c 0 (pA t C core s)::mD G t C.ways.toNat C.aU.toNat s.S::aK p 0 (bJ C.aU.toNat s.S l).1.enc::L'):=a.to
    have z:∀{i k q} {X:FJ} {n:Nat} {N:jR},Hs G q (eC 9 174 i k (n,X)::lR G c C core N::aK p 0 (bJ C.aU.toNat s.S l).1.enc::L')->Hs G q (eC 9 174 i k (n,X)::lR G c C core N::L'):=fun a=>a.to
    refine cF<|bG (fun g=>?_) fun g=>?_
    .refine bC a FV (l:=(bJ C.aU.toNat s.S l).1.enc) rfl rfl (Y0 D a fun h a=>dX (fun B=>?_) fun B=>?_)
     .simp only[bD2<|show(bJ C.aU.toNat s.S l).2=0/\sZ _ wr=true from⟨g,B⟩] at d;exact d none 0 h<|lF (dY c t C core s a rfl rfl).to
     .simp[bD1<|show ¬((bJ C.aU.toNat s.S l).2=0/\sZ _ wr=true) from fun e=>by rw[B] at e;grind] at d;refine bW<|aK3 hC hb F D (show Hs G h (aK c 0 _::mD G t C.ways.toNat C.aU.toNat s.S::L') from a.to) d
    .exact aK3 hC hb F D E FR
   refine aC<|aA<|aA<|aE a rfl<|dX (fun f=>?_) fun f=>?_
   .refine aC (aA<|aA<|ai c a rfl<|cF<|bG (fun g=>?_) fun g=>bW<|v fun e=>g e.2);simp only[bD2<|show s.uD=true/\s.gl=l from⟨f,g⟩] at d;exact d none 0 h<|lF<|dY c t C core s a rfl rfl
   .exact v (fun e=>FR)
 .simp only[x,eD] at d;exact d none 0 h<|lF a
end
variable {G:Bg} {h:AH} {core:Int} {n:aG}
variable {r:Tk}
theorem yQ {a:jR} {e:Int} (i:∀d f g,Hs G g (eC 9 174 d f (r.2.1.length,iK r.2.1)::lR G c C core r.1::L)->Q (.tuple ⟨[.slice d r.2.1.length f,I r.2.2]⟩) g) (k:r=(a,[],e)) (q:Hs G h (lR G c C core a::L)):Q (.tuple ⟨[.slice none 0 0,I e]⟩) h:=by
 simp_all[none,lF]
theorem Vg {a:jR} {x:aG} {p:Addr} (g:∀d e f,Hs G f (eC 9 174 d e (r.2.1.length,iK r.2.1)::lR G c C core r.1::L)->Q (.tuple ⟨[.slice d r.2.1.length e,I r.2.2]⟩) f) (i:r=(a,[x],0)) (k:Hs G h (eC 9 174 (some p) 1 (1,x.enc)::lR G c C core a::L)):Q (.tuple ⟨[.slice (some p) 1 1,I 0]⟩) h:=by
 simp_all
abbrev TkK (G:Bg) (c:Nat) (C:bQ) (core:Int) (L:IU) (Q:Value->AH->Prop) (r:Tk):Prop:=∀a d e,Hs G e (eC 9 174 a d (r.2.1.length,iK r.2.1)::lR G c C core r.1::L)->Q (.tuple ⟨[.slice a r.2.1.length d,I r.2.2]⟩) e
theorem aPp (d:Hs G h (lR G c C core s::L)) (f:TkK G c C core L Q (Bm s n)):JL 318 [JM c,.agg ⟨n.enc⟩] h Q:=by
 have⟨t,d⟩:=pZ d;refine cW<|fB d ?_;intro p h d;refine bI d fun r h d=>aC<|aA<|aA<|ai c d rfl<|cZ<|fR<|dX (fun g=>?_) fun g=>?_;refine aC<|aA<|aA<|ai c d rfl<|aA<|ai p d rfl<|bZ<|bG (fun i=>?_) fun i=>?_;exact yQ f (a:=s) (e:=16) (by grind[Bm]) (dY c t C core s d rfl rfl).to;refine bW<|aZ (c:=[I 0,.bool false,.bool false]) rfl<|aC<|aA<|ax (b:=c) (o:=0) d ?_;intro h d;exact yQ f (a:={s with al:=0,aw:=false,pM:=false}) (e:=0) (by grind[Bm]) (dY c t C core {s with al:=0,aw:=false,pM:=false} d rfl rfl).to;exact yQ f (a:=s) (e:=16) (by simp[Bm,g]) (dY c t C core s d rfl rfl).to
theorem aEt (d:Hs G h (lR G c C core s::L)) (f:TkK G c C core L Q (rU s n)):JL 319 [JM c,.agg ⟨n.enc⟩] h Q:=by
 have⟨t,d⟩:=pZ d;refine cW<|fB d ?_;intro p h d;refine bI d fun r h d=>aC<|aA<|aA<|ai c d rfl<|cZ<|fR<|dX (fun g=>?_) fun g=>?_;refine aC<|aA<|aA<|ai c d rfl<|aA<|ai p d rfl<|bZ<|bG (fun i=>?_) fun i=>?_;exact yQ f (a:=s) (e:=12) (by grind[rU]) (dY c t C core s d rfl rfl).to;refine bW<|aZ (c:=[I 0,I 0,I 0,I 0,I 0,.bool false]) rfl<|aC<|aA<|ax (b:=c) (o:=0) d ?_;intro h d;exact yQ f (a:={s with gl:=0,gc:=vX.zero,uD:=false}) (e:=0) (by grind[rU]) (dY c t C core {s with gl:=0,gc:=vX.zero,uD:=false} d rfl rfl).to;exact yQ f (a:=s) (e:=12) (by simp[rU,g]) (dY c t C core s d rfl rfl).to
def aNs (d:Hs G h (aK p 0 n.enc::aK c 0 (pA t C core s)::mD G t C.ways.toNat C.aU.toNat S::L)) (e:TkK G c C core L Q r) (f:r=({s with S:=S,al:=0,aw:=false,pM:=false},[⟨4,core,n.aI,0,0,0,0,false,0⟩],0)):
  Dd 317 4 [] Q [JM c,JM p] h:=by
 refine bW<|aZ (c:=[I 0,.bool false,.bool false]) rfl<|aC<|aA<|ax (b:=c) (o:=0) d fun h d=>bI d ?_
 intro g h d
 refine aC<|aA<|ai c d rfl<|aA<|ai p d rfl<|aZ (c:=(⟨4,core,n.aI,0,0,0,0,false,0⟩:aG).enc) rfl<|aZ (c:=(⟨4,core,n.aI,0,0,0,0,false,0⟩:aG).enc) rfl ?_
 refine oR (i:=7) (N:=10) (D:=[]) d rfl rfl rfl rfl rfl fun a h d=>Vg e (p:=a) f ?_
 have d:=dY c t C core {s with S:=S,al:=0,aw:=false,pM:=false} d rfl rfl
 exact d.to
theorem Na (hC:C.Ok) (hb:Bd s) (f:0<=n.aI) (d:Hs G h (lR G c C core s::L)) (q:TkK G c C core L Q (vM C core s n)):JL 317 [JM c,.agg ⟨n.enc⟩] h Q:=by
 have⟨t,d⟩:=pZ d;refine cW<|fB d ?_;intro p h d;refine bI d fun r h d=>aC<|aA<|aA<|ai c d rfl<|cZ<|fR<|dX (fun w=>?_) fun w=>?_;refine aC<|aA<|aA<|ai c d rfl<|aA<|ai p d rfl<|bZ<|bG (fun z=>?_) fun z=>?_;exact yQ q (a:=s) (e:=16) (by grind[vM]) (dY c t C core s d rfl rfl).to;refine bW<|aA<|ai p d rfl<|aA<|ai p d rfl<|aA<|am p d (l:=[I n.d0,I n.d1]) rfl rfl<|aZ (c:=(⟨n.state,n.aY,(n.d0,n.d1)⟩:vX).enc) rfl<|cT d ?_;intro k h d;refine an d fun h d=>bI d ?_;intro E h d;refine aC<|aA<|ai c d rfl<|aA<|ai p d rfl<|Nn (t:=t) (ways:=C.ways.toNat) (n:=C.aU.toNat) (S:=s.S) (sO hC).1 hb d fun h d=>aN rfl<|aN rfl ?_;refine nI (i:=10) d rfl rfl fun A h d=>an d ?_;intro h d;have sL:∀{u:Bool} {h:AH},u=true->Hs G h (aK k 0 (oQ C s n).enc::aK p 0 n.enc::aK c 0 (pA t C core s)::mD G t C.ways.toNat C.aU.toNat s.S::L)->
   (dj u h 9 fun D f=>cC (sJ<|JM c) fun v2=>cC (lQ 0 v2) fun v3=>cC (vZ f v3) fun v4=>cC (lQ 2<|JM p) fun v5=>cC (vZ f v5) fun v6=>cC (yU f 4<|JM k) fun B=>
    JL 253 [v4,v6,B] f fun y x=>cC (A6 .neq y<|I 0) fun v9=>Br v9 (Q (.tuple ⟨[.slice none 0 0,y]⟩) x)<|Dd 317 4 [] Q [JM c,JM p] x):=by
  intro u h v d
  apply bI (hc:=v) d
  intro r3 h d
  refine aC<|aA<|ai c d rfl<|aA<|ai p d rfl<|am k d (l:=(oQ C s n).enc) rfl rfl ?_
  refine J6 (t:=t) (ways:=C.ways.toNat) (n:=C.aU.toNat) (S:=s.S) f (sO hC).1 hb d fun h d=>?_
  refine bZ<|bG (fun g=>?_) fun g=>?_
  .exact yQ q (a:={s with S:=(pB C.aU.toNat C.ways.toNat s.S n.aI<|oQ C s n).1}) (by grind[vM]) ((dY c t C core {s with S:=(pB C.aU.toNat C.ways.toNat s.S n.aI<|oQ C s n).1} (cs:=pA t C core s) d rfl rfl).to)
  .exact aNs (t:=t) (S:=(pB C.aU.toNat C.ways.toNat s.S n.aI<|oQ C s n).1) (s:=s) (n:=n) d.to q (by grind[vM])
 refine dT (aN rfl lG)<|cF<|bG (fun g=>bW ?_) fun g=>bW<|sL FU ?_;refine aA<|am A d (l:=[I (bJ C.aU.toNat s.S n.aI).1.d.1,I (bJ C.aU.toNat s.S n.aI).1.d.2]) rfl rfl<|aA<|ax (b:=k) (o:=0) d ?_;intro h d;have e:oQ C s n=⟨n.state,n.aY,(bJ C.aU.toNat s.S n.aI).1.d⟩:=by simp[oQ,g]
 exact sL FU (d.sg (b:=k) (o:=0) (c:=(oQ C s n).enc) GZ).to;have e:oQ C s n=⟨n.state,n.aY,(n.d0,n.d1)⟩:=by simp[oQ,g]
 rw[e];exact d.to;exact yQ q (a:=s) (e:=16) (by simp[vM,w]) (dY c t C core s d rfl rfl).to
def aQi {x:vX} {y:aG} (d:Hs G h (aK p 0 y.enc::aK q 0 x.enc::aK c 0 (pA t C core s)::mD G t C.ways.toNat C.aU.toNat s.S::L)) (e:TkK G c C core L Q r) (f:r=({s with gc:=x},[y],0)):
  Dd 320 8 [] Q [JM c,JM p,JM q] h:=by
 refine bW<|bC d FV (l:=x.enc) rfl rfl<|aC<|aA<|aA<|ax d ?_
 intro h d
 refine bC d FV (l:=y.enc) rfl rfl<|aZ (c:=y.enc) rfl<|eA d rfl rfl rfl fun a h d=>Vg e f ?_
 have d:=dY c t C core {s with gc:=x} d rfl rfl
 exact d.to
def aNg (hC:C.Ok) (hb:Bd s) (k:0<=n.aI) {x:vX} {y:aG} (d:Hs G h (aK p 0 y.enc::aK q 0 x.enc::aK i 0 n.enc::aK c 0 (pA t C core s)::mD G t C.ways.toNat C.aU.toNat s.S::L)) (g:TkK G c C core L Q r)
  (e:r=({s with S:=if x.st=0 then jQ C.aU.toNat s.S n.aI else(pB C.aU.toNat C.ways.toNat s.S n.aI x).1},[y],0)):
  Dd 320 9 [] Q [JM c,JM i,JM p,JM q,I x.st] h:=by
 refine bW<|cF<|bG (fun f=>bW<|bI d ?_) fun f=>bW<|bI d ?_
 .intro u h d;simp only[bD2 f] at e;refine aC<|aA<|aE d rfl<|aA<|aE d rfl<|bp (ways:=C.ways.toNat) (sO hC).1 hb d fun h d=>?_;refine bC d FV (l:=y.enc) rfl rfl<|aZ (c:=y.enc) rfl<|eA d rfl rfl rfl fun a h d=>Vg g e ?_;have d:=dY c t C core {s with S:=jQ C.aU.toNat s.S n.aI} d rfl rfl;exact d.to
 .intro u h d;simp only[bD1 f] at e;refine aC<|aA<|aE d rfl<|aA<|aE d rfl<|bC d FV (l:=x.enc) rfl rfl<|J6 (ways:=C.ways.toNat) k (sO hC).1 hb d fun h d=>?_;refine bC d FV (l:=y.enc) rfl rfl<|aZ (c:=y.enc) rfl<|eA d rfl rfl rfl fun a h d=>Vg g e ?_;have d:=dY c t C core {s with S:=(pB C.aU.toNat C.ways.toNat s.S n.aI x).1} d rfl rfl;exact d.to
def zp (hC:C.Ok) (hb:Bd s) (k:0<=n.aI) {A5:Bool} {f:Nat} {x:vX} (a:Hs G h (aK p 0 (Zf core n).enc::aK q 0 x.enc::aK f 0 n.enc::aK c 0 (pA t C core s)::mD G t C.ways.toNat C.aU.toNat s.S::L)) (i:TkK G c C core L Q r)
  (d:r=if A5 then({s with S:=if kL x.st n.state=0 then jQ C.aU.toNat s.S n.aI else(pB C.aU.toNat C.ways.toNat s.S n.aI {x with st:=kL x.st n.state}).1},[iS core n x],0) else({s with gc:={x with st:=kL x.st n.state}},[iS core n x],0)):
  Dd 320 5 [] Q [JM c,JM f,JM p,JM q,.bool A5,I<|kL x.st n.state,.bool<|Kv x.st,.bool<|qH x.st] h:=by
 have sL:∀{h:AH},Hs G h (aK p 0 (iS core n x).enc::aK q 0 ({x with st:=kL x.st n.state}:vX).enc::aK f 0 n.enc::aK c 0 (pA t C core s)::mD G t C.ways.toNat C.aU.toNat s.S::L)->
   (cC (gf .not<|.bool A5) fun u=>Br u (Dd 320 8 [] Q [JM c,JM p,JM q] h)<|Dd 320 9 [] Q [JM c,JM f,JM p,JM q,I<|kL x.st n.state] h):=by
  intro h a
  cases A5
  .simp only[aO,dx] at d;exact cZ<|gA<|aQi (t:=t) a.to i d
  .simp only[eD] at d;exact cZ<|cY<|aNg hC hb k a i d
 refine bW<|aA<|ax a fun h a=>dX (fun g=>bW ?_) fun g=>bW ?_
 .refine aA (bC a FV (l:=[I _,I _]) rfl rfl<|aA<|ax a ?_);intro h a;refine aA<|ax a fun h a=>aA<|ax a ?_;intro h a;have e:iS core n x=⟨5,core,n.aI,0,kL x.st n.state,x.d.1,x.d.2,qH x.st,0⟩:=by simp[iS,g]
  have a:=a.sg (b:=p) (o:=0) (c:=(iS core n x).enc) GZ
  have a:=a.sg (b:=q) (o:=0) (c:=({x with st:=kL x.st n.state}:vX).enc) rfl
  exact sL a.to
 .refine aA (ax a ?_);intro h a;have e:iS core n x=⟨5,core,n.aI,0,kL x.st n.state,0,0,false,0⟩:=by simp[iS,g]
  have a:=a.sg (b:=p) (o:=0) (c:=(iS core n x).enc) GZ
  have a:=a.sg (b:=q) (o:=0) (c:=({x with st:=kL x.st n.state}:vX).enc) rfl
  exact sL a.to
def aQp (hC:C.Ok) (hb:Bd s) (y:Sts C.aU.toNat s) (E:n.state=0\/n.state=1) (B:0<=n.aI) {A:Nat} {x:vX} (F:Ob G 6 oO)
  (d:Hs G h (aK p 0 (Zf core n).enc::aK q 0 x.enc::aK A 0 n.enc::aK c 0 (pA t C core s)::mD G t C.ways.toNat C.aU.toNat s.S::L)) (w:(bJ C.aU.toNat s.S n.aI).2≠0) (z:TkK G c C core L Q (lK C core s n)):
  Dd 320 2 [] Q [JM c,JM A,JM p,JM q,.bool false] h:=by
 have g:¬(n.state≠1/\n.state≠0):=FQ
 refine bW<|bI d ?_
 intro N h d
 have f:s.uD=false\/s.gl≠n.aI->(cC (yU h 9<|JM p) fun K=>cC (tM [I 0,I 0,I 0,I 0,I 0,I 0,I 0,.bool false,I 0] [(0,9,K)]) fun J=>Ce h 9 174 J 1 1 fun s10 D=>Q (.tuple ⟨[s10,I 0]⟩) D):=by
  intro k;refine bC d FV rfl rfl<|aZ (c:=(Zf core n).enc) rfl<|eA d rfl rfl rfl ?_;intro a h d;refine Vg z (a:=s) (x:=Zf core n) ?_ ?_;rcases k with k|k;simp[lK,g,w,k,Zf];by_cases v:s.uD=false;simp[lK,g,w,v,Zf];simp only[lK,bD1 g,bD1 w,bD1 v,bD2 k,Zf];have d:=dY c t C core s d rfl rfl;exact d.to
 refine aC<|aA<|aA<|aE d rfl<|cZ<|fR<|dX (fun u=>(aC<|aA<|aA<|aE d rfl<|aA<|aE d rfl<|bZ<|bG (fun i=>f<|.inr i) fun i=>bW ?_)) fun u=>f<|.inl u
 have i:s.gl=n.aI:=by simpa using i
 refine aC<|aA<|aA<|bC d FV (l:=s.gc.enc) rfl rfl<|an d ?_
 intro h d
 refine aA<|aE d rfl<|aA<|aE d rfl<|Yu F d (y.vO u) E<|aN rfl<|aN rfl<|aN rfl<|aN rfl<|bZ<|aab<|zp hC hb B (t:=t) d.to z ?_
 have v:¬s.uD=false:=by rw[u];simp
 simp only[lK,bD1 g,bD1 w,bD1 v,bD1<|show ¬s.gl≠n.aI from fun e=>e i,aO,dx]
def aQa (hC:C.Ok) (hb:Bd s) (e:Sts C.aU.toNat s) (u:n.state=0\/n.state=1) (i:0<=n.aI) {g:Nat} (v:Ob G 6 oO)
  (a:Hs G h (aK p 0 (Zf core n).enc::aK q 0 (bJ C.aU.toNat s.S n.aI).1.enc::aK g 0 n.enc::aK c 0 (pA t C core s)::mD G t C.ways.toNat C.aU.toNat s.S::L)) (f:(bJ C.aU.toNat s.S n.aI).2=0) (k:TkK G c C core L Q (lK C core s n)):
  Dd 320 3 [] Q [JM c,JM g,JM p,JM q,.bool true] h:=by
 have d:¬(n.state≠1/\n.state≠0):=FQ
 refine bW<|aA<|aE a rfl<|aA<|aE a rfl<|Yu v a (e.bBl _ f) u<|aN rfl<|aN rfl<|aN rfl<|aN rfl<|bZ<|aab<|zp hC hb i a k ?_
 simp only[lK,bD1 d,bD2 f,eD]
theorem Lr (hC:C.Ok) (hb:Bd s) (f:Sts C.aU.toNat s) (k:0<=n.aI) (v:Ob G 6 oO) (d:Hs G h (lR G c C core s::L)) (i:TkK G c C core L Q (lK C core s n)):JL 320 [JM c,.agg ⟨n.enc⟩] h Q:=by
 obtain⟨t,d⟩:=pZ d;refine cW<|fB d fun z h d=>aA<|aE d rfl<|bZ<|bG (fun w=>aA<|aE d rfl<|bZ<|bG (fun y=>?_) fun y=>bW ?_) fun w=>?_;exact yQ i (a:=s) (e:=10) (by simp_all[lK,bD2]) (dY c t C core s d rfl rfl).to;all_goals
  have u:n.state=0\/n.state=1:=FQ
  refine bI d fun B h d=>aC<|aA<|aE d rfl<|aA<|aE d rfl<|aZ (c:=(Zf core n).enc) rfl ?_
  refine nI d rfl rfl fun p h d=>an d ?_
  intro h d
  refine bI d fun A h d=>aC<|aA<|aE d rfl<|aA<|aE d rfl ?_
  refine Nn (ways:=C.ways.toNat) (sO hC).1 hb d fun h d=>aN rfl<|aN rfl<|nI d rfl rfl ?_
  intro q h d
  refine an d fun h d=>dT (aN rfl lG)<|cF<|cZ ?_
  by_cases g:(bJ C.aU.toNat s.S n.aI).2=0
  .rw[cj g];exact cY<|aQa hC hb f u k (t:=t) v d.to g i
  .rw[cr g];exact gA<|aQp hC hb f u k (t:=t) (x:=(bJ C.aU.toNat s.S n.aI).1) v d.to g i
end Go.Proofs.Z.C
end
