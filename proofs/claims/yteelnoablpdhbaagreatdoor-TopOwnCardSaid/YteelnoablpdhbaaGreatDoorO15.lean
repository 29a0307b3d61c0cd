/- A part of the proof. -/
import Derived.Test.YteelnoablpdhbaaGreatDoorO14
import Derived.Test.YteelnoablpdhbaaGreatDoorO8
import Derived.Test.YteelnoablpdhbaaGreatDoorO9
import Derived.Test.YteelnoablpdhbaaGreatDoorO5
set_option linter.all false
set_option maxRecDepth 100000
open Go Go.Ab
variable {L L' L2 M:HL} {Q:Value->AH->Prop} {b c cap hb i mb n o p pm t:Nat} {a:EN} {k:Value->Prop} {cs:EK} {jv v:Value} {l:HY} {e:TypeId} {x:Int} {j:Int->Int->Int×Bool}
section
attribute [local irreducible] bQ Br sA vD vT F4 pC yQ nJ Uh iZ pV tD sH rQ pG vX Sn Rx R8 Rz R0 Xm mQ qJ kH jX Ao Jw nA Qv Ub B0 Cl Cx Xf xZ uP mK gY dD cQ
namespace Go.Proofs.Z.A
open Go.Hm Go.At Go.Is
variable {G:Bg} {h:AH}
def nV (b o:Nat) (s:aT):HP:=xC fun x:EN×Nat=>sp [aG b o<|s.core++[.slice x.1 s.prog.length x.2],dJ 4 69 x.1 x.2 (s.prog.length,zT s.prog)]
def Us {s:aT} (d:Hs G h (nV b o s::L)):∃a c,Hs G h (aG b o (s.core++[.slice a s.prog.length c])::dJ 4 69 a c (s.prog.length,zT s.prog)::L):=by
 have⟨⟨a,c⟩,d⟩:=d.uI;exact⟨a,c,d.dT⟩
def B7 {s:aT} (d:Hs G h (aG b o (s.core++[.slice a s.prog.length c])::dJ 4 69 a c (s.prog.length,zT s.prog)::L)):Hs G h (nV b o s::L):=
 Hs.tG (A:=fun x:EN×Nat=>sp [aG b o<|s.core++[.slice x.1 s.prog.length x.2],dJ 4 69 x.1 x.2 (s.prog.length,zT s.prog)]) (a,c) (Hs.kC (A:=[_,_]) d)
structure AtA where
 b:Nat
 o:Nat
 cap:Nat
 a:EN
 c:Nat
 mb:Nat
def atL (G:Bg) (pm:Nat) (m:AM) (x:AtA):HL:=[dv pm m.fA (.slice (some ⟨x.b,x.o,none⟩) m.fA.aE.toNat x.cap) x.a m.cK.length x.c x.mb,dJ 1 3 x.a x.c (m.cK.length,m.cK.map I),eU G m.fA.aF x.mb m.fA m.mem,
  fJ G 8 98 (some ⟨x.b,x.o,none⟩) x.cap m.fA.aE.toNat x.b x.o,dV m.fA.aE.toNat fun i=>nV x.b (x.o+i*8)<|m.aC i]
def Fu (G:Bg) (pm:Nat) (m:AM):HP:=xC fun x:AtA=>sp<|atL G pm m x
variable {m:AM}
def P2 (d:Hs G h (Fu G pm m::L)):∃b o cap a c mb,Hs G h (dv pm m.fA (.slice (some ⟨b,o,none⟩) m.fA.aE.toNat cap) a m.cK.length c mb::dJ 1 3 a c (m.cK.length,m.cK.map I)::eU G m.fA.aF mb m.fA m.mem::
  fJ G 8 98 (some ⟨b,o,none⟩) cap m.fA.aE.toNat b o::dV m.fA.aE.toNat (fun i=>nV b (o+i*8)<|m.aC i)::L):=by
 have⟨⟨b,o,cap,a,c,mb⟩,d⟩:=d.uI
 exact⟨b,o,cap,a,c,mb,d.dT⟩
def wU (d:Hs G h (dv pm m.fA (.slice (some ⟨b,o,none⟩) m.fA.aE.toNat cap) a m.cK.length c mb::dJ 1 3 a c (m.cK.length,m.cK.map I)::eU G m.fA.aF mb m.fA m.mem::
  fJ G 8 98 (some ⟨b,o,none⟩) cap m.fA.aE.toNat b o::dV m.fA.aE.toNat (fun i=>nV b (o+i*8)<|m.aC i)::L)):Hs G h (Fu G pm m::L):=
 Hs.tG (A:=fun x:AtA=>sp<|atL G pm m x) ⟨b,o,cap,a,c,mb⟩ (Hs.kC (A:=atL G pm m ⟨b,o,cap,a,c,mb⟩) d)
theorem aDa {r:AM} {k p6:Nat} {q:EN} {u:Ev} {nx:Int} (E:r.fA=m.fA) (F:r.cK.length=m.cK.length) (J:∀j,j≠i->r.aC j=m.aC j) (N:(r.aC i).prog=(m.aC i).prog) (A:0<=nx) (B:i<m.fA.aE.toNat)
  (d:Hs G h (dv pm m.fA (.slice (some ⟨b,o,none⟩) m.fA.aE.toNat cap) a m.cK.length c mb::dJ 1 3 a c (m.cK.length,r.cK.map I)::eU G m.fA.aF mb m.fA r.mem::
   fJ G 8 98 (some ⟨b,o,none⟩) cap m.fA.aE.toNat b o::sp (((List.range m.fA.aE.toNat).erase i).map fun i=>nV b (o+i*8)<|m.aC i)::aG b (o+i*8) ((r.aC i).core++[.slice q (m.aC i).prog.length t])::
   dJ 4 69 q t ((m.aC i).prog.length,zT (m.aC i).prog)::aG k 0 u.enc::aG p6 0 [I 0,I 0,I 0,I 0,I 0,I 0,I 0]::L))
  (D:∀e,Hs G e (Fu G pm (r.iO i nx)::L)->Q (.tuple ⟨[.agg ⟨u.enc⟩,I 0]⟩) e):
  ID 35 [pt b (o+i*8) 0,I nx] h fun v e=>bQ (vD e 7<|IE k) fun w=>bQ (vT e 7 (IE p6) w) fun f=>bQ (vD f 7<|IE p6) fun x=>Q (.tuple ⟨[x,I 0]⟩) f:=by
 rw[<-N] at d
 refine Jk (s:=r.aC i) (a:=q) (c:=t) A (d.bZ _ _) fun h d=>(aX d ET (l:=u.enc) rfl rfl<|an d fun h d=>aX d ET (l:=u.enc) rfl rfl<|D _ ?_)
 have d:=B7<|d.bZ (aG b (o+i*8)<|((r.aC i).iO nx).core++[.slice q (r.aC i).prog.length t])<|dJ 4 69 q t ((r.aC i).prog.length,zT (r.aC i).prog)
 have y:nV b (o+i*8) ((r.aC i).iO nx)=(fun j=>nV b (o+j*8)<|(r.iO i nx).aC j) i:=by simp[AM.iO,AM.kI,bR]
 rw[y] at d
 have d:=d.oG (fun j=>nV b (o+j*8)<|m.aC j) (fun j=>nV b (o+j*8)<|(r.iO i nx).aC j) B (fun j _ g=>by
  have:(r.iO i nx).aC j=m.aC j:=by rw[<-J j g];exact eA g
  grind)
 have z:(r.iO i nx).fA=m.fA:=E
 apply wU (b:=b) (o:=o) (cap:=cap) (a:=a) (c:=c) (mb:=mb)
 rw[z,show(r.iO i nx).cK=r.cK from rfl,F,show(r.iO i nx).mem=r.mem from rfl]
 exact d.to
theorem aLt (D:m.Ok) {B:Int} {busy:Bool} (W:Ob G 0 fO) (d:Hs G h L) [mm:dH (Fu G pm) L m L']
  (z:∀E,Hs G E (Fu G pm (m.step B busy).1::L')->Q (.tuple ⟨[.agg ⟨(m.step B busy).2.1.enc⟩,I (m.step B busy).2.2]⟩) E):ID 12 [IE pm,I B,.bool busy] h Q:=by
 have α:m.fA.aE<=4/\1<=m.fA.aE:=⟨D.fA.1.2,D.fA.1.1⟩
 have⟨b,o,cap,a,c,mb,d⟩:=P2<|mm.of d
 refine cW<|bX d fun P h d=>cZ<|cF<|bW ?_
 refine aB<|aA<|aD d rfl<|cE<|zN ER<|aM (c:=[I B]) rfl<|dC d rfl rfl rfl fun ad h d=>(qY d fun h k=>cG<|eI<|bC (fun Z=>?_) fun Z=>?_)
 rotate_left
 .refine aM (c:=[I 0,I 0,I 0,I 0,I 0,I 0,I 0]) rfl (an k fun h d=>aX d ET (l:=[I 0,I 0,I 0,I 0,I 0,I 0,I 0]) rfl rfl ?_);rw[AM.step,aae] at z;refine z _<|wU (b:=b) (o:=o) (cap:=cap) (a:=a) (c:=c) (mb:=mb) d.to
 clear d
 have d:=k
 clear k
 obtain⟨i,rfl⟩:∃i:Nat,B=i:=⟨B.toNat,ER⟩
 have R:i<m.fA.aE.toNat:=ER
 rw[AM.step,aab] at z
 simp[aP] at z
 have d:=(d.aN<|dV m.fA.aE.toNat fun i=>nV b (o+i*8)<|m.aC i).kE i R
 have⟨pa,pc,d⟩:=Us d
 refine bW<|aB<|aA<|aD d rfl<|dR R<|aB<|aA<|aA<|aD d rfl<|dI (fun T=>?_) fun T=>?_
 .rw[aXg T] at z;refine aM (c:=[I 0,I 0,I 0,I 0,I 0,I 0,I 0]) rfl<|an d fun h d=>aX d ET (l:=[I 0,I 0,I 0,I 0,I 0,I 0,I 0]) rfl rfl<|z _ ?_;have d:=B7<|d.bZ (aG b (o+i*8)<|(m.aC i).core++[.slice pa _ pc]) _;exact wU (b:=b) (o:=o) (cap:=cap) (a:=a) (c:=c) (mb:=mb) (d.oG _ (fun j=>nV b (o+j*8)<|m.aC j) R fun _ _ _=>rfl).to
 rw[aXf ES] at z
 have u:=D.aC i ER
 have J:=Ez (by rwa [<-u.2.2.1])
 have y:=Jj<|u.2.2.2.2 _<|Ec u.1 J
 have N:=Uf (b:=busy) y u.1 J
 have⟨k1,k2,k3,k4⟩:=Hp (m:=m) (i:=i) (x:=hQ (m.aC i).prog (m.aC i).at') (b:=busy)
 have⟨n,hn⟩:∃n:Nat,(m.aC i).at'=n:=⟨(m.aC i).at'.toNat,by have:=u.1;omega⟩
 have β:hQ (m.aC i).prog (m.aC i).at'=(m.aC i).prog.getD n ⟨0,0,0,0⟩:=by rw[hn];rfl
 generalize hx:hQ _ _=x at*
 have X:=u.2.2.2.1
 refine bW<|bD d fun A h d=>(aB<|aA<|aD d rfl<|aB<|aA<|aA<|aD d rfl ?_)
 rw[hn]
 refine aD8 (e:=69) (x:=x.enc) d ET ER (by grind[uq]) rfl<|lF d rfl rfl fun O h d=>an d fun h d=>bD d fun γ h d=>?_
 refine aB<|aA<|aA<|aD d rfl<|aA<|aD d rfl<|aB<|aA<|aA<|aD d rfl<|aM (c:=[I i,I _,I x.op,I _,I 0,I 0,I 0]) rfl ?_
 refine lF d rfl rfl fun f h d=>an d fun h d=>(aB<|aA<|aA<|aD d rfl<|aac<|aA<|aD d rfl<|bM ?_)
 have vC:∀(r:AM) (w v S nx:Int) (h:AH),m.jJ i x busy=(r,w,v,S,nx)->
   Hs G h (dv pm m.fA (.slice (some ⟨b,o,none⟩) m.fA.aE.toNat cap) a m.cK.length c mb::dJ 1 3 a c (m.cK.length,r.cK.map I)::eU G m.fA.aF mb m.fA r.mem::
   fJ G 8 98 (some ⟨b,o,none⟩) cap m.fA.aE.toNat b o::sp (((List.range m.fA.aE.toNat).erase i).map fun i=>nV b (o+i*8)<|m.aC i)::aG b (o+i*8) ((r.aC i).core++[.slice pa (m.aC i).prog.length pc])::
   dJ 4 69 pa pc ((m.aC i).prog.length,zT (m.aC i).prog)::aG f 0 [I i,I (m.aC i).at',I x.op,I (m.aC i).bG,I w,I v,I S]::aG P 0 [I 0,I 0,I 0,I 0,I 0,I 0,I 0]::L')->
   ID 35 [pt b (o+i*8) 0,I nx] h fun v E=>bQ (vD E 7<|IE f) fun U=>bQ (vT E 7 (IE P) U) fun F=>bQ (vD F 7<|IE P) fun V=>Q (.tuple ⟨[V,I 0]⟩) F:=by
  intro r w v S nx h hd d
  rw[hd] at z k1 k2 k3 k4 N
  exact aDa k1 k2 k3 k4 N.1 R d z
 refine bC (fun q=>?_) fun n1=>bW<|bM<|bC (fun q=>?_) fun n2=>bW<|bM ?_
 .have g:=y.r1<|.inl q;refine bW (aA<|aD d rfl<|aA<|ax d fun h d=>bD d fun A h d=>aA<|aD d rfl<|aA<|aD d rfl<|aB<|aA<|aA<|fC g.1 g.2<|zK d g.1 g.2 fun h d=>(vC (m.kI i<|(m.aC i).dL x.a x.b) 0 x.b 0 _ h ?_ ?_))
  .rw[AM.jJ];grind
  .simp[AM.kI,bR];exact(d.sg (b:=f) (o:=0) (c:=[I i,I _,I x.op,I _,I 0,I x.b,I 0]) rfl).to
 .have g:=y.r1 ER;have hb:=y.r2<|.inl q;have t:=y.r3<|.inl q;refine bW<|bD d fun A h d=>aA<|aD d rfl<|aB<|aA<|aA<|fC hb.1 hb.2<|aD d (qP hb.1 hb.2)<|aA<|aD d rfl<|aB<|aA<|aA<|fC t.1 t.2<|aD d (qP t.1 t.2)<|Xs<|aA<|ax d fun h d=>?_;refine bD d fun A h d=>aA (aD d rfl<|aA<|aD d rfl<|aB<|aA<|aA<|fC g.1 g.2<|zK d g.1 g.2 fun h d=>(vC (m.kI i<|(m.aC i).dL x.a<|wr<|(m.aC i).cX x.b.toNat+(m.aC i).cX x.c.toNat) 0 (wr<|(m.aC i).cX x.b.toNat+(m.aC i).cX x.c.toNat) 0 _ h ?_ ?_))
  .rw[AM.jJ];grind
  .simp[AM.kI,bR];exact(d.sg (b:=f) (o:=0) (c:=[I i,I _,I x.op,I _,I 0,I _,I 0]) rfl).to
 have acc:x.op=3\/x.op=4\/x.op=5->Dd 12 10 [] Q [IE pm,IE P,pt b (o+i*8) 0,IE O,IE f,I<|(m.aC i).at'+1] h:=by
  intro ho;have g:=y.r1 ER;have hb:=y.r2 ER;refine bW<|bD d fun A h d=>aA<|aD d rfl<|aB<|aA<|aA<|fC hb.1 hb.2<|aD d (qP hb.1 hb.2)<|aA<|ax d fun h d=>aX d ET (l:=x.enc) rfl rfl ?_;obtain⟨e1,Y,e3,e4,e5⟩:=I2 (m:=m) (i:=i) (x:=x);refine Ku (i:=i) (pv:= .slice pa (m.aC i).prog.length pc) D.fA D.cK ho g hb W (d.jQ (dv pm m.fA (.slice (some ⟨b,o,none⟩) m.fA.aE.toNat cap) a m.cK.length c mb) _ _ _) fun h d=>?_;refine aH rfl<|aH rfl<|aA<|ax d fun h d=>aA<|ax d fun h d=>?_;refine vC (m.fV i x).1 ((m.aC i).cX x.b.toNat) (m.fV i x).2.1 (m.fV i x).2.2 _ h ?_ ?_;rw[AM.jJ];grind;rw[Y];exact(d.sg (b:=f) (o:=0) (c:=[I i,I _,I x.op,I _,I _,I _,I _]) rfl).to
 have rest:¬(x.op=3\/x.op=4\/x.op=5)->∀t114,Dd 12 11 [] Q [IE pm,.bool busy,IE P,pt b (o+i*8) 0,IE O,IE f,I<|(m.aC i).at'+1,I x.op,t114] h:=by
  intro n3 t114;refine bW<|bM<|bC (fun q=>?_) fun n4=>bW<|bM<|bC (fun q=>?_) fun n5=>bW<|bM<|bC (fun q=>?_) fun n6=>bW<|bM<|bC (fun q=>?_) fun n7=>?_;refine bW<|aA<|aD d rfl<|aA<|ax d fun h d=>aB<|aA<|aA<|aD d rfl<|bM<|bC (fun c2=>?_) fun c2=>?_;refine bW<|aA<|aD d rfl<|aB<|aA<|aA<|ax d fun h d=>(vC (m.kI i<|(m.aC i).Vh x.a) 0 x.a 0 _ h ?_ ?_);rw[AM.jJ];grind;have d:=d.sg (b:=b) (o:=o+i*8) (c:=((m.aC i).Vh x.a).core++[.slice pa _ pc]) rfl;simp[AM.kI,bR];exact(d.sg (b:=f) (o:=0) (c:=[I i,I _,I x.op,I _,I 0,I x.a,I 0]) rfl).to;refine bW<|aA<|ax d fun h d=>(vC m 0 x.a 18 _ h ?_ ?_);rw[AM.jJ];grind;exact(d.sg (b:=f) (o:=0) (c:=[I i,I _,I x.op,I _,I 0,I x.a,I 18]) rfl).to;have hb:=y.r2 ER;have t:=y.r3 ER;refine bW<|bD d fun A h d=>aA<|aD d rfl<|aB<|aA<|aA<|fC hb.1 hb.2<|aD d (qP hb.1 hb.2)<|aA<|aD d rfl<|aB<|aA<|aA<|fC t.1 t.2<|aD d (qP t.1 t.2) ?_;refine aA<|ax d fun T k=>aA<|ax k fun h d=>(dB dP<|dB (aA dP)<|dB (aD k rfl jN)<|dB (aB dP)<|dB (aA dP)<|dB (aA dP)<|dB (fC t.1 t.2 dP)<|dB (aD k (qP t.1 t.2) jN) ?_);refine bD d fun A h d=>aA<|aD d rfl<|aB<|aA<|aA<|aD d rfl<|aA<|aD d rfl<|aA<|aD d rfl ?_;refine aJw D.fA D.cK W (d.cT (dv pm m.fA (.slice (some ⟨b,o,none⟩) m.fA.aE.toNat cap) a m.cK.length c mb) _ _) fun h d=>?_;refine aA<|ax d fun h d=>bD d fun A h d=>aA<|aD d rfl<|aA<|aD d rfl<|aB<|aA<|aA<|fC hb.1 hb.2<|zK d hb.1 hb.2 fun h d=>?_;refine vC ((m.call x.a (m.aC i).bG ((m.aC i).cX x.b.toNat) ((m.aC i).cX x.c.toNat) busy).1.kI i<|(m.aC i).dL x.b (m.call x.a (m.aC i).bG ((m.aC i).cX x.b.toNat) ((m.aC i).cX x.c.toNat) busy).2) ((m.aC i).cX x.b.toNat) ((m.aC i).cX x.c.toNat) (m.call x.a (m.aC i).bG ((m.aC i).cX x.b.toNat) ((m.aC i).cX x.c.toNat) busy).2 _ h ?_ ?_;rw[AM.jJ];grind;simp[AM.kI,bR];exact(d.sg (b:=f) (o:=0) (c:=[I i,I _,I x.op,I _,I _,I _,I _]) rfl).to;refine bW<|aA<|aD d rfl<|aA<|ax d fun h d=>aA<|aD d rfl<|vC m 0 x.a 0 _ h ?_ ?_;rw[AM.jJ];grind;exact(d.sg (b:=f) (o:=0) (c:=[I i,I _,I x.op,I _,I 0,I x.a,I 0]) rfl).to;have g:=y.r1 ER;refine bW<|bD d fun A h d=>aA<|aD d rfl<|aB<|aA<|aA<|fC g.1 g.2<|aD d (qP g.1 g.2)<|aA<|ax d fun h d=>aA<|aD d rfl<|bM<|bC (fun c2=>?_) fun c2=>?_;refine bW<|aA<|aD d rfl<|vC m 0 ((m.aC i).cX x.a.toNat) 0 _ h ?_ ?_;rw[AM.jJ];grind;exact(d.sg (b:=f) (o:=0) (c:=[I i,I _,I x.op,I _,I 0,I _,I 0]) rfl).to;refine bW<|vC m 0 ((m.aC i).cX x.a.toNat) 0 _ h ?_ ?_;rw[AM.jJ];grind;exact(d.sg (b:=f) (o:=0) (c:=[I i,I _,I x.op,I _,I 0,I _,I 0]) rfl).to;refine bW<|vC m 0 0 0 _ h ?_ ?_;rw[AM.jJ];grind;exact d.to
 refine bC (fun q=>bW ?_) fun n3=>bW<|bM<|bC (fun q=>bW ?_) fun n4=>bW<|bM<|bC (fun q=>acc ER) fun n5=>rest ER _
 .rw[c8 q];exact eV<|acc ER
 .rw[c8 q];exact eV<|acc ER
def aP6 (k:n<=100) (i:Hs G h L) [m:dH (dJ 2 123 a c) L (n,cs) L'] (g:∀d e f,Hs G f (dJ 2 123 d e (n,cs)::dJ 2 123 a c (n,cs)::L')->Q (.slice d n e) f):ID 274 [.slice a n c] h Q:=
 cW (Eu (bytes:=16) i ER g)
def aNy (k:n<=100) (i:Hs G h L) [m:dH (dJ 3 205 a c) L (n,cs) L'] (g:∀d e f,Hs G f (dJ 3 205 d e (n,cs)::dJ 3 205 a c (n,cs)::L')->Q (.slice d n e) f):ID 273 [.slice a n c] h Q:=
 cW (Eu (bytes:=40) i ER g)
def aKi (k:l.length<=100) (hc:l.flatten.all gA=true) (i:Hs G h (C4 G 1 e v l::L)) (g:∀a d f,Hs G f (dJ 1 3 a d (l.length,l.flatten)::C4 G 1 e v l::L)->Q (.slice a l.length d) f):ID 33 [v] h Q:=
 cW (Ou (bytes:=8) i ET rfl hc ER g)
def aM3 (k:l.length<=100) (hc:l.flatten.all gA=true) (i:Hs G h (C4 G 4 e v l::L)) (g:∀a d f,Hs G f (dJ 4 69 a d (l.length,l.flatten)::C4 G 4 e v l::L)->Q (.slice a l.length d) f):ID 34 [v] h Q:=
 cW (Ou (bytes:=32) i ET rfl hc ER g)
def Sp (n B:Nat) (i:Nat) (x:BkA):EK:=[I x.r,I x.w,.slice x.a (mI n B i) x.cap]
def bkD (n B:Nat) (mem:Nat->Ln) (i:Nat) (x:BkA):HP:=dJ 2 123 x.a x.cap (mI n B i,(List.range<|mI n B i).flatMap<|V3 B i mem)
variable {C:bT} {mem:Nat->Ln}
theorem jt {B:Nat} {f:Nat->BkA} (hB:B<=4) (F:n<=32) (A:∀t,Hs G t (aG p 0 (C.enc++[.slice (some ⟨b,o,none⟩) B cap])::dV B (fun i=>hU n B b (o+i*3) i mem)::dV B (fun i=>bkD n B mem i<|f i)::L)->Q (IE p) t):
  ∀(r i:Nat) (h:AH) (M:HL),i+r=B->Hs G h (aG p 0 (C.enc++[.slice (some ⟨b,o,none⟩) B cap])::dV B (fun j=>if j<i then hU n B b (o+j*3) j mem else aG b (o+j*3) (Sp n B j<|f j))::dV B (fun i=>bkD n B mem i<|f i)::L)->
  Dd 196 2 [] Q [IE p,I B,I i] h:=by
 intro r
 induction r with
 |zero=>
  intro i h M y a
  obtain rfl:i=B:=ER
  refine bW<|aQ<|aaa<|A _ ?_
  exact(wV (fun j z=>by rw[aXg z])<|a.aN<|dV i fun j=>if j<i then hU n i b (o+j*3) j mem else aG b (o+j*3) (Sp n i j<|f j)).cT _ _ _
 |succ r E=>
  intro i h M y a
  have d:i<B:=ER
  have x:=rb (n:=n) (B:=B) (i:=i) ER
  refine bW<|aQ<|aad<|bW<|bD a fun J h a=>?_
  have a:=(a.aN<|dV B fun j=>if j<i then hU n B b (o+j*3) j mem else aG b (o+j*3) (Sp n B j<|f j)).kE i d
  simp[Nat.lt_irrefl,c9] at a
  have a:=(a.aN<|dV B fun j=>bkD n B mem j<|f j).kE i d
  refine aB<|aA<|aD a rfl<|aB<|aA<|aD a rfl<|dR d<|aA<|aD a rfl ?_
  have a:Hs G h (dJ 2 123 _ _ (mI n B i,(List.range _).flatMap _)::_):=a
  refine aP6 ER a fun g k h a=>(dR d<|aA<|ax a fun w q=>?_)
  refine dB dP<|dB (aB dP)<|dB (aA dP)<|dB (aD a rfl Zi)<|dB jN<|aac<|E (i+1) w [] ER ?_
  have e:=rE<|(q.sg (b:=b) (o:=o+i*3) (c:=[I _,I _,.slice g _ k]) rfl).bZ (aG b (o+i*3) [I (f i).r,I (f i).w,.slice g _ k])<|dJ 2 123 g k (mI n B i,(List.range _).flatMap<|V3 B i mem)
  have u:hU n B b (o+i*3) i mem=(fun j=>if j<i+1 then hU n B b (o+j*3) j mem else aG b (o+j*3) (Sp n B j<|f j)) i:=by simp[AS,e9]
  rw[u] at e
  have e:=e.oG (fun j=>if j<i then hU n B b (o+j*3) j mem else aG b (o+j*3) (Sp n B j<|f j)) (fun j=>if j<i+1 then hU n B b (o+j*3) j mem else aG b (o+j*3) (Sp n B j<|f j)) d fun j _ D=>by
   grind
  have v:(dJ 2 123 _ _ (mI n B i,(List.range _).flatMap _))=(fun j=>bkD n B mem j<|f j) i:=rfl
  rw[v] at e
  exact(e.oG _ (fun j=>bkD n B mem j<|f j) d fun _ _ _=>rfl).to
theorem nb (hC:C.Ok) (a:Hs G h L) [m:dH (eU G C.aF mb C) L mem L'] (u:∀e t,Hs G t (eU G C.aF e C mem::eU G C.aF mb C mem::L')->Q (IE e) t):ID 196 [IE mb] h Q:=by
 have hb:=bT.bk hC;have⟨b,o,cap,a⟩:=sF<|m.of a;refine cW<|cZ<|cF<|bW<|bD a fun w h a=>?_;have q:Hs G h (dV C.bF.toNat (fun i=>xC fun x=>sp [aG b _<|Sp C.aF C.bF.toNat i x,bkD C.aF C.bF.toNat mem i x])::fJ G 3 205 (some ⟨b,o,none⟩) cap C.bF.toNat b o::_):=a.bZ (dV C.bF.toNat fun i=>hU C.aF C.bF.toNat b (o+i*3) i mem) _;obtain⟨f,a⟩:=Hs.vg (W:=3) (⟨0,0,none,0⟩:BkA) (fun _ _=>rfl) (fun _ _=>rfl) ET hb.2.1 q;refine aB<|aA<|aX a ET (l:=C.enc) rfl rfl<|aB<|aA<|aD a rfl<|aNy ER a fun v k h a=>?_;obtain⟨d,g,rfl,a⟩:=Hs.je (W:=3) (fun _=>rfl) hb.2.1 a;refine aM (c:=C.enc++[.slice _ C.bF.toNat k]) rfl<|Dj a rfl rfl fun p h a=>?_;refine dB dP (dB (aB dP)<|dB (aA dP)<|dB (aX a ET rfl rfl<|uG<|by simp[bT.enc,jN])<|aB<|aA<|aD a rfl<|cE ?_);have a:=a.cT (aG p 0<|C.enc++[.slice (some ⟨d,g,none⟩) C.bF.toNat k]) (dV C.bF.toNat fun i=>aG d (g+i*3)<|Sp C.aF C.bF.toNat i<|f i)<|dV C.bF.toNat fun i=>bkD C.aF C.bF.toNat mem i<|f i;have a:=(a.oN).cT (aG p 0<|C.enc++[.slice (some ⟨d,g,none⟩) C.bF.toNat k]) (dV C.bF.toNat fun i=>aG d (g+i*3)<|Sp C.aF C.bF.toNat i<|f i)<|dV C.bF.toNat fun i=>bkD C.aF C.bF.toNat mem i<|f i;refine jt hb.2.2 (bT.eJ hC).2.2 (fun h a=>u p _ ?_) C.bF.toNat 0 h [] ER Fe;have a:=rK (o:=g) (cap:=k)<|a.cT (aG p 0 _) _<|dV C.bF.toNat fun i=>hU C.aF C.bF.toNat d _ i mem;have a:=a.bZ (dJ 3 205 (some ⟨b,o,none⟩) cap (C.bF.toNat,(List.range C.bF.toNat).flatMap fun i=>Sp C.aF C.bF.toNat i<|f i))<|dV C.bF.toNat fun i=>bkD C.aF C.bF.toNat mem i<|f i;have a:Hs G h (dV C.bF.toNat (fun i=>hU C.aF C.bF.toNat b _ i mem)::fJ G 3 205 _ cap C.bF.toNat b o::_):=Hs.aGd f ES hb.2.1 a;exact(rK (o:=o) (cap:=cap)<|a.cT (aG mb 0 _) _<|dV C.bF.toNat fun i=>hU C.aF C.bF.toNat b _ i mem).to
def Fm (l:EL):HY:=l.map fun x=>[I x]
theorem xO (l:EL):(Fm l).length=l.length:=by simp[Fm]
theorem Ta (l:EL):(Fm l).flatten=l.map I:=by
 rw[Fm];induction l with
 |nil=>rfl
 |cons x l a=>grind
def lu (l:EL):(l.map I).all gA=true:=by
 induction l with
 |nil=>rfl
 |cons x l a=>rw[kx,BQ,a];rfl
def Sd (p:HO):HY:=p.map fM.enc
def xV (p:HO):(Sd p).length=p.length:=by simp[Sd]
theorem aBa (p:HO):(Sd p).flatten=zT p:=by
 grind[Sd,zT]
def jr (p:HO):(zT p).all gA=true:=by
 rw[zT];induction p with
 |nil=>rfl
 |cons x l a=>rw[xc,DC,a];rfl
def Mz (G:Bg) (v:Value) (l:EL):Prop:=wM G 1 v (Fm l).length fun i=>(Fm l).getD i []
def R7 (G:Bg) (v:Value) (p:HO):Prop:=wM G 4 v (Sd p).length fun i=>(Sd p).getD i []
structure My (G:Bg) (pv wv ov vv:Value) (ps:List (HO)) (ws os vs:EL):Prop where
 ps:∃vi:EK,vi.length=ps.length/\wM G 1 pv (vi.map fun x=>[x]).length (fun i=>(vi.map fun x=>[x]).getD i [])/\∀(i:Nat) (v:Value) (p:HO),vi[i]?=some v->ps[i]?=some p->R7 G v p
 ws:Mz G wv ws
 os:Mz G ov os
 vs:Mz G vv vs
def pN {l:EL} (a:Mz G v l) (d:Hs G h L):Hs G h (C4 G 1 3 v (Fm l)::L):=zV (by simp[Fm]) a d
def Ih {p:HO} (a:R7 G v p) (d:Hs G h L):Hs G h (C4 G 4 69 v (Sd p)::L):=zV (by simp[Sd,fM.enc]) a d
def oM {W:Nat} {at':Nat->EK} (e:wM G W v n at') (d:k (I n)):bQ (pG v) k:=by
 obtain⟨a,c,rfl,_⟩:=e;exact cE d
variable {ps:List (HO)}
theorem pq {C:bT} {pv:Value} {t2 t3 t4 t5:Value} {k:EK} (D:k.length=ps.length) (w:wM G 1 pv (k.map fun x=>[x]).length fun i=>(k.map fun x=>[x]).getD i [])
  (t:∀(i:Nat) (v:Value) (p:HO),k[i]?=some v->ps[i]?=some p->R7 G v p) (q:Ob G 1 tF) (B:ps.length<=1000000)
  (z:zF ps≠0->∀g,Hs G g L->Q (.tuple ⟨[.pointer none,I<|zF ps]⟩) g) (A:zF ps=0->∀g,Hs G g L->Dd 11 5 [] Q [pv,t2,t3,t4,t5] g):
  ∀(f i:Nat) (h:AH),i+f=ps.length->zF ps=zF (ps.drop i)->Hs G h L->Dd 11 3 [] Q [pv,t2,t3,t4,t5,pv,I ps.length,I i] h:=by
 intro f
 induction f with
 |zero=>
  intro i h u d a
  rw[eg ER] at d
  exact bW (aQ<|aaa<|A d _ a)
 |succ f y=>
  intro i h u d a
  have⟨p,hp,hd⟩:=oY (l:=ps) (i:=i) ER
  have⟨v,hvi,_⟩:=oY (l:=k) (i:=i) ER
  rw[hd,zF] at d
  have a:=zV (e:=3) EV w a
  refine bW<|aQ<|aad<|bW<|tH a (x:=[v]) GV rfl<|Ip q (Ih (t i v p hvi hp) a.tail) fun h a=>aH rfl<|aH rfl<|bK<|bC (fun c=>?_) fun c=>?_
  .rw[aXg c] at d;rw[<-d];exact z ES _ a.tail
  .rw[aXf c] at d;exact bW<|aac<|y (i+1) h ER d a.tail
def mc (hC:C.Ok) {t1 t2 t3 t5 vv:Value} {vs:EL} (u:Mz G vv vs) (q:Ob G 0 fO) (w:vs.length=C.aF*2)
  (k:∀e,Hs G e (eU G C.aF mb C (tO sU vs 0)::L)->Dd 11 11 [] Q [t1,t2,t3,t5,IE mb] e):
  ∀(f i:Nat) (mem:Nat->Ln) (h:AH),i+f=vs.length->tO sU vs 0=tO mem (vs.drop i) i->Hs G h (eU G C.aF mb C mem::L)->Dd 11 9 [] Q [t1,t2,t3,t5,IE mb,vv,I vs.length,I i] h:=by
 have t:=bT.eJ hC
 intro f
 induction f with
 |zero=>
  intro i mem h g d a
  rw[eg ER,tO] at d
  rw[d] at k
  exact bW (aQ<|aaa<|k _ a)
 |succ f v=>
  intro i mem h g d a
  have⟨x,hx,hd⟩:=oY (l:=vs) (i:=i) ER
  rw[hd,tO] at d
  have a:=pN u a
  refine bW<|aQ<|aad<|bW<|tH a (x:=[I x]) (by simp[Fm,hx]) rfl<|K5 hC q a.tail ER fun h a=>bK<|aaa<|bW<|aac<|v (i+1) _ h ER d a
end Go.Proofs.Z.A
namespace Go.Proofs.Z.H
open Go.Hm
variable {C:bT} {r:cU} {bA:Int}
section
variable {G:Bg} {h:AH}
section
variable {l:Nat} {H:kQ} {n:aI} {m:Ln}
def aF0 (hC:C.Ok) (d:Ob G 0 fO) (u:l<C.aF) (i:n.bA=l) (hc:0<=r.cD.core/\r.cD.core<4) (a:Hs G h (uV G hb p mb b o cap l C H n r m++L))
  (g:∀v t,Hs G t (fR v ((r.vL n).rest l m).2::hJ G hb C (bJ H l (((r.vL n).rest l m).1,m))::L)->Q v t):Dd 255 8 [] Q [IE hb,IE p,pt b (o+l*25) 0] h:=by
 simp[uV,hK,hZ] at a
 have⟨wa,wc,a⟩:=eH a
 refine bW<|bD a fun w h a=>aA<|aX a ET (l:=[I n.d0,I n.d1]) rfl rfl<|aB<|aA<|ax a ?_
 intro h a
 have q:=a
 refine aB<|aA<|ax a fun h a=>dB dP<|dB (aA dP)<|dB (aX q ET (l:=[I n.d0,I n.d1]) rfl rfl<|uG<|by simp[rZ]) ?_
 have a:=fB b (o+l*25) (r.vL n) wa wc a rfl rfl rfl
 have a:Hs G h (uV G hb p mb b o cap l C H n (r.vL n) m++L):=by
  simp[uV,hK,hZ];exact a.to
 have f:=a
 simp[uV,hK,hZ] at a
 have k:=a
 have⟨wa,wc,a⟩:=eH a
 refine(aB<|aA<|aX a ET (l:=[.bool<|r.iH 0,.bool<|r.iH 1,.bool<|r.iH 2,.bool<|r.iH 3]) rfl rfl<|aM rfl<|aEe<|dI (fun e=>?_) fun e=>?_)
 .have e:(r.vL n).qT=false:=by rw[cU.qT];rw[show(r.vL n).iH=r.iH from rfl,e];rfl
  simp[cU.rest,e,aO,c9] at g
  exact g _ _ (tS<|fQ hb C H l (r.vL n) m _ mb b o cap u rfl k).to
 .exact iz (r:=r.vL n) hC d u i hc (by rw[cU.qT,show(r.vL n).iH=r.iH from rfl,e];rfl) f g
end
theorem aGa (hC:C.Ok) {l:Nat} {H:kQ} {n:aI} (d:Ob G 0 fO) (a:Hs G h L) [m:dH (hJ G hb C) L H L'] (k:l<C.aF) (g:n.bA=l) (i:0<=n.core/\n.core<4) (hc:0<=(H l).1.cD.core/\(H l).1.cD.core<4)
  (e:∀v B,Hs G B (fR v (rU.S6 (H l) l n).2::hJ G hb C (bJ H l (rU.S6 (H l) l n).1)::L')->Q v B):
  ID 255 [IE hb,.agg ⟨n.enc⟩] h Q:=by
 have a:=m.of a
 simp[rU.S6] at e
 refine cW<|dY a fun p h a=>bD a ?_
 intro F h a
 have⟨mb,b,o,cap,a⟩:=Im k<|a.aN<|hJ G hb C H
 have⟨wa,wc,a⟩:=eH a
 refine aB<|aA<|aD a rfl<|aA<|aD a rfl ?_
 rw[g]
 refine dR k<|bD a fun E h a=>aA<|aD a rfl<|aB<|aA<|fC i.1 i.2<|aOw _ a rfl i ?_
 intro h a
 have f:=fB b (o+l*25) ((H l).1.qG n) wa wc a rfl rfl rfl
 refine aB<|aA<|aA<|aD a rfl<|bK<|bC (fun w=>bW ?_) fun w=>bW ?_
 .simp[cU.mC,aXg w] at e;rw[cU.Xr] at e;refine aA (aD f rfl<|Iw f i fun h a=>(aA<|aD a rfl<|dI (fun t=>bW ?_) fun t=>?_))
  .rw[aXg ⟨w,t⟩] at e;refine bD a fun A h a=>aB<|aA<|aD a rfl<|aA<|aD a rfl ?_;rw[g];refine aA<|aX a ET (l:=qZ (n.d0,n.d1)) rfl rfl<|Qq hC d a k fun h a=>?_;generalize y:((H l).1.qG n).jI n.core=r2 at a e;have a:Hs G h (uV G hb p mb b o cap l C H n r2 (n.d0,n.d1)++L'):=by
    simp[uV,hK,hZ];exact a.to
   have u:=a
   simp[uV,hK,hZ] at a
   have f:=a
   have⟨wa,wc,a⟩:=eH a
   refine(aB<|aA<|aX a ET (l:=[.bool _,.bool _,.bool _,.bool _]) rfl rfl<|aM rfl<|aEe<|dI (fun x=>?_) fun x=>?_)
   .have x:r2.qT=false:=by rw[cU.qT];rw[x];rfl
    simp[cU.rest,x,aO,c9] at e
    exact e _ _ (tS<|fQ hb C H l r2 (n.d0,n.d1) _ mb b o cap k rfl f).to
   .exact iz hC d k g (by rw[<-y];exact hc) (by grind[cU.qT]) u e
  .rw[aXf ES] at e;generalize y:((H l).1.qG n).jI n.core=r2 at a e;refine oh hC d k g (by rw[<-y];exact hc) (mb:=mb) (cap:=cap) ?_ e;simp[uV,hK,hZ,gE];exact a.to
 .have D:(H l).1.Xr (H l).2 n=(H l).2:=by rw[cU.Xr];rw[aXf ES]
  simp only[cU.mC,aXf w,D] at e
  refine aA<|aD a rfl<|bK<|bC (fun t=>bW ?_) fun t=>bW ?_
  .simp[aXg t] at e;refine aB<|aA<|ax a ?_;intro h a;refine bD a fun A h a=>aA<|aD a rfl<|aA<|aD a rfl<|aFs ?_;have z:=a;refine aB<|aA<|fC i.1 i.2<|ic {(H l).1.qG n with owner:= -1} a rfl i fun h a=>dB dP<|dB (aA dP)<|dB (aD z rfl jN)<|dB (aB dP)<|dB (aA dP) ?_;have f:=fB b (o+l*25) (((H l).1.qG n).Ko n) wa wc a rfl rfl rfl;refine aA (aD a rfl<|dI (fun q=>?_) fun q=>?_)
   .simp[q,e9] at e;refine aF0 (r:=((H l).1.qG n).Ko n) hC d k g hc (mb:=mb) (cap:=cap) ?_ e;simp[uV,hK,hZ,gE];exact f.to
   .simp[q,aO,c9] at e;refine oh (r:=((H l).1.qG n).Ko n) hC d k g hc (mb:=mb) (cap:=cap) ?_ e;simp[uV,hK,hZ,gE];exact f.to
  .simp[aXf t] at e;refine aA (aD a rfl<|dI (fun q=>?_) fun q=>?_)
   .simp[q,e9] at e;refine aF0 (r:=(H l).1.qG n) hC d k g hc (mb:=mb) (cap:=cap) ?_ e;simp[uV,hK,hZ,gE];exact f.to
   .simp[q,aO,c9] at e;refine oh (r:=(H l).1.qG n) hC d k g hc (mb:=mb) (cap:=cap) ?_ e;simp[uV,hK,hZ,gE];exact f.to
def Td {state:Int} (a:Hs G h L) [m:dH (fG b o) L r L'] (e:∀v d,Hs G d (fR v (kT bA state<|r.oJ x)::fG b o (r.kV<|r.oJ x)::L')->Q v d):
  ID 204 [pt b o 0,I x] h fun v d=>ID 203 [pt b o 0,I bA,I state,v] d Q:=by
 refine kf (m.of a) fun p q h a=>?_
 have a:=Rb<|a.aN<|fG b o r
 refine H6 (G:=G) (r:=r) (A:=Ti b o p q x r) (L:=L') aAd pn Ef EU ?_ fun v h a=>e v h ?_
 .simp[Ti];exact a.to
 .have a:=a.oN.dT;have a:Hs G h (zl b o r::Pq b o (r.kV<|r.oJ x)::fR v (kT bA state<|r.oJ x)::L'):=a.to;exact(Ul a).oN
theorem aAi {state:Int} (k:0<=x/\x<4) (d:Hs G h L) [m:dH (dJ 1 e a c) L (1,cs) L'] (g:cs=[I x]) [m2:dH (fG b o) L' r M] (i:∀v f,Hs G f (fR v (kT bA state [x.toNat])::fG b o (r.kV [x.toNat])::M)->Q v f):
  ID 241 [.slice a 1 c] h fun v f=>ID 203 [pt b o 0,I bA,I state,v] f Q:=by
 subst g
 have d:Hs G h (dJ 1 e a c (1,[x].map I)::fG b o r::M):=d.cR<|m.cR.trans<|m2.cR.cons _
 refine K8 (e:=e) rfl d fun p h d=>?_
 have d:=Rb<|d.aN<|fG b o r
 have q:lh Pr K G 303 [] [IE p] (Qb e p a c [x]) ([x.toNat].map fun(c:Nat)=>[I c]):=by
  have:=D3 (G:=G) (e:=e) (p:=p) (a:=a) (c:=c) (xs:=[x]) EV;simp[kx,CO,CF k.1] at this ⊢;exact this
 refine H6 (r:=r) (L:=zl b o r::M) q (fun c t=>ES) EV EU ?_ fun v h d=>i v h ?_
 .exact d.to
 .have d:Hs G h (zl b o r::Pq b o (r.kV [x.toNat])::fR v (kT bA state [x.toNat])::M):=d.to;exact(Ul d).oN
set_option maxHeartbeats 2000000 in
theorem G2 {C:bT} (hC:C.Ok) {hb l:Nat} {H:kQ} {n:aI} {bG:Int} {Q:Value->AH->Prop} (D:Ob G 0 fO) (d:Hs G h L) [m:dH (hJ G hb C) L H L'] (x:l<C.aF) (F:0<=n.core/\n.core<4) (t: -1<=(H l).1.owner/\(H l).1.owner<4)
  (f:∀v u,Hs G u (fR v ((H l).1.get l (H l).2 n bG).2::hJ G hb C (bJ H l (((H l).1.get l (H l).2 n bG).1,(H l).2))::L')->Q v u):
  ID 201 [IE hb,I l,I bG,.agg ⟨n.enc⟩] h Q:=by
 have d:=m.of d
 simp[cU.get] at f
 refine cW<|dY d ?_
 intro p h d
 obtain⟨mb,b,o,cap,d⟩:=Im x<|d.aN<|hJ G hb C H
 have⟨wa,wc,d⟩:=eH d
 refine aB<|aA<|aD d rfl<|dR x<|bD d fun P h d=>aX d ET (l:=n.enc) rfl rfl<|aB<|aA<|ax d ?_
 intro h d
 have A:=d
 refine aB<|aA<|ax d fun h d=>aB<|aA<|ax d ?_
 intro h d
 refine dB dP<|dB dP<|dB dP<|dB (aX A ET rfl rfl<|uG<|by simp[rZ,aI.enc])<|dB jN<|dB jN<|aA<|aD d rfl<|bM ?_
 have d:=fB b (o+l*25) ((H l).1.pJ n bG) wa wc d rfl rfl rfl
 have k:((H l).1.pJ n bG).cD.core=n.core:=rfl
 have t: -1<=((H l).1.pJ n bG).owner/\((H l).1.pJ n bG).owner<4:=t
 generalize O:(H l).1.pJ n bG=r at d f k t
 have jK:∀(g:cU),g.cD.core=n.core->∀h,Hs G h (fG b (o+l*25) g::aG hb 0 (kB mb C b o cap)::eU G C.aF mb C (fun i=>(H i).2)::fJ G 25 244 (some ⟨b,o,none⟩) cap C.aF b o::C1 b o C.aF H l::L')->
   (∀v u,Hs G u (fR v (g.jK l<|g.jl (H l).2).2::hJ G hb C (bJ H l ((g.jK l<|g.jl (H l).2).1,(H l).2))::L')->Q v u)->ID 276 [IE hb,I l] h Q:=fun g E h d f=>by
  have d:=fQ hb C H l g _ _ mb b o cap x gE.symm d
  grind[Jg,bR,Bo]
 have q:∀(g:cU) (N:HM) v h,Hs G h (fR v N::fG b (o+l*25) g::aG hb 0 (kB mb C b o cap)::eU G C.aF mb C (fun i=>(H i).2)::fJ G 25 244 (some ⟨b,o,none⟩) cap C.aF b o::C1 b o C.aF H l::L')->Hs G h (fR v N::hJ G hb C (bJ H l (g,(H l).2))::L'):=fun g N v h d=>
  (fQ hb C H l g _ _ mb b o cap x gE.symm d).to
 refine bC (fun y=>?_) fun y=>?_
 .simp only[aXg y,cU.qy,k] at f;refine bW (aA<|aD d rfl<|Au d fun d=>bK<|bC (fun w=>?_) fun w=>?_)
  .rw[aXg w] at f;exact aA<|aD d rfl<|Td d fun v h d=>f _ _<|q _ _ _ _ d.to
  .rw[aXf w] at f;exact jK r k _ d.to f
 .simp only[aXf y,cU.il] at f;refine bW<|bD d ?_;intro J h d;have⟨wa,wc,d⟩:=eH<|d.aN<|fG b (o+l*25) r;refine aB (aA<|aD d rfl<|aA<|aD d rfl<|bM<|bC (fun w=>bW ?_) fun w=>bW ?_)
  .have B:r.xK={r with owner:= -1}:=by rw[cU.xK];rw[aXg ES]
   rw[B] at f
   refine aB<|aA<|ax d fun h d=>aB<|aA<|aD d rfl<|bK<|aR EV ?_
   exact jK {r with owner:= -1} k _ (fB b (o+l*25) {r with owner:= -1} wa wc d rfl rfl rfl).to f
  .have B:r.xK=r:=by rw[cU.xK];rw[aXf ES]
   rw[B] at f
   refine aB<|aA<|aD d rfl<|bK<|bC (fun z=>?_) fun z=>?_
   .rw[aXg z] at f;refine aB<|aA<|aD d rfl<|aM (c:=[I r.owner]) rfl<|dC d rfl rfl rfl ?_;intro a h d;have d:=fB b (o+l*25) r wa wc d rfl rfl rfl;exact aAi (e:=3) ER d rfl fun v h d=>f _ _<|q _ _ _ _ d.to
   .rw[aXf z] at f;exact jK r k _ (fB b (o+l*25) r wa wc d rfl rfl rfl).to f
def vJ (d:Hs G h L) [m:dH (aG hb 0) L (kB mb C b o cap) L'] (e:Q (.bool<|decide<|C.fY x) h):ID 131 [IE hb,I x] h Q:=by
 refine cW<|Rj<|eV<|eQ<|bC (fun a=>?_) fun a=>?_;refine aB<|aA<|aD d rfl<|cE<|aQ ?_;rwa [show decide _=decide (C.fY x) from AV.2 ⟨fun h=>⟨a,h⟩,fun h=>h.2⟩];show Q _ _;rwa [show false=decide (C.fY x) from(ec fun h=>a h.1).symm]
def H3 {H:kQ} {l:Nat} (a:l<C.aF) (d:Hs G h L) [k:eR (dV C.aF fun i=>fG b (o+i*25) (H i).1) L L']:Hs G h (fG b (o+l*25) (H l).1::C1 b o C.aF H l::L'):=
 (d.aN<|dV C.aF fun i=>fG b (o+i*25) (H i).1).kE l a
def Bi (C:bT) (H:kQ) (hb mb b o cap:Nat) {a d e:HL} (f:Hs G h L) [g:eR (aG hb 0<|kB mb C b o cap) L a] [k:eR (eU G C.aF mb C fun i=>(H i).2) a L2]
  [q:eR (fJ G 25 244 (some ⟨b,o,none⟩) cap C.aF b o) L2 d] [t:eR (dV C.aF fun i=>fG b (o+i*25) (H i).1) d e]:Hs G h (hJ G hb C H::e):=
 tP (mb:=mb) (b:=b) (o:=o) (cap:=cap) (f.cR<|g.cR.trans<|(k.cR.trans<|(q.cR.trans<|t.cR.cons _).cons _).cons _)
variable {l:Nat} {H:kQ} {n:aI}
theorem aQh (hC:C.Ok) (u:Ob G 0 fO) (g:l<C.aF) (w:n.bA=l) (k:0<=n.core/\n.core<4) (A:(H l).1.pK) (D:(H l).1.aY.length<2^30)
  (d:Hs G h (aG p 0 n.enc::aG hb 0 (kB mb C b o cap)::eU G C.aF mb C (fun i=>(H i).2)::fJ G 25 244 (some ⟨b,o,none⟩) cap C.aF b o::dV C.aF (fun i=>fG b (o+i*25) (H i).1)::L))
  (f:∀v z,Hs G z (fR v (rU.take (H l) l n).2.1::hJ G hb C (bJ H l (rU.take (H l) l n).1)::L)->Q (.tuple ⟨[v,I (rU.take (H l) l n).2.2]⟩) z):
  Dd 177 6 [] Q [IE hb,IE p] h:=by
 rw[rU.take] at f
 refine bW<|bD d ?_
 intro E h d
 have d:=H3 (H:=H) (b:=b) (o:=o) g d
 have wS:∀h,Hs G h (fG b (o+l*25) (H l).1::C1 b o C.aF H l::aG p 0 n.enc::aG hb 0 (kB mb C b o cap)::eU G C.aF mb C (fun i=>(H i).2)::fJ G 25 244 (some ⟨b,o,none⟩) cap C.aF b o::L)->Hs G h (fR _ []::hJ G hb C (bJ H l<|H l)::L):=fun h d=>
  tS ((fQ hb C H l (H l).1 _ _ mb b o cap g gE.symm d).to)
 have B:Hs G h (fG b (o+l*25) (H l).1::C1 b o C.aF H l::aG p 0 n.enc::aG hb 0 (kB mb C b o cap)::eU G C.aF mb C (fun i=>(H i).2)::fJ G 25 244 (some ⟨b,o,none⟩) cap C.aF b o::L):=d.to
 have⟨wa,wc,d⟩:=eH d
 refine aB<|aA<|aD d rfl<|aA<|aD d rfl ?_
 rw[w]
 refine dR g<|aA<|aD d rfl<|bM<|bC (fun y=>bW ?_) fun y=>bW ?_
 .rw[aXg y] at f;refine bD d fun x h d=>aB (aA<|aD d rfl<|cG<|eI<|dI (fun q=>?_) fun q=>?_)
  .refine aB (aA<|aA<|aD d rfl<|aA<|aD d rfl<|bK<|bC (fun t=>?_) fun t=>bW ?_)
   .rw[aXg<|.inr t] at f;exact f _ _<|wS _ (fB b (o+l*25) _ wa wc d rfl rfl rfl).to
   .rw[aXf ES] at f;have d:=fB b (o+l*25) _ wa wc d rfl rfl rfl;exact r6 d fun h d=>f _ _<|tS<|(fQ hb C H l (H l).1.iW _ _ mb b o cap g gE.symm d).to
  .rw[aXg<|.inl q] at f;exact f _ _<|wS _ (fB b (o+l*25) _ wa wc d rfl rfl rfl).to
 .rw[aXf y] at f;refine bM (bC (fun q=>bW ?_) fun q=>bW ?_)
  .rw[aXg q] at f;refine bD d fun x h d=>aA (aD d rfl<|aB<|aA<|fC k.1 k.2<|aD d (v:= .bool ((H l).1.iH n.core.toNat)) ?_<|cG<|eI<|dI (fun t=>?_) fun t=>?_)
   .have:n.core.toNat=0\/n.core.toNat=1\/n.core.toNat=2\/n.core.toNat=3:=ER
    rcases this with e|e|e|e<;>rw[e]<;>rfl
   .rw[aXf ES] at f;refine aX d ET (l:=n.enc) rfl rfl ?_;have d:=fB b (o+l*25) _ wa wc d rfl rfl rfl;have d:=fQ hb C H l (H l).1 _ _ mb b o cap g gE.symm d;rw[show bJ H l ((H l).1,(H l).2)=H from rM] at d;exact aGa hC u d g w k A.core fun v h d=>f _ _ d.to
   .rw[aXg t] at f;exact f _ _<|wS _ (fB b (o+l*25) _ wa wc d rfl rfl rfl).to
  .rw[aXf q] at f;refine bD d fun x h d=>aB<|aA<|aD d rfl<|aX d ET (l:=n.enc) rfl rfl<|aM (c:=n.enc) rfl ?_;refine mN d rfl rfl rfl rfl rfl fun a h d=>vO d ER ?_;intro a4 c4 h d;refine aB<|aA<|ax d fun h d=>dB dP<|f _ _ ?_;exact tS<|(fQ hb C H l ((H l).1.mX n) _ _ mb b o cap g gE.symm<|fB b (o+l*25) ((H l).1.mX n) a4 c4 d (by simp[cU.enc,dU,cU.mX]) (by simp[cU.mX])<|by simp[Bn,cU.mX]).to
end
variable {G:Bg} {h:AH}
section
variable {l:Nat} {H:kQ} {n:aI}
theorem aQc (hC:C.Ok) (g:Ob G 0 fO) (u:yT C H (2^30 - 1)) {t:Value}
  (a:Hs G h (aG p 0 n.enc::aG hb 0 (kB mb C b o cap)::eU G C.aF mb C (fun i=>(H i).2)::fJ G 25 244 (some ⟨b,o,none⟩) cap C.aF b o::dV C.aF (fun i=>fG b (o+i*25) (H i).1)::L)) (z:dN n.kind)
  (f:∀v q,Hs G q (fR v (gJ C H n).2.1::hJ G hb C (gJ C H n).1::L)->Q (.tuple ⟨[v,I (gJ C H n).2.2]⟩) q):Dd 177 4 [] Q [IE hb,IE p,t] h:=by
 rw[gJ,aXf ES] at f
 have y:=hC.1.2
 have no:¬((0<=n.core/\n.core<C.aE)/\C.fY n.bA)->∀h,Hs G h (aG p 0 n.enc::aG hb 0 (kB mb C b o cap)::eU G C.aF mb C (fun i=>(H i).2)::fJ G 25 244 (some ⟨b,o,none⟩) cap C.aF b o::dV C.aF (fun i=>fG b (o+i*25) (H i).1)::L)->Q (.tuple ⟨[.slice none 0 0,I 10]⟩) h:=fun A h a=>by
  rw[aXf A] at f;exact f _ _ (tS<|Bi C H hb mb b o cap a).to
 refine bW<|bD a fun B h a=>aA<|aD a rfl<|aQ<|bC (fun w=>no ER _ a.to) fun w=>?_
 refine aA<|aD a rfl<|aB<|aA<|aA<|aD a rfl<|eQ<|bC (fun x=>no ER _ a.to) fun x=>(aA<|aD a rfl<|vJ a<|cG<|eI<|bC (fun k=>?_) fun k=>no ES _ a.to)
 rw[aXg ES] at f
 have⟨l,hnl⟩:=cb k.1
 have d:l<C.aF:=by have:=k.2;omega
 have e:n.bA.toNat=l:=ER
 rw[e,hnl] at f
 exact aQh (mb:=mb) (b:=b) (o:=o) (cap:=cap) hC g d hnl ER (u l d).1 (by have:=(u l d).2;omega) a.to f
end
def Jb (hC:C.Ok) {H:kQ} {n:aI} (e:Ob G 0 fO) (y:yT C H (2^30 - 1)) (d:Hs G h L) [m:dH (hJ G hb C) L H L']
  (f:∀v i,Hs G i (fR v (gJ C H n).2.1::hJ G hb C (gJ C H n).1::L')->Q (.tuple ⟨[v,I (gJ C H n).2.2]⟩) i):ID 177 [IE hb,.agg ⟨n.enc⟩] h Q:=by
 refine cW<|dY (m.of d) ?_
 intro p h d
 obtain⟨mb,b,o,cap,d⟩:=nS d.oN
 have a:∀t,dN n.kind->Dd 177 4 [] Q [IE hb,IE p,t] h:=fun t g=>aQc (mb:=mb) (b:=b) (o:=o) (cap:=cap) hC e y d.to g f
 have no:¬dN n.kind->Q (.tuple ⟨[.slice none 0 0,I 15]⟩) h:=fun z=>by
  rw[gJ,aXg z] at f;exact f _ _ (tS<|Bi C H hb mb b o cap d).to
 refine cZ<|cF<|bW<|aA<|aD d rfl<|bM<|bC (fun k=>bW<|bU k<|a _ GL) fun k=>bW<|bM<|bC (fun q=>bW<|bU q<|a _ GL) fun q=>bW ?_
 refine bM<|bC (fun u=>bW<|bU u<|a _ GL) fun u=>bW ?_
 exact bM<|bC (fun w=>bW<|bU w<|a _ GL) fun w=>bW<|bM<|bC (fun x=>a _ GL) fun x=>no GL
def aCg {H:kQ} (k:yT C H (2^30 - 1)) (d:Hs G h L) [m:dH (hJ G hb C) L H L']
  (e:∀i,Hs G i (hJ G hb C (oW C H x).1::L')->Q (I (oW C H x).2) i):ID 266 [IE hb,I x] h Q:=by
 have⟨mb,b,o,cap,d⟩:=nS<|m.of d
 rw[oW] at e
 refine cW<|cZ<|cF<|bW<|vJ d<|cG<|eI<|bC (fun f=>bW ?_) fun f=>?_
 .rw[aXg f] at e;obtain⟨l,rfl⟩:=cb f.1;simp[rU.aN0,aP] at e;have g:l<C.aF:=by have:=f.2;omega
  have d:=H3 (H:=H) (b:=b) (o:=o) g d
  have⟨wa,wc,d⟩:=eH d
  have q:=(k l g).2
  refine aB<|aA<|aD d rfl<|dR g<|aB<|aA<|aD d rfl<|aM (c:=(Hd l).enc) rfl<|aM (c:=(Hd l).enc) rfl ?_
  refine dC d rfl rfl rfl fun a h d=>vO d ER ?_
  intro a4 c4 h d
  refine aB<|aA<|ax d fun h d=>e _ ?_
  exact(fQ hb C H l ((H l).1.mX<|Hd l) _ _ mb b o cap g gE.symm<|fB b (o+l*25) ((H l).1.mX<|Hd l) a4 c4 d (by simp[cU.enc,dU,cU.mX]) (by simp[cU.mX])<|by simp[Bn,cU.mX]).to
 .rw[aXf f] at e;exact e _ (Bi C H hb mb b o cap d).to
structure kh (G:Bg) (A:HP) (jv:Value) (j:Int->Int->Int×Bool):Prop where
 ne:∀k:Value->Prop,k (.bool false)->bQ (R8 true .eql jv .nilIface) k
 R2:∀(h:AH) (L M:HL) (w l:Int) (Q:Value->AH->Prop),L.Perm (A::M)->Hs G h L->(∀h',Hs G h' L->Q (.tuple ⟨[I (j w l).1,.bool (j w l).2]⟩) h')->ID 200 [jv,I w,I l] h Q
section
variable {l:Nat} {H:kQ} {n:aI}
def Av (G:Bg) (hb p mb b o cap l:Nat) (C:bT) (H:kQ) (n:aI) (r:cU):HL:=
 [fG b (o+l*25) r,aG p 0 n.enc,aG hb 0<|kB mb C b o cap,eU G C.aF mb C fun i=>(H i).2,fJ G 25 244 (some ⟨b,o,none⟩) cap C.aF b o,C1 b o C.aF H l]
def aEt (q:l<C.aF) (g:n.kind≠3/\n.kind≠1/\n.kind≠2) (a:Hs G h (Av G hb p mb b o cap l C H n r++L)) {t:Value}
  (d:∀v k,Hs G k (fR v (r.kN l (H l).2 n fun w=>j w l).2::hJ G hb C (bJ H l (r.kN l (H l).2 n fun w=>j w l).1)::L)->Q (.tuple ⟨[v,I 0]⟩) k):Dd 126 13 [] Q [IE hb,I l,jv,pt b (o+l*25) 0,IE p,t] h:=by
 rw[cU.kN,aXf g.1,aab] at d
 simp[Av,hK,hZ] at a
 refine bW<|Au a fun a=>bM<|bC (fun f=>?_) fun f=>bW<|bD a ?_
 .rw[aXg f] at d;exact d _ _<|tS<|(fQ hb C H l r _ _ mb b o cap q gE.symm a).to
 .rw[aXf f] at d;intro y h a;refine aX a ET (l:=n.enc) rfl rfl ?_;obtain⟨u,x,a⟩:=eH<|a.aN<|fG b (o+l*25) r;refine aB<|aA<|ax a ?_;intro h a;have i:=a;refine aB (aA<|ax a fun h a=>dB dP<|dB (aX i ET rfl rfl<|uG<|by simp[rZ,aI.enc]) ?_);have a:=fB b (o+l*25) (r.Vn n) u x a rfl rfl rfl;have e:(r.Vn n).oJ (-1)=r.oJ (-1):=rfl;refine Td a fun v h a=>d _ _ ?_;rw[e] at a;exact(fQ hb C H l ((r.Vn n).kV<|r.oJ<|-1) _ _ mb b o cap q gE.symm a).to
theorem Yz (hC:C.Ok) (f:Ob G 0 fO) {A:HP} {u:HL} (x:kh G A jv j) (hA:L.Perm (A::u)) (i:l<C.aF) (k:0<=n.core/\n.core<4) (y: -1<=r.owner/\r.owner<4) (g:n.kind=1\/n.kind=2) (d:Hs G h (Av G hb p mb b o cap l C H n r++L))
  (e:∀v q,Hs G q (fR v (r.kN l (H l).2 n fun w=>j w l).2::hJ G hb C (bJ H l (r.kN l (H l).2 n fun w=>j w l).1)::L)->Q (.tuple ⟨[v,I 0]⟩) q):Dd 126 12 [] Q [IE hb,I l,jv,IE p] h:=by
 unfold cU.kN at e
 rw[aab,aXg g] at e
 simp[Av,hK,hZ] at d
 refine bW<|aA<|aD d rfl<|x.R2 _ _ _ _ _ _ ((hA.append_left<|Av G hb p mb b o cap l C H n r).trans CS) d fun h d=>?_
 simp[Av,hK,hZ] at d
 refine aH rfl<|aH rfl<|cG<|eI<|dI (fun t=>?_) fun t=>?_
 .rw[aXg t] at e;refine aX d ET (l:=n.enc) rfl rfl ?_;have d:=fQ hb C H l r _ _ mb b o cap i gE.symm d;refine G2 hC f d i k (by grind[bR]) fun v h d=>e _ _ ?_;simp[bR,Bo] at d;exact d.to
 .rw[aXf ES] at e;refine aA<|aD d rfl<|aM (c:=(Ed 9 n.core l).enc) rfl<|aM (c:=(Ed 9 n.core l).enc) rfl<|dC d rfl rfl rfl fun a h d=>e _ _ ?_;exact(fQ hb C H l r _ _ mb b o cap i gE.symm<|Hi rfl d).to
theorem aJr (hC:C.Ok) (g:Ob G 0 fO) (i:l<C.aF) (f:0<=n.core/\n.core<4) (k:n.kind=3) (d:Hs G h (Av G hb p mb b o cap l C H n r++L))
  (e:∀v q,Hs G q (fR v (r.kN l (H l).2 n fun w=>j w l).2::hJ G hb C (bJ H l (r.kN l (H l).2 n fun w=>j w l).1)::L)->Q (.tuple ⟨[v,I 0]⟩) q):Dd 126 6 [] Q [IE hb,I l,pt b (o+l*25) 0,IE p] h:=by
 rw[cU.kN,aXg k] at e
 simp[Av,hK,hZ] at d
 refine bW<|bD d ?_
 intro z h d
 obtain⟨x,y,d⟩:=eH<|d.aN<|fG b (o+l*25) r
 refine aB<|aA<|aD d rfl<|aA<|aD d rfl<|bM<|bC (fun t=>?_) fun t=>?_
 .have d:=fB b (o+l*25) r x y d rfl rfl rfl;refine aA (aD d rfl<|dI (fun u=>bW<|bD d ?_) fun u=>bW ?_)
  .rw[aXg ⟨t,u⟩] at e;intro z h d;refine aB<|aA<|aD d rfl<|aA<|aX d ET (l:=qZ (n.d0,n.d1)) rfl rfl<|Qq hC g d i fun h d=>(aA<|aD d rfl<|Iw d f fun h d=>?_);refine aA<|aD d rfl<|aM (c:=(Ed 10 n.core l).enc) rfl<|aM (c:=(Ed 10 n.core l).enc) rfl<|dC d rfl rfl rfl fun a h d=>e _ _ ?_;exact(fQ hb C H l (r.jI n.core) (n.d0,n.d1) _ mb b o cap i rfl<|Hi rfl d).to
  .rw[aXf ES] at e;refine aA<|aD d rfl<|Iw d f fun h d=>?_;refine aA<|aD d rfl<|aM (c:=(Ed 10 n.core l).enc) rfl<|aM (c:=(Ed 10 n.core l).enc) rfl<|dC d rfl rfl rfl fun a h d=>e _ _ ?_;exact(fQ hb C H l (r.jI n.core) _ _ mb b o cap i gE.symm<|Hi rfl d).to
 .rw[aab] at e;have d:=fB b (o+l*25) r x y d rfl rfl rfl;refine aA<|aD d rfl<|Iw d f fun h d=>?_;refine aA<|aD d rfl<|aM (c:=(Ed 10 n.core l).enc) rfl<|aM (c:=(Ed 10 n.core l).enc) rfl<|dC d rfl rfl rfl fun a h d=>e _ _ ?_;exact(fQ hb C H l (r.jI n.core) _ _ mb b o cap i gE.symm<|Hi rfl d).to
end
theorem aI1 (hC:C.Ok) {H:kQ} {N:Nat} (g:Ob G 0 fO) {A:HP} {P:HL} (z:kh G A jv j) (U:yT C H N) (a:Hs G h L) [m:dH (hJ G hb C) L H L'] (hA:L'.Perm (A::P))
  (d:∀v E,Hs G E (fR v (kJ C H x fun w=>j w x).2.1::hJ G hb C (kJ C H x fun w=>j w x).1::L')->Q (.tuple ⟨[v,I (kJ C H x fun w=>j w x).2.2]⟩) E):ID 126 [IE hb,I x,jv] h Q:=by
 have⟨mb,b,o,cap,a⟩:=nS<|m.of a
 rw[kJ] at d
 refine cW<|cZ<|cF<|bW<|vJ a<|cG<|eI<|bC (fun y=>bW<|z.ne _<|cF<|bW ?_) fun y=>?_
 rotate_left
 .rw[aXf y] at d;exact d _ _ (tS<|Bi C H hb mb b o cap a).to
 rw[aXg y] at d
 obtain⟨l,rfl⟩:=cb y.1
 have k:l<C.aF:=by have:=y.2;omega
 simp[aP] at d
 have a:=H3 (H:=H) (b:=b) (o:=o) k a
 have⟨wa,wc,a⟩:=eH a
 have wS:∀h,Hs G h (fG b (o+l*25) (H l).1::C1 b o C.aF H l::aG hb 0 (kB mb C b o cap)::eU G C.aF mb C (fun i=>(H i).2)::fJ G 25 244 (some ⟨b,o,none⟩) cap C.aF b o::L')->Hs G h (fR _ []::hJ G hb C (bJ H l<|H l)::L'):=fun h a=>
  tS ((fQ hb C H l (H l).1 _ _ mb b o cap k gE.symm a).to)
 rw[rU.fX] at d
 refine aB<|aA<|aD a rfl<|dR k<|aB<|aA<|aD a rfl<|dI (fun F=>?_) fun F=>bW ?_
 .rw[aXg F] at d;exact d _ _<|wS _ (fB b (o+l*25) _ wa wc a rfl rfl rfl).to
 rw[aXf ES] at d
 refine aB<|aA<|aD a rfl<|cE<|bM<|bC (fun T=>?_) fun T=>bW ?_
 .have u:(H l).1.aY=[]:=ES;rw[u] at d;exact d _ _<|wS _ (fB b (o+l*25) _ wa wc a rfl rfl rfl).to
 .cases u:(H l).1.aY with
  |nil=>grind
  |cons n w=>
   rw[u] at d
   have q:=(U l k).1
   have t:=q.aY n ES
   have f:=a.aN<|dJ 9 146 wa wc ((H l).1.aY.length,gK (H l).1.aY)
   rw[u] at f
   simp[k5,O4] at f
   obtain⟨W,X,rfl,V,B,_⟩:=f.sQ ER
   refine aB<|aA<|aD a rfl ?_
   rw[u]
   refine dR EV<|Oj B ET (l:=n.enc) (by simp[aI.enc]) rfl ?_
   apply bX f
   intro p h a
   refine an a fun h a=>aB<|aA<|aD a rfl ?_
   rw[u]
   refine aCs (e:=146) a fun R S a=>aB<|aA<|ax a ?_
   intro h a
   have a:=fB b (o+l*25) ((H l).1.next w) R S a rfl rfl (by simp[cU.next,aI.enc])
   have a:Hs G h (Av G hb p mb b o cap l C H n ((H l).1.next w)++L'):=by
    simp[Av,hK,hZ];exact a.to
   simp[Av,hK,hZ] at a
   refine aA<|aD a rfl<|bM<|bC (fun J=>aJr (j:=j) hC g k t J a d) fun J=>bW<|bM<|bC (fun D=>bW<|bU D<|Yz (r:=(H l).1.next w) hC g z hA k t q.owner (.inl D) a d) fun D=>bW<|bM<|bC (fun O=>Yz (r:=(H l).1.next w) hC g z hA k t q.owner (.inr O) a d) fun O=>aEt k ER a d
end Go.Proofs.Z.H
end
variable {g:Int}
namespace Go.Proofs.Z
open Go.Hm Go.At Go.Mc
def aPg {a b c d:Bool} (f:k (.bool<|!(a||b||c||d))) {e:Bool} (hc:e=true:=by kernel_rfl):R0 e [1,1,1,1] .eql (.agg ⟨[.bool a,.bool b,.bool c,.bool d]⟩) (.agg ⟨[.bool false,.bool false,.bool false,.bool false]⟩) k:=by
 exact⟨hc,_,(by cases a<;>cases b<;>cases c<;>cases d<;>kernel_rfl),f⟩
attribute [local irreducible] bQ Br sA vD vT F4 pC yQ nJ Uh iZ pV tD sH rQ pG vX Sn Rx R8 Rz R0 Xm mQ qJ kH jX Ao Jw nA Qv Ub B0 Cl Cx Xf xZ uP mK gY dD cQ
variable {G:Bg} {h:AH} {C:bT} {m:gV}
def Vx (d:jL C m) (hC:C.Ok) (a:m.fY g):∃n:Nat,g=n/\n<m.eB.length/\n<16:=by
 have:=d.len;have:=hC.2.1;rw[gV.fY] at a;exact⟨g.toNat,ER,ER,ER⟩
variable {r:Mc.mE}
def za (a:i<4):dU r.enc (0+8+i*1) [.bool false]=(r.mC i).enc:=by
 have:i=0\/i=1\/i=2\/i=3:=ER
 rcases this with rfl|rfl|rfl|rfl<;>rfl
variable {f:Nat->Option Mc.mE}
def S3 {g:Nat}:Py (lU f) g (some<|.agg ⟨r.enc⟩)=lU (bJ f g<|some r):=J1 (x:=some r)
theorem R6 {core:Int} (hC:C.Ok) (B:jL C m) (a:Hs G h L) [D:dH (iD C p) L m L'] (d:∀x,Hs G x (iD C p (m.iC C.aE g core).1::L')->Q (.tuple ⟨[.bool (m.iC C.aE g core).2.1,I (m.iC C.aE g core).2.2]⟩) x):ID 189 [IE p,I g,I core] h Q:=by
 have F:=hC.1;rw[gV.iC] at d;have⟨t,b,a⟩:=lG<|D.of a;refine cW<|cZ<|cF<|bW<|aB<|aA<|aD a rfl<|E4 a fun h a=>?_;by_cases v:m.fY g;rotate_left;rw[aXf v];rw[aXg v] at d;exact aH rfl<|aH rfl<|bX a fun q h a=>an a fun h a=>bK<|aad<|d _<|eF (t:=t) (b:=b) a.to;rw[aXg v];rw[aXf ES] at d;obtain⟨n,rfl,J,u⟩:=Vx B hC v;refine aH rfl<|aH rfl<|bX a fun q h a=>an a fun h a=>bK<|aaa<|bW<|aB<|aA<|aD a rfl<|S9 a<|bX a fun N h a=>an a fun h a=>aA<|aD a rfl<|bK<|bC (fun k=>?_) fun k=>?_;cases hr:m.run (n:Int) with
 |none=>rw[hr] at d;exact d _ (eF (t:=t) (b:=b) a.to)
 |some r=>
  rw[hr] at k d;simp only[ss] at k;dsimp only at d;rw[aXg k] at d;exact d _<|eF (t:=t) (b:=b) a.to
 cases hr:m.run (n:Int) with
 |none=>rw[hr] at k;exact absurd (show(0:Int)≠1 by omega) k
 |some r=>
 rw[hr] at k a d;simp only[ss] at k a;dsimp only at d;rw[aXf k] at d;by_cases y:0<=core/\core<C.aE;rotate_left;rw[aXg<|Or.inl y] at d;refine bW<|aQ<|bC (fun A=>d _<|eF (t:=t) (b:=b) a.to) fun A=>aB<|aA<|aD a rfl<|eQ<|aad<|d _<|eF (t:=t) (b:=b) a.to;obtain⟨i,rfl⟩:=cb y.1;have w:r.enc[0+8+i*1]?=some (.bool<|r.aY i):=by
  have:i=0\/i=1\/i=2\/i=3:=ER
  rcases this with rfl|rfl|rfl|rfl<;>rfl
 refine bW<|aQ<|aaa<|aB<|aA<|aD a rfl<|eQ<|aaa<|aA<|iN ER<|aD a w<|cG<|eI ?_;rw[aP] at d;cases hw:r.aY i with
 |false=>
  rw[aXg<|Or.inr hw] at d;exact cF (d _<|eF (t:=t) (b:=b) a.to)
 |true=>
 rw[aXf ES] at d;refine eV (bW<|aA<|iN ER<|bS a rfl (by grind[Nat.ble_eq_true_of_le]) rfl rfl fun h a=>?_);rw[za ER] at a;refine aA<|lD a ET (l:=[.bool _,.bool _,.bool _,.bool _]) rfl rfl<|aM rfl<|aPg<|dI (fun f=>?_) fun f=>?_;have e:({(r.mC i) with phase:=2}:Mc.mE)=(r.mC i).mY:=by rw[mE.mY];rw[show(r.mC i).none=true from f];rfl
 refine bW<|aA<|ax a fun h a=>bD a fun E h a=>?_;have z:dU (r.mC i).enc (0+7) [I 2]=({(r.mC i) with phase:=2}:Mc.mE).enc:=rfl;rw[z,e] at a;refine aB<|aA<|aD a rfl<|aX a ET (l:=(r.mC i).mY.enc) rfl rfl<|V8 a u fun h a=>?_;rw[S3] at a;have a:Hs G h (iD C p (m.dL n<|some (r.mC i).mY)::L'):=(eF (m:=m.dL n<|some (r.mC i).mY)<|a.cT (aG p 0 [IE t,I C.aE,jE b]) (jS t m.eB)<|oB b<|lU<|bJ m.lS n _).to;have:=d h a;rw[f];rwa [show(r.mC i).none=true from f] at this;have e:r.mC i=(r.mC i).mY:=by rw[mE.mY];rw[show(r.mC i).none=false from f];rfl
 rw[e] at a;refine bW<|bD a fun E h a=>aB<|aA<|aD a rfl<|aX a ET (l:=(r.mC i).mY.enc) rfl rfl<|V8 a u fun h a=>?_;rw[S3] at a;have a:Hs G h (iD C p (m.dL n<|some (r.mC i).mY)::L'):=(eF (m:=m.dL n<|some (r.mC i).mY)<|a.cT (aG p 0 [IE t,I C.aE,jE b]) (jS t m.eB)<|oB b<|lU<|bJ m.lS n _).to;have:=d h a;rw[f];rwa [show(r.mC i).none=false from f] at this
theorem aDg (h:m.run (n:Int)=some r):m.lS n=some r:=by
 simp_all[gV.run,aXg]
theorem nr (hC:C.Ok) (B:jL C m) (a:Hs G h L) [F:dH (iD C p) L m L'] (d:∀u,Hs G u (iD C p (m.over g).1::L')->Q (.tuple ⟨[.agg ⟨zB<|(m.over g).2.1.getD Nb⟩,I (m.over g).2.2]⟩) u):ID 128 [IE p,I g] h Q:=by
 rw[gV.over] at d;refine cW<|bX (cs:=zB Nb) (F.of a) fun z h a=>?_;obtain⟨t,b,a⟩:=lG<|a.aN<|iD C p m;refine cZ<|cF<|bW<|aB<|aA<|aD a rfl<|E4 a fun h a=>?_;have bad:∀{h:AH} {M:HL} {e:Int},[C3 M L']->Hs G h (aG z 0 (zB Nb)::aG p 0 [IE t,I C.aE,jE b]::jS t m.eB::oB b (lU m.lS)::M)->(∀u,Hs G u (iD C p m::L')->Q (.tuple ⟨[.agg ⟨zB Nb⟩,I e]⟩) u)->
   bQ (rL [I 0,I 0,I 0,I 0,I 0,I 0,.bool false] []) fun y=>bQ (vT h 7 (IE z)<|.agg ⟨y⟩) fun v=>bQ (vD v 7<|IE z) fun v12=>Q (.tuple ⟨[v12,I e]⟩) v:=by
  intro h M e _ a E
  exact aM rfl<|an a fun h a=>aX a ET (l:=zB Nb) rfl rfl<|E _<|eF (t:=t) (b:=b) a.to
 by_cases w:m.fY g;rotate_left;rw[aXf w];rw[aXg w] at d;exact aH rfl<|aH rfl<|bX a fun q h a=>an a fun h a=>bK<|aad<|bad (M:=L') a.to d;rw[aXg w];rw[aXf ES] at d;obtain⟨n,rfl,J,D⟩:=Vx B hC w;refine aH rfl<|aH rfl<|bX a fun q h a=>an a fun h a=>bK<|aaa<|bW<|aB<|aA<|aD a rfl<|S9 a<|bX a fun N h a=>an a fun h a=>aA<|aD a rfl<|bK<|bC (fun k=>?_) fun k=>?_;cases hr:m.run (n:Int) with
 |none=>rw[hr] at d;exact bad (M:=L') a.to d
 |some r=>
  rw[hr] at k d;simp only[ss] at k;dsimp only at d;rw[aXg k] at d;exact bad (M:=L') a.to d
 cases hr:m.run (n:Int) with
 |none=>rw[hr] at k;exact absurd (show(0:Int)≠2 by omega) k
 |some r=>
 rw[hr] at k a d;simp only[ss] at k a;dsimp only at d;rw[aXf k] at d;have⟨o1,o2,o3,o4,o5⟩:=B.run n r<|aDg hr;refine bW<|bD a fun O h a=>aB<|aA<|aD a rfl<|aA<|aA<|aA<|aD a rfl<|aA<|aA<|aD a rfl<|aM rfl<|Ks (x:=⟨r.Cy,_⟩) a fun h a=>?_;have i:(0<=r.cJ/\r.cJ<m.eB.length)/\(0<=r.Cy/\r.Cy<=4):=⟨ES,o5⟩;rw[aXg i] at a;rw[aXg i];refine bK<|aaa<|bW<|aB<|aA<|aD a rfl<|aOd a fun h a=>aA<|aX a ET (l:=zB r) rfl rfl<|an a fun h a=>aX a ET (l:=zB r) rfl rfl<|d _ ?_;have A:=J1 (f:=m.lS) (g:=n) (x:=none);rw[Option.map_none] at A;rw[A] at a;have a:Hs G h (iD C p ((m.y1 r.cJ.toNat ⟨r.Cy,false⟩).dL n none)::L'):=(eF (m:=(m.y1 r.cJ.toNat ⟨r.Cy,false⟩).dL n none)<|a.cT (aG p 0 [IE t,I C.aE,jE b]) (jS t<|m.eB.set r.cJ.toNat _)<|oB b<|lU<|bJ m.lS n none).to;exact a
end Go.Proofs.Z
section
attribute [local irreducible] bQ Br sA vD vT F4 pC yQ nJ Uh iZ pV tD sH rQ pG vX Sn Rx R8 Rz R0 Xm mQ qJ kH jX Ao Jw nA Qv Ub B0 Cl Cx Xf xZ uP mK gY dD cQ
namespace Go.Proofs.Z
open Go.Hm Go.At Go.Mc
def zC (m:gV) (done:EL) (k:Nat):EO:=if(k:Int)∈done then lU m.lS k else none
variable {m:gV}
theorem aAq:zC m []=fun _=>none:=by grind[zC]
theorem ze {done:EL} {k:Nat} {r:Mc.mE} (a:m.lS k=some r):Py (zC m done) k (some<|.agg ⟨r.enc⟩)=zC m (done++[(k:Int)]):=by
 funext j;unfold Py zC;by_cases e:j=k;grind[lU];grind
theorem z6 (a:∀g r,m.lS g=some r->g<16):zC m (m.eE.map fun k:Nat=>(k:Int))=lU m.lS:=by
 funext k;rw[zC];split;rfl;cases hr:m.lS k with
 |none=>grind[lU]
 |some r=>grind[absurd,uW]
variable {G:Bg} {h:AH} {C:bT}
abbrev aS2 (C:bT) (m:gV) (p p2 p3 q t b:Nat) (e:Nat->Value) (d l:Nat) (done:EL):HP:=
 sp [iI Pr 164 (iM 122) 39 e d l (.ready,none),sp [aG p2 0 [IE p],aG p3 0 [IE q]],iD C p m,sp [aG q 0 [IE t,I C.aE,jE b],jS t m.eB,oB b<|zC m done]]
theorem Qm (hC:C.Ok) (B:jL C m) (a:Hs G h L) [N:dH (iD C p) L m L'] (J:∀q z,Hs G z (iD C q m::iD C p m::L')->Q (IE q) z):ID 164 [IE p] h Q:=by
 have A:=B.len;have F:=hC.2.1;refine cW<|dY (N.of a) fun g h a=>(aD a rfl<|cZ<|cF ?_);have⟨t0,b0,a⟩:=lG<|a.aN<|iD C p m;refine bW<|bD a fun S T f=>aD f rfl<|aB<|aA<|aD f rfl<|px ER f fun t h a=>(aD a rfl<|aB<|aA<|aD a rfl<|aD a rfl<|aB<|aA<|aD a rfl<|aOz a fun _=>aSj<|kq a rfl rfl fun b h a=>?_);refine aM (c:=[IE t,I C.aE,jE b]) rfl (Dj a rfl rfl fun q h a=>lF a rfl rfl fun i h a=>an a fun h a=>(dB (aD f rfl dP)<|dB (aB dP)<|dB (aA dP)<|dB (aD f rfl jN)<|dB (aD f rfl dP)<|dB (aB dP)<|dB (aA dP)<|dB (aD f rfl<|by simp[rZ,jE]) ?_));have a:=eF<|a.cT (aG p 0 [IE t0,I C.aE,jE b0]) (jS t0 m.eB) _;refine aD a rfl<|G3 (C:=C) a fun R O P h a=>jM a fun d h a=>fun e E=>kY a fun l h a=>pX rfl ?_;rw[<-aAq (m:=m)] at a;have a:Hs G h (H.Qb 3 R O P (m.eE.map fun k:Nat=>(k:Int))::aS2 C m p g i q t b e d l []::mk d ()::L'):=by
  have a:=(a.cT (aG q 0 [IE t,I C.aE,jE b]) (jS t m.eB)<|oB b<|zC m []).Ry;have a:=(a.bZ (aG g 0 [IE p])<|aG i 0 [IE q]).Bc;have a:=(a.jQ (iI Pr 164 (iM 122) 39 e d l (.ready,none)) (sp [aG g 0 [IE p],aG i 0 [IE q]]) (iD C p m)<|sp [aG q 0 [IE t,I C.aE,jE b],jS t m.eB,oB b<|zC m []]).Jv;exact a.to
 refine(H.D3 GH).C2
  (Z:=fun _ _=>xG False) a ?_ ?_ ?_
 .intro done x h M D a;have a:=a.xe;obtain⟨k,u,rfl⟩:∃k∈m.eE,(k:Int)=x:=by
   obtain⟨U,y⟩:=D;have:x∈m.eE.map fun k:Nat=>(k:Int):=by rw[<-y];simp
   grind
  have⟨r,hr⟩:=cO.1 (uW.1 u).2;have w:m.run (k:Int)=some r:=GU
  have a:=(a.aN<|sp [aG g 0 [IE p],aG i 0 [IE q]]).yO;have a:=(a.aN<|sp [aG q 0 [IE t,I C.aE,jE b],jS t m.eB,oB b<|zC m done]).B9;refine rW (qC a) E<|gD a fun h a=>bD a fun S h a=>?_;have⟨t2,b2,a⟩:=lG<|a.aN<|iD C p m;refine aD a rfl<|aB<|aA<|aD a rfl<|aD a rfl<|aB<|aA<|aD a rfl<|S9 a ?_;rw[w];refine V8 a (uW.1 u).1 fun h a=>iE a fun h a=> .inl ⟨rfl,?_⟩;rw[show(some r).getD Nb=r from rfl,ze hr] at a;have a:=eF<|a.cT (aG p 0 [IE t2,I C.aE,jE b2]) (jS t2 m.eB) _;have a:=(a.cT (aG q 0 [IE t,I C.aE,jE b]) (jS t m.eB)<|oB b<|zC m<|done++[(k:Int)]).Ry;have a:=(a.bZ (aG g 0 [IE p])<|aG i 0 [IE q]).Bc;exact((a.jQ (iI Pr 164 (iM 122) 39 e d l (.ready,none)) (sp [aG g 0 [IE p],aG i 0 [IE q]]) (iD C p m)<|sp [aG q 0 [IE t,I C.aE,jE b],jS t m.eB,oB b<|zC m<|done++[(k:Int)]]).Jv).to
 intro v h a;have a:=(a.aN<|aS2 C m p g i q t b e d l (m.eE.map fun k:Nat=>(k:Int))).xe;have a:=(a.aN<|sp [aG g 0 [IE p],aG i 0 [IE q]]).yO;have a:=(a.aN<|sp [aG q 0 [IE t,I C.aE,jE b],jS t m.eB,oB b<|zC m (m.eE.map fun k:Nat=>(k:Int))]).B9;rw[z6<|B.aTf hC] at a;have a:=eF<|a.cT (aG q 0 [IE t,I C.aE,jE b]) (jS t m.eB) _;exact kU a fun h a=>kW<|aD a rfl<|mH a fun h a=>kS<|J _ _ a.to
 .intro done x v h D a;have⟨hd,_⟩:=(a.aN<|xG False).X6;grind
end Go.Proofs.Z
end
variable {ov:Value} {os:EL} {w:Int}
namespace Go.Proofs.Z
open Go.Hm Go.At Go.Mc
def aEk {t:TypeId} (a:k (.bool false)):bQ (R8 true .eql (.iface t v) .nilIface) k:=⟨_,rfl,a⟩
attribute [local irreducible] bQ Br sA vD vT F4 pC yQ nJ Uh iZ pV tD sH rQ pG vX Sn Rx R8 Rz R0 Xm mQ qJ kH jX Ao Jw nA Qv Ub B0 Cl Cx Xf xZ uP mK gY dD cQ
variable {G:Bg} {h:AH} {C:bT} {m:gV}
theorem Kj (a:A.Mz G ov os) (d:k (I os.length)):bQ (pG ov) k:=A.oM a (by grind[A.xO])
def lR {α:Type} {l:List α} (h:i<l.length):∃x,l[i]?=some x/\l.drop i=x::l.drop (i+1):=⟨l[i],EV,k9 h⟩
def lZ (os:EL):HR:=os.map fun o=>⟨o,false⟩
theorem Vq (g:A.Mz G ov os) (v:os.length<=16) (q:∀o∈os,0<=o/\o<=4) {t0:Value} (k:∀d,Hs G d L->Dd 49 4 [] Q [t0,ov] d):
  ∀(f i:Nat) (h:AH),i+f=os.length->Hs G h L->Dd 49 2 [] Q [t0,ov,ov,I os.length,I i] h:=by
 intro f
 induction f with
 |zero=>intro i h e a;exact bW (aQ<|aaa<|k _ a)
 |succ f u=>
  intro i h e a
  have⟨x,hx,hd⟩:=lR (l:=os) (i:=i) ER
  have t:=q x ES
  have a:=A.pN g a
  exact bW<|aQ<|aad<|bW<|tH a (x:=[I x]) (by simp[A.Fm,hx]) rfl<|aQ<|aaa<|nU<|aaa<|bW<|aac<|u (i+1) h ER a.tail
def yb (a:os[i]?=some x):(lZ (os.take i)++List.replicate (os.length - i) mG).set i ⟨x,false⟩=lZ (os.take<|i+1)++List.replicate (os.length - (i+1)) mG:=by
 have⟨hi,hxi⟩:=eh.1 a;have d:(lZ<|os.take i).length=i:=by simp[lZ];omega
 rw[List.set_append_right _ _ ER,d,BK,show os.length - i=(os.length - (i+1))+1 by omega,AO,List.set_cons_zero,x0,a];simp[lZ]
theorem xi (hC:C.Ok) (g:A.Mz G ov os) (J:os.length=C.bB.toNat) (D:∀o∈os,0<=o/\o<=4) (a:Hs G h L) (B:∀q u,Hs G u (iD C q ⟨lZ os,fun _=>none⟩::L)->Q (.tuple ⟨[IE q,I 0]⟩) u):ID 49 [I C.aE,ov] h Q:=by
 have F:=hC.1;have y:=hC.2.1;refine cW<|aQ<|aaa<|nU<|aaa<|Kj g<|aQ<|aaa<|Kj g<|nU<|aaa<|bW<|Kj g<|Vq g ER D ?_ os.length 0 h ER a;intro h a;refine bW<|Kj g<|zh ER a fun t h a=>aH rfl<|aH rfl<|bK<|aaa<|bW<|aDe a fun b h a=>(aM (c:=[IE t,I C.aE,jE b]) rfl<|dY a fun q h a=>Kj g ?_);have loop:∀(f i:Nat) (h:AH),i+f=os.length->Hs G h (jS t (lZ (os.take i)++List.replicate (os.length - i) mG)::aG q 0 [IE t,I C.aE,jE b]::oB b (fun _=>none)::L)->Dd 49 7 [] Q [IE q,ov,I os.length,I i] h:=by
  intro f;induction f with
  |zero=>
   intro i h z a;refine bW<|aQ<|aaa<|B _ _ ?_;have k:i=os.length:=ER
   subst k;rw[AG,BK,List.replicate_zero,hX] at a;have a:Hs G h (aG q 0 [IE t,I C.aE,jE b]::jS t (lZ os)::oB b (fun _=>none)::L):=a.to;exact eF a
  |succ f E=>
   intro i h z a;have⟨x,hx,hd⟩:=lR (l:=os) (i:=i) ER;have a:=A.pN g a;refine bW (aQ<|aad<|bW<|tH a (x:=[I x]) (by simp[A.Fm,hx]) rfl<|aB<|aA<|aD a rfl<|aM rfl<|Ks (x:=⟨x,_⟩) a.tail fun h a=>?_);have v:(lZ (os.take i)++List.replicate (os.length - i) mG).length=os.length:=by simp[lZ];omega
   have d:(0<=(i:Int)/\(i:Int)<(lZ (os.take i)++List.replicate (os.length - i) mG).length)/\(0<=(⟨x,false⟩:iF).owner/\(⟨x,false⟩:iF).owner<=4):=ES;rw[aXg d] at a;rw[aP,yb hx] at a;exact bK<|aaa<|bW<|aac<|E (i+1) h ER a
 have e:(os.length:Int).toNat=os.length:=ER;apply loop os.length 0 h ER;rw[e] at a;have w:List.replicate os.length mG=lZ (os.take 0)++List.replicate (os.length - 0) mG:=rfl;rw[w] at a;exact a.to
theorem Ma (hC:C.Ok) (k:Ob G 0 fO) (a:Hs G h L)
  (d:∀e,Hs G e L->Q (if C.fY x then .tuple ⟨[I<|x/2,I 0]⟩ else .tuple ⟨[I 0,I 10]⟩) e):ID 134 [.agg ⟨C.enc⟩,I x] h Q:=by
 have hb:=(bT.eJ hC).2.2
 have i:C.fY x↔0<=x/\x<C.aF:=CW
 refine cW<|dY a fun p h a=>aQ<|bC (fun f=>?_) fun f=>?_
 .rw[aXf ES] at d;exact d _ a.tail
 refine aX a ET (l:=C.enc) rfl rfl<|qK hC k a fun h a=>eQ<|bC (fun g=>?_) fun g=>?_
 .rw[aXf ES] at d;exact d _ a.tail
 .rw[aXg ES] at d;exact D5 ER ER ER<|d _ a.tail
def P4 (C:bT) (m:gV) (bG bA:Int):Int×Bool:=if C.fY bA then((m.Ft<|bA/2).owner,!(m.Ft<|bA/2).Ch&&vE bG (m.Ft<|bA/2).owner) else(0,false)
def az (hC:C.Ok) (v:jL C m) (k:Ob G 0 fO) (a:Hs G h L) [y:dH (iD C p) L m L'] (d:∀g,Hs G g (iD C p m::L')->Q (.tuple ⟨[I (P4 C m w x).1,.bool (P4 C m w x).2]⟩) g):ID 374 [.agg ⟨C.enc++[IE p]⟩,I w,I x] h Q:=by
 have i:=v.len;have hb:=bT.eJ hC;rw[P4] at d;refine cW<|dY (y.of a) fun q h a=>aA<|lD a ET (l:=C.enc) rfl rfl<|Ma hC k a fun h a=>?_;by_cases f:C.fY x;rotate_left;rw[aXf f];rw[aXf f] at d;exact aH rfl<|aH rfl<|bK<|aad<|d _ a.to;rw[aXg f];rw[aXg f] at d;rw[bT.fY] at f;have⟨t,b,a⟩:=lG<|a.aN<|iD C p m;refine aH rfl<|aH rfl<|bK<|aaa<|bW<|aA<|aD a rfl<|aB<|aA<|aD a rfl<|E4 a fun h a=>?_;rw[aXg<|by rw[gV.fY];omega];refine aH rfl<|aH rfl<|bX a fun u h a=>an a fun h a=>bK<|aaa<|bD a fun z h a=>aA<|aD a rfl<|aA<|aD a rfl<|cG<|eI ?_;have e:=eF<|a.cT (aG p 0 [IE t,I C.aE,jE b]) (jS t m.eB) _;cases hk2:(m.Ft _).Ch with
 |true=>
  rw[hk2] at d;exact eV (dB (aA dP)<|dB (aD a rfl jN)<|d _ e.to)
 |false=>
  rw[hk2] at d;exact cF<|aA<|aD a rfl<|W3<|dB (aA dP)<|dB (aD a rfl jN)<|d _ e.to
def Wx (hC:C.Ok) (g:jL C m) (f:Ob G 0 fO):H.kh G (iD C p m) (.iface 303<|.agg ⟨C.enc++[IE p]⟩) (P4 C m) where
 ne:=fun k a=>aEk a
 R2:=by
  intro h L M w l Q e d a;refine aOj rfl<|az hC g f (d.cR e) fun h d=>⟨rfl,a _<|d.cR e.symm⟩
end Go.Proofs.Z
namespace Go.Proofs.Z.C
open Go.Hm Go.Ct
def sC {g a:Nat} {i:Int} (d:0<=i) (e:i<n) (f:k (pt g (i.toNat*a) 0)):bQ (qJ n a (.pointer<|some ⟨g,0,none⟩)<|I i) k:=
 fC (b:=g) (o:=0) (j:=0) d e (by simpa [pt] using f)
def tW {s:Int} (h:0<=s/\s<5):mL[s.toNat*8+1]?=some (.bool<|ff s)/\mL[s.toNat*8+2]?=some (.bool<|He s)/\mL[s.toNat*8+3]?=some (.bool<|qE s)/\mL[s.toNat*8+4]?=some (.bool<|K6 s)
  /\mL[s.toNat*8+5]?=some (I<|if He s then 4 else 0)/\mL[s.toNat*8+6]?=some (I<|Wm s)/\mL[s.toNat*8+7]?=some (I 0):=by
 have:s=0\/s=1\/s=2\/s=3\/s=4:=ER
 rcases this with rfl|rfl|rfl|rfl|rfl<;>exact⟨rfl,rfl,rfl,rfl,rfl,rfl,rfl⟩
attribute [local irreducible] bQ Br sA vD vT F4 pC yQ nJ Uh iZ pV tD sH rQ pG vX Sn Rx R8 Rz R0 Xm mQ qJ kH jX Ao Jw nA Qv Ub B0 Cl Cx Xf xZ uP mK gY dD cQ
variable {G:Bg} {h:AH}
theorem De (d:Q (.bool<|isS x) h):ID 297 [I x] h Q:=by
 refine cW<|eQ<|bC (fun a=>aQ ?_) fun a=>?_;show Q _ _;rwa [show decide _=isS x from AV.2 ER];show Q _ _;simp_all[false,isS,ec]
def W8 (h:isS x=true):0<=x/\x<5:=eo h
def Vo (h:isS x=false):ff x=false/\He x=false/\qE x=false/\K6 x=false:=by
 have:=of_decide_eq_false h;refine⟨ec ?_,ec ?_,ec ?_,ec ?_⟩<;>omega
def aLc (f:Ob G 6 mL) (g:Hs G h L) (e:Q (.bool<|ff x) h):ID 311 [I x] h Q:=by
 refine cW<|De<|dI (fun a=>?_) fun a=>?_;have d:=W8 a;exact sC d.1 d.2<|aA<|Cp g f (tW d).1 e;rwa [(Vo a).1] at e
def cy (f:Ob G 6 mL) (g:Hs G h L) (e:Q (.bool<|He x) h):ID 300 [I x] h Q:=by
 refine cW<|De<|dI (fun a=>?_) fun a=>?_;have d:=W8 a;exact sC d.1 d.2<|aA<|Cp g f (tW d).2.1 e;rwa [(Vo a).2.1] at e
def Rh (f:Ob G 6 mL) (g:Hs G h L) (e:Q (.bool<|qE x) h):ID 314 [I x] h Q:=by
 refine cW<|De<|dI (fun a=>?_) fun a=>?_;have d:=W8 a;exact sC d.1 d.2<|aA<|Cp g f (tW d).2.2.1 e;rwa [(Vo a).2.2.1] at e
def Za (f:Ob G 6 mL) (g:Hs G h L) (e:Q (.bool<|K6 x) h):ID 299 [I x] h Q:=by
 refine cW<|De<|dI (fun a=>?_) fun a=>?_;have d:=W8 a;exact sC d.1 d.2<|aA<|Cp g f (tW d).2.2.2.1 e;rwa [(Vo a).2.2.2] at e
def aE3 (e:Ob G 6 mL) (f:Hs G h L) (d:He x=true) (g:Q (.tuple ⟨[I 4,I 0]⟩) h):ID 252 [I x] h Q:=by
 have a:0<=x/\x<5:=by have:=eo d;omega
 refine cW<|De ?_;rw[show isS x=true from c8 a];refine cG<|cF<|bW<|cy e f ?_;rw[d];have:=(tW a).2.2.2.2.1;rw[aXg d] at this;exact cG<|cF<|sC a.1 a.2<|aA<|Cp f e this g
def Uu {to:Int} (d:Ob G 6 mL) (e:Hs G h L) (a:0<=x/\x<5) (i:to=0\/to=1) (g:Q (.tuple ⟨[I<|sG x to,.bool<|K6 x,.bool<|qE x,I 0]⟩) h):ID 339 [I x,I to] h Q:=by
 refine cW<|De ?_;rw[show isS x=true from c8 a];refine cG<|cF ?_;have f:=(tW a).2.2.2.2.2.2;rcases i with rfl|rfl;exact bK<|aad<|bK<|aaa<|bW<|sC a.1 a.2<|aA<|Cp e d (o:=x.toNat*8) (j:=7) f<|bM<|aaa<|Za d e<|Rh d e g;exact bK<|aaa<|sC a.1 a.2<|aA<|Cp e d (o:=x.toNat*8) (j:=7) f<|bM<|bU rfl<|bW<|sC a.1 a.2<|aA<|Cp e d (o:=x.toNat*8) (j:=6) ((tW a).2.2.2.2.2.1)<|Za d e<|Rh d e g
def Uy {x:tJ} {w:Bool} (f:Ob G 6 mL) (a:Hs G h L) (e:∀d,Hs G d L->Q (.bool<|yZ x.st w) d):ID 248 [.agg ⟨x.enc⟩,.bool w] h Q:=by
 refine cW<|dY a ?_;intro p h a;cases w;exact cF<|aA<|aD a rfl<|aLc f a<|e _ a.tail;exact eV<|aA<|aD a rfl<|cy f a<|e _ a.tail
end Go.Proofs.Z.C
variable {no:Int} {cp:Nat}
section
attribute [local irreducible] bQ Br sA vD vT F4 pC yQ nJ Uh iZ pV tD sH rQ pG vX Sn Rx R8 Rz R0 Xm mQ qJ kH jX Ao Jw nA Qv Ub B0 Cl Cx Xf xZ uP mK gY dD cQ
namespace Go.Proofs.Z.C
open Go.Hm Go.Ct
variable {S:Nat->HN}
section
variable {G:Bg} {h:AH}
def dL (b o:Nat) (l:HN):HP:=xC fun x:EN×Nat=>sp [aG b o [.slice x.1 l.length x.2],dJ 5 215 x.1 x.2 (l.length,dM l)]
def sX {l:HN} (d:Hs G h (dL b o l::L)):∃a c,Hs G h (aG b o [.slice a l.length c]::dJ 5 215 a c (l.length,dM l)::L):=by
 have⟨⟨a,c⟩,d⟩:=d.uI;exact⟨a,c,d.dT⟩
def lA (b o:Nat) (l:HN) {e:HL} (g:Hs G h L) [m:dH (aG b o) L [.slice a n c] e] [m2:dH (dJ 5 215 a c) e (n,cs) L2] (f:n=l.length) (d:cs=dM l):Hs G h (dL b o l::L2):=by
 subst f d;exact Hs.tG (a,c)<|Hs.kC<|g.cR<|m.cR.trans<|m2.cR.cons _
structure TgA where
 b:Nat
 o:Nat
 cap:Nat
def pA (ways n b o cap:Nat):EK:=[I ways,.slice (some ⟨b,o,none⟩) n cap]
def iV (G:Bg) (t ways n:Nat) (S:Nat->HN):HP:=xC fun x:TgA=>
 sp [aG t 0<|pA ways n x.b x.o x.cap,fJ G 1 212 (some ⟨x.b,x.o,none⟩) x.cap n x.b x.o,dV n fun i=>dL x.b (x.o+i*1)<|S i]
def Dg {ways:Nat} (a:Hs G h (iV G t ways n S::L)):∃b o cap,Hs G h (aG t 0 (pA ways n b o cap)::fJ G 1 212 (some ⟨b,o,none⟩) cap n b o::dV n (fun i=>dL b (o+i*1)<|S i)::L):=by
 have⟨⟨b,o,cap⟩,a⟩:=a.uI;exact⟨b,o,cap,a.dT⟩
def xH {ways:Nat} (a:Hs G h (aG t 0 (pA ways n b o cap)::fJ G 1 212 (some ⟨b,o,none⟩) cap n b o::dV n (fun i=>dL b (o+i*1)<|S i)::L)):Hs G h (iV G t ways n S::L):=
 Hs.tG (A:=fun x:TgA=>sp [aG t 0<|pA ways n x.b x.o x.cap,fJ G 1 212 (some ⟨x.b,x.o,none⟩) x.cap n x.b x.o,dV n fun i=>dL x.b (x.o+i*1)<|S i]) ⟨b,o,cap⟩ (Hs.kC (A:=[_,_,_]) a)
def Qr (b o n:Nat) (S:Nat->HN) (l:Nat):HP:=sp<|((List.range n).erase l).map fun i=>dL b (o+i*1)<|S i
def No {ways l:Nat} (d:l<n) (a:Hs G h (iV G t ways n S::L)):∃b o cap,Hs G h (dL b (o+l*1) (S l)::aG t 0 (pA ways n b o cap)::fJ G 1 212 (some ⟨b,o,none⟩) cap n b o::Qr b o n S l::L):=by
 have⟨b,o,cap,a⟩:=Dg a;exact⟨b,o,cap,(show Hs G h (dL b _ _::Qr b o n S l::_) from((a.aN<|dV n fun i=>dL b (o+i*1)<|S i).kE l d)).to⟩
theorem xQ {e f d:HL} (t ways n:Nat) (S:Nat->HN) (l:Nat) (x:HN) (b o cap:Nat) (k:l<n) (a:Hs G h L) [u:eR (dL b (o+l*1) x) L e] [v:eR (aG t 0<|pA ways n b o cap) e L2]
  [w:eR (fJ G 1 212 (some ⟨b,o,none⟩) cap n b o) L2 f] [y:eR (Qr b o n S l) f d]:Hs G h (iV G t ways n (bJ S l x)::d):=by
 have a:Hs G h (dL b (o+l*1) x::Qr b o n S l::aG t 0 (pA ways n b o cap)::fJ G 1 212 (some ⟨b,o,none⟩) cap n b o::d):=
  (a.cR<|u.cR.trans<|(v.cR.trans<|(w.cR.trans<|y.cR.cons _).cons _).cons _).to
 have g:(fun i=>dL b (o+i*1)<|bJ S l x i) l=dL b (o+l*1) x:=by simp[bR]
 rw[<-g,Qr] at a
 exact xH (b:=b) (o:=o) (cap:=cap) (a.oG (fun i=>dL b (o+i*1)<|S i) (fun i=>dL b (o+i*1)<|bJ S l x i) k fun j _ q=>by grind[eA]).to
theorem aIj {α:Type} {f:Nat->α}:bJ f i (f i)=f:=by
 grind[bJ]
theorem yz {a2 o2:Nat} {l:HN} (hb:l.length<=4):∀(r i:Nat) (h:AH) (L:HL),i+r=l.length->ix no (l.take i)=none->Hs G h (aG p 0 [I no]::dJ 5 215 (some ⟨a2,o2,none⟩) cp (l.length,dM l)::L)->
  (∀D,Hs G D (aG p 0 [I no]::dJ 5 215 (some ⟨a2,o2,none⟩) cp (l.length,dM l)::L)->Q (.tuple ⟨[pt b o 0,I<|ixI no l,I 0]⟩) D)->
  Dd 310 3 [] Q [pt b o 0,I<|-1,.func (.func 338) #[] #[IE p],.slice (some ⟨a2,o2,none⟩) l.length cp,I l.length,I i] h:=by
 have B:∀(i:Nat) (l:HN) (t:Th),ix no (l.take i)=none->l[i]?=some t->ix no (l.take<|i+1)=if t.1=no then some i else none:=by
  intro i;induction i with
  |zero=>
   intro l t _ u;cases l with
   |nil=>cases u
   |cons a l=>cases u;simp[ix]
  |succ i z=>
   intro l t A u;cases l with
   |nil=>cases u
   |cons a l=>
    simp[BF,ix] at A ⊢;by_cases f:a.1=no;grind;rw[aXf f] at A ⊢;rw[z l t (by simpa using A) ES];grind
 have x:∀(l:HN) (i j:Nat),ix no (l.take i)=some j->ix no l=some j:=by
  intro l;induction l with
  |nil=>grind
  |cons a l z=>
   intro i j h;cases i with
   |zero=>simp[ix] at h
   |succ i=>
    simp[BF,ix] at h ⊢;by_cases f:a.1=no;grind;cases hx:ix no (l.take i) with
    |none=>grind
    |some k=>grind
 intro r
 induction r with
 |zero=>
  intro i h L F y d g
  rw[e8 ER] at y
  simp[ixI,y] at g
  exact bW (aQ<|aaa<|g _ d)
 |succ r z=>
  intro i h L F y d g
  have v:i<l.length:=ER
  have⟨t,u⟩:∃t,l[i]?=some t:=⟨_,aL v⟩
  refine bW<|aQ<|aad<|bW<|dR v ?_
  obtain⟨J,K,E,w⟩:=(d.aN<|dJ 5 215 (some ⟨a2,o2,none⟩) cp (l.length,dM l)).gF ER
  cases E
  refine Oj w ET (l:=C0 t) (by simp_all[AI,ca]) rfl ?_
  apply bX<|w.kZ (mO l)<|tU l
  intro q h d
  refine an d fun h d=>aX d ET (l:=C0 t) rfl rfl ?_
  refine sR EU<|cW<|dY d ?_
  intro N h d
  have e:=B i l t y u
  refine aA<|aD d rfl<|aD d rfl<|bM<|bC (fun f=>?_) fun f=>?_
  .rw[aXg f] at e;simp[ixI,x _ _ _ e] at g;exact bW<|g _ d.to
  .rw[aXf f] at e;exact bW<|aac<|z (i+1) h L ER e d.to g
def Zt (e:no<0) (a:Hs G h L) (f:∀d,Hs G d L->Q (.tuple ⟨[.pointer none,I 0,I 10]⟩) d):ID 310 [IE t,I no] h Q:=by
 exact cW<|dY a fun p h a=>cZ<|cF<|bW<|aD a rfl<|aQ<|bU e<|f _ a.tail
theorem nY (a:0<n):cB n no<n:=by
 rw[cB];simp_all[BM,Int,BO]
theorem wQ {ways:Nat} {l:HN} (x:0<n) (v:0<=no) (hb:l.length<=4) (e:Hs G h L) [m:dH (aG t 0) L (pA ways n b o cap) L'] [m2:dH (dL b<|o+cB n no*1) L' l M]
  (k:∀g,Hs G g (aG t 0 (pA ways n b o cap)::dL b (o+cB n no*1) l::M)->Q (.tuple ⟨[pt b (o+cB n no*1) 0,I<|ixI no l,I 0]⟩) g):ID 310 [IE t,I no] h Q:=by
 have e:=e.cR<|m.cR.trans<|m2.cR.cons _
 have⟨a,c,e⟩:=sX e.oN
 refine cW<|dY e ?_
 intro p h e
 refine cZ<|cF<|bW<|aD e rfl<|aQ<|aaa<|bW<|bD e ?_
 intro r h e
 have f:=e.aN<|aG t 0<|pA ways n b o cap
 have u:no % (n:Int)=((cB n no:Nat):Int):=by
  rw[cB];have:=BO no (show(n:Int)≠0 by omega);omega
 refine aB<|aA<|aD f rfl<|aD f rfl<|aB<|aA<|aD f rfl<|cE<|Sx v ER ?_
 rw[u]
 refine dR (nY x)<|aB ?_
 have d:=f.aN<|aG b (o+cB n no*1) [.slice a l.length c]
 refine aD d rfl<|cE ?_
 by_cases w:l.length=0
 .have i:l=[]:=ES;subst i;exact bW<|aQ<|aR EV<|k _<|(lA b (o+cB n no*1) [] d rfl rfl).to
 .obtain⟨q,y,rfl,_⟩:=(d.aN<|dJ 5 215 a c (l.length,dM l)).sQ ER;apply yz (no:=no) hb l.length 0 h (aG t 0 (pA ways n b o cap)::aG b (o+cB n no*1) [.slice (some ⟨q,y,none⟩) l.length c]::M) ER rfl d.to;intro g e;exact k _<|(lA b (o+cB n no*1) l e rfl rfl).to
end
section
def Dx:bJ S (cB n no) (S<|cB n no)=S:=aIj
def aNg {l:HN} (h:0<l.length):(dM l)[0*5+(0+0)]?=some (I (l[0]).1):=by
 cases l with
 |nil=>simp at h
 |cons y l=>rfl
theorem rz {l:HN} {x:tJ} (h:l[i]?=some (no,x)):((dM l).drop<|i*5+1).take 4=x.enc:=by
 rw[<-u4];have a:(((dM l).drop<|i*5).take 5).drop 1=x.enc:=by rw[ca h];rfl
 grind[List.drop_take]
variable {G:Bg} {h:AH}
def Jr {ways:Nat} (g:0<n) (hb:∀i,(S i).length<=4) (d:Hs G h L) [m:dH (iV G t ways n) L S L']
  (e:∀k,Hs G k (iV G t ways n S::L')->Q (.tuple ⟨[.agg ⟨(cI n S no).1.enc⟩,I (cI n S no).2]⟩) k):ID 247 [IE t,I no] h Q:=by
 have d:=m.of d
 refine cW<|bX d ?_
 intro p h d
 unfold cI at e
 split at e
 .rename_i q;refine Zt q d fun h d=>aH rfl<|aH rfl<|aH rfl<|bK<|aad<|aX d ET (l:=tJ.zero.enc) rfl rfl ?_;exact an d fun h d=>aX d ET (l:=tJ.zero.enc) rfl rfl<|e _ d.tail
 .have⟨b,o,cap,d⟩:=No (nY (no:=no) g)<|d.aN<|iV G t ways n S;refine wQ g ER (hb _) d fun h d=>aH rfl<|aH rfl<|aH rfl<|bK<|aaa<|bW ?_;cases hx:ix no (S<|cB n no) with
  |none=>
   rw[(E0 hx).1] at e
   simp only[ixI,hx]
   refine aQ<|aad<|aX d ET (l:=tJ.zero.enc) rfl rfl ?_
   refine an d fun h d=>aX d ET (l:=tJ.zero.enc) rfl rfl<|e _ ?_
   have:=xQ t ways n S (cB n no) (S<|cB n no) b o cap (nY g) d
   rw[Dx] at this
   exact this.to
  |some i=>
   have⟨x,h1,h2,h3,h4⟩:=Bu hx
   rw[h2] at e
   simp only[ixI,hx]
   have⟨a,c,d⟩:=sX<|d.aN<|dL b (o+cB n no*1)<|S<|cB n no
   obtain⟨u,v,rfl,f⟩:=(d.aN<|dJ 5 215 a c ((S<|cB n no).length,dM<|S<|cB n no)).gF ER
   refine aQ<|aaa<|aB<|aD f rfl<|dR h4<|aA<|Oj f ET (l:=x.enc) (by exact rz h1) rfl ?_
   refine bE (f.kZ (mO _)<|tU _) rfl rfl rfl rfl fun h d=>aX d ET (l:=x.enc) rfl rfl<|e _ ?_
   have:=xQ t ways n S (cB n no) (S<|cB n no) b o cap (nY g)<|lA b (o+cB n no*1) _ d rfl rfl
   rw[Dx] at this
   exact this.to
def wu {ways:Nat} (z:0<ways) (k:0<n) (y:0<=no) (hb:∀i,(S i).length<=4) (d:Hs G h L) [m:dH (iV G t ways n) L S L']
  (e:∀q,Hs G q (iV G t ways n S::L')->Q (match wI n ways S no with|some v=> .tuple ⟨[I v.1,.bool true,I 0]⟩|none=> .tuple ⟨[I 0,.bool false,I 0]⟩) q):ID 312 [IE t,I no] h Q:=by
 have d:=m.of d
 rw[wI] at e
 apply cW
 have⟨b,o,cap,d⟩:=No (nY (no:=no) k)<|d.aN<|iV G t ways n S
 refine wQ k ER (hb _) d fun h d=>aH rfl<|aH rfl<|aH rfl<|bK<|aaa<|bW<|bD d ?_
 intro r h d
 have yU:∀{h:AH},Hs G h (ra r (13,[])::aG t 0 (pA ways n b o cap)::dL b (o+cB n no*1) (S<|cB n no)::fJ G 1 212 (some ⟨b,o,none⟩) cap n b o::Qr b o n S (cB n no)::L')->Hs G h (iV G t ways n S::L'):=fun d=>by
  have:=xQ t ways n S (cB n no) (S<|cB n no) b o cap (nY k) d;rw[Dx] at this;exact this.to
 cases hx:ix no (S<|cB n no) with
 |some i=>
  have⟨x,h1,h2,h3,h4⟩:=Bu hx
  rw[h2] at e
  simp only[ixI,hx]
  exact eQ (aad<|e _<|yU d)
 |none=>
  rw[(E0 hx).1] at e
  simp only[ixI,hx]
  obtain⟨a,c,d⟩:=sX<|d.aN<|dL b (o+cB n no*1)<|S<|cB n no
  refine eQ<|aaa<|aB<|aD d rfl<|cE<|aB<|aA<|aD d rfl<|aQ<|bC (fun u=>?_) fun u=>?_
  .simp[aXg<|show(S<|cB n no).length<ways by omega] at e;exact e _<|yU<|(lA b (o+cB n no*1) _ d rfl rfl).to
  .have g:0<(S<|cB n no).length:=ER
   simp[aXf<|show ¬(S<|cB n no).length<ways by omega,aL g] at e
   obtain⟨w,A,rfl,f⟩:=(d.aN<|dJ 5 215 a c ((S _).length,dM<|S<|cB n no)).gF g
   refine aB<|aD f rfl<|dR g<|aA<|aMz f ?_<|e _ ?_
   .exact aNg g
   .exact yU ((lA b (o+cB n no*1) _ (f.kZ (mO _)<|tU _) rfl rfl).to)
theorem Tb {l:HN} (t:i<l.length) (hb:l.length<=4) (d:Hs G h L) [m:dH (dJ 5 215 a c) L (l.length,dM l) L']
  (u:∀f,Hs G f (dJ 5 215 a c (l.length - 1,dM<|l.take i++l.drop (i+1))::L')->Q (.slice a (l.length - 1) c) f):ID 315 [.slice a l.length c,I i,I<|(i:Int)+1] h Q:=by
 have d:=m.of d
 have e:l.length<=c:=by
  obtain⟨r,y,⟨_,_,w⟩,_⟩:=d.fst;rcases w with⟨x,_⟩|⟨x,_⟩|⟨e,_⟩;grind;grind;exact e
 have⟨b,o,ha,_⟩:=d.sQ ER
 refine cW<|cE<|jh (v:= .slice (some ⟨b,o+i*5,none⟩) (i+1 - i) (l.length - i)) ?_ ?_
 .subst ha;have g:qI (some<|I l.length) c c=some l.length:=FF
  have k:qI (some<|I<|(i:Int)+1) l.length l.length=some (i+1):=by simp only[qI];rw[aae];congr 1
  have q:qI (some<|I i) 0 (i+1)=some i:=FF
  simp only[Ao,g,k,q,AX,u7,dd,aO,c9,ER,dZ]
  grind
 refine bM<|aaa<|bW<|cE<|bD d ?_
 intro r h d
 refine aMn (i:=i) ET rfl rfl t d ?_
 intro h d
 apply u _
 rw[yd,<-lj,<-Qx]
 exact d.to
theorem Y6 {l:HN} (h:ix no l=some i):xI no l=l.take i++l.drop (i+1):=by grind[Bu]
theorem av {l:HN} (h:ix no l=some i):l.length - 1=(xI no l).length:=by
 grind[Bu,Ij]
theorem Wv {ways:Nat} (k:0<n) (hb:∀i,(S i).length<=4) (d:Hs G h L) [m:dH (iV G t ways n) L S L']
  (e:∀q,Hs G q (iV G t ways n (lT n S no)::L')->Q (.tuple ⟨[.agg ⟨(cI n S no).1.enc⟩,I (cI n S no).2]⟩) q):ID 313 [IE t,I no] h Q:=by
 have d:=m.of d
 refine cW<|bX d ?_
 intro p h d
 unfold cI lT at e
 by_cases g:no<0
 .rw[aXg g,aXg g] at e;refine Zt g d fun h d=>aH rfl<|aH rfl<|aH rfl<|bK<|aad<|aX d ET (l:=tJ.zero.enc) rfl rfl ?_;exact an d fun h d=>aX d ET (l:=tJ.zero.enc) rfl rfl<|e _ d.tail
 .rw[aXf g,aXf g] at e;have⟨b,o,cap,d⟩:=No (nY (no:=no) k)<|d.aN<|iV G t ways n S;refine wQ k ER (hb _) d fun h d=>aH rfl<|aH rfl<|aH rfl<|bK<|aaa<|bW ?_;cases hx:ix no (S<|cB n no) with
  |none=>
   rw[(E0 hx).1,(E0 hx).2,Dx] at e
   simp only[ixI,hx]
   refine aQ<|aad<|aX d ET (l:=tJ.zero.enc) rfl rfl ?_
   refine an d fun h d=>aX d ET (l:=tJ.zero.enc) rfl rfl<|e _ ?_
   have:=xQ t ways n S (cB n no) (S<|cB n no) b o cap (nY k) d
   rw[Dx] at this
   exact this.to
  |some i=>
   have⟨x,h1,h2,h3,h4⟩:=Bu hx
   rw[h2] at e
   simp only[ixI,hx]
   have⟨a,c,d⟩:=sX<|d.aN<|dL b (o+cB n no*1)<|S<|cB n no
   obtain⟨u,v,rfl,f⟩:=(d.aN<|dJ 5 215 a c ((S<|cB n no).length,dM<|S<|cB n no)).gF ER
   refine aQ<|aaa<|bW<|aB<|aD f rfl<|dR h4<|aA<|Oj f ET (l:=x.enc) (by exact rz h1) rfl ?_
   refine bE (f.kZ (mO _)<|tU _) rfl rfl rfl rfl fun h d=>aB<|aD d rfl<|bI ES<|Tb h4 (hb _) d fun h d=>?_
   refine aB<|ax d fun h d=>aX d ET (l:=x.enc) rfl rfl ?_
   refine an d fun h d=>aX d ET (l:=x.enc) rfl rfl<|e _ ?_
   rw[av hx,<-Y6 hx] at d
   exact(xQ t ways n S (cB n no) (xI no<|S<|cB n no) b o cap (nY k)<|lA b (o+cB n no*1) _ d rfl rfl).to
end
variable {G:Bg} {h:AH}
def aSo {t ways cap:Nat} {x:tJ} {l:HN} (hb:l.length<=4)
  (d:Hs G h (aG p 0 x.enc::aG b (o+cB n no*1) [.slice a l.length c]::dJ 5 215 a c (l.length,dM l)::L))
  (g:∀e,Hs G e (dL b (o+cB n no*1) (l++[(no,x)])::L)->Q (I 0) e):Dd 253 4 [] Q [I no,IE p,pt b (o+cB n no*1) 0] h:=by
 refine bW<|bD d ?_
 intro r h d
 refine aB<|aD d rfl<|aX d ET (l:=x.enc) rfl rfl<|aM (c:=I no::x.enc) rfl<|aM (c:=C0 (no,x)) rfl ?_
 refine mN d rfl rfl rfl rfl rfl fun k h d=>vO d ER ?_
 intro i q h d
 refine aB<|ax d fun h d=>dB (show rZ _ _=true by simp[rZ,pt])<|g _ ?_
 have f:dM l++C0 (no,x)=dM (l++[(no,x)]):=by simp[dM]
 exact(lA b (o+cB n no*1) _ d EV f).to
theorem Gx {ways:Nat} {x:tJ} (z:0<=no) (g:0<n) (hb:∀i,(S i).length<=4) (d:Hs G h L) [m:dH (iV G t ways n) L S L']
  (e:∀u,Hs G u (iV G t ways n (nM n ways S no x).1::L')->Q (I (nM n ways S no x).2) u):ID 253 [IE t,I no,.agg ⟨x.enc⟩] h Q:=by
 have d:=m.of d
 refine cW<|dY d ?_
 intro p h d
 obtain⟨b,o,cap,d⟩:=No (nY (no:=no) g)<|d.aN<|iV G t ways n S
 refine wQ g ER (hb _) d fun h d=>aH rfl<|aH rfl<|aH rfl<|bK<|aaa ?_
 have⟨a,c,d⟩:=sX<|d.aN<|dL b (o+cB n no*1)<|S<|cB n no
 apply bW
 have vC:∀{h:AH} {M:HL},Hs G h (aG t 0 (pA ways n b o cap)::aG p 0 x.enc::aG b (o+cB n no*1) [.slice a (xI no<|S<|cB n no).length c]::dJ 5 215 a c ((xI no<|S<|cB n no).length,dM<|xI no<|S<|cB n no)::
   fJ G 1 212 (some ⟨b,o,none⟩) cap n b o::Qr b o n S (cB n no)::L')->
   (bQ (pV<|pt b (o+cB n no*1) 0) fun w=>bQ (sA h w) fun v9=>bQ (pG v9) fun v10=>bQ (pV<|IE t) fun v11=>bQ (iZ 0 v11) fun v12=>bQ (sA h v12) fun k=>bQ (vX .geq v10 k) fun q=>
    Br q (Q (I 11) h) (Dd 253 4 [] Q [I no,IE p,pt b (o+cB n no*1) 0] h)):=by
  intro h M d
  have f:(xI no<|S<|cB n no).length<=4:=by rw[Ij];have:=hb<|cB n no;split<;>omega
  rw[nM] at e
  refine aB<|aD d rfl<|cE<|aB<|aA<|aD d rfl<|eQ<|bC (fun v=>?_) fun v=>?_
  .rw[aae] at e;apply e _;exact(xQ t ways n S (cB n no) (xI no<|S<|cB n no) b o cap (nY g)<|lA b (o+cB n no*1) _ d rfl rfl).to
  .rw[aab] at e;exact aSo (t:=t) (ways:=ways) (cap:=cap) f (show Hs G h (aG p 0 x.enc::aG b _ _::dJ 5 215 a c ((xI no _).length,dM _)::aG t 0 (pA ways n b o cap)::
    fJ G 1 212 (some ⟨b,o,none⟩) cap n b o::Qr b o n S (cB n no)::L') from d.to) fun h d=>e _ (xQ t ways n S (cB n no) (xI no (S<|cB n no)++[(no,x)]) b o cap (nY g) d).to
 cases hx:ix no (S<|cB n no) with
 |none=>
  simp only[ixI,hx]
  refine eQ<|aaa<|bW<|bD d fun r h d=>vC (M:=[]) ?_
  rw[(E0 hx).2]
  exact d.to
 |some i=>
  have⟨y,h1,h2,h3,h4⟩:=Bu hx
  simp only[ixI,hx]
  refine eQ<|aad<|bW ?_
  refine aB<|aD d rfl<|bI ES<|Tb h4 (hb _) d fun h d=>(aB<|ax d ?_)
  intro h d
  refine bD d fun r h d=>vC (M:=[]) ?_
  rw[av hx,<-Y6 hx] at d
  exact(d.sg (b:=b) (o:=o+cB n no*1) (c:=[.slice a _ c]) rfl).to
def G2 {ways:Nat} (q:0<=no) (k:0<n) (hb:∀i,(S i).length<=4) (a:Hs G h L) [m:dH (iV G t ways n) L S L']
  (d:∀g,Hs G g (iV G t ways n (H7 n ways S no)::L')->Q (.tuple ⟨[.agg ⟨(cI n S no).1.enc⟩,I<|aFa n ways S no]⟩) g):ID 251 [IE t,I no] h Q:=by
 have a:=m.of a
 refine cW<|bX a fun p h a=>Wv (ways:=ways) k hb a fun h a=>aH rfl<|aH rfl<|an a ?_
 intro h a
 unfold H7 aFa at d
 refine bK<|bC (fun f=>?_) fun f=>?_
 .rw[aXf f,aXf f] at d;exact aX a ET (l:=(cI n S no).1.enc) rfl rfl<|an a fun h a=>aX a ET (l:=(cI n S no).1.enc) rfl rfl<|d _ a.tail
 .rw[aae,aae] at d;apply bD a;intro r h a;refine aX a ET (l:=(cI n S no).1.enc) rfl rfl (aX a ET (l:=(cI n S no).1.enc) rfl rfl<|Gx (ways:=ways) q k (aHa hb) a fun h a=>(an a fun u e=>dB ?_ ?_))
  .exact aX a ET (l:=(cI n S no).1.enc) rfl rfl (uG<|by simp[tJ.enc,rZ])
  .exact am p e (l:=(cI n S no).1.enc) rfl rfl (d _ e.to)
end Go.Proofs.Z.C
end
variable {q:Nat}
namespace Go.Proofs.Z.C
open Go.Hm Go.Ct
def aPy (d:a=none->k (.bool true)) (e:a≠none->k (.bool false)):bQ (Rx .eql (.slice a n c)<|.slice none 0 0) k:=by
 cases a with
 |none=>exact⟨_,rfl,d rfl⟩
 |some a=>exact⟨_,rfl,e EV⟩
attribute [local irreducible] bQ Br sA vD vT F4 pC yQ nJ Uh iZ pV tD sH rQ pG vX Sn Rx R8 Rz R0 Xm mQ qJ kH jX Ao Jw nA Qv Ub B0 Cl Cx Xf xZ uP mK gY dD cQ
variable {G:Bg} {h:AH}
def ui (d:Hs G h (dV n (fun i=>aG b (o+i*1) [.slice none 0 0])::L)):Hs G h (dV n (fun i=>dL b (o+i*1) [])::L):=
 Hs.Pj (g:=fun i=>dL b (o+i*1) []) n _ (fun i _ h L d=>(lA b (o+i*1) [] (a:=none) (c:=0) (n:=0) (cs:=[]) (iY (W:=5) (e:=215) d).oN rfl rfl)) d
def af {s:Int} (q:1<=s/\s<=8) (t:1<=w/\w<=4) (d:Hs G h L) (k:∀p f,Hs G f (iV G p w.toNat s.toNat (fun _=>[])::L)->Q (.tuple ⟨[IE p,I 0]⟩) f):ID 90 [I s,I w] h Q:=by
 refine cW<|aQ<|aaa<|nU<|aaa<|aQ<|aaa<|nU<|aaa<|Vc ER ER ER ?_;refine dC d ?_ rfl ?_ ?_;rw[jF,uR (W:=1) fun _=>rfl];rw[jF];exact xL (fun _=>rfl) _;intro a h d;obtain⟨b,o,g,d⟩:=Hs.Ql (W:=1) rfl ER d;cases g;have e:w=(w.toNat:Int):=ER
 refine aM (c:=pA w.toNat s.toNat b o s.toNat) (by rw[pA,<-e];rfl)<|dY d fun p h d=>k p h ?_;exact xH (b:=b) (o:=o) (cap:=s.toNat) (ui<|d.aN<|dV s.toNat fun i=>aG b (o+i*1) _).to
theorem aHw {l:HN} (hb:l.length<=4) (d:Hs G h L) [m:dH (dJ 5 215 a c) L (l.length,dM l) L']
  (k:∀e f g,Hs G g (dJ 5 215 e f (l.length,dM l)::dJ 5 215 a c (l.length,dM l)::L')->Q (.slice e l.length f) g):ID 316 [.slice a l.length c] h Q:=by
 have d:=m.of d
 refine cW<|aPy (fun i=>eV ?_) fun _=>cF<|aM rfl ?_
 .subst i;have q:l=[]:=by
   cases l with
   |nil=>rfl
   |cons y l=>obtain⟨b,o,⟨⟩,_⟩:=d.sQ EV
  subst q
  exact k none 0 h<|iY d
 .refine dC d rfl rfl rfl fun t h d=>vO d ER ?_;intro e f h d;show Q _ _;grind
variable {S:Nat->HN}
theorem aB6 {p b2 o2 cap2 ways:Nat} (E:n<=8) (hb:∀i,(S i).length<=4)
  (x:∀t,Hs G t (dV n (fun i=>dL b (o+i*1)<|S i)::dV n (fun i=>dL b2 (o2+i*1)<|S i)::aG q 0 (pA ways n b2 o2 cap2)::L)->Q (IE q) t):∀(r i:Nat) (h:AH) (M:HL),i+r=n->
  Hs G h (dV n (fun i=>dL b (o+i*1)<|S i)::dV n (fun j=>dL b2 (o2+j*1)<|if j<i then S j else [])::aG q 0 (pA ways n b2 o2 cap2)::L)->
  Dd 256 2 [] Q [IE q,.slice (some ⟨b,o,none⟩) n cap,I n,I i] h:=by
 intro r
 induction r with
 |zero=>
  intro i h M w k
  exact bW (aQ<|aaa<|x _<|(wV (fun j D=>ES) k.oN).oN)
 |succ r z=>
  intro i h M w k
  have d:i<n:=ER
  refine bW<|aQ<|aad<|bW<|dR d ?_
  have f:=k.kE i d
  have⟨a,c,f⟩:=sX f
  refine aD f rfl<|bD f fun F h k=>aB<|aA<|aD k rfl<|aHw (hb i) k fun A B h k=>?_
  have g:=(k.aN<|dV n fun j=>dL b2 (o2+j*1)<|if j<i then S j else []).kE i d
  have⟨a3,c3,g⟩:=sX g
  refine dR d<|ax g ?_
  intro v e
  refine dB dP<|dB (aB dP)<|dB (aA dP)<|dB (aD g rfl Zi)<|dB jN<|aac<|z (i+1) v [] ER ?_
  have e:=lA b2 (o2+i*1) _ e rfl rfl
  have u:dL b2 (o2+i*1) (S i)=(fun j=>dL b2 (o2+j*1)<|if j<i+1 then S j else []) i:=by simp[AS,e9]
  rw[u] at e
  have e:=e.oG (fun j=>dL b2 (o2+j*1)<|if j<i then S j else []) (fun j=>dL b2 (o2+j*1)<|if j<i+1 then S j else []) d fun j _ y=>by
   grind
  exact((lA b (o+i*1) _ e rfl rfl).oG _ (fun j=>dL b (o+j*1)<|S j) d fun _ _ _=>rfl).to
def aLa {ways:Nat} (g:0<n) (w:n<=8) (hb:∀i,(S i).length<=4) (d:Hs G h L) [m:dH (iV G t ways n) L S L']
  (v:∀q k,Hs G k (iV G q ways n S::iV G t ways n S::L')->Q (IE q) k):ID 256 [IE t] h Q:=by
 have⟨b,o,cap,d⟩:=Dg<|m.of d
 refine cW<|cZ<|cF<|bW<|bD d fun x h d=>aB<|aA<|aD d rfl<|aB<|aA<|aD d rfl<|cE<|tf ER ER ?_
 refine mN d rfl rfl ?_ rfl ?_ ?_
 .rw[jF,uR (W:=1) fun _=>rfl]
 .rw[jF];exact xL (fun _=>rfl) _
 intro a h d
 obtain⟨e,f,u,d⟩:=Hs.Ql (W:=1) rfl g d
 cases u
 apply aM (c:=pA ways n e f n) rfl
 refine Dj d rfl rfl fun q h d=>aB<|aA<|aD d rfl<|cE ?_
 have d:=ui<|d.aN<|dV n fun i=>aG e (f+i*1) _
 refine aB6 (G:=G) (p:=0) (ways:=ways) (b2:=e) (o2:=f) (cap2:=n) (L:=aG t 0 (pA ways n b o cap)::fJ G 1 212 (some ⟨b,o,none⟩) cap n b o::fJ G 1 212 (some ⟨e,f,none⟩) n n e f::L') w hb ?_ n 0 h [] ER ?_
 .intro h d;apply v q h;have d:Hs G h (aG q 0 (pA ways n e f n)::fJ G 1 212 (some ⟨e,f,none⟩) n n e f::dV n (fun i=>dL e (f+i*1)<|S i)::aG t 0 (pA ways n b o cap)::fJ G 1 212 (some ⟨b,o,none⟩) cap n b o::dV n (fun i=>dL b (o+i*1)<|S i)::L'):=d.to;have d:=xH d;have d:Hs G h (aG t 0 (pA ways n b o cap)::fJ G 1 212 (some ⟨b,o,none⟩) cap n b o::dV n (fun i=>dL b (o+i*1)<|S i)::iV G q ways n S::L'):=d.to;exact(xH d).oN
 .simp only[Nat.not_lt_zero,c9];exact d.to
end Go.Proofs.Z.C
section
attribute [local irreducible] bQ Br sA vD vT F4 pC yQ nJ Uh iZ pV tD sH rQ pG vX Sn Rx R8 Rz R0 Xm mQ qJ kH jX Ao Jw nA Qv Ub B0 Cl Cx Xf xZ uP mK gY dD cQ
namespace Go.Proofs.Z.C
open Go.Hm Go.Ct
variable {C:bT} {s:iJ} {S:Nat->HN}
section
def mW (t:Nat) (C:bT) (core:Int) (s:iJ):EK:=IE t::(C.enc++[I core,I s.al,.bool s.aw,.bool s.pY,I s.gl,I s.gc.st,I s.gc.w,I s.gc.d.1,I s.gc.d.2,.bool s.uF])
variable {G:Bg} {h:AH}
def jP (G:Bg) (c:Nat) (C:bT) (core:Int) (s:iJ):HP:=xC fun t:Nat=>sp [aG c 0<|mW t C core s,iV G t C.ways.toNat C.bL.toNat s.S]
def mM {core:Int} (a:Hs G h (jP G c C core s::L)):∃t,Hs G h (aG c 0 (mW t C core s)::iV G t C.ways.toNat C.bL.toNat s.S::L):=by
 have⟨t,a⟩:=a.uI;exact⟨t,a.dT⟩
def dG (c t:Nat) (C:bT) (core:Int) (s:iJ) {a:HL} (f:Hs G h L) [m:dH (aG c 0) L cs a] [m2:dH (iV G t C.ways.toNat C.bL.toNat) a S L2] (d:cs=mW t C core s) (e:S=s.S):Hs G h (jP G c C core s::L2):=by
 subst d e;exact Hs.tG t<|Hs.kC<|f.cR<|m.cR.trans<|m2.cR.cons _
variable {core:Int}
def vJ (hC:C.Ok) {l:Int} (g:Ob G 0 fO) (a:Hs G h L) [m:dH (jP G c C core) L s L'] (d:∀e,Hs G e (jP G c C core s::L')->Q (.bool<|yJ C l) e):ID 258 [IE c,I l] h Q:=by
 have⟨t,a⟩:=mM<|m.of a;refine cW<|eQ<|bC (fun f=>?_) fun f=>?_;refine aB<|aA<|aX a ET (l:=C.enc) rfl rfl<|qK hC g a fun h a=>aQ ?_;show Q _ _;rw[show decide _=yJ C l from AV.2 ER];exact d _<|dG c t C core s a rfl rfl;rw[show yJ C l=false from ec ER] at d;exact d _<|dG c t C core s a rfl rfl
def Wg (hC:C.Ok) (hb:Bd s) {l i:Int} {w:Bool} (k:Ob G 6 mL) (a:Hs G h L) [m:dH (jP G c C core) L s L'] (d:∀g,Hs G g (jP G c C core s::L')->Q (.bool<|oD C.bL.toNat s.S l i w) g):ID 170 [IE c,I l,I i,.bool w] h Q:=by
 have⟨t,a⟩:=mM<|m.of a;refine cW<|cZ<|cF<|bW<|aB<|aA<|aD a rfl ?_;refine Jr (ways:=C.ways.toNat) (pW hC).1 hb a fun h a=>aH rfl<|aH rfl<|bX a fun p h a=>an a ?_;intro h a;unfold oD at d;refine bM<|bC (fun e=>aA<|aD a rfl<|bM<|bC (fun f=>?_) fun f=>?_) fun e=>?_;rw[c8 e,c8 f,AJ,AJ] at d;exact aX a ET (l:=(cI C.bL.toNat s.S l).1.enc) rfl rfl<|Uy k a fun h a=>d _ (dG c t C core s a rfl rfl).to;rw[ec f,AL,u7] at d;exact d _ (dG c t C core s a rfl rfl).to;rw[ec e,u7,u7] at d;exact d _ (dG c t C core s a rfl rfl).to
theorem Zr (hC:C.Ok) (hb:Bd s) {l at' q:Int} {w:Bool} (t:Ob G 0 fO) (u:Ob G 6 mL) (d:Hs G h L) [m:dH (jP G c C core) L s L'] (a:∀i,Hs G i (jP G c C core s::L')->Q (I<|sP C s.S l at' q w) i):ID 250 [IE c,I l,I at',I q,.bool w] h Q:=by
 have d:=m.of d;rw[sP] at a;refine cW<|cZ<|cF<|bW<|vJ (core:=core) hC t d fun h d=>cG<|eI<|dI (fun g=>?_) fun g=>?_;rw[g] at a;simp only[Bool.true_eq_false,c9] at a;refine aQ<|bC (fun e=>?_) fun e=>eQ<|bC (fun f=>?_) fun f=>bW<|Wg (core:=core) hC hb u d fun h d=>cG<|eI<|dI (fun k=>?_) fun k=>?_;rw[aXg e] at a;exact a _ d;rw[aXf e,aXg f] at a;exact a _ d;rw[aXf e,aXf f,aXf ES] at a;exact a _ d;rw[aXf e,aXf f,aXg k] at a;exact a _ d;rw[aXg g] at a;exact a _ d
end
variable {ns:HM}
section
variable {G:Bg} {h:AH} {core:Int}
def Y9 {s':iJ} {a:HL} (d:cs=mW t C core s') (e:S=s'.S) (f:Hs G h L) [m:dH (aG c 0) L cs a] [m2:dH (iV G t C.ways.toNat C.bL.toNat) a S L2]:Hs G h (jP G c C core s'::L2):=dG c t C core s' f d e
def va {l:Int} {wr:Bool} (F:ns.length<=1) (d:Hs G h (aG c 0 (mW t C core (tM core s l w wr ns).1)::iV G t C.ways.toNat C.bL.toNat s.S::dJ 9 146 a cp (ns.length,gK ns)::L))
  (D:∀e f z,Hs G z (dJ 9 146 e f ((tM core s l w wr ns).2.1.length,gK (tM core s l w wr ns).2.1)::jP G c C core (tM core s l w wr ns).1::L)->Q (.tuple ⟨[.slice e (tM core s l w wr ns).2.1.length f,I 0]⟩) z):
  Br (.bool wr) (Dd 249 10 [] Q [IE c,I l,I w,.slice a ns.length cp] h) (bQ (pV<|IE c) fun v35=>bQ (iZ 8 v35) fun v36=>bQ (sA h v36) fun v37=>
   bQ (rL [I 0,I 0,I 0,I 0,I 0,I 0,I 0,.bool false,I 0] [(0,1,(I 1)),(1,1,v37),(2,1,(I l)),(3,1,(I w))]) fun i=>
   bQ (rL [I 0,I 0,I 0,I 0,I 0,I 0,I 0,.bool false,I 0] [(0,9,(.agg ⟨i⟩))]) fun u=>
   yQ h 9 146 u 1 1 fun v k=>bQ (kH 9 72 146 k (.slice a ns.length cp) v) fun g=>(fun y q=>Q (.tuple ⟨[y,I 0]⟩) q) g.1 g.2):=by
 have vC:∀{h:AH} {e:EN} {f:Nat} (x:aI),x=⟨if wr then 2 else 1,core,l,w,0,0,0,false,0⟩->Hs G h (dJ 9 146 e f (ns.length+1,gK ns++x.enc)::aG c 0 (mW t C core (tM core s l w wr ns).1)::iV G t C.ways.toNat C.bL.toNat s.S::L)->Q (.tuple ⟨[.slice e (ns.length+1) f,I 0]⟩) h:=by
  intro h e f x E d;have B:(tM core s l w wr ns).2.1=ns++[x]:=by rw[E];rfl
  have:=D e f h;rw[B] at this;simp[bj,k5,q6,gK,u3,xc,CT,hX,AQ] at this;apply this;have d:=Y9 (c:=c) rfl rfl d;exact d.oN
 cases wr
 .refine cF (aB<|aA<|aD d rfl<|aM rfl<|aM (c:=(⟨1,core,l,w,0,0,0,_,0⟩:aI).enc) rfl<|dC d rfl rfl rfl ?_);intro A h d;exact vO d ER fun e f h d=>vC ⟨1,core,l,w,0,0,0,_,0⟩ rfl d.to
 .refine eV (bW<|aB<|aA<|aD d rfl<|aM (c:=(⟨2,core,l,w,0,0,0,_,0⟩:aI).enc) rfl<|aM (c:=(⟨2,core,l,w,0,0,0,_,0⟩:aI).enc) rfl<|dC d rfl rfl rfl ?_);intro A h d;exact vO d ER fun e f h d=>vC ⟨2,core,l,w,0,0,0,_,0⟩ rfl d.to
def yj {l:Int} {wr:Bool} (k:ns.length<=1) (d:Hs G h (aG c 0 (mW t C core s)::iV G t C.ways.toNat C.bL.toNat s.S::dJ 9 146 a cp (ns.length,gK ns)::L))
  (i:∀e f g,Hs G g (dJ 9 146 e f ((tM core s l w wr ns).2.1.length,gK (tM core s l w wr ns).2.1)::jP G c C core (tM core s l w wr ns).1::L)->Q (.tuple ⟨[.slice e (tM core s l w wr ns).2.1.length f,I 0]⟩) g):
  Dd 249 8 [] Q [IE c,I l,I w,.bool wr,.slice a ns.length cp] h:=by
 refine bW<|aM (c:=[I l,.bool wr,.bool true]) rfl<|aB<|aA<|ax d ?_
 intro h d
 exact va (t:=t) k (d.sg (b:=c) (o:=0) (c:=mW t C core (tM core s l w wr ns).1) rfl) i
theorem aKv (hb:Bd s) {l:Int} {x:tJ} {wr:Bool} (v:Ob G 6 mL) (d:Hs G h (aG p 0 x.enc::aG c 0 (mW t C core s)::iV G t C.ways.toNat C.bL.toNat S::L))
  (u:∀f g k r,r=tM core {s with S:=S,gl:=no,gc:=x,uF:=true} l w wr [⟨3,core,no,x.w,0,x.d.1,x.d.2,qE x.st,0⟩]->Hs G k (dJ 9 146 f g (r.2.1.length,gK r.2.1)::jP G c C core r.1::L)->Q (.tuple ⟨[.slice f r.2.1.length g,I 0]⟩) k):
  Dd 249 11 [] Q [IE c,I l,I w,.bool wr,.slice none 0 0,I no,IE p] h:=by
 refine bW<|aX d ET (l:=x.enc) rfl rfl<|aM (c:=[I no,I x.st,I x.w,I _,I _,.bool true]) rfl<|aB<|aA<|ax d ?_
 intro h d
 have d:=d.sg (b:=c) (o:=0) (c:=mW t C core {s with S:=S,gl:=no,gc:=x,uF:=true}) rfl
 refine bD d fun A h d=>aB<|aA<|aD d rfl<|aA<|aD d rfl<|aA<|aX d ET (l:=[I _,I _]) rfl rfl<|aA<|aD d rfl<|Rh v d ?_
 refine aM (c:=(⟨3,core,no,x.w,0,x.d.1,x.d.2,qE x.st,0⟩:aI).enc) rfl<|aM (c:=(⟨3,core,no,x.w,0,x.d.1,x.d.2,qE x.st,0⟩:aI).enc) rfl ?_
 apply mN d rfl rfl rfl rfl rfl
 intro y h d
 have d:=iY (W:=9) (e:=146) d
 apply vO d ER
 intro f g z q
 have i:=d.aN<|aG p 0 x.enc
 refine dB Zi<|dB dP<|dB (aB dP)<|dB (aA dP)<|dB (aD (d.aN<|aG c 0<|mW t C core {s with S:=S,gl:=no,gc:=x,uF:=true}) rfl jN)<|dB jN<|dB (aA dP)<|dB (aD i rfl jN)<|dB (aA dP)<|dB (aX i ET (l:=[I _,I _]) rfl rfl<|uG<|by simp[rZ])<|aM (c:=[I l,.bool wr,.bool true]) rfl<|aB<|aA<|ax q ?_
 intro h d
 refine va (t:=t) (s:={s with S:=S,gl:=no,gc:=x,uF:=true}) (ns:=[⟨3,core,no,x.w,0,x.d.1,x.d.2,qE x.st,0⟩]) (a:=f) (cp:=g) (L:=L) EV ?_ fun f g k=>u f g k _ rfl
 exact(show Hs G h (aG c 0 _::iV G t C.ways.toNat C.bL.toNat S::dJ 9 146 f g (0+1,[]++(⟨3,core,no,x.w,0,_,_,_,0⟩:aI).enc)::L) from(d.sg (b:=c) (o:=0) (c:=mW t C core (tM core {s with S:=S,gl:=no,gc:=x,uF:=true} l w wr [⟨3,core,no,x.w,0,x.d.1,x.d.2,qE x.st,0⟩]).1) rfl).to)
theorem aFq (hC:C.Ok) (hb:Bd s) {l:Int} (x:0<=l) {wr:Bool} (y:Ob G 6 mL) (a:Hs G h (aG c 0 (mW t C core s)::iV G t C.ways.toNat C.bL.toNat s.S::L))
  (d:∀f g i,Hs G i (dJ 9 146 f g ((Co C core s l w wr).2.1.length,gK (Co C core s l w wr).2.1)::jP G c C core (Co C core s l w wr).1::L)->Q (.tuple ⟨[.slice f (Co C core s l w wr).2.1.length g,I (Co C core s l w wr).2.2]⟩) i):
  bQ (pV<|IE c) fun v0=>bQ (iZ 0 v0) fun v1=>bQ (sA h v1) fun v2=>ID 312 [v2,I l] h fun v3 u=>
   bQ (tD 0 v3) fun v4=>bQ (tD 1 v3) fun v5=>bQ (tD 2 v3) fun v6=>bQ (vX .neq v6<|I 0) fun z=>
   Br z (Q (.tuple ⟨[.slice none 0 0,v6]⟩) u) (Dd 249 6 [] Q [IE c,I l,I w,.bool wr,.slice none 0 0,v4,v5] u):=by
 rw[Co] at d
 refine aB<|aA<|aD a rfl<|wu (pW hC).2.2.1 (pW hC).1 x hb a fun h a=>?_
 cases hv:wI C.bL.toNat C.ways.toNat s.S l with
 |none=>
  simp[hv] at d
  exact aH rfl (aH rfl<|aH rfl<|bK<|aaa<|bW<|cF<|yj EV (show Hs G h (aG c 0 _::iV G t C.ways.toNat C.bL.toNat s.S::dJ 9 146 none 0 (0,[])::L) from(iY (W:=9) (e:=146) a).to) d)
 |some v=>
  simp only[hv] at d
  refine aH rfl<|aH rfl<|aH rfl<|bK<|aaa<|bW<|eV<|bW<|aB<|aA<|aA<|aD a rfl<|dI (fun q=>?_) fun q=>?_
  .simp only[q,e9] at d;exact d none 0 h<|iY<|Y9 rfl rfl a
  .simp only[aXf<|show ¬(s.uF=true) from ES] at d;refine bW<|aB<|aA<|aD a rfl<|Wv (ways:=C.ways.toNat) (pW hC).1 hb a fun h a=>aH rfl<|aH rfl<|bX a ?_;intro p h a;refine an a fun h a=>bK (bC (fun k=>?_) fun k=>?_)
   .simp only[aXg k] at d;exact d none 0 h<|iY<|(dG c t C core {s with S:=lT C.bL.toNat s.S v.1} a rfl rfl).to
   .simp[aXf k] at d;apply aKv hb y<|show Hs G h (aG p 0 (cI C.bL.toNat s.S v.1).1.enc::aG c 0 (mW t C core s)::iV G t C.ways.toNat C.bL.toNat (lT C.bL.toNat s.S v.1)::L) from a.to;rintro f g i r rfl;exact d f g i
theorem W9 (hC:C.Ok) (hb:Bd s) {l:Int} {wr:Bool} (P:Ob G 0 fO) (D:Ob G 6 mL) (a:Hs G h L) [m:dH (jP G c C core) L s L']
  (d:∀i k q,Hs G q (dJ 9 146 i k ((gM C core s l w wr).2.1.length,gK (gM C core s l w wr).2.1)::jP G c C core (gM C core s l w wr).1::L')->Q (.tuple ⟨[.slice i (gM C core s l w wr).2.1.length k,I (gM C core s l w wr).2.2]⟩) q):
  ID 249 [IE c,I l,I w,.bool wr] h Q:=by
 have a:=m.of a
 rw[gM] at d
 refine cW<|cZ<|cF<|bW<|vJ (core:=core) hC P a fun h a=>cG<|eI<|dI (fun x=>?_) fun x=>?_
 .simp[x,Bool.true_eq_false,c9] at d;have F:=(eo x).1;have⟨t,a⟩:=mM a;refine bW (aB<|aA<|aA<|aD a rfl<|dI (fun A=>?_) fun A=>bW ?_)
  .simp only[A,e9] at d;exact d none 0 h<|iY<|dG c t C core s a rfl rfl
  .simp[A,aO,c9] at d;have v:¬(s.uF=true/\s.gl=l)->(bQ (pV<|IE c) fun v0=>bQ (iZ 0 v0) fun v1=>bQ (sA h v1) fun v2=>ID 247 [v2,I l] h fun v3 f=>
     bQ (tD 0 v3) fun v4=>bQ (tD 1 v3) fun v5=>F4 f (.cells [I 0,I 0,I 0,I 0] 125 (0,0) true) fun J O=>bQ (vT O 4 (IE J) v4) fun y=>bQ (vX .eql v5<|I 0) fun v9=>
     Br v9 (bQ (vD y 4<|IE J) fun v10=>ID 248 [v10,.bool wr] y fun v11 u=>Br v11 (Q (.tuple ⟨[.slice none 0 0,I 13]⟩) u)<|Dd 249 5 [] Q [IE c,I l,I w,.bool wr] u)
      (bQ (pV<|IE c) fun v0=>bQ (iZ 0 v0) fun v1=>bQ (sA y v1) fun v2=>ID 312 [v2,I l] y fun v3 f=>
       bQ (tD 0 v3) fun v4=>bQ (tD 1 v3) fun v5=>bQ (tD 2 v3) fun v6=>bQ (vX .neq v6<|I 0) fun R=>
       Br R (Q (.tuple ⟨[.slice none 0 0,v6]⟩) f) (Dd 249 6 [] Q [IE c,I l,I w,.bool wr,.slice none 0 0,v4,v5] f))):=by
    intro f
    simp[aXf f] at d
    refine aB<|aA<|aD a rfl ?_
    refine Jr (ways:=C.ways.toNat) (pW hC).1 hb a fun h a=>aH rfl<|aH rfl<|bX a ?_
    intro p h a
    refine an a ?_
    intro h a
    have E:Hs G h (aG c 0 (mW t C core s)::iV G t C.ways.toNat C.bL.toNat s.S::aG p 0 (cI C.bL.toNat s.S l).1.enc::L'):=a.to
    have z:∀{i k q} {X:EK} {n:Nat} {N:iJ},Hs G q (dJ 9 146 i k (n,X)::jP G c C core N::aG p 0 (cI C.bL.toNat s.S l).1.enc::L')->Hs G q (dJ 9 146 i k (n,X)::jP G c C core N::L'):=fun a=>a.to
    refine bM<|bC (fun g=>?_) fun g=>?_
    .refine aX a ET (l:=(cI C.bL.toNat s.S l).1.enc) rfl rfl (Uy D a fun h a=>dI (fun B=>?_) fun B=>?_)
     .simp only[aXg<|show(cI C.bL.toNat s.S l).2=0/\yZ _ wr=true from⟨g,B⟩] at d;exact d none 0 h<|iY (dG c t C core s a rfl rfl).to
     .simp[aXf<|show ¬((cI C.bL.toNat s.S l).2=0/\yZ _ wr=true) from fun e=>by rw[B] at e;grind] at d;refine bW<|aFq hC hb F D (show Hs G h (aG c 0 _::iV G t C.ways.toNat C.bL.toNat s.S::L') from a.to) d
    .exact aFq hC hb F D E ES
   refine aB<|aA<|aA<|aD a rfl<|dI (fun f=>?_) fun f=>?_
   .refine aB (aA<|aA<|ai c a rfl<|bM<|bC (fun g=>?_) fun g=>bW<|v fun e=>g e.2);simp only[aXg<|show s.uF=true/\s.gl=l from⟨f,g⟩] at d;exact d none 0 h<|iY<|dG c t C core s a rfl rfl
   .exact v (fun e=>ES)
 .simp only[x,e9] at d;exact d none 0 h<|iY a
end
variable {G:Bg} {h:AH} {core:Int} {n:aI}
variable {r:Tk}
theorem vM {a:iJ} {e:Int} (i:∀d f g,Hs G g (dJ 9 146 d f (r.2.1.length,gK r.2.1)::jP G c C core r.1::L)->Q (.tuple ⟨[.slice d r.2.1.length f,I r.2.2]⟩) g) (k:r=(a,[],e)) (q:Hs G h (jP G c C core a::L)):Q (.tuple ⟨[.slice none 0 0,I e]⟩) h:=by
 simp_all[none,iY]
theorem Ri {a:iJ} {x:aI} {p:Addr} (g:∀d e f,Hs G f (dJ 9 146 d e (r.2.1.length,gK r.2.1)::jP G c C core r.1::L)->Q (.tuple ⟨[.slice d r.2.1.length e,I r.2.2]⟩) f) (i:r=(a,[x],0)) (k:Hs G h (dJ 9 146 (some p) 1 (1,x.enc)::jP G c C core a::L)):Q (.tuple ⟨[.slice (some p) 1 1,I 0]⟩) h:=by
 simp_all
abbrev vd (G:Bg) (c:Nat) (C:bT) (core:Int) (L:HL) (Q:Value->AH->Prop) (r:Tk):Prop:=∀a d e,Hs G e (dJ 9 146 a d (r.2.1.length,gK r.2.1)::jP G c C core r.1::L)->Q (.tuple ⟨[.slice a r.2.1.length d,I r.2.2]⟩) e
theorem aKx (d:Hs G h (jP G c C core s::L)) (f:vd G c C core L Q (Ll s n)):ID 318 [IE c,.agg ⟨n.enc⟩] h Q:=by
 have⟨t,d⟩:=mM d;refine cW<|dY d ?_;intro p h d;refine bD d fun r h d=>aB<|aA<|aA<|ai c d rfl<|cG<|eI<|dI (fun g=>?_) fun g=>?_;refine aB<|aA<|aA<|ai c d rfl<|aA<|ai p d rfl<|bK<|bC (fun i=>?_) fun i=>?_;exact vM f (a:=s) (e:=16) (by grind[Ll]) (dG c t C core s d rfl rfl).to;refine bW<|aM (c:=[I 0,.bool false,.bool false]) rfl<|aB<|aA<|ax (b:=c) (o:=0) d ?_;intro h d;exact vM f (a:={s with al:=0,aw:=false,pY:=false}) (e:=0) (by grind[Ll]) (dG c t C core {s with al:=0,aw:=false,pY:=false} d rfl rfl).to;exact vM f (a:=s) (e:=16) (by simp[Ll,g]) (dG c t C core s d rfl rfl).to
theorem aAf (d:Hs G h (jP G c C core s::L)) (f:vd G c C core L Q (uK s n)):ID 319 [IE c,.agg ⟨n.enc⟩] h Q:=by
 have⟨t,d⟩:=mM d;refine cW<|dY d ?_;intro p h d;refine bD d fun r h d=>aB<|aA<|aA<|ai c d rfl<|cG<|eI<|dI (fun g=>?_) fun g=>?_;refine aB<|aA<|aA<|ai c d rfl<|aA<|ai p d rfl<|bK<|bC (fun i=>?_) fun i=>?_;exact vM f (a:=s) (e:=12) (by grind[uK]) (dG c t C core s d rfl rfl).to;refine bW<|aM (c:=[I 0,I 0,I 0,I 0,I 0,.bool false]) rfl<|aB<|aA<|ax (b:=c) (o:=0) d ?_;intro h d;exact vM f (a:={s with gl:=0,gc:=tJ.zero,uF:=false}) (e:=0) (by grind[uK]) (dG c t C core {s with gl:=0,gc:=tJ.zero,uF:=false} d rfl rfl).to;exact vM f (a:=s) (e:=12) (by simp[uK,g]) (dG c t C core s d rfl rfl).to
def aJ5 (d:Hs G h (aG p 0 n.enc::aG c 0 (mW t C core s)::iV G t C.ways.toNat C.bL.toNat S::L)) (e:vd G c C core L Q r) (f:r=({s with S:=S,al:=0,aw:=false,pY:=false},[⟨4,core,n.bA,0,0,0,0,false,0⟩],0)):
  Dd 317 4 [] Q [IE c,IE p] h:=by
 refine bW<|aM (c:=[I 0,.bool false,.bool false]) rfl<|aB<|aA<|ax (b:=c) (o:=0) d fun h d=>bD d ?_
 intro g h d
 refine aB<|aA<|ai c d rfl<|aA<|ai p d rfl<|aM (c:=(⟨4,core,n.bA,0,0,0,0,false,0⟩:aI).enc) rfl<|aM (c:=(⟨4,core,n.bA,0,0,0,0,false,0⟩:aI).enc) rfl ?_
 refine mN (i:=7) (N:=10) (D:=[]) d rfl rfl rfl rfl rfl fun a h d=>Ri e (p:=a) f ?_
 exact(dG c t C core {s with S:=S,al:=0,aw:=false,pY:=false} d rfl rfl).to
theorem Jg (hC:C.Ok) (hb:Bd s) (f:0<=n.bA) (d:Hs G h (jP G c C core s::L)) (q:vd G c C core L Q (yK C core s n)):ID 317 [IE c,.agg ⟨n.enc⟩] h Q:=by
 have⟨t,d⟩:=mM d;refine cW<|dY d ?_;intro p h d;refine bD d fun r h d=>aB<|aA<|aA<|ai c d rfl<|cG<|eI<|dI (fun w=>?_) fun w=>?_;refine aB<|aA<|aA<|ai c d rfl<|aA<|ai p d rfl<|bK<|bC (fun z=>?_) fun z=>?_;exact vM q (a:=s) (e:=16) (by grind[yK]) (dG c t C core s d rfl rfl).to;refine bW<|aA<|ai p d rfl<|aA<|ai p d rfl<|aA<|am p d (l:=[I n.d0,I n.d1]) rfl rfl<|aM (c:=(⟨n.state,n.bG,(n.d0,n.d1)⟩:tJ).enc) rfl<|bX d ?_;intro k h d;refine an d fun h d=>bD d ?_;intro E h d;refine aB<|aA<|ai c d rfl<|aA<|ai p d rfl<|Jr (t:=t) (ways:=C.ways.toNat) (n:=C.bL.toNat) (S:=s.S) (pW hC).1 hb d fun h d=>aH rfl<|aH rfl ?_;refine lF (i:=10) d rfl rfl fun A h d=>an d ?_;intro h d;have vC:∀{u:Bool} {h:AH},u=true->Hs G h (aG k 0 (lQ C s n).enc::aG p 0 n.enc::aG c 0 (mW t C core s)::iV G t C.ways.toNat C.bL.toNat s.S::L)->
   (Uh u h 9 fun D f=>bQ (pV<|IE c) fun v2=>bQ (iZ 0 v2) fun v3=>bQ (sA f v3) fun v4=>bQ (iZ 2<|IE p) fun v5=>bQ (sA f v5) fun v6=>bQ (vD f 4<|IE k) fun B=>
    ID 253 [v4,v6,B] f fun y x=>bQ (vX .neq y<|I 0) fun v9=>Br v9 (Q (.tuple ⟨[.slice none 0 0,y]⟩) x)<|Dd 317 4 [] Q [IE c,IE p] x):=by
  intro u h v d
  apply bD (hc:=v) d
  intro r3 h d
  refine aB<|aA<|ai c d rfl<|aA<|ai p d rfl<|am k d (l:=(lQ C s n).enc) rfl rfl ?_
  refine Gx (t:=t) (ways:=C.ways.toNat) (n:=C.bL.toNat) (S:=s.S) f (pW hC).1 hb d fun h d=>?_
  refine bK<|bC (fun g=>?_) fun g=>?_
  .exact vM q (a:={s with S:=(nM C.bL.toNat C.ways.toNat s.S n.bA<|lQ C s n).1}) (by grind[yK]) ((dG c t C core {s with S:=(nM C.bL.toNat C.ways.toNat s.S n.bA<|lQ C s n).1} (cs:=mW t C core s) d rfl rfl).to)
  .exact aJ5 (t:=t) (S:=(nM C.bL.toNat C.ways.toNat s.S n.bA<|lQ C s n).1) (s:=s) (n:=n) d.to q (by grind[yK])
 refine dB (aH rfl jN)<|bM<|bC (fun g=>bW ?_) fun g=>bW<|vC EU ?_;refine aA<|am A d (l:=[I (cI C.bL.toNat s.S n.bA).1.d.1,I (cI C.bL.toNat s.S n.bA).1.d.2]) rfl rfl<|aA<|ax (b:=k) (o:=0) d ?_;intro h d;have e:lQ C s n=⟨n.state,n.bG,(cI C.bL.toNat s.S n.bA).1.d⟩:=by simp[lQ,g]
 exact vC EU (d.sg (b:=k) (o:=0) (c:=(lQ C s n).enc) GB).to;have e:lQ C s n=⟨n.state,n.bG,(n.d0,n.d1)⟩:=by simp[lQ,g]
 rw[e];exact d.to;exact vM q (a:=s) (e:=16) (by simp[yK,w]) (dG c t C core s d rfl rfl).to
def aLo {x:tJ} {y:aI} (d:Hs G h (aG p 0 y.enc::aG q 0 x.enc::aG c 0 (mW t C core s)::iV G t C.ways.toNat C.bL.toNat s.S::L)) (e:vd G c C core L Q r) (f:r=({s with gc:=x},[y],0)):
  Dd 320 8 [] Q [IE c,IE p,IE q] h:=by
 refine bW<|aX d ET (l:=x.enc) rfl rfl<|aB<|aA<|aA<|ax d ?_
 intro h d
 refine aX d ET (l:=y.enc) rfl rfl<|aM (c:=y.enc) rfl<|dC d rfl rfl rfl fun a h d=>Ri e f ?_
 exact(dG c t C core {s with gc:=x} d rfl rfl).to
def aIt (hC:C.Ok) (hb:Bd s) (k:0<=n.bA) {x:tJ} {y:aI} (d:Hs G h (aG p 0 y.enc::aG q 0 x.enc::aG i 0 n.enc::aG c 0 (mW t C core s)::iV G t C.ways.toNat C.bL.toNat s.S::L)) (g:vd G c C core L Q r)
  (e:r=({s with S:=if x.st=0 then lT C.bL.toNat s.S n.bA else(nM C.bL.toNat C.ways.toNat s.S n.bA x).1},[y],0)):
  Dd 320 9 [] Q [IE c,IE i,IE p,IE q,I x.st] h:=by
 refine bW<|bM<|bC (fun f=>bW<|bD d ?_) fun f=>bW<|bD d ?_
 .intro u h d;simp[aXg f] at e;refine aB<|aA<|aD d rfl<|aA<|aD d rfl<|Wv (ways:=C.ways.toNat) (pW hC).1 hb d fun h d=>?_;refine aX d ET (l:=y.enc) rfl rfl<|aM (c:=y.enc) rfl<|dC d rfl rfl rfl fun a h d=>Ri g e ?_;exact(dG c t C core {s with S:=lT C.bL.toNat s.S n.bA} d rfl rfl).to
 .intro u h d;simp[aXf f] at e;refine aB<|aA<|aD d rfl<|aA<|aD d rfl<|aX d ET (l:=x.enc) rfl rfl<|Gx (ways:=C.ways.toNat) k (pW hC).1 hb d fun h d=>?_;refine aX d ET (l:=y.enc) rfl rfl<|aM (c:=y.enc) rfl<|dC d rfl rfl rfl fun a h d=>Ri g e ?_;exact(dG c t C core {s with S:=(nM C.bL.toNat C.ways.toNat s.S n.bA x).1} d rfl rfl).to
def sv (hC:C.Ok) (hb:Bd s) (k:0<=n.bA) {Rw:Bool} {d:Nat} {x:tJ} (a:Hs G h (aG p 0 (Vk core n).enc::aG q 0 x.enc::aG d 0 n.enc::aG c 0 (mW t C core s)::iV G t C.ways.toNat C.bL.toNat s.S::L)) (g:vd G c C core L Q r)
  (i:r=if Rw then({s with S:=if sG x.st n.state=0 then lT C.bL.toNat s.S n.bA else(nM C.bL.toNat C.ways.toNat s.S n.bA {x with st:=sG x.st n.state}).1},[tY core n x],0) else({s with gc:={x with st:=sG x.st n.state}},[tY core n x],0)):
  Dd 320 5 [] Q [IE c,IE d,IE p,IE q,.bool Rw,I<|sG x.st n.state,.bool<|K6 x.st,.bool<|qE x.st] h:=by
 have vC:∀{h:AH},Hs G h (aG p 0 (tY core n x).enc::aG q 0 ({x with st:=sG x.st n.state}:tJ).enc::aG d 0 n.enc::aG c 0 (mW t C core s)::iV G t C.ways.toNat C.bL.toNat s.S::L)->
   (bQ (Xm .not<|.bool Rw) fun u=>Br u (Dd 320 8 [] Q [IE c,IE p,IE q] h)<|Dd 320 9 [] Q [IE c,IE d,IE p,IE q,I<|sG x.st n.state] h):=by
  intro h a
  cases Rw
  .exact cG (eV<|aLo (t:=t) a.to g i)
  .exact cG (cF<|aIt hC hb k a g i)
 refine bW<|aA<|ax a fun h a=>dI (fun f=>bW ?_) fun f=>bW ?_
 .refine aA (aX a ET (l:=[I _,I _]) rfl rfl<|aA<|ax a ?_);intro h a;refine aA<|ax a fun h a=>aA<|ax a ?_;intro h a;have e:tY core n x=⟨5,core,n.bA,0,sG x.st n.state,x.d.1,x.d.2,qE x.st,0⟩:=by simp[tY,f]
  exact vC ((a.sg (b:=p) (o:=0) (c:=(tY core n x).enc) GB).sg (b:=q) (o:=0) (c:=({x with st:=sG x.st n.state}:tJ).enc) rfl).to
 .refine aA (ax a ?_);intro h a;have e:tY core n x=⟨5,core,n.bA,0,sG x.st n.state,0,0,false,0⟩:=by simp[tY,f]
  exact vC ((a.sg (b:=p) (o:=0) (c:=(tY core n x).enc) GB).sg (b:=q) (o:=0) (c:=({x with st:=sG x.st n.state}:tJ).enc) rfl).to
def aLw (hC:C.Ok) (hb:Bd s) (w:Sts C.bL.toNat s) (E:n.state=0\/n.state=1) (B:0<=n.bA) {A:Nat} {x:tJ} (F:Ob G 6 mL)
  (d:Hs G h (aG p 0 (Vk core n).enc::aG q 0 x.enc::aG A 0 n.enc::aG c 0 (mW t C core s)::iV G t C.ways.toNat C.bL.toNat s.S::L)) (u:(cI C.bL.toNat s.S n.bA).2≠0) (z:vd G c C core L Q (tT C core s n)):
  Dd 320 2 [] Q [IE c,IE A,IE p,IE q,.bool false] h:=by
 have g:¬(n.state≠1/\n.state≠0):=ER
 refine bW<|bD d ?_
 intro N h d
 have f:s.uF=false\/s.gl≠n.bA->(bQ (vD h 9<|IE p) fun K=>bQ (rL [I 0,I 0,I 0,I 0,I 0,I 0,I 0,.bool false,I 0] [(0,9,K)]) fun J=>yQ h 9 146 J 1 1 fun y D=>Q (.tuple ⟨[y,I 0]⟩) D):=by
  intro hc;refine aX d ET rfl rfl<|aM (c:=(Vk core n).enc) rfl<|dC d rfl rfl rfl ?_;intro a h d;refine Ri z (a:=s) (x:=Vk core n) ?_ ?_;rcases hc with hc|hc;simp[tT,g,u,hc,Vk];by_cases k:s.uF=false;simp[tT,g,u,k,Vk];simp[tT,aXf g,aXf u,aXf k,aXg hc,Vk];exact(dG c t C core s d rfl rfl).to
 refine aB<|aA<|aA<|aD d rfl<|cG<|eI<|dI (fun i=>(aB<|aA<|aA<|aD d rfl<|aA<|aD d rfl<|bK<|bC (fun v=>f<|.inr v) fun v=>bW ?_)) fun i=>f<|.inl i
 refine aB<|aA<|aA<|aX d ET (l:=s.gc.enc) rfl rfl<|an d ?_
 intro h d
 refine aA<|aD d rfl<|aA<|aD d rfl<|Uu F d (w.yU i) E<|aH rfl<|aH rfl<|aH rfl<|aH rfl<|bK<|aaa<|sv hC hb B (t:=t) d.to z ?_
 have k:¬s.uF=false:=by rw[i];simp
 simp[tT,aXf g,aXf u,aXf k,aXf<|show ¬s.gl≠n.bA from fun e=>e<|by simpa using v,aO,c9]
def aLh (hC:C.Ok) (hb:Bd s) (e:Sts C.bL.toNat s) (u:n.state=0\/n.state=1) (i:0<=n.bA) {g:Nat} (v:Ob G 6 mL)
  (a:Hs G h (aG p 0 (Vk core n).enc::aG q 0 (cI C.bL.toNat s.S n.bA).1.enc::aG g 0 n.enc::aG c 0 (mW t C core s)::iV G t C.ways.toNat C.bL.toNat s.S::L)) (f:(cI C.bL.toNat s.S n.bA).2=0) (k:vd G c C core L Q (tT C core s n)):
  Dd 320 3 [] Q [IE c,IE g,IE p,IE q,.bool true] h:=by
 have d:¬(n.state≠1/\n.state≠0):=ER
 refine bW<|aA<|aD a rfl<|aA<|aD a rfl<|Uu v a (e.aVv _ f) u<|aH rfl<|aH rfl<|aH rfl<|aH rfl<|bK<|aaa<|sv hC hb i a k ?_
 simp[tT,aXf d,aXg f,e9]
theorem H6 (hC:C.Ok) (hb:Bd s) (f:Sts C.bL.toNat s) (k:0<=n.bA) (v:Ob G 6 mL) (d:Hs G h (jP G c C core s::L)) (i:vd G c C core L Q (tT C core s n)):ID 320 [IE c,.agg ⟨n.enc⟩] h Q:=by
 have⟨t,d⟩:=mM d;refine cW<|dY d fun z h d=>aA<|aD d rfl<|bK<|bC (fun w=>aA<|aD d rfl<|bK<|bC (fun y=>?_) fun y=>bW ?_) fun w=>?_;exact vM i (a:=s) (e:=10) (by simp_all[tT,aXg]) (dG c t C core s d rfl rfl).to;all_goals
  have u:n.state=0\/n.state=1:=ER
  refine bD d fun B h d=>aB<|aA<|aD d rfl<|aA<|aD d rfl<|aM (c:=(Vk core n).enc) rfl ?_
  refine lF d rfl rfl fun p h d=>an d ?_
  intro h d
  refine bD d fun A h d=>aB<|aA<|aD d rfl<|aA<|aD d rfl ?_
  refine Jr (ways:=C.ways.toNat) (pW hC).1 hb d fun h d=>aH rfl<|aH rfl<|lF d rfl rfl ?_
  intro q h d
  refine an d fun h d=>dB (aH rfl jN)<|bM<|cG ?_
  by_cases g:(cI C.bL.toNat s.S n.bA).2=0
  .rw[c8 g];exact cF<|aLh hC hb f u k (t:=t) v d.to g i
  .rw[ec g];exact eV<|aLw hC hb f u k (t:=t) (x:=(cI C.bL.toNat s.S n.bA).1) v d.to g i
end Go.Proofs.Z.C
end
