/- A part of the proof. -/
import Derived.Test.YtbcndiahccicpaaGreatDoorS17
import Derived.Test.YtbcndiahccicpaaGreatDoorS9
import Derived.Test.YtbcndiahccicpaaGreatDoorS16
import Derived.Test.YtbcndiahccicpaaGreatDoorS8
set_option linter.all false
set_option maxRecDepth 100000
open Go Go.Ab
variable {L L' M:IU} {c p q:Nat} {Q:Value->AH->Prop}
section
attribute [local irreducible] cC Br vZ yU Ar Jj rJ Ce qL dj lQ sJ wV wJ vF rB A6 Yn Wh W3 Wi Wj gf qN tZ nJ mM Dv O9 pX Vx cn E2 Cl F3 ga zF yL oI jF eX dO
namespace Go.Proofs.Z.C
open Go.Hm Go.Ct
section
def Fs (k:Int) (f:FuncId):FJ:=[I k,.func (.func f) #[] #[]]
def Te:FJ:=Fs 8 317++Fs 9 318++Fs 10 319++Fs 11 320
variable {G:Bg} {h:AH} {C:bQ} {core:Int} {s:jR} {n:aG}
def aN9 (hC:C.Ok) {k:Int} {f:FuncId} {r:Tk} (w:Ob G 0 iM) (b:Hs G h (aK q 0 (Fs k f)::aK p 0 n.enc::lR G c C core s::L))
  (g:lX Pr f=true) (y:vK C n.aI=false->r=(s,[],10)) (v:vK C n.aI=true->∀h L,Hs G h (lR G c C core s::L)->∀Q,TkK G c C core L Q r->JL f [JM c,.agg ⟨n.enc⟩] h Q) (j:TkK G c C core L Q r):
  Dd 180 5 [] Q [JM c,JM p,JM q] h:=by
 refine bW<|aA<|aE b rfl<|Ca (core:=core) hC w b fun h b=>cZ<|fR<|dX (fun d=>?_) fun d=>?_
 .refine aA (aE b rfl<|bC b FV (l:=n.enc) rfl rfl ?_);refine vB g<|v d h (aK q 0 (Fs k f)::aK p 0 n.enc::L) b.to _ fun o t u b=>aN rfl<|aN rfl<|j o t u b.to
 .exact yQ j (a:=s) (e:=10) (y d) b.to
theorem M7 (hC:C.Ok) (hb:Bd s) (v:Sts C.aU.toNat s) (A:Ob G 0 iM) (B:Ob G 6 oO) (d:Hs G h L) [m:dZ (lR G c C core) L s L'] (j:TkK G c C core L' Q (fP C core s n)):
  JL 180 [JM c,.agg ⟨n.enc⟩] h Q:=by
 have d:=m.of d
 refine cW<|fB d fun p h d=>dN<|cY<|bW<|cW ?_
 refine aZ (c:=Fs 8 317) rfl<|aZ (c:=Fs 9 318) rfl<|aZ (c:=Fs 10 319) rfl<|aZ (c:=Fs 11 320) rfl<|aZ (c:=Te) rfl<|eA d rfl rfl rfl ?_
 intro a h d
 obtain⟨b,o,z,d⟩:=d.jW FV
 cases z
 refine dB ?_
 have w:vK C n.aI=true->0<=n.aI:=fun e=>(c8 e).1
 have step:∀(i:Nat) (y:i<4) (k:Int) (f:FuncId) (h:AH) (M:IU),(Te.drop<|i*2).take 2=Fs k f->lX Pr f=true->Hs G h (aK b o Te::aK p 0 n.enc::lR G c C core s::L')->
   (n.kind=k->((vK C n.aI=false->fP C core s n=(s,[],10))/\(vK C n.aI=true->∀h L,Hs G h (lR G c C core s::L)->∀Q,TkK G c C core L Q (fP C core s n)->JL f [JM c,.agg ⟨n.enc⟩] h Q)))->
   (n.kind≠k->∀h,Hs G h (aK b o Te::aK p 0 n.enc::lR G c C core s::L')->Dd 180 2 [] Q [JM c,JM p,.slice (some ⟨b,o,none⟩) 4 4,I 4,I ((i+1:Nat):Int)] h)->
   Dd 180 2 [] Q [JM c,JM p,.slice (some ⟨b,o,none⟩) 4 4,I 4,I (i:Int)] h:=by
  intro i y k f h M J t d g u
  refine bW<|bF<|aae<|bW<|fK y<|Sq d FV (l:=Fs k f) FR rfl<|cT d ?_
  intro q h d
  refine an d ?_
  intro h d
  refine aA<|aE d rfl<|aA<|aE d rfl<|bZ<|bG (fun r=>bW<|aad ?_) fun r=>?_
  .have:=u FQ h d.to;show Dd _ _ _ _ _ _;simpa using this
  .have r:n.kind=k:=by
    have:k=n.kind:=by simpa using r
    exact this.symm
   exact aN9 (k:=k) hC A (show Hs G h _ from d.to) t (g r).1 (g r).2 j
 have d:Hs G h (aK b o Te::aK p 0 n.enc::lR G c C core s::L'):=d.to
 refine step 0 FV 8 317 h [] rfl FU d (fun e=>⟨fun e2=>by simp[fP,e,e2],fun e2 h L d Q j=>Na hC hb (w e2) d IL⟩) fun D h d=>(step 1 FV 9 318 h [] rfl FU d (fun e=>⟨fun e2=>by simp[fP,e,e2],fun e2 h L d Q j=>aPp d IL⟩) fun E h d=>?_)
 refine step 2 FV 10 319 h [] rfl FU d (fun e=>⟨fun e2=>by simp[fP,e,e2],fun e2 h L d Q j=>aEt d IL⟩) fun F h d=>(step 3 FV 11 320 h [] rfl FU d (fun e=>⟨fun e2=>by simp[fP,e,e2],fun e2 h L d Q j=>Lr hC hb v (w e2) B d IL⟩) fun H h d=>?_)
 exact bW<|bF<|aab<|yQ j (a:=s) IL d.to
def aI8 (a:Hs G h L) [m:dZ (lR G c C core) L s L'] (d:∀b,Hs G b (lR G c C core s::L')->Q (.tuple ⟨[I s.al,.bool s.aw,.bool s.pM]⟩) b):JL 66 [JM c] h Q:=by
 obtain⟨t,a⟩:=pZ<|m.of a;refine cW<|dN<|cY<|bI a ?_;intro e h a;exact(aC<|aA<|aA<|aE a rfl<|aC<|aA<|aA<|aE a rfl<|aC<|aA<|aA<|aE a rfl<|d _ (dY c t C core s a rfl rfl).to)
def zk (hC:C.Ok) (hb:Bd s) (a:Hs G h L) [m:dZ (lR G c C core) L s L'] (f:∀d e,Hs G e (lR G d C core s::lR G c C core s::L')->Q (JM d) e):JL 179 [JM c] h Q:=by
 obtain⟨t,a⟩:=pZ<|m.of a;refine cW<|dN<|cY<|bW<|aC<|bC a FV (l:=pA t C core s) rfl rfl<|cT a fun d h a=>an a ?_;intro h a;refine aC<|aA<|aE a rfl<|aQ3 (ways:=C.ways.toNat) (sO hC).1 (sO hC).2.1 hb a fun t2 h a=>(aA<|ax a ?_);intro h a;have a:=a.sg (b:=d) (o:=0) (c:=pA t2 C core s) rfl;have a:=dY d t2 C core s a rfl rfl;have a:=dY c t C core s a rfl rfl;exact f d h a.to
def dq (hC:C.Ok) (b:0<=core/\core<C.aB) (g:Ob G 0 iM) (a:Hs G h L) (f:∀c d,Hs G d (lR G c C core jR.kT::L)->Q (.tuple ⟨[JM c,I 0]⟩) d):JL 42 [.agg ⟨C.enc⟩,I core] h Q:=by
 refine cW<|fB a fun p h a=>bC a FV (l:=C.enc) rfl rfl<|uG g a fun h a=>?_;have e:=hC;unfold bQ.Ok at e;rw[bD2 hC];refine bZ<|aab<|bW<|bF<|aab<|aA<|aE a rfl<|fV<|aab<|bW ?_;refine aA<|aE a rfl<|aA<|aE a rfl<|mf FQ FQ a fun t h a=>aN rfl<|aN rfl<|bZ<|aab<|bC a FV (l:=C.enc) rfl rfl<|aZ (c:=pA t C core jR.kT) rfl<|fB a ?_;intro q h a;have a:=dY q t C core jR.kT a rfl rfl;exact f q h a.to
end
variable {G:Bg} {h:AH} {C:bQ} {core:Int} {s:jR} {n:aG}
def aL1 (hC:C.Ok) (d:iH C s) {l at' j:Int} (q:tF C s.S l at' j false=0) (w:Ob G 0 iM) (y:Ob G 6 oO) (a:Hs G h L) [m:dZ (lR G c C core) L s L'] (f:∀k,Hs G k (lR G c C core (pG C s l at' j)::L')->Q (.tuple ⟨[I<|Mc.Iu C s l at',I 0]⟩) k):JL 172 [JM c,I l,I at',I j] h Q:=by
 have a:=m.of a;have r:Bd s:=d.bd (sO hC).2.2.2;unfold pG at f;refine cW<|kf (c:=c) (core:=core) (s:=s) hC r w y a fun h a=>bZ<|aab ?_;rw[bD2 q] at f;obtain⟨g,u,z,_⟩:=xB q;have v:=l8 d.aU z;obtain⟨t,a⟩:=pZ a;refine bW<|aC<|aA<|ai c a rfl<|Ts (t:=t) (ways:=C.ways.toNat) (n:=C.aU.toNat) (S:=s.S) g.1 (sO hC).1 r a fun h a=>aN rfl<|aN rfl<|cT a fun p h a=>an a ?_;intro h a;have e:=fun {h:AH} a=>(dY c t C core {s with S:=Gh C.aU.toNat C.ways.toNat s.S l} (G:=G) (h:=h) (L:=aK p 0 (bJ C.aU.toNat s.S l).1.enc::mD G t C.ways.toNat C.aU.toNat (Gh C.aU.toNat C.ways.toNat s.S l)::aK c 0 (pA t C core s)::L') a rfl rfl);refine bZ<|aab<|aA ?_;rcases u with rfl|rfl;exact fQ FV FV<|ai p a rfl<|f _ (e a).to;exact fQ FV FV<|ai p a rfl<|f _ (e a).to
def aC4 (hC:C.Ok) (e:iH C s) {l at' y v:Int} (A:tF C s.S l at' y true=0) (F:Ob G 0 iM) (B:Ob G 6 oO) (a:Hs G h L) [m:dZ (lR G c C core) L s L'] (u:∀z,Hs G z (lR G c C core (mQ C s l at' y v)::L')->Q (I 0) z):JL 173 [JM c,I l,I at',I y,I v] h Q:=by
 have a:=m.of a;have k:Bd s:=e.bd (sO hC).2.2.2;unfold mQ at u;refine cW<|kf (c:=c) (core:=core) (s:=s) hC k F B a fun h a=>bZ<|aab ?_;rw[bD2 A] at u;obtain⟨w,E,H,d⟩:=xB A;have d:Cm (bJ C.aU.toNat s.S l).1.st=true:=d;obtain⟨t,a⟩:=pZ a;refine bW<|aC<|aA<|ai c a rfl<|Nn (t:=t) (ways:=C.ways.toNat) (n:=C.aU.toNat) (S:=s.S) (sO hC).1 k a fun h a=>aN rfl<|aN rfl<|cT a ?_;intro p h a;refine an a fun h a=>bZ<|aab<|bW<|aA<|ai p a rfl<|aIj B a d<|aN rfl<|aN rfl<|aA<|ax (b:=p) (o:=0) a ?_;intro h a;refine bZ<|aab<|bW<|aA ?_;have f:∀{g:Bool} {h:AH},g=true->Hs G h (aK p 0 (J3 C.aU.toNat s.S l at' v).enc::mD G t C.ways.toNat C.aU.toNat s.S::aK c 0 (pA t C core s)::L')->
   dj g h 8 fun _ j=>cC (sJ<|JM c) fun v5=>cC (lQ 0 v5) fun v6=>cC (vZ j v6) fun J=>cC (yU j 4<|JM p) fun N=>JL 253 [J,I l,N] j fun v9 D=>Q v9 D:=by
  intro g h q a
  refine bI (hc:=q) a ?_
  intro r h a
  refine aC<|aA<|aE (b:=c) a rfl<|bC a FV (l:=(J3 C.aU.toNat s.S l at' v).enc) rfl rfl ?_
  refine J6 (ways:=C.ways.toNat) w.1 (sO hC).1 k a fun h a=>?_
  show Q _ _
  rw[yG e.aU H]
  exact u _ (dY c t C core {s with S:=(pB C.aU.toNat C.ways.toNat s.S l _).1} a rfl rfl).to
 rcases E with rfl|rfl;exact fQ FV FV<|ax a fun h a=>f FU<|(a.sg (b:=p) (o:=0) (c:=(J3 C.aU.toNat s.S l 0 v).enc) rfl).to;exact fQ FV FV<|ax a fun h a=>f FU<|(a.sg (b:=p) (o:=0) (c:=(J3 C.aU.toNat s.S l 1 v).enc) rfl).to
end Go.Proofs.Z.C
end
variable {k:Value->Prop} {i n:Nat} {b:Prop} {e:Nat->Value}
namespace Go.Proofs.Z.N
open Go.Hm Go.Nt
section
def uF {g a:Nat} (d:i<n) (e:k (pt g (i*a) 0)):cC (tZ n a (.pointer<|some ⟨g,0,none⟩)<|I i) k:=
 kP (b:=g) (o:=0) (j:=0) d (by simpa [pt] using e)
attribute [local irreducible] cC Br vZ yU Ar Jj rJ Ce qL dj lQ sJ wV wJ vF rB A6 Yn Wh W3 Wi Wj gf qN tZ nJ mM Dv O9 pX Vx cn E2 Cl F3 ga zF yL oI jF eX dO
variable {G:Bg} {h:AH}
def Gm {k:Int} (a:Q (.bool<|decide<|Nv k) h):JL 267 [I k] h Q:=by
 refine cW<|fV<|bG (fun b=>bF ?_) fun b=>?_;show Q _ _;rw[show decide _=decide (Nv k) from BH.2<|by unfold Nv;omega];exact a;show Q _ _;rw[show false=decide (Nv k) from(cr<|by unfold Nv;omega).symm];exact a
theorem aYr {k:Int} (h:Nv k):∃n:Nat,k=(n:Int)/\1<=n/\n<14:=⟨k.toNat,by grind[Nv],by grind[Nv],by grind[Nv]⟩
def aA5 {k:Int} (d:Ob G 3 El) (g:Hs G h L) (b:Q (if Nv k then .tuple ⟨[I<|Xf k.toNat,I 0]⟩ else .tuple ⟨[I 0,I 15]⟩) h):JL 193 [I k] h Q:=by
 refine cW<|Gm<|cZ<|fR<|bG (fun a=>?_) fun a=>?_;rw[bD2 a] at b;obtain⟨n,rfl,f,e⟩:=aYr a;refine uF e<|aA<|Gt g d (ti e) b;rw[bD1 a] at b;exact b
theorem Ts {n:aG} {f:Int} (g:1<=f/\f<=13) (b:Hs G h L) (a:∀d,Hs G d L->Q (I<|Cn n f) d):JL 269 [.agg ⟨n.enc⟩,I f] h Q:=by
 refine cW<|fB b ?_;intro p h b;have a:=a h b.tail;rcases f13 g with rfl|rfl|rfl|rfl|rfl|rfl|rfl|rfl|rfl|rfl|rfl|rfl|rfl;all_goals
  repeat' first
   |refine cF ?_
   |refine cS FV ?_
   |refine bD FV ?_
   |refine bW ?_
   |refine bW ?_
   |refine bW ?_
   |refine bW ?_
   |refine bW ?_
   |refine bW ?_
   |refine bW ?_
   |refine bW ?_
   |refine bW ?_
   |refine bW ?_
   |refine bW ?_
   |refine bW ?_
   |refine aA ?_
   |refine fQ FQ FQ ?_
   |refine aE b rfl ?_
 all_goals first|exact a|skip
 refine dX (fun e=>?_) fun e=>?_;unfold Cn at a;show Q _ _;grind;unfold Cn at a;show Q _ _;grind
def aVt {n:aG} {f v:Int} (d:1<=f/\f<=13) (a:Hs G h (aK p 0 n.enc::L)) (e:∀b,Hs G b (aK p 0 (F8 n f v).enc::L)->Q (.tuple ⟨[]⟩) b):JL 271 [JM p,I f,I v] h Q:=by
 refine cW ?_;rcases f13 d with rfl|rfl|rfl|rfl|rfl|rfl|rfl|rfl|rfl|rfl|rfl|rfl|rfl;all_goals
  repeat' first
   |refine cF ?_
   |refine bZ ?_
   |refine cS FV ?_
   |refine bD FV ?_
   |refine bW ?_
   |refine bW ?_
   |refine bW ?_
   |refine bW ?_
   |refine bW ?_
   |refine bW ?_
   |refine bW ?_
   |refine bW ?_
   |refine bW ?_
   |refine bW ?_
   |refine bW ?_
   |refine aC ?_
   |refine aA ?_
   |refine fQ FQ FQ ?_
  refine ax a ?_
  intro h a
  exact e h a
theorem Td {a:Prop} [Decidable a] [Decidable b] (d:a↔b) (e:Q (.bool<|decide b) h):Q (.bool<|decide a) h:=FR
theorem vx [Decidable b] (a:¬b) (d:Q (.bool<|decide b) h):Q (.bool false) h:=FR
theorem yM [Decidable b] (a:b) (d:Q (.bool<|decide b) h):Q (.bool true) h:=FR
def Z9 {C:bQ} (hC:C.Ok) {f v:Int} (k:1<=f/\f<=13) (o:Ob G 0 iM) (d:Hs G h L) (g:∀j,Hs G j L->Q (.bool<|decide<|C6 C f v) j):JL 270 [.agg ⟨C.enc⟩,I f,I v] h Q:=by
 refine cW<|fB d ?_;intro p h d;have a:=g h d.tail;unfold C6 at g a;rcases f13 k with rfl|rfl|rfl|rfl|rfl|rfl|rfl|rfl|rfl|rfl|rfl|rfl|rfl;all_goals
  repeat' first
   |refine cS FV ?_
   |refine bD FV ?_
   |refine cF ?_
   |refine bW ?_
   |refine bW ?_
   |refine bW ?_
   |refine bW ?_
   |refine bW ?_
   |refine bW ?_
   |refine bW ?_
   |refine bW ?_
   |refine bW ?_
   |refine bW ?_
   |refine bW ?_
 all_goals simp only[Int.reduceEq,eD,dx,or_true,true_or,or_self,or_false,false_or,decide_true] at g a
 exact fV<|bG (fun b=>aA<|aE d rfl<|bF<|Td FQ a) fun b=>vx FQ a;exact fV<|bG (fun b=>bC d FV (l:=C.enc) rfl rfl<|uS hC o d fun h d=>bF<|Td FQ<|g h d.tail) fun b=>vx FQ a;exact fV<|bG (fun b=>Ap<|Td FQ a) fun b=>vx FQ a;exact fV<|bG (fun b=>Ap<|Td FQ a) fun b=>vx FQ a;exact fV<|bG (fun b=>Ap<|Td FQ a) fun b=>vx FQ a;exact(bG (fun b=>yM FQ a) fun b=>cF<|bG (fun e=>yM FQ a) fun e=>cF<|Td FQ a);exact(bG (fun b=>yM FQ a) fun e=>cF<|Td FQ a);exact a;exact a;exact(bG (fun b=>yM FQ a) fun e=>cF<|Td FQ a);exact(bG (fun b=>yM FQ a) fun e=>cF<|Td FQ a);exact fV<|bG (fun b=>bF<|Td FQ a) fun b=>vx FQ a;exact fV<|bG (fun b=>aA<|aE d rfl<|bF<|Td FQ a) fun b=>vx FQ a
end
theorem neN {a n:aG} (d:k (.bool<|decide<|a≠n)) {b:Bool} (hc:b=true:=by kernel_rfl):Wj b [0,0,0,0,0,0,0,1,0] .neq (.agg ⟨a.enc⟩) (.agg ⟨n.enc⟩) k:=by
 refine⟨hc,_,?_,d⟩;cases a;cases n;simp[Wi,xE,jy,eqn,aG.enc];grind
attribute [local irreducible] cC Br vZ yU Ar Jj rJ Ce qL dj lQ sJ wV wJ vF rB A6 Yn Wh W3 Wi Wj gf qN tZ nJ mM Dv O9 pX Vx cn E2 Cl F3 ga zF yL oI jF eX dO
variable {G:Bg} {h:AH}
variable {st:LoopState}
def aT7 {P:Program} {f:FuncId} {p:FL} {l d:Nat} {pd:Option Code} {k:Option Code×AH->Prop} (q:Hs G h L) [m:tL l L ⟨P,f,p,n,e,d,st,pd⟩ L'] (g:st≠.busy) (o:∀j,Hs G j L'->k (pd,j)):cC (yL h l) k:=
 aJ9 (P:=P) (f:=f) (p:=p) (n:=n) (e:=e) (d:=d) (st:=st) (pd:=pd) (k:=fun a b=>k (a,b)) (show Hs G h (pD P f p n e d l (st,pd)::L') from m.of q) g o
theorem at7 {l:FK} (d:l.length=7) (a:i<7) (b:k (I<|l.getD i 0)):cC (Vx 7 1 (.agg ⟨l.map I⟩)<|I i) k:=
 aAf a FR b
def aC1 {k:Int} (a:Hs G h L) (d:∀p b,Hs G b (aK p 0 [I k]::L)->Q (.func (.func 324) #[] #[JM p]) b):JL 268 [I k] h Q:=by
 exact cW<|fB a fun p h a=>d p h a
theorem aHw (g:Ob G 3 El) (d:n<14):Yds Pr K G 324 [] [JM p] (aK p 0 [I n]) ((Jd n).map fun f=>[I f]):=by
 intro l J y L h Q a t k o;refine cW (aE a rfl<|uF d<|aA<|tj a g (aEj d) (by rw[k6,zx d]) (by grind[aDs]) ?_);have loop:∀(f i:Nat) (h:AH),i+f=7->Hs G h (aK p 0 [I n]::l ((ws (aGy n) f i).map fun f=>[I f])::L)->Dd 324 1 [] Q [y,.agg ⟨(aGy n).map I⟩,I i] h:=by
  intro f;induction f with
  |zero=>
   intro i h q a;exact bW (bF<|aab<|k _ h a)
  |succ f u=>
   intro i h q a;rw[ws] at a;refine bW<|bF<|aae<|bW<|at7 (zx d) FQ<|cF<|bG (fun e=>?_) fun e=>?_;rw[bD2 e] at a;exact k _ h a;rw[bD1 e] at a;refine(t _ _ h _ a.qS).mono fun v j r=>?_;rcases r with⟨rfl,b⟩|⟨rfl,b⟩;exact cZ<|cY<|bW<|aad<|u (i+1) j FQ b.qS;exact cZ<|gA<|o _ j b.qS
 exact loop 7 0 h rfl a
def ckC (C:bQ) (n:aG) (p2 p3 p5 p6 l d:Nat) (e:Nat->Value) (rest:JF) (fs:FK) (a:aG):IU:=
 [Dw<|rest=fs.map fun f=>[I f],Dw (∀f∈fs,1<=f/\f<=13),Dw<|jM C n fs a=jM C n (Jd n.kind.toNat) (sA n.kind),pD Pr 192 (qK 1786) 41 e d l (.ready,none),aK p2 0 C.enc,aK p3 0 n.enc,aK p5 0 [.bool true],aK p6 0 a.enc]
def ckI (C:bQ) (n:aG) (p2 p3 p5 p6 l d:Nat) (e:Nat->Value) (rest:JF):HP:=Cr fun x:FK×aG=>sp<|ckC C n p2 p3 p5 p6 l d e rest x.1 x.2
def ckJ (C:bQ) (n:aG) (p2 p3 p5 p6 l d:Nat) (e:Nat->Value):HP:=Cr fun a:aG=>sp [Dw<|(jM C n (Jd n.kind.toNat)<|sA n.kind).1=false,pD Pr 192 (qK 1786) 41 e d l (.done,some<|.exit 0),aK p2 0 C.enc,aK p3 0 n.enc,aK p5 0 [.bool false],aK p6 0 a.enc]
def Jn {C:bQ} {n:aG} {p2 p3 p5 p6 l d:Nat} {rest:JF} {fs:FK} {a:aG} (b:rest=fs.map fun f=>[I f]) (g:∀f∈fs,1<=f/\f<=13) (j:jM C n fs a=jM C n (Jd n.kind.toNat) (sA n.kind))
  (k:Hs G h (sp [pD Pr 192 (qK 1786) 41 e d l (.ready,none),aK p2 0 C.enc,aK p3 0 n.enc,aK p5 0 [.bool true],aK p6 0 a.enc]::L)):Hs G h (ckI C n p2 p3 p5 p6 l d e rest::L):=
 Hs.Cq (A:=fun x:FK×aG=>sp<|ckC C n p2 p3 p5 p6 l d e rest x.1 x.2) (fs,a) (Fy b<|Fy g<|Fy j k)
def G4 {C:bQ} {n:aG} {p2 p3 p5 p6 l d:Nat} {rest:JF} (b:Hs G h (ckI C n p2 p3 p5 p6 l d e rest::L)):∃g a,(rest=g.map fun f=>[I f])/\(∀f∈g,1<=f/\f<=13)/\jM C n g a=jM C n (Jd n.kind.toNat) (sA n.kind)/\
  Hs G h (pD Pr 192 (qK 1786) 41 e d l (.ready,none)::aK p2 0 C.enc::aK p3 0 n.enc::aK p5 0 [.bool true]::aK p6 0 a.enc::L):=by
 have⟨⟨g,a⟩,b⟩:=Hs.Cc b
 have⟨h1,b⟩:=kK b
 have⟨h2,b⟩:=kK b
 have⟨h3,b⟩:=kK b
 exact⟨g,a,h1,h2,h3,b.fL⟩
theorem aSi {C:bQ} {n:aG} (u:Ob G 3 El) (z:Ob G 0 iM) (b:Hs G h L) (j:∀g,Hs G g L->Q (I<|gG C n) g):JL 192 [.agg ⟨C.enc⟩,.agg ⟨n.enc⟩] h Q:=by
 rw[gG] at j;refine cW<|fB b ?_;intro D h b;refine fB b fun E h b=>aA<|aE b rfl<|Gm<|cZ<|fR<|bG (fun k=>bW ?_) fun k=>nU ?_;rw[bD2 k] at j;refine bC b FV (l:=C.enc) rfl rfl<|uG z b fun h b=>?_;by_cases hC:C.Ok;rw[bD2 hC] at j ⊢;refine bZ<|aab<|bW<|cT b fun F h b=>an b ?_;intro h b;refine aA<|aE b rfl<|aZ (c:=(sA n.kind).enc) rfl<|cT b fun H h b=>an b ?_;intro h b;obtain⟨m,A,N,q⟩:=aYr k;refine aA<|aE b rfl ?_;rw[A];refine aC1 b fun p h b=>nY b fun d h b=>?_;intro e J;refine rK b fun l h b=>(xU FU ?_);have t:=aOv q;have y:Hs G h (aK p 0 [I m]::ckI C n D E F H l d e ((Jd m).map fun f=>[I f])::mk d ()::L):=by
  refine Hs.qS (Jn (a:=sA n.kind) rfl t (by rw[A];rfl) ?_);exact b.to
 refine aHw u q _ (ckJ C n D E F H l d e) _ _ h _ y ?_ ?_ ?_;intro x rest h M b;have⟨o,a,k,h2,h3,hq⟩:=G4 b;cases o with
 |nil=>cases k
 |cons f o=>
  obtain⟨rfl,rfl⟩:=k;have r:=h2 f FR;refine rW (yJ hq) J<|kV hq fun h b=>?_;refine bC b FV (l:=n.enc) rfl rfl<|Ts r b fun h b=>(bC b FV (l:=C.enc) rfl rfl<|Z9 hC r z b fun h b=>cZ<|fR<|bG (fun B=>?_) fun B=>?_);refine aVt (n:=a) r (b.bE _) fun h b=>lM b fun h b=>(.inl ⟨rfl,Jn (a:=F8 a f<|Cn n f) rfl FR ?_ b.to⟩);simp_all[jM,bD2];refine an b ?_;intro h b;refine lM b fun h b=> .inr ⟨rfl,Hs.Cq a<|Fy ?_ b.to⟩;rw[<-h3,jM,bD1 B]
 intro v g b;have⟨o,a,k,h2,h3,b⟩:=G4 b.qS;cases o with
 |cons f o=>cases k
 |nil=>
  rw[jM] at h3;rw[<-h3] at j;refine rD b fun g b=>rF<|aE b rfl<|cZ ?_;refine(cY<|bC b FV (l:=a.enc) rfl rfl<|bC b FV (l:=n.enc) rfl rfl<|neN<|bG (fun w=>?_) fun w=>?_);refine qQ b fun g b=>nU ?_;have:=j g b.to;rwa [bD1 FR] at this;refine qQ b fun g b=>nU ?_;have:=j g b.to;rwa [bD2 ⟨rfl,FR⟩] at this
 intro v g b;have⟨a,b⟩:=Hs.Cc b.qS;have⟨k,b⟩:=kK b;have b:=b.fL;refine aT7 b FV fun g b=>Oh rfl<|aE b rfl<|cZ ?_;refine(gA<|qQ b fun g b=>nU ?_);have:=j g b.to;rwa [bD1 fun e=>FR] at this;rw[bD1 hC] at j ⊢;refine bZ<|aae<|nU<|j h b.to;rw[bD1 k] at j;exact j h b.to
end Go.Proofs.Z.N
variable {c2 f j y:Nat} {l:List (Int×Int)} {v:Value} {a a2:FM} {g w x:Int} {cs:FJ} {L2:IU} {pl:Nat->Nat}
section
attribute [local irreducible] cC Br vZ yU Ar Jj rJ Ce qL dj lQ sJ wV wJ vF rB A6 Yn Wh W3 Wi Wj gf qN tZ nJ mM Dv O9 pX Vx cn E2 Cl F3 ga zF yL oI jF eX dO
namespace Go.Proofs.Z
open Go.Hm Go.At Go.Mc
variable {s:jO}
section
instance:Fx fA 2:=⟨fun _=>rfl,fun _=>rfl⟩
def ixK (p:Int×Int->Bool):List (Int×Int)->Nat->Int
 |[],_=> -1
 |x::l,i=>if p x then(i:Int) else ixK p l (i+1)
theorem Vd {p:Int×Int->Bool}:∀{l:List (Int×Int)} {i:Nat},(ixK p l i= -1/\(∀x∈l,p x=false))\/∃j x,ixK p l i=((i+j:Nat):Int)/\l[j]?=some x/\p x=true/\∀y∈l.take j,p y=false
 |[],i=> .inl ⟨rfl,FR⟩
 |x::l,i=>by
  rw[ixK];split;rename_i a;exact .inr ⟨0,x,FW,rfl,a,FR⟩;rename_i a;rcases Vd (p:=p) (l:=l) (i:=i+1) with⟨b,d⟩|⟨j,y,b,d,e,f⟩;grind;refine .inr ⟨j+1,y,FR,FR,e,fun z g=>?_⟩;grind
def isG (g:Int) (x:Int×Int):Bool:=decide<|x.1=g
theorem Ie:(ixK (isG g) l 0= -1/\jC l g=none)\/∃(j:Nat) (x:Int×Int),ixK (isG g) l 0=(j:Int)/\l[j]?=some x/\jC l g=some x.2:=by
 rcases Vd (p:=isG g) (l:=l) (i:=0) with⟨b,a⟩|⟨j,x,b,a,d,f⟩;grind[jC,List.find?_eq_none,isG];refine .inr ⟨j,x,FR,a,?_⟩;rw[jC];have:l.find? (fun x=>decide<|x.1=g)=some x:=by
  rw[DT];refine⟨d,_,l.drop<|j+1,?_,fun y k=>by have:=f y k;grind[isG]⟩;have⟨hj,e⟩:=ew.1 a;rw[<-e,<-l7 hj,z1]
 grind
variable {G:Bg} {h:AH} {C:bQ}
def Oj (C:bQ) (s:jO) (a:FM) (c:Nat):FJ:=[.bool s.dM,I s.aR,I s.at',.bool s.kG,I C.mU,I C.aM,.slice a s.bL.length c]
def oY (p:Nat) (C:bQ) (s:jO):HP:=Cr fun x:FM×Nat=>sp [aK p 0<|Oj C s x.1 x.2,ls fA 2 266 x.1 x.2 s.bL]
def pR (b:Hs G h (oY p C s::L)):∃a c,Hs G h (aK p 0 (Oj C s a c)::ls fA 2 266 a c s.bL::L):=by
 have⟨⟨a,c⟩,b⟩:=b.Cc;exact⟨a,c,b.A7⟩
def gB (p:Nat) (C:bQ) (s:jO) {b:IU} (f:Hs G h L) [m:dZ (aK p 0) L cs b] [m2:dZ (ls fA 2 266 a c) b l L2] (d:cs=Oj C s a c) (e:l=s.bL):Hs G h (oY p C s::L2):=by
 subst d e;exact Hs.Cq (a,c)<|Hs.nS<|f.cI<|m.cI.trans<|m2.cI.cons _
def aF4 (hC:C.Ok) (b:Hs G h L) (f:∀p d,Hs G d (oY p C Ov::L)->Q (.tuple ⟨[JM p,I 0]⟩) d):JL 43 [I C.mU,I C.aM] h Q:=by
 have a:=hC;rw[bQ.Ok] at a;refine cW<|bF<|aab<|qA<|aab<|bF<|aab<|qA<|aab ?_;exact aZ (c:=Oj C Ov none 0) rfl<|fB b fun p h b=>f _ _<|gB p C Ov ((vC (enc:=fA) (e:=266) b)) rfl rfl
def Ml (hb:l.length<=100) (j:Hs G h L) [m:dZ (ls fA 2 266 a c) L l L']
  (g:∀b d f,Hs G f (ls fA 2 266 b d l::ls fA 2 266 a c l::L')->Q (.slice b l.length d) f):JL 100 [.slice a l.length c] h Q:=
 cW (H3 (e:=266) (show Hs G h (eC 2 266 a c (l.length,eL fA l)::L') from m.of j) FQ g)
def Kc (hb:s.bL.length<=100) (b:Hs G h L) [m:dZ (oY p C) L s L'] (e:∀q d,Hs G d (oY q C s::oY p C s::L')->Q (JM q) d):JL 184 [JM p] h Q:=by
 have⟨a,c,b⟩:=pR<|m.of b;refine cW<|dN<|cY<|bW<|aC<|bC b FV (l:=Oj C s a c) rfl rfl<|cT b fun q h b=>an b fun h b=>(aC<|aA<|aE b rfl<|Ml hb b fun f g h b=>aA<|ax b fun h b=>e _ _ ?_);exact(gB q C s (gB p C s (a:=a) (c:=c) (b.dC (aK p 0 _)<|ls fA 2 266 a c s.bL) rfl rfl) rfl rfl)
def aO6 (G:Bg) (f:Value) (A:HP) (p:Int×Int->Bool):Prop:=∀(x:Int×Int) (h:AH) (L:IU) (Q:Value->AH->Prop),Hs G h (A::L)->(∀a,Hs G a (A::L)->Q (.bool<|p x) a)->F3 Pr K f [.agg ⟨fA x⟩] h Q
theorem qy {f:Value} {A:HP} {p:Int×Int->Bool} (q:aO6 G f A p) (hb:l.length<=1000) (b:Hs G h (A::ls fA 2 266 a c l::L))
  (o:∀g,Hs G g (A::ls fA 2 266 a c l::L)->Q (I<|ixK p l 0) g):JL 308 [.slice a l.length c,f] h Q:=by
 refine cW<|dB ?_
 have loop:∀(k i:Nat) (h:AH),i+k=l.length->ixK p l 0=ixK p (l.drop i) i->Hs G h (A::ls fA 2 266 a c l::L)->Dd 308 1 [] Q [.slice a l.length c,f,I l.length,I i] h:=by
  intro k;induction k with
  |zero=>
   intro i h r d b;rw[eo FQ] at d;refine bW<|bF<|aab ?_;have:=o _ b;rwa [d] at this
  |succ k t=>
   intro i h r d b;have⟨x,hx,hd⟩:=sR (l:=l) (i:=i) FQ;rw[hd,ixK] at d;refine bW<|bF<|aae<|bW<|yX (e:=266) b FV FQ FR<|q x h _ _ b fun h b=>dX (fun j=>?_) fun j=>?_;have:=o _ b;rwa [d,bD2 j] at this;rw[bD1 FR] at d;exact bW<|aad<|t (i+1) h FQ d b
 exact loop l.length 0 h FQ FR b
def aSo:aO6 G (.func (.func 309) #[] #[JM p]) (aK p 0 [I g]) (isG g):=by
 intro x h L Q a b;refine vB rfl<|cW<|fB a fun q h a=>aA<|aE a rfl<|aE a rfl<|cF<|b _ a.tail
def R7 (hb:s.bL.length<=100) (b:Hs G h L) [m:dZ (oY p C) L s L'] (e:∀d,Hs G d (oY p C s::L')->Q (I<|ixK (isG g) s.bL 0) d):JL 245 [JM p,I g] h Q:=by
 have⟨a,c,b⟩:=pR<|m.of b;refine cW<|fB b fun q h b=>aC<|aA<|aE b rfl ?_;have b:Hs G h (aK q 0 [I g]::ls fA 2 266 a c s.bL::aK p 0 (Oj C s a c)::L'):=b.to;exact qy aSo FQ b fun h b=>e _<|(gB p C s b rfl rfl).to
theorem aFh (hb:s.bL.length<=100) (b:Hs G h L) [m:dZ (oY p C) L s L'] (d:∀r,Hs G r (oY p C s::L')->Q (.tuple ⟨[I (s.uC C w g).1,I (s.uC C w g).2]⟩) r):JL 167 [JM p,I w,I g] h Q:=by
 have⟨a,c,b⟩:=pR<|m.of b;rw[jO.uC] at d;have f:∀{h:AH},Hs G h (aK p 0 _::ls fA 2 266 a c s.bL::L')->Hs G h _:=fun b=>gB p C s (a:=a) (c:=c) b rfl rfl;refine cW<|dN<|cY<|bW<|bF<|bG (fun t=>?_) fun t=>aC<|aA<|aE b rfl<|fV<|bG (fun u=>?_) fun u=>bF<|bG (fun v=>?_) fun v=>qA<|bG (fun y=>?_) fun y=>?_;rw[aaa] at d;exact d _<|f b;rw[aaa] at d;exact d _<|f b;rw[aaa] at d;exact d _<|f b;rw[aaa] at d;exact d _<|f b;rw[aac] at d;refine bW<|R7 (C:=C) hb (f b) fun h b=>bF<|bG (fun z=>?_) fun z=>?_;rcases Ie (g:=g) (l:=s.bL) with⟨k,e2⟩|⟨j,x,k,e2,q⟩;rw[e2] at d;exact d _ b;omega;rcases Ie (g:=g) (l:=s.bL) with⟨k,e2⟩|⟨j,x,k,e2,q⟩;omega;rw[q] at d;rw[k];have⟨a,c,b⟩:=pR b;refine bW<|aC<|aA<|aE b rfl<|aK8 (enc:=fA) (e:=266) b FQ HO rfl<|ct<|dX (fun o=>?_) fun o=>?_;simp[o,eD] at d;exact d _<|gB p C s b rfl rfl;simp only[o] at d;exact d _<|gB p C s b rfl rfl
theorem px (hC:C.Ok) (hb:s.bL.length<=100) (d:Hs G h L) [m:dZ (oY p C) L s L'] (e:∀t,Hs G t (oY p C (s.dJ C g).1::L')->Q (.tuple ⟨[I (s.dJ C g).2.1,I (s.dJ C g).2.2]⟩) t):JL 246 [JM p,I g] h Q:=by
 have y:=hC.2.1.2;have⟨a,c,d⟩:=pR<|m.of d;rw[jO.dJ] at e;have f:∀{h:AH},Hs G h (aK p 0 _::ls fA 2 266 a c s.bL::L')->Hs G h _:=fun d=>gB p C s (a:=a) (c:=c) d rfl rfl;refine cW<|dN<|cY<|bW<|bF<|bG (fun u=>?_) fun u=>aC<|aA<|aE d rfl<|fV<|bG (fun v=>?_) fun v=>?_;rw[aac] at e;exact e _<|f d;rw[aac] at e;exact e _<|f d;rw[aaa] at e;refine bW<|R7 (C:=C) hb (f d) fun h d=>fV<|bG (fun w=>?_) fun w=>?_;rcases Ie (g:=g) (l:=s.bL) with⟨k,e2⟩|⟨j,x,k,e2,r⟩;omega;rw[r] at e;exact e _ d;rcases Ie (g:=g) (l:=s.bL) with⟨k,e2⟩|⟨j,x,k,e2,r⟩;rw[e2] at e;have⟨a,c,d⟩:=pR d;refine bW<|aC<|aA<|aA<|aE d rfl<|dX (fun q=>?_) fun q=>?_;simp[q,eD] at e;exact e _<|gB p C s d rfl rfl;simp[q,aO,dx] at e;refine bW<|Dj FQ<|aN rfl<|aN rfl<|bZ<|aab<|bW<|aZ (c:=[.bool true,I g,I<|g/4,.bool false]) rfl<|aC<|aA<|ax (b:=p) (o:=0) d fun h d=>e _ ?_;exact gB p C _ d rfl rfl;omega
end
section
def aTx (m:Nat):(iP [I 0,I 0] m).length=m*2/\(iP [I 0,I 0] m).all gU=true:=by
 have:iP [I 0,I 0] m=eL fA (List.replicate m (0,0)):=by
  induction m with
  |zero=>rfl
  |succ m a=>rw[BR,uU,<-a];rfl
 rw[this];exact⟨by rw[J9,List.length_replicate],Uk⟩
variable {G:Bg} {h:AH} {C:bQ}
def ur (k:0<l.length) (d:Hs G h L) [m:dZ (ls fA 2 266 a c) L l L']
  (w:∀j,Hs G j (ls fA 2 266 a c (l.drop 1)::L')->Q (.slice a (l.drop 1).length c) j):JL 323 [.slice a l.length c,I 0,I 1] h Q:=by
 have d:Hs G h (eC 2 266 a c (l.length,eL fA l)::L'):=m.of d
 have f:l.length<=c:=by
  obtain⟨r,A,⟨_,_,y⟩,_⟩:=d.fst;rcases y with⟨z,_⟩|⟨z,_⟩|⟨f,_⟩;omega;omega;exact f
 have⟨b,o,ha,_⟩:=d.vA k
 refine cW<|dB ?_
 refine tn (v:= .slice (some ⟨b,o+0*2,none⟩) (0+1 - 0) (l.length - 0)) ?_ ?_
 .subst ha;have q:sM (some<|I l.length) c c=some l.length:=GI
  have t:sM (some<|I 1) l.length l.length=some 1:=by simp only[sM];rw[aac];rfl
  have u:sM (some<|I 0) 0 1=some 0:=by simp only[sM];rw[aac];rfl
  have g:¬l.length=0:=FQ
  simp only[Dv,q,t,u,BL,y0,ef,aO,dx,g,fD]
  rw[aac]
 refine cF<|aab<|bW<|dB<|bI d ?_
 intro r h d
 refine aRl (i:=0) FV rfl rfl k d ?_
 intro h d
 have e:(eL fA l).take (0*2)++(eL fA l).drop ((0+1)*2)=eL fA (l.drop 1):=by rw[Zj];simp
 rw[e] at d
 have:=w h
 rw[q6] at this
 apply this
 rw[ls,q6]
 exact d.to
def aKv {x:Int×Int} (hC:C.Ok) (hb:s.bL.length<=100) (d:Hs G h L) [m:dZ (oY p C) L s L'] (g:∀u,Hs G u (oY p C (s.Bu C x)::L')->Q (.tuple ⟨[]⟩) u):JL 262 [JM p,.agg ⟨fA x⟩] h Q:=by
 have w:=hC.2.2.2.2.2.1;have⟨a,c,d⟩:=pR<|m.of d;rw[jO.Bu] at g;refine cW<|fB d fun q h d=>bI d fun y h d=>?_;refine aC<|aA<|ai p d rfl<|dB<|aC<|aA<|ai p d rfl<|fV<|bG (fun t=>?_) fun t=>?_;rw[bD2 t] at g;refine bW<|aC<|aA<|ai p d rfl<|ur (a:=a) (c:=c) (l:=s.bL) FQ d fun h d=>?_;refine aC<|aA<|ax (b:=p) (o:=0) d fun h d=>bI d fun v h d=>aC<|aA<|ai p d rfl<|am q d (l:=fA x) rfl rfl<|aZ (c:=fA x) rfl<|oR (i:=6) (N:=11) (D:=[]) d rfl rfl rfl rfl rfl fun f h d=>?_;refine qV (enc:=fA) (W:=2) (e:=266) (a:=a) (c:=c) (l:=s.bL.drop 1) (a2:=some f) (c2:=1) (l2:=[x]) (show Hs G h (ls fA 2 266 (some f) 1 [x]::_) from d) FX fun j k h d=>?_;refine aC<|aA<|ax (b:=p) (o:=0) d fun h d=>dT eG<|g _ ?_;exact(gB p C {s with bL:=s.bL.drop 1++[x]} (a:=j) (c:=k) d rfl rfl).to;rw[bD1 t] at g;refine bI d fun v h d=>aC<|aA<|ai p d rfl<|am q d (l:=fA x) rfl rfl<|aZ (c:=fA x) rfl<|oR (r:=v) (i:=6) (N:=11) (D:=[]) d rfl rfl rfl rfl rfl fun f h d=>?_;refine qV (enc:=fA) (W:=2) (e:=266) (a:=a) (c:=c) (l:=s.bL) (a2:=some f) (c2:=1) (l2:=[x]) (show Hs G h (ls fA 2 266 (some f) 1 [x]::_) from d) FX fun j k h d=>?_;refine aC<|aA<|ax (b:=p) (o:=0) d fun h d=>dT eG<|g _ ?_;exact(gB p C {s with bL:=s.bL++[x]} (a:=j) (c:=k) d rfl rfl).to
def aF6 {at':Int} (hC:C.Ok) (hb:s.bL.length<=100) (H:0<=s.aR/\s.aR<C.aM) (R:0<=w/\w<=1000000) (d:Hs G h L) [m:dZ (oY p C) L s L']
  (f:∀l,Hs G l (oY p C (s.fM C at' w).1::L')->Q (.tuple ⟨[I (s.fM C at' w).2.1,.bool (s.fM C at' w).2.2.1,I (s.fM C at' w).2.2.2]⟩) l):JL 185 [JM p,I at',I w] h Q:=by
 have P:=hC.2.1
 have⟨a,c,d⟩:=pR<|m.of d
 rw[jO.fM] at f
 have t:∀{h:AH},Hs G h (aK p 0 (Oj C s a c)::ls fA 2 266 a c s.bL::L')->Hs G h (oY p C s::L'):=fun d=>gB p C s (a:=a) (c:=c) d rfl rfl
 refine cW<|dN<|cY<|bW<|aC<|aA<|aA<|ai p d rfl<|cZ<|fR<|dX (fun y=>?_) fun y=>?_
 rotate_left
 .rw[bD2 y] at f;exact f _<|t d
 rw[bD1<|by rw[y];simp] at f
 refine bW<|aC<|aA<|aA<|ai p d rfl<|bZ<|bG (fun z=>?_) fun z=>?_
 .rw[bD2 z] at f;exact f _<|t d
 rw[bD1 z] at f
 refine bW<|aC<|aA<|aA<|ai p d rfl<|Dj FQ<|aN rfl<|aN rfl<|bZ<|aab<|bW<|aC<|aA<|aA<|ai p d rfl<|dX (fun A=>?_) fun A=>?_
 .rw[bD2 A] at f;refine bW<|aC<|aA<|aA<|ax (b:=p) (o:=0) d fun h d=>aC<|aA<|aA<|ax (b:=p) (o:=0) d fun h d=>f _ ?_;exact gB p C s.iD (a:=a) (c:=c) d rfl rfl
 rw[bD1<|by rw[A];simp] at f
 refine bW<|bI d fun T h d=>aC<|aA<|ai p d rfl<|aC<|aA<|aA<|ai p d rfl<|aHo (n:=C.aM) (g:=s.aR) ⟨P,H⟩ R d fun h d=>?_
 generalize lU C.aM s.aR at' w=r at f
 obtain⟨nx,x,S,e⟩:=r
 simp only at f ⊢
 refine aN rfl<|aN rfl<|aN rfl<|aN rfl<|nI (i:=17) (n:=22) (D:=[]) d rfl rfl fun j h d=>an (b:=j) d fun h d=>dT (aN rfl aYp)<|dT (aN rfl lG)<|bZ<|bG (fun B=>?_) fun B=>?_
 .rw[bD2 B] at f;exact f _<|t d.to
 rw[bD1 B] at f
 have k:∀{h:AH} {M:IU} (v:Int) (u:jO),[F5 M L']->Oj C u a c=bM (Oj C s a c) 2 [I v]->u.bL=s.bL->Hs G h (aK p 0 (Oj C s a c)::ls fA 2 266 a c s.bL::M)->(∀l,Hs G l (oY p C u::L')->Q (.tuple ⟨[I v,.bool false,I 0]⟩) l)->Dd 185 10 [] Q [JM p,I v] h:=by
  intro h M v u _ O J d N;refine bW<|aC<|aA<|aA<|ax (b:=p) (o:=0) d fun h d=>N _ ?_;have:=gB p C u (a:=a) (c:=c) d O.symm J.symm;exact this.to
 have q:∀{h:AH},Hs G h (aK j 0 x.enc::aK p 0 (Oj C s a c)::ls fA 2 266 a c s.bL::L')->(∀l,Hs G l (oY p C (s.Bu C (s.aR,x.owner)).done::L')->Q (.tuple ⟨[I 0,.bool true,I 0]⟩) l)->Dd 185 11 [] Q [JM p,JM j] h:=by
  intro h d N;refine bW<|bI d fun U h d=>aC<|aA<|aA<|ai p d rfl<|aA<|ai j d rfl<|aZ (c:=fA (s.aR,x.owner)) rfl ?_;have d:=gB p C s (a:=a) (c:=c) d rfl rfl;refine aKv hC hb d fun h d=>?_;have⟨a3,c3,d⟩:=pR d;refine aZ (c:=[.bool false,I 0,I 0,.bool false]) rfl<|aC<|aA<|ax (b:=p) (o:=0) d fun h d=>N _ ?_;exact(gB p C (s.Bu C (s.aR,x.owner)).done (a:=a3) (c:=c3) d rfl rfl).to
 have d:Hs G h (aK j 0 x.enc::aK p 0 (Oj C s a c)::ls fA 2 266 a c s.bL::L'):=d.to
 refine bW<|dX (fun E=>?_) fun E=>?_
 .subst E;refine aA (ai j d rfl<|dX (fun F=>?_) fun F=>?_)
  .rw[bD2 ⟨rfl,F⟩] at f;exact bW<|cZ<|gA<|k (M:=aK j 0 x.enc::L') (s.aR/4) (s.goto<|s.aR/4) rfl rfl d.to f
  .rw[bD1<|by rw[F];simp,bD1 FW] at f;exact bW<|cZ<|cY<|q d f
 .subst E;exact cZ<|gA<|k (M:=aK j 0 x.enc::L') nx (s.goto nx) rfl rfl d.to f
def D4 (g:Int) (x:Int×Int):Bool:=decide<|g= -1\/x.1=g
def aE5:aO6 G (.func (.func 265) #[] #[JM p]) (sp [aK p 0 [.func (.func 263) #[] #[JM q]],aK q 0 [I g]]) (D4 g):=by
 intro x h L Q a j;have a:=a.A7;have d:∀{h:AH} {M:IU} {b:Bool},[F5 M L]->b=D4 g x->Hs G h (aK p 0 [.func (.func 263) #[] #[JM q]]::aK q 0 [I g]::M)->Q (.bool b) h:=by
  intro h M b _ f a;show Q _ _;rw[f];exact j _<|Hs.F6 a.to
 refine vB rfl<|cW<|fB a fun r h a=>ai p a rfl<|aA<|ai r a rfl ?_;refine vB rfl<|cW<|ai q a rfl<|cF<|bG (fun e=>?_) fun e=>ai q a rfl<|cF ?_;exact d (M:=aK r 0 (fA x)::L) (by rw[D4,cj<|.inl e]) a.to;exact d (M:=aK r 0 (fA x)::L) (by exact BH.2 FQ) a.to
def xe {f:Value} {A:HP} {p:Int×Int->Bool} (J:aO6 G f A p) (hb:l.length<=1000) (d:Hs G h (A::ls fA 2 266 a c l::L))
  (B:∀H,Hs G H (A::ls fA 2 266 a c (l.filter fun x=> !p x)::L)->Q (.slice a (l.filter fun x=> !p x).length c) H):JL 264 [.slice a l.length c,f] h Q:=by
 refine cW<|qy J hb d fun h d=>?_
 rcases Vd (p:=p) (l:=l) (i:=0) with⟨F,e2⟩|⟨j,x,F,e2,P,R⟩
 .rw[BC.2 fun x W=>by rw[e2 x W];rfl] at B;exact cF<|aae<|B _ d
 rw[F]
 have U:=(ew.1 e2).1
 refine cF<|aab<|bW<|aad ?_
 have loop:∀(k i:Nat) (m:List (Int×Int)) (h:AH),i+k=l.length->m.length<i->m=(l.take i).filter (fun x=> !p x)->∀t:List (Int×Int),(m++t).length=i->Hs G h (A::ls fA 2 266 a c (m++t++l.drop i)::L)->
   Dd 264 2 [] Q [.slice a l.length c,f,I m.length,I i] h:=by
  intro k
  induction k with
  |zero=>
   intro i m h T V r t q d
   have u:i=l.length:=FQ
   refine bW<|dB<|bF<|aab<|bW ?_
   rw[u,BF] at r
   rw[u,List.drop_length,kx] at d
   have d:Hs G h (eC 2 266 a c ((m++t).length,eL fA<|m++t)::A::L):=d.qS
   have D:(m++t).length=l.length:=FQ
   rw[<-D]
   refine aYk (n:=(m++t).length) (i:=m.length) (e:=266) (cs:=eL fA<|m++t) FV aTx FQ d fun h d=>?_
   have:=B h
   rw[<-r] at this
   apply this
   rw[zl,FA] at d
   exact d.qS
  |succ k N=>
   intro i m h T V r t q d
   have⟨y,E,hd⟩:=sR (l:=l) (i:=i) FQ
   have g:(m++t++l.drop i).length=l.length:=by rw[dd,q,q6];omega
   have X:(m++t++l.drop i)[i]?=some y:=by rw[p4 FQ,q,BZ,hd];rfl
   have v:l.take (i+1)=l.take i++[y]:=by rw[AP,E];rfl
   refine bW<|dB<|bF<|aae<|bW ?_
   rw[<-g]
   refine yX (l:=m++t++l.drop i) (a:=a) (c:=c) (enc:=fA) (e:=266) d FV FQ HO<|cT d fun O h d=>an d fun h d=>am O d (l:=fA y) rfl rfl ?_
   refine J y h _ _ (d.bE A) fun h d=>cZ<|fR<|dX (fun w=>?_) fun w=>?_
   .refine bW (aad ?_);rw[g];apply(N (i+1) m h FQ FQ (by rw[v,AT,<-r];simp[w]) (t++[y])<|by simp at q ⊢;omega);rw[show m++(t++[y])++l.drop (i+1)=m++t++l.drop i by rw[hd];simp];exact d.to
   .refine bW (am O d (l:=fA y) rfl rfl ?_);refine aAp (l:=m++t++l.drop i) (a:=a) (c:=c) (enc:=fA) (e:=266) (y:=y) d FV FQ FQ fun h d=>?_;cases t with
    |nil=>simp at q;omega
    |cons z t=>
     refine aad<|aad ?_
     have:=N (i+1) (m++[y]) h FQ FX (by rw[v,AT,<-r];simp[w]) (t++[y]) (by simp at q ⊢;omega)
     rw[dd] at this
     rw[g]
     apply this
     have S:(m++z::t++l.drop i).set ((m.length:Int)).toNat y=m++[y]++(t++[y])++l.drop (i+1):=by
      rw[aL,hd,eh,List.set_append_right _ _<|bb _,BZ];simp
     rw[<-S]
     exact d.to
 have:=loop (l.length - (j+1)) (j+1) (l.take j) h FQ IB ?_ [x] ?_ ?_
 .rw[oH,EX FQ] at this;rwa [AD]
 .rw[AP,e2,AT,BC.2 fun y E=>by rw[R y E];rfl];simp[P]
 .simp;omega
 .rw[show l.take j++[x]++l.drop (j+1)=l by
   have⟨hj,ex⟩:=ew.1 e2;rw[<-ex,eh,List.singleton_append,<-l7 hj,z1]]
  exact d
end
section
variable {G:Bg} {h:AH} {C:bQ}
theorem uc (hb:s.bL.length<=100) (d:Hs G h L) [m:dZ (oY p C) L s L']
  (e:∀n t,Hs G t (oY p C (s.drop C g).1::L')->Q (.tuple ⟨[I n,I (s.drop C g).2]⟩) t):JL 187 [JM p,I g] h Q:=by
 obtain⟨a,c,d⟩:=pR<|m.of d
 unfold jO.drop at e
 have f:∀{h:AH} {M:IU},[F5 M L']->Hs G h (aK p 0 _::ls fA 2 266 a c s.bL::M)->Hs G h (oY p C s::L'):=fun d=>(gB p C s (a:=a) (c:=c) d rfl rfl).to
 refine cW<|fB d fun q h d=>dN<|cY<|bW<|bI d fun r h d=>aE d rfl<|bF<|bG (fun u=>?_) fun u=>?_
 .rw[bD2<|.inl u] at e;exact e _ _<|f (M:=aK q 0 [I g]::L') d.to
 refine aE d rfl<|aC<|aA<|aE d rfl<|fV<|bG (fun v=>?_) fun v=>?_
 .rw[bD2<|.inr v] at e;exact e _ _<|f (M:=aK q 0 [I g]::L') d.to
 rw[aaa] at e
 dsimp only at e
 refine bW<|cT d fun p1 h d=>an d fun h d=>aC<|aA<|aE d rfl<|dB<|aC<|aA<|aE d rfl ?_
 have d:=d.dC (aK p1 0 [.func (.func 263) #[] #[JM q]])<|aK q 0 [I g]
 have d:=d.F6
 have d:=d.dC (sp [aK p1 0 [.func (.func 263) #[] #[JM q]],aK q 0 [I g]])<|ls fA 2 266 a c s.bL
 refine xe (aE5) FQ d fun h d=>?_
 have d:=d.A7
 refine aC<|aA<|ax d fun h d=>bI d fun B h d=>aC<|aA<|aA<|aE d rfl ?_
 have A:s.bL.filter (fun x=> !D4 g x)=s.bL.filter (fun x=> !decide _):=rfl
 have tail:∀{h:AH} {M:IU} (st:Bool),[F5 M L']->Hs G h (aK p 0 [.bool s.dM,I s.aR,I s.at',.bool st,I C.mU,I C.aM,.slice a (s.bL.filter fun x=> !D4 g x).length c]::ls fA 2 266 a c (s.bL.filter fun x=> !D4 g x)::M)->
   st=(s.kG||(s.dM&&decide (g= -1\/s.aR=g)))->∀n:Int,Q (.tuple ⟨[I n,I 0]⟩) h:=by
  intro h M st _ d l n
  refine e n h ?_
  rw[<-l]
  have:=gB p C {s with bL:=s.bL.filter fun x=> !D4 g x,kG:=st} d rfl rfl
  exact(show Hs G h (oY p C {s with bL:=s.bL.filter fun x=> !decide _,kG:=st}::M) from this).to
 refine dX (fun w=>?_) fun w=>?_
 .refine aE d rfl (aC<|aA<|aA<|aE d rfl ?_);refine vB rfl<|cW<|aE d rfl<|cF ?_;have go:∀{b:Bool},b=decide (g= -1\/s.aR=g)->Br (.bool b) (Dd 187 3 [] Q [JM p,I s.bL.length] h) (cC (sJ<|JM p) fun v26=>cC (lQ 6 v26) fun v27=>cC (vZ h v27) fun v28=>cC (rB v28) fun v29=>cC (A6 .sub (I s.bL.length) v29) fun v30=>Q (.tuple ⟨[v30,I 0]⟩) h):=by
   intro b j;have k:=ss (fun x=> !D4 g x) s.bL;refine dX (fun y=>?_) fun y=>?_;refine bW<|aC<|aA<|aA<|ax d fun h d=>aC<|aA<|aE d rfl<|dB<|Ec FQ<|tail (M:=aK p1 0 [.func (.func 263) #[] #[JM q]]::aK q 0 [I g]::L') true (d.sg (b:=p) (o:=0) (c:=[.bool s.dM,I s.aR,I s.at',.bool true,I C.mU,I C.aM,.slice a _ c]) rfl).to ?_ _;rw[<-j,y,w];simp;refine aC<|aA<|aE d rfl<|dB<|Ec FQ<|tail (M:=aK p1 0 [.func (.func 263) #[] #[JM q]]::aK q 0 [I g]::L') s.kG (d.sg (b:=p) (o:=0) (c:=[.bool s.dM,I s.aR,I s.at',.bool s.kG,I C.mU,I C.aM,.slice a _ c]) rfl).to ?_ _;grind
  refine bG (fun z=>go FR) fun z=>aE d rfl<|cF<|go FR
 .have k:=ss (fun x=> !D4 g x) s.bL;refine aC<|aA<|aE d rfl<|dB<|Ec FQ<|tail (M:=aK p1 0 [.func (.func 263) #[] #[JM q]]::aK q 0 [I g]::L') s.kG (d.sg (b:=p) (o:=0) (c:=[.bool s.dM,I s.aR,I s.at',.bool s.kG,I C.mU,I C.aM,.slice a _ c]) rfl).to ?_ _;grind
def uk (b:Hs G h L) [m:dZ (oY p C) L s L'] (f:∀g a e,Hs G e (oY p C s::L')->Q (.tuple ⟨[g,a,.bool s.dM]⟩) e):JL 67 [JM p] h Q:=by
 obtain⟨a,c,b⟩:=pR<|m.of b;refine cW<|dN<|cY<|aC<|aA<|aA<|aE b rfl<|cZ<|fR<|dX (fun d=>?_) fun d=>?_;refine bI b fun r h b=>aC<|aA<|aA<|aE b rfl<|aC<|aA<|aA<|aE b rfl ?_;have:=f (I s.aR) (I s.at') h (gB p C s b rfl rfl).to;rw[d] at this;exact this;have:=f (I 0) (I 0) h<|gB p C s b rfl rfl;rw[d] at this;exact this
def Y7 (q:Nat) (l:List (Int×Int)):HP:=Cr fun x:FM×Nat=>sp [aK q 0 [.slice x.1 l.length x.2],ls fA 2 266 x.1 x.2 l]
def aF5 (hb:s.bL.length<=100) (b:Hs G h L) [m:dZ (oY p C) L s L'] (g:∀q f,Hs G f (Y7 q s.bL::oY p C s::L')->Q (.func (.func 101) #[] #[JM q]) f):JL 50 [JM p] h Q:=by
 obtain⟨a,c,b⟩:=pR<|m.of b;refine cW<|cT b fun q h b=>x6<|gA<|bW<|aC<|aA<|aE b rfl<|Ml hb b fun d e h b=>an b fun h b=>g q _ ?_;have b:=gB p C s (a:=a) (c:=c) (b.dC (aK p 0 _)<|ls fA 2 266 a c s.bL) rfl rfl;have b:=b.dC (aK q 0 [.slice d s.bL.length e])<|ls fA 2 266 d e s.bL;exact Hs.Cq (d,e) b.F6
theorem aO4 (hb:l.length<=1000):Yds Pr K G 101 [] [JM q] (Y7 q l) (l.map fA):=by
 intro j J y L h Q b z o r;obtain⟨⟨a,c⟩,b⟩:=b.Cc;have b:=b.A7;have d:∀{h:AH} {M:IU},Hs G h (aK q 0 [.slice a l.length c]::ls fA 2 266 a c l::M)->Hs G h (Y7 q l::M):=fun b=>Hs.Cq (a,c) b.F6;refine cW<|aE b rfl<|dB ?_;have loop:∀(f i:Nat) (h:AH),i+f=l.length->Hs G h (aK q 0 [.slice a l.length c]::ls fA 2 266 a c l::j ((l.drop i).map fA)::L)->Dd 101 1 [] Q [y,.slice a l.length c,I l.length,I i] h:=by
  intro f;induction f with
  |zero=>
   intro i h u b;rw[eo FQ] at b;exact bW (bF<|aab<|o _ _<|d b)
  |succ f A=>
   intro i h u b;obtain⟨x,B,t⟩:=sR (l:=l) (i:=i) FQ;rw[t,k7] at b;refine bW<|bF<|aae<|bW<|yX (enc:=fA) (e:=266) b FV FQ FR<|cT b fun D h b=>an b fun h b=>aA<|aE b rfl<|aA<|aE b rfl<|(z _ _ h _<|b.bE<|j (fA x::((l.drop<|i+1).map fA))).mono fun v k w=>?_;rcases w with⟨rfl,g⟩|⟨rfl,g⟩;exact cZ<|cY<|bW<|aad<|A (i+1) k FQ g.to;exact cZ<|gA<|r _ _<|d g.to
 exact loop l.length 0 h FQ (by rw[ll];exact b)
end
instance:Fx aG.enc 9:=⟨fun _=>rfl,fun _=>rfl⟩
variable {G:Bg} {h:AH} {C:bQ}
abbrev zX (a:FM) (c:Nat) (l:IT):HP:=ls aG.enc 9 174 a c l
def rT (C:bQ) (p:Nat) (l:IT):HP:=Cr fun x:FM×Nat=>sp [aK p 0 [I C.eR,.slice x.1 l.length x.2],zX x.1 x.2 l]
def Hx {l:IT} (b:Hs G h (rT C p l::L)):∃a c,Hs G h (aK p 0 [I C.eR,.slice a l.length c]::zX a c l::L):=by
 have⟨⟨a,c⟩,b⟩:=b.Cc;exact⟨a,c,b.A7⟩
def tK {l:IT} (b:Hs G h (aK p 0 [I C.eR,.slice a l.length c]::zX a c l::L)):Hs G h (rT C p l::L):=
 Hs.Cq (A:=fun x:FM×Nat=>sp [aK p 0 [I C.eR,.slice x.1 l.length x.2],zX x.1 x.2 l]) (a,c) b.F6
def aFm (hC:C.Ok) (a:Hs G h L) (d:∀p b,Hs G b (rT C p []::L)->Q (.tuple ⟨[JM p,I 0]⟩) b):JL 91 [I C.eR] h Q:=by
 have f:=hC.2.2.2.2.1;refine cW<|bF<|aab<|qA<|aab<|aZ (c:=[I C.eR,.slice none 0 0]) rfl<|fB a fun p h a=>d _ _ ?_;have a:=(vC (enc:=aG.enc) (W:=9) (e:=174) a).qS;exact tK a
def Ez {l:IT} (hb:l.length<=2^30) (f:Hs G h L) [m:dZ (zX a c) L l L']
  (d:∀a' c' b,Hs G b (zX a' c' l::zX a c l::L')->Q (.slice a' l.length c') b):JL 198 [.slice a l.length c] h Q:=
 cW (H3 (e:=174) (show Hs G h (eC 9 174 a c (l.length,eL aG.enc l)::L') from m.of f) FQ d)
def aAn {l:IT} (g:1<=C.eR/\C.eR<=16) (hb:l.length<=1000) (d:Hs G h L) [m:dZ (rT C p) L l L'] (f:∀e,Hs G e (rT C p l::L')->Q (I<|C.eR - l.length) e):JL 272 [JM p] h Q:=by
 have⟨a,c,d⟩:=Hx<|m.of d;refine cW<|dN<|cY<|bI d fun r h d=>aC<|aA<|ai p d rfl<|aC<|aA<|ai p d rfl<|dB<|Ec FQ<|f _ ?_;exact tK (a:=a) (c:=c) d.to
def aOw {l:IT} {n:aG} (k:1<=C.eR/\C.eR<=16) (hb:(l.length:Int)<C.eR) (d:Hs G h L) [m:dZ (rT C p) L l L'] [m2:fZ (zX a2 c2 [n]) L' M] (q:∀j,Hs G j (rT C p (l++[n])::M)->Q (I 0) j):
  JL 195 [JM p,.slice a2 1 c2] h Q:=by
 have d:=(m.of d).cI<|m2.cI.cons _
 refine cW<|dN<|cY<|bW<|dB<|aAn (C:=C) (p:=p) (l:=l) k FQ d fun h d=>qA<|aab ?_
 have⟨a,c,d⟩:=Hx d
 refine bW<|aC<|aA<|ai p d rfl ?_
 refine qV (enc:=aG.enc) (W:=9) (e:=174) (a:=a) (c:=c) (l:=l) (a2:=a2) (c2:=c2) (l2:=[n]) d FX fun f g h d=>?_
 refine aC<|aA<|ax (b:=p) (o:=0) d fun h d=>q _ ?_
 have d:Hs G h (aK p 0 [I C.eR,.slice f (l++[n]).length g]::zX f g (l++[n])::M):=(d.sg (b:=p) (o:=0) (c:=[I C.eR,.slice f (l++[n]).length g]) rfl).to
 exact tK d
def M7 {l:IT} (hb:l.length<=1000) (g:Hs G h L) [m:dZ (rT C p) L l L']
  (X:l=[]->∀u,Hs G u (rT C p l::L')->Q (.tuple ⟨[.agg ⟨aG.zero.enc⟩,I 12]⟩) u)
  (P:l≠[]->∀u,Hs G u (rT C p (l.eraseIdx (w % (l.length:Int)).toNat)::L')->Q (.tuple ⟨[.agg ⟨(l.getD (w % (l.length:Int)).toNat aG.zero).enc⟩,I 0]⟩) u):JL 176 [JM p,I w] h Q:=by
 have⟨a,c,g⟩:=Hx<|m.of g
 refine cW<|cT (cs:=aG.zero.enc) g fun j h g=>dN<|cY<|bW<|aC<|aA<|ai p g rfl<|dB<|cF<|bG (fun E=>?_) fun E=>?_
 .refine aZ (c:=aG.zero.enc) rfl (an (b:=j) g fun h g=>am j g (l:=aG.zero.enc) rfl rfl<|X (hY FQ) _<|tK (a:=a) (c:=c) g.to)
 have R:l≠[]:=fun e=>by rw[e] at E;simp at E
 have S:=DZ.2 R
 refine bW<|aC<|aA<|ai p g rfl<|dB<|aV7 FQ ?_
 obtain⟨k,r,α⟩:∃k:Nat,(k:Int)=w % (l.length:Int)/\k<l.length:=by
  have B:=CY w (b:=(l.length:Int)) FQ;have e2:=CZ w (b:=(l.length:Int)) FQ;exact⟨(w % (l.length:Int)).toNat,FQ,FQ⟩
 rw[<-r,aL] at P
 have v:∀(M:IU) (h:AH) (q:Nat),[F5 M L']->Hs G h (aK q 0 aG.zero.enc::aK j 0 aG.zero.enc::aK p 0 [I C.eR,.slice a l.length c]::zX a c l::M)->Dd 176 5 [] Q [JM p,JM j,I k,JM q,.slice none 0 0,.slice a l.length c,I l.length,I 0] h:=by
  intro M h q _ g;have loop:∀(f i:Nat) (b:FM) (d:Nat) (x:aG) (h:AH),i+f=l.length->x=(if i<=k then aG.zero else l.getD k aG.zero)->
    Hs G h (zX b d ((l.take i).eraseIdx k)::aK q 0 x.enc::aK j 0 aG.zero.enc::aK p 0 [I C.eR,.slice a l.length c]::zX a c l::M)->
    Dd 176 5 [] Q [JM p,JM j,I k,JM q,.slice b ((l.take i).eraseIdx k).length d,.slice a l.length c,I l.length,I i] h:=by
   intro f
   induction f with
   |zero=>
    intro i b d x h Z D g
    have J:i=l.length:=FQ
    rw[aaa] at D
    subst J
    rw[BF] at g ⊢
    refine bW<|bF<|aab<|bW<|aC<|aA<|ax (b:=p) (o:=0) g fun h g=>am q g (l:=x.enc) rfl rfl<|an (b:=j) g fun h g=>am j g (l:=x.enc) rfl rfl ?_
    rw[D]
    apply P R h
    have g:Hs G h (aK p 0 [I C.eR,.slice b (l.eraseIdx k).length d]::zX b d (l.eraseIdx k)::M):=(g.sg (b:=p) (o:=0) (c:=[I C.eR,.slice b (l.eraseIdx k).length d]) rfl).to
    exact(tK g).to
   |succ f T=>
    intro i b d x h Z D g
    have⟨y,hy,hd⟩:=sR (l:=l) (i:=i) FQ
    have A:l.take (i+1)=l.take i++[y]:=by rw[AP,hy];rfl
    have hle:((l.take i).eraseIdx k).length<=l.length:=by
     have:=List.length_eraseIdx_le (l.take i) k;rw[oH] at this;omega
    refine bW<|bF<|aae<|bW<|yX (l:=l) (a:=a) (c:=c) (enc:=aG.enc) (e:=174) g.tail FV FQ HO<|cT g fun N h g=>an (b:=N) g fun h g=>cF<|bG (fun Y=>?_) fun Y=>?_
    .have H:i=k:=FQ
     refine bW<|am N g (l:=y.enc) rfl rfl<|an (b:=q) g fun h g=>aad ?_
     have z:(l.take i).length=i:=IB
     have B:(l.take<|i+1).eraseIdx k=(l.take i).eraseIdx k:=by
      have e2:(l.take i).eraseIdx k=l.take i:=CM FQ;rw[A,List.eraseIdx_append_of_length_le FQ,z,show k - i=0 by omega,e2];simp
     have:=T (i+1) b d y h FQ (by rw[aaa,<-H,aP,hy];rfl)
     rw[B] at this
     exact this g.to
    .refine bW (am N g (l:=y.enc) rfl rfl<|aZ (c:=y.enc) rfl<|eA (W:=9) (n:=1) (c:=1) g rfl rfl rfl fun O h g=>?_);refine qV (enc:=aG.enc) (W:=9) (e:=174) (a:=b) (c:=d) (l:=(l.take i).eraseIdx k) (a2:=some O) (c2:=1) (l2:=[y]) (sG g) FX fun U V h g=>aad ?_;have B:(l.take<|i+1).eraseIdx k=(l.take i).eraseIdx k++[y]:=by
      rw[A];by_cases z:k<i;rw[List.eraseIdx_append_of_lt_length IB];rw[CM FX,CM IB]
     have:=T (i+1) U V x h FQ (by rw[D];by_cases e:i<=k;rw[bD2 e,aac];rw[bD1 e,aaa])
     rw[B] at this
     exact this g.to
  have:=loop l.length 0 none 0 aG.zero h FQ FW (by simpa using vC (enc:=aG.enc) (W:=9) (e:=174) g);simpa using this
 by_cases t:w.tmod (l.length:Int)<0
 .refine bF (cS t<|bW<|aC<|aA<|ai p g rfl<|dB ?_);have e:w.tmod (l.length:Int)+(l.length:Int)=(k:Int):=by
   rw[r];rw[Int.tmod_eq_emod] at t ⊢;split at t;omega;rename_i F;rw[bD1 F];simp
  refine aad ?_
  rw[e]
  exact cT (cs:=aG.zero.enc) g fun q h g=>aC<|aA<|ai p g rfl<|dB<|v L' h q g.to
 .refine bF (bD t<|bW ?_);have e:w.tmod (l.length:Int)=(k:Int):=by
   rw[r];rw[Int.tmod_eq_emod] at t ⊢;split at t;rename_i F;rw[bD2 F];simp;omega
  rw[e]
  exact cT (cs:=aG.zero.enc) g fun q h g=>aC<|aA<|ai p g rfl<|dB<|v L' h q g.to
def uj {l:IT} (hb:l.length<=1000) (d:Hs G h L) [m:dZ (rT C p) L l L'] (j:∀q g,Hs G g (rT C q l::rT C p l::L')->Q (JM q) g):JL 174 [JM p] h Q:=by
 have⟨a,c,d⟩:=Hx<|m.of d;refine cW<|dN<|cY<|bI d fun r h d=>aC<|aA<|ai p d rfl<|aC<|aA<|ai p d rfl<|Ez (a:=a) (c:=c) (l:=l) FQ d fun e f h d=>?_;refine aZ (c:=[I C.eR,.slice e l.length f]) rfl<|Gw (i:=10) (r:=r) d rfl rfl fun q h d=>dT eG<|dT (aC eG)<|dT (aA eG)<|dT (ai p d rfl lG)<|j _ _ ?_;have d:Hs G h (aK p 0 [I C.eR,.slice a l.length c]::zX a c l::aK q 0 [I C.eR,.slice e l.length f]::zX e f l::L'):=d.to;exact(tK<|show Hs G h (aK q 0 [I C.eR,.slice e l.length f]::zX e f l::rT C p l::L') from(tK d).to).to
def vnR (q:Nat) (l:IT):HP:=Cr fun x:FM×Nat=>sp [aK q 0 [.slice x.1 l.length x.2],zX x.1 x.2 l]
def aGu {l:IT} (b:Hs G h L) [m:dZ (zX a c) L l L'] (e:∀q d,Hs G d (vnR q l::L')->Q (.func (.func 335) #[] #[JM q]) d):JL 302 [.slice a l.length c] h Q:=by
 refine cW<|fB (m.of b) fun q h b=>e q h ?_;exact Hs.Cq (A:=fun x:FM×Nat=>sp [aK q 0 [.slice x.1 l.length x.2],zX x.1 x.2 l]) (a,c) b.F6
def aWx {l:IT} (hb:l.length<=100000):Yds Pr K G 335 [] [JM q] (vnR q l) (l.map fun n=>[.agg ⟨n.enc⟩]):=by
 intro k J y L h Q d D u w;have⟨⟨a,c⟩,d⟩:=d.Cc;have d:=d.A7;have g:∀{h:AH} {M:IU},Hs G h (aK q 0 [.slice a l.length c]::zX a c l::M)->Hs G h (vnR q l::M):=fun d=>Hs.Cq (A:=fun x:FM×Nat=>sp [aK q 0 [.slice x.1 l.length x.2],zX x.1 x.2 l]) (a,c) d.F6;refine cW<|ai q d rfl<|dB ?_;have loop:∀(f i:Nat) (h:AH),i+f=l.length->Hs G h (aK q 0 [.slice a l.length c]::zX a c l::k ((l.drop i).map fun n=>[.agg ⟨n.enc⟩])::L)->Dd 335 1 [] Q [y,.slice a l.length c,I l.length,I i] h:=by
  intro f;induction f with
  |zero=>
   intro i h z d;rw[eo FQ] at d;exact bW (bF<|aab<|u _ _<|g d)
  |succ f E=>
   intro i h z d;have⟨x,hx,hd⟩:=sR (l:=l) (i:=i) FQ;rw[hd,k7] at d;refine bW<|bF<|aae<|bW<|yX (l:=l) (a:=a) (c:=c) (enc:=aG.enc) (e:=174) d FV FQ HO<|cT d fun r h d=>an (b:=r) d fun h d=>am r d (l:=x.enc) rfl rfl ?_;refine(D _ _ h _<|d.bE<|k ([.agg ⟨x.enc⟩]::((l.drop<|i+1).map fun n=>[.agg ⟨n.enc⟩]))).mono fun v t B=>?_;rcases B with⟨rfl,j⟩|⟨rfl,j⟩;exact cZ<|cY<|bW<|aad<|E (i+1) t FQ j.to;exact cZ<|gA<|w _ _<|g j.to
 exact loop l.length 0 h FQ (by rwa [ll])
def aDl {l:IT} (hb:l.length<=1000) (d:Hs G h L) [m:dZ (rT C p) L l L'] (j:∀q e,Hs G e (vnR q l::rT C p l::L')->Q (.func (.func 335) #[] #[JM q]) e):JL 238 [JM p] h Q:=by
 have⟨a,c,d⟩:=Hx<|m.of d;refine cW<|dN<|cY<|aC<|aA<|ai p d rfl<|Ez (a:=a) (c:=c) (l:=l) FQ d fun f g h d=>aGu (a:=f) (c:=g) (l:=l) d fun q h d=>j q h ?_;have d:Hs G h (aK p 0 [I C.eR,.slice a l.length c]::zX a c l::vnR q l::L'):=d.to;exact(tK d).qS
end Go.Proofs.Z
namespace Go.Proofs.Z
open Go.Hm Go.At Go.Mc Go.Nt
variable {F:eO}
section
def aZ7 {k:Nat} (h:1<=k/\k<14):∃a,Jd k=1::a:=by
 rcases k14 h.2 with rfl|rfl|rfl|rfl|rfl|rfl|rfl|rfl|rfl|rfl|rfl|rfl|rfl|rfl;omega;all_goals exact⟨_,rfl⟩
def aI2 {C:bQ} {n:aG} (h:gG C n=0):Nv n.kind/\0<=n.core/\n.core<C.aB:=by
 unfold gG at h;split at h;rename_i b;split at h;split at h;rename_i d;refine⟨b,?_⟩;unfold Nv at b;obtain⟨g,e⟩:=aZ7 (k:=n.kind.toNat) FQ;rw[e] at d;have a:=d.1;unfold jM at a;split at a;rename_i f;exact f;cases a;cases h;cases h;cases h
def aK4 {k:Nat} (h:k<14):0<=Xf k/\Xf k<4:=by
 rcases k14 h with rfl|rfl|rfl|rfl|rfl|rfl|rfl|rfl|rfl|rfl|rfl|rfl|rfl|rfl<;>decide
theorem xT {n:aG} (h:Nv n.kind):cQ n<4/\Xf n.kind.toNat=(cQ n:Int):=by
 unfold Nv at h;have:=aK4 (k:=n.kind.toNat) FQ;unfold cQ;omega
def Sc {α:Type} {g:Nat->Value} (d:j<n):bM ((List.range n).map g) j [v]=(List.range n).map fun k=>if k=j then v else g k:=by
 rw[<-tP _ _ _ FX];apply ri;intro i;unfold eB;by_cases h:i<j;rw[eh,tb FX,AV h,k9,k9];by_cases a:i<n;rw[qv a];simp;intro e;omega;omega;rw[eh,p4 FX];have f:min j n=j:=FQ
 simp only[oH,k6,List.length_range,f];by_cases b:i=j;subst b;rw[tb FW,BZ,k9,qv d];simp;rw[p4<|by rw[AA];omega,BJ,AA,show j+1+(i - j - 1)=i by omega,k9,k9];by_cases a:i<n;rw[qv a];simp[b];rw[sr FX];rfl
variable {G:Bg} {h:AH} {C:bQ}
def oC (C:bQ) (pl:Nat->Nat):FJ:=C.enc++(List.range 16).map fun k=>if k<4*C.aB.toNat then JM (pl k) else .pointer none
def aQh {k:Nat} (a:k<16):(oC C pl)[7+k]?=some (if k<4*C.aB.toNat then JM (pl k) else .pointer none):=by
 unfold oC;rw[p4<|by simp[bQ.enc]];simp[bQ.enc,qv a]
abbrev vU (C:bQ) (pl:Nat->Nat) (F:eO) (k:Nat):HP:=rT C (pl k)<|F (k/4)<|k % 4
def sI (C:bQ) (f:Nat) (F:eO):HP:=Cr fun pl:Nat->Nat=>sp [aK f 0<|oC C pl,fH (4*C.aB.toNat)<|vU C pl F]
def Ds (a:Hs G h (sI C f F::L)):∃pl,Hs G h (aK f 0 (oC C pl)::fH (4*C.aB.toNat) (vU C pl F)::L):=by
 obtain⟨pl,a⟩:=a.Cc;exact⟨pl,a.A7⟩
def rX (a:Hs G h (aK f 0 (oC C pl)::fH (4*C.aB.toNat) (vU C pl F)::L)):Hs G h (sI C f F::L):=
 Hs.Cq (A:=fun pl:Nat->Nat=>sp [aK f 0<|oC C pl,fH (4*C.aB.toNat)<|vU C pl F]) pl a.F6
def x7 (C:bQ) (pl:Nat->Nat) (F:eO) (k:Nat):HP:=sp<|((List.range<|4*C.aB.toNat).erase k).map<|vU C pl F
def Mx {k:Nat} (a:k<4*C.aB.toNat) (b:Hs G h (fH (4*C.aB.toNat) (vU C pl F)::L)):Hs G h (rT C (pl k) (F (k/4)<|k % 4)::x7 C pl F k::L):=b.pI k a
def aLp {k:Nat} {l:IT}:(F.set (k/4) (k % 4) l) (j/4) (j % 4)=if j=k then l else F (j/4) (j % 4):=by
 unfold eO.set;by_cases e:j=k;subst e;simp;rw[bD1 e,aaa]
def U7 {k:Nat} {l:IT} (b:k<4*C.aB.toNat) (d:Hs G h (rT C (pl k) l::x7 C pl F k::L)):Hs G h (fH (4*C.aB.toNat) (vU C pl<|F.set (k/4) (k % 4) l)::L):=by
 refine Hs.aH0 (i:=k) (f:=vU C pl F) (g:=vU C pl<|F.set (k/4) (k % 4) l) b (fun j a=>?_) ?_;unfold vU;rw[aLp,bD1 a];have e:vU C pl (F.set (k/4) (k % 4) l) k=rT C (pl k) l:=by unfold vU;rw[aLp,bD2 rfl]
 rw[e];exact d
def D2 {y:Int} (hC:C.Ok) (d:Hs G h L) [m:dZ (aK f 0) L (oC C pl) L'] (a:Q (if(0<=x/\x<C.aB)/\(0<=y/\y<4) then JM (pl<|x.toNat*4+y.toNat) else .pointer none) h):JL 175 [JM f,I x,I y] h Q:=by
 have l:=hC.1;refine cW<|dN<|cY<|bF<|bG (fun e=>?_) fun e=>aC<|aA<|aA<|ai f d rfl<|fV<|bG (fun g=>?_) fun g=>bF<|bG (fun j=>?_) fun j=>fV<|bG (fun k=>?_) fun k=>?_;rw[aaa] at a;exact a;rw[aaa] at a;exact a;rw[aaa] at a;exact a;rw[aaa] at a;exact a;rw[aac] at a;refine aC<|aA<|fQ FQ FQ<|fQ FQ FQ<|ai f d (v:=JM<|pl<|x.toNat*4+y.toNat) ?_ a;rw[show 0+7+x.toNat*4+y.toNat*1=7+(x.toNat*4+y.toNat) by omega,aQh FQ,aac]
def aLy {x:Nat} (hC:C.Ok) (j:∀c w,(F c w).length<=1000) (o:(x:Int)<C.aB) (q:y<4) (a:Hs G h (aK f 0 (oC C pl)::fH (4*C.aB.toNat) (vU C pl F)::L)) (k:∀g,Hs G g (aK f 0 (oC C pl)::fH (4*C.aB.toNat) (vU C pl F)::L)->Q (I<|C.eR - (F x y).length) g):JL 194 [JM f,I x,I y] h Q:=by
 refine cW<|D2 (C:=C) (pl:=pl) hC a ?_;rw[aac];have b:x*4+y<4*C.aB.toNat:=FQ
 have a:=Mx b a.qS;rw[show((x:Int)).toNat*4+((y:Int)).toNat=x*4+y by omega];refine aAn (C:=C) (l:=F ((x*4+y)/4)<|(x*4+y) % 4) hC.2.2.2.2.1 (j _ _) a fun h a=>?_;have d:(x*4+y)/4=x/\(x*4+y) % 4=y:=FQ
 rw[d.1,d.2];refine(k h) ?_;have a:=U7 b a;have e2:F.set ((x*4+y)/4) ((x*4+y) % 4) (F ((x*4+y)/4)<|(x*4+y) % 4)=F:=by
  funext c w;unfold eO.set;split;rename_i e;rw[e.1,e.2];rfl
 rw[e2] at a;exact a.qS
def De (F a:eO):FJ:=(List.range 16).map fun k=>I<|((a (k/4)<|k % 4).length:Int) - (F (k/4)<|k % 4).length
def aL5 {a:eO} {x:Nat} (d:x<4) (e:y<4):(De F a)[x*4+y]?=some (I<|((a x y).length:Int) - (F x y).length):=by
 unfold De;rw[k9,qv FQ];have b:(x*4+y)/4=x/\(x*4+y) % 4=y:=FQ
 simp[b.1,b.2]
def aKe {a:eO} {n:aG} {x:Nat} (d:n.core.toNat=x) (g:cQ n=y) (f:x<4) (j:y<4):bM (De F a) (x*4+y) [I<|((a x y).length:Int) - (F x y).length+1]=De F (a.A9 n):=by
 unfold De;rw[Sc (α:=Nat) FQ];refine v7 fun k l=>?_;unfold eO.A9;rw[d,g];by_cases e:k=x*4+y;subst e;have b:(x*4+y)/4=x/\(x*4+y) % 4=y:=FQ
 rw[bD2 rfl,b.1,b.2];unfold eO.set;simp;omega;rw[bD1 e];unfold eO.set;rw[aaa]
end
variable {G:Bg} {h:AH} {C:bQ}
def aDq {d:Int} {n:aG} {l:IT}:eO.sE d F (n::l)=if((F n.core.toNat<|cQ n).length:Int)<d then eO.sE d (F.A9 n) l else none:=rfl
def aEi {n:aG} {l:IT}:aT C (n::l)=if gG C n≠0 then gG C n else aT C l:=rfl
def od {l:IT} (h:aT C l=0):∀n∈l,gG C n=0:=by
 induction l with
 |nil=>rintro n ⟨⟩
 |cons x l d=>
  rw[aT] at h;split at h;rename_i b;exact absurd h b;intro n a;rcases e6.1 a with rfl|a;omega;exact d h n a
def sS {n:aG} (hC:C.Ok) (j:gG C n=0) (k:((F n.core.toNat<|cQ n).length:Int)<C.eR)
  (a:Hs G h (zX a2 c2 [n]::aK f 0 (oC C pl)::fH (4*C.aB.toNat) (vU C pl F)::L)) (g:∀e,Hs G e (aK f 0 (oC C pl)::fH (4*C.aB.toNat) (vU C pl<|F.A9 n)::L)->Q (I 0) e):
  JL 195 [JM<|pl<|n.core.toNat*4+cQ n,.slice a2 1 c2] h Q:=by
 have⟨hk1,hk2⟩:=aI2 j
 have o:=(xT hk1).1
 have b:n.core.toNat*4+cQ n<4*C.aB.toNat:=FQ
 have d:(n.core.toNat*4+cQ n)/4=n.core.toNat/\(n.core.toNat*4+cQ n) % 4=cQ n:=FQ
 have a:=Mx b<|a.bE<|fH (4*C.aB.toNat)<|vU C pl F
 rw[d.1,d.2] at a
 refine aOw (C:=C) (l:=F n.core.toNat<|cQ n) (n:=n) hC.2.2.2.2.1 k a fun h a=>?_
 have a:Hs G h (rT C (pl<|n.core.toNat*4+cQ n) (F n.core.toNat (cQ n)++[n])::x7 C pl F (n.core.toNat*4+cQ n)::aK f 0 (oC C pl)::L):=a.to
 have a:=U7 b a
 rw[d.1,d.2] at a
 exact g _ a.qS
def xM {l:IT} (hC:C.Ok) (hd:∀c w,(F c w).length<=500) (hl:l.length<=100) (P:Ob G 3 El) (α:Ob G 0 iM) (d:Hs G h L) [m:dZ (sI C f) L F L'] [m2:fZ (zX a c l) L' M]
  (O:∀h',Hs G h' (sI C f (eO.gJ C F l).1::zX a c l::M)->Q (I (eO.gJ C F l).2) h'):JL 124 [JM f,.slice a l.length c] h Q:=by
 have hc:=hC.1
 have ε:=hC.2.2.2.2.1
 have⟨pl,d⟩:=Ds<|m.of d
 have d:=d.cI<|((m2.cI.cons _).cons _).trans<|((List.Perm.swap _ _ _).cons _).trans<|List.Perm.swap _ _ _
 rw[eO.gJ] at O
 have H:∀{h:AH} {L2:IU} {B:eO},[F5 L2 M]->Hs G h (zX a c l::aK f 0 (oC C pl)::fH (4*C.aB.toNat) (vU C pl B)::L2)->Hs G h (sI C f B::zX a c l::M):=by
  intro h L2 B _ d;have d:=d.dC (aK f 0<|oC C pl)<|fH (4*C.aB.toNat)<|vU C pl B;exact(rX d).to
 have V:∀(k i:Nat) (g W:eO) (L2:IU) (h:AH),[F5 L2 M]->i+k=l.length->aT C l=0->eO.sE C.eR F l=some W->eO.sE C.eR g (l.drop i)=some W->Hs G h (zX a c l::aK f 0 (oC C pl)::fH (4*C.aB.toNat) (vU C pl g)::L2)->
   Dd 124 10 [] Q [JM f,.slice a l.length c,I l.length,I i] h:=by
  intro k
  induction k with
  |zero=>
   intro i g W L2 h _ Y q j E d
   rw[eo FQ] at E
   cases E
   rw[aaa,j] at O
   exact bW (bF<|aab<|O _<|H d)
  |succ k ih=>
   intro i g W L2 h _ Y q j E d
   have⟨x,hx,hdr⟩:=sR (l:=l) (i:=i) FQ
   have z:=od q x<|kt hx
   have⟨hk1,hk2⟩:=aI2 z
   have⟨hl1,hl2⟩:=xT hk1
   rw[hdr] at E
   unfold eO.sE at E
   split at E
   .rename_i R;refine bW<|bF<|aae<|bW<|yX (l:=l) (a:=a) (c:=c) (enc:=aG.enc) (e:=174) d FV FQ HO<|cT d fun t h d=>an (b:=t) d fun h d=>aA<|ai t d rfl<|N.aA5 P d ?_;rw[bD2 hk1,hl2];refine aN rfl<|aN rfl<|bZ<|aab<|bW<|bI d fun r1 h0 v=>aA<|ai t v rfl<|D2 (C:=C) (pl:=pl) hC v ?_;rw[aac];refine am t v (l:=x.enc) rfl rfl<|aZ (c:=x.enc) rfl<|oR (r:=r1) (i:=6) (N:=9) (D:=[]) v rfl rfl rfl rfl rfl fun a2 h d=>?_;have d:=sG d;have d:Hs G h (zX (some a2) 1 [x]::aK f 0 (oC C pl)::fH (4*C.aB.toNat) (vU C pl g)::zX a c l::L2):=d.to;refine sS (f:=f) hC z R d fun h d=>dT (am t v (l:=x.enc) rfl rfl<|xL ?_)<|bZ<|aab<|bW<|aad<|ih (i+1) (g.A9 x) W L2 h FQ q j E d.to;simp[aG.enc,wM]
   .cases E
 have U:∀(k i p:Nat) (g:eO) (L2:IU) (h:AH),[F5 L2 M]->i+k=l.length->aT C l=0->eO.sE C.eR F l=eO.sE C.eR g (l.drop i)->(∀c w,(g c w).length<=500+i)->Hs G h (aK p 0 (De F g)::zX a c l::aK f 0 (oC C pl)::fH (4*C.aB.toNat) (vU C pl F)::L2)->
   Dd 124 6 [] Q [JM f,.slice a l.length c,JM p,.slice a l.length c,I l.length,I i] h:=by
  intro k
  induction k with
  |zero=>
   intro i p g L2 h _ Y q j u d
   rw[eo FQ] at j
   refine bW<|bF<|aab<|bW<|dB ?_
   exact V l.length 0 F g L2 h FQ q j (by rwa [ll]) d.tail
  |succ k ih=>
   intro i p g L2 h _ Y q j u d
   have⟨x,hx,hdr⟩:=sR (l:=l) (i:=i) FQ
   have z:=od q x<|kt hx
   have⟨hk1,hk2⟩:=aI2 z
   have⟨hl1,hl2⟩:=xT hk1
   have⟨y,hy⟩:∃y:Nat,x.core=(y:Int):=⟨x.core.toNat,FQ⟩
   have S:x.core.toNat=y:=FQ
   rw[hdr,aDq,S] at j
   have γ:=u y<|cQ x
   have δ:=hd y<|cQ x
   refine bW<|bF<|aae<|bW<|yX (l:=l) (a:=a) (c:=c) (enc:=aG.enc) (e:=174) d FV FQ HO<|cT d fun t h d=>an (b:=t) d fun h d=>aA<|ai t d rfl<|N.aA5 P d ?_
   rw[bD2 hk1,hl2]
   have A:x.enc[0+1]?=some (I (y:Int)):=by rw[<-hy];rfl
   have J:∀{B:eO},(De F B)[0+y*4+cQ x*1]?=some (I<|((B y<|cQ x).length:Int) - (F y<|cQ x).length):=by
    intro B;rw[show 0+y*4+cQ x*1=y*4+cQ x by omega];exact aL5 FQ hl1
   have Z:bM (De F g) (0+y*4+cQ x*1) [I<|((g y<|cQ x).length:Int) - (F y<|cQ x).length+1]=De F (g.A9 x):=by
    rw[show 0+y*4+cQ x*1=y*4+cQ x by omega];exact aKe S rfl FQ hl1
   have ζ:(De F g).length=16:=by simp[De]
   refine aN rfl<|aN rfl<|bZ<|aab<|bW<|bI d fun r1 h d=>aA<|ai t d A<|kP FQ<|kP hl1<|ai p d J<|aad<|kP FQ<|kP hl1 ?_
   refine cG (b:=p) (o:=0) d rfl (by exact mn FQ) rfl HR fun h d=>?_
   rw[Z] at d
   refine bI d fun r2 h d=>aA<|ai t d A<|kP FQ<|kP hl1<|ai p d J<|aA<|ai t d A ?_
   have β:((g.A9 x) y<|cQ x).length=(g y<|cQ x).length+1:=by unfold eO.A9 eO.set;rw[S,bD2 ⟨rfl,rfl⟩,dd];rfl
   have d:=d.dC (aK f 0<|oC C pl)<|fH (4*C.aB.toNat)<|vU C pl F
   refine aLy (C:=C) (F:=F) (x:=y) (y:=cQ x) hC (fun c w=>by have:=hd c w;omega) FQ hl1 d fun h d=>qA ?_
   refine dT (aA eG)<|dT (ai t d A lG)<|dT lG<|dT (kP FQ eG)<|dT (kP hl1 eG)<|dT (ai p d J lG) ?_
   rw[β]
   refine bG (fun X=>?_) fun X=>?_
   .rw[aaa] at j;rw[aaa,j] at O;apply O _;have d:=d.dC (aK f 0<|oC C pl)<|fH (4*C.aB.toNat)<|vU C pl F;exact(rX d).to
   .rw[aac] at j;refine bW<|aad<|ih (i+1) p (g.A9 x) L2 h FQ q j (fun c w=>?_) d.to;have h2:((g.A9 x) c w).length<=(g c w).length+1:=by
     unfold eO.A9 eO.set;split;rename_i e;rw[e.1,e.2];simp;omega
    have:=u c w
    omega
 have T:∀(k i:Nat) (h:AH),i+k=l.length->aT C l=aT C (l.drop i)->Hs G h (zX a c l::aK f 0 (oC C pl)::fH (4*C.aB.toNat) (vU C pl F)::M)->
   Dd 124 2 [] Q [JM f,.slice a l.length c,.slice a l.length c,I l.length,I i] h:=by
  intro k
  induction k with
  |zero=>
   intro i h Y j d
   rw[eo FQ] at j
   refine bW<|bF<|aab<|bW<|cT d fun p h d=>dB ?_
   apply U l.length 0 p F M h FQ j (by rw[ll]) fun c w=>by have:=hd c w;omega
   have e:De F F=[I 0,I 0,I 0,I 0,I 0,I 0,I 0,I 0,I 0,I 0,I 0,I 0,I 0,I 0,I 0,I 0]:=by
    rw[De];simp[Int.sub_self];rfl
   rwa [e]
  |succ k ih=>
   intro i h Y j d
   have⟨x,hx,hdr⟩:=sR (l:=l) (i:=i) FQ
   rw[hdr,aEi] at j
   refine bW<|bF<|aae<|bW<|yX (l:=l) (a:=a) (c:=c) (enc:=aG.enc) (e:=174) d FV FQ HO<|cT d fun t h d=>an (b:=t) d fun h d=>bI d fun r1 h d=>aC<|aA<|am f d (l:=C.enc) rfl rfl<|am t d (l:=x.enc) rfl rfl ?_
   refine N.aSi (C:=C) (n:=x) P α d fun h d=>bZ<|bG (fun X=>?_) fun X=>?_
   .rw[bD2 X] at j;rw[bD2<|by rwa [j],j] at O;exact O _<|H (L2:=aK t 0 x.enc::M) d.to
   .rw[bD1 X] at j;exact bW<|aad<|ih (i+1) h FQ j d.to
 refine cW<|dN<|cY<|bW<|dB ?_
 exact T l.length 0 h FQ (by rw[ll]) d
end Go.Proofs.Z
end
namespace Go.Proofs.Z
open Go.Hm Go.At Go.Mc Go.Nt
variable {F:eO}
section
def Nc (a:k (.bool true)):cC (Yn .eql (.pointer none)<|.pointer none) k:=⟨_,rfl,a⟩
attribute [local irreducible] cC Br vZ yU Ar Jj rJ Ce qL dj lQ sJ wV wJ vF rB A6 Yn Wh W3 Wi Wj gf qN tZ nJ mM Dv O9 pX Vx cn E2 Cl F3 ga zF yL oI jF eX dO
variable {G:Bg} {h:AH} {C:bQ}
def su {y:Int} (hC:C.Ok) (u:∀c w,(F c w).length<=500) (a:Hs G h L) [m:dZ (sI C f) L F L']
  (d:∀g,Hs G g (sI C f (eO.take C F x y w).1::L')->Q (.tuple ⟨[.agg ⟨(eO.take C F x y w).2.1.enc⟩,I (eO.take C F x y w).2.2]⟩) g):JL 122 [JM f,I x,I y,I w] h Q:=by
 have z:=hC.1
 have⟨pl,a⟩:=Ds<|m.of a
 rw[eO.take] at d
 refine cW<|cT (cs:=aG.zero.enc) a fun p h a=>dN<|cY<|bW<|D2 (C:=C) (pl:=pl) hC a ?_
 by_cases q:(0<=x/\x<C.aB)/\(0<=y/\y<4)
 .rw[aaa] at d;rw[bD2 q];refine dN<|cY ?_;have j:x.toNat*4+y.toNat<4*C.aB.toNat:=FQ
  have k:(x.toNat*4+y.toNat)/4=x.toNat/\(x.toNat*4+y.toNat) % 4=y.toNat:=FQ
  have a:=Mx j<|a.bE<|fH (4*C.aB.toNat)<|vU C pl F
  rw[k.1,k.2] at a
  have sL:∀{h:AH} (l:IT) (n:aG) (e:Int),Hs G h (rT C (pl<|x.toNat*4+y.toNat) l::x7 C pl F (x.toNat*4+y.toNat)::aK p 0 aG.zero.enc::aK f 0 (oC C pl)::L')->(∀g,Hs G g (sI C f (F.set x.toNat y.toNat l)::L')->Q (.tuple ⟨[.agg ⟨n.enc⟩,I e]⟩) g)->
    cC (wV 0<|.tuple ⟨[.agg ⟨n.enc⟩,I e]⟩) fun v3=>cC (wV 1<|.tuple ⟨[.agg ⟨n.enc⟩,I e]⟩) fun v4=>cC (Ar h 9 (JM p) v3) fun t=>cC (yU t 9<|JM p) fun v6=>Q (.tuple ⟨[v6,v4]⟩) t:=by
   intro h l n e a v
   refine aN rfl<|aN rfl<|an (b:=p) a fun h a=>am p a (l:=n.enc) rfl rfl<|v _ ?_
   have a:=U7 j<|a.dC (rT C (pl<|x.toNat*4+y.toNat) l)<|x7 C pl F<|x.toNat*4+y.toNat
   rw[k.1,k.2] at a
   have a:=a.dC (aK f 0<|oC C pl)<|fH (4*C.aB.toNat)<|vU C pl<|F.set x.toNat y.toNat l
   exact(rX a).to
  refine M7 (C:=C) (l:=F x.toNat y.toNat) (by have:=u x.toNat y.toNat;omega) a (fun r h a=>?_) fun r h a=>?_
  .rw[bD2 r] at d;refine sL _ _ _ a fun h a=>d _ ?_;have e2:F.set x.toNat y.toNat (F x.toNat y.toNat)=F:=by
    funext c w;rw[eO.set];split;rename_i e;rw[e.1,e.2];rfl
   rwa [e2] at a
  .rw[bD1 r] at d;exact sL _ _ _ a d
 .rw[bD2 q] at d;rw[bD1 q];refine Nc<|gA<|aZ (c:=aG.zero.enc) rfl ?_;refine an (b:=p) a fun h a=>?_;refine am p a (l:=aG.zero.enc) rfl rfl<|d _ ?_;exact rX a.tail
def po {x:Nat} (hC:C.Ok) (j:∀c w,(F c w).length<=500) (r:(x:Int)<C.aB) (t:y<4) (a:Hs G h L) [m:dZ (sI C f) L F L']
  (k:∀q g,Hs G g (vnR q (F x y)::sI C f F::L')->Q (.func (.func 335) #[] #[JM q]) g):JL 156 [JM f,I x,I y] h Q:=by
 have o:=hC.1
 have⟨pl,a⟩:=Ds<|m.of a
 refine cW<|D2 (C:=C) (pl:=pl) hC a ?_
 rw[aac]
 have b:x*4+y<4*C.aB.toNat:=FQ
 have d:(x*4+y)/4=x/\(x*4+y) % 4=y:=FQ
 have a:=Mx b a.qS
 rw[show((x:Int)).toNat*4+((y:Int)).toNat=x*4+y by omega]
 rw[d.1,d.2] at a
 refine aDl (C:=C) (l:=F x y) (by have:=j x y;omega) a fun q h a=>k q _ ?_
 have a:=U7 b<|a.dC (rT C (pl<|x*4+y)<|F x y)<|x7 C pl F<|x*4+y
 rw[d.1,d.2] at a
 have e2:F.set x y (F x y)=F:=by
  funext c w;rw[eO.set];split;rename_i e;rw[e.1,e.2];rfl
 rw[e2] at a
 exact(rX<|a.dC (aK f 0<|oC C pl)<|fH (4*C.aB.toNat)<|vU C pl F).to
def Ba (C:bQ) (pl:Nat->Nat) (n:Nat):FJ:=C.enc++(List.range 16).map fun k=>if k<n then JM (pl k) else .pointer none
def pg (d:n<16):bM (Ba C pl n) (7+n) [JM p]=Ba C (bA pl n p) (n+1):=by
 unfold Ba;have e:∀(A B:FJ) (j:Nat) (v:FJ),j+v.length<=B.length->bM (A++B) (A.length+j) v=A++bM B j v:=by
  intro A;induction A with
  |nil=>intro B j v b;simp
  |cons x A f=>intro B j v b;rw[gg,js,show A.length+1+j=(A.length+j)+1 by omega];show x::bM (A++B) (A.length+j) v=_;rw[f B j v b];rfl
 rw[show 7+n=C.enc.length+n by simp[bQ.enc],e _ _ _ _ FX,Sc (α:=Nat) d];congr 1;refine v7 fun k _=>?_;by_cases a:k=n;subst a;rw[bD2 rfl,aac,dI];rw[bD1 a];split;rw[aac,bO a];rw[aaa]
def ji:(Ba C pl n).length=23:=by rw[Ba];simp[bQ.enc]
def aAq (a:Hs G h (rT C p (F (n/4)<|n % 4)::fH n (vU C pl F)::L)):Hs G h (fH (n+1) (vU C (bA pl n p) F)::L):=by
 apply Hs.jh;have b:vU C (bA pl n p) F n=rT C p (F (n/4)<|n % 4):=by rw[vU];rw[dI]
 rw[b];have a:=a.qS;exact(zN (g:=vU C (bA pl n p) F) (fun j d=>by rw[vU,bO FQ]) a).qS
theorem aC9 (hC:C.Ok) (g:Ob G 0 iM) (a:Hs G h L) (u:∀f t,Hs G t (sI C f (fun _ _=>[])::L)->Q (.tuple ⟨[JM f,I 0]⟩) t):JL 46 [.agg ⟨C.enc⟩] h Q:=by
 have y:=hC.1;refine cW<|fB a fun p h a=>am p a (l:=C.enc) rfl rfl<|uG g a fun h a=>?_;rw[bD2 hC];refine bZ<|aab<|bW<|am p a (l:=C.enc) rfl rfl<|aZ (c:=Ba C (fun _=>0) 0) rfl<|fB a fun f h a=>aA<|ai p a rfl ?_;have inner:∀(k w x:Nat) (pl:Nat->Nat) (h:AH),w+k=4->(x:Int)<C.aB->(∀(pl:Nat->Nat) (h:AH),Hs G h (aK f 0 (Ba C pl<|4*x+4)::aK p 0 C.enc::fH (4*x+4) (vU C pl fun _ _=>[])::L)->Dd 46 6 [] Q [JM p,JM f,I C.aB,I x] h)->
   Hs G h (aK f 0 (Ba C pl<|4*x+w)::aK p 0 C.enc::fH (4*x+w) (vU C pl fun _ _=>[])::L)->Dd 46 4 [] Q [JM p,JM f,I x,I C.aB,I x,I w] h:=by
  intro k
  induction k with
  |zero=>
   intro w x pl h v d j a
   have:w=4:=FQ
   subst this
   exact bW (bF<|aab<|j pl h a)
  |succ k r=>
   intro w x pl h v d j a
   refine bW<|bF<|aae<|bW<|aA<|ai p a rfl<|aFm hC a fun q h a=>aN rfl<|aN rfl<|bZ<|aab<|bW<|aC<|aA<|kP FQ<|kP FQ ?_
   refine cG (b:=f) (o:=0) a rfl (by rw[ji];exact mn FX) rfl HR fun h a=>aad ?_
   rw[show 0+7+x*4+w*1=7+(4*x+w) by omega,pg FQ] at a
   apply r (w+1) x (bA pl (4*x+w) q) h FQ d j
   have a:=a.dC (rT C q [])<|fH (4*x+w)<|vU C pl fun _ _=>[]
   exact(show Hs G h (aK f 0 (Ba C (bA pl (4*x+w) q)<|4*x+(w+1))::aK p 0 C.enc::fH (4*x+(w+1)) (vU C (bA pl (4*x+w) q) fun _ _=>[])::L) from(aAq (F:=fun _ _=>[]) a).to)
 have outer:∀(k x:Nat) (pl:Nat->Nat) (h:AH),x+k=C.aB.toNat->Hs G h (aK f 0 (Ba C pl<|4*x)::aK p 0 C.enc::fH (4*x) (vU C pl fun _ _=>[])::L)->Dd 46 2 [] Q [JM p,JM f,I C.aB,I x] h:=by
  intro k;induction k with
  |zero=>
   intro x pl h d a;refine bW<|bF<|aab<|u f h ?_;have e:x=C.aB.toNat:=FQ
   subst e;have a:Hs G h (aK f 0 (oC C pl)::aK p 0 C.enc::fH (4*C.aB.toNat) (vU C pl fun _ _=>[])::L):=a;exact(rX<|show Hs G h (aK f 0 (oC C pl)::fH (4*C.aB.toNat) (vU C pl fun _ _=>[])::L) from a.to)
  |succ k r=>
   intro x pl h d a;refine bW<|bF<|aae<|bW ?_;refine inner 4 0 x pl h FQ FQ (fun pl h a=>bW<|aad<|r (x+1) pl h FQ ?_) a;exact(show Hs G h (aK f 0 (Ba C pl<|4*(x+1))::aK p 0 C.enc::fH (4*(x+1)) (vU C pl fun _ _=>[])::L) from by rwa [show 4*(x+1)=4*x+4 by omega])
 have a:=Hs.kh (f:=vU C (fun _=>0) fun _ _=>[]) a;exact outer C.aB.toNat 0 (fun _=>0) h FQ<|show Hs G h (aK f 0 (Ba C (fun _=>0) 0)::aK p 0 C.enc::fH 0 (vU C (fun _=>0) fun _ _=>[])::L) from a.to
end
def aV6 {a:Nat} {l m:FJ} (f:i<n) (d:i*a+a<=l.length) (e:(l.drop<|i*a).take a=m) (b:k (.agg ⟨m⟩)):cC (cn n a (.agg ⟨l⟩)<|I i) k:=
 ⟨.agg ⟨m⟩,by unfold cn;simp only;rw[bD2 ⟨FQ,FQ,HY⟩];simp[e],b⟩
attribute [local irreducible] cC Br vZ yU Ar Jj rJ Ce qL dj lQ sJ wV wJ vF rB A6 Yn Wh W3 Wi Wj gf qN tZ nJ mM Dv O9 pX Vx cn E2 Cl F3 ga zF yL oI jF eX dO
variable {G:Bg} {h:AH} {C:bQ}
def qG (C:bQ) (pl:Nat->Nat):FJ:=(List.range 16).map fun k=>if k<4*C.aB.toNat then JM (pl k) else .pointer none
def J5:(qG C pl).length=16:=by simp[qG]
def aKb {x w:Nat} (b:x<4) (a:w<4):(((qG C pl).drop<|x*4).take 4)[w]?=some (if x*4+w<4*C.aB.toNat then JM (pl<|x*4+w) else .pointer none):=by
 rw[AV a,BJ];rw[qG,k9,qv FQ];rfl
def aFf (a:Q (.pointer none) h):JL 174 [.pointer none] h Q:=
 cW (Nc<|gA a)
def aFl (f:n<=j) (a:j<16):bM (Ba C pl n) (7+j) [.pointer none]=Ba C pl n:=by
 rw[Ba];have e:∀(A B:FJ) (j:Nat) (v:FJ),j+v.length<=B.length->bM (A++B) (A.length+j) v=A++bM B j v:=by
  intro A;induction A with
  |nil=>intro B j v a;simp
  |cons x A d=>intro B j v a;rw[gg,js,show A.length+1+j=(A.length+j)+1 by omega];show x::bM (A++B) (A.length+j) v=_;rw[d B j v a];rfl
 rw[show 7+j=C.enc.length+j by simp[bQ.enc],e _ _ _ _ FX,Sc (α:=Nat) a];congr 1;refine v7 fun k _=>?_;by_cases b:k=j;rw[bD2 b,aaa];rw[bD1 b]
def vp (hC:C.Ok) (S:∀c w,(F c w).length<=500) (a:Hs G h L) [m:dZ (sI C f) L F L'] (U:∀g O,Hs G O (sI C g F::sI C f F::L')->Q (JM g) O):JL 121 [JM f] h Q:=by
 have X:=hC.1;have⟨pl,a⟩:=Ds<|m.of a;refine cW<|dN<|cY<|bW<|aC<|aA<|am f a (l:=C.enc) rfl rfl<|aZ (c:=Ba C (fun _=>0) 0) rfl<|fB a fun g h a=>aC<|aA<|am f a (l:=qG C pl) ?_ J5 ?_;unfold oC qG;rw[show 0+7=C.enc.length by simp[bQ.enc],FF,fm FW];let N:=4*C.aB.toNat;have inner:∀(k w x:Nat) (d:Nat->Nat) (t:IU) (h:AH),[F5 t L']->w+k=4->x<4->(∀(d:Nat->Nat) (h:AH),Hs G h (aK g 0 (Ba C d<|min N<|4*x+4)::fH (min N<|4*x+4) (vU C d F)::aK f 0 (oC C pl)::fH N (vU C pl F)::t)->Dd 121 6 [] Q [JM g,.agg ⟨qG C pl⟩,I x] h)->
   Hs G h (aK g 0 (Ba C d<|min N<|4*x+w)::fH (min N<|4*x+w) (vU C d F)::aK f 0 (oC C pl)::fH N (vU C pl F)::t)->Dd 121 4 [] Q [JM g,I x,.agg ⟨qG C pl⟩,I x,.agg ⟨((qG C pl).drop<|x*4).take 4⟩,I w] h:=by
  intro k
  induction k with
  |zero=>
   intro w x d t h _ V z E a
   have:w=4:=FQ
   subst this
   exact bW (bF<|aab<|E d h a)
  |succ k J=>
   intro w x d t h _ V z E a
   refine bW<|bF<|aae<|bW<|aAf FQ (aKb z FQ)<|bI a fun r h a=>?_
   have sL:∀(v:Value) (y:Nat->Nat) (h:AH),gU v=true->Cv v [v]->bM (Ba C d<|min N<|4*x+w) (7+(4*x+w)) [v]=Ba C y (min N<|4*x+(w+1))->
     Hs G h (aK g 0 (Ba C d<|min N<|4*x+w)::fH (min N<|4*x+(w+1)) (vU C y F)::aK f 0 (oC C pl)::fH N (vU C pl F)::t)->
     cC (sJ<|JM g) fun v4=>cC (lQ 7 v4) fun v5=>cC (tZ 4 4 v5<|I x) fun v6=>cC (tZ 4 1 v6<|I w) fun W=>cC (Ar h 1 W v) fun P=>(wM (JM g) (JM g)=true)/\((wM (I x) (I x)=true)/\((wM (I w) (I w)=true)/\((cC (sJ<|JM g) fun v9=>wM v9 v4=true)/\((cC (lQ 7 v4) fun v10=>wM v10 v5=true)/\((cC (tZ 4 4 v5<|I x) fun v11=>wM v11 v6=true)/\(cC (A6 .add (I w)<|I 1) fun v12=>Dd 121 4 [] Q [JM g,I x,.agg ⟨qG C pl⟩,I x,.agg ⟨((qG C pl).drop<|x*4).take 4⟩,v12] P)))))):=by
    intro v y h H R T a
    refine aC<|aA<|kP z<|kP FQ ?_
    refine cG (b:=g) (o:=0) a rfl (by rw[ji];exact mn FX) (by simp[H]) HR fun h a=>?_
    rw[show 0+7+x*4+w*1=7+(4*x+w) by omega,T] at a
    refine dT eG<|dT lG<|dT lG<|dT (aC eG)<|dT (aA eG)<|dT (kP z eG)<|aad ?_
    exact J (w+1) x y t h FQ z E a
   by_cases B:x*4+w<4*C.aB.toNat
   .rw[bD2 B];have a:=Mx B<|a.bE<|fH N<|vU C pl F;refine uj (C:=C) (l:=F ((x*4+w)/4)<|(x*4+w) % 4) (by have:=S ((x*4+w)/4)<|(x*4+w) % 4;omega) a fun q h a=>?_;have a:=U7 B<|a.dC (rT C (pl<|x*4+w)<|F ((x*4+w)/4)<|(x*4+w) % 4)<|x7 C pl F<|x*4+w;have e2:F.set ((x*4+w)/4) ((x*4+w) % 4) (F ((x*4+w)/4)<|(x*4+w) % 4)=F:=by
     funext c w;rw[eO.set];split;rename_i e;rw[e.1,e.2];rfl
    rw[e2] at a
    have j:min N (4*x+w)=4*x+w:=by show min (4*C.aB.toNat) _=_;omega
    have u:min N (4*x+(w+1))=4*x+w+1:=by show min (4*C.aB.toNat) _=_;omega
    rw[j,show x*4+w=4*x+w by omega] at a
    have a:=a.dC (rT C q<|F ((4*x+w)/4)<|(4*x+w) % 4)<|fH (4*x+w)<|vU C d F
    refine sL (JM q) (bA d (4*x+w) q) h rfl inferInstance ?_ ?_
    .rw[j,u,pg FQ]
    .rw[j,u];exact(aAq a).to
   .rw[bD1 B];have j:min N (4*x+w)=N:=GU
    have u:min N (4*x+(w+1))=N:=GU
    refine aFf<|sL (.pointer none) d h rfl inferInstance ?_ ?_
    .rw[j,u];exact aFl FQ FQ
    .rw[j] at a;rw[j,u];exact a.to
 have outer:∀(k x:Nat) (d:Nat->Nat) (t:IU) (h:AH),[F5 t L']->x+k=4->Hs G h (aK g 0 (Ba C d<|min N<|4*x)::fH (min N<|4*x) (vU C d F)::aK f 0 (oC C pl)::fH N (vU C pl F)::t)->Dd 121 2 [] Q [JM g,.agg ⟨qG C pl⟩,I x] h:=by
  intro k;induction k with
  |zero=>
   intro x d t h _ z a;refine bW<|bF<|aab<|U g h ?_;have j:min N (4*x)=N:=GU
   rw[j] at a;have a:=a;have a:=rX a;have a:=a.dC (aK f 0<|oC C pl)<|fH (4*C.aB.toNat)<|vU C pl F;exact(rX a).to
  |succ k J=>
   intro x d t h _ z a;refine bW (bF<|aae<|bW<|aV6 FQ (by rw[J5];omega) rfl<|cT a fun p h a=>?_);have A:(((qG C pl).drop<|x*4).take 4).length=4:=by rw[oH,q6,J5];omega
   have D:(((qG C pl).drop<|x*4).take 4).all gU=true:=by
    refine ux.2 fun v H=>?_;have:=DW<|List.mem_of_mem_take H;rw[qG] at this;obtain⟨k,_,rfl⟩:=gk.1 this;split<;>rfl
   refine bN (b:=p) a rfl rfl A D fun h a=>am p a (l:=((qG C pl).drop<|x*4).take 4) (by rw[ll];exact fm FQ) A ?_;refine inner 4 0 x d (aK p 0 (((qG C pl).drop<|x*4).take 4)::t) h FQ FQ (fun d h a=>bW<|aad<|J (x+1) d (aK p 0 (((qG C pl).drop<|x*4).take 4)::t) h FQ<|by rwa [show 4*(x+1)=4*x+4 by omega]) ?_;exact a.to
 have a:=Hs.kh (f:=vU C (fun _=>0) F) a;refine outer 4 0 (fun _=>0) L' h FQ ?_;rw[show min N (4*0)=0 by omega];exact a.to
end Go.Proofs.Z
variable {m:Nat} {z:FJ}
section
attribute [local irreducible] cC Br vZ yU Ar Jj rJ Ce qL dj lQ sJ wV wJ vF rB A6 Yn Wh W3 Wi Wj gf qN tZ nJ mM Dv O9 pX Vx cn E2 Cl F3 ga zF yL oI jF eX dO
namespace Go.Proofs.Z
open Go.Hm Go.At Go.Is Go.Mc
variable {s:aQ}
section
instance:Fx iW.enc 4:=⟨fun _=>rfl,fun _=>rfl⟩
variable {G:Bg} {h:AH}
abbrev dv (a:FM) (c:Nat) (l:IW):HP:=ls iW.enc 4 55 a c l
def qI (i:Nat) (s:aQ) (a:FM) (c:Nat):FJ:=s.core++[I i,.slice a s.prog.length c]
def rA (i:Nat) (p:Nat) (s:aQ):HP:=Cr fun x:FM×Nat=>sp [aK p 0<|qI i s x.1 x.2,dv x.1 x.2 s.prog]
def vL (b:Hs G h (rA i p s::L)):∃a c,Hs G h (aK p 0 (qI i s a c)::dv a c s.prog::L):=by
 obtain⟨⟨a,c⟩,b⟩:=b.Cc;exact⟨a,c,b.A7⟩
def qE (p i:Nat) (s:aQ) {l:IW} {b:IU} (f:Hs G h L) [m:dZ (aK p 0) L cs b] [m2:dZ (dv a c) b l L2] (d:cs=qI i s a c) (e:l=s.prog):Hs G h (rA i p s::L2):=by
 subst d;subst e;exact Hs.Cq (A:=fun x:FM×Nat=>sp [aK p 0<|qI i s x.1 x.2,dv x.1 x.2 s.prog]) (a,c)<|Hs.nS (A:=[_,_])<|f.cI<|m.cI.trans<|m2.cI.cons _
def aUa {k:Int} (b:0<=k/\k<4):(qI i s a c)[0+0+0+k.toNat*1]?=some (I<|s.dK k.toNat):=by
 have:k=0\/k=1\/k=2\/k=3:=FQ
 rcases this with rfl|rfl|rfl|rfl<;>rfl
def aQr {k v:Int} (b:0<=k/\k<4):bM (qI i s a c) (0+0+0+k.toNat*1) [I v]=qI i (s.dL k v) a c:=by
 have:k=0\/k=1\/k=2\/k=3:=FQ
 rcases this with rfl|rfl|rfl|rfl<;>rfl
def Gy {k:Int} {q:Value->Prop} (f:Hs G h L) [m:dZ (aK p 0) L (qI i s a c) L'] (d:0<=k/\k<4) (e:q (I<|s.dK k.toNat)):cC (sJ<|JM p) fun v4=>cC (lQ 0 v4) fun v5=>cC (lQ 0 v5) fun v6=>cC (tZ 4 1 v6<|I k) fun g=>cC (vZ h g) q:=
 aC (aA<|aA<|fQ d.1 d.2<|ai p f (aUa d) e)
def B5 {k v:Int} {q:AH->Prop} (d:Hs G h L) [m:dZ (aK p 0) L (qI i s a c) L'] (e:0<=k/\k<4) (j:∀f,Hs G f (aK p 0 (qI i (s.dL k v) a c)::L')->q f):cC (sJ<|JM p) fun v4=>cC (lQ 0 v4) fun v5=>cC (lQ 0 v5) fun v6=>cC (tZ 4 1 v6<|I k) fun l=>cC (Ar h 1 l<|I v) q:=by
 refine aC<|aA<|aA<|fQ e.1 e.2 ?_;have g:(qI i s a c).length=9:=rfl;refine cG (b:=p) (o:=0) d rfl (by rw[g];exact mn FX) rfl rfl fun h d=>?_;rw[aQr e] at d;exact j _ d
def aBd (r:0<=x) (d:cs[8]?=some (.slice a s.prog.length c)) (g:Hs G h L) [m:dZ (aK p 0) L cs L'] [m2:dZ (dv a c) L' s.prog M] (f:∀q,Hs G q L->Q (.bool<|G7 s.prog x) q):JL 145 [JM p,I x] h Q:=by
 have k:Hs G h (aK p 0 cs::dv a c s.prog::M):=g.cI<|m.cI.trans<|m2.cI.cons _;unfold G7 at f;refine cW<|bF<|aab<|aC<|aA<|ai p g d<|dB<|fV<|bG (fun j=>?_) fun j=>?_;rw[bD2 j] at f;exact f _ g;rw[bD1 j] at f;refine aC<|aA<|ai p g d<|aK8 (l:=s.prog) (a:=a) (c:=c) (enc:=iW.enc) (e:=55) (x:=mW s.prog x) k r ?_ rfl<|cF ?_;unfold mW;rw[aP,b0 FQ];rfl;exact f _ g
def Nf (g:0<=x) (d:Hs G h L) [m:dZ (rA i p) L s L'] (f:∀e,Hs G e (rA i p (s.jA x)::L')->Q (.tuple ⟨[]⟩) e):JL 87 [JM p,I x] h Q:=by
 obtain⟨a,c,d⟩:=vL<|m.of d;refine cW<|aC<|aA<|aA<|ax (b:=p) (o:=0) d fun h d=>?_;refine aBd (s:=s) (a:=a) (c:=c) g rfl d fun h d=>aC<|aA<|aA<|ax (b:=p) (o:=0) d fun h d=>f _ ?_;exact qE p i (s.jA x) (a:=a) (c:=c) d rfl rfl
def j7 {x:iW} (d:Hs G h L) [m:dZ (aK p 0) L (qI i s a c) L'] (f:∀e,Hs G e L->Q (.agg ⟨(aQ.ev s i x 0 0 0).enc⟩) e):JL 163 [JM p,.agg ⟨x.enc⟩] h Q:=by
 refine cW<|fB d fun q h d=>cT d fun r h d=>bI d fun g h d=>?_;refine aC<|aA<|ai p d rfl<|aC<|aA<|aA<|ai p d rfl<|aA<|ai q d rfl<|aC<|aA<|aA<|ai p d rfl<|aZ (c:=(aQ.ev s i x 0 0 0).enc) rfl ?_;refine an (b:=r) d fun h d=>am r d (l:=(aQ.ev s i x 0 0 0).enc) rfl rfl<|f _ d.to
def aVe:iW:=⟨0,0,0,0⟩
def R0 (j:s.Ok) (d:Hs G h L) [m:dZ (rA i p) L s L'] (g:∀k,Hs G k (rA i p s::L')->Q (if s.over then .tuple ⟨[.agg ⟨aVe.enc⟩,.bool false]⟩ else .tuple ⟨[.agg ⟨(mW s.prog s.at').enc⟩,.bool true]⟩) k):JL 162 [JM p] h Q:=by
 obtain⟨a,c,d⟩:=vL<|m.of d;refine cW<|cT d fun q h d=>dN<|cY<|aC<|aA<|aA<|ai p d rfl<|aBd (s:=s) (a:=a) (c:=c) j.1 rfl d fun h d=>?_;rw[<-j.2.2.1];refine dX (fun f=>?_) fun f=>?_;rw[f,bD2 rfl] at g;refine aZ (c:=aVe.enc) rfl<|an (b:=q) d fun h d=>am q d (l:=aVe.enc) rfl rfl<|g _ ?_;exact(qE p i s (a:=a) (c:=c) d rfl rfl).to;rw[f] at g;have t:=D1 (p:=s.prog) (a:=s.at') (by rw[<-j.2.2.1];exact f);have r:=j.1;refine bI d fun u h d=>aC<|aA<|ai p d rfl<|aC<|aA<|aA<|ai p d rfl ?_;refine yX (l:=s.prog) (a:=a) (c:=c) (enc:=iW.enc) (e:=55) (x:=mW s.prog s.at') d FV r ?_ ?_;unfold mW;rw[aP,b0 FQ];rfl;refine an (b:=q) d fun h d=>am q d (l:=(mW s.prog s.at').enc) rfl rfl<|g _ ?_;exact(qE p i s (a:=a) (c:=c) d rfl rfl).to
def Yp (a:Q (.bool<|Qo x) h):JL 166 [I x] h Q:=by
 unfold Qo at a;refine cW<|cF<|bG (fun b=>?_) fun b=>cF<|bG (fun d=>?_) fun d=>cF ?_;rw[cj FQ] at a;exact a;rw[cj FQ] at a;exact a;rw[show decide (x=3\/x=4\/x=5)=decide (x=5) from BH.2 FQ] at a;exact a
end
section
def Ik (a:s.Ok) (h:s.over=false):aMk (mW s.prog s.at') s.prog.length:=
 Nd (a.2.2.2.2 _<|Di a.1<|D1<|by rwa [<-a.2.2.1])
variable {G:Bg} {h:AH}
def pY {v:Ev} {q2:Nat} {b:Value} (t:z.length=7) (r:0<=x) (a:Hs G h (rA i p s::aK f 0 v.enc::aK q2 0 z::L)) (q:∀k,Hs G k (rA i p (s.jA x)::L)->Q (.tuple ⟨[.agg ⟨v.enc⟩,b]⟩) k):
  JL 87 [JM p,I x] h fun _ d=>cC (yU d 7<|JM f) fun g=>cC (Ar d 7 (JM q2) g) fun e=>cC (yU e 7<|JM q2) fun j=>Q (.tuple ⟨[j,b]⟩) e:=by
 refine Nf (i:=i) (s:=s) r a fun h a=>am f a (l:=v.enc) rfl rfl<|bN (b:=q2) a (by rw[t];rfl) rfl rfl rfl fun h a=>am q2 a (l:=v.enc) rfl rfl<|q _ a.to
def aLl (A:s.Ok) (d:Hs G h L) [m:dZ (rA i p) L s L']
  (f:∀D,Hs G D (rA i p (match aQ.lI s i with|some r=>r.1|none=>s)::L')->Q (match aQ.lI s i with|some r=> .tuple ⟨[.agg ⟨r.2.enc⟩,.bool true]⟩|none=> .tuple ⟨[.agg ⟨Ns.enc⟩,.bool false]⟩) D):JL 116 [JM p] h Q:=by
 have d:=m.of d
 have H:=A.1
 unfold aQ.lI aQ.kO at f
 refine cW<|cT (cs:=Ns.enc) d fun q2 h d=>R0 (i:=i) (s:=s) A d fun h d=>?_
 cases hov:s.over with
 |true=>
  simp only[hov,eD] at f ⊢
  refine aN rfl<|aN rfl<|cT d fun j h d=>an (b:=j) d fun h d=>cZ<|gA<|aZ (c:=Ns.enc) rfl ?_
  refine an (b:=q2) d fun h d=>am q2 d (l:=Ns.enc) rfl rfl (f _ d.to)
 |false=>
  have q:=Ik A hov
  simp only[hov,aO,dx] at f ⊢
  generalize I:mW s.prog s.at'=x at f q
  refine aN rfl<|aN rfl<|cT d fun j h d=>an (b:=j) d fun h d=>cZ<|cY ?_
  obtain⟨a,c,d⟩:=vL<|d.bE<|rA i p s
  refine bW<|am j d (l:=x.enc) rfl rfl<|j7 (a:=a) (c:=c) (s:=s) d fun h d=>cT d fun g h d=>an (b:=g) d fun h d=>?_
  refine aC<|aA<|aA<|ai p d rfl<|cE (by have:=A.2.1;omega)<|aA<|ai j d rfl ?_
  have d:Hs G h (aK j 0 x.enc::aK g 0 (aQ.ev s i x 0 0 0).enc::aK q2 0 Ns.enc::aK p 0 (qI i s a c)::dv a c s.prog::L'):=d.to
  have e:∀{h:AH} {s':aQ} {M:IU} {v:Ev},s'.prog=s.prog->Hs G h (aK g 0 v.enc::aK q2 0 Ns.enc::aK p 0 (qI i s' a c)::dv a c s.prog::L')->Hs G h (rA i p s'::aK g 0 v.enc::aK q2 0 Ns.enc::L'):=by
   intro h s' M v B d;exact qE p i s' (a:=a) (c:=c) d rfl B.symm
  refine cF<|bG (fun k=>?_) fun k=>bW<|cF<|bG (fun c2=>?_) fun c2=>bW<|cF<|bG (fun w=>?_) fun w=>bW<|cF<|bG (fun y=>?_) fun y=>bW<|cF<|bG (fun z=>?_) fun z=>bW<|cF<|bG (fun t=>?_) fun t=>?_
  .simp[k,eD] at f;refine bW<|aA<|ai j d rfl<|aA<|ax (b:=g) (o:=0) d fun h d=>bI d fun E h d=>aA<|ai j d rfl<|aA<|ai g d rfl<|B5 (s:=s) (a:=a) (c:=c) d (q.r1 FQ) fun h d=>?_;exact pY (s:=s.dL x.a x.b) (v:=aQ.ev s i x 0 x.b 0) rfl FQ (e (M:=L) (s':=s.dL x.a x.b) rfl (d.sg (b:=g) (o:=0) (c:=(aQ.ev s i x 0 x.b 0).enc) rfl).to) f
  .simp only[bD1 k,c2,eD] at f;refine bW<|bI d fun E h d=>aA<|ai j d rfl<|Gy (s:=s) (i:=i) (a:=a) (c:=c) d (q.r2 FQ)<|aA<|ai j d rfl<|Gy (s:=s) (i:=i) (a:=a) (c:=c) d (q.r3 FQ)<|dw<|aA ?_;refine ax (b:=g) (o:=0) d fun h d=>bI d fun F h d=>aA<|ai j d rfl<|aA<|ai g d rfl<|B5 (s:=s) (a:=a) (c:=c) d (q.r1 FQ) fun h d=>?_;exact pY (s:=s.dL x.a<|wr<|s.dK x.b.toNat+s.dK x.c.toNat) (v:=aQ.ev s i x 0 (wr<|s.dK x.b.toNat+s.dK x.c.toNat) 0) rfl FQ (e (M:=L) (s':=s.dL x.a<|wr<|s.dK x.b.toNat+s.dK x.c.toNat) rfl (d.sg (b:=g) (o:=0) (c:=(aQ.ev s i x 0 (wr<|s.dK x.b.toNat+s.dK x.c.toNat) 0).enc) rfl).to) f
  .simp only[bD1 k,bD1 c2,w,eD] at f;exact bW<|pY (s:=s) (v:=aQ.ev s i x 0 0 0) rfl FQ (e (M:=L) (s':=s) rfl d.to) f
  .simp only[bD1 k,bD1 c2,bD1 w,y,eD] at f;refine bW (aA<|ai j d rfl<|aA<|ax (b:=g) (o:=0) d fun h d=>aC<|aA<|aA<|ai p d rfl<|cF<|bG (fun u=>?_) fun u=>?_)
   .simp only[u,eD] at f;refine bW<|aA<|ai j d rfl<|aC<|aA<|aA<|ax (b:=p) (o:=0) d fun h d=>?_;exact pY (s:=s.Zc x.a) (v:=aQ.ev s i x 0 x.a 0) rfl FQ (e (M:=L) (s':=s.Zc x.a) rfl ((d.sg (b:=g) (o:=0) (c:=(aQ.ev s i x 0 x.a 0).enc) rfl).sg (b:=p) (o:=0) (c:=qI i (s.Zc x.a) a c) rfl).to) f
   .simp only[bD1 u] at f;refine bW<|aA<|ax (b:=g) (o:=0) d fun h d=>?_;exact pY (s:=s) (v:=aQ.ev s i x 0 x.a 18) rfl FQ (e (M:=L) (s':=s) rfl (d.sg (b:=g) (o:=0) (c:=(aQ.ev s i x 0 x.a 18).enc) rfl).to) f
  .simp only[bD1 k,bD1 c2,bD1 w,bD1 y,z,eD] at f;have B:=q.p1 FQ;refine bW<|aA<|ai j d rfl<|aA<|ax (b:=g) (o:=0) d fun h d=>aA<|ai j d rfl ?_;exact pY (s:=s) (v:=aQ.ev s i x 0 x.a 0) rfl FQ (e (M:=L) (s':=s) rfl (d.sg (b:=g) (o:=0) (c:=(aQ.ev s i x 0 x.a 0).enc) rfl).to) f
  .simp only[bD1 k,bD1 c2,bD1 w,bD1 y,bD1 z,t,eD] at f;have B:=q.p2 FQ;refine bW<|bI d fun E h d=>aA<|ai j d rfl<|Gy (s:=s) (i:=i) (a:=a) (c:=c) d (q.r1 FQ)<|aA ?_;refine ax (b:=g) (o:=0) d fun h d=>aA (ai g d rfl<|cF<|bG (fun u=>?_) fun u=>?_)
   .simp only[bD2 u] at f;have d:=d.sg (b:=g) (o:=0) (c:=(aQ.ev s i x 0 (s.dK x.a.toNat) 0).enc) rfl;refine bW<|aA<|ai j d rfl ?_;exact pY (s:=s) (v:=aQ.ev s i x 0 (s.dK x.a.toNat) 0) rfl FQ (e (M:=L) (s':=s) rfl d.to) f
   .simp only[bD1 u] at f;exact bW<|pY (s:=s) (v:=aQ.ev s i x 0 (s.dK x.a.toNat) 0) rfl FQ (e (M:=L) (s':=s) rfl (d.sg (b:=g) (o:=0) (c:=(aQ.ev s i x 0 (s.dK x.a.toNat) 0).enc) rfl).to) f
  .simp[bD1 k,bD1 c2,bD1 w,bD1 y,bD1 z,bD1 t] at f;refine aZ (c:=Ns.enc) rfl<|an (b:=q2) d fun h d=>am q2 d (l:=Ns.enc) rfl rfl<|f _ ?_;exact(qE p i s (a:=a) (c:=c) d rfl rfl).to
end
section
def Ai (a:vT):FJ:=[I a.dD,.bool a.iV,.bool a.F4,I a.value]
def ag:vT:=⟨0,false,false,0⟩
def aCk:Mc.Np:=⟨0,0,0,0,0⟩
variable {G:Bg} {h:AH}
def Oo (y:s.Ok) (d:Hs G h L) [m:dZ (rA i p) L s L']
  (f:∀k,Hs G k (rA i p s::L')->Q (match aQ.iG s with|some a=> .tuple ⟨[.agg ⟨Ai a⟩,.bool true]⟩|none=> .tuple ⟨[.agg ⟨Ai ag⟩,.bool false]⟩) k):JL 119 [JM p] h Q:=by
 have d:=m.of d
 unfold aQ.iG aQ.kO at f
 refine cW<|cT (cs:=Ai ag) d fun q2 h d=>R0 (i:=i) (s:=s) y d fun h d=>?_
 cases hov:s.over with
 |true=>
  simp only[hov,eD] at f ⊢
  refine aN rfl<|aN rfl<|cT d fun g h d=>an (b:=g) d fun h d=>cZ<|gA<|aZ (c:=Ai ag) rfl ?_
  refine an (b:=q2) d fun h d=>am q2 d (l:=Ai ag) rfl rfl (f _ d.to)
 |false=>
  have q:=Ik y hov
  simp only[hov,aO,dx] at f ⊢
  generalize F:mW s.prog s.at'=x at f q
  refine aN rfl<|aN rfl<|cT d fun g h d=>an (b:=g) d fun h d=>cZ<|cY<|aA<|ai g d rfl<|Yp<|cZ<|fR<|dX (fun j=>?_) fun j=>?_
  .have j:=j;have B:=c8 j;simp only[j,eD] at f;have z:=q.r1 FQ;have t:=q.r2 FQ;have⟨a,c,d⟩:=vL<|d.bE<|rA i p s;have d:Hs G h (aK g 0 x.enc::aK q2 0 (Ai ag)::aK p 0 (qI i s a c)::dv a c s.prog::L'):=d.to;have sL:∀{h:AH} {M:IU} (e:Nat) (v:vT),[F5 M L']->Hs G h (aK e 0 (Ai v)::aK q2 0 (Ai ag)::aK p 0 (qI i s a c)::dv a c s.prog::M)->(∀k,Hs G k (rA i p s::L')->Q (.tuple ⟨[.agg ⟨Ai v⟩,.bool true]⟩) k)->
     cC (yU h 4<|JM e) fun v1=>cC (Ar h 4 (JM q2) v1) fun w=>cC (yU w 4<|JM q2) fun v3=>Q (.tuple ⟨[v3,.bool true]⟩) w:=by
    intro h M e v _ d E
    refine am e d (l:=Ai v) rfl rfl<|an (b:=q2) d fun h d=>am q2 d (l:=Ai v) rfl rfl<|E _ ?_
    exact(qE p i s (a:=a) (c:=c) d rfl rfl).to
   refine bW<|bI d fun u h d=>aA<|ai g d rfl<|Gy (s:=s) (i:=i) (a:=a) (c:=c) d t<|aZ (c:=Ai ⟨s.dK x.b.toNat,false,false,0⟩) rfl ?_
   refine nI (r:=u) (i:=9) (n:=11) (D:=[]) (cs:=Ai ag) d rfl rfl fun e h d=>an (b:=e) d fun h d=>aA<|ai g d rfl<|cF<|bG (fun c3=>?_) fun c3=>bW<|cF<|bG (fun c5=>?_) fun c5=>bW<|cF<|bG (fun A=>?_) fun A=>?_
   .rw[cr FQ,cj<|show x.op≠4 by omega,bD2<|show x.op=3 by omega] at f;refine bW<|aA<|ax (b:=e) (o:=0) d fun h d=>?_;exact sL (M:=L') e ⟨s.dK x.b.toNat,false,true,0⟩ (d.sg (b:=e) (o:=0) (c:=Ai ⟨s.dK x.b.toNat,false,true,0⟩) rfl).to f
   .rw[cj<|show x.op≠3 by omega,cj<|show x.op≠4 by omega,bD1<|show ¬x.op=3 by omega] at f;refine bW<|aA<|ax (b:=e) (o:=0) d fun h d=>aA<|ax (b:=e) (o:=0) d fun h d=>bI d fun u h d=>aA<|ai g d rfl<|Gy (s:=s) (i:=i) (a:=a) (c:=c) d z<|aA<|ax (b:=e) (o:=0) d fun h d=>?_;exact sL (M:=L') e ⟨s.dK x.b.toNat,true,true,s.dK x.a.toNat⟩ (d.sg (b:=e) (o:=0) (c:=Ai ⟨s.dK x.b.toNat,true,true,s.dK x.a.toNat⟩) rfl).to f
   .rw[cj<|show x.op≠3 by omega,cr FQ,bD1<|show ¬x.op=3 by omega] at f;refine bW<|aA<|ax (b:=e) (o:=0) d fun h d=>bI d fun u h d=>aA<|ai g d rfl<|Gy (s:=s) (i:=i) (a:=a) (c:=c) d z<|aA<|ax (b:=e) (o:=0) d fun h d=>?_;exact sL (M:=L') e ⟨s.dK x.b.toNat,true,false,s.dK x.a.toNat⟩ (d.sg (b:=e) (o:=0) (c:=Ai ⟨s.dK x.b.toNat,true,false,s.dK x.a.toNat⟩) rfl).to f
   .omega
  .simp[j,aO,dx] at f;refine aZ (c:=Ai ag) rfl<|an (b:=q2) d fun h d=>am q2 d (l:=Ai ag) rfl rfl<|f _ d.to
def aUi (q:s.Ok) (d:Hs G h L) [m:dZ (rA i p) L s L']
  (e:∀k,Hs G k (rA i p s::L')->Q (match aQ.xW s i with|some a=> .tuple ⟨[.agg ⟨a.enc⟩,.bool true]⟩|none=> .tuple ⟨[.agg ⟨aCk.enc⟩,.bool false]⟩) k):JL 117 [JM p] h Q:=by
 have d:=m.of d
 unfold aQ.xW aQ.kO at e
 refine cW<|cT (cs:=aCk.enc) d fun q2 h d=>R0 (i:=i) (s:=s) q d fun h d=>?_
 cases hov:s.over with
 |true=>
  simp only[hov,eD] at e ⊢
  refine aN rfl<|aN rfl<|cT d fun f h d=>an (b:=f) d fun h d=>cZ<|gA<|aZ (c:=aCk.enc) rfl ?_
  refine an (b:=q2) d fun h d=>am q2 d (l:=aCk.enc) rfl rfl (e _ d.to)
 |false=>
  have j:=Ik q hov
  simp only[hov,aO,dx] at e ⊢
  generalize r:mW s.prog s.at'=x at e j
  refine aN rfl<|aN rfl<|cT d fun f h d=>an (b:=f) d fun h d=>cZ<|cY<|aA<|ai f d rfl<|bZ<|bG (fun g=>?_) fun g=>?_
  .rw[bD1 g] at e;refine aZ (c:=aCk.enc) rfl<|an (b:=q2) d fun h d=>am q2 d (l:=aCk.enc) rfl rfl<|e _ d.to
  .rw[bD2<|by have:=g;omega] at e;have⟨a,c,d⟩:=vL<|d.bE<|rA i p s;refine bI d fun t h d=>aC<|aA<|ai p d rfl<|aC<|aA<|aA<|ai p d rfl<|aA<|ai f d rfl<|aA<|ai f d rfl ?_;refine Gy (s:=s) (i:=i) (a:=a) (c:=c) d (j.r2 FQ)<|aA<|ai f d rfl<|Gy (s:=s) (i:=i) (a:=a) (c:=c) d (j.r3 FQ) ?_;refine aZ (c:=(⟨i,s.aY,x.a,s.dK x.b.toNat,s.dK x.c.toNat⟩:Mc.Np).enc) rfl<|an (b:=q2) d fun h d=>am q2 d (l:=(⟨i,s.aY,x.a,s.dK x.b.toNat,s.dK x.c.toNat⟩:Mc.Np).enc) rfl rfl<|e _ ?_;exact(qE p i s (a:=a) (c:=c) d rfl rfl).to
def wz {x:iW} {e A:Nat} {code:Int} {k:AH->Nat->Prop} {y:Bool} (t:y=true) (H:0<=x.b/\x.b<4) (d:Hs G h (aK e 0 x.enc::aK A 0 Ns.enc::aK p 0 (qI i s a c)::dv a c s.prog::L))
  (F:∀q z,Hs G z (aK q 0 (aQ.ev s i x (s.dK x.b.toNat) 0 code).enc::aK e 0 x.enc::aK A 0 Ns.enc::aK p 0 (qI i s a c)::dv a c s.prog::L)->k z q):
  cC (yU h 4<|JM e) fun v0=>JL 163 [JM p,v0] h fun v1 B=>Jj B (.cells [I 0,I 0,I 0,I 0,I 0,I 0,I 0] 47 (0,0) true) fun f D=>cC (Ar D 7 (JM f) v1) fun E=>dj y E 13 fun _ r=>
   cC (lQ 2<|JM e) fun J=>cC (vZ r J) fun N=>cC (sJ<|JM p) fun v9=>cC (lQ 0 v9) fun v10=>cC (lQ 0 v10) fun v11=>cC (tZ 4 1 v11 N) fun v12=>cC (vZ r v12) fun u=>cC (lQ 4<|JM f) fun v=>cC (Ar r 1 v u) fun g=>cC (lQ 6<|JM f) fun w=>cC (Ar g 1 w<|I code) fun j=>
   (wM (I code) (I code)=true)/\k j f:=by
 refine am e d (l:=x.enc) rfl rfl<|j7 (a:=a) (c:=c) (s:=s) (i:=i) d fun h d=>cT d fun q h d=>an (b:=q) d fun h d=>bI (hc:=t) d fun O h d=>aA<|ai e d rfl ?_
 refine Gy (s:=s) (i:=i) (a:=a) (c:=c) d H<|aA<|ax (b:=q) (o:=0) d fun h d=>aA<|ax (b:=q) (o:=0) d fun h d=>dT lG<|F _ _ ?_
 have d:=d.sg (b:=q) (o:=0) (c:=(aQ.ev s i x (s.dK x.b.toNat) 0 code).enc) rfl
 exact d.to
def aE8 {value code:Int} (J:s.Ok) (d:Hs G h L) [m:dZ (rA i p) L s L']
  (j:∀F,Hs G F (rA i p (aQ.bK s i value code).1::L')->Q (.tuple ⟨[.agg ⟨(aQ.bK s i value code).2.1.enc⟩,I (aQ.bK s i value code).2.2]⟩) F):JL 207 [JM p,I value,I code] h Q:=by
 have d:=m.of d
 have Z:=J.1
 have V:=J.2.1
 unfold aQ.bK aQ.kO at j
 refine cW<|cT (cs:=Ns.enc) d fun g h d=>dN<|cY<|bW<|R0 (i:=i) (s:=s) J d fun h d=>?_
 have bad:∀{h:AH} {M:IU} (e:Int),[F5 M (rA i p s::L')]->Hs G h (aK g 0 Ns.enc::M)->(∀F,Hs G F (rA i p s::L')->Q (.tuple ⟨[.agg ⟨Ns.enc⟩,I e]⟩) F)->
   cC (tM [I 0,I 0,I 0,I 0,I 0,I 0,I 0] []) fun c5=>cC (Ar h 7 (JM g)<|.agg ⟨c5⟩) fun S=>cC (yU S 7<|JM g) fun Y=>Q (.tuple ⟨[Y,I e]⟩) S:=by
  intro h M e _ d X
  refine aZ (c:=Ns.enc) rfl<|an (b:=g) d fun h d=>am g d (l:=Ns.enc) rfl rfl<|X _ ?_
  exact d.tail.to
 cases hov:s.over with
 |true=>
  simp only[hov,eD] at j ⊢
  refine aN rfl<|aN rfl<|cT d fun f h d=>an (b:=f) d fun h d=>cZ<|gA ?_
  exact bad (M:=rA i p s::L') 16 d.to j
 |false=>
  have D:=Ik J hov
  simp only[hov,aO,dx] at j ⊢
  generalize hx:mW s.prog s.at'=x at j D
  refine aN rfl<|aN rfl<|cT d fun f h d=>an (b:=f) d fun h d=>cZ<|cY<|aA<|ai f d rfl ?_
  have tail:∀{h:AH} {a:FM} {c q:Nat},(x.op=8\/Qo x.op=true/\(code=0\/code=19))->Hs G h (aK q 0 (aQ.ev s i x (s.dK x.b.toNat) 0 code).enc::aK f 0 x.enc::aK g 0 Ns.enc::aK p 0 (qI i s a c)::dv a c s.prog::L')->
    cC (lQ 0<|JM f) fun r=>cC (vZ h r) fun t=>cC (A6 .eql t<|I 8) fun v20=>Br v20 (Dd 207 4 [] Q [JM p,I code,JM g,JM f,JM q] h) (Dd 207 5 [] Q [JM p,I value,I code,JM g,JM f,JM q] h):=by
   intro h a c q T d
   have w:∀{h:AH} {s':aQ} {v:Ev},s'.prog=s.prog->Hs G h (aK q 0 v.enc::aK g 0 Ns.enc::aK p 0 (qI i s' a c)::dv a c s.prog::L')->Hs G h (rA i p s'::aK q 0 v.enc::aK g 0 Ns.enc::L'):=by
    intro h s' v W d;exact qE p i s' (a:=a) (c:=c) d rfl W.symm
   refine aA<|ai f d rfl<|cF<|bG (fun u=>?_) fun u=>bW ?_
   .have u:=u;simp[u,eD] at j;refine bW<|bI d fun P h d=>aA<|ai f d rfl<|Gy (s:=s) (i:=i) (a:=a) (c:=c) d (D.r3 FQ)<|aA<|ax (b:=q) (o:=0) d fun h d=>bI d fun P h d=>aA<|ai f d rfl<|B5 (s:=s) (a:=a) (c:=c) d (D.r2 FQ) fun h d=>?_;refine aC<|aA<|aA<|ai p d rfl<|cE HD ?_;exact pY (s:=s.dL x.b code) (v:=aQ.ev s i x (s.dK x.b.toNat) (s.dK x.c.toNat) code) (x:=s.at'+1) rfl FQ (w (s':=s.dL x.b code) rfl (d.sg (b:=q) (o:=0) (c:=(aQ.ev s i x (s.dK x.b.toNat) (s.dK x.c.toNat) code).enc) rfl).to) j
   .have⟨z,T⟩:Qo x.op=true/\(code=0\/code=19):=by rcases T with h|h;exact absurd h u;exact h
    have O:=c8 z
    have U:=D.r1 FQ
    simp only[bD1 u,z,eD] at j
    refine cF<|bG (fun y=>?_) fun y=>bW<|aA<|ai f d rfl<|cF<|bG (fun N=>?_) fun N=>?_
    .subst y;refine bW<|aC<|aA<|aA<|ai p d rfl<|aad ?_;exact pY (s:=s) (v:=aQ.ev s i x (s.dK x.b.toNat) 0 19) (x:=s.at'+1) rfl FQ (w (s':=s) rfl d.to) j
    .simp[bD1 y,N,eD] at j;have A:code=0:=FQ
     subst A
     refine bW<|bI d fun P h d=>aA<|ai f d rfl<|Gy (s:=s) (i:=i) (a:=a) (c:=c) d U<|aA<|ax (b:=q) (o:=0) d fun h d=>aC<|aA<|aA<|ai p d rfl<|aad ?_
     exact pY (s:=s) (v:=aQ.ev s i x (s.dK x.b.toNat) (s.dK x.a.toNat) 0) (x:=s.at'+1) rfl FQ (w (s':=s) rfl (d.sg (b:=q) (o:=0) (c:=(aQ.ev s i x (s.dK x.b.toNat) (s.dK x.a.toNat) 0).enc) rfl).to) j
    .simp[bD1 y,bD1 N] at j;have A:code=0:=FQ
     subst A
     refine bW<|aA<|ax (b:=q) (o:=0) d fun h d=>bI d fun P h d=>aA<|ai f d rfl<|B5 (s:=s) (a:=a) (c:=c) d U fun h d=>aC<|aA<|aA<|ai p d rfl<|cE HD ?_
     exact pY (s:=s.dL x.a value) (v:=aQ.ev s i x (s.dK x.b.toNat) value 0) (x:=s.at'+1) rfl FQ (w (s':=s.dL x.a value) rfl (d.sg (b:=q) (o:=0) (c:=(aQ.ev s i x (s.dK x.b.toNat) value 0).enc) rfl).to) j
  have B:∀{h:AH} {M:IU},[F5 M L']->Hs G h (aK f 0 x.enc::aK g 0 Ns.enc::rA i p s::M)->∃a c,Hs G h (aK f 0 x.enc::aK g 0 Ns.enc::aK p 0 (qI i s a c)::dv a c s.prog::L'):=by
   intro h M _ d;have⟨a,c,d⟩:=vL<|d.bE<|rA i p s;exact⟨a,c,d.to⟩
  have d:Hs G h (aK f 0 x.enc::aK g 0 Ns.enc::rA i p s::L'):=d.to
  refine bZ<|bG (fun u=>?_) fun u=>?_
  .have u:=u;refine aA (ai f d rfl<|Yp<|cZ<|fR<|dX (fun z=>?_) fun z=>?_)
   .have O:=c8 z;have H:=D.r2 FQ;refine bW (aA<|ai f d rfl<|bZ<|cS u<|bZ<|bG (fun R=>bZ<|bG (fun E=>?_) fun E=>?_) fun R=>?_)
    .simp only[bD1 u,z,eD] at j;rw[bD2 ⟨R,E⟩] at j;exact bad (M:=rA i p s::L') 1 d.to j
    .have⟨a,c,d⟩:=B (M:=L') d;refine bW<|wz (k:=fun h q=>cC (lQ 0<|JM f) fun r=>cC (vZ h r) fun t=>cC (A6 .eql t<|I 8) fun v20=>Br v20 (Dd 207 4 [] Q [JM p,I code,JM g,JM f,JM q] h)<|Dd 207 5 [] Q [JM p,I value,I code,JM g,JM f,JM q] h) FU H d fun q h d=>tail (.inr ⟨z,FQ⟩) d
    .obtain⟨a,c,d⟩:=B (M:=L') d;exact wz (k:=fun h q=>cC (lQ 0<|JM f) fun r=>cC (vZ h r) fun t=>cC (A6 .eql t<|I 8) fun v20=>Br v20 (Dd 207 4 [] Q [JM p,I code,JM g,JM f,JM q] h)<|Dd 207 5 [] Q [JM p,I value,I code,JM g,JM f,JM q] h) FU H d fun q h d=>tail (.inr ⟨z,FQ⟩) d
   .simp[bD1 u,z,aO,dx] at j;exact bad (M:=rA i p s::L') 16 d.to j
  .refine aA (ai f d rfl<|bZ<|aab ?_);obtain⟨a,c,d⟩:=B (M:=L') d;exact wz (k:=fun h q=>cC (lQ 0<|JM f) fun r=>cC (vZ h r) fun t=>cC (A6 .eql t<|I 8) fun v20=>Br v20 (Dd 207 4 [] Q [JM p,I code,JM g,JM f,JM q] h)<|Dd 207 5 [] Q [JM p,I value,I code,JM g,JM f,JM q] h) FU (D.r2 FQ) d fun q h d=>tail (.inl<|by have:=u;omega) d
end
variable {G:Bg} {h:AH}
theorem aAx {α:Type} {enc:α->FJ} {l:List α}:(l.map enc).flatten=eL enc l:=by simp[eL,List.flatMap]
theorem dt {e:TypeId} {l:IW} (hb:l.length<=1000) (b:Hs G h (Ge G 4 e v (l.map iW.enc)::L)) (f:∀a c d,Hs G d (dv a c l::Ge G 4 e v (l.map iW.enc)::L)->Q (.slice a l.length c) d):JL 32 [v] h Q:=by
 refine cW (Sy b FV FR (by grind[aAx,Uk]) FQ fun a c h b=>f a c h ?_);rwa [aAx] at b
theorem aBy {e:TypeId} {pr:IW} (k:i<4) (l:0<=w/\w<=3) (g:Ob G 1 vV) (hc:(rI pr).2=0) (b:Hs G h (Ge G 4 e v (pr.map iW.enc)::L))
  (j:∀p d,Hs G d (rA i p (As pr w)::Ge G 4 e v (pr.map iW.enc)::L)->Q (.tuple ⟨[JM p,I 0]⟩) d):JL 41 [I i,I w,v] h Q:=by
 have f:pr.length<=32:=by
  rw[rI] at hc;split at hc;cases hc;omega
 refine cW<|bF<|aab<|fV<|aab<|bF<|aab<|qA<|aab<|bW<|Mm g b fun h b=>aN rfl<|aN rfl<|bZ<|aab<|bW ?_
 refine dt FQ b fun a c h b=>(aZ (c:=qI i ⟨fun _=>0,0,0,_,pr⟩ a c) rfl<|fB b fun p h b=>aC<|aA<|aA<|ax b fun h b=>?_)
 have b:Hs G h (aK p 0 (qI i ⟨fun _=>0,0,w,_,pr⟩ a c)::dv a c pr::Ge G 4 e v _::L):=b
 have b:=qE p i _ b rfl rfl
 exact Nf (s:=⟨fun _=>0,0,w,_,pr⟩) FQ b fun h b=>j _ _ b
end Go.Proofs.Z
namespace Go.Proofs.Z
open Go.Hm Go.At Go.Mc Go.Ct
variable {Cf:bQ}
section
instance:Fx Ev.enc 7 where
 len _:=rfl
 cel _:=rfl
structure MN where
 lc:FL
 lk:FL
 lq:FL
 ac:FM
 ak:FM
 aq:FM
 al:FM
 cc:Nat
 ck:Nat
 cq:Nat
 cl:Nat
 hb:Nat
 mb:Nat
 fb:Nat
def gD (Cf:bQ) (x:MN) (n:Nat):FJ:=Cf.enc++[.slice x.ac x.lc.length x.cc,.slice x.ak x.lk.length x.ck,.slice x.aq x.lq.length x.cq,JM x.hb,JM x.mb,JM x.fb,.slice x.al n x.cl]
def so (Cf:bQ) (x:MN):Prop:=x.lc.length=Cf.aB.toNat/\x.lk.length=Cf.aB.toNat/\x.lq.length=Cf.aB.toNat
abbrev yP:Nat->Nat->aQ->HP:=fun i p s=>rA i p s
abbrev uO (G:Bg) (Cf:bQ):Nat->Nat->jR->HP:=fun i p s=>C.lR G p Cf i s
abbrev uL (Cf:bQ):Nat->Nat->jO->HP:=fun _ p s=>oY p Cf s
abbrev Ij (a:FM) (c:Nat) (l:JG):HP:=ls Ev.enc 7 47 a c l
abbrev ptc (a:FM) (c:Nat) (l:FL):HP:=ls pE 1 121 a c l
abbrev r6 (a:FM) (c:Nat) (l:FL):HP:=ls pE 1 124 a c l
abbrev rz (a:FM) (c:Nat) (l:FL):HP:=ls pE 1 127 a c l
def Ya (G:Bg) (Cf:bQ) (m:Nat) (M:bU) (x:MN):IU:=[Dw<|so Cf x,aK m 0<|gD Cf x M.eF.length,ptc x.ac x.cc x.lc,r6 x.ak x.ck x.lk,rz x.aq x.cq x.lq,
  uZ yP x.lc M.aD,uZ (uO G Cf) x.lk M.bR,uZ (uL Cf) x.lq M.aT,H.jG G x.hb Cf M.aJ,jL Cf x.mb M.bH,sI Cf x.fb M.cD,Ij x.al x.cl M.eF]
def vD (G:Bg) (Cf:bQ) (m:Nat) (x:MN) (M:bU):HP:=sp<|Ya G Cf m M x
def bY (G:Bg) (Cf:bQ) (m:Nat) (M:bU):HP:=Cr fun x:MN=>sp<|Ya G Cf m M x
variable {G:Bg} {h:AH} {M:bU}
def dH (a:Hs G h (bY G Cf m M::L)):∃x,so Cf x/\Hs G h (aK m 0 (gD Cf x M.eF.length)::ptc x.ac x.cc x.lc::r6 x.ak x.ck x.lk::rz x.aq x.cq x.lq::
  uZ yP x.lc M.aD::uZ (uO G Cf) x.lk M.bR::uZ (uL Cf) x.lq M.aT::H.jG G x.hb Cf M.aJ::jL Cf x.mb M.bH::sI Cf x.fb M.cD::Ij x.al x.cl M.eF::L):=by
 obtain⟨x,a⟩:=a.Cc
 obtain⟨b,a⟩:=Hs.z7 a.fL
 exact⟨x,b,a⟩
def Ee {x:MN} (a:so Cf x) (b:Hs G h (aK m 0 (gD Cf x M.eF.length)::ptc x.ac x.cc x.lc::r6 x.ak x.ck x.lk::rz x.aq x.cq x.lq::
  uZ yP x.lc M.aD::uZ (uO G Cf) x.lk M.bR::uZ (uL Cf) x.lq M.aT::H.jG G x.hb Cf M.aJ::jL Cf x.mb M.bH::sI Cf x.fb M.cD::Ij x.al x.cl M.eF::L)):Hs G h (bY G Cf m M::L):=
 Hs.Cq (A:=fun x:MN=>sp<|Ya G Cf m M x) x (Hs.nS (A:=Ya G Cf m M x)<|Hs.dm a b)
def cB {x:MN} (M:bU) (t:so Cf x) {f g j k l o q r a b:IU} (u:Hs G h L) [v:fZ (aK m 0<|gD Cf x M.eF.length) L f] [w:fZ (ptc x.ac x.cc x.lc) f L2] [y:fZ (r6 x.ak x.ck x.lk) L2 g] [z:fZ (rz x.aq x.cq x.lq) g j] [A:fZ (uZ yP x.lc M.aD) j k] [B:fZ (uZ (uO G Cf) x.lk M.bR) k l] [D:fZ (uZ (uL Cf) x.lq M.aT) l o] [E:fZ (H.jG G x.hb Cf M.aJ) o q] [F:fZ (jL Cf x.mb M.bH) q r] [d:fZ (sI Cf x.fb M.cD) r a] [e:fZ (Ij x.al x.cl M.eF) a b]:Hs G h (bY G Cf m M::b):=
 Ee (x:=x) t (u.cI<|v.cI.trans<|(w.cI.trans<|(y.cI.trans<|(z.cI.trans<|(A.cI.trans<|(B.cI.trans<|(D.cI.trans<|(E.cI.trans<|(F.cI.trans<|(d.cI.trans<|(e.cI).cons _).cons _).cons _).cons _).cons _).cons _).cons _).cons _).cons _).cons _)
def tH {x:MN} (M:bU) (t:so Cf x) {f g j k l o q r a b:IU} (u:Hs G h L) [v:fZ (aK m 0<|gD Cf x M.eF.length) L f] [w:fZ (ptc x.ac x.cc x.lc) f L2] [y:fZ (r6 x.ak x.ck x.lk) L2 g] [z:fZ (rz x.aq x.cq x.lq) g j] [B:fZ (uZ yP x.lc M.aD) j k] [D:fZ (uZ (uO G Cf) x.lk M.bR) k l] [E:fZ (uZ (uL Cf) x.lq M.aT) l o] [F:fZ (H.jG G x.hb Cf M.aJ) o q] [I:fZ (jL Cf x.mb M.bH) q r] [d:fZ (sI Cf x.fb M.cD) r a] [e:fZ (Ij x.al x.cl M.eF) a b]:Hs G h (vD G Cf m x M::b):=
 Hs.nS (A:=Ya G Cf m M x) (Hs.dm t<|u.cI<|v.cI.trans<|(w.cI.trans<|(y.cI.trans<|(z.cI.trans<|(B.cI.trans<|(D.cI.trans<|(E.cI.trans<|(F.cI.trans<|(I.cI.trans<|(d.cI.trans<|(e.cI).cons _).cons _).cons _).cons _).cons _).cons _).cons _).cons _).cons _).cons _)
def nR {x:MN} (a:Hs G h (vD G Cf m x M::L)):so Cf x/\Hs G h (aK m 0 (gD Cf x M.eF.length)::ptc x.ac x.cc x.lc::r6 x.ak x.ck x.lk::rz x.aq x.cq x.lq::
  uZ yP x.lc M.aD::uZ (uO G Cf) x.lk M.bR::uZ (uL Cf) x.lq M.aT::H.jG G x.hb Cf M.aJ::jL Cf x.mb M.bH::sI Cf x.fb M.cD::Ij x.al x.cl M.eF::L):=Hs.z7 a.fL
def xf (a:Hs G h (bY G Cf m M::L)):∃x,Hs G h (vD G Cf m x M::L):=a.Cc
def aHf {x:MN} (a:Hs G h (vD G Cf m x M::L)):Hs G h (bY G Cf m M::L):=Hs.Cq (A:=fun x:MN=>sp<|Ya G Cf m M x) x a
def Kg {l:FL} (f:Hs G h L) [g:dZ (ptc a c) L l L'] (b:i<l.length) (d:k (JM<|l.getD i 0)):cC (qN 1 (.slice a l.length c)<|I i) fun p=>cC (vZ h p) k:=
 aGc (e:=121) (show Hs G h (ptc a c l::L') from g.of f) b d
def N2 {l:FL} (f:Hs G h L) [g:dZ (r6 a c) L l L'] (b:i<l.length) (d:k (JM<|l.getD i 0)):cC (qN 1 (.slice a l.length c)<|I i) fun p=>cC (vZ h p) k:=
 aGc (e:=124) (show Hs G h (r6 a c l::L') from g.of f) b d
def aBi {l:FL} {k:AH->Prop} (g:Hs G h L) [j:dZ (r6 a c) L l L'] (d:i<l.length) (f:∀b,Hs G b (r6 a c (l.set i q)::L')->k b):cC (qN 1 (.slice a l.length c)<|I i) fun p=>cC (Ar h 1 p<|JM q) k:=
 aLd (e:=124) (show Hs G h (r6 a c l::L') from j.of g) d f
def O5 {l:FL} (f:Hs G h L) [g:dZ (rz a c) L l L'] (b:i<l.length) (d:k (JM<|l.getD i 0)):cC (qN 1 (.slice a l.length c)<|I i) fun p=>cC (vZ h p) k:=
 aGc (e:=127) (show Hs G h (rz a c l::L') from g.of f) b d
def dc {l:FL} {k:AH->Prop} (g:Hs G h L) [j:dZ (rz a c) L l L'] (d:i<l.length) (f:∀b,Hs G b (rz a c (l.set i q)::L')->k b):cC (qN 1 (.slice a l.length c)<|I i) fun p=>cC (Ar h 1 p<|JM q) k:=
 aLd (e:=127) (show Hs G h (rz a c l::L') from j.of g) d f
def Lv {l:FL} {s:Nat->aQ} {t:aQ} (a:i<l.length) (b:Hs G h L) [k:fZ (rA i (l.getD i 0) t) L L'] {N:IU} [d:fZ (Ms yP l s i) L' N]:Hs G h (uZ yP l (bA s i t)::N):=H0 a<|b.dC (rA i (l.getD i 0) t)<|Ms yP l s i
def Rs {l:JG} {v:Ev} {k:Value×AH->Prop} {N:IU} (hb:l.length<=2^30) (b:Hs G h L) [j:dZ (Ij a c) L l L'] [m2:fZ (Ij a2 c2 [v]) L' N]
  (g:∀d e f,Hs G f (Ij d e (l++[v])::N)->k (.slice d (l++[v]).length e,f)):cC (nJ 7 56 47 h (.slice a l.length c)<|.slice a2 1 c2) k:=by
 have b:=j.of b
 exact qV (l:=l) (l2:=[v]) (a:=a) (c:=c) (a2:=a2) (c2:=c2) (b.cI<|m2.cI.cons _) FX fun d e h b=>g d e h b.qS.tail
end
section
variable {G:Bg} {h:AH} {M:bU}
theorem tE {v c:Int} (J:(i:Int)<Cf.aB) (E:(M.aD i).Ok) (k:M.eF.length<=2^30) (d:Hs G h L) [F:dZ (bY G Cf m) L M L'] (g:∀B,Hs G B (bY G Cf m (M.bK i v c).1::L')->Q (I (M.bK i v c).2) B):JL 129 [JM m,I i,I v,I c] h Q:=by
 obtain⟨x,A,d⟩:=dH<|F.of d;have f:i<x.lc.length:=by have:=A.1;omega
 unfold bU.bK at g;refine cW<|aC<|aA<|ai m d rfl<|Kg d f ?_;have d:=jH (R:=yP) (l:=x.lc) (s:=M.aD) f d;refine aE8 (i:=i) (p:=x.lc.getD i 0) (s:=M.aD i) E d fun h d=>?_;have d:=Lv (l:=x.lc) (s:=M.aD) (i:=i) (t:=(aQ.bK (M.aD i) i v c).1) f d;refine aN rfl<|aN rfl<|cT d fun q h d=>an (b:=q) d fun h d=>bZ<|bG (fun u=>?_) fun u=>?_;rw[bD2 u] at g;refine g _ ?_;have e:bA M.aD i (aQ.bK (M.aD i) i v c).1=M.aD:=by
  have:(aQ.bK (M.aD i) i v c).1=M.aD i:=by
   unfold aQ.bK at u ⊢;cases hn:aQ.kO (M.aD i) with
   |none=>rfl
   |some y=>grind
  rw[this];funext j;unfold bA;split;rename_i e;rw[e];rfl
 rw[e] at d;exact Ee A d.to;rw[bD1 u] at g;refine bW<|bI d fun H h d=>aC<|aA<|ai m d rfl<|am q d (l:=(aQ.bK (M.aD i) i v c).2.1.enc) rfl rfl<|aZ (c:=(aQ.bK (M.aD i) i v c).2.1.enc) rfl ?_;refine oR (r:=H) (i:=6) (N:=11) (D:=[]) (W:=7) d rfl rfl rfl rfl rfl fun a h d=>?_;have d:=sG (enc:=Ev.enc) (x:=(aQ.bK (M.aD i) i v c).2.1) d;refine Rs (l:=M.eF) (v:=(aQ.bK (M.aD i) i v c).2.1) k d fun w z h d=>aC<|aA<|ax (b:=m) (o:=0) d fun h d=>dT eG<|g _ ?_;have e:bM (gD Cf x M.eF.length) (0+13) [.slice w (M.eF++[(aQ.bK (M.aD i) i v c).2.1]).length z]=gD Cf {x with al:=w,cl:=z} (M.eF++[(aQ.bK (M.aD i) i v c).2.1]).length:=rfl;rw[e] at d;exact Ee (M:=(M.oZ i (aQ.bK (M.aD i) i v c).1).Zv (aQ.bK (M.aD i) i v c).2.1) (x:={x with al:=w,cl:=z}) A d.to
end
variable {G:Bg} {h:AH} {x:MN} {M:bU}
abbrev wtX (G:Bg) (Cf:bQ) (m:Nat) (x:MN) (M:bU) (p2 p3 a:Nat) (co:Int) (e:Nat->Value) (d l:Nat) (st:LoopState×Option Code) (b:Bool) (pr:Prop):HP:=
 sp [Dw pr,pD Pr 115 (qK 58) 32 e d l st,sp [aK p2 0 [JM m],aK p3 0 [I co],aK a 0 [.bool b]],vD G Cf m x M]
def Wy {co:Int} (hm:jE Cf M.bH) (f:Hs G h L) [mm:dZ (vD G Cf m x) L M L'] (A:∀W,Hs G W (vD G Cf m x M::L')->Q (.bool<|M.aH co) W):JL 115 [JM m,I co] h Q:=by
 unfold bU.aH at A;refine cW<|fB (mm.of f) fun t h f=>fB f fun u h f=>cT f fun j h f=>ai t f rfl<|dN<|cY ?_;obtain⟨T,f⟩:=nR<|f.bE<|vD G Cf m x M;refine bW<|ai t f rfl<|aC<|aA<|ai m f rfl<|Kf (C:=Cf) (m:=M.bH) f fun q qa qc h f=>?_;have f:=tH (m:=m) (x:=x) M T f;refine nY f fun d h f=>?_;intro e he;refine rK f fun l h f=>xU rfl ?_;have f:Hs G h (H.Ug 3 q qa qc (M.bH.fO.map fun k:Nat=>(k:Int))::wtX G Cf m x M t u j co e d l (.ready,none) false (∀g∈([]:FK),M.bH.qR co g.toNat=false)::mk d ()::L'):=by
  have f:=(f.dV (aK t 0 [JM m]) (aK u 0 [I co])<|aK j 0 [.bool false]).Vy;have f:=f.dV (pD Pr 115 (qK 58) 32 e d l (.ready,none)) (sp [aK t 0 [JM m],aK u 0 [I co],aK j 0 [.bool false]])<|vD G Cf m x M;have f:=Hs.Rx<|Hs.dm (p:=∀g∈([]:FK),M.bH.qR co g.toNat=false) FW f;exact f.to
 refine(H.Hb (e:=3) (p:=q) (a:=qa) (c:=qc) (xs:=M.bH.fO.map fun k:Nat=>(k:Int))<|by have:=ss (fun g=>(M.bH.eI g).isSome)<|List.range 16;simp[Mon.fO] at this ⊢;omega).No
  (X:=fun done=>wtX G Cf m x M t u j co e d l (.ready,none) false (∀g∈done,M.bH.qR co g.toNat=false)) (Z:=fun _ y=>wtX G Cf m x M t u j co e d l (.done,some .ret) true<|y∈(M.bH.fO.map fun k:Nat=>(k:Int))/\M.bH.qR co y.toNat=true) f ?_ ?_ ?_
 .intro done y h N Y f;obtain⟨z,f⟩:=kK f;have f:=f.Fc;obtain⟨k,B,rfl⟩:∃k∈M.bH.fO,(k:Int)=y:=by
   obtain⟨ys,V⟩:=Y;have:y∈M.bH.fO.map fun k:Nat=>(k:Int):=by rw[<-V];simp
   obtain⟨k,h1,h2⟩:=gk.1 this;exact⟨k,h1,h2⟩
  obtain⟨r,J⟩:=c7.1 (yC.1 B).2;have E:M.bH.run (k:Int)=some r:=by unfold Mon.run;rw[aac];exact J
  have D:M.bH.phase (k:Int)≠0:=by
   unfold Mon.phase;rw[E];have:=(hm.run k r J).2.2.1;dsimp only;omega
  have f:=(f.bE<|sp [aK t 0 [JM m],aK u 0 [I co],aK j 0 [.bool false]]).Fc;obtain⟨T,f⟩:=nR<|f.bE<|vD G Cf m x M;refine rW (yJ f) he<|kV f fun h f=>ai t f rfl<|aC<|aA<|ai m f rfl<|aXi (C:=Cf) (m:=M.bH) f fun a h f P α β=>?_;rw[P D,E,cj D];have f:=tH (m:=m) (x:=x) M T f;refine aN rfl<|aN rfl<|cT f fun p9 h f=>bN (b:=p9) (vs:=Hg r) f rfl rfl rfl rfl fun h f=>gA<|aA<|ai p9 f rfl<|ai u f rfl<|cF<|bG (fun O=>?_) fun O=>?_;refine an (b:=j) f fun h f=>lM f fun h f=> .inr ⟨rfl,?_⟩;have f:=(f.dV (aK t 0 [JM m]) (aK u 0 [I co])<|aK j 0 [.bool true]).Vy;have f:=f.dV (pD Pr 115 (qK 58) 32 e d l (.done,some .ret)) (sp [aK t 0 [JM m],aK u 0 [I co],aK j 0 [.bool true]])<|vD G Cf m x M;refine(Hs.Rx<|Hs.dm (p:=((k:Int)∈(M.bH.fO.map fun k:Nat=>(k:Int))/\M.bH.qR co ((k:Int)).toNat=true)) ⟨gk.2 ⟨k,B,rfl⟩,?_⟩ f).to;unfold Mon.qR;rw[aL,J];exact cj O
  .refine lM f fun h f=> .inl ⟨rfl,?_⟩;have f:=(f.dV (aK t 0 [JM m]) (aK u 0 [I co])<|aK j 0 [.bool false]).Vy;have f:=f.dV (pD Pr 115 (qK 58) 32 e d l (.ready,none)) (sp [aK t 0 [JM m],aK u 0 [I co],aK j 0 [.bool false]])<|vD G Cf m x M;refine(Hs.Rx<|Hs.dm (p:=∀g∈done++[((k:Nat):Int)],M.bH.qR co g.toNat=false) ?_ f).to;intro g w;rcases cg.1 w with w|w;exact z g w;rw[aV.1 w,aL];unfold Mon.qR;rw[J];exact cr O
 intro v h f;obtain⟨z,f⟩:=kK<|f.bE<|wtX G Cf m x M t u j co e d l (.ready,none) false (∀g∈M.bH.fO.map (fun k:Nat=>(k:Int)),M.bH.qR co g.toNat=false);have f:=f.Fc;have U:M.bH.gZ co=false:=by
  unfold Mon.gZ;rw[DH];intro g w;have:=z g<|gk.2 ⟨g,w,rfl⟩;rw[aL] at this;rw[this];simp
 rw[U] at A;have f:=(f.bE<|sp [aK t 0 [JM m],aK u 0 [I co],aK j 0 [.bool false]]).Fc;exact rD f fun h f=>rF<|an (b:=j) f fun h f=>qQ f fun h f=>nU<|ai j f rfl<|A _ f.to
 .intro done y v h Y f;obtain⟨z,f⟩:=kK<|f.bE<|wtX G Cf m x M t u j co e d l (.done,some .ret) true<|y∈(M.bH.fO.map fun k:Nat=>(k:Int))/\M.bH.qR co y.toNat=true;have f:=f.Fc;have F:M.bH.gZ co=true:=by
   unfold Mon.gZ;rw[ES];obtain⟨k,R,S⟩:=gk.1 z.1;refine⟨k,R,?_⟩;have:=z.2;rw[<-S,aL] at this;exact this
  rw[F] at A;have f:=(f.bE<|sp [aK t 0 [JM m],aK u 0 [I co],aK j 0 [.bool true]]).Fc;exact K4 f fun h f=>aLo<|qQ f fun h f=>nU<|ai j f rfl<|A _ f.to
end Go.Proofs.Z
end
