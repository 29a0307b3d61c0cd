/- A part of the proof. -/
import Derived.Test.YtbcndiahccicpaaGreatDoorS9
set_option linter.all false
open Go Go.Ab
variable {i k l:Nat} {a o st v x:Int} {b:Bool} {S:FL} {j:Int->Int×Bool}
namespace Go.Pc
open Go.Hm Go.Ct
variable {d m:Ln} {N w:IT} {y:aG}
section
variable {r:bT} {V:Ln} {c:CLs} {n:aG}
theorem Xd {c:CL} {p:Nat} (h:F7 c p≠0) (a:c.st=0):c.gi=true/\0<p/\F7 c p=c.gs:=by
 unfold F7 at h ⊢;grind
theorem fT.aSg (h:fT l r m V c (n::N)) (j:n.kind=11) (a:i<4) (b:n.core=(i:Int)):
  r.dQ i=true/\r.cJ=false/\r.busy=true/\HH l r c (n::N) i≠0/\(n.state=0\/n.state=1)/\((c i).st≠0\/((c i).st=0/\(c i).gi=true)):=by
 have o:0<fS 11 i l (n::N):=gS FW j b (h.nc n FW).1
 have t:r.dQ i=true:=by have:=h.t3 i a;grind
 have g:r.cJ=false:=by
  cases g:r.cJ with
  |false=>rfl
  |true=>have:=hQ (h.iU.sD<|.inl g) a;grind
 have f:r.busy=true:=by
  cases f:r.busy with
  |true=>rfl
  |false=>have:=hQ (h.iU.sD<|.inr f) a;grind
 have k:HH l r c (n::N) i≠0:=by
  have p:fS 5 i l (n::N)=0:=by have:=h.t3 i a;grind
  have q:fS 8 i l (n::N)=0:=by have:=h.t4 i a;unfold Cj at this;grind
  have:=h.c1 i a p q;have d:=(h.pN n FW j).2.1;rw[b,aL] at d;rcases d with d|d;grind;grind
 refine⟨t,g,f,k,?_,?_⟩
 .have:=(h.pN n FW j).1;grind
 .by_cases e:(c i).st=0
  .exact .inr ⟨e,(Xd k e).1⟩
  grind
theorem yv {to:Int} (b:1<=x/\x<=4) (a:to=0\/to=1):(to=0->kL x to=0)/\(to=1->kL x to=1\/kL x to=3)/\(to=1->2<=x->x=2/\kL x to=1\/(x=3\/x=4)/\kL x to=3)/\(kL x to=3->x=3\/x=4):=by
 grind[kL,Rm]
theorem fT.aSh {a:CL} (h:fT l r m V c (n::N)) (J:n.kind=11) (g:i<4) (B:n.core=(i:Int))
  (E:a.qP=(c i).qP/\a.aw=(c i).aw/\a.gi=(c i).gi/\a.gd=(c i).gd)
  (Z:(c i).st≠0->a.st=kL (c i).st n.state/\(a.st≠0->a.d=(c i).d)/\a.gs=(c i).gs)
  (T:(c i).st=0->a.st=0/\a.gs=kL (c i).gs n.state)
  (hy:y.kind=5/\y.core=(i:Int)/\y.aI=l/\y.state=kL (HH l r c (n::N) i) n.state/\(y.oS=true↔HH l r c (n::N) i=3\/HH l r c (n::N) i=4)/\(y.oS=true->(y.d0,y.d1)=yV (c i))):
  fT l r m V (bA c i a) (y::N):=by
 have hc:=h.nc n FW
 obtain⟨ha,hg,P,q,F,hw⟩:=h.aSg J g B
 have M:∀k j,fS k j l (n::N)=fS k j l N+if k=11/\j=i then 1 else 0:=fun k j=>by
  grind[dU]
 have v:∀k j,fS k j l (y::N)=fS k j l N+if k=5/\j=i then 1 else 0:=fun k j=>by
  grind[dU]
 have em:∀x,x∈N->x∈n::N:=FR
 have L:=h.Bb i g
 have hex:=h.ex i g
 have Q:yV _=V:=h.c3 i g q
 have p:1<=HH l r c (n::N) i/\HH l r c (n::N) i<=4:=by
  unfold HH at q ⊢;by_cases e:(c i).st=0;have:=Xd q e;omega;unfold F7;grind
 have Y:=yv p F
 have U:=FQ
 have e5:fS 5 i l N=0:=by have:=h.t3 i g;grind
 have e8:∀x∈N,x.kind≠8:=fun x d k=>by
  obtain⟨j,b,D,_⟩:=jU (h.nc x<|em x d).2;exact h.no8 b (by grind[Cj]) (em x d) k D
 generalize hC:bA c i a=c'
 have ci:c' i=a:=IJ
 have G:∀j,j≠i->c' j=c j:=fun j e=>IC
 have t:∀j,(c' j).qP=(c j).qP/\(c' j).aw=(c j).aw/\(c' j).gi=(c j).gi/\(c' j).gd=(c j).gd:=FR
 have z:HH l r c' (y::N) i=kL (HH l r c (n::N) i) n.state:=by
  unfold HH at q ⊢;have O:pd l r (y::N) i=pd l r (n::N) i:=by unfold pd;rw[M,v];simp
  rw[O];by_cases e:(c i).st=0;grind[Xd,F7];simp_all[F7,pd,bD2]
 have I:∀j,j≠i->HH l r c' (y::N) j=HH l r c (n::N) j:=fun j e=>by
  unfold HH pd;grind
 have R:HH l r c' _ i≠0->yV (c' i)=yV (c i):=fun u=>by
  rw[ci];unfold yV;by_cases e:(c i).st=0;grind;by_cases e2:a.st=0;exfalso;apply u;rw[z];have:HH l r c (n::N) i=(c i).st:=by unfold HH F7;rw[bD2 e]
  grind;grind
 have f:∀x,x∈y::N->x=y\/x∈n::N:=FR
 constructor
 case iU=>exact h.iU
 case ks=>exact h.ks
 case kg=>exact h.kg
 case kS=>exact h.kS
 case nc=>intro x d;rcases f x d with rfl|d;exact FQ;exact h.nc x d
 case ex=>
  intro j b o
  rw[(t j).2.2.1]
  refine h.ex j b ?_
  grind
 case Bb=>
  intro j b
  by_cases e:j=i
  .by_cases e:(c j).st=0
   .simp_all[Hi]
   simp_all[Hi]
  .rw[G j e];exact h.Bb j b
 case t1=>intro j b;have o:=h.t1 j b;grind
 case t2=>intro j b;have o:=h.t2 j b;grind
 case t3=>intro j b;have o:=h.t3 j b;grind
 case t4=>intro j b;have o:=h.t4 j b;grind
 case a1=>intro j b o;have:=h.a1 j b;grind
 case a2=>intro j b o;have:=h.a2 j b;grind
 case rq=>intro x d k1;rw[(t _).2.1];exact h.rq x (d.imp (fun d=>(f x d).resolve_left fun e=>FR) id) k1
 case rs=>rw[(t _).2.1];exact h.rs
 case c1=>
  intro j b h5 h8
  rw[I j<|FR];exact h.c1 j b FR FR
 case c2=>intro j b w;have:=h.c2 j b;grind
 case Hy=>intro j b w;have:=h.c2 j b;grind
 case gN=>grind
 case pN=>intro x d k;rcases f x d with rfl|d;omega;exact h.pN x d k
 case rN=>
  intro x d k
  rcases e6.1 d with rfl|d
  .have hp:=h.pN n FW J;grind
  .have W:x.core≠(i:Int):=fun e=>by have:=gS d k e (h.nc x<|em x d).1;omega
   have P:=h.nc x<|em x d
   rw[I _ FQ]
   exact h.rN x (em x d) k
 case uN=>
  intro x d k
  have o:=h.uN x (d.imp (fun d=>(f x d).resolve_left fun e=>FR) id) k
  rw[(t _).2.2.2]
  refine⟨o.1,fun w=>o.2 ?_⟩
  by_cases e:x.core.toNat=i
  .by_cases u:(c i).st=0
   .have:1<=(c i).gs/\(c i).gs<=4:=by
     have:=Xd q u;unfold HH at p;omega
    grind[yv]
   grind
  grind
 case c3=>
  intro j b u
  by_cases e:j=i
  .grind
  .rw[G j e];exact h.c3 j b FR
 case c5=>
  intro o w
  refine h.c5 (fun j b=>?_) fun x d k=>?_
  .grind
  grind
 case k2=>exact h.k2
theorem fT.aR8 {wr:Bool} (h:fT l r m V c N) (w:i<4) (ha:(c i).qP=false) (v:(c i).gi=false) (O:if wr then(c i).st≠2/\(c i).st≠4 else(c i).st=0)
  (R:y.kind=(if wr then 2 else 1)/\y.core=(i:Int)/\y.aI=l):
  fT l r m V (bA c i {c i with qP:=true,aw:=wr}) (y::N):=by
 have u:∀k j,fS k j l (y::N)=fS k j l N+if k=(if wr then 2 else 1)/\j=i then 1 else 0:=fun k j=>by
  grind[dU]
 have D:y.kind=1\/y.kind=2:=FR
 have P:fS 1 i l N=0/\fS 2 i l N=0/\fS 1 i l r.aH=0/\fS 2 i l r.aH=0/\B4 r i=0/\fS 8 i l N=0/\fS 9 i l N=0:=by
  have:=h.t1 i w;grind
 generalize hC:bA c i _=c'
 have ci:c' i={c i with qP:=true,aw:=wr}:=IJ
 have t:∀j,j≠i->c' j=c j:=fun j e=>IC
 have B:∀j,(c' j).st=(c j).st/\(c' j).d=(c j).d/\(c' j).gi=(c j).gi/\(c' j).gs=(c j).gs/\(c' j).gd=(c j).gd:=fun j=>FR
 have p:∀j,HH l r c' (y::N) j=HH l r c N j:=fun j=>by
  grind[fS,HH,pd,F7]
 have L:HH l r c N i=(c i).st:=by unfold HH F7;rw[v];simp;omega
 have E:∀j,yV (c' j)=yV (c j):=fun j=>by unfold yV;grind
 have d:∀x,x∈y::N->x=y\/x∈N:=FR
 constructor
 case iU=>exact h.iU
 case ks=>exact h.ks
 case kg=>exact h.kg
 case kS=>exact h.kS
 case nc=>intro x a;rcases d x a with rfl|a;exact FQ;exact h.nc x a
 case ex=>have:=h.ex;grind
 case Bb=>have:=h.Bb;grind
 case t1=>
  intro j f
  have o:=h.t1 j f
  grind
 case t2=>intro j f;have o:=h.t2 j f;grind
 case t3=>intro j f;have o:=h.t3 j f;grind
 case t4=>intro j f;have o:=h.t4 j f;grind
 case a1=>intro j f o;have:=h.a1 j f;grind
 case a2=>intro j f o G;have:=h.a2 j f;grind
 case rq=>
  intro x a q
  have F:x=y\/(x∈N\/x∈r.aH):=FR
  rcases F with rfl|a
  .grind
  .have M:=h.bd a;have z:x.core≠(i:Int):=by
    rcases a with a|a<;>rcases q with q|q<;>(grind[gS])
   rw[t _ FQ];exact h.rq x a q
 case rs=>intro b g Q;have:=P.2.2.2.2.1;unfold B4 at this;rw[t _ fun e=>by have:=h.iU.core;grind];exact h.rs b g Q
 case c1=>intro j f I J;rw[p];rw[u] at I J;exact h.c1 j f FQ FQ
 case c2=>simp only[p];exact h.c2
 case Hy=>simp only[p];intro j f o x a k;rcases d x a with rfl|a;omega;exact h.Hy j f o x a k
 case gN=>
  intro x a k
  rcases d x a with rfl|a
  .omega
  .have M:=h.nc x a;have z:x.core≠(i:Int):=fun e=>by grind[gS]
   simp only[p]
   rw[t _ FQ];exact h.gN x a k
 case pN=>intro x a k;rcases d x a with rfl|a;omega;exact h.pN x a k
 case rN=>intro x a k;simp only[p];rcases d x a with rfl|a;omega;exact h.rN x a k
 case uN=>
  intro x a k
  rw[(B _).2.2.2.1,(B _).2.2.2.2];exact h.uN x (a.imp (fun a=>(d x a).resolve_left fun e=>FR) id) k
 case c3=>intro j f;rw[p,E];exact h.c3 j f
 case c5=>simp only[p];exact fun o G=>h.c5 o FR
 grind[k2]
theorem fT.sE {I:Ln} (h:fT l r m V c N) (t:i<4) (ha:(c i).qP=false) (B:(c i).st≠0)
  (Z:y.kind=3/\y.core=(i:Int)/\y.aI=l/\(y.d0,y.d1)=(c i).d/\y.oS=qH (c i).st) {q:Bool} (Q:q=(c i).aw\/True):
  fT l r m V (bA c i ⟨0,I,false,q,true,(c i).st,(c i).d⟩) (y::N):=by
 have R:=h.ex i t<|.inl B
 have w:∀k j,fS k j l (y::N)=fS k j l N+if k=3/\j=i then 1 else 0:=fun k j=>by
  grind[dU]
 have U:fS 1 i l N=0/\fS 2 i l N=0/\fS 1 i l r.aH=0/\fS 2 i l r.aH=0/\B4 r i=0/\fS 8 i l N=0/\fS 9 i l N=0:=by
  have:=h.t1 i t;grind
 have W:fS 3 i l N=0/\fS 3 i l r.aH=0/\fS 10 i l N=0:=by have:=h.t2 i t;grind
 generalize hC:bA c i _=c'
 have ci:c' i=⟨0,I,false,q,true,(c i).st,(c i).d⟩:=IJ
 have v:∀j,j≠i->c' j=c j:=fun j e=>IC
 have G:∀j,(c' j).qP=(c j).qP:=fun j=>FR
 have E:HH l r c N i=(c i).st:=by unfold HH F7;rw[bD2 B]
 have p:∀j,HH l r c' (y::N) j=HH l r c N j:=fun j=>by
  by_cases e:j=i;subst e;rw[E];unfold HH pd;rw[w,ci];simp[F7];unfold HH pd;grind
 have L:∀j,yV (c' j)=yV (c j):=fun j=>by
  by_cases e:j=i;simp_all[yV,bD2];grind
 have d:∀x,x∈y::N->x=y\/x∈N:=FR
 have z:∀x,(x∈N\/x∈r.aH)->(x.kind=1\/x.kind=2\/x.kind=3)->x.core≠(i:Int):=fun x a J e=>by
  have F:=h.bd a;grind[gS]
 constructor
 case iU=>exact h.iU
 case ks=>exact h.ks
 case kg=>exact h.kg
 case kS=>exact h.kS
 case nc=>intro x a;rcases d x a with rfl|a;exact FQ;exact h.nc x a
 case ex=>have:=h.ex;grind
 case Bb=>have:=h.Bb;grind
 case t1=>intro j f;have o:=h.t1 j f;grind
 case t2=>
  intro j f
  have o:=h.t2 j f
  grind
 case t3=>intro j f;have o:=h.t3 j f;grind
 case t4=>intro j f;have o:=h.t4 j f;grind
 case a1=>intro j f;rw[p,G];exact h.a1 j f
 case a2=>intro j f o D;rw[G] at o;rw[p];by_cases e:j=i;(subst e;rw[ha] at o;cases o);(rw[v j e] at D;exact h.a2 j f o D)
 case rq=>
  intro x a J
  have u:=a.imp (fun a=>(d x a).resolve_left fun e=>FR) id
  have:=z x u FQ
  have F:=h.bd u
  rw[v _ FQ];exact h.rq x u J
 case rs=>intro b g Y;have:=U.2.2.2.2.1;unfold B4 at this;rw[v _ fun e=>by have:=h.iU.core;grind];exact h.rs b g Y
 case c1=>intro j f O P;rw[p];rw[w] at O P;exact h.c1 j f FQ FQ
 case c2=>simp only[p];exact h.c2
 case Hy=>simp only[p];intro j f o x a k;rcases d x a with rfl|a;omega;exact h.Hy j f o x a k
 case gN=>
  intro x a k
  rcases d x a with rfl|a
  .omega
  .have F:=h.nc x a;have T:x.core≠(i:Int):=fun e=>by grind[gS]
   simp only[p]
   rw[v _ FQ];exact h.gN x a k
 case pN=>intro x a k;rcases d x a with rfl|a;omega;exact h.pN x a k
 case rN=>intro x a k;simp only[p];rcases d x a with rfl|a;omega;exact h.rN x a k
 case uN=>
  intro x a k
  have M:x=y\/(x∈N\/x∈r.aH):=FR
  rcases M with rfl|a
  .grind[Int.toNat_natCast,qH]
  .have:=z x a FQ;have F:=h.bd a;rw[v _ FQ];exact h.uN x a k
 case c3=>intro j f;rw[p,L];exact h.c3 j f
 case c5=>simp only[p];exact fun o D=>h.c5 o FR
 grind[k2]
theorem fT.aZk {D:Ln} (h:fT l r m V c N) (b:i<4) (q:(c i).st=2\/(c i).st=4):
  fT l r m D (bA c i {c i with st:=4,d:=D}) N:=by
 have p:HH l r c N i=(c i).st:=by unfold HH F7;rw[aac]
 have o:HH l r c N i=2\/HH l r c N i=4:=by rw[p];exact q
 have L:=h.c2 i b o
 have z:=h.Hy i b o
 have kJ:(c i).qP=false:=by cases e:(c i).qP with|false=>rfl|true=>have:=h.a1 i b e;omega
 have F:∀x∈N,x.kind≠8:=fun x a k=>by
  have w:=h.nc x a;obtain⟨j,f,y,B⟩:=jU w.2;have J:=h.gN x a k;by_cases e:x.state=1;grind;by_cases e2:j=i;have:=h.t1 j f;grind[gS];grind
 generalize hC:bA c i _=c'
 have ci:c' i={c i with st:=4,d:=D}:=IJ
 have E:∀j,j≠i->c' j=c j:=fun j e=>IC
 have g:∀j,(c' j).qP=(c j).qP/\(c' j).aw=(c j).aw/\(c' j).gi=(c j).gi/\(c' j).gs=(c j).gs/\(c' j).gd=(c j).gd:=FR
 have t:HH l r c' N i=4:=by unfold HH;rw[ci];simp[F7]
 have G:∀j,j≠i->HH l r c' N j=HH l r c N j:=fun j e=>by grind[HH]
 constructor
 case iU=>exact h.iU
 case ks=>exact h.ks
 case kg=>exact h.kg
 case kS=>exact h.kS
 case nc=>exact h.nc
 case ex=>have:=h.ex;grind
 case Bb=>have:=h.Bb;grind
 case t1=>intro j f;rw[(g j).1];exact h.t1 j f
 case t2=>intro j f;rw[(g j).2.2.1];exact h.t2 j f
 case t3=>exact h.t3
 case t4=>exact h.t4
 case a1=>grind
 case a2=>grind
 case rq=>intro x a k;rw[(g _).2.1];exact h.rq x a k
 case rs=>rw[(g _).2.1];exact h.rs
 case c1=>intro j f u v;have:=h.c1 j f u v;grind
 case c2=>
  grind
 case Hy=>grind
 case gN=>grind
 case pN=>exact h.pN
 case rN=>
  intro x a k
  have I:=h.rN x a k
  grind
 case uN=>intro x a k;rw[(g _).2.2.2.1,(g _).2.2.2.2];exact h.uN x a k
 case c3=>
  grind[yV]
 case c5=>grind
 grind[k2]
theorem Eu {r:bT}:∀(f i:Nat),(∀c,c∈r.jV x f i↔(i<=c/\c<i+f)/\r.mS x c=true)/\(r.jV x f i).Nodup/\(r.Az x f i= -1↔∀c,i<=c->c<i+f->r.mS x c=false):=by
 intro f;induction f with
 |zero=>grind[bT.jV,bT.Az]
 |succ f a=>
  intro i;unfold bT.jV bT.Az;grind
theorem tQ {r:bT} {c:Nat}:c∈r.iX x↔c<4/\r.mS x c=true:=by
 grind[Eu,bT.iX]
theorem Es {r:bT}:(r.iX x).Nodup:=(Eu 4 0).2.1
theorem Im {r:bT}:r.first x= -1↔∀c:Nat,c<4->(c:Int)≠x->r.sh c=false/\(c:Int)≠r.owner:=by
 simp_all[Eu,bT.first,bT.mS]
theorem fT.j3 (h:fT l r m V c N) (a:r.cJ=false):r.kS=false:=by
 cases e:r.kS with
 |false=>rfl
 |true=>have:=h.kS e;grind
def bT.say (r:bT) (b:Bool) (d:Ln):bT:={r with kS:=b,d0:=d.1,d1:=d.2}
theorem fT.say (h:fT l r m V c N) (a:r.cJ=true):fT l (bT.say r b d) m V c N:=by
 constructor;exact⟨h.iU.core,h.iU.owner,h.iU.aH,h.iU.jN,h.iU.fY,h.iU.sD,h.iU.gb⟩;exact h.ks;exact h.kg;intro _;exact a;exact h.nc;exact h.ex;exact h.Bb;exact h.t1;exact h.t2;exact h.t3;exact h.t4;exact h.a1;exact h.a2;exact h.rq;exact h.rs;exact h.c1;exact h.c2;exact h.Hy;exact h.gN;exact h.pN;exact h.rN;exact h.uN;exact h.c3;exact h.c5;exact h.k2
theorem fT.aZa (h:fT l r m V c N) (hb:r.busy=true) (k:r.cJ=false) (d:r.kI=true) (o:r.aX.kind=0):fT l r.lA m V c N:=by
 have a:=fun x g=>h.Bj d (x:=x) g;have f:∀i,B4 r i=0/\B4 r.lA i=0:=fun i=>by grind[B4,bT.lA]
 have j:∀i,Cj r i=0/\Cj r.lA i=0:=fun i=>by grind[Cj,bT.lA]
 constructor;exact I2 h.iU d;intro e;cases e;intro e;cases e;intro e;cases e;exact h.nc;exact h.ex;exact h.Bb;intro i b;have:=h.t1 i b;rw[(f i).1] at this;exact this;exact h.t2;exact h.t3;intro i b;have:=h.t4 i b;grind;exact h.a1;exact h.a2;exact h.rq;intro e;cases e;exact h.c1;exact h.c2;exact h.Hy;exact h.gN;grind;grind;exact h.uN;exact h.c3;exact h.c5;intro e;cases e
theorem fT.dW (h:fT l r m V c N) (hb:r.busy=true) (t:r.cJ=false) (M:r.kI=true) (hk:r.aX.kind=1\/r.aX.kind=2)
  (W:HH l r c N r.aX.core.toNat=0->d=V) (p:r.aX.kind=1->∀j,j<4->HH l r c N j≠2/\HH l r c N j≠4):
  fT l (r.dW l d).1 m V c ((r.dW l d).2++N)/\(r.dW l d).1.cJ=true:=by
 have I:=fun x g=>h.Bj M (x:=x) g
 obtain⟨i,B,q,w⟩:∃i:Nat,i<4/\r.aX.core=(i:Int)/\r.aX.core.toNat=i:=⟨_,by have:=h.iU.core;omega,by have:=h.iU.core;omega,rfl⟩
 have a:=D7 (aI:=l) (d:=d) (Jg.mk h.iU.core h.iU.owner h.iU.aH h.iU.jN (h.iU.fY hb t) hb t) FQ M
 have z:B4 r i=1:=by unfold B4;rw[bD2 FR]
 have kJ:(c i).qP=true:=by have:=h.t1 i B;cases g:(c i).qP<;>simp_all
 have hz:fS 8 i l N=0/\fS 9 i l N=0/\fS 4 i l N=0:=by
  have:=h.t1 i B;have F:=h.t4 i B;unfold Cj at F;rw[t] at F;rw[z,kJ] at this;simp at this F;omega
 have g0:∀j,Cj r j=0:=fun j=>by grind[Cj]
 have O:=h.rs hb t FQ
 rw[w] at O
 have e8:∀x∈N,x.kind≠8:=fun x g k=>by
  obtain⟨j,b,J,_⟩:=jU (h.nc x g).2;exact h.no8 b (g0 j) g k J
 have β:∀j,j<4->(HH l r c N j=1↔r.sh j=true)/\(2<=HH l r c N j↔r.owner=(j:Int)):=fun j b=>h.c1 j b (by have:=h.t3 j b;grind[hQ]) (by have:=h.t4 j b;grind)
 have α:∀j,0<=HH l r c N j->HH l r c N j≠0->HH l r c N j=1\/2<=HH l r c N j:=FQ
 have Z:∀j,j<4->0<=HH l r c N j:=fun j b=>by have:=h.Bb j b;unfold HH F7;grind
 rw[w] at W
 have main:∀(f:bT) (st:Int),f={r with owner:=f.owner,sh:=f.sh,cJ:=true}->wF l f->(st=1\/st=2\/st=4)->(st=4↔(c i).aw=true)->
   (st=1->f.sh i=true/\HH l r c N i=0/\∀j,j<4->HH l r c N j≠2/\HH l r c N j≠4)->
   (st≠1->f.owner=(i:Int)/\∀j:Nat,j<4->f.sh j=false/\((j:Int)≠(i:Int)->HH l r c N j=0))->(st=2->HH l r c N i=0)->
   (∀j:Nat,j<4->j≠i->(f.sh j=r.sh j)/\(f.owner=(j:Int)↔r.owner=(j:Int)))->
   fT l f m V c (r.oT l st d::N):=by
  intro f st er a T G P Q R Y
  have v:(r.oT l st d).kind=8/\(r.oT l st d).core=(i:Int)/\(r.oT l st d).aI=l:=⟨rfl,q,rfl⟩
  have E:∀k j,fS k j l (r.oT l st d::N)=fS k j l N+if k=8/\j=i then 1 else 0:=fun k j=>by
   rw[dU];grind
  have D:f.aH=r.aH/\f.busy=true/\f.cJ=true/\f.dQ=r.dQ/\f.kS=r.kS/\f.aX=r.aX:=FR
  have u:∀j,HH l f c (r.oT l st d::N) j=HH l r c N j:=fun j=>by unfold HH pd;rw[E,aaa,D.1];rfl
  have es:∀j,B4 f j=0:=fun j=>by grind[B4]
  have o:∀x,x∈r.oT l st d::N->x=r.oT l st d\/x∈N:=FR
  constructor
  case iU=>exact a
  case ks=>grind
  case kg=>grind
  case kS=>grind
  case nc=>intro x g;rcases o x g with rfl|g;exact⟨v.2.2,FR⟩;exact h.nc x g
  case ex=>exact h.ex
  case Bb=>exact h.Bb
  case t1=>
   intro j b
   have p:=h.t1 j b
   by_cases e:j=i
   .grind
   .have:B4 r j=0:=by unfold B4;rw[aaa]
    grind
  case t2=>intro j b;have p:=h.t2 j b;grind
  case t3=>intro j b;have p:=h.t3 j b;grind
  case t4=>
   intro j b
   have p:=h.t4 j b
   have δ:Cj f j=if j=i then 1 else 0:=by
    unfold Cj;rw[D.2.2.1,D.2.2.2.2.2];by_cases e:j=i;grind;grind
   grind
  case a1=>simp only[u];exact h.a1
  case a2=>simp only[u];exact h.a2
  case rq=>intro x g k1;exact h.rq x FR k1
  case rs=>grind
  case c1=>
   grind
  case c2=>grind
  case Hy=>grind
  case gN=>
   intro x g k
   rcases o x g with rfl|g
   .simp only[u];rw[v.2.1,aL];exact⟨T,G,P,Q,R,W⟩
   grind
  case pN=>grind
  case rN=>grind
  case uN=>intro x g k;exact h.uN x FR k
  case c3=>simp only[u];exact h.c3
  case c5=>simp only[u];exact fun p h2=>h.c5 p FR
  case k2=>grind
 unfold bT.dW at a ⊢
 by_cases k2:r.aX.kind=2
 .rw[bD2 k2] at a ⊢;refine⟨main _ 4 rfl a FQ FR FQ ?_ FQ ?_,rfl⟩
  .intro _;refine⟨q,fun j b=>⟨rfl,fun e=>hK fun e0=>?_⟩⟩;have y:=h.k2 hb t FQ j b fun _=>FR;grind[hQ]
  .intro j b e;have y:=h.k2 hb t FQ j b fun _=>FR;rw[hQ M b] at y;grind
 .rw[bD1 k2] at a ⊢;have U:=h.a2 i B kJ (by cases e:(c i).aw with|false=>rfl|true=>grind);by_cases L:r.first r.aX.core= -1
  .rw[bD2 L] at a ⊢;have γ:=Im.1 L;refine⟨main _ 2 rfl a FQ FR FQ ?_ (fun _=>U) ?_,rfl⟩
   .intro _;refine⟨q,fun j b=>⟨?_,FR⟩⟩;grind[mE]
   .intro j b e;constructor
    .unfold mE;grind
    grind
  .rw[bD1 L] at a ⊢;refine⟨main _ 1 rfl a FQ FR ?_ FQ FQ ?_,rfl⟩
   .intro _;refine⟨?_,U,p FQ⟩;unfold mE;grind
   .intro j b e;constructor
    .unfold mE;grind
    grind
theorem fT.y3 (h:fT l r m V c (n::N)) (j:n.kind=5) (a:i<4) (f:n.core=(i:Int)):
  r.dQ i=true/\r.cJ=false/\r.busy=true/\fS 5 i l N=0/\fS 11 i l N=0:=by
 have g:=h.nc n FW
 have e:r.dQ i=true:=by
  have:=h.t3 i a;rw[dU (k:=5),aac] at this;grind
 have d:r.cJ=false:=by
  cases d:r.cJ with
  |false=>rfl
  |true=>have:=hQ (h.iU.sD<|.inl d) a;grind
 have b:r.busy=true:=by
  cases b:r.busy with
  |true=>rfl
  |false=>have:=hQ (h.iU.sD<|.inr b) a;grind
 have:=h.t3 i a
 rw[dU (k:=5),aac,dU,aaa,e] at this
 grind
theorem fT.dA {r':bT} {z:Ln} (h:fT l r m V c (n::N)) (y:n.kind=5) (I:i<4) (u:n.core=(i:Int))
  (O:r'={r with owner:=r'.owner,sh:=r'.sh,dQ:=mE r.dQ n.core false}) (q:Jg l r')
  (d:∀j:Nat,j<4->j≠i->(r'.sh j=r.sh j)/\(r'.owner=(j:Int)↔r.owner=(j:Int)))
  (G:(HH l r c (n::N) i=1↔r'.sh i=true)/\(2<=HH l r c (n::N) i↔r'.owner=(i:Int)))
  (J:(∀j,j<4->HH l r c (n::N) j≠3/\HH l r c (n::N) j≠4)->(∀x∈N,x.kind=5->x.oS=false)->z=V):fT l r' z V c N:=by
 obtain⟨R,w,p,F,D⟩:=h.y3 y I u
 have T:=h.nc n FW
 have B:∀k j,fS k j l (n::N)=fS k j l N+if k=5/\j=i then 1 else 0:=fun k j=>by
  rw[dU];grind
 have em:∀x,x∈N->x∈n::N:=FR
 have g:r'.aH=r.aH/\r'.busy=true/\r'.cJ=false/\r'.dQ=mE r.dQ n.core false/\r'.kS=r.kS/\r'.aX=r.aX:=FR
 have f:∀j,HH l r' c N j=HH l r c (n::N) j:=fun j=>by unfold HH pd;rw[B,aaa,g.1];rfl
 have t:∀j,r'.dQ j=if j=i then false else r.dQ j:=fun j=>by rw[g.2.2.2.1];unfold mE;grind
 have L:∀x∈N,x.kind=5\/x.kind=11->x.core≠(i:Int):=fun x a k e=>by
  rcases k with k|k<;>(have:=gS a k e (h.nc x<|em x a).1;omega)
 have g0:∀j,Cj r j=0/\Cj r' j=0:=fun j=>by unfold Cj;grind
 have M:∀x∈N,x.kind≠8:=fun x a k=>by
  obtain⟨j,b,v,_⟩:=jU (h.nc x<|em x a).2;exact h.no8 b (g0 j).1 (em x a) k v
 have P:∀j,B4 r' j=B4 r j:=fun j=>by unfold B4;grind
 constructor
 case iU=>exact q.aFr
 case ks=>rw[g.2.2.2.2.2];exact fun _=>h.ks p
 case kg=>grind
 case kS=>rw[g.2.2.2.2.1,h.j3 w];grind
 case nc=>exact fun x a=>h.nc x<|em x a
 case ex=>exact h.ex
 case Bb=>exact h.Bb
 case t1=>intro j b;have o:=h.t1 j b;grind
 case t2=>intro j b;have o:=h.t2 j b;grind
 case t3=>
  intro j b
  have o:=h.t3 j b
  grind
 case t4=>intro j b;have o:=h.t4 j b;grind
 case a1=>simp only[f];exact h.a1
 case a2=>simp only[f];exact h.a2
 case rq=>exact fun x a=>h.rq x FR
 case rs=>rw[g.2.2.2.2.2];exact fun _ _=>h.rs p w
 case c1=>
  intro j b F Q
  rw[f]
  by_cases e:j=i
  .grind
  .rw[(d j b e).1,(d j b e).2];exact h.c1 j b FR FR
 case c2=>simp only[f];exact h.c2
 case Hy=>simp only[f];exact fun j b E x a=>h.Hy j b E x<|em x a
 case gN=>grind
 case pN=>
  intro x a k
  have p:=h.nc x<|em x a
  have o:=h.pN x (em x a) k
  grind
 case rN=>
  intro x a k
  have p:=h.nc x<|em x a
  have o:=h.rN x (em x a) k
  grind
 case uN=>exact fun x a=>h.uN x FR
 case c3=>simp only[f];exact h.c3
 case c5=>simp only[f];exact J
 case k2=>
  rw[g.2.2.2.2.2]
  intro _ _ k j b a F7
  rw[t]
  by_cases e:j=i
  .have U:=(h.rN n FW y).1 k;grind
  .rw[bD1 e];refine h.k2 p w k j b a ?_;grind
theorem fT.nH (h:fT l r m V c (n::N)) (G:n.kind=5):
  r.dQ n.core.toNat=true/\fT l (iN.nH (r,m) l n).1.1 (iN.nH (r,m) l n).1.2 V c ((iN.nH (r,m) l n).2++N):=by
 have U:=h.nc n FW
 obtain⟨i,F,t,P⟩:=jU U.2
 obtain⟨ha,D,B,h5,α⟩:=h.y3 G F t
 refine⟨FR,?_⟩
 have I:=Ke h.iU U.2 FR
 have ht:=h.j3 D
 have u:=h.rN n FW G
 rw[P] at u
 have β:∀j,j<4->0<=HH l r c (n::N) j:=fun j a=>by have:=h.Bb j a;grind[HH,F7]
 have θ:∀(p:bT) (m1:Ln),fT l p m1 V c N->p.busy=true->p.cJ=false->p.kI=true->p.aX=r.aX->(∀j,HH l p c N j=HH l r c (n::N) j)->
   ∀j,j<4->(HH l r c (n::N) j=1↔p.sh j=true)/\(2<=HH l r c (n::N) j↔p.owner=(j:Int)):=fun p m1 L b1 g1 q1 _ M j a=>by
  rw[<-M]
  exact L.c1 j a (by have:=L.t3 j a;grind[hQ]) (by have:=L.t4 j a;grind[Cj])
 unfold iN.nH
 simp only
 by_cases w:r.aX.kind=1
 .have hr:=u.2.1 w;have R:∀p:bT,p.dQ=mE r.dQ n.core false->p.kI=true:=fun p e=>by
   have hz:∀j:Nat,j<4->p.dQ j=false:=fun j a=>by
    rw[e];unfold mE;by_cases Z:(j:Int)=n.core;grind;rw[bD1 Z];cases v:r.dQ j with
    |false=>rfl
    |true=>
     have E:=h.t3 j a;rw[v] at E;simp at E;by_cases hp:fS 11 j l (n::N)=0;obtain⟨x,v,k,ex,_⟩:=Ja (k:=5) (i:=j) (l:=l) (N:=n::N) FQ;have:=((h.rN x v k).2.1 w).1;omega;obtain⟨x,v,k,ex,_⟩:=Ja<|EG hp;have:=(h.pN x v k).2.2 w;omega
   grind[bT.kI]
  have Q:r.yS m n=m:=by unfold bT.yS;rw[aaa]
  rw[Q]
  rcases hr.2.2 with L|E
  .have b:r.dA n=(r.iE n).Kl n:=by unfold bT.dA;rw[bD1 fun e=>e w,aac,bD1 FR]
   have q:HH l r c (n::N) i=1:=FR
   have d:fT l (r.dA n) m V c N:=by
    refine h.dA G F t HX I (fun j a e=>?_) ?_ fun y O=>?_;rw[b];constructor;show mE r.sh n.core _ j=r.sh j;unfold mE;grind;show(-1:Int)=(j:Int)↔r.owner=(j:Int);grind;rw[b,q];constructor;show _↔mE r.sh n.core _ i=true;simp_all[mE,bD2,Vv];show _↔(-1:Int)=(i:Int);grind;exact h.c5 y FR
   have f:=R (r.dA n) HX
   have g:(r.dA n).cJ=false:=by rw[b];exact D
   have J:(r.dA n).aX=r.aX:=HX
   have η:(r.dA n).owner= -1:=HX
   have ζ:∀j,j<4->¬2<=HH l (r.dA n) c N j:=fun j a e=>by have:=d.V0 a e;grind
   unfold bT.rest
   rw[bD2 f,J,aaa]
   have o:(r.dA n).yV m=m:=by unfold bT.yV;rw[bD1];rw[d.j3 g];simp
   rw[o]
   exact(d.dW (by rw[b];exact B) g f FR (fun _=>d.c5 FR fun x v k=>absurd k (d.Bj f v).1) fun _ j a=>FR).1
  .have b:r.dA n=(r.iE n).qJ n:=by unfold bT.dA;rw[bD1 fun e=>e w,aaa,bD2 E.2]
   have q:HH l r c (n::N) i=3:=FR
   have T:r.owner=(i:Int):=FQ
   have d:fT l (r.iE n) m V c N:=by
    refine h.dA G F t rfl (⟨h.iU.core,h.iU.owner,h.iU.aH,h.iU.jN,h.iU.fY B D,B,D⟩) (fun j a e=>⟨rfl,Iff.rfl⟩) ?_ FR;rw[q];constructor;constructor;grind;intro e;have:=h.iU.jN i F e;omega;exact⟨fun _=>T,FQ⟩
   have γ:=d.dW B D (R (r.iE n) rfl) (.inl w) (fun _=>u.2.2 E.2) (fun _ j a=>by
    by_cases e:j=i;unfold HH pd at q ⊢;grind[F7,fS];have:¬2<=HH l (r.iE n) c N j:=fun e2=>by have:r.owner=(j:Int):=d.V0 a e2;omega
    omega)
   unfold bT.rest
   rw[bD2<|R (r.dA n) HX,b,bD1<|by show ¬r.aX.kind=0;omega]
   have o:((r.iE n).qJ n).yV m=(n.d0,n.d1):=HR
   have δ:((r.iE n).qJ n).dW l (n.d0,n.d1)=(bT.say ((r.iE n).dW l (n.d0,n.d1)).1 true (n.d0,n.d1),((r.iE n).dW l (n.d0,n.d1)).2):=by
    unfold bT.dW;have M:((r.iE n).qJ n).aX.kind=(r.iE n).aX.kind:=rfl;have e2:((r.iE n).qJ n).first ((r.iE n).qJ n).aX.core=(r.iE n).first (r.iE n).aX.core:=rfl
    rw[M,e2];split;rfl;split<;>rfl
   grind[say]
 .have b:r.dA n=(r.iE n).iC n.core:=by unfold bT.dA;rw[bD2 w]
  have d:fT l (r.dA n) (r.yS m n) V c N:=by
   refine h.dA G F t HX I (fun j a e=>?_) ?_ fun y O=>?_;rw[b];constructor;show mE r.sh n.core false j=r.sh j;unfold mE;grind;show(if r.owner=n.core then(-1:Int) else r.owner)=(j:Int)↔r.owner=(j:Int);grind;rw[b,u.1 w];constructor;show _↔mE r.sh n.core false i=true;unfold mE;grind;show _↔(if r.owner=n.core then(-1:Int) else r.owner)=(i:Int);grind;unfold bT.yS;by_cases hd:n.oS=true;grind;rw[bD1 FR];exact h.c5 y FR
  have z:(r.dA n).busy=true:=by rw[b];exact B
  have g:(r.dA n).cJ=false:=by rw[b];exact D
  have J:(r.dA n).aX=r.aX:=HX
  have ι:=h.ks B
  unfold bT.rest
  by_cases f:(r.dA n).kI=true
  .rw[bD2 f];split
   .rename_i Y;exact d.aZa z g f Y
   .rename_i Y;have o:(r.dA n).yV (r.yS m n)=r.yS m n:=by unfold bT.yV;rw[bD1];rw[d.j3 g];simp
    rw[o]
    have W:=fun j a=>d.c1 j a (by have:=d.t3 j a;grind[hQ]) (by have:=d.t4 j a;grind[Cj])
    refine(d.dW z g f FR (fun h0=>d.c5 (fun j a=>?_) fun x v k=>absurd k (d.Bj f v).1) fun e=>FR).1
    by_cases e:(j:Int)=(r.dA n).aX.core
    .grind
    .have ε:=d.k2 z g FR j a fun _=>e;grind[hQ]
  grind
theorem u6 {k:Int} (h:S.Nodup):fS k i l (eT l st S)=if k=11/\i∈S then 1 else 0:=by
 induction S with
 |nil=>simp[eT,fS]
 |cons a S b=>
  grind[List.nodup_cons,fS,eT,dU]
theorem fT.Qw (h:fT l r m V c N) (hb:r.busy=false):r.kI=true/\r.cJ=false/\r.kS=false:=by
 have a:r.cJ=false:=by cases e:r.cJ with|false=>rfl|true=>have:=h.iU.gb e;grind
 exact⟨h.iU.sD<|.inr hb,a,h.j3 a⟩
theorem fT.S9 {r':bT} (h:fT l r m V c N) (hb:r.busy=false) (Z:r.aH=n::w) (W:n.kind=0\/n.kind=1\/n.kind=2)
  (G:S.Nodup) (I:∀j∈S,j<4/\(r.sh j=true\/r.owner=(j:Int)))
  (D:n.kind≠1->∀j:Nat,j<4->(n.kind=2->(j:Int)≠n.core)->r.sh j=true\/r.owner=(j:Int)->j∈S)
  (d:n.kind=1->∀j∈S,r.owner=(j:Int)) (O:st=if n.kind=1 then 1 else 0)
  (f:r'.owner=r.owner/\r'.sh=r.sh/\r'.aH=w/\r'.busy=true/\r'.aX=n/\r'.cJ=false/\r'.kS=false) (e2:∀j,j<4->r'.dQ j=decide (j∈S)):
  fT l r' m V c (eT l st S++N):=by
 obtain⟨F,U,Y⟩:=h.Qw hb
 have y:=h.iU.aH n FR
 obtain⟨i,E,L,u⟩:=jU y.2.1
 have q:=fun x a=>h.Bj F (x:=x) a
 have p:∀k j,fS k j l r.aH=fS k j l w+if n.kind=k/\j=i then 1 else 0:=fun k j=>by
  grind[dU]
 have o:∀k j,fS k j l (eT l st S++N)=(if k=11/\j∈S then 1 else 0)+fS k j l N:=fun k j=>by rw[Kw,u6 G]
 have g:∀j,HH l r' c (eT l st S++N) j=HH l r c N j:=fun j=>by
  unfold HH pd;rw[p,o,f.2.2.1,aaa,aaa];simp
 have M:∀x∈eT l st S,x.kind=11/\x.aI=l/\x.state=st/\∃j∈S,x.core=(j:Int):=fun x a=>by
  grind[eT]
 have g0:∀j,Cj r j=0/\Cj r' j=0:=fun j=>by unfold Cj;grind
 have Q:∀x∈N,x.kind≠8:=fun x a k=>by
  obtain⟨j,b,t,_⟩:=jU (h.nc x a).2;exact h.no8 b (g0 j).1 a k t
 have s0:∀j,B4 r j=0:=fun j=>by grind[B4]
 have s1:∀j,B4 r' j=if n.kind≠0/\j=i then 1 else 0:=fun j=>by
  unfold B4;grind
 have e:∀x,x∈eT l st S++N->x∈eT l st S\/x∈N:=FR
 have v:∀x,x∈w->x∈r.aH:=FR
 have J:∀j,j<4->(HH l r c N j=1↔r.sh j=true)/\(2<=HH l r c N j↔r.owner=(j:Int)):=fun j b=>h.c1 j b (by have:=h.t3 j b;grind[hQ]) (by have:=h.t4 j b;grind)
 have z:=h.rq n<|.inr FR
 rw[u] at z
 have B:n.kind=0\/n.kind=2\/r.owner≠n.core:=by
  by_cases P:n.kind=1;right;right;intro R;have kJ:(c i).qP=true:=by
   have:=h.t1 i E;rw[p 1,bD2 ⟨P,rfl⟩] at this;cases a:(c i).qP<;>simp_all
  have:=h.a2 i E kJ FR;grind;omega
 constructor
 case iU=>
  refine Jg.aFr ⟨?_,?_,?_,?_,?_,f.2.2.2.1,f.2.2.2.2.2.1⟩
  .grind
  .rw[f.1];exact h.iU.owner
  .rw[f.2.2.1];exact fun x a=>h.iU.aH x<|v x a
  .grind
  grind
 case ks=>grind
 case kg=>grind
 case kS=>grind
 case nc=>
  intro x a;rcases e x a with a|a
  .grind
  .exact h.nc x a
 case ex=>exact h.ex
 case Bb=>exact h.Bb
 case t1=>
  intro j b
  have d:=h.t1 j b
  rw[s1,f.2.2.1]
  grind
 case t2=>intro j b;have d:=h.t2 j b;rw[p,aaa] at d;grind
 case t3=>
  intro j b
  have d:=h.t3 j b
  rw[hQ F b] at d
  simp only[o,d]
  grind
 case t4=>intro j b;have d:=h.t4 j b;grind
 case a1=>simp only[g];exact h.a1
 case a2=>simp only[g];exact h.a2
 case rq=>
  intro x a k
  refine h.rq x ?_ k
  grind
 case rs=>grind
 case c1=>grind
 case c2=>simp only[g];exact h.c2
 case Hy=>grind
 case gN=>grind
 case pN=>
  intro x a k
  rcases e x a with a|a
  .grind[Int.toNat_natCast]
  grind
 case rN=>grind
 case uN=>
  intro x a k
  refine h.uN x ?_ k
  grind
 case c3=>simp only[g];exact h.c3
 case c5=>simp only[g];exact fun d T=>h.c5 d FR
 grind
theorem fT.aWr (h:fT l r m V c N) (E:r.aH=n::w) (I:n.kind=1\/n.kind=2):fT l (r.next w) m V c (mO 9 n.core l::N):=by
 have p:=h.iU.aH n FR;obtain⟨i,G,z,B⟩:=jU p.2.1;have u:∀k j,fS k j l r.aH=fS k j l w+if n.kind=k/\j=i then 1 else 0:=fun k j=>by
  grind[dU]
 have q:∀k j,fS k j l (mO 9 n.core l::N)=fS k j l N+if k=9/\j=i then 1 else 0:=fun k j=>by
  grind[dU,mO]
 have f:∀j,HH l (r.next w) c (mO 9 n.core l::N) j=HH l r c N j:=fun j=>by
  unfold HH pd;rw[u,q,aaa,aaa];rfl
 have b:∀x,x∈mO 9 n.core l::N->x=mO 9 n.core l\/x∈N:=FR;have o:∀x,x∈w->x∈r.aH:=FR;have D:∀x,x=mO 9 n.core l->x.kind=9:=fun x e=>GZ
 constructor;exact Iy h.iU E;exact h.ks;exact h.kg;exact h.kS;intro x a;rcases b x a with rfl|a;exact⟨rfl,p.2.1⟩;exact h.nc x a;exact h.ex;exact h.Bb;intro j d;have g:=h.t1 j d;have F:B4 (r.next w) j=B4 r j:=rfl;rw[show(r.next w).aH=w from rfl];grind;intro j d;have g:=h.t2 j d;rw[show(r.next w).aH=w from rfl];grind;intro j d;have g:_=((r.next w).dQ j).toNat:=h.t3 j d;grind;intro j d;have g:_=Cj (r.next w) j:=h.t4 j d;grind;simp only[f];exact h.a1;simp only[f];exact h.a2;intro x a k;exact h.rq x (a.elim FR fun a=> .inr (o x a)) k;exact h.rs;intro j d v y;rw[f];exact h.c1 j d v y;simp only[f];exact h.c2;simp only[f];intro j d t x a k;rcases b x a with rfl|a;cases k;exact h.Hy j d t x a k;simp only[f];intro x a k;rcases b x a with rfl|a;cases k;exact h.gN x a k;intro x a k;rcases b x a with rfl|a;cases k;exact h.pN x a k;simp only[f];intro x a k;rcases b x a with rfl|a;cases k;exact h.rN x a k;intro x a k;exact h.uN x (a.elim FR fun a=> .inr (o x a)) k;simp only[f];exact h.c3;simp only[f];exact fun g t=>h.c5 g FR;exact h.k2
theorem fT.aY3 (h:fT l r m V c N) (o:r.aH=n::w) (q:n.kind=0):fT l (r.next w) m V c N:=by
 have e:∀k j,k≠0->fS k j l r.aH=fS k j l w:=fun k j p=>by
  rw[o,dU,aaa];rfl
 have a:∀j,HH l (r.next w) c N j=HH l r c N j:=fun j=>by unfold HH pd;rw[e 3 j FQ];rfl
 have d:∀x,x∈w->x∈r.aH:=FR;constructor;exact Iy h.iU o;exact h.ks;exact h.kg;exact h.kS;exact h.nc;exact h.ex;exact h.Bb;intro j f;have b:=h.t1 j f;rw[e 1 j FQ,e 2 j FQ] at b;exact b;intro j f;have b:=h.t2 j f;rw[e 3 j FQ] at b;exact b;exact h.t3;exact h.t4;simp only[a];exact h.a1;simp only[a];exact h.a2;exact fun x g=>h.rq x<|g.imp id<|d x;exact h.rs;simp only[a];exact h.c1;simp only[a];exact h.c2;simp only[a];exact h.Hy;simp only[a];exact h.gN;exact h.pN;simp only[a];exact h.rN;exact fun x g=>h.uN x<|g.imp id<|d x;simp only[a];exact h.c3;simp only[a];exact h.c5;exact h.k2
theorem fT.aN1 (h:fT l r m V c N):fT l (r.lE<|pQ l) m V c N:=by
 have e:∀k j,k≠0->fS k j l (r.lE _).aH=fS k j l r.aH:=fun k j f=>by
  show fS k j l (r.aH++[pQ l])=_;rw[Kw,dU,zz,bD1<|by grind[pQ,aG.zero]];rfl
 have a:∀j,HH l (r.lE<|pQ l) c N j=HH l r c N j:=fun j=>by unfold HH pd;grind
 have g:∀x,x∈(r.lE<|pQ l).aH->x.kind≠0->x∈r.aH:=fun x b k=>by
  have b:=b;rcases cg.1 b with b|b;exact b;rw[aV.1 b] at k;exact absurd rfl k
 constructor;exact Ii h.iU rfl ⟨by show(0:Int)<=0;omega,by show(0:Int)<4;omega⟩<|.inl rfl;exact h.ks;exact h.kg;exact h.kS;exact h.nc;exact h.ex;exact h.Bb;intro j d;rw[e 1 j FQ,e 2 j FQ];exact h.t1 j d;intro j d;have o:=h.t2 j d;grind;exact h.t3;exact h.t4;simp only[a];exact h.a1;simp only[a];exact h.a2;exact fun x b k=>h.rq x FR k;exact h.rs;simp only[a];exact h.c1;simp only[a];exact h.c2;simp only[a];exact h.Hy;simp only[a];exact h.gN;exact h.pN;simp only[a];exact h.rN;exact fun x b k=>h.uN x FR k;simp only[a];exact h.c3;simp only[a];exact h.c5;exact h.k2
theorem fT.aH6 (h:fT l r m V c N) (hb:r.busy=false) (Z:r.aH=n::w) (R:n.kind=3):
  fT l ((r.next w).iC n.core) (if r.owner=n.core/\n.oS=true then(n.d0,n.d1) else m) V c (mO 10 n.core l::N):=by
 obtain⟨Y,hg,ht⟩:=h.Qw hb
 have t:=h.iU.aH n FR
 obtain⟨i,v,Q,F⟩:=jU t.2.1
 have f:=fun x d=>h.Bj Y (x:=x) d
 have u:∀k j,fS k j l r.aH=fS k j l w+if k=3/\j=i then 1 else 0:=fun k j=>by
  grind[dU]
 have g:∀k j,fS k j l (mO 10 n.core l::N)=fS k j l N+if k=10/\j=i then 1 else 0:=fun k j=>by
  grind[dU,mO]
 have g0:∀j,Cj r j=0/\Cj ((r.next w).iC n.core) j=0:=fun j=>⟨by grind[Cj],by unfold Cj;rw[bD1];intro e;have:r.cJ=true:=e.1;grind⟩
 have e8:∀x∈N,x.kind≠8:=fun x d k=>by
  obtain⟨j,a,E,_⟩:=jU (h.nc x d).2;exact h.no8 a (g0 j).1 d k E
 have D:∀j,j<4->(HH l r c N j=1↔r.sh j=true)/\(2<=HH l r c N j↔r.owner=(j:Int)):=fun j a=>h.c1 j a (by have:=h.t3 j a;grind[hQ]) (by have:=h.t4 j a;grind)
 have M:(c i).gi=true/\fS 3 i l N=0/\fS 3 i l w=0/\fS 10 i l N=0:=by
  have:=h.t2 i v;rw[u,bD2 ⟨rfl,rfl⟩] at this;cases d:(c i).gi with
  |false=>grind
  |true=>grind
 have G:(c i).st=0/\(c i).qP=false:=by
  have:=h.ex i v;rw[M.1] at this;constructor;grind;grind
 have L:HH l r c N i=(c i).gs:=by
  unfold HH F7 pd;rw[u,G.1,M.1];simp
 have z:HH l ((r.next w).iC n.core) c (mO 10 n.core l::N) i=0:=by
  unfold HH F7;have:pd l ((r.next w).iC n.core) (mO 10 n.core l::N) i=0:=by
   unfold pd;rw[g];show _+fS 3 i l w=0;grind
  grind
 have eH:∀j,j≠i->HH l ((r.next w).iC n.core) c (mO 10 n.core l::N) j=HH l r c N j:=fun j e=>by
  unfold HH;have:pd l ((r.next w).iC n.core) (mO 10 n.core l::N) j=pd l r N j:=by
   unfold pd;rw[g,u];show _+fS 3 j l w=_;simp[e]
  rw[this]
 have hle:∀j,j<4->HH l ((r.next w).iC n.core) c (mO 10 n.core l::N) j=HH l r c N j\/(j=i/\HH l ((r.next w).iC n.core) c (mO 10 n.core l::N) j=0):=FR
 have p:∀x,x∈mO 10 n.core l::N->x=mO 10 n.core l\/x∈N:=FR
 have q:∀x,x∈w->x∈r.aH:=FR
 have U:∀x,x=mO 10 n.core l->x.kind=10:=fun x e=>GZ
 have I:=h.uN n (.inr FR) R
 rw[F] at I
 constructor
 case iU=>exact Gj<|Iy h.iU Z
 case ks=>exact h.ks
 case kg=>exact h.kg
 case kS=>exact h.kS
 case nc=>intro x d;rcases p x d with rfl|d;exact⟨rfl,t.2.1⟩;exact h.nc x d
 case ex=>exact h.ex
 case Bb=>exact h.Bb
 case t1=>
  intro j a
  have o:=h.t1 j a
  have e0:B4 ((r.next w).iC n.core) j=B4 r j:=rfl
  rw[show((r.next w).iC n.core).aH=w from rfl]
  grind
 case t2=>
  intro j a
  have o:=h.t2 j a
  simp only[u,g] at o ⊢
  show fS 3 j l N+_+fS 3 j l w+_=_
  grind
 case t3=>intro j a;have o:_=(((r.next w).iC n.core).dQ j).toNat:=h.t3 j a;grind
 case t4=>intro j a;have o:=h.t4 j a;grind
 case a1=>intro j a B;have:=h.a1 j a B;grind
 case a2=>intro j a B hb;have:=h.a2 j a B hb;grind
 case rq=>intro x d k;exact h.rq x (d.elim FR fun d=> .inr (q x d)) k
 case rs=>exact h.rs
 case c1=>
  intro j a _ _
  by_cases e:j=i
  .rw[e,z];constructor
   .show _↔mE r.sh n.core false i=true;unfold mE;grind
   .show _↔(if r.owner=n.core then(-1:Int) else r.owner)=(i:Int);grind
  .constructor
   .show _↔mE r.sh n.core false j=true;unfold mE;grind
   .show _↔(if r.owner=n.core then(-1:Int) else r.owner)=(j:Int);grind
 case c2=>
  intro j a O k T e
  have y:=h.c2 j a
  grind
 case Hy=>grind
 case gN=>grind
 case pN=>grind
 case rN=>grind
 case uN=>intro x d k;exact h.uN x (d.elim FR fun d=> .inr (q x d)) k
 case c3=>
  intro j a y
  rcases hle j a with J|J
  .rw[J] at y;exact h.c3 j a y
  grind
 case c5=>
  intro o _
  by_cases W:r.owner=n.core
  .have O:=(D i v).2.2 FQ;have P:=h.c3 i v FQ;unfold yV at P;by_cases hd:n.oS=true
   .grind
   .rw[bD1 FR];refine h.c5 (fun j a=>?_) fun x d k=>absurd k (f x d).1;grind
  .rw[bD1 fun e=>W e.1];refine h.c5 (fun j a=>?_) fun x d k=>absurd k (f x d).1;grind
 case k2=>intro b;rw[show((r.next w).iC n.core).busy=r.busy from rfl,hb] at b;cases b
theorem fT.eY (h:fT l r m V c N) (hb:r.busy=false) (g:r.aH=n::w):
  fT l (bT.eY (r.next w) l m n j).1.1 (bT.eY (r.next w) l m n j).1.2 V c ((bT.eY (r.next w) l m n j).2++N):=by
 obtain⟨z,q,u⟩:=h.Qw hb
 have I:=h.iU.aH n FR
 obtain⟨i,P,W,Y⟩:=jU I.2.1
 have f:∀j,j<4->r.dQ j=false:=fun j o=>hQ z o
 have U:∀j,j<4->(HH l r c N j=1↔r.sh j=true)/\(2<=HH l r c N j↔r.owner=(j:Int)):=fun j o=>h.c1 j o (by have:=h.t3 j o;grind) (by have:=h.t4 j o;grind[Cj])
 have α:=h.iU.owner
 unfold bT.eY
 by_cases O:n.kind=3
 .rw[bD2 O];exact h.aH6 hb g O
 .rw[bD1 O];by_cases v:n.kind=1\/n.kind=2
  .rw[bD2 v];by_cases o:(j n.aY).2=true
   .rw[bD2 o];have G:((r.next w).iL n (j n.aY).1).aX=n:=rfl;unfold bT.get;by_cases B:n.kind=2
    .simp only[bD2 B];unfold bT.La;by_cases Z:((r.next w).iL n (j n.aY).1).first n.core≠ -1
     .rw[bD2 FR];have t:∀a,a∈((r.next w).iL n (j n.aY).1).iX n.core->a<4/\(r.sh a=true\/r.owner=(a:Int)):=fun a b=>by
       have:=tQ.1 b;have D:r.mS n.core a=true:=this.2;grind[bT.mS]
      refine h.S9 hb g FQ Es t (fun _ a b p F7=>tQ.2 ⟨b,?_⟩) FQ FR ⟨rfl,rfl,rfl,rfl,rfl,q,u⟩ fun a b=>?_
      .show r.mS n.core a=true;grind[bT.mS]
      .show(r.dQ a||(((r.next w).iL n _).iX n.core).contains a)=_;grind
     .rw[bD1 FR];have y:=Im.1<|Classical.not_not.1 Z;have F:=h.S9 (r':=(r.next w).iL n (j n.aY).1) (st:=0) hb g FQ DF FR
       (fun _ a b p F7=>by
        have D:r.sh a=false/\(a:Int)≠r.owner:=y a b<|p B;grind) FQ FR ⟨rfl,rfl,rfl,rfl,rfl,q,u⟩ (fun a b=>by show r.dQ a=_;grind)
      have d:((r.next w).iL n (j n.aY).1).yV m=m:=HJ
      rw[d]
      have E:∀a,HH l ((r.next w).iL n (j n.aY).1) c (eT l 0 []++N) a=HH l r c N a:=fun a=>by
       unfold HH pd;show F7 _ (fS 3 a l N+fS 3 a l w)=_;simp_all[dU,bD1]
      refine(F.dW rfl q z (.inr B) (fun T=>(h.c5 (fun a b=>?_) fun x p k=>absurd k (h.Bj z p).1)) FR).1
      by_cases e:a=i
      .grind
      .have D:r.sh a=false/\(a:Int)≠r.owner:=y a b FR;grind
    .simp only[bD1 B];have M:n.kind=1:=FQ
     have β:=(h.rq n (.inr FR)<|.inl M)
     have kJ:(c i).qP=true:=by
      have:=h.t1 i P;rw[g,dU,aac] at this;cases p:(c i).qP<;>simp_all
     have T:=h.a2 i P kJ FR
     have J:r.owner≠n.core:=FR
     have L:((r.next w).iL n (j n.aY).1).jY=(r.next w).iL n (j n.aY).1:=by unfold bT.jY;exact bD1 J
     rw[L]
     unfold bT.J2
     by_cases Q:r.owner≠ -1
     .rw[bD2<|show((r.next w).iL n _).owner≠ -1 from Q];refine h.S9 hb g FQ FR (fun a b=>?_) FQ (fun _ a b=>?_) FR ⟨rfl,rfl,rfl,rfl,rfl,q,u⟩ (fun a b=>?_)
      .have b:a=((r.next w).iL n (j n.aY).1).owner.toNat:=HN
       have b:a=r.owner.toNat:=b
       grind
      .have b:a=((r.next w).iL n (j n.aY).1).owner.toNat:=HN
       have b:a=r.owner.toNat:=b
       omega
      .show(r.dQ a||[r.owner.toNat].contains a)=_;rw[f a b];simp;rfl
     .rw[bD1<|show ¬((r.next w).iL n _).owner≠ -1 from Q];have F:=h.S9 (r':=(r.next w).iL n (j n.aY).1) hb g FQ DF FR
       FQ FR (by rw[bD2 M]) ⟨rfl,rfl,rfl,rfl,rfl,q,u⟩ (fun a b=>by show r.dQ a=_;grind)
      have d:((r.next w).iL n (j n.aY).1).yV m=m:=HJ
      rw[d]
      have E:∀a,HH l ((r.next w).iL n (j n.aY).1) c (eT l 1 []++N) a=HH l r c N a:=fun a=>by
       unfold HH pd;show F7 _ (fS 3 a l N+fS 3 a l w)=_;simp_all[dU,bD1]
      refine(F.dW rfl q z (.inl M) (fun _=>h.c5 (fun a b=>?_) fun x p k=>absurd k (h.Bj z p).1) fun _ a b=>?_).1
      .grind
      grind
   .rw[bD1 o];exact h.aWr g v
  .rw[bD1 v];have R:n.kind=0:=FR
   split
   .exact h.aY3 g R
   .have t:∀a,a∈(r.next w).iX (-1)->a<4/\(r.sh a=true\/r.owner=(a:Int)):=fun a b=>by
     have:=tQ.1 b;have D:r.mS (-1) a=true:=this.2;grind[bT.mS]
    refine h.S9 hb g (.inl R) Es t (fun _ a b p F7=>tQ.2 ⟨b,?_⟩) FQ FR ⟨rfl,rfl,rfl,rfl,rfl,q,u⟩ fun a b=>?_
    .show r.mS (-1) a=true;grind[bT.mS]
    .show(r.dQ a||((r.next w).iX<|-1).contains a)=_;grind
theorem fT.aK9 {a:Ln} (h:fT l r m V c N) (d:∀i,i<4->HH l r c N i=0) (e:∀x∈N,x.kind≠8/\(x.kind=5->x.oS=false)):fT l r a a c N:=by
 constructor;case iU=>exact h.iU
 case ks=>exact h.ks
 case kg=>exact h.kg
 case kS=>exact h.kS
 case nc=>exact h.nc
 case ex=>exact h.ex
 case Bb=>exact h.Bb
 case t1=>exact h.t1
 case t2=>exact h.t2
 case t3=>exact h.t3
 case t4=>exact h.t4
 case a1=>exact h.a1
 case a2=>exact h.a2
 case rq=>exact h.rq
 case rs=>exact h.rs
 case c1=>exact h.c1
 case c2=>exact h.c2
 case Hy=>exact h.Hy
 case gN=>grind
 case pN=>exact h.pN
 case rN=>exact fun x b k=>⟨(h.rN x b k).1,(h.rN x b k).2.1,FR⟩
 case uN=>exact h.uN
 case c3=>grind
 case c5=>grind
 grind[k2]
theorem fT.zero (l:Nat):fT l Ep (0,0) (0,0) (fun _=>⟨0,(0,0),false,false,false,0,(0,0)⟩) []:=by
 have b:∀i,HH l Ep (fun _=>⟨0,(0,0),false,false,false,0,(0,0)⟩) [] i=0:=fun i=>by unfold HH F7 pd;simp
 constructor;exact aRd l;intro e;cases e;intro e;cases e;intro e;cases e;grind;grind;grind;intro _ _;rfl;intro _ _;rfl;intro _ _;rfl;intro _ _;rfl;grind;grind;intro x a;rcases a with a|a<;>cases a;intro e;cases e;grind[Ep];grind;grind;grind;grind;grind;intro x a;rcases a with a|a<;>cases a;grind;grind;intro e;cases e
end
variable {s:jR} {L:IV} {nt:aG}
section
variable {n ways:Nat} {S:Nat->IV} {no:Int} {x:vX} {C:bQ} {core:Int}
def dS (n:Nat) (s:jR) (l:Nat):CL where
 st:=if(bJ n s.S l).2=0 then(bJ n s.S l).1.st else 0
 d:=if(bJ n s.S l).2=0 then(bJ n s.S l).1.d else(0,0)
 qP:=s.pM&&decide (s.al=l)
 aw:=s.pM&&decide (s.al=l)&&s.aw
 gi:=s.uD&&decide (s.gl=l)
 gs:=if s.uD=true/\s.gl=l then s.gc.st else 0
 gd:=if s.uD=true/\s.gl=l then s.gc.d else(0,0)
def Jh:(dS n s l).st=if(bJ n s.S l).2=0 then(bJ n s.S l).1.st else 0:=rfl
def aPt:(dS n s l).d=if(bJ n s.S l).2=0 then(bJ n s.S l).1.d else(0,0):=rfl
def aS9:(dS n s l).gs=if s.uD=true/\s.gl=l then s.gc.st else 0:=rfl
def aRp:(dS n s l).gd=if s.uD=true/\s.gl=l then s.gc.d else(0,0):=rfl
theorem aBf {l:Int} (h:l≠no):Go.Ct.get l (zM no L)=Go.Ct.get l L:=by
 induction L with
 |nil=>rfl
 |cons t L a=>
  grind[zM,Go.Ct.get]
theorem aPd {l:Int} (h:l≠no):Go.Ct.get l (L++[(no,x)])=Go.Ct.get l L:=by
 grind[Go.Ct.get]
theorem mh {l:Int} {m:Nat} (h:cU n l=m->Go.Ct.get l L=Go.Ct.get l (S m)):bJ n (bA S m L) l=bJ n S l:=by
 grind[bJ,cU,cR,bO]
theorem nE {l:Int} (h:l≠no):bJ n (jQ n S no) l=bJ n S l:=by
 grind[jQ,mh,aBf]
theorem mR {l:Int} (h:l≠no):bJ n (pB n ways S no x).1 l=bJ n S l:=by
 grind[pB,mh,aBf,aPd]
theorem Eh {l:Int} (h:l≠no):bJ n (Gh n ways S no) l=bJ n S l:=by
 grind[Gh,mR,nE]
def I0 (a:∀i,tU ways<|S i) (b:0<=no):(bJ n (jQ n S no) no).2=12:=by
 unfold jQ;rw[aaa];unfold bJ;rw[aaa,cR,y6<|Q4 (a _).nd]
theorem Gr:(jQ n S no i).length<=(S i).length:=by
 unfold jQ;split;grind;unfold bA;split;rename_i e;subst e;exact zK.length_le;grind
theorem de (b:(bJ n S no).2=0):((pB n ways S no x).1 i).length<=(S i).length:=by
 obtain⟨a,d⟩:=tJ b;have:=R9 a;unfold pB;split;grind[bA];grind[bA]
theorem bu (f:∀i,tU ways<|S i) (a:(bJ n S no).2=0):(Gh n ways S no i).length<=(S i).length:=by
 obtain⟨b,d⟩:=tJ a;have g:=R9 b;unfold Gh;rw[bD2 a];unfold pB;have e:zM no (jQ n S no<|cU n no)=zM no (S<|cU n no):=by rw[az d,aA1 (f _).nd]
 split;grind[bA,Gr];grind[bA,Gr]
theorem Q8 (a:(bJ n S no).2=0):(jQ n S no<|cU n no).length<(S<|cU n no).length:=by
 obtain⟨b,d⟩:=tJ a;simp_all[az,R9]
structure Lb (C:bQ) (s:jR):Prop where
 al:s.pM=true->(0<=s.al/\s.al<C.aF)/\((bJ C.aU.toNat s.S s.al).2=0\/(s.S<|cU C.aU.toNat s.al).length<C.ways.toNat)
 gl:s.uD=true->0<=s.gl/\s.gl<C.aF
 bd:∀l,(bJ C.aU.toNat s.S l).2=0->l<C.aF
theorem kr {l:Int}:(bJ n jR.kT.S l).2≠0:=by
 grind[bJ,jR.kT,Go.Ct.get]
theorem Lb.kT:Lb C jR.kT:=⟨(fun e=>by cases e),(fun e=>by cases e),fun _ e=>absurd e kr⟩
theorem aCr {l j:Int} (f:iH C s) (h:Lb C s):Lb C (pG C s l a j):=by
 unfold pG;split
 .rename_i g;have b:=(xB g).2.2.1;refine⟨fun e=>⟨(h.al e).1,?_⟩,h.gl,fun k o=>?_⟩;rotate_left;by_cases e2:k=l;rw[e2];exact(xB g).1.2;exact h.bd k (by simp_all[eV,Prod.snd,Eh]);rcases(h.al e).2 with d|d;left;by_cases e2:s.al=l;rw[e2,Hu f.aU b];exact b;grind[bJ,Gh,Eh];right;exact CD (bu f.aU b) d
 exact h
theorem se {l j:Int} (d:iH C s) (h:Lb C s):Lb C (mQ C s l a j v):=by
 unfold mQ;split
 .rename_i b;have g:=(xB b).2.2.1;refine⟨fun e=>⟨(h.al e).1,?_⟩,h.gl,fun k o=>?_⟩;rotate_left;by_cases e2:k=l;rw[e2];exact(xB b).1.2;exact h.bd k (by simp_all[eV,Prod.snd,mR]);rcases(h.al e).2 with f|f;left;by_cases e2:s.al=l;rw[e2,Ad d.aU (xB b).1.1<|yG d.aU g];grind[mR];grind[Nat.lt_of_le_of_lt,de]
 exact h
theorem aQq {l f:Int} (b:iH C s):dS C.aU.toNat (pG C s l a f) k=dS C.aU.toNat s k:=by
 unfold pG;split;rename_i d;unfold dS;have:bJ C.aU.toNat (Gh C.aU.toNat C.ways.toNat s.S l) k=bJ C.aU.toNat s.S k:=by
  by_cases e:(k:Int)=l;rw[e];exact Hu b.aU<|(xB d).2.2.1;exact Eh e
 grind;rfl
theorem vg {l b:Int} (h:(k:Int)≠l):dS C.aU.toNat (mQ C s l a b v) k=dS C.aU.toNat s k:=by
 grind[mQ,dS,mR]
theorem aL2 {h:Int} (f:iH C s) (g:tF C s.S k a h true=0):
  ((dS C.aU.toNat s k).st=2\/(dS C.aU.toNat s k).st=4)/\dS C.aU.toNat (mQ C s k a h v) k={dS C.aU.toNat s k with st:=4,d:=aMa (dS C.aU.toNat s k).d a v}:=by
 have e:=xB g
 have b:=e.2.2.1
 have j:(dS C.aU.toNat s k).st=(bJ C.aU.toNat s.S k).1.st:=by rw[Jh,bD2 b]
 constructor
 .grind[sZ,Cm]
 .unfold mQ;rw[bD2 g];unfold dS;simp only[Ad (x:=J3 C.aU.toNat s.S k a v) f.aU e.1.1<|yG f.aU b,b,eD];rfl
theorem aD5 (a:nt.kind=9) (e:nt.aI=k) (b:k<C.aF) (ha:(dS C.aU.toNat s k).qP=true):
  fP C core s nt=({s with al:=0,aw:=false,pM:=false},[],0)/\dS C.aU.toNat {s with al:=0,aw:=false,pM:=false} k={dS C.aU.toNat s k with qP:=false,aw:=false}/\
   ∀j:Nat,j≠k->dS C.aU.toNat {s with al:=0,aw:=false,pM:=false} j=dS C.aU.toNat s j:=by
 have ha:s.pM=true/\s.al=k:=HK
 refine⟨?_,?_,?_⟩
 .unfold fP;rw[aaa,bD2 a,bD1<|by grind[vK]];grind[Bm]
 .unfold dS;simp
 .intro j d;unfold dS;have:decide (s.al=(j:Int))=false:=FR;simp[this]
theorem jc (a:nt.kind=10) (d:nt.aI=k) (b:k<C.aF) (ha:(dS C.aU.toNat s k).gi=true):
  fP C core s nt=({s with gl:=0,gc:=vX.zero,uD:=false},[],0)/\dS C.aU.toNat {s with gl:=0,gc:=vX.zero,uD:=false} k={dS C.aU.toNat s k with gi:=false,gs:=0,gd:=(0,0)}/\
   ∀j:Nat,j≠k->dS C.aU.toNat {s with gl:=0,gc:=vX.zero,uD:=false} j=dS C.aU.toNat s j:=by
 have ha:s.uD=true/\s.gl=k:=HK
 refine⟨?_,?_,?_⟩
 .unfold fP;rw[aaa,aaa,bD2 a,bD1<|by grind[vK]];grind[rU]
 .unfold dS;simp
 grind[dS]
theorem Sr (u:nt.kind=8) (o:nt.aI=k) (v:k<C.aF) (g:iH C s) (p:Lb C s) (ha:(dS C.aU.toNat s k).qP=true) (w:1<=nt.state/\nt.state<=4):
  ∃a,fP C core s nt=(a,[⟨4,core,nt.aI,0,0,0,0,false,0⟩],0)/\a={s with S:=a.S,al:=0,aw:=false,pM:=false}/\
   dS C.aU.toNat a k={dS C.aU.toNat s k with st:=nt.state,d:=if(dS C.aU.toNat s k).st≠0 then(dS C.aU.toNat s k).d else(nt.d0,nt.d1),qP:=false,aw:=false}/\
   (∀j:Nat,j≠k->dS C.aU.toNat a j=dS C.aU.toNat s j)/\Lb C a:=by
 have ha:s.pM=true/\s.al=k:=HK
 have b:(pB C.aU.toNat C.ways.toNat s.S nt.aI<|oQ C s nt).2=0:=by
  rcases(p.al ha.1).2 with h|h;rw[ha.2,<-o] at h;exact yG g.aU h;grind[pB,zK,cU]
 have f:=Ad g.aU (by omega:0<=nt.aI) b
 refine⟨{s with S:=(pB C.aU.toNat C.ways.toNat s.S nt.aI<|oQ C s nt).1,al:=0,aw:=false,pM:=false},?_,rfl,?_,?_,FR,p.gl,fun j t=>?_⟩
 .unfold fP;rw[bD2 u,bD1<|by grind[vK]];grind[vM]
 .unfold dS;rw[o] at f ⊢;simp only[f,eD];have e:(oQ C s nt).d=if(bJ C.aU.toNat s.S k).2=0 then(bJ C.aU.toNat s.S k).1.d else(nt.d0,nt.d1):=by unfold oQ;rw[o]
  rw[e]
  by_cases q:(bJ C.aU.toNat s.S k).2=0
  .have:=uR g.aU q;grind[bJ,oQ]
  .simp[oQ,q]
 .intro j t;unfold dS;grind[mR,Int]
 .by_cases e2:j=nt.aI
  .omega
  .exact p.bd j (by simp_all[eV,Prod.snd,mR])
theorem tq (Q:nt.kind=11) (u:nt.aI=k) (R:k<C.aF) (v:iH C s) (g:Lb C s) (U:nt.state=0\/nt.state=1)
  (O:(dS C.aU.toNat s k).st≠0\/((dS C.aU.toNat s k).st=0/\(dS C.aU.toNat s k).gi=true)):
  ∃f y,fP C core s nt=(f,[y],0)/\f.al=s.al/\f.aw=s.aw/\f.pM=s.pM/\f.gl=s.gl/\f.uD=s.uD/\Lb C f/\
   (y.kind=5/\y.core=core/\y.aI=k/\y.aY=0/\y.no=0/\∀σ δ,σ=(if(dS C.aU.toNat s k).st≠0 then(dS C.aU.toNat s k).st else(dS C.aU.toNat s k).gs)->δ=(if(dS C.aU.toNat s k).st≠0 then(dS C.aU.toNat s k).d else(dS C.aU.toNat s k).gd)->
    y.state=kL σ nt.state/\(y.oS=true↔σ=3\/σ=4)/\(y.oS=true->(y.d0,y.d1)=δ))/\
   ((dS C.aU.toNat f k).qP=(dS C.aU.toNat s k).qP/\(dS C.aU.toNat f k).aw=(dS C.aU.toNat s k).aw/\(dS C.aU.toNat f k).gi=(dS C.aU.toNat s k).gi/\(dS C.aU.toNat f k).gd=(dS C.aU.toNat s k).gd)/\
   ((dS C.aU.toNat s k).st≠0->(dS C.aU.toNat f k).st=kL (dS C.aU.toNat s k).st nt.state/\((dS C.aU.toNat f k).st≠0->(dS C.aU.toNat f k).d=(dS C.aU.toNat s k).d)/\(dS C.aU.toNat f k).gs=(dS C.aU.toNat s k).gs)/\
   ((dS C.aU.toNat s k).st=0->(dS C.aU.toNat f k).st=0/\(dS C.aU.toNat f k).gs=kL (dS C.aU.toNat s k).gs nt.state)/\
   (∀j:Nat,j≠k->dS C.aU.toNat f j=dS C.aU.toNat s j):=by
 have q:∀(x:vX),(iS core nt x).kind=5/\(iS core nt x).core=core/\(iS core nt x).aI=nt.aI/\(iS core nt x).aY=0/\(iS core nt x).no=0/\(iS core nt x).state=kL x.st nt.state/\((iS core nt x).oS=true↔x.st=3\/x.st=4)/\((iS core nt x).oS=true->((iS core nt x).d0,(iS core nt x).d1)=x.d):=fun x=>by
  unfold iS;split;simp_all[qH,true];refine⟨rfl,rfl,rfl,rfl,rfl,rfl,?_,FR⟩;grind[Kv]
 have W:fP C core s nt=lK C core s nt:=by
  unfold fP;rw[aaa,aaa,aaa,bD2 Q,bD1<|by grind[vK]]
 rw[W]
 unfold lK
 rw[aaa]
 by_cases p:(bJ C.aU.toNat s.S nt.aI).2=0
 .rw[bD2 p];have J:=uR v.aU p;have E:(bJ C.aU.toNat s.S k).2=0:=by rw[<-u];exact p
  have d:(dS C.aU.toNat s k).st=(bJ C.aU.toNat s.S nt.aI).1.st:=by rw[Jh,bD2 E,u]
  have F:(dS C.aU.toNat s k).d=(bJ C.aU.toNat s.S nt.aI).1.d:=by rw[aPt,bD2 E,u]
  have D:(dS C.aU.toNat s k).st≠0:=by rw[d];omega
  have b:=q (bJ C.aU.toNat s.S nt.aI).1
  have P:∀t:Nat->IV,({s with S:=t}:jR).al=s.al:=fun _=>rfl
  have a:∀t:Nat->IV,(dS C.aU.toNat {s with S:=t} k).qP=(dS C.aU.toNat s k).qP/\(dS C.aU.toNat {s with S:=t} k).aw=(dS C.aU.toNat s k).aw/\(dS C.aU.toNat {s with S:=t} k).gi=(dS C.aU.toNat s k).gi/\(dS C.aU.toNat {s with S:=t} k).gd=(dS C.aU.toNat s k).gd/\(dS C.aU.toNat {s with S:=t} k).gs=(dS C.aU.toNat s k).gs:=fun _=>⟨rfl,rfl,rfl,rfl,rfl⟩
  by_cases G:kL (bJ C.aU.toNat s.S nt.aI).1.st nt.state=0
  .simp only[bD2 G];refine⟨_,_,rfl,rfl,rfl,rfl,rfl,rfl,⟨fun e=>⟨(g.al e).1,?_⟩,g.gl,fun j w=>?_⟩,⟨b.1,b.2.1,FR,b.2.2.2.1,b.2.2.2.2.1,fun σ δ M L=>?_⟩,⟨(a _).1,(a _).2.1,(a _).2.2.1,(a _).2.2.2.1⟩,fun _=>⟨?_,fun I=>?_,(a _).2.2.2.2⟩,fun e=>absurd e D,fun j w=>?_⟩
   .by_cases e2:s.al=nt.aI
    .right;rw[e2];exact l5 (Q8 p) (v.aU _).len
    .rcases(g.al e).2 with h|h
     .left;rw[nE e2];exact h
     .right;exact CD Gr h
   .by_cases e2:j=nt.aI
    .omega
    .exact g.bd j (by rw[<-w];exact(eV Prod.snd<|nE e2).symm)
   .grind
   .rw[d,G];rw[Jh,bD1];rw[<-u,I0 v.aU FQ];decide
   .exfalso;apply I;rw[Jh,bD1];rw[<-u,I0 v.aU FQ];decide
   .unfold dS;simp only[nE<|show(j:Int)≠nt.aI by omega]
  .simp only[bD1 G];have T:=Ad (x:={(bJ C.aU.toNat s.S nt.aI).1 with st:=kL (bJ C.aU.toNat s.S nt.aI).1.st nt.state}) v.aU (by omega:0<=nt.aI)<|yG v.aU p;refine⟨_,_,rfl,rfl,rfl,rfl,rfl,rfl,⟨fun e=>⟨(g.al e).1,?_⟩,g.gl,fun j w=>?_⟩,⟨b.1,b.2.1,by rw[b.2.2.1,u],b.2.2.2.1,b.2.2.2.2.1,fun σ δ M L=>?_⟩,⟨(a _).1,(a _).2.1,(a _).2.2.1,(a _).2.2.2.1⟩,fun _=>⟨?_,fun I=>?_,(a _).2.2.2.2⟩,fun e=>absurd e D,fun j w=>?_⟩
   .by_cases e2:s.al=nt.aI
    .grind
    .rcases(g.al e).2 with h|h
     .grind[bJ,pB,mR]
     .right;exact CD (de p) h
   .by_cases e2:j=nt.aI
    .omega
    .exact g.bd j (by rw[<-w];exact(eV Prod.snd<|mR e2).symm)
   .grind
   .rw[d,Jh];grind
   .rw[F,aPt];grind
   .unfold dS;simp only[mR<|show(j:Int)≠nt.aI by omega]
 .rw[bD1 p];have d:(dS C.aU.toNat s k).st=0:=by rw[Jh,bD1<|by rw[<-u];exact p]
  have o:s.uD=true/\s.gl=k:=by
   rcases O with h|h;grind;grind[dS]
  rw[bD1 FR,aaa]
  have b:=q s.gc
  have B:(dS C.aU.toNat s k).gs=s.gc.st:=by rw[aS9,bD2 o]
  have z:(dS C.aU.toNat s k).gd=s.gc.d:=by rw[aRp,bD2 o]
  refine⟨_,_,rfl,rfl,rfl,rfl,rfl,rfl,⟨g.al,g.gl,g.bd⟩,⟨b.1,b.2.1,FR,b.2.2.2.1,b.2.2.2.2.1,fun σ δ M L=>?_⟩,⟨rfl,rfl,rfl,?_⟩,fun e=>absurd d e,fun _=>⟨d,?_⟩,fun j w=>?_⟩
  .grind
  .rw[z,aRp,bD2<|show s.uD=true/\s.gl=k from o]
  .rw[B,aS9,bD2<|show s.uD=true/\s.gl=k from o]
  .unfold dS;grind
end
variable {C:bQ} {H:nC} {X:Nat->jR} {V:Nat->Ln} {N':IT} {n:aG}
def PK (k:Int):Prop:=(1<=k/\k<=5)\/(8<=k/\k<=11)
instance (k:Int):Decidable (PK k):=by unfold PK;infer_instance
def Rn (l:Nat) (n:aG):Bool:=decide<|n.aI=(l:Int)/\PK n.kind
def H8 (l:Nat) (N:IT):IT:=N.filter<|Rn l
theorem Sd (h:n.aI=(l:Int)) (a:PK n.kind):H8 l (n::N)=n::H8 l N:=by
 grind[H8,List.filter_cons_of_pos,Rn]
theorem Ow (h:¬(n.aI=(l:Int)/\PK n.kind)):H8 l (n::N)=H8 l N:=by
 grind[H8,List.filter_cons_of_neg,Rn]
theorem Km:H8 l (N++N')=H8 l N++H8 l N':=AT N N'
theorem aOg (h:∀x∈N,x.aI=(l:Int)/\PK x.kind):H8 l N=N:=BC.2 fun x a=>cj<|h x a
theorem rf (h:∀x∈N,¬(x.aI=(l:Int)/\PK x.kind)):H8 l N=[]:=CE.2 fun x a=>by unfold Rn;grind
theorem zL {x:aG}:x∈H8 l N↔x∈N/\x.aI=(l:Int)/\PK x.kind:=by unfold H8 Rn;grind
abbrev rZ (C:bQ) (X:Nat->jR) (l:Nat):CLs:=fun i=>dS C.aU.toNat (X i) l
structure sX (C:bQ) (H:nC) (X:Nat->jR) (V:Nat->Ln) (N:IT):Prop where
 aI:∀l:Nat,l<C.aF->fT l (H l).1 (H l).2 (V l) (rZ C X l) (H8 l N)
 yZ:∀i:Nat,i<4->iH C (X i)
 Bi:∀i:Nat,i<4->Lb C (X i)
 kT:∀i:Nat,C.aB<=(i:Int)->X i=jR.kT
 nb:∀x∈N,PK x.kind->(0<=x.core/\x.core<C.aB)/\(0<=x.aI/\x.aI<C.aF)
def aIe {n:Nat}:dS n jR.kT l=⟨0,(0,0),false,false,false,0,(0,0)⟩:=by
 rfl
theorem D8:rZ C (bA X i s) l=bA (rZ C X l) i (dS C.aU.toNat s l):=by
 grind[dS,cR,bO]
theorem yF (h:dS C.aU.toNat s l=dS C.aU.toNat (X i) l):rZ C (bA X i s) l=rZ C X l:=by
 grind[dS,cR,bO]
theorem sX.cI (h:sX C H X V N) (p:N.Perm N'):sX C H X V N':=
 ⟨fun l a=>(h.aI l a).cI<|p.filter _,h.yZ,h.Bi,h.kT,fun x b=>h.nb x FR⟩
theorem sX.skip (h:sX C H X V (n::N)) (b:¬PK n.kind):sX C H X V N:=
 ⟨fun l a=>by have:=h.aI l a;grind[Ow],h.yZ,h.Bi,h.kT,fun x d=>h.nb x FR⟩
theorem sX.Ph (h:sX C H X V N) (e:∀x∈N',¬PK x.kind):sX C H X V (N'++N):=
 ⟨fun l b=>by have:=h.aI l b;grind[Km,rf],h.yZ,h.Bi,h.kT,fun x a d=>by
  rcases cg.1 a with a|a;grind;exact h.nb x a d⟩
theorem sX.i4 (hC:C.Ok) {i:Int} (h:0<=i/\i<C.aB):i.toNat<4/\((i.toNat:Nat):Int)=i:=by
 grind[bQ.Ok]
theorem sX.jA {H':nC} {a:Nat->jR} {d:Nat->Ln} {A:IT} (h:sX C H X V N) (y:k<C.aF)
  (z:fT k (H' k).1 (H' k).2 (d k) (rZ C a k) (A++H8 k N')) (u:∀l,l≠k->H' l=H l) (v:∀l,l≠k->d l=V l) (w:∀l,l≠k->rZ C a l=rZ C X l)
  (hA:∀x∈A,x.aI=(k:Int)/\PK x.kind/\0<=x.core/\x.core<C.aB) (j:∀l,l≠k->H8 l N'=H8 l N) (f:∀x∈N',x∈N)
  (o:∀i:Nat,i<4->iH C (a i)) (t:∀i:Nat,i<4->Lb C (a i)) (p:∀i:Nat,C.aB<=(i:Int)->a i=jR.kT):sX C H' a d (A++N'):=by
 refine⟨fun l g=>?_,o,t,p,fun x b q=>?_⟩
 .by_cases e:l=k
  .simp_all[Km,aOg]
  .rw[u l e,v l e,w l e,Km,rf FR,hT,j l e];exact h.aI l g
 .rcases cg.1 b with b|b
  .grind
  .exact h.nb x (f x b) q
theorem xO (h:sX C H X V N) (b:iH C s):∀j:Nat,j<4->iH C (bA X i s j):=fun j a=>by
 by_cases e:j=i;grind[cR];rw[bO e];exact h.yZ j a
theorem xX (h:sX C H X V N) (b:Lb C s):∀j:Nat,j<4->Lb C (bA X i s j):=fun j a=>by
 by_cases e:j=i;grind[cR];rw[bO e];exact h.Bi j a
def B1 (h:sX C H X V N) (b:(i:Int)<C.aB):∀j:Nat,C.aB<=(j:Int)->bA X i s j=jR.kT:=fun j a=>by
 rw[bO FQ];exact h.kT j a
theorem sX.Vp (h:sX C H X V (n::N)) (hC:C.Ok) (W:8<=n.kind/\n.kind<=11):
  ∃q out,fP C n.core (X n.core.toNat) n=(q,out,0)/\sX C H (bA X n.core.toNat q) V (out++N)/\(∀x∈out,x.aI=n.aI/\PK x.kind):=by
 have hb:=h.nb n FW<|.inr W
 obtain⟨α,β⟩:=sX.i4 hC hb.1
 obtain⟨i,f,g⟩:∃i:Nat,i<4/\n.core=(i:Int):=FR
 obtain⟨k,a,b⟩:∃k:Nat,k<C.aF/\n.aI=(k:Int):=⟨n.aI.toNat,FQ,FQ⟩
 have e0:n.core.toNat=i:=FQ
 rw[e0,g]
 have w:=h.aI k a
 rw[Sd b<|.inr W] at w
 have E:∀l,l≠k->H8 l N=H8 l (n::N):=fun l e=>(Ow FQ).symm
 have p:∀x∈N,x∈n::N:=FR
 have J:∀{q:jR} {out:IT} {e:Int},(n.kind=8->1<=n.state/\n.state<=4)->fP C (i:Int) (X i) n=(q,out,e)->iH C q:=fun hv e=>by
  have:=Xe (core:=(i:Int)) hv<|h.yZ i f;grind
 have U:rZ C X k i=dS C.aU.toNat _ k:=rfl
 rcases(by omega:n.kind=8\/n.kind=9\/n.kind=10\/n.kind=11) with Y|Z|D|v
 .have j:=w.cJ Y f g rfl;obtain⟨q,d,B,o,O,P⟩:=Sr (core:=(i:Int)) Y b a (h.yZ i f) (h.Bi i f) j.1.1 FQ;refine⟨q,_,d,h.jA a ?_ FR FR (fun l e=>yF<|O l e) (fun x F=>?_) E p (xO h FR) (xX h P)<|B1 h FQ,fun x F=>by grind[List.mem_singleton,PK]⟩
  .rw[D8,o,b];exact j.2
  .rw[aV.1 F];exact⟨b,.inl FR,FR⟩
 .have j:=w.bAx Z f g;obtain⟨d,B,o⟩:=aD5 (core:=(i:Int)) Z b a j.1;refine⟨_,_,d,h.jA a ?_ FR FR (fun l e=>yF<|o l e) FR E p (xO h FR) (xX h ⟨FR,(h.Bi i f).gl,(h.Bi i f).bd⟩)<|B1 h FQ,FR⟩;simp_all[D8]
 .have j:=w.aSy (gd':=(0,0)) D f g rfl;obtain⟨d,B,o⟩:=jc (core:=(i:Int)) D b a j.1;refine⟨_,_,d,h.jA a ?_ FR FR (fun l e=>yF<|o l e) FR E p (xO h FR) (xX h ⟨(h.Bi i f).al,FR,(h.Bi i f).bd⟩)<|B1 h FQ,FR⟩;simp_all[D8]
 .obtain⟨_,_,_,T,R,hw⟩:=w.aSg v f g;obtain⟨q,y,d,ea,eb,ec,ed,ee,M,G,t,Q,L,z⟩:=tq (core:=(i:Int)) v b a (h.yZ i f) (h.Bi i f) R hw;refine⟨q,_,d,h.jA a ?_ FR FR (fun l e=>yF<|z l e) (fun x F=>?_) E p (xO h FR) (xX h M)<|B1 h FQ,fun x F=>by grind[List.mem_singleton,PK]⟩
  .rw[D8];have I:HH k (H k).1 (rZ C X k) (n::H8 k N) i=if(rZ C X k i).st≠0 then(rZ C X k i).st else(rZ C X k i).gs:=by
    unfold HH at T ⊢;by_cases e:(rZ C X k i).st=0;rw[(Xd T e).2.2,bD1 FR];unfold F7;grind
   have u:=G.2.2.2.2.2 _ _ I rfl
   exact w.aSh v f g t Q L ⟨G.1,G.2.1,G.2.2.1,u.1,u.2.1,u.2.2⟩
  grind[List.mem_singleton,PK]
theorem sX.A5 (h:sX C H X V N) (hc:(rZ C X k i).qP=true\/(rZ C X k i).gi=true\/(rZ C X k i).st≠0):(i:Int)<C.aB:=by
 apply hK;intro e;have:rZ C X k i=⟨0,(0,0),false,false,false,0,(0,0)⟩:=by show dS _ _ k=_;rw[h.kT i FQ,aIe]
 grind
theorem sX.fh (h:sX C H X V N) (o:k<C.aF) {x:aG} (f:x∈(H k).1.aH) (p:x.kind≠0):0<=x.core/\x.core<C.aB:=by
 have d:=h.aI k o;have b:=d.iU.aH x f;obtain⟨i,g,a,_⟩:=jU b.2.1;refine⟨b.2.1.1,?_⟩;rw[a];rcases(by omega:x.kind=1\/x.kind=2\/x.kind=3) with e|e|e;have:=gS f e a b.1;have j:=d.t1 i g;exact h.A5 (k:=k) FR;have:=gS f e a b.1;have j:=d.t1 i g;exact h.A5 (k:=k) FR;have:=gS f e a b.1;have j:=d.t2 i g;exact h.A5 (k:=k) FR
def sX.aT9 (h:sX C H X V N) (d:k<C.aF) (b:i<4) (a:HH k (H k).1 (rZ C X k) (H8 k N) i≠0):(i:Int)<C.aB:=by
 by_cases e:(rZ C X k i).st=0;exact h.A5 (k:=k)<|.inr<|.inl (Xd a e).1;exact h.A5 (k:=k)<|.inr<|.inr e
theorem H9 {r:bT} {aI:Int}:∀y∈(r.dW aI d).2,y.kind=8/\y.core=r.aX.core/\y.aI=aI:=by
 intro y a;unfold bT.dW at a;split at a;rw[aV.1 a];exact⟨rfl,rfl,rfl⟩;split at a<;>(rw[aV.1 a];exact⟨rfl,rfl,rfl⟩)
theorem E3 {r:bT}:(r.dA n).aX=r.aX:=by
 unfold bT.dA;split;rfl;split<;>split<;>rfl
theorem Oz {r:bT} {aI:Int}:∀y∈(iN.nH (r,m) aI n).2,y.kind=8/\y.core=r.aX.core/\y.aI=aI/\r.aX.kind≠0:=by
 grind[iN.nH,bT.rest,H9,E3]
theorem J0 {aI:Int}:∀y∈eT aI st S,y.kind=11/\y.aI=aI/\∃a∈S,y.core=(a:Int):=by
 grind[eT]
theorem P8 {r:bT} {a:Nat} (h:a∈r.iX x):a<4/\(r.sh a=true\/r.owner=(a:Int)):=by
 grind[tQ,bT.mS]
theorem X4 {r:bT} {aI:Int} (u:n.kind=0\/n.kind=1\/n.kind=2\/n.kind=3) (v: -1<=r.owner/\r.owner<4):∀y∈(bT.eY r aI m n j).2,y.aI=aI/\(8<=y.kind/\y.kind<=11)/\((y.core=n.core/\n.kind≠0)\/∃a:Nat,a<4/\y.core=(a:Int)/\(r.sh a=true\/r.owner=(a:Int))):=by
 intro y b;unfold bT.eY at b;by_cases p:n.kind=3;rw[bD2 p] at b;rw[aV.1 b];exact⟨rfl,⟨show(8:Int)<=10 by omega,show(10:Int)<=11 by omega⟩,.inl ⟨rfl,FQ⟩⟩;rw[bD1 p] at b;by_cases f:n.kind=1\/n.kind=2;rw[bD2 f] at b;split at b;unfold bT.get at b;dsimp only at b;have gr:∀{h:bT} {d:Ln},h.aX=n->y∈(h.dW aI d).2->y.aI=aI/\(8<=y.kind/\y.kind<=11)/\((y.core=n.core/\n.kind≠0)\/∃a:Nat,a<4/\y.core=(a:Int)/\(r.sh a=true\/r.owner=(a:Int))):=fun {h d} e b=>by
  grind[H9]
 split at b;unfold bT.La at b;split at b;obtain⟨q,k,a,g,o⟩:=J0 y b;have:=P8 g;exact⟨k,FQ,.inr ⟨a,this.1,o,this.2⟩⟩;exact gr rfl b;unfold bT.J2 at b;have t:((r.iL n (j n.aY).1).jY).owner=r.owner\/((r.iL n (j n.aY).1).jY).owner= -1:=by
  unfold bT.jY;split;grind;exact .inl rfl
 split at b;grind[J0];refine gr ?_ b;unfold bT.jY;split<;>rfl;rw[aV.1 b];exact⟨rfl,⟨show(8:Int)<=9 by omega,show(9:Int)<=11 by omega⟩,.inl ⟨rfl,FQ⟩⟩;rw[bD1 f] at b;split at b;cases b;obtain⟨q,k,a,g,o⟩:=J0 y b;have:=P8 g;grind
theorem sX.aMq (h:sX C H X V (n::N)) (hC:C.Ok) (u:1<=n.kind/\n.kind<=5):
  ∃a out,eW C H n=(a,out,0)/\sX C a X V (out++N)/\(∀x∈out,x.aI=n.aI/\PK x.kind)/\(∀l:Nat,(l:Int)≠n.aI->a l=H l):=by
 have t:=h.nb n FW<|.inl u
 obtain⟨F,G⟩:=sX.i4 hC t.1
 obtain⟨i,E,o⟩:∃i:Nat,i<4/\n.core=(i:Int):=FR
 obtain⟨k,f,d⟩:∃k:Nat,k<C.aF/\n.aI=(k:Int):=⟨n.aI.toNat,FQ,FQ⟩
 have z:n.aI.toNat=k:=FQ
 have b:=h.aI k f
 rw[Sd d<|.inl u] at b
 have I:eW C H n=(bA H k (iN.take (H k) k n).1,(iN.take (H k) k n).2):=by
  unfold eW;rw[bD1<|by unfold dF;omega,bD2 ⟨t.1,GL⟩,z,d]
 have done:∀(g:iN) (out:IT),iN.take _ k n=(g,out,0)->fT k g.1 g.2 _ _ _->(∀y∈out,y.aI=(k:Int)/\PK y.kind/\0<=y.core/\y.core<C.aB)->
   ∃a out,eW C H n=(a,out,0)/\sX C a X V (out++N)/\(∀x∈out,x.aI=n.aI/\PK x.kind)/\(∀l:Nat,(l:Int)≠n.aI->a l=H l):=fun g out e j hA=>by
  rw[I,e]
  refine⟨_,_,rfl,h.jA f ?_ (fun l e2=>bO e2) (fun _ _=>rfl) (fun _ _=>rfl) hA (fun l e=>(Ow FQ).symm) (FR) h.yZ h.Bi h.kT,fun x v=>⟨by rw[(hA x v).1,d],(hA x v).2.1⟩,fun l e2=>bO FQ⟩
  rw[cR];exact j
 by_cases L:n.kind=4
 .obtain⟨p,q,B⟩:=b.aH9 L;refine done ((H k).1.lA,(H k).2) [] ?_ B FR;unfold iN.take;grind
 .by_cases w:n.kind=5
  .obtain⟨p,q⟩:=b.nH w;refine done (iN.nH (H k) k n).1 (iN.nH (H k) k n).2 ?_ q (fun y J=>?_)
   .unfold iN.take;grind
   .obtain⟨Q,R,M,T⟩:=Oz y J;obtain⟨_,P,D,_,_⟩:=b.y3 w E o;refine⟨M,HW,?_⟩;have O:=b.iU.core;have F7:B4 (H k).1 (H k).1.aX.core.toNat=1:=by unfold B4;rw[bD2 FR]
    have p:=b.t1 (H k).1.aX.core.toNat FQ
    have:=h.A5 (i:=(H k).1.aX.core.toNat) (k:=k) FR
    omega
  .refine done ((H k).1.lE n,(H k).2) [] ?_ (b.aTp FQ) FR;grind[iN.take]
theorem sX.Eg (h:sX C H X V N) {l:Int}:
  ∃t out e,eQ C H l j=(t,out,e)/\sX C t X V (out++N)/\(∀x∈out,x.aI=l/\PK x.kind)/\(∀k:Nat,(k:Int)≠l->t k=H k):=by
 unfold eQ
 by_cases E:C.kJ l
 .rw[bD2 E];obtain⟨k,d,u⟩:∃k:Nat,k<C.aF/\l=(k:Int):=⟨l.toNat,GL,GL⟩;subst u;rw[aL];have f:=h.aI k d;have qD:bA H k (H k)=H:=by funext i;unfold bA;grind
  unfold iN.dJ
  by_cases g:(H k).1.busy=true
  .grind
  .rw[bD1 g];have g:(H k).1.busy=false:=by simpa using g
   cases hw:(H k).1.aH with
   |nil=>grind[bO]
   |cons n w=>
    have D:=f.eY (j:=j) g hw
    have b:=X4 (r:=(H k).1.next w) (aI:=k) (m:=(H k).2) (j:=j) (f.iU.aH n FR).2.2 f.iU.owner
    obtain⟨L,J,_⟩:=f.Qw g
    refine⟨_,_,_,rfl,h.jA d ?_ (fun l e2=>bO e2) FR FR (fun y F=>?_) FR FR h.yZ h.Bi h.kT,fun x z=>⟨(b x z).1,.inr (b x z).2.1⟩,fun i e=>bO FQ⟩
    .grind[cR]
    .obtain⟨G,I,q⟩:=b y F;refine⟨G,.inr I,?_⟩;rcases q with⟨q,v⟩|⟨a,p,q,v⟩
     .rw[q];exact h.fh d FR v
     .have o:=f.c1 a p (by have:=f.t3 a p;grind[hQ]) (by have:=f.t4 a p;grind[Cj]);have B:HH k (H k).1 (rZ C X k) (H8 k N) a≠0:=by
       rcases v with e|e;have:=o.1.2 e;omega;have:=o.2.2 e;omega
      have:=h.aT9 d p B
      omega
 grind
theorem sX.E5 (h:sX C H X V N) {l:Int}:sX C (jT C H l).1 X V N:=by
 unfold jT;by_cases d:C.kJ l;rw[bD2 d];obtain⟨k,a,b⟩:∃k:Nat,k<C.aF/\l=(k:Int):=⟨l.toNat,GL,GL⟩;subst b;refine h.jA (A:=[]) a ?_ (fun l e2=>bO e2) FR FR FR FR FR h.yZ h.Bi h.kT;show fT k (bA H k _ k).1 (bA H k _ k).2 _ _ _;rw[cR];exact(h.aI k a).aN1;grind
def sX.aMn (h:sX C H X V N) (b:i<4) (d:(i:Int)<C.aB) {l f:Int}:sX C H (bA X i<|pG C (X i) l a f) V N:=
 ⟨fun k e=>by rw[yF<|aQq<|h.yZ i b];exact h.aI k e,xO h<|Iv<|h.yZ i b,xX h<|aCr (h.yZ i b)<|h.Bi i b,B1 h d,h.nb⟩
theorem sX.aW2 (h:sX C H X V N) (b:i<4) (f:(i:Int)<C.aB) (j:tF C (X i).S k a o true=0):
  sX C H (bA X i<|mQ C (X i) k a o v) (bA V k<|aMa (V k) a v) N:=by
 have d:k<C.aF:=by have:=(xB j).1;omega
 obtain⟨p,q⟩:=aL2 (v:=v) (h.yZ i b) j
 have g:=h.aI k d
 have t:(rZ C X k i).d=V k:=by
  have u:(rZ C X k i).st≠0:=FR
  have:=g.c3 i b (by unfold HH F7;grind);unfold yV at this;grind
 refine h.jA (A:=[]) d ?_ FR (fun l e2=>bO e2) (fun l e=>yF<|vg FQ) FR FR FR (xO h<|Vn<|h.yZ i b) (xX h<|se (h.yZ i b)<|h.Bi i b)<|B1 h f
 rw[cR,D8,q]
 rw[t]
 exact g.aZk b p
theorem sX.value (h:sX C H X V N) (b:i<4) (d:k<C.aF) (a:(bJ C.aU.toNat (X i).S k).2=0):(bJ C.aU.toNat (X i).S k).1.d=V k:=by
 have f:(rZ C X k i).st≠0:=by
  show(dS C.aU.toNat _ k).st≠0;rw[Jh,bD2 a];have:=uR (h.yZ i b).aU a;omega
 have:=(h.aI k d).c3 i b (by unfold HH F7;grind);unfold yV at this;have e:(rZ C X k i).d=(bJ C.aU.toNat (X i).S k).1.d:=by show(dS C.aU.toNat _ k).d=_;rw[aPt,bD2 a]
 grind
theorem sX.aR8 (h:sX C H X V N) (g:i<4) (j:(i:Int)<C.aB) {w:Int} {wr:Bool} (b:k<C.aF) (a:(X i).pM=false) (c3:¬((X i).uD=true/\(X i).gl=k))
  (z:¬((bJ C.aU.toNat (X i).S k).2=0/\sZ (bJ C.aU.toNat (X i).S k).1.st wr=true)) (o:(bJ C.aU.toNat (X i).S k).2=0\/((X i).S<|cU C.aU.toNat k).length<C.ways.toNat):
  sX C H (bA X i {X i with al:=(k:Int),aw:=wr,pM:=true}) V (⟨if wr then 2 else 1,i,k,w,0,0,0,false,0⟩::N):=by
 have d:=h.yZ i g
 have q:=h.Bi i g
 have f:(rZ C X k i).gi=false:=by
  show(dS _ _ k).gi=_;unfold dS;simp only[Bool.and_eq_false_iff,BS];by_cases e:(X i).uD=true;grind;grind
 have p:if wr=true then(rZ C X k i).st≠2/\(rZ C X k i).st≠4 else(rZ C X k i).st=0:=by
  have t:(rZ C X k i).st=if(bJ C.aU.toNat _ k).2=0 then(bJ C.aU.toNat _ k).1.st else 0:=rfl
  rw[t];by_cases v:(bJ C.aU.toNat (X i).S k).2=0;have u:=uR d.aU v;grind[sZ,Cm,Qc];grind
 refine h.jA (A:=[_]) b ?_ FR FR (fun l e=>?_) (fun y B=>?_) FR FR (xO h ⟨d.aU,d.vO,d.pl⟩) (xX h ⟨FR,q.gl,q.bd⟩)<|B1 h j
 .rw[D8];have e2:dS C.aU.toNat {(X i) with al:=(k:Int),aw:=wr,pM:=true} k={dS C.aU.toNat (X i) k with qP:=true,aw:=wr}:=by unfold dS;simp
  rw[e2]
  exact(h.aI k b).aR8 g (by show(dS _ _ k).qP=_;unfold dS;rw[a];rfl) f p FR
 .apply yF;unfold dS;have:decide ((k:Int)=(l:Int))=false:=FR;grind
 grind[List.mem_singleton,PK]
theorem sX.sE (h:sX C H X V N) (p:i<4) (q:(i:Int)<C.aB) {x:vX} (b:(X i).pM=false) (w:(X i).uD=false) (u:bJ C.aU.toNat (X i).S v=(x,0)):
  sX C H (bA X i {X i with S:=jQ C.aU.toNat (X i).S v,gl:=v,gc:=x,uD:=true}) V (⟨3,i,v,x.w,0,x.d.1,x.d.2,qH x.st,0⟩::N):=by
 have f:=h.yZ i p
 have z:=h.Bi i p
 have a:(bJ C.aU.toNat (X i).S v).2=0:=by rw[u]
 have D:=(tJ a).2
 have G:=z.bd v a
 have E:=uR f.aU a
 obtain⟨k,d,t⟩:∃k:Nat,k<C.aF/\v=(k:Int):=⟨v.toNat,FQ,FQ⟩
 subst t
 have g:(rZ C X k i).st=x.st:=by show(dS _ _ k).st=_;rw[Jh,bD2 a,u]
 have B:(rZ C X k i).d=x.d:=by show(dS _ _ k).d=_;rw[aPt,bD2 a,u]
 have o:iH C {X i with S:=jQ C.aU.toNat (X i).S (k:Int),gl:=(k:Int),gc:=x,uD:=true}:=by
  have g1:=wY (n:=C.aU.toNat) (no:=(k:Int)) f.aU;have g2:=M6 (no:=(k:Int)) f.pl;refine nT.mk g1 (fun _=>?_) g2;grind
 refine h.jA (A:=[_]) d ?_ FR FR (fun l e=>?_) (fun y I=>?_) FR FR (xO h o) (xX h ⟨FR,FR,fun j F=>?_⟩)<|B1 h q
 .rw[D8];have e2:dS C.aU.toNat {(X i) with S:=jQ C.aU.toNat (X i).S (k:Int),gl:=(k:Int),gc:=x,uD:=true} k=⟨0,(0,0),false,false,true,(rZ C X k i).st,(rZ C X k i).d⟩:=by
   rw[g,B];have:=I0 (n:=C.aU.toNat) f.aU D;unfold dS;simp[this,b]
  rw[e2]
  exact(h.aI k d).sE p (by show(dS _ _ k).qP=_;unfold dS;rw[b];rfl) FR FR (.inr trivial)
 .apply yF;grind[dS,Int,nE]
 .grind[List.mem_singleton,PK]
 .by_cases e2:j=(k:Int)
  .omega
  .exact z.bd j (by simp_all[eV,Prod.snd,nE])
theorem sX.aWw (h:sX C H X V N) (hC:C.Ok) (o:i<4) (b:(i:Int)<C.aB) {l w:Int} {wr:Bool}:
  ∃d out e,fY C i (X i) l w wr=(d,out,e)/\sX C H (bA X i d) V (out++N)/\(e≠0->d=X i/\out=[])/\∀x∈out,PK x.kind:=by
 have G:=h.yZ i o
 have Q:=h.Bi i o
 have R:=(sO hC).2.2.1
 have qD:∀e:Int,e≠0->∃d out F,((X i,[],e):jR×IT×Int)=(d,out,F)/\sX C H (bA X i d) V (out++N)/\(F≠0->d=X i/\out=[])/\∀x∈out,PK x.kind:=fun e O=>by
  refine⟨_,_,_,rfl,?_,FR,FR⟩;have:bA X i (X i)=X:=by funext j;unfold bA;grind
  grind
 unfold fY
 by_cases y:vK C l=false
 .simp_all
 rw[bD1 y]
 by_cases c2:(X i).pM=true
 .simp_all
 rw[bD1 c2]
 by_cases c3:(X i).uD=true/\(X i).gl=l
 .simp_all
 rw[bD1 c3]
 by_cases E:(bJ C.aU.toNat (X i).S l).2=0/\sZ (bJ C.aU.toNat (X i).S l).1.st wr=true
 .simp_all
 rw[bD1 E]
 have P:0<=l/\l<C.aF:=by unfold vK at y;simpa using y
 have a:(X i).pM=false:=by simpa using c2
 obtain⟨k,p,B⟩:∃k:Nat,k<C.aF/\l=(k:Int):=⟨l.toNat,FQ,FQ⟩
 subst B
 unfold Ag
 cases hv:kR C.aU.toNat C.ways.toNat (X i).S k with
 |none=>
  refine⟨_,_,_,rfl,?_,FQ,fun x J=>?_⟩
  rotate_left
  .grind[List.mem_singleton,PK]
  refine h.aR8 o b p a c3 E ?_
  unfold kR at hv
  cases hge:Go.Ct.get (k:Int) ((X i).S<|cU C.aU.toNat k) with
  |some x=>grind[bJ]
  |none=>
   grind
 |some v=>
  unfold kR at hv
  cases hge:Go.Ct.get (k:Int) ((X i).S<|cU C.aU.toNat k) with
  |some x=>grind
  |none=>
   rw[hge] at hv
   dsimp only at hv
   split at hv
   .cases hv
   have q:=G.pl _ v<|kt hv
   have u:bJ C.aU.toNat (X i).S v.1=(v.2,0):=by
    unfold bJ;rw[aaa,q.2];cases hL:(X i).S _ with
    |nil=>grind
    |cons t L=>
     grind[Go.Ct.get]
   dsimp only
   by_cases c5:(X i).uD=true
   .simp_all
   rw[bD1 c5,u,bD1 FW]
   refine⟨_,_,_,rfl,?_,FQ,fun x J=>?_⟩
   rotate_left
   .grind[PK,List.mem_singleton]
   have g:(X i).uD=false:=by simpa using c5
   have D:v.1≠(k:Int):=fun e=>by
    have:Go.Ct.get (k:Int) ((X i).S<|cU C.aU.toNat k)=some v.2:=by
     have:=(tJ<|by rw[u]).1;grind
    grind
   have M:(bJ C.aU.toNat _ k)=bJ C.aU.toNat (X i).S k:=nE fun e=>D e.symm
   have f:=Q8 (by rw[u])
   rw[q.2] at f
   have z:=(h.sE o b a g u).aR8 (w:=w) (wr:=wr) o b p (by grind[cR]) (by rw[cR];grind) (by rw[cR];grind)
    (by rw[cR];right;exact l5 f (G.aU _).len)
   rw[cR] at z
   have I:∀s1 s2:jR,bA (bA X i s1) i s2=bA X i s2:=fun s1 s2=>by
    grind[cR,bO]
   rw[I] at z
   exact z.cI FR
end Go.Pc
variable {g:Nat} {aB:Int}
namespace Go.Mc
open Go.Hm Go.At Go.Is Go.Ct Go.Nt
variable {C:bQ} {F:eO} {n:aG}
theorem Yr {α:Type} {f a:Nat->List α} {l:List α}:∀{n:Nat},(∀i,i≠k->a i=f i)->(a k).Perm (l++f k)->k<n->((List.range n).flatMap a).Perm (l++(List.range n).flatMap f):=by
 intro n;induction n with
 |zero=>intro _ _ h;omega
 |succ n j=>
  intro b g o;rw[ep,oX,oX,BE,BE];by_cases e:n=k;subst e;have:(List.range n).flatMap a=(List.range n).flatMap f:=by
   have:∀m,m<=n->(List.range m).flatMap a=(List.range m).flatMap f:=by
    intro m;induction m with
    |zero=>intro _;rfl
    |succ m d=>
     intro p;rw[ep,oX,oX,d FQ,BE,BE,b m FQ]
   grind
  rw[this];refine(List.Perm.append_left _ g).trans ?_;rw[<-eh,<-eh];exact List.Perm.append_right _ List.perm_append_comm;rw[b n e];rw[<-eh];exact List.Perm.append_right _<|j b g FQ
def dR (C:bQ) (F:eO):IT:=(List.range C.aB.toNat).flatMap fun c=>(List.range 4).flatMap fun w=>F c w
def Ys {M:bU}:M.rh C=dR C M.cD:=rfl
theorem Vs {c w:Nat} {l l':IT} (hc:(c:Int)<C.aB) (b:w<4) (h:l'.Perm (l++F c w)):(dR C<|F.set c w l').Perm (l++dR C F):=by
 refine Yr (k:=c) (fun i a=>?_) ?_ FQ;unfold eO.set;simp[a];refine Yr (k:=w) (fun i a=>?_) ?_ b;unfold eO.set;simp[a];unfold eO.set;grind
theorem uM (h:n∈dR C F):∃c w:Nat,(c:Int)<C.aB/\w<4/\n∈F c w:=by
 unfold dR at h;grind
def E0 (hF:Qs C F) (h:n∈dR C F):xo C n:=by
 obtain⟨c,w,_,_,a⟩:=uM h;exact(hF.yK c w n a).1
theorem xT (h:Nv n.kind):cQ n<4:=by
 unfold Nv at h;unfold cQ;rcases k14 (k:=n.kind.toNat) FQ with e|e|e|e|e|e|e|e|e|e|e|e|e|e<;>rw[e]<;>decide
theorem aF3:∀{l:IT} {F a:eO},(∀n∈l,Nt.gG C n=0)->eO.sE C.eR F l=some a->(dR C a).Perm (l++dR C F):=by
 intro l;induction l with
 |nil=>intro F a _ h;cases h;grind
 |cons n l f=>
  intro F a b h;unfold eO.sE at h;split at h;have d:=fJ<|b n eg;have e:(dR C<|F.A9 n).Perm ([n]++dR C F):=Vs FQ (xT d.1) List.perm_append_comm;grind;cases h
theorem gM {l:IT} (h:(F.gJ C l).2=0):(dR C (F.gJ C l).1).Perm (l++dR C F)/\∀n∈l,Nt.gG C n=0:=by
 unfold eO.gJ at h ⊢;split at h;grind;rename_i a;rw[bD1 a];have a:aT C l=0:=GR
 split at h;rename_i d b;exact⟨aF3 (C8 a)<|by rw[b],C8 a⟩;cases h
def qd {α:Type}:∀{l:List α} {i:Nat} (h:i<l.length),l.Perm (l[i]::l.eraseIdx i)
 |[],_,h=>FZ
 |a::l,0,_=>BU _
 |a::l,i+1,h=>by
  exact(List.Perm.cons a<|qd (l:=l) (i:=i) IF).trans (List.Perm.swap _ _ _)
theorem Dl {b c:Int} (h:(F.take C a b c).2.2=0):(dR C F).Perm ((F.take C a b c).2.1::dR C (F.take C a b c).1):=by
 unfold eO.take at h ⊢;by_cases g:(0<=a/\a<C.aB)/\(0<=b/\b<4);rw[bD1 fun h=>h g] at h ⊢;by_cases f:F a.toNat b.toNat=[];rw[bD2 f] at h;cases h;have o:0<(F a.toNat b.toNat).length:=DZ.2 f;have d:(c % ((F a.toNat b.toNat).length:Int)).toNat<(F a.toNat b.toNat).length:=by
  have j:=CY c (show((F a.toNat b.toNat).length:Int)≠0 by omega);have k:=CZ c (show(0:Int)<((F a.toNat b.toNat).length:Int) by omega);omega
 dsimp only;generalize(c % ((F a.toNat b.toNat).length:Int)).toNat=i at d ⊢;rw[aP,b0 d];have e:F=(F.set a.toNat b.toNat<|(F a.toNat b.toNat).eraseIdx i).set a.toNat b.toNat (F a.toNat b.toNat):=by
  funext x y;unfold eO.set;by_cases e:x=a.toNat/\y=b.toNat;rw[bD2 e,e.1,e.2];rw[bD1 e,bD1 e]
 have:=Vs (C:=C) (F:=F.set a.toNat b.toNat<|(F a.toNat b.toNat).eraseIdx i) (c:=a.toNat) (w:=b.toNat) (l:=[(F a.toNat b.toNat)[i]]) (l':=F a.toNat b.toNat) FQ FQ (by
  have:(F.set a.toNat b.toNat<|(F a.toNat b.toNat).eraseIdx i) a.toNat b.toNat=(F a.toNat b.toNat).eraseIdx i:=by unfold eO.set;simp
  rw[this];exact qd d)
 grind;grind
def WOk (n g a w:Int):Prop:=(lU n g a w).2.2.2=0/\((lU n g a w).2.2.1=false->(lU n g a w).1=lN n g/\a=g/4)
variable {es:JH}
theorem aJv {j:Nat} (h:j<(es.length+3)/4):kM es (j:Int)=(Wf es j,0):=by
 unfold kM;unfold pO;grind
theorem aDc (h:g<es.length):kM es (lN es.length g)=(Z6<|es.getD g qF,0):=by
 have e:lN es.length g=(((es.length+3)/4+g:Nat):Int):=by unfold lN;omega
 unfold kM;unfold pO;grind
theorem aLz {j:Nat} (h:O6 es j=true) (a:g<es.length) (b:g/4=j):es.getD g qF=⟨(es.getD (4*j) qF).owner,false⟩:=by
 unfold O6 at h;have d:es.getD g qF∈(es.drop<|4*j).take 4:=by
  rw[aP,b0 a];refine kt (i:=g - 4*j) ?_;grind
 grind
theorem aUm (b:∀x∈es,0<=x.owner/\x.owner<=4) (a:g<es.length):0<=(es.getD g qF).owner/\(es.getD g qF).owner<=4:=by
 grind
theorem Yy (y:es.length<=16) (u:∀x∈es,0<=x.owner/\x.owner<=4) (p:g<es.length) (ha:a=(g:Int)/4\/a=lN es.length g):
  (kM es a).2=0/\WOk es.length g a (kM es a).1/\((lU es.length g a (kM es a).1).2.2.1=true->(lU es.length g a (kM es a).1).2.1=es.getD g qF):=by
 have b:¬¬((1<=(es.length:Int)/\(es.length:Int)<=16)/\(0<=(g:Int)/\(g:Int)<es.length)):=FQ
 have v:(g:Int)/4≠lN es.length g:=by unfold lN;omega
 rcases ha with rfl|rfl
 .have e:(g:Int)/4=((g/4:Nat):Int):=FQ
  have q:=aJv (es:=es) (j:=g/4) FQ
  rw[<-e] at q
  rw[q]
  refine⟨rfl,?_⟩
  unfold WOk lU
  rw[bD1 b,bD2 rfl]
  unfold Wf
  by_cases d:O6 es (g/4)=true
  .rw[bD2 d];have w:=aLz d p rfl;rw[aaa,bD2 ⟨FQ,IE⟩];grind
  grind
 .rw[aDc p];refine⟨rfl,?_⟩;unfold WOk lU;rw[bD1 b,bD1 fun h=>v h.symm,bD2 rfl];have t:=aUm u p;generalize z:es.getD g qF=x at t ⊢;obtain⟨o,k⟩:=x;cases k with
  |true=>
   have f:Z6 ⟨o,true⟩=o+8:=rfl
   rw[f,bD1 IE,bD2 ⟨FR,IE⟩]
   grind
  |false=>
   have f:Z6 ⟨o,false⟩=o:=rfl
   rw[f,bD2 IE]
   grind
variable {m:Mon} {N N':IT}
section
def cw (i:Nat) (N:IT):Nat:=N.countP fun n=>decide<|n.core=(i:Int)/\(n.kind=6\/n.kind=12)
def cd (i g:Nat) (N:IT):Nat:=N.countP fun n=>decide<|n.core=(i:Int)/\n.no=(g:Int)/\(n.kind=13\/n.kind=7)
def mY (N:IT) (i g:Nat):Prop:=∃n∈N,n.kind=13/\n.core=(i:Int)/\n.no=(g:Int)
def Fl (m:Mon) (g i:Nat):Nat:=match m.eI g with
 |some r=>(r.aH i).toNat
 |none=>0
structure mB (C:bQ) (K:Nat->jO) (m:Mon) (N:IT):Prop where
 cw:∀i:Nat,(i:Int)<C.aB->cw i N=(K i).dM.toNat
 no:∀n∈N,n.kind=6\/n.kind=12->n.no=(K n.core.toNat).at'
 pl:∀i:Nat,(i:Int)<C.aB->(K i).dM=true->(K i).at'=(K i).aR/4\/(K i).at'=lN C.aM (K i).aR
 dD:∀n∈N,n.kind=12->WOk C.aM (K n.core.toNat).aR (K n.core.toNat).at' n.d0/\((K n.core.toNat).kG=false->(lU C.aM (K n.core.toNat).aR (K n.core.toNat).at' n.d0).2.2.1=true->(lU C.aM (K n.core.toNat).aR (K n.core.toNat).at' n.d0).2.1.lB=false->
  (lU C.aM (K n.core.toNat).aR (K n.core.toNat).at' n.d0).2.1.owner=(m.jX (K n.core.toNat).aR).owner/\((m.jX (K n.core.toNat).aR).lB=true->mY N n.core.toNat (K n.core.toNat).aR.toNat))
 bL:∀i:Nat,(i:Int)<C.aB->∀x∈(K i).bL,(0<=x.1/\x.1<C.aM)/\x.2=(m.jX x.1).owner/\((m.jX x.1).lB=true->mY N i x.1.toNat)
 nd:∀i:Nat,(i:Int)<C.aB->((K i).bL.map (·.1)).Nodup/\((K i).dM=true->(K i).aR∉(K i).bL.map (·.1))
 gr:∀i:Nat,(i:Int)<C.aB->0<=(K i).aR/\(K i).aR<C.aM
 wI:∀g:Nat,(g:Int)<C.aM->((m.jX g).lB=true↔(m.eI g).isSome=true)
 cd:∀g i:Nat,(i:Int)<C.aB->cd i g N=Fl m g i
 nb:∀n∈N,KK n.kind->(0<=n.core/\n.core<C.aB)/\(n.kind=13\/n.kind=7->0<=n.no)
 ph:∀g r,m.eI g=some r->(r.phase=2↔r.none=true)/\∀i:Nat,C.aB<=(i:Int)->r.aH i=false
variable {K:Nat->jO}
theorem uP:cw i (n::N)=cw i N+if n.core=(i:Int)/\(n.kind=6\/n.kind=12) then 1 else 0:=by
 unfold cw;grind
theorem rQ:cd i g (n::N)=cd i g N+if n.core=(i:Int)/\n.no=(g:Int)/\(n.kind=13\/n.kind=7) then 1 else 0:=by
 unfold cd;grind
def aT6:cw i (N++N')=cw i N+cw i N':=AK
def aLg:cd i g (N++N')=cd i g N+cd i g N':=AK
def Oc (h:mY N i g) (e:∀x∈N,x.kind=13->x∈N'):mY N' i g:=by
 obtain⟨x,b,a,d⟩:=h;exact⟨x,e x b a,a,d⟩
def aP3 (h:mY N i g):0<cd i g N:=by
 obtain⟨x,a,b,d,e⟩:=h;exact AQ.2 ⟨x,a,cj ⟨d,e,.inl b⟩⟩
theorem Z5 (h:n∈N) (hc:n.core=(i:Int)) (a:n.kind=6\/n.kind=12):0<cw i N:=AQ.2 ⟨n,h,cj ⟨hc,a⟩⟩
def mB.cI (h:mB C K m N) (p:N.Perm N'):mB C K m N':=by
 have em:∀x,x∈N'↔x∈N:=fun x=>p.symm.mem_iff;have b:∀i,Mc.cw i N'=Mc.cw i N:=fun i=>(p.countP_eq _).symm;have e2:∀i g,Mc.cd i g N'=Mc.cd i g N:=fun i g=>(p.countP_eq _).symm;have a:∀i g,mY N' i g↔mY N i g:=fun i g=>by unfold mY;simp only[em]
 constructor;simp only[b];exact h.cw;simp only[em];exact h.no;exact h.pl;simp only[em,a];exact h.dD;simp only[a];exact h.bL;exact h.nd;exact h.gr;exact h.wI;simp only[e2];exact h.cd;simp only[em];exact h.nb;exact h.ph
def mB.skip (h:mB C K m (n::N)) (f:¬KK n.kind):mB C K m N:=by
 unfold KK at f;have p:∀i,Mc.cw i N=Mc.cw i (n::N):=fun i=>by rw[uP,aaa];rfl
 have e2:∀i g,Mc.cd i g N=Mc.cd i g (n::N):=fun i g=>by rw[rQ,aaa];rfl
 have o:∀i g,mY (n::N) i g->mY N i g:=fun i g ⟨x,j,q,t⟩=>by
  rcases e6.1 j with rfl|j;omega;exact⟨x,j,q,t⟩
 have em:∀x,x∈N->x∈n::N:=fun x=>aW _;constructor;simp only[p];exact h.cw;exact fun x e=>h.no x<|em x e;exact h.pl;exact fun x e f=>⟨(h.dD x (em x e) f).1,fun a b c=>⟨((h.dD x (em x e) f).2 a b c).1,fun d=>o _ _<|((h.dD x (em x e) f).2 a b c).2 d⟩⟩;exact fun i k x e=>⟨(h.bL i k x e).1,(h.bL i k x e).2.1,fun d=>o _ _<|(h.bL i k x e).2.2 d⟩;exact h.nd;exact h.gr;exact h.wI;simp only[e2];exact h.cd;exact fun x e=>h.nb x<|em x e;exact h.ph
theorem mB.add (h:mB C K m N) (f:¬KK n.kind):mB C K m (n::N):=by
 unfold KK at f;have t:∀i,Mc.cw i (n::N)=Mc.cw i N:=fun i=>by rw[uP,aaa];rfl
 have e2:∀i g,Mc.cd i g (n::N)=Mc.cd i g N:=fun i g=>by rw[rQ,aaa];rfl
 have q:∀i g,mY N i g->mY (n::N) i g:=fun i g u=>Oc u fun x e _=>aW _ e;have em:∀x,x∈n::N->KK x.kind->x∈N:=fun x e p=>by
  rcases e6.1 e with rfl|e;exact absurd p (by exact f);exact e
 have j:∀{k:Int},k=6\/k=12->KK k:=fun h=>GJ
 constructor;simp only[t];exact h.cw;exact fun x e f=>h.no x (em x e<|j f) f;exact h.pl;exact fun x e f=>⟨(h.dD x (em x e<|j<|.inr f) f).1,fun a b c=>⟨((h.dD x (em x e<|j<|.inr f) f).2 a b c).1,fun d=>q _ _<|((h.dD x (em x e<|j<|.inr f) f).2 a b c).2 d⟩⟩;exact fun i o x e=>⟨(h.bL i o x e).1,(h.bL i o x e).2.1,fun d=>q _ _<|(h.bL i o x e).2.2 d⟩;exact h.nd;exact h.gr;exact h.wI;simp only[e2];exact h.cd;exact fun x e f=>h.nb x (em x e f) f;exact h.ph
def mB.Ph (h:mB C K m N):∀{l:IT},(∀x∈l,¬KK x.kind)->mB C K m (l++N)
 |[],_=>h
 |_::_,a=>(mB.Ph h fun x b=>a x<|aW _ b).add<|a _ eg
theorem mB.kT (d:(es.length:Int)=C.aM) (a:1<=C.aM) (b:∀x∈es,x.lB=false):mB C (fun _=>Ov) ⟨es,fun _=>none⟩ []:=by
 constructor;case cw=>exact fun _ _=>rfl
 case no=>grind
 case pl=>exact fun _ _ h=>FZ
 case dD=>grind
 case bL=>exact fun _ _ _ h=>FZ
 case nd=>exact fun _ _=>⟨DF,fun h=>FZ⟩
 case gr=>exact fun _ _=>⟨FV,by show(0:Int)<C.aM;omega⟩
 case wI=>
  intro g a;unfold Mon.jX;grind
 case cd=>exact fun _ _ _=>rfl
 case nb=>grind
 grind
end
section
variable {K:Nat->jO}
def Lj (h:n.core=(i:Int)):n.core.toNat=i:=FQ
theorem mB.Bk {g:Int} (h:mB C K m N) (G:(i:Int)<C.aB) (u:((K i).dJ C g).2.2=0):
  mB C (bA K i ((K i).dJ C g).1) m (cN 6 i ((K i).dJ C g).2.1::N):=by
 unfold jO.dJ at u ⊢
 by_cases B:0<=g/\g<C.aM
 rotate_left
 .rw[bD2 B] at u;cases u
 rw[bD1 fun e=>e B] at u ⊢
 by_cases k:(jC (K i).bL g).isSome=true
 .grind
 rw[bD1 k] at u ⊢
 by_cases z:(K i).dM=true
 .grind
 rw[bD1 z] at u ⊢
 have z:(K i).dM=false:=by simpa using z
 have v:=h.cw i G
 rw[z] at v
 have w:∀x∈N,x.kind=6\/x.kind=12->x.core.toNat≠i:=fun x f k e=>by
  have O:=(h.nb x f GJ).1;have:=Z5 (i:=i) f FQ k;grind
 have J:∀I y,mY N I y->mY (cN 6 i (g/4)::N) I y:=fun i g M=>Oc M fun x f _=>aW _ f
 have q:bA K i ((K i).A3 g) i=(K i).A3 g:=dI
 have t:∀{j:Nat},j≠i->bA K i ((K i).A3 g) j=K j:=fun e=>bO e
 have p:(cN 6 (i:Int)<|g/4).core.toNat=i:=aL i
 constructor
 case cw=>
  intro j o
  rw[uP]
  by_cases e:j=i
  .subst e;rw[q,v,bD2 ⟨rfl,.inl rfl⟩];rfl
  .rw[t e,bD1 fun E=>e FR];exact h.cw j o
 case no=>
  intro x f k
  rcases e6.1 f with rfl|f
  .rw[p,q];rfl
  .rw[t<|w x f k];exact h.no x f k
 case pl=>
  intro j o
  by_cases e:j=i
  .subst e;rw[q];exact fun _=> .inl rfl
  .rw[t e];exact h.pl j o
 case dD=>
  intro x f k
  rcases e6.1 f with rfl|f
  .exact absurd (show(6:Int)=12 from k) FV
  .rw[t<|w x f<|.inr k];have:=h.dD x f k;exact⟨this.1,fun a b c=>⟨(this.2 a b c).1,fun d=>J _ _<|(this.2 a b c).2 d⟩⟩
 case bL=>
  intro j o x f
  have f:x∈(K j).bL:=by
   by_cases e:j=i;subst e;rw[q] at f;exact f;grind
  have:=h.bL j o x f
  grind
 case nd=>
  intro j o
  by_cases e:j=i
  .subst e;rw[q];refine⟨(h.nd j o).1,fun _ L=>k ?_⟩;obtain⟨x,f,D⟩:=gk.1 L;unfold jC;rw[Option.isSome_map,List.find?_isSome];exact⟨x,f,cj D⟩
  .rw[t e];exact h.nd j o
 case gr=>
  intro j o
  by_cases e:j=i
  .subst e;rw[q];exact B
  .rw[t e];exact h.gr j o
 case wI=>exact h.wI
 case cd=>
  intro y j o
  rw[rQ,bD1 fun E=>by rcases E.2.2 with F|F<;>exact absurd (show(6:Int)=_ from F) FV]
  exact h.cd y j o
 case nb=>
  intro x f k
  rcases e6.1 f with rfl|f
  .exact⟨⟨by show(0:Int)<=i;omega,G⟩,fun e=>by rcases e with e|e<;>exact absurd (show(6:Int)=_ from e) FV⟩
  .exact h.nb x f k
 case ph=>exact h.ph
theorem mB.Jx (h:mB C K m (n::N)) (j:(i:Int)<C.aB) (hc:n.core=(i:Int)) (b:n.kind=6\/n.kind=12):(K i).dM=true/\Mc.cw i N=0/\∀x∈N,x.kind=6\/x.kind=12->x.core.toNat≠i:=by
 have a:=h.cw i j;rw[uP,bD2 ⟨hc,b⟩] at a;have d:(K i).dM=true:=FR
 rw[d] at a;have g:Mc.cw i N=0:=GR
 refine⟨d,g,fun x f b e=>?_⟩;have k:=(h.nb x (aW _ f) GJ).1;have:=Z5 (i:=i) f FQ b;omega
theorem mB.dQ (h:mB C K m (n::N)) (P:(m.eU.length:Int)=C.aM) (o:m.eU.length<=16) (I:∀x∈m.eU,0<=x.owner/\x.owner<=4) (u:(i:Int)<C.aB) (hc:n.core=(i:Int)) (f:n.kind=6):
  (kM m.eU n.no).2=0/\mB C K m (nZ n.core (kM m.eU n.no).1 n.no::N):=by
 obtain⟨L,O,G⟩:=h.Jx u hc<|.inl f
 have J:=h.pl i u L
 have t:=h.gr i u
 have y:=h.no n eg<|.inl f
 rw[Lj hc] at y
 obtain⟨g,F⟩:=ay t.1
 have v:=Yy (es:=m.eU) (g:=g) (a:=n.no) o I FQ FR
 refine⟨v.1,?_⟩
 have w:(nZ n.core (kM m.eU n.no).1 n.no).core=n.core:=rfl
 have B:∀{z p:Nat},mY (n::N) z p->mY (nZ n.core (kM m.eU n.no).1 n.no::N) z p:=fun⟨x,q,D,E⟩=>by
  rcases e6.1 q with rfl|q;omega;exact⟨x,aW _ q,D,E⟩
 have Q:(nZ n.core (kM m.eU n.no).1 n.no).kind=12:=rfl
 constructor
 case cw=>
  intro j k
  have:=h.cw j k
  rw[uP] at this ⊢
  grind
 case no=>
  intro x b f
  rcases e6.1 b with rfl|b
  .rw[w,Lj hc];exact y
  .exact h.no x (aW _ b) f
 case pl=>exact h.pl
 case dD=>
  intro x b f
  rcases e6.1 b with rfl|b
  .rw[w,Lj hc];show WOk _ _ _ (kM m.eU n.no).1/\((K i).kG=false->(lU _ _ _ (kM m.eU n.no).1).2.2.1=true->(lU _ _ _ (kM m.eU n.no).1).2.1.lB=false->(lU _ _ _ (kM m.eU n.no).1).2.1.owner=_/\_);have M:m.eU.getD g qF=m.jX (K i).aR:=by unfold Mon.jX;rw[F];rfl
   grind
  .have:=h.dD x (aW _ b) f;grind
 case bL=>exact fun j k x b=>⟨(h.bL j k x b).1,(h.bL j k x b).2.1,fun d=>B<|(h.bL j k x b).2.2 d⟩
 case nd=>exact h.nd
 case gr=>exact h.gr
 case wI=>exact h.wI
 case cd=>
  intro p j k
  have:=h.cd p j k
  rw[rQ,aaa] at this
  rw[rQ,aaa]
  exact this
 case nb=>
  intro x b f
  rcases e6.1 b with rfl|b
  .exact⟨FQ,fun e=>FQ⟩
  .exact h.nb x (aW _ b) f
 case ph=>exact h.ph
theorem mB.Y2 {c:jO} (h:mB C K m (n::N)) (E:(i:Int)<C.aB) (hc:n.core=(i:Int)) (f:n.kind=12)
  (D:c.dM=true) (g:c.aR=(K i).aR) (u:c.bL=(K i).bL) (t:c.at'=a) (ha:a=(K i).aR/4\/a=lN C.aM (K i).aR):
  mB C (bA K i c) m (cN 6 n.core a::N):=by
 obtain⟨F,J,v⟩:=h.Jx E hc<|.inr f
 have w:(cN 6 n.core a).core=n.core:=rfl
 have G:(cN 6 n.core a).kind=6:=rfl
 have I:∀{y o:Nat},mY (n::N) y o->mY (cN 6 n.core a::N) y o:=fun⟨x,q,z,B⟩=>by
  rcases e6.1 q with rfl|q;omega;exact⟨x,aW _ q,z,B⟩
 have p:bA K i c i=c:=dI
 have k:∀{j:Nat},j≠i->bA K i c j=K j:=fun e=>bO e
 constructor
 case cw=>
  intro j d
  rw[uP,w,G]
  by_cases e:j=i
  .grind
  .have:=h.cw j d;rw[uP,aaa] at this;grind
 case no=>
  intro x b f
  rcases e6.1 b with rfl|b
  .rw[w,Lj hc,p,t];rfl
  .rw[k<|v x b f];exact h.no x (aW _ b) f
 case pl=>
  intro j d
  by_cases e:j=i
  .grind
  .rw[k e];exact h.pl j d
 case dD=>
  intro x b f
  rcases e6.1 b with rfl|b
  .omega
  .have:=h.dD x (aW _ b) f;grind
 case bL=>
  intro j d x b
  have b:x∈(K j).bL:=by
   by_cases e:j=i;grind;grind
  have:=h.bL j d x b
  grind
 case nd=>
  intro j d
  by_cases e:j=i
  .subst e;rw[p,u,g];exact⟨(h.nd j d).1,fun _=>(h.nd j d).2 F⟩
  .rw[k e];exact h.nd j d
 case gr=>
  intro j d
  by_cases e:j=i
  .subst e;rw[p,g];exact h.gr j d
  .rw[k e];exact h.gr j d
 case wI=>exact h.wI
 case cd=>
  intro o j d
  have:=h.cd o j d
  rw[rQ,aaa] at this
  rw[rQ,aaa]
  exact this
 case nb=>
  intro x b f
  rcases e6.1 b with rfl|b
  .grind
  .exact h.nb x (aW _ b) f
 case ph=>exact h.ph
theorem mB.aLb {d:Nat} (h:mB C K m (n::N)) (D:(i:Int)<C.aB) (hc:n.core=(i:Int)) (g:n.kind=12) (B:1<=C.aM)
  (u:o=(m.jX (K i).aR).owner/\((m.jX (K i).aR).lB=true->mY (n::N) i (K i).aR.toNat)):
  mB C (bA K i ⟨false,0,0,false,(K i).bL.drop d++[((K i).aR,o)]⟩) m N:=by
 obtain⟨F,E,q⟩:=h.Jx D hc<|.inr g
 have w:∀{v k:Nat},mY (n::N) v k->mY N v k:=fun⟨x,p,y,z⟩=>by
  rcases e6.1 p with rfl|p;omega;exact⟨x,p,y,z⟩
 have t:∀c:jO,bA K i c i=c:=fun _=>dI
 have f:∀{j:Nat} {c:jO},j≠i->bA K i c j=K j:=fun e=>bO e
 have em:∀x,x∈N->x∈n::N:=fun x=>aW _
 constructor
 case cw=>
  intro j b
  by_cases e:j=i
  .grind
  .have:=h.cw j b;rw[uP,aaa] at this;rw[f e];exact this
 case no=>exact fun x a g=>by rw[f<|q x a g];exact h.no x (em x a) g
 case pl=>
  intro j b
  by_cases e:j=i
  .grind
  .rw[f e];exact h.pl j b
 case dD=>
  intro x a g
  have:=h.dD x (em x a) g
  grind
 case bL=>
  intro j b x a
  by_cases e:j=i
  .subst e;rw[t] at a;rcases cg.1 a with a|a
   .have:=h.bL j b x<|DW a;grind
   .rw[aV.1 a];exact⟨h.gr j b,u.1,fun d=>w<|u.2 d⟩
  .rw[f e] at a;have:=h.bL j b x a;grind
 case nd=>
  intro j b
  by_cases e:j=i
  .subst e;rw[t];refine⟨?_,fun e=>by cases e⟩;have p:=h.nd j b;grind
  .rw[f e];exact h.nd j b
 case gr=>
  intro j b
  by_cases e:j=i
  .grind
  .rw[f e];exact h.gr j b
 case wI=>exact h.wI
 case cd=>
  intro k j b
  have:=h.cd k j b
  rw[rQ,aaa] at this
  exact this
 case nb=>exact fun x a=>h.nb x<|em x a
 case ph=>exact h.ph
def mB.fM (h:mB C K m (n::N)) (g:(i:Int)<C.aB) (hc:n.core=(i:Int)) (b:n.kind=12) (j:1<=C.aM):
  ((K i).fM C n.no n.d0).2.2.2=0/\mB C (bA K i ((K i).fM C n.no n.d0).1) m ((if((K i).fM C n.no n.d0).2.2.1 then [] else [cN 6 n.core ((K i).fM C n.no n.d0).2.1])++N):=by
 obtain⟨k,v,u⟩:=h.Jx g hc<|.inr b
 have p:=h.no n eg<|.inr b
 have a:=h.dD n eg b
 rw[Lj hc] at p a
 unfold jO.fM
 rw[bD1<|by rw[k];simp,bD1<|by rw[p];simp]
 cases hst:(K i).kG with
 |true=>
  exact⟨rfl,h.Y2 g hc b k rfl rfl rfl<|.inl rfl⟩
 |false=>
  rw[bD1 FW,p]
  rw[bD1<|by rw[a.1.1];simp]
  by_cases o:(lU C.aM (K i).aR (K i).at' n.d0).2.2.1=true/\(lU C.aM (K i).aR (K i).at' n.d0).2.1.lB=true
  .rw[bD2 o];exact⟨rfl,h.Y2 (c:=(K i).goto<|(K i).aR/4) g hc b k rfl rfl rfl<|.inl rfl⟩
  .rw[bD1 o];split
   .rename_i f;exact⟨rfl,h.Y2 (c:=(K i).goto _) g hc b k rfl rfl rfl<|.inr (a.1.2 f).1⟩
   .rename_i f;have f:(lU C.aM (K i).aR (K i).at' n.d0).2.2.1=true:=by simpa using f
    refine⟨rfl,?_⟩
    have t:(lU C.aM (K i).aR (K i).at' n.d0).2.1.lB=false:=by
     cases e:(lU C.aM (K i).aR (K i).at' n.d0).2.1.lB with
     |true=>exact absurd ⟨f,e⟩ o
     |false=>rfl
    have q:=a.2 hst f t
    by_cases d:((K i).bL.length:Int)>=C.mU
    .have e:((K i).Bu C ((K i).aR,(lU C.aM (K i).aR (K i).at' n.d0).2.1.owner)).done=⟨false,0,0,false,(K i).bL.drop 1++[((K i).aR,(lU C.aM (K i).aR (K i).at' n.d0).2.1.owner)]⟩:=by
      unfold jO.Bu jO.done;rw[bD2 d]
     rw[e];exact h.aLb g hc b j q
    .have e:((K i).Bu C ((K i).aR,(lU C.aM (K i).aR (K i).at' n.d0).2.1.owner)).done=⟨false,0,0,false,(K i).bL.drop 0++[((K i).aR,(lU C.aM (K i).aR (K i).at' n.d0).2.1.owner)]⟩:=by
      unfold jO.Bu jO.done;rw[bD1 d];rfl
     rw[e];exact h.aLb g hc b j q
theorem Ia {x:mV} {k:Int} (b:0<=k) (a:g<m.eU.length):(m.oL g x).jX k=if k=g then x else m.jX k:=by
 unfold Mon.jX Mon.oL;rw[aP,CJ,aP];by_cases e:k=(g:Int);rw[aac,aac,bD2 e];rfl;rw[aaa,bD1 e]
theorem mB.eE (h:mB C K m (n::N)) (J:(i:Int)<C.aB) (hc:n.core=(i:Int)) (L:n.kind=13) (G:0<=n.no/\n.no<C.aM):
  ((K i).drop C n.no).2=0/\mB C (bA K i ((K i).drop C n.no).1) m (cN 7 n.core n.no::N):=by
 unfold jO.drop
 rw[aaa]
 refine⟨rfl,?_⟩
 dsimp only
 obtain⟨g,hg⟩:=ay G.1
 have Y:(cN 7 n.core n.no).core=n.core:=rfl
 have Z:(cN 7 n.core n.no).no=n.no:=rfl
 have kc:(cN 7 n.core n.no).kind=7:=rfl
 generalize z:({(K i) with bL:=(K i).bL.filter fun x=> !decide (n.no= -1\/x.1=n.no),kG:=(K i).kG||((K i).dM&&decide (n.no= -1\/(K i).aR=n.no))}:jO)=c
 have q:c.dM=(K i).dM:=by rw[<-z]
 have D:c.aR=(K i).aR:=by rw[<-z]
 have B:c.at'=(K i).at':=by rw[<-z]
 have F:c.kG=false->(K i).kG=false/\((K i).dM=true->(K i).aR≠n.no):=by
  grind
 have E:∀x,x∈c.bL↔x∈(K i).bL/\x.1≠n.no:=by
  grind
 have p:(c.bL.map (·.1)).Sublist ((K i).bL.map (·.1)):=by
  rw[<-z];exact List.Sublist.map _ List.filter_sublist
 have M:∀{I v:Nat},¬(I=i/\(v:Int)=n.no)->mY (n::N) I v->mY (cN 7 n.core n.no::N) I v:=fun U ⟨x,y,O,P,Q⟩=>by
  rcases e6.1 y with rfl|y;grind;exact⟨x,aW _ y,O,P,Q⟩
 have t:bA K i c i=c:=dI
 have u:∀{j:Nat},j≠i->bA K i c j=K j:=fun e=>bO e
 have em:∀x,x∈N->x∈n::N:=fun x=>aW _
 have R:=h.gr i J
 constructor
 case cw=>
  intro j k
  have:=h.cw j k
  rw[uP,aaa] at this
  rw[uP,aaa,this]
  grind
 case no=>
  intro x f L
  rcases e6.1 f with rfl|f
  .omega
  .have:=h.no x (em x f) L;by_cases e:x.core.toNat=i
   .rw[e] at this ⊢;rw[t,B];exact this
   .rw[u e];exact this
 case pl=>
  intro j k
  by_cases e:j=i
  .subst e;rw[t,q,B,D];exact h.pl j k
  .rw[u e];exact h.pl j k
 case dD=>
  intro x f o
  rcases e6.1 f with rfl|f
  .omega
  .have:=h.dD x (em x f) o;by_cases e:x.core.toNat=i
   .rw[e] at this ⊢;rw[t,B,D];refine⟨this.1,fun a b c=>?_⟩;have W:(K i).dM=true:=by
     have hb:=(h.nb x (em x f) GJ).1;have y:=h.cw i J;have:=Z5 (i:=i) (em x f) FQ<|.inr o;grind
    exact⟨(this.2 (F a).1 b c).1,fun d=>M (fun e2=>(F a).2 W FQ)<|(this.2 (F a).1 b c).2 d⟩
   grind
 case bL=>
  intro j k x f
  by_cases e:j=i
  .subst e;rw[t] at f;have:=h.bL j k x ((E x).1 f).1;grind
  .rw[u e] at f;have:=h.bL j k x f;grind
 case nd=>
  intro j k
  by_cases e:j=i
  .subst e;rw[t,q,D];exact⟨(h.nd j k).1.sublist p,fun w T=>(h.nd j k).2 w<|p.mem T⟩
  .rw[u e];exact h.nd j k
 case gr=>
  intro j k
  by_cases e:j=i
  .grind
  .rw[u e];exact h.gr j k
 case wI=>exact h.wI
 case cd=>
  intro v j k
  have:=h.cd v j k
  rw[rQ] at this ⊢
  grind
 case nb=>
  intro x f o
  rcases e6.1 f with rfl|f
  .grind
  .exact h.nb x (em x f) o
 case ph=>exact h.ph
theorem Kh {a:Nat} {x:Option Mc.mP}:Fl (m.dL g x) a i=if a=g then(match x with|some r=>(r.aH i).toNat|none=>0) else Fl m a i:=by
 unfold Fl Mon.dL bA;grind
theorem mB.dA (hC:C.Ok) (h:mB C K m (n::N)) (E:jE C m) (O:(i:Int)<C.aB) (hc:n.core=(i:Int)) (Q:n.kind=7) (q:n.no=(g:Int)):
  ∃r,m.eI g=some r/\r.phase=1/\r.aH i=true/\m.eE C.aB n.no n.core=(m.dL g<|some (r.dA i).gX,(r.dA i).none,0)/\mB C K (m.dL g<|some (r.dA i).gX) N:=by
 have a:=h.cd g i O
 rw[rQ,bD2 ⟨hc,q,.inr Q⟩] at a
 unfold Fl at a
 have P:i<4:=GA
 cases hr:m.eI g with
 |none=>rw[hr] at a;simp at a
 |some r=>
  rw[hr] at a
  dsimp only at a
  have B:r.aH i=true:=by
   cases e:r.aH i with
   |true=>rfl
   |false=>rw[e] at a;simp at a
  rw[B] at a
  have J:Mc.cd i g N=0:=GR
  have z:=h.ph g r hr
  have w:=E.run g r hr
  have f:r.none=false:=by
   have:i=0\/i=1\/i=2\/i=3:=FQ
   unfold mP.none;rcases this with rfl|rfl|rfl|rfl<;>rw[B]<;>simp
  have y:r.phase=1:=by
   rcases w.2.2.1 with e|e;exact e;have:=z.1.1 e;rw[f] at this;cases this
  have D:m.kJ n.no:=by
   unfold Mon.kJ;have:=E.len;omega
  have F:m.run n.no=some r:=by unfold Mon.run;rw[aac,q,aL,hr]
  have t:(r.dA i).gX.aH=mE r.aH i false:=rfl
  have R:(r.dA i).gX.none=(r.dA i).none:=rfl
  refine⟨r,rfl,y,B,?_,?_⟩
  .unfold Mon.eE;grind
  have U:∀{G d:Nat},mY (n::N) G d->mY N G d:=fun⟨x,a,L,M⟩=>by
   rcases e6.1 a with rfl|a;omega;exact⟨x,a,L,M⟩
  have em:∀x,x∈N->x∈n::N:=fun x=>aW _
  have I:∀k,(m.dL g<|some (r.dA i).gX).jX k=m.jX k:=fun _=>rfl
  constructor
  case cw=>
   intro j p
   have:=h.cw j p
   rw[uP,aaa] at this
   exact this
  case no=>exact fun x o=>h.no x<|em x o
  case pl=>exact h.pl
  case dD=>
   intro x o v
   have:=h.dD x (em x o) v
   grind
  case bL=>
   intro j p x o
   have:=h.bL j p x o
   grind
  case nd=>exact h.nd
  case gr=>exact h.gr
  case wI=>
   intro d u
   rw[I,h.wI d u]
   unfold Mon.dL bA
   grind
  case cd=>
   intro d j p
   have:=h.cd d j p
   rw[rQ] at this
   rw[Kh]
   by_cases e:d=g
   .subst e;rw[bD2 rfl];dsimp only;rw[t];by_cases e2:j=i
    .subst e2;rw[J];unfold mE;rw[bD2 rfl];rfl
    .unfold mE;unfold Fl at this;grind
   grind
  case nb=>exact fun x o=>h.nb x<|em x o
  case ph=>
   intro d T b
   unfold Mon.dL bA at b
   dsimp only at b
   split at b
   .cases b;refine⟨?_,fun j p=>?_⟩
    .show(if(r.dA i).none=true then(2:Int) else r.phase)=2↔_;grind
    .rw[t];unfold mE;grind
   .exact h.ph d T b
theorem Da {g:Int} {x:aG} (h:x∈sB aB g):x.kind=13/\x.no=g/\∃j:Nat,(j:Int)<aB/\x=cN 13 j g:=by
 obtain⟨j,a,rfl⟩:=gk.1 h;have:=AI.1 a;exact⟨rfl,rfl,j,FQ,rfl⟩
theorem aMe {a:Nat} (e:(i:Int)<aB):cd i a (sB aB g)=if a=g then 1 else 0:=by
 unfold sB;have d:∀n:Nat,cd i a ((List.range n).map fun j:Nat=>cN 13 j g)=if i<n/\a=g then 1 else 0:=by
  intro n;induction n with
  |zero=>rfl
  |succ n b=>
   rw[ep,l4,aLg,b];show _+cd i a (cN 13 n g::[])=_;rw[rQ];show _+(0+if(n:Int)=(i:Int)/\(g:Int)=(a:Int)/\((13:Int)=13\/(13:Int)=7) then 1 else 0)=_;grind
 grind
theorem mB.gZ {a:Mc.Np} {j:Int×Bool×Int} (hC:C.Ok) (h:mB C K m N) (M:(m.eU.length:Int)=C.aM) (L:(g:Int)<C.aM) (E:m.eI g=none):
  mB C K ((m.oL g ⟨(m.jX g).owner,true⟩).dL g<|some<|a.run C.aB j) (sB C.aB g++N):=by
 have F:∀{p d:Nat},mY N p d->mY (sB C.aB g++N) p d:=fun D=>Oc D fun x b _=>cg.2<|.inr b
 have G:∀p:Nat,(p:Int)<C.aB->mY (sB C.aB g++N) p g:=fun p B=>⟨cN 13 p g,cg.2<|.inl<|gk.2 ⟨p,AI.2 FQ,rfl⟩,rfl,rfl,rfl⟩
 have em:∀x,x∈sB C.aB g++N->x.kind≠13->x∈N:=fun x b o=>by
  rcases cg.1 b with b|b;exact absurd (Da b).1 o;exact b
 have v:∀k:Int,0<=k->((m.oL g ⟨(m.jX g).owner,true⟩).dL g<|some<|a.run C.aB j).jX k=if k=g then⟨(m.jX g).owner,true⟩ else m.jX k:=fun k o=>Ia o FQ
 have y:∀x∈N,x.kind=6\/x.kind=12->(x.core.toNat:Int)<C.aB:=fun x b o=>by have:=(h.nb x b GJ).1;omega
 constructor
 case cw=>
  intro i q
  rw[aT6]
  have:Mc.cw i (sB C.aB g)=0:=by
   refine AR.2 fun x b=>?_;have:=(Da b).1;grind
  rw[this,AD];exact h.cw i q
 case no=>exact fun x b o=>h.no x (em x b FQ) o
 case pl=>exact h.pl
 case dD=>
  intro x b o
  have b:=em x b FQ
  have:=h.dD x b o
  have z:=h.gr _<|y x b<|.inr o
  grind
 case bL=>
  intro i q x b
  have:=h.bL i q x b
  grind
 case nd=>exact h.nd
 case gr=>exact h.gr
 case wI=>
  intro d t
  rw[v _ FQ]
  show _↔(bA m.eI g _ d).isSome=true
  unfold bA
  by_cases e:d=g
  .subst e;simp
  .rw[aaa,bD1 e];exact h.wI d t
 case cd=>
  intro d i q
  rw[aLg,Kh,aMe q,h.cd d i q]
  by_cases e:d=g
  .subst e;rw[bD2 rfl,bD2 rfl];have:Fl m d i=0:=by unfold Fl;rw[E]
   rw[this]
   show 1+0=(decide<|(i:Int)<C.aB).toNat
   grind
  .rw[bD1 e,bD1 e,AD];rfl
 case nb=>
  intro x b o
  rcases cg.1 b with b|b
  .obtain⟨I,J,k,w,rfl⟩:=Da b;exact⟨⟨by show(0:Int)<=k;omega,w⟩,fun _=>FQ⟩
  .exact h.nb x b o
 case ph=>
  intro d u f
  have f:bA m.eI g (some<|a.run C.aB j) d=some u:=f
  unfold bA at f
  split at f
  .cases f;refine⟨?_,fun i q=>cr FQ⟩;show(1:Int)=2↔(!(decide (((0:Nat):Int)<C.aB)||_||_||_))=true;have:=hC.1.1;grind
  .exact h.ph d u f
theorem mB.over {r:Mc.mP} (hC:C.Ok) (h:mB C K m N) (L:(m.eU.length:Int)=C.aM) (E:(g:Int)<C.aM) (w:m.eI g=some r) (v:r.phase=2):
  mB C K ((m.oL g ⟨o,false⟩).dL g none) N/\(∀i:Nat,(i:Int)<C.aB->∀x∈(K i).bL,x.1≠g):=by
 have z:∀k:Int,0<=k->((m.oL g ⟨o,false⟩).dL g none).jX k=if k=g then⟨o,false⟩ else m.jX k:=fun k p=>Ia p FQ
 have u:=(h.wI g E).2 (by rw[w];rfl)
 have j:=(h.ph g r w).1.1 v
 have I:∀i:Nat,(i:Int)<C.aB->r.aH i=false:=fun i d=>by
  have:i=0\/i=1\/i=2\/i=3:=GA
  unfold mP.none at j;grind
 have G:∀i:Nat,(i:Int)<C.aB->¬mY N i g:=fun i d v=>by
  have J:=aP3 v;have B:=h.cd g i d;unfold Fl at B;grind
 have D:∀x∈N,x.kind=6\/x.kind=12->(x.core.toNat:Int)<C.aB:=fun x f p=>by have:=(h.nb x f GJ).1;omega
 have t:∀i:Nat,(i:Int)<C.aB->∀x∈(K i).bL,x.1≠g:=fun i d x f e=>by
  have:=(h.bL i d x f).2.2 (by rw[e];exact u);grind
 refine⟨?_,t⟩
 constructor
 case cw=>exact h.cw
 case no=>exact h.no
 case pl=>exact h.pl
 case dD=>
  intro x f p
  have:=h.dD x f p
  have F:=h.gr _<|D x f<|.inr p
  grind
 case bL=>
  intro i d x f
  have:=h.bL i d x f
  grind
 case nd=>exact h.nd
 case gr=>exact h.gr
 case wI=>
  intro b q
  rw[z _ FQ]
  show _↔(bA m.eI g none b).isSome=true
  unfold bA
  by_cases e:b=g
  .subst e;simp
  .rw[aaa,bD1 e];exact h.wI b q
 case cd=>
  intro b i d
  rw[Kh,h.cd b i d]
  by_cases e:b=g
  .unfold Fl;grind
  .rw[bD1 e];rfl
 case nb=>exact h.nb
 case ph=>
  intro b y a
  have a:bA m.eI g none b=some y:=a
  unfold bA at a
  by_cases e:b=g
  .grind
  .rw[bD1 e] at a;exact h.ph b y a
end
variable {A:AM}
variable {B:AM} {s:aQ}
def Ef (b:B.aD=bA A.aD i s) (hc:B.lD=A.lD):B.jA i a={B with aD:=bA A.aD i (s.jA a)}:=by
 unfold AM.jA AM.oZ;rw[b,dI,Al]
theorem Ri {x:iW} (h:aQ.kO s=some x):s.over=false/\x=mW s.prog s.at':=by
 unfold aQ.kO at h;grind
theorem Rf (a:(i:Int)<A.lD.aB) (d:(A.aD i).over=false):
  A.step i b=((A.kD i (mW (A.aD i).prog (A.aD i).at') b).1.jA i (A.kD i (mW (A.aD i).prog (A.aD i).at') b).2.2.2.2,
      ⟨i,(A.aD i).at',(mW (A.aD i).prog (A.aD i).at').op,(A.aD i).aY,(A.kD i (mW (A.aD i).prog (A.aD i).at') b).2.1,(A.kD i (mW (A.aD i).prog (A.aD i).at') b).2.2.1,(A.kD i (mW (A.aD i).prog (A.aD i).at') b).2.2.2.1⟩,0):=by
 unfold AM.step
 grind
def aDg (h:A.aD i=s):A.aD=bA A.aD i s:=by subst h;exact zQ.symm
def aHu {r:aQ×Ev} (g:(i:Int)<A.lD.aB) (h:aQ.lI (A.aD i) i=some r):A.step i b=({A with aD:=bA A.aD i r.1},r.2,0)/\Ak r.2=false:=by
 unfold aQ.lI at h;cases hn:aQ.kO (A.aD i) with
 |none=>rw[hn] at h;cases h
 |some x=>
  rw[hn] at h;dsimp only at h;obtain⟨j,k⟩:=Ri hn;rw[Rf g j,<-k];unfold AM.kD;split at h;rename_i e;cases h;rw[bD2 e];exact⟨by rw[Ef (A:=A) (B:=A.oZ i _) (s:=(A.aD i).dL x.a x.b) rfl rfl];rfl,rfl⟩;rename_i d;rw[bD1 d];split at h;rename_i e;cases h;rw[bD2 e];exact⟨by rw[Ef (A:=A) (B:=A.oZ i _) (s:=(A.aD i).dL x.a _) rfl rfl];rfl,rfl⟩;rename_i e2;rw[bD1 e2];split at h;cases h;rw[aaa,aaa,aaa,aaa,aaa];exact⟨HR,rfl⟩;split at h;rename_i e;rw[aaa,bD2 e];split at h;rename_i a;cases h;rw[bD2 a];exact⟨by rw[Ef (A:=A) (B:=A.oZ i _) (s:=(A.aD i).Zc x.a) rfl rfl];rfl,rfl⟩;rename_i a;cases h;rw[bD1 a];exact⟨HR,rfl⟩;rename_i a;split at h;rename_i e;cases h;rw[aaa,bD1 a,aaa,bD2 e];exact⟨HR,rfl⟩;rename_i f;split at h;rename_i e;cases h;rw[aaa,bD1 a,aaa,bD1 f,bD2 e];exact⟨HR,rfl⟩;cases h
def aGe {a:vT} (h:aQ.iG s=some a):∃x,aQ.kO s=some x/\(x.op=3\/x.op=4\/x.op=5)/\a=⟨s.dK x.b.toNat,decide<|x.op≠3,decide<|x.op≠4,if x.op=3 then 0 else s.dK x.a.toNat⟩:=by
 unfold aQ.iG at h;cases hn:aQ.kO s with
 |none=>rw[hn] at h;cases h
 |some x=>
  rw[hn] at h;dsimp only at h;split at h;rename_i e;cases h;exact⟨x,rfl,c8 e,rfl⟩;cases h
theorem nq {a:vT} (h:(i:Int)<A.lD.aB) (ha:aQ.iG (A.aD i)=some a) (j:A.Nw (A.aD i).aY a.dD=false):
  A.step i b=({A with aD:=bA A.aD i (aQ.bK (A.aD i) i 0 19).1},(aQ.bK (A.aD i) i 0 19).2.1,0)/\(aQ.bK (A.aD i) i 0 19).2.2=0/\Ak (aQ.bK (A.aD i) i 0 19).2.1=false:=by
 obtain⟨x,f,e,rfl⟩:=aGe ha
 obtain⟨k,o⟩:=Ri f
 have g:aQ.bK (A.aD i) i 0 19=((A.aD i).jA<|(A.aD i).at'+1,aQ.ev (A.aD i) i x ((A.aD i).dK x.b.toNat) 0 19,0):=by
  unfold aQ.bK;rw[f];dsimp only;rw[aaa,bD2<|by unfold Qo;grind,aaa,bD2 rfl]
 rw[g,Rf h k,<-o]
 unfold AM.kD
 have d:A.eK i x=(A,0,19):=by unfold AM.eK;rw[bD1<|by rw[j];simp]
 rw[aaa,aaa,bD2 e,d]
 exact⟨HR,rfl,rfl⟩
theorem aD3 {a:vT} (p:(i:Int)<A.lD.aB) (ha:aQ.iG (A.aD i)=some a) (q:A.Nw (A.aD i).aY a.dD=true) (d:v=if a.F4 then Jk A.mem a.dD.toNat else 0):
  A.step i b=({A with aD:=bA A.aD i (aQ.bK (A.aD i) i v 0).1,mem:=if a.iV then Fm A.mem a.dD.toNat a.value else A.mem},(aQ.bK (A.aD i) i v 0).2.1,0)/\(aQ.bK (A.aD i) i v 0).2.2=0/\Ak (aQ.bK (A.aD i) i v 0).2.1=false:=by
 obtain⟨x,k,g,rfl⟩:=aGe ha
 obtain⟨t,u⟩:=Ri k
 have o:aQ.bK (A.aD i) i v 0=if x.op=4 then((A.aD i).jA<|(A.aD i).at'+1,aQ.ev (A.aD i) i x ((A.aD i).dK x.b.toNat) ((A.aD i).dK x.a.toNat) 0,0) else(((A.aD i).dL x.a v).jA<|(A.aD i).at'+1,aQ.ev (A.aD i) i x ((A.aD i).dK x.b.toNat) v 0,0):=by
  unfold aQ.bK;rw[k];dsimp only;rw[aaa,bD2<|by unfold Qo;grind,aaa,aaa]
 rw[o,Rf p t,<-u]
 unfold AM.kD
 rw[aaa,aaa,bD2 g]
 unfold AM.eK
 rw[bD2 q]
 rcases g with e|e|e
 .rw[bD2 e,aaa];have d:v=Jk A.mem ((A.aD i).dK x.b.toNat).toNat:=by rw[d,bD2 GZ]
  have h:decide (x.op≠3)=false:=GZ
  subst d
  refine⟨?_,rfl,rfl⟩
  rw[h]
  rw[Ef (A:=A) (B:=A.oZ i _) (s:=(A.aD i).dL x.a _) rfl rfl];rfl
 .have h:decide (x.op≠3)=true:=GZ
  have f:¬x.op=3:=FQ
  refine⟨?_,by rw[bD2 e],by rw[bD2 e];rfl⟩
  rw[bD1 f,bD2 e,bD2 e,h]
  rw[Ef (A:=A) (B:=A.jI<|Fm A.mem ((A.aD i).dK x.b.toNat).toNat<|(A.aD i).dK x.a.toNat) (aDg rfl) rfl,bD1 f];rfl
 .have h:decide (x.op≠3)=true:=GZ
  have f:¬x.op=3:=FQ
  have j:¬x.op=4:=FQ
  have d:v=Jk A.mem ((A.aD i).dK x.b.toNat).toNat:=by rw[d,bD2 GZ]
  subst d
  refine⟨?_,by rw[bD1 j],by rw[bD1 j];rfl⟩
  rw[bD1 f,bD1 j,bD1 j,h]
  rw[Ef (A:=A) (B:=(A.jI<|Fm A.mem ((A.aD i).dK x.b.toNat).toNat<|(A.aD i).dK x.a.toNat).oZ i _) (s:=(A.aD i).dL x.a _) rfl rfl,bD1 f];rfl
theorem aa {a:Mc.Np} (h:aQ.xW s i=some a):∃x,aQ.kO s=some x/\x.op=8/\a=⟨i,s.aY,x.a,s.dK x.b.toNat,s.dK x.c.toNat⟩:=by
 unfold aQ.xW at h;grind
theorem y2 {a:Mc.Np} {e:Int} (j:(i:Int)<A.lD.aB) (ha:aQ.xW (A.aD i) i=some a) (hc:A.call a.call a.aY a.aR a.to (decide<|e=17)=(B,e)):
  A.step i (decide<|e=17)=({B with aD:=bA A.aD i (aQ.bK (A.aD i) i 0 e).1},(aQ.bK (A.aD i) i 0 e).2.1,0)/\(aQ.bK (A.aD i) i 0 e).2.2=0/\Ak (aQ.bK (A.aD i) i 0 e).2.1=decide (e=17):=by
 obtain⟨x,k,f,rfl⟩:=aa ha
 obtain⟨o,p⟩:=Ri k
 have h:aQ.bK (A.aD i) i 0 e=(((A.aD i).dL x.b e).jA<|(A.aD i).at'+1,aQ.ev (A.aD i) i x ((A.aD i).dK x.b.toNat) ((A.aD i).dK x.c.toNat) e,0):=by
  unfold aQ.bK;grind
 rw[h,Rf j o,<-p]
 have d:=Kd (m:=A) (c:=x.a) (w:=(A.aD i).aY) (g:=(A.aD i).dK x.b.toNat) (t:=(A.aD i).dK x.c.toNat) (b:=decide<|e=17)
 rw[hc] at d
 unfold AM.kD
 rw[aaa,aaa,aaa,aaa,bD2 f,hc]
 refine⟨?_,rfl,rfl⟩
 rw[Ef (A:=A) (B:=B.oZ i _) (s:=(A.aD i).dL x.b e) (by show bA B.aD i _=_;rw[d.2.2]) d.1]
 rfl
theorem Xy:∀{l:JG} {A B:AM} {x:Ev} {k:Nat},uW A l k=(B,k+l.length,0)->aDa B x=0->uW A (l++[x]) k=((B.step x.core<|Ak x).1,k+l.length+1,0)
 |[],A,B,x,k,h,a=>by
  have:A=B:=by cases h;rfl
  subst this;show uW A [x] k=_;unfold uW;rw[bD1<|by rw[a];simp];rfl
 |y::l,A,B,x,k,h,a=>by
  rw[gg];unfold uW at h ⊢;split at h;grind;rename_i b;rw[bD1 b];rw[js] at h ⊢;rw[show k+(l.length+1)=k+1+l.length by omega] at h ⊢;exact Xy h a
def aU5 {x:Ev} (h:A.step x.core (Ak x)=(B,x,0)):aDa A x=0:=by
 unfold aDa;rw[h];simp
end Go.Mc
namespace Go.Pc
open Go.Hm Go.Ct
variable {r:bT} {m V:Ln} {c:CLs} {N:IT} {n:aG}
structure vQ (r:bT):Prop where
 busy:r.busy=false
 owner:r.owner= -1
 sh:∀i,i<4->r.sh i=false
def Lx (r:bT):Prop:=(r.busy=true/\r.aX.kind=0)\/∃x∈r.aH,x.kind=0
def Sm (r:bT):Prop:=Lx r\/vQ r
def Sm.lE (h:Sm r):Sm (r.lE n):=by
 rcases h with(h|⟨x,a,k⟩)|h;exact .inl<|.inl h;exact .inl<|.inr ⟨x,cg.2<|.inl a,k⟩;exact .inr ⟨h.busy,h.owner,h.sh⟩
theorem My:Lx (r.lE<|pQ l):= .inr ⟨pQ l,cg.2 FR,rfl⟩
theorem mF:(r.dA n).aH=r.aH:=by
 unfold bT.dA;split;rfl;split<;>split<;>rfl
theorem kA {aI:Int} {d:Ln}:(r.dW aI d).1.aH=r.aH:=by
 grind[bT.dW]
theorem Sm.take (h:Sm r) (b:fT l r m V c (n::N)) (P:1<=n.kind/\n.kind<=5):Sm (iN.take (r,m) l n).1.1:=by
 unfold iN.take;by_cases q:n.kind=4;rw[bD2 q];obtain⟨u,L,M⟩:=b.aH9 q;rw[bD1 FR];rcases h with(h|⟨x,y,k⟩)|h;exact absurd h.2<|b.kg u;exact .inl<|.inr ⟨x,y,k⟩;have:=b.iU.gb u;rw[h.busy] at this;cases this;rw[bD1 q];by_cases t:n.kind=5;rw[bD2 t];have v:=b.nc n FW;obtain⟨i,p,o,D⟩:=jU v.2;obtain⟨O,E,g,_,_⟩:=b.y3 t p o;rw[bD1 FR];have R:(iN.nH (r,m) l n).1.1.aH=r.aH:=by
  unfold iN.nH bT.rest;dsimp only;split;split;exact mF;grind[kA,mF];exact mF
 rcases h with(h|⟨x,y,k⟩)|h;have d:=Ke b.iU v.2 FR;have f:r.dA n=(r.iE n).iC n.core:=by unfold bT.dA;rw[aac]
 unfold iN.nH bT.rest;dsimp only;split;rename_i G;rw[bD2<|by grind[E3]];right;have a:∀j:Nat,j<4->(r.dA n).sh j=false/\(r.dA n).owner≠(j:Int):=fun j w=>by
  have F:=b.k2 g E FQ j w FQ;have I:=hQ G w;have e:(r.dA n).dQ j=mE r.dQ n.core false j:=by rw[f];rfl
  have B:(r.dA n).sh j=mE r.sh n.core false j:=by rw[f];rfl
  have z:(r.dA n).owner=if r.owner=n.core then -1 else r.owner:=by rw[f];rfl
  grind[mE]
 refine⟨rfl,?_,fun i p=>(a i p).1⟩;show(r.dA n).owner= -1;have Q:=d.owner;have J:=a (r.dA n).owner.toNat;omega;left;left;exact⟨d.busy,by grind[E3]⟩;exact .inl<|.inr ⟨x,FR,k⟩;rw[h.busy] at g;cases g;rw[bD1 t];exact h.lE
theorem Sm.eY {w:IT} (h:Sm r) (hb:r.busy=false) (v:r.aH=n::w) (o:fT l r m V c N) (z:∀x,(j x).2=false):Sm (bT.eY (r.next w) l m n j).1.1:=by
 have d:n.kind≠0->Sm (r.next w):=fun D=>by
  rcases h with(h|⟨x,e,k⟩)|h;grind;rw[v] at e;rcases e6.1 e with rfl|e;grind;exact .inl<|.inr ⟨x,e,k⟩;exact .inr ⟨h.busy,h.owner,h.sh⟩
 unfold bT.eY;by_cases p:n.kind=3;rw[bD2 p];rcases d FQ with(h|⟨x,e,k⟩)|h;exact .inl<|.inl h;exact .inl<|.inr ⟨x,e,k⟩;refine .inr ⟨h.busy,?_,fun i t=>?_⟩;show(if(r.next w).owner=n.core then(-1:Int) else(r.next w).owner)= -1;split;rfl;exact h.owner;show mE _ n.core false i=false;unfold mE;split;rfl;exact h.sh i t;rw[bD1 p];by_cases g:n.kind=1\/n.kind=2;grind;rw[bD1 g];have u:=o.iU.aH n FR;split;rename_i q;have f:=Im.1 q;have B:=o.iU.owner;right;refine⟨hb,?_,FR⟩;show r.owner= -1;have y:r.owner.toNat<4->((r.owner.toNat:Nat):Int)≠ -1->((r.owner.toNat:Nat):Int)≠r.owner:=fun a b=>(f r.owner.toNat a b).2;omega;exact .inl<|.inl ⟨rfl,by show n.kind=0;omega⟩
theorem fT.aMo (h:fT l r m V c N) (hc:vQ r):(∀i,i<4->HH l r c N i=0)/\∀x∈N,x.kind≠8/\x.kind≠5/\x.kind≠11:=by
 obtain⟨q,v,_⟩:=h.Qw hc.busy;have g:∀x∈N,x.kind≠8/\x.kind≠5/\x.kind≠11:=fun x o=>by
  obtain⟨j,p,f,_⟩:=jU (h.nc x o).2;have d:=h.Bj q o;exact⟨fun k=>h.no8 p (by grind[Cj]) o k f,d.1,d.2⟩
 refine⟨fun i b=>?_,g⟩;have a:=h.c1 i b (by have:=h.t3 i b;grind[hQ]) (by have:=h.t4 i b;grind[Cj]);have t:0<=HH l r c N i:=by have:=h.Bb i b;unfold HH F7;grind
 have d:HH l r c N i≠1:=fun e=>by have:=a.1.1 e;rw[hc.sh i b] at this;cases this
 have u:¬2<=HH l r c N i:=fun e=>by have:=a.2.1 e;rw[hc.owner] at this;omega
 omega
end Go.Pc
