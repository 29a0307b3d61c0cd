/- A part of the proof. -/
import Derived.Test.YtmhapehobfnoiaaGreatDoorN12
import Derived.Test.YtmhapehobfnoiaaGreatDoorN10
import Derived.Test.YtmhapehobfnoiaaGreatDoorN11
namespace Go.Pc
open Go Go.Ab Go.Hm Go.Ct
section
variable {l:Nat} {r:Row} {m V:Ln} {c:bg} {N:List aH} {n:aH}
theorem R5 {S:List Nat} {st k:Int} {i:Nat} (h:S.Nodup):cU k i l (eQ l st S)=if k=11/\i∈S then 1 else 0:=by
 induction S with
 |nil=>simp[eQ,cU]
 |cons a S d=>
  have b:=List.nodup_cons.1 h;show cU k i l (_::eQ l st S)=_;rw[bK,d b.2];grind
theorem Inv.idle (h:Inv l r m V c N) (hb:r.busy=false):r.quiet=true/\r.granted=false/\r.told=false:=by
 have a:r.granted=false:=by cases e:r.granted with|false=>rfl|true=>have:=h.row.gb e;rw[hb] at this;cases this
 exact⟨h.row.still (.inr hb),a,h.Nx a⟩
theorem Inv.Gd {r':Row} {S:List Nat} {w:List aH} {st:Int} (h:Inv l r m V c N) (hb:r.busy=false) (I:r.waits=n::w) (hk:n.kind=0\/n.kind=1\/n.kind=2)
  (T:S.Nodup) (U:∀j∈S,j<4/\(r.sh j=true\/r.owner=(j:Int)))
  (L:n.kind≠1->∀j:Nat,j<4->(n.kind=2->(j:Int)≠n.core)->r.sh j=true\/r.owner=(j:Int)->j∈S)
  (d:n.kind=1->∀j∈S,r.owner=(j:Int)) (G:st=if n.kind=1 then 1 else 0)
  (e:r'.owner=r.owner/\r'.sh=r.sh/\r'.waits=w/\r'.busy=true/\r'.served=n/\r'.granted=false/\r'.told=false) (e2:∀j,j<4->r'.asked j=decide (j∈S)):
  Inv l r' m V c (eQ l st S++N):=by
 obtain⟨E,hg,ht⟩:=h.idle hb
 have p:=h.row.waits n (by rw[I];simp)
 obtain⟨i,O,v,z⟩:=dI p.2.1
 have u:=fun x a=>h.calm E (x:=x) a
 have q:∀k j,cU k j l r.waits=cU k j l w+if n.kind=k/\j=i then 1 else 0:=fun k j=>by
  rw[I,bK];congr 1;simp only[v,p.1];grind
 have o:∀k j,cU k j l (eQ l st S++N)=(if k=11/\j∈S then 1 else 0)+cU k j l N:=fun k j=>by rw[xR,R5 T]
 have g:∀j,HH l r' c (eQ l st S++N) j=HH l r c N j:=fun j=>by
  unfold HH pd;rw[q,o,e.2.2.1,aaa,aaa];simp
 have D:∀x∈eQ l st S,x.kind=11/\x.line=l/\x.state=st/\∃j∈S,x.core=(j:Int):=fun x a=>by
  unfold eQ at a;grind
 have g0:∀j,qJ r j=0/\qJ r' j=0:=fun j=>by unfold qJ;grind
 have e8:∀x∈N,x.kind≠8:=fun x a k=>by
  have hb:=h.nc x a;obtain⟨j,b,y,_⟩:=dI hb.2;exact h.xn b (g0 j).1 a k y
 have Z:∀j,uI r j=0:=fun j=>by unfold uI;rw[hb];simp
 have s1:∀j,uI r' j=if n.kind≠0/\j=i then 1 else 0:=fun j=>by
  unfold uI;grind
 have f:∀x,x∈eQ l st S++N->x∈eQ l st S\/x∈N:=fun x a=>List.mem_append.1 a
 have B:∀x,x∈w->x∈r.waits:=fun x a=>by grind
 have W:∀j,j<4->(HH l r c N j=1↔r.sh j=true)/\(2<=HH l r c N j↔r.owner=(j:Int)):=fun j b=>h.c1 j b (by have:=h.t3 j b;rw[dQ E b] at this;simp at this;omega) (by have:=h.t4 j b;rw[(g0 j).1] at this;omega)
 have F:=h.rq n (.inr (by rw[I];simp))
 rw[z] at F
 have J:n.kind=0\/n.kind=2\/r.owner≠n.core:=by
  by_cases Y:n.kind=1;right;right;intro eo;have has:(c i).kC=true:=by
   have:=h.t1 i O;rw[q 1,aCx ⟨Y,rfl⟩] at this;cases a:(c i).kC<;>simp_all
  have t:(c i).aw=false:=by grind
  have:=h.a2 i O has t;grind;omega
 constructor
 case row=>
  refine uV.Vc ⟨?_,?_,?_,?_,?_,e.2.2.2.1,e.2.2.2.2.2.1⟩
  .grind
  .rw[e.1];exact h.row.owner
  .rw[e.2.2.1];exact fun x a=>h.row.waits x (B x a)
  .grind
  grind
 case ks=>grind
 case kg=>grind
 case told=>grind
 case nc=>
  intro x a;rcases f x a with a|a
  .grind
  .exact h.nc x a
 case ex=>exact h.ex
 case pA=>exact h.pA
 case t1=>
  intro j b
  have d:=h.t1 j b
  simp only[q,Z] at d
  rw[s1,e.2.2.1]
  grind
 case t2=>intro j b;have d:=h.t2 j b;rw[q,aaa] at d;grind
 case t3=>
  intro j b
  have d:=h.t3 j b
  rw[dQ E b] at d
  simp at d
  rw[e2 j b]
  simp only[o,d]
  grind
 case t4=>intro j b;have d:=h.t4 j b;grind
 case a1=>simp only[g];exact h.a1
 case a2=>simp only[g];exact h.a2
 case rq=>
  intro x a k
  refine h.rq x ?_ k
  grind
 case rs=>grind
 case c1=>grind
 case c2=>simp only[g];exact h.c2
 case uW=>grind
 case gN=>grind
 case pN=>
  intro x a k
  rcases f x a with a|a
  .obtain⟨_,_,Q,j,b,R⟩:=D x a;rw[e.1,e.2.1,e.2.2.2.2.1,Q,G,R,Int.toNat_natCast];grind
  grind
 case rN=>grind
 case uN=>
  intro x a k
  refine h.uN x ?_ k
  grind
 case c3=>simp only[g];exact h.c3
 case c5=>simp only[g];exact fun d P=>h.c5 d (fun x a=>P x (List.mem_append.2 (.inr a)))
 grind
theorem Inv.aA4 {w:List aH} (h:Inv l r m V c N) (B:r.waits=n::w) (I:n.kind=1\/n.kind=2):Inv l (r.next w) m V c (pU 9 n.core l::N):=by
 have q:=h.row.waits n (by rw[B];simp);obtain⟨i,G,z,E⟩:=dI q.2.1;have t:∀k j,cU k j l r.waits=cU k j l w+if n.kind=k/\j=i then 1 else 0:=fun k j=>by
  rw[B,bK];grind
 have g:∀k j,cU k j l (pU 9 n.core l::N)=cU k j l N+if k=9/\j=i then 1 else 0:=fun k j=>by
  rw[bK];congr 1;simp only[pU,z];grind
 have f:∀j,HH l (r.next w) c (pU 9 n.core l::N) j=HH l r c N j:=fun j=>by
  unfold HH pd;rw[t,g,aaa,aaa];rfl
 have b:∀x,x∈pU 9 n.core l::N->x=pU 9 n.core l\/x∈N:=fun x a=>List.mem_cons.1 a;have p:∀x,x∈w->x∈r.waits:=fun x a=>by grind
 have F:∀x,x=pU 9 n.core l->x.kind=9:=fun x e=>by rw[e];rfl
 constructor;exact vF h.row B;exact h.ks;exact h.kg;exact h.told;intro x a;rcases b x a with rfl|a;exact⟨rfl,q.2.1⟩;exact h.nc x a;exact h.ex;exact h.pA;intro j d;have o:=h.t1 j d;have D:uI (r.next w) j=uI r j:=rfl;rw[D];simp only[t,g] at o ⊢;rw[show(r.next w).waits=w from rfl];grind;intro j d;have o:=h.t2 j d;rw[t,aaa] at o;rw[show(r.next w).waits=w from rfl];grind;intro j d;have o:_=((r.next w).asked j).toNat:=h.t3 j d;grind;intro j d;have o:_=qJ (r.next w) j:=h.t4 j d;grind;simp only[f];exact h.a1;simp only[f];exact h.a2;intro x a k;exact h.rq x (a.elim (fun a=> .inl ((b x a).resolve_left (fun e=>by grind))) (fun a=> .inr (p x a))) k;exact h.rs;intro j d v y;rw[f];simp only[g] at v y;simp at v y;exact h.c1 j d v y;simp only[f];exact h.c2;simp only[f];intro j d u x a k;rcases b x a with rfl|a;cases k;exact h.uW j d u x a k;simp only[f];intro x a k;rcases b x a with rfl|a;cases k;exact h.gN x a k;intro x a k;rcases b x a with rfl|a;cases k;exact h.pN x a k;simp only[f];intro x a k;rcases b x a with rfl|a;cases k;exact h.rN x a k;intro x a k;exact h.uN x (a.elim (fun a=> .inl ((b x a).resolve_left (fun e=>by grind))) (fun a=> .inr (p x a))) k;simp only[f];exact h.c3;simp only[f];exact fun o u=>h.c5 o (fun x a=>u x (List.mem_cons_of_mem _ a));exact h.k2
theorem Inv.aA6 {w:List aH} (h:Inv l r m V c N) (o:r.waits=n::w) (q:n.kind=0):Inv l (r.next w) m V c N:=by
 have e:∀k j,k≠0->cU k j l r.waits=cU k j l w:=fun k j p=>by
  rw[o,bK,aaa];rfl
 have a:∀j,HH l (r.next w) c N j=HH l r c N j:=fun j=>by unfold HH pd;rw[e 3 j (by omega)];rfl
 have d:∀x,x∈w->x∈r.waits:=fun x f=>by grind
 constructor;exact vF h.row o;exact h.ks;exact h.kg;exact h.told;exact h.nc;exact h.ex;exact h.pA;intro j g;have b:=h.t1 j g;rw[e 1 j (by omega),e 2 j (by omega)] at b;exact b;intro j g;have b:=h.t2 j g;rw[e 3 j (by omega)] at b;exact b;exact h.t3;exact h.t4;simp only[a];exact h.a1;simp only[a];exact h.a2;exact fun x f=>h.rq x (f.imp id (d x));exact h.rs;simp only[a];exact h.c1;simp only[a];exact h.c2;simp only[a];exact h.uW;simp only[a];exact h.gN;exact h.pN;simp only[a];exact h.rN;exact fun x f=>h.uN x (f.imp id (d x));simp only[a];exact h.c3;simp only[a];exact h.c5;exact h.k2
theorem Inv.mo (h:Inv l r m V c N):Inv l (r.wait (nN l)) m V c N:=by
 have f:∀k j,k≠0->cU k j l (r.wait (nN l)).waits=cU k j l r.waits:=fun k j o=>by
  show cU k j l (r.waits++[nN l])=_;rw[xR,bK,Tt,aCw (by simp[nN,aH.zero];omega)];rfl
 have b:∀j,HH l (r.wait (nN l)) c N j=HH l r c N j:=fun j=>by unfold HH pd;grind
 have d:∀x,x∈(r.wait (nN l)).waits->x.kind≠0->x∈r.waits:=fun x a k=>by
  have a:x∈r.waits++[nN l]:=a;rcases List.mem_append.1 a with a|a;exact a;rw[List.mem_singleton.1 a] at k;exact absurd rfl k
 constructor;exact wF h.row rfl ⟨by show(0:Int)<=0;omega,by show(0:Int)<4;omega⟩ (.inl rfl);exact h.ks;exact h.kg;exact h.told;exact h.nc;exact h.ex;exact h.pA;intro j e;have g:=h.t1 j e;rw[f 1 j (by omega),f 2 j (by omega)];exact g;intro j e;have g:=h.t2 j e;grind;exact h.t3;exact h.t4;simp only[b];exact h.a1;simp only[b];exact h.a2;exact fun x a k=>h.rq x (a.imp id (fun a=>d x a (by omega))) k;exact h.rs;simp only[b];exact h.c1;simp only[b];exact h.c2;simp only[b];exact h.uW;simp only[b];exact h.gN;exact h.pN;simp only[b];exact h.rN;exact fun x a k=>h.uN x (a.imp id (fun a=>d x a (by omega))) k;simp only[b];exact h.c3;simp only[b];exact h.c5;exact h.k2
theorem Inv.fk {w:List aH} (h:Inv l r m V c N) (hb:r.busy=false) (E:r.waits=n::w) (T:n.kind=3):
  Inv l ((r.next w).leave n.core) (if r.owner=n.core/\n.gC=true then(n.d0,n.d1) else m) V c (pU 10 n.core l::N):=by
 obtain⟨U,hg,ht⟩:=h.idle hb
 have q:=h.row.waits n (by rw[E];simp)
 obtain⟨i,D,v,L⟩:=dI q.2.1
 have f:=fun x a=>h.calm U (x:=x) a
 have t:∀k j,cU k j l r.waits=cU k j l w+if k=3/\j=i then 1 else 0:=fun k j=>by
  rw[E,bK];congr 1;simp only[v,q.1,T];grind
 have o:∀k j,cU k j l (pU 10 n.core l::N)=cU k j l N+if k=10/\j=i then 1 else 0:=fun k j=>by
  rw[bK];congr 1;simp only[pU,v];grind
 have g0:∀j,qJ r j=0/\qJ ((r.next w).leave n.core) j=0:=fun j=>⟨by unfold qJ;rw[hg];simp,by unfold qJ;rw[aCw];intro e;have:r.granted=true:=e.1;grind⟩
 have e8:∀x∈N,x.kind≠8:=fun x a k=>by
  have hb:=h.nc x a;obtain⟨j,d,J,_⟩:=dI hb.2;exact h.xn d (g0 j).1 a k J
 have u:∀j,j<4->(HH l r c N j=1↔r.sh j=true)/\(2<=HH l r c N j↔r.owner=(j:Int)):=fun j d=>h.c1 j d (by have:=h.t3 j d;rw[dQ U d] at this;simp at this;omega) (by have:=h.t4 j d;grind)
 have W:(c i).gi=true/\cU 3 i l N=0/\cU 3 i l w=0/\cU 10 i l N=0:=by
  have:=h.t2 i D;rw[t,aCx ⟨rfl,rfl⟩] at this;cases a:(c i).gi with
  |false=>grind
  |true=>grind
 have z:(c i).st=0/\(c i).kC=false:=by
  have:=h.ex i D;rw[W.1] at this;constructor;grind;grind
 have P:HH l r c N i=(c i).gs:=by
  unfold HH oZ pd;rw[t,z.1,W.1];simp
 have G:HH l ((r.next w).leave n.core) c (pU 10 n.core l::N) i=0:=by
  unfold HH oZ;have:pd l ((r.next w).leave n.core) (pU 10 n.core l::N) i=0:=by
   unfold pd;rw[o];show _+cU 3 i l w=0;grind
  grind
 have Z:∀j,j≠i->HH l ((r.next w).leave n.core) c (pU 10 n.core l::N) j=HH l r c N j:=fun j e=>by
  unfold HH;have:pd l ((r.next w).leave n.core) (pU 10 n.core l::N) j=pd l r N j:=by
   unfold pd;rw[o,t];show _+cU 3 j l w=_;simp[e]
  rw[this]
 have hle:∀j,j<4->HH l ((r.next w).leave n.core) c (pU 10 n.core l::N) j=HH l r c N j\/(j=i/\HH l ((r.next w).leave n.core) c (pU 10 n.core l::N) j=0):=fun j _=>by
  grind
 have g:∀x,x∈pU 10 n.core l::N->x=pU 10 n.core l\/x∈N:=fun x a=>List.mem_cons.1 a
 have y:∀x,x∈w->x∈r.waits:=fun x a=>by grind
 have γ:∀x,x=pU 10 n.core l->x.kind=10:=fun x e=>by rw[e];rfl
 have B:=h.uN n (.inr (by rw[E];simp)) T
 rw[L] at B
 constructor
 case row=>exact uD (vF h.row E)
 case ks=>exact h.ks
 case kg=>exact h.kg
 case told=>exact h.told
 case nc=>intro x a;rcases g x a with rfl|a;exact⟨rfl,q.2.1⟩;exact h.nc x a
 case ex=>exact h.ex
 case pA=>exact h.pA
 case t1=>
  intro j d
  have p:=h.t1 j d
  have Y:uI ((r.next w).leave n.core) j=uI r j:=rfl
  rw[Y]
  simp only[t,o] at p ⊢
  rw[show((r.next w).leave n.core).waits=w from rfl]
  grind
 case t2=>
  intro j d
  have p:=h.t2 j d
  simp only[t,o] at p ⊢
  show cU 3 j l N+_+cU 3 j l w+_=_
  grind
 case t3=>intro j d;have p:_=(((r.next w).leave n.core).asked j).toNat:=h.t3 j d;grind
 case t4=>intro j d;have p:=h.t4 j d;grind
 case a1=>intro j d I;have:=h.a1 j d I;grind
 case a2=>intro j d I hb;have:=h.a2 j d I hb;grind
 case rq=>intro x a k;exact h.rq x (a.elim (fun a=> .inl ((g x a).resolve_left (fun e=>by grind))) (fun a=> .inr (y x a))) k
 case rs=>exact h.rs
 case c1=>
  intro j d _ _
  by_cases e:j=i
  .rw[e,G];constructor
   .show _↔fO r.sh n.core false i=true;unfold fO;grind
   .show _↔(if r.owner=n.core then(-1:Int) else r.owner)=(i:Int);grind
  .rw[Z j e];have p:=u j d;constructor
   .show _↔fO r.sh n.core false j=true;unfold fO;grind
   .show _↔(if r.owner=n.core then(-1:Int) else r.owner)=(j:Int);grind
 case c2=>
  intro j d h2 k β e
  have F:=h.c2 j d
  grind
 case uW=>grind
 case gN=>grind
 case pN=>grind
 case rN=>grind
 case uN=>intro x a k;exact h.uN x (a.elim (fun a=> .inl ((g x a).resolve_left (fun e=>by grind))) (fun a=> .inr (y x a))) k
 case c3=>
  intro j d F
  rcases hle j d with O|O
  .rw[O] at F;exact h.c3 j d F
  grind
 case c5=>
  intro p _
  by_cases ho:r.owner=n.core
  .have h2:=(u i D).2.2 (by omega);have Q:=h.c3 i D (by omega);unfold tG at Q;rw[aCw (by simpa using z.1)] at Q;by_cases R:n.gC=true
   .grind
   .rw[aCw (fun e=>R e.2)];have α:¬((c i).gs=3\/(c i).gs=4):=fun e=>R (B.2 e);refine h.c5 (fun j d=>?_) (fun x a k=>absurd k (f x a).1);grind
  .rw[aCw (fun e=>ho e.1)];refine h.c5 (fun j d=>?_) (fun x a k=>absurd k (f x a).1);grind
 case k2=>intro b;rw[show((r.next w).leave n.core).busy=r.busy from rfl,hb] at b;cases b
theorem Inv.begun {w:List aH} {j:Int->Int×Bool} (h:Inv l r m V c N) (hb:r.busy=false) (f:r.waits=n::w):
  Inv l (Row.begun (r.next w) l m n j).1.1 (Row.begun (r.next w) l m n j).1.2 V c ((Row.begun (r.next w) l m n j).2++N):=by
 obtain⟨D,t,y⟩:=h.idle hb
 have O:=h.row.waits n (by rw[f];simp)
 obtain⟨i,hi,I,J⟩:=dI O.2.1
 have p:∀j,j<4->r.asked j=false:=fun j o=>dQ D o
 have T:∀j,j<4->(HH l r c N j=1↔r.sh j=true)/\(2<=HH l r c N j↔r.owner=(j:Int)):=fun j o=>h.c1 j o (by have:=h.t3 j o;rw[dQ D o] at this;simp at this;omega) (by have:=h.t4 j o;unfold qJ at this;rw[t] at this;simp at this;omega)
 have β:=h.row.owner
 unfold Row.begun
 by_cases k3:n.kind=3
 .rw[aCx k3];exact h.fk hb f k3
 .rw[aCw k3];by_cases z:n.kind=1\/n.kind=2
  .rw[aCx z];by_cases o:(j n.world).2=true
   .rw[aCx o];have d:((r.next w).serve n (j n.world).1).served=n:=rfl;unfold Row.get;by_cases E:n.kind=2
    .simp only[aCx E];unfold Row.getM;by_cases B:((r.next w).serve n (j n.world).1).first n.core≠ -1
     .rw[aCx (by rw[d];exact B)];rw[d];have v:∀a,a∈((r.next w).serve n (j n.world).1).iF n.core->a<4/\(r.sh a=true\/r.owner=(a:Int)):=fun a b=>by
       have:=mL.1 b;have F:r.holds n.core a=true:=this.2;unfold Row.holds at F;grind
      refine h.Gd hb f (.inr (.inr E)) Gz v (fun _ a b u oZ=>mL.2 ⟨b,?_⟩) (fun e=>by omega) (by grind) ⟨rfl,rfl,rfl,rfl,rfl,t,y⟩ (fun a b=>?_)
      .show r.holds n.core a=true;unfold Row.holds;grind
      .show(r.asked a||(((r.next w).serve n (j n.world).1).iF n.core).contains a)=_;grind
     .rw[aCw (by rw[d];exact B)];have U:((r.next w).serve n (j n.world).1).first n.core= -1:=Classical.not_not.1 B
      have L:=Bm.1 U
      have Q:=h.Gd (r':=(r.next w).serve n (j n.world).1) (S:=[]) (st:=0) hb f (.inr (.inr E)) List.nodup_nil (fun _ e=>by cases e)
       (fun _ a b u oZ=>by
        have F:r.sh a=false/\(a:Int)≠r.owner:=L a b (u E);grind) (fun _ _ e=>by cases e) (by grind) ⟨rfl,rfl,rfl,rfl,rfl,t,y⟩ (fun a b=>by show r.asked a=_;grind)
      have g:((r.next w).serve n (j n.world).1).tG m=m:=by unfold Row.tG;rw[aCw];show ¬r.told=true;rw[y];simp
      rw[g]
      have G:∀a,HH l ((r.next w).serve n (j n.world).1) c (eQ l 0 []++N) a=HH l r c N a:=fun a=>by
       unfold HH pd;show oZ (c a) (cU 3 a l N+cU 3 a l w)=_;rw[f,bK,aaa];rfl
      refine(Q.eA rfl t D (.inr E) (fun h0=>?_) (fun e=>by grind)).1
      refine h.c5 (fun a b=>?_) (fun x u k=>absurd k (h.calm D u).1)
      by_cases e:a=i
      .rw[G,d,J] at h0;rw[e];omega
      .have F:r.sh a=false/\(a:Int)≠r.owner:=L a b (by rw[I];omega);have:¬2<=HH l r c N a:=fun e2=>by have:=(T a b).2.1 e2;omega
       omega
    .simp only[aCw E];have q:n.kind=1:=by omega
     have Y:=(h.rq n (.inr (by rw[f];simp)) (.inl q))
     rw[J] at Y
     have has:(c i).kC=true:=by
      have:=h.t1 i hi;rw[f,bK (k:=1),aCx ⟨q,I,O.1⟩] at this;cases u:(c i).kC<;>simp_all
     have R:(c i).aw=false:=by grind
     have h0:=h.a2 i hi has R
     have W:r.owner≠n.core:=fun e=>by grind
     have Z:((r.next w).serve n (j n.world).1).mV=(r.next w).serve n (j n.world).1:=by unfold Row.mV;exact aCw W
     rw[Z]
     unfold Row.Ro
     by_cases P:r.owner≠ -1
     .rw[aCx (show((r.next w).serve n (j n.world).1).owner≠ -1 from P)];refine h.Gd hb f (.inr (.inl q)) (List.nodup_cons.2 ⟨by simp,List.nodup_nil⟩) (fun a b=>?_) (fun e=>absurd q e) (fun _ a b=>?_) (by rw[aCx q]) ⟨rfl,rfl,rfl,rfl,rfl,t,y⟩ (fun a b=>?_)
      .have b:a=((r.next w).serve n (j n.world).1).owner.toNat:=by simpa using b
       have b:a=r.owner.toNat:=b
       grind
      .have b:a=((r.next w).serve n (j n.world).1).owner.toNat:=by simpa using b
       have b:a=r.owner.toNat:=b
       omega
      .show(r.asked a||[r.owner.toNat].contains a)=_;rw[p a b];simp;rfl
     .rw[aCw (show ¬((r.next w).serve n (j n.world).1).owner≠ -1 from P)];have P:r.owner= -1:=Classical.not_not.1 P;have Q:=h.Gd (r':=(r.next w).serve n (j n.world).1) (S:=[]) (st:=1) hb f (.inr (.inl q)) List.nodup_nil (fun _ e=>by cases e)
       (fun e=>absurd q e) (fun _ _ e=>by cases e) (by rw[aCx q]) ⟨rfl,rfl,rfl,rfl,rfl,t,y⟩ (fun a b=>by show r.asked a=_;grind)
      have g:((r.next w).serve n (j n.world).1).tG m=m:=by unfold Row.tG;rw[aCw];show ¬r.told=true;rw[y];simp
      rw[g]
      have G:∀a,HH l ((r.next w).serve n (j n.world).1) c (eQ l 1 []++N) a=HH l r c N a:=fun a=>by
       unfold HH pd;show oZ (c a) (cU 3 a l N+cU 3 a l w)=_;rw[f,bK,aaa];rfl
      have α:∀a,a<4->¬2<=HH l r c N a:=fun a b e2=>by grind
      refine(Q.eA rfl t D (.inl q) (fun _=>h.c5 (fun a b=>?_) (fun x u k=>absurd k (h.calm D u).1)) (fun _ a b=>?_)).1
      .grind
      grind
   .rw[aCw o];exact h.aA4 f z
  .rw[aCw z];have k0:n.kind=0:=by grind
   by_cases B:(r.next w).first (-1)= -1
   .rw[aCx B];exact h.aA6 f k0
   .rw[aCw B];have v:∀a,a∈(r.next w).iF (-1)->a<4/\(r.sh a=true\/r.owner=(a:Int)):=fun a b=>by
     have:=mL.1 b;have F:r.holds (-1) a=true:=this.2;unfold Row.holds at F;grind
    refine h.Gd hb f (.inl k0) Gz v (fun _ a b u oZ=>mL.2 ⟨b,?_⟩) (fun e=>by omega) (by grind) ⟨rfl,rfl,rfl,rfl,rfl,t,y⟩ (fun a b=>?_)
    .show r.holds (-1) a=true;unfold Row.holds;grind
    .show(r.asked a||((r.next w).iF (-1)).contains a)=_;grind
theorem Inv.df {V':Ln} (h:Inv l r m V c N) (b:∀i,i<4->HH l r c N i=0) (d:∀x∈N,x.kind≠8/\(x.kind=5->x.gC=false)):Inv l r V' V' c N:=by
 constructor;exact h.row;exact h.ks;exact h.kg;exact h.told;exact h.nc;exact h.ex;exact h.pA;exact h.t1;exact h.t2;exact h.t3;exact h.t4;exact h.a1;exact h.a2;exact h.rq;exact h.rs;exact h.c1;exact h.c2;exact h.uW;grind;exact h.pN;exact fun x a k=>⟨(h.rN x a k).1,(h.rN x a k).2.1,fun e=>by grind⟩;exact h.uN;grind;exact fun _ _=>rfl;exact h.k2
theorem Inv.zero (l:Nat):Inv l oW (0,0) (0,0) (fun _=>⟨0,(0,0),false,false,false,0,(0,0)⟩) []:=by
 have hH:∀i,HH l oW (fun _=>⟨0,(0,0),false,false,false,0,(0,0)⟩) [] i=0:=fun i=>by unfold HH oZ pd;simp
 constructor;exact r6 l;intro e;cases e;intro e;cases e;intro e;cases e;intro x a;cases a;intro _ _ _;rfl;intro _ _;decide;intro _ _;rfl;intro _ _;rfl;intro _ _;rfl;intro _ _;rfl;intro _ _ e;cases e;intro _ _ e;cases e;intro x a;rcases a with a|a<;>cases a;intro e;cases e;intro i b _ _;rw[hH];simp[oW]<;>omega;grind;grind;intro x a;cases a;intro x a;cases a;intro x a;cases a;intro x a;rcases a with a|a<;>cases a;grind;intro _ _;rfl;intro e;cases e
end
section
variable {n ways:Nat} {S:Nat->List Th} {no:Int} {x:vT} {s:eM} {C:bA} {core:Int}
def bI (n:Nat) (s:eM) (l:Nat):CL where
 st:=if(aQ n s.S l).2=0 then(aQ n s.S l).1.st else 0
 d:=if(aQ n s.S l).2=0 then(aQ n s.S l).1.d else(0,0)
 kC:=s.xF&&decide (s.al=l)
 aw:=s.xF&&decide (s.al=l)&&s.aw
 gi:=s.wN&&decide (s.gl=l)
 gs:=if s.wN=true/\s.gl=l then s.gc.st else 0
 gd:=if s.wN=true/\s.gl=l then s.gc.d else(0,0)
theorem Cb {l:Nat}:(bI n s l).st=if(aQ n s.S l).2=0 then(aQ n s.S l).1.st else 0:=rfl
theorem np {l:Nat}:(bI n s l).d=if(aQ n s.S l).2=0 then(aQ n s.S l).1.d else(0,0):=rfl
theorem se {l:Nat}:(bI n s l).gs=if s.wN=true/\s.gl=l then s.gc.st else 0:=rfl
theorem sa {l:Nat}:(bI n s l).gd=if s.wN=true/\s.gl=l then s.gc.d else(0,0):=rfl
theorem Kb {l:Int} {L:List Th} (h:l≠no):Go.Ct.get l (rem no L)=Go.Ct.get l L:=by
 induction L with
 |nil=>rfl
 |cons t L a=>
  unfold rem;split;rename_i e;unfold Go.Ct.get;grind;unfold Go.Ct.get at a ⊢;grind
theorem l8 {l:Int} {L:List Th} (h:l≠no):Go.Ct.get l (L++[(no,x)])=Go.Ct.get l L:=by
 unfold Go.Ct.get;grind
theorem Fq {l:Int} {L:List Th} {m:Nat} (h:setOf n l=m->Go.Ct.get l L=Go.Ct.get l (S m)):aQ n (aI S m L) l=aQ n S l:=by
 unfold aQ;split;rfl;by_cases e:setOf n l=m;rw[e,dD,h e];rw[bQ e]
theorem gB {l:Int} (h:l≠no):aQ n (fR n S no) l=aQ n S l:=by
 unfold fR;split;rfl;exact Fq fun _=>Kb h
theorem gD {l:Int} (h:l≠no):aQ n (kR n ways S no x).1 l=aQ n S l:=by
 unfold kR;split;exact Fq fun _=>Kb h;exact Fq fun _=>by rw[l8 h,Kb h]
theorem xN {l:Int} (h:l≠no):aQ n (Af n ways S no) l=aQ n S l:=by
 unfold Af;split;rw[gD h,gB h];exact gB h
theorem B6 (a:∀i,jL ways (S i)) (b:0<=no):(aQ n (fR n S no) no).2=12:=by
 unfold fR;rw[aaa];unfold aQ;rw[aaa,dD,Ul (Db (a _).nd)]
theorem Ha {i:Nat}:(fR n S no i).length<=(S i).length:=by
 unfold fR;split;exact Nat.le_refl _;unfold aI;split;rename_i e;subst e;exact pK.length_le;grind
theorem Un {i:Nat} (b:(aQ n S no).2=0):((kR n ways S no x).1 i).length<=(S i).length:=by
 obtain⟨a,d⟩:=jQ b;have:=F7 a;unfold kR;split;unfold aI;grind;unfold aI;grind
theorem T0 (f:∀i,jL ways (S i)) {i:Nat} (a:(aQ n S no).2=0):(Af n ways S no i).length<=(S i).length:=by
 obtain⟨b,d⟩:=jQ a;have g:=F7 b;unfold Af;rw[aCx a];unfold kR;have e:rem no (fR n S no (setOf n no))=rem no (S (setOf n no)):=by rw[Ll d,Tm (f _).nd]
 rw[e];split;unfold aI;dsimp only;split;grind;exact Ha;unfold aI;dsimp only;split;grind;exact Ha
theorem Ub (d:(aQ n S no).2=0):(fR n S no (setOf n no)).length<(S (setOf n no)).length:=by
 obtain⟨a,b⟩:=jQ d;rw[Ll b];exact F7 a
structure Room (C:bA) (s:eM):Prop where
 al:s.xF=true->(0<=s.al/\s.al<C.lines)/\((aQ C.aF.toNat s.S s.al).2=0\/(s.S (setOf C.aF.toNat s.al)).length<C.ways.toNat)
 gl:s.wN=true->0<=s.gl/\s.gl<C.lines
 bd:∀l,(aQ C.aF.toNat s.S l).2=0->l<C.lines
theorem Ge {l:Int}:(aQ n eM.new.S l).2≠0:=by
 unfold aQ eM.new Go.Ct.get;split<;>simp
theorem Room.new:Room C eM.new:=⟨(fun e=>by cases e),(fun e=>by cases e),fun _ e=>absurd e Ge⟩
theorem U1 {l a p:Int} (g:gO C s) (h:Room C s):Room C (pH C s l a p):=by
 unfold pH;split
 .rename_i j;have f:=(sY j).2.2.1;refine⟨fun e=>⟨(h.al e).1,?_⟩,h.gl,fun k o=>?_⟩;rotate_left;by_cases b:k=l;rw[b];exact(sY j).1.2;exact h.bd k (by rw[<-o];exact(congrArg Prod.snd (xN b)).symm);rcases(h.al e).2 with d|d;left;by_cases b:s.al=l;show(aQ C.aF.toNat (Af C.aF.toNat C.ways.toNat s.S l) s.al).2=0;rw[b,D4 g.aF f];exact f;show(aQ C.aF.toNat (Af C.aF.toNat C.ways.toNat s.S l) s.al).2=0;rw[xN b];exact d;right;exact Nat.lt_of_le_of_lt (T0 g.aF f) d
 exact h
theorem Rv {l a p v:Int} (g:gO C s) (h:Room C s):Room C (nV C s l a p v):=by
 unfold nV;split
 .rename_i f;have j:=(sY f).2.2.1;refine⟨fun e=>⟨(h.al e).1,?_⟩,h.gl,fun k o=>?_⟩;rotate_left;by_cases b:k=l;rw[b];exact(sY f).1.2;exact h.bd k (by rw[<-o];exact(congrArg Prod.snd (gD b)).symm);rcases(h.al e).2 with d|d;left;show(aQ C.aF.toNat (kR C.aF.toNat C.ways.toNat s.S l _).1 s.al).2=0;by_cases b:s.al=l;rw[b,vD g.aF (sY f).1.1 (yU g.aF j)];rw[gD b];exact d;right;exact Nat.lt_of_le_of_lt (Un j) d
 exact h
theorem my {l a g:Int} {k:Nat} (b:gO C s):bI C.aF.toNat (pH C s l a g) k=bI C.aF.toNat s k:=by
 unfold pH;split;rename_i f;have d:=(sY f).2.2.1;unfold bI;have:aQ C.aF.toNat (Af C.aF.toNat C.ways.toNat s.S l) k=aQ C.aF.toNat s.S k:=by
  by_cases e:(k:Int)=l;rw[e];exact D4 b.aF d;exact xN e
 simp only[this];rfl
theorem Qd {l a b v:Int} {k:Nat} (h:(k:Int)≠l):bI C.aF.toNat (nV C s l a b v) k=bI C.aF.toNat s k:=by
 unfold nV;split;unfold bI;simp only[gD h];rfl
theorem Ze {a j v:Int} {k:Nat} (g:gO C s) (h:rX C s.S k a j true=0):
  ((bI C.aF.toNat s k).st=2\/(bI C.aF.toNat s k).st=4)/\bI C.aF.toNat (nV C s k a j v) k={bI C.aF.toNat s k with st:=4,d:=c9 (bI C.aF.toNat s k).d a v}:=by
 have b:=sY h
 have e:=b.2.2.1
 have f:(bI C.aF.toNat s k).st=(aQ C.aF.toNat s.S k).1.st:=by rw[Cb,aCx e]
 constructor
 .rw[f];have:=b.2.2.2;unfold lN L0 at this;simpa using this
 .unfold nV;rw[aCx h];unfold bI;have:=vD (ways:=C.ways.toNat) (x:=Sg C.aF.toNat s.S k a v) g.aF b.1.1 (yU g.aF e);simp only[this,e,if_true];rfl
theorem Vt {b:aH} (d:b.kind=9) {k:Nat} (g:b.line=k) (e:k<C.lines) (a:(bI C.aF.toNat s k).kC=true):
  mU C core s b=({s with al:=0,aw:=false,xF:=false},[],0)/\bI C.aF.toNat {s with al:=0,aw:=false,xF:=false} k={bI C.aF.toNat s k with kC:=false,aw:=false}/\
   ∀j:Nat,j≠k->bI C.aF.toNat {s with al:=0,aw:=false,xF:=false} j=bI C.aF.toNat s j:=by
 have a:s.xF=true/\s.al=k:=by unfold bI at a;simpa using a
 refine⟨?_,?_,?_⟩
 .unfold mU;rw[aaa,aCx d,aCw (by unfold sQ;simp;omega)];unfold Tl;grind
 .unfold bI;simp
 .intro j f;unfold bI;have:decide (s.al=(j:Int))=false:=decide_eq_false (by omega);simp[this]
theorem Ow {b:aH} (d:b.kind=10) {k:Nat} (g:b.line=k) (e:k<C.lines) (a:(bI C.aF.toNat s k).gi=true):
  mU C core s b=({s with gl:=0,gc:=vT.zero,wN:=false},[],0)/\bI C.aF.toNat {s with gl:=0,gc:=vT.zero,wN:=false} k={bI C.aF.toNat s k with gi:=false,gs:=0,gd:=(0,0)}/\
   ∀j:Nat,j≠k->bI C.aF.toNat {s with gl:=0,gc:=vT.zero,wN:=false} j=bI C.aF.toNat s j:=by
 have a:s.wN=true/\s.gl=k:=by unfold bI at a;simpa using a
 refine⟨?_,?_,?_⟩
 .unfold mU;rw[aaa,aaa,aCx d,aCw (by unfold sQ;simp;omega)];unfold Du;grind
 .unfold bI;simp
 .intro j f;unfold bI;grind
theorem Rx {a:aH} (B:a.kind=8) {k:Nat} (o:a.line=k) (D:k<C.lines) (q:gO C s) (u:Room C s) (b:(bI C.aF.toNat s k).kC=true) (_:1<=a.state/\a.state<=4):
  ∃f,mU C core s a=(f,[⟨4,core,a.line,0,0,0,0,false,0⟩],0)/\f={s with S:=f.S,al:=0,aw:=false,xF:=false}/\
   bI C.aF.toNat f k={bI C.aF.toNat s k with st:=a.state,d:=if(bI C.aF.toNat s k).st≠0 then(bI C.aF.toNat s k).d else(a.d0,a.d1),kC:=false,aw:=false}/\
   (∀j:Nat,j≠k->bI C.aF.toNat f j=bI C.aF.toNat s j)/\Room C f:=by
 have b:s.xF=true/\s.al=k:=by unfold bI at b;simpa using b
 have g:(kR C.aF.toNat C.ways.toNat s.S a.line (nT C s a)).2=0:=by
  rcases(u.al b.1).2 with h|h;rw[b.2,<-o] at h;exact yU q.aF h;rw[b.2,<-o] at h;unfold kR;have:=pK (no:=a.line) (l:=s.S (setOf C.aF.toNat a.line));grind
 have p:=vD (ways:=C.ways.toNat) (x:=nT C s a) q.aF (by omega:0<=a.line) g
 refine⟨{s with S:=(kR C.aF.toNat C.ways.toNat s.S a.line (nT C s a)).1,al:=0,aw:=false,xF:=false},?_,rfl,?_,?_,(fun e=>by cases e),u.gl,fun j v=>?_⟩
 .unfold mU;rw[aCx B,aCw (by unfold sQ;simp;omega)];unfold Me;grind
 .unfold bI;rw[o] at p ⊢;simp only[p,if_true];have e:(nT C s a).d=if(aQ C.aF.toNat s.S k).2=0 then(aQ C.aF.toNat s.S k).1.d else(a.d0,a.d1):=by unfold nT;rw[o]
  rw[e]
  by_cases t:(aQ C.aF.toNat s.S k).2=0
  .have:=pF q.aF t;have y:(aQ C.aF.toNat s.S k).1.st≠0:=by omega
   simp[nT,t,y]
  .simp[nT,t]
 .intro j v;unfold bI;have z:decide (s.al=(j:Int))=false:=decide_eq_false (by omega);rw[o];simp only[gD (show(j:Int)≠(k:Int) by omega),z];simp
 .by_cases w:j=a.line
  .omega
  .exact u.bd j (by rw[<-v];exact(congrArg Prod.snd (gD w)).symm)
theorem Rb {b:aH} (U:b.kind=11) {k:Nat} (q:b.line=k) (W:k<C.lines) (B:gO C s) (p:Room C s) (Z:b.state=0\/b.state=1)
  (R:(bI C.aF.toNat s k).st≠0\/((bI C.aF.toNat s k).st=0/\(bI C.aF.toNat s k).gi=true)):
  ∃g y,mU C core s b=(g,[y],0)/\g.al=s.al/\g.aw=s.aw/\g.xF=s.xF/\g.gl=s.gl/\g.wN=s.wN/\Room C g/\
   (y.kind=5/\y.core=core/\y.line=k/\y.world=0/\y.no=0/\∀σ δ,σ=(if(bI C.aF.toNat s k).st≠0 then(bI C.aF.toNat s k).st else(bI C.aF.toNat s k).gs)->δ=(if(bI C.aF.toNat s k).st≠0 then(bI C.aF.toNat s k).d else(bI C.aF.toNat s k).gd)->
    y.state=gK σ b.state/\(y.gC=true↔σ=3\/σ=4)/\(y.gC=true->(y.d0,y.d1)=δ))/\
   ((bI C.aF.toNat g k).kC=(bI C.aF.toNat s k).kC/\(bI C.aF.toNat g k).aw=(bI C.aF.toNat s k).aw/\(bI C.aF.toNat g k).gi=(bI C.aF.toNat s k).gi/\(bI C.aF.toNat g k).gd=(bI C.aF.toNat s k).gd)/\
   ((bI C.aF.toNat s k).st≠0->(bI C.aF.toNat g k).st=gK (bI C.aF.toNat s k).st b.state/\((bI C.aF.toNat g k).st≠0->(bI C.aF.toNat g k).d=(bI C.aF.toNat s k).d)/\(bI C.aF.toNat g k).gs=(bI C.aF.toNat s k).gs)/\
   ((bI C.aF.toNat s k).st=0->(bI C.aF.toNat g k).st=0/\(bI C.aF.toNat g k).gs=gK (bI C.aF.toNat s k).gs b.state)/\
   (∀j:Nat,j≠k->bI C.aF.toNat g j=bI C.aF.toNat s j):=by
 have w:∀(x:vT),(jF core b x).kind=5/\(jF core b x).core=core/\(jF core b x).line=b.line/\(jF core b x).world=0/\(jF core b x).no=0/\(jF core b x).state=gK x.st b.state/\((jF core b x).gC=true↔x.st=3\/x.st=4)/\((jF core b x).gC=true->((jF core b x).d0,(jF core b x).d1)=x.d):=fun x=>by
  unfold jF;split;refine⟨rfl,rfl,rfl,rfl,rfl,rfl,?_,fun _=>rfl⟩;show xS x.st=true↔_;unfold xS;simp;rename_i e;refine⟨rfl,rfl,rfl,rfl,rfl,rfl,?_,fun e=>by cases e⟩;show false=true↔_;unfold Y2 at e;grind
 have ht:mU C core s b=Ff C core s b:=by
  unfold mU;rw[aaa,aaa,aaa,aCx U,aCw (by unfold sQ;simp;omega)]
 rw[ht]
 unfold Ff
 rw[aaa]
 by_cases v:(aQ C.aF.toNat s.S b.line).2=0
 .rw[aCx v];have O:=pF B.aF v;have t:(aQ C.aF.toNat s.S k).2=0:=by rw[<-q];exact v
  have f:(bI C.aF.toNat s k).st=(aQ C.aF.toNat s.S b.line).1.st:=by rw[Cb,aCx t,q]
  have I:(bI C.aF.toNat s k).d=(aQ C.aF.toNat s.S b.line).1.d:=by rw[np,aCx t,q]
  have G:(bI C.aF.toNat s k).st≠0:=by rw[f];omega
  have d:=w (aQ C.aF.toNat s.S b.line).1
  have T:∀z:Nat->List Th,({s with S:=z}:eM).al=s.al:=fun _=>rfl
  have a:∀z:Nat->List Th,(bI C.aF.toNat {s with S:=z} k).kC=(bI C.aF.toNat s k).kC/\(bI C.aF.toNat {s with S:=z} k).aw=(bI C.aF.toNat s k).aw/\(bI C.aF.toNat {s with S:=z} k).gi=(bI C.aF.toNat s k).gi/\(bI C.aF.toNat {s with S:=z} k).gd=(bI C.aF.toNat s k).gd/\(bI C.aF.toNat {s with S:=z} k).gs=(bI C.aF.toNat s k).gs:=fun _=>⟨rfl,rfl,rfl,rfl,rfl⟩
  by_cases J:gK (aQ C.aF.toNat s.S b.line).1.st b.state=0
  .simp only[aCx J];refine⟨_,_,rfl,rfl,rfl,rfl,rfl,rfl,⟨fun e=>⟨(p.al e).1,?_⟩,p.gl,fun j D=>?_⟩,⟨d.1,d.2.1,by rw[d.2.2.1,q],d.2.2.2.1,d.2.2.2.2.1,fun σ δ Q P=>?_⟩,⟨(a _).1,(a _).2.1,(a _).2.2.1,(a _).2.2.2.1⟩,fun _=>⟨?_,fun L=>?_,(a _).2.2.2.2⟩,fun e=>absurd e G,fun j D=>?_⟩
   .by_cases u:s.al=b.line
    .right;show(fR C.aF.toNat s.S b.line (setOf C.aF.toNat s.al)).length<_;rw[u];exact Nat.lt_of_lt_of_le (Ub v) (B.aF _).len
    .rcases(p.al e).2 with h|h
     .left;show(aQ C.aF.toNat (fR C.aF.toNat s.S b.line) s.al).2=0;rw[gB u];exact h
     .right;exact Nat.lt_of_le_of_lt Ha h
   .by_cases u:j=b.line
    .omega
    .exact p.bd j (by rw[<-D];exact(congrArg Prod.snd (gB u)).symm)
   .grind
   .rw[f,J];rw[Cb,aCw];show ¬(aQ C.aF.toNat (fR C.aF.toNat s.S b.line) k).2=0;rw[<-q,B6 B.aF (by omega)];decide
   .exfalso;apply L;rw[Cb,aCw];show ¬(aQ C.aF.toNat (fR C.aF.toNat s.S b.line) k).2=0;rw[<-q,B6 B.aF (by omega)];decide
   .unfold bI;simp only[gB (show(j:Int)≠b.line by omega)]
  .simp only[aCw J];have Y:=vD (ways:=C.ways.toNat) (x:={(aQ C.aF.toNat s.S b.line).1 with st:=gK (aQ C.aF.toNat s.S b.line).1.st b.state}) B.aF (by omega:0<=b.line) (yU B.aF v);refine⟨_,_,rfl,rfl,rfl,rfl,rfl,rfl,⟨fun e=>⟨(p.al e).1,?_⟩,p.gl,fun j D=>?_⟩,⟨d.1,d.2.1,by rw[d.2.2.1,q],d.2.2.2.1,d.2.2.2.2.1,fun σ δ Q P=>?_⟩,⟨(a _).1,(a _).2.1,(a _).2.2.1,(a _).2.2.2.1⟩,fun _=>⟨?_,fun L=>?_,(a _).2.2.2.2⟩,fun e=>absurd e G,fun j D=>?_⟩
   .by_cases u:s.al=b.line
    .grind
    .rcases(p.al e).2 with h|h
     .left;show(aQ C.aF.toNat (kR C.aF.toNat C.ways.toNat s.S b.line _).1 s.al).2=0;rw[gD u];exact h
     .right;exact Nat.lt_of_le_of_lt (Un v) h
   .by_cases u:j=b.line
    .omega
    .exact p.bd j (by rw[<-D];exact(congrArg Prod.snd (gD u)).symm)
   .grind
   .rw[f,Cb];grind
   .rw[I,np];grind
   .unfold bI;simp only[gD (show(j:Int)≠b.line by omega)]
 .rw[aCw v];have t:¬(aQ C.aF.toNat s.S k).2=0:=by rw[<-q];exact v
  have f:(bI C.aF.toNat s k).st=0:=by rw[Cb,aCw t]
  have o:s.wN=true/\s.gl=k:=by
   rcases R with h|h;exact absurd f h;have:=h.2;unfold bI at this;simpa using this
  rw[aCw (by rw[o.1];simp),aaa]
  have d:=w s.gc
  have F:(bI C.aF.toNat s k).gs=s.gc.st:=by rw[se,aCx o]
  have E:(bI C.aF.toNat s k).gd=s.gc.d:=by rw[sa,aCx o]
  refine⟨_,_,rfl,rfl,rfl,rfl,rfl,rfl,⟨p.al,p.gl,p.bd⟩,⟨d.1,d.2.1,by rw[d.2.2.1,q],d.2.2.2.1,d.2.2.2.2.1,fun σ δ Q P=>?_⟩,⟨rfl,rfl,rfl,?_⟩,fun e=>absurd f e,fun _=>⟨f,?_⟩,fun j D=>?_⟩
  .grind
  .rw[E,sa,aCx (show s.wN=true/\s.gl=k from o)]
  .rw[F,se,aCx (show s.wN=true/\s.gl=k from o)]
  .unfold bI;grind
end
section
variable {C:bA} {H:kO} {X:Nat->eM} {V:Nat->Ln} {N N':List aH} {n:aH} {s:eM}
def PK (k:Int):Prop:=(1<=k/\k<=5)\/(8<=k/\k<=11)
instance (k:Int):Decidable (PK k):=by unfold PK;infer_instance
def lnN (l:Nat) (n:aH):Bool:=decide (n.line=(l:Int)/\PK n.kind)
def Az (l:Nat) (N:List aH):List aH:=N.filter (lnN l)
theorem G5 {l:Nat} (h:n.line=(l:Int)) (a:PK n.kind):Az l (n::N)=n::Az l N:=by
 unfold Az;rw[List.filter_cons_of_pos (by unfold lnN;grind)]
theorem A6 {l:Nat} (h:¬(n.line=(l:Int)/\PK n.kind)):Az l (n::N)=Az l N:=by
 unfold Az;rw[List.filter_cons_of_neg (by unfold lnN;grind)]
theorem yA {l:Nat}:Az l (N++N')=Az l N++Az l N':=List.filter_append N N'
theorem mw {l:Nat} (h:∀x∈N,x.line=(l:Int)/\PK x.kind):Az l N=N:=List.filter_eq_self.2 fun x a=>decide_eq_true (h x a)
theorem Nh {l:Nat} (h:∀x∈N,¬(x.line=(l:Int)/\PK x.kind)):Az l N=[]:=List.filter_eq_nil_iff.2 fun x a=>by unfold lnN;grind
abbrev cls (C:bA) (X:Nat->eM) (l:Nat):bg:=fun i=>bI C.aF.toNat (X i) l
structure iU (C:bA) (H:kO) (X:Nat->eM) (V:Nat->Ln) (N:List aH):Prop where
 line:∀l:Nat,l<C.lines->Inv l (H l).1 (H l).2 (V l) (cls C X l) (Az l N)
 oQ:∀i:Nat,i<4->gO C (X i)
 room:∀i:Nat,i<4->Room C (X i)
 new:∀i:Nat,C.aD<=(i:Int)->X i=eM.new
 nb:∀x∈N,PK x.kind->(0<=x.core/\x.core<C.aD)/\(0<=x.line/\x.line<C.lines)
theorem ga {n l:Nat}:bI n eM.new l=⟨0,(0,0),false,false,false,0,(0,0)⟩:=by
 unfold bI;rw[aCw Ge,aCw Ge];rfl
theorem tA {i l:Nat} {s:eM}:cls C (aI X i s) l=aI (cls C X l) i (bI C.aF.toNat s l):=by
 funext j;show bI C.aF.toNat (aI X i s j) l=_;by_cases e:j=i;subst e;rw[dD,dD];rw[bQ e,bQ e]
theorem lX {i l:Nat} {s:eM} (h:bI C.aF.toNat s l=bI C.aF.toNat (X i) l):cls C (aI X i s) l=cls C X l:=by
 funext j;show bI C.aF.toNat (aI X i s j) l=_;by_cases e:j=i;subst e;rw[dD];exact h;rw[bQ e]
theorem iU.perm (h:iU C H X V N) (p:N.Perm N'):iU C H X V N':=
 ⟨fun l a=>(h.line l a).perm (p.filter _),h.oQ,h.room,h.new,fun x b=>h.nb x (p.symm.mem_iff.1 b)⟩
theorem iU.skip (h:iU C H X V (n::N)) (a:¬PK n.kind):iU C H X V N:=
 ⟨fun l b=>by have:=h.line l b;rw[A6 (fun e=>a e.2)] at this;exact this,h.oQ,h.room,h.new,fun x d=>h.nb x (List.mem_cons_of_mem _ d)⟩
theorem iU.more (h:iU C H X V N) (b:∀x∈N',¬PK x.kind):iU C H X V (N'++N):=
 ⟨fun l d=>by have:=h.line l d;rw[yA,Nh (fun x a e=>b x a e.2)];exact this,h.oQ,h.room,h.new,fun x a f=>by
  rcases List.mem_append.1 a with a|a;grind;exact h.nb x a f⟩
theorem iU.i4 (hC:C.Ok) {i:Int} (h:0<=i/\i<C.aD):i.toNat<4/\((i.toNat:Nat):Int)=i:=by
 unfold bA.Ok at hC;omega
theorem iU.eY {k:Nat} {d:kO} {b:Nat->eM} {V':Nat->Ln} {A:List aH} (h:iU C H X V N) (B:k<C.lines)
  (p:Inv k (d k).1 (d k).2 (V' k) (cls C b k) (A++Az k N')) (v:∀l,l≠k->d l=H l) (w:∀l,l≠k->V' l=V l) (y:∀l,l≠k->cls C b l=cls C X l)
  (hA:∀x∈A,x.line=(k:Int)/\PK x.kind/\0<=x.core/\x.core<C.aD) (j:∀l,l≠k->Az l N'=Az l N) (f:∀x∈N',x∈N)
  (o:∀i:Nat,i<4->gO C (b i)) (u:∀i:Nat,i<4->Room C (b i)) (q:∀i:Nat,C.aD<=(i:Int)->b i=eM.new):iU C d b V' (A++N'):=by
 refine⟨fun l g=>?_,o,u,q,fun x a t=>?_⟩
 .by_cases e:l=k
  .subst e;rw[yA,mw (fun x a=>⟨(hA x a).1,(hA x a).2.1⟩)];exact p
  .rw[v l e,w l e,y l e,yA,Nh (fun x a z=>e (by grind)),List.nil_append,j l e];exact h.line l g
 .rcases List.mem_append.1 a with a|a
  .grind
  .exact h.nb x (f x a) t
theorem lR {i:Nat} {s:eM} (h:iU C H X V N) (a:gO C s):∀j:Nat,j<4->gO C (aI X i s j):=fun j b=>by
 by_cases e:j=i;subst e;rw[dD];exact a;rw[bQ e];exact h.oQ j b
theorem mF {i:Nat} {s:eM} (h:iU C H X V N) (a:Room C s):∀j:Nat,j<4->Room C (aI X i s j):=fun j b=>by
 by_cases e:j=i;subst e;rw[dD];exact a;rw[bQ e];exact h.room j b
theorem pJ {i:Nat} {s:eM} (h:iU C H X V N) (b:(i:Int)<C.aD):∀j:Nat,C.aD<=(j:Int)->aI X i s j=eM.new:=fun j a=>by
 rw[bQ (by omega)];exact h.new j a
theorem iU.cache (h:iU C H X V (n::N)) (hC:C.Ok) (hk:8<=n.kind/\n.kind<=11):
  ∃w out,mU C n.core (X n.core.toNat) n=(w,out,0)/\iU C H (aI X n.core.toNat w) V (out++N)/\(∀x∈out,x.line=n.line/\PK x.kind):=by
 have hb:=h.nb n (by simp) (.inr hk)
 obtain⟨O,P⟩:=iU.i4 hC hb.1
 obtain⟨i,o,p⟩:∃i:Nat,i<4/\n.core=(i:Int):=⟨n.core.toNat,O,P.symm⟩
 obtain⟨k,d,g⟩:∃k:Nat,k<C.lines/\n.line=(k:Int):=⟨n.line.toNat,by omega,by omega⟩
 have e0:n.core.toNat=i:=by omega
 rw[e0,p]
 have E:=h.line k d
 rw[G5 g (.inr hk)] at E
 have I:∀l,l≠k->Az l N=Az l (n::N):=fun l e=>(A6 (fun e2=>e (by omega))).symm
 have t:∀x∈N,x∈n::N:=fun x j=>List.mem_cons_of_mem _ j
 have b:∀{w:eM} {out:List aH} {e:Int},(n.kind=8->1<=n.state/\n.state<=4)->mU C (i:Int) (X i) n=(w,out,e)->gO C w:=fun hv e=>by
  have:=Iv (core:=(i:Int)) hv (h.oQ i o);grind
 have Z:cls C X k i=bI C.aF.toNat (X i) k:=rfl
 rcases(by omega:n.kind=8\/n.kind=9\/n.kind=10\/n.kind=11) with k8|k9|G|D
 .have f:=E.granted (d':=if(cls C X k i).st≠0 then(cls C X k i).d else(n.d0,n.d1)) k8 o p rfl;obtain⟨w,a,u,q,R,T⟩:=Rx (core:=(i:Int)) k8 g d (h.oQ i o) (h.room i o) f.1.1 (by omega);refine⟨w,_,a,?_,fun x j=>by rw[List.mem_singleton.1 j];exact⟨rfl,by show PK 4;decide⟩⟩;refine h.eY (A:=[_]) d ?_ (fun _ _=>rfl) (fun _ _=>rfl) (fun l e=>lX (R l e)) (fun x j=>?_) I t (lR h (b (fun _=>by omega) a)) (mF h T) (pJ h (by omega))
  .rw[tA,q,g];exact f.2
  .rw[List.mem_singleton.1 j];exact⟨g,.inl (show(1:Int)<=4/\(4:Int)<=5 by omega),show(0:Int)<=(i:Int)/\(i:Int)<C.aD by omega⟩
 .have f:=E.aB4 k9 o p;obtain⟨a,u,q⟩:=Vt (core:=(i:Int)) k9 g d f.1;refine⟨_,_,a,?_,fun x j=>by cases j⟩;refine h.eY (A:=[]) d ?_ (fun _ _=>rfl) (fun _ _=>rfl) (fun l e=>lX (q l e)) (fun x j=>by cases j) I t (lR h (b (by omega) a)) (mF h ⟨(fun e=>by cases e),(h.room i o).gl,(h.room i o).bd⟩) (pJ h (by omega));rw[tA,u];exact f.2
 .have f:=E.sx (gd':=(0,0)) (gs':=0) G o p rfl;obtain⟨a,u,q⟩:=Ow (core:=(i:Int)) G g d f.1;refine⟨_,_,a,?_,fun x j=>by cases j⟩;refine h.eY (A:=[]) d ?_ (fun _ _=>rfl) (fun _ _=>rfl) (fun l e=>lX (q l e)) (fun x j=>by cases j) I t (lR h (b (by omega) a)) (mF h ⟨(h.room i o).al,(fun e=>by cases e),(h.room i o).bd⟩) (pJ h (by omega));rw[tA,u];exact f.2
 .obtain⟨_,_,_,Y,W,hw⟩:=E.found D o p;obtain⟨w,y,a,ea,eb,ec,ed,ee,Q,v,z,U,L,F⟩:=Rb (core:=(i:Int)) D g d (h.oQ i o) (h.room i o) W hw;refine⟨w,_,a,?_,fun x j=>by rw[List.mem_singleton.1 j];exact⟨by rw[v.2.2.1,g],by unfold PK;rw[v.1];omega⟩⟩;refine h.eY (A:=[y]) d ?_ (fun _ _=>rfl) (fun _ _=>rfl) (fun l e=>lX (F l e)) (fun x j=>?_) I t (lR h (b (by omega) a)) (mF h Q) (pJ h (by omega))
  .rw[tA];have J:HH k (H k).1 (cls C X k) (n::Az k N) i=if(cls C X k i).st≠0 then(cls C X k i).st else(cls C X k i).gs:=by
    unfold HH at Y ⊢;by_cases e:(cls C X k i).st=0;rw[(Ii Y e).2.2,aCw (by simpa using e)];unfold oZ;grind
   have B:=v.2.2.2.2.2 _ _ J rfl
   exact E.uh D o p z U L ⟨v.1,v.2.1,v.2.2.1,B.1,B.2.1,B.2.2⟩
  .rw[List.mem_singleton.1 j];exact⟨v.2.2.1,by unfold PK;rw[v.1];omega,by rw[v.2.1];omega⟩
theorem iU.there {i k:Nat} (h:iU C H X V N) (a:(cls C X k i).kC=true\/(cls C X k i).gi=true\/(cls C X k i).st≠0):(i:Int)<C.aD:=by
 apply Classical.byContradiction;intro e;have:cls C X k i=⟨0,(0,0),false,false,false,0,(0,0)⟩:=by show bI _ (X i) k=_;rw[h.new i (by omega),ga]
 grind
theorem iU.waiter {k:Nat} (h:iU C H X V N) (o:k<C.lines) {x:aH} (f:x∈(H k).1.waits) (p:x.kind≠0):0<=x.core/\x.core<C.aD:=by
 have d:=h.line k o;have b:=d.row.waits x f;obtain⟨i,g,a,_⟩:=dI b.2.1;refine⟨b.2.1.1,?_⟩;rw[a];rcases(by omega:x.kind=1\/x.kind=2\/x.kind=3) with e|e|e;have:=dM f e a b.1;have j:=d.t1 i g;exact h.there (k:=k) (.inl (by grind));have:=dM f e a b.1;have j:=d.t1 i g;exact h.there (k:=k) (.inl (by grind));have:=dM f e a b.1;have j:=d.t2 i g;exact h.there (k:=k) (.inr (.inl (by grind)))
theorem iU.wo {k i:Nat} (h:iU C H X V N) (_d:k<C.lines) (_b:i<4) (a:HH k (H k).1 (cls C X k) (Az k N) i≠0):(i:Int)<C.aD:=by
 unfold HH at a;by_cases e:(cls C X k i).st=0;exact h.there (k:=k) (.inr (.inl (Ii a e).1));exact h.there (k:=k) (.inr (.inr e))
end
section
variable {C:bA} {H:kO} {X:Nat->eM} {V:Nat->Ln} {N N':List aH} {n:aH} {s:eM}
theorem Jl {r:Row} {line:Int} {d:Ln}:∀y∈(r.eA line d).2,y.kind=8/\y.core=r.served.core/\y.line=line:=by
 intro y a;unfold Row.eA at a;split at a;rw[List.mem_singleton.1 a];exact⟨rfl,rfl,rfl⟩;split at a<;>(rw[List.mem_singleton.1 a];exact⟨rfl,rfl,rfl⟩)
theorem rQ {r:Row}:(r.heard n).served=r.served:=by
 unfold Row.heard;split;rfl;split<;>split<;>rfl
theorem Uy {r:Row} {m:Ln} {line:Int}:∀y∈(kJ.mK (r,m) line n).2,y.kind=8/\y.core=r.served.core/\y.line=line/\r.served.kind≠0:=by
 intro y a;unfold kJ.mK at a;dsimp only at a;unfold Row.rest at a;split at a;split at a;cases a;rename_i b;have:=Jl y a;rw[rQ] at this b;grind;cases a
theorem yD {line st:Int} {S:List Nat}:∀y∈eQ line st S,y.kind=11/\y.line=line/\∃a∈S,y.core=(a:Int):=by
 intro y b;unfold eQ at b;grind
theorem Ca {r:Row} {x:Int} {a:Nat} (h:a∈r.iF x):a<4/\(r.sh a=true\/r.owner=(a:Int)):=by
 have:=mL.1 h;have b:=this.2;unfold Row.holds at b;grind
theorem Vu {r:Row} {line:Int} {m:Ln} {j:Int->Int×Bool} (z:n.kind=0\/n.kind=1\/n.kind=2\/n.kind=3) (B: -1<=r.owner/\r.owner<4):∀y∈(Row.begun r line m n j).2,y.line=line/\(8<=y.kind/\y.kind<=11)/\((y.core=n.core/\n.kind≠0)\/∃a:Nat,a<4/\y.core=(a:Int)/\(r.sh a=true\/r.owner=(a:Int))):=by
 intro y b;unfold Row.begun at b;by_cases t:n.kind=3;rw[aCx t] at b;rw[List.mem_singleton.1 b];exact⟨rfl,⟨show(8:Int)<=10 by omega,show(10:Int)<=11 by omega⟩,.inl ⟨rfl,by omega⟩⟩;rw[aCw t] at b;by_cases f:n.kind=1\/n.kind=2;rw[aCx f] at b;have v:n.kind≠0:=by omega
 by_cases q:(j n.world).2=true;rw[aCx q] at b;unfold Row.get at b;dsimp only at b;have gr:∀{o:Row} {d:Ln},o.served=n->y∈(o.eA line d).2->y.line=line/\(8<=y.kind/\y.kind<=11)/\((y.core=n.core/\n.kind≠0)\/∃a:Nat,a<4/\y.core=(a:Int)/\(r.sh a=true\/r.owner=(a:Int))):=fun {o d} e b=>by
  have:=Jl y b;grind
 split at b;unfold Row.getM at b;split at b;obtain⟨p,h,a,g,k⟩:=yD y b;have:=Ca g;exact⟨h,by omega,.inr ⟨a,this.1,k,this.2⟩⟩;exact gr rfl b;unfold Row.Ro at b;have w:((r.serve n (j n.world).1).mV).owner=r.owner\/((r.serve n (j n.world).1).mV).owner= -1:=by
  unfold Row.mV;split;exact .inr rfl;exact .inl rfl
 split at b;rename_i u;obtain⟨p,h,a,g,k⟩:=yD y b;grind;refine gr ?_ b;unfold Row.mV;split<;>rfl;rw[aCw q] at b;rw[List.mem_singleton.1 b];exact⟨rfl,⟨show(8:Int)<=9 by omega,show(9:Int)<=11 by omega⟩,.inl ⟨rfl,v⟩⟩;rw[aCw f] at b;split at b;cases b;obtain⟨p,h,a,g,k⟩:=yD y b;have:=Ca g;grind
theorem iU.homes (h:iU C H X V (n::N)) (hC:C.Ok) (I:1<=n.kind/\n.kind<=5):
  ∃a out,jX C H n=(a,out,0)/\iU C a X V (out++N)/\(∀x∈out,x.line=n.line/\PK x.kind)/\(∀l:Nat,(l:Int)≠n.line->a l=H l):=by
 have w:=h.nb n (by simp) (.inl I)
 obtain⟨D,E⟩:=iU.i4 hC w.1
 obtain⟨i,Q,B⟩:∃i:Nat,i<4/\n.core=(i:Int):=⟨n.core.toNat,D,E.symm⟩
 obtain⟨k,g,f⟩:∃k:Nat,k<C.lines/\n.line=(k:Int):=⟨n.line.toNat,by omega,by omega⟩
 have J:n.line.toNat=k:=by omega
 have b:=h.line k g
 rw[G5 f (.inl I)] at b
 have O:∀l,l≠k->Az l N=Az l (n::N):=fun l e=>(A6 (fun t=>e (by omega))).symm
 have v:∀x∈N,x∈n::N:=fun x j=>List.mem_cons_of_mem _ j
 have R:jX C H n=(aI H k (kJ.take (H k) k n).1,(kJ.take (H k) k n).2):=by
  unfold jX;rw[aCw (by unfold hU;omega),aCx ⟨w.1,by unfold bA.has;exact w.2⟩,J,f]
 have done:∀(q:kJ) (out:List aH),kJ.take (H k) k n=(q,out,0)->Inv k q.1 q.2 (V k) (cls C X k) (out++Az k N)->(∀y∈out,y.line=(k:Int)/\PK y.kind/\0<=y.core/\y.core<C.aD)->
   ∃a out,jX C H n=(a,out,0)/\iU C a X V (out++N)/\(∀x∈out,x.line=n.line/\PK x.kind)/\(∀l:Nat,(l:Int)≠n.line->a l=H l):=fun q out e d hA=>by
  rw[R,e]
  refine⟨_,_,rfl,h.eY (A:=out) g ?_ (fun l t=>bQ t) (fun _ _=>rfl) (fun _ _=>rfl) hA O v h.oQ h.room h.new,fun x j=>⟨by rw[(hA x j).1,f],(hA x j).2.1⟩,fun l t=>bQ (by omega)⟩
  rw[dD];exact d
 have j:H k=((H k).1,(H k).2):=rfl
 by_cases F:n.kind=4
 .obtain⟨p,u,L⟩:=b.Zp F;refine done ((H k).1.free,(H k).2) [] ?_ L (fun y o=>by cases o);unfold kJ.take;rw[aCx F,aCw (by rw[p];simp;exact u)]
 .by_cases G:n.kind=5
  .obtain⟨p,u⟩:=b.mK G;refine done (kJ.mK (H k) k n).1 (kJ.mK (H k) k n).2 ?_ u (fun y o=>?_)
   .unfold kJ.take;rw[aCw F,aCx G,aCw (by rw[p];simp)]
   .obtain⟨Y,Z,T,U⟩:=Uy (r:=(H k).1) (m:=(H k).2) y o;obtain⟨_,P,z,_,_⟩:=b.S5 G Q B;refine⟨T,by unfold PK;omega,?_⟩;have W:=b.row.core;have oZ:uI (H k).1 (H k).1.served.core.toNat=1:=by unfold uI;rw[aCx ⟨z,P,U,by omega⟩]
    have p:=b.t1 (H k).1.served.core.toNat (by omega)
    have:=h.there (i:=(H k).1.served.core.toNat) (k:=k) (.inl (by grind))
    omega
  .have d:=b.vh (by omega);refine done ((H k).1.wait n,(H k).2) [] ?_ d (fun y o=>by cases o);unfold kJ.take;grind
theorem iU.Sn (h:iU C H X V N) {l:Int} {j:Int->Int×Bool}:
  ∃u out e,kK C H l j=(u,out,e)/\iU C u X V (out++N)/\(∀x∈out,x.line=l/\PK x.kind)/\(∀k:Nat,(k:Int)≠l->u k=H k):=by
 unfold kK
 by_cases z:C.has l
 .rw[aCx z];obtain⟨k,d,B⟩:∃k:Nat,k<C.lines/\l=(k:Int):=⟨l.toNat,by unfold bA.has at z;omega,by unfold bA.has at z;omega⟩;subst B;rw[Int.toNat_natCast];have f:=h.line k d;have same:aI H k (H k)=H:=by funext i;unfold aI;grind
  unfold kJ.begin
  by_cases p:(H k).1.busy=true
  .grind
  .rw[aCw p];have p:(H k).1.busy=false:=by simpa using p
   cases hw:(H k).1.waits with
   |nil=>refine⟨_,_,_,rfl,?_,(fun x g=>by cases g),fun i e=>bQ (by omega)⟩;grind
   |cons n w=>
    have D:=f.row.waits n (by rw[hw];simp)
    have v:=f.begun (j:=j) p hw
    have b:=Vu (r:=(H k).1.next w) (line:=k) (m:=(H k).2) (j:=j) D.2.2 f.row.owner
    obtain⟨I,P,_⟩:=f.idle p
    refine⟨_,_,_,rfl,?_,fun x g=>⟨(b x g).1,.inr (b x g).2.1⟩,fun i e=>bQ (by omega)⟩
    refine h.eY (A:=(Row.begun ((H k).1.next w) k (H k).2 n j).2) d ?_ (fun l F=>bQ F) (fun _ _=>rfl) (fun _ _=>rfl) (fun y J=>?_) (fun _ _=>rfl) (fun _ g=>g) h.oQ h.room h.new
    .rw[dD];exact v
    .obtain⟨L,O,t⟩:=b y J;refine⟨L,.inr O,?_⟩;rcases t with⟨t,E⟩|⟨a,o,t,E⟩
     .rw[t];exact h.waiter d (by rw[hw];simp) E
     .have q:=f.c1 a o (by have:=f.t3 a o;rw[dQ I o] at this;simp at this;omega) (by have:=f.t4 a o;unfold qJ at this;grind);have G:HH k (H k).1 (cls C X k) (Az k N) a≠0:=by
       rcases E with e|e;have:=q.1.2 e;omega;have:=q.2.2 e;omega
      have:=h.wo d o G
      omega
 grind
theorem iU.Gt (h:iU C H X V N) {l:Int}:iU C (nR C H l).1 X V N:=by
 unfold nR;by_cases b:C.has l;rw[aCx b];obtain⟨k,a,d⟩:∃k:Nat,k<C.lines/\l=(k:Int):=⟨l.toNat,by unfold bA.has at b;omega,by unfold bA.has at b;omega⟩;subst d;rw[Int.toNat_natCast];refine h.eY (A:=[]) a ?_ (fun l e=>bQ e) (fun _ _=>rfl) (fun _ _=>rfl) (fun y g=>by cases g) (fun _ _=>rfl) (fun _ f=>f) h.oQ h.room h.new;show Inv k (aI H k _ k).1 (aI H k _ k).2 _ _ _;rw[dD];exact(h.line k a).mo;grind
theorem iU.reads (h:iU C H X V N) {i:Nat} (b:i<4) (d:(i:Int)<C.aD) {l a f:Int}:iU C H (aI X i (pH C (X i) l a f)) V N:=
 ⟨fun k e=>by rw[lX (my (h.oQ i b))];exact h.line k e,lR h (Ib (h.oQ i b)),mF h (U1 (h.oQ i b) (h.room i b)),pJ h d,h.nb⟩
theorem iU.writes (h:iU C H X V N) {i:Nat} (b:i<4) (f:(i:Int)<C.aD) {k:Nat} {a o v:Int} (j:rX C (X i).S k a o true=0):
  iU C H (aI X i (nV C (X i) k a o v)) (aI V k (c9 (V k) a v)) N:=by
 have d:k<C.lines:=by have:=(sY j).1;omega
 obtain⟨q,t⟩:=Ze (v:=v) (h.oQ i b) j
 have g:=h.line k d
 have u:(cls C X k i).d=V k:=by
  have w:(cls C X k i).st≠0:=by grind
  have:=g.c3 i b (by unfold HH oZ;grind);unfold tG at this;grind
 refine h.eY (A:=[]) d ?_ (fun _ _=>rfl) (fun l p=>bQ p) (fun l e=>lX (Qd (by omega))) (fun y B=>by cases B) (fun _ _=>rfl) (fun _ z=>z) (lR h (E0 (h.oQ i b))) (mF h (Rv (h.oQ i b) (h.room i b))) (pJ h f)
 rw[dD,tA,t]
 have:(bI C.aF.toNat (X i) k).d=V k:=u
 rw[this]
 exact g.wrote b q
theorem iU.value (h:iU C H X V N) {i:Nat} (d:i<4) {k:Nat} (f:k<C.lines) (a:(aQ C.aF.toNat (X i).S k).2=0):(aQ C.aF.toNat (X i).S k).1.d=V k:=by
 have b:(cls C X k i).st≠0:=by
  show(bI C.aF.toNat (X i) k).st≠0;rw[Cb,aCx a];have:=pF (h.oQ i d).aF a;omega
 have:=(h.line k f).c3 i d (by unfold HH oZ;grind);unfold tG at this;rw[aCx b] at this;have e:(cls C X k i).d=(aQ C.aF.toNat (X i).S k).1.d:=by show(bI C.aF.toNat (X i) k).d=_;rw[np,aCx a]
 rw[<-e];exact this
theorem iU.asks (h:iU C H X V N) {i:Nat} (p:i<4) (d:(i:Int)<C.aD) {k:Nat} {w:Int} {wr:Bool} (f:k<C.lines) (a:(X i).xF=false) (c3:¬((X i).wN=true/\(X i).gl=k))
  (v:¬((aQ C.aF.toNat (X i).S k).2=0/\lN (aQ C.aF.toNat (X i).S k).1.st wr=true)) (b:(aQ C.aF.toNat (X i).S k).2=0\/((X i).S (setOf C.aF.toNat k)).length<C.ways.toNat):
  iU C H (aI X i {X i with al:=(k:Int),aw:=wr,xF:=true}) V (⟨if wr then 2 else 1,i,k,w,0,0,0,false,0⟩::N):=by
 have g:=h.oQ i p
 have u:=h.room i p
 have D:=h.line k f
 have E:(cls C X k i).kC=false:=by show(bI _ (X i) k).kC=_;unfold bI;rw[a];rfl
 have o:(cls C X k i).gi=false:=by
  show(bI _ (X i) k).gi=_;unfold bI;simp only[Bool.and_eq_false_iff,decide_eq_false_iff_not];by_cases e:(X i).wN=true;exact .inr (fun j=>c3 ⟨e,j⟩);exact .inl (by simpa using e)
 have t:if wr=true then(cls C X k i).st≠2/\(cls C X k i).st≠4 else(cls C X k i).st=0:=by
  have z:(cls C X k i).st=if(aQ C.aF.toNat (X i).S k).2=0 then(aQ C.aF.toNat (X i).S k).1.st else 0:=rfl
  rw[z];by_cases q:(aQ C.aF.toNat (X i).S k).2=0;rw[aCx q];have B:=pF g.aF q;have:¬lN (aQ C.aF.toNat (X i).S k).1.st wr=true:=fun e=>v ⟨q,e⟩;unfold lN L0 fx at this;grind;grind
 refine h.eY (A:=[_]) f ?_ (fun _ _=>rfl) (fun _ _=>rfl) (fun l e=>?_) (fun y G=>?_) (fun _ _=>rfl) (fun _ F=>F) (lR h ⟨g.aF,g.back,g.pl⟩) (mF h ⟨fun _=>⟨⟨by grind,by grind⟩,b⟩,u.gl,u.bd⟩) (pJ h d)
 .rw[tA];have j:bI C.aF.toNat {(X i) with al:=(k:Int),aw:=wr,xF:=true} k={bI C.aF.toNat (X i) k with kC:=true,aw:=wr}:=by unfold bI;simp
  rw[j]
  exact D.asks p E o t ⟨rfl,rfl,rfl⟩
 .apply lX;unfold bI;have:decide ((k:Int)=(l:Int))=false:=decide_eq_false (by omega);simp[this,a]
 .rw[List.mem_singleton.1 G];refine⟨rfl,?_,by grind,d⟩;unfold PK;cases wr<;>simp
theorem iU.Hu (h:iU C H X V N) {i:Nat} (z:i<4) (g:(i:Int)<C.aD) {v:Int} {x:vT} (b:(X i).xF=false) (f:(X i).wN=false) (q:aQ C.aF.toNat (X i).S v=(x,0)):
  iU C H (aI X i {X i with S:=fR C.aF.toNat (X i).S v,gl:=v,gc:=x,wN:=true}) V (⟨3,i,v,x.w,0,x.d.1,x.d.2,xS x.st,0⟩::N):=by
 have p:=h.oQ i z
 have E:=h.room i z
 have a:(aQ C.aF.toNat (X i).S v).2=0:=by rw[q]
 have F:=(jQ a).2
 have Q:=E.bd v a
 have u:=pF p.aF a
 rw[q] at u
 obtain⟨k,o,B⟩:∃k:Nat,k<C.lines/\v=(k:Int):=⟨v.toNat,by omega,by omega⟩
 subst B
 have I:=h.line k o
 have d:(cls C X k i).st=x.st:=by show(bI _ (X i) k).st=_;rw[Cb,aCx a,q]
 have D:(cls C X k i).d=x.d:=by show(bI _ (X i) k).d=_;rw[np,aCx a,q]
 have J:(cls C X k i).kC=false:=by show(bI _ (X i) k).kC=_;unfold bI;rw[b];rfl
 have w:gO C {X i with S:=fR C.aF.toNat (X i).S (k:Int),gl:=(k:Int),gc:=x,wN:=true}:=by
  have g1:=kW (n:=C.aF.toNat) (no:=(k:Int)) p.aF;have g2:=vZ (no:=(k:Int)) p.pl;refine Good.mk g1 (fun _=>?_) g2;grind
 refine h.eY (A:=[_]) o ?_ (fun _ _=>rfl) (fun _ _=>rfl) (fun l e=>?_) (fun y P=>?_) (fun _ _=>rfl) (fun _ O=>O) (lR h w) (mF h ⟨(fun e=>by grind),fun _=>⟨by grind,by grind⟩,fun j L=>?_⟩) (pJ h g)
 .rw[tA];have t:bI C.aF.toNat {(X i) with S:=fR C.aF.toNat (X i).S (k:Int),gl:=(k:Int),gc:=x,wN:=true} k=⟨0,(0,0),false,false,true,(cls C X k i).st,(cls C X k i).d⟩:=by
   rw[d,D];have:=B6 (n:=C.aF.toNat) p.aF F;unfold bI;simp[this,b]
  rw[t]
  exact I.Hu z J (by grind) ⟨rfl,rfl,rfl,by rw[D],by rw[d]⟩ (.inr trivial)
 .apply lX;unfold bI;have G:¬((k:Int)=(l:Int)):=by omega
  simp only[gB (show(l:Int)≠(k:Int) by omega)]
  simp[G,f]
 .rw[List.mem_singleton.1 P];exact⟨rfl,by show PK 3;decide,by grind,g⟩
 .by_cases t:j=(k:Int)
  .omega
  .exact E.bd j (by rw[<-L];exact(congrArg Prod.snd (gB t)).symm)
theorem iU.yd (h:iU C H X V N) (hC:C.Ok) {i:Nat} (p:i<4) (b:(i:Int)<C.aD) {l w:Int} {wr:Bool}:
  ∃f out e,want C i (X i) l w wr=(f,out,e)/\iU C H (aI X i f) V (out++N)/\(e≠0->f=X i/\out=[])/\∀x∈out,PK x.kind:=by
 have I:=h.oQ i p
 have W:=h.room i p
 have Y:=(y4 hC).2.2.1
 have same:∀e:Int,e≠0->∃f out G,((X i,[],e):eM×List aH×Int)=(f,out,G)/\iU C H (aI X i f) V (out++N)/\(G≠0->f=X i/\out=[])/\∀x∈out,PK x.kind:=fun e T=>by
  refine⟨_,_,_,rfl,?_,fun _=>⟨rfl,rfl⟩,fun _ d=>by cases d⟩;have:aI X i (X i)=X:=by funext j;unfold aI;grind
  rw[this];exact h
 unfold want
 by_cases z:sQ C l=false
 .simp_all
 rw[aCw z]
 by_cases c2:(X i).xF=true
 .simp_all
 rw[aCw c2]
 by_cases c3:(X i).wN=true/\(X i).gl=l
 .simp_all
 rw[aCw c3]
 by_cases F:(aQ C.aF.toNat (X i).S l).2=0/\lN (aQ C.aF.toNat (X i).S l).1.st wr=true
 .simp_all
 rw[aCw F]
 have U:0<=l/\l<C.lines:=by unfold sQ at z;simpa using z
 have a:(X i).xF=false:=by simpa using c2
 obtain⟨k,q,D⟩:∃k:Nat,k<C.lines/\l=(k:Int):=⟨l.toNat,by omega,by omega⟩
 subst D
 unfold Um
 cases hv:Dt C.aF.toNat C.ways.toNat (X i).S k with
 |none=>
  refine⟨_,_,_,rfl,?_,fun e=>absurd rfl e,fun x d=>?_⟩
  rotate_left
  .rw[List.mem_singleton.1 d];unfold PK;cases wr<;>simp
  refine h.asks p b q a c3 F ?_
  unfold Dt at hv
  cases hge:Go.Ct.get (k:Int) ((X i).S (setOf C.aF.toNat k)) with
  |some x=>left;unfold aQ;grind
  |none=>
   grind
 |some v=>
  unfold Dt at hv
  cases hge:Go.Ct.get (k:Int) ((X i).S (setOf C.aF.toNat k)) with
  |some x=>grind
  |none=>
   rw[hge] at hv
   dsimp only at hv
   split at hv
   .cases hv
   have P:v∈(X i).S (setOf C.aF.toNat k):=List.mem_of_getElem? hv
   have u:=I.pl _ v P
   have y:aQ C.aF.toNat (X i).S v.1=(v.2,0):=by
    unfold aQ;rw[aaa,u.2];cases hL:(X i).S (setOf C.aF.toNat k) with
    |nil=>grind
    |cons t L=>
     rw[hL] at hv;have:t=v:=by simpa using hv
     subst this;unfold Go.Ct.get;grind
   dsimp only
   by_cases c5:(X i).wN=true
   .simp_all
   rw[aCw c5,y,aCw (by simp)]
   refine⟨_,_,_,rfl,?_,fun e=>absurd rfl e,fun x d=>?_⟩
   rotate_left
   .rcases List.mem_cons.1 d with rfl|d
    .show PK 3;decide
    .rw[List.mem_singleton.1 d];unfold PK;cases wr<;>simp
   have o:(X i).wN=false:=by simpa using c5
   have E:v.1≠(k:Int):=fun e=>by
    have:Go.Ct.get (k:Int) ((X i).S (setOf C.aF.toNat k))=some v.2:=by
     have:=(jQ (by rw[y])).1;grind
    grind
   have O:=h.Hu p b a o y
   have R:(aQ C.aF.toNat (fR C.aF.toNat (X i).S v.1) k)=aQ C.aF.toNat (X i).S k:=gB (fun e=>E e.symm)
   have Q:(aQ C.aF.toNat (X i).S k).2≠0:=by unfold aQ;grind
   have g:=Ub (n:=C.aF.toNat) (S:=(X i).S) (no:=v.1) (by rw[y])
   rw[u.2] at g
   have B:=O.asks (i:=i) (w:=w) (wr:=wr) p b q (by rw[dD];exact a) (by rw[dD];grind) (by rw[dD];grind)
    (by rw[dD];right;exact Nat.lt_of_lt_of_le g (I.aF _).len)
   rw[dD] at B
   have J:∀s1 s2:eM,aI (aI X i s1) i s2=aI X i s2:=fun s1 s2=>by
    funext j;by_cases e:j=i;subst e;rw[dD,dD];rw[bQ e,bQ e,bQ e]
   rw[J] at B
   exact B.perm (List.Perm.swap _ _ _)
end
end Go.Pc
namespace Go.Mc
open Go Go.Ab Go.Hm Go.At Go.Is Go.Ct Go.Nt
section
variable {C:bA}
theorem Ij {α:Type} {f a:Nat->List α} {l:List α} {k:Nat}:∀{n:Nat},(∀i,i≠k->a i=f i)->(a k).Perm (l++f k)->k<n->((List.range n).flatMap a).Perm (l++(List.range n).flatMap f):=by
 intro n;induction n with
 |zero=>intro _ _ h;omega
 |succ n j=>
  intro b g o;rw[List.range_succ,List.flatMap_append,List.flatMap_append,List.flatMap_singleton,List.flatMap_singleton];by_cases e:n=k;subst e;have:(List.range n).flatMap a=(List.range n).flatMap f:=by
   have:∀m,m<=n->(List.range m).flatMap a=(List.range m).flatMap f:=by
    intro m;induction m with
    |zero=>intro _;rfl
    |succ m d=>
     intro p;rw[List.range_succ,List.flatMap_append,List.flatMap_append,d (by omega),List.flatMap_singleton,List.flatMap_singleton,b m (by omega)]
   grind
  rw[this];refine(List.Perm.append_left _ g).trans ?_;rw[<-List.append_assoc,<-List.append_assoc];exact List.Perm.append_right _ List.perm_append_comm;rw[b n e];have:=j b g (by omega);rw[<-List.append_assoc];exact List.Perm.append_right _ this
def mS (C:bA) (F:gJ):List aH:=(List.range C.aD.toNat).flatMap fun c=>(List.range 4).flatMap fun w=>F c w
theorem set_perm {F:gJ} {c w:Nat} {l l':List aH} (d:(c:Int)<C.aD) (b:w<4) (h:l'.Perm (l++F c w)):(mS C (F.set c w l')).Perm (l++mS C F):=by
 unfold mS;refine Ij (k:=c) (fun i a=>?_) ?_ (by omega);unfold gJ.set;simp[a];refine Ij (k:=w) (fun i a=>?_) ?_ b;unfold gJ.set;simp[a];unfold gJ.set;grind
theorem M5 {n:aH} (h:nf n.kind):xB n<4:=by
 unfold nf at h;unfold xB;rcases k14 (k:=n.kind.toNat) (by omega) with e|e|e|e|e|e|e|e|e|e|e|e|e|e<;>rw[e]<;>decide
theorem V9:∀{l:List aH} {F a:gJ},(∀n∈l,Nt.oU C n=0)->gJ.Hu C.depth F l=some a->(mS C a).Perm (l++mS C F):=by
 intro l;induction l with
 |nil=>intro F a _ h;cases h;grind
 |cons n l f=>
  intro F a b h;unfold gJ.Hu at h;split at h;have e:=zX (b n List.mem_cons_self);have g:=f (fun k d=>b k (List.mem_cons_of_mem _ d)) h;have j:(mS C (F.put n)).Perm ([n]++mS C F):=set_perm (by omega) (M5 e.1) List.perm_append_comm;grind;cases h
theorem qF {F:gJ} {l:List aH} (h:(F.send C l).2=0):(mS C (F.send C l).1).Perm (l++mS C F)/\∀n∈l,Nt.oU C n=0:=by
 unfold gJ.send at h ⊢;split at h;grind;rename_i a;rw[aCw a];have a:dN C l=0:=by simpa using a
 split at h;rename_i d b;exact⟨V9 (zD a) (by rw[b]),zD a⟩;cases h
theorem Ps {α:Type}:∀{l:List α} {i:Nat} (h:i<l.length),l.Perm (l[i]::l.eraseIdx i)
 |[],_,h=>by cases h
 |a::l,0,_=>List.Perm.refl _
 |a::l,i+1,h=>by
  have:=Ps (l:=l) (i:=i) (by simpa using h);exact(List.Perm.cons a this).trans (List.Perm.swap _ _ _)
theorem Wo {F:gJ} {a b c:Int} (h:(F.take C a b c).2.2=0):(mS C F).Perm ((F.take C a b c).2.1::mS C (F.take C a b c).1):=by
 unfold gJ.take at h ⊢;by_cases g:(0<=a/\a<C.aD)/\(0<=b/\b<4);rw[aCw (fun h=>h g)] at h ⊢;dsimp only at h ⊢;by_cases d:F a.toNat b.toNat=[];rw[aCx d] at h;cases h;rw[aCw d];have o:0<(F a.toNat b.toNat).length:=List.length_pos_iff.2 d;have f:(c % ((F a.toNat b.toNat).length:Int)).toNat<(F a.toNat b.toNat).length:=by
  have j:=Int.emod_nonneg c (show((F a.toNat b.toNat).length:Int)≠0 by omega);have k:=Int.emod_lt_of_pos c (show(0:Int)<((F a.toNat b.toNat).length:Int) by omega);omega
 dsimp only;generalize(c % ((F a.toNat b.toNat).length:Int)).toNat=i at f ⊢;rw[List.getD_eq_getElem?_getD,List.getElem?_eq_getElem f];dsimp only[Option.getD];have e:F=(F.set a.toNat b.toNat ((F a.toNat b.toNat).eraseIdx i)).set a.toNat b.toNat (F a.toNat b.toNat):=by
  funext x y;unfold gJ.set;by_cases e:x=a.toNat/\y=b.toNat;rw[aCx e,e.1,e.2];rw[aCw e,aCw e]
 have:=set_perm (C:=C) (F:=F.set a.toNat b.toNat ((F a.toNat b.toNat).eraseIdx i)) (c:=a.toNat) (w:=b.toNat) (l:=[(F a.toNat b.toNat)[i]]) (l':=F a.toNat b.toNat) (by omega) (by omega) (by
  have:(F.set a.toNat b.toNat ((F a.toNat b.toNat).eraseIdx i)) a.toNat b.toNat=(F a.toNat b.toNat).eraseIdx i:=by unfold gJ.set;simp
  rw[this];exact Ps f)
 grind;grind
end
section
def Uh (n g a w:Int):Prop:=(gY n g a w).2.2.2=0/\((gY n g a w).2.2.1=false->(gY n g a w).1=iP n g/\a=g/4)
theorem Jf {es:List dT}:(uP es).length=(es.length+3)/4+es.length:=by unfold uP;simp
theorem jj {es:List dT} {j:Nat} (h:j<(es.length+3)/4):iX es (j:Int)=(p6 es j,0):=by
 unfold iX;rw[aCx (by rw[Jf];omega),Int.toNat_natCast];unfold uP;grind
theorem Wx {es:List dT} {g:Nat} (h:g<es.length):iX es (iP es.length g)=(Y4 (es.getD g gA),0):=by
 have e:iP es.length g=(((es.length+3)/4+g:Nat):Int):=by unfold iP;omega
 unfold iX;rw[e,aCx (by rw[Jf];omega),Int.toNat_natCast];unfold uP;grind
theorem Yq {es:List dT} {j g:Nat} (h:Ki es j=true) (a:g<es.length) (b:g/4=j):es.getD g gA=⟨(es.getD (4*j) gA).owner,false⟩:=by
 unfold Ki at h;rw[List.all_eq_true] at h;have d:es.getD g gA∈(es.drop (4*j)).take 4:=by
  rw[List.getD_eq_getElem?_getD,List.getElem?_eq_getElem a];refine List.mem_of_getElem? (i:=g - 4*j) ?_;grind
 grind
theorem Yb {es:List dT} (b:∀x∈es,0<=x.owner/\x.owner<=4) {g:Nat} (a:g<es.length):0<=(es.getD g gA).owner/\(es.getD g gA).owner<=4:=by
 grind
theorem Vy {es:List dT} {g:Nat} {a:Int} (B:es.length<=16) (u:∀x∈es,0<=x.owner/\x.owner<=4) (q:g<es.length) (v:a=(g:Int)/4\/a=iP es.length g):
  (iX es a).2=0/\Uh es.length g a (iX es a).1/\((gY es.length g a (iX es a).1).2.2.1=true->(gY es.length g a (iX es a).1).2.1=es.getD g gA):=by
 have b:¬¬((1<=(es.length:Int)/\(es.length:Int)<=16)/\(0<=(g:Int)/\(g:Int)<es.length)):=by omega
 have w:(g:Int)/4≠iP es.length g:=by unfold iP;omega
 rcases v with rfl|rfl
 .have e:(g:Int)/4=((g/4:Nat):Int):=by omega
  have f:=jj (es:=es) (j:=g/4) (by omega)
  rw[<-e] at f
  rw[f]
  refine⟨rfl,?_⟩
  unfold Uh gY
  rw[aCw b,aCx rfl]
  dsimp only
  have z:(g:Int)/4*4=((4*(g/4):Nat):Int):=by omega
  unfold p6
  by_cases d:Ki es (g/4)=true
  .rw[aCx d];have t:=Yb u (show 4*(g/4)<es.length by omega);have y:=Yq d q rfl;rw[aaa,aCx ⟨by omega,by unfold E3;grind⟩];grind
  grind
 .have f:=Wx q;rw[f];refine⟨rfl,?_⟩;unfold Uh gY;rw[aCw b,aCw (fun h=>w h.symm),aCx rfl];dsimp only;have t:=Yb u q;generalize D:es.getD g gA=x at t ⊢;obtain⟨o,k⟩:=x;cases k with
  |true=>
   have p:Y4 ⟨o,true⟩=o+8:=rfl
   rw[p,aCw (by unfold E3;grind),aCx ⟨by grind,by unfold E3;grind⟩]
   grind
  |false=>
   have p:Y4 ⟨o,false⟩=o:=rfl
   rw[p,aCx (by unfold E3;grind)]
   grind
end
section
def cw (i:Nat) (N:List aH):Nat:=N.countP fun n=>decide (n.core=(i:Int)/\(n.kind=6\/n.kind=12))
def cd (i g:Nat) (N:List aH):Nat:=N.countP fun n=>decide (n.core=(i:Int)/\n.no=(g:Int)/\(n.kind=13\/n.kind=7))
def fB (N:List aH) (i g:Nat):Prop:=∃n∈N,n.kind=13/\n.core=(i:Int)/\n.no=(g:Int)
def xD (m:Mon) (g i:Nat):Nat:=match m.runs g with
 |some r=>(r.waits i).toNat
 |none=>0
structure eX (C:bA) (K:Nat->iR) (m:Mon) (N:List aH):Prop where
 cw:∀i:Nat,(i:Int)<C.aD->cw i N=(K i).gS.toNat
 no:∀n∈N,n.kind=6\/n.kind=12->n.no=(K n.core.toNat).at'
 pl:∀i:Nat,(i:Int)<C.aD->(K i).gS=true->(K i).at'=(K i).bL/4\/(K i).at'=iP C.aG (K i).bL
 word:∀n∈N,n.kind=12->Uh C.aG (K n.core.toNat).bL (K n.core.toNat).at' n.d0/\((K n.core.toNat).pP=false->(gY C.aG (K n.core.toNat).bL (K n.core.toNat).at' n.d0).2.2.1=true->(gY C.aG (K n.core.toNat).bL (K n.core.toNat).at' n.d0).2.1.locked=false->
  (gY C.aG (K n.core.toNat).bL (K n.core.toNat).at' n.d0).2.1.owner=(m.kP (K n.core.toNat).bL).owner/\((m.kP (K n.core.toNat).bL).locked=true->fB N n.core.toNat (K n.core.toNat).bL.toNat))
 known:∀i:Nat,(i:Int)<C.aD->∀x∈(K i).known,(0<=x.1/\x.1<C.aG)/\x.2=(m.kP x.1).owner/\((m.kP x.1).locked=true->fB N i x.1.toNat)
 nd:∀i:Nat,(i:Int)<C.aD->((K i).known.map (·.1)).Nodup/\((K i).gS=true->(K i).bL∉(K i).known.map (·.1))
 gr:∀i:Nat,(i:Int)<C.aD->0<=(K i).bL/\(K i).bL<C.aG
 lock:∀g:Nat,(g:Int)<C.aG->((m.kP g).locked=true↔(m.runs g).isSome=true)
 cd:∀g i:Nat,(i:Int)<C.aD->cd i g N=xD m g i
 nb:∀n∈N,KK n.kind->(0<=n.core/\n.core<C.aD)/\(n.kind=13\/n.kind=7->0<=n.no)
 ph:∀g r,m.runs g=some r->(r.phase=2↔r.none=true)/\∀i:Nat,C.aD<=(i:Int)->r.waits i=false
variable {C:bA} {K:Nat->iR} {m:Mon} {N N':List aH} {n:aH}
theorem kE {i:Nat}:cw i (n::N)=cw i N+if n.core=(i:Int)/\(n.kind=6\/n.kind=12) then 1 else 0:=by
 unfold cw;grind
theorem jC {i g:Nat}:cd i g (n::N)=cd i g N+if n.core=(i:Int)/\n.no=(g:Int)/\(n.kind=13\/n.kind=7) then 1 else 0:=by
 unfold cd;grind
theorem xa {i:Nat}:cw i (N++N')=cw i N+cw i N':=List.countP_append
theorem ez {i g:Nat}:cd i g (N++N')=cd i g N+cd i g N':=List.countP_append
theorem Bp {i g:Nat} (h:fB N i g) (e:∀x∈N,x.kind=13->x∈N'):fB N' i g:=by
 obtain⟨x,b,a,d⟩:=h;exact⟨x,e x b a,a,d⟩
theorem pn {i g:Nat} (h:fB N i g):0<cd i g N:=by
 obtain⟨x,a,b,d,e⟩:=h;exact List.countP_pos_iff.2 ⟨x,a,decide_eq_true ⟨d,e,.inl b⟩⟩
theorem Rk {i:Nat} (h:n∈N) (a:n.core=(i:Int)) (b:n.kind=6\/n.kind=12):0<cw i N:=List.countP_pos_iff.2 ⟨n,h,decide_eq_true ⟨a,b⟩⟩
theorem eX.perm (h:eX C K m N) (p:N.Perm N'):eX C K m N':=by
 have em:∀x,x∈N'↔x∈N:=fun x=>p.symm.mem_iff;have b:∀i,Mc.cw i N'=Mc.cw i N:=fun i=>(p.countP_eq _).symm;have d:∀i g,Mc.cd i g N'=Mc.cd i g N:=fun i g=>(p.countP_eq _).symm;have a:∀i g,fB N' i g↔fB N i g:=fun i g=>by unfold fB;simp only[em]
 constructor;simp only[b];exact h.cw;simp only[em];exact h.no;exact h.pl;simp only[em,a];exact h.word;simp only[a];exact h.known;exact h.nd;exact h.gr;exact h.lock;simp only[d];exact h.cd;simp only[em];exact h.nb;exact h.ph
theorem eX.skip (h:eX C K m (n::N)) (f:¬KK n.kind):eX C K m N:=by
 unfold KK at f;have o:∀i,Mc.cw i N=Mc.cw i (n::N):=fun i=>by rw[kE,aaa];rfl
 have p:∀i g,Mc.cd i g N=Mc.cd i g (n::N):=fun i g=>by rw[jC,aaa];rfl
 have k:∀i g,fB (n::N) i g->fB N i g:=fun i g ⟨x,h1,q,t⟩=>by
  rcases List.mem_cons.1 h1 with rfl|h1;omega;exact⟨x,h1,q,t⟩
 have em:∀x,x∈N->x∈n::N:=fun x=>List.mem_cons_of_mem _;constructor;simp only[o];exact h.cw;exact fun x e=>h.no x (em x e);exact h.pl;exact fun x e f=>⟨(h.word x (em x e) f).1,fun a b c=>⟨((h.word x (em x e) f).2 a b c).1,fun d=>k _ _ (((h.word x (em x e) f).2 a b c).2 d)⟩⟩;exact fun i j x e=>⟨(h.known i j x e).1,(h.known i j x e).2.1,fun d=>k _ _ ((h.known i j x e).2.2 d)⟩;exact h.nd;exact h.gr;exact h.lock;simp only[p];exact h.cd;exact fun x e=>h.nb x (em x e);exact h.ph
theorem eX.add (h:eX C K m N) (f:¬KK n.kind):eX C K m (n::N):=by
 unfold KK at f;have t:∀i,Mc.cw i (n::N)=Mc.cw i N:=fun i=>by rw[kE,aaa];rfl
 have u:∀i g,Mc.cd i g (n::N)=Mc.cd i g N:=fun i g=>by rw[jC,aaa];rfl
 have q:∀i g,fB N i g->fB (n::N) i g:=fun i g v=>Bp v fun x e _=>List.mem_cons_of_mem _ e;have em:∀x,x∈n::N->KK x.kind->x∈N:=fun x e p=>by
  rcases List.mem_cons.1 e with rfl|e;exact absurd p (by unfold KK;exact f);exact e
 have j:∀{k:Int},k=6\/k=12->KK k:=fun h=>by unfold KK;omega
 constructor;simp only[t];exact h.cw;exact fun x e f=>h.no x (em x e (j f)) f;exact h.pl;exact fun x e f=>⟨(h.word x (em x e (j (.inr f))) f).1,fun a b c=>⟨((h.word x (em x e (j (.inr f))) f).2 a b c).1,fun d=>q _ _ (((h.word x (em x e (j (.inr f))) f).2 a b c).2 d)⟩⟩;exact fun i o x e=>⟨(h.known i o x e).1,(h.known i o x e).2.1,fun d=>q _ _ ((h.known i o x e).2.2 d)⟩;exact h.nd;exact h.gr;exact h.lock;simp only[u];exact h.cd;exact fun x e f=>h.nb x (em x e f) f;exact h.ph
theorem eX.more (h:eX C K m N):∀{l:List aH},(∀x∈l,¬KK x.kind)->eX C K m (l++N)
 |[],_=>h
 |_::_,a=>(eX.more h fun x b=>a x (List.mem_cons_of_mem _ b)).add (a _ List.mem_cons_self)
theorem eX.new {es:List dT} (d:(es.length:Int)=C.aG) (a:1<=C.aG) (b:∀x∈es,x.locked=false):eX C (fun _=>By) ⟨es,fun _=>none⟩ []:=by
 constructor;case cw=>exact fun _ _=>rfl
 case no=>grind
 case pl=>exact fun _ _ h=>by cases h
 case word=>grind
 case known=>exact fun _ _ _ h=>by cases h
 case nd=>exact fun _ _=>⟨List.nodup_nil,fun h=>by cases h⟩
 case gr=>exact fun _ _=>⟨by decide,by show(0:Int)<C.aG;omega⟩
 case lock=>
  intro g a;unfold Mon.kP;grind
 case cd=>exact fun _ _ _=>rfl
 case nb=>grind
 grind
end
section
variable {C:bA} {K:Nat->iR} {m:Mon} {N N':List aH} {n:aH}
theorem zN {i:Nat} (h:n.core=(i:Int)):n.core.toNat=i:=by omega
theorem eX.walk {i:Nat} {g:Int} (h:eX C K m N) (G:(i:Int)<C.aD) (u:((K i).begin C g).2.2=0):
  eX C (aI K i ((K i).begin C g).1) m (iJ 6 i ((K i).begin C g).2.1::N):=by
 unfold iR.begin at u ⊢
 by_cases B:0<=g/\g<C.aG
 rotate_left
 .rw[aCx B] at u;cases u
 rw[aCw (fun e=>e B)] at u ⊢
 by_cases k:(rU (K i).known g).isSome=true
 .grind
 rw[aCw k] at u ⊢
 by_cases z:(K i).gS=true
 .grind
 rw[aCw z] at u ⊢
 dsimp only
 have z:(K i).gS=false:=by simpa using z
 have v:=h.cw i G
 rw[z] at v
 have w:∀x∈N,x.kind=6\/x.kind=12->x.core.toNat≠i:=fun x f k e=>by
  have P:=(h.nb x f (by unfold KK;omega)).1;have:=Rk (i:=i) f (by omega) k;grind
 have J:∀I y,fB N I y->fB (iJ 6 i (g/4)::N) I y:=fun i g O=>Bp O fun x f _=>List.mem_cons_of_mem _ f
 have q:aI K i ((K i).start g) i=(K i).start g:=dJ
 have t:∀{j:Nat},j≠i->aI K i ((K i).start g) j=K j:=fun e=>bQ e
 have p:(iJ 6 (i:Int) (g/4)).core.toNat=i:=Int.toNat_natCast i
 constructor
 case cw=>
  intro j o
  rw[kE]
  by_cases e:j=i
  .subst e;rw[q,v,aCx ⟨rfl,.inl rfl⟩];rfl
  .rw[t e,aCw (fun E=>e (by grind))];exact h.cw j o
 case no=>
  intro x f k
  rcases List.mem_cons.1 f with rfl|f
  .rw[p,q];rfl
  .rw[t (w x f k)];exact h.no x f k
 case pl=>
  intro j o
  by_cases e:j=i
  .subst e;rw[q];exact fun _=> .inl rfl
  .rw[t e];exact h.pl j o
 case word=>
  intro x f k
  rcases List.mem_cons.1 f with rfl|f
  .exact absurd (show(6:Int)=12 from k) (by decide)
  .rw[t (w x f (.inr k))];have:=h.word x f k;exact⟨this.1,fun a b c=>⟨(this.2 a b c).1,fun d=>J _ _ ((this.2 a b c).2 d)⟩⟩
 case known=>
  intro j o x f
  have f:x∈(K j).known:=by
   by_cases e:j=i;subst e;rw[q] at f;exact f;grind
  have:=h.known j o x f
  grind
 case nd=>
  intro j o
  by_cases e:j=i
  .subst e;rw[q];refine⟨(h.nd j o).1,fun _ L=>k ?_⟩;obtain⟨x,f,D⟩:=List.mem_map.1 L;unfold rU;rw[Option.isSome_map,List.find?_isSome];exact⟨x,f,decide_eq_true D⟩
  .rw[t e];exact h.nd j o
 case gr=>
  intro j o
  by_cases e:j=i
  .subst e;rw[q];exact B
  .rw[t e];exact h.gr j o
 case lock=>exact h.lock
 case cd=>
  intro y j o
  rw[jC,aCw (fun E=>by rcases E.2.2 with F|F<;>exact absurd (show(6:Int)=_ from F) (by decide))]
  exact h.cd y j o
 case nb=>
  intro x f k
  rcases List.mem_cons.1 f with rfl|f
  .exact⟨⟨by show(0:Int)<=i;omega,G⟩,fun e=>by rcases e with e|e<;>exact absurd (show(6:Int)=_ from e) (by decide)⟩
  .exact h.nb x f k
 case ph=>exact h.ph
theorem eX.alone {i:Nat} (h:eX C K m (n::N)) (k:(i:Int)<C.aD) (j:n.core=(i:Int)) (b:n.kind=6\/n.kind=12):(K i).gS=true/\Mc.cw i N=0/\∀x∈N,x.kind=6\/x.kind=12->x.core.toNat≠i:=by
 have a:=h.cw i k;rw[kE,aCx ⟨j,b⟩] at a;have d:(K i).gS=true:=by grind
 rw[d] at a;have g:Mc.cw i N=0:=by simpa using a
 refine⟨d,g,fun x f b e=>?_⟩;have o:=(h.nb x (List.mem_cons_of_mem _ f) (by unfold KK;omega)).1;have:=Rk (i:=i) f (by omega) b;omega
theorem eX.asked {i:Nat} (h:eX C K m (n::N)) (J:(m.bX.length:Int)=C.aG) (o:m.bX.length<=16) (O:∀x∈m.bX,0<=x.owner/\x.owner<=4) (y:(i:Int)<C.aD) (t:n.core=(i:Int)) (f:n.kind=6):
  (iX m.bX n.no).2=0/\eX C K m (zT n.core (iX m.bX n.no).1 n.no::N):=by
 obtain⟨Q,T,L⟩:=h.alone y t (.inl f)
 have P:=h.pl i y Q
 have w:=h.gr i y
 have z:=h.no n List.mem_cons_self (.inl f)
 rw[zN t] at z
 obtain⟨g,B⟩:=Int.eq_ofNat_of_zero_le w.1
 have v:g<m.bX.length:=by omega
 have p:=Vy (es:=m.bX) (g:=g) (a:=n.no) o O v (by grind)
 rw[J,<-B] at p
 refine⟨p.1,?_⟩
 have u:(zT n.core (iX m.bX n.no).1 n.no).core=n.core:=rfl
 have F:∀{D q:Nat},fB (n::N) D q->fB (zT n.core (iX m.bX n.no).1 n.no::N) D q:=fun⟨x,h1,G,I⟩=>by
  rcases List.mem_cons.1 h1 with rfl|h1;omega;exact⟨x,List.mem_cons_of_mem _ h1,G,I⟩
 have E:(zT n.core (iX m.bX n.no).1 n.no).kind=12:=rfl
 constructor
 case cw=>
  intro j k
  have:=h.cw j k
  rw[kE] at this ⊢
  grind
 case no=>
  intro x b f
  rcases List.mem_cons.1 b with rfl|b
  .rw[u,zN t];exact z
  .exact h.no x (List.mem_cons_of_mem _ b) f
 case pl=>exact h.pl
 case word=>
  intro x b f
  rcases List.mem_cons.1 b with rfl|b
  .rw[u,zN t];show Uh _ _ _ (iX m.bX n.no).1/\((K i).pP=false->(gY _ _ _ (iX m.bX n.no).1).2.2.1=true->(gY _ _ _ (iX m.bX n.no).1).2.1.locked=false->(gY _ _ _ (iX m.bX n.no).1).2.1.owner=_/\_);rw[<-z];have R:m.bX.getD g gA=m.kP (K i).bL:=by unfold Mon.kP;rw[B];rfl
   grind
  .have:=h.word x (List.mem_cons_of_mem _ b) f;grind
 case known=>exact fun j k x b=>⟨(h.known j k x b).1,(h.known j k x b).2.1,fun d=>F ((h.known j k x b).2.2 d)⟩
 case nd=>exact h.nd
 case gr=>exact h.gr
 case lock=>exact h.lock
 case cd=>
  intro q j k
  have:=h.cd q j k
  rw[jC,aaa] at this
  rw[jC,aCw (by rw[E];omega)]
  exact this
 case nb=>
  intro x b f
  rcases List.mem_cons.1 b with rfl|b
  .exact⟨by rw[u];omega,fun e=>by rw[E] at e;omega⟩
  .exact h.nb x (List.mem_cons_of_mem _ b) f
 case ph=>exact h.ph
theorem eX.again {i:Nat} {c:iR} {a:Int} (h:eX C K m (n::N)) (F:(i:Int)<C.aD) (y:n.core=(i:Int)) (f:n.kind=12)
  (E:c.gS=true) (k:c.bL=(K i).bL) (u:c.known=(K i).known) (t:c.at'=a) (L:a=(K i).bL/4\/a=iP C.aG (K i).bL):
  eX C (aI K i c) m (iJ 6 n.core a::N):=by
 obtain⟨G,J,o⟩:=h.alone F y (.inr f)
 have w:(iJ 6 n.core a).core=n.core:=rfl
 have v:(iJ 6 n.core a).kind=6:=rfl
 have I:∀{z p:Nat},fB (n::N) z p->fB (iJ 6 n.core a::N) z p:=fun⟨x,h1,B,D⟩=>by
  rcases List.mem_cons.1 h1 with rfl|h1;omega;exact⟨x,List.mem_cons_of_mem _ h1,B,D⟩
 have q:aI K i c i=c:=dJ
 have g:∀{j:Nat},j≠i->aI K i c j=K j:=fun e=>bQ e
 constructor
 case cw=>
  intro j d
  rw[kE,w,v]
  by_cases e:j=i
  .grind
  .have:=h.cw j d;rw[kE,aaa] at this;grind
 case no=>
  intro x b f
  rcases List.mem_cons.1 b with rfl|b
  .rw[w,zN y,q,t];rfl
  .rw[g (o x b f)];exact h.no x (List.mem_cons_of_mem _ b) f
 case pl=>
  intro j d
  by_cases e:j=i
  .grind
  .rw[g e];exact h.pl j d
 case word=>
  intro x b f
  rcases List.mem_cons.1 b with rfl|b
  .rw[v] at f;omega
  .rw[g (o x b (.inr f))];have:=h.word x (List.mem_cons_of_mem _ b) f;grind
 case known=>
  intro j d x b
  have b:x∈(K j).known:=by
   by_cases e:j=i;grind;grind
  have:=h.known j d x b
  grind
 case nd=>
  intro j d
  by_cases e:j=i
  .subst e;rw[q,u,k];exact⟨(h.nd j d).1,fun _=>(h.nd j d).2 G⟩
  .rw[g e];exact h.nd j d
 case gr=>
  intro j d
  by_cases e:j=i
  .subst e;rw[q,k];exact h.gr j d
  .rw[g e];exact h.gr j d
 case lock=>exact h.lock
 case cd=>
  intro p j d
  have:=h.cd p j d
  rw[jC,aaa] at this
  rw[jC,aCw (by rw[v];omega)]
  exact this
 case nb=>
  intro x b f
  rcases List.mem_cons.1 b with rfl|b
  .grind
  .exact h.nb x (List.mem_cons_of_mem _ b) f
 case ph=>exact h.ph
theorem eX.gn {i:Nat} {o:Int} {d:Nat} (h:eX C K m (n::N)) (D:(i:Int)<C.aD) (z:n.core=(i:Int)) (g:n.kind=12) (B:1<=C.aG)
  (t:o=(m.kP (K i).bL).owner/\((m.kP (K i).bL).locked=true->fB (n::N) i (K i).bL.toNat)):
  eX C (aI K i ⟨false,0,0,false,(K i).known.drop d++[((K i).bL,o)]⟩) m N:=by
 obtain⟨F,E,k⟩:=h.alone D z (.inr g)
 have v:∀{u p:Nat},fB (n::N) u p->fB N u p:=fun⟨x,h1,w,y⟩=>by
  rcases List.mem_cons.1 h1 with rfl|h1;omega;exact⟨x,h1,w,y⟩
 have q:∀c:iR,aI K i c i=c:=fun _=>dJ
 have f:∀{j:Nat} {c:iR},j≠i->aI K i c j=K j:=fun e=>bQ e
 have em:∀x,x∈N->x∈n::N:=fun x=>List.mem_cons_of_mem _
 constructor
 case cw=>
  intro j b
  by_cases e:j=i
  .grind
  .have:=h.cw j b;rw[kE,aaa] at this;rw[f e];exact this
 case no=>exact fun x a g=>by rw[f (k x a g)];exact h.no x (em x a) g
 case pl=>
  intro j b
  by_cases e:j=i
  .grind
  .rw[f e];exact h.pl j b
 case word=>
  intro x a g
  rw[f (k x a (.inr g))]
  have:=h.word x (em x a) g
  grind
 case known=>
  intro j b x a
  by_cases e:j=i
  .subst e;rw[q] at a;rcases List.mem_append.1 a with a|a
   .have:=h.known j b x (List.mem_of_mem_drop a);grind
   .rw[List.mem_singleton.1 a];exact⟨h.gr j b,t.1,fun d=>v (t.2 d)⟩
  .rw[f e] at a;have:=h.known j b x a;grind
 case nd=>
  intro j b
  by_cases e:j=i
  .subst e;rw[q];refine⟨?_,fun e=>by cases e⟩;have h1:=h.nd j b;grind
  .rw[f e];exact h.nd j b
 case gr=>
  intro j b
  by_cases e:j=i
  .grind
  .rw[f e];exact h.gr j b
 case lock=>exact h.lock
 case cd=>
  intro p j b
  have:=h.cd p j b
  rw[jC,aaa] at this
  exact this
 case nb=>exact fun x a=>h.nb x (em x a)
 case ph=>exact h.ph
theorem eX.walked {i:Nat} (h:eX C K m (n::N)) (j:(i:Int)<C.aD) (g:n.core=(i:Int)) (b:n.kind=12) (k:1<=C.aG):
  ((K i).walked C n.no n.d0).2.2.2=0/\eX C (aI K i ((K i).walked C n.no n.d0).1) m ((if((K i).walked C n.no n.d0).2.2.1 then [] else [iJ 6 n.core ((K i).walked C n.no n.d0).2.1])++N):=by
 obtain⟨p,w,v⟩:=h.alone j g (.inr b)
 have o:=h.no n List.mem_cons_self (.inr b)
 have a:=h.word n List.mem_cons_self b
 rw[zN g] at o a
 unfold iR.walked
 rw[aCw (by rw[p];simp),aCw (by rw[o];simp)]
 cases hst:(K i).pP with
 |true=>
  rw[aCx rfl]
  exact⟨rfl,h.again j g b p rfl rfl rfl (.inl rfl)⟩
 |false=>
  rw[aCw (by simp),o]
  dsimp only
  rw[o] at*
  rw[aCw (by rw[a.1.1];simp)]
  by_cases q:(gY C.aG (K i).bL (K i).at' n.d0).2.2.1=true/\(gY C.aG (K i).bL (K i).at' n.d0).2.1.locked=true
  .rw[aCx q];exact⟨rfl,h.again (c:=(K i).goto ((K i).bL/4)) j g b p rfl rfl rfl (.inl rfl)⟩
  .rw[aCw q];by_cases f:(gY C.aG (K i).bL (K i).at' n.d0).2.2.1=false
   .rw[aCx f];exact⟨rfl,h.again (c:=(K i).goto _) j g b p rfl rfl rfl (.inr (a.1.2 f).1)⟩
   .rw[aCw f];have f:(gY C.aG (K i).bL (K i).at' n.d0).2.2.1=true:=by simpa using f
    refine⟨rfl,?_⟩
    have u:(gY C.aG (K i).bL (K i).at' n.d0).2.1.locked=false:=by
     cases e:(gY C.aG (K i).bL (K i).at' n.d0).2.1.locked with
     |true=>exact absurd ⟨f,e⟩ q
     |false=>rfl
    have t:=a.2 hst f u
    by_cases d:((K i).known.length:Int)>=C.entries
    .have e:((K i).Fp C ((K i).bL,(gY C.aG (K i).bL (K i).at' n.d0).2.1.owner)).done=⟨false,0,0,false,(K i).known.drop 1++[((K i).bL,(gY C.aG (K i).bL (K i).at' n.d0).2.1.owner)]⟩:=by
      unfold iR.Fp iR.done;rw[aCx d]
     rw[e];exact h.gn j g b k t
    .have e:((K i).Fp C ((K i).bL,(gY C.aG (K i).bL (K i).at' n.d0).2.1.owner)).done=⟨false,0,0,false,(K i).known.drop 0++[((K i).bL,(gY C.aG (K i).bL (K i).at' n.d0).2.1.owner)]⟩:=by
      unfold iR.Fp iR.done;rw[aCw d];rfl
     rw[e];exact h.gn j g b k t
end
section
variable {C:bA} {K:Nat->iR} {m:Mon} {N N':List aH} {n:aH}
theorem Dh {m:Mon} {g:Nat} {x:dT} {k:Int} (b:0<=k) (a:g<m.bX.length):(m.mZ g x).kP k=if k=g then x else m.kP k:=by
 unfold Mon.kP Mon.mZ;dsimp only;rw[List.getD_eq_getElem?_getD,List.getElem?_set,List.getD_eq_getElem?_getD];by_cases e:k=(g:Int);rw[aac,aac,aCx e];rfl;rw[aaa,aCw e]
theorem eX.dropped {i:Nat} (h:eX C K m (n::N)) (L:(i:Int)<C.aD) (hc:n.core=(i:Int)) (F:n.kind=13) (G:0<=n.no/\n.no<C.aG):
  ((K i).drop C n.no).2=0/\eX C (aI K i ((K i).drop C n.no).1) m (iJ 7 n.core n.no::N):=by
 unfold iR.drop
 rw[aaa]
 refine⟨rfl,?_⟩
 dsimp only
 obtain⟨g,hg⟩:=Int.eq_ofNat_of_zero_le G.1
 have ec:(iJ 7 n.core n.no).core=n.core:=rfl
 have eo:(iJ 7 n.core n.no).no=n.no:=rfl
 have J:(iJ 7 n.core n.no).kind=7:=rfl
 generalize y:({(K i) with known:=(K i).known.filter (fun x=> !decide (n.no= -1\/x.1=n.no)),pP:=(K i).pP||((K i).gS&&decide (n.no= -1\/(K i).bL=n.no))}:iR)=c
 have q:c.gS=(K i).gS:=by rw[<-y]
 have B:c.bL=(K i).bL:=by rw[<-y]
 have z:c.at'=(K i).at':=by rw[<-y]
 have E:c.pP=false->(K i).pP=false/\((K i).gS=true->(K i).bL≠n.no):=by
  grind
 have D:∀x,x∈c.known↔x∈(K i).known/\x.1≠n.no:=by
  grind
 have p:(c.known.map (·.1)).Sublist ((K i).known.map (·.1)):=by
  rw[<-y];exact List.Sublist.map _ List.filter_sublist
 have O:∀{I v:Nat},¬(I=i/\(v:Int)=n.no)->fB (n::N) I v->fB (iJ 7 n.core n.no::N) I v:=fun W ⟨x,h1,P,Q,R⟩=>by
  rcases List.mem_cons.1 h1 with rfl|h1;grind;exact⟨x,List.mem_cons_of_mem _ h1,P,Q,R⟩
 have t:aI K i c i=c:=dJ
 have u:∀{j:Nat},j≠i->aI K i c j=K j:=fun e=>bQ e
 have em:∀x,x∈N->x∈n::N:=fun x=>List.mem_cons_of_mem _
 have T:=h.gr i L
 constructor
 case cw=>
  intro j k
  have:=h.cw j k
  rw[kE,aaa] at this
  rw[kE,aCw (by rw[J];omega),this]
  grind
 case no=>
  intro x f F
  rcases List.mem_cons.1 f with rfl|f
  .rw[J] at F;omega
  .have:=h.no x (em x f) F;by_cases e:x.core.toNat=i
   .rw[e] at this ⊢;rw[t,z];exact this
   .rw[u e];exact this
 case pl=>
  intro j k
  by_cases e:j=i
  .subst e;rw[t,q,z,B];exact h.pl j k
  .rw[u e];exact h.pl j k
 case word=>
  intro x f o
  rcases List.mem_cons.1 f with rfl|f
  .rw[J] at o;omega
  .have:=h.word x (em x f) o;by_cases e:x.core.toNat=i
   .rw[e] at this ⊢;rw[t,z,B];refine⟨this.1,fun a b c=>?_⟩;have Y:(K i).gS=true:=by
     have hb:=(h.nb x (em x f) (by unfold KK;omega)).1;have h1:=h.cw i L;have:=Rk (i:=i) (em x f) (by omega) (.inr o);grind
    exact⟨(this.2 (E a).1 b c).1,fun d=>O (fun Z=>(E a).2 Y (by omega)) ((this.2 (E a).1 b c).2 d)⟩
   grind
 case known=>
  intro j k x f
  by_cases e:j=i
  .subst e;rw[t] at f;have f:=(D x).1 f;have:=h.known j k x f.1;grind
  .rw[u e] at f;have:=h.known j k x f;grind
 case nd=>
  intro j k
  by_cases e:j=i
  .subst e;rw[t,q,B];exact⟨(h.nd j k).1.sublist p,fun w U=>(h.nd j k).2 w (p.mem U)⟩
  .rw[u e];exact h.nd j k
 case gr=>
  intro j k
  by_cases e:j=i
  .grind
  .rw[u e];exact h.gr j k
 case lock=>exact h.lock
 case cd=>
  intro v j k
  have:=h.cd v j k
  rw[jC] at this ⊢
  grind
 case nb=>
  intro x f o
  rcases List.mem_cons.1 f with rfl|f
  .grind
  .exact h.nb x (em x f) o
 case ph=>exact h.ph
theorem xK {m:Mon} {g a i:Nat} {x:Option Mc.iK}:xD (m.dE g x) a i=if a=g then(match x with|some r=>(r.waits i).toNat|none=>0) else xD m a i:=by
 unfold xD Mon.dE aI;grind
theorem eX.heard {i g:Nat} (hC:C.Ok) (h:eX C K m (n::N)) (E:gR C m) (R:(i:Int)<C.aD) (Q:n.core=(i:Int)) (U:n.kind=7) (p:n.no=(g:Int)):
  ∃r,m.runs g=some r/\r.phase=1/\r.waits i=true/\m.dropped C.aD n.no n.core=(m.dE g (some (r.heard i).mC),(r.heard i).none,0)/\eX C K (m.dE g (some (r.heard i).mC)) N:=by
 have h1:=h.cd g i R
 rw[jC,aCx ⟨Q,p,.inr U⟩] at h1
 unfold xD at h1
 have T:i<4:=by have:=hC.1;omega
 cases hr:m.runs g with
 |none=>rw[hr] at h1;simp at h1
 |some r=>
  rw[hr] at h1
  dsimp only at h1
  have B:r.waits i=true:=by
   cases e:r.waits i with
   |true=>rfl
   |false=>rw[e] at h1;simp at h1
  rw[B] at h1
  have L:Mc.cd i g N=0:=by simpa using h1
  have z:=h.ph g r hr
  have v:=E.run g r hr
  have d:r.none=false:=by
   have:i=0\/i=1\/i=2\/i=3:=by omega
   unfold iK.none;rcases this with rfl|rfl|rfl|rfl<;>rw[B]<;>simp
  have y:r.phase=1:=by
   rcases v.2.2.1 with e|e;exact e;have:=z.1.1 e;rw[d] at this;cases this
  have D:m.has n.no:=by
   unfold Mon.has;have:=E.len;omega
  have F:m.run n.no=some r:=by unfold Mon.run;rw[aac,p,Int.toNat_natCast,hr]
  have q:(r.heard i).mC.waits=fO r.waits i false:=rfl
  have w:(r.heard i).mC.none=(r.heard i).none:=rfl
  refine⟨r,rfl,y,B,?_,?_⟩
  .unfold Mon.dropped;grind
  have Y:∀{G b:Nat},fB (n::N) G b->fB N G b:=fun⟨x,h1,O,P⟩=>by
   rcases List.mem_cons.1 h1 with rfl|h1;omega;exact⟨x,h1,O,P⟩
  have em:∀x,x∈N->x∈n::N:=fun x=>List.mem_cons_of_mem _
  have J:∀k,(m.dE g (some (r.heard i).mC)).kP k=m.kP k:=fun _=>rfl
  constructor
  case cw=>
   intro j o
   have:=h.cw j o
   rw[kE,aaa] at this
   exact this
  case no=>exact fun x f=>h.no x (em x f)
  case pl=>exact h.pl
  case word=>
   intro x f u
   have:=h.word x (em x f) u
   grind
  case known=>
   intro j o x f
   have:=h.known j o x f
   grind
  case nd=>exact h.nd
  case gr=>exact h.gr
  case lock=>
   intro b t
   rw[J,h.lock b t]
   unfold Mon.dE aI
   grind
  case cd=>
   intro b j o
   have:=h.cd b j o
   rw[jC] at this
   rw[xK]
   by_cases e:b=g
   .subst e;rw[aCx rfl];dsimp only;rw[q];by_cases I:j=i
    .subst I;rw[L];unfold fO;rw[aCx rfl];rfl
    .rw[aaa] at this;unfold fO;rw[aaa];unfold xD at this;grind
   grind
  case nb=>exact fun x f=>h.nb x (em x f)
  case ph=>
   intro b W a
   unfold Mon.dE aI at a
   dsimp only at a
   by_cases e:b=g
   .rw[aCx e] at a;cases a;refine⟨?_,fun j o=>?_⟩
    .rw[w];show(if(r.heard i).none=true then(2:Int) else r.phase)=2↔_;grind
    .rw[q];unfold fO;grind
   .rw[aCw e] at a;exact h.ph b W a
theorem vV {aD g:Int} {x:aH} (h:x∈tX aD g):x.kind=13/\x.no=g/\∃j:Nat,(j:Int)<aD/\x=iJ 13 j g:=by
 unfold tX at h;obtain⟨j,a,rfl⟩:=List.mem_map.1 h;have:=List.mem_range.1 a;exact⟨rfl,rfl,j,by omega,rfl⟩
theorem Zm {aD:Int} {g a i:Nat} (f:(i:Int)<aD):cd i a (tX aD g)=if a=g then 1 else 0:=by
 unfold tX;obtain⟨n,b⟩:∃n:Nat,aD.toNat=n/\i<n:=⟨aD.toNat,rfl,by omega⟩;rw[b.1];have e:∀n:Nat,cd i a ((List.range n).map fun j:Nat=>iJ 13 j g)=if i<n/\a=g then 1 else 0:=by
  intro n;induction n with
  |zero=>rfl
  |succ n d=>
   rw[List.range_succ,List.map_append,ez,d];show _+cd i a (iJ 13 n g::[])=_;rw[jC];show _+(0+if(n:Int)=(i:Int)/\(g:Int)=(a:Int)/\((13:Int)=13\/(13:Int)=7) then 1 else 0)=_;grind
 grind
theorem eX.calls {a:Mc.Ask} {g:Nat} {j:Int×Bool×Int} (hC:C.Ok) (h:eX C K m N) (R:(m.bX.length:Int)=C.aG) (Q:(g:Int)<C.aG) (J:m.runs g=none):
  eX C K ((m.mZ g ⟨(m.kP g).owner,true⟩).dE g (some (a.run C.aD j))) (tX C.aD g++N):=by
 have G:C.aD<=4:=hC.1.2
 have L:∀{p f:Nat},fB N p f->fB (tX C.aD g++N) p f:=fun I=>Bp I fun x b _=>List.mem_append.2 (.inr b)
 have O:∀p:Nat,(p:Int)<C.aD->fB (tX C.aD g++N) p g:=fun p F=>⟨iJ 13 p g,List.mem_append.2 (.inl (List.mem_map.2 ⟨p,List.mem_range.2 (by omega),rfl⟩)),rfl,rfl,rfl⟩
 have em:∀x,x∈tX C.aD g++N->x.kind≠13->x∈N:=fun x b o=>by
  rcases List.mem_append.1 b with b|b;exact absurd (vV b).1 o;exact b
 have v:g<m.bX.length:=by omega
 have y:∀k:Int,0<=k->((m.mZ g ⟨(m.kP g).owner,true⟩).dE g (some (a.run C.aD j))).kP k=if k=g then⟨(m.kP g).owner,true⟩ else m.kP k:=fun k o=>Dh o v
 have D:∀x∈N,x.kind=6\/x.kind=12->(x.core.toNat:Int)<C.aD:=fun x b o=>by have:=(h.nb x b (by unfold KK;omega)).1;omega
 constructor
 case cw=>
  intro i q
  rw[xa]
  have:Mc.cw i (tX C.aD g)=0:=by
   refine List.countP_eq_zero.2 fun x b=>?_;have:=(vV b).1;grind
  rw[this,Nat.zero_add];exact h.cw i q
 case no=>exact fun x b o=>h.no x (em x b (by omega)) o
 case pl=>exact h.pl
 case word=>
  intro x b o
  have b:=em x b (by omega)
  have t:=D x b (.inr o)
  have:=h.word x b o
  have E:=h.gr _ t
  grind
 case known=>
  intro i q x b
  have:=h.known i q x b
  grind
 case nd=>exact h.nd
 case gr=>exact h.gr
 case lock=>
  intro f u
  rw[y _ (by omega)]
  show _↔(aI m.runs g _ f).isSome=true
  unfold aI
  by_cases e:f=g
  .subst e;simp
  .rw[aaa,aCw e];exact h.lock f u
 case cd=>
  intro f i q
  rw[ez,xK,Zm q,h.cd f i q]
  by_cases e:f=g
  .subst e;rw[aCx rfl,aCx rfl];have:xD m f i=0:=by unfold xD;rw[J]
   rw[this]
   show 1+0=(decide ((i:Int)<C.aD)).toNat
   grind
  .rw[aCw e,aCw e,Nat.zero_add];rfl
 case nb=>
  intro x b o
  rcases List.mem_append.1 b with b|b
  .obtain⟨P,z,k,B,rfl⟩:=vV b;exact⟨⟨by show(0:Int)<=k;omega,B⟩,fun _=>by rw[z];omega⟩
  .exact h.nb x b o
 case ph=>
  intro f w d
  have d:aI m.runs g (some (a.run C.aD j)) f=some w:=d
  unfold aI at d
  by_cases e:f=g
  .rw[aCx e] at d;cases d;refine⟨?_,fun i q=>decide_eq_false (by omega)⟩;show(1:Int)=2↔(!(decide (((0:Nat):Int)<C.aD)||_||_||_))=true;have:=hC.1.1;grind
  .rw[aCw e] at d;exact h.ph f w d
theorem eX.over {g:Nat} {r:Mc.iK} {o:Int} (hC:C.Ok) (h:eX C K m N) (P:(m.bX.length:Int)=C.aG) (G:(g:Int)<C.aG) (z:m.runs g=some r) (y:r.phase=2):
  eX C K ((m.mZ g ⟨o,false⟩).dE g none) N/\(∀i:Nat,(i:Int)<C.aD->∀x∈(K i).known,x.1≠g):=by
 have u:g<m.bX.length:=by omega
 have D:∀k:Int,0<=k->((m.mZ g ⟨o,false⟩).dE g none).kP k=if k=g then⟨o,false⟩ else m.kP k:=fun k p=>Dh p u
 have w:(m.kP g).locked=true:=(h.lock g G).2 (by rw[z];rfl)
 have j:=(h.ph g r z).1.1 y
 have L:∀i:Nat,(i:Int)<C.aD->r.waits i=false:=fun i d=>by
  have:i=0\/i=1\/i=2\/i=3:=by have:=hC.1;omega
  unfold iK.none at j;grind
 have J:∀i:Nat,(i:Int)<C.aD->¬fB N i g:=fun i d y=>by
  have O:=pn y;have E:=h.cd g i d;unfold xD at E;grind
 have F:∀x∈N,x.kind=6\/x.kind=12->(x.core.toNat:Int)<C.aD:=fun x f p=>by have:=(h.nb x f (by unfold KK;omega)).1;omega
 have v:∀i:Nat,(i:Int)<C.aD->∀x∈(K i).known,x.1≠g:=fun i d x f e=>by
  have:=(h.known i d x f).2.2 (by rw[e];exact w);grind
 refine⟨?_,v⟩
 constructor
 case cw=>exact h.cw
 case no=>exact h.no
 case pl=>exact h.pl
 case word=>
  intro x f p
  have q:=F x f (.inr p)
  have:=h.word x f p
  have I:=h.gr _ q
  grind
 case known=>
  intro i d x f
  have:=h.known i d x f
  grind
 case nd=>exact h.nd
 case gr=>exact h.gr
 case lock=>
  intro b t
  rw[D _ (by omega)]
  show _↔(aI m.runs g none b).isSome=true
  unfold aI
  by_cases e:b=g
  .subst e;simp
  .rw[aaa,aCw e];exact h.lock b t
 case cd=>
  intro b i d
  rw[xK,h.cd b i d]
  by_cases e:b=g
  .subst e;rw[aCx rfl];unfold xD;grind
  .rw[aCw e];rfl
 case nb=>exact h.nb
 case ph=>
  intro b B a
  have a:aI m.runs g none b=some B:=a
  unfold aI at a
  by_cases e:b=g
  .grind
  .rw[aCw e] at a;exact h.ph b B a
end
section
variable {A:AM} {i:Nat}
theorem jB {B:AM} {s:aJ} {a:Int} (b:B.aB=aI A.aB i s) (_d:B.cfg=A.cfg):B.eY i a={B with aB:=aI A.aB i (s.eY a)}:=by
 unfold AM.eY AM.oS;rw[b,dJ,Es]
theorem Dj {s:aJ} {x:Ins} (h:aJ.next? s=some x):s.over=false/\x=yJ s.prog s.at':=by
 unfold aJ.next? at h;grind
theorem Dx {b:Bool} (a:(i:Int)<A.cfg.aD) (d:(A.aB i).over=false):
  A.step i b=((A.sX i (yJ (A.aB i).prog (A.aB i).at') b).1.eY i (A.sX i (yJ (A.aB i).prog (A.aB i).at') b).2.2.2.2,
      ⟨i,(A.aB i).at',(yJ (A.aB i).prog (A.aB i).at').op,(A.aB i).world,(A.sX i (yJ (A.aB i).prog (A.aB i).at') b).2.1,(A.sX i (yJ (A.aB i).prog (A.aB i).at') b).2.2.1,(A.sX i (yJ (A.aB i).prog (A.aB i).at') b).2.2.2.1⟩,0):=by
 unfold AM.step
 grind
theorem nE {s:aJ} (h:A.aB i=s):A.aB=aI A.aB i s:=by subst h;exact qP.symm
theorem Z2 {r:aJ×Ev} {b:Bool} (j:(i:Int)<A.cfg.aD) (h:aJ.oG (A.aB i) i=some r):A.step i b=({A with aB:=aI A.aB i r.1},r.2,0)/\pR r.2=false:=by
 unfold aJ.oG at h;cases hn:aJ.next? (A.aB i) with
 |none=>rw[hn] at h;cases h
 |some x=>
  rw[hn] at h;dsimp only at h;obtain⟨k,o⟩:=Dj hn;rw[Dx j k,<-o];unfold AM.sX;split at h;rename_i e;cases h;rw[aCx e];exact⟨by dsimp only;rw[jB (A:=A) (B:=A.oS i _) (s:=(A.aB i).dE x.a x.b) rfl rfl];rfl,rfl⟩;rename_i d;rw[aCw d];split at h;rename_i e;cases h;rw[aCx e];exact⟨by dsimp only;rw[jB (A:=A) (B:=A.oS i _) (s:=(A.aB i).dE x.a _) rfl rfl];rfl,rfl⟩;rename_i f;rw[aCw f];split at h;rename_i e;cases h;rw[aaa,aaa,aaa,aaa,aaa];exact⟨by dsimp only;rw[jB (nE rfl) rfl];rfl,rfl⟩;rename_i p;split at h;rename_i e;rw[aaa,aCx e];split at h;rename_i a;cases h;rw[aCx a];exact⟨by dsimp only;rw[jB (A:=A) (B:=A.oS i _) (s:=(A.aB i).wx x.a) rfl rfl];rfl,rfl⟩;rename_i a;cases h;rw[aCw a];exact⟨by dsimp only;rw[jB (nE rfl) rfl];rfl,rfl⟩;rename_i a;split at h;rename_i e;cases h;rw[aaa,aCw a,aaa,aCx e];exact⟨by dsimp only;rw[jB (nE rfl) rfl];rfl,rfl⟩;rename_i g;split at h;rename_i e;cases h;rw[aaa,aCw a,aaa,aCw g,aCx e];exact⟨by dsimp only;rw[jB (nE rfl) rfl];rfl,rfl⟩;cases h
theorem ct {s:aJ} {a:Acc} (h:aJ.sO s=some a):∃x,aJ.next? s=some x/\(x.op=3\/x.op=4\/x.op=5)/\a=⟨s.dA x.b.toNat,decide (x.op≠3),decide (x.op≠4),if x.op=3 then 0 else s.dA x.a.toNat⟩:=by
 unfold aJ.sO at h;cases hn:aJ.next? s with
 |none=>rw[hn] at h;cases h
 |some x=>
  rw[hn] at h;dsimp only at h;unfold Vp at h;split at h;rename_i e;cases h;exact⟨x,rfl,of_decide_eq_true e,rfl⟩;cases h
theorem Mp {a:Acc} {b:Bool} (j:(i:Int)<A.cfg.aD) (h:aJ.sO (A.aB i)=some a) (k:A.may (A.aB i).world a.word=false):
  A.step i b=({A with aB:=aI A.aB i (aJ.aY (A.aB i) i 0 19).1},(aJ.aY (A.aB i) i 0 19).2.1,0)/\(aJ.aY (A.aB i) i 0 19).2.2=0/\pR (aJ.aY (A.aB i) i 0 19).2.1=false:=by
 obtain⟨x,f,e,rfl⟩:=ct h
 obtain⟨o,p⟩:=Dj f
 have g:aJ.aY (A.aB i) i 0 19=((A.aB i).eY ((A.aB i).at'+1),aJ.ev (A.aB i) i x ((A.aB i).dA x.b.toNat) 0 19,0):=by
  unfold aJ.aY;rw[f];dsimp only;rw[aaa,aCx (by unfold Vp;grind),aaa,aCx rfl]
 rw[g,Dx j o,<-p]
 unfold AM.sX
 have d:A.access i x=(A,0,19):=by unfold AM.access;rw[aCw (by rw[k];simp)]
 rw[aaa,aaa,aCx e,d]
 exact⟨by dsimp only;rw[jB (nE rfl) rfl];rfl,rfl,rfl⟩
theorem Xr {a:Acc} {b:Bool} {v:Int} (t:(i:Int)<A.cfg.aD) (q:aJ.sO (A.aB i)=some a) (k:A.may (A.aB i).world a.word=true) (d:v=if a.read then kM A.mem a.word.toNat else 0):
  A.step i b=({A with aB:=aI A.aB i (aJ.aY (A.aB i) i v 0).1,mem:=if a.write then oC A.mem a.word.toNat a.value else A.mem},(aJ.aY (A.aB i) i v 0).2.1,0)/\(aJ.aY (A.aB i) i v 0).2.2=0/\pR (aJ.aY (A.aB i) i v 0).2.1=false:=by
 obtain⟨x,o,g,rfl⟩:=ct q
 obtain⟨u,w⟩:=Dj o
 have p:aJ.aY (A.aB i) i v 0=if x.op=4 then((A.aB i).eY ((A.aB i).at'+1),aJ.ev (A.aB i) i x ((A.aB i).dA x.b.toNat) ((A.aB i).dA x.a.toNat) 0,0) else(((A.aB i).dE x.a v).eY ((A.aB i).at'+1),aJ.ev (A.aB i) i x ((A.aB i).dA x.b.toNat) v 0,0):=by
  unfold aJ.aY;rw[o];dsimp only;rw[aaa,aCx (by unfold Vp;grind),aaa,aaa]
 rw[p,Dx t u,<-w]
 unfold AM.sX
 rw[aaa,aaa,aCx g]
 unfold AM.access
 dsimp only at k d
 rw[aCx k]
 rcases g with e|e|e
 .rw[aCx e,aaa];have d:v=kM A.mem ((A.aB i).dA x.b.toNat).toNat:=by rw[d,aCx (by rw[e];rfl)]
  have h:decide (x.op≠3)=false:=by rw[e];rfl
  subst d
  refine⟨?_,rfl,rfl⟩
  dsimp only
  rw[h]
  rw[jB (A:=A) (B:=A.oS i _) (s:=(A.aB i).dE x.a _) rfl rfl];rfl
 .have h:decide (x.op≠3)=true:=by rw[e];rfl
  have f:¬x.op=3:=by omega
  refine⟨?_,by rw[aCx e],by rw[aCx e];rfl⟩
  rw[aCw f,aCx e,aCx e,h]
  dsimp only
  rw[jB (A:=A) (B:=A.kY (oC A.mem ((A.aB i).dA x.b.toNat).toNat ((A.aB i).dA x.a.toNat))) (nE rfl) rfl,aCw f];rfl
 .have h:decide (x.op≠3)=true:=by rw[e];rfl
  have f:¬x.op=3:=by omega
  have j:¬x.op=4:=by omega
  have d:v=kM A.mem ((A.aB i).dA x.b.toNat).toNat:=by rw[d,aCx (by rw[e];rfl)]
  subst d
  refine⟨?_,by rw[aCw j],by rw[aCw j];rfl⟩
  rw[aCw f,aCw j,aCw j,h]
  dsimp only
  rw[jB (A:=A) (B:=(A.kY (oC A.mem ((A.aB i).dA x.b.toNat).toNat ((A.aB i).dA x.a.toNat))).oS i _) (s:=(A.aB i).dE x.a _) rfl rfl,aCw f];rfl
theorem jk {s:aJ} {a:Mc.Ask} (h:aJ.C2 s i=some a):∃x,aJ.next? s=some x/\x.op=8/\a=⟨i,s.world,x.a,s.dA x.b.toNat,s.dA x.c.toNat⟩:=by
 unfold aJ.C2 at h;grind
theorem Ua {a:Mc.Ask} {e:Int} {B:AM} (o:(i:Int)<A.cfg.aD) (k:aJ.C2 (A.aB i) i=some a) (d:A.call a.call a.world a.bL a.to (decide (e=17))=(B,e)):
  A.step i (decide (e=17))=({B with aB:=aI A.aB i (aJ.aY (A.aB i) i 0 e).1},(aJ.aY (A.aB i) i 0 e).2.1,0)/\(aJ.aY (A.aB i) i 0 e).2.2=0/\pR (aJ.aY (A.aB i) i 0 e).2.1=decide (e=17):=by
 obtain⟨x,p,h,rfl⟩:=jk k
 obtain⟨q,u⟩:=Dj p
 have j:aJ.aY (A.aB i) i 0 e=(((A.aB i).dE x.b e).eY ((A.aB i).at'+1),aJ.ev (A.aB i) i x ((A.aB i).dA x.b.toNat) ((A.aB i).dA x.c.toNat) e,0):=by
  unfold aJ.aY;grind
 rw[j,Dx o q,<-u]
 dsimp only at d
 have f:=R1 (m:=A) (c:=x.a) (w:=(A.aB i).world) (g:=(A.aB i).dA x.b.toNat) (t:=(A.aB i).dA x.c.toNat) (b:=decide (e=17))
 rw[d] at f
 unfold AM.sX
 rw[aaa,aaa,aaa,aaa,aCx h,d]
 refine⟨?_,rfl,rfl⟩
 dsimp only
 rw[jB (A:=A) (B:=B.oS i _) (s:=(A.aB i).dE x.b e) (by show aI B.aB i _=_;rw[f.2.2]) f.1]
 rfl
theorem Ig:∀{l:List Ev} {A B:AM} {x:Ev} {k:Nat},oD A l k=(B,k+l.length,0)->cf B x=0->oD A (l++[x]) k=((B.step x.core (pR x)).1,k+l.length+1,0)
 |[],A,B,x,k,h,a=>by
  have:A=B:=by cases h;rfl
  subst this;show oD A [x] k=_;unfold oD;rw[aCw (by rw[a];simp)];rfl
 |y::l,A,B,x,k,h,a=>by
  rw[List.cons_append];unfold oD at h ⊢;split at h;grind;rename_i b;rw[aCw b];rw[List.length_cons] at h ⊢;rw[show k+(l.length+1)=k+1+l.length by omega] at h ⊢;exact Ig h a
theorem xb {x:Ev} {B:AM} (h:A.step x.core (pR x)=(B,x,0)):cf A x=0:=by
 unfold cf;rw[h];simp
end
end Go.Mc
namespace Go.Pc
open Go Go.Ab Go.Hm Go.Ct
section
variable {l:Nat} {r:Row} {m V:Ln} {c:bg} {N:List aH} {n:aH}
structure Clean (r:Row):Prop where
 busy:r.busy=false
 owner:r.owner= -1
 sh:∀i,i<4->r.sh i=false
def Fv (r:Row):Prop:=(r.busy=true/\r.served.kind=0)\/∃x∈r.waits,x.kind=0
def Dz (r:Row):Prop:=Fv r\/Clean r
theorem Dz.wait (h:Dz r):Dz (r.wait n):=by
 rcases h with(h|⟨x,a,k⟩)|h;exact .inl (.inl h);exact .inl (.inr ⟨x,List.mem_append.2 (.inl a),k⟩);exact .inr ⟨h.busy,h.owner,h.sh⟩
theorem zF:Fv (r.wait (nN l)):= .inr ⟨nN l,List.mem_append.2 (.inr (by simp)),rfl⟩
theorem mG:(r.heard n).waits=r.waits:=by
 unfold Row.heard;split;rfl;split<;>split<;>rfl
theorem mM {line:Int} {d:Ln}:(r.eA line d).1.waits=r.waits:=by
 unfold Row.eA;grind
theorem Dz.take (h:Dz r) (b:Inv l r m V c (n::N)) (_:1<=n.kind/\n.kind<=5):Dz (kJ.take (r,m) l n).1.1:=by
 unfold kJ.take;by_cases E:n.kind=4;rw[aCx E];obtain⟨v,J,T⟩:=b.Zp E;rw[aCw (by show ¬(r.granted=false\/r.served.core≠n.core);rw[v];simp;exact J)];rcases h with(h|⟨x,D,k⟩)|h;exact absurd h.2 (b.kg v);exact .inl (.inr ⟨x,D,k⟩);have:=b.row.gb v;rw[h.busy] at this;cases this;rw[aCw E];by_cases p:n.kind=5;rw[aCx p];have G:=b.nc n (by simp);obtain⟨i,z,y,f⟩:=dI G.2;obtain⟨F,O,w,_,_⟩:=b.S5 p z y;rw[aCw (by show ¬r.asked n.core.toNat=false;rw[f,F];simp)];obtain⟨_,L⟩:=b.mK p;show Dz (kJ.mK (r,m) l n).1.1;have Q:(kJ.mK (r,m) l n).1.1.waits=r.waits:=by
  unfold kJ.mK Row.rest;dsimp only;split;split;exact mG;rw[mM];exact mG;exact mG
 rcases h with(h|⟨x,D,k⟩)|h;have g:=xI b.row G.2 (by rw[f];exact F);have q:r.heard n=(r.eF n).leave n.core:=by unfold Row.heard;rw[aac]
 unfold kJ.mK Row.rest;dsimp only;by_cases B:(r.heard n).quiet=true;rw[aCx B,aCx (by rw[rQ];exact h.2)];right;have d:∀j:Nat,j<4->(r.heard n).sh j=false/\(r.heard n).owner≠(j:Int):=fun j I=>by
  have P:=b.k2 w O (by omega) j I (fun e=>by omega);have o:=dQ B I;have a:(r.heard n).asked j=fO r.asked n.core false j:=by rw[q];rfl
  have u:(r.heard n).sh j=fO r.sh n.core false j:=by rw[q];rfl
  have t:(r.heard n).owner=if r.owner=n.core then -1 else r.owner:=by rw[q];rfl
  rw[a] at o;rw[u,t];unfold fO at o ⊢;grind
 refine⟨rfl,?_,fun i z=>(d i z).1⟩;show(r.heard n).owner= -1;have W:=g.owner;have R:=d (r.heard n).owner.toNat;omega;rw[aCw B];left;left;exact⟨g.busy,by rw[rQ];exact h.2⟩;exact .inl (.inr ⟨x,by rw[Q];exact D,k⟩);rw[h.busy] at w;cases w;rw[aCw p];exact h.wait
theorem Dz.begun {w:List aH} {j:Int->Int×Bool} (h:Dz r) (hb:r.busy=false) (t:r.waits=n::w) (q:Inv l r m V c N) (B:∀x,(j x).2=false):Dz (Row.begun (r.next w) l m n j).1.1:=by
 have d:n.kind≠0->Dz (r.next w):=fun y=>by
  rcases h with(h|⟨x,e,k⟩)|h;grind;rw[t] at e;rcases List.mem_cons.1 e with rfl|e;exact absurd k y;exact .inl (.inr ⟨x,e,k⟩);exact .inr ⟨h.busy,h.owner,h.sh⟩
 unfold Row.begun;by_cases u:n.kind=3;rw[aCx u];rcases d (by omega) with(h|⟨x,e,k⟩)|h;exact .inl (.inl h);exact .inl (.inr ⟨x,e,k⟩);refine .inr ⟨h.busy,?_,fun i o=>?_⟩;show(if(r.next w).owner=n.core then(-1:Int) else(r.next w).owner)= -1;split;rfl;exact h.owner;show fO (r.next w).sh n.core false i=false;unfold fO;split;rfl;exact h.sh i o;rw[aCw u];by_cases p:n.kind=1\/n.kind=2;grind;rw[aCw p];have v:=q.row.waits n (by rw[t];simp);by_cases g:(r.next w).first (-1)= -1
 rw[aCx g];have f:=Bm.1 g;have D:=q.row.owner;right;refine⟨hb,?_,fun i o=>(f i o (by omega)).1⟩;show r.owner= -1;have z:r.owner.toNat<4->((r.owner.toNat:Nat):Int)≠ -1->((r.owner.toNat:Nat):Int)≠r.owner:=fun a b=>(f r.owner.toNat a b).2;omega;rw[aCw g];exact .inl (.inl ⟨rfl,by show n.kind=0;omega⟩)
theorem Inv.clean (h:Inv l r m V c N) (f:Clean r):(∀i,i<4->HH l r c N i=0)/\∀x∈N,x.kind≠8/\x.kind≠5/\x.kind≠11:=by
 obtain⟨q,u,_⟩:=h.idle f.busy;have o:∀x∈N,x.kind≠8/\x.kind≠5/\x.kind≠11:=fun x p=>by
  have t:=h.nc x p;obtain⟨j,v,g,_⟩:=dI t.2;have d:=h.calm q p;exact⟨fun k=>h.xn v (by unfold qJ;rw[u];simp) p k g,d.1,d.2⟩
 refine⟨fun i a=>?_,o⟩;have b:=h.c1 i a (by have:=h.t3 i a;rw[dQ q a] at this;simp at this;omega) (by have:=h.t4 i a;unfold qJ at this;grind);have w:0<=HH l r c N i:=by have:=h.pA i a;unfold HH oZ;grind
 have d:HH l r c N i≠1:=fun e=>by have:=b.1.1 e;rw[f.sh i a] at this;cases this
 have y:¬2<=HH l r c N i:=fun e=>by have:=b.2.1 e;rw[f.owner] at this;omega
 omega
end
end Go.Pc
namespace Go.Mc
open Go Go.Ab Go.Hm Go.At Go.Is Go.Ct Go.Nt Go.Pc
section
abbrev nS (C:bA) (M:bY) (V:Nat->Ln):AM:=⟨C,M.aB,M.bC.bX.map dT.owner,V⟩
structure RX (C:bA) (A0:AM) (M:bY) (V:Nat->Ln):Prop where
 Hn:iU C M.home M.dB V (mS C M.jS)
 oU:eX C M.dN M.bC (mS C M.jS)
 swp:∀g r,M.bC.runs g=some r->r.phase=2->Dz (M.home (g*2)).1/\Dz (M.home (g*2+1)).1
 ask:∀g r,M.bC.runs g=some r->aJ.C2 (M.aB r.core.toNat) r.core.toNat=some ⟨r.core,r.world,r.call,g,r.to⟩/\hQ r.call r.world (M.bC.kP g).owner r.to=(r.then',r.jY,0)
 log:oD A0 M.log 0=(nS C M V,M.log.length,0)
variable {C:bA} {N:Nat} {M M':bY} {V V':Nat->Ln} {A0:AM}
theorem O9 {x:Ev} {B:AM} (h:oD A0 M.log 0=(nS C M V,M.log.length,0)) (a:(nS C M V).step x.core (pR x)=(B,x,0)):oD A0 (M.log++[x]) 0=(B,(M.log++[x]).length,0):=by
 have:=Ig (k:=0) (l:=M.log) (x:=x) (by rw[Nat.zero_add];exact h) (xb a);grind
theorem Vr (hC:C.Ok) (a:cS C N M) {i:Nat} (f:M.bC.calls i=false) {g:Nat} {r:Mc.iK} (b:M.bC.runs g=some r):r.core.toNat≠i:=fun e=>by
 have d:=(a.bC.run g r b).2.2.2.1;have:M.bC.calls i=true:=(H2 hC a.bC).2 ⟨g,by unfold rc;grind⟩;grind
theorem RX.turns (hC:C.Ok) (o:cS C N M) (h:RX C A0 M V) {i:Nat} {s:aJ} {v:Ev} {M1:bY} (t:M.bC.calls i=false)
  (j:M1.aB=aI M.aB i s) (e2:M1.log=M.log++[v]) (a:M1.bC=M.bC) (b:M1.home=M.home) (k:M1.dN=M.dN) (d:M1.jS=M.jS)
  (p:iU C M.home M1.dB V' (mS C M.jS)) (q:v.core=i) (f:(nS C M V).step i (pR v)=({nS C M V with aB:=aI M.aB i s,mem:=V'},v,0)):RX C A0 M1 V':=by
 constructor
 case Hn=>rw[b,d];exact p
 case oU=>rw[a,k,d];exact h.oU
 case swp=>rw[a,b];exact h.swp
 case ask=>
  rw[a,j]
  intro g r e
  have:=Vr hC o t e
  unfold aI
  rw[aCw this]
  exact h.ask g r e
 case log=>
  rw[<-q] at f
  have:=O9 h.log f
  grind
theorem RX.Da (hC:C.Ok) (o:cS C N M) (h:RX C A0 M V) {i:Nat} {v code:Int} {b:Bool} {M1:bY} (t:M.bC.calls i=false)
  (e:M1.aB=M.aB) (e2:M1.log=M.log) (f:M1.bC=M.bC) (g:M1.home=M.home) (j:M1.dN=M.dN) (k:M1.jS=M.jS) (q:iU C M.home M1.dB V' (mS C M.jS))
  (a:(nS C M V).step i b=({nS C M V with aB:=aI M.aB i (aJ.aY (M.aB i) i v code).1,mem:=V'},(aJ.aY (M.aB i) i v code).2.1,0)/\(aJ.aY (M.aB i) i v code).2.2=0/\pR (aJ.aY (M.aB i) i v code).2.1=b):RX C A0 (M1.aY i v code).1 V':=by
 obtain⟨a,d,p⟩:=a
 unfold bY.aY
 dsimp only
 rw[e,aCw (by rw[d];simp)]
 exact h.turns (s:=(aJ.aY (M.aB i) i v code).1) (v:=(aJ.aY (M.aB i) i v code).2.1) hC o t (by grind) (by grind) f g j k q (pL d) (by rw[p];exact a)
theorem Yz {l:List (Int×Int)} {g o:Int} (h:rU l g=some o):(g,o)∈l:=by
 unfold rU at h;cases hf:l.find? (fun x=>decide (x.1=g)) with
 |none=>rw[hf] at h;cases h
 |some x=>
  grind
theorem Gw {es:List dT} {g:Nat} (a:g<es.length):(es.map dT.owner).getD g 0=(es.getD g gA).owner:=by
 grind
theorem RX.aAy (h:RX C A0 M V) {out:List aH} {X:Nat->eM} {M1:bY} (d:(mS C M1.jS).Perm (out++mS C M.jS)) (k:∀x∈out,¬KK x.kind)
  (e:M1.aB=M.aB) (e2:M1.log=M.log) (a:M1.bC=M.bC) (b:M1.home=M.home) (f:M1.dN=M.dN) (g:M1.dB=X) (j:iU C M.home X V (out++mS C M.jS)):RX C A0 M1 V:=by
 constructor
 case Hn=>rw[b,g];exact j.perm d.symm
 case oU=>rw[a,f];exact(h.oU.more k).perm d.symm
 case swp=>rw[a,b];exact h.swp
 case ask=>rw[a,e];exact h.ask
 case log=>rw[e2,h.log];grind
theorem ub (e:cS C N M) (h:RX C A0 M V) {i:Nat} (f:(i:Int)<C.aD) {w o:Int} (j:0<=w/\w<C.lines*2) (_k:C.lines=(C.aG*2).toNat) (g:rU (M.dN i).known (w/2/2)=some o) {world:Int}:
  (nS C M V).may world w=Hh world o:=by
 have b:=h.oU.known i f _ (Yz g)
 unfold AM.may
 rw[aCx j]
 have a:=e.bC.len
 show Hh world ((M.bC.bX.map dT.owner).getD (w.toNat/4) 0)=_
 have d:o=(M.bC.kP (w/2/2)).owner:=b.2.1
 rw[Gw (by omega),d]
 unfold Mon.kP
 congr 4
 omega
theorem fy {n:Nat} {S:Nat->List Th} {l a:Int} {w:Bool} (h:Ct.nD n S l a w=true):(aQ n S l).2=0:=by
 unfold Ct.nD at h;grind
theorem Og {S:Nat->List Th} {l a b:Int} {w:Bool} (f:0<=l/\l<C.lines) (e:a=0\/a=1) (d:Ct.nD C.aF.toNat S l b w=true):rX C S l a b w=0:=by
 unfold rX;rw[aCw (by unfold sQ;simp;omega),aaa,aaa,aCw (by rw[d];simp)]
theorem RX.sX (hC:C.Ok) (D:cS C N M) (h:RX C A0 M V) {i:Nat} {a:Acc} {o:Int} (q:(i:Int)<C.aD) (I:M.bC.calls i=false) (E:aJ.sO (M.aB i)=some a)
  (J:0<=a.word/\a.word<C.lines*2) (F:(nS C M V).may (M.aB i).world a.word=true) (f:Ct.nD C.aF.toNat (M.dB i).S (a.word/2) o a.write=true):
  ∃V',RX C A0 (M.sX C i (a.word/2) (a.word % 2) o a).1 V':=by
 have d:i<4:=by have:=hC.1;omega
 obtain⟨k,y⟩:=Int.eq_ofNat_of_zero_le (show 0<=a.word/2 by omega)
 have t:k<C.lines:=by omega
 have j:a.word % 2=0\/a.word % 2=1:=by omega
 have g:=fy f
 rw[y] at g f
 have z:=h.Hn.value d t g
 have B:a.word.toNat/2=k:=by omega
 have em:a.word.toNat % 2=0↔a.word % 2=0:=by omega
 have G:=Xr (A:=nS C M V) (i:=i) (a:=a) (b:=false) (v:=if a.read then Dn C (M.dB i) k (a.word % 2) else 0) q E F (by
  unfold Dn aA5 kM;grind)
 have p:iU C M.home (aI M.dB i (if a.read then pH C (M.dB i) k (a.word % 2) o else M.dB i)) V (mS C M.jS):=by
  split;exact h.Hn.reads d q;rw[qP];exact h.Hn
 unfold bY.sX
 rw[y]
 dsimp only
 refine⟨if a.write then oC V a.word.toNat a.value else V,?_⟩
 refine h.Da hC D (b:=false) (M1:=M.Hj i _) I rfl rfl rfl rfl rfl rfl ?_ G
 show iU C M.home (aI M.dB i _) _ _
 cases hwr:a.write with
 |false=>simp only[Bool.false_eq_true,if_false];exact p
 |true=>
  simp only[if_true]
  rw[hwr] at f
  have u:=ch f
  have w:rX C (aI M.dB i (if a.read then pH C (M.dB i) k (a.word % 2) o else M.dB i) i).S k (a.word % 2) o true=0:=by
   rw[Ab.dJ];refine Og (by omega) j ?_;split;unfold pH;rw[aCx (Og (by omega) j u)];dsimp only;unfold Ct.nD at f ⊢;rw[D4 (h.Hn.oQ i d).aF g];exact f;exact f
  have:=p.writes (v:=a.value) d q w
  rw[Ab.dJ,Es] at this
  have L:aI V k (c9 (V k) (a.word % 2) a.value)=oC V a.word.toNat a.value:=by
   unfold oC c9;rw[B];congr 1;by_cases e:a.word % 2=0;rw[aCx e,aCx (em.2 e)];grind
  grind
theorem RX.access (hC:C.Ok) (p:cS C N M) (h:RX C A0 M V) {i:Nat} {a:Acc} (g:(i:Int)<C.aD) (B:M.bC.calls i=false) (t:aJ.sO (M.aB i)=some a):
  ∃V',RX C A0 (M.access C i a).1 V':=by
 have v:i<4:=by have:=hC.1;omega
 have I:C.lines=(C.aG*2).toNat:=by unfold bA.lines;omega
 unfold bY.access
 by_cases d:0<=a.word/\a.word<C.lines*2
 rotate_left
 .rw[aCx d];exact⟨V,h.Da hC p B rfl rfl rfl rfl rfl rfl h.Hn (Mp (A:=nS C M V) (b:=false) g t (by unfold AM.may;exact aCw d))⟩
 rw[aCw (fun e=>e d)]
 dsimp only
 by_cases j:((M.dN i).ask C (M.aB i).world (a.word/2/2)).2≠0
 .grind
 rw[aCw j]
 have j:((M.dN i).ask C (M.aB i).world (a.word/2/2)).2=0:=Decidable.not_not.1 j
 unfold iR.ask at j ⊢
 split at j
 rotate_left
 .cases j
 rename_i u
 rw[aCx u]
 cases hkn:rU (M.dN i).known (a.word/2/2) with
 |none=>
  dsimp only
  rw[aCx rfl]
  unfold bY.walk
  dsimp only
  by_cases k:((M.dN i).begin C (a.word/2/2)).2.2≠0
  .grind
  rw[aCw k]
  have k:((M.dN i).begin C (a.word/2/2)).2.2=0:=Decidable.not_not.1 k
  split
  .exact⟨V,h⟩
  .rename_i q;have E:=(qF (Decidable.not_not.1 q)).1;refine⟨V,?_,?_,h.swp,h.ask,h.log⟩
   .exact(h.Hn.more (N':=[_]) (fun x L=>by rw[List.mem_singleton.1 L];show ¬PK 6;decide)).perm E.symm
   .exact(h.oU.walk g k).perm E.symm
 |some o=>
  dsimp only
  have D:=ub (world:=(M.aB i).world) p h g d I hkn
  have z:M.known i (a.word/2/2)=o:=by unfold bY.known;rw[hkn];rfl
  by_cases f:Hh (M.aB i).world o=true
  rotate_left
  .have e:(if Hh (M.aB i).world o=true then((1:Int),(0:Int)) else(2,0))=(2,0):=aCw f;simp only[e];rw[aCw (by decide),aCx trivial];have f:Hh (M.aB i).world o=false:=by simpa using f
   exact⟨V,h.Da hC p B rfl rfl rfl rfl rfl rfl h.Hn (Mp (A:=nS C M V) (b:=false) g t (by grind))⟩
  .have e:(if Hh (M.aB i).world o=true then((1:Int),(0:Int)) else(2,0))=(1,0):=aCx f;simp only[e];rw[aCw (by decide),aCw (by decide),z];split
   .unfold bY.want;dsimp only;obtain⟨O,out,e,G,F,_⟩:=h.Hn.yd hC v g (l:=a.word/2) (w:=(M.aB i).world) (wr:=a.write);have y:=iq (C:=C) (core:=(i:Int)) (s:=M.dB i) (l:=a.word/2) (w:=(M.aB i).world) (wr:=a.write);rw[G] at y ⊢;dsimp only at y ⊢;split
    .exact⟨V,h⟩
    .split
     .exact⟨V,h⟩
     .rename_i q;exact⟨V,h.aAy (qF (Decidable.not_not.1 q)).1 y rfl rfl rfl rfl rfl rfl F⟩
   .rename_i J;refine h.sX hC p g B t d (by grind) ?_;grind
end
section
variable {C:bA} {N:Nat} {M M':bY} {V V':Nat->Ln} {A0:AM}
theorem uc (a:cS C N M) {g:Nat} (h:M.bC.phase g=0):M.bC.runs g=none:=by
 unfold Mon.phase Mon.run at h;rw[aac,Int.toNat_natCast] at h;cases hr:M.bC.runs g with
 |none=>rfl
 |some r=>rw[hr] at h;have:=(a.bC.run g r hr).2.2.1;dsimp only at h;omega
theorem Ol {es:List dT} {g:Nat} {b:Bool}:(es.set g ⟨(es.getD g gA).owner,b⟩).map dT.owner=es.map dT.owner:=by
 apply List.ext_getElem?;intro k;rw[List.getElem?_map,List.getElem?_map,List.getElem?_set];by_cases e:g=k;subst e;rw[aCx rfl];by_cases h:g<es.length;rw[aCx h,List.getD_eq_getElem?_getD,List.getElem?_eq_getElem h];rfl;rw[aCw h,List.getElem?_eq_none (by omega)];rw[aCw e]
theorem RX.call (hC:C.Ok) (v:cS C N M) (h:RX C A0 M V) {i:Nat} {a:Mc.Ask} (T:(i:Int)<C.aD) (J:M.bC.calls i=false) (w:aJ.C2 (M.aB i) i=some a):RX C A0 (M.call C i a).1 V:=by
 have y:a.core=i:=by obtain⟨x,_,_,rfl⟩:=jk w;rfl
 have I:=v.bC.len;have R:=hC.2.1;unfold bY.call;dsimp only;have fail:∀e:Int,(nS C M V).call a.call a.world a.bL a.to (decide (e=17))=(nS C M V,e)->RX C A0 (M.aY i 0 e).1 V:=fun e P=>
  h.Da hC v J rfl rfl rfl rfl rfl rfl h.Hn (Ua (A:=nS C M V) T w P)
 have j:(nS C M V).dU.length=M.bC.bX.length:=by grind
 have F:¬¬(0<=a.core/\a.core<C.aD):=by omega
 by_cases k:M.bC.has a.bL;rotate_left;have b:M.bC.call C.aD a=(M.bC,false,10):=by unfold Mon.call;rw[aCw F,aCx k]
 rw[b];dsimp only;rw[aCx (by decide)];refine fail 10 ?_;unfold AM.call;rw[aCx (by rw[j];exact k)];have t:¬¬M.bC.has a.bL:=fun e=>e k;have q:0<=a.bL/\a.bL<M.bC.bX.length:=k;obtain⟨g,p⟩:=Int.eq_ofNat_of_zero_le q.1;by_cases L:M.bC.phase a.bL≠0;have b:M.bC.call C.aD a=(M.bC,false,17):=by unfold Mon.call;rw[aCw F,aCw t,aCx L]
 rw[b];dsimp only;rw[aCx (by decide)];refine fail 17 ?_;unfold AM.call;grind;have Q:¬M.bC.calls a.core=true:=by rw[y,J];simp
 have u:M.bC.phase g=0:=by grind
 have E:=uc v u;have G:(nS C M V).dU.getD a.bL.toNat 0=(M.bC.kP a.bL).owner:=by
  show(M.bC.bX.map dT.owner).getD _ _=_;rw[Gw (by omega)];rfl
 by_cases o:(hQ a.call a.world (M.bC.kP a.bL).owner a.to).2.2≠0;have b:M.bC.call C.aD a=(M.bC,false,(hQ a.call a.world (M.bC.kP a.bL).owner a.to).2.2):=by unfold Mon.call;grind
 rw[b];dsimp only;rw[aCx o];refine fail _ ?_;unfold AM.call;grind;have b:M.bC.call C.aD a=((M.bC.mZ a.bL.toNat ⟨(M.bC.kP a.bL).owner,true⟩).dE a.bL.toNat (some (a.run C.aD (hQ a.call a.world (M.bC.kP a.bL).owner a.to))),true,0):=by
  unfold Mon.call;grind
 rw[b];dsimp only;rw[aCw (by simp)];have o:(hQ a.call a.world (M.bC.kP a.bL).owner a.to).2.2=0:=Decidable.not_not.1 o;split;exact h;rename_i O;have D:=(qF (Decidable.not_not.1 O)).1;have B:(g:Int)<C.aG:=by omega
 rw[p] at D ⊢;rw[Int.toNat_natCast];constructor;exact(h.Hn.more (fun x U=>by rw[(vV U).1];decide)).perm D.symm;exact(h.oU.calls hC (by omega) B E).perm D.symm;intro d r b f;have b:aI M.bC.runs g _ d=some r:=b;unfold aI at b;by_cases e:d=g;rw[aCx e] at b;cases b;exact absurd (show(1:Int)=2 from f) (by decide);rw[aCw e] at b;exact h.swp d r b f;intro d r b;have b:aI M.bC.runs g _ d=some r:=b;unfold aI at b;show aJ.C2 (M.aB r.core.toNat) r.core.toNat=_/\hQ r.call r.world ((M.bC.mZ g ⟨(M.bC.kP g).owner,true⟩).kP d).owner r.to=_;rw[Dh (by omega) (by omega)];by_cases e:d=g;rw[aCx e] at b;cases b;rw[aac,e];have z:(a.run C.aD (hQ a.call a.world (M.bC.kP g).owner a.to)).core.toNat=i:=by show a.core.toNat=i;omega
 rw[z];refine⟨?_,?_⟩;rw[w];obtain⟨W,c2,c3,Y,c5⟩:=a;dsimp only at p;rw[p];rfl;rw[<-p];exact Prod.ext rfl (Prod.ext rfl o);rw[aCw e] at b;rw[aaa];exact h.ask d r b;show oD A0 M.log 0=(⟨C,M.aB,(M.bC.bX.set g ⟨(M.bC.kP g).owner,true⟩).map dT.owner,V⟩,_,_);have:(M.bC.bX.set g ⟨(M.bC.kP g).owner,true⟩).map dT.owner=M.bC.bX.map dT.owner:=by
  unfold Mon.kP;rw[Int.toNat_natCast];exact Ol
 rw[this];exact h.log
theorem RX.step (hC:C.Ok) (j:cS C N M) (h:RX C A0 M V) {a:Int}:∃V',RX C A0 (M.step C a).1 V':=by
 unfold bY.step;by_cases g:0<=a/\a<C.aD;rotate_left;grind;rw[aCw (fun e=>e g)];dsimp only;obtain⟨i,q⟩:=Int.eq_ofNat_of_zero_le g.1;subst q;rw[Int.toNat_natCast];split;exact⟨V,h⟩;split;exact⟨V,h⟩;rename_i f;have f:M.bC.calls (i:Int)=false:=by unfold bY.waits at f;simpa using f
 split;rename_i r k;obtain⟨o,p⟩:=Z2 (A:=nS C M V) (b:=false) g.2 k;exact⟨V,h.turns hC j f (s:=r.1) (v:=r.2) rfl rfl rfl rfl rfl rfl h.Hn (Fu k) (by rw[p];exact o)⟩;split;rename_i a d;exact⟨V,h.call hC j g.2 f d⟩;split;rename_i a d;exact h.access hC j g.2 f d;exact⟨V,h⟩
theorem qT {g:Nat} (a:(g:Int)<C.aG):g*2<C.lines/\g*2+1<C.lines:=by unfold bA.lines;omega
theorem RX.Sn (D:cS C N M) (h:RX C A0 M V) {a:Int}:RX C A0 (M.begin C a).1 V:=by
 unfold bY.begin;dsimp only;obtain⟨t,out,e,v,E,_,hH⟩:=h.Hn.Sn (l:=a) (j:=M.H8 C a);have f:=G6 (C:=C) (H:=M.home) (l:=a) (j:=M.H8 C a);have d:(kK C M.home a (M.H8 C a)).1=t:=by rw[v]
 rw[v] at f ⊢;dsimp only at f ⊢;split;exact h;split;exact h;rename_i B;have y:=(qF (Decidable.not_not.1 B)).1;refine⟨E.perm y.symm,(h.oU.more f).perm y.symm,fun g r q p=>?_,h.ask,h.log⟩;have hold:=h.swp g r q p;have b:=(D.bC.run g r q).1;have I:=(h.oU.lock g b).2 (by rw[q];rfl);have J:∀k:Nat,k<C.lines->k/2=g->Dz (M.home k).1->Dz (t k).1:=fun k o G z=>by
  by_cases e:(k:Int)=a;subst e;have F:∀x,(M.H8 C k x).2=false:=fun x=>by
   unfold bY.H8;grind
  rw[<-d];unfold kK;rw[aCx (by unfold bA.has;omega),Int.toNat_natCast];show Dz (aI M.home k _ k).1;rw[Ab.dJ];unfold kJ.begin;by_cases u:(M.home k).1.busy=true;grind;rw[aCw u];cases hwt:(M.home k).1.waits with
  |nil=>exact z
  |cons n w=>exact z.begun (by simpa using u) hwt (h.Hn.line k o) F
  grind
 have L:=qT b;grind
theorem fc {n:aH} (h:Nt.oU C n=0) (b:n.kind=7\/n.kind=13):0<=n.no/\n.no<C.aG:=by
 unfold Nt.oU at h;split at h;split at h;split at h;rename_i f;have a:=f.1;have:Ya n.kind.toNat=[1,13]:=by rcases b with e|e<;>rw[e]<;>rfl
 rw[this] at a;unfold E7 at a;split at a;unfold E7 at a;split at a;rename_i d;exact d;cases a;cases a;cases h;cases h;cases h
theorem RX.hU (hC:C.Ok) (v:cS C N M) {n:aH} {L:List aH} (hp:(mS C M.jS).Perm (n::L)) (hn:Nt.oU C n=0) (h:RX C A0 M V) (o:(M.hU C n).2.2=0):
  ∀F:gJ,(mS C F).Perm ((M.hU C n).2.1++L)->RX C A0 ((M.hU C n).1.gZ F) V:=by
 intro F hF
 have p:=h.Hn.perm hp
 have f:=h.oU.perm hp
 obtain⟨ε,U⟩:=zX hn
 obtain⟨i,R⟩:=Int.eq_ofNat_of_zero_le U.1
 have E:n.core.toNat=i:=by omega
 have t:(i:Int)<C.aD:=by omega
 have γ:=v.bC.len
 have δ:=hC.2.1
 unfold bY.hU at o hF ⊢
 by_cases k1:n.kind=1\/n.kind=2\/n.kind=3\/n.kind=4\/n.kind=5
 .rw[aCx k1] at o hF ⊢;dsimp only at o hF ⊢;obtain⟨H',out,Q,T,_,hH⟩:=p.homes hC (by omega);have y:=Ia (C:=C) (H:=M.home) (n:=n);rw[Q] at hF y;dsimp only at hF y;have D:(jX C M.home n).1=H':=by rw[Q]
  rw[D]
  refine⟨T.perm hF.symm,((f.skip (by unfold KK;omega)).more y).perm hF.symm,fun g r J q=>?_,h.ask,h.log⟩
  have hold:=h.swp g r J q
  have hl:=qT (v.bC.run g r J).1
  have θ:∀k:Nat,k<C.lines->Dz (M.home k).1->Dz (H' k).1:=fun k Z hs=>by
   by_cases e:(k:Int)=n.line;rw[<-D];have I:=p.nb n List.mem_cons_self (by unfold PK;omega);unfold jX;rw[aCw (by unfold Hm.hU;omega),aCx ⟨I.1,by unfold bA.has;exact I.2⟩];show Dz (aI M.home n.line.toNat _ k).1;rw[show n.line.toNat=k by omega,Ab.dJ,<-e];have v:=p.line k Z;rw[G5 e.symm (by unfold PK;omega)] at v;exact hs.take v (by omega);grind
  grind
 rw[aCw k1] at o hF ⊢
 by_cases k2:n.kind=8\/n.kind=9\/n.kind=10\/n.kind=11
 .rw[aCx k2] at o hF ⊢;dsimp only at o hF ⊢;obtain⟨s',out,Q,T,_⟩:=p.cache hC (by omega);have y:=Td (C:=C) (core:=n.core) (s:=M.dB n.core.toNat) (n:=n);rw[Q] at hF y ⊢;dsimp only at hF y ⊢;exact⟨T.perm hF.symm,((f.skip (by unfold KK;omega)).more y).perm hF.symm,h.swp,h.ask,h.log⟩
 rw[aCw k2] at o hF ⊢
 have β:¬PK n.kind:=by unfold PK;omega
 have b:=p.skip β
 by_cases k6:n.kind=6
 .rw[aCx k6] at o hF ⊢;dsimp only at o hF ⊢;exact⟨(b.more (N':=[_]) (fun x z=>by rw[List.mem_singleton.1 z];show ¬PK 12;decide)).perm hF.symm,(f.asked (by omega) (by omega) v.bC.own t R k6).2.perm hF.symm,h.swp,h.ask,h.log⟩
 rw[aCw k6] at o hF ⊢
 by_cases B:n.kind=12
 .rw[aCx B] at o hF ⊢;dsimp only at o hF ⊢;rw[E] at hF ⊢;refine⟨(b.more (fun x z=>?_)).perm hF.symm,(f.walked t R B (by omega)).2.perm hF.symm,h.swp,h.ask,h.log⟩;split at z
  .cases z
  .rw[List.mem_singleton.1 z];show ¬PK 6;decide
 rw[aCw B] at o hF ⊢
 by_cases u:n.kind=13
 .rw[aCx u] at o hF ⊢;dsimp only at o hF ⊢;rw[E];exact⟨(b.more (N':=[_]) (fun x z=>by rw[List.mem_singleton.1 z];show ¬PK 7;decide)).perm hF.symm,(f.dropped t R u (fc hn (.inr u))).2.perm hF.symm,h.swp,h.ask,h.log⟩
 rw[aCw u] at o hF ⊢
 by_cases k7:n.kind=7
 rotate_left
 .grind
 rw[aCx k7] at o hF ⊢
 dsimp only at o hF ⊢
 have α:=fc hn (.inl k7)
 obtain⟨g,hg⟩:=Int.eq_ofNat_of_zero_le α.1
 obtain⟨r,J,ζ,η,W,G⟩:=f.heard (g:=g) hC v.bC t R k7 hg
 rw[W]
 rw[List.nil_append] at hF
 dsimp only
 have Y:=(v.bC.run g r J).1
 have hl:=qT Y
 have w:∀j d,(M.bC.dE g (some (r.heard i).mC)).runs j=some d->aJ.C2 (M.aB d.core.toNat) d.core.toNat=some ⟨d.core,d.world,d.call,j,d.to⟩/\hQ d.call d.world (M.bC.kP j).owner d.to=(d.then',d.jY,0):=fun j d a=>by
  have a:aI M.bC.runs g _ j=some d:=a;unfold aI at a;by_cases e:j=g;subst e;rw[aCx rfl] at a;cases a;exact h.ask j r J;rw[aCw e] at a;exact h.ask j d a
 by_cases ha:(r.heard i).none=true
 .rw[ha,aCx rfl];refine⟨?_,G.perm hF.symm,fun j d a q=>?_,w,h.log⟩
  .exact(b.Gt.Gt).perm hF.symm
  .have a:aI M.bC.runs g _ j=some d:=a;unfold aI at a;have O:∀k:Nat,Fi C M.home n.no k=if k=g*2\/k=g*2+1 then kJ.r5 (M.home k) k else M.home k:=fun k=>by
    have e1:n.no*2=((g*2:Nat):Int):=by omega
    have P:n.no*2+1=((g*2+1:Nat):Int):=by omega
    unfold Fi nR;rw[P,e1,aCx (by unfold bA.has;omega),aCx (by unfold bA.has;omega),Int.toNat_natCast,Int.toNat_natCast];dsimp only;by_cases e:k=g*2;subst e;rw[Ab.bQ (by omega),Ab.dJ,aCx (.inl rfl)];by_cases P:k=g*2+1;subst P;rw[Ab.dJ,aCx (.inr rfl),Ab.bQ (by omega)];rw[Ab.bQ P,Ab.bQ e,aaa]
   show Dz (Fi C M.home n.no (j*2)).1/\Dz (Fi C M.home n.no (j*2+1)).1
   rw[O,O]
   by_cases e:j=g
   .subst e;rw[aCx (.inl rfl),aCx (.inr rfl)];exact⟨.inl zF,.inl zF⟩
   .rw[aCw e] at a;rw[aaa,aaa];exact h.swp j d a q
 .rw[aCw ha];refine⟨b.perm hF.symm,G.perm hF.symm,fun j d a q=>?_,w,h.log⟩;have a:aI M.bC.runs g _ j=some d:=a;unfold aI at a;by_cases e:j=g
  .rw[aCx e] at a;cases a;have:(if(r.heard i).none=true then(2:Int) else r.phase)=2:=q;grind
  .rw[aCw e] at a;exact h.swp j d a q
theorem RX.ba (hC:C.Ok) (e:cS C N M) (h:RX C A0 M V) {a b c:Int}:RX C A0 (M.vI C a b c).1 V:=by
 unfold bY.vI;dsimp only;split;exact h;rename_i d;have d:(M.jS.take C a b c).2.2=0:=Decidable.not_not.1 d;split;exact h;rename_i f;split;exact h;rename_i g;have j:=(qF (Decidable.not_not.1 g)).1;exact h.hU hC e (Wo d) (O7 e.jS d).1.oU (Decidable.not_not.1 f) _ j
end
end Go.Mc
