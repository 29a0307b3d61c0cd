/- A part of the proof. -/
import Derived.Test.YtajjljbmfdboaaaGreatDoorM15
import Derived.Test.YtajjljbmfdboaaaGreatDoorM12
namespace Go.Pc
open Go Go.Ab Go.Hm Go.Ct
section
variable {l:Nat} {r:Row} {m V:Ln} {c:xc} {N:List aJ} {n:aJ}
theorem fR (h:0<=n.core/\n.core<4):∃i:Nat,i<4/\n.core=(i:Int)/\n.core.toNat=i:=⟨n.core.toNat,by omega,by omega,rfl⟩
theorem Inv.aFp (h:Inv l r m V c (n::N)) (y:n.kind=1\/n.kind=2\/n.kind=3):Inv l (r.wait n) m V c N:=by
 have o:=h.nc n (by simp);have j:∀k i,eY k i l (r.wait n).waits=eY k i l r.waits+if n.kind=k/\n.core=(i:Int)/\n.line=(l:Int) then 1 else 0:=fun k i=>by
  show eY k i l (r.waits++[n])=_;rw[Ec,cR,gz];omega
 have d:∀i,HH l (r.wait n) c N i=HH l r c (n::N) i:=fun i=>by
  unfold HH pd;rw[j,cR];congr 1;omega
 have e:∀k i,(k=4\/k=5\/k=8\/k=9\/k=10\/k=11)->eY k i l (n::N)=eY k i l N:=fun k i q=>by
  rw[cR,aLa (by omega)];omega
 have em:∀x,x∈N->x∈n::N:=fun x a=>List.mem_cons_of_mem _ a;have f:∀x,x∈(r.wait n).waits↔x∈r.waits\/x=n:=fun x=>by
  show x∈r.waits++[n]↔_;simp
 have t:∀i,An (r.wait n) i=An r i:=fun _=>rfl;have u:∀i,wI (r.wait n) i=wI r i:=fun _=>rfl;constructor;exact Cs h.row o.1 o.2 (by omega);exact h.ks;exact h.kg;exact h.told;intro x a;exact h.nc x (em x a);exact h.ex;exact h.uR;intro i b;have:=h.t1 i b;rw[e 8 i (by omega),e 9 i (by omega),cR (k:=1),cR (k:=2)] at this;grind;intro i b;have:=h.t2 i b;rw[e 10 i (by omega),cR (k:=3)] at this;rw[j];omega;intro i b;have:=h.t3 i b;rw[e 11 i (by omega),e 5 i (by omega)] at this;exact this;intro i b;have:=h.t4 i b;grind;simp only[d];exact h.a1;simp only[d];exact h.a2;intro x a;refine h.rq x ?_;rw[f] at a;grind;exact h.rs;intro i b w p;rw[d];exact h.c1 i b (by grind) (by rw[e 8 i (by omega)];exact p);simp only[d];exact h.c2;simp only[d];exact fun i b g x a=>h.Bn i b g x (em x a);simp only[d];exact fun x a=>h.gN x (em x a);exact fun x a=>h.pN x (em x a);simp only[d];exact fun x a=>h.rN x (em x a);intro x a;refine h.uN x ?_;rw[f] at a;grind;simp only[d];exact h.c3;simp only[d];exact fun g v=>h.c5 g (fun x a=>by grind);exact h.k2
theorem Inv.um (h:Inv l r m V c (n::N)) (J:n.kind=4):r.granted=true/\r.served.core=n.core/\Inv l r.free m V c N:=by
 have y:=h.nc n (by simp);obtain⟨i0,v,u,I⟩:=fR y.2;have z:wI r i0=1:=by
  have:=h.t4 i0 v;rw[cR (k:=4),aLb ⟨J,u,y.1⟩] at this;have:wI r i0<=1:=by unfold wI;split<;>omega
  omega
 have o:r.granted=true/\r.served.core=n.core:=by unfold wI at z;split at z<;>grind
 refine⟨o.1,o.2,?_⟩;have A:=h.row.still (.inl o.1);have G:∀i,i<4->r.asked i=false:=fun i f=>by
  unfold Row.quiet at A;grind
 have d:∀k i,k≠4->eY k i l (n::N)=eY k i l N:=fun k i L=>by
  rw[cR,aLa (by omega)];omega
 have p:∀i,HH l r.free c N i=HH l r c (n::N) i:=fun i=>by
  unfold HH pd;rw[d 3 i (by omega)];rfl
 have em:∀x,x∈N->x∈n::N:=fun x a=>List.mem_cons_of_mem _ a;have B:∀x∈N,x.kind≠5/\x.kind≠11:=fun x a=>by
  have b:=h.nc x (em x a);obtain⟨j,w,g,_⟩:=fR b.2;have t:=h.t3 j w;rw[G j w,d 11 j (by omega),d 5 j (by omega)] at t;refine⟨fun e=>?_,fun e=>?_⟩;have:=fS a e g b.1;simp at t;omega;have:=fS a e g b.1;simp at t;omega
 have D:∀i,i<4->eY 8 i l N=0/\eY 4 i l N=0:=fun i f=>by
  have:=h.t4 i f;rw[d 8 i (by omega),cR (k:=4)] at this;unfold wI at this;grind
 have E:∀x∈N,x.kind≠8:=fun x a e=>by
  have b:=h.nc x (em x a);obtain⟨j,w,g,_⟩:=fR b.2;have:=fS a e g b.1;grind
 constructor;exact Ca h.row A;intro e;cases e;intro e;cases e;intro e;cases e;intro x a;exact h.nc x (em x a);exact h.ex;exact h.uR;intro i f;have:=h.t1 i f;rw[d 1 i (by omega),d 2 i (by omega),d 8 i (by omega),d 9 i (by omega)] at this;have F:An r i=0:=by unfold An;rw[aLa (by rw[o.1];simp)]
 have q:An r.free i=0:=by unfold An Row.free;simp
 rw[F] at this;rw[q];exact this;intro i f;have:=h.t2 i f;rw[d 3 i (by omega),d 10 i (by omega)] at this;exact this;intro i f;have:=h.t3 i f;rw[d 11 i (by omega),d 5 i (by omega)] at this;exact this;intro i f;have:=D i f;unfold wI Row.free;simp;omega;simp only[p];exact h.a1;simp only[p];exact h.a2;intro x a;exact h.rq x (a.imp (em x) id);intro e;cases e;intro i f O P;rw[p];exact h.c1 i f (by grind) (by grind);simp only[p];exact h.c2;grind;grind;grind;exact fun x a e=>absurd e (B x a).1;intro x a;exact h.uN x (a.imp (em x) id);simp only[p];exact h.c3;simp only[p];exact fun q M=>h.c5 q (fun x a=>by grind);intro e;cases e
theorem Inv.aK9 {i:Nat} (h:Inv l r m V c (n::N)) (J:n.kind=9) (y:i<4) (w:n.core=(i:Int)):(c i).oM=true/\Inv l r m V (aR c i {c i with oM:=false,aw:=false}) N:=by
 have I:=h.nc n (by simp);have has:(c i).oM=true:=by
  have:=h.t1 i y;rw[cR (k:=9),aLb ⟨J,w,I.1⟩] at this;cases B:(c i).oM with
  |true=>rfl
  |false=>grind
 refine⟨has,?_⟩;have em:∀x,x∈N->x∈n::N:=fun x a=>List.mem_cons_of_mem _ a;have q:∀k j,k≠9->eY k j l (n::N)=eY k j l N:=fun k j M=>by
  rw[cR,aLa (by omega)];omega
 have O:eY 1 i l N=0/\eY 2 i l N=0/\eY 1 i l r.waits=0/\eY 2 i l r.waits=0/\An r i=0/\eY 8 i l N=0/\eY 9 i l N=0:=by
  have:=h.t1 i y;rw[q 1 i (by omega),q 2 i (by omega),q 8 i (by omega),cR (k:=9),aLb ⟨J,w,I.1⟩,has] at this;grind
 have o:∀j,HH l r (aR c i {c i with oM:=false,aw:=false}) N j=HH l r c (n::N) j:=fun j=>by
  unfold HH pd;rw[q 3 j (by omega)];unfold aR;split;rename_i e;subst e;rfl;rfl
 have t:∀j,(aR c i {c i with oM:=false,aw:=false}) j=if j=i then {c i with oM:=false,aw:=false} else c j:=fun j=>rfl
 have L:∀j,tJ ((aR c i {c i with oM:=false,aw:=false}) j)=tJ (c j):=fun j=>by rw[t];split<;>simp_all [tJ]
 have f:∀j,((aR c i {c i with oM:=false,aw:=false}) j).gd=(c j).gd/\((aR c i {c i with oM:=false,aw:=false}) j).gs=(c j).gs/\((aR c i {c i with oM:=false,aw:=false}) j).gi=(c j).gi/\((aR c i {c i with oM:=false,aw:=false}) j).st=(c j).st:=fun j=>by grind
 have z:∀x,x∈N\/x∈r.waits->x.kind=1\/x.kind=2\/x.kind=8->x.core.toNat≠i:=by
  intro x a A e;have v:x.line=l/\0<=x.core/\x.core<4:=by
   rcases a with a|a;exact h.nc x (em x a);have:=h.row.waits x a;grind
  have u:x.core=(i:Int):=by omega
  rcases a with a|a;rcases A with p|p|p<;>(have:=fS a p u v.1;omega);have U:=(h.row.waits x a).2.2;rcases A with p|p|p;have:=fS a p u v.1;omega;have:=fS a p u v.1;omega;omega
 constructor;exact h.row;exact h.ks;exact h.kg;exact h.told;intro x a;exact h.nc x (em x a);intro j d a;rw[(f j).2.2.1];rw[(f j).2.2.2,t] at a;refine h.ex j d ?_;grind;intro j d;rw[(f j).2.2.2,(f j).2.1];exact h.uR j d;intro j d;have:=h.t1 j d;rw[q 1 j (by omega),q 2 j (by omega),q 8 j (by omega),cR (k:=9)] at this;grind;intro j d;have:=h.t2 j d;grind;intro j d;have:=h.t3 j d;grind;intro j d;have:=h.t4 j d;grind;intro j d B;rw[o];refine h.a1 j d ?_;rw[t] at B;grind;intro j d B v;rw[o];rw[t] at B v;refine h.a2 j d ?_ ?_<;>grind;intro x a E;rw[t,aLa (z x a (by omega))];exact h.rq x (a.imp (em x) id) E;intro b g P;have:=O.2.2.2.2.1;unfold An at this;rw[t,aLa (fun e=>by have:=h.row.core;grind)];exact h.rs b g P;intro j d R T;rw[o];exact h.c1 j d (by grind) (by grind);simp only[o];exact h.c2;simp only[o];exact fun j d D x a=>h.Bn j d D x (em x a);intro x a G;simp only[o];rw[t,aLa (z x (.inl a) (by omega))];exact h.gN x (em x a) G;exact fun x a=>h.pN x (em x a);simp only[o];exact fun x a=>h.rN x (em x a);intro x a F;rw[(f _).1,(f _).2.1];exact h.uN x (a.imp (em x) id) F;intro j d;rw[o,L];exact h.c3 j d;simp only[o];exact fun D Q=>h.c5 D (fun x a=>by grind);exact h.k2
end
section
variable {l:Nat} {r:Row} {m V:Ln} {c:xc} {N:List aJ} {n:aJ}
theorem fG {α:Type} {f:Nat->α} {i:Nat} {x:α}:aR f i x i=x:=by unfold aR;rw[aLb rfl]
theorem cH {α:Type} {f:Nat->α} {i j:Nat} {x:α} (h:j≠i):aR f i x j=f j:=by unfold aR;rw[aLa h]
theorem Inv.aDy {i:Nat} (h:Inv l r m V c (n::N)) (E:n.kind=10) (b:i<4) (t:n.core=(i:Int)) {gd':Ln} {gs':Int} (D:gs'=0):(c i).gi=true/\Inv l r m V (aR c i {c i with gi:=false,gs:=gs',gd:=gd'}) N:=by
 have B:=h.nc n (by simp);have o:∀k j,eY k j l (n::N)=eY k j l N+if k=10/\j=i then 1 else 0:=fun k j=>by
  rw[cR];grind
 have f:(c i).gi=true:=by have:=h.t2 i b;grind
 refine⟨f,?_⟩;have g:eY 3 i l N=0/\eY 3 i l r.waits=0:=by have:=h.t2 i b;grind
 have em:∀x,x∈N->x∈n::N:=fun x a=>List.mem_cons_of_mem _ a;have v:=h.ex i b;have d:∀j,HH l r (aR c i {c i with gi:=false,gs:=gs',gd:=gd'}) N j=HH l r c (n::N) j:=fun j=>by
  unfold HH pd;rw[o 3 j,aLa (by omega)];by_cases e:j=i;subst e;rw[fG,g.1,g.2];simp[uK];rw[cH e];rfl
 have y:∀j,HH l r c (n::N) j≠0->tJ ((aR c i {c i with gi:=false,gs:=gs',gd:=gd'}) j)=tJ (c j):=fun j u=>by
  by_cases e:j=i;subst e;rw[fG];unfold tJ;simp only;split<;>try rfl
  rename_i p;exfalso;apply u;rw[<-d,HH,fG];simp[uK,p];rw[cH e]
 have A:∀x,x∈N\/x∈r.waits->x.kind=3->x.core.toNat≠i:=fun x a k e=>by
  rcases a with a|a;have:=h.nc x (em x a);have:=fS a k (i:=i) (by omega) this.1;omega;have:=h.row.waits x a;have:=fS a k (i:=i) (by omega) this.1;omega
 constructor;exact h.row;exact h.ks;exact h.kg;exact h.told;grind [h.nc];have:=h.ex;grind [aR];have:=h.uR;grind [aR];have:=h.t1;grind [aR];have:=h.t2;grind [aR];have:=h.t3;grind [aR];have:=h.t4;grind [aR];have:=h.a1;grind [aR];have:=h.a2;grind [aR];have:=h.rq;grind [aR];have:=h.rs;grind [aR];have:=h.c1;grind [aR];have:=h.c2;grind [aR];have:=h.Bn;grind [aR];intro x a w;simp only[d];have:=h.gN x (em x a) w;grind [aR];have:=h.pN;grind [aR];have:=h.rN;grind [aR];have:=h.uN;grind [aR];have:=h.c3;grind;simp only[d];exact fun q z=>h.c5 q (by grind);have:=h.k2;grind [aR]
theorem gE (h:r.quiet=true) {i:Nat} (a:i<4):r.asked i=false:=by
 unfold Row.quiet at h;grind
theorem Inv.bd (h:Inv l r m V c N) {x:aJ} (a:x∈N\/x∈r.waits):x.line=l/\0<=x.core/\x.core<4:=by
 rcases a with a|a;exact h.nc x a;have:=h.row.waits x a;grind
theorem Inv.none (h:Inv l r m V c N) {k:Int} {i:Nat} (d:eY k i l N=0) {x:aJ} (a:x∈N) (b:x.kind=k):x.core≠(i:Int):=fun e=>by
 have:=fS a b e (h.nc x a).1;omega
theorem Inv.calm (h:Inv l r m V c N) (i:r.quiet=true) {x:aJ} (f:x∈N):x.kind≠5/\x.kind≠11:=by
 have d:=h.nc x f;obtain⟨j,g,a,_⟩:=fR d.2;have b:=h.t3 j g;rw[gE i g] at b;refine⟨fun e=>?_,fun e=>?_⟩;have:=fS f e a d.1;simp at b;omega;have:=fS f e a d.1;simp at b;omega
theorem Inv.no8 (h:Inv l r m V c N) {i:Nat} (a:i<4) (e:wI r i=0) {x:aJ} (d:x∈N) (b:x.kind=8):x.core≠(i:Int):=
 h.none (by have:=h.t4 i a;omega) d b
theorem Inv.own (h:Inv l r m V c N) {i:Nat} (g:i<4) (f:2<=HH l r c N i):r.owner=(i:Int):=by
 by_cases b:eY 5 i l N=0;by_cases d:eY 8 i l N=0;exact((h.c1 i g b d).2).1 f;obtain⟨x,a,k,e,_⟩:=Jc (Nat.pos_of_ne_zero d);have:=h.gN x a k;grind;obtain⟨x,a,k,e,_⟩:=Jc (Nat.pos_of_ne_zero b);have:=h.rN x a k;grind
def zJ (i:Int) (l:Nat):aJ:=⟨4,i,l,0,0,0,0,false,0⟩
theorem Inv.granted {i:Nat} (h:Inv l r m V c (n::N)) (I:n.kind=8) (b:i<4) (B:n.core=(i:Int)) {d':Ln} (P:d'=if(c i).st≠0 then(c i).d else(n.d0,n.d1)):
  ((c i).oM=true/\(c i).gi=false/\(n.state=1\/n.state=2\/n.state=4))/\Inv l r m V (aR c i {c i with st:=n.state,d:=d',oM:=false,aw:=false}) (zJ i l::N):=by
 have O:=h.nc n (by simp)
 have o:∀k j,eY k j l (n::N)=eY k j l N+if k=8/\j=i then 1 else 0:=fun k j=>by
  rw[cR];congr 1;simp only[I,B,O.1];grind
 have w:∀k j,eY k j l (zJ i l::N)=eY k j l N+if k=4/\j=i then 1 else 0:=fun k j=>by
  rw[cR];congr 1;simp only[zJ];grind
 have Q:r.granted=true/\r.served.core=(i:Int):=by
  have:=h.t4 i b;rw[o,o] at this;simp at this;unfold wI at this;grind
 have has:(c i).oM=true:=by have:=h.t1 i b;rw[o 8] at this;cases a:(c i).oM<;>simp_all
 have p:=h.ex i b (.inr has)
 have F:=h.gN n (by simp) I
 refine⟨⟨has,p,F.1⟩,?_⟩
 have T:=h.row.still (.inl Q.1)
 have A:=fun x a=>h.calm T (x:=x) a
 have hz:eY 1 i l N=0/\eY 2 i l N=0/\eY 1 i l r.waits=0/\eY 2 i l r.waits=0/\eY 8 i l N=0/\eY 4 i l N=0/\eY 9 i l N=0:=by
  have:=h.t1 i b;have q:=h.t4 i b;simp only[o,has] at this q;unfold wI at q;simp at this q;split at q<;>omega
 have h3:eY 3 i l N=0/\eY 3 i l r.waits=0:=by have:=h.t2 i b;simp only[o,p] at this;simp at this;omega
 have em:∀x,x∈N->x∈n::N:=fun x a=>List.mem_cons_of_mem _ a
 have Z:∀x∈N,x.kind≠8:=fun x a k=>by
  have u:=h.nc x (em x a);obtain⟨j,g,D,_⟩:=fR u.2;have q:=h.t4 j g;have:=fS a k D u.1;simp only[o] at q;by_cases e:j=i;subst e;omega;have:wI r j=0:=by unfold wI;rw[aLa (fun Y=>e (by omega))]
  omega
 generalize hC:aR c i {c i with st:=n.state,d:=d',oM:=false,aw:=false}=c'
 have ci:c' i={c i with st:=n.state,d:=d',oM:=false,aw:=false}:=by rw[<-hC,fG]
 have v:∀j,j≠i->c' j=c j:=fun j e=>by rw[<-hC,cH e]
 have G:∀j,(c' j).gi=(c j).gi/\(c' j).gs=(c j).gs/\(c' j).gd=(c j).gd:=fun j=>by by_cases e:j=i<;>grind
 have y:HH l r c' (zJ i l::N) i=n.state:=by
  unfold HH;rw[ci];unfold uK;rw[aLb (by simp only;omega)]
 have z:HH l r c (n::N) i=(c i).st:=by unfold HH uK;rw[p];simp;omega
 have J:∀j,j≠i->HH l r c' (zJ i l::N) j=HH l r c (n::N) j:=fun j e=>by
  unfold HH pd;rw[o 3 j,w 3 j,aLa (by omega),aLa (by omega),v j e]
 have E:tJ (c' i)=V:=by
  rw[ci];unfold tJ;rw[aLb (by simp only;omega)];simp only[P];split;rename_i e;have:=h.c3 i b (by rw[z];exact e);unfold tJ at this;grind;grind
 constructor
 case row=>exact h.row
 case ks=>exact h.ks
 case kg=>exact h.kg
 case told=>exact h.told
 case nc=>intro x a;rcases List.mem_cons.1 a with rfl|a;exact⟨rfl,by simp only[zJ];omega⟩;exact h.nc x (em x a)
 case ex=>have:=h.ex;grind
 case uR=>have:=h.uR;grind
 case t1=>
  intro j g
  have L:=h.t1 j g
  grind
 case t2=>have:=h.t2;grind
 case t3=>have:=h.t3;grind
 case t4=>have:=h.t4;grind
 case a1=>have:=h.a1;grind
 case a2=>have:=h.a2;grind
 case rq=>
  intro x a t
  have f:x∈N\/x∈r.waits:=a.imp (fun h=>by rcases List.mem_cons.1 h with rfl|h;simp[zJ] at t;exact h) id
  have u:=h.bd (f.imp (em x) id)
  have R:x.core≠(i:Int):=by
   rcases f with a|a<;>rcases t with t|t<;>(intro e;have:=fS a t e u.1;omega)
  rw[v _ (by omega)];exact h.rq x (f.imp (em x) id) t
 case rs=>grind
 case c1=>
  intro j g h5 h8
  by_cases e:j=i
  .subst e;rw[y];have:=h.row.apart j g;grind
  .rw[J j e];exact h.c1 j g (by grind) (by grind)
 case c2=>
  grind
 case Bn=>intro j g M x a U;rcases List.mem_cons.1 a with rfl|a;simp[zJ] at U;grind
 case gN=>intro x a W;rcases List.mem_cons.1 a with rfl|a;simp[zJ] at W;grind
 case pN=>intro x a k;rcases List.mem_cons.1 a with rfl|a;simp[zJ] at k;grind
 case rN=>intro x a k;rcases List.mem_cons.1 a with rfl|a;simp[zJ] at k;grind
 case uN=>
  intro x a k
  have f:x∈N\/x∈r.waits:=a.imp (fun h=>by rcases List.mem_cons.1 h with rfl|h;simp[zJ] at k;exact h) id
  rw[(G _).2.1,(G _).2.2];exact h.uN x (f.imp (em x) id) k
 case c3=>
  intro j g h0
  by_cases e:j=i
  .subst e;exact E
  .rw[v j e];exact h.c3 j g (by grind)
 case c5=>
  intro L M
  refine h.c5 (fun j g=>?_) (fun x a=>?_)
  .grind
  grind
 grind
end
section
variable {l:Nat} {r:Row} {m V:Ln} {c:xc} {N:List aJ} {n:aJ}
theorem Pe {c:CL} {p:Nat} (h:uK c p≠0) (a:c.st=0):c.gi=true/\0<p/\uK c p=c.gs:=by
 unfold uK at h ⊢;rw[aLa (by simpa using a)] at h ⊢;split at h;rename_i e;rw[aLb e];exact⟨e.1,e.2,rfl⟩;exact absurd rfl h
theorem Inv.found {i:Nat} (h:Inv l r m V c (n::N)) (j:n.kind=11) (a:i<4) (b:n.core=(i:Int)):
  r.asked i=true/\r.granted=false/\r.busy=true/\HH l r c (n::N) i≠0/\(n.state=0\/n.state=1)/\((c i).st≠0\/((c i).st=0/\(c i).gi=true)):=by
 have u:=h.nc n (by simp)
 have o:0<eY 11 i l (n::N):=fS (by simp) j b u.1
 have t:r.asked i=true:=by have:=h.t3 i a;grind
 have g:r.granted=false:=by
  cases g:r.granted with
  |false=>rfl
  |true=>have:=gE (h.row.still (.inl g)) a;grind
 have f:r.busy=true:=by
  cases f:r.busy with
  |true=>rfl
  |false=>have:=gE (h.row.still (.inr f)) a;grind
 have k:HH l r c (n::N) i≠0:=by
  have p:eY 5 i l (n::N)=0:=by have:=h.t3 i a;grind
  have q:eY 8 i l (n::N)=0:=by have:=h.t4 i a;unfold wI at this;grind
  have:=h.c1 i a p q;have d:=(h.pN n (by simp) j).2.1;rw[b,Int.toNat_natCast] at d;rcases d with d|d;grind;grind
 refine⟨t,g,f,k,?_,?_⟩
 .have:=(h.pN n (by simp) j).1;grind
 .by_cases e:(c i).st=0
  .exact .inr ⟨e,(Pe k e).1⟩
  .exact .inl e
theorem dt {x to:Int} (b:1<=x/\x<=4) (a:to=0\/to=1):(to=0->gH x to=0)/\(to=1->gH x to=1\/gH x to=3)/\(to=1->2<=x->x=2/\gH x to=1\/(x=3\/x=4)/\gH x to=3)/\(gH x to=3->x=3\/x=4):=by
 unfold gH Jb;grind
theorem Inv.aDl {i:Nat} {a:CL} {y:aJ} (h:Inv l r m V c (n::N)) (R:n.kind=11) (o:i<4) (G:n.core=(i:Int))
  (J:a.oM=(c i).oM/\a.aw=(c i).aw/\a.gi=(c i).gi/\a.gd=(c i).gd)
  (A:(c i).st≠0->a.st=gH (c i).st n.state/\(a.st≠0->a.d=(c i).d)/\a.gs=(c i).gs)
  (z:(c i).st=0->a.st=0/\a.gs=gH (c i).gs n.state)
  (M:y.kind=5/\y.core=(i:Int)/\y.line=l/\y.state=gH (HH l r c (n::N) i) n.state/\(y.kC=true↔HH l r c (n::N) i=3\/HH l r c (n::N) i=4)/\(y.kC=true->(y.d0,y.d1)=tJ (c i))):
  Inv l r m V (aR c i a) (y::N):=by
 have hc:=h.nc n (by simp)
 obtain⟨ha,hg,F,t,B,hw⟩:=h.found R o G
 have U:∀k j,eY k j l (n::N)=eY k j l N+if k=11/\j=i then 1 else 0:=fun k j=>by
  rw[cR];grind
 have E:∀k j,eY k j l (y::N)=eY k j l N+if k=5/\j=i then 1 else 0:=fun k j=>by
  rw[cR];grind
 have em:∀x,x∈N->x∈n::N:=fun x b=>List.mem_cons_of_mem _ b
 have T:=h.uR i o
 have hex:=h.ex i o
 have Z:tJ (c i)=V:=h.c3 i o t
 have q:1<=HH l r c (n::N) i/\HH l r c (n::N) i<=4:=by
  unfold HH at t ⊢;by_cases e:(c i).st=0;have:=Pe t e;omega;unfold uK;rw[aLb e];omega
 have δ:=dt q B
 have β:=Bw (x:=HH l r c (n::N) i) (to:=n.state) (by omega)
 have e5:eY 5 i l N=0:=by have:=h.t3 i o;grind
 have e8:∀x∈N,x.kind≠8:=fun x b k=>by
  have F:=h.nc x (em x b);obtain⟨j,d,I,_⟩:=fR F.2;exact h.no8 d (by unfold wI;rw[hg];simp) (em x b) k I
 generalize hC:aR c i a=c'
 have ci:c' i=a:=by rw[<-hC,fG]
 have O:∀j,j≠i->c' j=c j:=fun j e=>by rw[<-hC,cH e]
 have D:∀j,(c' j).oM=(c j).oM/\(c' j).aw=(c j).aw/\(c' j).gi=(c j).gi/\(c' j).gd=(c j).gd:=fun j=>by grind
 have w:HH l r c' (y::N) i=gH (HH l r c (n::N) i) n.state:=by
  unfold HH at t ⊢;have W:pd l r (y::N) i=pd l r (n::N) i:=by unfold pd;rw[U,E];simp
  rw[W];by_cases e:(c i).st=0;have g:=Pe t e;rw[g.2.2];unfold uK;grind;have P:uK (c i) (pd l r (n::N) i)=(c i).st:=by unfold uK;rw[aLb e]
  rw[P,<-(A e).1,ci];unfold uK;grind
 have Q:∀j,j≠i->HH l r c' (y::N) j=HH l r c (n::N) j:=fun j e=>by
  unfold HH pd;grind
 have α:HH l r c' (y::N) i≠0->tJ (c' i)=tJ (c i):=fun v=>by
  rw[ci];unfold tJ;by_cases e:(c i).st=0;grind;by_cases P:a.st=0;exfalso;apply v;rw[w];have:HH l r c (n::N) i=(c i).st:=by unfold HH uK;rw[aLb e]
  grind;grind
 have f:∀x,x∈y::N->x=y\/x∈n::N:=fun x b=>by grind
 constructor
 case row=>exact h.row
 case ks=>exact h.ks
 case kg=>exact h.kg
 case told=>exact h.told
 case nc=>intro x b;rcases f x b with rfl|b;exact⟨M.2.2.1,by omega⟩;exact h.nc x b
 case ex=>
  intro j d g
  rw[(D j).2.2.1]
  refine h.ex j d ?_
  grind
 case uR=>
  intro j d
  by_cases e:j=i
  .subst e;rw[ci];by_cases e:(c j).st=0
   .have:=Bw (x:=(c j).gs) (to:=n.state) (by omega);have:=z e;omega
   .have:=Bw (x:=(c j).st) (to:=n.state) (by omega);have:=A e;omega
  .rw[O j e];exact h.uR j d
 case t1=>intro j d;have g:=h.t1 j d;grind
 case t2=>intro j d;have g:=h.t2 j d;grind
 case t3=>intro j d;have g:=h.t3 j d;grind
 case t4=>intro j d;have g:=h.t4 j d;grind
 case a1=>intro j d g;have:=h.a1 j d;grind
 case a2=>intro j d g;have:=h.a2 j d;grind
 case rq=>intro x b k1;rw[(D _).2.1];exact h.rq x (b.imp (fun b=>(f x b).resolve_left (fun e=>by subst e;omega)) id) k1
 case rs=>rw[(D _).2.1];exact h.rs
 case c1=>
  intro j d h5 h8
  have e:j≠i:=fun e=>by grind
  rw[Q j e];exact h.c1 j d (by grind) (by grind)
 case c2=>intro j d u;exfalso;have:=h.c2 j d;grind
 case Bn=>intro j d u;exfalso;have:=h.c2 j d;grind
 case gN=>grind
 case pN=>intro x b k;rcases f x b with rfl|b;omega;exact h.pN x b k
 case rN=>
  intro x b k
  rcases List.mem_cons.1 b with rfl|b
  .rw[M.2.1,Int.toNat_natCast,w];have hp:=h.pN n (by simp) R;grind
  .have γ:x.core≠(i:Int):=fun e=>by have:=fS b k e (h.nc x (em x b)).1;omega
   have F:=h.nc x (em x b)
   rw[Q _ (by omega)]
   exact h.rN x (em x b) k
 case uN=>
  intro x b k
  have L:x∈n::N\/x∈r.waits:=b.imp (fun b=>(f x b).resolve_left (fun e=>by subst e;omega)) id
  have g:=h.uN x L k
  rw[(D _).2.2.2]
  refine⟨g.1,fun u=>g.2 ?_⟩
  by_cases e:x.core.toNat=i
  .rw[e,ci] at u;rw[e];by_cases v:(c i).st=0
   .rw[(z v).2] at u;have:1<=(c i).gs/\(c i).gs<=4:=by
     have:=Pe (p:=pd l r (n::N) i) t v;unfold HH at q;omega
    have:=dt this B
    grind
   grind
  grind
 case c3=>
  intro j d v
  by_cases e:j=i
  .grind
  .rw[O j e];exact h.c3 j d (by grind)
 case c5=>
  intro g u
  have ε:=u y (by simp) M.1
  have Y:¬(HH l r c (n::N) i=3\/HH l r c (n::N) i=4):=fun e=>by grind
  refine h.c5 (fun j d=>?_) (fun x b k=>?_)
  .grind
  grind
 case k2=>exact h.k2
theorem Inv.asks {i:Nat} {y:aJ} {wr:Bool} (h:Inv l r m V c N) (z:i<4) (U:(c i).oM=false) (w:(c i).gi=false) (O:if wr then(c i).st≠2/\(c i).st≠4 else(c i).st=0)
  (P:y.kind=(if wr then 2 else 1)/\y.core=(i:Int)/\y.line=l):
  Inv l r m V (aR c i {c i with oM:=true,aw:=wr}) (y::N):=by
 have u:∀k j,eY k j l (y::N)=eY k j l N+if k=(if wr then 2 else 1)/\j=i then 1 else 0:=fun k j=>by
  rw[cR];grind
 have F:y.kind=1\/y.kind=2:=by grind
 have Q:eY 1 i l N=0/\eY 2 i l N=0/\eY 1 i l r.waits=0/\eY 2 i l r.waits=0/\An r i=0/\eY 8 i l N=0/\eY 9 i l N=0:=by
  have:=h.t1 i z;grind
 generalize hC:aR c i {c i with oM:=true,aw:=wr}=c'
 have ci:c' i={c i with oM:=true,aw:=wr}:=by rw[<-hC,fG]
 have t:∀j,j≠i->c' j=c j:=fun j e=>by rw[<-hC,cH e]
 have D:∀j,(c' j).st=(c j).st/\(c' j).d=(c j).d/\(c' j).gi=(c j).gi/\(c' j).gs=(c j).gs/\(c' j).gd=(c j).gd:=fun j=>by by_cases e:j=i<;>grind
 have p:∀j,HH l r c' (y::N) j=HH l r c N j:=fun j=>by
  have T:eY 3 j l (y::N)=eY 3 j l N:=by grind
  unfold HH pd uK;grind
 have M:HH l r c N i=(c i).st:=by unfold HH uK;rw[w];simp;omega
 have G:∀j,tJ (c' j)=tJ (c j):=fun j=>by unfold tJ;grind
 have d:∀x,x∈y::N->x=y\/x∈N:=fun x a=>List.mem_cons.1 a
 constructor
 case row=>exact h.row
 case ks=>exact h.ks
 case kg=>exact h.kg
 case told=>exact h.told
 case nc=>intro x a;rcases d x a with rfl|a;exact⟨P.2.2,by omega⟩;exact h.nc x a
 case ex=>have:=h.ex;grind
 case uR=>have:=h.uR;grind
 case t1=>
  intro j f
  have o:=h.t1 j f
  grind
 case t2=>intro j f;have o:=h.t2 j f;grind
 case t3=>intro j f;have o:=h.t3 j f;grind
 case t4=>intro j f;have o:=h.t4 j f;grind
 case a1=>intro j f o;have:=h.a1 j f;grind
 case a2=>intro j f o E;have:=h.a2 j f;grind
 case rq=>
  intro x a q
  have I:x=y\/(x∈N\/x∈r.waits):=by grind
  rcases I with rfl|a
  .grind
  .have v:=h.bd a;have A:x.core≠(i:Int):=by
    rcases a with a|a<;>rcases q with q|q<;>(intro e;have:=fS a q e v.1;omega)
   rw[t _ (by omega)];exact h.rq x a q
 case rs=>intro b g R;have:=Q.2.2.2.2.1;unfold An at this;rw[t _ (fun e=>by have:=h.row.core;grind)];exact h.rs b g R
 case c1=>intro j f J L;rw[p];rw[u] at J L;exact h.c1 j f (by omega) (by omega)
 case c2=>simp only[p];exact h.c2
 case Bn=>simp only[p];intro j f o x a k;rcases d x a with rfl|a;omega;exact h.Bn j f o x a k
 case gN=>
  intro x a k
  rcases d x a with rfl|a
  .omega
  .have v:=h.nc x a;have A:x.core≠(i:Int):=fun e=>by have:=fS a k e v.1;omega
   simp only[p]
   rw[t _ (by omega)];exact h.gN x a k
 case pN=>intro x a k;rcases d x a with rfl|a;omega;exact h.pN x a k
 case rN=>intro x a k;simp only[p];rcases d x a with rfl|a;omega;exact h.rN x a k
 case uN=>
  intro x a k
  have B:x∈N\/x∈r.waits:=a.imp (fun a=>(d x a).resolve_left (fun e=>by subst e;omega)) id
  rw[(D _).2.2.2.1,(D _).2.2.2.2];exact h.uN x B k
 case c3=>intro j f;rw[p,G];exact h.c3 j f
 case c5=>simp only[p];exact fun o E=>h.c5 o (fun x a=>E x (List.mem_cons_of_mem _ a))
 case k2=>exact h.k2
theorem Inv.zT {i:Nat} {y:aJ} {d':Ln} (h:Inv l r m V c N) (t:i<4) (P:(c i).oM=false) (u:(c i).st≠0)
  (F:y.kind=3/\y.core=(i:Int)/\y.line=l/\(y.d0,y.d1)=(c i).d/\y.kC=jR (c i).st) {p:Bool} (Q:p=(c i).aw\/True):
  Inv l r m V (aR c i ⟨0,d',false,p,true,(c i).st,(c i).d⟩) (y::N):=by
 have R:=h.ex i t (.inl u)
 have A:∀k j,eY k j l (y::N)=eY k j l N+if k=3/\j=i then 1 else 0:=fun k j=>by
  rw[cR];grind
 have U:eY 1 i l N=0/\eY 2 i l N=0/\eY 1 i l r.waits=0/\eY 2 i l r.waits=0/\An r i=0/\eY 8 i l N=0/\eY 9 i l N=0:=by
  have:=h.t1 i t;grind
 have W:eY 3 i l N=0/\eY 3 i l r.waits=0/\eY 10 i l N=0:=by have:=h.t2 i t;grind
 generalize hC:aR c i ⟨0,d',false,p,true,(c i).st,(c i).d⟩=c'
 have ci:c' i=⟨0,d',false,p,true,(c i).st,(c i).d⟩:=by rw[<-hC,fG]
 have z:∀j,j≠i->c' j=c j:=fun j e=>by rw[<-hC,cH e]
 have I:∀j,(c' j).oM=(c j).oM:=fun j=>by by_cases e:j=i<;>grind
 have G:HH l r c N i=(c i).st:=by unfold HH uK;rw[aLb u]
 have q:∀j,HH l r c' (y::N) j=HH l r c N j:=fun j=>by
  by_cases e:j=i;subst e;rw[G];unfold HH pd;rw[A,ci];simp[uK];unfold HH pd;grind
 have J:∀j,tJ (c' j)=tJ (c j):=fun j=>by
  by_cases e:j=i;subst e;rw[ci];unfold tJ;rw[aLb u];simp;rw[z j e]
 have d:∀x,x∈y::N->x=y\/x∈N:=fun x a=>List.mem_cons.1 a
 have B:∀x,(x∈N\/x∈r.waits)->(x.kind=1\/x.kind=2\/x.kind=3)->x.core≠(i:Int):=fun x a w e=>by
  have D:=h.bd a;rcases a with a|a<;>rcases w with w|w|w<;>(have:=fS a w e D.1;omega)
 constructor
 case row=>exact h.row
 case ks=>exact h.ks
 case kg=>exact h.kg
 case told=>exact h.told
 case nc=>intro x a;rcases d x a with rfl|a;exact⟨F.2.2.1,by omega⟩;exact h.nc x a
 case ex=>have:=h.ex;grind
 case uR=>have:=h.uR;grind
 case t1=>intro j f;have o:=h.t1 j f;grind
 case t2=>
  intro j f
  have o:=h.t2 j f
  grind
 case t3=>intro j f;have o:=h.t3 j f;grind
 case t4=>intro j f;have o:=h.t4 j f;grind
 case a1=>intro j f;rw[q,I];exact h.a1 j f
 case a2=>intro j f o E;rw[I] at o;rw[q];by_cases e:j=i;(subst e;rw[P] at o;cases o);(rw[z j e] at E;exact h.a2 j f o E)
 case rq=>
  intro x a w
  have v:x∈N\/x∈r.waits:=a.imp (fun a=>(d x a).resolve_left (fun e=>by subst e;omega)) id
  have:=B x v (by omega)
  have D:=h.bd v
  rw[z _ (by omega)];exact h.rq x v w
 case rs=>intro b g Y;have:=U.2.2.2.2.1;unfold An at this;rw[z _ (fun e=>by have:=h.row.core;grind)];exact h.rs b g Y
 case c1=>intro j f M O;rw[q];rw[A] at M O;exact h.c1 j f (by omega) (by omega)
 case c2=>simp only[q];exact h.c2
 case Bn=>simp only[q];intro j f o x a k;rcases d x a with rfl|a;omega;exact h.Bn j f o x a k
 case gN=>
  intro x a k
  rcases d x a with rfl|a
  .omega
  .have D:=h.nc x a;have T:x.core≠(i:Int):=fun e=>by have:=fS a k e D.1;omega
   simp only[q]
   rw[z _ (by omega)];exact h.gN x a k
 case pN=>intro x a k;rcases d x a with rfl|a;omega;exact h.pN x a k
 case rN=>intro x a k;simp only[q];rcases d x a with rfl|a;omega;exact h.rN x a k
 case uN=>
  intro x a k
  have L:x=y\/(x∈N\/x∈r.waits):=by grind
  rcases L with rfl|a
  .rw[F.2.1,Int.toNat_natCast,ci];refine⟨F.2.2.2.1,fun o=>?_⟩;rw[F.2.2.2.2];unfold jR;simpa using o
  .have:=B x a (by omega);have D:=h.bd a;rw[z _ (by omega)];exact h.uN x a k
 case c3=>intro j f;rw[q,J];exact h.c3 j f
 case c5=>simp only[q];exact fun o E=>h.c5 o (fun x a=>E x (List.mem_cons_of_mem _ a))
 case k2=>exact h.k2
theorem Inv.wrote {i:Nat} {D:Ln} (h:Inv l r m V c N) (f:i<4) (w:(c i).st=2\/(c i).st=4):
  Inv l r m D (aR c i {c i with st:=4,d:=D}) N:=by
 have u:HH l r c N i=(c i).st:=by unfold HH uK;rw[aLb (by omega)]
 have o:HH l r c N i=2\/HH l r c N i=4:=by rw[u];exact w
 have J:=h.c2 i f o
 have z:∀j,j<4->HH l r c N j≠0->j=i:=fun j b e=>Classical.byContradiction fun t=>e (J j b t)
 have G:=h.Bn i f o
 have has:(c i).oM=false:=by cases e:(c i).oM with|false=>rfl|true=>have:=h.a1 i f e;omega
 have O:∀x∈N,x.kind≠8:=fun x a k=>by
  have p:=h.nc x a;obtain⟨j,b,q,v⟩:=fR p.2;have I:=h.gN x a k;by_cases e:x.state=1;grind;have B:=(I.2.2.2.1 e).2 i f;by_cases t:j=i;subst t;have:=h.t1 j b;rw[has] at this;have:=fS a k q p.1;simp at*;omega;grind
 have M:∀x∈N,x.kind=5->r.served.kind≠1:=fun x a k e=>by
  have p:=h.nc x a;obtain⟨j,b,q,v⟩:=fR p.2;have Q:=((h.rN x a k).2.1 e);grind
 generalize hC:aR c i {c i with st:=4,d:=D}=c'
 have ci:c' i={c i with st:=4,d:=D}:=by rw[<-hC,fG]
 have A:∀j,j≠i->c' j=c j:=fun j e=>by rw[<-hC,cH e]
 have g:∀j,(c' j).oM=(c j).oM/\(c' j).aw=(c j).aw/\(c' j).gi=(c j).gi/\(c' j).gs=(c j).gs/\(c' j).gd=(c j).gd:=fun j=>by grind
 have y:HH l r c' N i=4:=by unfold HH;rw[ci];simp[uK]
 have P:∀j,j≠i->HH l r c' N j=HH l r c N j:=fun j e=>by unfold HH;rw[A j e]
 constructor
 case row=>exact h.row
 case ks=>exact h.ks
 case kg=>exact h.kg
 case told=>exact h.told
 case nc=>exact h.nc
 case ex=>have:=h.ex;grind
 case uR=>have:=h.uR;grind
 case t1=>intro j b;rw[(g j).1];exact h.t1 j b
 case t2=>intro j b;rw[(g j).2.2.1];exact h.t2 j b
 case t3=>exact h.t3
 case t4=>exact h.t4
 case a1=>grind
 case a2=>grind
 case rq=>intro x a k;rw[(g _).2.1];exact h.rq x a k
 case rs=>rw[(g _).2.1];exact h.rs
 case c1=>intro j b E F;have:=h.c1 j b E F;grind
 case c2=>
  grind
 case Bn=>grind
 case gN=>grind
 case pN=>exact h.pN
 case rN=>
  intro x a k
  have p:=h.nc x a
  have B:=h.rN x a k
  grind
 case uN=>intro x a k;rw[(g _).2.2.2.1,(g _).2.2.2.2];exact h.uN x a k
 case c3=>
  intro j b L
  by_cases e:j=i
  .subst e;rw[ci];unfold tJ;simp
  grind
 case c5=>grind
 case k2=>exact h.k2
end
section
variable {l:Nat} {r:Row} {m V:Ln} {c:xc} {N:List aJ} {n:aJ}
theorem yX {r:Row} {x:Int}:∀(f i:Nat),(∀c,c∈r.fD x f i↔(i<=c/\c<i+f)/\r.holds x c=true)/\(r.fD x f i).Nodup/\(r.tU x f i= -1↔∀c,i<=c->c<i+f->r.holds x c=false):=by
 intro f;induction f with
 |zero=>intro i;refine⟨fun c=>?_,by simp[Row.fD],?_⟩;simp[Row.fD];omega;simp[Row.tU];omega
 |succ f a=>
  intro i;obtain⟨b,d,e⟩:=a (i+1);unfold Row.fD Row.tU;grind
theorem rH {r:Row} {x:Int} {c:Nat}:c∈r.gA x↔c<4/\r.holds x c=true:=by
 have:=(yX (r:=r) (x:=x) 4 0).1 c;unfold Row.gA;grind
theorem J3 {r:Row} {x:Int}:(r.gA x).Nodup:=(yX 4 0).2.1
theorem G0 {r:Row} {x:Int}:r.first x= -1↔∀c:Nat,c<4->(c:Int)≠x->r.sh c=false/\(c:Int)≠r.owner:=by
 have:=(yX (r:=r) (x:=x) 4 0).2.2;unfold Row.first
 rw[this];unfold Row.holds;grind
theorem Inv.Vb (h:Inv l r m V c N) (a:r.granted=false):r.told=false:=by
 cases e:r.told with
 |false=>rfl
 |true=>have:=h.told e;grind
def Row.say (r:Row) (b:Bool) (d:Ln):Row:={r with told:=b,d0:=d.1,d1:=d.2}
theorem Inv.say {b:Bool} {d:Ln} (h:Inv l r m V c N) (a:r.granted=true):Inv l (Row.say r b d) m V c N:=by
 constructor;exact⟨h.row.core,h.row.owner,h.row.waits,h.row.apart,h.row.want,h.row.still,h.row.gb⟩;exact h.ks;exact h.kg;intro _;exact a;exact h.nc;exact h.ex;exact h.uR;exact h.t1;exact h.t2;exact h.t3;exact h.t4;exact h.a1;exact h.a2;exact h.rq;exact h.rs;exact h.c1;exact h.c2;exact h.Bn;exact h.gN;exact h.pN;exact h.rN;exact h.uN;exact h.c3;exact h.c5;exact h.k2
theorem Inv.aGp (h:Inv l r m V c N) (_hb:r.busy=true) (o:r.granted=false) (j:r.quiet=true) (p:r.served.kind=0):Inv l r.free m V c N:=by
 have a:=fun x b=>h.calm j (x:=x) b;have f:∀i,An r i=0/\An r.free i=0:=fun i=>by unfold An Row.free;simp[p]
 have g:∀i,wI r i=0/\wI r.free i=0:=fun i=>by unfold wI Row.free;simp[o]
 constructor;exact Ca h.row j;intro e;cases e;intro e;cases e;intro e;cases e;exact h.nc;exact h.ex;exact h.uR;intro i d;have:=h.t1 i d;rw[(f i).1] at this;rw[(f i).2];exact this;exact h.t2;exact h.t3;intro i d;have:=h.t4 i d;rw[(g i).1] at this;rw[(g i).2];exact this;exact h.a1;exact h.a2;exact h.rq;intro e;cases e;exact h.c1;exact h.c2;exact h.Bn;exact h.gN;exact fun x b k=>absurd k (a x b).2;exact fun x b k=>absurd k (a x b).1;exact h.uN;exact h.c3;exact h.c5;intro e;cases e
theorem Inv.eE {d:Ln} (h:Inv l r m V c N) (hb:r.busy=true) (y:r.granted=false) (G:r.quiet=true) (hk:r.served.kind=1\/r.served.kind=2)
  (hd:HH l r c N r.served.core.toNat=0->d=V) (u:r.served.kind=1->∀j,j<4->HH l r c N j≠2/\HH l r c N j≠4):
  Inv l (r.eE l d).1 m V c ((r.eE l d).2++N)/\(r.eE l d).1.granted=true:=by
 have O:=fun x f=>h.calm G (x:=x) f
 obtain⟨i,F,p,E⟩:∃i:Nat,i<4/\r.served.core=(i:Int)/\r.served.core.toNat=i:=⟨r.served.core.toNat,by have:=h.row.core;omega,by have:=h.row.core;omega,rfl⟩
 have a:=yZ (line:=l) (d:=d) (Ai.mk h.row.core h.row.owner h.row.waits h.row.apart (h.row.want hb y) hb y) (by omega) G
 have z:An r i=1:=by unfold An;rw[aLb ⟨hb,y,by omega,p⟩]
 have has:(c i).oM=true:=by have:=h.t1 i F;cases f:(c i).oM<;>simp_all
 have hz:eY 8 i l N=0/\eY 9 i l N=0/\eY 4 i l N=0:=by
  have:=h.t1 i F;have L:=h.t4 i F;unfold wI at L;rw[y] at L;rw[z,has] at this;simp at this L;omega
 have g0:∀j,wI r j=0:=fun j=>by unfold wI;simp[y]
 have I:=h.rs hb y (by omega)
 rw[E] at I
 have e8:∀x∈N,x.kind≠8:=fun x f k=>by
  have hb:=h.nc x f;obtain⟨j,b,P,_⟩:=fR hb.2;exact h.no8 b (g0 j) f k P
 have M:∀j,j<4->(HH l r c N j=1↔r.sh j=true)/\(2<=HH l r c N j↔r.owner=(j:Int)):=fun j b=>h.c1 j b (by have:=h.t3 j b;rw[gE G b] at this;simp at this;omega) (by have:=h.t4 j b;grind)
 have ε:∀j,0<=HH l r c N j->HH l r c N j≠0->HH l r c N j=1\/2<=HH l r c N j:=fun j _ _=>by omega
 have δ:∀j,j<4->0<=HH l r c N j:=fun j b=>by have:=h.uR j b;unfold HH uK;grind
 rw[E] at hd
 have main:∀(g:Row) (st:Int),g={r with owner:=g.owner,sh:=g.sh,granted:=true}->oP l g->(st=1\/st=2\/st=4)->(st=4↔(c i).aw=true)->
   (st=1->g.sh i=true/\HH l r c N i=0/\∀j,j<4->HH l r c N j≠2/\HH l r c N j≠4)->
   (st≠1->g.owner=(i:Int)/\∀j:Nat,j<4->g.sh j=false/\((j:Int)≠(i:Int)->HH l r c N j=0))->(st=2->HH l r c N i=0)->
   (∀j:Nat,j<4->j≠i->(g.sh j=r.sh j)/\(g.owner=(j:Int)↔r.owner=(j:Int)))->
   Inv l g m V c (r.jY l st d::N):=by
  intro g st er a Y q T U W β
  have v:(r.jY l st d).kind=8/\(r.jY l st d).core=(i:Int)/\(r.jY l st d).line=l:=⟨rfl,p,rfl⟩
  have A:∀k j,eY k j l (r.jY l st d::N)=eY k j l N+if k=8/\j=i then 1 else 0:=fun k j=>by
   rw[cR];congr 1;simp only[v];grind
  have w:g.waits=r.waits/\g.busy=true/\g.granted=true/\g.asked=r.asked/\g.told=r.told/\g.served=r.served:=by grind
  have B:∀j,HH l g c (r.jY l st d::N) j=HH l r c N j:=fun j=>by unfold HH pd;rw[A,aLa (by omega),w.1];rfl
  have es:∀j,An g j=0:=fun j=>by unfold An;rw[w.2.2.1];simp
  have o:∀x,x∈r.jY l st d::N->x=r.jY l st d\/x∈N:=fun x f=>List.mem_cons.1 f
  constructor
  case row=>exact a
  case ks=>grind
  case kg=>grind
  case told=>grind
  case nc=>intro x f;rcases o x f with rfl|f;exact⟨v.2.2,by rw[v.2.1];omega⟩;exact h.nc x f
  case ex=>exact h.ex
  case uR=>exact h.uR
  case t1=>
   intro j b
   have u:=h.t1 j b
   simp only[A,es,w.1]
   by_cases e:j=i
   .subst e;rw[z] at u;simp only[and_self,if_true,Int.reduceEq,false_and,if_false];simp;omega
   .have:An r j=0:=by unfold An;rw[aLa (by omega)]
    simp[e];omega
  case t2=>intro j b;have u:=h.t2 j b;grind
  case t3=>intro j b;have u:=h.t3 j b;simp only[A,w.2.2.2.1];simp;exact u
  case t4=>
   intro j b
   have u:=h.t4 j b
   rw[g0] at u
   have ζ:wI g j=if j=i then 1 else 0:=by
    unfold wI;rw[w.2.2.1,w.2.2.2.2.2];by_cases e:j=i;grind;rw[aLa (fun J=>e (by omega)),aLa e]
   grind
  case a1=>simp only[B];exact h.a1
  case a2=>simp only[B];exact h.a2
  case rq=>rw[w.1];intro x f Z;exact h.rq x (f.imp (fun f=>(o x f).resolve_left (fun e=>by grind)) id) Z
  case rs=>grind
  case c1=>
   grind
  case c2=>grind
  case Bn=>grind
  case gN=>
   intro x f k
   rcases o x f with rfl|f
   .simp only[B];rw[v.2.1,Int.toNat_natCast];exact⟨Y,q,T,U,W,hd⟩
   grind
  case pN=>grind
  case rN=>grind
  case uN=>rw[w.1];intro x f k;exact h.uN x (f.imp (fun f=>(o x f).resolve_left (fun e=>by grind)) id) k
  case c3=>simp only[B];exact h.c3
  case c5=>simp only[B];exact fun u h2=>h.c5 u (fun x f=>h2 x (List.mem_cons_of_mem _ f))
  case k2=>grind
 unfold Row.eE at a ⊢
 by_cases k2:r.served.kind=2
 .rw[aLb k2] at a ⊢;refine⟨main _ 4 rfl a (by omega) (by grind) (by omega) ?_ (by omega) ?_,rfl⟩
  .intro _;refine⟨p,fun j b=>⟨rfl,fun e=>Classical.byContradiction fun e0=>?_⟩⟩;have t:=h.k2 hb y (by omega) j b (fun _=>by rw[p];exact e);rw[gE G b] at t;grind
  .intro j b e;have t:=h.k2 hb y (by omega) j b (fun _=>by rw[p];omega);rw[gE G b] at t;constructor
   .show false=r.sh j;cases f:r.sh j with
    |false=>rfl
    |true=>have:=t (.inl f);cases this
   .show r.served.core=(j:Int)↔r.owner=(j:Int);constructor
    .intro J;omega
    .intro J;have:=t (.inr J);cases this
 .rw[aLa k2] at a ⊢;have Z:r.served.kind=1:=by omega
  have q:(c i).aw=false:=by cases e:(c i).aw with|false=>rfl|true=>have:=I.2 e;omega
  have h0:=h.a2 i F has q
  have α:=M i F
  have γ:r.sh i=false:=by grind
  by_cases Q:r.first r.served.core= -1
  .rw[aLb Q] at a ⊢;have R:=G0.1 Q;have D:∀j,j<4->HH l r c N j=0:=fun j b=>by
    grind
   refine⟨main _ 2 rfl a (by omega) (by rw[q];simp) (by omega) ?_ (fun _=>h0) ?_,rfl⟩
   .intro _;refine⟨p,fun j b=>⟨?_,fun _=>D j b⟩⟩;show gW r.sh r.served.core false j=false;unfold gW;grind
   .intro j b e;have:=R j b (by omega);constructor
    .show gW r.sh r.served.core false j=r.sh j;unfold gW;grind
    grind
  .rw[aLa Q] at a ⊢;refine⟨main _ 1 rfl a (by omega) (by rw[q];simp) ?_ (fun e=>absurd rfl e) (by omega) ?_,rfl⟩
   .intro _;refine⟨?_,h0,u Z⟩;show gW r.sh r.served.core true i=true;unfold gW;grind
   .intro j b e;constructor
    .show gW r.sh r.served.core true j=r.sh j;unfold gW;grind
    .exact Iff.rfl
end
section
variable {l:Nat} {r:Row} {m V:Ln} {c:xc} {N:List aJ} {n:aJ}
theorem Inv.ft {i:Nat} (h:Inv l r m V c (n::N)) (g:n.kind=5) (b:i<4) (a:n.core=(i:Int)):
  r.asked i=true/\r.granted=false/\r.busy=true/\eY 5 i l N=0/\eY 11 i l N=0:=by
 have e:=h.nc n (by simp)
 have j:r.asked i=true:=by
  have:=h.t3 i b;rw[cR (k:=5),aLb ⟨g,a,e.1⟩] at this;grind
 have f:r.granted=false:=by
  cases f:r.granted with
  |false=>rfl
  |true=>have:=gE (h.row.still (.inl f)) b;grind
 have d:r.busy=true:=by
  cases d:r.busy with
  |true=>rfl
  |false=>have:=gE (h.row.still (.inr d)) b;grind
 have:=h.t3 i b
 rw[cR (k:=5),aLb ⟨g,a,e.1⟩,cR (k:=11),aLa (by omega),j] at this
 grind
theorem Inv.heard {r':Row} {F:Ln} {i:Nat} (h:Inv l r m V c (n::N)) (D:n.kind=5) (L:i<4) (u:n.core=(i:Int))
  (P:r'={r with owner:=r'.owner,sh:=r'.sh,asked:=gW r.asked n.core false}) (w:Ai l r')
  (b:∀j:Nat,j<4->j≠i->(r'.sh j=r.sh j)/\(r'.owner=(j:Int)↔r.owner=(j:Int)))
  (g:(HH l r c (n::N) i=1↔r'.sh i=true)/\(2<=HH l r c (n::N) i↔r'.owner=(i:Int)))
  (M:(∀j,j<4->HH l r c (n::N) j≠3/\HH l r c (n::N) j≠4)->(∀x∈N,x.kind=5->x.kC=false)->F=V):Inv l r' F V c N:=by
 obtain⟨T,B,t,J,I⟩:=h.ft D L u
 have U:=h.nc n (by simp)
 have G:∀k j,eY k j l (n::N)=eY k j l N+if k=5/\j=i then 1 else 0:=fun k j=>by
  rw[cR];grind
 have em:∀x,x∈N->x∈n::N:=fun x a=>List.mem_cons_of_mem _ a
 have f:r'.waits=r.waits/\r'.busy=true/\r'.granted=false/\r'.asked=gW r.asked n.core false/\r'.told=r.told/\r'.served=r.served:=by grind
 have o:∀j,HH l r' c N j=HH l r c (n::N) j:=fun j=>by unfold HH pd;rw[G,aLa (by omega),f.1];rfl
 have z:∀j,r'.asked j=if j=i then false else r.asked j:=fun j=>by rw[f.2.2.2.1];unfold gW;grind
 have v:∀x∈N,x.kind=5\/x.kind=11->x.core≠(i:Int):=fun x a k e=>by
  rcases k with k|k<;>(have:=fS a k e (h.nc x (em x a)).1;omega)
 have g0:∀j,wI r j=0/\wI r' j=0:=fun j=>by unfold wI;grind
 have O:∀x∈N,x.kind≠8:=fun x a k=>by
  have t:=h.nc x (em x a);obtain⟨j,d,A,_⟩:=fR t.2;exact h.no8 d (g0 j).1 (em x a) k A
 have Q:∀j,An r' j=An r j:=fun j=>by unfold An;grind
 constructor
 case row=>exact w.lz
 case ks=>rw[f.2.2.2.2.2];exact fun _=>h.ks t
 case kg=>grind
 case told=>rw[f.2.2.2.2.1,h.Vb B];intro e;cases e
 case nc=>exact fun x a=>h.nc x (em x a)
 case ex=>exact h.ex
 case uR=>exact h.uR
 case t1=>intro j d;have q:=h.t1 j d;grind
 case t2=>intro j d;have q:=h.t2 j d;grind
 case t3=>
  intro j d
  have q:=h.t3 j d
  grind
 case t4=>intro j d;have q:=h.t4 j d;grind
 case a1=>simp only[o];exact h.a1
 case a2=>simp only[o];exact h.a2
 case rq=>rw[f.1];exact fun x a=>h.rq x (a.imp (em x) id)
 case rs=>rw[f.2.2.2.2.2];exact fun _ _=>h.rs t B
 case c1=>
  intro j d J R
  rw[o]
  by_cases e:j=i
  .subst e;exact g
  .rw[(b j d e).1,(b j d e).2];exact h.c1 j d (by grind) (by grind)
 case c2=>simp only[o];exact h.c2
 case Bn=>simp only[o];exact fun j d p x a=>h.Bn j d p x (em x a)
 case gN=>grind
 case pN=>
  intro x a k
  have t:=h.nc x (em x a)
  have q:=h.pN x (em x a) k
  have p:=b x.core.toNat (by omega) (fun e=>v x a (.inr k) (by omega))
  rw[f.2.2.2.2.2,p.1]
  have y:((x.core.toNat:Nat):Int)=x.core:=by omega
  rw[y] at p
  rw[p.2];exact q
 case rN=>
  intro x a k
  have t:=h.nc x (em x a)
  have q:=h.rN x (em x a) k
  have p:=b x.core.toNat (by omega) (fun e=>v x a (.inl k) (by omega))
  have y:((x.core.toNat:Nat):Int)=x.core:=by omega
  rw[y] at p
  rw[f.2.2.2.2.2,o,p.2];exact q
 case uN=>rw[f.1];exact fun x a=>h.uN x (a.imp (em x) id)
 case c3=>simp only[o];exact h.c3
 case c5=>simp only[o];exact M
 case k2=>
  rw[f.2.2.2.2.2]
  intro _ _ k j d a uK
  rw[z]
  by_cases e:j=i
  .subst e;exfalso;have E:=(h.rN n (by simp) D).1 k;rw[u,Int.toNat_natCast] at E;rw[E] at g;rcases uK with uK|uK
   .have:=g.1.2 uK;omega
   .have:=g.2.2 uK;omega
  .rw[aLa e];refine h.k2 t B k j d a ?_;rw[(b j d e).1,(b j d e).2] at uK;exact uK
theorem Inv.nJ (h:Inv l r m V c (n::N)) (M:n.kind=5):
  r.asked n.core.toNat=true/\Inv l (lX.nJ (r,m) l n).1.1 (lX.nJ (r,m) l n).1.2 V c ((lX.nJ (r,m) l n).2++N):=by
 have hc:=h.nc n (by simp)
 obtain⟨i,L,z,D⟩:=fR hc.2
 obtain⟨ha,G,F,h5,ζ⟩:=h.ft M L z
 refine⟨by rw[D];exact ha,?_⟩
 have O:=D1 h.row hc.2 (by rw[D];exact ha)
 have ht:=h.Vb G
 have A:=h.rN n (by simp) M
 rw[D] at A
 have η:∀j,j<4->0<=HH l r c (n::N) j:=fun j a=>by have:=h.uR j a;unfold HH uK;split<;>(try split)<;>omega
 have ι:∀(t:Row) (m1:Ln),Inv l t m1 V c N->t.busy=true->t.granted=false->t.quiet=true->t.served=r.served->(∀j,HH l t c N j=HH l r c (n::N) j)->
   ∀j,j<4->(HH l r c (n::N) j=1↔t.sh j=true)/\(2<=HH l r c (n::N) j↔t.owner=(j:Int)):=fun t m1 E b1 g1 q1 _ T j a=>by
  rw[<-T]
  exact E.c1 j a (by have:=E.t3 j a;rw[gE q1 a] at this;simp at this;omega) (by have:=E.t4 j a;unfold wI at this;rw[g1] at this;simp at this;omega)
 unfold lX.nJ
 simp only
 by_cases B:r.served.kind=1
 .have hr:=A.2.1 B;have hq:∀t:Row,t.asked=gW r.asked n.core false->t.quiet=true:=fun t e=>by
   have Q:∀j:Nat,j<4->t.asked j=false:=fun j a=>by
    rw[e];unfold gW;by_cases ej:(j:Int)=n.core;rw[aLb ej];rw[aLa ej];cases w:r.asked j with
    |false=>rfl
    |true=>
     have I:=h.t3 j a;rw[w] at I;simp at I;exfalso;by_cases hp:eY 11 j l (n::N)=0;obtain⟨x,w,k,ex,_⟩:=Jc (k:=5) (i:=j) (l:=l) (N:=n::N) (by omega);have:=((h.rN x w k).2.1 B).1;omega;obtain⟨x,w,k,ex,_⟩:=Jc (Nat.pos_of_ne_zero hp);have:=(h.pN x w k).2.2 B;omega
   unfold Row.quiet;rw[Q 0 (by omega),Q 1 (by omega),Q 2 (by omega),Q 3 (by omega)];rfl
  have β:r.vK m n=m:=by unfold Row.vK;rw[aLa (fun e=>e.1 B)]
  rw[β]
  rcases hr.2.2 with E|I
  .have f:r.heard n=(r.eZ n).Dq n:=by unfold Row.heard;rw[aLa (fun e=>e B),aLb (by omega),aLa (by rw[E.2];simp)]
   have p:HH l r c (n::N) i=1:=by grind
   have g:Inv l (r.heard n) m V c N:=by
    refine h.heard M L z (by rw[f];rfl) O (fun j a e=>?_) ?_ (fun y W=>?_);rw[f];constructor;show gW r.sh n.core (valid n.state) j=r.sh j;unfold gW;grind;show(-1:Int)=(j:Int)↔r.owner=(j:Int);grind;rw[f,p];constructor;show _↔gW r.sh n.core (valid n.state) i=true;unfold gW;rw[aLb (by omega),E.1];simp[valid];show _↔(-1:Int)=(i:Int);grind;exact h.c5 y (fun x w k=>by grind)
   have b:=hq (r.heard n) (by rw[f];rfl)
   have u:(r.heard n).busy=true:=by rw[f];exact F
   have q:(r.heard n).granted=false:=by rw[f];exact G
   have v:(r.heard n).served=r.served:=by rw[f];rfl
   have θ:(r.heard n).owner= -1:=by rw[f];rfl
   have γ:∀j,j<4->¬2<=HH l (r.heard n) c N j:=fun j a e=>by have:=g.own a e;grind
   unfold Row.rest
   rw[aLb b,v,aLa (by omega)]
   have o:(r.heard n).tJ m=m:=by unfold Row.tJ;rw[aLa];rw[g.Vb q];simp
   rw[o]
   exact(g.eE u q b (by grind) (fun _=>g.c5 (fun j a=>by grind) (fun x w k=>absurd k (g.calm b w).1)) (fun _ j a=>by have:=γ j a;omega)).1
  .have f:r.heard n=(r.eZ n).lG n:=by unfold Row.heard;rw[aLa (fun e=>e B),aLa (by omega),aLb I.2]
   have p:HH l r c (n::N) i=3:=by grind
   have δ:r.owner=(i:Int):=by omega
   have α:Ai l (r.eZ n):=⟨h.row.core,h.row.owner,h.row.waits,h.row.apart,h.row.want F G,F,G⟩
   have g:Inv l (r.eZ n) m V c N:=by
    refine h.heard M L z rfl α (fun j a e=>⟨rfl,Iff.rfl⟩) ?_ (fun y _=>by grind);rw[p];constructor;constructor;intro e;omega;intro e;have:=h.row.apart i L e;omega;exact⟨fun _=>δ,fun _=>by omega⟩
   have b:=hq (r.eZ n) rfl
   have P:=hq (r.heard n) (by rw[f];rfl)
   have J:=g.eE (d:=(n.d0,n.d1)) F G b (.inl B) (fun _=>A.2.2 I.2) (fun _ j a=>by
    by_cases e:j=i;rw[e];unfold HH pd at p ⊢;rw[cR,aLa (by omega)] at p;show uK (c i) (eY 3 i l N+eY 3 i l r.waits)≠2/\uK (c i) (eY 3 i l N+eY 3 i l r.waits)≠4;grind;have:¬2<=HH l (r.eZ n) c N j:=fun U=>by have:=g.own a U;have:r.owner=(j:Int):=this;omega
    omega)
   unfold Row.rest
   rw[aLb P,f,aLa (by show ¬r.served.kind=0;omega)]
   have o:((r.eZ n).lG n).tJ m=(n.d0,n.d1):=by rfl
   rw[o]
   have Y:((r.eZ n).lG n).eE l (n.d0,n.d1)=(Row.say ((r.eZ n).eE l (n.d0,n.d1)).1 true (n.d0,n.d1),((r.eZ n).eE l (n.d0,n.d1)).2):=by
    unfold Row.eE;have T:((r.eZ n).lG n).served.kind=(r.eZ n).served.kind:=rfl;have U:((r.eZ n).lG n).first ((r.eZ n).lG n).served.core=(r.eZ n).first (r.eZ n).served.core:=rfl
    rw[T,U];split;rfl;split<;>rfl
   rw[Y]
   exact J.1.say J.2
 .have p:=A.1 B;have f:r.heard n=(r.eZ n).leave n.core:=by unfold Row.heard;rw[aLb B]
  have g:Inv l (r.heard n) (r.vK m n) V c N:=by
   refine h.heard M L z (by rw[f];rfl) O (fun j a e=>?_) ?_ (fun y W=>?_);rw[f];constructor;show gW r.sh n.core false j=r.sh j;unfold gW;grind;show(if r.owner=n.core then(-1:Int) else r.owner)=(j:Int)↔r.owner=(j:Int);grind;rw[f,p];constructor;show _↔gW r.sh n.core false i=true;unfold gW;grind;show _↔(if r.owner=n.core then(-1:Int) else r.owner)=(i:Int);grind;unfold Row.vK;by_cases hd:n.kC=true;grind;rw[aLa (fun e=>hd e.2)];exact h.c5 y (fun x w k=>by grind)
  have u:(r.heard n).busy=true:=by rw[f];exact F
  have q:(r.heard n).granted=false:=by rw[f];exact G
  have v:(r.heard n).served=r.served:=by rw[f];rfl
  have κ:=h.ks F
  unfold Row.rest
  by_cases b:(r.heard n).quiet=true
  .rw[aLb b];by_cases R:(r.heard n).served.kind=0
   .rw[aLb R];exact g.aGp u q b R
   .rw[aLa R];rw[v] at R;have k2:r.served.kind=2:=by omega
    have o:(r.heard n).tJ (r.vK m n)=r.vK m n:=by unfold Row.tJ;rw[aLa];rw[g.Vb q];simp
    rw[o]
    have ε:=fun j a=>g.c1 j a (by have:=g.t3 j a;rw[gE b a] at this;simp at this;omega) (by have:=g.t4 j a;unfold wI at this;grind)
    refine(g.eE u q b (by grind) (fun h0=>g.c5 (fun j a=>?_) (fun x w k=>absurd k (g.calm b w).1)) (fun e=>by rw[v] at e;omega)).1
    by_cases e:(j:Int)=(r.heard n).served.core
    .grind
    .have Z:=g.k2 u q (by rw[v];omega) j a (fun _=>e);rw[gE b a] at Z;grind
  grind
end
section
variable {l:Nat} {r:Row} {m V:Ln} {c:xc} {N:List aJ} {n:aJ}
theorem Yx {S:List Nat} {st k:Int} {i:Nat} (h:S.Nodup):eY k i l (eF l st S)=if k=11/\i∈S then 1 else 0:=by
 induction S with
 |nil=>simp[eF,eY]
 |cons a S d=>
  have b:=List.nodup_cons.1 h;show eY k i l (_::eF l st S)=_;rw[cR,d b.2];grind
theorem Inv.idle (h:Inv l r m V c N) (hb:r.busy=false):r.quiet=true/\r.granted=false/\r.told=false:=by
 have a:r.granted=false:=by cases e:r.granted with|false=>rfl|true=>have:=h.row.gb e;rw[hb] at this;cases this
 exact⟨h.row.still (.inr hb),a,h.Vb a⟩
theorem Inv.Nc {r':Row} {S:List Nat} {w:List aJ} {st:Int} (h:Inv l r m V c N) (hb:r.busy=false) (G:r.waits=n::w) (hk:n.kind=0\/n.kind=1\/n.kind=2)
  (Q:S.Nodup) (R:∀j∈S,j<4/\(r.sh j=true\/r.owner=(j:Int)))
  (J:n.kind≠1->∀j:Nat,j<4->(n.kind=2->(j:Int)≠n.core)->r.sh j=true\/r.owner=(j:Int)->j∈S)
  (d:n.kind=1->∀j∈S,r.owner=(j:Int)) (F:st=if n.kind=1 then 1 else 0)
  (e:r'.owner=r.owner/\r'.sh=r.sh/\r'.waits=w/\r'.busy=true/\r'.served=n/\r'.granted=false/\r'.told=false) (e2:∀j,j<4->r'.asked j=decide (j∈S)):
  Inv l r' m V c (eF l st S++N):=by
 obtain⟨D,hg,ht⟩:=h.idle hb
 have p:=h.row.waits n (by rw[G];simp)
 obtain⟨i,L,v,z⟩:=fR p.2.1
 have u:=fun x a=>h.calm D (x:=x) a
 have q:∀k j,eY k j l r.waits=eY k j l w+if n.kind=k/\j=i then 1 else 0:=fun k j=>by
  rw[G,cR];congr 1;simp only[v,p.1];grind
 have o:∀k j,eY k j l (eF l st S++N)=(if k=11/\j∈S then 1 else 0)+eY k j l N:=fun k j=>by rw[Ec,Yx Q]
 have g:∀j,HH l r' c (eF l st S++N) j=HH l r c N j:=fun j=>by
  unfold HH pd;rw[q,o,e.2.2.1,aLa (by omega),aLa (by omega)];simp
 have B:∀x∈eF l st S,x.kind=11/\x.line=l/\x.state=st/\∃j∈S,x.core=(j:Int):=fun x a=>by
  unfold eF at a;grind
 have g0:∀j,wI r j=0/\wI r' j=0:=fun j=>by unfold wI;grind
 have Y:∀x∈N,x.kind≠8:=fun x a k=>by
  have hb:=h.nc x a;obtain⟨j,b,y,_⟩:=fR hb.2;exact h.no8 b (g0 j).1 a k y
 have W:∀j,An r j=0:=fun j=>by unfold An;rw[hb];simp
 have s1:∀j,An r' j=if n.kind≠0/\j=i then 1 else 0:=fun j=>by
  unfold An;grind
 have f:∀x,x∈eF l st S++N->x∈eF l st S\/x∈N:=fun x a=>List.mem_append.1 a
 have A:∀x,x∈w->x∈r.waits:=fun x a=>by grind
 have T:∀j,j<4->(HH l r c N j=1↔r.sh j=true)/\(2<=HH l r c N j↔r.owner=(j:Int)):=fun j b=>h.c1 j b (by have:=h.t3 j b;rw[gE D b] at this;simp at this;omega) (by have:=h.t4 j b;rw[(g0 j).1] at this;omega)
 have E:=h.rq n (.inr (by rw[G];simp))
 rw[z] at E
 have I:n.kind=0\/n.kind=2\/r.owner≠n.core:=by
  by_cases U:n.kind=1;right;right;intro Z;have has:(c i).oM=true:=by
   have:=h.t1 i L;rw[q 1,aLb ⟨U,rfl⟩] at this;cases a:(c i).oM<;>simp_all
  have t:(c i).aw=false:=by grind
  have:=h.a2 i L has t;grind;omega
 constructor
 case row=>
  refine Ai.lz ⟨?_,?_,?_,?_,?_,e.2.2.2.1,e.2.2.2.2.2.1⟩
  .grind
  .rw[e.1];exact h.row.owner
  .rw[e.2.2.1];exact fun x a=>h.row.waits x (A x a)
  .grind
  grind
 case ks=>grind
 case kg=>grind
 case told=>grind
 case nc=>
  intro x a;rcases f x a with a|a
  .grind
  .exact h.nc x a
 case ex=>exact h.ex
 case uR=>exact h.uR
 case t1=>
  intro j b
  have d:=h.t1 j b
  simp only[q,W] at d
  rw[s1,e.2.2.1]
  grind
 case t2=>intro j b;have d:=h.t2 j b;rw[q,aLa (by omega)] at d;grind
 case t3=>
  intro j b
  have d:=h.t3 j b
  rw[gE D b] at d
  simp at d
  rw[e2 j b]
  simp only[o,d]
  grind
 case t4=>intro j b;have d:=h.t4 j b;grind
 case a1=>simp only[g];exact h.a1
 case a2=>simp only[g];exact h.a2
 case rq=>
  intro x a k
  refine h.rq x ?_ k
  grind
 case rs=>grind
 case c1=>grind
 case c2=>simp only[g];exact h.c2
 case Bn=>grind
 case gN=>grind
 case pN=>
  intro x a k
  rcases f x a with a|a
  .obtain⟨_,_,O,j,b,P⟩:=B x a;rw[e.1,e.2.1,e.2.2.2.2.1,O,F,P,Int.toNat_natCast];grind
  grind
 case rN=>grind
 case uN=>
  intro x a k
  refine h.uN x ?_ k
  grind
 case c3=>simp only[g];exact h.c3
 case c5=>simp only[g];exact fun d M=>h.c5 d (fun x a=>M x (List.mem_append.2 (.inr a)))
 grind
theorem Inv.aIj {w:List aJ} (h:Inv l r m V c N) (A:r.waits=n::w) (G:n.kind=1\/n.kind=2):Inv l (r.next w) m V c (nC 9 n.core l::N):=by
 have q:=h.row.waits n (by rw[A];simp);obtain⟨i,F,z,D⟩:=fR q.2.1;have t:∀k j,eY k j l r.waits=eY k j l w+if n.kind=k/\j=i then 1 else 0:=fun k j=>by
  rw[A,cR];grind
 have g:∀k j,eY k j l (nC 9 n.core l::N)=eY k j l N+if k=9/\j=i then 1 else 0:=fun k j=>by
  rw[cR];congr 1;simp only[nC,z];grind
 have f:∀j,HH l (r.next w) c (nC 9 n.core l::N) j=HH l r c N j:=fun j=>by
  unfold HH pd;rw[t,g,aLa (by omega),aLa (by omega)];rfl
 have b:∀x,x∈nC 9 n.core l::N->x=nC 9 n.core l\/x∈N:=fun x a=>List.mem_cons.1 a;have p:∀x,x∈w->x∈r.waits:=fun x a=>by grind
 have E:∀x,x=nC 9 n.core l->x.kind=9:=fun x e=>by rw[e];rfl
 constructor;exact Ch h.row A;exact h.ks;exact h.kg;exact h.told;intro x a;rcases b x a with rfl|a;exact⟨rfl,q.2.1⟩;exact h.nc x a;exact h.ex;exact h.uR;intro j d;have o:=h.t1 j d;have B:An (r.next w) j=An r j:=rfl;rw[B];simp only[t,g] at o ⊢;rw[show(r.next w).waits=w from rfl];grind;intro j d;have o:=h.t2 j d;rw[t,aLa (by omega)] at o;rw[show(r.next w).waits=w from rfl];grind;intro j d;have o:_=((r.next w).asked j).toNat:=h.t3 j d;grind;intro j d;have o:_=wI (r.next w) j:=h.t4 j d;grind;simp only[f];exact h.a1;simp only[f];exact h.a2;intro x a k;exact h.rq x (a.elim (fun a=> .inl ((b x a).resolve_left (fun e=>by grind))) (fun a=> .inr (p x a))) k;exact h.rs;intro j d v y;rw[f];simp only[g] at v y;simp at v y;exact h.c1 j d v y;simp only[f];exact h.c2;simp only[f];intro j d u x a k;rcases b x a with rfl|a;cases k;exact h.Bn j d u x a k;simp only[f];intro x a k;rcases b x a with rfl|a;cases k;exact h.gN x a k;intro x a k;rcases b x a with rfl|a;cases k;exact h.pN x a k;simp only[f];intro x a k;rcases b x a with rfl|a;cases k;exact h.rN x a k;intro x a k;exact h.uN x (a.elim (fun a=> .inl ((b x a).resolve_left (fun e=>by grind))) (fun a=> .inr (p x a))) k;simp only[f];exact h.c3;simp only[f];exact fun o u=>h.c5 o (fun x a=>u x (List.mem_cons_of_mem _ a));exact h.k2
theorem Inv.aIk {w:List aJ} (h:Inv l r m V c N) (i:r.waits=n::w) (p:n.kind=0):Inv l (r.next w) m V c N:=by
 have e:∀k j,k≠0->eY k j l r.waits=eY k j l w:=fun k j o=>by
  rw[i,cR,aLa (by omega)];rfl
 have a:∀j,HH l (r.next w) c N j=HH l r c N j:=fun j=>by unfold HH pd;rw[e 3 j (by omega)];rfl
 have d:∀x,x∈w->x∈r.waits:=fun x f=>by grind
 constructor;exact Ch h.row i;exact h.ks;exact h.kg;exact h.told;exact h.nc;exact h.ex;exact h.uR;intro j g;have b:=h.t1 j g;rw[e 1 j (by omega),e 2 j (by omega)] at b;exact b;intro j g;have b:=h.t2 j g;rw[e 3 j (by omega)] at b;exact b;exact h.t3;exact h.t4;simp only[a];exact h.a1;simp only[a];exact h.a2;exact fun x f=>h.rq x (f.imp id (d x));exact h.rs;simp only[a];exact h.c1;simp only[a];exact h.c2;simp only[a];exact h.Bn;simp only[a];exact h.gN;exact h.pN;simp only[a];exact h.rN;exact fun x f=>h.uN x (f.imp id (d x));simp only[a];exact h.c3;simp only[a];exact h.c5;exact h.k2
theorem Inv.zu (h:Inv l r m V c N):Inv l (r.wait (mX l)) m V c N:=by
 have f:∀k j,k≠0->eY k j l (r.wait (mX l)).waits=eY k j l r.waits:=fun k j i=>by
  show eY k j l (r.waits++[mX l])=_;rw[Ec,cR,gz,aLa (by simp[mX,aJ.zero];omega)];rfl
 have b:∀j,HH l (r.wait (mX l)) c N j=HH l r c N j:=fun j=>by unfold HH pd;grind
 have d:∀x,x∈(r.wait (mX l)).waits->x.kind≠0->x∈r.waits:=fun x a k=>by
  have a:x∈r.waits++[mX l]:=a;rcases List.mem_append.1 a with a|a;exact a;rw[List.mem_singleton.1 a] at k;exact absurd rfl k
 constructor;exact Cs h.row rfl ⟨by show(0:Int)<=0;omega,by show(0:Int)<4;omega⟩ (.inl rfl);exact h.ks;exact h.kg;exact h.told;exact h.nc;exact h.ex;exact h.uR;intro j e;have g:=h.t1 j e;rw[f 1 j (by omega),f 2 j (by omega)];exact g;intro j e;have g:=h.t2 j e;grind;exact h.t3;exact h.t4;simp only[b];exact h.a1;simp only[b];exact h.a2;exact fun x a k=>h.rq x (a.imp id (fun a=>d x a (by omega))) k;exact h.rs;simp only[b];exact h.c1;simp only[b];exact h.c2;simp only[b];exact h.Bn;simp only[b];exact h.gN;exact h.pN;simp only[b];exact h.rN;exact fun x a k=>h.uN x (a.imp id (fun a=>d x a (by omega))) k;simp only[b];exact h.c3;simp only[b];exact h.c5;exact h.k2
theorem Inv.te {w:List aJ} (h:Inv l r m V c N) (hb:r.busy=false) (D:r.waits=n::w) (Q:n.kind=3):
  Inv l ((r.next w).leave n.core) (if r.owner=n.core/\n.kC=true then(n.d0,n.d1) else m) V c (nC 10 n.core l::N):=by
 obtain⟨R,hg,ht⟩:=h.idle hb
 have q:=h.row.waits n (by rw[D];simp)
 obtain⟨i,B,v,J⟩:=fR q.2.1
 have f:=fun x a=>h.calm R (x:=x) a
 have t:∀k j,eY k j l r.waits=eY k j l w+if k=3/\j=i then 1 else 0:=fun k j=>by
  rw[D,cR];congr 1;simp only[v,q.1,Q];grind
 have o:∀k j,eY k j l (nC 10 n.core l::N)=eY k j l N+if k=10/\j=i then 1 else 0:=fun k j=>by
  rw[cR];congr 1;simp only[nC,v];grind
 have g0:∀j,wI r j=0/\wI ((r.next w).leave n.core) j=0:=fun j=>⟨by unfold wI;rw[hg];simp,by unfold wI;rw[aLa];intro e;have:r.granted=true:=e.1;grind⟩
 have e8:∀x∈N,x.kind≠8:=fun x a k=>by
  have hb:=h.nc x a;obtain⟨j,d,I,_⟩:=fR hb.2;exact h.no8 d (g0 j).1 a k I
 have u:∀j,j<4->(HH l r c N j=1↔r.sh j=true)/\(2<=HH l r c N j↔r.owner=(j:Int)):=fun j d=>h.c1 j d (by have:=h.t3 j d;rw[gE R d] at this;simp at this;omega) (by have:=h.t4 j d;grind)
 have T:(c i).gi=true/\eY 3 i l N=0/\eY 3 i l w=0/\eY 10 i l N=0:=by
  have:=h.t2 i B;rw[t,aLb ⟨rfl,rfl⟩] at this;cases a:(c i).gi with
  |false=>grind
  |true=>grind
 have z:(c i).st=0/\(c i).oM=false:=by
  have:=h.ex i B;rw[T.1] at this;constructor;grind;grind
 have M:HH l r c N i=(c i).gs:=by
  unfold HH uK pd;rw[t,z.1,T.1];simp
 have F:HH l ((r.next w).leave n.core) c (nC 10 n.core l::N) i=0:=by
  unfold HH uK;have:pd l ((r.next w).leave n.core) (nC 10 n.core l::N) i=0:=by
   unfold pd;rw[o];show _+eY 3 i l w=0;grind
  grind
 have W:∀j,j≠i->HH l ((r.next w).leave n.core) c (nC 10 n.core l::N) j=HH l r c N j:=fun j e=>by
  unfold HH;have:pd l ((r.next w).leave n.core) (nC 10 n.core l::N) j=pd l r N j:=by
   unfold pd;rw[o,t];show _+eY 3 j l w=_;simp[e]
  rw[this]
 have hle:∀j,j<4->HH l ((r.next w).leave n.core) c (nC 10 n.core l::N) j=HH l r c N j\/(j=i/\HH l ((r.next w).leave n.core) c (nC 10 n.core l::N) j=0):=fun j _=>by
  grind
 have g:∀x,x∈nC 10 n.core l::N->x=nC 10 n.core l\/x∈N:=fun x a=>List.mem_cons.1 a
 have y:∀x,x∈w->x∈r.waits:=fun x a=>by grind
 have β:∀x,x=nC 10 n.core l->x.kind=10:=fun x e=>by rw[e];rfl
 have A:=h.uN n (.inr (by rw[D];simp)) Q
 rw[J] at A
 constructor
 case row=>exact Ae (Ch h.row D)
 case ks=>exact h.ks
 case kg=>exact h.kg
 case told=>exact h.told
 case nc=>intro x a;rcases g x a with rfl|a;exact⟨rfl,q.2.1⟩;exact h.nc x a
 case ex=>exact h.ex
 case uR=>exact h.uR
 case t1=>
  intro j d
  have p:=h.t1 j d
  have U:An ((r.next w).leave n.core) j=An r j:=rfl
  rw[U]
  simp only[t,o] at p ⊢
  rw[show((r.next w).leave n.core).waits=w from rfl]
  grind
 case t2=>
  intro j d
  have p:=h.t2 j d
  simp only[t,o] at p ⊢
  show eY 3 j l N+_+eY 3 j l w+_=_
  grind
 case t3=>intro j d;have p:_=(((r.next w).leave n.core).asked j).toNat:=h.t3 j d;grind
 case t4=>intro j d;have p:=h.t4 j d;grind
 case a1=>intro j d G;have:=h.a1 j d G;grind
 case a2=>intro j d G hb;have:=h.a2 j d G hb;grind
 case rq=>intro x a k;exact h.rq x (a.elim (fun a=> .inl ((g x a).resolve_left (fun e=>by grind))) (fun a=> .inr (y x a))) k
 case rs=>exact h.rs
 case c1=>
  intro j d _ _
  by_cases e:j=i
  .rw[e,F];constructor
   .show _↔gW r.sh n.core false i=true;unfold gW;grind
   .show _↔(if r.owner=n.core then(-1:Int) else r.owner)=(i:Int);grind
  .rw[W j e];have p:=u j d;constructor
   .show _↔gW r.sh n.core false j=true;unfold gW;grind
   .show _↔(if r.owner=n.core then(-1:Int) else r.owner)=(j:Int);grind
 case c2=>
  intro j d Y k α e
  have E:=h.c2 j d
  grind
 case Bn=>grind
 case gN=>grind
 case pN=>grind
 case rN=>grind
 case uN=>intro x a k;exact h.uN x (a.elim (fun a=> .inl ((g x a).resolve_left (fun e=>by grind))) (fun a=> .inr (y x a))) k
 case c3=>
  intro j d E
  rcases hle j d with L|L
  .rw[L] at E;exact h.c3 j d E
  grind
 case c5=>
  intro p _
  by_cases ho:r.owner=n.core
  .have Y:=(u i B).2.2 (by omega);have O:=h.c3 i B (by omega);unfold tJ at O;rw[aLa (by simpa using z.1)] at O;by_cases P:n.kC=true
   .grind
   .rw[aLa (fun e=>P e.2)];have Z:¬((c i).gs=3\/(c i).gs=4):=fun e=>P (A.2 e);refine h.c5 (fun j d=>?_) (fun x a k=>absurd k (f x a).1);grind
  .rw[aLa (fun e=>ho e.1)];refine h.c5 (fun j d=>?_) (fun x a k=>absurd k (f x a).1);grind
 case k2=>intro b;rw[show((r.next w).leave n.core).busy=r.busy from rfl,hb] at b;cases b
theorem Inv.begun {w:List aJ} {j:Int->Int×Bool} (h:Inv l r m V c N) (hb:r.busy=false) (f:r.waits=n::w):
  Inv l (Row.begun (r.next w) l m n j).1.1 (Row.begun (r.next w) l m n j).1.2 V c ((Row.begun (r.next w) l m n j).2++N):=by
 obtain⟨B,t,y⟩:=h.idle hb
 have L:=h.row.waits n (by rw[f];simp)
 obtain⟨i,hi,G,I⟩:=fR L.2.1
 have p:∀j,j<4->r.asked j=false:=fun j o=>gE B o
 have Q:∀j,j<4->(HH l r c N j=1↔r.sh j=true)/\(2<=HH l r c N j↔r.owner=(j:Int)):=fun j o=>h.c1 j o (by have:=h.t3 j o;rw[gE B o] at this;simp at this;omega) (by have:=h.t4 j o;unfold wI at this;rw[t] at this;simp at this;omega)
 have β:=h.row.owner
 unfold Row.begun
 by_cases Y:n.kind=3
 .rw[aLb Y];exact h.te hb f Y
 .rw[aLa Y];by_cases z:n.kind=1\/n.kind=2
  .rw[aLb z];by_cases o:(j n.world).2=true
   .rw[aLb o];have d:((r.next w).serve n (j n.world).1).served=n:=rfl;unfold Row.get;by_cases D:n.kind=2
    .simp only[aLb D];unfold Row.getM;by_cases A:((r.next w).serve n (j n.world).1).first n.core≠ -1
     .rw[aLb (by rw[d];exact A)];rw[d];have v:∀a,a∈((r.next w).serve n (j n.world).1).gA n.core->a<4/\(r.sh a=true\/r.owner=(a:Int)):=fun a b=>by
       have:=rH.1 b;have E:r.holds n.core a=true:=this.2;unfold Row.holds at E;grind
      refine h.Nc hb f (.inr (.inr D)) J3 v (fun _ a b u uK=>rH.2 ⟨b,?_⟩) (fun e=>by omega) (by grind) ⟨rfl,rfl,rfl,rfl,rfl,t,y⟩ (fun a b=>?_)
      .show r.holds n.core a=true;unfold Row.holds;grind
      .show(r.asked a||(((r.next w).serve n (j n.world).1).gA n.core).contains a)=_;grind
     .rw[aLa (by rw[d];exact A)];have R:((r.next w).serve n (j n.world).1).first n.core= -1:=Classical.not_not.1 A
      have J:=G0.1 R
      have O:=h.Nc (r':=(r.next w).serve n (j n.world).1) (S:=[]) (st:=0) hb f (.inr (.inr D)) List.nodup_nil (fun _ e=>by cases e)
       (fun _ a b u uK=>by
        have E:r.sh a=false/\(a:Int)≠r.owner:=J a b (u D);grind) (fun _ _ e=>by cases e) (by grind) ⟨rfl,rfl,rfl,rfl,rfl,t,y⟩ (fun a b=>by show r.asked a=_;grind)
      have g:((r.next w).serve n (j n.world).1).tJ m=m:=by unfold Row.tJ;rw[aLa];show ¬r.told=true;rw[y];simp
      rw[g]
      have F:∀a,HH l ((r.next w).serve n (j n.world).1) c (eF l 0 []++N) a=HH l r c N a:=fun a=>by
       unfold HH pd;show uK (c a) (eY 3 a l N+eY 3 a l w)=_;rw[f,cR,aLa (by omega)];rfl
      refine(O.eE rfl t B (.inr D) (fun h0=>?_) (fun e=>by grind)).1
      refine h.c5 (fun a b=>?_) (fun x u k=>absurd k (h.calm B u).1)
      by_cases e:a=i
      .rw[F,d,I] at h0;rw[e];omega
      .have E:r.sh a=false/\(a:Int)≠r.owner:=J a b (by rw[G];omega);have:¬2<=HH l r c N a:=fun Z=>by have:=(Q a b).2.1 Z;omega
       omega
    .simp only[aLa D];have q:n.kind=1:=by omega
     have U:=(h.rq n (.inr (by rw[f];simp)) (.inl q))
     rw[I] at U
     have has:(c i).oM=true:=by
      have:=h.t1 i hi;rw[f,cR (k:=1),aLb ⟨q,G,L.1⟩] at this;cases u:(c i).oM<;>simp_all
     have P:(c i).aw=false:=by grind
     have h0:=h.a2 i hi has P
     have T:r.owner≠n.core:=fun e=>by grind
     have W:((r.next w).serve n (j n.world).1).nZ=(r.next w).serve n (j n.world).1:=by unfold Row.nZ;exact aLa T
     rw[W]
     unfold Row.Wb
     by_cases M:r.owner≠ -1
     .rw[aLb (show((r.next w).serve n (j n.world).1).owner≠ -1 from M)];refine h.Nc hb f (.inr (.inl q)) (List.nodup_cons.2 ⟨by simp,List.nodup_nil⟩) (fun a b=>?_) (fun e=>absurd q e) (fun _ a b=>?_) (by rw[aLb q]) ⟨rfl,rfl,rfl,rfl,rfl,t,y⟩ (fun a b=>?_)
      .have b:a=((r.next w).serve n (j n.world).1).owner.toNat:=by simpa using b
       have b:a=r.owner.toNat:=b
       grind
      .have b:a=((r.next w).serve n (j n.world).1).owner.toNat:=by simpa using b
       have b:a=r.owner.toNat:=b
       omega
      .show(r.asked a||[r.owner.toNat].contains a)=_;rw[p a b];simp;rfl
     .rw[aLa (show ¬((r.next w).serve n (j n.world).1).owner≠ -1 from M)];have M:r.owner= -1:=Classical.not_not.1 M;have O:=h.Nc (r':=(r.next w).serve n (j n.world).1) (S:=[]) (st:=1) hb f (.inr (.inl q)) List.nodup_nil (fun _ e=>by cases e)
       (fun e=>absurd q e) (fun _ _ e=>by cases e) (by rw[aLb q]) ⟨rfl,rfl,rfl,rfl,rfl,t,y⟩ (fun a b=>by show r.asked a=_;grind)
      have g:((r.next w).serve n (j n.world).1).tJ m=m:=by unfold Row.tJ;rw[aLa];show ¬r.told=true;rw[y];simp
      rw[g]
      have F:∀a,HH l ((r.next w).serve n (j n.world).1) c (eF l 1 []++N) a=HH l r c N a:=fun a=>by
       unfold HH pd;show uK (c a) (eY 3 a l N+eY 3 a l w)=_;rw[f,cR,aLa (by omega)];rfl
      have α:∀a,a<4->¬2<=HH l r c N a:=fun a b Z=>by grind
      refine(O.eE rfl t B (.inl q) (fun _=>h.c5 (fun a b=>?_) (fun x u k=>absurd k (h.calm B u).1)) (fun _ a b=>?_)).1
      .grind
      grind
   .rw[aLa o];exact h.aIj f z
  .rw[aLa z];have k0:n.kind=0:=by grind
   by_cases A:(r.next w).first (-1)= -1
   .rw[aLb A];exact h.aIk f k0
   .rw[aLa A];have v:∀a,a∈(r.next w).gA (-1)->a<4/\(r.sh a=true\/r.owner=(a:Int)):=fun a b=>by
     have:=rH.1 b;have E:r.holds (-1) a=true:=this.2;unfold Row.holds at E;grind
    refine h.Nc hb f (.inl k0) J3 v (fun _ a b u uK=>rH.2 ⟨b,?_⟩) (fun e=>by omega) (by grind) ⟨rfl,rfl,rfl,rfl,rfl,t,y⟩ (fun a b=>?_)
    .show r.holds (-1) a=true;unfold Row.holds;grind
    .show(r.asked a||((r.next w).gA (-1)).contains a)=_;grind
theorem Inv.wq {a:Ln} (h:Inv l r m V c N) (d:∀i,i<4->HH l r c N i=0) (f:∀x∈N,x.kind≠8/\(x.kind=5->x.kC=false)):Inv l r a a c N:=by
 constructor;exact h.row;exact h.ks;exact h.kg;exact h.told;exact h.nc;exact h.ex;exact h.uR;exact h.t1;exact h.t2;exact h.t3;exact h.t4;exact h.a1;exact h.a2;exact h.rq;exact h.rs;exact h.c1;exact h.c2;exact h.Bn;grind;exact h.pN;exact fun x b k=>⟨(h.rN x b k).1,(h.rN x b k).2.1,fun e=>by grind⟩;exact h.uN;grind;exact fun _ _=>rfl;exact h.k2
theorem Inv.zero (l:Nat):Inv l xN (0,0) (0,0) (fun _=>⟨0,(0,0),false,false,false,0,(0,0)⟩) []:=by
 have b:∀i,HH l xN (fun _=>⟨0,(0,0),false,false,false,0,(0,0)⟩) [] i=0:=fun i=>by unfold HH uK pd;simp
 constructor;exact aCn l;intro e;cases e;intro e;cases e;intro e;cases e;intro x a;cases a;intro _ _ _;rfl;intro _ _;decide;intro _ _;rfl;intro _ _;rfl;intro _ _;rfl;intro _ _;rfl;intro _ _ e;cases e;intro _ _ e;cases e;intro x a;rcases a with a|a<;>cases a;intro e;cases e;intro i d _ _;rw[b];simp[xN]<;>omega;grind;grind;intro x a;cases a;intro x a;cases a;intro x a;cases a;intro x a;rcases a with a|a<;>cases a;grind;intro _ _;rfl;intro e;cases e
end
section
variable {n ways:Nat} {S:Nat->List Th} {no:Int} {x:pQ} {s:gZ} {C:bM} {core:Int}
def cF (n:Nat) (s:gZ) (l:Nat):CL where
 st:=if(bA n s.S l).2=0 then(bA n s.S l).1.st else 0
 d:=if(bA n s.S l).2=0 then(bA n s.S l).1.d else(0,0)
 oM:=s.D9&&decide (s.al=l)
 aw:=s.D9&&decide (s.al=l)&&s.aw
 gi:=s.sS&&decide (s.gl=l)
 gs:=if s.sS=true/\s.gl=l then s.gc.st else 0
 gd:=if s.sS=true/\s.gl=l then s.gc.d else(0,0)
theorem Iu {l:Nat}:(cF n s l).st=if(bA n s.S l).2=0 then(bA n s.S l).1.st else 0:=rfl
theorem aAq {l:Nat}:(cF n s l).d=if(bA n s.S l).2=0 then(bA n s.S l).1.d else(0,0):=rfl
theorem aCo {l:Nat}:(cF n s l).gs=if s.sS=true/\s.gl=l then s.gc.st else 0:=rfl
theorem aCp {l:Nat}:(cF n s l).gd=if s.sS=true/\s.gl=l then s.gc.d else(0,0):=rfl
theorem Q2 {l:Int} {L:List Th} (h:l≠no):Go.Ct.get l (rem no L)=Go.Ct.get l L:=by
 induction L with
 |nil=>rfl
 |cons t L a=>
  unfold rem;split;rename_i e;unfold Go.Ct.get;grind;unfold Go.Ct.get at a ⊢;grind
theorem z8 {l:Int} {L:List Th} (h:l≠no):Go.Ct.get l (L++[(no,x)])=Go.Ct.get l L:=by
 unfold Go.Ct.get;grind
theorem Mq {l:Int} {L:List Th} {m:Nat} (h:setOf n l=m->Go.Ct.get l L=Go.Ct.get l (S m)):bA n (aR S m L) l=bA n S l:=by
 unfold bA;split;rfl;by_cases e:setOf n l=m;rw[e,fG,h e];rw[cH e]
theorem kK {l:Int} (h:l≠no):bA n (gG n S no) l=bA n S l:=by
 unfold gG;split;rfl;exact Mq fun _=>Q2 h
theorem kS {l:Int} (h:l≠no):bA n (kJ n ways S no x).1 l=bA n S l:=by
 unfold kJ;split;exact Mq fun _=>Q2 h;exact Mq fun _=>by rw[z8 h,Q2 h]
theorem Dj {l:Int} (h:l≠no):bA n (wP n ways S no) l=bA n S l:=by
 unfold wP;split;rw[kS h,kK h];exact kK h
theorem G8 (a:∀i,oA ways (S i)) (b:0<=no):(bA n (gG n S no) no).2=12:=by
 unfold gG;rw[aLa (by omega)];unfold bA;rw[aLa (by omega),fG,eu (Jk (a _).nd)]
theorem Ni {i:Nat}:(gG n S no i).length<=(S i).length:=by
 unfold gG;split;exact Nat.le_refl _;unfold aR;split;rename_i e;subst e;exact vE.length_le;grind
theorem fh {i:Nat} (b:(bA n S no).2=0):((kJ n ways S no x).1 i).length<=(S i).length:=by
 obtain⟨a,d⟩:=oG b;have:=Ki a;unfold kJ;split;unfold aR;grind;unfold aR;grind
theorem Rv (f:∀i,oA ways (S i)) {i:Nat} (a:(bA n S no).2=0):(wP n ways S no i).length<=(S i).length:=by
 obtain⟨b,d⟩:=oG a;have g:=Ki b;unfold wP;rw[aLb a];unfold kJ;have e:rem no (gG n S no (setOf n no))=rem no (S (setOf n no)):=by rw[Q6 d,dm (f _).nd]
 rw[e];split;unfold aR;dsimp only;split;grind;exact Ni;unfold aR;dsimp only;split;grind;exact Ni
theorem ch (d:(bA n S no).2=0):(gG n S no (setOf n no)).length<(S (setOf n no)).length:=by
 obtain⟨a,b⟩:=oG d;rw[Q6 b];exact Ki a
structure Room (C:bM) (s:gZ):Prop where
 al:s.D9=true->(0<=s.al/\s.al<C.lines)/\((bA C.aI.toNat s.S s.al).2=0\/(s.S (setOf C.aI.toNat s.al)).length<C.ways.toNat)
 gl:s.sS=true->0<=s.gl/\s.gl<C.lines
 bd:∀l,(bA C.aI.toNat s.S l).2=0->l<C.lines
theorem K5 {l:Int}:(bA n gZ.new.S l).2≠0:=by
 unfold bA gZ.new Go.Ct.get;split<;>simp
theorem Room.new:Room C gZ.new:=⟨(fun e=>by cases e),(fun e=>by cases e),fun _ e=>absurd e K5⟩
theorem ia {l a o:Int} (g:iL C s) (h:Room C s):Room C (mV C s l a o):=by
 unfold mV;split
 .rename_i i;have f:=(qF i).2.2.1;refine⟨fun e=>⟨(h.al e).1,?_⟩,h.gl,fun k j=>?_⟩;rotate_left;by_cases b:k=l;rw[b];exact(qF i).1.2;exact h.bd k (by rw[<-j];exact(congrArg Prod.snd (Dj b)).symm);rcases(h.al e).2 with d|d;left;by_cases b:s.al=l;show(bA C.aI.toNat (wP C.aI.toNat C.ways.toNat s.S l) s.al).2=0;rw[b,Ft g.aI f];exact f;show(bA C.aI.toNat (wP C.aI.toNat C.ways.toNat s.S l) s.al).2=0;rw[Dj b];exact d;right;exact Nat.lt_of_le_of_lt (Rv g.aI f) d
 exact h
theorem Xq {l a o v:Int} (g:iL C s) (h:Room C s):Room C (jD C s l a o v):=by
 unfold jD;split
 .rename_i f;have i:=(qF f).2.2.1;refine⟨fun e=>⟨(h.al e).1,?_⟩,h.gl,fun k j=>?_⟩;rotate_left;by_cases b:k=l;rw[b];exact(qF f).1.2;exact h.bd k (by rw[<-j];exact(congrArg Prod.snd (kS b)).symm);rcases(h.al e).2 with d|d;left;show(bA C.aI.toNat (kJ C.aI.toNat C.ways.toNat s.S l _).1 s.al).2=0;by_cases b:s.al=l;rw[b,Ay g.aI (qF f).1.1 (Ar g.aI i)];rw[kS b];exact d;right;exact Nat.lt_of_le_of_lt (fh i) d
 exact h
theorem aA0 {l a g:Int} {k:Nat} (b:iL C s):cF C.aI.toNat (mV C s l a g) k=cF C.aI.toNat s k:=by
 unfold mV;split;rename_i f;have d:=(qF f).2.2.1;unfold cF;have:bA C.aI.toNat (wP C.aI.toNat C.ways.toNat s.S l) k=bA C.aI.toNat s.S k:=by
  by_cases e:(k:Int)=l;rw[e];exact Ft b.aI d;exact Dj e
 simp only[this];rfl
theorem Zh {l a b v:Int} {k:Nat} (h:(k:Int)≠l):cF C.aI.toNat (jD C s l a b v) k=cF C.aI.toNat s k:=by
 unfold jD;split;unfold cF;simp only[kS h];rfl
theorem ra {a i v:Int} {k:Nat} (g:iL C s) (h:mD C s.S k a i true=0):
  ((cF C.aI.toNat s k).st=2\/(cF C.aI.toNat s k).st=4)/\cF C.aI.toNat (jD C s k a i v) k={cF C.aI.toNat s k with st:=4,d:=vq (cF C.aI.toNat s k).d a v}:=by
 have b:=qF h
 have e:=b.2.2.1
 have f:(cF C.aI.toNat s k).st=(bA C.aI.toNat s.S k).1.st:=by rw[Iu,aLb e]
 constructor
 .rw[f];have:=b.2.2.2;unfold lS tL at this;simpa using this
 .unfold jD;rw[aLb h];unfold cF;have:=Ay (ways:=C.ways.toNat) (x:=pD C.aI.toNat s.S k a v) g.aI b.1.1 (Ar g.aI e);simp only[this,e,if_true];rfl
theorem kx {nt:aJ} (b:nt.kind=9) {k:Nat} (f:nt.line=k) (d:k<C.lines) (a:(cF C.aI.toNat s k).oM=true):
  fX C core s nt=({s with al:=0,aw:=false,D9:=false},[],0)/\cF C.aI.toNat {s with al:=0,aw:=false,D9:=false} k={cF C.aI.toNat s k with oM:=false,aw:=false}/\
   ∀j:Nat,j≠k->cF C.aI.toNat {s with al:=0,aw:=false,D9:=false} j=cF C.aI.toNat s j:=by
 have a:s.D9=true/\s.al=k:=by unfold cF at a;simpa using a
 refine⟨?_,?_,?_⟩
 .unfold fX;rw[aLa (by omega),aLb b,aLa (by unfold sB;simp;omega)];unfold Gj;grind
 .unfold cF;simp
 .intro j e;unfold cF;have:decide (s.al=(j:Int))=false:=decide_eq_false (by omega);simp[this]
theorem Uc {nt:aJ} (b:nt.kind=10) {k:Nat} (f:nt.line=k) (d:k<C.lines) (a:(cF C.aI.toNat s k).gi=true):
  fX C core s nt=({s with gl:=0,gc:=pQ.zero,sS:=false},[],0)/\cF C.aI.toNat {s with gl:=0,gc:=pQ.zero,sS:=false} k={cF C.aI.toNat s k with gi:=false,gs:=0,gd:=(0,0)}/\
   ∀j:Nat,j≠k->cF C.aI.toNat {s with gl:=0,gc:=pQ.zero,sS:=false} j=cF C.aI.toNat s j:=by
 have a:s.sS=true/\s.gl=k:=by unfold cF at a;simpa using a
 refine⟨?_,?_,?_⟩
 .unfold fX;rw[aLa (by omega),aLa (by omega),aLb b,aLa (by unfold sB;simp;omega)];unfold sW;grind
 .unfold cF;simp
 .intro j e;unfold cF;grind
theorem Y6 {nt:aJ} (y:nt.kind=8) {k:Nat} (g:nt.line=k) (z:k<C.lines) (o:iL C s) (q:Room C s) (a:(cF C.aI.toNat s k).oM=true) (_A:1<=nt.state/\nt.state<=4):
  ∃b,fX C core s nt=(b,[⟨4,core,nt.line,0,0,0,0,false,0⟩],0)/\b={s with S:=b.S,al:=0,aw:=false,D9:=false}/\
   cF C.aI.toNat b k={cF C.aI.toNat s k with st:=nt.state,d:=if(cF C.aI.toNat s k).st≠0 then(cF C.aI.toNat s k).d else(nt.d0,nt.d1),oM:=false,aw:=false}/\
   (∀j:Nat,j≠k->cF C.aI.toNat b j=cF C.aI.toNat s j)/\Room C b:=by
 have a:s.D9=true/\s.al=k:=by unfold cF at a;simpa using a
 have f:(kJ C.aI.toNat C.ways.toNat s.S nt.line (jB C s nt)).2=0:=by
  rcases(q.al a.1).2 with h|h;rw[a.2,<-g] at h;exact Ar o.aI h;rw[a.2,<-g] at h;unfold kJ;have:=vE (no:=nt.line) (l:=s.S (setOf C.aI.toNat nt.line));grind
 have i:=Ay (ways:=C.ways.toNat) (x:=jB C s nt) o.aI (by omega:0<=nt.line) f
 refine⟨{s with S:=(kJ C.aI.toNat C.ways.toNat s.S nt.line (jB C s nt)).1,al:=0,aw:=false,D9:=false},?_,rfl,?_,?_,(fun e=>by cases e),q.gl,fun j t=>?_⟩
 .unfold fX;rw[aLb y,aLa (by unfold sB;simp;omega)];unfold vI;grind
 .unfold cF;rw[g] at i ⊢;simp only[i,if_true];have e:(jB C s nt).d=if(bA C.aI.toNat s.S k).2=0 then(bA C.aI.toNat s.S k).1.d else(nt.d0,nt.d1):=by unfold jB;rw[g]
  rw[e]
  by_cases p:(bA C.aI.toNat s.S k).2=0
  .have:=sV o.aI p;have v:(bA C.aI.toNat s.S k).1.st≠0:=by omega
   simp[jB,p,v]
  .simp[jB,p]
 .intro j t;unfold cF;have w:decide (s.al=(j:Int))=false:=decide_eq_false (by omega);rw[g];simp only[kS (show(j:Int)≠(k:Int) by omega),w];simp
 .by_cases u:j=nt.line
  .omega
  .exact q.bd j (by rw[<-t];exact(congrArg Prod.snd (kS u)).symm)
theorem ag {nt:aJ} (P:nt.kind=11) {k:Nat} (o:nt.line=k) (Q:k<C.lines) (w:iL C s) (i:Room C s) (T:nt.state=0\/nt.state=1)
  (M:(cF C.aI.toNat s k).st≠0\/((cF C.aI.toNat s k).st=0/\(cF C.aI.toNat s k).gi=true)):
  ∃f y,fX C core s nt=(f,[y],0)/\f.al=s.al/\f.aw=s.aw/\f.D9=s.D9/\f.gl=s.gl/\f.sS=s.sS/\Room C f/\
   (y.kind=5/\y.core=core/\y.line=k/\y.world=0/\y.no=0/\∀σ δ,σ=(if(cF C.aI.toNat s k).st≠0 then(cF C.aI.toNat s k).st else(cF C.aI.toNat s k).gs)->δ=(if(cF C.aI.toNat s k).st≠0 then(cF C.aI.toNat s k).d else(cF C.aI.toNat s k).gd)->
    y.state=gH σ nt.state/\(y.kC=true↔σ=3\/σ=4)/\(y.kC=true->(y.d0,y.d1)=δ))/\
   ((cF C.aI.toNat f k).oM=(cF C.aI.toNat s k).oM/\(cF C.aI.toNat f k).aw=(cF C.aI.toNat s k).aw/\(cF C.aI.toNat f k).gi=(cF C.aI.toNat s k).gi/\(cF C.aI.toNat f k).gd=(cF C.aI.toNat s k).gd)/\
   ((cF C.aI.toNat s k).st≠0->(cF C.aI.toNat f k).st=gH (cF C.aI.toNat s k).st nt.state/\((cF C.aI.toNat f k).st≠0->(cF C.aI.toNat f k).d=(cF C.aI.toNat s k).d)/\(cF C.aI.toNat f k).gs=(cF C.aI.toNat s k).gs)/\
   ((cF C.aI.toNat s k).st=0->(cF C.aI.toNat f k).st=0/\(cF C.aI.toNat f k).gs=gH (cF C.aI.toNat s k).gs nt.state)/\
   (∀j:Nat,j≠k->cF C.aI.toNat f j=cF C.aI.toNat s j):=by
 have u:∀(x:pQ),(gY core nt x).kind=5/\(gY core nt x).core=core/\(gY core nt x).line=nt.line/\(gY core nt x).world=0/\(gY core nt x).no=0/\(gY core nt x).state=gH x.st nt.state/\((gY core nt x).kC=true↔x.st=3\/x.st=4)/\((gY core nt x).kC=true->((gY core nt x).d0,(gY core nt x).d1)=x.d):=fun x=>by
  unfold gY;split;refine⟨rfl,rfl,rfl,rfl,rfl,rfl,?_,fun _=>rfl⟩;show jR x.st=true↔_;unfold jR;simp;rename_i e;refine⟨rfl,rfl,rfl,rfl,rfl,rfl,?_,fun e=>by cases e⟩;show false=true↔_;unfold Dt at e;grind
 have U:fX C core s nt=nV C core s nt:=by
  unfold fX;rw[aLa (by omega),aLa (by omega),aLa (by omega),aLb P,aLa (by unfold sB;simp;omega)]
 rw[U]
 unfold nV
 rw[aLa (by omega)]
 by_cases t:(bA C.aI.toNat s.S nt.line).2=0
 .rw[aLb t];have I:=sV w.aI t;have p:(bA C.aI.toNat s.S k).2=0:=by rw[<-o];exact t
  have d:(cF C.aI.toNat s k).st=(bA C.aI.toNat s.S nt.line).1.st:=by rw[Iu,aLb p,o]
  have E:(cF C.aI.toNat s k).d=(bA C.aI.toNat s.S nt.line).1.d:=by rw[aAq,aLb p,o]
  have D:(cF C.aI.toNat s k).st≠0:=by rw[d];omega
  have b:=u (bA C.aI.toNat s.S nt.line).1
  have O:∀v:Nat->List Th,({s with S:=v}:gZ).al=s.al:=fun _=>rfl
  have a:∀v:Nat->List Th,(cF C.aI.toNat {s with S:=v} k).oM=(cF C.aI.toNat s k).oM/\(cF C.aI.toNat {s with S:=v} k).aw=(cF C.aI.toNat s k).aw/\(cF C.aI.toNat {s with S:=v} k).gi=(cF C.aI.toNat s k).gi/\(cF C.aI.toNat {s with S:=v} k).gd=(cF C.aI.toNat s k).gd/\(cF C.aI.toNat {s with S:=v} k).gs=(cF C.aI.toNat s k).gs:=fun _=>⟨rfl,rfl,rfl,rfl,rfl⟩
  by_cases F:gH (bA C.aI.toNat s.S nt.line).1.st nt.state=0
  .simp only[aLb F];refine⟨_,_,rfl,rfl,rfl,rfl,rfl,rfl,⟨fun e=>⟨(i.al e).1,?_⟩,i.gl,fun j z=>?_⟩,⟨b.1,b.2.1,by rw[b.2.2.1,o],b.2.2.2.1,b.2.2.2.2.1,fun σ δ L J=>?_⟩,⟨(a _).1,(a _).2.1,(a _).2.2.1,(a _).2.2.2.1⟩,fun _=>⟨?_,fun G=>?_,(a _).2.2.2.2⟩,fun e=>absurd e D,fun j z=>?_⟩
   .by_cases q:s.al=nt.line
    .right;show(gG C.aI.toNat s.S nt.line (setOf C.aI.toNat s.al)).length<_;rw[q];exact Nat.lt_of_lt_of_le (ch t) (w.aI _).len
    .rcases(i.al e).2 with h|h
     .left;show(bA C.aI.toNat (gG C.aI.toNat s.S nt.line) s.al).2=0;rw[kK q];exact h
     .right;exact Nat.lt_of_le_of_lt Ni h
   .by_cases q:j=nt.line
    .omega
    .exact i.bd j (by rw[<-z];exact(congrArg Prod.snd (kK q)).symm)
   .grind
   .rw[d,F];rw[Iu,aLa];show ¬(bA C.aI.toNat (gG C.aI.toNat s.S nt.line) k).2=0;rw[<-o,G8 w.aI (by omega)];decide
   .exfalso;apply G;rw[Iu,aLa];show ¬(bA C.aI.toNat (gG C.aI.toNat s.S nt.line) k).2=0;rw[<-o,G8 w.aI (by omega)];decide
   .unfold cF;simp only[kK (show(j:Int)≠nt.line by omega)]
  .simp only[aLa F];have R:=Ay (ways:=C.ways.toNat) (x:={(bA C.aI.toNat s.S nt.line).1 with st:=gH (bA C.aI.toNat s.S nt.line).1.st nt.state}) w.aI (by omega:0<=nt.line) (Ar w.aI t);refine⟨_,_,rfl,rfl,rfl,rfl,rfl,rfl,⟨fun e=>⟨(i.al e).1,?_⟩,i.gl,fun j z=>?_⟩,⟨b.1,b.2.1,by rw[b.2.2.1,o],b.2.2.2.1,b.2.2.2.2.1,fun σ δ L J=>?_⟩,⟨(a _).1,(a _).2.1,(a _).2.2.1,(a _).2.2.2.1⟩,fun _=>⟨?_,fun G=>?_,(a _).2.2.2.2⟩,fun e=>absurd e D,fun j z=>?_⟩
   .by_cases q:s.al=nt.line
    .grind
    .rcases(i.al e).2 with h|h
     .left;show(bA C.aI.toNat (kJ C.aI.toNat C.ways.toNat s.S nt.line _).1 s.al).2=0;rw[kS q];exact h
     .right;exact Nat.lt_of_le_of_lt (fh t) h
   .by_cases q:j=nt.line
    .omega
    .exact i.bd j (by rw[<-z];exact(congrArg Prod.snd (kS q)).symm)
   .grind
   .rw[d,Iu];grind
   .rw[E,aAq];grind
   .unfold cF;simp only[kS (show(j:Int)≠nt.line by omega)]
 .rw[aLa t];have p:¬(bA C.aI.toNat s.S k).2=0:=by rw[<-o];exact t
  have d:(cF C.aI.toNat s k).st=0:=by rw[Iu,aLa p]
  have g:s.sS=true/\s.gl=k:=by
   rcases M with h|h;exact absurd d h;have:=h.2;unfold cF at this;simpa using this
  rw[aLa (by rw[g.1];simp),aLa (by omega)]
  have b:=u s.gc
  have B:(cF C.aI.toNat s k).gs=s.gc.st:=by rw[aCo,aLb g]
  have A:(cF C.aI.toNat s k).gd=s.gc.d:=by rw[aCp,aLb g]
  refine⟨_,_,rfl,rfl,rfl,rfl,rfl,rfl,⟨i.al,i.gl,i.bd⟩,⟨b.1,b.2.1,by rw[b.2.2.1,o],b.2.2.2.1,b.2.2.2.2.1,fun σ δ L J=>?_⟩,⟨rfl,rfl,rfl,?_⟩,fun e=>absurd d e,fun _=>⟨d,?_⟩,fun j z=>?_⟩
  .grind
  .rw[A,aCp,aLb (show s.sS=true/\s.gl=k from g)]
  .rw[B,aCo,aLb (show s.sS=true/\s.gl=k from g)]
  .unfold cF;grind
end
section
variable {C:bM} {H:kN} {X:Nat->gZ} {V:Nat->Ln} {N N':List aJ} {n:aJ} {s:gZ}
def PK (k:Int):Prop:=(1<=k/\k<=5)\/(8<=k/\k<=11)
instance (k:Int):Decidable (PK k):=by unfold PK;infer_instance
def lnN (l:Nat) (n:aJ):Bool:=decide (n.line=(l:Int)/\PK n.kind)
def Gu (l:Nat) (N:List aJ):List aJ:=N.filter (lnN l)
theorem Mk {l:Nat} (h:n.line=(l:Int)) (a:PK n.kind):Gu l (n::N)=n::Gu l N:=by
 unfold Gu;rw[List.filter_cons_of_pos (by unfold lnN;grind)]
theorem Gw {l:Nat} (h:¬(n.line=(l:Int)/\PK n.kind)):Gu l (n::N)=Gu l N:=by
 unfold Gu;rw[List.filter_cons_of_neg (by unfold lnN;grind)]
theorem Es {l:Nat}:Gu l (N++N')=Gu l N++Gu l N':=List.filter_append N N'
theorem aAp {l:Nat} (h:∀x∈N,x.line=(l:Int)/\PK x.kind):Gu l N=N:=List.filter_eq_self.2 fun x a=>decide_eq_true (h x a)
theorem Ui {l:Nat} (h:∀x∈N,¬(x.line=(l:Int)/\PK x.kind)):Gu l N=[]:=List.filter_eq_nil_iff.2 fun x a=>by unfold lnN;grind
abbrev cls (C:bM) (X:Nat->gZ) (l:Nat):xc:=fun i=>cF C.aI.toNat (X i) l
structure nI (C:bM) (H:kN) (X:Nat->gZ) (V:Nat->Ln) (N:List aJ):Prop where
 line:∀l:Nat,l<C.lines->Inv l (H l).1 (H l).2 (V l) (cls C X l) (Gu l N)
 uS:∀i:Nat,i<4->iL C (X i)
 room:∀i:Nat,i<4->Room C (X i)
 new:∀i:Nat,C.aE<=(i:Int)->X i=gZ.new
 nb:∀x∈N,PK x.kind->(0<=x.core/\x.core<C.aE)/\(0<=x.line/\x.line<C.lines)
theorem u0 {n l:Nat}:cF n gZ.new l=⟨0,(0,0),false,false,false,0,(0,0)⟩:=by
 unfold cF;rw[aLa K5,aLa K5];rfl
theorem yR {i l:Nat} {s:gZ}:cls C (aR X i s) l=aR (cls C X l) i (cF C.aI.toNat s l):=by
 funext j;show cF C.aI.toNat (aR X i s j) l=_;by_cases e:j=i;subst e;rw[fG,fG];rw[cH e,cH e]
theorem rK {i l:Nat} {s:gZ} (h:cF C.aI.toNat s l=cF C.aI.toNat (X i) l):cls C (aR X i s) l=cls C X l:=by
 funext j;show cF C.aI.toNat (aR X i s j) l=_;by_cases e:j=i;subst e;rw[fG];exact h;rw[cH e]
theorem nI.perm (h:nI C H X V N) (p:N.Perm N'):nI C H X V N':=
 ⟨fun l a=>(h.line l a).perm (p.filter _),h.uS,h.room,h.new,fun x b=>h.nb x (p.symm.mem_iff.1 b)⟩
theorem nI.skip (h:nI C H X V (n::N)) (a:¬PK n.kind):nI C H X V N:=
 ⟨fun l b=>by have:=h.line l b;rw[Gw (fun e=>a e.2)] at this;exact this,h.uS,h.room,h.new,fun x d=>h.nb x (List.mem_cons_of_mem _ d)⟩
theorem nI.more (h:nI C H X V N) (b:∀x∈N',¬PK x.kind):nI C H X V (N'++N):=
 ⟨fun l d=>by have:=h.line l d;rw[Es,Ui (fun x a e=>b x a e.2)];exact this,h.uS,h.room,h.new,fun x a f=>by
  rcases List.mem_append.1 a with a|a;grind;exact h.nb x a f⟩
theorem nI.i4 (hC:C.Ok) {i:Int} (h:0<=i/\i<C.aE):i.toNat<4/\((i.toNat:Nat):Int)=i:=by
 unfold bM.Ok at hC;omega
theorem nI.iO {k:Nat} {d:kN} {b:Nat->gZ} {f:Nat->Ln} {A:List aJ} (h:nI C H X V N) (D:k<C.lines)
  (q:Inv k (d k).1 (d k).2 (f k) (cls C b k) (A++Gu k N')) (w:∀l,l≠k->d l=H l) (y:∀l,l≠k->f l=V l) (z:∀l,l≠k->cls C b l=cls C X l)
  (hA:∀x∈A,x.line=(k:Int)/\PK x.kind/\0<=x.core/\x.core<C.aE) (o:∀l,l≠k->Gu l N'=Gu l N) (g:∀x∈N',x∈N)
  (p:∀i:Nat,i<4->iL C (b i)) (v:∀i:Nat,i<4->Room C (b i)) (t:∀i:Nat,C.aE<=(i:Int)->b i=gZ.new):nI C d b f (A++N'):=by
 refine⟨fun l j=>?_,p,v,t,fun x a u=>?_⟩
 .by_cases e:l=k
  .subst e;rw[Es,aAp (fun x a=>⟨(hA x a).1,(hA x a).2.1⟩)];exact q
  .rw[w l e,y l e,z l e,Es,Ui (fun x a B=>e (by grind)),List.nil_append,o l e];exact h.line l j
 .rcases List.mem_append.1 a with a|a
  .grind
  .exact h.nb x (g x a) u
theorem rC {i:Nat} {s:gZ} (h:nI C H X V N) (a:iL C s):∀j:Nat,j<4->iL C (aR X i s j):=fun j b=>by
 by_cases e:j=i;subst e;rw[fG];exact a;rw[cH e];exact h.uS j b
theorem rZ {i:Nat} {s:gZ} (h:nI C H X V N) (a:Room C s):∀j:Nat,j<4->Room C (aR X i s j):=fun j b=>by
 by_cases e:j=i;subst e;rw[fG];exact a;rw[cH e];exact h.room j b
theorem vC {i:Nat} {s:gZ} (h:nI C H X V N) (b:(i:Int)<C.aE):∀j:Nat,C.aE<=(j:Int)->aR X i s j=gZ.new:=fun j a=>by
 rw[cH (by omega)];exact h.new j a
theorem nI.cache (h:nI C H X V (n::N)) (hC:C.Ok) (Z:8<=n.kind/\n.kind<=11):
  ∃w out,fX C n.core (X n.core.toNat) n=(w,out,0)/\nI C H (aR X n.core.toNat w) V (out++N)/\(∀x∈out,x.line=n.line/\PK x.kind):=by
 have hb:=h.nb n (by simp) (.inr Z)
 obtain⟨M,O⟩:=nI.i4 hC hb.1
 obtain⟨i,o,p⟩:∃i:Nat,i<4/\n.core=(i:Int):=⟨n.core.toNat,M,O.symm⟩
 obtain⟨k,d,g⟩:∃k:Nat,k<C.lines/\n.line=(k:Int):=⟨n.line.toNat,by omega,by omega⟩
 have e0:n.core.toNat=i:=by omega
 rw[e0,p]
 have E:=h.line k d
 rw[Mk g (.inr Z)] at E
 have I:∀l,l≠k->Gu l N=Gu l (n::N):=fun l e=>(Gw (fun e2=>e (by omega))).symm
 have t:∀x∈N,x∈n::N:=fun x j=>List.mem_cons_of_mem _ j
 have b:∀{w:gZ} {out:List aJ} {e:Int},(n.kind=8->1<=n.state/\n.state<=4)->fX C (i:Int) (X i) n=(w,out,e)->iL C w:=fun hv e=>by
  have:=Qe (core:=(i:Int)) hv (h.uS i o);grind
 have Y:cls C X k i=cF C.aI.toNat (X i) k:=rfl
 rcases(by omega:n.kind=8\/n.kind=9\/n.kind=10\/n.kind=11) with k8|k9|G|D
 .have f:=E.granted (d':=if(cls C X k i).st≠0 then(cls C X k i).d else(n.d0,n.d1)) k8 o p rfl;obtain⟨w,a,u,q,Q,R⟩:=Y6 (core:=(i:Int)) k8 g d (h.uS i o) (h.room i o) f.1.1 (by omega);refine⟨w,_,a,?_,fun x j=>by rw[List.mem_singleton.1 j];exact⟨rfl,by show PK 4;decide⟩⟩;refine h.iO (A:=[_]) d ?_ (fun _ _=>rfl) (fun _ _=>rfl) (fun l e=>rK (Q l e)) (fun x j=>?_) I t (rC h (b (fun _=>by omega) a)) (rZ h R) (vC h (by omega))
  .rw[yR,q,g];exact f.2
  .rw[List.mem_singleton.1 j];exact⟨g,.inl (show(1:Int)<=4/\(4:Int)<=5 by omega),show(0:Int)<=(i:Int)/\(i:Int)<C.aE by omega⟩
 .have f:=E.aK9 k9 o p;obtain⟨a,u,q⟩:=kx (core:=(i:Int)) k9 g d f.1;refine⟨_,_,a,?_,fun x j=>by cases j⟩;refine h.iO (A:=[]) d ?_ (fun _ _=>rfl) (fun _ _=>rfl) (fun l e=>rK (q l e)) (fun x j=>by cases j) I t (rC h (b (by omega) a)) (rZ h ⟨(fun e=>by cases e),(h.room i o).gl,(h.room i o).bd⟩) (vC h (by omega));rw[yR,u];exact f.2
 .have f:=E.aDy (gd':=(0,0)) (gs':=0) G o p rfl;obtain⟨a,u,q⟩:=Uc (core:=(i:Int)) G g d f.1;refine⟨_,_,a,?_,fun x j=>by cases j⟩;refine h.iO (A:=[]) d ?_ (fun _ _=>rfl) (fun _ _=>rfl) (fun l e=>rK (q l e)) (fun x j=>by cases j) I t (rC h (b (by omega) a)) (rZ h ⟨(h.room i o).al,(fun e=>by cases e),(h.room i o).bd⟩) (vC h (by omega));rw[yR,u];exact f.2
 .obtain⟨_,_,_,W,U,hw⟩:=E.found D o p;obtain⟨w,y,a,ea,eb,ec,ed,ee,P,v,z,T,L,F⟩:=ag (core:=(i:Int)) D g d (h.uS i o) (h.room i o) U hw;refine⟨w,_,a,?_,fun x j=>by rw[List.mem_singleton.1 j];exact⟨by rw[v.2.2.1,g],by unfold PK;rw[v.1];omega⟩⟩;refine h.iO (A:=[y]) d ?_ (fun _ _=>rfl) (fun _ _=>rfl) (fun l e=>rK (F l e)) (fun x j=>?_) I t (rC h (b (by omega) a)) (rZ h P) (vC h (by omega))
  .rw[yR];have J:HH k (H k).1 (cls C X k) (n::Gu k N) i=if(cls C X k i).st≠0 then(cls C X k i).st else(cls C X k i).gs:=by
    unfold HH at W ⊢;by_cases e:(cls C X k i).st=0;rw[(Pe W e).2.2,aLa (by simpa using e)];unfold uK;grind
   have B:=v.2.2.2.2.2 _ _ J rfl
   exact E.aDl D o p z T L ⟨v.1,v.2.1,v.2.2.1,B.1,B.2.1,B.2.2⟩
  .rw[List.mem_singleton.1 j];exact⟨v.2.2.1,by unfold PK;rw[v.1];omega,by rw[v.2.1];omega⟩
theorem nI.there {i k:Nat} (h:nI C H X V N) (hc:(cls C X k i).oM=true\/(cls C X k i).gi=true\/(cls C X k i).st≠0):(i:Int)<C.aE:=by
 apply Classical.byContradiction;intro e;have:cls C X k i=⟨0,(0,0),false,false,false,0,(0,0)⟩:=by show cF _ (X i) k=_;rw[h.new i (by omega),u0]
 grind
theorem nI.waiter {k:Nat} (h:nI C H X V N) (o:k<C.lines) {x:aJ} (f:x∈(H k).1.waits) (p:x.kind≠0):0<=x.core/\x.core<C.aE:=by
 have d:=h.line k o;have b:=d.row.waits x f;obtain⟨i,g,a,_⟩:=fR b.2.1;refine⟨b.2.1.1,?_⟩;rw[a];rcases(by omega:x.kind=1\/x.kind=2\/x.kind=3) with e|e|e;have:=fS f e a b.1;have j:=d.t1 i g;exact h.there (k:=k) (.inl (by grind));have:=fS f e a b.1;have j:=d.t1 i g;exact h.there (k:=k) (.inl (by grind));have:=fS f e a b.1;have j:=d.t2 i g;exact h.there (k:=k) (.inr (.inl (by grind)))
theorem nI.aF8 {k i:Nat} (h:nI C H X V N) (_d:k<C.lines) (_b:i<4) (a:HH k (H k).1 (cls C X k) (Gu k N) i≠0):(i:Int)<C.aE:=by
 unfold HH at a;by_cases e:(cls C X k i).st=0;exact h.there (k:=k) (.inr (.inl (Pe a e).1));exact h.there (k:=k) (.inr (.inr e))
end
section
variable {C:bM} {H:kN} {X:Nat->gZ} {V:Nat->Ln} {N N':List aJ} {n:aJ} {s:gZ}
theorem Ox {r:Row} {line:Int} {d:Ln}:∀y∈(r.eE line d).2,y.kind=8/\y.core=r.served.core/\y.line=line:=by
 intro y a;unfold Row.eE at a;split at a;rw[List.mem_singleton.1 a];exact⟨rfl,rfl,rfl⟩;split at a<;>(rw[List.mem_singleton.1 a];exact⟨rfl,rfl,rfl⟩)
theorem zD {r:Row}:(r.heard n).served=r.served:=by
 unfold Row.heard;split;rfl;split<;>split<;>rfl
theorem jo {r:Row} {m:Ln} {line:Int}:∀y∈(lX.nJ (r,m) line n).2,y.kind=8/\y.core=r.served.core/\y.line=line/\r.served.kind≠0:=by
 intro y a;unfold lX.nJ at a;dsimp only at a;unfold Row.rest at a;split at a;split at a;cases a;rename_i b;have:=Ox y a;rw[zD] at this b;grind;cases a
theorem Ew {line st:Int} {S:List Nat}:∀y∈eF line st S,y.kind=11/\y.line=line/\∃a∈S,y.core=(a:Int):=by
 intro y b;unfold eF at b;grind
theorem Ih {r:Row} {x:Int} {a:Nat} (h:a∈r.gA x):a<4/\(r.sh a=true\/r.owner=(a:Int)):=by
 have:=rH.1 h;have b:=this.2;unfold Row.holds at b;grind
theorem lh {r:Row} {line:Int} {m:Ln} {j:Int->Int×Bool} (w:n.kind=0\/n.kind=1\/n.kind=2\/n.kind=3) (z: -1<=r.owner/\r.owner<4):∀y∈(Row.begun r line m n j).2,y.line=line/\(8<=y.kind/\y.kind<=11)/\((y.core=n.core/\n.kind≠0)\/∃a:Nat,a<4/\y.core=(a:Int)/\(r.sh a=true\/r.owner=(a:Int))):=by
 intro y b;unfold Row.begun at b;by_cases q:n.kind=3;rw[aLb q] at b;rw[List.mem_singleton.1 b];exact⟨rfl,⟨show(8:Int)<=10 by omega,show(10:Int)<=11 by omega⟩,.inl ⟨rfl,by omega⟩⟩;rw[aLa q] at b;by_cases f:n.kind=1\/n.kind=2;rw[aLb f] at b;have u:n.kind≠0:=by omega
 by_cases p:(j n.world).2=true;rw[aLb p] at b;unfold Row.get at b;dsimp only at b;have gr:∀{k:Row} {d:Ln},k.served=n->y∈(k.eE line d).2->y.line=line/\(8<=y.kind/\y.kind<=11)/\((y.core=n.core/\n.kind≠0)\/∃a:Nat,a<4/\y.core=(a:Int)/\(r.sh a=true\/r.owner=(a:Int))):=fun {k d} e b=>by
  have:=Ox y b;grind
 split at b;unfold Row.getM at b;split at b;obtain⟨o,h,a,g,i⟩:=Ew y b;have:=Ih g;exact⟨h,by omega,.inr ⟨a,this.1,i,this.2⟩⟩;exact gr rfl b;unfold Row.Wb at b;have v:((r.serve n (j n.world).1).nZ).owner=r.owner\/((r.serve n (j n.world).1).nZ).owner= -1:=by
  unfold Row.nZ;split;exact .inr rfl;exact .inl rfl
 split at b;rename_i t;obtain⟨o,h,a,g,i⟩:=Ew y b;grind;refine gr ?_ b;unfold Row.nZ;split<;>rfl;rw[aLa p] at b;rw[List.mem_singleton.1 b];exact⟨rfl,⟨show(8:Int)<=9 by omega,show(9:Int)<=11 by omega⟩,.inl ⟨rfl,u⟩⟩;rw[aLa f] at b;split at b;cases b;obtain⟨o,h,a,g,i⟩:=Ew y b;have:=Ih g;grind
theorem nI.homes (h:nI C H X V (n::N)) (hC:C.Ok) (I:1<=n.kind/\n.kind<=5):
  ∃a out,fF C H n=(a,out,0)/\nI C a X V (out++N)/\(∀x∈out,x.line=n.line/\PK x.kind)/\(∀l:Nat,(l:Int)≠n.line->a l=H l):=by
 have w:=h.nb n (by simp) (.inl I)
 obtain⟨D,E⟩:=nI.i4 hC w.1
 obtain⟨i,P,B⟩:∃i:Nat,i<4/\n.core=(i:Int):=⟨n.core.toNat,D,E.symm⟩
 obtain⟨k,g,f⟩:∃k:Nat,k<C.lines/\n.line=(k:Int):=⟨n.line.toNat,by omega,by omega⟩
 have J:n.line.toNat=k:=by omega
 have b:=h.line k g
 rw[Mk f (.inl I)] at b
 have M:∀l,l≠k->Gu l N=Gu l (n::N):=fun l e=>(Gw (fun t=>e (by omega))).symm
 have v:∀x∈N,x∈n::N:=fun x j=>List.mem_cons_of_mem _ j
 have Q:fF C H n=(aR H k (lX.take (H k) k n).1,(lX.take (H k) k n).2):=by
  unfold fF;rw[aLa (by unfold fM;omega),aLb ⟨w.1,by unfold bM.has;exact w.2⟩,J,f]
 have done:∀(q:lX) (out:List aJ),lX.take (H k) k n=(q,out,0)->Inv k q.1 q.2 (V k) (cls C X k) (out++Gu k N)->(∀y∈out,y.line=(k:Int)/\PK y.kind/\0<=y.core/\y.core<C.aE)->
   ∃a out,fF C H n=(a,out,0)/\nI C a X V (out++N)/\(∀x∈out,x.line=n.line/\PK x.kind)/\(∀l:Nat,(l:Int)≠n.line->a l=H l):=fun q out e d hA=>by
  rw[Q,e]
  refine⟨_,_,rfl,h.iO (A:=out) g ?_ (fun l t=>cH t) (fun _ _=>rfl) (fun _ _=>rfl) hA M v h.uS h.room h.new,fun x j=>⟨by rw[(hA x j).1,f],(hA x j).2.1⟩,fun l t=>cH (by omega)⟩
  rw[fG];exact d
 have j:H k=((H k).1,(H k).2):=rfl
 by_cases F:n.kind=4
 .obtain⟨p,u,L⟩:=b.um F;refine done ((H k).1.free,(H k).2) [] ?_ L (fun y o=>by cases o);unfold lX.take;rw[aLb F,aLa (by rw[p];simp;exact u)]
 .by_cases G:n.kind=5
  .obtain⟨p,u⟩:=b.nJ G;refine done (lX.nJ (H k) k n).1 (lX.nJ (H k) k n).2 ?_ u (fun y o=>?_)
   .unfold lX.take;rw[aLa F,aLb G,aLa (by rw[p];simp)]
   .obtain⟨W,Y,R,T⟩:=jo (r:=(H k).1) (m:=(H k).2) y o;obtain⟨_,O,z,_,_⟩:=b.ft G P B;refine⟨R,by unfold PK;omega,?_⟩;have U:=b.row.core;have uK:An (H k).1 (H k).1.served.core.toNat=1:=by unfold An;rw[aLb ⟨z,O,T,by omega⟩]
    have p:=b.t1 (H k).1.served.core.toNat (by omega)
    have:=h.there (i:=(H k).1.served.core.toNat) (k:=k) (.inl (by grind))
    omega
  .have d:=b.aFp (by omega);refine done ((H k).1.wait n,(H k).2) [] ?_ d (fun y o=>by cases o);unfold lX.take;grind
theorem nI.Yg (h:nI C H X V N) {l:Int} {j:Int->Int×Bool}:
  ∃u out e,iC C H l j=(u,out,e)/\nI C u X V (out++N)/\(∀x∈out,x.line=l/\PK x.kind)/\(∀k:Nat,(k:Int)≠l->u k=H k):=by
 unfold iC
 by_cases z:C.has l
 .rw[aLb z];obtain⟨k,d,B⟩:∃k:Nat,k<C.lines/\l=(k:Int):=⟨l.toNat,by unfold bM.has at z;omega,by unfold bM.has at z;omega⟩;subst B;rw[Int.toNat_natCast];have f:=h.line k d;have same:aR H k (H k)=H:=by funext i;unfold aR;grind
  unfold lX.begin
  by_cases p:(H k).1.busy=true
  .grind
  .rw[aLa p];have p:(H k).1.busy=false:=by simpa using p
   cases hw:(H k).1.waits with
   |nil=>refine⟨_,_,_,rfl,?_,(fun x g=>by cases g),fun i e=>cH (by omega)⟩;grind
   |cons n w=>
    have D:=f.row.waits n (by rw[hw];simp)
    have v:=f.begun (j:=j) p hw
    have b:=lh (r:=(H k).1.next w) (line:=k) (m:=(H k).2) (j:=j) D.2.2 f.row.owner
    obtain⟨I,O,_⟩:=f.idle p
    refine⟨_,_,_,rfl,?_,fun x g=>⟨(b x g).1,.inr (b x g).2.1⟩,fun i e=>cH (by omega)⟩
    refine h.iO (A:=(Row.begun ((H k).1.next w) k (H k).2 n j).2) d ?_ (fun l F=>cH F) (fun _ _=>rfl) (fun _ _=>rfl) (fun y J=>?_) (fun _ _=>rfl) (fun _ g=>g) h.uS h.room h.new
    .rw[fG];exact v
    .obtain⟨L,M,t⟩:=b y J;refine⟨L,.inr M,?_⟩;rcases t with⟨t,E⟩|⟨a,o,t,E⟩
     .rw[t];exact h.waiter d (by rw[hw];simp) E
     .have q:=f.c1 a o (by have:=f.t3 a o;rw[gE I o] at this;simp at this;omega) (by have:=f.t4 a o;unfold wI at this;grind);have G:HH k (H k).1 (cls C X k) (Gu k N) a≠0:=by
       rcases E with e|e;have:=q.1.2 e;omega;have:=q.2.2 e;omega
      have:=h.aF8 d o G
      omega
 grind
theorem nI.Aa (h:nI C H X V N) {l:Int}:nI C (jI C H l).1 X V N:=by
 unfold jI;by_cases b:C.has l;rw[aLb b];obtain⟨k,a,d⟩:∃k:Nat,k<C.lines/\l=(k:Int):=⟨l.toNat,by unfold bM.has at b;omega,by unfold bM.has at b;omega⟩;subst d;rw[Int.toNat_natCast];refine h.iO (A:=[]) a ?_ (fun l e=>cH e) (fun _ _=>rfl) (fun _ _=>rfl) (fun y g=>by cases g) (fun _ _=>rfl) (fun _ f=>f) h.uS h.room h.new;show Inv k (aR H k _ k).1 (aR H k _ k).2 _ _ _;rw[fG];exact(h.line k a).zu;grind
theorem nI.reads (h:nI C H X V N) {i:Nat} (b:i<4) (d:(i:Int)<C.aE) {l a f:Int}:nI C H (aR X i (mV C (X i) l a f)) V N:=
 ⟨fun k e=>by rw[rK (aA0 (h.uS i b))];exact h.line k e,rC h (G7 (h.uS i b)),rZ h (ia (h.uS i b) (h.room i b)),vC h d,h.nb⟩
theorem nI.writes (h:nI C H X V N) {i:Nat} (b:i<4) (f:(i:Int)<C.aE) {k:Nat} {a o v:Int} (j:mD C (X i).S k a o true=0):
  nI C H (aR X i (jD C (X i) k a o v)) (aR V k (vq (V k) a v)) N:=by
 have d:k<C.lines:=by have:=(qF j).1;omega
 obtain⟨q,t⟩:=ra (v:=v) (h.uS i b) j
 have g:=h.line k d
 have u:(cls C X k i).d=V k:=by
  have w:(cls C X k i).st≠0:=by grind
  have:=g.c3 i b (by unfold HH uK;grind);unfold tJ at this;grind
 refine h.iO (A:=[]) d ?_ (fun _ _=>rfl) (fun l p=>cH p) (fun l e=>rK (Zh (by omega))) (fun y B=>by cases B) (fun _ _=>rfl) (fun _ z=>z) (rC h (Nh (h.uS i b))) (rZ h (Xq (h.uS i b) (h.room i b))) (vC h f)
 rw[fG,yR,t]
 have:(cF C.aI.toNat (X i) k).d=V k:=u
 rw[this]
 exact g.wrote b q
theorem nI.value (h:nI C H X V N) {i:Nat} (d:i<4) {k:Nat} (f:k<C.lines) (a:(bA C.aI.toNat (X i).S k).2=0):(bA C.aI.toNat (X i).S k).1.d=V k:=by
 have b:(cls C X k i).st≠0:=by
  show(cF C.aI.toNat (X i) k).st≠0;rw[Iu,aLb a];have:=sV (h.uS i d).aI a;omega
 have:=(h.line k f).c3 i d (by unfold HH uK;grind);unfold tJ at this;rw[aLb b] at this;have e:(cls C X k i).d=(bA C.aI.toNat (X i).S k).1.d:=by show(cF C.aI.toNat (X i) k).d=_;rw[aAq,aLb a]
 rw[<-e];exact this
theorem nI.asks (h:nI C H X V N) {i:Nat} (p:i<4) (d:(i:Int)<C.aE) {k:Nat} {w:Int} {wr:Bool} (f:k<C.lines) (a:(X i).D9=false) (c3:¬((X i).sS=true/\(X i).gl=k))
  (v:¬((bA C.aI.toNat (X i).S k).2=0/\lS (bA C.aI.toNat (X i).S k).1.st wr=true)) (b:(bA C.aI.toNat (X i).S k).2=0\/((X i).S (setOf C.aI.toNat k)).length<C.ways.toNat):
  nI C H (aR X i {X i with al:=(k:Int),aw:=wr,D9:=true}) V (⟨if wr then 2 else 1,i,k,w,0,0,0,false,0⟩::N):=by
 have g:=h.uS i p
 have u:=h.room i p
 have D:=h.line k f
 have E:(cls C X k i).oM=false:=by show(cF _ (X i) k).oM=_;unfold cF;rw[a];rfl
 have o:(cls C X k i).gi=false:=by
  show(cF _ (X i) k).gi=_;unfold cF;simp only[Bool.and_eq_false_iff,decide_eq_false_iff_not];by_cases e:(X i).sS=true;exact .inr (fun j=>c3 ⟨e,j⟩);exact .inl (by simpa using e)
 have t:if wr=true then(cls C X k i).st≠2/\(cls C X k i).st≠4 else(cls C X k i).st=0:=by
  have z:(cls C X k i).st=if(bA C.aI.toNat (X i).S k).2=0 then(bA C.aI.toNat (X i).S k).1.st else 0:=rfl
  rw[z];by_cases q:(bA C.aI.toNat (X i).S k).2=0;rw[aLb q];have B:=sV g.aI q;have:¬lS (bA C.aI.toNat (X i).S k).1.st wr=true:=fun e=>v ⟨q,e⟩;unfold lS tL Ql at this;grind;grind
 refine h.iO (A:=[_]) f ?_ (fun _ _=>rfl) (fun _ _=>rfl) (fun l e=>?_) (fun y G=>?_) (fun _ _=>rfl) (fun _ F=>F) (rC h ⟨g.aI,g.back,g.pl⟩) (rZ h ⟨fun _=>⟨⟨by grind,by grind⟩,b⟩,u.gl,u.bd⟩) (vC h d)
 .rw[yR];have j:cF C.aI.toNat {(X i) with al:=(k:Int),aw:=wr,D9:=true} k={cF C.aI.toNat (X i) k with oM:=true,aw:=wr}:=by unfold cF;simp
  rw[j]
  exact D.asks p E o t ⟨rfl,rfl,rfl⟩
 .apply rK;unfold cF;have:decide ((k:Int)=(l:Int))=false:=decide_eq_false (by omega);simp[this,a]
 .rw[List.mem_singleton.1 G];refine⟨rfl,?_,by grind,d⟩;unfold PK;cases wr<;>simp
theorem nI.zT (h:nI C H X V N) {i:Nat} (z:i<4) (g:(i:Int)<C.aE) {v:Int} {x:pQ} (b:(X i).D9=false) (f:(X i).sS=false) (q:bA C.aI.toNat (X i).S v=(x,0)):
  nI C H (aR X i {X i with S:=gG C.aI.toNat (X i).S v,gl:=v,gc:=x,sS:=true}) V (⟨3,i,v,x.w,0,x.d.1,x.d.2,jR x.st,0⟩::N):=by
 have p:=h.uS i z
 have E:=h.room i z
 have a:(bA C.aI.toNat (X i).S v).2=0:=by rw[q]
 have F:=(oG a).2
 have P:=E.bd v a
 have u:=sV p.aI a
 rw[q] at u
 obtain⟨k,o,B⟩:∃k:Nat,k<C.lines/\v=(k:Int):=⟨v.toNat,by omega,by omega⟩
 subst B
 have I:=h.line k o
 have d:(cls C X k i).st=x.st:=by show(cF _ (X i) k).st=_;rw[Iu,aLb a,q]
 have D:(cls C X k i).d=x.d:=by show(cF _ (X i) k).d=_;rw[aAq,aLb a,q]
 have J:(cls C X k i).oM=false:=by show(cF _ (X i) k).oM=_;unfold cF;rw[b];rfl
 have w:iL C {X i with S:=gG C.aI.toNat (X i).S (k:Int),gl:=(k:Int),gc:=x,sS:=true}:=by
  have g1:=pX (n:=C.aI.toNat) (no:=(k:Int)) p.aI;have g2:=Cc (no:=(k:Int)) p.pl;refine Good.mk g1 (fun _=>?_) g2;grind
 refine h.iO (A:=[_]) o ?_ (fun _ _=>rfl) (fun _ _=>rfl) (fun l e=>?_) (fun y O=>?_) (fun _ _=>rfl) (fun _ M=>M) (rC h w) (rZ h ⟨(fun e=>by grind),fun _=>⟨by grind,by grind⟩,fun j L=>?_⟩) (vC h g)
 .rw[yR];have t:cF C.aI.toNat {(X i) with S:=gG C.aI.toNat (X i).S (k:Int),gl:=(k:Int),gc:=x,sS:=true} k=⟨0,(0,0),false,false,true,(cls C X k i).st,(cls C X k i).d⟩:=by
   rw[d,D];have:=G8 (n:=C.aI.toNat) p.aI F;unfold cF;simp[this,b]
  rw[t]
  exact I.zT z J (by grind) ⟨rfl,rfl,rfl,by rw[D],by rw[d]⟩ (.inr trivial)
 .apply rK;unfold cF;have G:¬((k:Int)=(l:Int)):=by omega
  simp only[kK (show(l:Int)≠(k:Int) by omega)]
  simp[G,f]
 .rw[List.mem_singleton.1 O];exact⟨rfl,by show PK 3;decide,by grind,g⟩
 .by_cases t:j=(k:Int)
  .omega
  .exact E.bd j (by rw[<-L];exact(congrArg Prod.snd (kK t)).symm)
theorem nI.aI2 (h:nI C H X V N) (hC:C.Ok) {i:Nat} (p:i<4) (b:(i:Int)<C.aE) {l w:Int} {wr:Bool}:
  ∃f out e,want C i (X i) l w wr=(f,out,e)/\nI C H (aR X i f) V (out++N)/\(e≠0->f=X i/\out=[])/\∀x∈out,PK x.kind:=by
 have G:=h.uS i p
 have T:=h.room i p
 have U:=(lK hC).2.2.1
 have same:∀e:Int,e≠0->∃f out F,((X i,[],e):gZ×List aJ×Int)=(f,out,F)/\nI C H (aR X i f) V (out++N)/\(F≠0->f=X i/\out=[])/\∀x∈out,PK x.kind:=fun e Q=>by
  refine⟨_,_,_,rfl,?_,fun _=>⟨rfl,rfl⟩,fun _ d=>by cases d⟩;have:aR X i (X i)=X:=by funext j;unfold aR;grind
  rw[this];exact h
 unfold want
 by_cases z:sB C l=false
 .simp_all
 rw[aLa z]
 by_cases c2:(X i).D9=true
 .simp_all
 rw[aLa c2]
 by_cases c3:(X i).sS=true/\(X i).gl=l
 .simp_all
 rw[aLa c3]
 by_cases E:(bA C.aI.toNat (X i).S l).2=0/\lS (bA C.aI.toNat (X i).S l).1.st wr=true
 .simp_all
 rw[aLa E]
 have R:0<=l/\l<C.lines:=by unfold sB at z;simpa using z
 have a:(X i).D9=false:=by simpa using c2
 obtain⟨k,q,B⟩:∃k:Nat,k<C.lines/\l=(k:Int):=⟨l.toNat,by omega,by omega⟩
 subst B
 unfold Bb
 cases hv:yH C.aI.toNat C.ways.toNat (X i).S k with
 |none=>
  refine⟨_,_,_,rfl,?_,fun e=>absurd rfl e,fun x d=>?_⟩
  rotate_left
  .rw[List.mem_singleton.1 d];unfold PK;cases wr<;>simp
  refine h.asks p b q a c3 E ?_
  unfold yH at hv
  cases hge:Go.Ct.get (k:Int) ((X i).S (setOf C.aI.toNat k)) with
  |some x=>left;unfold bA;grind
  |none=>
   grind
 |some v=>
  unfold yH at hv
  cases hge:Go.Ct.get (k:Int) ((X i).S (setOf C.aI.toNat k)) with
  |some x=>grind
  |none=>
   rw[hge] at hv
   dsimp only at hv
   split at hv
   .cases hv
   have M:v∈(X i).S (setOf C.aI.toNat k):=List.mem_of_getElem? hv
   have u:=G.pl _ v M
   have y:bA C.aI.toNat (X i).S v.1=(v.2,0):=by
    unfold bA;rw[aLa (by omega),u.2];cases hL:(X i).S (setOf C.aI.toNat k) with
    |nil=>grind
    |cons t L=>
     rw[hL] at hv;have:t=v:=by simpa using hv
     subst this;unfold Go.Ct.get;grind
   dsimp only
   by_cases c5:(X i).sS=true
   .simp_all
   rw[aLa c5,y,aLa (by simp)]
   refine⟨_,_,_,rfl,?_,fun e=>absurd rfl e,fun x d=>?_⟩
   rotate_left
   .rcases List.mem_cons.1 d with rfl|d
    .show PK 3;decide
    .rw[List.mem_singleton.1 d];unfold PK;cases wr<;>simp
   have o:(X i).sS=false:=by simpa using c5
   have D:v.1≠(k:Int):=fun e=>by
    have:Go.Ct.get (k:Int) ((X i).S (setOf C.aI.toNat k))=some v.2:=by
     have:=(oG (by rw[y])).1;grind
    grind
   have J:=h.zT p b a o y
   have P:(bA C.aI.toNat (gG C.aI.toNat (X i).S v.1) k)=bA C.aI.toNat (X i).S k:=kK (fun e=>D e.symm)
   have O:(bA C.aI.toNat (X i).S k).2≠0:=by unfold bA;grind
   have g:=ch (n:=C.aI.toNat) (S:=(X i).S) (no:=v.1) (by rw[y])
   rw[u.2] at g
   have A:=J.asks (i:=i) (w:=w) (wr:=wr) p b q (by rw[fG];exact a) (by rw[fG];grind) (by rw[fG];grind)
    (by rw[fG];right;exact Nat.lt_of_lt_of_le g (G.aI _).len)
   rw[fG] at A
   have I:∀s1 s2:gZ,aR (aR X i s1) i s2=aR X i s2:=fun s1 s2=>by
    funext j;by_cases e:j=i;subst e;rw[fG,fG];rw[cH e,cH e,cH e]
   rw[I] at A
   exact A.perm (List.Perm.swap _ _ _)
end
end Go.Pc
namespace Go.Mc
open Go Go.Ab Go.Hm Go.At Go.Is Go.Ct Go.Nt
section
variable {C:bM}
theorem Pd {α:Type} {f a:Nat->List α} {l:List α} {k:Nat}:∀{n:Nat},(∀i,i≠k->a i=f i)->(a k).Perm (l++f k)->k<n->((List.range n).flatMap a).Perm (l++(List.range n).flatMap f):=by
 intro n;induction n with
 |zero=>intro _ _ h;omega
 |succ n j=>
  intro b g o;rw[List.range_succ,List.flatMap_append,List.flatMap_append,List.flatMap_singleton,List.flatMap_singleton];by_cases e:n=k;subst e;have:(List.range n).flatMap a=(List.range n).flatMap f:=by
   have:∀m,m<=n->(List.range m).flatMap a=(List.range m).flatMap f:=by
    intro m;induction m with
    |zero=>intro _;rfl
    |succ m d=>
     intro p;rw[List.range_succ,List.flatMap_append,List.flatMap_append,d (by omega),List.flatMap_singleton,List.flatMap_singleton,b m (by omega)]
   grind
  rw[this];refine(List.Perm.append_left _ g).trans ?_;rw[<-List.append_assoc,<-List.append_assoc];exact List.Perm.append_right _ List.perm_append_comm;rw[b n e];have:=j b g (by omega);rw[<-List.append_assoc];exact List.Perm.append_right _ this
def sG (C:bM) (F:gO):List aJ:=(List.range C.aE.toNat).flatMap fun c=>(List.range 4).flatMap fun w=>F c w
theorem set_perm {F:gO} {c w:Nat} {l l':List aJ} (hc:(c:Int)<C.aE) (b:w<4) (h:l'.Perm (l++F c w)):(sG C (F.set c w l')).Perm (l++sG C F):=by
 unfold sG;refine Pd (k:=c) (fun i a=>?_) ?_ (by omega);unfold gO.set;simp[a];refine Pd (k:=w) (fun i a=>?_) ?_ b;unfold gO.set;simp[a];unfold gO.set;grind
theorem A9 {n:aJ} (h:Od n.kind):gC n<4:=by
 unfold Od at h;unfold gC;rcases k14 (k:=n.kind.toNat) (by omega) with e|e|e|e|e|e|e|e|e|e|e|e|e|e<;>rw[e]<;>decide
theorem j1:∀{l:List aJ} {F a:gO},(∀n∈l,Nt.pR C n=0)->gO.zT C.depth F l=some a->(sG C a).Perm (l++sG C F):=by
 intro l;induction l with
 |nil=>intro F a _ h;cases h;grind
 |cons n l f=>
  intro F a b h;unfold gO.zT at h;split at h;have e:=Ff (b n List.mem_cons_self);have g:=f (fun k d=>b k (List.mem_cons_of_mem _ d)) h;have i:(sG C (F.put n)).Perm ([n]++sG C F):=set_perm (by omega) (A9 e.1) List.perm_append_comm;grind;cases h
theorem xB {F:gO} {l:List aJ} (h:(F.send C l).2=0):(sG C (F.send C l).1).Perm (l++sG C F)/\∀n∈l,Nt.pR C n=0:=by
 unfold gO.send at h ⊢;split at h;grind;rename_i a;rw[aLa a];have a:cG C l=0:=by simpa using a
 split at h;rename_i d b;exact⟨j1 (E3 a) (by rw[b]),E3 a⟩;cases h
theorem Uh {α:Type}:∀{l:List α} {i:Nat} (h:i<l.length),l.Perm (l[i]::l.eraseIdx i)
 |[],_,h=>by cases h
 |a::l,0,_=>List.Perm.refl _
 |a::l,i+1,h=>by
  have:=Uh (l:=l) (i:=i) (by simpa using h);exact(List.Perm.cons a this).trans (List.Perm.swap _ _ _)
theorem pw {F:gO} {a b c:Int} (h:(F.take C a b c).2.2=0):(sG C F).Perm ((F.take C a b c).2.1::sG C (F.take C a b c).1):=by
 unfold gO.take at h ⊢;by_cases g:(0<=a/\a<C.aE)/\(0<=b/\b<4);rw[aLa (fun h=>h g)] at h ⊢;dsimp only at h ⊢;by_cases d:F a.toNat b.toNat=[];rw[aLb d] at h;cases h;rw[aLa d];have o:0<(F a.toNat b.toNat).length:=List.length_pos_iff.2 d;have f:(c % ((F a.toNat b.toNat).length:Int)).toNat<(F a.toNat b.toNat).length:=by
  have j:=Int.emod_nonneg c (show((F a.toNat b.toNat).length:Int)≠0 by omega);have k:=Int.emod_lt_of_pos c (show(0:Int)<((F a.toNat b.toNat).length:Int) by omega);omega
 dsimp only;generalize(c % ((F a.toNat b.toNat).length:Int)).toNat=i at f ⊢;rw[List.getD_eq_getElem?_getD,List.getElem?_eq_getElem f];dsimp only[Option.getD];have e:F=(F.set a.toNat b.toNat ((F a.toNat b.toNat).eraseIdx i)).set a.toNat b.toNat (F a.toNat b.toNat):=by
  funext x y;unfold gO.set;by_cases e:x=a.toNat/\y=b.toNat;rw[aLb e,e.1,e.2];rw[aLa e,aLa e]
 have:=set_perm (C:=C) (F:=F.set a.toNat b.toNat ((F a.toNat b.toNat).eraseIdx i)) (c:=a.toNat) (w:=b.toNat) (l:=[(F a.toNat b.toNat)[i]]) (l':=F a.toNat b.toNat) (by omega) (by omega) (by
  have:(F.set a.toNat b.toNat ((F a.toNat b.toNat).eraseIdx i)) a.toNat b.toNat=(F a.toNat b.toNat).eraseIdx i:=by unfold gO.set;simp
  rw[this];exact Uh f)
 grind;grind
end
section
def dp (n g a w:Int):Prop:=(iY n g a w).2.2.2=0/\((iY n g a w).2.2.1=false->(iY n g a w).1=jA n g/\a=g/4)
theorem P3 {es:List iE}:(iH es).length=(es.length+3)/4+es.length:=by unfold iH;simp
theorem ue {es:List iE} {j:Nat} (h:j<(es.length+3)/4):iZ es (j:Int)=(Oe es j,0):=by
 unfold iZ;rw[aLb (by rw[P3];omega),Int.toNat_natCast];unfold iH;grind
theorem lg {es:List iE} {g:Nat} (h:g<es.length):iZ es (jA es.length g)=(Rw (es.getD g iM),0):=by
 have e:jA es.length g=(((es.length+3)/4+g:Nat):Int):=by unfold jA;omega
 unfold iZ;rw[e,aLb (by rw[P3];omega),Int.toNat_natCast];unfold iH;grind
theorem uw {es:List iE} {j g:Nat} (h:H5 es j=true) (a:g<es.length) (b:g/4=j):es.getD g iM=⟨(es.getD (4*j) iM).owner,false⟩:=by
 unfold H5 at h;rw[List.all_eq_true] at h;have d:es.getD g iM∈(es.drop (4*j)).take 4:=by
  rw[List.getD_eq_getElem?_getD,List.getElem?_eq_getElem a];refine List.mem_of_getElem? (i:=g - 4*j) ?_;grind
 grind
theorem so {es:List iE} (b:∀x∈es,0<=x.owner/\x.owner<=4) {g:Nat} (a:g<es.length):0<=(es.getD g iM).owner/\(es.getD g iM).owner<=4:=by
 grind
theorem ir {es:List iE} {g:Nat} {a:Int} (z:es.length<=16) (t:∀x∈es,0<=x.owner/\x.owner<=4) (p:g<es.length) (u:a=(g:Int)/4\/a=jA es.length g):
  (iZ es a).2=0/\dp es.length g a (iZ es a).1/\((iY es.length g a (iZ es a).1).2.2.1=true->(iY es.length g a (iZ es a).1).2.1=es.getD g iM):=by
 have b:¬¬((1<=(es.length:Int)/\(es.length:Int)<=16)/\(0<=(g:Int)/\(g:Int)<es.length)):=by omega
 have v:(g:Int)/4≠jA es.length g:=by unfold jA;omega
 rcases u with rfl|rfl
 .have e:(g:Int)/4=((g/4:Nat):Int):=by omega
  have f:=ue (es:=es) (j:=g/4) (by omega)
  rw[<-e] at f
  rw[f]
  refine⟨rfl,?_⟩
  unfold dp iY
  rw[aLa b,aLb rfl]
  dsimp only
  have y:(g:Int)/4*4=((4*(g/4):Nat):Int):=by omega
  unfold Oe
  by_cases d:H5 es (g/4)=true
  .rw[aLb d];have q:=so t (show 4*(g/4)<es.length by omega);have w:=uw d p rfl;rw[aLa (by omega),aLb ⟨by omega,by unfold A1;grind⟩];grind
  grind
 .have f:=lg p;rw[f];refine⟨rfl,?_⟩;unfold dp iY;rw[aLa b,aLa (fun h=>v h.symm),aLb rfl];dsimp only;have q:=so t p;generalize A:es.getD g iM=x at q ⊢;obtain⟨o,k⟩:=x;cases k with
  |true=>
   have i:Rw ⟨o,true⟩=o+8:=rfl
   rw[i,aLa (by unfold A1;grind),aLb ⟨by grind,by unfold A1;grind⟩]
   grind
  |false=>
   have i:Rw ⟨o,false⟩=o:=rfl
   rw[i,aLb (by unfold A1;grind)]
   grind
end
section
def cw (i:Nat) (N:List aJ):Nat:=N.countP fun n=>decide (n.core=(i:Int)/\(n.kind=6\/n.kind=12))
def cd (i g:Nat) (N:List aJ):Nat:=N.countP fun n=>decide (n.core=(i:Int)/\n.no=(g:Int)/\(n.kind=13\/n.kind=7))
def jF (N:List aJ) (i g:Nat):Prop:=∃n∈N,n.kind=13/\n.core=(i:Int)/\n.no=(g:Int)
def C4 (m:Mon) (g i:Nat):Nat:=match m.runs g with
 |some r=>(r.waits i).toNat
 |none=>0
structure iP (C:bM) (K:Nat->kO) (m:Mon) (N:List aJ):Prop where
 cw:∀i:Nat,(i:Int)<C.aE->cw i N=(K i).lA.toNat
 no:∀n∈N,n.kind=6\/n.kind=12->n.no=(K n.core.toNat).at'
 pl:∀i:Nat,(i:Int)<C.aE->(K i).lA=true->(K i).at'=(K i).bI/4\/(K i).at'=jA C.aS (K i).bI
 word:∀n∈N,n.kind=12->dp C.aS (K n.core.toNat).bI (K n.core.toNat).at' n.d0/\((K n.core.toNat).nL=false->(iY C.aS (K n.core.toNat).bI (K n.core.toNat).at' n.d0).2.2.1=true->(iY C.aS (K n.core.toNat).bI (K n.core.toNat).at' n.d0).2.1.locked=false->
  (iY C.aS (K n.core.toNat).bI (K n.core.toNat).at' n.d0).2.1.owner=(m.kX (K n.core.toNat).bI).owner/\((m.kX (K n.core.toNat).bI).locked=true->jF N n.core.toNat (K n.core.toNat).bI.toNat))
 known:∀i:Nat,(i:Int)<C.aE->∀x∈(K i).known,(0<=x.1/\x.1<C.aS)/\x.2=(m.kX x.1).owner/\((m.kX x.1).locked=true->jF N i x.1.toNat)
 nd:∀i:Nat,(i:Int)<C.aE->((K i).known.map (·.1)).Nodup/\((K i).lA=true->(K i).bI∉(K i).known.map (·.1))
 gr:∀i:Nat,(i:Int)<C.aE->0<=(K i).bI/\(K i).bI<C.aS
 lock:∀g:Nat,(g:Int)<C.aS->((m.kX g).locked=true↔(m.runs g).isSome=true)
 cd:∀g i:Nat,(i:Int)<C.aE->cd i g N=C4 m g i
 nb:∀n∈N,KK n.kind->(0<=n.core/\n.core<C.aE)/\(n.kind=13\/n.kind=7->0<=n.no)
 ph:∀g r,m.runs g=some r->(r.phase=2↔r.none=true)/\∀i:Nat,C.aE<=(i:Int)->r.waits i=false
variable {C:bM} {K:Nat->kO} {m:Mon} {N N':List aJ} {n:aJ}
theorem pC {i:Nat}:cw i (n::N)=cw i N+if n.core=(i:Int)/\(n.kind=6\/n.kind=12) then 1 else 0:=by
 unfold cw;grind
theorem nR {i g:Nat}:cd i g (n::N)=cd i g N+if n.core=(i:Int)/\n.no=(g:Int)/\(n.kind=13\/n.kind=7) then 1 else 0:=by
 unfold cd;grind
theorem aG6 {i:Nat}:cw i (N++N')=cw i N+cw i N':=List.countP_append
theorem qp {i g:Nat}:cd i g (N++N')=cd i g N+cd i g N':=List.countP_append
theorem Hd {i g:Nat} (h:jF N i g) (e:∀x∈N,x.kind=13->x∈N'):jF N' i g:=by
 obtain⟨x,b,a,d⟩:=h;exact⟨x,e x b a,a,d⟩
theorem aAf {i g:Nat} (h:jF N i g):0<cd i g N:=by
 obtain⟨x,a,b,d,e⟩:=h;exact List.countP_pos_iff.2 ⟨x,a,decide_eq_true ⟨d,e,.inl b⟩⟩
theorem Zw {i:Nat} (h:n∈N) (hc:n.core=(i:Int)) (a:n.kind=6\/n.kind=12):0<cw i N:=List.countP_pos_iff.2 ⟨n,h,decide_eq_true ⟨hc,a⟩⟩
theorem iP.perm (h:iP C K m N) (p:N.Perm N'):iP C K m N':=by
 have em:∀x,x∈N'↔x∈N:=fun x=>p.symm.mem_iff;have b:∀i,Mc.cw i N'=Mc.cw i N:=fun i=>(p.countP_eq _).symm;have d:∀i g,Mc.cd i g N'=Mc.cd i g N:=fun i g=>(p.countP_eq _).symm;have a:∀i g,jF N' i g↔jF N i g:=fun i g=>by unfold jF;simp only[em]
 constructor;simp only[b];exact h.cw;simp only[em];exact h.no;exact h.pl;simp only[em,a];exact h.word;simp only[a];exact h.known;exact h.nd;exact h.gr;exact h.lock;simp only[d];exact h.cd;simp only[em];exact h.nb;exact h.ph
theorem iP.skip (h:iP C K m (n::N)) (f:¬KK n.kind):iP C K m N:=by
 unfold KK at f;have p:∀i,Mc.cw i N=Mc.cw i (n::N):=fun i=>by rw[pC,aLa (by omega)];rfl
 have q:∀i g,Mc.cd i g N=Mc.cd i g (n::N):=fun i g=>by rw[nR,aLa (by omega)];rfl
 have o:∀i g,jF (n::N) i g->jF N i g:=fun i g ⟨x,j,t,u⟩=>by
  rcases List.mem_cons.1 j with rfl|j;omega;exact⟨x,j,t,u⟩
 have em:∀x,x∈N->x∈n::N:=fun x=>List.mem_cons_of_mem _;constructor;simp only[p];exact h.cw;exact fun x e=>h.no x (em x e);exact h.pl;exact fun x e f=>⟨(h.word x (em x e) f).1,fun a b c=>⟨((h.word x (em x e) f).2 a b c).1,fun d=>o _ _ (((h.word x (em x e) f).2 a b c).2 d)⟩⟩;exact fun i k x e=>⟨(h.known i k x e).1,(h.known i k x e).2.1,fun d=>o _ _ ((h.known i k x e).2.2 d)⟩;exact h.nd;exact h.gr;exact h.lock;simp only[q];exact h.cd;exact fun x e=>h.nb x (em x e);exact h.ph
theorem iP.add (h:iP C K m N) (f:¬KK n.kind):iP C K m (n::N):=by
 unfold KK at f;have t:∀i,Mc.cw i (n::N)=Mc.cw i N:=fun i=>by rw[pC,aLa (by omega)];rfl
 have u:∀i g,Mc.cd i g (n::N)=Mc.cd i g N:=fun i g=>by rw[nR,aLa (by omega)];rfl
 have q:∀i g,jF N i g->jF (n::N) i g:=fun i g v=>Hd v fun x e _=>List.mem_cons_of_mem _ e;have em:∀x,x∈n::N->KK x.kind->x∈N:=fun x e p=>by
  rcases List.mem_cons.1 e with rfl|e;exact absurd p (by unfold KK;exact f);exact e
 have j:∀{k:Int},k=6\/k=12->KK k:=fun h=>by unfold KK;omega
 constructor;simp only[t];exact h.cw;exact fun x e f=>h.no x (em x e (j f)) f;exact h.pl;exact fun x e f=>⟨(h.word x (em x e (j (.inr f))) f).1,fun a b c=>⟨((h.word x (em x e (j (.inr f))) f).2 a b c).1,fun d=>q _ _ (((h.word x (em x e (j (.inr f))) f).2 a b c).2 d)⟩⟩;exact fun i o x e=>⟨(h.known i o x e).1,(h.known i o x e).2.1,fun d=>q _ _ ((h.known i o x e).2.2 d)⟩;exact h.nd;exact h.gr;exact h.lock;simp only[u];exact h.cd;exact fun x e f=>h.nb x (em x e f) f;exact h.ph
theorem iP.more (h:iP C K m N):∀{l:List aJ},(∀x∈l,¬KK x.kind)->iP C K m (l++N)
 |[],_=>h
 |_::_,a=>(iP.more h fun x b=>a x (List.mem_cons_of_mem _ b)).add (a _ List.mem_cons_self)
theorem iP.new {es:List iE} (d:(es.length:Int)=C.aS) (a:1<=C.aS) (b:∀x∈es,x.locked=false):iP C (fun _=>Gz) ⟨es,fun _=>none⟩ []:=by
 constructor;case cw=>exact fun _ _=>rfl
 case no=>grind
 case pl=>exact fun _ _ h=>by cases h
 case word=>grind
 case known=>exact fun _ _ _ h=>by cases h
 case nd=>exact fun _ _=>⟨List.nodup_nil,fun h=>by cases h⟩
 case gr=>exact fun _ _=>⟨by decide,by show(0:Int)<C.aS;omega⟩
 case lock=>
  intro g a;unfold Mon.kX;grind
 case cd=>exact fun _ _ _=>rfl
 case nb=>grind
 grind
end
end Go.Mc
