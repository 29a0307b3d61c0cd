/- A part of the proof. -/
import Derived.Test.YthgemaaghgpncaaDoorB12
import Derived.Test.YthgemaaghgpncaaDoorB11
import Derived.Test.YthgemaaghgpncaaDoorB9
section
namespace Go.Pc
open Go Go.Ab Go.Hm Go.Ct
variable {l:Nat} {r:Row} {m V:Ln} {c:Pe} {N:List aF} {n:aF}
theorem Le {S:List Nat} {st k:Int} {i:Nat} (h:S.Nodup):cF k i l (cQ l st S)=if k=11∧i∈S then 1 else 0:=by
 induction S with
 |nil=>simp[cQ,cF]
 |cons a S ih=>
  have hn:=List.nodup_cons.1 h
  show cF k i l (_::cQ l st S)=_
  rw[aU,ih hn.2]
  grind
theorem Inv.idle (h:Inv l r m V c N) (hb:r.busy=false):r.quiet=true∧r.granted=false∧r.told=false:=by
 have hg:r.granted=false:=by cases e:r.granted with|false=>rfl|true=>have:=h.row.gb e;rw[hb] at this;cases this
 exact⟨h.row.still (.inr hb),hg,h.H4 hg⟩
theorem Inv.zJ {r':Row} {S:List Nat} {w:List aF} {st:Int} (h:Inv l r m V c N) (hb:r.busy=false) (hw:r.waits=n::w) (hk:n.kind=0∨n.kind=1∨n.kind=2)
  (hS:S.Nodup) (hS4:∀j∈S,j<4∧(r.sh j=true∨r.owner=(j:Int)))
  (hall:n.kind≠1→∀j:Nat,j<4→(n.kind=2→(j:Int)≠n.core)→r.sh j=true∨r.owner=(j:Int)→j∈S)
  (h1:n.kind=1→∀j∈S,r.owner=(j:Int)) (hst:st=if n.kind=1 then 1 else 0)
  (e1:r'.owner=r.owner∧r'.sh=r.sh∧r'.waits=w∧r'.busy=true∧r'.served=n∧r'.granted=false∧r'.told=false) (e2:∀j,j<4→r'.asked j=decide (j∈S)):
  Inv l r' m V c (cQ l st S++N):=by
 obtain⟨hq,hg,ht⟩:=h.idle hb
 have hnw:=h.row.waits n (by rw[hw];simp)
 obtain⟨i,hi,hci,hct⟩:=dD hnw.2.1
 have hcalm:=fun x hx=>h.calm hq (x:=x) hx
 have ek:∀k j,cF k j l r.waits=cF k j l w+if n.kind=k∧j=i then 1 else 0:=fun k j=>by
  rw[hw,aU];congr 1;simp only[hci,hnw.1];grind
 have ek':∀k j,cF k j l (cQ l st S++N)=(if k=11∧j∈S then 1 else 0)+cF k j l N:=fun k j=>by rw[tN,Le hS]
 have eH:∀j,HH l r' c (cQ l st S++N) j=HH l r c N j:=fun j=>by
  unfold HH pd;rw[ek,ek',e1.2.2.1,if_neg (by omega),if_neg (by omega)];simp
 have hpr:∀x∈cQ l st S,x.kind=11∧x.line=l∧x.state=st∧∃j∈S,x.core=(j:Int):=fun x hx=>by
  unfold cQ at hx
  grind
 have g0:∀j,mO r j=0∧mO r' j=0:=fun j=>by unfold mO;grind
 have e8:∀x∈N,x.kind≠8:=fun x hx k=>by
  have hb:=h.nc x hx
  obtain⟨j,hj,hcj,_⟩:=dD hb.2
  exact h.Zb hj (g0 j).1 hx k hcj
 have s0:∀j,qL r j=0:=fun j=>by unfold qL;rw[hb];simp
 have s1:∀j,qL r' j=if n.kind≠0∧j=i then 1 else 0:=fun j=>by
  unfold qL;grind
 have hmem:∀x,x∈cQ l st S++N→x∈cQ l st S∨x∈N:=fun x hx=>List.mem_append.1 hx
 have hmw:∀x,x∈w→x∈r.waits:=fun x hx=>by grind
 have hc1:∀j,j<4→(HH l r c N j=1↔r.sh j=true)∧(2≤HH l r c N j↔r.owner=(j:Int)):=fun j hj=>h.c1 j hj (by have:=h.t3 j hj;rw[dF hq hj] at this;simp at this;omega) (by have:=h.t4 j hj;rw[(g0 j).1] at this;omega)
 have hrq:=h.rq n (.inr (by rw[hw];simp))
 rw[hct] at hrq
 have hwant:n.kind=0∨n.kind=2∨r.owner≠n.core:=by
  by_cases k1:n.kind=1
  ·right;right
   intro eo
   have has:(c i).iZ=true:=by
    have:=h.t1 i hi;rw[ek 1,if_pos ⟨k1,rfl⟩] at this;cases hx:(c i).iZ<;>simp_all
   have haw:(c i).aw=false:=by grind
   have:=h.a2 i hi has haw
   grind
  ·omega
 constructor
 case row=>
  refine yG.Yw ⟨?_,?_,?_,?_,?_,e1.2.2.2.1,e1.2.2.2.2.2.1⟩
  ·grind
  ·rw[e1.1];exact h.row.owner
  ·rw[e1.2.2.1];exact fun x hx=>h.row.waits x (hmw x hx)
  ·grind
  grind
 case ks=>grind
 case kg=>grind
 case told=>grind
 case nc=>
  intro x hx;rcases hmem x hx with hx|hx
  ·grind
  ·exact h.nc x hx
 case ex=>exact h.ex
 case mN=>exact h.mN
 case t1=>
  intro j hj
  have h1:=h.t1 j hj
  simp only[ek,s0] at h1
  rw[s1,e1.2.2.1]
  grind
 case t2=>intro j hj;have h1:=h.t2 j hj;rw[ek,if_neg (by omega)] at h1;grind
 case t3=>
  intro j hj
  have h1:=h.t3 j hj
  rw[dF hq hj] at h1
  simp at h1
  rw[e2 j hj]
  simp only[ek',h1]
  grind
 case t4=>intro j hj;have h1:=h.t4 j hj;grind
 case a1=>simp only[eH];exact h.a1
 case a2=>simp only[eH];exact h.a2
 case rq=>
  intro x hx k
  refine h.rq x ?_ k
  grind
 case rs=>grind
 case c1=>grind
 case c2=>simp only[eH];exact h.c2
 case sJ=>grind
 case gN=>grind
 case pN=>
  intro x hx k
  rcases hmem x hx with hx|hx
  ·obtain⟨_,_,h3,j,hj,h4⟩:=hpr x hx
   rw[e1.1,e1.2.1,e1.2.2.2.2.1,h3,hst,h4,Int.toNat_natCast]
   grind
  grind
 case rN=>grind
 case uN=>
  intro x hx k
  refine h.uN x ?_ k
  grind
 case c3=>simp only[eH];exact h.c3
 case c5=>simp only[eH];exact fun h1 h2=>h.c5 h1 (fun x hx=>h2 x (List.mem_append.2 (.inr hx)))
 grind
theorem Inv.dk {w:List aF} (h:Inv l r m V c N) (hw:r.waits=n::w) (hk:n.kind=1∨n.kind=2):Inv l (r.next w) m V c (iL 9 n.core l::N):=by
 have hnw:=h.row.waits n (by rw[hw];simp)
 obtain⟨i,hi,hci,hct⟩:=dD hnw.2.1
 have ek:∀k j,cF k j l r.waits=cF k j l w+if n.kind=k∧j=i then 1 else 0:=fun k j=>by
  rw[hw,aU];grind
 have ek':∀k j,cF k j l (iL 9 n.core l::N)=cF k j l N+if k=9∧j=i then 1 else 0:=fun k j=>by
  rw[aU];congr 1;simp only[iL,hci];grind
 have eH:∀j,HH l (r.next w) c (iL 9 n.core l::N) j=HH l r c N j:=fun j=>by
  unfold HH pd;rw[ek,ek',if_neg (by omega),if_neg (by omega)];rfl
 have hmem:∀x,x∈iL 9 n.core l::N→x=iL 9 n.core l∨x∈N:=fun x hx=>List.mem_cons.1 hx
 have hmw:∀x,x∈w→x∈r.waits:=fun x hx=>by grind
 have hno:∀x,x=iL 9 n.core l→x.kind=9:=fun x e=>by rw[e];rfl
 constructor
 case row=>exact vY h.row hw
 case ks=>exact h.ks
 case kg=>exact h.kg
 case told=>exact h.told
 case nc=>intro x hx;rcases hmem x hx with rfl|hx;exact⟨rfl,hnw.2.1⟩;exact h.nc x hx
 case ex=>exact h.ex
 case mN=>exact h.mN
 case t1=>
  intro j hj
  have h1:=h.t1 j hj
  have e0:qL (r.next w) j=qL r j:=rfl
  rw[e0]
  simp only[ek,ek'] at h1 ⊢
  rw[show(r.next w).waits=w from rfl]
  grind
 case t2=>intro j hj;have h1:=h.t2 j hj;rw[ek,if_neg (by omega)] at h1;rw[show(r.next w).waits=w from rfl];grind
 case t3=>intro j hj;have h1:_=((r.next w).asked j).toNat:=h.t3 j hj;grind
 case t4=>intro j hj;have h1:_=mO (r.next w) j:=h.t4 j hj;grind
 case a1=>simp only[eH];exact h.a1
 case a2=>simp only[eH];exact h.a2
 case rq=>intro x hx k;exact h.rq x (hx.elim (fun hx=> .inl ((hmem x hx).resolve_left (fun e=>by grind))) (fun hx=> .inr (hmw x hx))) k
 case rs=>exact h.rs
 case c1=>intro j hj h5 h8;rw[eH];simp only[ek'] at h5 h8;simp at h5 h8;exact h.c1 j hj h5 h8
 case c2=>simp only[eH];exact h.c2
 case sJ=>simp only[eH];intro j hj h2 x hx k;rcases hmem x hx with rfl|hx;cases k;exact h.sJ j hj h2 x hx k
 case gN=>simp only[eH];intro x hx k;rcases hmem x hx with rfl|hx;cases k;exact h.gN x hx k
 case pN=>intro x hx k;rcases hmem x hx with rfl|hx;cases k;exact h.pN x hx k
 case rN=>simp only[eH];intro x hx k;rcases hmem x hx with rfl|hx;cases k;exact h.rN x hx k
 case uN=>intro x hx k;exact h.uN x (hx.elim (fun hx=> .inl ((hmem x hx).resolve_left (fun e=>by grind))) (fun hx=> .inr (hmw x hx))) k
 case c3=>simp only[eH];exact h.c3
 case c5=>simp only[eH];exact fun h1 h2=>h.c5 h1 (fun x hx=>h2 x (List.mem_cons_of_mem _ hx))
 case k2=>exact h.k2
theorem Inv.bw {w:List aF} (h:Inv l r m V c N) (hw:r.waits=n::w) (hk:n.kind=0):Inv l (r.next w) m V c N:=by
 have ek:∀k j,k≠0→cF k j l r.waits=cF k j l w:=fun k j hk'=>by
  rw[hw,aU,if_neg (by omega)];rfl
 have eH:∀j,HH l (r.next w) c N j=HH l r c N j:=fun j=>by unfold HH pd;rw[ek 3 j (by omega)];rfl
 have hmw:∀x,x∈w→x∈r.waits:=fun x hx=>by grind
 constructor
 case row=>exact vY h.row hw
 case ks=>exact h.ks
 case kg=>exact h.kg
 case told=>exact h.told
 case nc=>exact h.nc
 case ex=>exact h.ex
 case mN=>exact h.mN
 case t1=>intro j hj;have h1:=h.t1 j hj;rw[ek 1 j (by omega),ek 2 j (by omega)] at h1;exact h1
 case t2=>intro j hj;have h1:=h.t2 j hj;rw[ek 3 j (by omega)] at h1;exact h1
 case t3=>exact h.t3
 case t4=>exact h.t4
 case a1=>simp only[eH];exact h.a1
 case a2=>simp only[eH];exact h.a2
 case rq=>exact fun x hx=>h.rq x (hx.imp id (hmw x))
 case rs=>exact h.rs
 case c1=>simp only[eH];exact h.c1
 case c2=>simp only[eH];exact h.c2
 case sJ=>simp only[eH];exact h.sJ
 case gN=>simp only[eH];exact h.gN
 case pN=>exact h.pN
 case rN=>simp only[eH];exact h.rN
 case uN=>exact fun x hx=>h.uN x (hx.imp id (hmw x))
 case c3=>simp only[eH];exact h.c3
 case c5=>simp only[eH];exact h.c5
 case k2=>exact h.k2
theorem Inv.Tz (h:Inv l r m V c N):Inv l (r.wait (iW l)) m V c N:=by
 have ek:∀k j,k≠0→cF k j l (r.wait (iW l)).waits=cF k j l r.waits:=fun k j hk'=>by
  show cF k j l (r.waits++[iW l])=_
  rw[tN,aU,uW,if_neg (by simp[iW,aF.zero];omega)];rfl
 have eH:∀j,HH l (r.wait (iW l)) c N j=HH l r c N j:=fun j=>by unfold HH pd;grind
 have hmw:∀x,x∈(r.wait (iW l)).waits→x.kind≠0→x∈r.waits:=fun x hx k=>by
  have hx:x∈r.waits++[iW l]:=hx
  rcases List.mem_append.1 hx with hx|hx
  ·exact hx
  ·rw[List.mem_singleton.1 hx] at k;exact absurd rfl k
 constructor
 case row=>exact Dt h.row rfl ⟨by show(0:Int)≤0;omega,by show(0:Int)<4;omega⟩ (.inl rfl)
 case ks=>exact h.ks
 case kg=>exact h.kg
 case told=>exact h.told
 case nc=>exact h.nc
 case ex=>exact h.ex
 case mN=>exact h.mN
 case t1=>intro j hj;have h1:=h.t1 j hj;rw[ek 1 j (by omega),ek 2 j (by omega)];exact h1
 case t2=>intro j hj;have h1:=h.t2 j hj;grind
 case t3=>exact h.t3
 case t4=>exact h.t4
 case a1=>simp only[eH];exact h.a1
 case a2=>simp only[eH];exact h.a2
 case rq=>exact fun x hx k=>h.rq x (hx.imp id (fun hx=>hmw x hx (by omega))) k
 case rs=>exact h.rs
 case c1=>simp only[eH];exact h.c1
 case c2=>simp only[eH];exact h.c2
 case sJ=>simp only[eH];exact h.sJ
 case gN=>simp only[eH];exact h.gN
 case pN=>exact h.pN
 case rN=>simp only[eH];exact h.rN
 case uN=>exact fun x hx k=>h.uN x (hx.imp id (fun hx=>hmw x hx (by omega))) k
 case c3=>simp only[eH];exact h.c3
 case c5=>simp only[eH];exact h.c5
 case k2=>exact h.k2
theorem Inv.Su {w:List aF} (h:Inv l r m V c N) (hb:r.busy=false) (hw:r.waits=n::w) (hk:n.kind=3):
  Inv l ((r.next w).leave n.core) (if r.owner=n.core∧n.gC=true then(n.d0,n.d1) else m) V c (iL 10 n.core l::N):=by
 obtain⟨hq,hg,ht⟩:=h.idle hb
 have hnw:=h.row.waits n (by rw[hw];simp)
 obtain⟨i,hi,hci,hct⟩:=dD hnw.2.1
 have hcalm:=fun x hx=>h.calm hq (x:=x) hx
 have ek:∀k j,cF k j l r.waits=cF k j l w+if k=3∧j=i then 1 else 0:=fun k j=>by
  rw[hw,aU];congr 1;simp only[hci,hnw.1,hk];grind
 have ek':∀k j,cF k j l (iL 10 n.core l::N)=cF k j l N+if k=10∧j=i then 1 else 0:=fun k j=>by
  rw[aU];congr 1;simp only[iL,hci];grind
 have g0:∀j,mO r j=0∧mO ((r.next w).leave n.core) j=0:=fun j=>⟨by unfold mO;rw[hg];simp,by unfold mO;rw[if_neg];intro e;have:r.granted=true:=e.1;grind⟩
 have e8:∀x∈N,x.kind≠8:=fun x hx k=>by
  have hb:=h.nc x hx
  obtain⟨j,hj,hcj,_⟩:=dD hb.2
  exact h.Zb hj (g0 j).1 hx k hcj
 have hc1:∀j,j<4→(HH l r c N j=1↔r.sh j=true)∧(2≤HH l r c N j↔r.owner=(j:Int)):=fun j hj=>h.c1 j hj (by have:=h.t3 j hj;rw[dF hq hj] at this;simp at this;omega) (by have:=h.t4 j hj;grind)
 have hz:(c i).gi=true∧cF 3 i l N=0∧cF 3 i l w=0∧cF 10 i l N=0:=by
  have:=h.t2 i hi
  rw[ek,if_pos ⟨rfl,rfl⟩] at this
  cases hx:(c i).gi with
  |false=>grind
  |true=>grind
 have hst:(c i).st=0∧(c i).iZ=false:=by
  have:=h.ex i hi
  rw[hz.1] at this
  constructor
  ·grind
  ·grind
 have hHi0:HH l r c N i=(c i).gs:=by
  unfold HH hs pd;rw[ek,hst.1,hz.1];simp
 have hHi:HH l ((r.next w).leave n.core) c (iL 10 n.core l::N) i=0:=by
  unfold HH hs
  have:pd l ((r.next w).leave n.core) (iL 10 n.core l::N) i=0:=by
   unfold pd;rw[ek'];show _+cF 3 i l w=0;grind
  grind
 have eH:∀j,j≠i→HH l ((r.next w).leave n.core) c (iL 10 n.core l::N) j=HH l r c N j:=fun j e=>by
  unfold HH
  have:pd l ((r.next w).leave n.core) (iL 10 n.core l::N) j=pd l r N j:=by
   unfold pd;rw[ek',ek];show _+cF 3 j l w=_;simp[e]
  rw[this]
 have hle:∀j,j<4→HH l ((r.next w).leave n.core) c (iL 10 n.core l::N) j=HH l r c N j∨(j=i∧HH l ((r.next w).leave n.core) c (iL 10 n.core l::N) j=0):=fun j _=>by
  grind
 have hmem:∀x,x∈iL 10 n.core l::N→x=iL 10 n.core l∨x∈N:=fun x hx=>List.mem_cons.1 hx
 have hmw:∀x,x∈w→x∈r.waits:=fun x hx=>by grind
 have hno:∀x,x=iL 10 n.core l→x.kind=10:=fun x e=>by rw[e];rfl
 have hun:=h.uN n (.inr (by rw[hw];simp)) hk
 rw[hct] at hun
 constructor
 case row=>exact xO (vY h.row hw)
 case ks=>exact h.ks
 case kg=>exact h.kg
 case told=>exact h.told
 case nc=>intro x hx;rcases hmem x hx with rfl|hx;exact⟨rfl,hnw.2.1⟩;exact h.nc x hx
 case ex=>exact h.ex
 case mN=>exact h.mN
 case t1=>
  intro j hj
  have h1:=h.t1 j hj
  have e0:qL ((r.next w).leave n.core) j=qL r j:=rfl
  rw[e0]
  simp only[ek,ek'] at h1 ⊢
  rw[show((r.next w).leave n.core).waits=w from rfl]
  grind
 case t2=>
  intro j hj
  have h1:=h.t2 j hj
  simp only[ek,ek'] at h1 ⊢
  show cF 3 j l N+_+cF 3 j l w+_=_
  grind
 case t3=>intro j hj;have h1:_=(((r.next w).leave n.core).asked j).toNat:=h.t3 j hj;grind
 case t4=>intro j hj;have h1:=h.t4 j hj;grind
 case a1=>intro j hj ha;have:=h.a1 j hj ha;grind
 case a2=>intro j hj ha hb;have:=h.a2 j hj ha hb;grind
 case rq=>intro x hx k;exact h.rq x (hx.elim (fun hx=> .inl ((hmem x hx).resolve_left (fun e=>by grind))) (fun hx=> .inr (hmw x hx))) k
 case rs=>exact h.rs
 case c1=>
  intro j hj _ _
  by_cases e:j=i
  ·rw[e,hHi]
   constructor
   ·show _↔eP r.sh n.core false i=true
    unfold eP;grind
   ·show _↔(if r.owner=n.core then(-1:Int) else r.owner)=(i:Int)
    grind
  ·rw[eH j e]
   have h1:=hc1 j hj
   constructor
   ·show _↔eP r.sh n.core false j=true
    unfold eP;grind
   ·show _↔(if r.owner=n.core then(-1:Int) else r.owner)=(j:Int)
    grind
 case c2=>
  intro j hj h2 k hk' e
  have h0:=h.c2 j hj
  grind
 case sJ=>grind
 case gN=>grind
 case pN=>grind
 case rN=>grind
 case uN=>intro x hx k;exact h.uN x (hx.elim (fun hx=> .inl ((hmem x hx).resolve_left (fun e=>by grind))) (fun hx=> .inr (hmw x hx))) k
 case c3=>
  intro j hj h0
  rcases hle j hj with e1|e1
  ·rw[e1] at h0;exact h.c3 j hj h0
  grind
 case c5=>
  intro h1 _
  by_cases ho:r.owner=n.core
  ·have h2:=(hc1 i hi).2.2 (by omega)
   have hV:=h.c3 i hi (by omega)
   unfold lR at hV
   rw[if_neg (by simpa using hst.1)] at hV
   by_cases hd:n.gC=true
   ·grind
   ·rw[if_neg (fun e=>hd e.2)]
    have h34:¬((c i).gs=3∨(c i).gs=4):=fun e=>hd (hun.2 e)
    refine h.c5 (fun j hj=>?_) (fun x hx k=>absurd k (hcalm x hx).1)
    grind
  ·rw[if_neg (fun e=>ho e.1)]
   refine h.c5 (fun j hj=>?_) (fun x hx k=>absurd k (hcalm x hx).1)
   grind
 case k2=>intro b;rw[show((r.next w).leave n.core).busy=r.busy from rfl,hb] at b;cases b
theorem Inv.begun {w:List aF} {j:Int→Int×Bool} (h:Inv l r m V c N) (hb:r.busy=false) (hw:r.waits=n::w):
  Inv l (Row.begun (r.next w) l m n j).1.1 (Row.begun (r.next w) l m n j).1.2 V c ((Row.begun (r.next w) l m n j).2++N):=by
 obtain⟨hq,hg,ht⟩:=h.idle hb
 have hnw:=h.row.waits n (by rw[hw];simp)
 obtain⟨i,hi,hci,hct⟩:=dD hnw.2.1
 have hquiet:∀j,j<4→r.asked j=false:=fun j hj=>dF hq hj
 have hc1:∀j,j<4→(HH l r c N j=1↔r.sh j=true)∧(2≤HH l r c N j↔r.owner=(j:Int)):=fun j hj=>h.c1 j hj (by have:=h.t3 j hj;rw[dF hq hj] at this;simp at this;omega) (by have:=h.t4 j hj;unfold mO at this;rw[hg] at this;simp at this;omega)
 have hoB:=h.row.owner
 unfold Row.begun
 by_cases k3:n.kind=3
 ·rw[if_pos k3];exact h.Su hb hw k3
 ·rw[if_neg k3]
  by_cases k12:n.kind=1∨n.kind=2
  ·rw[if_pos k12]
   by_cases hj:(j n.world).2=true
   ·rw[if_pos hj]
    have hcore:((r.next w).serve n (j n.world).1).served=n:=rfl
    unfold Row.get
    by_cases k2:n.kind=2
    ·simp only[if_pos k2]
     unfold Row.getM
     by_cases hf:((r.next w).serve n (j n.world).1).first n.core≠ -1
     ·rw[if_pos (by rw[hcore];exact hf)]
      rw[hcore]
      have hmh:∀a,a∈((r.next w).serve n (j n.world).1).dB n.core→a<4∧(r.sh a=true∨r.owner=(a:Int)):=fun a ha=>by
       have:=jF.1 ha
       have h2:r.holds n.core a=true:=this.2
       unfold Row.holds at h2
       grind
      refine h.zJ hb hw (.inr (.inr k2)) Aw hmh (fun _ a ha hx hs=>jF.2 ⟨ha,?_⟩) (fun e=>by omega) (by grind) ⟨rfl,rfl,rfl,rfl,rfl,hg,ht⟩ (fun a ha=>?_)
      ·show r.holds n.core a=true
       unfold Row.holds
       grind
      ·show(r.asked a||(((r.next w).serve n (j n.world).1).dB n.core).contains a)=_
       grind
     ·rw[if_neg (by rw[hcore];exact hf)]
      have hf0:((r.next w).serve n (j n.world).1).first n.core= -1:=Classical.not_not.1 hf
      have hff:=oP.1 hf0
      have hI:=h.zJ (r':=(r.next w).serve n (j n.world).1) (S:=[]) (st:=0) hb hw (.inr (.inr k2)) List.nodup_nil (fun _ e=>by cases e)
       (fun _ a ha hx hs=>by
        have h2:r.sh a=false∧(a:Int)≠r.owner:=hff a ha (hx k2)
        grind) (fun _ _ e=>by cases e) (by grind) ⟨rfl,rfl,rfl,rfl,rfl,hg,ht⟩ (fun a ha=>by show r.asked a=_;grind)
      have hdat:((r.next w).serve n (j n.world).1).lR m=m:=by unfold Row.lR;rw[if_neg];show ¬r.told=true;rw[ht];simp
      rw[hdat]
      have hHs:∀a,HH l ((r.next w).serve n (j n.world).1) c (cQ l 0 []++N) a=HH l r c N a:=fun a=>by
       unfold HH pd;show hs (c a) (cF 3 a l N+cF 3 a l w)=_;rw[hw,aU,if_neg (by omega)];rfl
      refine(hI.cI rfl hg hq (.inr k2) (fun h0=>?_) (fun e=>by grind)).1
      refine h.c5 (fun a ha=>?_) (fun x hx k=>absurd k (h.calm hq hx).1)
      by_cases e:a=i
      ·rw[hHs,hcore,hct] at h0;rw[e];omega
      ·have h2:r.sh a=false∧(a:Int)≠r.owner:=hff a ha (by rw[hci];omega)
       have:¬2≤HH l r c N a:=fun e2=>by have:=(hc1 a ha).2.1 e2;omega
       omega
    ·simp only[if_neg k2]
     have k1:n.kind=1:=by omega
     have hrq:=(h.rq n (.inr (by rw[hw];simp)) (.inl k1))
     rw[hct] at hrq
     have has:(c i).iZ=true:=by
      have:=h.t1 i hi;rw[hw,aU (k:=1),if_pos ⟨k1,hci,hnw.1⟩] at this;cases hx:(c i).iZ<;>simp_all
     have haw:(c i).aw=false:=by grind
     have h0:=h.a2 i hi has haw
     have hon:r.owner≠n.core:=fun e=>by grind
     have hun:((r.next w).serve n (j n.world).1).jX=(r.next w).serve n (j n.world).1:=by unfold Row.jX;exact if_neg hon
     rw[hun]
     unfold Row.Jb
     by_cases ho:r.owner≠ -1
     ·rw[if_pos (show((r.next w).serve n (j n.world).1).owner≠ -1 from ho)]
      refine h.zJ hb hw (.inr (.inl k1)) (List.nodup_cons.2 ⟨by simp,List.nodup_nil⟩) (fun a ha=>?_) (fun e=>absurd k1 e) (fun _ a ha=>?_) (by rw[if_pos k1]) ⟨rfl,rfl,rfl,rfl,rfl,hg,ht⟩ (fun a ha=>?_)
      ·have ha:a=((r.next w).serve n (j n.world).1).owner.toNat:=by simpa using ha
       have ha:a=r.owner.toNat:=ha
       grind
      ·have ha:a=((r.next w).serve n (j n.world).1).owner.toNat:=by simpa using ha
       have ha:a=r.owner.toNat:=ha
       omega
      ·show(r.asked a||[r.owner.toNat].contains a)=_
       rw[hquiet a ha];simp;rfl
     ·rw[if_neg (show ¬((r.next w).serve n (j n.world).1).owner≠ -1 from ho)]
      have ho:r.owner= -1:=Classical.not_not.1 ho
      have hI:=h.zJ (r':=(r.next w).serve n (j n.world).1) (S:=[]) (st:=1) hb hw (.inr (.inl k1)) List.nodup_nil (fun _ e=>by cases e)
       (fun e=>absurd k1 e) (fun _ _ e=>by cases e) (by rw[if_pos k1]) ⟨rfl,rfl,rfl,rfl,rfl,hg,ht⟩ (fun a ha=>by show r.asked a=_;grind)
      have hdat:((r.next w).serve n (j n.world).1).lR m=m:=by unfold Row.lR;rw[if_neg];show ¬r.told=true;rw[ht];simp
      rw[hdat]
      have hHs:∀a,HH l ((r.next w).serve n (j n.world).1) c (cQ l 1 []++N) a=HH l r c N a:=fun a=>by
       unfold HH pd;show hs (c a) (cF 3 a l N+cF 3 a l w)=_;rw[hw,aU,if_neg (by omega)];rfl
      have hn2:∀a,a<4→¬2≤HH l r c N a:=fun a ha e2=>by grind
      refine(hI.cI rfl hg hq (.inl k1) (fun _=>h.c5 (fun a ha=>?_) (fun x hx k=>absurd k (h.calm hq hx).1)) (fun _ a ha=>?_)).1
      ·grind
      grind
   ·rw[if_neg hj];exact h.dk hw k12
  ·rw[if_neg k12]
   have k0:n.kind=0:=by grind
   by_cases hf:(r.next w).first (-1)= -1
   ·rw[if_pos hf];exact h.bw hw k0
   ·rw[if_neg hf]
    have hmh:∀a,a∈(r.next w).dB (-1)→a<4∧(r.sh a=true∨r.owner=(a:Int)):=fun a ha=>by
     have:=jF.1 ha
     have h2:r.holds (-1) a=true:=this.2
     unfold Row.holds at h2
     grind
    refine h.zJ hb hw (.inl k0) Aw hmh (fun _ a ha hx hs=>jF.2 ⟨ha,?_⟩) (fun e=>by omega) (by grind) ⟨rfl,rfl,rfl,rfl,rfl,hg,ht⟩ (fun a ha=>?_)
    ·show r.holds (-1) a=true
     unfold Row.holds
     grind
    ·show(r.asked a||((r.next w).dB (-1)).contains a)=_
     grind
theorem Inv.zero (l:Nat):Inv l qK (0,0) (0,0) (fun _=>⟨0,(0,0),false,false,false,0,(0,0)⟩) []:=by
 have hH:∀i,HH l qK (fun _=>⟨0,(0,0),false,false,false,0,(0,0)⟩) [] i=0:=fun i=>by unfold HH hs pd;simp
 constructor
 case row=>exact c9 l
 case ks=>intro e;cases e
 case kg=>intro e;cases e
 case told=>intro e;cases e
 case nc=>intro x hx;cases hx
 case ex=>intro _ _ _;rfl
 case mN=>intro _ _;decide
 case t1=>intro _ _;rfl
 case t2=>intro _ _;rfl
 case t3=>intro _ _;rfl
 case t4=>intro _ _;rfl
 case a1=>intro _ _ e;cases e
 case a2=>intro _ _ e;cases e
 case rq=>intro x hx;rcases hx with hx|hx<;>cases hx
 case rs=>intro e;cases e
 case c1=>intro i hi _ _;rw[hH];simp[qK]<;>omega
 case c2=>grind
 case sJ=>grind
 case gN=>intro x hx;cases hx
 case pN=>intro x hx;cases hx
 case rN=>intro x hx;cases hx
 case uN=>intro x hx;rcases hx with hx|hx<;>cases hx
 case c3=>grind
 case c5=>intro _ _;rfl
 case k2=>intro e;cases e
end Go.Pc
end
section
namespace Go.Pc
open Go Go.Ab Go.Hm Go.Ct
variable {n ways:Nat} {S:Nat→List Th} {no:Int} {x:jW} {s:eQ} {C:bJ} {core:Int}
def aS (n:Nat) (s:eQ) (l:Nat):CL where
 st:=if(aG n s.S l).2=0 then(aG n s.S l).1.st else 0
 d:=if(aG n s.S l).2=0 then(aG n s.S l).1.d else(0,0)
 iZ:=s.sB&&decide (s.al=l)
 aw:=s.sB&&decide (s.al=l)&&s.aw
 gi:=s.lA&&decide (s.gl=l)
 gs:=if s.lA=true∧s.gl=l then s.gc.st else 0
 gd:=if s.lA=true∧s.gl=l then s.gc.d else(0,0)
theorem sQ {l:Nat}:(aS n s l).st=if(aG n s.S l).2=0 then(aG n s.S l).1.st else 0:=rfl
theorem U8 {l:Nat}:(aS n s l).d=if(aG n s.S l).2=0 then(aG n s.S l).1.d else(0,0):=rfl
theorem Wj {l:Nat}:(aS n s l).gs=if s.lA=true∧s.gl=l then s.gc.st else 0:=rfl
theorem Wm {l:Nat}:(aS n s l).gd=if s.lA=true∧s.gl=l then s.gc.d else(0,0):=rfl
theorem Es {l:Int} {L:List Th} (h:l≠no):Go.Ct.get l (rem no L)=Go.Ct.get l L:=by
 induction L with
 |nil=>rfl
 |cons t L ih=>
  unfold rem
  split
  ·rename_i e
   unfold Go.Ct.get
   grind
  ·unfold Go.Ct.get at ih ⊢
   grind
theorem U4 {l:Int} {L:List Th} (h:l≠no):Go.Ct.get l (L++[(no,x)])=Go.Ct.get l L:=by
 unfold Go.Ct.get
 grind
theorem B2 {l:Int} {L:List Th} {m:Nat} (h:aI n l=m→Go.Ct.get l L=Go.Ct.get l (S m)):aG n (aJ S m L) l=aG n S l:=by
 unfold aG
 split
 ·rfl
 ·by_cases e:aI n l=m
  ·rw[e,cV,h e]
  ·rw[bK e]
theorem gB {l:Int} (h:l≠no):aG n (dM n S no) l=aG n S l:=by
 unfold dM
 split
 ·rfl
 ·exact B2 fun _=>Es h
theorem gE {l:Int} (h:l≠no):aG n (gA n ways S no x).1 l=aG n S l:=by
 unfold gA
 split
 ·exact B2 fun _=>Es h
 ·exact B2 fun _=>by rw[U4 h,Es h]
theorem tB {l:Int} (h:l≠no):aG n (oM n ways S no) l=aG n S l:=by
 unfold oM
 split
 ·rw[gE h,gB h]
 ·exact gB h
theorem wF (hg:∀i,jC ways (S i)) (h0:0≤no):(aG n (dM n S no) no).2=12:=by
 unfold dM
 rw[if_neg (by omega)]
 unfold aG
 rw[if_neg (by omega),cV,My (yY (hg _).nd)]
theorem Aq {i:Nat}:(dM n S no i).length≤(S i).length:=by
 unfold dM
 split
 ·exact Nat.le_refl _
 ·unfold aJ
  split
  ·rename_i e;subst e;exact mS.length_le
  grind
theorem Lw {i:Nat} (hp:(aG n S no).2=0):((gA n ways S no x).1 i).length≤(S i).length:=by
 obtain⟨h1,h2⟩:=jE hp
 have:=A0 h1
 unfold gA
 split
 ·unfold aJ
  grind
 ·unfold aJ
  grind
theorem E8 (hg:∀i,jC ways (S i)) {i:Nat} (hp:(aG n S no).2=0):(oM n ways S no i).length≤(S i).length:=by
 obtain⟨h1,h2⟩:=jE hp
 have hl:=A0 h1
 unfold oM
 rw[if_pos hp]
 unfold gA
 have e:rem no (dM n S no (aI n no))=rem no (S (aI n no)):=by rw[D8 h2,Ng (hg _).nd]
 rw[e]
 split
 ·unfold aJ
  dsimp only
  split
  ·grind
  ·exact Aq
 ·unfold aJ
  dsimp only
  split
  ·grind
  ·exact Aq
theorem Mv (hp:(aG n S no).2=0):(dM n S no (aI n no)).length<(S (aI n no)).length:=by
 obtain⟨h1,h2⟩:=jE hp
 rw[D8 h2]
 exact A0 h1
structure Room (C:bJ) (s:eQ):Prop where
 al:s.sB=true→(0≤s.al∧s.al<C.lines)∧((aG C.aD.toNat s.S s.al).2=0∨(s.S (aI C.aD.toNat s.al)).length<C.ways.toNat)
 gl:s.lA=true→0≤s.gl∧s.gl<C.lines
 bd:∀l,(aG C.aD.toNat s.S l).2=0→l<C.lines
theorem Ap {l:Int}:(aG n eQ.new.S l).2≠0:=by
 unfold aG eQ.new Go.Ct.get
 split<;>simp
theorem Room.new:Room C eQ.new:=⟨(fun e=>by cases e),(fun e=>by cases e),fun _ e=>absurd e Ap⟩
theorem Oo {l a ow:Int} (hg:iF C s) (h:Room C s):Room C (jO C s l a ow):=by
 unfold jO
 split
 ·rename_i hr
  have hp:=(jT hr).2.2.1
  refine⟨fun e=>⟨(h.al e).1,?_⟩,h.gl,fun k hk=>?_⟩
  rotate_left
  ·by_cases e2:k=l
   ·rw[e2];exact(jT hr).1.2
   ·exact h.bd k (by rw[←hk];exact(congrArg Prod.snd (tB e2)).symm)
  rcases(h.al e).2 with h2|h2
  ·left
   by_cases e2:s.al=l
   ·show(aG C.aD.toNat (oM C.aD.toNat C.ways.toNat s.S l) s.al).2=0
    rw[e2,Iy hg.aD hp];exact hp
   ·show(aG C.aD.toNat (oM C.aD.toNat C.ways.toNat s.S l) s.al).2=0
    rw[tB e2];exact h2
  ·right
   exact Nat.lt_of_le_of_lt (E8 hg.aD hp) h2
 ·exact h
theorem Jq {l a ow v:Int} (hg:iF C s) (h:Room C s):Room C (gF C s l a ow v):=by
 unfold gF
 split
 ·rename_i hr
  have hp:=(jT hr).2.2.1
  refine⟨fun e=>⟨(h.al e).1,?_⟩,h.gl,fun k hk=>?_⟩
  rotate_left
  ·by_cases e2:k=l
   ·rw[e2];exact(jT hr).1.2
   ·exact h.bd k (by rw[←hk];exact(congrArg Prod.snd (gE e2)).symm)
  rcases(h.al e).2 with h2|h2
  ·left
   show(aG C.aD.toNat (gA C.aD.toNat C.ways.toNat s.S l _).1 s.al).2=0
   by_cases e2:s.al=l
   ·rw[e2,rJ hg.aD (jT hr).1.1 (rE hg.aD hp)]
   ·rw[gE e2];exact h2
  ·right
   exact Nat.lt_of_le_of_lt (Lw hp) h2
 ·exact h
theorem Vm {l a ow:Int} {k:Nat} (hg:iF C s):aS C.aD.toNat (jO C s l a ow) k=aS C.aD.toNat s k:=by
 unfold jO
 split
 ·rename_i hr
  have hp:=(jT hr).2.2.1
  unfold aS
  have:aG C.aD.toNat (oM C.aD.toNat C.ways.toNat s.S l) k=aG C.aD.toNat s.S k:=by
   by_cases e:(k:Int)=l
   ·rw[e];exact Iy hg.aD hp
   ·exact tB e
  simp only[this]
 ·rfl
theorem K5 {l a ow v:Int} {k:Nat} (h:(k:Int)≠l):aS C.aD.toNat (gF C s l a ow v) k=aS C.aD.toNat s k:=by
 unfold gF
 split
 ·unfold aS
  simp only[gE h]
 ·rfl
theorem Ri {a ow v:Int} {k:Nat} (hg:iF C s) (hr:eZ C s.S k a ow true=0):
  ((aS C.aD.toNat s k).st=2∨(aS C.aD.toNat s k).st=4)∧aS C.aD.toNat (gF C s k a ow v) k={aS C.aD.toNat s k with st:=4,d:=Hy (aS C.aD.toNat s k).d a v}:=by
 have h0:=jT hr
 have hp:=h0.2.2.1
 have hst:(aS C.aD.toNat s k).st=(aG C.aD.toNat s.S k).1.st:=by rw[sQ,if_pos hp]
 constructor
 ·rw[hst]
  have:=h0.2.2.2
  unfold iE iU at this
  simpa using this
 ·unfold gF
  rw[if_pos hr]
  unfold aS
  have:=rJ (ways:=C.ways.toNat) (x:=jI C.aD.toNat s.S k a v) hg.aD h0.1.1 (rE hg.aD hp)
  simp only[this,hp,if_true]
  rfl
theorem Ns {nt:aF} (hk:nt.kind=9) {k:Nat} (hl:nt.line=k) (hkl:k<C.lines) (ha:(aS C.aD.toNat s k).iZ=true):
  dO C core s nt=({s with al:=0,aw:=false,sB:=false},[],0)∧aS C.aD.toNat {s with al:=0,aw:=false,sB:=false} k={aS C.aD.toNat s k with iZ:=false,aw:=false}∧
   ∀j:Nat,j≠k→aS C.aD.toNat {s with al:=0,aw:=false,sB:=false} j=aS C.aD.toNat s j:=by
 have ha:s.sB=true∧s.al=k:=by unfold aS at ha;simpa using ha
 refine⟨?_,?_,?_⟩
 ·unfold dO
  rw[if_neg (by omega),if_pos hk,if_neg (by unfold lZ;simp;omega)]
  unfold sS
  grind
 ·unfold aS;simp
 ·intro j hj
  unfold aS
  have:decide (s.al=(j:Int))=false:=decide_eq_false (by omega)
  simp[this]
theorem Iv {nt:aF} (hk:nt.kind=10) {k:Nat} (hl:nt.line=k) (hkl:k<C.lines) (ha:(aS C.aD.toNat s k).gi=true):
  dO C core s nt=({s with gl:=0,gc:=jW.zero,lA:=false},[],0)∧aS C.aD.toNat {s with gl:=0,gc:=jW.zero,lA:=false} k={aS C.aD.toNat s k with gi:=false,gs:=0,gd:=(0,0)}∧
   ∀j:Nat,j≠k→aS C.aD.toNat {s with gl:=0,gc:=jW.zero,lA:=false} j=aS C.aD.toNat s j:=by
 have ha:s.lA=true∧s.gl=k:=by unfold aS at ha;simpa using ha
 refine⟨?_,?_,?_⟩
 ·unfold dO
  rw[if_neg (by omega),if_neg (by omega),if_pos hk,if_neg (by unfold lZ;simp;omega)]
  unfold kK
  grind
 ·unfold aS;simp
 ·intro j hj
  unfold aS
  grind
theorem Lo {nt:aF} (hk:nt.kind=8) {k:Nat} (hl:nt.line=k) (hkl:k<C.lines) (hg:iF C s) (hr:Room C s) (ha:(aS C.aD.toNat s k).iZ=true) (_:1≤nt.state∧nt.state≤4):
  ∃s',dO C core s nt=(s',[⟨4,core,nt.line,0,0,0,0,false,0⟩],0)∧s'={s with S:=s'.S,al:=0,aw:=false,sB:=false}∧
   aS C.aD.toNat s' k={aS C.aD.toNat s k with st:=nt.state,d:=if(aS C.aD.toNat s k).st≠0 then(aS C.aD.toNat s k).d else(nt.d0,nt.d1),iZ:=false,aw:=false}∧
   (∀j:Nat,j≠k→aS C.aD.toNat s' j=aS C.aD.toNat s j)∧Room C s':=by
 have ha:s.sB=true∧s.al=k:=by unfold aS at ha;simpa using ha
 have hfit:(gA C.aD.toNat C.ways.toNat s.S nt.line (fC C s nt)).2=0:=by
  rcases(hr.al ha.1).2 with h|h
  ·rw[ha.2,←hl] at h;exact rE hg.aD h
  ·rw[ha.2,←hl] at h
   unfold gA
   have:=mS (no:=nt.line) (l:=s.S (aI C.aD.toNat nt.line))
   grind
 have hpp:=rJ (ways:=C.ways.toNat) (x:=fC C s nt) hg.aD (by omega:0≤nt.line) hfit
 refine⟨{s with S:=(gA C.aD.toNat C.ways.toNat s.S nt.line (fC C s nt)).1,al:=0,aw:=false,sB:=false},?_,rfl,?_,?_,(fun e=>by cases e),hr.gl,fun j hj=>?_⟩
 ·unfold dO
  rw[if_pos hk,if_neg (by unfold lZ;simp;omega)]
  unfold lX
  grind
 ·unfold aS
  rw[hl] at hpp ⊢
  simp only[hpp,if_true]
  have e:(fC C s nt).d=if(aG C.aD.toNat s.S k).2=0 then(aG C.aD.toNat s.S k).1.d else(nt.d0,nt.d1):=by unfold fC;rw[hl]
  rw[e]
  by_cases hp:(aG C.aD.toNat s.S k).2=0
  ·have:=lK hg.aD hp
   have h0:(aG C.aD.toNat s.S k).1.st≠0:=by omega
   simp[fC,hp,h0]
  ·simp[fC,hp]
 ·intro j hj
  unfold aS
  have h1:decide (s.al=(j:Int))=false:=decide_eq_false (by omega)
  rw[hl]
  simp only[gE (show(j:Int)≠(k:Int) by omega),h1]
  simp
 ·by_cases e2:j=nt.line
  ·omega
  ·exact hr.bd j (by rw[←hj];exact(congrArg Prod.snd (gE e2)).symm)
theorem Lh {nt:aF} (hk:nt.kind=11) {k:Nat} (hl:nt.line=k) (hkl:k<C.lines) (hg:iF C s) (hr:Room C s) (hst:nt.state=0∨nt.state=1)
  (hf:(aS C.aD.toNat s k).st≠0∨((aS C.aD.toNat s k).st=0∧(aS C.aD.toNat s k).gi=true)):
  ∃s' y,dO C core s nt=(s',[y],0)∧s'.al=s.al∧s'.aw=s.aw∧s'.sB=s.sB∧s'.gl=s.gl∧s'.lA=s.lA∧Room C s'∧
   (y.kind=5∧y.core=core∧y.line=k∧y.world=0∧y.no=0∧∀σ δ,σ=(if(aS C.aD.toNat s k).st≠0 then(aS C.aD.toNat s k).st else(aS C.aD.toNat s k).gs)→δ=(if(aS C.aD.toNat s k).st≠0 then(aS C.aD.toNat s k).d else(aS C.aD.toNat s k).gd)→
    y.state=dN σ nt.state∧(y.gC=true↔σ=3∨σ=4)∧(y.gC=true→(y.d0,y.d1)=δ))∧
   ((aS C.aD.toNat s' k).iZ=(aS C.aD.toNat s k).iZ∧(aS C.aD.toNat s' k).aw=(aS C.aD.toNat s k).aw∧(aS C.aD.toNat s' k).gi=(aS C.aD.toNat s k).gi∧(aS C.aD.toNat s' k).gd=(aS C.aD.toNat s k).gd)∧
   ((aS C.aD.toNat s k).st≠0→(aS C.aD.toNat s' k).st=dN (aS C.aD.toNat s k).st nt.state∧((aS C.aD.toNat s' k).st≠0→(aS C.aD.toNat s' k).d=(aS C.aD.toNat s k).d)∧(aS C.aD.toNat s' k).gs=(aS C.aD.toNat s k).gs)∧
   ((aS C.aD.toNat s k).st=0→(aS C.aD.toNat s' k).st=0∧(aS C.aD.toNat s' k).gs=dN (aS C.aD.toNat s k).gs nt.state)∧
   (∀j:Nat,j≠k→aS C.aD.toNat s' j=aS C.aD.toNat s j):=by
 have hrep:∀(x:jW),(dQ core nt x).kind=5∧(dQ core nt x).core=core∧(dQ core nt x).line=nt.line∧(dQ core nt x).world=0∧(dQ core nt x).no=0∧(dQ core nt x).state=dN x.st nt.state∧((dQ core nt x).gC=true↔x.st=3∨x.st=4)∧((dQ core nt x).gC=true→((dQ core nt x).d0,(dQ core nt x).d1)=x.d):=fun x=>by
  unfold dQ
  split
  ·refine⟨rfl,rfl,rfl,rfl,rfl,rfl,?_,fun _=>rfl⟩
   show fQ x.st=true↔_
   unfold fQ;simp
  ·rename_i e
   refine⟨rfl,rfl,rfl,rfl,rfl,rfl,?_,fun e=>by cases e⟩
   show false=true↔_
   unfold jG at e
   grind
 have ht:dO C core s nt=iH C core s nt:=by
  unfold dO
  rw[if_neg (by omega),if_neg (by omega),if_neg (by omega),if_pos hk,if_neg (by unfold lZ;simp;omega)]
 rw[ht]
 unfold iH
 rw[if_neg (by omega)]
 by_cases hp:(aG C.aD.toNat s.S nt.line).2=0
 ·rw[if_pos hp]
  have hs14:=lK hg.aD hp
  have hp':(aG C.aD.toNat s.S k).2=0:=by rw[←hl];exact hp
  have hcst:(aS C.aD.toNat s k).st=(aG C.aD.toNat s.S nt.line).1.st:=by rw[sQ,if_pos hp',hl]
  have hcd:(aS C.aD.toNat s k).d=(aG C.aD.toNat s.S nt.line).1.d:=by rw[U8,if_pos hp',hl]
  have hne:(aS C.aD.toNat s k).st≠0:=by rw[hcst];omega
  have hrr:=hrep (aG C.aD.toNat s.S nt.line).1
  have hgo:∀S':Nat→List Th,({s with S:=S'}:eQ).al=s.al:=fun _=>rfl
  have hsame:∀S':Nat→List Th,(aS C.aD.toNat {s with S:=S'} k).iZ=(aS C.aD.toNat s k).iZ∧(aS C.aD.toNat {s with S:=S'} k).aw=(aS C.aD.toNat s k).aw∧(aS C.aD.toNat {s with S:=S'} k).gi=(aS C.aD.toNat s k).gi∧(aS C.aD.toNat {s with S:=S'} k).gd=(aS C.aD.toNat s k).gd∧(aS C.aD.toNat {s with S:=S'} k).gs=(aS C.aD.toNat s k).gs:=fun _=>⟨rfl,rfl,rfl,rfl,rfl⟩
  by_cases hx:dN (aG C.aD.toNat s.S nt.line).1.st nt.state=0
  ·simp only[if_pos hx]
   refine⟨_,_,rfl,rfl,rfl,rfl,rfl,rfl,⟨fun e=>⟨(hr.al e).1,?_⟩,hr.gl,fun j hj=>?_⟩,⟨hrr.1,hrr.2.1,by rw[hrr.2.2.1,hl],hrr.2.2.2.1,hrr.2.2.2.2.1,fun σ δ hσ hδ=>?_⟩,⟨(hsame _).1,(hsame _).2.1,(hsame _).2.2.1,(hsame _).2.2.2.1⟩,fun _=>⟨?_,fun e0=>?_,(hsame _).2.2.2.2⟩,fun e=>absurd e hne,fun j hj=>?_⟩
   ·by_cases e2:s.al=nt.line
    ·right
     show(dM C.aD.toNat s.S nt.line (aI C.aD.toNat s.al)).length<_
     rw[e2]
     exact Nat.lt_of_lt_of_le (Mv hp) (hg.aD _).len
    ·rcases(hr.al e).2 with h|h
     ·left
      show(aG C.aD.toNat (dM C.aD.toNat s.S nt.line) s.al).2=0
      rw[gB e2];exact h
     ·right
      exact Nat.lt_of_le_of_lt Aq h
   ·by_cases e2:j=nt.line
    ·omega
    ·exact hr.bd j (by rw[←hj];exact(congrArg Prod.snd (gB e2)).symm)
   ·grind
   ·rw[hcst,hx]
    rw[sQ,if_neg]
    show ¬(aG C.aD.toNat (dM C.aD.toNat s.S nt.line) k).2=0
    rw[←hl,wF hg.aD (by omega)];decide
   ·exfalso;apply e0
    rw[sQ,if_neg]
    show ¬(aG C.aD.toNat (dM C.aD.toNat s.S nt.line) k).2=0
    rw[←hl,wF hg.aD (by omega)];decide
   ·unfold aS
    simp only[gB (show(j:Int)≠nt.line by omega)]
  ·simp only[if_neg hx]
   have hpp:=rJ (ways:=C.ways.toNat) (x:={(aG C.aD.toNat s.S nt.line).1 with st:=dN (aG C.aD.toNat s.S nt.line).1.st nt.state}) hg.aD (by omega:0≤nt.line) (rE hg.aD hp)
   refine⟨_,_,rfl,rfl,rfl,rfl,rfl,rfl,⟨fun e=>⟨(hr.al e).1,?_⟩,hr.gl,fun j hj=>?_⟩,⟨hrr.1,hrr.2.1,by rw[hrr.2.2.1,hl],hrr.2.2.2.1,hrr.2.2.2.2.1,fun σ δ hσ hδ=>?_⟩,⟨(hsame _).1,(hsame _).2.1,(hsame _).2.2.1,(hsame _).2.2.2.1⟩,fun _=>⟨?_,fun e0=>?_,(hsame _).2.2.2.2⟩,fun e=>absurd e hne,fun j hj=>?_⟩
   ·by_cases e2:s.al=nt.line
    ·grind
    ·rcases(hr.al e).2 with h|h
     ·left
      show(aG C.aD.toNat (gA C.aD.toNat C.ways.toNat s.S nt.line _).1 s.al).2=0
      rw[gE e2];exact h
     ·right
      exact Nat.lt_of_le_of_lt (Lw hp) h
   ·by_cases e2:j=nt.line
    ·omega
    ·exact hr.bd j (by rw[←hj];exact(congrArg Prod.snd (gE e2)).symm)
   ·grind
   ·rw[hcst,sQ]
    grind
   ·rw[hcd,U8]
    grind
   ·unfold aS
    simp only[gE (show(j:Int)≠nt.line by omega)]
 ·rw[if_neg hp]
  have hp':¬(aG C.aD.toNat s.S k).2=0:=by rw[←hl];exact hp
  have hcst:(aS C.aD.toNat s k).st=0:=by rw[sQ,if_neg hp']
  have hgi:s.lA=true∧s.gl=k:=by
   rcases hf with h|h
   ·exact absurd hcst h
   ·have:=h.2;unfold aS at this;simpa using this
  rw[if_neg (by rw[hgi.1];simp),if_neg (by omega)]
  have hrr:=hrep s.gc
  have hcgs:(aS C.aD.toNat s k).gs=s.gc.st:=by rw[Wj,if_pos hgi]
  have hcgd:(aS C.aD.toNat s k).gd=s.gc.d:=by rw[Wm,if_pos hgi]
  refine⟨_,_,rfl,rfl,rfl,rfl,rfl,rfl,⟨hr.al,hr.gl,hr.bd⟩,⟨hrr.1,hrr.2.1,by rw[hrr.2.2.1,hl],hrr.2.2.2.1,hrr.2.2.2.2.1,fun σ δ hσ hδ=>?_⟩,⟨rfl,rfl,rfl,?_⟩,fun e=>absurd hcst e,fun _=>⟨hcst,?_⟩,fun j hj=>?_⟩
  ·grind
  ·rw[hcgd,Wm,if_pos (show s.lA=true∧s.gl=k from hgi)]
  ·rw[hcgs,Wj,if_pos (show s.lA=true∧s.gl=k from hgi)]
  ·unfold aS
   grind
end Go.Pc
end
section
namespace Go.Pc
open Go Go.Ab Go.Hm Go.Ct
variable {C:bJ} {H:iQ} {X:Nat→eQ} {V:Nat→Ln} {N N':List aF} {n:aF} {s:eQ}
def PK (k:Int):Prop:=(1≤k∧k≤5)∨(8≤k∧k≤11)
instance (k:Int):Decidable (PK k):=by unfold PK;infer_instance
def et (l:Nat) (n:aF):Bool:=decide (n.line=(l:Int)∧PK n.kind)
def vW (l:Nat) (N:List aF):List aF:=N.filter (et l)
theorem vG {l:Nat} (h:n.line=(l:Int)) (hk:PK n.kind):vW l (n::N)=n::vW l N:=by
 unfold vW;rw[List.filter_cons_of_pos (by unfold et;grind)]
theorem rY {l:Nat} (h:¬(n.line=(l:Int)∧PK n.kind)):vW l (n::N)=vW l N:=by
 unfold vW;rw[List.filter_cons_of_neg (by unfold et;grind)]
theorem B6 {l:Nat}:vW l (N++N')=vW l N++vW l N':=List.filter_append N N'
theorem T2 {l:Nat} (h:∀x∈N,x.line=(l:Int)∧PK x.kind):vW l N=N:=List.filter_eq_self.2 fun x hx=>decide_eq_true (h x hx)
theorem Rv {l:Nat} (h:∀x∈N,¬(x.line=(l:Int)∧PK x.kind)):vW l N=[]:=List.filter_eq_nil_iff.2 fun x hx=>by unfold et;grind
abbrev cls (C:bJ) (X:Nat→eQ) (l:Nat):Pe:=fun i=>aS C.aD.toNat (X i) l
structure kO (C:bJ) (H:iQ) (X:Nat→eQ) (V:Nat→Ln) (N:List aF):Prop where
 line:∀l:Nat,l<C.lines→Inv l (H l).1 (H l).2 (V l) (cls C X l) (vW l N)
 kS:∀i:Nat,i<4→iF C (X i)
 room:∀i:Nat,i<4→Room C (X i)
 new:∀i:Nat,C.bT≤(i:Int)→X i=eQ.new
 nb:∀x∈N,PK x.kind→(0≤x.core∧x.core<C.bT)∧(0≤x.line∧x.line<C.lines)
theorem Se {n l:Nat}:aS n eQ.new l=⟨0,(0,0),false,false,false,0,(0,0)⟩:=by
 unfold aS;rw[if_neg Ap,if_neg Ap];rfl
theorem pU {i l:Nat} {s:eQ}:cls C (aJ X i s) l=aJ (cls C X l) i (aS C.aD.toNat s l):=by
 funext j
 show aS C.aD.toNat (aJ X i s j) l=_
 by_cases e:j=i
 ·subst e;rw[cV,cV]
 ·rw[bK e,bK e]
theorem kU {i l:Nat} {s:eQ} (h:aS C.aD.toNat s l=aS C.aD.toNat (X i) l):cls C (aJ X i s) l=cls C X l:=by
 funext j
 show aS C.aD.toNat (aJ X i s j) l=_
 by_cases e:j=i
 ·subst e;rw[cV];exact h
 ·rw[bK e]
theorem kO.perm (h:kO C H X V N) (p:N.Perm N'):kO C H X V N':=
 ⟨fun l hl=>(h.line l hl).perm (p.filter _),h.kS,h.room,h.new,fun x hx=>h.nb x (p.symm.mem_iff.1 hx)⟩
theorem kO.skip (h:kO C H X V (n::N)) (hk:¬PK n.kind):kO C H X V N:=
 ⟨fun l hl=>by have:=h.line l hl;rw[rY (fun e=>hk e.2)] at this;exact this,h.kS,h.room,h.new,fun x hx=>h.nb x (List.mem_cons_of_mem _ hx)⟩
theorem kO.i4 (hC:C.Ok) {i:Int} (h:0≤i∧i<C.bT):i.toNat<4∧((i.toNat:Nat):Int)=i:=by
 unfold bJ.Ok at hC;omega
theorem kO.turn {k:Nat} {H':iQ} {X':Nat→eQ} {V':Nat→Ln} {A:List aF} (h:kO C H X V N) (hk:k<C.lines)
  (hl:Inv k (H' k).1 (H' k).2 (V' k) (cls C X' k) (A++vW k N')) (oH:∀l,l≠k→H' l=H l) (oV:∀l,l≠k→V' l=V l) (oX:∀l,l≠k→cls C X' l=cls C X l)
  (hA:∀x∈A,x.line=(k:Int)∧PK x.kind∧0≤x.core∧x.core<C.bT) (hN:∀l,l≠k→vW l N'=vW l N) (hN2:∀x∈N',x∈N)
  (hg:∀i:Nat,i<4→iF C (X' i)) (hr:∀i:Nat,i<4→Room C (X' i)) (hn:∀i:Nat,C.bT≤(i:Int)→X' i=eQ.new):kO C H' X' V' (A++N'):=by
 refine⟨fun l hll=>?_,hg,hr,hn,fun x hx hp=>?_⟩
 ·by_cases e:l=k
  ·subst e
   rw[B6,T2 (fun x hx=>⟨(hA x hx).1,(hA x hx).2.1⟩)];exact hl
  ·rw[oH l e,oV l e,oX l e,B6,Rv (fun x hx e2=>e (by grind)),List.nil_append,hN l e]
   exact h.line l hll
 ·rcases List.mem_append.1 hx with hx|hx
  ·grind
  ·exact h.nb x (hN2 x hx) hp
theorem kV {i:Nat} {s:eQ} (h:kO C H X V N) (hg:iF C s):∀j:Nat,j<4→iF C (aJ X i s j):=fun j hj=>by
 by_cases e:j=i
 ·subst e;rw[cV];exact hg
 ·rw[bK e];exact h.kS j hj
theorem kR {i:Nat} {s:eQ} (h:kO C H X V N) (hg:Room C s):∀j:Nat,j<4→Room C (aJ X i s j):=fun j hj=>by
 by_cases e:j=i
 ·subst e;rw[cV];exact hg
 ·rw[bK e];exact h.room j hj
theorem nA {i:Nat} {s:eQ} (h:kO C H X V N) (hi:(i:Int)<C.bT):∀j:Nat,C.bT≤(j:Int)→aJ X i s j=eQ.new:=fun j hj=>by
 rw[bK (by omega)];exact h.new j hj
theorem kO.cache (h:kO C H X V (n::N)) (hC:C.Ok) (hk:8≤n.kind∧n.kind≤11):
  ∃s' out,dO C n.core (X n.core.toNat) n=(s',out,0)∧kO C H (aJ X n.core.toNat s') V (out++N)∧(∀x∈out,x.line=n.line∧PK x.kind):=by
 have hb:=h.nb n (by simp) (.inr hk)
 obtain⟨hi4,hie⟩:=kO.i4 hC hb.1
 obtain⟨i,hi,hci⟩:∃i:Nat,i<4∧n.core=(i:Int):=⟨n.core.toNat,hi4,hie.symm⟩
 obtain⟨k,hkl,hlk⟩:∃k:Nat,k<C.lines∧n.line=(k:Int):=⟨n.line.toNat,by omega,by omega⟩
 have e0:n.core.toNat=i:=by omega
 rw[e0,hci]
 have hI:=h.line k hkl
 rw[vG hlk (.inr hk)] at hI
 have hN:∀l,l≠k→vW l N=vW l (n::N):=fun l e=>(rY (fun e2=>e (by omega))).symm
 have hN2:∀x∈N,x∈n::N:=fun x hx=>List.mem_cons_of_mem _ hx
 have hgood:∀{s':eQ} {out:List aF} {e:Int},(n.kind=8→1≤n.state∧n.state≤4)→dO C (i:Int) (X i) n=(s',out,e)→iF C s':=fun hv e=>by
  have:=O3 (core:=(i:Int)) hv (h.kS i hi);grind
 have hicl:cls C X k i=aS C.aD.toNat (X i) k:=rfl
 rcases(by omega:n.kind=8∨n.kind=9∨n.kind=10∨n.kind=11) with k8|k9|k10|k11
 ·have hg0:=hI.granted (d':=if(cls C X k i).st≠0 then(cls C X k i).d else(n.d0,n.d1)) k8 hi hci rfl
  obtain⟨s',hs1,hs2,hs3,hs4,hs5⟩:=Lo (core:=(i:Int)) k8 hlk hkl (h.kS i hi) (h.room i hi) hg0.1.1 (by omega)
  refine⟨s',_,hs1,?_,fun x hx=>by rw[List.mem_singleton.1 hx];exact⟨rfl,by show PK 4;decide⟩⟩
  refine h.turn (A:=[_]) hkl ?_ (fun _ _=>rfl) (fun _ _=>rfl) (fun l e=>kU (hs4 l e)) (fun x hx=>?_) hN hN2 (kV h (hgood (fun _=>by omega) hs1)) (kR h hs5) (nA h (by omega))
  ·rw[pU,hs3,hlk];exact hg0.2
  ·rw[List.mem_singleton.1 hx];exact⟨hlk,.inl (show(1:Int)≤4∧(4:Int)≤5 by omega),show(0:Int)≤(i:Int)∧(i:Int)<C.bT by omega⟩
 ·have hg0:=hI.ey k9 hi hci
  obtain⟨hs1,hs2,hs3⟩:=Ns (core:=(i:Int)) k9 hlk hkl hg0.1
  refine⟨_,_,hs1,?_,fun x hx=>by cases hx⟩
  refine h.turn (A:=[]) hkl ?_ (fun _ _=>rfl) (fun _ _=>rfl) (fun l e=>kU (hs3 l e)) (fun x hx=>by cases hx) hN hN2 (kV h (hgood (by omega) hs1)) (kR h ⟨(fun e=>by cases e),(h.room i hi).gl,(h.room i hi).bd⟩) (nA h (by omega))
  rw[pU,hs2];exact hg0.2
 ·have hg0:=hI.Wx (gd':=(0,0)) (gs':=0) k10 hi hci rfl
  obtain⟨hs1,hs2,hs3⟩:=Iv (core:=(i:Int)) k10 hlk hkl hg0.1
  refine⟨_,_,hs1,?_,fun x hx=>by cases hx⟩
  refine h.turn (A:=[]) hkl ?_ (fun _ _=>rfl) (fun _ _=>rfl) (fun l e=>kU (hs3 l e)) (fun x hx=>by cases hx) hN hN2 (kV h (hgood (by omega) hs1)) (kR h ⟨(h.room i hi).al,(fun e=>by cases e),(h.room i hi).bd⟩) (nA h (by omega))
  rw[pU,hs2];exact hg0.2
 ·obtain⟨_,_,_,h0,hto,hw⟩:=hI.found k11 hi hci
  obtain⟨s',y,hs1,ea,eb,ec,ed,ee,hr',hy,hsame,hst,hgs,hoth⟩:=Lh (core:=(i:Int)) k11 hlk hkl (h.kS i hi) (h.room i hi) hto hw
  refine⟨s',_,hs1,?_,fun x hx=>by rw[List.mem_singleton.1 hx];exact⟨by rw[hy.2.2.1,hlk],by unfold PK;rw[hy.1];omega⟩⟩
  refine h.turn (A:=[y]) hkl ?_ (fun _ _=>rfl) (fun _ _=>rfl) (fun l e=>kU (hoth l e)) (fun x hx=>?_) hN hN2 (kV h (hgood (by omega) hs1)) (kR h hr') (nA h (by omega))
  ·rw[pU]
   have hHH:HH k (H k).1 (cls C X k) (n::vW k N) i=if(cls C X k i).st≠0 then(cls C X k i).st else(cls C X k i).gs:=by
    unfold HH at h0 ⊢
    by_cases e:(cls C X k i).st=0
    ·rw[(Dw h0 e).2.2,if_neg (by simpa using e)]
    ·unfold hs;grind
   have hyy:=hy.2.2.2.2.2 _ _ hHH rfl
   exact hI.Xi k11 hi hci hsame hst hgs ⟨hy.1,hy.2.1,hy.2.2.1,hyy.1,hyy.2.1,hyy.2.2⟩
  ·rw[List.mem_singleton.1 hx];exact⟨hy.2.2.1,by unfold PK;rw[hy.1];omega,by rw[hy.2.1];omega⟩
theorem kO.there {i k:Nat} (h:kO C H X V N) (hc:(cls C X k i).iZ=true∨(cls C X k i).gi=true∨(cls C X k i).st≠0):(i:Int)<C.bT:=by
 apply Classical.byContradiction
 intro e
 have:cls C X k i=⟨0,(0,0),false,false,false,0,(0,0)⟩:=by show aS _ (X i) k=_;rw[h.new i (by omega),Se]
 grind
theorem kO.waiter {k:Nat} (h:kO C H X V N) (hk:k<C.lines) {x:aF} (hx:x∈(H k).1.waits) (h0:x.kind≠0):0≤x.core∧x.core<C.bT:=by
 have hI:=h.line k hk
 have hw:=hI.row.waits x hx
 obtain⟨i,hi,hci,_⟩:=dD hw.2.1
 refine⟨hw.2.1.1,?_⟩
 rw[hci]
 rcases(by omega:x.kind=1∨x.kind=2∨x.kind=3) with e|e|e
 ·have:=dG hx e hci hw.1
  have h1:=hI.t1 i hi
  exact h.there (k:=k) (.inl (by grind))
 ·have:=dG hx e hci hw.1
  have h1:=hI.t1 i hi
  exact h.there (k:=k) (.inl (by grind))
 ·have:=dG hx e hci hw.1
  have h1:=hI.t2 i hi
  exact h.there (k:=k) (.inr (.inl (by grind)))
theorem kO.Wq {k i:Nat} (h:kO C H X V N) (_:k<C.lines) (_:i<4) (h0:HH k (H k).1 (cls C X k) (vW k N) i≠0):(i:Int)<C.bT:=by
 unfold HH at h0
 by_cases e:(cls C X k i).st=0
 ·exact h.there (k:=k) (.inr (.inl (Dw h0 e).1))
 ·exact h.there (k:=k) (.inr (.inr e))
end Go.Pc
end
section
namespace Go.Pc
open Go Go.Ab Go.Hm Go.Ct
variable {C:bJ} {H:iQ} {X:Nat→eQ} {V:Nat→Ln} {N N':List aF} {n:aF} {s:eQ}
theorem Dv {r:Row} {line:Int} {d:Ln}:∀y∈(r.cI line d).2,y.kind=8∧y.core=r.served.core∧y.line=line:=by
 intro y hy
 unfold Row.cI at hy
 split at hy
 ·rw[List.mem_singleton.1 hy];exact⟨rfl,rfl,rfl⟩
 ·split at hy<;>(rw[List.mem_singleton.1 hy];exact⟨rfl,rfl,rfl⟩)
theorem pR {r:Row}:(r.heard n).served=r.served:=by
 unfold Row.heard
 split
 ·rfl
 ·split<;>split<;>rfl
theorem Db {r:Row} {m:Ln} {line:Int}:∀y∈(eU.fX (r,m) line n).2,y.kind=8∧y.core=r.served.core∧y.line=line∧r.served.kind≠0:=by
 intro y hy
 unfold eU.fX at hy
 dsimp only at hy
 unfold Row.rest at hy
 split at hy
 ·split at hy
  ·cases hy
  ·rename_i h0
   have:=Dv y hy
   rw[pR] at this h0
   grind
 ·cases hy
theorem tF {line st:Int} {S:List Nat}:∀y∈cQ line st S,y.kind=11∧y.line=line∧∃a∈S,y.core=(a:Int):=by
 intro y hy
 unfold cQ at hy
 grind
theorem xM {r:Row} {x:Int} {a:Nat} (h:a∈r.dB x):a<4∧(r.sh a=true∨r.owner=(a:Int)):=by
 have:=jF.1 h
 have h2:=this.2
 unfold Row.holds at h2
 grind
theorem Dj {r:Row} {line:Int} {m:Ln} {j:Int→Int×Bool} (hk:n.kind=0∨n.kind=1∨n.kind=2∨n.kind=3) (ho: -1≤r.owner∧r.owner<4):∀y∈(Row.begun r line m n j).2,y.line=line∧(8≤y.kind∧y.kind≤11)∧((y.core=n.core∧n.kind≠0)∨∃a:Nat,a<4∧y.core=(a:Int)∧(r.sh a=true∨r.owner=(a:Int))):=by
 intro y hy
 unfold Row.begun at hy
 by_cases k3:n.kind=3
 ·rw[if_pos k3] at hy
  rw[List.mem_singleton.1 hy]
  exact⟨rfl,⟨show(8:Int)≤10 by omega,show(10:Int)≤11 by omega⟩,.inl ⟨rfl,by omega⟩⟩
 ·rw[if_neg k3] at hy
  by_cases k12:n.kind=1∨n.kind=2
  ·rw[if_pos k12] at hy
   have n0:n.kind≠0:=by omega
   by_cases hj:(j n.world).2=true
   ·rw[if_pos hj] at hy
    unfold Row.get at hy
    dsimp only at hy
    have gr:∀{r':Row} {d:Ln},r'.served=n→y∈(r'.cI line d).2→y.line=line∧(8≤y.kind∧y.kind≤11)∧((y.core=n.core∧n.kind≠0)∨∃a:Nat,a<4∧y.core=(a:Int)∧(r.sh a=true∨r.owner=(a:Int))):=fun {r' d} e hy=>by
     have:=Dv y hy
     grind
    split at hy
    ·unfold Row.getM at hy
     split at hy
     ·obtain⟨h1,h2,a,ha,h3⟩:=tF y hy
      have:=xM ha
      exact⟨h2,by omega,.inr ⟨a,this.1,h3,this.2⟩⟩
     ·exact gr rfl hy
    ·unfold Row.Jb at hy
     have eo:((r.serve n (j n.world).1).jX).owner=r.owner∨((r.serve n (j n.world).1).jX).owner= -1:=by
      unfold Row.jX
      split
      ·exact .inr rfl
      ·exact .inl rfl
     split at hy
     ·rename_i hne
      obtain⟨h1,h2,a,ha,h3⟩:=tF y hy
      grind
     ·refine gr ?_ hy
      unfold Row.jX
      split<;>rfl
   ·rw[if_neg hj] at hy
    rw[List.mem_singleton.1 hy]
    exact⟨rfl,⟨show(8:Int)≤9 by omega,show(9:Int)≤11 by omega⟩,.inl ⟨rfl,n0⟩⟩
  ·rw[if_neg k12] at hy
   split at hy
   ·cases hy
   ·obtain⟨h1,h2,a,ha,h3⟩:=tF y hy
    have:=xM ha
    grind
theorem kO.homes (h:kO C H X V (n::N)) (hC:C.Ok) (hk:1≤n.kind∧n.kind≤5):
  ∃H' out,bY C H n=(H',out,0)∧kO C H' X V (out++N)∧(∀x∈out,x.line=n.line∧PK x.kind)∧(∀l:Nat,(l:Int)≠n.line→H' l=H l):=by
 have hb:=h.nb n (by simp) (.inl hk)
 obtain⟨hi4,hie⟩:=kO.i4 hC hb.1
 obtain⟨i,hi,hci⟩:∃i:Nat,i<4∧n.core=(i:Int):=⟨n.core.toNat,hi4,hie.symm⟩
 obtain⟨k,hkl,hlk⟩:∃k:Nat,k<C.lines∧n.line=(k:Int):=⟨n.line.toNat,by omega,by omega⟩
 have e0:n.line.toNat=k:=by omega
 have hI:=h.line k hkl
 rw[vG hlk (.inl hk)] at hI
 have hN:∀l,l≠k→vW l N=vW l (n::N):=fun l e=>(rY (fun e2=>e (by omega))).symm
 have hN2:∀x∈N,x∈n::N:=fun x hx=>List.mem_cons_of_mem _ hx
 have ht:bY C H n=(aJ H k (eU.take (H k) k n).1,(eU.take (H k) k n).2):=by
  unfold bY
  rw[if_neg (by unfold fK;omega),if_pos ⟨hb.1,by unfold bJ.has;exact hb.2⟩,e0,hlk]
 have done:∀(x':eU) (out:List aF),eU.take (H k) k n=(x',out,0)→Inv k x'.1 x'.2 (V k) (cls C X k) (out++vW k N)→(∀y∈out,y.line=(k:Int)∧PK y.kind∧0≤y.core∧y.core<C.bT)→
   ∃H' out,bY C H n=(H',out,0)∧kO C H' X V (out++N)∧(∀x∈out,x.line=n.line∧PK x.kind)∧(∀l:Nat,(l:Int)≠n.line→H' l=H l):=fun x' out e hI' hA=>by
  rw[ht,e]
  refine⟨_,_,rfl,h.turn (A:=out) hkl ?_ (fun l e2=>bK e2) (fun _ _=>rfl) (fun _ _=>rfl) hA hN hN2 h.kS h.room h.new,fun x hx=>⟨by rw[(hA x hx).1,hlk],(hA x hx).2.1⟩,fun l e2=>bK (by omega)⟩
  rw[cV];exact hI'
 have hx:H k=((H k).1,(H k).2):=rfl
 by_cases k4:n.kind=4
 ·obtain⟨h1,h2,h3⟩:=hI.Rd k4
  refine done ((H k).1.free,(H k).2) [] ?_ h3 (fun y hy=>by cases hy)
  unfold eU.take
  rw[if_pos k4,if_neg (by rw[h1];simp;exact h2)]
 ·by_cases k5:n.kind=5
  ·obtain⟨h1,h2⟩:=hI.fX k5
   refine done (eU.fX (H k) k n).1 (eU.fX (H k) k n).2 ?_ h2 (fun y hy=>?_)
   ·unfold eU.take
    rw[if_neg k4,if_pos k5,if_neg (by rw[h1];simp)]
   ·obtain⟨o1,o2,o3,o4⟩:=Db (r:=(H k).1) (m:=(H k).2) y hy
    obtain⟨_,hg,hbb,_,_⟩:=hI.Lz k5 hi hci
    refine⟨o3,by unfold PK;omega,?_⟩
    have hc:=hI.row.core
    have hs:qL (H k).1 (H k).1.served.core.toNat=1:=by unfold qL;rw[if_pos ⟨hbb,hg,o4,by omega⟩]
    have h1:=hI.t1 (H k).1.served.core.toNat (by omega)
    have:=h.there (i:=(H k).1.served.core.toNat) (k:=k) (.inl (by grind))
    omega
  ·have hI':=hI.Wt (by omega)
   refine done ((H k).1.wait n,(H k).2) [] ?_ hI' (fun y hy=>by cases hy)
   unfold eU.take
   grind
theorem kO.Xo (h:kO C H X V N) {l:Int} {j:Int→Int×Bool}:
  ∃H' out e,dL C H l j=(H',out,e)∧kO C H' X V (out++N)∧(∀x∈out,x.line=l∧PK x.kind)∧(∀k:Nat,(k:Int)≠l→H' k=H k):=by
 unfold dL
 by_cases hl:C.has l
 ·rw[if_pos hl]
  obtain⟨k,hkl,hlk⟩:∃k:Nat,k<C.lines∧l=(k:Int):=⟨l.toNat,by unfold bJ.has at hl;omega,by unfold bJ.has at hl;omega⟩
  subst hlk
  rw[Int.toNat_natCast]
  have hI:=h.line k hkl
  have same:aJ H k (H k)=H:=by funext i;unfold aJ;grind
  unfold eU.begin
  by_cases hb:(H k).1.busy=true
  ·grind
  ·rw[if_neg hb]
   have hb:(H k).1.busy=false:=by simpa using hb
   cases hw:(H k).1.waits with
   |nil=>refine⟨_,_,_,rfl,?_,(fun x hx=>by cases hx),fun i e=>bK (by omega)⟩;grind
   |cons n w=>
    have hnw:=hI.row.waits n (by rw[hw];simp)
    have hIb:=hI.begun (j:=j) hb hw
    have hout:=Dj (r:=(H k).1.next w) (line:=k) (m:=(H k).2) (j:=j) hnw.2.2 hI.row.owner
    obtain⟨hq,hg,_⟩:=hI.idle hb
    refine⟨_,_,_,rfl,?_,fun x hx=>⟨(hout x hx).1,.inr (hout x hx).2.1⟩,fun i e=>bK (by omega)⟩
    refine h.turn (A:=(Row.begun ((H k).1.next w) k (H k).2 n j).2) hkl ?_ (fun l e2=>bK e2) (fun _ _=>rfl) (fun _ _=>rfl) (fun y hy=>?_) (fun _ _=>rfl) (fun _ hx=>hx) h.kS h.room h.new
    ·rw[cV];exact hIb
    ·obtain⟨o1,o2,o3⟩:=hout y hy
     refine⟨o1,.inr o2,?_⟩
     rcases o3 with⟨o3,o4⟩|⟨a,ha,o3,o4⟩
     ·rw[o3];exact h.waiter hkl (by rw[hw];simp) o4
     ·have hc1:=hI.c1 a ha (by have:=hI.t3 a ha;rw[dF hq ha] at this;simp at this;omega) (by have:=hI.t4 a ha;unfold mO at this;grind)
      have h0:HH k (H k).1 (cls C X k) (vW k N) a≠0:=by
       rcases o4 with e|e
       ·have:=hc1.1.2 e;omega
       ·have:=hc1.2.2 e;omega
      have:=h.Wq hkl ha h0
      omega
 grind
theorem kO.tA (h:kO C H X V N) {l:Int}:kO C (dI C H l).1 X V N:=by
 unfold dI
 by_cases hl:C.has l
 ·rw[if_pos hl]
  obtain⟨k,hkl,hlk⟩:∃k:Nat,k<C.lines∧l=(k:Int):=⟨l.toNat,by unfold bJ.has at hl;omega,by unfold bJ.has at hl;omega⟩
  subst hlk
  rw[Int.toNat_natCast]
  refine h.turn (A:=[]) hkl ?_ (fun l e2=>bK e2) (fun _ _=>rfl) (fun _ _=>rfl) (fun y hy=>by cases hy) (fun _ _=>rfl) (fun _ hx=>hx) h.kS h.room h.new
  show Inv k (aJ H k _ k).1 (aJ H k _ k).2 _ _ _
  rw[cV];exact(h.line k hkl).Tz
 grind
theorem kO.reads (h:kO C H X V N) {i:Nat} (hi:i<4) (hic:(i:Int)<C.bT) {l a ow:Int}:kO C H (aJ X i (jO C (X i) l a ow)) V N:=
 ⟨fun k hk=>by rw[kU (Vm (h.kS i hi))];exact h.line k hk,kV h (Nj (h.kS i hi)),kR h (Oo (h.kS i hi) (h.room i hi)),nA h hic,h.nb⟩
theorem kO.writes (h:kO C H X V N) {i:Nat} (hi:i<4) (hic:(i:Int)<C.bT) {k:Nat} {a ow v:Int} (hr:eZ C (X i).S k a ow true=0):
  kO C H (aJ X i (gF C (X i) k a ow v)) (aJ V k (Hy (V k) a v)) N:=by
 have hkl:k<C.lines:=by have:=(jT hr).1;omega
 obtain⟨h1,h2⟩:=Ri (v:=v) (h.kS i hi) hr
 have hI:=h.line k hkl
 have hV:(cls C X k i).d=V k:=by
  have hst:(cls C X k i).st≠0:=by grind
  have:=hI.c3 i hi (by unfold HH hs;grind)
  unfold lR at this;grind
 refine h.turn (A:=[]) hkl ?_ (fun _ _=>rfl) (fun l e2=>bK e2) (fun l e=>kU (K5 (by omega))) (fun y hy=>by cases hy) (fun _ _=>rfl) (fun _ hx=>hx) (kV h (Kz (h.kS i hi))) (kR h (Jq (h.kS i hi) (h.room i hi))) (nA h hic)
 rw[cV,pU,h2]
 have:(aS C.aD.toNat (X i) k).d=V k:=hV
 rw[this]
 exact hI.wrote hi h1
theorem kO.value (h:kO C H X V N) {i:Nat} (hi:i<4) {k:Nat} (hk:k<C.lines) (hp:(aG C.aD.toNat (X i).S k).2=0):(aG C.aD.toNat (X i).S k).1.d=V k:=by
 have hst:(cls C X k i).st≠0:=by
  show(aS C.aD.toNat (X i) k).st≠0
  rw[sQ,if_pos hp];have:=lK (h.kS i hi).aD hp;omega
 have:=(h.line k hk).c3 i hi (by unfold HH hs;grind)
 unfold lR at this
 rw[if_pos hst] at this
 have e:(cls C X k i).d=(aG C.aD.toNat (X i).S k).1.d:=by show(aS C.aD.toNat (X i) k).d=_;rw[U8,if_pos hp]
 rw[←e];exact this
theorem kO.asks (h:kO C H X V N) {i:Nat} (hi:i<4) (hic:(i:Int)<C.bT) {k:Nat} {w:Int} {wr:Bool} (hkl:k<C.lines) (hais:(X i).sB=false) (c3:¬((X i).lA=true∧(X i).gl=k))
  (c4:¬((aG C.aD.toNat (X i).S k).2=0∧iE (aG C.aD.toNat (X i).S k).1.st wr=true)) (hroom:(aG C.aD.toNat (X i).S k).2=0∨((X i).S (aI C.aD.toNat k)).length<C.ways.toNat):
  kO C H (aJ X i {X i with al:=(k:Int),aw:=wr,sB:=true}) V (⟨if wr then 2 else 1,i,k,w,0,0,0,false,0⟩::N):=by
 have hg:=h.kS i hi
 have hr:=h.room i hi
 have hI:=h.line k hkl
 have ha:(cls C X k i).iZ=false:=by show(aS _ (X i) k).iZ=_;unfold aS;rw[hais];rfl
 have hgi:(cls C X k i).gi=false:=by
  show(aS _ (X i) k).gi=_
  unfold aS
  simp only[Bool.and_eq_false_iff,decide_eq_false_iff_not]
  by_cases e:(X i).lA=true
  ·exact .inr (fun e2=>c3 ⟨e,e2⟩)
  ·exact .inl (by simpa using e)
 have hst:if wr=true then(cls C X k i).st≠2∧(cls C X k i).st≠4 else(cls C X k i).st=0:=by
  have e1:(cls C X k i).st=if(aG C.aD.toNat (X i).S k).2=0 then(aG C.aD.toNat (X i).S k).1.st else 0:=rfl
  rw[e1]
  by_cases hp:(aG C.aD.toNat (X i).S k).2=0
  ·rw[if_pos hp]
   have h14:=lK hg.aD hp
   have:¬iE (aG C.aD.toNat (X i).S k).1.st wr=true:=fun e=>c4 ⟨hp,e⟩
   unfold iE iU mT at this
   grind
  ·grind
 refine h.turn (A:=[_]) hkl ?_ (fun _ _=>rfl) (fun _ _=>rfl) (fun l e=>?_) (fun y hy=>?_) (fun _ _=>rfl) (fun _ hx=>hx) (kV h ⟨hg.aD,hg.back,hg.pl⟩) (kR h ⟨fun _=>⟨⟨by grind,by grind⟩,hroom⟩,hr.gl,hr.bd⟩) (nA h hic)
 ·rw[pU]
  have e2:aS C.aD.toNat {(X i) with al:=(k:Int),aw:=wr,sB:=true} k={aS C.aD.toNat (X i) k with iZ:=true,aw:=wr}:=by unfold aS;simp
  rw[e2]
  exact hI.asks hi ha hgi hst ⟨rfl,rfl,rfl⟩
 ·apply kU
  unfold aS
  have:decide ((k:Int)=(l:Int))=false:=decide_eq_false (by omega)
  simp[this,hais]
 ·rw[List.mem_singleton.1 hy]
  refine⟨rfl,?_,by grind,hic⟩
  unfold PK;cases wr<;>simp
theorem kO.Og (h:kO C H X V N) {i:Nat} (hi:i<4) (hic:(i:Int)<C.bT) {v:Int} {x:jW} (hais:(X i).sB=false) (hgis:(X i).lA=false) (hp:aG C.aD.toNat (X i).S v=(x,0)):
  kO C H (aJ X i {X i with S:=dM C.aD.toNat (X i).S v,gl:=v,gc:=x,lA:=true}) V (⟨3,i,v,x.w,0,x.d.1,x.d.2,fQ x.st,0⟩::N):=by
 have hg:=h.kS i hi
 have hr:=h.room i hi
 have hp2:(aG C.aD.toNat (X i).S v).2=0:=by rw[hp]
 have h0:=(jE hp2).2
 have hv:=hr.bd v hp2
 have h14:=lK hg.aD hp2
 rw[hp] at h14
 obtain⟨k,hkl,hlk⟩:∃k:Nat,k<C.lines∧v=(k:Int):=⟨v.toNat,by omega,by omega⟩
 subst hlk
 have hI:=h.line k hkl
 have est:(cls C X k i).st=x.st:=by show(aS _ (X i) k).st=_;rw[sQ,if_pos hp2,hp]
 have ed:(cls C X k i).d=x.d:=by show(aS _ (X i) k).d=_;rw[U8,if_pos hp2,hp]
 have ha:(cls C X k i).iZ=false:=by show(aS _ (X i) k).iZ=_;unfold aS;rw[hais];rfl
 have hG1:iF C {X i with S:=dM C.aD.toNat (X i).S (k:Int),gl:=(k:Int),gc:=x,lA:=true}:=by
  have g1:=oO (n:=C.aD.toNat) (no:=(k:Int)) hg.aD
  have g2:=yT (no:=(k:Int)) hg.pl
  refine Good.mk g1 (fun _=>?_) g2
  grind
 refine h.turn (A:=[_]) hkl ?_ (fun _ _=>rfl) (fun _ _=>rfl) (fun l e=>?_) (fun y hy=>?_) (fun _ _=>rfl) (fun _ hx=>hx) (kV h hG1) (kR h ⟨(fun e=>by grind),fun _=>⟨by grind,by grind⟩,fun j hj=>?_⟩) (nA h hic)
 ·rw[pU]
  have e2:aS C.aD.toNat {(X i) with S:=dM C.aD.toNat (X i).S (k:Int),gl:=(k:Int),gc:=x,lA:=true} k=⟨0,(0,0),false,false,true,(cls C X k i).st,(cls C X k i).d⟩:=by
   rw[est,ed]
   have:=wF (n:=C.aD.toNat) hg.aD h0
   unfold aS
   simp[this,hais]
  rw[e2]
  exact hI.Og hi ha (by grind) ⟨rfl,rfl,rfl,by rw[ed],by rw[est]⟩ (.inr trivial)
 ·apply kU
  unfold aS
  have h1:¬((k:Int)=(l:Int)):=by omega
  simp only[gB (show(l:Int)≠(k:Int) by omega)]
  simp[h1,hgis]
 ·rw[List.mem_singleton.1 hy]
  exact⟨rfl,by show PK 3;decide,by grind,hic⟩
 ·by_cases e2:j=(k:Int)
  ·omega
  ·exact hr.bd j (by rw[←hj];exact(congrArg Prod.snd (gB e2)).symm)
theorem kO.Zh (h:kO C H X V N) (hC:C.Ok) {i:Nat} (hi:i<4) (hic:(i:Int)<C.bT) {l w:Int} {wr:Bool}:
  ∃s' out e,want C i (X i) l w wr=(s',out,e)∧kO C H (aJ X i s') V (out++N)∧(e≠0→s'=X i∧out=[])∧∀x∈out,PK x.kind:=by
 have hg:=h.kS i hi
 have hr:=h.room i hi
 have hw:=(gO hC).2.2.1
 have same:∀e:Int,e≠0→∃s' out e',((X i,[],e):eQ×List aF×Int)=(s',out,e')∧kO C H (aJ X i s') V (out++N)∧(e'≠0→s'=X i∧out=[])∧∀x∈out,PK x.kind:=fun e he=>by
  refine⟨_,_,_,rfl,?_,fun _=>⟨rfl,rfl⟩,fun _ hx=>by cases hx⟩
  have:aJ X i (X i)=X:=by funext j;unfold aJ;grind
  rw[this];exact h
 unfold want
 by_cases c1:lZ C l=false
 ·simp_all
 rw[if_neg c1]
 by_cases c2:(X i).sB=true
 ·simp_all
 rw[if_neg c2]
 by_cases c3:(X i).lA=true∧(X i).gl=l
 ·simp_all
 rw[if_neg c3]
 by_cases c4:(aG C.aD.toNat (X i).S l).2=0∧iE (aG C.aD.toNat (X i).S l).1.st wr=true
 ·simp_all
 rw[if_neg c4]
 have hl:0≤l∧l<C.lines:=by unfold lZ at c1;simpa using c1
 have hais:(X i).sB=false:=by simpa using c2
 obtain⟨k,hkl,hlk⟩:∃k:Nat,k<C.lines∧l=(k:Int):=⟨l.toNat,by omega,by omega⟩
 subst hlk
 unfold sV
 cases hv:pY C.aD.toNat C.ways.toNat (X i).S k with
 |none=>
  refine⟨_,_,_,rfl,?_,fun e=>absurd rfl e,fun x hx=>?_⟩
  rotate_left
  ·rw[List.mem_singleton.1 hx];unfold PK;cases wr<;>simp
  refine h.asks hi hic hkl hais c3 c4 ?_
  unfold pY at hv
  cases hge:Go.Ct.get (k:Int) ((X i).S (aI C.aD.toNat k)) with
  |some x=>left;unfold aG;grind
  |none=>
   grind
 |some v=>
  unfold pY at hv
  cases hge:Go.Ct.get (k:Int) ((X i).S (aI C.aD.toNat k)) with
  |some x=>grind
  |none=>
   rw[hge] at hv
   dsimp only at hv
   split at hv
   ·cases hv
   have hm:v∈(X i).S (aI C.aD.toNat k):=List.mem_of_getElem? hv
   have hpl:=hg.pl _ v hm
   have hp:aG C.aD.toNat (X i).S v.1=(v.2,0):=by
    unfold aG
    rw[if_neg (by omega),hpl.2]
    cases hL:(X i).S (aI C.aD.toNat k) with
    |nil=>grind
    |cons t L=>
     rw[hL] at hv
     have:t=v:=by simpa using hv
     subst this
     unfold Go.Ct.get
     grind
   dsimp only
   by_cases c5:(X i).lA=true
   ·simp_all
   rw[if_neg c5,hp,if_neg (by simp)]
   refine⟨_,_,_,rfl,?_,fun e=>absurd rfl e,fun x hx=>?_⟩
   rotate_left
   ·rcases List.mem_cons.1 hx with rfl|hx
    ·show PK 3;decide
    ·rw[List.mem_singleton.1 hx];unfold PK;cases wr<;>simp
   have hgis:(X i).lA=false:=by simpa using c5
   have hne:v.1≠(k:Int):=fun e=>by
    have:Go.Ct.get (k:Int) ((X i).S (aI C.aD.toNat k))=some v.2:=by
     have:=(jE (by rw[hp])).1
     grind
    grind
   have h1:=h.Og hi hic hais hgis hp
   have ek:(aG C.aD.toNat (dM C.aD.toNat (X i).S v.1) k)=aG C.aD.toNat (X i).S k:=gB (fun e=>hne e.symm)
   have hpk:(aG C.aD.toNat (X i).S k).2≠0:=by unfold aG;grind
   have hdl:=Mv (n:=C.aD.toNat) (S:=(X i).S) (no:=v.1) (by rw[hp])
   rw[hpl.2] at hdl
   have h2:=h1.asks (i:=i) (w:=w) (wr:=wr) hi hic hkl (by rw[cV];exact hais) (by rw[cV];grind) (by rw[cV];grind)
    (by rw[cV];right;exact Nat.lt_of_lt_of_le hdl (hg.aD _).len)
   rw[cV] at h2
   have e3:∀s1 s2:eQ,aJ (aJ X i s1) i s2=aJ X i s2:=fun s1 s2=>by
    funext j;by_cases e:j=i
    ·subst e;rw[cV,cV]
    ·rw[bK e,bK e,bK e]
   rw[e3] at h2
   exact h2.perm (List.Perm.swap _ _ _)
end Go.Pc
end
section
namespace Go.Pc
open Go Go.Ab Go.Hm Go.Ct
structure kL where
 mF:Int
 a:Int
 b:Int
 v:Int
def kL.enc (p:kL):List Value:=[I p.mF,I p.a,I p.b,I p.v]
structure Wd where
 H:iQ
 X:Nat→eQ
 L:List aF
 V:Nat→Ln
 bad:Bool
def eO (s w:Int):bJ:=⟨3,2,s,w,4,2,1⟩
theorem Tb {s w:Int} (hs:1≤s∧s≤2) (hw:1≤w∧w≤2):(eO s w).Ok:=by
 unfold bJ.Ok eO;dsimp only;omega
theorem Lg {s w:Int}:(eO s w).lines=4:=rfl
variable (C:bJ)
def Wd.one (w:Wd) (i:Nat):Wd:=
 let x:=w.L.getD i aF.zero
 let L:=w.L.take i++w.L.drop (i+1)
 if fK x.kind then
  let r:=bY C w.H x
  {w with H:=r.1,L:=L++r.2.1,bad:=w.bad||decide (r.2.2≠0)}
 else
  let r:=dO C x.core (w.X x.core.toNat) x
  {w with X:=aJ w.X x.core.toNat r.1,L:=L++r.2.1,bad:=w.bad||decide (r.2.2≠0)}
def Wd.comes (w:Wd) (which:Int):Wd:=if w.L=[] then w else w.one C (which % (w.L.length:Int)).toNat
def Wd.step (w:Wd) (p:kL) (j:Int→Int→Int×Bool):Wd:=
 let core:=(p.a % 3).toNat
 let line:=p.b % 4
 let at':=p.v % 2
 let owner:=(j 1 line).1
 if p.mF=0 then
  let r:=want C core (w.X core) line 1 (decide (p.v % 2≠0))
  {w with X:=aJ w.X core r.1,L:=w.L++r.2.1}
 else if p.mF=1 then
  let r:=dL C w.H line (fun x=>j x line)
  {w with H:=r.1,L:=w.L++r.2.1}
 else if p.mF=2 then w.comes C p.a
 else if p.mF=3 then
  if eZ C (w.X core).S line at' owner true=0 then {w with X:=aJ w.X core (gF C (w.X core) line at' owner p.v),V:=aJ w.V line.toNat (Hy (w.V line.toNat) at' p.v)} else w
 else if p.mF=4 then
  if Mc.nT C w.H line=0 then {w with H:=(dI C w.H line).1} else w
 else
  {w with X:=aJ w.X core (jO C (w.X core) line at' owner),bad:=w.bad||decide (eZ C (w.X core).S line at' owner false=0∧Mc.kI C (w.X core) line at'≠Mc.Fv (w.V line.toNat) at')}
def Wd.new (C:bJ):Wd:=⟨mM C.lines,fun _=>eQ.new,[],fun _=>(0,0),false⟩
structure xX (C:bJ) (w:Wd):Prop where
 xP:kO C w.H w.X w.V w.L
 bad:w.bad=false
 pk:∀x∈w.L,PK x.kind
variable {C:bJ} {w:Wd}
theorem tW {α:Type} {l:List α} {i:Nat} (h:i<l.length):l.Perm (l[i]::(l.take i++l.drop (i+1))):=by
 have e:l=l.take i++l[i]::l.drop (i+1):=by rw[←List.drop_eq_getElem_cons h,List.take_append_drop]
 have:=List.perm_middle (a:=l[i]) (l₁:=l.take i) (l₂:=l.drop (i+1))
 grind
theorem M5 {α:Type} {l:List α} {i:Nat} {x:α} (h:x∈l.take i++l.drop (i+1)):x∈l:=by
 grind
theorem xX.one (hC:C.Ok) (h:xX C w) {i:Nat} (hi:i<w.L.length):xX C (w.one C i):=by
 have hp:=h.xP.perm (tW hi)
 have ex:w.L.getD i aF.zero=w.L[i]:=by grind
 have hk:PK (w.L[i]).kind:=h.pk _ (List.getElem_mem hi)
 unfold PK at hk
 unfold Wd.one
 rw[ex]
 dsimp only
 have pk:∀{out:List aF},(∀x∈out,PK x.kind)→∀x∈(w.L.take i++w.L.drop (i+1))++out,PK x.kind:=fun ho x hx=>by
  rcases List.mem_append.1 hx with hx|hx
  ·exact h.pk x (M5 hx)
  ·exact ho x hx
 by_cases ht:fK (w.L[i]).kind
 ·rw[if_pos ht]
  obtain⟨H',out,e,hc,ho,_⟩:=hp.homes hC (by unfold fK at ht;omega)
  rw[e]
  exact⟨hc.perm List.perm_append_comm,by show(w.bad||false)=false;rw[h.bad];rfl,pk fun x hx=>(ho x hx).2⟩
 ·rw[if_neg ht]
  obtain⟨s',out,e,hc,ho⟩:=hp.cache hC (by unfold fK at ht;omega)
  rw[e]
  exact⟨hc.perm List.perm_append_comm,by show(w.bad||false)=false;rw[h.bad];rfl,pk fun x hx=>(ho x hx).2⟩
theorem xX.comes (hC:C.Ok) (h:xX C w) {i:Int}:xX C (w.comes C i):=by
 unfold Wd.comes
 split
 ·exact h
 ·rename_i h0
  have hp:0<w.L.length:=List.length_pos_iff.2 h0
  have h3:=Int.emod_nonneg i (show(w.L.length:Int)≠0 by omega)
  have h4:=Int.emod_lt_of_pos i (show(0:Int)<(w.L.length:Int) by omega)
  exact h.one hC (by omega)
theorem xX.step (hC:C.Ok) (hc3:C.bT=3) (hl4:C.lines=4) (h:xX C w) {p:kL} {j:Int→Int→Int×Bool}:xX C (w.step C p j):=by
 have hcore:(p.a % 3).toNat<4∧(((p.a % 3).toNat:Nat):Int)<C.bT:=by omega
 have pk:∀{out:List aF},(∀x∈out,PK x.kind)→∀x∈w.L++out,PK x.kind:=fun ho x hx=>by
  rcases List.mem_append.1 hx with hx|hx
  ·exact h.pk x hx
  ·exact ho x hx
 unfold Wd.step
 dsimp only
 split
 ·obtain⟨s',out,e,he,hc,_,ho⟩:=h.xP.Zh hC hcore.1 hcore.2 (l:=p.b % 4) (w:=1) (wr:=decide (p.v % 2≠0))
  have hco:((p.a % 3).toNat:Int)=p.a % 3:=by omega
  rw[he]
  exact⟨hc.perm List.perm_append_comm,h.bad,pk ho⟩
 split
 ·obtain⟨H',out,e,he,hc,ho,_⟩:=h.xP.Xo (l:=p.b % 4) (j:=fun x=>j x (p.b % 4))
  rw[he]
  exact⟨hc.perm List.perm_append_comm,h.bad,pk fun x hx=>(ho x hx).2⟩
 split
 ·exact h.comes hC
 split
 ·split
  ·rename_i hr
   obtain⟨k,hk⟩:=Int.eq_ofNat_of_zero_le (show 0≤p.b % 4 by omega)
   rw[hk] at hr ⊢
   exact⟨h.xP.writes hcore.1 hcore.2 hr,h.bad,h.pk⟩
  ·exact h
 split
 ·split
  ·exact⟨h.xP.tA,h.bad,h.pk⟩
  ·exact h
 ·refine⟨h.xP.reads hcore.1 hcore.2,?_,h.pk⟩
  show(w.bad||_)=false
  rw[h.bad,Bool.false_or,decide_eq_false_iff_not]
  rintro ⟨hr,hv⟩
  obtain⟨k,hk⟩:=Int.eq_ofNat_of_zero_le (show 0≤p.b % 4 by omega)
  rw[hk] at hr hv
  refine hv ?_
  unfold Mc.kI
  rw[h.xP.value hcore.1 (by omega) (jT hr).2.2.1]
  rfl
theorem xX.new {s w:Int} (_:1≤s∧s≤2) (_:1≤w∧w≤2):xX (eO s w) (Wd.new (eO s w)):=by
 refine⟨⟨fun l hl=>?_,fun _ _=>Q8,fun _ _=>Room.new,fun _ _=>rfl,fun _ h=>by cases h⟩,rfl,fun _ h=>by cases h⟩
 have e:(Wd.new (eO s w)).H l=(qK,(0,0)):=by
  show mM _ l=_
  unfold mM;rw[if_pos hl]
 rw[e]
 have e2:cls (eO s w) (Wd.new (eO s w)).X l=fun _=>⟨0,(0,0),false,false,false,0,(0,0)⟩:=by funext i;exact Se
 rw[e2]
 exact Inv.zero l
def sK (C:bJ) (w:Wd) (l:Nat) (i:Nat):Int:=(cls C w.X l i).st
theorem xX.fit (h:xX C w) {l:Nat} (hl:l<C.lines):(∀i,i<3→0≤sK C w l i∧sK C w l i≤4)∧
  (∀i k,i<3→k<3→i≠k→2≤sK C w l i→sK C w l k<2)∧(∀i k,i<3→k<3→i≠k→sK C w l i=2∨sK C w l i=4→sK C w l k=0):=by
 have hI:=h.xP.line l hl
 have hH:∀i,sK C w l i≠0→HH l (w.H l).1 (cls C w.X l) (vW l w.L) i=sK C w l i:=fun i hi=>by
  unfold HH hs
  exact if_pos hi
 refine⟨fun i hi=>(hI.mN i (by omega)).1,fun i k hi hk hne h2=>?_,fun i k hi hk hne h2=>?_⟩
 ·have r1:=(hI.mN k (by omega)).1
  apply Classical.byContradiction
  intro h3
  have h3:2≤sK C w l k:=by omega
  have o1:=hI.own (i:=i) (by omega) (by grind)
  have o2:=hI.own (i:=k) (by omega) (by grind)
  omega
 ·have:=hI.c2 i (by omega) (by grind) k (by omega) (fun e=>hne e.symm)
  grind
theorem xX.data (h:xX C w) {l i:Nat} (hl:l<C.lines) (hi:i<4) (hp:(aG C.aD.toNat (w.X i).S l).2=0):(aG C.aD.toNat (w.X i).S l).1.d=w.V l:=h.xP.value hi hl hp
end Go.Pc
end
section
namespace Go.Pc
open Go Go.Ab Go.Hm Go.Ct
variable {l:Nat} {r:Row} {m V:Ln} {c:Pe} {N:List aF} {n:aF}
structure Clean (r:Row):Prop where
 busy:r.busy=false
 owner:r.owner= -1
 sh:∀i,i<4→r.sh i=false
def Il (r:Row):Prop:=(r.busy=true∧r.served.kind=0)∨∃x∈r.waits,x.kind=0
def Jg (r:Row):Prop:=Il r∨Clean r
theorem Jg.wait (h:Jg r):Jg (r.wait n):=by
 rcases h with(h|⟨x,hx,k⟩)|h
 ·exact .inl (.inl h)
 ·exact .inl (.inr ⟨x,List.mem_append.2 (.inl hx),k⟩)
 ·exact .inr ⟨h.busy,h.owner,h.sh⟩
theorem F2:Il (r.wait (iW l)):= .inr ⟨iW l,List.mem_append.2 (.inr (by simp)),rfl⟩
theorem eR:(r.heard n).waits=r.waits:=by
 unfold Row.heard
 split
 ·rfl
 ·split<;>split<;>rfl
theorem gD {line:Int} {d:Ln}:(r.cI line d).1.waits=r.waits:=by
 unfold Row.cI
 grind
theorem Jg.take (h:Jg r) (hI:Inv l r m V c (n::N)) (_:1≤n.kind∧n.kind≤5):Jg (eU.take (r,m) l n).1.1:=by
 unfold eU.take
 by_cases k4:n.kind=4
 ·rw[if_pos k4]
  obtain⟨h1,h2,h3⟩:=hI.Rd k4
  rw[if_neg (by show ¬(r.granted=false∨r.served.core≠n.core);rw[h1];simp;exact h2)]
  rcases h with(h|⟨x,hx,k⟩)|h
  ·exact absurd h.2 (hI.kg h1)
  ·exact .inl (.inr ⟨x,hx,k⟩)
  ·have:=hI.row.gb h1;rw[h.busy] at this;cases this
 ·rw[if_neg k4]
  by_cases k5:n.kind=5
  ·rw[if_pos k5]
   have hc:=hI.nc n (by simp)
   obtain⟨i,hi,hci,hct⟩:=dD hc.2
   obtain⟨ha,hg,hb,_,_⟩:=hI.Lz k5 hi hci
   rw[if_neg (by show ¬r.asked n.core.toNat=false;rw[hct,ha];simp)]
   obtain⟨_,hI2⟩:=hI.fX k5
   show Jg (eU.fX (r,m) l n).1.1
   have hw:(eU.fX (r,m) l n).1.1.waits=r.waits:=by
    unfold eU.fX Row.rest
    dsimp only
    split
    ·split
     ·exact eR
     ·rw[gD];exact eR
    ·exact eR
   rcases h with(h|⟨x,hx,k⟩)|h
   ·
    have hls:=Bc hI.row hc.2 (by rw[hct];exact ha)
    have eh:r.heard n=(r.cO n).leave n.core:=by unfold Row.heard;rw[if_pos (by omega)]
    unfold eU.fX Row.rest
    dsimp only
    by_cases hq:(r.heard n).quiet=true
    ·rw[if_pos hq,if_pos (by rw[pR];exact h.2)]
     right
     have hall:∀j:Nat,j<4→(r.heard n).sh j=false∧(r.heard n).owner≠(j:Int):=fun j hj=>by
      have hk2:=hI.k2 hb hg (by omega) j hj (fun e=>by omega)
      have hqj:=dF hq hj
      have easked:(r.heard n).asked j=eP r.asked n.core false j:=by rw[eh];rfl
      have esh:(r.heard n).sh j=eP r.sh n.core false j:=by rw[eh];rfl
      have eow:(r.heard n).owner=if r.owner=n.core then -1 else r.owner:=by rw[eh];rfl
      rw[easked] at hqj
      rw[esh,eow]
      unfold eP at hqj ⊢
      grind
     refine⟨rfl,?_,fun i hi=>(hall i hi).1⟩
     show(r.heard n).owner= -1
     have ho:=hls.owner
     have h0:=hall (r.heard n).owner.toNat
     omega
    ·rw[if_neg hq]
     left;left
     exact⟨hls.busy,by rw[pR];exact h.2⟩
   ·exact .inl (.inr ⟨x,by rw[hw];exact hx,k⟩)
   ·rw[h.busy] at hb;cases hb
  ·rw[if_neg k5];exact h.wait
theorem Jg.begun {w:List aF} {j:Int→Int×Bool} (h:Jg r) (hb:r.busy=false) (hw:r.waits=n::w) (hI:Inv l r m V c N) (hj:∀x,(j x).2=false):Jg (Row.begun (r.next w) l m n j).1.1:=by
 have hrest:n.kind≠0→Jg (r.next w):=fun k0=>by
  rcases h with(h|⟨x,hx,k⟩)|h
  ·grind
  ·rw[hw] at hx
   rcases List.mem_cons.1 hx with rfl|hx
   ·exact absurd k k0
   ·exact .inl (.inr ⟨x,hx,k⟩)
  ·exact .inr ⟨h.busy,h.owner,h.sh⟩
 unfold Row.begun
 by_cases k3:n.kind=3
 ·rw[if_pos k3]
  rcases hrest (by omega) with(h|⟨x,hx,k⟩)|h
  ·exact .inl (.inl h)
  ·exact .inl (.inr ⟨x,hx,k⟩)
  ·refine .inr ⟨h.busy,?_,fun i hi=>?_⟩
   ·show(if(r.next w).owner=n.core then(-1:Int) else(r.next w).owner)= -1
    split
    ·rfl
    ·exact h.owner
   ·show eP (r.next w).sh n.core false i=false
    unfold eP
    split
    ·rfl
    ·exact h.sh i hi
 ·rw[if_neg k3]
  by_cases k12:n.kind=1∨n.kind=2
  ·grind
  ·rw[if_neg k12]
   have hnw:=hI.row.waits n (by rw[hw];simp)
   by_cases hf:(r.next w).first (-1)= -1
   ·rw[if_pos hf]
    have hff:=oP.1 hf
    have ho:=hI.row.owner
    right
    refine⟨hb,?_,fun i hi=>(hff i hi (by omega)).1⟩
    show r.owner= -1
    have h0:r.owner.toNat<4→((r.owner.toNat:Nat):Int)≠ -1→((r.owner.toNat:Nat):Int)≠r.owner:=fun a b=>(hff r.owner.toNat a b).2
    omega
   ·rw[if_neg hf]
    exact .inl (.inl ⟨rfl,by show n.kind=0;omega⟩)
theorem Inv.clean (h:Inv l r m V c N) (hc:Clean r):(∀i,i<4→HH l r c N i=0)∧∀x∈N,x.kind≠8∧x.kind≠5∧x.kind≠11:=by
 obtain⟨hq,hg,_⟩:=h.idle hc.busy
 have hno:∀x∈N,x.kind≠8∧x.kind≠5∧x.kind≠11:=fun x hx=>by
  have hb:=h.nc x hx
  obtain⟨j,hj,hcj,_⟩:=dD hb.2
  have h1:=h.calm hq hx
  exact⟨fun k=>h.Zb hj (by unfold mO;rw[hg];simp) hx k hcj,h1.1,h1.2⟩
 refine⟨fun i hi=>?_,hno⟩
 have hc1:=h.c1 i hi (by have:=h.t3 i hi;rw[dF hq hi] at this;simp at this;omega) (by have:=h.t4 i hi;unfold mO at this;grind)
 have h0:0≤HH l r c N i:=by have:=h.mN i hi;unfold HH hs;grind
 have h1:HH l r c N i≠1:=fun e=>by have:=hc1.1.1 e;rw[hc.sh i hi] at this;cases this
 have h2:¬2≤HH l r c N i:=fun e=>by have:=hc1.2.1 e;rw[hc.owner] at this;omega
 omega
end Go.Pc
end
section
namespace Go.Pc
open Go Go.Ab Go.Hm Go.Ct
variable {C:bJ} {w:Wd} {r:Row} {n:aF} {m:Ln} {line:Int}
def Jk (r:Row):Prop:=r.busy=true→r.granted=true∨r.quiet=false
theorem Bu {l:List Nat} {i:Nat} (hi:i∈l) (h4:i<4):(r.dT l).quiet=false:=by
 have:(r.dT l).asked i=true:=by
  show(r.asked i||l.contains i)=true
  rw[List.contains_iff_mem.2 hi,Bool.or_true]
 cases hq:(r.dT l).quiet with
 |false=>rfl
 |true=>have:=dF hq h4;simp_all
theorem wK {d:Ln}:Jk (r.cI line d).1:=fun _=>by
 left
 unfold Row.cI
 grind
theorem Jk.take (h:Jk r):Jk (eU.take (r,m) line n).1.1:=by
 unfold eU.take
 split
 ·split
  ·exact h
  ·intro hb;cases hb
 ·split
  ·split
   ·exact h
   ·show Jk (eU.fX (r,m) line n).1.1
    unfold eU.fX Row.rest
    dsimp only
    split
    ·split
     ·intro hb;cases hb
     ·exact wK
    ·rename_i hq
     exact fun _=> .inr (by simpa using hq)
  ·exact h
theorem Ar {x:Int} (h:r.first x≠ -1):∃i,i∈r.dB x∧i<4:=by
 apply Classical.byContradiction
 intro hn
 refine h (oP.2 fun c hc hne=>?_)
 have hm:¬c∈r.dB x:=fun e=>hn ⟨c,e,hc⟩
 rw[jF] at hm
 have hf:r.holds x c=false:=by
  cases e:r.holds x c with
  |false=>rfl
  |true=>exact absurd ⟨hc,e⟩ hm
 constructor
 ·cases e:r.sh c with
  |false=>rfl
  |true=>rw[J1 hne e] at hf;cases hf
 ·intro e
  rw[J9 hne e] at hf;cases hf
theorem Jk.begun {j:Int→Int×Bool} (h:r.busy=false) (ho: -1≤r.owner∧r.owner<4):Jk (Row.begun r line m n j).1.1:=by
 have h0:∀{r':Row},r'.busy=r.busy→Jk r':=fun e hb=>by grind
 unfold Row.begun
 split
 ·exact h0 rfl
 split
 ·split
  ·dsimp only
   unfold Row.get
   dsimp only
   split
   ·unfold Row.getM
    split
    ·rename_i hf
     obtain⟨i,hi,h4⟩:=Ar hf
     exact fun _=> .inr (Bu hi h4)
    ·exact wK
   ·unfold Row.Jb
    split
    ·rename_i hf
     have hlt:((r.serve n (j n.world).1).jX).owner.toNat<4:=by
      unfold Row.jX at hf ⊢
      split
      ·grind
      ·show r.owner.toNat<4;omega
     exact fun _=> .inr (Bu (i:=((r.serve n (j n.world).1).jX).owner.toNat) (List.mem_singleton.2 rfl) hlt)
    ·exact wK
  ·exact h0 rfl
 split
 ·exact h0 rfl
 ·rename_i hf
  obtain⟨i,hi,h4⟩:=Ar hf
  exact fun _=> .inr (Bu hi h4)
def wt (n:aF):Nat:=if n.kind=11 then 4 else if n.kind=5 then 3 else if n.kind=8 then 2 else 1
def tC (l:List aF):Nat:=(l.map wt).sum
theorem Mq {a b:List aF}:tC (a++b)=tC a+tC b:=by unfold tC;simp
theorem uH {a:aF} {b:List aF}:tC (a::b)=wt a+tC b:=by unfold tC;simp
theorem Rn {a b:List aF} (h:a.Perm b):tC a=tC b:=(h.map wt).sum_nat
theorem E0:1≤wt n:=by unfold wt;split<;>(try split)<;>(try split)<;>omega
theorem Tm {l:List aF} (h:tC l=0):l=[]:=by
 cases l with
 |nil=>rfl
 |cons a l=>rw[uH] at h;have:=E0 (n:=a);omega
theorem O7 {d:Ln}:tC (r.cI line d).2=2:=by
 unfold Row.cI
 split
 ·rfl
 ·split<;>rfl
theorem I3 {H:iQ} (hk:fK n.kind):tC (bY C H n).2.1<wt n:=by
 have h1:=E0 (n:=n)
 unfold bY
 rw[if_neg (by simpa using hk)]
 split
 ·unfold eU.take
  split
  ·split<;>exact h1
  ·split
   ·rename_i k5
    split
    ·exact h1
    ·have h3:wt n=3:=by unfold wt;rw[if_neg (by omega),if_pos k5]
     rw[h3]
     show tC (eU.fX (H n.line.toNat) n.line n).2<3
     unfold eU.fX Row.rest
     dsimp only
     split
     ·split
      ·show(0:Nat)<3;omega
      ·rw[O7];omega
     ·show(0:Nat)<3;omega
   ·exact h1
 ·exact h1
theorem Oz {core:Int} {s:eQ} (hk:8≤n.kind∧n.kind≤11):tC (dO C core s n).2.1<wt n:=by
 have h1:=E0 (n:=n)
 have one:∀{x:aF},x.kind=4∨x.kind=5→tC [x]=wt x:=fun _=>by unfold tC;simp
 have w5:∀x:aF,x.kind=5→tC [x]<4:=fun x h=>by rw[one (.inr h)];unfold wt;rw[h];decide
 have e5:∀y,(dQ core n y).kind=5:=fun y=>by unfold dQ;split<;>rfl
 have e4:∀x:aF,x.kind=4→wt x=1:=fun x h=>by unfold wt;rw[h];rfl
 unfold dO
 split
 ·rename_i k8
  have h2:wt n=2:=by unfold wt;rw[k8];rfl
  split
  ·show(0:Nat)<wt n;omega
  ·unfold lX
   split
   ·show(0:Nat)<wt n;omega
   ·split
    ·show(0:Nat)<wt n;omega
    ·split
     ·show(0:Nat)<wt n;omega
     grind
 split
 ·split
  ·show(0:Nat)<wt n;omega
  ·unfold sS;repeat' split
   all_goals exact h1
 split
 ·split
  ·show(0:Nat)<wt n;omega
  ·unfold kK;repeat' split
   all_goals exact h1
 split
 ·rename_i k11
  have h4:wt n=4:=by unfold wt;rw[k11];rfl
  split
  ·show(0:Nat)<wt n;omega
  ·unfold iH
   split
   ·show(0:Nat)<wt n;omega
   grind
 grind
end Go.Pc
end
section
namespace Go.Pc
open Go Go.Ab Go.Hm Go.Ct
variable {C:bJ} {w:Wd} {r:Row} {n:aF} {m:Ln} {line:Int}
structure WR (C:bJ) (w:Wd):Prop where
 ok:xX C w
 M3:∀l:Nat,l<C.lines→Jk (w.H l).1
def yC (l:List aF):Nat:=l.countP fun n=>decide (n.kind=1∨n.kind=2∨n.kind=3)
theorem mX {a b:List aF}:yC (a++b)=yC a+yC b:=List.countP_append
theorem Rw {l:List aF}:yC (n::l)=yC l+if n.kind=1∨n.kind=2∨n.kind=3 then 1 else 0:=by unfold yC;grind
theorem oA {l:List aF} (h:∀x∈l,¬(x.kind=1∨x.kind=2∨x.kind=3)):yC l=0:=List.countP_eq_zero.2 fun x hx=>by simpa using h x hx
def yL (H:iQ):Nat:=(H 0).1.waits.length+(H 1).1.waits.length+(H 2).1.waits.length+(H 3).1.waits.length
def Wd.work (w:Wd):Nat:=yL w.H+yC w.L
theorem yV {H:iQ} {k:Nat} {x:eU} (hk:k<4):yL (aJ H k x)+(H k).1.waits.length=yL H+x.1.waits.length:=by
 have:k=0∨k=1∨k=2∨k=3:=by omega
 unfold yL aJ
 grind
theorem Iq {H:iQ} {x:aF} (hx:x∈(bY C H n).2.1):x.kind=8:=by
 unfold bY at hx
 split at hx
 ·cases hx
 ·split at hx
  ·unfold eU.take at hx
   split at hx
   ·split at hx<;>cases hx
   ·split at hx
    ·split at hx
     ·cases hx
     ·exact(Db (r:=(H n.line.toNat).1) (m:=(H n.line.toNat).2) x hx).1
    ·cases hx
  ·cases hx
theorem Mu {core:Int} {s:eQ}:∀x∈(dO C core s n).2.1,x.kind=4∨x.kind=5:=by
 intro x hx
 have e:∀y,(dQ core n y).kind=5:=fun y=>by unfold dQ;split<;>rfl
 unfold dO lX sS kK iH at hx
 grind
theorem J7 {r:Row}:(eU.take (r,m) line n).1.1.waits.length≤r.waits.length+if n.kind=4∨n.kind=5 then 0 else 1:=by
 unfold eU.take
 by_cases k4:n.kind=4
 ·rw[if_pos k4,if_pos (show n.kind=4∨n.kind=5 from .inl k4)]
  split<;>exact Nat.le_refl _
 rw[if_neg k4]
 by_cases k5:n.kind=5
 ·rw[if_pos k5,if_pos (show n.kind=4∨n.kind=5 from .inr k5)]
  split
  ·exact Nat.le_refl _
  ·have hw:(eU.fX (r,m) line n).1.1.waits=r.waits:=by
    unfold eU.fX Row.rest
    dsimp only
    split
    ·split
     ·exact eR
     ·rw[gD];exact eR
    ·exact eR
   grind
 ·rw[if_neg k5,if_neg (show ¬(n.kind=4∨n.kind=5) by omega)]
  show(r.waits++[n]).length≤_
  grind
theorem WR.one (hC:C.Ok) (hl4:C.lines=4) (h:WR C w) {i:Nat} (hi:i<w.L.length):WR C (w.one C i)∧tC (w.one C i).L<tC w.L∧(w.one C i).work≤w.work:=by
 have hok:=h.ok.one hC hi
 have hp:=tW hi
 have ex:w.L.getD i aF.zero=w.L[i]:=by grind
 have hk:PK (w.L[i]).kind:=h.ok.pk _ (List.getElem_mem hi)
 have hnb:=h.ok.xP.nb _ (List.getElem_mem hi) hk
 have hw1:=Rn hp
 rw[uH] at hw1
 have hr1:yC w.L=yC (w.L.take i++w.L.drop (i+1))+if(w.L[i]).kind=1∨(w.L[i]).kind=2∨(w.L[i]).kind=3 then 1 else 0:=by rw[←Rw];exact hp.countP_eq _
 unfold PK at hk
 have key:WR C (w.one C i)→tC (w.one C i).L<tC w.L∧(w.one C i).work≤w.work:=fun _=>by
  unfold Wd.one Wd.work
  rw[ex]
  dsimp only
  by_cases ht:fK (w.L[i]).kind
  ·rw[if_pos ht]
   refine⟨?_,?_⟩
   ·show tC (_++_)<_
    rw[Mq]
    have:=I3 (C:=C) (H:=w.H) ht
    omega
   ·show yL (bY C w.H w.L[i]).1+yC (_++_)≤_
    have h0:yC (bY C w.H w.L[i]).2.1=0:=oA fun x hx=>by rw[Iq hx];decide
    rw[mX,h0]
    have e:(bY C w.H w.L[i]).1=aJ w.H (w.L[i]).line.toNat (eU.take (w.H (w.L[i]).line.toNat) (w.L[i]).line w.L[i]).1:=by
     unfold bY
     rw[if_neg (by simpa using ht),if_pos ⟨hnb.1,by unfold bJ.has;exact hnb.2⟩]
    rw[e]
    have h1:=yV (H:=w.H) (k:=(w.L[i]).line.toNat) (x:=(eU.take (w.H (w.L[i]).line.toNat) (w.L[i]).line w.L[i]).1) (by omega)
    have h2:=J7 (r:=(w.H (w.L[i]).line.toNat).1) (m:=(w.H (w.L[i]).line.toNat).2) (line:=(w.L[i]).line) (n:=w.L[i])
    unfold fK at ht
    grind
  ·rw[if_neg ht]
   have hk8:8≤(w.L[i]).kind∧(w.L[i]).kind≤11:=by unfold fK at ht;omega
   refine⟨?_,?_⟩
   ·show tC (_++_)<_
    rw[Mq]
    have:=Oz (C:=C) (core:=(w.L[i]).core) (s:=w.X (w.L[i]).core.toNat) hk8
    omega
   ·show yL w.H+yC (_++_)≤_
    have h0:yC (dO C (w.L[i]).core (w.X (w.L[i]).core.toNat) w.L[i]).2.1=0:=oA fun x hx=>by have:=Mu x hx;omega
    rw[mX,h0]
    omega
 have hwr:WR C (w.one C i):=by
  refine⟨hok,fun l hl=>?_⟩
  unfold Wd.one
  rw[ex]
  dsimp only
  by_cases ht:fK (w.L[i]).kind
  ·rw[if_pos ht]
   show Jk ((bY C w.H w.L[i]).1 l).1
   have e:(bY C w.H w.L[i]).1=aJ w.H (w.L[i]).line.toNat (eU.take (w.H (w.L[i]).line.toNat) (w.L[i]).line w.L[i]).1:=by
    unfold bY
    rw[if_neg (by simpa using ht),if_pos ⟨hnb.1,by unfold bJ.has;exact hnb.2⟩]
   rw[e]
   by_cases e2:l=(w.L[i]).line.toNat
   ·rw[←e2,Ab.cP]
    exact Jk.take (m:=(w.H l).2) (h.M3 l hl)
   ·rw[Ab.bK e2];exact h.M3 l hl
  ·rw[if_neg ht];exact h.M3 l hl
 grind
def gu (f:Nat→Nat→Nat):Nat:=f 0 0+f 0 1+f 0 2+f 0 3+(f 1 0+f 1 1+f 1 2+f 1 3)+(f 2 0+f 2 1+f 2 2+f 2 3)
def W1 (L:List aF) (i l:Nat):Nat:=4*cF 11 i l L+3*cF 5 i l L+2*cF 8 i l L+cF 1 i l L+cF 2 i l L+cF 3 i l L+cF 4 i l L+cF 9 i l L+cF 10 i l L
theorem Ti {L:List aF} {i l:Nat} (hk:PK n.kind):W1 (n::L) i l=W1 L i l+if n.core=(i:Int)∧n.line=(l:Int) then wt n else 0:=by
 unfold W1
 simp only[aU]
 by_cases e:n.core=(i:Int)∧n.line=(l:Int)
 ·rw[if_pos e]
  unfold PK at hk
  unfold wt
  have:=e.1
  have:=e.2
  rcases(by omega:n.kind=1∨n.kind=2∨n.kind=3∨n.kind=4∨n.kind=5∨n.kind=8∨n.kind=9∨n.kind=10∨n.kind=11) with h|h|h|h|h|h|h|h|h<;>simp[h,e]<;>omega
 grind
theorem Nh:∀{L:List aF},(∀x∈L,PK x.kind)→(∀x∈L,(0≤x.core∧x.core<3)∧(0≤x.line∧x.line<4))→tC L=gu (W1 L)
 |[],_,_=>rfl
 |x::L,hk,hb=>by
  rw[uH,Nh (fun y hy=>hk y (List.mem_cons_of_mem _ hy)) (fun y hy=>hb y (List.mem_cons_of_mem _ hy))]
  have hx:=hb x List.mem_cons_self
  have hkx:=hk x List.mem_cons_self
  obtain⟨i,hi⟩:=Int.eq_ofNat_of_zero_le hx.1.1
  obtain⟨l,hl⟩:=Int.eq_ofNat_of_zero_le hx.2.1
  unfold gu
  simp only[Ti hkx,hi,hl]
  have h1:i=0∨i=1∨i=2:=by omega
  have h2:l=0∨l=1∨l=2∨l=3:=by omega
  rcases h1 with rfl|rfl|rfl<;>rcases h2 with rfl|rfl|rfl|rfl<;>simp<;>omega
theorem jR {k:Int} {i l:Nat} (hk:PK k):∀{L:List aF},cF k i l (vW l L)=cF k i l L
 |[]=>rfl
 |x::L=>by
  by_cases e:x.line=(l:Int)∧PK x.kind
  ·rw[vG e.1 e.2,aU,aU,jR hk]
  ·rw[rY e,aU,jR hk,if_neg (fun h=>e ⟨h.2.2,by rw[h.1];exact hk⟩)]
   omega
theorem WR.Y6 (hc3:C.bT=3) (hl4:C.lines=4) (h:WR C w):tC w.L≤96:=by
 rw[Nh h.ok.pk (fun x hx=>by have:=h.ok.xP.nb x hx (h.ok.pk x hx);omega)]
 have key:∀i l,i<3→l<4→W1 w.L i l≤8:=fun i l hi hl=>by
  have hI:=h.ok.xP.line l (by omega)
  have t1:=hI.t1 i (by omega)
  have t2:=hI.t2 i (by omega)
  have t3:=hI.t3 i (by omega)
  have t4:=hI.t4 i (by omega)
  have g:mO (w.H l).1 i≤1:=by unfold mO;split<;>omega
  have b:∀x:Bool,x.toNat≤1:=fun x=>by cases x<;>decide
  have b1:=b (cls C w.X l i).iZ
  have b2:=b (cls C w.X l i).gi
  have b3:=b ((w.H l).1.asked i)
  simp only[jR (show PK 1 by decide),jR (show PK 2 by decide),jR (show PK 3 by decide),jR (show PK 4 by decide),jR (show PK 5 by decide),jR (show PK 8 by decide),jR (show PK 9 by decide),jR (show PK 10 by decide),jR (show PK 11 by decide)] at t1 t2 t3 t4
  unfold W1
  omega
 unfold gu
 grind
end Go.Pc
end
section
namespace Go.Pc
open Go Go.Ab Go.Hm Go.Ct
variable {C:bJ} {w:Wd} {r:Row} {n:aF} {m:Ln} {line:Int} {j:Int→Int→Int×Bool}
theorem yF {g:Int→Int×Bool}:(Row.begun r line m n g).1.1.waits=r.waits:=by
 unfold Row.begun
 split
 ·rfl
 split
 ·split
  ·dsimp only
   unfold Row.get
   dsimp only
   split
   ·unfold Row.getM
    split
    ·rfl
    ·rw[gD];rfl
   ·unfold Row.Jb
    have hu:((r.serve n (g n.world).1).jX).waits=r.waits:=by unfold Row.jX;split<;>rfl
    split
    ·exact hu
    ·rw[gD];exact hu
  ·rfl
 split
 ·rfl
 ·rfl
structure iu (C:bJ) (w v:Wd) (k:Nat):Prop where
 wr:WR C v
 xN:∀l,l≠k→v.H l=w.H l
 work:v.work≤w.work
 less:(w.H k).1.busy=false→(w.H k).1.waits≠[]→v.work<w.work
 rq:yC v.L=yC w.L
 sub:∀x∈(v.H k).1.waits,x∈(w.H k).1.waits
 V:v.V=w.V
theorem WR.Vg (hC:C.Ok) (hc3:C.bT=3) (hl4:C.lines=4) (h:WR C w) {k:Nat} (hk:k<4):iu C w (w.step C ⟨1,0,k,0⟩ j) k:=by
 have hok:=h.ok.step hC hc3 hl4 (p:=⟨1,0,k,0⟩) (j:=j)
 have e0:((k:Nat):Int) % 4=k:=by omega
 have es:w.step C ⟨1,0,k,0⟩ j={w with H:=(dL C w.H k (fun x=>j x k)).1,L:=w.L++(dL C w.H k (fun x=>j x k)).2.1}:=by
  unfold Wd.step
  dsimp only
  rw[if_neg (by decide),if_pos rfl,e0]
 have hb:dL C w.H k (fun x=>j x k)=(aJ w.H k (eU.begin (w.H k) k (fun x=>j x k)).1,(eU.begin (w.H k) k (fun x=>j x k)).2):=by
  unfold dL
  rw[if_pos (by unfold bJ.has;omega),Int.toNat_natCast]
 rw[es] at hok ⊢
 rw[hb] at hok ⊢
 dsimp only at hok ⊢
 have hI:=h.ok.xP.line k (by omega)
 have rq0:yC (eU.begin (w.H k) k (fun x=>j x k)).2.1=0:=oA fun x hx=>by
  unfold eU.begin at hx
  split at hx
  ·cases hx
  ·split at hx
   ·cases hx
   ·rename_i n' w' hw
    have hnw:=hI.row.waits n' (by rw[hw];simp)
    have:=(Dj (r:=(w.H k).1.next w') (line:=k) (m:=(w.H k).2) (j:=fun x=>j x k) hnw.2.2 hI.row.owner x hx).2.1
    omega
 have hrow:Jk (eU.begin (w.H k) k (fun x=>j x k)).1.1∧(eU.begin (w.H k) k (fun x=>j x k)).1.1.waits.length≤(w.H k).1.waits.length∧((w.H k).1.busy=false→(w.H k).1.waits≠[]→(eU.begin (w.H k) k (fun x=>j x k)).1.1.waits.length<(w.H k).1.waits.length)∧(∀x∈(eU.begin (w.H k) k (fun x=>j x k)).1.1.waits,x∈(w.H k).1.waits):=by
  unfold eU.begin
  split
  ·rename_i hbz
   exact⟨h.M3 k (by omega),Nat.le_refl _,(fun e=>by grind),fun x hx=>hx⟩
  ·rename_i hbz
   split
   ·rename_i hw
    exact⟨h.M3 k (by omega),Nat.le_refl _,(fun _ e=>absurd hw e),fun x hx=>hx⟩
   ·rename_i n' w' hw
    dsimp only
    have e:(Row.begun ((w.H k).1.next w') k (w.H k).2 n' (fun x=>j x k)).1.1.waits=w':=yF
    refine⟨Jk.begun (by show(w.H k).1.busy=false;simpa using hbz) hI.row.owner,?_,fun _ _=>?_,fun x hx=>?_⟩
    ·grind
    ·grind
    grind
 have ht:=yV (H:=w.H) (x:=(eU.begin (w.H k) k (fun x=>j x k)).1) hk
 refine⟨⟨hok,fun l hl=>?_⟩,fun l e=>Ab.bK e,?_,fun a b=>?_,?_,?_,rfl⟩
 ·show Jk (aJ w.H k _ l).1
  by_cases e:l=k
  ·subst e;rw[Ab.cP];exact hrow.1
  ·rw[Ab.bK e];exact h.M3 l hl
 ·unfold Wd.work
  dsimp only
  rw[mX,rq0]
  grind
 ·unfold Wd.work
  dsimp only
  rw[mX,rq0]
  grind
 ·show yC (w.L++_)=_
  rw[mX,rq0];rfl
 ·show∀x∈(aJ w.H k _ k).1.waits,_
  rw[Ab.cP];exact hrow.2.2.2
def Wd.Cu (C:bJ) (j:Int→Int→Int×Bool):Nat→Nat→Wd→Wd
 |0,_,w=>w
 |f+1,k,w=>Wd.Cu C j f (k+1) (w.step C ⟨1,0,k,0⟩ j)
def Wd.drain (C:bJ):Nat→Wd→Wd
 |0,w=>w
 |f+1,w=>if w.L=[] then w else Wd.drain C f (w.comes C 0)
def Wd.iter (C:bJ) (j:Int→Int→Int×Bool) (w:Wd):Wd:=Wd.drain C 100 (w.Cu C j 4 0)
def Wd.rest (C:bJ) (j:Int→Int→Int×Bool):Nat→Wd→Wd
 |0,w=>w
 |f+1,w=>if(w.iter C j).L=[]∧yL (w.iter C j).H=0 then w.iter C j else Wd.rest C j f (w.iter C j)
theorem R5 (h:w.L≠[]):w.comes C 0=w.one C 0:=by
 unfold Wd.comes
 simp_all
structure Kept (C:bJ) (j:Int→Int→Int×Bool) (P:Wd→Prop):Prop where
 one:∀w,WR C w→P w→w.L≠[]→P (w.one C 0)
 Vg:∀w (k:Nat),k<4→WR C w→P w→P (w.step C ⟨1,0,k,0⟩ j)
variable {P:Wd→Prop}
theorem P4 (hC:C.Ok) (hl4:C.lines=4) (hP:Kept C j P):∀{f:Nat} {w:Wd},WR C w→P w→tC w.L≤f→WR C (w.drain C f)∧P (w.drain C f)∧(w.drain C f).L=[]∧(w.drain C f).work≤w.work:=by
 intro f
 induction f with
 |zero=>
  intro w h hp hw
  exact⟨h,hp,Tm (by show tC w.L=0;omega),Nat.le_refl _⟩
 |succ f ih=>
  intro w h hp hw
  unfold Wd.drain
  by_cases h0:w.L=[]
  ·grind
  ·rw[if_neg h0,R5 h0]
   obtain⟨h1,h2,h3⟩:=h.one hC hl4 (i:=0) (List.length_pos_iff.2 h0)
   obtain⟨a,b,c,d⟩:=ih h1 (hP.one w h hp h0) (by omega)
   grind
theorem Vi (hC:C.Ok) (hc3:C.bT=3) (hl4:C.lines=4) (hP:Kept C j P):∀{f k:Nat} {w:Wd},k+f=4→WR C w→P w→WR C (w.Cu C j f k)∧P (w.Cu C j f k)∧(w.Cu C j f k).work≤w.work∧
  ((∃l,k≤l∧l<4∧(w.H l).1.busy=false∧(w.H l).1.waits≠[])→(w.Cu C j f k).work<w.work):=by
 intro f
 induction f with
 |zero=>intro k w hk h hp;exact⟨h,hp,Nat.le_refl _,fun⟨l,a,b,_⟩=>by omega⟩
 |succ f ih=>
  intro k w hk h hp
  have hb:=h.Vg hC hc3 hl4 (j:=j) (k:=k) (by omega)
  obtain⟨a,b,c,d⟩:=ih (k:=k+1) (by omega) hb.wr (hP.Vg w k (by omega) h hp)
  refine⟨a,b,Nat.le_trans c hb.work,fun⟨l,l1,l2,l3,l4⟩=>?_⟩
  by_cases e:l=k
  ·subst e
   exact Nat.lt_of_le_of_lt c (hb.less l3 l4)
  ·exact Nat.lt_of_lt_of_le (d ⟨l,by omega,l2,by rw[hb.xN l e];exact l3,by rw[hb.xN l e];exact l4⟩) hb.work
theorem WR.idle (h:WR C w) (h0:w.L=[]) {l:Nat} (hl:l<C.lines):(w.H l).1.busy=false:=by
 cases hb:(w.H l).1.busy with
 |false=>rfl
 |true=>
  exfalso
  have hI:=h.ok.xP.line l hl
  have e0:vW l w.L=[]:=by rw[h0];rfl
  rw[e0] at hI
  have hc:=hI.row.core
  rcases h.M3 l hl hb with hg|hq
  ·have:=hI.t4 (w.H l).1.served.core.toNat (by omega)
   unfold mO at this
   rw[if_pos ⟨hg,by omega⟩] at this
   simp[uW] at this
  ·have hall:∀i,i<4→(w.H l).1.asked i=false:=fun i hi=>by
    have:=hI.t3 i hi
    simp only[uW] at this
    grind
   unfold Row.quiet at hq
   grind
theorem Uj {H:iQ} (h:yL H=0) {l:Nat} (hl:l<4):(H l).1.waits=[]:=by
 unfold yL at h
 have:l=0∨l=1∨l=2∨l=3:=by omega
 rcases this with rfl|rfl|rfl|rfl<;>simp_all
theorem Mk (hC:C.Ok) (hc3:C.bT=3) (hl4:C.lines=4) (hP:Kept C j P) (h:WR C w) (hp:P w):WR C (w.iter C j)∧P (w.iter C j)∧(w.iter C j).L=[]∧(w.iter C j).work≤w.work∧(w.L=[]→yL w.H≠0→(w.iter C j).work<w.work):=by
 obtain⟨a,b,c,d⟩:=Vi hC hc3 hl4 hP (f:=4) (k:=0) rfl h hp
 have:=a.Y6 hc3 hl4
 obtain⟨e,f,g,i⟩:=P4 hC hl4 hP (f:=100) a b (by omega)
 refine⟨e,f,g,Nat.le_trans i c,fun h0 ht=>Nat.lt_of_le_of_lt i (d ?_)⟩
 apply Classical.byContradiction
 intro hn
 have hall:∀l,l<4→(w.H l).1.waits.length=0:=fun l hl=>by
  cases hw:(w.H l).1.waits with
  |nil=>rfl
  |cons x xs=>exact absurd ⟨l,by omega,hl,h.idle h0 (by omega),by rw[hw];simp⟩ hn
 refine ht ?_
 unfold yL
 grind
theorem Px (hC:C.Ok) (hc3:C.bT=3) (hl4:C.lines=4) (hP:Kept C j P):∀{f:Nat} {w:Wd},WR C w→P w→w.L=[]→w.work<f→WR C (w.rest C j f)∧P (w.rest C j f)∧(w.rest C j f).L=[]∧yL (w.rest C j f).H=0:=by
 intro f
 induction f with
 |zero=>grind
 |succ f ih=>
  intro w h hp h0 hw
  obtain⟨a,b,c,d,e⟩:=Mk hC hc3 hl4 hP h hp
  unfold Wd.rest
  by_cases ht:yL (w.iter C j).H=0
  ·grind
  ·rw[if_neg (fun e=>ht e.2)]
   refine ih a b c ?_
   by_cases h1:yL w.H=0
   ·have:w.work=0:=by unfold Wd.work;rw[h1,h0];rfl
    have:(w.iter C j).work=0:=by omega
    unfold Wd.work at this
    omega
   grind
theorem Up (hC:C.Ok) (hc3:C.bT=3) (hl4:C.lines=4) (hP:Kept C j P) {f:Nat} (h:WR C w) (hp:P w) (hf:w.work+2≤f):WR C (w.rest C j f)∧P (w.rest C j f)∧(w.rest C j f).L=[]∧yL (w.rest C j f).H=0:=by
 obtain⟨f,rfl⟩:∃g,f=g+1:=⟨f - 1,by omega⟩
 obtain⟨a,b,c,d,e⟩:=Mk hC hc3 hl4 hP h hp
 unfold Wd.rest
 by_cases ht:yL (w.iter C j).H=0
 ·grind
 ·rw[if_neg (fun e=>ht e.2)]
  exact Px hC hc3 hl4 hP a b c (by omega)
theorem WR.calm (h:WR C w) (hl4:C.lines=4) (h0:w.L=[]) (ht:yL w.H=0) {i:Nat} (hi:i<4):(w.X i).sB=false∧(w.X i).lA=false:=by
 have key:∀l,l<4→(cls C w.X l i).iZ=false∧(cls C w.X l i).gi=false:=fun l hl=>by
  have hI:=h.ok.xP.line l (by omega)
  have e0:vW l w.L=[]:=by rw[h0];rfl
  have e1:=Uj ht hl
  have hb:=h.idle h0 (l:=l) (by omega)
  rw[e0] at hI
  have t1:=hI.t1 i hi
  have t2:=hI.t2 i hi
  rw[e1] at t1 t2
  unfold qL at t1
  rw[hb] at t1
  simp[uW] at t1 t2
  grind
 constructor
 ·cases ha:(w.X i).sB with
  |false=>rfl
  |true=>
   have hr:=((h.ok.xP.room i hi).al ha).1
   have:=(key (w.X i).al.toNat (by omega)).1
   have e:((w.X i).al.toNat:Int)=(w.X i).al:=by omega
   change(aS C.aD.toNat (w.X i) (w.X i).al.toNat).iZ=false at this
   unfold aS at this
   simp only[e,ha,decide_true,Bool.and_true] at this
   cases this
 ·cases ha:(w.X i).lA with
  |false=>rfl
  |true=>
   have hr:=(h.ok.xP.room i hi).gl ha
   have:=(key (w.X i).gl.toNat (by omega)).2
   have e:((w.X i).gl.toNat:Int)=(w.X i).gl:=by omega
   change(aS C.aD.toNat (w.X i) (w.X i).gl.toNat).gi=false at this
   unfold aS at this
   simp only[e,ha,decide_true,Bool.and_true] at this
   cases this
theorem WR.step (hC:C.Ok) (hc3:C.bT=3) (hl4:C.lines=4) (h:WR C w) {p:kL}:WR C (w.step C p j)∧(w.step C p j).work≤w.work+2:=by
 have hok:=h.ok.step hC hc3 hl4 (p:=p) (j:=j)
 have hcore:(p.a % 3).toNat<4:=by omega
 by_cases c0:p.mF=0
 ·have e:w.step C p j={w with X:=aJ w.X (p.a % 3).toNat (want C (p.a % 3).toNat (w.X (p.a % 3).toNat) (p.b % 4) 1 (decide (p.v % 2≠0))).1,L:=w.L++(want C (p.a % 3).toNat (w.X (p.a % 3).toNat) (p.b % 4) 1 (decide (p.v % 2≠0))).2.1}:=by
   unfold Wd.step;grind
  refine⟨⟨hok,fun l hl=>by rw[e];exact h.M3 l hl⟩,?_⟩
  rw[e]
  unfold Wd.work
  dsimp only
  rw[mX]
  have:yC (want C (p.a % 3).toNat (w.X (p.a % 3).toNat) (p.b % 4) 1 (decide (p.v % 2≠0))).2.1≤2:=by
   refine Nat.le_trans List.countP_le_length ?_
   unfold want sV iR
   repeat' split
   all_goals simp
  omega
 by_cases c1:p.mF=1
 ·obtain⟨k,hk⟩:=Int.eq_ofNat_of_zero_le (show 0≤p.b % 4 by omega)
  have hb:=h.Vg hC hc3 hl4 (j:=j) (k:=k) (by omega)
  have e:w.step C p j=w.step C ⟨1,0,k,0⟩ j:=by
   unfold Wd.step
   dsimp only
   grind
  rw[e]
  exact⟨hb.wr,by have:=hb.work;omega⟩
 by_cases c2:p.mF=2
 ·have e:w.step C p j=w.comes C p.a:=by unfold Wd.step;dsimp only;grind
  rw[e]
  unfold Wd.comes
  split
  ·grind
  ·rename_i h0
   have hp:0<w.L.length:=List.length_pos_iff.2 h0
   have h3:=Int.emod_nonneg p.a (show(w.L.length:Int)≠0 by omega)
   have h4:=Int.emod_lt_of_pos p.a (show(0:Int)<(w.L.length:Int) by omega)
   obtain⟨a,b,c⟩:=h.one hC hl4 (i:=(p.a % (w.L.length:Int)).toNat) (by omega)
   exact⟨a,by omega⟩
 by_cases c3:p.mF=3
 ·have e:(w.step C p j).H=w.H∧(w.step C p j).L=w.L:=by
   unfold Wd.step;grind
  exact⟨⟨hok,fun l hl=>by rw[e.1];exact h.M3 l hl⟩,by unfold Wd.work;rw[e.1,e.2];omega⟩
 by_cases c4:p.mF=4
 ·obtain⟨k,hk⟩:=Int.eq_ofNat_of_zero_le (show 0≤p.b % 4 by omega)
  have e:w.step C p j=w∨w.step C p j={w with H:=aJ w.H k (eU.vJ (w.H k) k)}:=by
   unfold Wd.step;dsimp only;rw[if_neg c0,if_neg c1,if_neg c2,if_neg c3,if_pos c4]
   split
   ·right
    unfold dI
    rw[hk,if_pos (by unfold bJ.has;omega),Int.toNat_natCast]
   ·exact .inl rfl
  rcases e with e|e
  ·grind
  ·refine⟨⟨hok,fun l hl=>?_⟩,?_⟩
   ·rw[e]
    show Jk (aJ w.H k _ l).1
    by_cases e2:l=k
    ·subst e2;rw[Ab.cP];exact h.M3 l hl
    ·rw[Ab.bK e2];exact h.M3 l hl
   ·rw[e]
    unfold Wd.work
    dsimp only
    have:=yV (H:=w.H) (k:=k) (x:=eU.vJ (w.H k) k) (by omega)
    have e3:(eU.vJ (w.H k) k).1.waits.length=(w.H k).1.waits.length+1:=by
     show((w.H k).1.waits++[_]).length=_
     grind
    omega
 ·have e:(w.step C p j).H=w.H∧(w.step C p j).L=w.L:=by
   unfold Wd.step;grind
  exact⟨⟨hok,fun l hl=>by rw[e.1];exact h.M3 l hl⟩,by unfold Wd.work;rw[e.1,e.2];omega⟩
end Go.Pc
end
section
namespace Go.Pc
open Go Go.Ab Go.Hm Go.Ct
variable {C:bJ} {w:Wd} {r:Row} {n:aF} {m V:Ln} {l:Nat} {c:Pe} {N:List aF} {j:Int→Int→Int×Bool}
theorem Jg.X4 {t:List aF} {g:Int→Int×Bool} (hb:r.busy=false) (hI:Inv l r m V c N) (hk:n.kind=0):Jg (Row.begun (r.next t) l m n g).1.1:=by
 unfold Row.begun
 rw[if_neg (by omega),if_neg (by omega)]
 by_cases hf:(r.next t).first (-1)= -1
 ·rw[if_pos hf]
  have hff:=oP.1 hf
  have ho:=hI.row.owner
  right
  refine⟨hb,?_,fun i hi=>(hff i hi (by omega)).1⟩
  show r.owner= -1
  have h0:r.owner.toNat<4→((r.owner.toNat:Nat):Int)≠ -1→((r.owner.toNat:Nat):Int)≠r.owner:=fun a b=>(hff r.owner.toNat a b).2
  omega
 ·rw[if_neg hf]
  exact .inl (.inl ⟨rfl,hk⟩)
structure OS (C:bJ) (line:Nat) (w:Wd):Prop where
 rq:yC w.L=0
 ws:∀k:Nat,k<4→∀x∈(w.H k).1.waits,x.kind=0
 sw:Jg (w.H line).1
theorem db {L:List aF} (h:yC L=0) {x:aF} (hx:x∈L):¬(x.kind=1∨x.kind=2∨x.kind=3):=fun e=>by
 have:=List.countP_eq_zero.1 h x hx
 simp at this
 omega
theorem Vd (hC:C.Ok) (hc3:C.bT=3) (hl4:C.lines=4) {line:Nat} (hline:line<4):Kept C j (OS C line) where
 one:=fun w h hp h0=>by
  have hi:0<w.L.length:=List.length_pos_iff.2 h0
  have hperm:=tW hi
  have ex:w.L.getD 0 aF.zero=w.L[0]:=by grind
  have hk:PK (w.L[0]).kind:=h.ok.pk _ (List.getElem_mem hi)
  have hnb:=h.ok.xP.nb _ (List.getElem_mem hi) hk
  have hno:=db hp.rq (List.getElem_mem hi)
  have hr0:yC (w.L.take 0++w.L.drop (0+1))=0:=oA fun x hx=>db hp.rq (M5 hx)
  unfold PK at hk
  unfold Wd.one
  rw[ex]
  dsimp only
  by_cases ht:fK (w.L[0]).kind
  ·rw[if_pos ht]
   have e:(bY C w.H w.L[0]).1=aJ w.H (w.L[0]).line.toNat (eU.take (w.H (w.L[0]).line.toNat) (w.L[0]).line w.L[0]).1:=by
    unfold bY
    rw[if_neg (by simpa using ht),if_pos ⟨hnb.1,by unfold bJ.has;exact hnb.2⟩]
   obtain⟨k,hkl⟩:=Int.eq_ofNat_of_zero_le hnb.2.1
   have hk4:k<4:=by omega
   have hkt:(w.L[0]).line.toNat=k:=by omega
   rw[hkt,hkl] at e
   unfold fK at ht
   have hwt:∀x∈(eU.take (w.H k) k w.L[0]).1.1.waits,x.kind=0:=fun x hx=>by
    refine hp.ws k hk4 x ?_
    have:(eU.take (w.H k) k w.L[0]).1.1.waits=(w.H k).1.waits:=by
     unfold eU.take
     by_cases k4:(w.L[0]).kind=4
     ·rw[if_pos k4];split<;>rfl
     rw[if_neg k4]
     rw[if_pos (show(w.L[0]).kind=5 by omega)]
     split
     ·rfl
     ·show(eU.fX (w.H k) k w.L[0]).1.1.waits=_
      unfold eU.fX Row.rest
      dsimp only
      split
      ·split
       ·exact eR
       ·rw[gD];exact eR
      ·exact eR
    grind
   refine⟨?_,?_,?_⟩
   ·show yC (_++_)=0
    rw[mX,hr0,oA (fun x hx=>by rw[Iq hx];decide)]
   ·show∀k':Nat,k'<4→∀x∈((bY C w.H w.L[0]).1 k').1.waits,x.kind=0
    rw[e]
    intro k' hk'
    by_cases e2:k'=k
    ·subst e2;rw[Ab.cP];exact hwt
    ·rw[Ab.bK e2];exact hp.ws k' hk'
   ·show Jg ((bY C w.H w.L[0]).1 line).1
    rw[e]
    by_cases e2:line=k
    ·subst e2
     rw[Ab.cP]
     have hI:=(h.ok.xP.perm hperm).line line (by omega)
     rw[vG hkl (by unfold PK;omega)] at hI
     exact hp.sw.take hI (by omega)
    ·rw[Ab.bK e2];exact hp.sw
  ·rw[if_neg ht]
   refine⟨?_,hp.ws,hp.sw⟩
   show yC (_++_)=0
   rw[mX,hr0,oA (fun x hx=>by have:=Mu x hx;omega)]
 Vg:=fun w k hk h hp=>by
  have hb:=h.Vg hC hc3 hl4 (j:=j) hk
  refine⟨by rw[hb.rq];exact hp.rq,fun k' hk' x hx=>?_,?_⟩
  ·by_cases e:k'=k
   ·subst e;exact hp.ws k' hk' x (hb.sub x hx)
   ·rw[hb.xN k' e] at hx;exact hp.ws k' hk' x hx
  ·by_cases e:line=k
   ·subst e
    have hI:=h.ok.xP.line line (by omega)
    have e0:((line:Nat):Int) % 4=line:=by omega
    have es:(w.step C ⟨1,0,line,0⟩ j).H line=(eU.begin (w.H line) line (fun x=>j x line)).1:=by
     unfold Wd.step
     dsimp only
     rw[if_neg (by decide),if_pos rfl,e0]
     show(dL C w.H line (fun x=>j x line)).1 line=_
     unfold dL
     rw[if_pos (by unfold bJ.has;omega),Int.toNat_natCast]
     exact Ab.cP
    rw[es]
    unfold eU.begin
    split
    ·exact hp.sw
    ·rename_i hbz
     split
     ·exact hp.sw
     ·rename_i n' w' hw
      exact Jg.X4 (by simpa using hbz) hI (hp.ws line hk n' (by rw[hw];simp))
   ·rw[hb.xN line e];exact hp.sw
theorem WR.Dn (h:WR C w) (hl4:C.lines=4) (h0:w.L=[]) (ht:yL w.H=0) {line:Nat} (hline:line<4):
  WR C {w with H:=(dI C w.H line).1}∧OS C line {w with H:=(dI C w.H line).1}∧({w with H:=(dI C w.H line).1}:Wd).work=1:=by
 have e:(dI C w.H line).1=aJ w.H line (eU.vJ (w.H line) line):=by
  unfold dI
  rw[if_pos (by unfold bJ.has;omega),Int.toNat_natCast]
 rw[e]
 refine⟨⟨⟨by rw[←e];exact h.ok.xP.tA,h.ok.bad,h.ok.pk⟩,fun k hk=>?_⟩,⟨by show yC w.L=0;rw[h0];rfl,fun k hk x hx=>?_,?_⟩,?_⟩
 ·show Jk (aJ w.H line _ k).1
  by_cases e2:k=line
  ·subst e2;rw[Ab.cP];exact h.M3 k hk
  ·rw[Ab.bK e2];exact h.M3 k hk
 ·have hx:x∈(aJ w.H line (eU.vJ (w.H line) line) k).1.waits:=hx
  by_cases e2:k=line
  ·subst e2
   rw[Ab.cP] at hx
   have hx:x∈(w.H k).1.waits++[iW k]:=hx
   rw[Uj ht hk,List.nil_append] at hx
   rw[List.mem_singleton.1 hx];rfl
  ·rw[Ab.bK e2,Uj ht hk] at hx;cases hx
 ·show Jg (aJ w.H line _ line).1
  rw[Ab.cP]
  exact .inl F2
 ·have h1:=yV (H:=w.H) (k:=line) (x:=eU.vJ (w.H line) line) hline
  have e3:(eU.vJ (w.H line) line).1.waits.length=(w.H line).1.waits.length+1:=by
   show((w.H line).1.waits++[_]).length=_
   grind
  have e4:yC w.L=0:=by rw[h0];rfl
  unfold Wd.work
  dsimp only
  omega
theorem WR.ends (h:WR C w) (hl4:C.lines=4) {line:Nat} (hline:line<4) (hp:OS C line w) (h0:w.L=[]) (ht:yL w.H=0):
  (∀i,i<4→(aG C.aD.toNat (w.X i).S line).2=12)∧(w.H line).2=w.V line∧(w.H line).1.busy=false:=by
 have hb:=h.idle h0 (l:=line) (by omega)
 have hc:Clean (w.H line).1:=by
  rcases hp.sw with(e|⟨x,hx,_⟩)|e
  ·grind
  ·rw[Uj ht hline] at hx;cases hx
  ·exact e
 have hI:=h.ok.xP.line line (by omega)
 obtain⟨a,b⟩:=hI.clean hc
 have hat:vW line w.L=[]:=by rw[h0];rfl
 refine⟨fun i hi=>?_,?_,hb⟩
 ·have h1:=a i hi
  unfold HH hs at h1
  have hst:(cls C w.X line i).st=0:=by
   grind
  change(aS C.aD.toNat (w.X i) line).st=0 at hst
  have hne:¬(aG C.aD.toNat (w.X i).S line).2=0:=fun e=>by
   rw[sQ,if_pos e] at hst
   have:=lK (h.ok.xP.kS i hi).aD e
   omega
  unfold aG at hne ⊢
  grind
 ·exact hI.c5 (fun i hi=>by rw[a i hi];decide) (fun x hx=>by grind)
end Go.Pc
end
section
namespace Go.Proofs.YthgemaaghgpncaaDoor
open Go Go.Ab Go.Hm Go.Ct Go.Pc
instance:Fx aF.enc 9:=⟨fun _=>rfl,fun _=>rfl⟩
abbrev Ny (a:Option Addr) (c:Nat) (l:List aF):HP:=ls aF.enc 9 77 a c l
abbrev Yu (a:Option Addr) (c:Nat) (l:List Nat):HP:=ls pE 1 43 a c l
abbrev oN (G:Bg) (Cf:bJ):Nat→Nat→eQ→HP:=fun i p s=>C.dX G p Cf i s
theorem uI {x n:Int} (h:0<n): -n<x.tmod n∧x.tmod n<n:=by
 rcases Int.le_total 0 x with h0|h0
 ·have:=Int.tmod_nonneg n h0
  have:=Int.tmod_lt_of_pos x h
  omega
 ·have h1:(-x).tmod n= -(x.tmod n):=Int.neg_tmod ..
  have:=Int.tmod_nonneg n (show 0≤ -x by omega)
  have:=Int.tmod_lt_of_pos (-x) h
  omega
theorem Ee {x n:Int} (h:0<n):(x.tmod n+n).tmod n=x % n:=by
 have:=(uI (x:=x) h).1
 rw[Int.tmod_eq_emod_of_nonneg (by omega),Int.add_emod_right]
 have e:=Int.mul_tdiv_add_tmod x n
 have e2:x.tmod n=x - n*x.tdiv n:=by omega
 rw[e2,Int.sub_mul_emod_self_left]
theorem ca {x:Int}:(x.tmod 2≠0)=(x % 2≠0):=by
 have h:x.tmod 2=0↔x % 2=0:=by
  rw[←Int.dvd_iff_tmod_eq_zero,←Int.dvd_iff_emod_eq_zero]
 exact propext (not_congr h)
section
variable {k:Value→Prop}
theorem Fc {a b c:Int} (hb:b≠0) (e:a.tmod b=c) (hk:k (I c)):aN (xJ .rem (I a) (I b)) k:=by subst e;exact pQ hb hk
theorem lE {a b c:Int} (h: -9223372036854775808≤a+b∧a+b≤9223372036854775807) (e:a+b=c) (hk:k (I c)):aN (xJ .add (I a) (I b)) k:=by subst e;exact cL h hk
theorem aj {a b:Int} (hk:k (.bool false)) {c0:Bool} (hc:c0=true:=by kernel_rfl):Wa c0 [0,0] .neq (.agg ⟨[I a,I b]⟩) (.agg ⟨[I a,I b]⟩) k:=⟨hc,_,by simp[S8,kW,Li,Jl],hk⟩
end
structure WN where
 hb:Nat
 lc:List Nat
 ac:Option Addr
 cc:Nat
 al:Option Addr
 cl:Nat
def wE (x:WN) (w:Wd):List Value:=[pt x.hb 0 0,.slice x.ac x.lc.length x.cc,.slice x.al w.L.length x.cl,I (w.V 0).1,I (w.V 0).2,I (w.V 1).1,I (w.V 1).2,I (w.V 2).1,I (w.V 2).2,I (w.V 3).1,I (w.V 3).2,.bool w.bad]
def wP (G:Bg) (Cf:bJ) (p:Nat) (w:Wd) (x:WN):List HP:=[Pd (x.lc.length=3),aO p 0 (wE x w),Yu x.ac x.cc x.lc,Jv (oN G Cf) x.lc w.X,H.eK G x.hb Cf w.H,Ny x.al x.cl w.L]
def wR (G:Bg) (Cf:bJ) (p:Nat) (w:Wd):HP:=Nm fun x:WN=>sp (wP G Cf p w x)
set_option maxRecDepth 100000
attribute [local irreducible] aN Br wO yS Jx F5 qD Hu rP Ua qH sH tP Aa Ax vU Hh xJ Wu Y3 Ta X6 Xa S7 S8 Wa Wo vA sI C4 jK copyV mJ uA Yn Xd He oB P6 Yr Ys sU Ai I5 H3 Cl Dm V2 Ak vZ nL mE bP bQ
variable {G:Bg} {h:AH} {L L':List HP} {Q:Value→AH→Prop} {Cf:bJ} {p:Nat} {w:Wd}
theorem gX (hs:Hs G h (wR G Cf p w::L)):∃x:WN,x.lc.length=3∧Hs G h (aO p 0 (wE x w)::Yu x.ac x.cc x.lc::Jv (oN G Cf) x.lc w.X::H.eK G x.hb Cf w.H::Ny x.al x.cl w.L::L):=by
 obtain⟨x,hs⟩:=hs.Pm
 obtain⟨hl,hs⟩:=Hs.ei hs.unpack
 exact⟨x,hl,hs⟩
theorem fE {x:WN} (w:Wd) (hl:x.lc.length=3) {L1 L2 L3 L4 L5:List HP} (hs:Hs G h L) [k1:fO (aO p 0 (wE x w)) L L1] [k2:fO (Yu x.ac x.cc x.lc) L1 L2] [k3:fO (Jv (oN G Cf) x.lc w.X) L2 L3] [k4:fO (H.eK G x.hb Cf w.H) L3 L4] [k5:fO (Ny x.al x.cl w.L) L4 L5]:Hs G h (wR G Cf p w::L5):=
 Hs.Pb (A:=fun x:WN=>sp (wP G Cf p w x)) x (Hs.pack (A:=wP G Cf p w x) (Hs.eg hl (hs.perm (k1.perm.trans ((k2.perm.trans ((k3.perm.trans ((k4.perm.trans ((k5.perm).cons _)).cons _)).cons _)).cons _)))))
theorem H0 {a:Option Addr} {c i:Nat} {l:List Nat} {k:Value→Prop} (hs:Hs G h L) [mm:Has (Yu a c) L l L'] (hi:i<l.length) (hk:k (pt (l.getD i 0) 0 0)):aN (vA 1 (.slice a l.length c) (I i)) fun p=>aN (wO h p) k:=
 bf (e:=43) (show Hs G h (Yu a c l::L') from mm.of hs) hi hk
theorem Eb {l:List Nat} {s:Nat→eQ} {i:Nat} {t:eQ} (hi:i<l.length) (hs:Hs G h L) [k:fO (C.dX G (l.getD i 0) Cf i t) L L'] {N:List HP} [k2:fO (Rj (oN G Cf) l s i) L' N]:Hs G h (Jv (oN G Cf) l (aJ s i t)::N):=Qx hi (hs.wU (C.dX G (l.getD i 0) Cf i t) (Rj (oN G Cf) l s i))
theorem gp {l a:Nat} (hl:l<4) (ha:a<2) {x:WN}:(wE x w)[3+l*2+a*1]?=some (I (Mc.Fv (w.V l) a)):=by
 have h1:l=0∨l=1∨l=2∨l=3:=by omega
 have h2:a=0∨a=1:=by omega
 rcases h1 with rfl|rfl|rfl|rfl<;>rcases h2 with rfl|rfl<;>rfl
theorem Zd {l a:Nat} {v:Int} (hl:l<4) (ha:a<2) {x:WN}:pJ (wE x w) (3+l*2+a*1) [I v]=wE x {w with V:=aJ w.V l (Hy (w.V l) a v)}:=by
 have h1:l=0∨l=1∨l=2∨l=3:=by omega
 have h2:a=0∨a=1:=by omega
 rcases h1 with rfl|rfl|rfl|rfl<;>rcases h2 with rfl|rfl<;>rfl
theorem Q9 {l:Nat} (hl:l<4) {x:WN}:((wE x w).drop (3+l*2)).take 2=[I (w.V l).1,I (w.V l).2]:=by
 have h1:l=0∨l=1∨l=2∨l=3:=by omega
 rcases h1 with rfl|rfl|rfl|rfl<;>rfl
def fZ (bits w l:Int):Int×Bool:=
 ((wr (l.tmod 5+5)).tmod 5,if 0≤w then(if w<5 then(if 0≤l then(if l<12 then decide ((bits.fdiv (2^(min (12*w+l).toNat 64))).tmod 2=1) else false) else false) else false) else false)
theorem Ey {bits w l:Int} (hs:Hs G h L) (hk:∀h',Hs G h' L→Q (.tuple ⟨[I (fZ bits w l).1,.bool (fZ bits w l).2]⟩) h'):Cl Pr K 24 [.agg ⟨[I bits]⟩,I w,I l] h Q:=by
 unfold fZ at hk
 refine cW (iA hs fun p h hs=>aZ hs fun rv h hs=>?_)
 have hk:=hk h hs.tail.tail
 refine pQ (by decide) (K3 (pQ (by decide) (lI (bE (fun h1=>bC (bE (fun h2=>lI (bE (fun h3=>bC (bE (fun h4=>?_) (fun h4=>?_))) (fun h3=>?_))) (fun h2=>?_))) (fun h1=>?_)))))
 ·simp only[if_pos h1,if_pos h2,if_pos h3,if_pos h4] at hk
  exact aA (aE hs rfl (Ry (by omega) (cL (by omega) (av (by omega) (pQ (by decide) (bH hk))))))
 ·simp only[if_pos h1,if_pos h2,if_pos h3,if_neg h4] at hk;exact hk
 ·simp only[if_pos h1,if_pos h2,if_neg h3] at hk;exact hk
 ·simp only[if_pos h1,if_neg h2] at hk;exact hk
 ·simp only[if_neg h1] at hk;exact hk
theorem Xv {bits:Int}:H.Kb G (Pd True) (.iface 25 (.agg ⟨[I bits]⟩)) (fZ bits) where
 ne:=fun k hk=>J5 (by unfold S7;rfl) hk
 may:=fun h L M w l Q _ hs hk=>Xs (g:=24) (bs:=[.agg ⟨[I bits]⟩,I w,I l]) rfl (Ey hs fun h hs=>⟨rfl,hk h hs⟩)
theorem qV {x:Int} (h0:0≤x∧x≤4) (hk:Q (.bool true) h):Cl Pr K 54 [I x] h Q:=
 cW (lI (cM (by omega) (bC (by rw[decide_eq_true (show x<5 by omega)];exact hk))))
theorem Gw {a b:Int} (hs:Hs G h L) (hk:∀h',Hs G h' L→Q (.agg ⟨(eO a b).enc⟩) h'):Cl Pr K 18 [I a,I b] h Q:=by
 refine cW (gP hs fun p h hs=>aR (c:=(eO a b).enc) rfl (dR hs rfl rfl rfl rfl fun h hs=>?_))
 exact aP hs (by decide) (l:=(eO a b).enc) rfl rfl (hk h hs.tail)
end Go.Proofs.YthgemaaghgpncaaDoor
end
section
open Go Go.Ab
attribute [local irreducible] aN Br wO yS Jx F5 qD Hu rP Ua qH sH tP Aa Ax vU Hh xJ Wu Y3 Ta X6 Xa S7 S8 Wa Wo vA sI C4 jK copyV mJ uA Yn Xd He oB P6 Yr Ys sU Ai I5 H3 Cl Dm V2 Ak vZ nL mE bP bQ
section
namespace Go.Proofs.YthgemaaghgpncaaDoor.C
open Go Go.Ab Go.Hm Go.Ct
def N0 (l:List Int):Bool:=l.all Oj&&decide (l.countP jG≤1)&&(decide (l.countP iU=0)||decide (l.countP mT=1))
theorem Xn {α:Type} {l:List α} {i:Nat} (h:i<l.length):∃x,l[i]?=some x∧l.drop i=x::l.drop (i+1):=⟨l[i],by simp,List.drop_eq_getElem_cons h⟩
set_option maxRecDepth 100000
variable {G:Bg} {h:AH} {L L' M:List HP} {Q:Value→AH→Prop}
theorem Sm {l:List Int} {e:TypeId} {a:Option Addr} {c:Nat} {v5:Value} {V W' O N:Nat} (h5:v5=I l.length) (ho:Ob G 1 cK) (hl:l.length≤2^41) (hs:Hs G h (dP 1 e a c (l.length,l.map I)::L))
  (hq:Q (.bool (decide (N=0)&&decide (O≤1)&&(decide (W'=0)||decide (V=1)))) h):∀(f i v s w n:Nat),i+f=l.length→v+(l.drop i).countP mT=V→s+(l.drop i).countP jG=O→w+(l.drop i).countP iU=W'→n+(l.drop i).countP (fun x=> !Oj x)=N→
  V≤2^41→O≤2^41→W'≤2^41→N≤2^41→Dd 28 1 [] Q [(I v),(I s),(I w),(I n),(.slice a l.length c),v5,(I i)] h:=by
 subst h5
 intro f
 induction f with
 |zero=>
  intro i v s w n hi h1 h2 h3 h4 _ _ _ _
  rw[List.drop_of_length_le (by omega)] at h1 h2 h3 h4
  simp only[List.countP_nil,Nat.add_zero] at h1 h2 h3 h4
  subst h1 h2 h3 h4
  refine bW (bC (aY (by omega) (bH (bE (fun e1=>bz (bE (fun e2=>bH (bE (fun e3=>?_) (fun e3=>bH ?_))) (fun e2=>?_))) (fun e1=>?_)))))
  ·rw[decide_eq_true (show n=0 by omega),decide_eq_true (show s≤1 by omega),decide_eq_true (show w=0 by omega)] at hq
   exact hq
  ·rw[decide_eq_true (show n=0 by omega),decide_eq_true (show s≤1 by omega),decide_eq_false (show ¬w=0 by omega)] at hq
   rw[show decide ((v:Int)=1)=decide (v=1) from decide_eq_decide.2 (by omega)]
   exact hq
  ·rw[decide_eq_false (show ¬s≤1 by omega)] at hq
   have hq:Q (.bool false) h:=by simpa using hq
   exact hq
  ·rw[decide_eq_false (show ¬n=0 by omega)] at hq
   have hq:Q (.bool false) h:=by simpa using hq
   exact hq
 |succ f ih=>
  intro i v s w n hi h1 h2 h3 h4 b1 b2 b3 b4
  obtain⟨x,hx,hd⟩:=Xn (l:=l) (i:=i) (by omega)
  rw[hd,List.countP_cons] at h1 h2 h3 h4
  refine bW (bC (cM (by omega) (bW ?_)))
  obtain⟨b,o,rfl,H,hs2,_⟩:=hs.nC (by omega)
  refine dW (by omega) (Sw hs2 (v:=I x) (by simp[hx]) (qV (dY (gU (cS (fun c1=>bW (Nn ?_)) (fun c1=>bW ?_))))))
  ·have h4':n+(l.drop (i+1)).countP (fun x=> !Oj x)=N:=by rw[c1] at h4;simpa using h4
   have fin9:∀v' s':Nat,v'+(l.drop (i+1)).countP mT=V→s'+(l.drop (i+1)).countP jG=O→iU x=true→Dd 28 9 [] Q [(I v'),(I s'),(I w),(I n),(.slice (some ⟨b,o,none⟩) l.length c),(I l.length),(I i)] h:=fun v' s' k1 k2 k3=>by
    rw[k3,if_pos rfl] at h3
    exact bW (cL (by omega) (cL (by omega) (ih (i+1) v' s' (w+1) n (by omega) k1 k2 (by omega) h4' b1 b2 b3 b4)))
   have fin10:∀v' s':Nat,v'+(l.drop (i+1)).countP mT=V→s'+(l.drop (i+1)).countP jG=O→iU x=false→Dd 28 10 [] Q [(I v'),(I s'),(I w),(I n),(.slice (some ⟨b,o,none⟩) l.length c),(I l.length),(I i)] h:=fun v' s' k1 k2 k3=>by
    rw[k3,if_neg (by decide)] at h3
    exact bW (cL (by omega) (ih (i+1) v' s' w n (by omega) k1 k2 (by omega) h4' b1 b2 b3 b4))
   have own7:∀v':Nat,v'+(l.drop (i+1)).countP mT=V→jG x=true→Dd 28 7 [] Q [(I v'),(I s),(I w),(I n),(I x),(.slice (some ⟨b,o,none⟩) l.length c),(I l.length),(I i)] h:=fun v' k1 k2=>by
    rw[k2,if_pos rfl] at h2
    exact bW (cL (by omega) (vQ ho hs (cS (fin9 v' (s+1) k1 (by omega)) (fin10 v' (s+1) k1 (by omega)))))
   have own8:∀v':Nat,v'+(l.drop (i+1)).countP mT=V→jG x=false→Dd 28 8 [] Q [(I v'),(I s),(I w),(I n),(I x),(.slice (some ⟨b,o,none⟩) l.length c),(I l.length),(I i)] h:=fun v' k1 k2=>by
    rw[k2,if_neg (by decide)] at h2
    exact bW (vQ ho hs (cS (fin9 v' s k1 (by omega)) (fin10 v' s k1 (by omega))))
   refine cS (fun k=>bW ?_) (fun k=>bW ?_)
   ·rw[k,if_pos rfl] at h1
    exact cL (by omega) (uY ho hs (cS (own7 (v+1) (by omega)) (own8 (v+1) (by omega))))
   ·rw[k,if_neg (by decide)] at h1
    exact uY ho hs (cS (own7 v (by omega)) (own8 v (by omega)))
  ·obtain⟨z1,z2,_,z4⟩:=xD c1
   rw[z1,if_neg (by decide)] at h1
   rw[z4,if_neg (by decide)] at h2
   rw[z2,if_neg (by decide)] at h3
   rw[c1] at h4
   exact cL (by omega) (cL (by omega) (ih (i+1) v s w (n+1) (by omega) (by omega) (by omega) (by omega) (by simp at h4;omega) b1 b2 b3 b4))
theorem Wr {l:List Int} {e:TypeId} {a:Option Addr} {c:Nat} (ho:Ob G 1 cK) (hl:l.length≤2^41) (hs:Hs G h L) [m:Has (dP 1 e a c) L (l.length,l.map I) L'] (hk:Q (.bool (N0 l)) h):Cl Pr K 28 [.slice a l.length c] h Q:=by
 refine cW (eV ?_)
 have e1:N0 l=(decide (l.countP (fun x=> !Oj x)=0)&&decide (l.countP jG≤1)&&(decide (l.countP iU=0)||decide (l.countP mT=1))):=by
  unfold N0
  congr 2
  rw[Bool.eq_iff_iff,List.all_eq_true,decide_eq_true_eq,List.countP_eq_zero]
  simp
 rw[e1] at hk
 have b:∀p:Int→Bool,l.countP p≤2^41:=fun p=>Nat.le_trans List.countP_le_length hl
 exact Sm rfl ho hl (m.of hs) hk l.length 0 0 0 0 0 (by omega) (by simp) (by simp) (by simp) (by simp) (b _) (b _) (b _) (b _)
theorem Uv {C:bJ} {core:Int} {c:Nat} {s:eQ} (hC:C.Ok) (hb:Bd s) {l at' ow:Int} (h1:¬eZ C s.S l at' ow false=0) (hl:Ob G 0 eJ) (ho:Ob G 1 cK) (hs:Hs G h L) [m:Has (dX G c C core) L s L'] (hk:∀h',Hs G h' (dX G c C core s::L')→Q (.tuple ⟨[I 0,I (eZ C s.S l at' ow false)]⟩) h'):Cl Pr K 27 [pt c 0 0,I l,I at',I ow] h Q:=
 cW (nZ (c:=c) (core:=core) (s:=s) hC hb hl ho (m.of hs) fun _ hs=>bL (cM h1 (hk _ hs)))
theorem S2 {C:bJ} {core:Int} {c:Nat} {s:eQ} (hC:C.Ok) (hb:Bd s) {l at' ow v:Int} (h1:¬eZ C s.S l at' ow true=0) (hl:Ob G 0 eJ) (ho:Ob G 1 cK) (hs:Hs G h L) [m:Has (dX G c C core) L s L'] (hk:∀h',Hs G h' (dX G c C core s::L')→Q (I (eZ C s.S l at' ow true)) h'):Cl Pr K 21 [pt c 0 0,I l,I at',I ow,I v] h Q:=
 cW (nZ (c:=c) (core:=core) (s:=s) hC hb hl ho (m.of hs) fun _ hs=>bL (cM h1 (hk _ hs)))
end Go.Proofs.YthgemaaghgpncaaDoor.C
end
section
namespace Go.Proofs.YthgemaaghgpncaaDoor.H
open Go Go.Ab Go.Hm Go.Mc
set_option maxRecDepth 100000
variable {G:Bg} {h:AH} {L L':List HP} {Q:Value→AH→Prop}
theorem X8 {α:Type} {l:List α} {i:Nat} (h:i<l.length):∃x,l[i]?=some x∧l.drop i=x::l.drop (i+1):=⟨l[i],by simp,List.drop_eq_getElem_cons h⟩
def Co (l:List aF):Int:=((l.filter fun n=>decide (n.kind=0)).length:Int)
theorem Qo {l:List aF} {i:Nat} {n:aF} (h:l[i]?=some n):Co (l.take (i+1))=Co (l.take i)+if n.kind=0 then 1 else 0:=by
 unfold Co
 rw[List.take_add_one,h]
 simp only[Option.toList_some,List.filter_append,List.filter_cons,List.filter_nil]
 split<;>simp_all
theorem rK {a:Option Addr} {c:Nat} {l:List aF} {k:Int} (hb:l.length≤2^30) (hk2:0≤k∧k≤1) (hk:∀h',Hs G h' (Ny a c l::L)→Q (I (k+Co l)) h'):
  ∀(f i:Nat) (h:AH),i+f=l.length→Hs G h (Ny a c l::L)→Dd 26 4 [] Q [(I (k+Co (l.take i))),(.slice a l.length c),(I l.length),(I i)] h:=by
 intro f
 induction f with
 |zero=>
  intro i h hi hs
  rw[List.take_of_length_le (by omega)]
  exact bW (bC (aY (by omega) (hk _ hs)))
 |succ f ih=>
  intro i h hi hs
  obtain⟨n,hn,hd⟩:=X8 (l:=l) (i:=i) (by omega)
  have hb2:Co (l.take i)≤2^30∧0≤Co (l.take i):=by
   unfold Co
   have:=List.length_filter_le (fun n:aF=>decide (n.kind=0)) (l.take i)
   have:=List.length_take_le i l
   omega
  have hc:=Qo hn
  refine bW (bC (cM (by omega) (bW (V9 (l:=l) (a:=a) (c:=c) (enc:=aF.enc) (e:=77) hs (by decide) (by omega) (by rw[Int.toNat_natCast];exact hn) (gP hs fun p3 h hs=>dR (b:=p3) hs rfl rfl rfl rfl fun h hs=>aA (aE (b:=p3) (o:=0) hs rfl (bH (bE (fun h1=>?_) (fun h1=>?_)))))))))
  ·rw[if_pos h1] at hc
   refine bW (cL (by omega) (cL (by omega) ?_))
   have:=ih (i+1) h (by omega) hs.to
   rw[hc] at this
   rw[show k+Co (l.take i)+1=k+(Co (l.take i)+1) by omega]
   exact this
  ·rw[if_neg h1] at hc
   refine bW (cL (by omega) ?_)
   have:=ih (i+1) h (by omega) hs.to
   rw[hc,Int.add_zero] at this
   exact this
theorem Ff {C:bJ} {H:iQ} {hb:Nat} {x:Int} (hi:Jy C H (2^30)) (hs:Hs G h L) [mm:Has (eK G hb C) L H L'] (hk:∀h',Hs G h' (eK G hb C H::L')→Q (I (nT C H x)) h'):Cl Pr K 26 [pt hb 0 0,I x] h Q:=by
 have hs:=mm.of hs
 unfold nT at hk
 by_cases hx:C.has x
 rotate_left
 ·rw[if_neg hx] at hk
  obtain⟨mb,b,o,cap,hs⟩:=kY hs
  refine cW (mC hs (dY (gU (aY hx (hk _ (pP C H hb mb b o cap hs).to)))))
 rw[if_pos hx] at hk
 obtain⟨l,rfl⟩:=Int.eq_ofNat_of_zero_le hx.1
 have hl:l<C.lines:=by have:=hx.2;omega
 rw[Int.toNat_natCast] at hk
 obtain⟨mb,b,o,cap,hs⟩:=uD hl hs
 obtain⟨a,c,hs⟩:=bU hs
 have hwl:=(hi l hl).2
 have hs:Hs G h (aO b (o+l*25) ((H l).1.enc a c)::Ny a c (H l).1.waits::aO hb 0 (mH mb C b o cap)::iI G C.lines mb C (fun i=>(H i).2)::hole G 25 90 (some ⟨b,o,none⟩) cap C.lines b o::rA b o C.lines H l::L'):=hs
 have shut:∀{h:AH},Hs G h (Ny a c (H l).1.waits::aO b (o+l*25) ((H l).1.enc a c)::aO hb 0 (mH mb C b o cap)::iI G C.lines mb C (fun i=>(H i).2)::hole G 25 90 (some ⟨b,o,none⟩) cap C.lines b o::rA b o C.lines H l::L')→Hs G h (eK G hb C H::L'):=by
  intro h hs
  have hs:=iV (H l).1 (a:=a) (c:=c) hs.tE
  have hs:=cN hb C H l (H l).1 (H l).2 _ mb b o cap hl cU.symm hs
  have e:aJ H l ((H l).1,(H l).2)=H:=by funext j;unfold aJ;split<;>simp_all
  rw[e] at hs
  exact hs
 refine cW (mC hs (dY (gU (cM hx (bW (aC (aA (aE (b:=hb) (o:=0) hs rfl (dW hl (aC (aA (aE (b:=b) (o:=o+l*25) hs rfl (cS (fun h1=>?_) (fun h1=>?_))))))))))))))
 ·refine aC (aA (aA (aE (b:=b) (o:=o+l*25) hs rfl (bH (bE (fun h2=>?_) (fun h2=>?_))))))
  ·refine bW (cL (by omega) (aC (aA (aE (b:=b) (o:=o+l*25) hs rfl (eV ?_)))))
   refine rK (a:=a) (c:=c) (l:=(H l).1.waits) (k:=1) hwl (by omega) (fun h hs=>?_) (H l).1.waits.length 0 h (by omega) hs.tE
   have:=hk h (shut hs)
   unfold Row.tA at this
   rw[if_pos ⟨h1,h2⟩] at this
   exact this
  ·refine bW (aC (aA (aE (b:=b) (o:=o+l*25) hs rfl (eV ?_))))
   refine rK (a:=a) (c:=c) (l:=(H l).1.waits) (k:=0) hwl (by omega) (fun h hs=>?_) (H l).1.waits.length 0 h (by omega) hs.tE
   have:=hk h (shut hs)
   unfold Row.tA at this
   rw[if_neg (fun hh=>h2 hh.2)] at this
   exact this
 ·refine aC (aA (aE (b:=b) (o:=o+l*25) hs rfl (eV ?_)))
  refine rK (a:=a) (c:=c) (l:=(H l).1.waits) (k:=0) hwl (by omega) (fun h hs=>?_) (H l).1.waits.length 0 h (by omega) hs.tE
  have:=hk h (shut hs)
  unfold Row.tA at this
  rw[if_neg (fun hh=>by rw[h1] at hh;cases hh.1)] at this
  exact this
end Go.Proofs.YthgemaaghgpncaaDoor.H
end
section
namespace Go.Proofs.YthgemaaghgpncaaDoor
open Go Go.Ab Go.Hm Go.Ct Go.Pc
theorem Ed:∀{l:List aF},l.length≤tC l
 |[]=>Nat.zero_le _
 |a::l=>by
  rw[uH,List.length_cons]
  have:=E0 (n:=a)
  have:=Ed (l:=l)
  omega
structure WT (Cf:bJ) (N:Nat) (w:Wd):Prop where
 ok:Cf.Ok
 c3:Cf.bT=3
 l4:Cf.lines=4
 wr:WR Cf w
 wk:w.work≤N
variable {Cf:bJ} {w:Wd} {N:Nat}
theorem WT.Y6 (h:WT Cf N w):w.L.length≤96:=Nat.le_trans Ed (h.wr.Y6 h.c3 h.l4)
theorem W5 {H:iQ} {l:Nat} (hl:l<4):(H l).1.waits.length≤yL H:=by
 unfold yL
 have:l=0∨l=1∨l=2∨l=3:=by omega
 rcases this with rfl|rfl|rfl|rfl<;>omega
theorem WT.home (h:WT Cf N w) {K:Nat} (hN:N≤K):Jy Cf w.H K:=fun l hl=>by
 refine⟨(h.wr.ok.xP.line l hl).row.inv,?_⟩
 have h1:=W5 (H:=w.H) (l:=l) (by have:=h.l4;omega)
 have h2:=h.wk
 unfold Wd.work at h2
 omega
theorem WT.kS (h:WT Cf N w) {i:Nat} (hi:i<3):iF Cf (w.X i):=h.wr.ok.xP.kS i (by omega)
set_option maxRecDepth 100000
variable {G:Bg} {h:AH} {L L':List HP} {Q:Value→AH→Prop} {p:Nat}
theorem Vj {n:aF} {p9 i:Nat} (hlim:Ob G 0 eJ) (hrow:Ob G 1 cK) (hC:Cf.Ok) (hg:iF Cf (w.X i)) (hi:i<3) (hn:n.core=(i:Int)) (hL:w.L.length≤1000) (hb:w.bad=false) (hs:Hs G h (aO p9 0 n.enc::wR G Cf p w::L))
  (hk:∀v h',Hs G h' (wR G Cf p {w with X:=aJ w.X i (dO Cf i (w.X i) n).1,L:=w.L++(dO Cf i (w.X i) n).2.1,bad:=decide ((dO Cf i (w.X i) n).2.2≠0)}::L)→Q v h'):Dd 9 3 [] Q [(pt p 0 0),(pt p9 0 0)] h:=by
 obtain⟨x,hl,hs⟩:=gX hs.tE
 have hic:i<x.lc.length:=by omega
 refine bW (aZ hs fun rv h hs=>aC (aA (aE (b:=p) (o:=0) hs rfl (aA (aE (b:=p9) (o:=0) hs (v:=I n.core) rfl ?_)))))
 rw[hn]
 refine H0 hs hic (aP (b:=p9) (o:=0) hs (by decide) (l:=n.enc) rfl rfl ?_)
 have hs:=pC (R:=oN G Cf) (l:=x.lc) (s:=w.X) hic hs
 refine C.Ga (C:=Cf) (core:=i) (c:=x.lc.getD i 0) (s:=w.X i) (n:=n) hC (hg.bd (gO hC).2.2.2) hg.Jm hlim hrow hs fun a c h hs=>aL rfl (aL rfl ?_)
 have ho:=Rz (C:=Cf) (core:=(i:Int)) (s:=w.X i) (nt:=n)
 generalize dO Cf i (w.X i) n=r at hs hk ho
 have hs:Hs G h (Ny a c r.2.1::_):=hs
 have hs:=Eb (Cf:=Cf) (l:=x.lc) (s:=w.X) (i:=i) (t:=r.1) hic hs
 refine aC (aA (aE (b:=p) (o:=0) hs rfl ?_))
 refine pD (enc:=aF.enc) (W:=9) (e:=77) (l:=w.L) (l2:=r.2.1) (a:=x.al) (c:=x.cl) (a2:=a) (c2:=c) hs (by omega) fun a' c' h hs=>?_
 refine aC (aA (bM (b:=p) (o:=0) hs rfl rfl rfl rfl fun h hs=>aC (aA (aE (b:=p) (o:=0) hs (v:= .bool w.bad) rfl ?_))))
 refine cS (fun e=>by rw[hb] at e;cases e) (fun _=>bL (aC (aA (bM (b:=p) (o:=0) hs rfl rfl rfl rfl fun h hs=>?_))))
 have hs:=hs.sg (b:=p) (o:=0) (c:=wE {x with al:=a',cl:=c'} {w with X:=aJ w.X i r.1,L:=w.L++r.2.1,bad:=decide (r.2.2≠0)}) rfl
 have hs:=fE (Cf:=Cf) (p:=p) (x:={x with al:=a',cl:=c'}) {w with X:=aJ w.X i r.1,L:=w.L++r.2.1,bad:=decide (r.2.2≠0)} hl hs
 exact hk _ _ hs.to
theorem I9 {a:Int} (hlim:Ob G 0 eJ) (hrow:Ob G 1 cK) (hw:WT Cf N w) (hN:N≤2^29) (hs:Hs G h L) [mm:Has (wR G Cf p) L w L']
  (hk:∀v h',Hs G h' (wR G Cf p (w.comes Cf a)::L')→Q v h'):Cl Pr K 9 [pt p 0 0,I a] h Q:=by
 obtain⟨x,hl,hs⟩:=gX (mm.of hs)
 have hfew:=hw.Y6
 refine cW (aC (aA (aE (b:=p) (o:=0) hs rfl (eV (bH (bE (fun h1=>?_) (fun h1=>?_)))))))
 ·have e:w.comes Cf a=w:=by unfold Wd.comes;rw[if_pos (List.eq_nil_of_length_eq_zero (by omega))]
  rw[e] at hk
  have hs:=fE (Cf:=Cf) (p:=p) (x:=x) w hl hs
  exact hk _ _ hs.to
 have hne:w.L≠[]:=fun e=>by rw[e] at h1;exact h1 rfl
 have hpos:0<w.L.length:=List.length_pos_iff.2 hne
 have e1:=Int.emod_nonneg a (b:=(w.L.length:Int)) (by omega)
 have e2:=Int.emod_lt_of_pos a (b:=(w.L.length:Int)) (by omega)
 obtain⟨i,hi⟩:=Int.eq_ofNat_of_zero_le e1
 have hil:i<w.L.length:=by omega
 have hx:w.L[i]?=some (w.L.getD i aF.zero):=by rw[List.getD_eq_getElem?_getD,List.getElem?_eq_getElem hil];rfl
 have hk:∀v h',Hs G h' (wR G Cf p (w.one Cf i)::L')→Q v h':=fun v h' hs=>by
  refine hk v h' ?_
  unfold Wd.comes
  rw[if_neg hne,hi,Int.toNat_natCast]
  exact hs
 have hmem:w.L.getD i aF.zero∈w.L:=List.mem_of_getElem? hx
 have hpk:=hw.wr.ok.pk _ hmem
 have hnb:=hw.wr.ok.xP.nb _ hmem hpk
 have hb:=hw.wr.ok.bad
 unfold PK at hpk
 unfold Wd.one at hk
 simp only[hb,Bool.false_or] at hk
 generalize w.L.getD i aF.zero=n at hx hk hpk hnb
 obtain⟨b1,b2⟩:=uI (x:=a) (n:=(w.L.length:Int)) (by omega)
 refine bW (pQ (by omega) (cL (by omega) (Fc (c:=(i:Int)) (by omega) (by rw[Ee (by omega),hi]) ?_)))
 refine aC (aA (aE (b:=p) (o:=0) hs rfl (V9 (l:=w.L) (a:=x.al) (c:=x.cl) (enc:=aF.enc) (e:=77) hs (by decide) (by omega) (by rw[Int.toNat_natCast];exact hx) (gP hs fun p9 h hs=>dR (b:=p9) hs rfl rfl rfl rfl fun h hs=>?_))))
 refine aC (aA (aE (b:=p) (o:=0) hs rfl ?_))
 have hs:=F9 (enc:=aF.enc) (W:=9) (e:=77) hs
 refine Tw (enc:=aF.enc) (W:=9) (e:=77) (l:=w.L) (l2:=[]) (a:=x.al) (c:=x.cl) (a2:=none) (c2:=0) hs (by decide) hil (by simp;omega) fun a' c' h hs=>?_
 have hs:Hs G h (Ny a' c' (w.L.take i)::_):=hs
 refine aC (aA (aE (b:=p) (o:=0) hs rfl (lE (c:=((i+1:Nat):Int)) (by omega) (by omega) ?_)))
 refine N6 (enc:=aF.enc) (W:=9) (e:=77) (l:=w.L) (l2:=w.L.take i) (a:=x.al) (c:=x.cl) (a2:=a') (c2:=c') hs (by decide) hpos (by omega) (by simp;omega) fun a3 c3 h hs=>?_
 refine aC (aA (bM (b:=p) (o:=0) hs rfl rfl rfl rfl fun h hs=>?_))
 have hs:=hs.sg (b:=p) (o:=0) (c:=wE {x with al:=a3,cl:=c3} {w with L:=w.L.take i++w.L.drop (i+1)}) rfl
 have hs:=fE (Cf:=Cf) (p:=p) (x:={x with al:=a3,cl:=c3}) {w with L:=w.L.take i++w.L.drop (i+1)} hl hs
 have hlen:({w with L:=w.L.take i++w.L.drop (i+1)}:Wd).L.length≤1000:=by simp;omega
 by_cases ht:fK n.kind
 ·rw[if_pos ht] at hk
  have ho:(bY Cf w.H n).2.1.length≤4:=by
   have h1:=I3 (C:=Cf) (H:=w.H) (n:=n) ht
   have h2:=Ed (l:=(bY Cf w.H n).2.1)
   have h3:wt n≤4:=by unfold wt;grind
   omega
  have hi:=hw.home (K:=2^30 - 1) (by omega)
  unfold fK at ht
  refine aA (aE (b:=p9) (o:=0) hs (v:=I n.kind) rfl (bH (bE (fun h0=>?_) (fun h0=>?_))))
  rotate_left
  refine aA (aE (b:=p9) (o:=0) hs (v:=I n.kind) rfl (bH (bE (fun h0=>?_) (fun h0=>?_))))
  rotate_left
  refine aA (aE (b:=p9) (o:=0) hs (v:=I n.kind) rfl (bH (bE (fun h0=>?_) (fun h0=>?_))))
  rotate_left
  refine aA (aE (b:=p9) (o:=0) hs (v:=I n.kind) rfl (bH (bE (fun h0=>?_) (fun h0=>?_))))
  rotate_left
  refine aA (aE (b:=p9) (o:=0) hs (v:=I n.kind) rfl (bH (cM (by omega) (bW ?_))))
  all_goals
   obtain⟨x,hl,hs⟩:=gX (hs.front (wR G Cf p {w with L:=w.L.take i++w.L.drop (i+1)}))
   refine aZ hs fun rv h hs=>aC (aA (aE (b:=p) (o:=0) hs rfl (aP (b:=p9) (o:=0) hs (by decide) (l:=n.enc) rfl rfl ?_)))
   refine H.Ga (C:=Cf) (H:=w.H) (n:=n) hw.ok hlim hi hs fun v h hs=>aL rfl (aL rfl ?_)
   generalize bY Cf w.H n=r at hs hk ho
   obtain⟨a,c,hv,hs2⟩:=H.Qk hs
   subst hv
   have hs:Hs G h (Ny a c r.2.1::_):=hs2
   refine aC (aA (aE (b:=p) (o:=0) hs rfl ?_))
   refine pD (enc:=aF.enc) (W:=9) (e:=77) (l:=w.L.take i++w.L.drop (i+1)) (l2:=r.2.1) (a:=x.al) (c:=x.cl) (a2:=a) (c2:=c) hs (by dsimp only at hlen;omega) fun a' c' h hs=>?_
   refine aC (aA (bM (b:=p) (o:=0) hs rfl rfl rfl rfl fun h hs=>aC (aA (aE (b:=p) (o:=0) hs (v:= .bool w.bad) rfl ?_))))
   refine cS (fun e=>by rw[hb] at e;cases e) (fun _=>bL (aC (aA (bM (b:=p) (o:=0) hs rfl rfl rfl rfl fun h hs=>?_))))
   have hs:=hs.sg (b:=p) (o:=0) (c:=wE {x with al:=a',cl:=c'} {w with H:=r.1,L:=w.L.take i++w.L.drop (i+1)++r.2.1,bad:=decide (r.2.2≠0)}) rfl
   have hs:=fE (Cf:=Cf) (p:=p) (x:={x with al:=a',cl:=c'}) {w with H:=r.1,L:=w.L.take i++w.L.drop (i+1)++r.2.1,bad:=decide (r.2.2≠0)} hl hs
   exact hk _ _ hs.to
 ·obtain⟨k,hkc⟩:=Int.eq_ofNat_of_zero_le hnb.1.1
  have hc3:=hw.c3
  rw[if_neg ht,hkc,Int.toNat_natCast] at hk
  unfold fK at ht
  refine aA (aE (b:=p9) (o:=0) hs (v:=I n.kind) rfl (bH (aY (by omega) ?_)))
  refine aA (aE (b:=p9) (o:=0) hs (v:=I n.kind) rfl (bH (aY (by omega) ?_)))
  refine aA (aE (b:=p9) (o:=0) hs (v:=I n.kind) rfl (bH (aY (by omega) ?_)))
  refine aA (aE (b:=p9) (o:=0) hs (v:=I n.kind) rfl (bH (aY (by omega) ?_)))
  refine aA (aE (b:=p9) (o:=0) hs (v:=I n.kind) rfl (bH (aY (by omega) ?_)))
  exact Vj (n:=n) (i:=k) (w:={w with L:=w.L.take i++w.L.drop (i+1)}) (L:=L') hlim hrow hw.ok (hw.kS (by omega)) (by omega) hkc hlen hb hs.to fun v h hs=>hk v h hs
end Go.Proofs.YthgemaaghgpncaaDoor
end
end
