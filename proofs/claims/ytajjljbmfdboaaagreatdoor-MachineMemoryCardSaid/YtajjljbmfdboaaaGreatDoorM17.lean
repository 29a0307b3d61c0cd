/- A part of the proof. -/
import Derived.Test.YtajjljbmfdboaaaGreatDoorM16
import Derived.Test.YtajjljbmfdboaaaGreatDoorM15
namespace Go.Mc
open Go Go.Ab Go.Hm Go.At Go.Is Go.Ct Go.Nt
section
variable {C:bM} {K:Nat->kO} {m:Mon} {N N':List aJ} {n:aJ}
theorem Ga {i:Nat} (h:n.core=(i:Int)):n.core.toNat=i:=by omega
theorem iP.walk {i:Nat} {g:Int} (h:iP C K m N) (F:(i:Int)<C.aE) (t:((K i).begin C g).2.2=0):
  iP C (aR K i ((K i).begin C g).1) m (dL 6 i ((K i).begin C g).2.1::N):=by
 unfold kO.begin at t ⊢
 by_cases z:0<=g/\g<C.aS
 rotate_left
 .rw[aLb z] at t;cases t
 rw[aLa (fun e=>e z)] at t ⊢
 by_cases k:(kE (K i).known g).isSome=true
 .grind
 rw[aLa k] at t ⊢
 by_cases y:(K i).lA=true
 .grind
 rw[aLa y] at t ⊢
 dsimp only
 have y:(K i).lA=false:=by simpa using y
 have u:=h.cw i F
 rw[y] at u
 have v:∀x∈N,x.kind=6\/x.kind=12->x.core.toNat≠i:=fun x f k e=>by
  have P:=(h.nb x f (by unfold KK;omega)).1;have:=Zw (i:=i) f (by omega) k;grind
 have I:∀H w,jF N H w->jF (dL 6 i (g/4)::N) H w:=fun i g O=>Hd O fun x f _=>List.mem_cons_of_mem _ f
 have q:aR K i ((K i).start g) i=(K i).start g:=dC
 have s:∀{j:Nat},j≠i->aR K i ((K i).start g) j=K j:=fun e=>cH e
 have p:(dL 6 (i:Int) (g/4)).core.toNat=i:=Int.toNat_natCast i
 constructor
 case cw=>
  intro j o
  rw[pC]
  by_cases e:j=i
  .subst e;rw[q,u,aLb ⟨rfl,.inl rfl⟩];rfl
  .rw[s e,aLa (fun D=>e (by grind))];exact h.cw j o
 case no=>
  intro x f k
  rcases List.mem_cons.1 f with rfl|f
  .rw[p,q];rfl
  .rw[s (v x f k)];exact h.no x f k
 case pl=>
  intro j o
  by_cases e:j=i
  .subst e;rw[q];exact fun _=> .inl rfl
  .rw[s e];exact h.pl j o
 case word=>
  intro x f k
  rcases List.mem_cons.1 f with rfl|f
  .exact absurd (show(6:Int)=12 from k) (by decide)
  .rw[s (v x f (.inr k))];have:=h.word x f k;exact⟨this.1,fun a b c=>⟨(this.2 a b c).1,fun d=>I _ _ ((this.2 a b c).2 d)⟩⟩
 case known=>
  intro j o x f
  have f:x∈(K j).known:=by
   by_cases e:j=i;subst e;rw[q] at f;exact f;grind
  have:=h.known j o x f
  grind
 case nd=>
  intro j o
  by_cases e:j=i
  .subst e;rw[q];refine⟨(h.nd j o).1,fun _ J=>k ?_⟩;obtain⟨x,f,B⟩:=List.mem_map.1 J;unfold kE;rw[Option.isSome_map,List.find?_isSome];exact⟨x,f,decide_eq_true B⟩
  .rw[s e];exact h.nd j o
 case gr=>
  intro j o
  by_cases e:j=i
  .subst e;rw[q];exact z
  .rw[s e];exact h.gr j o
 case lock=>exact h.lock
 case cd=>
  intro w j o
  rw[nR,aLa (fun D=>by rcases D.2.2 with E|E<;>exact absurd (show(6:Int)=_ from E) (by decide))]
  exact h.cd w j o
 case nb=>
  intro x f k
  rcases List.mem_cons.1 f with rfl|f
  .exact⟨⟨by show(0:Int)<=i;omega,F⟩,fun e=>by rcases e with e|e<;>exact absurd (show(6:Int)=_ from e) (by decide)⟩
  .exact h.nb x f k
 case ph=>exact h.ph
theorem iP.alone {i:Nat} (h:iP C K m (n::N)) (j:(i:Int)<C.aE) (hc:n.core=(i:Int)) (b:n.kind=6\/n.kind=12):(K i).lA=true/\Mc.cw i N=0/\∀x∈N,x.kind=6\/x.kind=12->x.core.toNat≠i:=by
 have a:=h.cw i j;rw[pC,aLb ⟨hc,b⟩] at a;have d:(K i).lA=true:=by grind
 rw[d] at a;have g:Mc.cw i N=0:=by simpa using a
 refine⟨d,g,fun x f b e=>?_⟩;have k:=(h.nb x (List.mem_cons_of_mem _ f) (by unfold KK;omega)).1;have:=Zw (i:=i) f (by omega) b;omega
theorem iP.asked {i:Nat} (h:iP C K m (n::N)) (I:(m.dN.length:Int)=C.aS) (o:m.dN.length<=16) (O:∀x∈m.dN,0<=x.owner/\x.owner<=4) (w:(i:Int)<C.aE) (hc:n.core=(i:Int)) (f:n.kind=6):
  (iZ m.dN n.no).2=0/\iP C K m (sX n.core (iZ m.dN n.no).1 n.no::N):=by
 obtain⟨R,T,J⟩:=h.alone w hc (.inl f)
 have P:=h.pl i w R
 have v:=h.gr i w
 have y:=h.no n List.mem_cons_self (.inl f)
 rw[Ga hc] at y
 obtain⟨g,z⟩:=Int.eq_ofNat_of_zero_le v.1
 have u:g<m.dN.length:=by omega
 have p:=ir (es:=m.dN) (g:=g) (a:=n.no) o O u (by grind)
 rw[I,<-z] at p
 refine⟨p.1,?_⟩
 have s:(sX n.core (iZ m.dN n.no).1 n.no).core=n.core:=rfl
 have E:∀{B q:Nat},jF (n::N) B q->jF (sX n.core (iZ m.dN n.no).1 n.no::N) B q:=fun⟨x,t,F,H⟩=>by
  rcases List.mem_cons.1 t with rfl|t;omega;exact⟨x,List.mem_cons_of_mem _ t,F,H⟩
 have D:(sX n.core (iZ m.dN n.no).1 n.no).kind=12:=rfl
 constructor
 case cw=>
  intro j k
  have:=h.cw j k
  rw[pC] at this ⊢
  grind
 case no=>
  intro x b f
  rcases List.mem_cons.1 b with rfl|b
  .rw[s,Ga hc];exact y
  .exact h.no x (List.mem_cons_of_mem _ b) f
 case pl=>exact h.pl
 case word=>
  intro x b f
  rcases List.mem_cons.1 b with rfl|b
  .rw[s,Ga hc];show dp _ _ _ (iZ m.dN n.no).1/\((K i).nL=false->(iY _ _ _ (iZ m.dN n.no).1).2.2.1=true->(iY _ _ _ (iZ m.dN n.no).1).2.1.locked=false->(iY _ _ _ (iZ m.dN n.no).1).2.1.owner=_/\_);rw[<-y];have S:m.dN.getD g iM=m.kX (K i).bI:=by unfold Mon.kX;rw[z];rfl
   grind
  .have:=h.word x (List.mem_cons_of_mem _ b) f;grind
 case known=>exact fun j k x b=>⟨(h.known j k x b).1,(h.known j k x b).2.1,fun d=>E ((h.known j k x b).2.2 d)⟩
 case nd=>exact h.nd
 case gr=>exact h.gr
 case lock=>exact h.lock
 case cd=>
  intro q j k
  have:=h.cd q j k
  rw[nR,aLa (by omega)] at this
  rw[nR,aLa (by rw[D];omega)]
  exact this
 case nb=>
  intro x b f
  rcases List.mem_cons.1 b with rfl|b
  .exact⟨by rw[s];omega,fun e=>by rw[D] at e;omega⟩
  .exact h.nb x (List.mem_cons_of_mem _ b) f
 case ph=>exact h.ph
theorem iP.again {i:Nat} {c:kO} {a:Int} (h:iP C K m (n::N)) (E:(i:Int)<C.aE) (hc:n.core=(i:Int)) (f:n.kind=12)
  (D:c.lA=true) (k:c.bI=(K i).bI) (u:c.known=(K i).known) (t:c.at'=a) (J:a=(K i).bI/4\/a=jA C.aS (K i).bI):
  iP C (aR K i c) m (dL 6 n.core a::N):=by
 obtain⟨F,I,o⟩:=h.alone E hc (.inr f)
 have w:(dL 6 n.core a).core=n.core:=rfl
 have v:(dL 6 n.core a).kind=6:=rfl
 have H:∀{y p:Nat},jF (n::N) y p->jF (dL 6 n.core a::N) y p:=fun⟨x,s,z,B⟩=>by
  rcases List.mem_cons.1 s with rfl|s;omega;exact⟨x,List.mem_cons_of_mem _ s,z,B⟩
 have q:aR K i c i=c:=dC
 have g:∀{j:Nat},j≠i->aR K i c j=K j:=fun e=>cH e
 constructor
 case cw=>
  intro j d
  rw[pC,w,v]
  by_cases e:j=i
  .grind
  .have:=h.cw j d;rw[pC,aLa (by omega)] at this;grind
 case no=>
  intro x b f
  rcases List.mem_cons.1 b with rfl|b
  .rw[w,Ga hc,q,t];rfl
  .rw[g (o x b f)];exact h.no x (List.mem_cons_of_mem _ b) f
 case pl=>
  intro j d
  by_cases e:j=i
  .grind
  .rw[g e];exact h.pl j d
 case word=>
  intro x b f
  rcases List.mem_cons.1 b with rfl|b
  .rw[v] at f;omega
  .rw[g (o x b (.inr f))];have:=h.word x (List.mem_cons_of_mem _ b) f;grind
 case known=>
  intro j d x b
  have b:x∈(K j).known:=by
   by_cases e:j=i;grind;grind
  have:=h.known j d x b
  grind
 case nd=>
  intro j d
  by_cases e:j=i
  .subst e;rw[q,u,k];exact⟨(h.nd j d).1,fun _=>(h.nd j d).2 F⟩
  .rw[g e];exact h.nd j d
 case gr=>
  intro j d
  by_cases e:j=i
  .subst e;rw[q,k];exact h.gr j d
  .rw[g e];exact h.gr j d
 case lock=>exact h.lock
 case cd=>
  intro p j d
  have:=h.cd p j d
  rw[nR,aLa (by omega)] at this
  rw[nR,aLa (by rw[v];omega)]
  exact this
 case nb=>
  intro x b f
  rcases List.mem_cons.1 b with rfl|b
  .grind
  .exact h.nb x (List.mem_cons_of_mem _ b) f
 case ph=>exact h.ph
theorem iP.x7 {i:Nat} {o:Int} {d:Nat} (h:iP C K m (n::N)) (B:(i:Int)<C.aE) (hc:n.core=(i:Int)) (g:n.kind=12) (z:1<=C.aS)
  (t:o=(m.kX (K i).bI).owner/\((m.kX (K i).bI).locked=true->jF (n::N) i (K i).bI.toNat)):
  iP C (aR K i ⟨false,0,0,false,(K i).known.drop d++[((K i).bI,o)]⟩) m N:=by
 obtain⟨E,D,k⟩:=h.alone B hc (.inr g)
 have v:∀{u p:Nat},jF (n::N) u p->jF N u p:=fun⟨x,q,w,y⟩=>by
  rcases List.mem_cons.1 q with rfl|q;omega;exact⟨x,q,w,y⟩
 have s:∀c:kO,aR K i c i=c:=fun _=>dC
 have f:∀{j:Nat} {c:kO},j≠i->aR K i c j=K j:=fun e=>cH e
 have em:∀x,x∈N->x∈n::N:=fun x=>List.mem_cons_of_mem _
 constructor
 case cw=>
  intro j b
  by_cases e:j=i
  .grind
  .have:=h.cw j b;rw[pC,aLa (by omega)] at this;rw[f e];exact this
 case no=>exact fun x a g=>by rw[f (k x a g)];exact h.no x (em x a) g
 case pl=>
  intro j b
  by_cases e:j=i
  .grind
  .rw[f e];exact h.pl j b
 case word=>
  intro x a g
  rw[f (k x a (.inr g))]
  have:=h.word x (em x a) g
  grind
 case known=>
  intro j b x a
  by_cases e:j=i
  .subst e;rw[s] at a;rcases List.mem_append.1 a with a|a
   .have:=h.known j b x (List.mem_of_mem_drop a);grind
   .rw[List.mem_singleton.1 a];exact⟨h.gr j b,t.1,fun d=>v (t.2 d)⟩
  .rw[f e] at a;have:=h.known j b x a;grind
 case nd=>
  intro j b
  by_cases e:j=i
  .subst e;rw[s];refine⟨?_,fun e=>by cases e⟩;have q:=h.nd j b;grind
  .rw[f e];exact h.nd j b
 case gr=>
  intro j b
  by_cases e:j=i
  .grind
  .rw[f e];exact h.gr j b
 case lock=>exact h.lock
 case cd=>
  intro p j b
  have:=h.cd p j b
  rw[nR,aLa (by omega)] at this
  exact this
 case nb=>exact fun x a=>h.nb x (em x a)
 case ph=>exact h.ph
theorem iP.walked {i:Nat} (h:iP C K m (n::N)) (g:(i:Int)<C.aE) (hc:n.core=(i:Int)) (b:n.kind=12) (j:1<=C.aS):
  ((K i).walked C n.no n.d0).2.2.2=0/\iP C (aR K i ((K i).walked C n.no n.d0).1) m ((if((K i).walked C n.no n.d0).2.2.1 then [] else [dL 6 n.core ((K i).walked C n.no n.d0).2.1])++N):=by
 obtain⟨o,u,t⟩:=h.alone g hc (.inr b)
 have k:=h.no n List.mem_cons_self (.inr b)
 have a:=h.word n List.mem_cons_self b
 rw[Ga hc] at k a
 unfold kO.walked
 rw[aLa (by rw[o];simp),aLa (by rw[k];simp)]
 cases hst:(K i).nL with
 |true=>
  rw[aLb rfl]
  exact⟨rfl,h.again g hc b o rfl rfl rfl (.inl rfl)⟩
 |false=>
  rw[aLa (by simp),k]
  dsimp only
  rw[k] at*
  rw[aLa (by rw[a.1.1];simp)]
  by_cases p:(iY C.aS (K i).bI (K i).at' n.d0).2.2.1=true/\(iY C.aS (K i).bI (K i).at' n.d0).2.1.locked=true
  .rw[aLb p];exact⟨rfl,h.again (c:=(K i).goto ((K i).bI/4)) g hc b o rfl rfl rfl (.inl rfl)⟩
  .rw[aLa p];by_cases f:(iY C.aS (K i).bI (K i).at' n.d0).2.2.1=false
   .rw[aLb f];exact⟨rfl,h.again (c:=(K i).goto _) g hc b o rfl rfl rfl (.inr (a.1.2 f).1)⟩
   .rw[aLa f];have f:(iY C.aS (K i).bI (K i).at' n.d0).2.2.1=true:=by simpa using f
    refine⟨rfl,?_⟩
    have s:(iY C.aS (K i).bI (K i).at' n.d0).2.1.locked=false:=by
     cases e:(iY C.aS (K i).bI (K i).at' n.d0).2.1.locked with
     |true=>exact absurd ⟨f,e⟩ p
     |false=>rfl
    have q:=a.2 hst f s
    by_cases d:((K i).known.length:Int)>=C.entries
    .have e:((K i).Ah C ((K i).bI,(iY C.aS (K i).bI (K i).at' n.d0).2.1.owner)).done=⟨false,0,0,false,(K i).known.drop 1++[((K i).bI,(iY C.aS (K i).bI (K i).at' n.d0).2.1.owner)]⟩:=by
      unfold kO.Ah kO.done;rw[aLb d]
     rw[e];exact h.x7 g hc b j q
    .have e:((K i).Ah C ((K i).bI,(iY C.aS (K i).bI (K i).at' n.d0).2.1.owner)).done=⟨false,0,0,false,(K i).known.drop 0++[((K i).bI,(iY C.aS (K i).bI (K i).at' n.d0).2.1.owner)]⟩:=by
      unfold kO.Ah kO.done;rw[aLa d];rfl
     rw[e];exact h.x7 g hc b j q
end
section
variable {C:bM} {K:Nat->kO} {m:Mon} {N N':List aJ} {n:aJ}
theorem Jh {m:Mon} {g:Nat} {x:iE} {k:Int} (b:0<=k) (a:g<m.dN.length):(m.qD g x).kX k=if k=g then x else m.kX k:=by
 unfold Mon.kX Mon.qD;dsimp only;rw[List.getD_eq_getElem?_getD,List.getElem?_set,List.getD_eq_getElem?_getD];by_cases e:k=(g:Int);rw[aLb (by omega),aLb (by omega),aLb e];rfl;rw[aLa (by omega),aLa e]
theorem iP.dropped {i:Nat} (h:iP C K m (n::N)) (O:(i:Int)<C.aE) (hc:n.core=(i:Int)) (F:n.kind=13) (H:0<=n.no/\n.no<C.aS):
  ((K i).drop C n.no).2=0/\iP C (aR K i ((K i).drop C n.no).1) m (dL 7 n.core n.no::N):=by
 unfold kO.drop
 rw[aLa (by omega)]
 refine⟨rfl,?_⟩
 dsimp only
 obtain⟨g,hg⟩:=Int.eq_ofNat_of_zero_le H.1
 have ec:(dL 7 n.core n.no).core=n.core:=rfl
 have eo:(dL 7 n.core n.no).no=n.no:=rfl
 have J:(dL 7 n.core n.no).kind=7:=rfl
 generalize y:({(K i) with known:=(K i).known.filter (fun x=> !decide (n.no= -1\/x.1=n.no)),nL:=(K i).nL||((K i).lA&&decide (n.no= -1\/(K i).bI=n.no))}:kO)=c
 have q:c.lA=(K i).lA:=by rw[<-y]
 have B:c.bI=(K i).bI:=by rw[<-y]
 have z:c.at'=(K i).at':=by rw[<-y]
 have E:c.nL=false->(K i).nL=false/\((K i).lA=true->(K i).bI≠n.no):=by
  grind
 have D:∀x,x∈c.known↔x∈(K i).known/\x.1≠n.no:=by
  grind
 have p:(c.known.map (·.1)).Sublist ((K i).known.map (·.1)):=by
  rw[<-y];exact List.Sublist.map _ List.filter_sublist
 have P:∀{I u:Nat},¬(I=i/\(u:Int)=n.no)->jF (n::N) I u->jF (dL 7 n.core n.no::N) I u:=fun X ⟨x,v,R,S,T⟩=>by
  rcases List.mem_cons.1 v with rfl|v;grind;exact⟨x,List.mem_cons_of_mem _ v,R,S,T⟩
 have s:aR K i c i=c:=dC
 have t:∀{j:Nat},j≠i->aR K i c j=K j:=fun e=>cH e
 have em:∀x,x∈N->x∈n::N:=fun x=>List.mem_cons_of_mem _
 have U:=h.gr i O
 constructor
 case cw=>
  intro j k
  have:=h.cw j k
  rw[pC,aLa (by omega)] at this
  rw[pC,aLa (by rw[J];omega),this]
  grind
 case no=>
  intro x f F
  rcases List.mem_cons.1 f with rfl|f
  .rw[J] at F;omega
  .have:=h.no x (em x f) F;by_cases e:x.core.toNat=i
   .rw[e] at this ⊢;rw[s,z];exact this
   .rw[t e];exact this
 case pl=>
  intro j k
  by_cases e:j=i
  .subst e;rw[s,q,z,B];exact h.pl j k
  .rw[t e];exact h.pl j k
 case word=>
  intro x f o
  rcases List.mem_cons.1 f with rfl|f
  .rw[J] at o;omega
  .have:=h.word x (em x f) o;by_cases e:x.core.toNat=i
   .rw[e] at this ⊢;rw[s,z,B];refine⟨this.1,fun a b c=>?_⟩;have Y:(K i).lA=true:=by
     have hb:=(h.nb x (em x f) (by unfold KK;omega)).1;have v:=h.cw i O;have:=Zw (i:=i) (em x f) (by omega) (.inr o);grind
    exact⟨(this.2 (E a).1 b c).1,fun d=>P (fun Z=>(E a).2 Y (by omega)) ((this.2 (E a).1 b c).2 d)⟩
   grind
 case known=>
  intro j k x f
  by_cases e:j=i
  .subst e;rw[s] at f;have f:=(D x).1 f;have:=h.known j k x f.1;grind
  .rw[t e] at f;have:=h.known j k x f;grind
 case nd=>
  intro j k
  by_cases e:j=i
  .subst e;rw[s,q,B];exact⟨(h.nd j k).1.sublist p,fun w W=>(h.nd j k).2 w (p.mem W)⟩
  .rw[t e];exact h.nd j k
 case gr=>
  intro j k
  by_cases e:j=i
  .grind
  .rw[t e];exact h.gr j k
 case lock=>exact h.lock
 case cd=>
  intro u j k
  have:=h.cd u j k
  rw[nR] at this ⊢
  grind
 case nb=>
  intro x f o
  rcases List.mem_cons.1 f with rfl|f
  .grind
  .exact h.nb x (em x f) o
 case ph=>exact h.ph
theorem Ef {m:Mon} {g a i:Nat} {x:Option Mc.jG}:C4 (m.cK g x) a i=if a=g then(match x with|some r=>(r.waits i).toNat|none=>0) else C4 m a i:=by
 unfold C4 Mon.cK aR;grind
theorem iP.heard {i g:Nat} (hC:C.Ok) (h:iP C K m (n::N)) (E:iF C m) (S:(i:Int)<C.aE) (hc:n.core=(i:Int)) (U:n.kind=7) (q:n.no=(g:Int)):
  ∃r,m.runs g=some r/\r.phase=1/\r.waits i=true/\m.dropped C.aE n.no n.core=(m.cK g (some (r.heard i).hU),(r.heard i).none,0)/\iP C K (m.cK g (some (r.heard i).hU)) N:=by
 have a:=h.cd g i S
 rw[nR,aLb ⟨hc,q,.inr U⟩] at a
 unfold C4 at a
 have T:i<4:=by have:=hC.1;omega
 cases hr:m.runs g with
 |none=>rw[hr] at a;simp at a
 |some r=>
  rw[hr] at a
  dsimp only at a
  have B:r.waits i=true:=by
   cases e:r.waits i with
   |true=>rfl
   |false=>rw[e] at a;simp at a
  rw[B] at a
  have O:Mc.cd i g N=0:=by simpa using a
  have z:=h.ph g r hr
  have v:=E.run g r hr
  have f:r.none=false:=by
   have:i=0\/i=1\/i=2\/i=3:=by omega
   unfold jG.none;rcases this with rfl|rfl|rfl|rfl<;>rw[B]<;>simp
  have y:r.phase=1:=by
   rcases v.2.2.1 with e|e;exact e;have:=z.1.1 e;rw[f] at this;cases this
  have D:m.has n.no:=by
   unfold Mon.has;have:=E.len;omega
  have F:m.run n.no=some r:=by unfold Mon.run;rw[aLb (by omega),q,Int.toNat_natCast,hr]
  have s:(r.heard i).hU.waits=gW r.waits i false:=rfl
  have w:(r.heard i).hU.none=(r.heard i).none:=rfl
  refine⟨r,rfl,y,B,?_,?_⟩
  .unfold Mon.dropped;grind
  have X:∀{H d:Nat},jF (n::N) H d->jF N H d:=fun⟨x,a,P,R⟩=>by
   rcases List.mem_cons.1 a with rfl|a;omega;exact⟨x,a,P,R⟩
  have em:∀x,x∈N->x∈n::N:=fun x=>List.mem_cons_of_mem _
  have J:∀k,(m.cK g (some (r.heard i).hU)).kX k=m.kX k:=fun _=>rfl
  constructor
  case cw=>
   intro j p
   have:=h.cw j p
   rw[pC,aLa (by omega)] at this
   exact this
  case no=>exact fun x o=>h.no x (em x o)
  case pl=>exact h.pl
  case word=>
   intro x o u
   have:=h.word x (em x o) u
   grind
  case known=>
   intro j p x o
   have:=h.known j p x o
   grind
  case nd=>exact h.nd
  case gr=>exact h.gr
  case lock=>
   intro d t
   rw[J,h.lock d t]
   unfold Mon.cK aR
   grind
  case cd=>
   intro d j p
   have:=h.cd d j p
   rw[nR] at this
   rw[Ef]
   by_cases e:d=g
   .subst e;rw[aLb rfl];dsimp only;rw[s];by_cases I:j=i
    .subst I;rw[O];unfold gW;rw[aLb rfl];rfl
    .rw[aLa (by omega)] at this;unfold gW;rw[aLa (by omega)];unfold C4 at this;grind
   grind
  case nb=>exact fun x o=>h.nb x (em x o)
  case ph=>
   intro d W b
   unfold Mon.cK aR at b
   dsimp only at b
   by_cases e:d=g
   .rw[aLb e] at b;cases b;refine⟨?_,fun j p=>?_⟩
    .rw[w];show(if(r.heard i).none=true then(2:Int) else r.phase)=2↔_;grind
    .rw[s];unfold gW;grind
   .rw[aLa e] at b;exact h.ph d W b
theorem Cj {aE g:Int} {x:aJ} (h:x∈tK aE g):x.kind=13/\x.no=g/\∃j:Nat,(j:Int)<aE/\x=dL 13 j g:=by
 unfold tK at h;obtain⟨j,a,rfl⟩:=List.mem_map.1 h;have:=List.mem_range.1 a;exact⟨rfl,rfl,j,by omega,rfl⟩
theorem wm {aE:Int} {g a i:Nat} (f:(i:Int)<aE):cd i a (tK aE g)=if a=g then 1 else 0:=by
 unfold tK;obtain⟨n,b⟩:∃n:Nat,aE.toNat=n/\i<n:=⟨aE.toNat,rfl,by omega⟩;rw[b.1];have e:∀n:Nat,cd i a ((List.range n).map fun j:Nat=>dL 13 j g)=if i<n/\a=g then 1 else 0:=by
  intro n;induction n with
  |zero=>rfl
  |succ n d=>
   rw[List.range_succ,List.map_append,qp,d];show _+cd i a (dL 13 n g::[])=_;rw[nR];show _+(0+if(n:Int)=(i:Int)/\(g:Int)=(a:Int)/\((13:Int)=13\/(13:Int)=7) then 1 else 0)=_;grind
 grind
theorem iP.calls {a:Mc.Ask} {g:Nat} {j:Int×Bool×Int} (hC:C.Ok) (h:iP C K m N) (S:(m.dN.length:Int)=C.aS) (R:(g:Int)<C.aS) (I:m.runs g=none):
  iP C K ((m.qD g ⟨(m.kX g).owner,true⟩).cK g (some (a.run C.aE j))) (tK C.aE g++N):=by
 have F:C.aE<=4:=hC.1.2
 have J:∀{p f:Nat},jF N p f->jF (tK C.aE g++N) p f:=fun H=>Hd H fun x b _=>List.mem_append.2 (.inr b)
 have O:∀p:Nat,(p:Int)<C.aE->jF (tK C.aE g++N) p g:=fun p E=>⟨dL 13 p g,List.mem_append.2 (.inl (List.mem_map.2 ⟨p,List.mem_range.2 (by omega),rfl⟩)),rfl,rfl,rfl⟩
 have em:∀x,x∈tK C.aE g++N->x.kind≠13->x∈N:=fun x b o=>by
  rcases List.mem_append.1 b with b|b;exact absurd (Cj b).1 o;exact b
 have u:g<m.dN.length:=by omega
 have w:∀k:Int,0<=k->((m.qD g ⟨(m.kX g).owner,true⟩).cK g (some (a.run C.aE j))).kX k=if k=g then⟨(m.kX g).owner,true⟩ else m.kX k:=fun k o=>Jh o u
 have B:∀x∈N,x.kind=6\/x.kind=12->(x.core.toNat:Int)<C.aE:=fun x b o=>by have:=(h.nb x b (by unfold KK;omega)).1;omega
 constructor
 case cw=>
  intro i q
  rw[aG6]
  have:Mc.cw i (tK C.aE g)=0:=by
   refine List.countP_eq_zero.2 fun x b=>?_;have:=(Cj b).1;grind
  rw[this,Nat.zero_add];exact h.cw i q
 case no=>exact fun x b o=>h.no x (em x b (by omega)) o
 case pl=>exact h.pl
 case word=>
  intro x b o
  have b:=em x b (by omega)
  have s:=B x b (.inr o)
  have:=h.word x b o
  have D:=h.gr _ s
  grind
 case known=>
  intro i q x b
  have:=h.known i q x b
  grind
 case nd=>exact h.nd
 case gr=>exact h.gr
 case lock=>
  intro f t
  rw[w _ (by omega)]
  show _↔(aR m.runs g _ f).isSome=true
  unfold aR
  by_cases e:f=g
  .subst e;simp
  .rw[aLa (by omega),aLa e];exact h.lock f t
 case cd=>
  intro f i q
  rw[qp,Ef,wm q,h.cd f i q]
  by_cases e:f=g
  .subst e;rw[aLb rfl,aLb rfl];have:C4 m f i=0:=by unfold C4;rw[I]
   rw[this]
   show 1+0=(decide ((i:Int)<C.aE)).toNat
   grind
  .rw[aLa e,aLa e,Nat.zero_add];rfl
 case nb=>
  intro x b o
  rcases List.mem_append.1 b with b|b
  .obtain⟨P,y,k,z,rfl⟩:=Cj b;exact⟨⟨by show(0:Int)<=k;omega,z⟩,fun _=>by rw[y];omega⟩
  .exact h.nb x b o
 case ph=>
  intro f v d
  have d:aR m.runs g (some (a.run C.aE j)) f=some v:=d
  unfold aR at d
  by_cases e:f=g
  .rw[aLb e] at d;cases d;refine⟨?_,fun i q=>decide_eq_false (by omega)⟩;show(1:Int)=2↔(!(decide (((0:Nat):Int)<C.aE)||_||_||_))=true;have:=hC.1.1;grind
  .rw[aLa e] at d;exact h.ph f v d
theorem iP.over {g:Nat} {r:Mc.jG} {o:Int} (hC:C.Ok) (h:iP C K m N) (P:(m.dN.length:Int)=C.aS) (F:(g:Int)<C.aS) (y:m.runs g=some r) (w:r.phase=2):
  iP C K ((m.qD g ⟨o,false⟩).cK g none) N/\(∀i:Nat,(i:Int)<C.aE->∀x∈(K i).known,x.1≠g):=by
 have t:g<m.dN.length:=by omega
 have B:∀k:Int,0<=k->((m.qD g ⟨o,false⟩).cK g none).kX k=if k=g then⟨o,false⟩ else m.kX k:=fun k p=>Jh p t
 have v:(m.kX g).locked=true:=(h.lock g F).2 (by rw[y];rfl)
 have j:=(h.ph g r y).1.1 w
 have J:∀i:Nat,(i:Int)<C.aE->r.waits i=false:=fun i d=>by
  have:i=0\/i=1\/i=2\/i=3:=by have:=hC.1;omega
  unfold jG.none at j;grind
 have I:∀i:Nat,(i:Int)<C.aE->¬jF N i g:=fun i d w=>by
  have O:=aAf w;have D:=h.cd g i d;unfold C4 at D;grind
 have E:∀x∈N,x.kind=6\/x.kind=12->(x.core.toNat:Int)<C.aE:=fun x f p=>by have:=(h.nb x f (by unfold KK;omega)).1;omega
 have u:∀i:Nat,(i:Int)<C.aE->∀x∈(K i).known,x.1≠g:=fun i d x f e=>by
  have:=(h.known i d x f).2.2 (by rw[e];exact v);grind
 refine⟨?_,u⟩
 constructor
 case cw=>exact h.cw
 case no=>exact h.no
 case pl=>exact h.pl
 case word=>
  intro x f p
  have q:=E x f (.inr p)
  have:=h.word x f p
  have H:=h.gr _ q
  grind
 case known=>
  intro i d x f
  have:=h.known i d x f
  grind
 case nd=>exact h.nd
 case gr=>exact h.gr
 case lock=>
  intro b s
  rw[B _ (by omega)]
  show _↔(aR m.runs g none b).isSome=true
  unfold aR
  by_cases e:b=g
  .subst e;simp
  .rw[aLa (by omega),aLa e];exact h.lock b s
 case cd=>
  intro b i d
  rw[Ef,h.cd b i d]
  by_cases e:b=g
  .subst e;rw[aLb rfl];unfold C4;grind
  .rw[aLa e];rfl
 case nb=>exact h.nb
 case ph=>
  intro b z a
  have a:aR m.runs g none b=some z:=a
  unfold aR at a
  by_cases e:b=g
  .grind
  .rw[aLa e] at a;exact h.ph b z a
end
section
variable {A:AM} {i:Nat}
theorem nS {B:AM} {s:aK} {a:Int} (b:B.aD=aR A.aD i s) (_hc:B.cfg=A.cfg):B.iO i a={B with aD:=aR A.aD i (s.iO a)}:=by
 unfold AM.iO AM.nT;rw[b,dC,tN]
theorem F0 {s:aK} {x:Ins} (h:aK.next? s=some x):s.over=false/\x=pW s.prog s.at':=by
 unfold aK.next? at h;grind
theorem yN {b:Bool} (a:(i:Int)<A.cfg.aE) (d:(A.aD i).over=false):
  A.step i b=((A.pO i (pW (A.aD i).prog (A.aD i).at') b).1.iO i (A.pO i (pW (A.aD i).prog (A.aD i).at') b).2.2.2.2,
      ⟨i,(A.aD i).at',(pW (A.aD i).prog (A.aD i).at').op,(A.aD i).world,(A.pO i (pW (A.aD i).prog (A.aD i).at') b).2.1,(A.pO i (pW (A.aD i).prog (A.aD i).at') b).2.2.1,(A.pO i (pW (A.aD i).prog (A.aD i).at') b).2.2.2.1⟩,0):=by
 unfold AM.step
 grind
theorem tH {s:aK} (h:A.aD i=s):A.aD=aR A.aD i s:=by subst h;exact qB.symm
theorem Tu {r:aK×Ev} {b:Bool} (j:(i:Int)<A.cfg.aE) (h:aK.gX (A.aD i) i=some r):A.step i b=({A with aD:=aR A.aD i r.1},r.2,0)/\gD r.2=false:=by
 unfold aK.gX at h;cases hn:aK.next? (A.aD i) with
 |none=>rw[hn] at h;cases h
 |some x=>
  rw[hn] at h;dsimp only at h;obtain⟨k,o⟩:=F0 hn;rw[yN j k,<-o];unfold AM.pO;split at h;rename_i e;cases h;rw[aLb e];exact⟨by dsimp only;rw[nS (A:=A) (B:=A.nT i _) (s:=(A.aD i).cK x.a x.b) rfl rfl];rfl,rfl⟩;rename_i d;rw[aLa d];split at h;rename_i e;cases h;rw[aLb e];exact⟨by dsimp only;rw[nS (A:=A) (B:=A.nT i _) (s:=(A.aD i).cK x.a _) rfl rfl];rfl,rfl⟩;rename_i f;rw[aLa f];split at h;rename_i e;cases h;rw[aLa (by omega),aLa (by omega),aLa (by omega),aLa (by omega),aLa (by omega)];exact⟨by dsimp only;rw[nS (tH rfl) rfl];rfl,rfl⟩;rename_i p;split at h;rename_i e;rw[aLa (by omega),aLb e];split at h;rename_i a;cases h;rw[aLb a];exact⟨by dsimp only;rw[nS (A:=A) (B:=A.nT i _) (s:=(A.aD i).Y3 x.a) rfl rfl];rfl,rfl⟩;rename_i a;cases h;rw[aLa a];exact⟨by dsimp only;rw[nS (tH rfl) rfl];rfl,rfl⟩;rename_i a;split at h;rename_i e;cases h;rw[aLa (by omega),aLa a,aLa (by omega),aLb e];exact⟨by dsimp only;rw[nS (tH rfl) rfl];rfl,rfl⟩;rename_i g;split at h;rename_i e;cases h;rw[aLa (by omega),aLa a,aLa (by omega),aLa g,aLb e];exact⟨by dsimp only;rw[nS (tH rfl) rfl];rfl,rfl⟩;cases h
theorem Su {s:aK} {a:Acc} (h:aK.hQ s=some a):∃x,aK.next? s=some x/\(x.op=3\/x.op=4\/x.op=5)/\a=⟨s.cJ x.b.toNat,decide (x.op≠3),decide (x.op≠4),if x.op=3 then 0 else s.cJ x.a.toNat⟩:=by
 unfold aK.hQ at h;cases hn:aK.next? s with
 |none=>rw[hn] at h;cases h
 |some x=>
  rw[hn] at h;dsimp only at h;unfold zR at h;split at h;rename_i e;cases h;exact⟨x,rfl,of_decide_eq_true e,rfl⟩;cases h
theorem Lj {a:Acc} {b:Bool} (k:(i:Int)<A.cfg.aE) (j:aK.hQ (A.aD i)=some a) (o:A.may (A.aD i).world a.word=false):
  A.step i b=({A with aD:=aR A.aD i (aK.bG (A.aD i) i 0 19).1},(aK.bG (A.aD i) i 0 19).2.1,0)/\(aK.bG (A.aD i) i 0 19).2.2=0/\gD (aK.bG (A.aD i) i 0 19).2.1=false:=by
 obtain⟨x,f,e,rfl⟩:=Su j
 obtain⟨p,q⟩:=F0 f
 have g:aK.bG (A.aD i) i 0 19=((A.aD i).iO ((A.aD i).at'+1),aK.ev (A.aD i) i x ((A.aD i).cJ x.b.toNat) 0 19,0):=by
  unfold aK.bG;rw[f];dsimp only;rw[aLa (by omega),aLb (by unfold zR;grind),aLa (by omega),aLb rfl]
 rw[g,yN k p,<-q]
 unfold AM.pO
 have d:A.access i x=(A,0,19):=by unfold AM.access;rw[aLa (by rw[o];simp)]
 rw[aLa (by omega),aLa (by omega),aLb e,d]
 exact⟨by dsimp only;rw[nS (tH rfl) rfl];rfl,rfl,rfl⟩
theorem Qh {a:Acc} {b:Bool} {v:Int} (u:(i:Int)<A.cfg.aE) (t:aK.hQ (A.aD i)=some a) (o:A.may (A.aD i).world a.word=true) (d:v=if a.read then lQ A.mem a.word.toNat else 0):
  A.step i b=({A with aD:=aR A.aD i (aK.bG (A.aD i) i v 0).1,mem:=if a.write then pS A.mem a.word.toNat a.value else A.mem},(aK.bG (A.aD i) i v 0).2.1,0)/\(aK.bG (A.aD i) i v 0).2.2=0/\gD (aK.bG (A.aD i) i v 0).2.1=false:=by
 obtain⟨x,p,g,rfl⟩:=Su t
 obtain⟨w,y⟩:=F0 p
 have q:aK.bG (A.aD i) i v 0=if x.op=4 then((A.aD i).iO ((A.aD i).at'+1),aK.ev (A.aD i) i x ((A.aD i).cJ x.b.toNat) ((A.aD i).cJ x.a.toNat) 0,0) else(((A.aD i).cK x.a v).iO ((A.aD i).at'+1),aK.ev (A.aD i) i x ((A.aD i).cJ x.b.toNat) v 0,0):=by
  unfold aK.bG;rw[p];dsimp only;rw[aLa (by omega),aLb (by unfold zR;grind),aLa (by omega),aLa (by omega)]
 rw[q,yN u w,<-y]
 unfold AM.pO
 rw[aLa (by omega),aLa (by omega),aLb g]
 unfold AM.access
 dsimp only at o d
 rw[aLb o]
 rcases g with e|e|e
 .rw[aLb e,aLa (by omega)];have d:v=lQ A.mem ((A.aD i).cJ x.b.toNat).toNat:=by rw[d,aLb (by rw[e];rfl)]
  have j:decide (x.op≠3)=false:=by rw[e];rfl
  subst d
  refine⟨?_,rfl,rfl⟩
  dsimp only
  rw[j]
  rw[nS (A:=A) (B:=A.nT i _) (s:=(A.aD i).cK x.a _) rfl rfl];rfl
 .have j:decide (x.op≠3)=true:=by rw[e];rfl
  have f:¬x.op=3:=by omega
  refine⟨?_,by rw[aLb e],by rw[aLb e];rfl⟩
  rw[aLa f,aLb e,aLb e,j]
  dsimp only
  rw[nS (A:=A) (B:=A.kD (pS A.mem ((A.aD i).cJ x.b.toNat).toNat ((A.aD i).cJ x.a.toNat))) (tH rfl) rfl,aLa f];rfl
 .have j:decide (x.op≠3)=true:=by rw[e];rfl
  have f:¬x.op=3:=by omega
  have k:¬x.op=4:=by omega
  have d:v=lQ A.mem ((A.aD i).cJ x.b.toNat).toNat:=by rw[d,aLb (by rw[e];rfl)]
  subst d
  refine⟨?_,by rw[aLa k],by rw[aLa k];rfl⟩
  rw[aLa f,aLa k,aLa k,j]
  dsimp only
  rw[nS (A:=A) (B:=(A.kD (pS A.mem ((A.aD i).cJ x.b.toNat).toNat ((A.aD i).cJ x.a.toNat))).nT i _) (s:=(A.aD i).cK x.a _) rfl rfl,aLa f];rfl
theorem Rc {s:aK} {a:Mc.Ask} (h:aK.rV s i=some a):∃x,aK.next? s=some x/\x.op=8/\a=⟨i,s.world,x.a,s.cJ x.b.toNat,s.cJ x.c.toNat⟩:=by
 unfold aK.rV at h;grind
theorem S8 {a:Mc.Ask} {e:Int} {B:AM} (o:(i:Int)<A.cfg.aE) (k:aK.rV (A.aD i) i=some a) (hc:A.call a.call a.world a.bI a.to (decide (e=17))=(B,e)):
  A.step i (decide (e=17))=({B with aD:=aR A.aD i (aK.bG (A.aD i) i 0 e).1},(aK.bG (A.aD i) i 0 e).2.1,0)/\(aK.bG (A.aD i) i 0 e).2.2=0/\gD (aK.bG (A.aD i) i 0 e).2.1=decide (e=17):=by
 obtain⟨x,p,f,rfl⟩:=Rc k
 obtain⟨q,u⟩:=F0 p
 have j:aK.bG (A.aD i) i 0 e=(((A.aD i).cK x.b e).iO ((A.aD i).at'+1),aK.ev (A.aD i) i x ((A.aD i).cJ x.b.toNat) ((A.aD i).cJ x.c.toNat) e,0):=by
  unfold aK.bG;grind
 rw[j,yN o q,<-u]
 dsimp only at hc
 have d:=D4 (m:=A) (c:=x.a) (w:=(A.aD i).world) (g:=(A.aD i).cJ x.b.toNat) (t:=(A.aD i).cJ x.c.toNat) (b:=decide (e=17))
 rw[hc] at d
 unfold AM.pO
 rw[aLa (by omega),aLa (by omega),aLa (by omega),aLa (by omega),aLb f,hc]
 refine⟨?_,rfl,rfl⟩
 dsimp only
 rw[nS (A:=A) (B:=B.nT i _) (s:=(A.aD i).cK x.b e) (by show aR B.aD i _=_;rw[d.2.2]) d.1]
 rfl
theorem Ov:∀{l:List Ev} {A B:AM} {x:Ev} {k:Nat},lY A l k=(B,k+l.length,0)->Oi B x=0->lY A (l++[x]) k=((B.step x.core (gD x)).1,k+l.length+1,0)
 |[],A,B,x,k,h,a=>by
  have:A=B:=by cases h;rfl
  subst this;show lY A [x] k=_;unfold lY;rw[aLa (by rw[a];simp)];rfl
 |y::l,A,B,x,k,h,a=>by
  rw[List.cons_append];unfold lY at h ⊢;split at h;grind;rename_i b;rw[aLa b];rw[List.length_cons] at h ⊢;rw[show k+(l.length+1)=k+1+l.length by omega] at h ⊢;exact Ov h a
theorem aDn {x:Ev} {B:AM} (h:A.step x.core (gD x)=(B,x,0)):Oi A x=0:=by
 unfold Oi;rw[h];simp
end
end Go.Mc
namespace Go.Pc
open Go Go.Ab Go.Hm Go.Ct
section
variable {l:Nat} {r:Row} {m V:Ln} {c:xc} {N:List aJ} {n:aJ}
structure Clean (r:Row):Prop where
 busy:r.busy=false
 owner:r.owner= -1
 sh:∀i,i<4->r.sh i=false
def Nn (r:Row):Prop:=(r.busy=true/\r.served.kind=0)\/∃x∈r.waits,x.kind=0
def K9 (r:Row):Prop:=Nn r\/Clean r
theorem K9.wait (h:K9 r):K9 (r.wait n):=by
 rcases h with(h|⟨x,a,k⟩)|h;exact .inl (.inl h);exact .inl (.inr ⟨x,List.mem_append.2 (.inl a),k⟩);exact .inr ⟨h.busy,h.owner,h.sh⟩
theorem E2:Nn (r.wait (mX l)):= .inr ⟨mX l,List.mem_append.2 (.inr (by simp)),rfl⟩
theorem rY:(r.heard n).waits=r.waits:=by
 unfold Row.heard;split;rfl;split<;>split<;>rfl
theorem rU {line:Int} {d:Ln}:(r.eE line d).1.waits=r.waits:=by
 unfold Row.eE;grind
theorem K9.take (h:K9 r) (b:Inv l r m V c (n::N)) (_:1<=n.kind/\n.kind<=5):K9 (lX.take (r,m) l n).1.1:=by
 unfold lX.take;by_cases D:n.kind=4;rw[aLb D];obtain⟨u,I,T⟩:=b.um D;rw[aLa (by show ¬(r.granted=false\/r.served.core≠n.core);rw[u];simp;exact I)];rcases h with(h|⟨x,B,k⟩)|h;exact absurd h.2 (b.kg u);exact .inl (.inr ⟨x,B,k⟩);have:=b.row.gb u;rw[h.busy] at this;cases this;rw[aLa D];by_cases p:n.kind=5;rw[aLb p];have F:=b.nc n (by simp);obtain⟨i,y,w,f⟩:=fR F.2;obtain⟨E,O,v,_,_⟩:=b.ft p y w;rw[aLa (by show ¬r.asked n.core.toNat=false;rw[f,E];simp)];obtain⟨_,J⟩:=b.nJ p;show K9 (lX.nJ (r,m) l n).1.1;have R:(lX.nJ (r,m) l n).1.1.waits=r.waits:=by
  unfold lX.nJ Row.rest;dsimp only;split;split;exact rY;rw[rU];exact rY;exact rY
 rcases h with(h|⟨x,B,k⟩)|h;have g:=D1 b.row F.2 (by rw[f];exact E);have q:r.heard n=(r.eZ n).leave n.core:=by unfold Row.heard;rw[aLb (by omega)]
 unfold lX.nJ Row.rest;dsimp only;by_cases z:(r.heard n).quiet=true;rw[aLb z,aLb (by rw[zD];exact h.2)];right;have d:∀j:Nat,j<4->(r.heard n).sh j=false/\(r.heard n).owner≠(j:Int):=fun j H=>by
  have P:=b.k2 v O (by omega) j H (fun e=>by omega);have o:=gE z H;have a:(r.heard n).asked j=gW r.asked n.core false j:=by rw[q];rfl
  have t:(r.heard n).sh j=gW r.sh n.core false j:=by rw[q];rfl
  have s:(r.heard n).owner=if r.owner=n.core then -1 else r.owner:=by rw[q];rfl
  rw[a] at o;rw[t,s];unfold gW at o ⊢;grind
 refine⟨rfl,?_,fun i y=>(d i y).1⟩;show(r.heard n).owner= -1;have W:=g.owner;have S:=d (r.heard n).owner.toNat;omega;rw[aLa z];left;left;exact⟨g.busy,by rw[zD];exact h.2⟩;exact .inl (.inr ⟨x,by rw[R];exact B,k⟩);rw[h.busy] at v;cases v;rw[aLa p];exact h.wait
theorem K9.begun {w:List aJ} {j:Int->Int×Bool} (h:K9 r) (hb:r.busy=false) (s:r.waits=n::w) (q:Inv l r m V c N) (z:∀x,(j x).2=false):K9 (Row.begun (r.next w) l m n j).1.1:=by
 have d:n.kind≠0->K9 (r.next w):=fun v=>by
  rcases h with(h|⟨x,e,k⟩)|h;grind;rw[s] at e;rcases List.mem_cons.1 e with rfl|e;exact absurd k v;exact .inl (.inr ⟨x,e,k⟩);exact .inr ⟨h.busy,h.owner,h.sh⟩
 unfold Row.begun;by_cases t:n.kind=3;rw[aLb t];rcases d (by omega) with(h|⟨x,e,k⟩)|h;exact .inl (.inl h);exact .inl (.inr ⟨x,e,k⟩);refine .inr ⟨h.busy,?_,fun i o=>?_⟩;show(if(r.next w).owner=n.core then(-1:Int) else(r.next w).owner)= -1;split;rfl;exact h.owner;show gW (r.next w).sh n.core false i=false;unfold gW;split;rfl;exact h.sh i o;rw[aLa t];by_cases p:n.kind=1\/n.kind=2;grind;rw[aLa p];have u:=q.row.waits n (by rw[s];simp);by_cases g:(r.next w).first (-1)= -1
 rw[aLb g];have f:=G0.1 g;have B:=q.row.owner;right;refine⟨hb,?_,fun i o=>(f i o (by omega)).1⟩;show r.owner= -1;have y:r.owner.toNat<4->((r.owner.toNat:Nat):Int)≠ -1->((r.owner.toNat:Nat):Int)≠r.owner:=fun a b=>(f r.owner.toNat a b).2;omega;rw[aLa g];exact .inl (.inl ⟨rfl,by show n.kind=0;omega⟩)
theorem Inv.clean (h:Inv l r m V c N) (hc:Clean r):(∀i,i<4->HH l r c N i=0)/\∀x∈N,x.kind≠8/\x.kind≠5/\x.kind≠11:=by
 obtain⟨p,s,_⟩:=h.idle hc.busy;have g:∀x∈N,x.kind≠8/\x.kind≠5/\x.kind≠11:=fun x o=>by
  have q:=h.nc x o;obtain⟨j,t,f,_⟩:=fR q.2;have d:=h.calm p o;exact⟨fun k=>h.no8 t (by unfold wI;rw[s];simp) o k f,d.1,d.2⟩
 refine⟨fun i a=>?_,g⟩;have b:=h.c1 i a (by have:=h.t3 i a;rw[gE p a] at this;simp at this;omega) (by have:=h.t4 i a;unfold wI at this;grind);have u:0<=HH l r c N i:=by have:=h.uR i a;unfold HH uK;grind
 have d:HH l r c N i≠1:=fun e=>by have:=b.1.1 e;rw[hc.sh i a] at this;cases this
 have v:¬2<=HH l r c N i:=fun e=>by have:=b.2.1 e;rw[hc.owner] at this;omega
 omega
end
end Go.Pc
namespace Go.Mc
open Go Go.Ab Go.Hm Go.At Go.Is Go.Ct Go.Nt Go.Pc
section
abbrev tP (C:bM) (M:cT) (V:Nat->Ln):AM:=⟨C,M.aD,M.bY.dN.map iE.owner,V⟩
structure RX (C:bM) (A0:AM) (M:cT) (V:Nat->Ln):Prop where
 Nz:nI C M.home M.dD V (sG C M.kL)
 pR:iP C M.cG M.bY (sG C M.kL)
 swp:∀g r,M.bY.runs g=some r->r.phase=2->K9 (M.home (g*2)).1/\K9 (M.home (g*2+1)).1
 ask:∀g r,M.bY.runs g=some r->aK.rV (M.aD r.core.toNat) r.core.toNat=some ⟨r.core,r.world,r.call,g,r.to⟩/\fN r.call r.world (M.bY.kX g).owner r.to=(r.then',r.jO,0)
 log:lY A0 M.log 0=(tP C M V,M.log.length,0)
variable {C:bM} {N:Nat} {M M':cT} {V V':Nat->Ln} {A0:AM}
theorem Vw {x:Ev} {B:AM} (h:lY A0 M.log 0=(tP C M V,M.log.length,0)) (a:(tP C M V).step x.core (gD x)=(B,x,0)):lY A0 (M.log++[x]) 0=(B,(M.log++[x]).length,0):=by
 have:=Ov (k:=0) (l:=M.log) (x:=x) (by rw[Nat.zero_add];exact h) (aDn a);grind
theorem ky (hC:C.Ok) (a:eI C N M) {i:Nat} (f:M.bY.calls i=false) {g:Nat} {r:Mc.jG} (b:M.bY.runs g=some r):r.core.toNat≠i:=fun e=>by
 have d:=(a.bY.run g r b).2.2.2.1;have:M.bY.calls i=true:=(Qj hC a.bY).2 ⟨g,by unfold rc;grind⟩;grind
theorem RX.turns (hC:C.Ok) (o:eI C N M) (h:RX C A0 M V) {i:Nat} {s:aK} {v:Ev} {M1:cT} (q:M.bY.calls i=false)
  (j:M1.aD=aR M.aD i s) (e2:M1.log=M.log++[v]) (a:M1.bY=M.bY) (b:M1.home=M.home) (k:M1.cG=M.cG) (d:M1.kL=M.kL)
  (hc:nI C M.home M1.dD V' (sG C M.kL)) (p:v.core=i) (f:(tP C M V).step i (gD v)=({tP C M V with aD:=aR M.aD i s,mem:=V'},v,0)):RX C A0 M1 V':=by
 constructor
 case Nz=>rw[b,d];exact hc
 case pR=>rw[a,k,d];exact h.pR
 case swp=>rw[a,b];exact h.swp
 case ask=>
  rw[a,j]
  intro g r e
  have:=ky hC o q e
  unfold aR
  rw[aLa this]
  exact h.ask g r e
 case log=>
  rw[<-p] at f
  have:=Vw h.log f
  grind
theorem RX.Js (hC:C.Ok) (o:eI C N M) (h:RX C A0 M V) {i:Nat} {v code:Int} {b:Bool} {M1:cT} (q:M.bY.calls i=false)
  (e:M1.aD=M.aD) (e2:M1.log=M.log) (f:M1.bY=M.bY) (g:M1.home=M.home) (j:M1.cG=M.cG) (k:M1.kL=M.kL) (hc:nI C M.home M1.dD V' (sG C M.kL))
  (a:(tP C M V).step i b=({tP C M V with aD:=aR M.aD i (aK.bG (M.aD i) i v code).1,mem:=V'},(aK.bG (M.aD i) i v code).2.1,0)/\(aK.bG (M.aD i) i v code).2.2=0/\gD (aK.bG (M.aD i) i v code).2.1=b):RX C A0 (M1.bG i v code).1 V':=by
 obtain⟨a,d,p⟩:=a
 unfold cT.bG
 dsimp only
 rw[e,aLa (by rw[d];simp)]
 exact h.turns (s:=(aK.bG (M.aD i) i v code).1) (v:=(aK.bG (M.aD i) i v code).2.1) hC o q (by grind) (by grind) f g j k hc (vG d) (by rw[p];exact a)
theorem wi {l:List (Int×Int)} {g o:Int} (h:kE l g=some o):(g,o)∈l:=by
 unfold kE at h;cases hf:l.find? (fun x=>decide (x.1=g)) with
 |none=>rw[hf] at h;cases h
 |some x=>
  grind
theorem Mn {es:List iE} {g:Nat} (a:g<es.length):(es.map iE.owner).getD g 0=(es.getD g iM).owner:=by
 grind
theorem RX.aJz (h:RX C A0 M V) {out:List aJ} {X:Nat->gZ} {M1:cT} (d:(sG C M1.kL).Perm (out++sG C M.kL)) (j:∀x∈out,¬KK x.kind)
  (e:M1.aD=M.aD) (e2:M1.log=M.log) (a:M1.bY=M.bY) (b:M1.home=M.home) (f:M1.cG=M.cG) (g:M1.dD=X) (hc:nI C M.home X V (out++sG C M.kL)):RX C A0 M1 V:=by
 constructor
 case Nz=>rw[b,g];exact hc.perm d.symm
 case pR=>rw[a,f];exact(h.pR.more j).perm d.symm
 case swp=>rw[a,b];exact h.swp
 case ask=>rw[a,e];exact h.ask
 case log=>rw[e2,h.log];grind
theorem aEj (e:eI C N M) (h:RX C A0 M V) {i:Nat} (f:(i:Int)<C.aE) {w o:Int} (j:0<=w/\w<C.lines*2) (_k:C.lines=(C.aS*2).toNat) (g:kE (M.cG i).known (w/2/2)=some o) {world:Int}:
  (tP C M V).may world w=zW world o:=by
 have b:=h.pR.known i f _ (wi g)
 unfold AM.may
 rw[aLb j]
 have a:=e.bY.len
 show zW world ((M.bY.dN.map iE.owner).getD (w.toNat/4) 0)=_
 have d:o=(M.bY.kX (w/2/2)).owner:=b.2.1
 rw[Mn (by omega),d]
 unfold Mon.kX
 congr 4
 omega
theorem qz {n:Nat} {S:Nat->List Th} {l a:Int} {w:Bool} (h:Ct.mL n S l a w=true):(bA n S l).2=0:=by
 unfold Ct.mL at h;grind
theorem Ud {S:Nat->List Th} {l a b:Int} {w:Bool} (f:0<=l/\l<C.lines) (e:a=0\/a=1) (d:Ct.mL C.aI.toNat S l b w=true):mD C S l a b w=0:=by
 unfold mD;rw[aLa (by unfold sB;simp;omega),aLa (by omega),aLa (by omega),aLa (by rw[d];simp)]
theorem RX.pO (hC:C.Ok) (y:eI C N M) (h:RX C A0 M V) {i:Nat} {a:Acc} {o:Int} (p:(i:Int)<C.aE) (E:M.bY.calls i=false) (z:aK.hQ (M.aD i)=some a)
  (F:0<=a.word/\a.word<C.lines*2) (B:(tP C M V).may (M.aD i).world a.word=true) (hc:Ct.mL C.aI.toNat (M.dD i).S (a.word/2) o a.write=true):
  ∃V',RX C A0 (M.pO C i (a.word/2) (a.word % 2) o a).1 V':=by
 have d:i<4:=by have:=hC.1;omega
 obtain⟨k,u⟩:=Int.eq_ofNat_of_zero_le (show 0<=a.word/2 by omega)
 have q:k<C.lines:=by omega
 have g:a.word % 2=0\/a.word % 2=1:=by omega
 have f:=qz hc
 rw[u] at f hc
 have w:=h.Nz.value d q f
 have x:a.word.toNat/2=k:=by omega
 have em:a.word.toNat % 2=0↔a.word % 2=0:=by omega
 have D:=Qh (A:=tP C M V) (i:=i) (a:=a) (b:=false) (v:=if a.read then Gi C (M.dD i) k (a.word % 2) else 0) p z B (by
  unfold Gi aIr lQ;grind)
 have j:nI C M.home (aR M.dD i (if a.read then mV C (M.dD i) k (a.word % 2) o else M.dD i)) V (sG C M.kL):=by
  split;exact h.Nz.reads d p;rw[qB];exact h.Nz
 unfold cT.pO
 rw[u]
 dsimp only
 refine⟨if a.write then pS V a.word.toNat a.value else V,?_⟩
 refine h.Js hC y (b:=false) (M1:=M.uQ i _) E rfl rfl rfl rfl rfl rfl ?_ D
 show nI C M.home (aR M.dD i _) _ _
 cases hwr:a.write with
 |false=>simp only[Bool.false_eq_true,if_false];exact j
 |true=>
  simp only[if_true]
  rw[hwr] at hc
  have s:=Kb hc
  have t:mD C (aR M.dD i (if a.read then mV C (M.dD i) k (a.word % 2) o else M.dD i) i).S k (a.word % 2) o true=0:=by
   rw[Ab.dC];refine Ud (by omega) g ?_;split;unfold mV;rw[aLb (Ud (by omega) g s)];dsimp only;unfold Ct.mL at hc ⊢;rw[Ft (h.Nz.uS i d).aI f];exact hc;exact hc
  have:=j.writes (v:=a.value) d p t
  rw[Ab.dC,tN] at this
  have H:aR V k (vq (V k) (a.word % 2) a.value)=pS V a.word.toNat a.value:=by
   unfold pS vq;rw[x];congr 1;by_cases e:a.word % 2=0;rw[aLb e,aLb (em.2 e)];grind
  grind
theorem RX.access (hC:C.Ok) (p:eI C N M) (h:RX C A0 M V) {i:Nat} {a:Acc} (g:(i:Int)<C.aE) (B:M.bY.calls i=false) (t:aK.hQ (M.aD i)=some a):
  ∃V',RX C A0 (M.access C i a).1 V':=by
 have v:i<4:=by have:=hC.1;omega
 have I:C.lines=(C.aS*2).toNat:=by unfold bM.lines;omega
 unfold cT.access
 by_cases d:0<=a.word/\a.word<C.lines*2
 rotate_left
 .rw[aLb d];exact⟨V,h.Js hC p B rfl rfl rfl rfl rfl rfl h.Nz (Lj (A:=tP C M V) (b:=false) g t (by unfold AM.may;exact aLa d))⟩
 rw[aLa (fun e=>e d)]
 dsimp only
 by_cases j:((M.cG i).ask C (M.aD i).world (a.word/2/2)).2≠0
 .grind
 rw[aLa j]
 have j:((M.cG i).ask C (M.aD i).world (a.word/2/2)).2=0:=Decidable.not_not.1 j
 unfold kO.ask at j ⊢
 split at j
 rotate_left
 .cases j
 rename_i u
 rw[aLb u]
 cases hkn:kE (M.cG i).known (a.word/2/2) with
 |none=>
  dsimp only
  rw[aLb rfl]
  unfold cT.walk
  dsimp only
  by_cases k:((M.cG i).begin C (a.word/2/2)).2.2≠0
  .grind
  rw[aLa k]
  have k:((M.cG i).begin C (a.word/2/2)).2.2=0:=Decidable.not_not.1 k
  split
  .exact⟨V,h⟩
  .rename_i q;have E:=(xB (Decidable.not_not.1 q)).1;refine⟨V,?_,?_,h.swp,h.ask,h.log⟩
   .exact(h.Nz.more (N':=[_]) (fun x O=>by rw[List.mem_singleton.1 O];show ¬PK 6;decide)).perm E.symm
   .exact(h.pR.walk g k).perm E.symm
 |some o=>
  dsimp only
  have D:=aEj (world:=(M.aD i).world) p h g d I hkn
  have z:M.known i (a.word/2/2)=o:=by unfold cT.known;rw[hkn];rfl
  by_cases f:zW (M.aD i).world o=true
  rotate_left
  .have e:(if zW (M.aD i).world o=true then((1:Int),(0:Int)) else(2,0))=(2,0):=aLa f;simp only[e];rw[aLa (by decide),aLb trivial];have f:zW (M.aD i).world o=false:=by simpa using f
   exact⟨V,h.Js hC p B rfl rfl rfl rfl rfl rfl h.Nz (Lj (A:=tP C M V) (b:=false) g t (by grind))⟩
  .have e:(if zW (M.aD i).world o=true then((1:Int),(0:Int)) else(2,0))=(1,0):=aLb f;simp only[e];rw[aLa (by decide),aLa (by decide),z];split
   .unfold cT.want;dsimp only;obtain⟨P,out,e,H,F,_⟩:=h.Nz.aI2 hC v g (l:=a.word/2) (w:=(M.aD i).world) (wr:=a.write);have y:=qs (C:=C) (core:=(i:Int)) (s:=M.dD i) (l:=a.word/2) (w:=(M.aD i).world) (wr:=a.write);rw[H] at y ⊢;dsimp only at y ⊢;split
    .exact⟨V,h⟩
    .split
     .exact⟨V,h⟩
     .rename_i q;exact⟨V,h.aJz (xB (Decidable.not_not.1 q)).1 y rfl rfl rfl rfl rfl rfl F⟩
   .rename_i J;refine h.pO hC p g B t d (by grind) ?_;grind
end
section
variable {C:bM} {N:Nat} {M M':cT} {V V':Nat->Ln} {A0:AM}
theorem aFa (a:eI C N M) {g:Nat} (h:M.bY.phase g=0):M.bY.runs g=none:=by
 unfold Mon.phase Mon.run at h;rw[aLb (by omega),Int.toNat_natCast] at h;cases hr:M.bY.runs g with
 |none=>rfl
 |some r=>rw[hr] at h;have:=(a.bY.run g r hr).2.2.1;dsimp only at h;omega
theorem Vc {es:List iE} {g:Nat} {b:Bool}:(es.set g ⟨(es.getD g iM).owner,b⟩).map iE.owner=es.map iE.owner:=by
 apply List.ext_getElem?;intro k;rw[List.getElem?_map,List.getElem?_map,List.getElem?_set];by_cases e:g=k;subst e;rw[aLb rfl];by_cases h:g<es.length;rw[aLb h,List.getD_eq_getElem?_getD,List.getElem?_eq_getElem h];rfl;rw[aLa h,List.getElem?_eq_none (by omega)];rw[aLa e]
theorem RX.call (hC:C.Ok) (u:eI C N M) (h:RX C A0 M V) {i:Nat} {a:Mc.Ask} (T:(i:Int)<C.aE) (I:M.bY.calls i=false) (v:aK.rV (M.aD i) i=some a):RX C A0 (M.call C i a).1 V:=by
 have w:a.core=i:=by obtain⟨x,_,_,rfl⟩:=Rc v;rfl
 have H:=u.bY.len;have S:=hC.2.1;unfold cT.call;dsimp only;have fail:∀e:Int,(tP C M V).call a.call a.world a.bI a.to (decide (e=17))=(tP C M V,e)->RX C A0 (M.bG i 0 e).1 V:=fun e P=>
  h.Js hC u I rfl rfl rfl rfl rfl rfl h.Nz (S8 (A:=tP C M V) T v P)
 have j:(tP C M V).dA.length=M.bY.dN.length:=by grind
 have E:¬¬(0<=a.core/\a.core<C.aE):=by omega
 by_cases k:M.bY.has a.bI;rotate_left;have b:M.bY.call C.aE a=(M.bY,false,10):=by unfold Mon.call;rw[aLa E,aLb k]
 rw[b];dsimp only;rw[aLb (by decide)];refine fail 10 ?_;unfold AM.call;rw[aLb (by rw[j];exact k)];have s:¬¬M.bY.has a.bI:=fun e=>e k;have q:0<=a.bI/\a.bI<M.bY.dN.length:=k;obtain⟨g,p⟩:=Int.eq_ofNat_of_zero_le q.1;by_cases J:M.bY.phase a.bI≠0;have b:M.bY.call C.aE a=(M.bY,false,17):=by unfold Mon.call;rw[aLa E,aLa s,aLb J]
 rw[b];dsimp only;rw[aLb (by decide)];refine fail 17 ?_;unfold AM.call;grind;have R:¬M.bY.calls a.core=true:=by rw[w,I];simp
 have t:M.bY.phase g=0:=by grind
 have D:=aFa u t;have F:(tP C M V).dA.getD a.bI.toNat 0=(M.bY.kX a.bI).owner:=by
  show(M.bY.dN.map iE.owner).getD _ _=_;rw[Mn (by omega)];rfl
 by_cases o:(fN a.call a.world (M.bY.kX a.bI).owner a.to).2.2≠0;have b:M.bY.call C.aE a=(M.bY,false,(fN a.call a.world (M.bY.kX a.bI).owner a.to).2.2):=by unfold Mon.call;grind
 rw[b];dsimp only;rw[aLb o];refine fail _ ?_;unfold AM.call;grind;have b:M.bY.call C.aE a=((M.bY.qD a.bI.toNat ⟨(M.bY.kX a.bI).owner,true⟩).cK a.bI.toNat (some (a.run C.aE (fN a.call a.world (M.bY.kX a.bI).owner a.to))),true,0):=by
  unfold Mon.call;grind
 rw[b];dsimp only;rw[aLa (by simp)];have o:(fN a.call a.world (M.bY.kX a.bI).owner a.to).2.2=0:=Decidable.not_not.1 o;split;exact h;rename_i O;have B:=(xB (Decidable.not_not.1 O)).1;have z:(g:Int)<C.aS:=by omega
 rw[p] at B ⊢;rw[Int.toNat_natCast];constructor;exact(h.Nz.more (fun x U=>by rw[(Cj U).1];decide)).perm B.symm;exact(h.pR.calls hC (by omega) z D).perm B.symm;intro d r b f;have b:aR M.bY.runs g _ d=some r:=b;unfold aR at b;by_cases e:d=g;rw[aLb e] at b;cases b;exact absurd (show(1:Int)=2 from f) (by decide);rw[aLa e] at b;exact h.swp d r b f;intro d r b;have b:aR M.bY.runs g _ d=some r:=b;unfold aR at b;show aK.rV (M.aD r.core.toNat) r.core.toNat=_/\fN r.call r.world ((M.bY.qD g ⟨(M.bY.kX g).owner,true⟩).kX d).owner r.to=_;rw[Jh (by omega) (by omega)];by_cases e:d=g;rw[aLb e] at b;cases b;rw[aLb (by omega),e];have y:(a.run C.aE (fN a.call a.world (M.bY.kX g).owner a.to)).core.toNat=i:=by show a.core.toNat=i;omega
 rw[y];refine⟨?_,?_⟩;rw[v];obtain⟨W,c2,c3,X,c5⟩:=a;dsimp only at p;rw[p];rfl;rw[<-p];exact Prod.ext rfl (Prod.ext rfl o);rw[aLa e] at b;rw[aLa (by omega)];exact h.ask d r b;show lY A0 M.log 0=(⟨C,M.aD,(M.bY.dN.set g ⟨(M.bY.kX g).owner,true⟩).map iE.owner,V⟩,_,_);have:(M.bY.dN.set g ⟨(M.bY.kX g).owner,true⟩).map iE.owner=M.bY.dN.map iE.owner:=by
  unfold Mon.kX;rw[Int.toNat_natCast];exact Vc
 rw[this];exact h.log
theorem RX.step (hC:C.Ok) (j:eI C N M) (h:RX C A0 M V) {a:Int}:∃V',RX C A0 (M.step C a).1 V':=by
 unfold cT.step;by_cases g:0<=a/\a<C.aE;rotate_left;grind;rw[aLa (fun e=>e g)];dsimp only;obtain⟨i,q⟩:=Int.eq_ofNat_of_zero_le g.1;subst q;rw[Int.toNat_natCast];split;exact⟨V,h⟩;split;exact⟨V,h⟩;rename_i f;have f:M.bY.calls (i:Int)=false:=by unfold cT.waits at f;simpa using f
 split;rename_i r k;obtain⟨o,p⟩:=Tu (A:=tP C M V) (b:=false) g.2 k;exact⟨V,h.turns hC j f (s:=r.1) (v:=r.2) rfl rfl rfl rfl rfl rfl h.Nz (Mf k) (by rw[p];exact o)⟩;split;rename_i a d;exact⟨V,h.call hC j g.2 f d⟩;split;rename_i a d;exact h.access hC j g.2 f d;exact⟨V,h⟩
theorem xO {g:Nat} (a:(g:Int)<C.aS):g*2<C.lines/\g*2+1<C.lines:=by unfold bM.lines;omega
theorem RX.Yg (B:eI C N M) (h:RX C A0 M V) {a:Int}:RX C A0 (M.begin C a).1 V:=by
 unfold cT.begin;dsimp only;obtain⟨s,out,e,u,D,_,O⟩:=h.Nz.Yg (l:=a) (j:=M.Gh C a);have f:=Kv (C:=C) (H:=M.home) (l:=a) (j:=M.Gh C a);have d:(iC C M.home a (M.Gh C a)).1=s:=by rw[u]
 rw[u] at f ⊢;dsimp only at f ⊢;split;exact h;split;exact h;rename_i z;have v:=(xB (Decidable.not_not.1 z)).1;refine⟨D.perm v.symm,(h.pR.more f).perm v.symm,fun g r q p=>?_,h.ask,h.log⟩;have hold:=h.swp g r q p;have b:=(B.bY.run g r q).1;have I:=(h.pR.lock g b).2 (by rw[q];rfl);have J:∀k:Nat,k<C.lines->k/2=g->K9 (M.home k).1->K9 (s k).1:=fun k o F y=>by
  by_cases e:(k:Int)=a;subst e;have E:∀x,(M.Gh C k x).2=false:=fun x=>by
   unfold cT.Gh;grind
  rw[<-d];unfold iC;rw[aLb (by unfold bM.has;omega),Int.toNat_natCast];show K9 (aR M.home k _ k).1;rw[Ab.dC];unfold lX.begin;by_cases t:(M.home k).1.busy=true;grind;rw[aLa t];cases hwt:(M.home k).1.waits with
  |nil=>exact y
  |cons n w=>exact y.begun (by simpa using t) hwt (h.Nz.line k o) E
  grind
 have P:=xO b;grind
theorem yh {n:aJ} (h:Nt.pR C n=0) (b:n.kind=7\/n.kind=13):0<=n.no/\n.no<C.aS:=by
 unfold Nt.pR at h;split at h;split at h;split at h;rename_i f;have a:=f.1;have:Dx n.kind.toNat=[1,13]:=by rcases b with e|e<;>rw[e]<;>rfl
 rw[this] at a;unfold oO at a;split at a;unfold oO at a;split at a;rename_i d;exact d;cases a;cases a;cases h;cases h;cases h
theorem RX.fM (hC:C.Ok) (v:eI C N M) {n:aJ} {L:List aJ} (hp:(sG C M.kL).Perm (n::L)) (hn:Nt.pR C n=0) (h:RX C A0 M V) (o:(M.fM C n).2.2=0):
  ∀F:gO,(sG C F).Perm ((M.fM C n).2.1++L)->RX C A0 ((M.fM C n).1.dR F) V:=by
 intro F hF
 have p:=h.Nz.perm hp
 have f:=h.pR.perm hp
 obtain⟨ε,W⟩:=Ff hn
 obtain⟨i,T⟩:=Int.eq_ofNat_of_zero_le W.1
 have E:n.core.toNat=i:=by omega
 have t:(i:Int)<C.aE:=by omega
 have γ:=v.bY.len
 have δ:=hC.2.1
 unfold cT.fM at o hF ⊢
 by_cases k1:n.kind=1\/n.kind=2\/n.kind=3\/n.kind=4\/n.kind=5
 .rw[aLb k1] at o hF ⊢;dsimp only at o hF ⊢;obtain⟨H',out,S,U,_,hH⟩:=p.homes hC (by omega);have y:=Pf (C:=C) (H:=M.home) (n:=n);rw[S] at hF y;dsimp only at hF y;have D:(fF C M.home n).1=H':=by rw[S]
  rw[D]
  refine⟨U.perm hF.symm,((f.skip (by unfold KK;omega)).more y).perm hF.symm,fun g r O q=>?_,h.ask,h.log⟩
  have hold:=h.swp g r O q
  have hl:=xO (v.bY.run g r O).1
  have θ:∀k:Nat,k<C.lines->K9 (M.home k).1->K9 (H' k).1:=fun k Z hs=>by
   by_cases e:(k:Int)=n.line;rw[<-D];have J:=p.nb n List.mem_cons_self (by unfold PK;omega);unfold fF;rw[aLa (by unfold Hm.fM;omega),aLb ⟨J.1,by unfold bM.has;exact J.2⟩];show K9 (aR M.home n.line.toNat _ k).1;rw[show n.line.toNat=k by omega,Ab.dC,<-e];have v:=p.line k Z;rw[Mk e.symm (by unfold PK;omega)] at v;exact hs.take v (by omega);grind
  grind
 rw[aLa k1] at o hF ⊢
 by_cases k2:n.kind=8\/n.kind=9\/n.kind=10\/n.kind=11
 .rw[aLb k2] at o hF ⊢;dsimp only at o hF ⊢;obtain⟨s',out,S,U,_⟩:=p.cache hC (by omega);have y:=dz (C:=C) (core:=n.core) (s:=M.dD n.core.toNat) (n:=n);rw[S] at hF y ⊢;dsimp only at hF y ⊢;exact⟨U.perm hF.symm,((f.skip (by unfold KK;omega)).more y).perm hF.symm,h.swp,h.ask,h.log⟩
 rw[aLa k2] at o hF ⊢
 have β:¬PK n.kind:=by unfold PK;omega
 have b:=p.skip β
 by_cases k6:n.kind=6
 .rw[aLb k6] at o hF ⊢;dsimp only at o hF ⊢;exact⟨(b.more (N':=[_]) (fun x z=>by rw[List.mem_singleton.1 z];show ¬PK 12;decide)).perm hF.symm,(f.asked (by omega) (by omega) v.bY.own t T k6).2.perm hF.symm,h.swp,h.ask,h.log⟩
 rw[aLa k6] at o hF ⊢
 by_cases B:n.kind=12
 .rw[aLb B] at o hF ⊢;dsimp only at o hF ⊢;rw[E] at hF ⊢;refine⟨(b.more (fun x z=>?_)).perm hF.symm,(f.walked t T B (by omega)).2.perm hF.symm,h.swp,h.ask,h.log⟩;split at z
  .cases z
  .rw[List.mem_singleton.1 z];show ¬PK 6;decide
 rw[aLa B] at o hF ⊢
 by_cases u:n.kind=13
 .rw[aLb u] at o hF ⊢;dsimp only at o hF ⊢;rw[E];exact⟨(b.more (N':=[_]) (fun x z=>by rw[List.mem_singleton.1 z];show ¬PK 7;decide)).perm hF.symm,(f.dropped t T u (yh hn (.inr u))).2.perm hF.symm,h.swp,h.ask,h.log⟩
 rw[aLa u] at o hF ⊢
 by_cases k7:n.kind=7
 rotate_left
 .grind
 rw[aLb k7] at o hF ⊢
 dsimp only at o hF ⊢
 have α:=yh hn (.inl k7)
 obtain⟨g,hg⟩:=Int.eq_ofNat_of_zero_le α.1
 obtain⟨r,O,ζ,η,X,I⟩:=f.heard (g:=g) hC v.bY t T k7 hg
 rw[X]
 rw[List.nil_append] at hF
 dsimp only
 have Y:=(v.bY.run g r O).1
 have hl:=xO Y
 have w:∀j d,(M.bY.cK g (some (r.heard i).hU)).runs j=some d->aK.rV (M.aD d.core.toNat) d.core.toNat=some ⟨d.core,d.world,d.call,j,d.to⟩/\fN d.call d.world (M.bY.kX j).owner d.to=(d.then',d.jO,0):=fun j d a=>by
  have a:aR M.bY.runs g _ j=some d:=a;unfold aR at a;by_cases e:j=g;subst e;rw[aLb rfl] at a;cases a;exact h.ask j r O;rw[aLa e] at a;exact h.ask j d a
 by_cases ha:(r.heard i).none=true
 .rw[ha,aLb rfl];refine⟨?_,I.perm hF.symm,fun j d a q=>?_,w,h.log⟩
  .exact(b.Aa.Aa).perm hF.symm
  .have a:aR M.bY.runs g _ j=some d:=a;unfold aR at a;have P:∀k:Nat,yQ C M.home n.no k=if k=g*2\/k=g*2+1 then lX.yj (M.home k) k else M.home k:=fun k=>by
    have e1:n.no*2=((g*2:Nat):Int):=by omega
    have R:n.no*2+1=((g*2+1:Nat):Int):=by omega
    unfold yQ jI;rw[R,e1,aLb (by unfold bM.has;omega),aLb (by unfold bM.has;omega),Int.toNat_natCast,Int.toNat_natCast];dsimp only;by_cases e:k=g*2;subst e;rw[Ab.cH (by omega),Ab.dC,aLb (.inl rfl)];by_cases R:k=g*2+1;subst R;rw[Ab.dC,aLb (.inr rfl),Ab.cH (by omega)];rw[Ab.cH R,Ab.cH e,aLa (by omega)]
   show K9 (yQ C M.home n.no (j*2)).1/\K9 (yQ C M.home n.no (j*2+1)).1
   rw[P,P]
   by_cases e:j=g
   .subst e;rw[aLb (.inl rfl),aLb (.inr rfl)];exact⟨.inl E2,.inl E2⟩
   .rw[aLa e] at a;rw[aLa (by omega),aLa (by omega)];exact h.swp j d a q
 .rw[aLa ha];refine⟨b.perm hF.symm,I.perm hF.symm,fun j d a q=>?_,w,h.log⟩;have a:aR M.bY.runs g _ j=some d:=a;unfold aR at a;by_cases e:j=g
  .rw[aLb e] at a;cases a;have:(if(r.heard i).none=true then(2:Int) else r.phase)=2:=q;grind
  .rw[aLa e] at a;exact h.swp j d a q
theorem RX.r9 (hC:C.Ok) (e:eI C N M) (h:RX C A0 M V) {a b c:Int}:RX C A0 (M.sU C a b c).1 V:=by
 unfold cT.sU;dsimp only;split;exact h;rename_i d;have d:(M.kL.take C a b c).2.2=0:=Decidable.not_not.1 d;split;exact h;rename_i f;split;exact h;rename_i g;have j:=(xB (Decidable.not_not.1 g)).1;exact h.fM hC e (pw d) (Nj e.kL d).1.pR (Decidable.not_not.1 f) _ j
end
section
variable {C:bM} {N:Nat} {M M':cT} {V V':Nat->Ln} {A0:AM}
theorem Cq {H:kN} {k:Nat} (f:k<C.lines) (h:¬fH C H k>0):¬Nn (H k).1:=by
 unfold fH at h;rw[aLb (by unfold bM.has;omega),Int.toNat_natCast] at h;unfold Row.Aa at h;rintro (⟨d,e⟩|⟨x,b,a⟩);grind;have:0<((H k).1.waits.filter fun n=>decide (n.kind=0)).length:=List.length_pos_iff.2 (List.ne_nil_of_mem (List.mem_filter.2 ⟨b,decide_eq_true a⟩));split at h<;>omega
theorem _root_.Go.Pc.nI.jO {H:kN} {X:Nat->gZ} {L:List aJ} {g:Nat} (h:nI C H X V L) (_s:(g:Int)<C.aS) (k:Pc.Clean (H (g*2)).1) (o:Pc.Clean (H (g*2+1)).1):nI C (mY H g) X (At.jO V g) L:=by
 refine⟨fun l q=>?_,h.uS,h.room,h.new,h.nb⟩;have b:=h.line l q;have a:Pc.Clean (H l).1->Inv l (H l).1 (0,0) (0,0) (cls C X l) (Gu l L):=fun p=>by
  obtain⟨j,c2⟩:=b.clean p;exact b.wq j fun x f=>⟨(c2 x f).1,fun e=>absurd e (c2 x f).2.1⟩
 unfold mY At.jO;by_cases e:l=g*2;subst e;rw[aLb (.inl (by omega)),Ab.cH (by omega),Ab.dC];exact a k;by_cases d:l=g*2+1;subst d;rw[aLb (.inr (by omega)),Ab.dC];exact a o;rw[aLa (by omega),Ab.cH d,Ab.cH e];exact b
theorem jg (h:RX C A0 M V) {a:Int} (f:(M.finish C a).2=0):
  ∃g r,a=((g:Nat):Int)/\(g:Int)<C.aS/\M.bY.runs g=some r/\r.phase=2/\(Pc.Clean (M.home (g*2)).1/\Pc.Clean (M.home (g*2+1)).1)/\
   M.finish C a=cT.bG (if r.jO then(M.kD ((M.bY.qD r.bI.toNat ⟨r.then',false⟩).cK g none)).pZ (mY M.home r.bI) else M.kD ((M.bY.qD r.bI.toNat ⟨r.then',false⟩).cK g none)) r.core.toNat 0 0:=by
 unfold cT.finish at f ⊢
 by_cases k:0<=a/\a<C.aS
 rotate_left
 .rw[aLb k] at f;cases f
 rw[aLa (fun e=>e k)] at f ⊢
 obtain⟨g,s⟩:=Int.eq_ofNat_of_zero_le k.1
 subst s
 by_cases d:M.hU C g=false
 .grind
 rw[aLa d] at f ⊢
 have d:M.hU C g=true:=by simpa using d
 unfold cT.hU at d
 simp only[Bool.and_eq_true,decide_eq_true_eq,Bool.not_eq_true',decide_eq_false_iff_not] at d
 obtain⟨⟨j,v⟩,o⟩:=d
 have b:M.bY.run g=M.bY.runs g:=by unfold Mon.run;rw[aLb (by omega),Int.toNat_natCast]
 cases hr:M.bY.runs g with
 |none=>unfold Mon.phase at j;rw[b,hr] at j;cases j
 |some r=>
  have u:r.phase=2:=by unfold Mon.phase at j;grind
  have q:=xO k.2
  have hold:=h.swp g r hr u
  have w:Pc.Clean (M.home (g*2)).1:=by
   rcases hold.1 with e|e;exact absurd e (Cq q.1 (by grind));exact e
  have x:Pc.Clean (M.home (g*2+1)).1:=by
   rcases hold.2 with e|e;exact absurd e (Cq q.2 (by rw[show((g*2+1:Nat):Int)=(g:Int)*2+1 by omega];exact o));exact e
  by_cases p:M.bY.has g
  .have t:M.bY.over g=((M.bY.qD r.bI.toNat ⟨r.then',false⟩).cK g none,some r,0):=by
    unfold Mon.over;rw[aLa (fun e=>e p),b,hr];dsimp only;grind
   grind
  .exfalso;have t:M.bY.over g=(M.bY,none,10):=by unfold Mon.over;rw[aLb p]
   grind
def aG8 (V:Nat->Ln) (b:Bool) (g:Nat):Nat->Ln:=if b then At.jO V g else V
theorem RX.finish (hC:C.Ok) (w:eI C N M) (U:W5 M) (h:RX C A0 M V) {g:Nat} {r:Mc.jG} (p:(g:Int)<C.aS) (u:M.bY.runs g=some r) (Y:r.phase=2) (o:Pc.Clean (M.home (g*2)).1/\Pc.Clean (M.home (g*2+1)).1):
  RX C A0 (cT.bG (if r.jO then(M.kD ((M.bY.qD r.bI.toNat ⟨r.then',false⟩).cK g none)).pZ (mY M.home r.bI) else M.kD ((M.bY.qD r.bI.toNat ⟨r.then',false⟩).cK g none)) r.core.toNat 0 0).1 (Mc.aG8 V r.jO g)/\
  (cT.bG (if r.jO then(M.kD ((M.bY.qD r.bI.toNat ⟨r.then',false⟩).cK g none)).pZ (mY M.home r.bI) else M.kD ((M.bY.qD r.bI.toNat ⟨r.then',false⟩).cK g none)) r.core.toNat 0 0).2=0:=by
 obtain⟨I,X⟩:=h.ask g r u
 have J:=w.bY.len
 have q:=w.bY.run g r u
 obtain⟨i,hi⟩:=Int.eq_ofNat_of_zero_le q.2.2.2.1.1
 have z:r.core.toNat=i:=by omega
 have y:(i:Int)<C.aE:=by omega
 rw[z] at I
 have W:r.bI=g:=q.2.1
 have t:(tP C M V).dA.length=M.bY.dN.length:=by show(M.bY.dN.map _).length=_;rw[List.length_map]
 have k:(tP C M V).dA.getD (g:Int).toNat 0=(M.bY.kX g).owner:=by
  show(M.bY.dN.map iE.owner).getD _ _=_;rw[Mn (by omega)];rfl
 have f:(tP C M V).call r.call r.world g r.to (decide ((0:Int)=17))=(⟨C,M.aD,(M.bY.dN.map iE.owner).set g r.then',Mc.aG8 V r.jO g⟩,0):=by
  unfold AM.call;rw[aLa (by rw[t];omega),aLa (by decide),k,X,aLa (by simp)];rfl
 have E:=S8 (A:=tP C M V) (e:=0) y I f
 obtain⟨v,H,x⟩:=E
 have x:gD (aK.bG (M.aD i) i 0 0).2.1=false:=x
 have v:(tP C M V).step i false=_:=v
 have j:=vG H
 generalize T:(if r.jO then(M.kD ((M.bY.qD r.bI.toNat ⟨r.then',false⟩).cK g none)).pZ (mY M.home r.bI) else M.kD ((M.bY.qD r.bI.toNat ⟨r.then',false⟩).cK g none))=M1
 have F:M1.aD=M.aD:=by grind
 have Z:M1.log=M.log:=by grind
 have s:M1.bY=(M.bY.qD g ⟨r.then',false⟩).cK g none:=by grind
 have O:M1.home=if r.jO then mY M.home g else M.home:=by grind
 have m5:M1.cG=M.cG:=by grind
 have P:M1.kL=M.kL:=by grind
 have m7:M1.dD=M.dD:=by grind
 have R:M1.bG r.core.toNat 0 0=((M1.nT i (aK.bG (M.aD i) i 0 0).1).Sp (aK.bG (M.aD i) i 0 0).2.1,0):=by
  unfold cT.bG;dsimp only;have S:(aK.bG (M1.aD i) i 0 0).2.2=0:=by rw[F];exact H
  grind
 rw[R]
 refine⟨?_,rfl⟩
 constructor
 case Nz=>
  show nI C M1.home M1.dD _ (sG C M1.kL)
  rw[O,P,m7]
  unfold Mc.aG8
  split
  .exact h.Nz.jO p o.1 o.2
  .exact h.Nz
 case pR=>
  show iP C M1.cG M1.bY (sG C M1.kL)
  rw[s,m5,P]
  exact(h.pR.over hC (by omega) p u Y).1
 case swp=>
  show∀b d,M1.bY.runs b=some d->d.phase=2->K9 (M1.home (b*2)).1/\K9 (M1.home (b*2+1)).1
  rw[s,O]
  intro b d a D
  have a:aR M.bY.runs g none b=some d:=a
  unfold aR at a
  by_cases e:b=g
  .grind
  .rw[aLa e] at a;have:=h.swp b d a D;split
   .unfold mY;grind
   .exact this
 case ask=>
  intro b d a
  have a:M1.bY.runs b=some d:=a
  rw[s] at a
  have a:aR M.bY.runs g none b=some d:=a
  unfold aR at a
  by_cases e:b=g
  .grind
  rw[aLa e] at a
  have B:d.core.toNat≠i:=fun e2=>by
   have h1:=(w.bY.run b d a).2.2.2.1;refine e (U.one b g r.core ?_ ?_);unfold rc;grind;unfold rc;rw[u];rfl
  show aK.rV (aR M1.aD i _ d.core.toNat) _=_/\fN _ _ (M1.bY.kX b).owner _=_
  rw[F,s,Ab.cH B]
  have:((M.bY.qD g ⟨r.then',false⟩).cK g none).kX b=M.bY.kX b:=by
   show(M.bY.qD g _).kX b=_;rw[Jh (by omega) (by omega),aLa (by omega)]
  rw[this]
  exact h.ask b d a
 case log=>
  rw[<-j,<-x] at v
  have:=Vw h.log v
  show lY A0 (M1.log++_) 0=(⟨C,aR M1.aD i _,M1.bY.dN.map iE.owner,_⟩,(M1.log++_).length,0)
  rw[F,Z,s,this]
  have:((M.bY.qD g ⟨r.then',false⟩).cK g none).dN.map iE.owner=(M.bY.dN.map iE.owner).set g r.then':=by
   show(M.bY.dN.set g _).map _=_;rw[List.map_set]
  rw[this]
theorem RX.sq (hC:C.Ok) (t:eI C N M) (u:W5 M) (h:RX C A0 M V) {a:Int}:∃V',RX C A0 (M.finish C a).1 V':=by
 by_cases b:(M.finish C a).2=0;obtain⟨g,r,rfl,d,j,f,s,y⟩:=jg h b;rw[y];exact⟨_,(h.finish hC t u d j f s).1⟩;refine⟨V,?_⟩;suffices p:(M.finish C a).1=M by rw[p];exact h
 unfold cT.finish at b ⊢;by_cases o:¬(0<=a/\a<C.aS);rw[aLb o];rw[aLa o] at b ⊢;by_cases q:M.hU C a=false;rw[aLb q];rw[aLa q] at b ⊢;dsimp only at b ⊢;cases ho:(M.bY.over a).2.1 with
 |none=>rfl
 |some r=>
  rw[ho] at b;exfalso;obtain⟨g,z⟩:=Int.eq_ofNat_of_zero_le (Decidable.not_not.1 o).1;subst z;have B:M.bY.has g:=by
   apply Classical.byContradiction;intro e;unfold Mon.over at ho;rw[aLb e] at ho;cases ho
  have k:M.bY.run g=M.bY.runs g:=by unfold Mon.run;rw[aLb (by omega),Int.toNat_natCast]
  unfold Mon.over at ho b;rw[aLa (fun e=>e B),k] at ho b;cases j:M.bY.runs g with
  |none=>grind
  |some D=>
   rw[j] at ho b;dsimp only at ho b;split at ho;cases ho;rename_i f;rw[aLa f] at b;cases ho;have d:=(Decidable.not_not.1 o).2;have p:M.hU C g=true:=by simpa using q
   unfold cT.hU at p;simp only[Bool.and_eq_true,decide_eq_true_eq,Bool.not_eq_true',decide_eq_false_iff_not] at p;have f:r.phase=2:=Decidable.not_not.1 f;have v:=xO d;have hold:=h.swp g r j f;have w:Pc.Clean (M.home (g*2)).1:=by
    rcases hold.1 with e|e;exact absurd e (Cq v.1 (by grind));exact e
   have x:Pc.Clean (M.home (g*2+1)).1:=by
    rcases hold.2 with e|e;exact absurd e (Cq v.2 (by grind));exact e
   have:=(h.finish hC t u d j f ⟨w,x⟩).2;grind
theorem RX.Ey (hC:C.Ok) (a:eI C N M) (b:W5 M) (h:RX C A0 M V) {d:Do}:∃V',RX C A0 (M.Ey C d).1 V':=by
 unfold cT.Ey;split;exact h.step hC a;split;exact⟨V,h.r9 hC a⟩;split;exact⟨V,h.Yg a⟩;split;exact h.sq hC a b;exact⟨V,h⟩
structure RA (C:bM) (A0:AM) (S:Nat->aK) (N:Nat) (M:cT):Prop where
 all:y6 C S N M
 rx:∃V,RX C A0 M V
theorem RA.Ey {S:Nat->aK} (hC:C.Ok) (h:RA C A0 S N M) {d:Do}:RA C A0 S (N+2) (M.Ey C d).1:=by
 obtain⟨V,a⟩:=h.rx;exact⟨h.all.Ey hC,a.Ey hC h.all.inv h.all.wait⟩
theorem RA.runs {S:Nat->aK} (hC:C.Ok):∀{l:List Do} {N:Nat} {M:cT},RA C A0 S N M->RA C A0 S (N+2*l.length) (M.runs C l):=by
 intro l;induction l with
 |nil=>intro N M h;exact h
 |cons d l a=>
  intro N M h;have:=a (h.Ey (d:=d) hC);rw[List.length_cons,show N+2*(l.length+1)=N+2+2*l.length by omega];exact this
end
section
variable {C:bM}
theorem RX.new {ps:List (List Ins)} {ws os vs:List Int} (hC:C.Ok) (b:(os.length:Int)=C.aS):RX C (Xf C ps ws os vs) (MC.new ⟨C,ps,ws,os,vs⟩) (At.words nE vs 0):=by
 have f:∀F:Nat->List aJ,(∀c,F c=[])->(List.range C.aE.toNat).flatMap F=[]:=fun F h=>by
  simp_all
 have a:sG C (MC.new ⟨C,ps,ws,os,vs⟩).kL=[]:=by
  unfold sG;exact f _ fun c=>by rw[List.flatMap_eq_nil_iff];exact fun _ _=>rfl
 constructor;rw[a];refine⟨fun l b=>?_,fun _ _=>U8,fun _ _=>Room.new,fun _ _=>rfl,fun _ h=>by cases h⟩;have e:((MC.new ⟨C,ps,ws,os,vs⟩).home l).1=xN:=by
  show(sE C.lines l).1=xN;unfold sE;rw[aLb b]
 rw[e];have d:cls C (MC.new ⟨C,ps,ws,os,vs⟩).dD l=fun _=>⟨0,(0,0),false,false,false,0,(0,0)⟩:=by
  funext i;exact u0
 rw[d];show Inv l xN (At.words nE vs 0 l) (At.words nE vs 0 l) _ [];exact(Inv.zero l).wq (fun _ _=>rfl) (fun _ h=>by cases h);rw[a];refine iP.new (es:=os.map fun o=>(⟨o,false⟩:iE)) (by grind) hC.2.1.1 fun x g=>?_;grind;exact fun _ _ h=>by cases h
 exact fun _ _ h=>by cases h
 show((Xf C ps ws os vs),0,0)=(_,0,0);have:(os.map fun o=>(⟨o,false⟩:iE)).map iE.owner=os:=by
  rw[List.map_map];show os.map (fun o=>o)=os;exact List.map_id' os
 show _=((⟨C,_,(os.map fun o=>(⟨o,false⟩:iE)).map iE.owner,_⟩:AM),0,0);rw[this];rfl
def fA (mem:Nat->Ln) (n:Nat):List Int:=(List.range n).map (lQ mem)
theorem mC {mem:Nat->Ln} {n:Nat}:(fA mem n).length=n:=by unfold fA;simp
theorem xZ {mem:Nat->Ln} {n w:Nat} (h:w<n):(fA mem n)[w]?=some (lQ mem w):=by unfold fA;simp[h]
theorem tG {mem:Nat->Ln} {w k:Nat} {v:Int}:lQ (pS mem w v) k=if k=w then v else lQ mem k:=by
 unfold lQ pS aR;grind
theorem rM {mem:Nat->Ln} {n w:Nat} {v:Int}:fA (pS mem w v) n=(fA mem n).set w v:=by
 apply List.ext_getElem?;intro k;rw[List.getElem?_set];by_cases a:k<n;rw[xZ a,tG,mC];by_cases e:w=k;grind;rw[aLa (fun h=>e h.symm),aLa e,xZ a];rw[List.getElem?_eq_none (by rw[mC];omega),mC];split;grind;rw[List.getElem?_eq_none (by rw[mC];omega)]
theorem V3 {mem:Nat->Ln} {g n:Nat}:fA (At.jO mem g) n=((((fA mem n).set (4*g) 0).set (4*g+1) 0).set (4*g+2) 0).set (4*g+3) 0:=by
 rw[<-rM,<-rM,<-rM,<-rM];unfold fA;refine List.map_congr_left fun k _=>?_;rw[tG,tG,tG,tG];unfold At.jO lQ aR;grind
theorem Xi {C:bM} {vs:List Int} (h:vs.length=C.lines*2):fA (At.words nE vs 0) (C.lines*2)=vs:=by
 have a:∀(l:List Int) (mem:Nat->Ln) (i k:Nat),lQ (At.words mem l i) k=if i<=k then(l[k - i]?).getD (lQ mem k) else lQ mem k:=by
  intro l;induction l with
  |nil=>intro mem i k;simp[At.words]
  |cons v l d=>
   intro mem i k;show lQ (At.words (pS mem i v) l (i+1)) k=_;rw[d,tG];grind
 apply List.ext_getElem?;intro k;by_cases b:k<C.lines*2;rw[xZ b,a,aLb (Nat.zero_le k),Nat.sub_zero,List.getElem?_eq_getElem (by omega)];rfl;rw[List.getElem?_eq_none (by rw[mC];omega),List.getElem?_eq_none (by omega)]
theorem xo {A:AM} {x:Ev} (h:Oi A x=0):
  ∃i:Nat,x.core=(i:Int)/\(i:Int)<A.cfg.aE/\(A.aD i).over=false/\
   (A.step x.core (gD x)).1.cfg=A.cfg/\
   (A.step x.core (gD x)).1.aD=aR A.aD i ((A.step x.core (gD x)).1.aD i)/\(A.step x.core (gD x)).2.1=x/\(A.step x.core (gD x)).2.2=0:=by
 unfold Oi at h
 by_cases f:(A.step x.core (gD x)).2.2=20
 .rw[aLb f] at h;cases h
 rw[aLa f] at h
 by_cases o:(A.step x.core (gD x)).2.2≠0\/(A.step x.core (gD x)).2.1≠x
 .grind
 have a:(A.step x.core (gD x)).2.2=0:=by grind
 have k:(A.step x.core (gD x)).2.1=x:=by grind
 by_cases g:0<=x.core/\x.core<A.cfg.aE
 rotate_left
 .unfold AM.step at a;grind
 obtain⟨i,d⟩:=Int.eq_ofNat_of_zero_le g.1
 have b:(A.aD i).over=false:=by
  unfold AM.step at a;rw[aLa (fun e=>e g),d,Int.toNat_natCast] at a;cases b:(A.aD i).over with
  |false=>rfl
  |true=>rw[b,aLb rfl] at a;cases a
 refine⟨i,d,by omega,b,?_,?_,k,a⟩
 .rw[d,yN (by omega) b];exact(Lk (m:=A) (i:=i)).1
 .rw[d,yN (by omega) b];funext j;unfold aR;split
  .rename_i e;rw[e]
  .rename_i e;show(aR _ i _) j=_;rw[Ab.cH e];exact(Lk (m:=A) (i:=i)).2.2.1 j e
end
section
def wO (i:Nat) (s:aK) (x:Ev):aK:=match aK.gX s i with
 |some r=>r.1
 |none=>(aK.bG s i x.value x.code).1
def yC (mem:Nat->Ln) (s:aK) (i:Nat) (x:Ev):Nat->Ln:=
 if x.code≠0 then mem else match aK.hQ s with
  |some a=>if a.write then pS mem a.word.toNat a.value else mem
  |none=>match aK.rV s i with
   |some k=>if k.call≠4 then At.jO mem k.bI.toNat else mem
   |none=>mem
structure aBt (A:AM) (x:Ev) (i:Nat):Prop where
 core:x.core=(i:Int)/\(i:Int)<A.cfg.aE
 aD:(A.step x.core (gD x)).1.aD=aR A.aD i (wO i (A.aD i) x)
 cfg:(A.step x.core (gD x)).1.cfg=A.cfg
 ok:(wO i (A.aD i) x).Ok
 mem:(A.step x.core (gD x)).1.mem=yC A.mem (A.aD i) i x
 acc:∀a,aK.hQ (A.aD i)=some a->x.code=0->(0<=a.word/\a.word<A.cfg.lines*2)/\(a.read=true->x.value=lQ A.mem a.word.toNat)
 ask:∀a,aK.rV (A.aD i) i=some a->x.code=0->0<=a.bI/\a.bI<A.dA.length
 own:(A.step x.core (gD x)).1.dA.length=A.dA.length
theorem ij {s:aK} {i:Nat} {r:aK×Ev} (h:aK.gX s i=some r):aK.hQ s=none/\aK.rV s i=none:=by
 unfold aK.gX at h;unfold aK.hQ aK.rV zR;cases hn:aK.next? s with
 |none=>rw[hn] at h;cases h
 |some x=>rw[hn] at h;grind
theorem gq {s:aK} {i:Nat} {a:Acc} (h:aK.hQ s=some a):aK.rV s i=none/\aK.gX s i=none:=by
 obtain⟨x,b,d,_⟩:=Su h;unfold aK.rV aK.gX;rw[b];dsimp only;grind
theorem zn {s:aK} {i:Nat} {a:Mc.Ask} (h:aK.rV s i=some a):aK.hQ s=none/\aK.gX s i=none:=by
 obtain⟨x,d,b,_⟩:=Rc h;unfold aK.hQ aK.gX zR;simp_all
theorem Yu {s:aK} (b:s.Ok) (e:s.over=false) (i:Nat):(∃r,aK.gX s i=some r)\/(∃a,aK.hQ s=some a)\/∃a,aK.rV s i=some a:=by
 obtain⟨_,d⟩:=M6 b e;have g:=(Ux (b.2.2.2.2 _ (Jy b.1 d))).1;have f:(pW s.prog s.at').op≠11:=by
  have:=b.2.2.1;rw[e] at this;unfold De at this;grind
 have o:aK.next? s=some (pW s.prog s.at'):=by unfold aK.next?;rw[e];rfl
 generalize pW s.prog s.at'=y at*;by_cases k:y.op=3\/y.op=4\/y.op=5;right;left;unfold aK.hQ zR;simp_all;by_cases j:y.op=8;right;right;unfold aK.rV;simp_all;left;cases d:aK.gX s i with
 |some r=>exact⟨r,rfl⟩
 |none=>
  exfalso;unfold aK.gX at d;grind
theorem Hq {s:aK} {i:Nat} {v c:Int} (h:(aK.bG s i v c).2.2=0):aK.bG s i (aK.bG s i v c).2.1.value (aK.bG s i v c).2.1.code=aK.bG s i v c/\(aK.bG s i v c).2.1.code=c:=by
 unfold aK.bG at h ⊢;cases hn:aK.next? s with
 |none=>rw[hn] at h;cases h
 |some x=>
  rw[hn] at h;dsimp only at h ⊢;unfold aK.ev;grind
theorem V4 {c w o t:Int} (h:(fN c w o t).2.2=0):(fN c w o t).2.1=decide (c≠4):=by
 unfold fN at h ⊢;grind
theorem T0 {A:AM} {x:Ev} (hA:∀i:Nat,(i:Int)<A.cfg.aE->(A.aD i).Ok) (h:Oi A x=0):∃i,aBt A x i:=by
 obtain⟨i,p,s,Y,X,β,F,he⟩:=xo h;refine⟨i,?_⟩;have o:=hA i s;have d:A.step x.core (gD x)=A.step i (gD x):=by rw[p]
 rcases Yu o Y i with⟨r,R⟩|⟨a,j⟩|⟨a,j⟩;obtain⟨f,D⟩:=Tu (b:=gD x) s R;have I:r.2=x:=by grind
 obtain⟨n1,n2⟩:=ij R;have q:wO i (A.aD i) x=r.1:=by unfold wO;rw[R]
 refine⟨⟨p,s⟩,by rw[d,f,q],by rw[d,f],by rw[q];exact Vh o R,?_,fun a j=>(by grind),fun a j=>(by grind),by rw[d,f]⟩;rw[d,f];unfold yC;grind;obtain⟨n2,n3⟩:=gq (i:=i) j;by_cases P:A.may (A.aD i).world a.word=true;obtain⟨f,D,S⟩:=Qh (b:=gD x) (v:=if a.read then lQ A.mem a.word.toNat else 0) s j P rfl;generalize Z:(if a.read=true then lQ A.mem a.word.toNat else 0)=v at f D S;have I:(aK.bG (A.aD i) i v 0).2.1=x:=by grind
 obtain⟨J,O⟩:=Hq D;rw[I] at J O;have q:wO i (A.aD i) x=(aK.bG (A.aD i) i v 0).1:=by unfold wO;grind
 refine⟨⟨p,s⟩,by rw[d,f,q],by rw[d,f],by rw[q];exact B3 o,?_,fun b z _=>?_,fun a j=>(by grind),by rw[d,f]⟩;rw[d,f];unfold yC;grind;rw[j] at z;cases z;constructor;unfold AM.may at P;grind;intro u;rw[u,aLb rfl] at Z;rw[Z,<-I];obtain⟨y,W,H,rfl⟩:=Su j;dsimp only at u;unfold aK.bG;rw[W];dsimp only;unfold zR;rw[decide_eq_true_eq] at u;rw[aLa (by omega),aLb (decide_eq_true H),aLa (by omega),aLa (by omega),aLa u];rfl;have P:A.may (A.aD i).world a.word=false:=by simpa using P
 obtain⟨f,D,S⟩:=Lj (b:=gD x) s j P;have I:(aK.bG (A.aD i) i 0 19).2.1=x:=by grind
 obtain⟨J,O⟩:=Hq D;rw[I] at J O;have q:wO i (A.aD i) x=(aK.bG (A.aD i) i 0 19).1:=by unfold wO;grind
 refine⟨⟨p,s⟩,by rw[d,f,q],by rw[d,f],by rw[q];exact B3 o,?_,fun b z k=>by omega,fun a j=>(by grind),by rw[d,f]⟩;rw[d,f];unfold yC;rw[aLb (by omega)];obtain⟨n2,n3⟩:=zn (i:=i) j;obtain⟨B,e,k⟩:∃B e,A.call a.call a.world a.bI a.to (gD x)=(B,e):=⟨_,_,rfl⟩;have E:x.code=e:=by
  obtain⟨y,W,H,rfl⟩:=Rc j;obtain⟨_,hy⟩:=F0 W;rw[d,yN s Y,<-hy] at F;rw[<-F];dsimp only at k;unfold AM.pO;rw[aLa (by omega),aLa (by omega),aLa (by omega),aLa (by omega),aLb H,k]
 have z:gD x=decide (e=17):=by unfold gD;rw[E]
 rw[z] at k;obtain⟨f,D,S⟩:=S8 s j k;rw[z] at d;rw[z] at F;have I:(aK.bG (A.aD i) i 0 e).2.1=x:=by grind
 obtain⟨J,O⟩:=Hq D;rw[I] at J O;have q:wO i (A.aD i) x=(aK.bG (A.aD i) i 0 e).1:=by unfold wO;grind
 have hk:=D4 (m:=A) (c:=a.call) (w:=a.world) (g:=a.bI) (t:=a.to) (b:=decide (e=17));rw[k] at hk;have U:(e=0->(0<=a.bI/\a.bI<A.dA.length)/\B.mem=if a.call≠4 then At.jO A.mem a.bI.toNat else A.mem)/\(e≠0->B.mem=A.mem):=by
  unfold AM.call at k;split at k;grind;rename_i g1;split at k;grind;split at k;grind;rename_i g3;cases k;refine⟨fun _=>⟨Decidable.not_not.1 g1,?_⟩,fun e=>absurd rfl e⟩;show(if(fN _ _ _ _).2.1=true then _ else _)=_;rw[V4 (Decidable.not_not.1 g3)];grind
 refine⟨⟨p,s⟩,by grind,by grind,by rw[q];exact B3 o,?_,fun b T=>(by grind),fun b T α=>?_,by grind⟩;rw[z,d,f];unfold yC;grind;grind
end
section
theorem Yc {A:AM} {x:Ev} {l:List Ev} {n:Nat} (h:(lY A (x::l) n).2.2=0):Oi A x=0/\lY A (x::l) n=lY (A.step x.core (gD x)).1 l (n+1):=by
 unfold lY at h ⊢;split at h;grind;rename_i e;refine⟨Decidable.not_not.1 e,?_⟩;rw[lY.eq_def];exact aLa e
theorem y2 {A:AM} {x:Ev} (hA:∀i:Nat,(i:Int)<A.cfg.aE->(A.aD i).Ok) (b:Oi A x=0):∀i:Nat,(i:Int)<(A.step x.core (gD x)).1.cfg.aE->((A.step x.core (gD x)).1.aD i).Ok:=fun k a=>by
 obtain⟨d,m⟩:=T0 hA b;rw[m.cfg] at a;rw[m.aD];unfold aR;split;exact m.ok;exact hA k a
end
end Go.Mc
section
open Go Go.Ab
attribute [local irreducible] bE Br rT vO vB Dv nP xS mZ Ti iN nG pU sP rF lJ Cy xP Ya Xx Tj R3 Xc Td Rx Ub U1 mF pL vA kI copyV jQ zM Xp Yw Iz mA Pp Wr X7 pT tO Ao Cx Cl Bc Xb uL uF lI iQ cS cB
namespace Go.Proofs.YtajjljbmfdboaaaGreatDoor
open Go Go.Ab Go.Hm Go.At Go.Mc Go.Ct Go.Nt Go.Is
section
def N4 (x:Int):List Value:=[I x]
instance:Fx N4 1:=⟨fun _=>rfl,fun _=>rfl⟩
theorem Xm {l:List Int}:(A.yT l).flatten=eL N4 l:=by
 induction l with
 |nil=>rfl
 |cons a l b=>
  show I a::(A.yT l).flatten=_;rw[b,oT];rfl
theorem aA5 {l:List Int} {j:Nat} {v:Int}:eL N4 (l.set j v)=(eL N4 l).set j (I v):=by
 rw[<-Xm,<-Xm,A.wK,A.wK,List.map_set]
set_option maxRecDepth 100000
variable {G:Bg} {h:AH} {L L':List HP} {Q:Value->AH->Prop} {Cf:bM} {m N:Nat} {M:cT}
abbrev Tf (a:Option Addr) (c:Nat) (l:List Int):HP:=ls N4 1 3 a c l
theorem xk {a:Option Addr} {c:Nat} {w v:Int} {ws:List Int} {k:AH->Prop} (d:Hs G h L) [q:Has (Tf a c) L ws L'] (o:0<=w/\w<(ws.length:Int)) (g:∀b,Hs G b (Tf a c (ws.set w.toNat v)::L')->k b):bE (mF 1 (.slice a ws.length c) (I w)) fun p=>bE (vB h 1 p (I v)) k:=by
 obtain⟨j,rfl⟩:=Int.eq_ofNat_of_zero_le o.1;rw[Int.toNat_natCast] at g;have d:Hs G h (dI 1 3 a c (ws.length,eL N4 ws)::L'):=q.of d;refine xa (e:=3) (cs:=eL N4 ws) d rfl (by omega) fun b f=>g b ?_;show Hs G b (dI 1 3 a c ((ws.set j v).length,eL N4 (ws.set j v))::L');rw[aA5,List.length_set];exact f
theorem aEt {S:Nat->aK} {A0:AM} {lv t2:Value} {l:List Do} (hC:Cf.Ok) (hG:Gb G) (s:l.length<=400) (g:bg G lv l) (o:∀M' j,Mc.RA Cf A0 S 1000 M'->M'.log.length<=1000->Hs G j (bT G Cf m M'::L)->Dd 10 5 [] Q [t2,(pt m 0 0)] j):
  ∀(f i:Nat) (M:cT) (h:AH),i+f=l.length->Mc.RA Cf A0 S (2*i) M->Hs G h (bT G Cf m M::L)->Dd 10 3 [] Q [lv,t2,(pt m 0 0),(I i)] h:=by
 intro f
 induction f with
 |zero=>
  intro i M h k hA b
  have e:Mc.RA Cf A0 S 1000 M:=⟨⟨hA.all.inv.mono (by omega),hA.all.wait,hA.all.qm⟩,hA.rx⟩
  exact bW (aFz g (aZ (aT (by omega) (o _ _ e e.all.len b))))
 |succ f q=>
  intro i M h k hA b
  obtain⟨d,p,_⟩:=nW (l:=l) (i:=i) (by omega)
  have b:=aAb g b
  refine bW (aFz g (aZ (bV (by omega) (bW (aD7 b (by decide) (y3 p) (aQ (c:=d.enc) rfl (dW (W:=4) (n:=1) (c:=1) b.tail rfl rfl rfl fun a h b=>?_)))))))
  exact aDw (M:=M) hC hG hA.all.inv (by omega) b fun h b=>bQ (by omega) (q (i+1) _ h (by omega) (hA.Ey hC) b)
abbrev aB7 (Q:Value->AH->Prop) (a b c d e f:Value):Value->AH->Prop:=fun v0 j=>
 bE (pU 0 v0) fun v1=>bE (pU 1 v0) fun v2=>Dv j (.cells [(I 0),(I 0),(I 0),(I 0),(I 0),(I 0),(I 0)] 80 (0,0) true) fun o k=>bE (vB k 7 (pt o 0 0) v1) fun g=>
 bE (U1 .not v2) fun v6=>Br v6 (Dd 10 17 [] Q [a,b,c,d,e,f] g) (Dd 10 18 [] Q [a,b,c,d] g)
theorem uh {aw g al:Option Addr} {cw j cl q i k:Nat} {ws:List Int} {d:List Nat} {S:Nat->aK} {log:List Ev} {x:Ev} (y:k<=2000) (u:i<d.length) (f:(S i).Ok)
  (a:Hs G h (Tf aw cw ws::Mb g j d::oJ jU d S::C3 al cl log::aG q 0 x.enc::L))
  (e:∀w,Hs G w (Tf aw cw ws::Mb g j d::oJ jU d (aR S i (Mc.wO i (S i) x))::C3 al cl log::L)->Dd 10 9 [] Q [.slice aw ws.length cw,.slice g d.length j,.slice al log.length cl,I ((k:Int)+1)] w):
  Cl Pr K 37 [pt (d.getD i 0) 0 0] h (aB7 Q (.slice aw ws.length cw) (.slice g d.length j) (.slice al log.length cl) (I k) (pt q 0 0) (pt (d.getD i 0) 0 0)):=by
 have a:=iJ (R:=jU) (l:=d) (s:=S) u (a.front (oJ jU d S))
 refine Vj (i:=i) (p:=d.getD i 0) (s:=S i) f a fun h a=>?_
 unfold Mc.wO at e
 cases hl:aK.gX (S i) i with
 |some r=>
  rw[hl] at a e
  dsimp only at a e ⊢
  refine aH rfl (aH rfl (bP a fun v h a=>bH (b:=v) a rfl rfl rfl rfl fun h a=>cE (eO (fK (bW (bQ (by omega) (e _ ?_)))))))
  exact(xY (l:=d) (s:=S) (i:=i) (t:=r.1) u a).to
 |none=>
  rw[hl] at a e
  dsimp only at a e ⊢
  refine aH rfl (aH rfl (bP a fun v h a=>bH (b:=v) a rfl rfl rfl rfl fun h a=>cE (eO (bZ (bW ?_)))))
  refine aA (aC (b:=q) (o:=0) a rfl (aA (aC (b:=q) (o:=0) a rfl (O2 (i:=i) (p:=d.getD i 0) (s:=S i) f a fun h a=>bQ (by omega) (e _ ?_)))))
  exact(xY (l:=d) (s:=S) (i:=i) (t:=(aK.bG (S i) i x.value x.code).1) u a).to
def zer:Nat->Nat->List Int->List Int
 |0,_,ws=>ws
 |f+1,w,ws=>zer f (w+1) (ws.set w 0)
theorem kz {aw:Option Addr} {cw g p n:Nat} {a:Mc.Ask} {v1 v2 v3 v4 v5:Value} (e:a.bI=(g:Int)) (t:4*g+4<=n) (y:n<=1000):
  ∀(f j:Nat) (ws:List Int) (h:AH),j+f=4->ws.length=n->Hs G h (Tf aw cw ws::aG p 0 a.enc::L)->(∀s,Hs G s (Tf aw cw (zer f (4*g+j) ws)::aG p 0 a.enc::L)->Cl Pr K 37 [v5] s (aB7 Q (.slice aw n cw) v1 v2 v3 v4 v5))->
   Dd 10 21 [] Q [.slice aw n cw,v1,v2,v3,v4,v5,pt p 0 0,I ((4*g+j:Nat):Int)] h:=by
 intro f
 induction f with
 |zero=>
  intro j ws h u q d k
  subst q
  exact bW (dO (bV (by omega) (aA (aC (b:=p) (o:=0) d (v:=I a.bI) rfl (vP (by rw[e];omega) (bQ (by rw[e];omega) (aZ (aT (by rw[e];omega) (k _ d)))))))))
 |succ f x=>
  intro j ws h u q d k
  subst q
  refine bW (dO (bV (by omega) (aA (aC (b:=p) (o:=0) d (v:=I a.bI) rfl (vP (by rw[e];omega) (bQ (by rw[e];omega) (aZ (bV (by rw[e];omega) (cC (aZ (bV (by omega) (bW ?_))))))))))))
  refine xk (a:=aw) (c:=cw) (ws:=ws) (v:=0) (w:=((4*g+j:Nat):Int)) d (by omega) fun h d=>?_
  refine bQ (a:=((4*g+j:Nat):Int)) (b:=1) (by omega) ?_
  have:=x (j+1) (ws.set ((4*g+j:Nat):Int).toNat 0) h (by omega) (by rw[List.length_set]) d
  rw[Int.toNat_natCast] at this
  rw[show((4*g+j:Nat):Int)+1=((4*g+(j+1):Nat):Int) by omega]
  exact this k
theorem aBx {aw S al:Option Addr} {cw T cl:Nat} {z:List Nat} {log:List Ev} (μ:log.length<=1000) (hC:Cf.Ok) (ξ:z.length=Cf.aE.toNat) (hk:∀F,Q (.bool true) F):
  ∀(f k:Nat) (A:AM) (h:AH),k+f=log.length->A.cfg=Cf->A.dA.length=Cf.aS.toNat->(∀i:Nat,(i:Int)<A.cfg.aE->(A.aD i).Ok)->(lY A (log.drop k) k).2.2=0->
   Hs G h (Tf aw cw (Mc.fA A.mem (Cf.lines*2))::Mb S T z::oJ jU z A.aD::C3 al cl log::L)->Dd 10 9 [] Q [.slice aw (Cf.lines*2) cw,.slice S z.length T,.slice al log.length cl,I k] h:=by
 have ν:=hC.2.1
 have ζ:Cf.lines=(Cf.aS*2).toNat:=by unfold bM.lines;omega
 intro f
 induction f with
 |zero=>
  intro k A h θ hc δ X hg d
  exact bW (cC (aZ (aT (by omega) (xV (hk _)))))
 |succ f ih=>
  intro k A h θ hc δ X hg d
  obtain⟨x,hx,η⟩:=nW (l:=log) (i:=k) (by omega)
  rw[η] at hg
  obtain⟨hf,he⟩:=Mc.Yc hg
  rw[he] at hg
  obtain⟨i,ms⟩:=Mc.T0 X hf
  have κ:log[((k:Nat):Int).toNat]?=some x:=by rw[Int.toNat_natCast];exact hx
  have U:i<z.length:=by have:=ms.core.2;rw[hc] at this;omega
  have O:=X i ms.core.2
  have Y:(Mc.fA A.mem (Cf.lines*2)).length=Cf.lines*2:=Mc.mC
  have next:∀F,Hs G F (Tf aw cw (Mc.fA (Mc.yC A.mem (A.aD i) i x) (Cf.lines*2))::Mb S T z::oJ jU z (aR A.aD i (Mc.wO i (A.aD i) x))::C3 al cl log::L)->Dd 10 9 [] Q [.slice aw (Cf.lines*2) cw,.slice S z.length T,.slice al log.length cl,I ((k:Int)+1)] F:=fun F D=>by
   rw[<-ms.mem,<-ms.aD] at D;exact ih (k+1) _ F (by omega) (ms.cfg.trans hc) (ms.own.trans δ) (Mc.y2 X hf) hg D
  have tail:∀{F:AH} {q:Nat} {L2:List HP},Hs G F (Tf aw cw (Mc.fA (Mc.yC A.mem (A.aD i) i x) (Cf.lines*2))::Mb S T z::oJ jU z A.aD::C3 al cl log::aG q 0 x.enc::L)->Cl Pr K 37 [pt (z.getD i 0) 0 0] F (aB7 Q (.slice aw (Cf.lines*2) cw) (.slice S z.length T) (.slice al log.length cl) (I k) (pt q 0 0) (pt (z.getD i 0) 0 0)):=fun {F q L2} D=>by
   have e:(Mc.fA (Mc.yC A.mem (A.aD i) i x) (Cf.lines*2)).length=Cf.lines*2:=Mc.mC;have:=uh (Q:=Q) (k:=k) (by omega) U O D (by rw[e];exact next);rw[e] at this;exact this
  refine bW (cC (aZ (bV (by omega) (bW (wN (l:=log) (a:=al) (c:=cl) (enc:=Ev.enc) (e:=80) d (by decide) (by omega) κ (bP d fun q h d=>bH (b:=q) d rfl rfl rfl rfl fun h d=>?_))))))
  refine aA (aC (b:=q) (o:=0) d (v:=I x.core) rfl (aZ (aT (by have:=ms.core.1;omega) (aA (aC (b:=q) (o:=0) d (v:=I x.core) rfl (cC (dO (aT (by have:=ms.core.1;omega) (bW ?_)))))))))
  refine aA (aC (b:=q) (o:=0) d (v:=I x.core) rfl ?_)
  rw[ms.core.1]
  refine J1 d U ?_
  have d:=iJ (R:=jU) (l:=z) (s:=A.aD) U (d.front (oJ jU z A.aD))
  refine Ha (i:=i) (p:=z.getD i 0) (s:=A.aD i) O d fun h d=>?_
  have back:∀{F:AH} {M2 N2:List HP},Hs G F (jC i (z.getD i 0) (A.aD i)::M2)->[k2:dX (Dk jU z A.aD i) M2 N2]->Hs G F (oJ jU z A.aD::N2):=fun {F M2 N2} D k2=>by
   have:=xY (l:=z) (s:=A.aD) (i:=i) (t:=A.aD i) U D;rw[bN] at this;exact this
  cases ha:aK.hQ (A.aD i) with
  |some a=>
   obtain⟨n2,n3⟩:=Mc.gq (i:=i) ha
   have H:Mc.yC A.mem (A.aD i) i x=if x.code≠0 then A.mem else if a.write then pS A.mem a.word.toNat a.value else A.mem:=by unfold Mc.yC;rw[ha]
   refine aH rfl (aH rfl (bP d fun P h d=>bH (b:=P) d rfl rfl rfl rfl fun h d=>?_))
   refine Ye (i:=i) (p:=z.getD i 0) (s:=A.aD i) O d fun h d=>?_
   cases hk0:aK.rV (A.aD i) i with
   |some y=>rw[n2] at hk0;cases hk0
   |none=>
   refine aH rfl (aH rfl (bP d fun E h d=>bH (b:=E) d rfl rfl rfl rfl fun h d=>fK (aA (aC (b:=q) (o:=0) d (v:=I x.code) rfl (bJ (aX (fun B=>?_) (fun B=>?_)))))))
   .obtain⟨hw,ι⟩:=ms.acc a ha B;rw[hc] at hw;have fin:∀{F:AH} {ws:List Int} {M2:List HP},ws=Mc.fA (Mc.yC A.mem (A.aD i) i x) (Cf.lines*2)->Hs G F (jC i (z.getD i 0) (A.aD i)::Dk jU z A.aD i::Tf aw cw ws::Mb S T z::C3 al cl log::aG q 0 x.enc::L)->Cl Pr K 37 [pt (z.getD i 0) 0 0] F (aB7 Q (.slice aw (Cf.lines*2) cw) (.slice S z.length T) (.slice al log.length cl) (I k) (pt q 0 0) (pt (z.getD i 0) 0 0)):=fun {F ws M2} e D=>by
     subst e;exact tail (L2:=M2) (back D).to
    have wr:∀{F:AH},Hs G F (jC i (z.getD i 0) (A.aD i)::Dk jU z A.aD i::Tf aw cw (Mc.fA A.mem (Cf.lines*2))::Mb S T z::C3 al cl log::aG q 0 x.enc::aG P 0 (sD a)::aG E 0 Tv.enc::L)->a.write=true->
      Dd 10 20 [] Q [.slice aw (Cf.lines*2) cw,.slice S z.length T,.slice al log.length cl,I k,pt q 0 0,pt (z.getD i 0) 0 0,pt P 0 0,pt E 0 0,.bool false] F:=by
     intro F D α
     refine bW (aA (aC (b:=P) (o:=0) D (v:=I a.word) rfl (aA (aC (b:=P) (o:=0) D (v:=I a.value) rfl ?_))))
     rw[<-Y]
     refine xk (a:=aw) (c:=cw) (ws:=Mc.fA A.mem (Cf.lines*2)) (w:=a.word) (v:=a.value) D (by omega) fun h d=>?_
     rw[Y]
     refine bZ (fin (ws:=(Mc.fA A.mem (Cf.lines*2)).set a.word.toNat a.value) (M2:=[]) ?_ d.to)
     rw[H,aLa (by omega),aLb α,Mc.rM]
    have nw:∀{F:AH},Hs G F (jC i (z.getD i 0) (A.aD i)::Dk jU z A.aD i::Tf aw cw (Mc.fA A.mem (Cf.lines*2))::Mb S T z::C3 al cl log::aG q 0 x.enc::aG P 0 (sD a)::aG E 0 Tv.enc::L)->a.write=false->
      Dd 10 14 [] Q [.slice aw (Cf.lines*2) cw,.slice S z.length T,.slice al log.length cl,I k,pt q 0 0,pt (z.getD i 0) 0 0,pt E 0 0,.bool false] F:=by
     intro F D α
     refine bW (bZ (fin (ws:=Mc.fA A.mem (Cf.lines*2)) (M2:=[]) ?_ D.to))
     rw[H,aLa (by omega),aLa (by rw[α];simp)]
    refine bW (bB d fun rr h d=>aA (aC (b:=P) (o:=0) d (v:=I a.word) rfl (aZ (aT (by omega) (aA (aC (b:=P) (o:=0) d (v:=I a.word) rfl (cC (dO (aT (by omega) (aA (aC (b:=P) (o:=0) d (v:= .bool a.read) rfl (dH (fun hr=>?_) (fun hr=>?_)))))))))))))
    .refine aA (aC (b:=q) (o:=0) d (v:=I x.value) rfl (aA (aC (b:=P) (o:=0) d (v:=I a.word) rfl ?_)));have hv:=ι hr;obtain⟨w,ε⟩:=Int.eq_ofNat_of_zero_le hw.1;rw[ε];have Z:=d.front (Tf aw cw (Mc.fA A.mem (Cf.lines*2)));unfold Tf ls at Z;rw[Y] at Z;refine Zu (e:=3) (cs:=eL N4 (Mc.fA A.mem (Cf.lines*2))) Z (u:=I x.value) ?_ (bC (aT (by simp) (bW (aA (aC (b:=P) (o:=0) d (v:= .bool a.write) rfl (dH (fun J=>wr d.to J) (fun J=>nw d.to J)))))));have:=Rf (enc:=N4) (W:=1) (j:=0) (Mc.xZ (mem:=A.mem) (n:=Cf.lines*2) (w:=w) (by omega)) (v:=I (lQ A.mem w)) rfl;rw[Nat.mul_one,Nat.add_zero] at this;rw[this,hv,ε,Int.toNat_natCast]
    .exact aA (aC (b:=P) (o:=0) d (v:= .bool a.write) rfl (dH (fun J=>wr d.to J) (fun J=>nw d.to J)))
   .refine bW (bZ ?_);have e:Mc.yC A.mem (A.aD i) i x=A.mem:=by rw[H,aLb B]
    rw[<-e] at d
    exact tail (L2:=[]) (back (d.front (jC i (z.getD i 0) (A.aD i)))).to
  |none=>
   refine aH rfl (aH rfl (bP d fun P h d=>bH (b:=P) d rfl rfl rfl rfl fun h d=>?_))
   refine Ye (i:=i) (p:=z.getD i 0) (s:=A.aD i) O d fun h d=>?_
   cases hk0:aK.rV (A.aD i) i with
   |some y=>
    have H:Mc.yC A.mem (A.aD i) i x=if x.code≠0 then A.mem else if y.call≠4 then At.jO A.mem y.bI.toNat else A.mem:=by unfold Mc.yC;rw[ha];dsimp only;rw[hk0]
    refine aH rfl (aH rfl (bP d fun E h d=>bH (b:=E) d rfl rfl rfl rfl fun h d=>bZ (fK (aA (aC (b:=q) (o:=0) d (v:=I x.code) rfl (bJ (aX (fun B=>?_) (fun B=>?_))))))))
    .have γ:=ms.ask y hk0 B;obtain⟨g,β⟩:=Int.eq_ofNat_of_zero_le γ.1;refine aA (aC (b:=E) (o:=0) d (v:=I y.call) rfl (bC (aX (fun h4=>?_) (fun h4=>?_))))
     .refine bW (aA (aC (b:=E) (o:=0) d (v:=I y.bI) rfl (vP (by omega) ?_)));have:=kz (Q:=Q) (n:=Cf.lines*2) (aw:=aw) (cw:=cw) (g:=g) (p:=E) (a:=y) (v1:= .slice S z.length T) (v2:= .slice al log.length cl) (v3:=I k) (v4:=pt q 0 0) (v5:=pt (z.getD i 0) 0 0) β (by omega) (by omega) 4 0 _ h rfl Y (d.cX (Tf aw cw (Mc.fA A.mem (Cf.lines*2))) (aG E 0 y.enc)) fun h d=>?_
      .rw[show(4:Int)*y.bI=((4*g+0:Nat):Int) by omega];exact this
      have e:zer 4 (4*g+0) (Mc.fA A.mem (Cf.lines*2))=Mc.fA (Mc.yC A.mem (A.aD i) i x) (Cf.lines*2):=by
       rw[H,aLa (by omega),aLb h4,β,Int.toNat_natCast,Mc.V3];rfl
      rw[e] at d
      exact tail (L2:=[]) (back (d.front (jC i (z.getD i 0) (A.aD i)))).to
     .refine bW ?_;have e:Mc.yC A.mem (A.aD i) i x=A.mem:=by rw[H,aLa (by omega),aLa h4]
      rw[<-e] at d
      exact tail (L2:=[]) (back (d.front (jC i (z.getD i 0) (A.aD i)))).to
    .have e:Mc.yC A.mem (A.aD i) i x=A.mem:=by rw[H,aLb B]
     rw[<-e] at d
     exact tail (L2:=[]) (back (d.front (jC i (z.getD i 0) (A.aD i)))).to
   |none=>
    refine aH rfl (aH rfl (bP d fun E h d=>bH (b:=E) d rfl rfl rfl rfl fun h d=>bZ (bZ ?_)))
    have e:Mc.yC A.mem (A.aD i) i x=A.mem:=by unfold Mc.yC;rw[ha];dsimp only;rw[hk0];dsimp only;split<;>rfl
    rw[<-e] at d
    exact tail (L2:=[]) (back (d.front (jC i (z.getD i 0) (A.aD i)))).to
theorem aEy {C:bM} {ps:List (List Ins)} {ws os vs:List Int} (h:Cw C ps ws os vs=0):Mc.RA C (Xf C ps ws os vs) (Oj ps ws) 0 (MC.new ⟨C,ps,ws,os,vs⟩):=by
 obtain⟨hC,a,b,d,e,f,g,j⟩:=Hn h;have:=hC.2.1;exact⟨aBm h,_,Mc.RX.new hC (by omega)⟩
theorem o7 {p2 cw:Nat} {aw:Option Addr} {E F ov vv:Value} {ps:List (List Ins)} {ws os vs:List Int} (hC:Cf.Ok) (_:Gb G) (hg:Ob G 1 wR) (he:Cw Cf ps ws os vs=0) (ho:A.jd G E F ov vv ps ws os vs) (Z:M.log.length<=1000)
  (y:∀j t al cl g X,g.length=Cf.aE.toNat->Hs G X (Tf aw cw vs::Mb j t g::oJ jU g (Oj ps ws)::C3 al cl M.log::L)->Dd 10 9 [] Q [.slice aw vs.length cw,.slice j g.length t,.slice al M.log.length cl,I 0] X):
  ∀(f i:Nat) (j:Option Addr) (t:Nat) (g:List Nat) (h:AH),i+f=Cf.aE.toNat->g.length=i->Hs G h (Tf aw cw vs::Mb j t g::oJ jU g (Oj ps ws)::bT G Cf m M::aG p2 0 (Te Cf E F ov vv)::L)->Dd 10 6 [] Q [pt p2 0 0,pt m 0 0,.slice aw vs.length cw,.slice j g.length t,I i] h:=by
 obtain⟨_,e1,e2,e3,e4,e5,e6,e7⟩:=Hn he
 obtain⟨⟨vi,hv,z,S⟩,D,α,β⟩:=ho
 have P:=A.Ac e5
 have hc:=hC.1
 have lp:∀{k:Value->Prop},k (I ps.length)->bE (lJ E) k:=fun y=>A.sY z (by simpa [hv] using y)
 have lw:∀{k:Value->Prop},k (I ws.length)->bE (lJ F) k:=fun y=>N0 D y
 intro f
 induction f with
 |zero=>
  intro i j t g h hi Y d
  refine bW (aA (aC (b:=p2) (o:=0) d (v:=E) rfl (lp (aZ (aT (by omega) ?_)))))
  refine Xr (Cf:=Cf) (M:=M) (by omega) d fun a c h d=>y j t a c g h (by omega) d.to
 |succ f ih=>
  intro i j t g h hi Y d
  obtain⟨p,O,_⟩:=nW (l:=ps) (i:=i) (by omega)
  obtain⟨v,B,_⟩:=nW (l:=vi) (i:=i) (by omega)
  obtain⟨w,u,_⟩:=nW (l:=ws) (i:=i) (by omega)
  have U:=e6 w (List.mem_of_getElem? u)
  have T:=P p (List.mem_of_getElem? O)
  have eS:Oj ps ws i=sN p w:=by unfold Oj;rw[List.getD_eq_getElem?_getD,List.getD_eq_getElem?_getD,O,u];rfl
  refine bW (aA (aC (b:=p2) (o:=0) d (v:=E) rfl (lp (aZ (bV (by omega) (aA (aC (b:=p2) (o:=0) d (v:=F) rfl (lw (aZ (bV (by omega) (bW (bB d fun rr h d=>aA (aC (b:=p2) (o:=0) d rfl ?_)))))))))))))
  have d:=A.oQ D d
  refine vZ d (x:=[I w]) (by simp[A.yT,u]) rfl ?_
  have d:=d.tail
  refine aA (aC (b:=p2) (o:=0) d rfl ?_)
  have d:=Ak (e:=3) (by simp) z d
  refine vZ d (x:=[v]) (by simp[B]) rfl ?_
  have d:=A.I9 (S i v p B O) d.tail
  refine P5 (i:=i) (pr:=p) (w:=w) (by omega) U hg T d fun q h d=>aH rfl (aH rfl (bC (aT (by omega) (dG (bZ (bW ?_))))))
  rw[<-eS] at d
  refine aQ (c:=[pt q 0 0]) rfl (dW (W:=1) (n:=1) (c:=1) d rfl rfl rfl fun b1 h d=>?_)
  refine Jm (l:=g) (a:=j) (c:=t) (e:=75) (q:=q) (a2:=some b1) (c2:=1) (by omega) d fun H J h d=>?_
  subst Y
  have d:=I5 (R:=jU) (l:=g) (q:=q) (s:=Oj ps ws) (d.cX (jC g.length q (Oj ps ws g.length)) (oJ jU g (Oj ps ws)))
  have:=ih (g.length+1) H J (g++[q]) h (by omega) (by simp) d.to
  rw[List.length_append,List.length_singleton] at this
  exact bQ (by omega) this
theorem Gv {p q ov vv lv:Value} {ps:List (List Ins)} {ws os vs:List Int} {l:List Do} (S:ps.length<=9223372036854775807) (hG:Gb G) (z:Ob G 1 wR) (f:A.jd G p q ov vv ps ws os vs) (y:bg G lv l) (d:Hs G h L)
  (t:∀J,Q (.bool true) J):Cl Pr K 10 [.agg ⟨Te Cf p q ov vv⟩,lv] h Q:=by
 refine cW (dS (cs:=Te Cf p q ov vv) d fun k h d=>aU (b:=k) (o:=0) d (by decide) (l:=Te Cf p q ov vv) rfl rfl ?_)
 refine aFr S f d (fun hf h d=>cE (eO (fK ?_))) (fun h d=>cE (eO (bZ (xV (t _)))))
 refine aFz y (mS (aX (fun _=>xV (t _)) (fun h4=>bW (aU (b:=k) (o:=0) d (by decide) (l:=Te Cf p q ov vv) rfl rfl ?_))))
 refine zz (Cf:=Cf) (by omega) hG z f d (fun j h d=>?_) fun j m h d=>?_
 .exact aH rfl (aH rfl (bC (bV j (bC (bV j (Qs (fK (xV (t _)))))))))
 refine aH rfl (aH rfl (bC (aT (by omega) (dG (bZ (bW ?_))))))
 obtain⟨hC,U,E,F,x,X,Y,Z⟩:=Hn j
 refine aEt (L:=aG k 0 (Te Cf p q ov vv)::L) hC hG (by omega) y ?_ l.length 0 _ h (by omega) (aEy j) d
 intro M h hA g d
 obtain⟨V,O⟩:=hA.rx
 refine bW (aA (aC (b:=k) (o:=0) d (v:=vv) rfl ?_))
 have d:=A.oQ f.vs d
 have d:=gS (W:=1) (e:=3) d
 refine yc (W:=1) (e2:=3) (bytes:=8) (c:=0) (n:=0) (m:=vs.length) (e:=3) (a:=none) (cs:=[]) (v:=vv) (l:=A.yT vs) d (by decide) (A.rD vs) (by rw[A.wK];exact A.Lw vs) (by omega) fun aw cw h d=>?_
 have d:Hs G h (Tf aw cw vs::zX G 1 3 vv (A.yT vs)::bT G Cf m M::aG k 0 (Te Cf p q ov vv)::L):=by
  rw[Nat.zero_add,List.nil_append,Xm] at d;exact d
 have d:=Jf (R:=jU) (s:=Oj ps ws) d
 have d:=uA (enc:=pE) (e:=75) d
 have:=o7 (Cf:=Cf) (m:=m) (M:=M) (L:=L) (Q:=Q) (p2:=k) (cw:=cw) (aw:=aw) hC hG z j f g (fun B D al cl T h w d=>?_) Cf.aE.toNat 0 none 0 [] h (by omega) rfl d.to
 .rw[Nat.zero_add];exact this
 have H:Mc.fA (Xf Cf ps ws os vs).mem (Cf.lines*2)=vs:=Mc.Xi (C:=Cf) x
 have u:=O.log
 refine(?_:Dd 10 9 [] Q [.slice aw vs.length cw,.slice B T.length D,.slice al M.log.length cl,I 0] h)
 rw[x]
 refine aBx (G:=G) (L:=L) (Cf:=Cf) g hC w t M.log.length 0 (Xf Cf ps ws os vs) h (by omega) rfl F (fun i P=>Pw j i P) (by rw[List.drop_zero,u]) ?_
 rw[H]
 exact d
end
end Go.Proofs.YtajjljbmfdboaaaGreatDoor
end
