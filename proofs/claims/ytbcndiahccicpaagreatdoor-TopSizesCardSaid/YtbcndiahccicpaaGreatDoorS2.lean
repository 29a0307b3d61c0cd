/- A part of the proof. -/
import Derived.Test.YtbcndiahccicpaaGreatDoorS1
import Derived.RangeFuncIn
set_option linter.all false
open Go Go.Ab
variable {P:Program} {B i n:Nat} {ρ:kX} {w w':World} {v x:Value} {j l new:FJ} {ty:TypeId} {s:Nat×Nat} {h' r:AH}
namespace Go.Ab
open Go.RowKit
variable {h:AH}
def fT.fj (c:fT P B ρ h w) (d:w'.heap=w.heap):fT P B ρ h w' where
 uE:=fun i o e b s f=>by rw[d];exact c.uE i o e b s f
 inj:=c.inj
 low:=c.low
 old:=c.old
 iD:=c.iD
 kW:=c.kW
 rR:=c.rR
 size:=by rw[d];exact c.size
 bn:=c.bn
def aD4 {e:Value} (d:bB ρ x e) (c:J8 x=some n):(Builtin.lenOf e).run P w= .ok n w:=by
 unfold J8 at c;split at c;rename_i a _ _;cases c;cases a with
 |none=>subst d;rfl
 |some a=>
  obtain⟨_,_,sp⟩:=a;cases sp with
  |none=>obtain⟨_,_,_,_,_,_,rfl⟩:=d;rfl
  |some _=>obtain⟨rfl,_,_,_,_,_,rfl⟩:=d;rfl
 cases c
theorem aAr (m:fT P B ρ h w) {j:Value} {size:Nat} (q:bB ρ x j) (d:oB h size n x=some new):
  ∃e,(Builtin.firstCells size n j).run P w= .ok ⟨e⟩ w/\bP ρ new e:=by
 unfold oB at d
 split at d
 .simp_all[bB,Builtin.firstCells,bP.nil]
 .rename_i a l c;split at d
  .cases d;obtain⟨_,_,sp⟩:=a;have r:∀g f,(Builtin.firstCells size 0<|.slice (some g) l f).run P w= .ok ⟨[]⟩ w:=fun g f=>GK
   cases sp with
   |none=>grind[bB,bP.nil]
   |some _=>grind[bB,bP.nil]
  .split at d
   .obtain⟨i,o,sp⟩:=a;cases sp with
    |none=>
     obtain⟨b,s,f,p,_,_,rfl⟩:=q
     have⟨l',hrun,hrel,_,_⟩:=B9 m p d
     exact⟨l',hrun,hrel⟩
    |some _=>grind[eN]
   .cases d
 .cases d
theorem Ah {z:Value} (d:z.cells=⟨l⟩) {size:Nat} (c:l.length=size) (n:Nat):Builtin.zeroCells z.cells n=⟨iP l n⟩:=by
 grind[Builtin.zeroCells,Dz]
variable {c':Nat}
theorem mc {c:Array TypeId} {F e:TypeId} {i:TypeInfo} {r:Value} {z:FJ} {base':FM} {sLen:Nat} {g:FJ}
  (G:c[0]?=some F) (J:P.underlying F=some (.slice e)) (C:P.info? e=some i) (O:i.zero=some r) (x:r.cells=⟨z⟩)
  {u:TypeId} (I:c[1]?=some u) (q:P.underlying u=some .string\/∃y,P.underlying u=some (.slice y))
  (m:(Builtin.lenOf v).run P w= .ok n w) (t:¬sLen+n<=c') (A:(sLen+n)*(i.bytes+1)<=2^46)
  (hold:(Builtin.firstCells (P.cellsOf e) sLen<|.slice base' sLen c').run P w.drew= .ok ⟨j⟩ w.drew) (p:(Builtin.firstCells (P.cellsOf e) n v).run P w.drew= .ok ⟨g⟩ w.drew):
  (Builtin.append_ c ty #[.slice base' sLen c',v]).run P w=
   .ok (.slice (some ⟨w.heap.size,0,none⟩) (sLen+n)<|grownCap w (sLen+n) c' e) (w.drew.alloc<|.cells (⟨j⟩++⟨g⟩++Builtin.zeroCells r.cells (grownCap w (sLen+n) c' e - (sLen+n))) e):=by
 have M:(sLen+n)*i.bytes<=2^46:=FR
 have e2:sLen+n<=2^46:=FR
 have l:¬Builtin.nextslicecap (sLen+n) c'*i.bytes>2^48:=by
  have:=growslice_fits (need:=sLen+n) (old:=c') (bytes:=i.bytes) FQ FQ;omega
 have f:¬(((sLen+n:Nat):Int)>IntKind.i64.max/\(false=true\/i.bytes=0)):=by
  rw[IntKind.max_i64];intro N;omega
 have L:(Question.appendCap (sLen+n) c' e).forced=false:=rfl
 have t1:∀d,(typeInfo e).run P d= .ok i d:=fun d=>by simp[typeInfo,C]
 have t2:∀d,(sizeOf e).run P d= .ok _ d:=fun d=>kH C
 have t3:∀d,(zeroValue e).run P d= .ok r d:=fun d=>by simp_all[zeroValue,typeInfo]
 rcases q with q|⟨y,q⟩
 all_goals
  simp only[Builtin.append_,G,I,CH,sz,AL,c9,ca J,ca q,bj,t2,kd,
      aO,dx,m,t,t1,false_or]
  simp only[aO,false_or] at f
  rw[bD1 f]
  simp only[c9,run_choose,L,aO,dx,bj,run_askRoom,World.drew_eq,t1,l,hold,Fi,eD,p,t3,newRow,c9,run_newObj,bj,kd,World.alloc_eq]
  rfl
theorem xQ {c:Array TypeId} {r e m:TypeId} {i:TypeInfo} {base':FM} {sLen:Nat} {p:Value} {d:FJ}
  (t:c[0]?=some r) (v:P.underlying r=some (.slice e)) (x:P.info? e=some i)
  (u:c[1]?=some m) (l:P.underlying m=some .string\/∃q,P.underlying m=some (.slice q))
  (f:(Builtin.lenOf p).run P w= .ok n w) (hle:sLen+n<=c') (g:(Builtin.firstCells (P.cellsOf e) n p).run P w= .ok ⟨d⟩ w):
  (Builtin.append_ c ty #[.slice base' sLen c',p]).run P w=
   match base' with
   |some a=>((storeCells (a.add<|sLen*P.cellsOf e) d).run P w).andThen fun _ j=> .ok (.slice base' (sLen+n) c') j
   |none=> .ok (.slice base' (sLen+n) c') w:=by
 have t2:∀j,(sizeOf e).run P j= .ok _ j:=fun j=>kH x
 rcases l with l|⟨q,l⟩
 all_goals
  simp only[Builtin.append_,t,u,CH,sz,AL,c9,ca v,ca l,bj,t2,kd,
      aO,dx,f,hle,eD,Fi,g]
  cases base'<;>simp
theorem gu (e:fT P B ρ h w) {b:Nat} {u:qU} (p:h.base<=i) (y:h.get i=some u) (z:ρ i=some (b,s)):pT P B ρ h w ρ (h.set i none) w:=by
 have f:∀j,(h.set i none).get j=if j=i then none else h.get j:=fun j=>AH.oA p
 have c:∀j,((h.set i none).get j).isSome->(h.get j).isSome/\j≠i:=FR;refine {ext:=Du.refl _,inv:=?_,un:=fun _ _ h=>h,rO:=?_,stay:=FR,frame:=FR,range:=?_,base:=AH.rb,Bc:=?_,next:=FW,size:=bb _,os:=rfl,out:=rfl,tape:=rfl};refine {uE:=?_,inj:=?_,low:=?_,old:=?_,iD:=?_,kW:=?_,rR:=e.rR,size:=e.size,bn:=by simp;exact e.bn};intro j v g r m l;have:=c j (by rw[g];rfl);rw[f,bD1 this.2] at g;exact e.uE j v g r m l;intro j k n m sk d q g t l x;simp at d q;exact e.inj j k n m sk d q (c j g).1 (c k t).1 l x;intro j n m d g l;simp at d;exact e.low j n m d (c j g).1 l;intro j n m d l;simp at d;exact e.old j n m d l;intro j d;simp at d;exact e.iD j d;intro j d;simp at d;rw[f];split;rfl;exact e.kW j d;grind;grind;grind
theorem na (U:fT P B ρ h w) {c:Array TypeId} {e:TypeId} {s s' O:Value} {F:AH} (I:(c[0]?).bind P.underlying=some (.slice e)) (J:bB ρ s s') (M:bB ρ x O) (g:aMt P h c e s x=some (v,F)):
  ∃ρ' d N,pT P B ρ h w ρ' F d/\bB ρ' v N/\(Builtin.append_ c ty #[s',O]).run P w= .ok N d:=by
 unfold aMt at g
 split at g
 .rename_i k Z n z L Y;split at g
  .rename_i T;cases g;obtain⟨h1,h2,h3,h4⟩:=T;have⟨i,zv,hinf,hzero,hzr,hzc,hzl,hzz⟩:=xZ (w:=w) Y;have S:i.bytes=P.bytesOf e:=by simp[Program.bytesOf,hinf]
   have⟨A,k0,I⟩:∃A,c[0]?=some A/\P.underlying A=some (.slice e):=FR
   have⟨C,k1,L⟩:∃C,c[1]?=some C/\P.underlying C=some (.int k):=FR
   simp only[bB] at J M
   subst J M
   obtain⟨m,rfl⟩:=ay (by omega:0<=n)
   have y:IntKind.i64.wrap (m:Int)=m:=ED _ FQ
   have W:m*i.bytes<=1000*1000:=Nat.mul_le_mul FQ FQ
   have j:¬Builtin.nextslicecap (0+m) 0*i.bytes>2^48:=by
    have:=growslice_fits (need:=0+m) (old:=0) (bytes:=i.bytes) FQ (by rw[AD];omega);omega
   have X:(Question.appendCap (0+m) 0 e).forced=false:=rfl
   have t1:∀d,(typeInfo e).run P d= .ok i d:=fun d=>by simp[typeInfo,hinf]
   have t2:∀d,(sizeOf e).run P d= .ok _ d:=fun d=>kH hinf
   have t3:∀d,(zeroValue e).run P d= .ok zv d:=fun d=>by simp_all [zeroValue,typeInfo]
   have u:¬m*P.cellsOf e=0:=Nat.mul_ne_zero FQ FQ
   have t:¬((m:Int)*i.bytes>2^48):=by
    have:((m:Int)*i.bytes)=((m*i.bytes:Nat):Int):=FW
    omega
   have p:¬(((0+m:Nat):Int)>IntKind.i64.max):=by rw[IntKind.max_i64];omega
   have r:(Builtin.append_ c ty #[.slice none 0 0,.int Z m]).run P w= .ok (.slice (some ⟨w.heap.size,0,none⟩) (0+m)<|grownCap w (0+m) 0 e) (w.drew.alloc<|.cells (Builtin.zeroCells zv.cells m++Builtin.zeroCells zv.cells (grownCap w (0+m) 0 e - (0+m))) e):=by
    simp only[Builtin.append_,k0,k1,CH,sz,AL,c9,ca I,ca L,bj,t2,kd,asInt,asIntOf];have q:¬((m:Int)<0):=FQ
    have l:¬(0+m<=0):=FQ
    have f:¬(((0+m:Nat):Int)>IntKind.i64.max/\(True\/i.bytes=0)):=fun k=>p k.1;simp only[eD,c9,kd,bj,y,q,dx,t1,t,aL,l];rw[bD1 f];simp only[c9,run_choose,X,aO,dx,bj,run_askRoom,World.drew_eq,t1,j,BQ,eD,t3,newRow,u,Builtin.firstCells,run_newObj,kd,World.alloc_eq];rw[Array.empty_append];rfl
   have G:=grownCap_ge w (0+m) 0 e
   refine⟨_,_,_,Df (s:=(grownCap w (0+m) 0 e - (0+m),0)) U (w':=w.drew.alloc _) ⟨_,rfl,?_,?_,nofun⟩ rfl rfl rfl rfl,⟨_,_,grownCap w (0+m) 0 e,cK,by rw[aL];omega,by rw[aL];omega,by rw[aL,AD m];rfl⟩,r⟩
   .have Q:=Ah (z:=zv) HQ hzl m;simp only[CS,ll,aL,Q];rw[AF<|bb _,BF];exact D3 (hzz _) m
   .rw[aL];have hl:(iP z m).length=m*P.cellsOf e:=by have:=eV Array.size<|Ah (z:=zv) HQ hzl m;simp[size_zeroCells,hzc,hzl] at this;grind
    show 0+_+(grownCap w (0+m) 0 e - (0+m))*_<=_
    simp only[Array.size_append,size_zeroCells]
    grind
  .cases g
 .cases g
theorem bq (A:fT P B ρ h w) {g:Array TypeId} {s s' x':Value} (L:bB ρ s s') (hx:bB ρ x x') (f:Rk P h g s x=some (v,h')):
  ∃ρ' M Z,pT P B ρ h w ρ' h' M/\bB ρ' v Z/\(Builtin.append_ g ty #[s',x']).run P w= .ok Z M:=by
 unfold Rk at f
 split at f
 .rename_i e hd;split at f
  .exact na A hd L hx f
  rename_i hxk
  split at f
  .rename_i z hz;unfold nJ at f;split at f;rotate_left
   .cases f
   rename_i base d Y n hn
   split at f
   .rename_i new X;have⟨i,zv,hinf,hzero,hzr,hzc,hzl,hzz⟩:=xZ (w:=w) hz;have ο:zv.cells=⟨z⟩:=HQ
    have hby:i.bytes=P.bytesOf e:=by simp[Program.bytesOf,hinf]
    split at f
    .cases f
    .rename_i O;simp only[AZ,AW,bne_iff_ne,ne_eq,not_or,Bool.not_eq_false,cb] at O;obtain⟨hall,hnl⟩:=O;have⟨sT,h0,hd⟩:∃sT,g[0]?=some sT/\P.underlying sT=some (.slice e):=by
      grind
     have⟨uT,h1,hu⟩:∃uT,g[1]?=some uT/\(P.underlying uT=some .string\/∃e',P.underlying uT=some (.slice e')):=by
      grind[Ro]
     have G:=aD4 (P:=P) (w:=w) hx hn
     have⟨new',hnrun,hnrel⟩:=aAr A hx X
     have hnl':=hnrel.length
     have hid:fT P B ρ h w.drew:=A.fj rfl
     split at f
     .split at f
      .split at f
       .rename_i η;cases f;simp[bB] at L;refine⟨ρ,w,.slice none d Y,pT.refl A,GC,?_⟩;grind[xQ]
       .cases f
      .rename_i a;obtain⟨W,ao,S⟩:=a;split at f
       .rename_i η;cases f;subst η;have:new'=[]:=FR;subst this;have F:=L;cases S with
        |none=>
         obtain⟨b,sp,c',J,γ,N,rfl⟩:=L
         refine⟨ρ,w,_,pT.refl A,F,?_⟩
         rw[xQ h0 hd hinf h1 hu G FQ hnrun]
         simp[storeCells]
        |some _=>
         obtain⟨rfl,rfl,a',c',_,_,rfl⟩:=L
         refine⟨ρ,w,_,pT.refl A,F,?_⟩
         simp_all[xQ,storeCells]
       .split at f
        .cases f
        .obtain rfl:S=none:=HB
         obtain⟨b,sp,c',J,γ,N,rfl⟩:=L
         have r:=xQ (ty:=ty) (base':=some ⟨b,ao+sp.2,none⟩) (sLen:=d) (c':=c') h0 hd hinf h1 hu G FQ hnrun
         simp[fD] at r
         simp only[ba] at f
         obtain⟨h2,μ,f⟩:=f
         cases f
         rw[fD] at μ
         have⟨M,C,t,_⟩:=O7 A J μ hnrel
         refine⟨ρ,M,.slice (some ⟨b,ao+sp.2,none⟩) (d+n) c',t,?_,?_⟩
         .grind[bB]
         .rw[r];rw[show ao+d*P.cellsOf e+sp.2=ao+sp.2+d*P.cellsOf e by omega] at C;rw[C];rfl
     .rename_i ε;split at f
      .rename_i hbig;have grown:∀(p:FM) (c':Nat) (y q:FJ) (ρ0:kX) (T:AH),¬d+n<=c'->bP ρ y q->y.length=d*P.cellsOf e->
         (Builtin.firstCells (P.cellsOf e) d<|.slice p d c').run P w.drew= .ok ⟨q⟩ w.drew->pT P B ρ h w ρ T w->T.next=h.next->
         ∃ρ' M Z,pT P B ρ h w ρ' (T.alloc<|.cells (y++new) e (0,0) false) M/\bB ρ' (.slice (some ⟨h.next,0,none⟩) (d+n)<|d+n) Z/\(Builtin.append_ g ty #[.slice p d c',x']).run P w= .ok Z M:=by
        intro p c' y q ρ0 T ζ hold hol χ t φ
        have⟨new2,hnrun2,hnrel2⟩:=aAr hid hx X
        have r:=mc (ty:=ty) h0 hd hinf hzero ο h1 hu G ζ FR χ hnrun2
        have hcap:=grownCap_ge w (d+n) c' e
        have hol':=hold.length
        have hn2:=hnrel2.length
        refine⟨_,_,_,t.trans<|Df (s:=(grownCap w (d+n) c' e - (d+n),0)) t.inv (w':=w.drew.alloc _) ⟨_,rfl,?_,?_,FR⟩ rfl rfl rfl rfl,?_,r⟩
        .have e1:(y++new).length=(q++new2).length:=by simp[dd];omega
         simp only[CS,ll]
         rw[e1,AF<|bb _,BF]
         exact bP.mono (Du.A8<|t.inv.iD _<|bb _) _ _<|hold.append hnrel2
        .grind[Array.size_append,size_zeroCells,List.size_toArray,List.length_append]
        .rw[φ];exact⟨_,_,_,cK,FQ,FR,rfl⟩
       have tail:∀{W ao b c':Nat} {sp:Nat×Nat} {c:FJ} {xx:Bool},h.base<=W->h.get W=some (.cells c e (0,0) xx)->ρ W=some (b,sp)->d+n<=c'->ao+d*P.cellsOf e<=c.length->ao+c'*P.cellsOf e<=c.length+sp.1*P.cellsOf e->
         ∃ρ' M Z,pT P B ρ h w ρ' ((h.set W none).alloc<|.cells ((c.drop ao).take (d*P.cellsOf e)++new) e (0,0) false) M/\bB ρ' (.slice (some ⟨h.next,0,none⟩) (d+n)<|d+n) Z/\(Builtin.append_ g ty #[.slice (some ⟨b,ao+sp.2,none⟩) d c',x']).run P w= .ok Z M:=by
        intro W ao b c' sp c xx l Q J m hl ω
        obtain⟨ob,θ,cc,rfl,δ,hsz,ν⟩:=A.uE _ _ Q b sp J
        have σ:(d+n)*P.cellsOf e<=c'*P.cellsOf e:=o0 _ m
        rw[CK] at σ
        have ι:∀v∈new',v.oneCell'=true:=by
         intro v hv';have⟨j,hj⟩:=List.getElem?_of_mem hv';have υ:j<new.length:=by
          have:=(ew.1 hj).1;omega
         have⟨u,hu',hru⟩:=hnrel.get<|b0 υ;rw[hj] at hu';cases hu';exact hru.y7 FR
        obtain⟨M,C,α,ψ,κ,β⟩:=Aj (P:=P) rfl new' w cc (ao+sp.2+d*P.cellsOf e) 0 θ ι FQ
        have r:=xQ (ty:=ty) (base':=some ⟨b,ao+sp.2,none⟩) h0 hd hinf h1 hu G m hnrun
        simp[fD] at r
        have hb3:(c' - (d+n))*P.cellsOf e=c'*P.cellsOf e - (d*P.cellsOf e+n*P.cellsOf e):=by rw[Nat.sub_mul,CK]
        refine⟨_,M,.slice (some ⟨b,ao+sp.2,none⟩) (d+n) c',aJm A l Q J (s':=(c' - (d+n),ao+sp.2)) ⟨_,rfl,?_,?_,FR⟩ α ψ κ β,?_,?_⟩
        .apply bP.mono (Du.A8<|A.iD _<|bb _) _ _;have ht:((eB cc.toList (ao+sp.2+d*P.cellsOf e+0) new').drop<|ao+sp.2).take ((c.drop ao).take (d*P.cellsOf e)++new).length=(cc.toList.drop<|ao+sp.2).take (d*P.cellsOf e)++new':=by
          rw[eB];have e1:((c.drop ao).take (d*P.cellsOf e)++new).length=((cc.toList.drop<|ao+sp.2).take (d*P.cellsOf e)++new').length:=by
           simp[dd,oH,q6,DY];omega
          rw[e1];simp only[BY];rw[eh,BW FX,DD,show ao+sp.2+d*P.cellsOf e - (ao+sp.2)=d*P.cellsOf e by omega,<-eh];rw[AF<|bb _,BF]
         rw[ht]
         refine bP.append ?_ hnrel
         have:=(δ.drop ao).take<|d*P.cellsOf e
         grind[List.drop_take,List.drop_drop,Nat.min_eq_left,Nat.add_comm]
        .grind[eB,List.length_append,List.length_take,List.length_drop,Array.length_toList]
        .exact⟨b,_,c',cK,m,FR,FW⟩
        simp_all
       split at f
       .split at f
        .rename_i F;subst F;simp[bB] at L;have:=grown none Y [] [] ρ h ε bP.nil FW (by simp[Builtin.firstCells]) (pT.refl A) rfl;grind
        .cases f
       .rename_i a;obtain⟨W,ao,S⟩:=a;split at f
        .rename_i U;subst U;split at f
         .rename_i F;subst F;obtain⟨_,rfl,a',c',hc0,_,rfl⟩:=L;have:=grown (some a') 0 [] [] ρ h ε bP.nil FW GK (pT.refl A) rfl;grind
         .cases f
        .split at f
         .rename_i U;simp only at U;subst U;split at f
          .rename_i c e' fz xx Q;split at f
           .rename_i hc;obtain⟨rfl,l,rfl,π,rfl,rfl⟩:=hc;simp only at π l;simp[Option.some.injEq,Prod.mk.injEq] at f;obtain⟨rfl,rfl⟩:=f;simp only[bB] at L;obtain⟨_,_,a',c',_,N,rfl⟩:=L;have⟨b,sp,J,hsp1,hpos⟩:=N trivial;by_cases m:0+n<=c'
            .obtain rfl:=hpos FQ;have:=tail (ao:=ao) l Q J m FQ (by have:=o0 (P.cellsOf e') hsp1;omega);simpa using this
            .have:=grown (some a') c' [] [] ρ _ m bP.nil FW GK (gu A l Q J) FW;grind
           .cases f
          .cases f
         .split at f
          .rename_i y c e' fz xx hold Q;split at f
           .cases f
           .have F:=L;obtain rfl:S=none:=by
             simp_all[eN,none,some]
            simp only[bB] at L
            obtain⟨b,sp,c',J,γ,N,rfl⟩:=L
            have⟨q,horun,horel,_,holen⟩:=B9 hid J hold
            have I:(Builtin.firstCells _ d<|.slice (some ⟨b,ao+sp.2,none⟩) d c').run P w.drew= .ok _ w.drew:=horun
            obtain⟨ob,θ,cc,rfl,δ,hsz,ν⟩:=A.uE _ _ Q b sp J
            split at f
            .rename_i ξ;obtain⟨rfl,rfl⟩:=f;have hsp0:=(ν ξ).1;exact grown _ c' y q ρ h FQ horel holen I (pT.refl A) rfl
            .rename_i ξ;split at f
             .rename_i hc;obtain⟨rfl,l,rfl,τ⟩:=hc;simp only at τ l;simp[Option.some.injEq,Prod.mk.injEq] at f;obtain⟨rfl,rfl⟩:=f;by_cases m:d+n<=c'
              .simp only[eN,ef,aO,dx,Q] at hold;split at hold
               .cases hold;exact tail l Q J m FQ (by have:=o0 (P.cellsOf e') N;rw[CK] at this;omega)
               .cases hold
              .exact grown _ c' y q ρ (h.set W none) m horel holen I (gu A l Q J) FW
             .cases f
          .cases f
      .cases f
   .cases f
  .cases f
 .cases f
def aJq (c:fT P B ρ h w):pT P B ρ h w ρ h w.drew:=
 {pT.refl c with inv:=c.fj rfl}
variable {b:Builtin}
theorem Wz (y:fT P B ρ h w) {d:Array TypeId} {consts:Array Bool} {args f:FJ} (hb:b= .len\/b= .min) (ha:bP ρ args f) (g:kE P h b d args=some (v,r)):
  r=h/\∃m,bB ρ v m/\(builtin b d ty consts ⟨f⟩).run P w= .ok (.value m) w:=by
 unfold kE at g
 split at g
 .obtain⟨p,t,j,rfl,rfl⟩:=ha;have l:∀(t:TypeId) (n:Nat),d[0]?=some t->(Builtin.len_ d ty #[p]).run P w= .ok (goInt n) w->h=h/\∃m,bB ρ (.int .i64 n) m/\(builtin .len d ty consts ⟨[p]⟩).run P w= .ok _ w:=
   fun t n _ u=>⟨rfl,.int .i64 n,GC,by
    show(do pure (Next.value<|<-Builtin.len_ d ty #[p]):Sem Next).run P w=_;simp only[c9,u,bj];rfl⟩
  cases h0:d[0]? with
  |none=>grind
  |some t=>
   rw[h0] at g
   split at g
   .rename_i s q;simp only[Option.some.injEq,Prod.mk.injEq] at g;obtain⟨rfl,rfl⟩:=g;simp only[bB] at j;subst j;exact l t _ h0 (by simp[Builtin.len_,h0,ca q])
   .obtain⟨rfl,rfl⟩:=g;simp_all[Builtin.len_,ca]
   .rename_i e a n c q;obtain⟨rfl,rfl⟩:=g;cases a with
    |none=>simp[bB] at j;simp_all[Builtin.len_,ca]
    |some a=>
     obtain⟨_,_,sp⟩:=a
     cases sp with
     |none=>obtain⟨_,_,_,_,_,_,rfl⟩:=j;simp_all[Builtin.len_,ca]
     |some _=>obtain⟨rfl,_,_,_,_,_,rfl⟩:=j;exact l t _ h0 (by simp[Builtin.len_,h0,ca q])
   .grind[Option.map_eq_some_iff,w9]
   .cases g
 .grind
 .grind
 .grind
 .grind
 .obtain⟨p,_,j,⟨z,_,x,rfl,rfl⟩,rfl⟩:=ha;subst j x;obtain⟨rfl,rfl⟩:=g;exact⟨rfl,_,by simp only[bB];rfl,by simp[builtin,Builtin.min_,Builtin.min2]⟩
 .cases g
theorem Wc (y:fT P B ρ h w) {d:Array TypeId} {consts:Array Bool} {args:FJ} (ha:bP ρ args j) (f:kE P h b d args=some (v,r)):
  ∃ρ' g l,pT P B ρ h w ρ' r g/\bB ρ' v l/\(builtin b d ty consts ⟨j⟩).run P w= .ok (.value l) g:=by
 have I:=f
 have lit:b= .len\/b= .min->∃ρ' g l,pT P B ρ h w ρ' r g/\bB ρ' v l/\(builtin b d ty consts ⟨j⟩).run P w= .ok (.value l) g:=fun O=>by
  obtain⟨rfl,l,M,A⟩:=Wz (ty:=ty) (consts:=consts) y O ha I;grind[pT.refl]
 unfold kE at f
 split at f
 .grind
 .obtain⟨W,_,T,⟨u,_,m,rfl,rfl⟩,rfl⟩:=ha;have⟨ρ',g,l,M,A,h3⟩:=bq y (ty:=ty) T m f;refine⟨ρ',g,l,M,A,?_⟩;show(do pure (Next.value<|<-Builtin.append_ d ty #[W,u]):Sem Next).run P w=_;simp_all
 .obtain⟨u,t,m,rfl,rfl⟩:=ha;have J:∀(g:World) (r:AH),pT P B ρ h w ρ r g->(Builtin.clear_ d ty #[u]).run P w= .ok (.tuple #[]) g->∃ρ' g l,pT P B ρ h w ρ' r g/\bB ρ' _ l/\(builtin .clear d ty consts ⟨[u]⟩).run P w= .ok (.value l) g:=
   fun g r C F=>⟨ρ,g,.tuple #[],C,gY _<|by simp[jJ,G6,tB],by
    show(do pure (Next.value<|<-Builtin.clear_ d ty #[u]):Sem Next).run P w=_;simp_all⟩
  cases p:d[0]? with
  |none=>grind
  |some t=>
   rw[p] at f
   split at f
   .simp[bB] at m;simp_all[pT.refl,Builtin.clear_,ca]
   .rename_i e a n c q;obtain⟨X,Y,x⟩:=a;split at f
    .cases x with
     |none=>
      obtain⟨_,_,L,_,_,_,rfl⟩:=m
      simp_all[pT.refl,Builtin.clear_,ca]
     |some _=>
      obtain⟨_,_,_,L,_,_,rfl⟩:=m
      simp_all[pT.refl,Builtin.clear_,ca]
    .split at f
     .rename_i z U;simp only[ba] at f;obtain⟨A,G,f⟩:=f;cases f;have⟨i,zv,hinf,hzero,hzr,hzc,hzl,hzz⟩:=xZ (w:=w) U;cases x with
      |none=>
       obtain⟨b,sp,L,F,_,_,rfl⟩:=m
       have⟨g,hrun2,hevo,_⟩:=O7 y F G<|D3 (hzz ρ) n
       apply J g _ hevo
       have N:=Ah HQ hzl n
       simp only[Builtin.clear_,p,CH,sz,c9,ca q,bj]
       simp_all
      |some _=>grind[jP]
     .cases f
   .cases f
 .obtain⟨m',_,S,⟨Z,_,Q,rfl,rfl⟩,rfl⟩:=ha;split at f
  .rename_i t p;simp only[ba] at f;obtain⟨A,q,f⟩:=f;cases f;have⟨g,F,C⟩:=w5 (ty:=ty) y p S Q q;refine⟨ρ,g,_,C,gY _<|by simp[jJ,G6,tB],?_⟩;show(do pure (Next.value<|<-Builtin.delete_ d ty _):Sem Next).run P w=_;simp_all
  .cases f
 .obtain⟨u,t,m,rfl,rfl⟩:=ha;split at f
  .rename_i q;simp only[Option.some.injEq,Prod.mk.injEq] at f;obtain⟨rfl,rfl⟩:=f;simp only[bB] at m;subst m;cases p:d[0]? with
   |none=>simp[p] at q
   |some t=>
    rw[p] at q
    simp only[AS] at q
    refine⟨ρ,w,_,pT.refl y,by simp only[bB];rfl,?_⟩
    show(do pure (Next.value<|<-Builtin.cap_ d ty #[_]):Sem Next).run P w=_
    simp[Builtin.cap_,p,ca q]
    rfl
  .cases f
 .grind
 .cases f
end Go.Ab
namespace Go.Ab
noncomputable section
inductive Fp where
 |vY|ret|exit (id:Nat)
structure Dx where
 iC:Fp
 ds:FL
 env:FJ
 v:Value
inductive aMr where
 |todo (fn:FuncId) (ro:Option Nat) (ds:FL) (env:FJ) (k:List Item)
 |ops (all:Array Oper) (rest:List Oper) (env:FJ)
 |call (f:FuncId) (args:FJ)
 |round (l:Nat) (args:FJ)
def eM (P:Program) (env:FJ):Operand->Value
 |.tmp t=>env.getD t undef
 |.const v=>if jJ v then v else sb
 |.global g=>if g<P.globals.size then .pointer (some ⟨g,0,none⟩) else sb
 |.func f=> .func (.func f) #[] #[]
def pC (env:FJ) (d:Option Tmp) (v:Value):FJ:=
 match d with
 |some d=>env.set d v
 |none=>env
def gR (all:Array Oper) (env:FJ) (o:Oper):Option Bool:=
 match o.guard with
 |none=>some true
 |some (j,fY)=>
  match((all[j]?).bind (·.dst)).bind (env[·]?) with
  |some (.bool b)=>some (b==fY)
  |some (.chan _)=>none
  |_=>some false
def lX (P:Program) (g:FuncId):Bool:=
 match P.funcs[g]? with
 |some c=>c.body.isSome&& !(c.name=="runtime.NumGoroutine")
 |none=>false
abbrev mP:=aMr->AH->Option (Dx×AH)
def wS:Builtin->Bool
 |.len|.min=>true
 |_=>false
def mT (op:Op):Bool:=
 match op with
 |.call c=>(match c.callee with|.builtin b=>wS b|_=>false)
 |op=>fX op== .G5
def iB (P:Program) (d:Operand->Value) (h:AH) (op:Op):FN:=
 match op with
 |.call c=>(match c.callee with|.builtin b=>if wS b then(kE P h b c.argTypes<|c.args.toList.map d).map (·.1) else none|_=>none)
 |op=>dP P d h op
def gP (P:Program) (R:mP) (e:Operand->Value) (h:AH) (op:Op):Option (Value×AH):=
 match op with
 |.store t a x=>match e a with
  |.pointer (some a)=>(dh P h t a<|e x).map fun j=>(undef,j)
  |_=>none
 |.mapUpdate t m k x=>(M5 P h t (e m) (e k)<|e x).map fun j=>(undef,j)
 |.call c=>
  match c.callee with
  |.builtin b=>kE P h b c.argTypes (c.args.toList.map e)
  |.value f=>match e f with
   |.func (.func g) first d=>
    if lX P g then(R (.call g<|first.toList++c.args.toList.map e++d.toList) h).map fun r=>(r.1.v,r.2) else none
   |.func (.yield l) first _=>(R (.round l<|first.toList++c.args.toList.map e) h).map fun r=>(r.1.v,r.2)
   |_=>none
  |.invoke _ _=>none
 |_=>none
def uI (P:Program) (R:mP) (env:FJ) (h:AH) (op:Op):Option (Value×AH):=
 match fX op with
 |.G5=>(dP P (eM P env) h op).map fun v=>(v,h)
 |.alloc=>(lJ P (eM P env) op).map fun r=>(r.2 h.next,h.alloc r.1)
 |.store|.call=>gP P R (eM P env) h op
 |.Jy=>none
def iF (o:Oper):FL:=(o.after.toList.filter fun e=>Region.binds .any e).map (·.on)
def Ch (acc:FL):FL->Nat
 |[]=>0
 |j::l=>(1<<<j)|||(acc.getD j 0|||Ch acc l)
def iY:List Oper->FL->FL
 |[],acc=>acc
 |o::c,acc=>iY c<|acc++[Ch acc<|iF o]
def Kx (ops:List Oper) (o:Oper):FL:=
 (o.op.operands.toList.filterMap fun|.tmp t=>some t|_=>none)++
 (match o.guard with|some (j,_)=>((ops[j]?).bind (·.dst)).toList|none=>[])
def fI (op:Op):Bool:=(fX op== .store||fX op== .call)&& !mT op
def qW (ps:FL) (i j:Nat):Bool:=(ps.getD j 0).testBit i
def Ss (ops:List Oper):Bool:=
 let c:=iY ops []
 let n:=ops.length
 let is:=List.range n
 (ops.zipIdx.all fun(o,i)=>(iF o).all (·<i))&&
 (ops.all fun o=>match o.op with|.select _ _=>false|.defer _=>false|_=>fX o.op != .Jy)&&
 (ops.zipIdx.all fun(o,i)=>ops.zipIdx.all fun(p,j)=>i==j||(
  (o.dst.isNone||o.dst !=p.dst)&&
  (match p.dst with|some d=> !(Kx ops o).contains d||(if j<i then qW c j i else qW c i j)|none=>true)&&
  (!(fI o.op&&fI p.op&&j<i)||qW c j i)))&&is.length==n
def O4 (ops:List Oper):List (Nat×Nat):=
 let d:=iY ops []
 let n:=ops.length
 let Dp:=(List.range n).filter fun i=>(ops[i]?).any fun o=>fI o.op
 let c:=Dp++[n]
 (List.range n).flatMap fun i=>
  if(ops[i]?).any (fun o=>mT o.op) then
   let V0:=(c.find? (i<·)).getD n
   (c.filter fun p=>p !=V0&&Dp.all fun j=>if j<p then !qW d i j else !qW d j i).map fun p=>(i,p)
  else []
mutual
def wM:Value->Value->Bool
 |.bool a,.bool b=>a==b
 |.int j a,.int k b=>j==k&&a==b
 |.string a,.string b=>a==b
 |.pointer a,.pointer b=>a==b
 |.slice a l c,.slice b m d=>a==b&&l==m&&c==d
 |.map a,.map b=>a==b
 |.nilFunc,.nilFunc=>true
 |.nilIface,.nilIface=>true
 |.func f a b,.func g c d=>f==g&&aF1 a c&&aF1 b d
 |.iface t v,.iface u w=>t==u&&wM v w
 |.agg a,.agg b=>aF1 a b
 |.tuple a,.tuple b=>aF1 a b
 |_,_=>false
def aF1:FO->FO->Bool
 |⟨a⟩,b=>Tw a b.toList
def Tw:FJ->FJ->Bool
 |[],[]=>true
 |a::l,b::m=>wM a b&&Tw l m
 |_,_=>false
end
def kY (P:Program) (R:mP) (all:List Oper) (r0 i:Nat) (env:FJ) (h:AH) (o:Oper):Option (Value×AH):=
 match gR ⟨all⟩ env o with
 |none=>none
 |some false=>some (undef,h)
 |some true=>
  if mT o.op then(iB P (eM P env) h o.op).map fun v=>(v,h)
  else if fX o.op== .alloc then(lJ P (eM P env) o.op).map fun r=>(r.2<|r0+i,h.set (r0+i)<|some r.1)
  else gP P R (eM P env) h o.op
structure Rec where
 env:FJ
 h:AH
 v:Value
def nN (P:Program) (R:mP) (all:List Oper) (r0:Nat):Nat->List Oper->FJ->AH->Option (List Rec×FJ×AH)
 |_,[],c,h=>some ([],c,h)
 |i,o::f,c,h=>
  match kY P R all r0 i c h o with
  |some (v,d)=>match nN P R all r0 (i+1) f (pC c o.dst v) d with
   |some (g,e)=>some (⟨c,h,v⟩::g,e)
   |none=>none
  |none=>none
def Iw (P:Program) (all:List Oper) (rs:List Rec) (hEnd:AH) (x:Nat×Nat):Bool:=
 match all[x.1]?,rs[x.1]? with
 |some o,some r=>
  match gR ⟨all⟩ r.env o with
  |some true=>(match iB P (eM P r.env) (match rs[x.2]? with|some q=>q.h|none=>hEnd) o.op with|some v=>wM v r.v|none=>false)
  |_=>true
 |_,_=>false
def Bq (P:Program) (R:mP) (ops:Array Oper) (env:FJ) (h:AH):Option (FJ×AH):=
 if Ss ops.toList&&(P.follows .mixedOrders|| !Region.departs ops) then
  match nN P R ops.toList h.next 0 ops.toList env {h with next:=h.next+ops.size} with
  |some (e,c,d)=>if(O4 ops.toList).all (Iw P ops.toList e d) then some (c,d) else none
  |none=>none
 else none
def dO:FL->AH->JI
 |[],h=>some h
 |d::c,h=>if h.base<=d then(match h.get d with|some (.wO true)=>dO c (h.set d<|some<|.wO false)|_=>none) else none
def mN (P:Program) (h:AH) (env:FJ):List ResultVar->JA
 |[]=>some []
 |.tmp t::c=>(mN P h env c).map fun l=>env.getD t undef::l
 |.cell a t::c=>match env.getD a undef with
  |.pointer (some a)=>match C9 P h t a,mN P h env c with
   |some v,some l=>some (v::l)
   |_,_=>none
  |_=>none
def Fz (vs:FJ):Value:=
 match vs with
 |[v]=>v
 |vs=> .tuple ⟨vs⟩
def eX (h:AH) (l:Nat) (st:LoopState) (pending:Option (Option Code)):JI:=
 match h.get l with
 |some (.loop _ p e tmps f assign c d)=>if h.base<=l then some (h.set l<|some<|.loop st (pending.getD p) e tmps f assign c d) else none
 |_=>none
def gT (P:Program) (R:mP) (n:FuncId) (m:Option Nat) (j:FL) (env:FJ) (k:List Item) (h:AH):Option (Dx×AH):=
 match k with
 |[]=>some (⟨.vY,j,env,undef⟩,h)
 |.code c::k=>
  match c with
  |.skip=>R (.todo n m j env k) h
  |.label _=>R (.todo n m j env k) h
  |.seq a b=>R (.todo n m j env (.code a:: .code b::k)) h
  |.cond c t e=>match eM P env c with
   |.bool b=>R (.todo n m j env (.code (if b then t else e)::k)) h
   |_=>none
  |.block id b=>R (.todo n m j env (.code b:: .inBlock id::k)) h
  |.loop b=>R (.todo n m j env (.code b:: .inLoop b::k)) h
  |.scope b=>R (.todo n m j env (.code b:: .inScope b::k)) h
  |.exit id=>match exitTo id k with
   |some C=>R (.todo n m j env C) h
   |none=>if m.isSome then some (⟨.exit id,j,env,undef⟩,h) else none
  |.ret=>some (⟨.ret,j,env,undef⟩,h)
  |.region _ ops false=>match R (.ops ops ops.toList env) h with
   |some (o,v)=>R (.todo n m j o.env k) v
   |none=>none
  |.region _ ops true=>match Bq P R ops env h with
   |some (u,v)=>R (.todo n m j u k) v
   |none=>none
  |.rangeFunc f F assign r=>
   match(match m with
    |none=>some (h.next,h.alloc<|.wO true,h.next::j)
    |some l=>match h.get l with
     |some (.loop _ _ _ _ _ _ _ d)=>some (d,h,j)
     |_=>none) with
   |some (d,x,y)=>
    match eM P env f with
    |.func (.func g) first q=>
     if lX P g then
      match R (.call g<|first.toList++[.func (.yield x.next) #[] #[]]++q.toList) (x.alloc<|.loop .ready none n env F assign r d) with
      |some (_,z)=>
       match z.get x.next with
       |some (.loop st p _ _ _ _ _ _)=>
        if st= .busy then none else
        match eX z x.next .exhausted none with
        |some A=>R (.todo n m y env<|(p.map Item.code).toList++k) A
        |none=>none
       |_=>none
      |none=>none
     else none
    |_=>none
   |none=>none
  |_=>none
 |.inBlock _::k=>R (.todo n m j env k) h
 |.inScope _::k=>R (.todo n m j env k) h
 |.inLoop b::k=>R (.todo n m j env (.code b:: .inLoop b::k)) h
 |.beginRound::k=>
  match m with
  |some l=>match h.get l with
   |some (.loop .ready _ _ _ _ _ _ _)=>match eX h l .busy none with
    |some v=>R (.todo n m j env k) v
    |none=>none
   |_=>none
  |none=>none
 |_=>none
def Ck (P:Program) (R:mP) (all:Array Oper) (rest:List Oper) (env:FJ) (h:AH):Option (Dx×AH):=
 match rest with
 |[]=>some (⟨.vY,[],env,undef⟩,h)
 |o::rest=>
  match gR all env o with
  |none=>none
  |some false=>R (.ops all rest<|pC env o.dst undef) h
  |some true=>match uI P R env h o.op with
   |some (v,c)=>R (.ops all rest<|pC env o.dst v) c
   |none=>none
inductive mZ where
 |val (v:Value)
 |yn (g:FuncId) (args:FJ)
 |K7 (F:AH->Option (Value×AH))
abbrev IX:=Option mZ
def Xg:Value->Bool
 |.tuple ⟨[.int .i64 _,.bool _]⟩=>true
 |_=>false
def sW (P:Program) (K:FuncId->FJ->IX) (R:mP) (f:FuncId) (args:FJ) (h:AH):Option (Dx×AH):=
 match K f args with
 |some (.val v)=>some (⟨.vY,[],[],v⟩,h)
 |some (.yn g l)=>match R (.call g l) h with
  |some (o,e)=>if Xg o.v then some (⟨.vY,[],[],o.v⟩,e) else none
  |none=>none
 |some (.K7 F)=>(F h).map fun r=>(⟨.vY,[],[],r.1⟩,r.2)
 |none=>
  match P.funcs[f]? with
  |some d=>
   match d.body with
   |some c=>
    match R (.todo f none [] (args++List.replicate (d.ntmps - args.length) undef) [.code c]) h with
    |some (o,e)=>
     match o.iC with
     |.exit _=>none
     |_=>match dO o.ds e with
      |some j=>(mN P j o.env d.results.toList).map fun m=>(⟨.vY,[],[],Fz m⟩,j)
      |none=>none
    |none=>none
   |none=>none
  |none=>none
def yD (R:mP) (l:Nat) (args:FJ) (h:AH):Option (Dx×AH):=
 match h.get l with
 |some (.loop _ _ g tmps f assign c _)=>
  if args.length=f.size then
   match R (.todo g (some l) [] ((f.toList.zip args).foldl (fun t (p,v)=>t.set p v) tmps) [.code assign,.beginRound,.code c]) h with
   |some (o,e)=>
    if o.ds.isEmpty then
     match o.iC with
     |.vY=>(eX e l .ready<|some none).map fun d=>(⟨.vY,[],[],.bool true⟩,d)
     |.ret=>(eX e l .done<|some<|some .ret).map fun d=>(⟨.vY,[],[],.bool false⟩,d)
     |.exit id=>(eX e l .done<|some<|some<|.exit id).map fun d=>(⟨.vY,[],[],.bool false⟩,d)
    else none
   |none=>none
  else none
 |_=>none
def run (P:Program) (K:FuncId->FJ->IX):Nat->mP
 |0,_,_=>none
 |n+1,.todo g j e d k,h=>gT P (fun t h=>run P K n t h) g j e d k h
 |n+1,.ops all rest d,h=>Ck P (fun t h=>run P K n t h) all rest d h
 |n+1,.call f c,h=>sW P K (fun t h=>run P K n t h) f c h
 |n+1,.round l c,h=>yD (fun t h=>run P K n t h) l c h
end
end Go.Ab
variable {f:FuncId} {env:FJ} {o:Oper} {is:FL} {ρ':kX} {c:AH} {Y:Operand->Value} {op:Op}
namespace Go.Ab
open Go.RowKit
variable {h:AH}
theorem Ih (e:fT P B ρ h w) {a:Act} (c:bP ρ env a.tmps.toList) (x:Operand):bB ρ (eM P env x) (a.eval x):=by
 cases x with
 |tmp t=>
  have:=c.getD t;simp_all[eM,Act.eval,aP]
 |const v=>
  grind[eM,Act.eval,gY,sb,bB]
 |global g=>
  simp[eM,Act.eval];split;rename_i d;exact⟨g,_,e.rR g d,rfl⟩;simp[sb,bB]
 |func f=>
  grind[eM,Act.eval,bB,V7,vE,bP.nil]
def kl {a:Act} {e:Value} (d:Option Tmp) (c:bP ρ env a.tmps.toList) (f:bB ρ v e):bP ρ (pC env d v) (a.put d e).tmps.toList:=by
 cases d with
 |none=>exact c
 |some d=>simpa [pC,Act.put] using c.set d f
def tI {a:Act} {d:Option Tmp}:(a.put d v).defers=a.defers:=by cases d<;>rfl
def Cy:bB ρ undef undef:=gY undef (by simp[undef,jJ,G6,tB])
theorem xG {all:Array Oper} {a:Act} {t:Bool} (g:bP ρ env a.tmps.toList) (e:gR all env o=some t):Region.wanted o (yielded all a.tmps)=t:=by
 rw[gR] at e;unfold Region.wanted yielded;split at e;grind;rename_i j fY l;rw[l];cases hd:(all[j]?).bind (·.dst) with
 |none=>grind
 |some d=>
  rw[hd] at e;simp[AS] at e ⊢;cases hv:env[d]? with
  |none=>
   have:=g.ru hv;grind
  |some v=>
   have⟨v',hv',hr⟩:=g.get hv;rw[hv] at e;cases v with
   |bool b=>simp_all[bB]
   |chan r=>simp at e
   |agg cs=>grind[bB]
   |tuple cs=>grind[bB]
   |iface u x=>grind[bB]
   |func m f c=>grind[bB]
   |pointer p=>cases p with
    |none=>grind[bB]
    |some p=>grind[bB]
   |map p=>cases p with
    |none=>grind[bB]
    |some p=>grind[bB]
   |slice p _ _=>cases p with
    |none=>grind[bB]
    |some p=>
     obtain⟨_,_,sp⟩:=p
     cases sp with
     |none=>grind[bB]
     |some _=>grind[bB]
   |_=>grind[bB]
variable {b:Frame} {k:List Item} {cs:List Frame}
section steps
variable {a:Act} {all:Array Oper}
def Xw (d:all[i]?=some o) (g:Region.wanted o (yielded all a.tmps)=true) (e:∀c,o.op≠.defer c) (f:(execOp a.eval o).run P w= .ok (.value v) w'):
  step P (lone (b.atR a (.inRegion all (i::is)::k)) cs w)= .next (lone (b.atR (a.put o.dst v) (.inRegion all is::k)) cs w'):=by
 apply CP
 rw[stepGR_op d g,EM _ _ _ e]
 simp[stepG.apply,EI,f,CQ,DL,d]
def aRy (d:all[i]?=some o) (g:Region.wanted o (yielded all a.tmps)=true) (e:∀c,o.op≠.defer c) (f:(execOp a.eval o).run P w= .ok .skip w'):
  step P (lone (b.atR a (.inRegion all (i::is)::k)) cs w)= .next (lone (b.atR (a.put o.dst undef) (.inRegion all is::k)) cs w'):=by
 apply CP
 rw[stepGR_op d g,EM _ _ _ e]
 simp[stepG.apply,EI,f,CQ,DL,d]
def aXr (e:all[i]?=some o) (j:Region.wanted o (yielded all a.tmps)=true) (d:∀c,o.op≠.defer c) {args:FO} (g:(execOp a.eval o).run P w= .ok (.enter f args) w'):
  step P (lone (b.atR a (.inRegion all (i::is)::k)) cs w)= .next (lone (Frame.enter P f args .normal) (b.atR a (.inRegion all (i::is)::k)::cs) w'):=by
 apply CP
 rw[stepGR_op e j,EM _ _ _ d]
 simp[stepG.apply,EI,g,CQ,Frame.atR]
def aVl (e:all[i]?=some o) (j:Region.wanted o (yielded all a.tmps)=true) (d:∀c,o.op≠.defer c) {l:Nat} {tmps:FO} {as bd:Code} (g:(execOp a.eval o).run P w= .ok (.round l f tmps as bd) w'):
  step P (lone (b.atR a (.inRegion all (i::is)::k)) cs w)= .next (lone (Frame.round l f tmps as bd .normal) (b.atR a (.inRegion all (i::is)::k)::cs) w'):=by
 apply CP
 rw[stepGR_op e j,EM _ _ _ d]
 simp[stepG.apply,EI,g,CQ,Frame.atR]
end steps
def Xq (ρ:kX):Option Nat->Option Nat->Prop
 |none,r=>r=none
 |some l,r=>∃b s,ρ l=some (b,s)/\r=some b
def Za (ρ:kX):FL->List Deferred->Prop
 |[],c=>c=[]
 |d::l,c=>∃b s t,ρ d=some (b,s)/\Za ρ l t/\c={target:= .collected b,args:= #[]}::t
theorem Xq.mono (h:Du ρ ρ') {r r':Option Nat} (k:Xq ρ r r'):Xq ρ' r r':=by
 cases r with
 |none=>exact k
 |some l=>obtain⟨b,s,c,d⟩:=k;exact⟨b,s,h _ _ c,d⟩
theorem Za.mono {ρ ρ':kX} (h:Du ρ ρ'):∀{l:FL} {c:List Deferred},Za ρ l c->Za ρ' l c
 |[],_,k=>k
 |_::_,_,⟨b,s,t,d,e,f⟩=>⟨b,s,t,h _ _ d,Za.mono h e,f⟩
def aTc:Fp->List Item->Prop
 |.vY,k=>k=[]
 |.ret,k=>∃c,k= .code .ret::c
 |.exit id,k=>∃c,k= .code (.exit id)::c/\exitTo id c=none
def zy (all:Array Oper):FL->List Oper->Prop
 |[],[]=>True
 |i::is,o::c=>all[i]?=some o/\zy all is c
 |_,_=>False
structure aTo (a b:Nat) (w w':World):Prop where
 Sv:∀i,i<w.heap.size->(i<a\/b<=i)->w'.heap[i]?=w.heap[i]?
 size:w.heap.size<=w'.heap.size
 os:w'.os=w.os
 out:w'.output=w.output
 tape:w'.tape=w.tape
structure aM0 (a:Nat) (w w':World):Prop where
 Sv:∀i,a<=i->i<w.heap.size->w'.heap[i]?=w.heap[i]?
 size:w.heap.size<=w'.heap.size
 os:w'.os=w.os
 out:w'.output=w.output
 tape:w'.tape=w.tape
structure Pj (P:Program) (B:Nat) (K:FuncId->FJ->IX) where
 G:World->Prop
 Sv:∀w w',Below B w w'->G w->G w'
 call:∀f args v w,K f args=some (.val v)->G w->tB args=true/\Calls P f ⟨args⟩ w fun e w'=>(∃v',e= .returned v'/\∀ρ,bB ρ v v')/\Below w.heap.size w w'
 yn:∀f args g bs,K f args=some (.yn g bs)->∀(ρ:kX) (args':FJ) (w:World),bP ρ args args'->G w->
  ∃(bs':FJ) (w1:World),bP ρ bs bs'/\Below w.heap.size w w1/\∀(v:Value) (S:World->Prop),Xg v=true->
   Calls P g ⟨bs'⟩ w1 (fun e w'=>e= .returned v/\aM0 w.heap.size w1 w'/\S w')->
    Calls P f ⟨args'⟩ w (fun e w'=>e= .returned v/\∃w2,S w2/\aTo w.heap.size w1.heap.size w2 w')
 K7:∀f args F,K f args=some (.K7 F)->∀(h:AH) (v:Value) (h':AH),F h=some (v,h')->∀(ρ:kX) (w:World) (args':FJ),fT P B ρ h w->G w->bP ρ args args'->
  Calls P f ⟨args'⟩ w fun e w'=>∃ρ' v',e= .returned v'/\bB ρ' v v'/\pT P B ρ h w ρ' h' w'
variable {K:FuncId->FJ->IX}
def y1 (C:Pj P B K) (f:FuncId) (args:FJ) (h:AH) (v:Value) (g:AH):Prop:=
 ∀(ρ:kX) (w:World) (c:FJ),fT P B ρ h w->C.G w->bP ρ args c->
  Calls P f ⟨c⟩ w fun e j=>∃ρ' d,e= .returned d/\bB ρ' v d/\pT P B ρ h w ρ' g j
def qh (C:Pj P B K) (l:Nat) (args:FJ) (h:AH) (v:Value) (m:AH):Prop:=
 ∀(ρ:kX) (w:World) (d:FJ) (e:Nat) (s:Nat×Nat),fT P B ρ h w->C.G w->bP ρ args d->ρ l=some (e,s)->
  ∃f tmps as bd,(Instr.yield e ⟨d⟩).run P w= .ok (.round e f tmps as bd) w/\
   ∀(c:Frame) (cs:List Frame),∃ρ' g j,bB ρ' v g/\pT P B ρ h w ρ' m j/\Steps P (lone (Frame.round e f tmps as bd .normal) (c::cs) w) (lone (c.finish g) cs j)
def Qz (C:Pj P B K) (g:FuncId) (l:Option Nat) (f:FL) (env:FJ) (k:List Item) (h:AH) (out:Dx) (j:AH):Prop:=
 ∀(ρ:kX) (w:World) (b:Frame) (a:Act) (cs:List Frame),fT P B ρ h w->C.G w->b.fn=g->Xq ρ l b.roundOf->bP ρ env a.tmps.toList->Za ρ f a.defers->
  ∃ρ' e c d,pT P B ρ h w ρ' j e/\bP ρ' out.env c.tmps.toList/\Za ρ' out.ds c.defers/\Steps P (lone (b.atR a k) cs w) (lone (b.atR c d) cs e)/\aTc out.iC d
def aHm (C:Pj P B K) (all:Array Oper) (rest:List Oper) (env:FJ) (h:AH) (out:Dx) (e:AH):Prop:=
 ∀(ρ:kX) (w:World) (b:Frame) (a:Act) (cs:List Frame) (is:FL) (k:List Item),fT P B ρ h w->C.G w->bP ρ env a.tmps.toList->zy all is rest->
  ∃ρ' d c,pT P B ρ h w ρ' e d/\bP ρ' out.env c.tmps.toList/\c.defers=a.defers/\Steps P (lone (b.atR a (.inRegion all is::k)) cs w) (lone (b.atR c (.inRegion all []::k)) cs d)
def Sim (C:Pj P B K):aMr->AH->Dx->AH->Prop
 |.todo j m g d k,h,out,e=>Qz C j m g d k h out e
 |.ops all rest d,h,out,e=>aHm C all rest d h out e
 |.call f c,h,out,e=>y1 C f c h out.v e
 |.round l c,h,out,e=>qh C l c h out.v e
def Jq (C:Pj P B K) (R:mP):Prop:=∀t h out c,R t h=some (out,c)->Sim C t h out c
def pT.G (C:Pj P B K) (f:fT P B ρ h w) (e:pT P B ρ h w ρ' c w') (d:C.G w):C.G w':=C.Sv _ _ (e.below f) d
def aIl (P:Program) (B:Nat) (ρ:kX) (h:AH) (w:World) (b:Frame) (a:Act) (all:Array Oper) (i:Nat) (is:FL) (k:List Item) (cs:List Frame) (o:Oper) (v:Value) (e:AH):Prop:=
 ∃ρ' d c,pT P B ρ h w ρ' e d/\bB ρ' v c/\Steps P (lone (b.atR a (.inRegion all (i::is)::k)) cs w) (lone (b.atR (a.put o.dst c) (.inRegion all is::k)) cs d)
theorem Nl {g:FuncId} (hc:lX P g=true) (args:FO):(callFunc g args).run P w= .ok (.enter g args) w:=by
 rw[lX] at hc;cases hf:P.funcs[g]? with
 |none=>grind
 |some c=>
  rw[hf] at hc;simp only[dn,AW] at hc;have d:c.body.isNone=false:=HB
  simp only[callFunc,c9,run_program,bj,hf,hc.2,aO,dx,d,kd]
theorem Hd (C:Pj P B K) {R:mP} (hR:Jq C R) (U:fT P B ρ h w) (hg:C.G w) {a:Act} (n:∀x,bB ρ (Y x)<|a.eval x) {all:Array Oper}
  (k:List Item) (cs:List Frame) (Q:all[i]?=some o) (W:Region.wanted o (yielded all a.tmps)=true) (d:gP P R Y h o.op=some (v,h')):
  aIl P B ρ h w b a all i is k cs o v h':=by
 obtain⟨dst,op,ty,pos,after,guard⟩:=o
 simp only at d
 unfold gP at d
 split at d
 .rename_i t x y;split at d
  .rename_i ad hx;simp only[ba] at d;obtain⟨Z,O,d⟩:=d;cases d;have J:=n x;rw[hx] at J;have⟨I,hr,j⟩:=jz U J (n y) O;refine⟨ρ,I,_,j,Cy,.one<|aRy Q W FR ?_⟩;simp[execOp,hr]
  .cases d
 .rename_i t m k x;simp only[ba] at d;obtain⟨Z,O,d⟩:=d;cases d;have⟨I,hr,j⟩:=vq U (n m) (n k) (n x) O;refine⟨ρ,I,_,j,Cy,.one<|aRy Q W FR ?_⟩;simp[execOp,hr]
 .rename_i c;obtain⟨callee,args,argTypes⟩:=c;simp only at d;split at d
  .have⟨ρ',I,X,j,p,hr⟩:=Wc (ty:=ty) (consts:=args.map fun|.const _=>true|_=>false) U (bP.Oe n _) d;refine⟨ρ',I,X,j,p,.one<|Xw Q W FR ?_⟩;have:args.map a.eval=⟨args.toList.map a.eval⟩:=FR;grind[execOp,resolve,Sem.run_bind,Sem.run_pure,Result.andThen_ok,invoke]
  .rename_i f;split at d
   .rename_i g first r hf
    split at d
    .rename_i S;simp only[ba] at d;obtain⟨⟨out,Z⟩,A,d⟩:=d;cases d;have J:=n f;rw[hf] at J;obtain⟨_,u,L,rfl,N,T,M⟩:=J;have q:bP ρ _ (u.toList++args.toList.map a.eval++L.toList):=
      ((nM.1 N).append<|bP.Oe n _).append (nM.1 T)
     obtain⟨e,I,fr,⟨ρ',X,rfl,p,j⟩,F,_,G⟩:=hR _ _ _ _ A ρ w _ U hg q (b.atR a (.inRegion all (i::is)::k)::cs)
     refine⟨ρ',I,X,j,p,?_⟩
     have z:(execOp a.eval {dst:=dst,op:= .call {callee:= .value f,args:=args,argTypes:=argTypes},type:=ty,pos:=pos,after:=after,guard:=guard}).run P w= .ok (.enter g ⟨u.toList++args.toList.map a.eval++L.toList⟩) w:=by
      simp only[execOp,resolve,c9,M,Deferred.ofValue,kd,bj,invoke,Nl S];simp_all
     refine .head (aXr Q W FR z)<|Steps.trans F<|.one ?_
     rw[step_leave_returned G,DL,Q]
     rfl
    .cases d
   .rename_i l first r hf
    simp only[ba] at d
    obtain⟨⟨out,Z⟩,A,d⟩:=d
    cases d
    have J:=n f
    rw[hf] at J
    obtain⟨_,u,L,⟨lb,s,hl,rfl⟩,N,T,M⟩:=J
    have q:bP ρ (first.toList++args.toList.map Y) _:=
     (nM.1 N).append (bP.Oe n _)
    have⟨fn,tmps,as,bd,hy,hround⟩:=hR _ _ _ _ A ρ w _ lb s U hg q hl
    have⟨ρ',X,I,p,j,hsteps⟩:=hround (b.atR a (.inRegion all (i::is)::k)) cs
    refine⟨ρ',I,X,j,p,?_⟩
    have z:(execOp a.eval {dst:=dst,op:= .call {callee:= .value f,args:=args,argTypes:=argTypes},type:=ty,pos:=pos,after:=after,guard:=guard}).run P w= .ok (.round lb fn tmps as bd) w:=by
     simp[execOp,resolve,c9,M,Deferred.ofValue,kd,bj,invoke];have:u++args.map a.eval=⟨u.toList++args.toList.map a.eval⟩:=FR;grind
    have hs:=Steps.head (aVl Q W FR z) hsteps
    grind[Frame.finish_atR]
   .cases d
  .cases d
 .cases d
def uJ (h:fX op≠.Jy):∀c,op≠.defer c:=by
 rintro c rfl;exact h rfl
theorem Ze (C:Pj P B K) {R:mP} (r:Jq C R) (e:fT P B ρ h w) (t:C.G w) {a:Act} (p:bP ρ env a.tmps.toList) {all:Array Oper}
  (k:List Item) (cs:List Frame) (m:all[i]?=some o) (n:Region.wanted o (yielded all a.tmps)=true) {l:AH} (c:uI P R env h o.op=some (v,l)):
  aIl P B ρ h w b a all i is k cs o v l:=by
 have d:=Ih e p
 rw[uI] at c
 split at c
 .simp only[ba] at c;obtain⟨u,j,c⟩:=c;cases c;have⟨v',hr,hrel⟩:=P5 e d o j;exact⟨ρ,w,v',pT.refl e,hrel,.one<|Xw m n (uJ FR) hr⟩
 .simp only[ba] at c;obtain⟨⟨q,f⟩,j,c⟩:=c;cases c;have⟨o',g,hb,hr,hval⟩:=P3 (w:=w) d o j;exact⟨_,w.alloc o',_,Df e (hb.mono<|Du.A8<|e.iD _<|bb _) rfl rfl rfl rfl,hval _ _ (0,0) rfl cK,.one<|Xw m n (uJ FR) hr⟩
 .grind[Hd]
 .grind[Hd]
 .cases c
theorem aFp (C:Pj P B K) {R:mP} (g:Jq C R) {all:Array Oper} {rest:List Oper} {h:AH} {out:Dx} {n:AH}
  (d:Ck P R all rest env h=some (out,n)):aHm C all rest env h out n:=by
 intro ρ w b a cs is k f j e c
 unfold Ck at d
 split at d
 .cases d;cases is with
  |nil=>exact⟨ρ,w,a,pT.refl f,e,rfl,EE _ _⟩
  |cons i is=>exact c.elim
 .cases is with
  |nil=>exact c.elim
  |cons i is=>
   obtain⟨q,c⟩:=c
   split at d
   .cases d
   .rename_i m;have r:=xG e m;have⟨ρ',w',a',h1,p,h3,h4⟩:=g _ _ _ _ d ρ w b _ cs is k f j (kl _ e Cy) c;refine⟨ρ',w',a',h1,p,h3.trans tI,.head ?_ h4⟩;grind[stepR_op_skip]
   .rename_i m;split at d
    .rename_i v p l;have⟨ρ1,w1,v1,e1,r1,s1⟩:=Ze C g f j e k cs q (xG e m) (b:=b) (is:=is) l;have⟨ρ',w',a',g1,g2,g3,g4⟩:=g _ _ _ _ d ρ1 w1 b _ cs is k e1.inv (e1.G C f j) (kl _ (bP.mono e1.ext _ _ e) r1) c;exact⟨ρ',w',a',e1.trans g1,g2,g3.trans tI,s1.trans g4⟩
    .cases d
end Go.Ab
variable {e tmps:FJ} {d:Operand->Value} {t:TypeId} {g:AH} {w0 w1:World} {a:Addr} {es:List (Value×Value×Nat)} {all:List Oper} {N:Nat} {ρ0:kX} {V:Nat->Value} {E:Nat->FJ} {H:Nat->AH}
namespace Go.Ab
open Go.RowKit
variable {vs:FJ} {cs:List Frame} {st:LoopState} {p:Option Code} {ps:Array Tmp}
section
variable {h:AH} {K:FuncId->FJ->IX}
theorem uH (c:fT P B ρ h w) (hb:Below w.heap.size w w'):pT P B ρ h w ρ h w':=
 {pT.refl c with
  inv:={
   uE:=fun i o e b s f=>by
    have⟨o',h1,h2⟩:=c.uE i o e b s f;exact⟨o',(hb.block b FR).trans h1,h2⟩
   inj:=c.inj,low:=c.low,old:=c.old,iD:=c.iD,kW:=c.kW,rR:=c.rR,size:=cL c.size hb.size,bn:=c.bn}
  frame:=fun b d _=>hb.block b d
  size:=hb.size
  os:=hb.os
  out:=hb.output
  tape:=hb.tape}
theorem aHk (q:fT P B ρ h w) {t:World} (d:Below w.heap.size w w1) {n:AH} (c:pT P B ρ h w1 ρ' n t) (e:aTo w.heap.size w1.heap.size t w'):pT P B ρ h w ρ' n w':=by
 have r:∀j b s,(h.get j).isSome->ρ j=some (b,s)->b<w.heap.size:=fun j b s z g=>by
  have⟨oj,hoj⟩:=c7.1 z;have⟨o',ho',_⟩:=q.uE j oj hoj b s g;grind
 exact {c with
  inv:={c.inv with
   uE:=fun i o p b s g=>by
    have⟨o',l,m⟩:=c.inv.uE i o p b s g;refine⟨o',?_,m⟩;rw[e.Sv b<|(hX.1 l).1];exact l;rcases u4 i h.base with f|f;left;have:=c.inv.old i b s (by rwa [c.base]) g;have:=q.size;omega;rcases u4 b w1.heap.size with hb|hb;left;obtain⟨j,C,A,x,v⟩:=c.range i b s f (by rw[p];rfl) g hb;grind;grind
   size:=cL c.inv.size e.size}
  frame:=fun b hb y=>by
   rw[e.Sv b (l5 hb<|cL d.size c.size)<|.inl hb,c.frame b (l5 hb d.size) y,d.block b hb]
  range:=fun i b s l m u hb=>c.range i b s l m u<|l5 hb d.size
  size:=cL d.size<|cL c.size e.size
  os:=by rw[e.os,c.os,d.os]
  out:=by rw[e.out,c.out,d.output]
  tape:=by rw[e.tape,c.tape,d.tape]}
mutual
theorem zR {ρ:kX}:∀(v d:Value),jJ v=true->bB ρ v d->d=v
 |.bool _,_,_,k=>GB
 |.int _ _,_,_,k=>GB
 |.float _ _,_,_,k=>GB
 |.complex _ _ _,_,_,k=>GB
 |.string _,_,_,k=>GB
 |.pointer none,_,_,k=>GB
 |.pointer (some _),_,h,_=>GH
 |.slice none _ _,_,_,k=>GB
 |.slice (some _) _ _,_,h,_=>GH
 |.map none,_,_,k=>GB
 |.map (some _),_,h,_=>GH
 |.chan _,_,h,_=>GH
 |.func _ _ _,_,h,_=>GH
 |.nilFunc,_,_,k=>GB
 |.iface _ v,_,h,k=>by
  obtain⟨u,c,rfl⟩:=k;rw[zR v u h c]
 |.nilIface,_,_,k=>GB
 |.agg cs,_,h,k=>by
  obtain⟨u,c,rfl⟩:=k;rw[W0 cs u h c]
 |.tuple cs,_,h,k=>by
  obtain⟨u,c,rfl⟩:=k;rw[W0 cs u h c]
theorem W0 {ρ:kX}:∀(v c:FO),G6 v=true->vE ρ v c->c=v
 |⟨l⟩,a,h,k=>by
  have:=N9 l a.toList h k;grind
theorem N9 {ρ:kX}:∀(l l':FJ),tB l=true->bP ρ l l'->l'=l
 |[],_,_,k=>by grind[bP]
 |v::l,_,h,k=>by
  simp[tB,dn] at h;obtain⟨f,e,c,d,rfl⟩:=k;rw[zR v f h.1 c,N9 l e h.2 d]
end
theorem Ey (f:fT P B ρ h w) {env:FJ} {tmps:FO} (e:bP ρ env tmps.toList):∀(rs:List ResultVar) (vs:FJ),mN P h env rs=some vs->
  ∃c,(rs.mapM (m:=Sem) fun|.tmp t=>pure (tmps.getD t undef)|.cell a t=>do loadVar t (<-asAddr (tmps.getD a undef))).run P w= .ok c w/\bP ρ vs c
 |[],vs,d=>by simp_all[mN,Option.some.injEq,bP.nil]
 |.tmp t::rs,vs,d=>by
  simp only[mN,ba] at d;obtain⟨l,g,rfl⟩:=d;have⟨c,hr,hrel⟩:=Ey f e rs l g;refine⟨tmps.getD t undef::c,?_,bP.cons ?_ hrel⟩;simp_all;have:=e.getD t;simp_all
 |.cell a t::rs,vs,d=>by
  simp only[mN] at d;split at d;rename_i u r;split at d;rename_i v l p q;cases d;have⟨c,hr,hrel⟩:=Ey f e rs l q;have j:bB ρ (env.getD a undef) (tmps.getD a undef):=by have:=e.getD a;simp_all
  rw[r] at j;have⟨v',hv',hvr⟩:=Un f j p;refine⟨_,?_,bP.cons hvr hrel⟩;obtain⟨b,s,_,n⟩:=j;have g:(do loadVar t (<-asAddr (tmps.getD a undef)):Sem Value).run P w= .ok v' w:=by
   rw[n] at hv' ⊢;simp[Instr.loadAt,Instr.sureAddr,c9,kd,bj] at hv';simp[asAddr,c9,kd,bj,hv']
  simp only[List.mapM_cons];rw[c9,g];simp_all;cases d;cases d
theorem me (j:fT P B ρ h w) {tmps:FO} (g:bP ρ env tmps.toList) {e:Func} (p:mN P h env e.results.toList=some vs):
  ∃d,(results e tmps).run P w= .ok d w/\bB ρ (Fz vs) d:=by
 have⟨vs',hr,hrel⟩:=Ey j g _ _ p
 have n:(e.results.mapM (m:=Sem) fun|.tmp t=>pure (tmps.getD t undef)|.cell a t=>do loadVar t (<-asAddr (tmps.getD a undef))).run P w= .ok ⟨vs'⟩ w:=by
  rw[Array.mapM_eq_mapM_toList];simp_all
 refine⟨Fz vs',?_,?_⟩
 .rw[results,c9];generalize f:Sem.run P _ w=X;rw[f.symm.trans n];match vs' with
  |[]=>rfl
  |[v]=>rfl
  |v::u::l=>simp[Fz]
 .match vs,vs',hrel with
  |[],[],_=>grind[Fz,bB,vE,bP.nil]
  |[v],[d],c=>exact(bP.jw.1 c).1
  |v::u::l,d::r::q,c=>grind[Fz,bB,vE]
  |[],_::_,c=>simp[bP] at c
  |[_],[],c=>have:=c.length;simp at this
  |[_],_::_::_,c=>have:=c.length;simp at this
  |_::_::_,[],c=>have:=c.length;simp at this
  |_::_::_,[_],c=>have:=c.length;simp at this
def Vu {fr:Frame} {r:Nat} {args:FO} {c:List Deferred} (e:fr.mode= .returning) (d:fr.defers={target:= .collected r,args:=args}::c)
  (f:(Instr.takeDeferred r).run P w= .ok [] w'):step P (lone fr cs w)= .next (lone {fr with defers:=c} cs w'):=
 CP (by simp[stepG,unwind,e,d,EI,f,CQ])
theorem Pv:∀(r:FL) (h m:AH) (w:World) (fr:Frame) (cs:List Frame),dO r h=some m->fT P B ρ h w->Za ρ r fr.defers->fr.mode= .returning->
  ∃q,pT P B ρ h w ρ m q/\Steps P (lone fr cs w) (lone {fr with defers:=[]} cs q)
 |[],h,m,w,fr,cs,g,u,v,_=>by
  simp[dO,Option.some.injEq] at g;subst g;refine⟨w,pT.refl u,?_⟩;rw[<-v];exact EE _ _
 |d::r,h,m,w,fr,cs,g,u,v,z=>by
  simp only[dO] at g;split at g;rename_i l;split at g;rename_i y;obtain⟨b,s,t,A,C,x⟩:=v;have⟨o',ho,hb⟩:=u.uE _ _ y b s A;subst hb;have n:∀c e f,Obj.deferred (some [])≠.cells c e f:=FR;have p:(Instr.takeDeferred b).run P w= .ok [] {w with heap:=w.heap.setIfInBounds b (.deferred none)}:=by
   simp[Instr.takeDeferred,c9,K3 ho n,bj,Ao ho n,kd]
  have j:=E7 u l y A (o:= .wO false) (w':={w with heap:=w.heap.setIfInBounds b (.deferred none)}) (by simp[zG]) rfl rfl rfl rfl;have⟨q,he2,hs2⟩:=Pv r _ m _ {fr with defers:=t} cs g j.inv C z;exact⟨q,j.trans he2,.head (Vu z x p) hs2⟩;cases g;cases g
theorem sc (C:Pj P B K) {R:mP} (hR:Jq C R) {args:FJ} {h:AH} {out:Dx} {z:AH}
  (c:sW P K R f args h=some (out,z)):y1 C f args h out.v z:=by
 intro ρ w d t G A
 rw[sW] at c
 split at c
 .rename_i v I;cases c;have⟨u,h3⟩:=C.call f args v w I G;rw[N9 _ _ u A];exact h3.mono fun e w' ⟨⟨O,N,hv⟩,S⟩=>⟨ρ,O,N,hv ρ,uH t S⟩
 .rename_i g bs I;split at c
  .rename_i o u n;split at c
   .rename_i m;cases c;have⟨bs',w1,hbs,hbel,hfw⟩:=C.yn f args g bs I ρ d w A G;have y:=uH t hbel;have:=hfw o.v (fun Q=>∃ρ',pT P B ρ h w1 ρ' z Q) m ((hR _ _ _ _ n ρ w1 bs' y.inv (y.G C t G) hbs).mono fun e w' ⟨ρ',O,N,hv,l⟩=>by
     have hp:jJ o.v=true:=by
      unfold Xg at m;split at m;rename_i a b r;rw[r];rfl;cases m
     refine⟨by grind[zR],⟨fun i u q=>l.frame i q fun j s hj hs c=>?_,l.size,l.os,l.out,l.tape⟩,ρ',l⟩;have⟨oj,hoj⟩:=c7.1 hs;have⟨o',ho',_⟩:=t.uE j oj hoj i s c;grind)
    refine this.mono fun e w' ⟨N,Q,⟨ρ',l⟩,U⟩=>⟨ρ',o.v,N,?_,aHk t hbel l U⟩
    have hp:jJ o.v=true:=by
     unfold Xg at m;split at m;rename_i a b r;rw[r];rfl;cases m
    grind[gY]
   .cases c
  .cases c
 .rename_i F I;simp only[ba] at c;obtain⟨⟨v,q⟩,hF,c⟩:=c;cases c;exact C.K7 f args F I h v _ hF ρ w d t G A
 .split at c
  .rename_i fn hf;split at c
   .rename_i x S;split at c
    .rename_i o u n;intro cs;have α:=A.length;have X:Frame.enter P f ⟨d⟩ .normal=({(default:Frame) with fn:=f,kind:= .normal}:Frame).atR {tmps:=⟨d++List.replicate (fn.ntmps - args.length) undef⟩,defers:=[]} [.code x]:=by
      simp only[Frame.enter,Frame.atR,hf,xa,ts,AS,S];congr 1;grind
     obtain⟨ρ1,w1,a1,Z,y,r1,d1,s1,l1⟩:=(hR _ _ _ _ n) ρ w {(default:Frame) with fn:=f,kind:= .normal} {tmps:=⟨_⟩,defers:=[]} cs t G rfl rfl
      (A.append<|bP.replicate _ Cy) rfl
     rw[<-X] at s1
     have p:(∀id,o.iC≠.exit id)/\∃q,dO o.ds u=some q/\∃vs,mN P q o.env fn.results.toList=some vs/\out=⟨.vY,[],[],Fz vs⟩/\z=q:=by
      split at c;cases c;grind[Option.map_eq_some_iff]
     obtain⟨β,q,T,vs,Y,rfl,W⟩:=p;subst W
     have M:Steps P (lone (({(default:Frame) with fn:=f,kind:= .normal}:Frame).atR a1 Z) cs w1) (lone {({(default:Frame) with fn:=f,kind:= .normal}:Frame).atR a1 Z with mode:= .returning} cs w1):=by
      cases hl:o.iC with
      |vY=>rw[hl] at l1;subst l1;exact .one (stepR_end rfl)
      |ret=>rw[hl] at l1;obtain⟨k2,rfl⟩:=l1;exact .one (stepR_ret rfl)
      |exit id=>grind
     obtain⟨Q,e2,s2⟩:=Pv o.ds u z w1 {({(default:Frame) with fn:=f,kind:= .normal}:Frame).atR a1 Z with mode:= .returning} cs T y.inv d1 rfl
     obtain⟨O,L,J⟩:=me e2.inv FQ Y
     exact⟨_,Q,_,⟨ρ1,O,rfl,J,y.trans e2⟩,(s1.trans M).trans s2,rfl,rfl,rfl,rfl,fn,hf,L⟩
    .cases c
   .cases c
  .cases c
theorem Zg (m:fT P B ρ h w) {l f:Nat} {fn:FuncId} {tmps:FJ} {as bd:Code} {d:Nat} (j:h.get l=some (.loop st p fn tmps ps as bd d)) (n:ρ l=some (f,s)):
  ∃c e g,bP ρ tmps c/\ρ d=some (e,g)/\w.heap[f]?=some (.loop {state:=st,pending:=p,fn:=fn,tmps:=⟨c⟩,params:=ps,assign:=as,body:=bd,defers:=e}):=by
 have⟨o',ho,c,e,g,h1,h2,h3⟩:=m.uE _ _ j f s n
 grind
theorem Ci (n:fT P B ρ h w) {l f:Nat} {pd:Option (Option Code)} {j:AH} (e:eX h l st pd=some j) (q:ρ l=some (f,s)):
  ∃r:Loop,w.heap[f]?=some (.loop r)/\(∃c t g tmps u as bd d,h.get l=some (.loop c t g tmps u as bd d)/\r.state=c/\r.pending=t)/\
   pT P B ρ h w ρ j {w with heap:=w.heap.setIfInBounds f (.loop {r with state:=st,pending:=pd.getD r.pending})}:=by
 rw[eX] at e
 split at e
 .rename_i c p g tmps u as bd d m;split at e
  .rename_i v;cases e;have⟨tmps',d',s',h1,h2,h3⟩:=Zg n m q;exact⟨_,h3,FR,E7 n v m q ⟨_,d',s',h1,h2,rfl⟩ rfl rfl rfl rfl⟩
  .cases e
 .cases e
theorem uQ {r:Loop}:∀c e f,Obj.loop r≠.cells c e f:=FR
theorem yI {c:Nat} {r:Loop} (h:w.heap[c]?=some (.loop r)):(Instr.getLoop c).run P w= .ok r w:=by
 simp[Instr.getLoop,c9,K3 h uQ,bj,kd]
def qj:∀(l:List (Tmp×Value)) (l':List (Tmp×Value)) (t:FJ) (t':FO),l.map (·.1)=l'.map (·.1)->bP ρ (l.map (·.2)) (l'.map (·.2))->bP ρ t t'.toList->
  bP ρ (l.foldl (fun t (p,v)=>t.set p v) t) (l'.foldl (fun t (p,v)=>t.setIfInBounds p v) t').toList
 |[],[],t,t',_,_,h=>h
 |(p,v)::l,(f,g)::l',t,t',c,e,h=>by
  simp[k7,List.cons.injEq] at c;obtain⟨rfl,c⟩:=c;have d:=bP.jw.1 e;exact qj l l' _ _ c d.2 (by simpa using h.set p d.1)
 |[],_::_,_,_,c,_,_=>by simp at c
 |_::_,[],_,_,c,_,_=>by simp at c
theorem mj (C:Pj P B K) {R:mP} (O:Jq C R) {l:Nat} {args:FJ} {h:AH} {out:Dx} {I:AH}
  (e:yD R l args h=some (out,I)):qh C l args h out.v I:=by
 intro ρ w f G s L T Q F
 rw[yD] at e
 split at e
 .rename_i st p fn tmps j assign q d y;split at e
  .rename_i M;have⟨tmps',d',s',ht,hd,hw⟩:=Zg L y F;have S:=Q.length;refine⟨fn,(j.toList.zip f).foldl (fun t (p,v)=>t.setIfInBounds p v) ⟨tmps'⟩,assign,q,?_,?_⟩
   .have X:(j.zip ⟨f⟩).foldl (fun(t:FO) (x:Tmp×Value)=>t.setIfInBounds x.1 x.2) ⟨tmps'⟩=(j.toList.zip f).foldl (fun t (p,v)=>t.setIfInBounds p v) ⟨tmps'⟩:=by
     rw[<-Array.foldl_toList,Array.toList_zip]
    simp only[Instr.yield,c9,yI hw,bj]
    simp_all
   .intro c cs;split at e
    .rename_i o J z;split at e
     .have U:∀(A:FJ),A.length=j.toList.length->(j.toList.zip A).map (·.1)=j.toList/\(j.toList.zip A).map (·.2)=A:=fun A N=>⟨List.map_fst_zip FQ,List.map_snd_zip FQ⟩;obtain⟨ρ1,w1,a1,Y,u,Z,d1,s1,l1⟩:=(O _ _ _ _ z) ρ w {(default:Frame) with fn:=fn,kind:= .normal,roundOf:=some G} {tmps:=(j.toList.zip f).foldl _ _,defers:=[]} (c::cs) L T rfl ⟨G,s,F,rfl⟩
       (qj _ _ _ _ FR FR ht) rfl
      have sL:∀(jump:Option Code) (n:AH),eX J l (if jump.isNone then .ready else .done) (some jump)=some n->∃m,(Instr.endRound G jump).run P w1= .ok (.bool jump.isNone) m/\pT P B ρ1 J w1 ρ1 n m:=by
       intro jump n g;have⟨r,hw1,_,hev⟩:=Ci u.inv g<|u.ext _ _ F;refine⟨_,?_,hev⟩;simp[Instr.endRound,c9,yI hw1,bj,Ao hw1 uQ,kd,ts]
      cases hlv:o.iC with
      |vY=>
       rw[hlv] at e l1
       subst l1
       simp only[ba] at e
       obtain⟨n,g,e⟩:=e
       cases e
       have⟨m,hend,hev⟩:=sL none _ g
       exact⟨ρ1,.bool true,m,GC,u.trans hev,s1.trans<|.one<|stepR_round_end rfl rfl hend⟩
      |ret=>
       rw[hlv] at e l1
       obtain⟨W,rfl⟩:=l1
       simp only[ba] at e
       obtain⟨n,g,e⟩:=e
       cases e
       have⟨m,hend,hev⟩:=sL (some .ret) _ g
       exact⟨ρ1,.bool false,m,GC,u.trans hev,s1.trans<|.one<|stepR_round_ret rfl rfl hend⟩
      |exit id=>
       rw[hlv] at e l1
       obtain⟨W,rfl,N⟩:=l1
       simp only[ba] at e
       obtain⟨n,g,e⟩:=e
       cases e
       have⟨m,hend,hev⟩:=sL (some _) _ g
       exact⟨ρ1,.bool false,m,GC,u.trans hev,s1.trans<|.one<|stepR_round_exit rfl rfl N hend⟩
     .cases e
    .cases e
  .cases e
 .cases e
def aGs (C:Pj P B K) (R:mP):Prop:=∀(ops:Array Oper) (d:FJ) (h:AH) (c:FJ) (f:AH),Bq P R ops d h=some (c,f)->
 ∀(ρ:kX) (w:World) (b:Frame) (a:Act) (cs:List Frame) (k:List Item) (t:Nat),fT P B ρ h w->C.G w->bP ρ d a.tmps.toList->
  ∃ρ' g e,pT P B ρ h w ρ' f g/\bP ρ' c e.tmps.toList/\e.defers=a.defers/\
   Steps P (lone (b.atR a (.inRegion ops (Region.schedule (P.follows .mixedOrders) ops t)::k)) cs w) (lone (b.atR e (.inRegion ops []::k)) cs g)
theorem Pu (all:Array Oper):∀(rest:List Oper) (i:Nat),(∀j,all[i+j]?=rest[j]?)->zy all (List.range' i rest.length) rest
 |[],i,_=>trivial
 |o::rest,i,c=>by
  refine⟨by simpa using c 0,Pu all rest _ fun j=>?_⟩;have:=c<|j+1;grind
end
section
variable {K:FuncId->FJ->IX}
theorem oU (C:Pj P B K) {d:FuncId} {f:Option Nat} {g:FL} {k l:List Item} {h:AH} {out:Dx} {j:AH}
  (t:∀(b:Frame) (a:Act) (cs:List Frame) (w:World) (ρ:kX),fT P B ρ h w->bP ρ env a.tmps.toList->b.fn=d->Xq ρ f b.roundOf->step P (lone (b.atR a k) cs w)= .next (lone (b.atR a l) cs w))
  (c:Qz C d f g env l h out j):Qz C d f g env k h out j:=by
 intro ρ w b a cs r q m e p n
 have⟨ρ',w',a',k',h1,h2,h3,h4,h5⟩:=c ρ w b a cs r q m e p n
 exact⟨ρ',w',a',k',h1,h2,h3,.head FR h4,h5⟩
set_option maxHeartbeats 1000000 in
theorem aTj (C:Pj P B K) (δ:∀R,Jq C R->aGs C R):∀n,Jq C (run P K n):=by
 intro n;induction n with
 |zero=>intro t h out h' j;simp[run] at j
 |succ n q=>
  intro t h out h' j;cases t with
  |call f args=>exact sc C q j
  |round l args=>exact mj C q j
  |ops all rest L=>exact aFp C q j
  |todo fn ro ds L k=>
   replace j:gT P (run P K n) fn ro ds L k h=some (out,h'):=j;show Qz C fn ro ds L k h out h';unfold gT at j;split at j;cases j;exact fun ρ w b a cs m _ _ _ z F=>⟨ρ,w,a,[],pT.refl m,z,F,EE _ _,rfl⟩;rename_i c k;split at j;exact oU C (fun b a cs w ρ _ _ _ _=>stepR_skip)<|q _ _ _ _ j;exact oU C (fun b a cs w ρ _ _ _ _=>stepR_label)<|q _ _ _ _ j;exact oU C (fun b a cs w ρ _ _ _ _=>stepR_seq)<|q _ _ _ _ j;rename_i c t e;split at j;refine oU C (fun b a cs w ρ m z _ _=>?_)<|q _ _ _ _ j;have:=Ih m z c;grind[bB,stepR_cond];cases j;exact oU C (fun b a cs w ρ _ _ _ _=>stepR_block)<|q _ _ _ _ j;exact oU C (fun b a cs w ρ _ _ _ _=>stepR_loop)<|q _ _ _ _ j;exact oU C (fun b a cs w ρ _ _ _ _=>CP<|by simp[stepG,stepG.exec,Frame.atR])<|q _ _ _ _ j;split at j;rename_i Z hx;exact oU C (fun b a cs w ρ _ _ _ _=>stepR_exit hx)<|q _ _ _ _ j;rename_i hx;split at j;cases j;exact fun ρ w b a cs m _ _ _ z F=>⟨ρ,w,a,_,pT.refl m,z,F,EE _ _,⟨k,rfl,hx⟩⟩;cases j;cases j;exact fun ρ w b a cs m _ _ _ z F=>⟨ρ,w,a,_,pT.refl m,z,F,EE _ _,⟨k,rfl⟩⟩;rename_i id ops;split at j;rename_i o I τ;intro ρ w b a cs m O X v z F;have hat:zy ops (List.range ops.size) ops.toList:=by
    have:=Pu ops ops.toList 0 FR;rw[List.range_eq_range'];simpa using this
   have⟨ρ1,w1,a1,y,r1,d1,s1⟩:=q _ _ _ _ τ ρ w b a cs _ k m O z hat;have⟨ρ',w',a',Z,I,h2,h3,h4,h5⟩:=q _ _ _ _ j ρ1 w1 b a1 cs y.inv (y.G C m O) X (v.mono y.ext) r1 (by rw[d1];exact F.mono y.ext);exact⟨ρ',w',a',Z,y.trans I,h2,h3,.head stepR_region<|s1.trans<|.head stepR_region_end h4,h5⟩;cases j;rename_i id ops;split at j;rename_i μ I hdr;intro ρ w b a cs m O X v z F;have ed:=aJq m;have⟨ρ1,w1,a1,y,r1,d1,s1⟩:=δ _ q ops L h μ I hdr ρ {w with drawn:=w.drawn+1} b a cs k (w.tape w.drawn<|.order b.fn id) ed.inv (ed.G C m O) z;have e2:=ed.trans y;have⟨ρ',w',a',Z,I,h2,h3,h4,h5⟩:=q _ _ _ _ j ρ1 w1 b a1 cs e2.inv (e2.G C m O) X (v.mono e2.ext) r1 (by rw[d1];exact F.mono e2.ext);exact⟨ρ',w',a',Z,e2.trans I,h2,h3,.head stepR_region_draw<|s1.trans<|.head stepR_region_end h4,h5⟩;cases j;rename_i f ps assign body;split at j;rename_i d I ds1 M;split at j;rename_i g first G hf
   split at j;rename_i ξ;split at j;rename_i ox h3 γ;split at j;rename_i st p _ _ _ _ _ _ ζ;split at j;cases j;rename_i hbusy;split at j;rename_i h4 η;intro ρ w b a cs m O X v z F;obtain⟨ρ1,w1,mark,J,s',y,hd1,ο,U⟩:∃ρ1 w1 mark J s',pT P B ρ h w ρ1 I w1/\ρ1 d=some (J,s')/\Za ρ1 ds1 (mark++a.defers)/\
     (Instr.enterLoop b.fn a.tmps ps assign body b.roundOf).run P w= .ok (w1.heap.size,mark) (w1.alloc<|.loop {state:= .ready,pending:=none,fn:=b.fn,tmps:=a.tmps,params:=ps,assign:=assign,body:=body,defers:=J}):=by
    cases ro with
    |none=>
     simp[Xq] at v
     obtain⟨rfl,rfl,rfl⟩:=M
     have ea:=Df m (o:= .wO true) (s:=(0,0)) (w':=w.alloc<|.deferred<|some []) (by simp[zG]) rfl rfl rfl rfl
     refine⟨_,_,[{target:= .collected w.heap.size,args:= #[]}],_,_,ea,cK,⟨_,_,_,cK,F.mono ea.ext,rfl⟩,?_⟩
     simp_all[Instr.enterLoop]
    |some l=>
     obtain⟨lb,s,hl,N⟩:=v
     simp only at M
     split at M
     .rename_i st0 p0 ν tm0 ω θ ι d0 A;obtain⟨rfl,rfl,rfl⟩:=M;have⟨tmps',J,s',_,hdd',hw⟩:=Zg m A hl;refine⟨ρ,w,[],J,s',pT.refl m,hdd',F,?_⟩;simp_all[Instr.enterLoop,yI]
     .cases M
   have π:=bP.mono y.ext _ _ z;have e2:=Df y.inv (o:= .loop .ready none fn L ps assign body d)
    (w':=w1.alloc<|.loop {state:= .ready,pending:=none,fn:=b.fn,tmps:=a.tmps,params:=ps,assign:=assign,body:=body,defers:=J})
    (by
     have Y:=Du.A8 (x:=(w1.heap.size,(0,0)))<|y.inv.iD I.next<|bb _;exact⟨_,J,s',bP.mono Y _ _ π,Y _ _ hd1,by rw[X]⟩) rfl rfl rfl rfl
   have α:=y.trans e2;have ε:=Ih α.inv (bP.mono e2.ext _ _ π) f;rw[hf] at ε;simp only[bB,V7] at ε;obtain⟨_,S,Q,rfl,hfs,hcs,hfe⟩:=ε;have β:bP (A8 ρ1 I.next (w1.heap.size,(0,0))) (first.toList++[.func (.yield I.next) #[] #[]]++G.toList) (S.toList++[.func (.yield w1.heap.size) #[] #[]]++Q.toList):=by
    refine((nM.1 hfs).append<|bP.cons ?_ bP.nil).append (nM.1 hcs);simp only[bB,V7];exact⟨_,_,_,⟨_,_,cK,rfl⟩,by grind[vE,bP.nil],by grind[vE,bP.nil],rfl⟩
   obtain⟨e,w3,fr,⟨ρ3,v',rfl,_,e3⟩,T,_,W⟩:=q _ _ _ _ γ _ _ _ e2.inv (α.G C m O) β (b.atR {a with defers:=mark++a.defers} (.inRangeFunc w1.heap.size::k)::cs);have κ:=α.trans e3;have hl3:=e3.ext _ _ cK;obtain⟨r,ψ,⟨st0,p0,ν,tm0,ω,θ,ι,d0,A,χ,υ⟩,e4⟩:=Ci e3.inv η hl3;rw[ζ] at A;cases A;have σ:(Instr.endLoop w1.heap.size).run P w3= .ok p {w3 with heap:=w3.heap.setIfInBounds w1.heap.size (.loop {r with state:= .exhausted})}:=by
    have hnb:(r.state==LoopState.busy)=false:=FR
    simp only[Instr.endLoop,c9,yI ψ,bj];simp[hnb,aO,dx,c9,Ao ψ uQ,bj,kd,υ]
   simp[Option.getD_none] at e4;have u:=κ.trans e4;have⟨ρ',w',a',Z,g1,g2,g3,g4,g5⟩:=q _ _ _ _ j ρ3 _ b {a with defers:=mark++a.defers} cs e4.inv (u.G C m O) X (v.mono u.ext)
    (bP.mono u.ext _ _ z) (ο.mono (e2.trans<|e3.trans e4).ext)
   refine⟨ρ',w',a',Z,u.trans g1,g2,g3,?_,g5⟩;have φ:(resolve a.eval (rangeCall f w1.heap.size) 0).run P (w1.alloc<|.loop {state:= .ready,pending:=none,fn:=b.fn,tmps:=a.tmps,params:=ps,assign:=assign,body:=body,defers:=J})=
     .ok {target:= .fn (.func g) Q,args:=S++ #[.func (.yield w1.heap.size) #[] #[]]} (w1.alloc<|.loop {state:= .ready,pending:=none,fn:=b.fn,tmps:=a.tmps,params:=ps,assign:=assign,body:=body,defers:=J}):=by
    show(Deferred.ofValue _<|(#[.const _]:Array Operand).map a.eval).run P _=_
    rw[hfe]
    simp[Deferred.ofValue,Act.eval]
   have hinv:(invoke (.fn (.func g) Q)<|S++ #[.func (.yield w1.heap.size) #[] #[]]).run P (w1.alloc<|.loop {state:= .ready,pending:=none,fn:=b.fn,tmps:=a.tmps,params:=ps,assign:=assign,body:=body,defers:=J})=
     .ok (.enter g ⟨S.toList++[.func (.yield w1.heap.size) #[] #[]]++Q.toList⟩) (w1.alloc<|.loop {state:= .ready,pending:=none,fn:=b.fn,tmps:=a.tmps,params:=ps,assign:=assign,body:=body,defers:=J}):=by
    simp only[invoke]
    rw[Nl ξ]
    simp_all
   refine .head (stepR_rangeFunc U φ hinv)<|Steps.trans T<|.head ?_<|.head (stepR_endRangeFunc σ) g4;rw[step_leave_returned W,finish_atR_inRangeFunc];cases j;cases j;cases j;cases j;cases j;cases j;cases j;exact oU C (fun b a cs w ρ _ _ _ _=>stepR_inBlock)<|q _ _ _ _ j;exact oU C (fun b a cs w ρ _ _ _ _=>CP<|by simp[stepG,stepG.exec,Frame.atR])<|q _ _ _ _ j;exact oU C (fun b a cs w ρ _ _ _ _=>stepR_inLoop)<|q _ _ _ _ j;split at j;split at j;rename_i _ _ _ _ _ _ _ ζ;split at j;rename_i I η;intro ρ w b a cs m O X v z F;obtain⟨lb,s,hl,N⟩:=v;obtain⟨r,hw,⟨st0,p0,ν,tm0,ω,θ,ι,d0,A,χ,υ⟩,y⟩:=Ci m η hl;rw[ζ] at A;cases A;have hbr:(Instr.beginRound lb).run P w= .ok () {w with heap:=w.heap.setIfInBounds lb (.loop {r with state:= .busy})}:=by
    simp only[Instr.beginRound,c9,yI hw,bj,Ao hw uQ,χ];rfl
   have⟨ρ',w',a',Z,g1,g2,g3,g4,g5⟩:=q _ _ _ _ j ρ _ b a cs y.inv (y.G C m O) X ⟨lb,s,hl,N⟩ z F;exact⟨ρ',w',a',Z,y.trans g1,g2,g3,.head (stepR_beginRound N hbr) g4,g5⟩;cases j;cases j;cases j;cases j
end
theorem B8 {α:Type} {f g:α->Value}:∀(l:List α),(∀x∈l,f x=g x)->l.map f=l.map g
 |[],_=>rfl
 |x::l,h=>HB
theorem bf {g e:Operand->Value} {h:AH} (op:Op) (u:∀x∈op.operands.toList,g x=e x):dP P g h op=dP P e h op:=by
 cases op with
 |build t r=>
  simp[dP];have:∀l:List (Nat×Operand),(∀p∈l,g p.2=e p.2)->l.map (fun p=>(p.1,g p.2))=l.map fun p=>(p.1,e p.2):=by
   intro l F;induction l with
   |nil=>rfl
   |cons p l I=>grind
  grind[Op.operands]
 |makeFunc v first j=>
  simp[dP];grind[Array.ext',Array.toList_map,B8,Op.operands,Array.toList_append]
 |slice t x n m q=>
  simp[dP];have G:=u x (by simp[Op.operands]);have z:n.map g=n.map e:=by cases n with|none=>rfl|some y=>grind[Op.operands]
  have A:m.map g=m.map e:=by cases m with|none=>rfl|some y=>grind[Op.operands]
  have C:q.map g=q.map e:=by cases q with|none=>rfl|some y=>grind[Op.operands]
  grind
 |move x=>simp_all[dP,Op.operands]
 |assign x=>simp_all[dP,Op.operands]
 |pick c a b=>simp_all[dP,Op.operands]
 |load t a=>simp_all[dP,Op.operands]
 |nilCheck x=>simp_all[dP,Op.operands]
 |binOp op t x y J=>simp_all[dP,Op.operands]
 |unOp op t x=>simp_all[dP,Op.operands]
 |convert s d x=>simp_all[dP,Op.operands]
 |makeInterface t x=>simp_all[dP,Op.operands]
 |fieldAddr s x f=>simp_all[dP,Op.operands]
 |field s x f=>simp_all[dP,Op.operands]
 |indexAddr t x i=>simp_all[dP,Op.operands]
 |index t x i=>simp_all[dP,Op.operands]
 |extract t i=>simp_all[dP,Op.operands]
 |lookup t x i ok=>simp_all[dP,Op.operands]
 |_=>rfl
theorem dy {f:Operand->Value} (op:Op) (j:∀x∈op.operands.toList,f x=d x):lJ P f op=lJ P d op:=by
 cases op with
 |alloc e=>rfl
 |box e x=>grind[lJ,Op.operands]
 |buildSlice t len g=>
  simp only[lJ];have:∀l:List (Nat×Operand),(∀p∈l,f p.2=d p.2)->l.map (fun p=>(p.1,f p.2))=l.map fun p=>(p.1,d p.2):=by
   intro l m;induction l with
   |nil=>rfl
   |cons p l n=>grind
  grind[Op.operands]
 |makeSlice t l c=>grind[lJ,Op.operands]
 |makeMap t r=>
  cases r with
  |none=>rfl
  |some x=>grind[lJ,Op.operands]
 |_=>rfl
theorem Jw {c:Call} {x:Operand} (h:x∈c.args.toList):x∈(Op.call c).operands.toList:=by
 grind[Op.operands,Call.operands,Array.toList_append]
theorem q9 {R:mP} {j e:Operand->Value} {h:AH} (op:Op) (l:∀x∈op.operands.toList,j x=e x):gP P R j h op=gP P R e h op:=by
 cases op with
 |store t a x=>grind[gP,Op.operands]
 |mapUpdate t m k x=>grind[gP,Op.operands]
 |call c=>
  have p:=B8 _ fun x n=>l x<|Jw n;obtain⟨callee,g,d⟩:=c;cases callee with
  |builtin b=>grind[gP]
  |value f=>
   grind[Op.operands,Call.operands,gP]
  |invoke r m=>rfl
 |_=>rfl
theorem j1 {e:Operand->Value} {h:AH} (op:Op) (f:∀x∈op.operands.toList,e x=d x):iB P e h op=iB P d h op:=by
 cases op with
 |call c=>
  grind[B8,Jw,builtin,iB]
 |_=>exact bf (P:=P) (h:=h) _ f
def wK (g c:AH):Prop:=∀i o,g.get i=some o->c.get i=some o
theorem Uf (e:wK g c) (h:eN g a n=some l):eN c a n=some l:=by
 rw[eN] at h ⊢;split at h;cases h;rename_i f;rw[bD1 f];split at h;rename_i d;rwa [e _ _ d];cases h
theorem xk (e:wK g c) (h:C9 P g t a=some v):C9 P c t a=some v:=by
 rw[C9] at h ⊢;split at h;grind[Option.map_eq_some_iff,Uf];split at h;cases h;rename_i f;rw[bD1 f];split at h;rename_i d;rwa [e _ _ d];cases h;cases h
theorem qm (m:wK g c) {f e j:FN} (h:Hq P g t x f e j=some v):Hq P c t x f e j=some v:=by
 have n:∀i b,xK g i=some b->xK c i=some b:=by
  intro i b d;rw[xK] at d ⊢;split at d;rename_i l;rwa [m _ _ l];cases d
 unfold Hq at h ⊢;split at h;exact h;split at h;split at h;grind;cases h;cases h;exact h;cases h
theorem j5 (e:wK g c) (h:xm g x=some es):xm c x=some es:=by
 unfold xm at h ⊢;split at h;exact h;split at h;rename_i d;rwa [e _ _ d];cases h;cases h
theorem bt (d:wK g c) {i:Value} {ok:Bool} (h:Eo P g t x i ok=some v):Eo P c t x i ok=some v:=by
 unfold Eo at h ⊢;grind[j5]
theorem aO5 (f:wK g c) {b:Builtin} (hb:wS b=true) (at_:Array TypeId) (args:FJ) (h:(kE P g b at_ args).map (·.1)=some v):(kE P c b at_ args).map (·.1)=some v:=by
 rw[<-h];cases b<;>simp only[wS] at hb<;>try cases hb
 rcases args with _|⟨x,_|⟨y,l⟩⟩;rfl;simp only[kE] at h ⊢;split;rfl;rfl;rfl;rename_i y _ _ _ _ e;cases hm:xm g y with
 |none=>grind
 |some d=>grind[j5]
 rfl;rfl;rcases args with _|⟨x,_|⟨y,_|⟨z,l⟩⟩⟩;rfl;cases x<;>rfl;cases x<;>cases y<;>rfl;cases x<;>cases y<;>rfl
theorem xj {j:AH} (l:wK g j) {f:Operand->Value} (h:iB P f g op=some v):iB P f j op=some v:=by
 cases op with
 |call c=>
  obtain⟨callee,e,d⟩:=c;cases callee with
  |builtin b=>
   simp only[iB] at h ⊢;split at h;grind[aO5];cases h
  |_=>grind[iB]
 |load t a=>
  simp[iB,dP] at h ⊢;grind[xk]
 |slice t x n m p=>simp[iB,dP] at h ⊢;grind[qm]
 |lookup t x i ok=>simp[iB,dP] at h ⊢;grind[bt]
 |_=>simp_all[iB,dP]
mutual
theorem U8:∀(a b:Value),wM a b=true->a=b
 |.bool a,b,h=>GX
 |.int j a,b,h=>GX
 |.float _ _,b,h=>by simp[wM] at h
 |.complex _ _ _,b,h=>by simp[wM] at h
 |.string a,b,h=>by
  cases b<;>simp[wM] at h;rename_i b;obtain⟨a⟩:=a;obtain⟨b⟩:=b;rw[eq_of_beq<|show(a==b)=true from h]
 |.pointer a,b,h=>GX
 |.slice a l c,b,h=>GX
 |.map a,b,h=>GX
 |.chan _,b,h=>by simp[wM] at h
 |.func f x y,b,h=>by
  cases b<;>simp[wM] at h;rename_i g c d;rw[h.1.1,Q5 x c h.1.2,Q5 y d h.2]
 |.nilFunc,b,h=>by grind[wM]
 |.iface t v,b,h=>by
  cases b<;>simp[wM] at h;rename_i u w;rw[h.1,U8 v w h.2]
 |.nilIface,b,h=>by grind[wM]
 |.agg x,b,h=>by
  cases b<;>simp[wM] at h;rename_i c;rw[Q5 x c h]
 |.tuple x,b,h=>by
  cases b<;>simp[wM] at h;rename_i c;rw[Q5 x c h]
theorem Q5:∀(a b:FO),aF1 a b=true->a=b
 |⟨l⟩,b,h=>by
  have:=Q7 l b.toList h;grind
theorem Q7:∀(l m:FJ),Tw l m=true->l=m
 |[],[],_=>rfl
 |[],_::_,h=>by simp[Tw] at h
 |_::_,[],h=>by simp[Tw] at h
 |a::l,b::m,h=>by
  simp[Tw,dn] at h;rw[U8 a b h.1,Q7 l m h.2]
end
theorem Lp {acc c:FL}:∀(l:FL),(∀j∈l,acc[j]?=c[j]?)->Ch acc l=Ch c l
 |[],_=>rfl
 |j::l,h=>by
  simp only[Ch];rw[Lp l fun y d=>h y<|aW _ d,aP,aP,h j FR]
theorem Uq {acc:FL} {i:Nat}:∀(l:FL),(Ch acc l).testBit i=true->∃j∈l,i=j\/(acc.getD j 0).testBit i=true
 |[],h=>by simp[Ch] at h
 |j::l,h=>by
  simp only[Ch,Nat.testBit_or,AZ] at h;rcases h with h|h|h;grind[List.mem_cons_self,Nat.one_shiftLeft];grind;have⟨k,hk,hh⟩:=Uq l h;grind
theorem Lq:∀(os:List Oper) (acc:FL),(∀k o,os[k]?=some o->∀j∈iF o,j<acc.length+k)->
  (∀k,k<acc.length->(iY os acc)[k]?=acc[k]?)/\
  ∀k o,os[k]?=some o->(iY os acc)[acc.length+k]?=some (Ch (iY os acc)<|iF o)
 |[],acc,_=>⟨fun k _=>rfl,FR⟩
 |o::os,acc,f=>by
  have g:=Lq os (acc++[Ch acc<|iF o]) (by
   intro k l c j e;have:=f (k+1) l FR j e;grind)
  have d:∀k,k<acc.length->(iY (o::os) acc)[k]?=acc[k]?:=by
   intro k m;simp[iY];rw[g.1 k FX,tb m]
  refine⟨d,?_⟩;intro k l c;cases k with
  |zero=>
   simp at c;subst c;simp[iY,BY];rw[g.1 acc.length FW,p4<|bb _];simp[BZ,sz,Option.some.injEq];apply Lp;intro j e;have n:j<acc.length:=by have:=f 0 o FW j e;omega
   grind
  |succ k=>
   grind[iY]
theorem T2 (l:∀k o,all[k]?=some o->∀j∈iF o,j<k) {D:FL} (hD:∀i∈D,∀o,all[i]?=some o->∀j∈iF o,j∈D):
  ∀(i:Nat) (o:Oper),all[i]?=some o->(∀j∈iF o,j∈D)->∀j,qW (iY all []) j i=true->j∈D:=by
 intro i
 induction i using Nat.strongRecOn with
 |ind i m=>
  intro o f d j e
  have g:=(Lq all [] FR).2 i o f
  simp[AY,AD] at g
  rw[qW,aP,g,ts] at e
  have⟨j',hj',c⟩:=Uq _ e
  rcases c with p|c
  .grind
  .cases ho':all[j']? with
   |none=>
    grind
   |some n=>exact m j' (l i o f j' hj') n ho' FR j (by grind[qW])
def I6 (all:List Oper):FL->FL->Prop
 |D,[]=>∀i,i<all.length->i∈D
 |D,i::l=>i<all.length/\i∉D/\(∀o,all[i]?=some o->∀j∈iF o,j∈D)/\I6 all (D++[i]) l
theorem P7 {j:Nat}:j∈iF o↔∃e∈o.after,Region.binds .any e=true/\e.on=j:=by
 grind[iF]
theorem Jl {ops:Array Oper} (p:∀k o,ops.toList[k]?=some o->∀j∈iF o,j<k):∀(fuel t:Nat) (listed:Array Bool) (D:FL),listed.size=ops.size->
  (∀i,i<ops.size->(listed.getD i false=true↔i∈D))->((List.range ops.size).filter fun i=>decide<|i∉D).length<=fuel->
  I6 ops.toList D (Region.linearise.go .any ops fuel t listed [])
 |0,t,listed,D,m,v,u=>by
  simp_all[Region.linearise.go,List.reverse_nil,I6]
 |fuel+1,t,listed,D,m,v,u=>by
  change I6 ops.toList D (match(Region.ready .any ops listed)[t % (Region.ready .any ops listed).length]? with
   |some i=>Region.linearise.go .any ops fuel (t/(Region.ready .any ops listed).length) _ [i]
   |none=>[].reverse)
  have g:∀i,i<ops.size->(listed.getD i true=false↔i∉D):=by
   grind
  cases hi:(Region.ready .any ops listed)[t % (Region.ready .any ops listed).length]? with
  |none=>
   have q:Region.ready .any ops listed=[]:=by
    cases z:Region.ready .any ops listed with
    |nil=>rfl
    |cons x J=>
     grind[Nat.mod_lt]
   intro i;induction i using Nat.strongRecOn with
   |ind i I=>
    intro l;rcases Classical.em (i∈D) with h|h;exact h;have c:i<ops.size:=by simpa using l
    have z:i∈Region.ready .any ops listed:=by
     rw[mem_ready];refine⟨FR,_,Array.getElem?_eq_getElem c,?_⟩;intro e C A;have y:=p i ops[i] (by simp[c]) e.on (P7.2 FR);grind
    grind
  |some i=>
   simp[];rw[linearise_go_acc,List.reverse_singleton,List.singleton_append];have d:=kt hi;rw[mem_ready] at d;obtain⟨r,o,G,n⟩:=d;refine⟨FR,(g i<|FR).1 r,?_,?_⟩;grind[P7];refine Jl p fuel _ _ _ FR ?_ ?_;intro j F;by_cases e:i=j;simp_all;simp_all[getD_set_ne,false,Ne.symm];have f:((List.range ops.size).filter fun j=>decide<|j∉D++[i])=(((List.range ops.size).filter fun j=>decide<|j∉D).filter fun j=>decide<|j≠i):=by
    rw[List.filter_filter];grind
   rw[f];have:((((List.range ops.size).filter fun j=>decide _).filter fun j=>decide<|j≠i).length<((List.range ops.size).filter fun j=>decide<|j∉D).length):=
    List.length_filter_lt_length_iff_exists.2 ⟨i,FR,FW⟩
   omega
variable {o':Obj}
section
variable {K:FuncId->FJ->IX}
structure We (P:Program) (B N:Nat) (ρ:kX) (h:AH) (w:World) (ρ':kX) (h':AH) (w':World):Prop where
 ext:Du ρ ρ'
 inv:fT P B ρ' h' w'
 un:∀i,i<N->ρ i=none->ρ' i=none
 rO:∀i,i<N->ρ i=none->h'.get i=h.get i
 stay:∀i,i<N->h.get i=none->h'.get i=none
 frame:∀b,b<w.heap.size->(∀i s,h.base<=i->(h.get i).isSome->ρ i≠some (b,s))->w'.heap[b]?=w.heap[b]?
 range:∀i b s,h.base<=i->(h'.get i).isSome->ρ' i=some (b,s)->b<w.heap.size->∃j s',h.base<=j/\(h.get j).isSome/\ρ j=some (b,s')
 base:h'.base=h.base
 Bc:∀i,i<h.base->h'.get i=h.get i
 size:w.heap.size<=w'.heap.size
 os:w'.os=w.os
 out:w'.output=w.output
 tape:w'.tape=w.tape
def We.Lc {h:AH} (e:We P B h.next ρ h w ρ' c w') (d:h.next<=c.next):pT P B ρ h w ρ' c w':=
 {ext:=e.ext,inv:=e.inv,un:=e.un,rO:=e.rO,stay:=e.stay,frame:=e.frame,range:=e.range,base:=e.base,Bc:=e.Bc,next:=d,size:=e.size,os:=e.os,out:=e.out,tape:=e.tape}
theorem We.then {ρ1 ρ2:kX} {h m:AH} {u:World} (a:We P B N ρ h w ρ1 m w1) (b:pT P B ρ1 m w1 ρ2 r u) (v:N<=m.next):We P B N ρ h w ρ2 r u where
 ext:=a.ext.trans b.ext
 inv:=b.inv
 un:=fun i c d=>b.un i FQ<|a.un i c d
 rO:=fun i c d=>(b.rO i FQ<|a.un i c d).trans<|a.rO i c d
 stay:=fun i c d=>b.stay i FQ<|a.stay i c d
 frame:=fun x f d=>by
  refine(b.frame x (l5 f a.size) ?_).trans (a.frame x f d);intro i s n q p;rw[a.base] at n;have⟨j,t,e,g,l⟩:=a.range i x s n q p f;grind
 range:=fun i x s n q p f=>by
  obtain⟨j,t,e,g,l⟩:=b.range i x s II q p<|l5 f a.size;rw[a.base] at e;exact a.range j x t e g l f
 base:=b.base.trans a.base
 Bc:=fun i c=>(b.Bc i II).trans<|a.Bc i c
 size:=cL a.size b.size
 os:=b.os.trans a.os
 out:=b.out.trans a.out
 tape:=b.tape.trans a.tape
theorem aIm {y:AH} (e:We P B N ρ0 y w0 ρ g w) (T:N<=i) (O:i<g.next) (hb:y.base<=i) (hB:B<=w0.heap.size) (Q:ρ i=none)
  (c:w'.heap=w.heap.push o') (C:w'.os=w.os) (x:w'.output=w.output) (t:w'.tape=w.tape) (F:∀o,g.get i=some o->zG P (A8 ρ i (w.heap.size,(0,0))) (0,0) o o'):
  We P B N ρ0 y w0 (A8 ρ i (w.heap.size,(0,0))) g w':=by
 have p:Du ρ (A8 ρ i (w.heap.size,(0,0))):=Du.A8 Q
 have l:=e.inv
 have z:∀j b s,(g.get j).isSome->ρ j=some (b,s)->b<w.heap.size:=fun j b s d q=>by
  have⟨o,ho⟩:=c7.1 d;have⟨o2,h2,_⟩:=l.uE j o ho b s q;grind
 have r:∀k,k<P.globals.size->k≠i:=fun k u M=>by
  have:=l.rR k u;grind
 refine {ext:=e.ext.trans p,inv:=?_,un:=?_,rO:=fun j d q=>e.rO j d q,stay:=e.stay,frame:=?_,range:=?_,base:=e.base,Bc:=e.Bc,size:=by rw[c];simp;exact u3 e.size,os:=C.trans e.os,out:=x.trans e.out,tape:=t.trans e.tape}
 .refine {uE:=?_,inj:=?_,low:=?_,old:=?_,iD:=?_,kW:=l.kW,rR:=?_,size:=by rw[c];simp;exact u3 l.size,bn:=l.bn}
  .intro j o L b s q;by_cases n:j=i
   .grind[cK]
   .rw[cM n] at q;have⟨o2,h2,h3⟩:=l.uE j o L b s q;refine⟨o2,?_,h3.mono p⟩;grind
  .intro j k b S sk d u v J f G;by_cases n:j=i
   .grind[cM,cK]
   .rw[cM n] at f;by_cases I:k=i
    .grind[cK]
    .rw[cM I] at G;exact l.inj j k b S sk d u v J f G
  .intro j b s d v f;by_cases n:j=i
   .subst n;rw[cK] at f;cases f;exact cL hB e.size
   .rw[cM n] at f;exact l.low j b s d v f
  .intro j b s d f;rw[e.base] at d;rw[cM FQ] at f;exact l.old j b s (by rwa [e.base]) f
  .intro j d;rw[cM FQ];exact l.iD j d
  .intro k u;rw[cM<|r k u];exact l.rR k u
 .intro j d q;rw[cM FQ];exact e.un j d q
 .intro b m A;rw[c,CT,bD1<|by have:=e.size;omega];exact e.frame b m A
 .intro j b s d v f m;by_cases n:j=i
  .subst n;rw[cK] at f;cases f;have:=e.size;omega
  .rw[cM n] at f;exact e.range j b s d v f m
theorem qw {u:AH} (e:We P B N ρ0 u w0 ρ g w) {o:qU} (Q:N<=i) (C:i<g.next) (hb:u.base<=i) (hB:B<=w0.heap.size)
  (z:∀b s,ρ i=some (b,s)->∃A,w.heap[b]?=some A/\zG P ρ s o A)
  (G:∀b s,ρ i=some (b,s)->w0.heap.size<=b/\∀j M,u.base<=j->(g.get j).isSome->ρ j=some (b,M)->j=i):
  We P B N ρ0 u w0 ρ (g.set i<|some o) w:=by
 have n:=e.inv
 have f:∀j,(g.set i _).get j=if j=i then some o else g.get j:=fun j=>AH.oA (by rw[e.base];exact hb)
 have c:∀j,((g.set i<|some o).get j).isSome->j=i\/(g.get j).isSome:=FR
 refine {ext:=e.ext,inv:=?_,un:=e.un,rO:=?_,stay:=fun j d F=>by rw[f,aaa];exact e.stay j d F,frame:=e.frame,range:=?_,base:=by simp;exact e.base,Bc:=?_,size:=e.size,os:=e.os,out:=e.out,tape:=e.tape}
 .refine {uE:=?_,inj:=?_,low:=?_,old:=?_,iD:=?_,kW:=?_,rR:=n.rR,size:=n.size,bn:=by simp;exact n.bn}
  .intro j J m b s p;rw[f] at m;by_cases q:j=i
   .grind
   .rw[bD1 q] at m;exact n.uE j J m b s p
  .intro j k b O sk d v m y p L;simp at d v;rcases c j m with q|l
   .rcases c k y with x|r
    .rw[q,x]
    .rw[e.base] at v;grind
   .rcases c k y with x|r
    .rw[e.base] at d;grind
    .exact n.inj j k b O sk d v l r p L
  .intro j b s d m p;simp at d;rcases c j m with q|l
   .grind
   .exact n.low j b s d l p
  .intro j b s d p;simp at d;exact n.old j b s d p
  .intro j d;simp at d;exact n.iD j d
  .intro j d;simp at d;rw[f,aaa];exact n.kW j d
 .intro j d I;rw[f,aaa];exact e.rO j d I
 .intro j b s d m p t;rcases c j m with q|l
  .grind
  .exact e.range j b s d l p t
 .intro j d;rw[f,aaa];exact e.Bc j d
theorem Tn {R:mP} {all:List Oper} {r0:Nat}:∀(os:List Oper) (i:Nat) (env:FJ) (h:AH) (rs:List Rec) (e:FJ) (d:AH),nN P R all r0 i os env h=some (rs,e,d)->
  ∃(E:Nat->FJ) (H:Nat->AH) (V:Nat->Value),E 0=env/\H 0=h/\
   (∀j o,os[j]?=some o->kY P R all r0 (i+j) (E j) (H j) o=some (V j,H<|j+1)/\E (j+1)=pC (E j) o.dst (V j))/\
   E os.length=e/\H os.length=d/\∀j,j<os.length->rs[j]?=some ⟨E j,H j,V j⟩
 |[],i,env,h,rs,e,d,c=>by
  obtain⟨rfl,rfl,rfl⟩:=c;exact⟨fun _=>env,fun _=>h,fun _=>undef,rfl,rfl,FR,rfl,rfl,FR⟩
 |o::os,i,env,h,rs,e,d,c=>by
  simp[nN] at c;split at c;rename_i v l q;split at c;rename_i g p f;obtain⟨rfl,rfl⟩:=c;have⟨E,H,V,h1,h2,h3,m,n,h6⟩:=Tn os _ _ l g e d f;refine⟨fun j=>match j with|0=>env|j+1=>E j,fun j=>match j with|0=>h|j+1=>H j,fun j=>match j with|0=>v|j+1=>V j,rfl,rfl,?_,m,n,?_⟩;grind;grind;cases c;cases c
def F1 (all:List Oper) (V:Nat->Value) (e:FJ) (D:FL):FJ:=D.foldl (fun e i=>pC e ((all[i]?).bind (·.dst))<|V i) e
def aHi {d:Option Tmp}:(pC e d v).length=e.length:=by cases d<;>simp[pC]
theorem qo {d:Option Tmp} {t:Nat}:(pC e d v)[t]?=if d=some t then(if t<e.length then some v else none) else e[t]?:=by
 cases d with
 |none=>simp[pC]
 |some d=>
  grind[pC,Option.some.injEq]
theorem T6 {all:List Oper} {V:Nat->Value} {t:Nat}:∀(D:FL) (e:FJ),(∀i∈D,(all[i]?).bind (·.dst)≠some t)->(F1 all V e D)[t]?=e[t]?
 |[],e,_=>rfl
 |i::D,e,h=>by
  show(F1 all V (pC e _ _) D)[t]?=_;rw[T6 D _ FR,qo,bD1 FR]
theorem yy {all:List Oper} {V:Nat->Value} {t j:Nat} (d:(all[j]?).bind (·.dst)=some t) (f:∀i,(all[i]?).bind (·.dst)=some t->i=j):∀(D:FL) (e:FJ),j∈D->(F1 all V e D)[t]?=if t<e.length then some (V j) else none
 |[],e,h=>FZ
 |i::D,e,h=>by
  show(F1 all V (pC e _ _) D)[t]?=_;by_cases hD:j∈D;rw[yy d f D _ hD,aHi];have c:i=j:=FR
  subst c;rw[T6 D _ FR,qo,bD2 d]
theorem Wt {t:Nat} (m:∀i j:Nat,(all[i]?).bind (·.dst)=some t->(all[j]?).bind (·.dst)=some t->i=j) {D c:FL}
  (g:∀j:Nat,(all[j]?).bind (·.dst)=some t->(j∈D↔j∈c)):(F1 all V e D)[t]?=(F1 all V e c)[t]?:=by
 rcases Classical.em (∃j,j∈D/\(all[j]?).bind (·.dst)=some t) with⟨j,f,l⟩|d
 .grind[yy]
 grind[T6]
theorem Yj {D:FL}:F1 all V e (D++[i])=pC (F1 all V e D) ((all[i]?).bind (·.dst)) (V i):=by
 unfold F1;grind
structure Dr (P:Program) (R:mP) (all:List Oper) (r0:Nat) (E:Nat->FJ) (H:Nat->AH) (V:Nat->Value):Prop where
 step:∀(j:Nat) o,all[j]?=some o->kY P R all r0 j (E j) (H j) o=some (V j,H<|j+1)
 env:∀(j:Nat) o,all[j]?=some o->E (j+1)=pC (E j) o.dst (V j)
 dir:∀(k:Nat) o,all[k]?=some o->∀j∈iF o,j<k
 kind:∀(k:Nat) o,all[k]?=some o->fX o.op≠.Jy
 vW:∀i j:Nat,∀t,(all[i]?).bind (·.dst)=some t->(all[j]?).bind (·.dst)=some t->i=j
 tmps:∀i j:Nat,∀o p d,all[i]?=some o->all[j]?=some p->i≠j->p.dst=some d->d∈Kx all o->(j<i->qW (iY all []) j i=true)/\(i<j->qW (iY all []) i j=true)
 Dp:∀i j:Nat,∀o p,all[i]?=some o->all[j]?=some p->fI o.op=true->fI p.op=true->j<i->qW (iY all []) j i=true
 flt:∀i s:Nat,∀o,all[i]?=some o->mT o.op=true->s<=all.length->(s=all.length\/∃p,all[s]?=some p/\fI p.op=true)->
  (∀j p,all[j]?=some p->fI p.op=true->(j<s->qW (iY all []) i j=false)/\(s<=j->qW (iY all []) j i=false))->
  ¬(i<s/\∀j p,i<j->j<s->all[j]?=some p->fI p.op=false)->
  gR ⟨all⟩ (E i) o=some true->iB P (eM P<|E i) (H s) o.op=some (V i)
structure St (P:Program) (B:Nat) (all:List Oper) (r0:Nat) (E:Nat->FJ) (H:Nat->AH) (V:Nat->Value) (ρ0:kX) (h:AH) (w0:World) (D:FL) (s:Nat) (ρ:kX) (w:World) (tmps:FJ):Prop where
 Lc:We P B r0 ρ0 h w0 ρ (H s) w
 dlt:∀i∈D,i<all.length
 sK:∀i∈D,∀o,all[i]?=some o->∀j∈iF o,j∈D
 s1:∀(j:Nat) o,j<s->all[j]?=some o->fI o.op=true->j∈D
 s3:∀(j:Nat) o,all[j]?=some o->fI o.op=true->j∈D->j<s
 sle:s<=all.length
 env:bP ρ (F1 all V (E 0) D) tmps
 nx:r0+all.length<=(H s).next
 mY:∀(i:Nat) o b f,s<=i->i∈D->all[i]?=some o->gR ⟨all⟩ (E i) o=some true->lJ P (eM P<|E i) o.op=some (b,f)->fX o.op= .alloc->
  ∃n o',ρ (r0+i)=some (n,(0,0))/\w.heap[n]?=some o'/\zG P ρ (0,0) b o'
 C0:∀i n t,i<all.length->ρ (r0+i)=some (n,t)->w0.heap.size<=n/\n<w.heap.size
 lone:∀i n t,s<=i->i<all.length->ρ (r0+i)=some (n,t)->∀j s',h.base<=j->((H s).get j).isSome->ρ j≠some (n,s')
 Qq:∀i i' n t t',i<all.length->i'<all.length->ρ (r0+i)=some (n,t)->ρ (r0+i')=some (n,t')->i=i'
 unm:∀i,i<all.length->i∉D->ρ (r0+i)=none
 unA:∀(i:Nat) o,all[i]?=some o->¬(fX o.op= .alloc/\gR ⟨all⟩ (E i) o=some true)->ρ (r0+i)=none
 rev:∀(i:Nat) o b f,i<s->i∉D->all[i]?=some o->gR ⟨all⟩ (E i) o=some true->lJ P (eM P<|E i) o.op=some (b,f)->fX o.op= .alloc->(H s).get (r0+i)=some b
 non:∀j,s<=j->j<all.length->(H s).get (r0+j)=none
 gr:∀m,m<=s->(∀(j:Nat) p,m<=j->j<s->all[j]?=some p->fI p.op=false)->wK (H m) (H s)
def aGl (all:List Oper) (D:FL) (s:Nat):Prop:=s=all.length\/∃o,all[s]?=some o/\fI o.op=true/\s∉D
variable {R:mP} {r0:Nat} {h:AH} {D:FL} {s:Nat}
theorem Ub (h:mT op=true):fX op= .G5\/fX op= .call:=by
 cases op<;>simp[mT,fX] at h ⊢
theorem Cu (h:mT op=true):fI op=false/\fX op≠.alloc:=by
 grind[Ub,fI]
theorem Dr.cases (d:Dr P R all r0 E H V) {i:Nat} {o:Oper} (j:all[i]?=some o):
  (gR ⟨all⟩ (E i) o=some false/\V i=undef/\H (i+1)=H i)\/
  (gR ⟨all⟩ (E i) o=some true/\mT o.op=true/\iB P (eM P<|E i) (H i) o.op=some (V i)/\H (i+1)=H i)\/
  (gR ⟨all⟩ (E i) o=some true/\fX o.op= .alloc/\∃b f,lJ P (eM P<|E i) o.op=some (b,f)/\V i=f (r0+i)/\H (i+1)=(H i).set (r0+i) (some b))\/
  (gR ⟨all⟩ (E i) o=some true/\fI o.op=true/\gP P R (eM P<|E i) (H i) o.op=some (V i,H<|i+1)):=by
 have c:=d.step i o j
 have n:=d.kind i o j
 rw[kY] at c
 split at c
 .cases c
 .grind
 .rename_i m;split at c
  .grind[Option.map_eq_some_iff]
  .rename_i g;split at c
   .grind[Option.map_eq_some_iff]
   .refine .inr (.inr<|.inr ⟨m,?_,c⟩);simp only[fI,g,Fi,DP];have l:fX o.op≠.G5:=by
     intro e;apply g;cases hop:o.op<;>rw[hop] at e<;>simp[fX] at e<;>simp[mT,fX]
    cases hkk:fX o.op with
    |G5=>grind
    |alloc=>grind
    |store=>rfl
    |call=>rfl
    |Jy=>grind
theorem Dr.aUj (d:Dr P R all r0 E H V):∀i,i<=all.length->E i=F1 all V (E 0) (List.range i)
 |0,_=>rfl
 |i+1,e=>by
  have c:all[i]?=some all[i]:=FR;rw[d.env i _ c,d.aUj i FQ,ep,Yj,c];rfl
def St.U9 (d:Dr P R all r0 E H V) (st:St P B all r0 E H V ρ0 h w0 D s ρ w tmps) (f:all[i]?=some o) (c:∀j∈iF o,j∈D) {j:Nat} (e:qW (iY all []) j i=true):j∈D:=
 T2 d.dir st.sK i o f c j e
theorem St.aMs (d:Dr P R all r0 E H V) (st:St P B all r0 E H V ρ0 h w0 D s ρ w tmps) (m:all[i]?=some o) (hD:i∉D) (e:∀j∈iF o,j∈D) {t:Nat} (u:t∈Kx all o):
  (F1 all V (E 0) D)[t]?=(E i)[t]?:=by
 have v:i<all.length:=FR
 rw[d.aUj i FQ]
 refine Wt (fun a b n q=>d.vW a b t n q) fun j l=>?_
 rw[AI]
 cases hp:all[j]? with
 |none=>grind
 |some p=>
  rw[hp] at l
  by_cases g:j=i
  .grind
  .have⟨h1,h2⟩:=d.tmps i j o p t m hp (Ne.symm g) l u;constructor
   .intro f;rcases u4 j i with c|r
    .exact c
    .exfalso;exact hD<|T2 d.dir st.sK j p hp (st.sK j f p hp) i<|h2 FQ
   .intro c;exact st.U9 d m e<|h1 c
theorem St.ev (d:Dr P R all r0 E H V) (st:St P B all r0 E H V ρ0 h w0 D s ρ w tmps) (e:all[i]?=some o) (hD:i∉D) (c:∀j∈iF o,j∈D):
  ∀x∈o.op.operands.toList,eM P (F1 all V (E 0) D) x=eM P (E i) x:=by
 intro x f
 cases x with
 |tmp t=>
  have:=st.aMs d e hD c (t:=t) (by grind[Kx])
  grind[eM]
 |_=>rfl
theorem St.wanted (d:Dr P R all r0 E H V) (st:St P B all r0 E H V ρ0 h w0 D s ρ w tmps) (e:all[i]?=some o) (hD:i∉D) (c:∀j∈iF o,j∈D):
  gR ⟨all⟩ (F1 all V (E 0) D) o=gR ⟨all⟩ (E i) o:=by
 unfold gR
 cases hg:o.guard with
 |none=>rfl
 |some x=>
  obtain⟨j,fY⟩:=x
  simp only
  cases hj:((⟨all⟩:Array Oper)[j]?).bind _ with
  |none=>rfl
  |some t=>
   have:=st.aMs d e hD c (t:=t) (by grind[Kx])
   grind
theorem St.aEd (d:Dr P R all r0 E H V) (st:St P B all r0 E H V ρ0 h w0 D s ρ w tmps) (n:aGl all D s) (l:all[i]?=some o) (hD:i∉D) (c:∀j∈iF o,j∈D) (v:mT o.op=true) (y:gR ⟨all⟩ (E i) o=some true):
  iB P (eM P<|E i) (H s) o.op=some (V i):=by
 rcases Classical.em (i<s/\∀j p,i<j->j<s->all[j]?=some p->fI p.op=false) with⟨A,C⟩|g
 .rcases d.cases l with⟨z,_⟩|⟨_,_,x,_⟩|⟨_,u,_⟩|⟨_,u,_⟩
  .grind
  .refine xj (st.gr i FQ fun j p r t e=>?_) x;grind[Cu]
  .grind[absurd,Cu]
  grind[Cu]
 .refine d.flt i s o l v st.sle (n.imp id FR) ?_ g y;intro j p e m;constructor
  .intro f;cases ha:qW _ i j with
   |false=>rfl
   |true=>exact absurd (T2 d.dir st.sK j p e (st.sK j (st.s1 j p f e m) p e) i ha) hD
  .intro q;cases ha:qW _ j i with
   |false=>rfl
   |true=>
    have:=st.s3 j p e m<|st.U9 d l c ha
    omega
end
variable {K:FuncId->FJ->IX}
variable {R:mP} {r0:Nat} {h:AH} {D:FL} {s:Nat}
theorem wK.refl (g:AH):wK g g:=fun _ _ h=>h
def wK.trans {a b:AH} (h:wK a b) (k:wK b c):wK a c:=fun i o x=>k i o<|h i o x
theorem St.aVj (d:Dr P R all r0 E H V) (β:h.base<=r0) (hB:B<=w0.heap.size) (st:St P B all r0 E H V ρ0 h w0 D s ρ w tmps) (Y:all[s]?=some o) (hh:fI o.op=false):
  St P B all r0 E H V ρ0 h w0 D (s+1) ρ w tmps:=by
 have y:s<all.length:=FR
 have C:∀(j:Nat) p,j<s+1->all[j]?=some p->fI p.op=true->j∈D:=fun j p q r l=>by
  by_cases e:j=s;grind;exact st.s1 j p FQ r l
 have qD:H _=H s->¬(fX o.op= .alloc/\gR ⟨all⟩ (E s) o=some true)->St P B all r0 E H V ρ0 h w0 D _ ρ w tmps:=fun c α=>
  {Lc:=by rw[c];exact st.Lc,dlt:=st.dlt,sK:=st.sK,s1:=C,s3:=fun j p r l q=>EJ<|st.s3 j p r l q,sle:=y,env:=st.env,nx:=by rw[c];exact st.nx
   mY:=fun i p b f z=>st.mY i p b f FQ,C0:=st.C0,lone:=fun i n t z=>by rw[c];exact st.lone i n t FQ,Qq:=st.Qq,unm:=st.unm,unA:=st.unA
   rev:=fun i p b f z hD r F M G=>by
    rw[c];by_cases e:i=s;grind;exact st.rev i p b f FQ hD r F M G
   non:=fun j q=>by rw[c];exact st.non j FQ
   gr:=fun m hm T=>by
    by_cases e:m=s+1;grind[wK.refl];rw[c];exact st.gr m FQ FR}
 rcases d.cases Y with⟨F,_,c⟩|⟨F,hl,_,c⟩|⟨F,G,b,f,M,_,c⟩|⟨_,G,_⟩
 .grind
 .grind[Cu]
 .have O:(H s).base<=r0+s:=by rw[st.Lc.base];omega
  have g:∀j,(H _).get j=if j=r0+s then some b else(H s).get j:=fun j=>by rw[c];grind[AH.oA]
  have v:∀j,((H<|s+1).get j).isSome->j=r0+s\/((H s).get j).isSome:=FR
  refine {Lc:=?_,dlt:=st.dlt,sK:=st.sK,s1:=C,s3:=fun j p r l q=>EJ<|st.s3 j p r l q,sle:=y,env:=st.env,nx:=by rw[c];simp;exact st.nx,
             mY:=fun i p b f z=>st.mY i p b f FQ,C0:=st.C0,lone:=?_,Qq:=st.Qq,unm:=st.unm,unA:=st.unA,rev:=?_,non:=?_,gr:=?_}
  .rw[c];refine qw st.Lc FQ GP FQ hB ?_ ?_
   .intro n t u;by_cases hD:s∈D
    .have⟨n',o',h1,h2,h3⟩:=st.mY s o b f (bb _) hD Y F M G;grind
    .rw[st.unm s y hD] at u;cases u
   .intro n t u;exact⟨(st.C0 s n t y u).1,fun j I q J X=>absurd X<|st.lone s n t (bb _) y u j I q J⟩
  .intro i n t z A u j I q J;rcases v j J with ej|L
   .subst ej;intro X;have:=st.Qq i s n t I A y u X;omega
   .exact st.lone i n t FQ A u j I q L
  .intro i p Z f' z hD r U N S;rw[g];by_cases e:i=s
   .grind
   .rw[aaa];exact st.rev i p Z f' FQ hD r U N S
  .intro j q Q;rw[g,aaa];exact st.non j FQ Q
  .intro m hm T;by_cases e:m=s+1
   .grind[wK.refl]
   .apply(st.gr m FQ FR).trans;intro j x W;rw[g,bD1]
    .exact W
    .rintro rfl;rw[st.non s (bb _) y] at W;cases W
 grind
theorem St.fq (d:Dr P R all r0 E H V) (c:h.base<=r0) (hB:B<=w0.heap.size):∀(n s:Nat),all.length - s=n->St P B all r0 E H V ρ0 h w0 D s ρ w tmps->∃f,St P B all r0 E H V ρ0 h w0 D f ρ w tmps/\aGl all D f
 |0,s,g,st=>⟨s,st,.inl<|by have:=st.sle;omega⟩
 |n+1,s,g,st=>by
  have e:all[s]?=some all[s]:=FR;cases hh:fI _ with
  |true=>exact⟨s,st,.inr ⟨_,e,hh,fun hD=>by have:=st.s3 s _ e hh hD;omega⟩⟩
  |false=>exact St.fq d c hB n (s+1) FQ<|st.aVj d c hB e hh
theorem Hp (hc:∀i∈D,∀o,all[i]?=some o->∀j∈iF o,j∈D) (d:all[i]?=some o) (c:∀j∈iF o,j∈D):
  ∀k∈D++[i],∀p,all[k]?=some p->∀j∈iF p,j∈D++[i]:=by
 grind
def Uh (f:all[i]?=some o) {d:Value} (c:bP ρ (F1 all V (E 0) D) tmps) (g:bB ρ (V i) d):bP ρ (F1 all V (E 0)<|D++[i]) (pC tmps o.dst d):=by
 rw[Yj,f];simp[AS];cases o.dst with
 |none=>exact c
 |some e=>exact c.set e g
theorem St.value (st:St P B all r0 E H V ρ0 h w0 D s ρ w tmps) (r:all[i]?=some o) (g:∀j∈iF o,j∈D) (z:fI o.op=false) (v:¬(fX o.op= .alloc/\gR ⟨all⟩ (E i) o=some true))
  {t:Value} (x:bB ρ (V i) t):St P B all r0 E H V ρ0 h w0 (D++[i]) s ρ w (pC tmps o.dst t) where
 Lc:=st.Lc
 dlt:=fun k d=>by
  rcases cg.1 d with c|c;exact st.dlt k c;grind
 sK:=Hp st.sK r g
 s1:=fun j p m l e=>DS _<|st.s1 j p m l e
 s3:=fun j p l e m=>by
  rcases cg.1 m with c|c;exact st.s3 j p l e c;grind
 sle:=st.sle
 env:=Uh r st.env x
 nx:=st.nx
 mY:=fun k p b f d n l y u q=>by
  rcases cg.1 n with c|c;exact st.mY k p b f d c l y u q;grind
 C0:=st.C0
 lone:=st.lone
 Qq:=st.Qq
 unm:=fun k d hD=>st.unm k d FR
 unA:=st.unA
 rev:=fun k p b f d hD=>st.rev k p b f d FR
 non:=st.non
 gr:=st.gr
theorem St.block (st:St P B all r0 E H V ρ0 h w0 D s ρ w tmps) (β:h.base<=r0) (hB:B<=w0.heap.size) (S:all[i]?=some o) (hD:i∉D) (L:∀j∈iF o,j∈D) (X:fX o.op= .alloc) (hw:gR ⟨all⟩ (E i) o=some true)
  {b:qU} {f:Nat->Value} (ha:lJ P (eM P<|E i) o.op=some (b,f)) (hb:zG P ρ (0,0) b o') {v':Value} (hv:bB (A8 ρ (r0+i) (w.heap.size,(0,0))) (V i) v'):
  St P B all r0 E H V ρ0 h w0 (D++[i]) s (A8 ρ (r0+i) (w.heap.size,(0,0))) (w.alloc o') (pC tmps o.dst v'):=by
 have M:i<all.length:=FR
 have hn:=st.unm i M hD
 have l:Du ρ (A8 ρ _ (w.heap.size,(0,0))):=Du.A8 hn
 have c:∀k,k≠i->A8 ρ (r0+i) (w.heap.size,(0,0)) _=ρ (r0+k):=fun k X=>cM FQ
 have Y:∀j n t,((H s).get j).isSome->ρ j=some (n,t)->n<w.heap.size:=fun j n t A g=>by
  have⟨x,y⟩:=c7.1 A;have⟨o2,h2,_⟩:=st.Lc.inv.uE j x y n t g;grind
 have Q:fI o.op=false:=by simp[fI,X]
 refine {Lc:=?_,dlt:=?_,sK:=Hp st.sK S L,s1:=fun j p A u G=>DS _<|st.s1 j p A u G,s3:=?_,sle:=st.sle,env:=Uh S (bP.mono l _ _ st.env) hv,nx:=st.nx,
           mY:=?_,C0:=?_,lone:=?_,Qq:=?_,unm:=?_,unA:=?_,rev:=?_,non:=st.non,gr:=st.gr}
 .refine aIm st.Lc FQ GP FQ hB hn rfl rfl rfl rfl ?_;intro x y;rcases u4 i s with m|m
  .rw[st.rev i o b f m hD S hw ha X] at y;cases y;exact hb.mono l
  .rw[st.non i m M] at y;cases y
 .intro k C;rcases cg.1 C with m|m
  .exact st.dlt k m
  grind
 .intro j p u G A;rcases cg.1 A with m|m
  .exact st.s3 j p u G m
  grind
 .intro k p T U q F u α z C;by_cases e:k=i
  .subst e;rw[S] at u;cases u;rw[ha] at z;cases z;exact⟨_,o',cK,by show(w.heap.push o')[w.heap.size]?=some o';simp,hb.mono l⟩
  .have N:k∈D:=by
    rcases cg.1 F with m|m;exact m;grind
   have⟨n,o2,m,h2,h3⟩:=st.mY k p T U q N u α z C
   refine⟨n,o2,FR,?_,h3.mono l⟩
   grind[Array.getElem?_eq_some_iff,World.alloc]
 .intro k n t d g;by_cases e:k=i
  .subst e;rw[cK] at g;cases g;exact⟨st.Lc.size,FW⟩
  .rw[c k e] at g;have:=st.C0 k n t d g;exact⟨this.1,FX⟩
 .intro k n t q d g j s' A W;by_cases e:k=i
  .subst e;rw[cK] at g;cases g;by_cases O:j=r0+k
   .subst O;rw[st.non k q d] at W;cases W
   grind[cM]
  .rw[c k e] at g;by_cases O:j=r0+i
   .subst O;rw[cK];intro y;cases y;have:=(st.C0 k w.heap.size t d g).2;omega
   .rw[cM O];exact st.lone k n t q d g j s' A W
 .intro k I n t t' d v g r;by_cases e:k=i
  .by_cases J:I=i
   .rw[e,J]
   .subst e;rw[cK] at g;cases g;rw[c I J] at r;have:=(st.C0 I w.heap.size t' v r).2;omega
  .rw[c k e] at g;by_cases J:I=i
   .subst J;rw[cK] at r;cases r;have:=(st.C0 k w.heap.size t d g).2;omega
   .rw[c I J] at r;exact st.Qq k I n t t' d v g r
 .intro k d F;rw[c k FR];exact st.unm k d FR
 .intro k p u Z;rw[c k FR];exact st.unA k p u Z
 .intro k p T U q F;exact st.rev k p T U q FR
theorem St.aYu (st:St P B all r0 E H V ρ0 h w0 D s ρ w tmps) (W:all[s]?=some o) (Y:s∉D) (hh:fI o.op=true) (A:∀j∈iF o,j∈D) {ρ1:kX} (d:pT P B ρ (H s) w ρ1 (H<|s+1) w1) {X:Value} (Z:bB ρ1 (V s) X):
  St P B all r0 E H V ρ0 h w0 (D++[s]) (s+1) ρ1 w1 (pC tmps o.dst X):=by
 have S:s<all.length:=FR
 have q:∀k x,k<all.length->ρ1 _=some x->ρ _=some x:=fun k x g F=>by
  cases hx:ρ (r0+k) with
  |none=>
   have:=d.un _ GP hx;rw[F] at this;cases this
  |some y=>have:=d.ext _ _ hx;grind
 refine {Lc:=st.Lc.then d GP,dlt:=?_,sK:=Hp st.sK W A,s1:=?_,s3:=?_,sle:=S,env:=Uh W (bP.mono d.ext _ _ st.env) Z,nx:=cL st.nx d.next,
           mY:=?_,C0:=?_,lone:=?_,Qq:=?_,unm:=?_,unA:=?_,rev:=?_,non:=?_,gr:=?_}
 .intro k g;rcases cg.1 g with l|l
  .exact st.dlt k l
  grind
 .intro j p C m v;by_cases e:j=s
  .simp[e]
  .exact DS _ (st.s1 j p FQ m v)
 .intro j p m v C;rcases cg.1 C with l|l
  .exact EJ (st.s3 j p m v l)
  grind
 .intro k p b f g r m T L u;have c:k∈D:=by
   rcases cg.1 r with l|l;exact l;grind
  have⟨n,o',l,I,J⟩:=st.mY k p b f FQ c m T L u
  refine⟨n,o',d.ext _ _ l,?_,J.mono d.ext⟩
  rw[d.frame n FR fun j t C G=>st.lone k n (0,0) FQ (st.dlt k c) l j t (by rwa [<-st.Lc.base]) G]
  exact I
 .intro k n t g F;have:=st.C0 k n t g FR;exact⟨this.1,l5 this.2 d.size⟩
 .intro k n t O g F j U C G rj;have z:=q k _ g F;obtain⟨j',t2,l,I,J⟩:=d.range j n U (by rwa [st.Lc.base]) G rj<|(st.C0 k n t g z).2;exact st.lone k n t FQ g z j' t2 (by rwa [<-st.Lc.base]) I J
 .intro k k' n t U g N F z;exact st.Qq k k' n t U g N FR FR
 .intro k g r;exact d.un _ GP<|st.unm k g FR
 .intro k p m Q;exact d.un _ (by have:=st.nx;grind)<|st.unA k p m Q
 .intro k p b f g r m T L u;have O:k≠s:=FR;have c:k∉D:=FR;rw[d.rO _ GP<|st.unm k (ew.1 m).1 c];exact st.rev k p b f FQ c m T L u
 .intro j C M;exact d.stay _ GP<|st.non j FQ M
 grind[wK.refl]
def G1 {a:Act} {d:Option Tmp}:(a.put d v).tmps.toList=pC a.tmps.toList d v:=by cases d<;>simp[Act.put,pC]
theorem Uu (C:Pj P B K) (hR:Jq C R) {ops:Array Oper} (Q:ops.toList=all) (d:Dr P R all r0 E H V) (X:h.base<=r0) (hB:B<=w0.heap.size) (δ:fT P B ρ0 h w0) (γ:C.G w0) {b:Frame} {cs:List Frame} {k:List Item}:
  ∀(l:FL) (D:FL) (s:Nat) (ρ:kX) (w:World) (a:Act),I6 all D l->aGl all D s->St P B all r0 E H V ρ0 h w0 D s ρ w a.tmps.toList->
   ∃S ρ' Z L,St P B all r0 E H V ρ0 h w0 S all.length ρ' Z L.tmps.toList/\(∀i,i<all.length->i∈S)/\L.defers=a.defers/\Steps P (lone (b.atR a (.inRegion ops l::k)) cs w) (lone (b.atR L (.inRegion ops []::k)) cs Z)
 |[],D,s,ρ,w,a,F,hf,st=>by
  have:s=all.length:=by
   rcases hf with h1|⟨o,z,_,hD⟩;exact h1;exact absurd (F s FR) hD
  subst this;exact⟨D,ρ,w,a,st,F,rfl,EE _ _⟩
 |i::l,D,s,ρ,w,a,F,hf,st=>by
  obtain⟨υ,hD,T,W⟩:=F;have z:all[i]?=some all[i]:=FR;have I:ops[i]?=some all[i]:=FR
  have r:ops=⟨all⟩:=by rw[<-Q]
  have m:=T _ z;generalize all[i]=o at z I m;have η:=st.wanted d z hD m;have q:=st.ev d z hD m;have hG:C.G w:=by
   have M:Below B w0 w:=⟨st.Lc.os,st.Lc.tape,st.Lc.out,st.Lc.size,fun x hx=>st.Lc.frame x FQ fun j t hj gj hr=>absurd (δ.low j x t hj gj hr) FQ⟩;exact C.Sv _ _ M γ
  have N:=Ih st.Lc.inv st.env;have go:∀(s1:Nat) (ρ1:kX) (w1:World) (a1:Act),St P B all r0 E H V ρ0 h w0 (D++[i]) s1 ρ1 w1 a1.tmps.toList->a1.defers=a.defers->Steps P (lone (b.atR a (.inRegion ops (i::l)::k)) cs w) (lone (b.atR a1 (.inRegion ops l::k)) cs w1)->
    ∃S ρ' Z L,St P B all r0 E H V ρ0 h w0 S all.length ρ' Z L.tmps.toList/\(∀i,i<all.length->i∈S)/\L.defers=a.defers/\Steps P (lone (b.atR a (.inRegion ops (i::l)::k)) cs w) (lone (b.atR L (.inRegion ops []::k)) cs Z):=by
   intro s1 ρ1 w1 a1 σ κ ξ
   obtain⟨s2,τ,μ⟩:=σ.fq d X hB _ _ rfl
   obtain⟨S,ρ',Z,L,g1,g2,g3,g4⟩:=Uu C hR Q d X hB δ γ l (D++[i]) s2 ρ1 w1 a1 W μ τ
   exact⟨S,ρ',Z,L,g1,g2,g3.trans κ,ξ.trans g4⟩
  have v:fI o.op=true->i=s:=by
   intro O;rcases u4 i s with h1|h1;exact absurd (st.s1 i o h1 z O) hD;by_cases e:i=s;exact e;exfalso;rcases hf with h2|⟨p,hp,ν,ο⟩;omega;exact ο<|st.U9 d z m<|d.Dp i s o p z hp O ν FQ
  rcases d.cases z with⟨hw,π,he⟩|⟨hw,hl,hv,he⟩|⟨hw,hk,bl,f,ha,φ,he⟩|⟨hw,O,hv⟩;have A:Region.wanted o (yielded ops a.tmps)=false:=by
   rw[r];exact xG st.env FR
  have J:step P (lone (b.atR a (.inRegion ops (i::l)::k)) cs w)= .next (lone (b.atR (a.put o.dst undef) (.inRegion ops l::k)) cs w):=by
   have:=stepR_op_skip (P:=P) (b:=b) (a:=a) (k:=k) (cs:=cs) (w:=w) (ops:=ops) (i:=i) (rest:=l) FR;grind
  have ζ:bB ρ (V i) undef:=by rw[π];exact Cy
  cases O:fI o.op with
  |true=>
   have U:=v O;subst U;refine go (i+1) ρ w _ ?_ tI<|.one J;rw[G1];exact st.aYu z hD O m (by rw[he];exact pT.refl st.Lc.inv) ζ
  |false=>
   refine go s ρ w _ ?_ tI<|.one J;rw[G1];exact st.value z m O FR ζ
  have A:Region.wanted o (yielded ops a.tmps)=true:=by
   rw[r];exact xG st.env FR
  have n:=st.aEd d hf z hD m hl hw;rw[<-j1 o.op q] at n;have ε:∃Y,bB ρ (V i) Y/\Steps P (lone (b.atR a (.inRegion ops (i::l)::k)) cs w) (lone (b.atR (a.put o.dst Y) (.inRegion ops l::k)) cs w):=by
   obtain⟨dst,op,ty,pos,after,guard⟩:=o;simp only at n hl;rcases Ub hl with hk|hk;have θ:dP P (eM P<|F1 all V (E 0) D) (H s) op=some (V i):=by
    cases op<;>first|exact n|grind[fX]
   have⟨Y,hr,y⟩:=P5 st.Lc.inv N {dst:=dst,op:=op,type:=ty,pos:=pos,after:=after,guard:=guard} θ;exact⟨Y,y,.one<|Xw I A (uJ FR) hr⟩;cases op with
   |call c=>
    obtain⟨callee,G,α⟩:=c;cases callee with
    |builtin bi=>
     simp only[iB] at n;split at n;simp only[ba] at n;obtain⟨⟨u,g1⟩,ι,hu⟩:=n;subst hu;have⟨_,Y,y,hr⟩:=Wz st.Lc.inv (ty:=ty) (consts:=G.map fun|.const _=>true|_=>false) (by grind[wS]) (bP.Oe N _) ι;refine⟨Y,y,.one<|Xw I A FR ?_⟩;have:G.map a.eval=⟨G.toList.map a.eval⟩:=FR;grind[execOp,resolve,Sem.run_bind,Sem.run_pure,Result.andThen_ok,invoke];cases n
    |_=>grind[iB]
   |_=>simp[fX] at hk
  obtain⟨Y,y,hs⟩:=ε;refine go s ρ w _ ?_ tI hs;rw[G1];exact st.value z m (Cu hl).1 (fun hx=>(Cu hl).2 hx.1) y;have A:Region.wanted o (yielded ops a.tmps)=true:=by
   rw[r];exact xG st.env FR
  have β:=ha;rw[<-dy o.op q] at β;have⟨o',g,hb,hr,n⟩:=P3 (w:=w) N o β;refine go s (A8 ρ (r0+i) (w.heap.size,(0,0))) _ _ ?_ tI<|.one<|Xw I A (uJ FR) hr;rw[G1];exact st.block X hB z hD m hk hw ha hb (by grind[cK]);have A:Region.wanted o (yielded ops a.tmps)=true:=by
   rw[r];exact xG st.env FR
  have U:=v O;subst U;rw[<-q9 o.op q] at hv;have⟨ρ1,w1,v1,e1,r1,s1⟩:=Hd C hR st.Lc.inv hG N k cs I A (b:=b) (is:=l) hv;refine go (i+1) ρ1 w1 _ ?_ tI s1;rw[G1];exact st.aYu z hD O m e1 r1
end Go.Ab
