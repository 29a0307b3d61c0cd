/- A part of the proof. -/
import Derived.Test.YteelnoablpdhbaaGreatDoorO1
import Derived.RangeFuncIn
set_option linter.all false
open Go Go.Ab
variable {P:Program} {B i n:Nat} {ρ:jB} {w w':World} {r v x:Value} {j l new:EK} {ty:TypeId} {s:Nat×Nat} {h':AH}
namespace Go.Ab
open Go.RowKit
variable {h:AH}
def pK.X1 (c:pK P B ρ h w) (d:w'.heap=w.heap):pK P B ρ h w' where
 oP:=fun i o e b s f=>by rw[d];exact c.oP i o e b s f
 inj:=c.inj
 low:=c.low
 old:=c.old
 gO:=c.gO
 jD:=c.jD
 pO:=c.pO
 size:=by rw[d];exact c.size
 bn:=c.bn
def yf {e:Value} (d:aZ ρ x e) (c:C9 x=some n):(Builtin.lenOf e).run P w= .ok n w:=by
 unfold C9 at c;split at c;rename_i a _ _;cases c;cases a with
 |none=>subst d;rfl
 |some a=>
  obtain⟨_,_,sp⟩:=a;cases sp with
  |none=>obtain⟨_,_,_,_,_,_,rfl⟩:=d;rfl
  |some _=>obtain⟨rfl,_,_,_,_,_,rfl⟩:=d;rfl
 cases c
theorem uy (m:pK P B ρ h w) {j:Value} {size:Nat} (q:aZ ρ x j) (d:lE h size n x=some new):
  ∃e,(Builtin.firstCells size n j).run P w= .ok ⟨e⟩ w/\bH ρ new e:=by
 unfold lE at d
 split at d
 .simp_all[aZ,Builtin.firstCells,bH.nil]
 .rename_i a l c;split at d
  .cases d;obtain⟨_,_,sp⟩:=a;have r:∀g f,(Builtin.firstCells size 0<|.slice (some g) l f).run P w= .ok ⟨[]⟩ w:=fun g f=>FG
   cases sp with
   |none=>grind[aZ,bH.nil]
   |some _=>grind[aZ,bH.nil]
  .split at d
   .obtain⟨i,o,sp⟩:=a;cases sp with
    |none=>
     obtain⟨b,s,f,p,_,_,rfl⟩:=q
     have⟨l',hrun,hrel,_,_⟩:=zQ m p d
     exact⟨l',hrun,hrel⟩
    |some _=>grind[dE]
   .cases d
 .cases d
theorem xS {z:Value} (d:z.cells=⟨l⟩) {size:Nat} (c:l.length=size) (n:Nat):Builtin.zeroCells z.cells n=⟨gB l n⟩:=by
 grind[Builtin.zeroCells,A7]
variable {c':Nat}
theorem aa {c:Array TypeId} {F e:TypeId} {i:TypeInfo} {z:EK} {base':EN} {sLen:Nat} {g:EK}
  (G:c[0]?=some F) (J:P.underlying F=some (.slice e)) (C:P.info? e=some i) (Q:i.zero=some r) (x:r.cells=⟨z⟩)
  {u:TypeId} (I:c[1]?=some u) (q:P.underlying u=some .string\/∃y,P.underlying u=some (.slice y))
  (m:(Builtin.lenOf v).run P w= .ok n w) (t:¬sLen+n<=c') (A:(sLen+n)*(i.bytes+1)<=2^46)
  (hold:(Builtin.firstCells (P.cellsOf e) sLen<|.slice base' sLen c').run P w.drew= .ok ⟨j⟩ w.drew) (p:(Builtin.firstCells (P.cellsOf e) n v).run P w.drew= .ok ⟨g⟩ w.drew):
  (Builtin.append_ c ty #[.slice base' sLen c',v]).run P w=
   .ok (.slice (some ⟨w.heap.size,0,none⟩) (sLen+n)<|grownCap w (sLen+n) c' e) (w.drew.alloc<|.cells (⟨j⟩++⟨g⟩++Builtin.zeroCells r.cells (grownCap w (sLen+n) c' e - (sLen+n))) e):=by
 have M:(sLen+n)*i.bytes<=2^46:=ES
 have N:sLen+n<=2^46:=ES
 have l:¬Builtin.nextslicecap (sLen+n) c'*i.bytes>2^48:=by
  have:=growslice_fits (need:=sLen+n) (old:=c') (bytes:=i.bytes) ER ER;omega
 have f:¬(((sLen+n:Nat):Int)>IntKind.i64.max/\(false=true\/i.bytes=0)):=by
  rw[IntKind.max_i64];intro O;omega
 have L:(Question.appendCap (sLen+n) c' e).forced=false:=rfl
 have t1:∀d,(typeInfo e).run P d= .ok i d:=fun d=>by simp[typeInfo,C]
 have t2:∀d,(sizeOf e).run P d= .ok _ d:=fun d=>iQ C
 have t3:∀d,(zeroValue e).run P d= .ok r d:=fun d=>by simp_all[zeroValue,typeInfo]
 rcases q with q|⟨y,q⟩
 all_goals
  simp only[Builtin.append_,G,I,BR,r5,z1,cr,bb J,bb q,aW,t2,hM,
      aO,c9,m,t,t1,false_or]
  simp only[aO,false_or] at f
  rw[aXf f]
  simp only[cr,run_choose,L,aO,c9,aW,run_askRoom,World.drew_eq,t1,l,hold,EE,e9,p,t3,newRow,cr,run_newObj,aW,hM,World.alloc_eq]
  rfl
theorem uN {c:Array TypeId} {r e m:TypeId} {i:TypeInfo} {base':EN} {sLen:Nat} {p:Value} {d:EK}
  (t:c[0]?=some r) (v:P.underlying r=some (.slice e)) (x:P.info? e=some i)
  (u:c[1]?=some m) (l:P.underlying m=some .string\/∃q,P.underlying m=some (.slice q))
  (f:(Builtin.lenOf p).run P w= .ok n w) (hle:sLen+n<=c') (g:(Builtin.firstCells (P.cellsOf e) n p).run P w= .ok ⟨d⟩ w):
  (Builtin.append_ c ty #[.slice base' sLen c',p]).run P w=
   match base' with
   |some a=>((storeCells (a.add<|sLen*P.cellsOf e) d).run P w).andThen fun _ j=> .ok (.slice base' (sLen+n) c') j
   |none=> .ok (.slice base' (sLen+n) c') w:=by
 have t2:∀j,(sizeOf e).run P j= .ok _ j:=fun j=>iQ x
 rcases l with l|⟨q,l⟩
 all_goals
  simp only[Builtin.append_,t,u,BR,r5,z1,cr,bb v,bb l,aW,t2,hM,
      aO,c9,f,hle,e9,EE,g]
  cases base'<;>simp
theorem Yh (e:pK P B ρ h w) {b:Nat} {u:oU} (p:h.base<=i) (y:h.get i=some u) (z:ρ i=some (b,s)):mU P B ρ h w ρ (h.set i none) w:=by
 have f:∀j,(h.set i none).get j=if j=i then none else h.get j:=fun j=>AH.kP p
 have c:∀j,((h.set i none).get j).isSome->(h.get j).isSome/\j≠i:=ES;refine {ext:=A6.refl _,inv:=?_,un:=fun _ _ h=>h,pF:=?_,stay:=ES,frame:=ES,range:=?_,base:=AH.fy,yR:=?_,next:=EV,size:=ba _,os:=rfl,out:=rfl,tape:=rfl};refine {oP:=?_,inj:=?_,low:=?_,old:=?_,gO:=?_,jD:=?_,pO:=e.pO,size:=e.size,bn:=by simp;exact e.bn};intro j v g r m l;have:=c j (by rw[g];rfl);rw[f,aXf this.2] at g;exact e.oP j v g r m l;intro j k n m sk d q g t l x;simp at d q;exact e.inj j k n m sk d q (c j g).1 (c k t).1 l x;intro j n m d g l;simp at d;exact e.low j n m d (c j g).1 l;intro j n m d l;simp at d;exact e.old j n m d l;intro j d;simp at d;exact e.gO j d;intro j d;simp at d;rw[f];split;rfl;exact e.jD j d;grind;grind;grind
theorem bg (S:pK P B ρ h w) {c:Array TypeId} {e:TypeId} {s s' N:Value} (G:(c[0]?).bind P.underlying=some (.slice e)) (I:aZ ρ s s') (L:aZ ρ x N) (g:aI7 P h c e s x=some (v,h')):
  ∃ρ' d M,mU P B ρ h w ρ' h' d/\aZ ρ' v M/\(Builtin.append_ c ty #[s',N]).run P w= .ok M d:=by
 unfold aI7 at g
 split at g
 .rename_i k X n z J W;split at g
  .rename_i Q;cases g;obtain⟨Y,Z,h3,h4⟩:=Q;have⟨i,zv,hinf,hzero,hzr,hzc,hzl,hzz⟩:=uS (w:=w) W;have O:i.bytes=P.bytesOf e:=by simp[Program.bytesOf,hinf]
   have⟨A,k0,G⟩:∃A,c[0]?=some A/\P.underlying A=some (.slice e):=ES
   have⟨C,k1,J⟩:∃C,c[1]?=some C/\P.underlying C=some (.int k):=ES
   simp[aZ] at I L
   subst I L
   obtain⟨m,rfl⟩:=cb (by omega:0<=n)
   have y:IntKind.i64.wrap (m:Int)=m:=DI _ ER
   have T:m*i.bytes<=1000*1000:=DJ ER ER
   have j:¬Builtin.nextslicecap (0+m) 0*i.bytes>2^48:=by
    have:=growslice_fits (need:=0+m) (old:=0) (bytes:=i.bytes) ER (by rw[AQ];omega);omega
   have U:(Question.appendCap (0+m) 0 e).forced=false:=rfl
   have t1:∀d,(typeInfo e).run P d= .ok i d:=fun d=>by simp[typeInfo,hinf]
   have t2:∀d,(sizeOf e).run P d= .ok _ d:=fun d=>iQ hinf
   have t3:∀d,(zeroValue e).run P d= .ok zv d:=fun d=>by simp_all [zeroValue,typeInfo]
   have u:¬m*P.cellsOf e=0:=Nat.mul_ne_zero ER ER
   have t:¬((m:Int)*i.bytes>2^48):=by
    have:((m:Int)*i.bytes)=((m*i.bytes:Nat):Int):=EV
    omega
   have p:¬(((0+m:Nat):Int)>IntKind.i64.max):=by rw[IntKind.max_i64];omega
   have r:(Builtin.append_ c ty #[.slice none 0 0,.int X m]).run P w= .ok (.slice (some ⟨w.heap.size,0,none⟩) (0+m)<|grownCap w (0+m) 0 e) (w.drew.alloc<|.cells (Builtin.zeroCells zv.cells m++Builtin.zeroCells zv.cells (grownCap w (0+m) 0 e - (0+m))) e):=by
    simp only[Builtin.append_,k0,k1,BR,r5,z1,cr,bb G,bb J,aW,t2,hM,asInt,asIntOf];have q:¬((m:Int)<0):=ER
    have l:¬(0+m<=0):=ER
    have f:¬(((0+m:Nat):Int)>IntKind.i64.max/\(True\/i.bytes=0)):=fun k=>p k.1;simp only[e9,cr,hM,aW,y,q,c9,t1,t,aP,l];rw[aXf f];simp only[cr,run_choose,U,aO,c9,aW,run_askRoom,World.drew_eq,t1,j,BE,e9,t3,newRow,u,Builtin.firstCells,run_newObj,hM,World.alloc_eq];rw[Array.empty_append];rfl
   have F:=grownCap_ge w (0+m) 0 e
   refine⟨_,_,_,As (s:=(grownCap w (0+m) 0 e - (0+m),0)) S (w':=w.drew.alloc _) ⟨_,rfl,?_,?_,nofun⟩ rfl rfl rfl rfl,⟨_,_,grownCap w (0+m) 0 e,bV,ER,ER,by rw[aP,AQ m];rfl⟩,r⟩
   .simp only[CC,kt,aP,xS (z:=zv) GN hzl m];rw[xa<|ba _,AG];exact Ba (hzz _) m
   .have hl:(gB z m).length=m*P.cellsOf e:=by have:=eb Array.size<|xS (z:=zv) GN hzl m;simp[size_zeroCells,hzc,hzl] at this;grind
    simp only[DN,size_zeroCells]
    grind
  .cases g
 .cases g
theorem Ww (A:pK P B ρ h w) {g:Array TypeId} {s s' x':Value} (O:aZ ρ s s') (hx:aZ ρ x x') (f:Nr P h g s x=some (v,h')):
  ∃ρ' L Y,mU P B ρ h w ρ' h' L/\aZ ρ' v Y/\(Builtin.append_ g ty #[s',x']).run P w= .ok Y L:=by
 rw[Nr] at f
 split at f
 .rename_i e hd;split at f
  .exact bg A hd O hx f
  rename_i hxk
  split at f
  .rename_i z hz;unfold kH at f;split at f;rotate_left
   .cases f
   rename_i base d X n hn
   split at f
   .rename_i new W;have⟨i,zv,hinf,hzero,hzr,hzc,hzl,hzz⟩:=uS (w:=w) hz;have ν:zv.cells=⟨z⟩:=GN
    have hby:i.bytes=P.bytesOf e:=by simp[Program.bytesOf,hinf]
    split at f
    .cases f
    .rename_i N;simp only[BA,BS,bne_iff_ne,ne_eq,not_or,Bool.not_eq_false,og] at N;obtain⟨hall,hnl⟩:=N;have⟨sT,h0,hd⟩:∃sT,g[0]?=some sT/\P.underlying sT=some (.slice e):=by
      grind
     have⟨uT,h1,hu⟩:∃uT,g[1]?=some uT/\(P.underlying uT=some .string\/∃e',P.underlying uT=some (.slice e')):=by
      grind[Ns]
     have F:=yf (P:=P) (w:=w) hx hn
     have⟨new',hnrun,hnrel⟩:=uy A hx W
     have hnl':=hnrel.length
     have hid:pK P B ρ h w.drew:=A.X1 rfl
     split at f
     .split at f
      .split at f
       .cases f;simp[aZ] at O;refine⟨ρ,w,.slice none d X,mU.refl A,EZ,?_⟩;grind[uN]
       .cases f
      .rename_i a;obtain⟨U,ao,S⟩:=a;split at f
       .rename_i τ;cases f;subst τ;have:new'=[]:=ES;subst this;have J:=O;cases S with
        |none=>
         obtain⟨b,sp,c',I,γ,M,rfl⟩:=O
         refine⟨ρ,w,_,mU.refl A,J,?_⟩
         rw[uN h0 hd hinf h1 hu F ER hnrun]
         simp[storeCells]
        |some _=>
         obtain⟨rfl,rfl,a',c',_,_,rfl⟩:=O
         refine⟨ρ,w,_,mU.refl A,J,?_⟩
         simp_all[uN,storeCells]
       .split at f
        .cases f
        .obtain rfl:S=none:=FY
         obtain⟨b,sp,c',I,γ,M,rfl⟩:=O
         have r:=uN (ty:=ty) (base':=some ⟨b,ao+sp.2,none⟩) (sLen:=d) (c':=c') h0 hd hinf h1 hu F ER hnrun
         simp[dZ] at r
         simp only[aV] at f
         obtain⟨h2,κ,f⟩:=f
         cases f
         rw[dZ] at κ
         have⟨L,C,t,_⟩:=Fj A I κ hnrel
         refine⟨ρ,L,.slice (some ⟨b,ao+sp.2,none⟩) (d+n) c',t,?_,?_⟩
         .grind[aZ]
         .rw[r];rw[show ao+d*P.cellsOf e+sp.2=ao+sp.2+d*P.cellsOf e by omega] at C;rw[C];rfl
     .rename_i ε;split at f
      .rename_i hbig;have grown:∀(p:EN) (c':Nat) (y q:EK) (ρ0:jB) (T:AH),¬d+n<=c'->bH ρ y q->y.length=d*P.cellsOf e->
         (Builtin.firstCells (P.cellsOf e) d<|.slice p d c').run P w.drew= .ok ⟨q⟩ w.drew->mU P B ρ h w ρ T w->T.next=h.next->
         ∃ρ' L Y,mU P B ρ h w ρ' (T.alloc<|.cells (y++new) e (0,0) false) L/\aZ ρ' (.slice (some ⟨h.next,0,none⟩) (d+n)<|d+n) Y/\(Builtin.append_ g ty #[.slice p d c',x']).run P w= .ok Y L:=by
        intro p c' y q ρ0 T ζ hold hol φ t υ
        have⟨new2,hnrun2,hnrel2⟩:=uy hid hx W
        have r:=aa (ty:=ty) h0 hd hinf hzero ν h1 hu F ζ ES φ hnrun2
        have hcap:=grownCap_ge w (d+n) c' e
        have hol':=hold.length
        have hn2:=hnrel2.length
        refine⟨_,_,_,t.trans<|As (s:=(grownCap w (d+n) c' e - (d+n),0)) t.inv (w':=w.drew.alloc _) ⟨_,rfl,?_,?_,ES⟩ rfl rfl rfl rfl,?_,r⟩
        .have e1:(y++new).length=(q++new2).length:=by simp[bj];omega
         simp only[CC,kt]
         rw[e1,xa<|ba _,AG]
         exact bH.mono (A6.tC<|t.inv.gO _<|ba _) _ _<|hold.append hnrel2
        .grind[Array.size_append,size_zeroCells,List.size_toArray,List.length_append]
        .rw[υ];exact⟨_,_,_,bV,ER,ES,rfl⟩
       have tail:∀{U ao b c':Nat} {sp:Nat×Nat} {c:EK} {xx:Bool},h.base<=U->h.get U=some (.cells c e (0,0) xx)->ρ U=some (b,sp)->d+n<=c'->ao+d*P.cellsOf e<=c.length->ao+c'*P.cellsOf e<=c.length+sp.1*P.cellsOf e->
         ∃ρ' L Y,mU P B ρ h w ρ' ((h.set U none).alloc<|.cells ((c.drop ao).take (d*P.cellsOf e)++new) e (0,0) false) L/\aZ ρ' (.slice (some ⟨h.next,0,none⟩) (d+n)<|d+n) Y/\(Builtin.append_ g ty #[.slice (some ⟨b,ao+sp.2,none⟩) d c',x']).run P w= .ok Y L:=by
        intro U ao b c' sp c xx l Q I m hl ψ
        obtain⟨ob,η,cc,rfl,δ,ω,μ⟩:=A.oP _ _ Q b sp I
        have ο:(d+n)*P.cellsOf e<=c'*P.cellsOf e:=p9 _ m
        rw[BV] at ο
        have θ:∀v∈new',v.oneCell'=true:=by
         intro v hv';have⟨j,hj⟩:=List.getElem?_of_mem hv';have σ:j<new.length:=by
          have:=(eh.1 hj).1;omega
         have⟨u,hu',hru⟩:=hnrel.get<|aL σ;rw[hj] at hu';cases hu';exact hru.rm ES
        obtain⟨L,C,Z,χ,ι,β⟩:=xU (P:=P) rfl new' w cc (ao+sp.2+d*P.cellsOf e) 0 η θ ER
        have r:=uN (ty:=ty) (base':=some ⟨b,ao+sp.2,none⟩) h0 hd hinf h1 hu F m hnrun
        simp[dZ] at r
        have hb3:(c' - (d+n))*P.cellsOf e=c'*P.cellsOf e - (d*P.cellsOf e+n*P.cellsOf e):=by rw[Nat.sub_mul,BV]
        refine⟨_,L,.slice (some ⟨b,ao+sp.2,none⟩) (d+n) c',aF6 A l Q I (s':=(c' - (d+n),ao+sp.2)) ⟨_,rfl,?_,?_,ES⟩ Z χ ι β,?_,?_⟩
        .apply bH.mono (A6.tC<|A.gO _<|ba _) _ _;have ht:((dK cc.toList (ao+sp.2+d*P.cellsOf e+0) new').drop<|ao+sp.2).take ((c.drop ao).take (d*P.cellsOf e)++new).length=(cc.toList.drop<|ao+sp.2).take (d*P.cellsOf e)++new':=by
          rw[dK];have e1:((c.drop ao).take (d*P.cellsOf e)++new).length=((cc.toList.drop<|ao+sp.2).take (d*P.cellsOf e)++new').length:=by
           simp[bj,ll,q5,CB];omega
          rw[e1];simp only[AI];rw[dx,BI EW,CL,show ao+sp.2+d*P.cellsOf e - (ao+sp.2)=d*P.cellsOf e by omega,<-dx];rw[xa<|ba _,AG]
         rw[ht]
         refine bH.append ?_ hnrel
         have:=(δ.drop ao).take<|d*P.cellsOf e
         grind[List.drop_take,List.drop_drop,Nat.min_eq_left,Nat.add_comm]
        .grind[dK,List.length_append,List.length_take,List.length_drop,Array.length_toList]
        .exact⟨b,_,c',bV,m,ES,EV⟩
        simp_all
       split at f
       .split at f
        .rename_i J;subst J;simp[aZ] at O;have:=grown none X [] [] ρ h ε bH.nil EV (by simp[Builtin.firstCells]) (mU.refl A) rfl;grind
        .cases f
       .rename_i a;obtain⟨U,ao,S⟩:=a;split at f
        .rename_i α;subst α;split at f
         .rename_i J;subst J;obtain⟨_,rfl,a',c',hc0,_,rfl⟩:=O;have:=grown (some a') 0 [] [] ρ h ε bH.nil EV FG (mU.refl A) rfl;grind
         .cases f
        .split at f
         .rename_i α;subst α;split at f
          .rename_i c e' fz xx Q;split at f
           .rename_i hc;obtain⟨rfl,l,rfl,ξ,rfl,rfl⟩:=hc;simp only at ξ l;obtain⟨rfl,rfl⟩:=f;simp only[aZ] at O;obtain⟨_,_,a',c',_,M,rfl⟩:=O;have⟨b,sp,I,hsp1,hpos⟩:=M trivial;by_cases m:0+n<=c'
            .obtain rfl:=hpos ER;simpa using(tail (ao:=ao) l Q I m ER<|by have:=p9 (P.cellsOf e') hsp1;omega)
            .have:=grown (some a') c' [] [] ρ _ m bH.nil EV FG (Yh A l Q I) EV;grind
           .cases f
          .cases f
         .split at f
          .rename_i y c e' fz xx hold Q;split at f
           .cases f
           .obtain rfl:S=none:=by
             simp_all[dE,none,some]
            obtain⟨b,sp,c',I,γ,M,rfl⟩:=O
            have⟨q,horun,horel,_,holen⟩:=zQ hid I hold
            have G:=horun
            obtain⟨ob,η,cc,rfl,δ,ω,μ⟩:=A.oP _ _ Q b sp I
            split at f
            .rename_i hxx;obtain⟨rfl,rfl⟩:=f;have hsp0:=(μ hxx).1;exact grown _ c' y q ρ h ER horel holen G (mU.refl A) rfl
            .split at f
             .rename_i hc;obtain⟨rfl,l,rfl,π⟩:=hc;simp only at π l;obtain⟨rfl,rfl⟩:=f;by_cases m:d+n<=c'
              .simp only[dE,dd,aO,c9,Q] at hold;split at hold
               .cases hold;exact tail l Q I m ER (by have:=p9 (P.cellsOf e') M;rw[BV] at this;omega)
               .cases hold
              .exact grown _ c' y q ρ (h.set U none) m horel holen G (Yh A l Q I) EV
             .cases f
          .cases f
      .cases f
   .cases f
  .cases f
 .cases f
def aF8 (c:pK P B ρ h w):mU P B ρ h w ρ h w.drew:=
 {mU.refl c with inv:=c.X1 rfl}
variable {b:Builtin}
theorem S7 (y:pK P B ρ h w) {d:Array TypeId} {consts:Array Bool} {args f:EK} (hb:b= .len\/b= .min) (r:bH ρ args f) (g:gW P h b d args=some (v,h')):
  h'=h/\∃m,aZ ρ v m/\(builtin b d ty consts ⟨f⟩).run P w= .ok (.value m) w:=by
 unfold gW at g
 split at g
 .obtain⟨p,t,j,rfl,rfl⟩:=r;have l:∀(t:TypeId) (n:Nat),d[0]?=some t->(Builtin.len_ d ty #[p]).run P w= .ok (goInt n) w->h=h/\∃m,aZ ρ (.int .i64 n) m/\(builtin .len d ty consts ⟨[p]⟩).run P w= .ok _ w:=
   fun t n _ u=>⟨rfl,.int .i64 n,EZ,by
    show(do pure (Next.value<|<-Builtin.len_ d ty #[p]):Sem Next).run P w=_;simp only[cr,u,aW];rfl⟩
  cases h0:d[0]? with
  |none=>grind
  |some t=>
   rw[h0] at g
   split at g
   .rename_i s q;obtain⟨rfl,rfl⟩:=g;subst j;exact l t _ h0 (by simp[Builtin.len_,h0,bb q])
   .obtain⟨rfl,rfl⟩:=g;simp_all[Builtin.len_,bb]
   .rename_i e a n c q;obtain⟨rfl,rfl⟩:=g;cases a with
    |none=>simp[aZ] at j;simp_all[Builtin.len_,bb]
    |some a=>
     obtain⟨_,_,sp⟩:=a
     cases sp with
     |none=>obtain⟨_,_,_,_,_,_,rfl⟩:=j;simp_all[Builtin.len_,bb]
     |some _=>obtain⟨rfl,_,_,_,_,_,rfl⟩:=j;exact l t _ h0 (by simp[Builtin.len_,h0,bb q])
   .grind[Option.map_eq_some_iff,od]
   .cases g
 .grind
 .grind
 .grind
 .grind
 .obtain⟨p,_,j,⟨z,_,x,rfl,rfl⟩,rfl⟩:=r;subst j x;obtain⟨rfl,rfl⟩:=g;exact⟨rfl,_,by simp only[aZ];rfl,by simp[builtin,Builtin.min_,Builtin.min2]⟩
 .cases g
theorem Sc (y:pK P B ρ h w) {d:Array TypeId} {consts:Array Bool} {args:EK} (x:bH ρ args j) (f:gW P h b d args=some (v,h')):
  ∃ρ' g l,mU P B ρ h w ρ' h' g/\aZ ρ' v l/\(builtin b d ty consts ⟨j⟩).run P w= .ok (.value l) g:=by
 have I:=f
 have lit:b= .len\/b= .min->∃ρ' g l,mU P B ρ h w ρ' h' g/\aZ ρ' v l/\(builtin b d ty consts ⟨j⟩).run P w= .ok (.value l) g:=fun O=>by
  obtain⟨rfl,l,M,A⟩:=S7 (ty:=ty) (consts:=consts) y O x I;grind[mU.refl]
 unfold gW at f
 split at f
 .grind
 .obtain⟨W,_,T,⟨r,_,p,rfl,rfl⟩,rfl⟩:=x;have⟨ρ',g,l,M,A,h3⟩:=Ww y (ty:=ty) T p f;refine⟨ρ',g,l,M,A,?_⟩;show(do pure (Next.value<|<-Builtin.append_ d ty #[W,r]):Sem Next).run P w=_;simp_all
 .obtain⟨r,t,p,rfl,rfl⟩:=x;have J:∀(g:World) (h':AH),mU P B ρ h w ρ h' g->(Builtin.clear_ d ty #[r]).run P w= .ok (.tuple #[]) g->∃ρ' g l,mU P B ρ h w ρ' h' g/\aZ ρ' _ l/\(builtin .clear d ty consts ⟨[r]⟩).run P w= .ok (.value l) g:=
   fun g h' C F=>⟨ρ,g,.tuple #[],C,fU _<|by simp[gR,Dv,qD],by
    show(do pure (Next.value<|<-Builtin.clear_ d ty #[r]):Sem Next).run P w=_;simp_all⟩
  cases m:d[0]? with
  |none=>grind
  |some t=>
   rw[m] at f
   split at f
   .simp[aZ] at p;simp_all[mU.refl,Builtin.clear_,bb]
   .rename_i e a n c q;obtain⟨X,Y,u⟩:=a;split at f
    .cases u with
     |none=>
      obtain⟨_,_,L,_,_,_,rfl⟩:=p
      simp_all[mU.refl,Builtin.clear_,bb]
     |some _=>
      obtain⟨_,_,_,L,_,_,rfl⟩:=p
      simp_all[mU.refl,Builtin.clear_,bb]
    .split at f
     .rename_i z U;simp only[aV] at f;obtain⟨A,G,f⟩:=f;cases f;have⟨i,zv,hinf,hzero,hzr,hzc,hzl,hzz⟩:=uS (w:=w) U;cases u with
      |none=>
       obtain⟨b,sp,L,F,_,_,rfl⟩:=p
       have⟨g,hrun2,hevo,_⟩:=Fj y F G<|Ba (hzz ρ) n
       apply J g _ hevo
       have N:=xS GN hzl n
       simp only[Builtin.clear_,m,BR,r5,cr,bb q,aW]
       simp_all
      |some _=>grind[fL]
     .cases f
   .cases f
 .obtain⟨m',_,S,⟨Z,_,Q,rfl,rfl⟩,rfl⟩:=x;split at f
  .rename_i t m;simp only[aV] at f;obtain⟨A,q,f⟩:=f;cases f;have⟨g,F,C⟩:=nv (ty:=ty) y m S Q q;refine⟨ρ,g,_,C,fU _<|by simp[gR,Dv,qD],?_⟩;show(do pure (Next.value<|<-Builtin.delete_ d ty _):Sem Next).run P w=_;simp_all
  .cases f
 .obtain⟨r,t,p,rfl,rfl⟩:=x;split at f
  .rename_i q;obtain⟨rfl,rfl⟩:=f;subst p;cases m:d[0]? with
   |none=>simp[m] at q
   |some t=>
    rw[m] at q
    refine⟨ρ,w,_,mU.refl y,by simp only[aZ];rfl,?_⟩
    show(do pure (Next.value<|<-Builtin.cap_ d ty #[_]):Sem Next).run P w=_
    simp[Builtin.cap_,m,bb q]
    rfl
  .cases f
 .grind
 .cases f
end Go.Ab
namespace Go.Ab
noncomputable section
inductive Ck where
 |nI|ret|exit (id:Nat)
structure vW where
 jI:Ck
 ds:EM
 env:EK
 v:Value
inductive aBg where
 |todo (fn:FuncId) (ro:Option Nat) (ds:EM) (env:EK) (k:List Item)
 |ops (all:Array Oper) (rest:List Oper) (env:EK)
 |call (f:FuncId) (args:EK)
 |round (l:Nat) (args:EK)
def eC (P:Program) (env:EK):Operand->Value
 |.tmp t=>env.getD t undef
 |.const v=>if gR v then v else Yb
 |.global g=>if g<P.globals.size then .pointer (some ⟨g,0,none⟩) else Yb
 |.func f=> .func (.func f) #[] #[]
def pD (env:EK) (d:Option Tmp) (v:Value):EK:=
 match d with
 |some d=>env.set d v
 |none=>env
def eY (all:Array Oper) (env:EK) (o:Oper):Option Bool:=
 match o.guard with
 |none=>some true
 |some (j,gM)=>
  match((all[j]?).bind (·.dst)).bind (env[·]?) with
  |some (.bool b)=>some (b==gM)
  |some (.chan _)=>none
  |_=>some false
def iR (P:Program) (g:FuncId):Bool:=
 match P.funcs[g]? with
 |some c=>c.body.isSome&& !(c.name== "runtime.NumGoroutine")
 |none=>false
abbrev mE:=aBg->AH->Option (vW×AH)
def qW:Builtin->Bool
 |.len|.min=>true
 |_=>false
def kO (op:Op):Bool:=
 match op with
 |.call c=>(match c.callee with|.builtin b=>qW b|_=>false)
 |op=>eM op== .Cr
def fT (P:Program) (d:Operand->Value) (h:AH) (op:Op):EO:=
 match op with
 |.call c=>(match c.callee with|.builtin b=>if qW b then(gW P h b c.argTypes<|c.args.toList.map d).map (·.1) else none|_=>none)
 |op=>dA P d h op
def eX (P:Program) (R:mE) (e:Operand->Value) (h:AH) (op:Op):Option (Value×AH):=
 match op with
 |.store t a x=>match e a with
  |.pointer (some a)=>(Qw P h t a<|e x).map fun j=>(undef,j)
  |_=>none
 |.mapUpdate t m k x=>(Fh P h t (e m) (e k)<|e x).map fun j=>(undef,j)
 |.call c=>
  match c.callee with
  |.builtin b=>gW P h b c.argTypes (c.args.toList.map e)
  |.value f=>match e f with
   |.func (.func g) first d=>
    if iR P g then(R (.call g<|first.toList++c.args.toList.map e++d.toList) h).map fun r=>(r.1.v,r.2) else none
   |.func (.yield l) first _=>(R (.round l<|first.toList++c.args.toList.map e) h).map fun r=>(r.1.v,r.2)
   |_=>none
  |.invoke _ _=>none
 |_=>none
def oV (P:Program) (R:mE) (env:EK) (h:AH) (op:Op):Option (Value×AH):=
 match eM op with
 |.Cr=>(dA P (eC P env) h op).map fun v=>(v,h)
 |.alloc=>(iT P (eC P env) op).map fun r=>(r.2 h.next,h.alloc r.1)
 |.store|.call=>eX P R (eC P env) h op
 |.Et=>none
def gI (o:Oper):EM:=(o.after.toList.filter fun e=>Region.binds .any e).map (·.on)
def zU (acc:EM):EM->Nat
 |[]=>0
 |j::l=>(1<<<j)|||(acc.getD j 0|||zU acc l)
def gN:List Oper->EM->EM
 |[],acc=>acc
 |o::c,acc=>gN c<|acc++[zU acc<|gI o]
def Hh (ops:List Oper) (o:Oper):EM:=
 (o.op.operands.toList.filterMap fun|.tmp t=>some t|_=>none)++
 (match o.guard with|some (j,_)=>((ops[j]?).bind (·.dst)).toList|none=>[])
def eD (op:Op):Bool:=(eM op== .store||eM op== .call)&& !kO op
def mS (ps:EM) (i j:Nat):Bool:=(ps.getD j 0).testBit i
def Ol (ops:List Oper):Bool:=
 let c:=gN ops []
 let n:=ops.length
 let is:=List.range n
 (ops.zipIdx.all fun(o,i)=>(gI o).all (·<i))&&
 (ops.all fun o=>match o.op with|.select _ _=>false|.defer _=>false|_=>eM o.op != .Et)&&
 (ops.zipIdx.all fun(o,i)=>ops.zipIdx.all fun(p,j)=>i==j||(
  (o.dst.isNone||o.dst !=p.dst)&&
  (match p.dst with|some d=> !(Hh ops o).contains d||(if j<i then mS c j i else mS c i j)|none=>true)&&
  (!(eD o.op&&eD p.op&&j<i)||mS c j i)))&&is.length==n
def K2 (ops:List Oper):List (Nat×Nat):=
 let d:=gN ops []
 let n:=ops.length
 let Ay:=(List.range n).filter fun i=>(ops[i]?).any fun o=>eD o.op
 let c:=Ay++[n]
 (List.range n).flatMap fun i=>
  if(ops[i]?).any (fun o=>kO o.op) then
   let oA:=(c.find? (i<·)).getD n
   (c.filter fun p=>p !=oA&&Ay.all fun j=>if j<p then !mS d i j else !mS d j i).map fun p=>(i,p)
  else []
mutual
def rZ:Value->Value->Bool
 |.bool a,.bool b=>a==b
 |.int j a,.int k b=>j==k&&a==b
 |.string a,.string b=>a==b
 |.pointer a,.pointer b=>a==b
 |.slice a l c,.slice b m d=>a==b&&l==m&&c==d
 |.map a,.map b=>a==b
 |.nilFunc,.nilFunc=>true
 |.nilIface,.nilIface=>true
 |.func f a b,.func g c d=>f==g&&aAp a c&&aAp b d
 |.iface t v,.iface u w=>t==u&&rZ v w
 |.agg a,.agg b=>aAp a b
 |.tuple a,.tuple b=>aAp a b
 |_,_=>false
def aAp:EP->EP->Bool
 |⟨a⟩,b=>Po a b.toList
def Po:EK->EK->Bool
 |[],[]=>true
 |a::l,b::m=>rZ a b&&Po l m
 |_,_=>false
end
def gX (P:Program) (R:mE) (all:List Oper) (r0 i:Nat) (env:EK) (h:AH) (o:Oper):Option (Value×AH):=
 match eY ⟨all⟩ env o with
 |none=>none
 |some false=>some (undef,h)
 |some true=>
  if kO o.op then(fT P (eC P env) h o.op).map fun v=>(v,h)
  else if eM o.op== .alloc then(iT P (eC P env) o.op).map fun r=>(r.2<|r0+i,h.set (r0+i)<|some r.1)
  else eX P R (eC P env) h o.op
structure Rec where
 env:EK
 h:AH
 v:Value
def jV (P:Program) (R:mE) (all:List Oper) (r0:Nat):Nat->List Oper->EK->AH->Option (List Rec×EK×AH)
 |_,[],c,h=>some ([],c,h)
 |i,o::f,c,h=>
  match gX P R all r0 i c h o with
  |some (v,d)=>match jV P R all r0 (i+1) f (pD c o.dst v) d with
   |some (g,e)=>some (⟨c,h,v⟩::g,e)
   |none=>none
  |none=>none
def wJ (P:Program) (all:List Oper) (rs:List Rec) (hEnd:AH) (x:Nat×Nat):Bool:=
 match all[x.1]?,rs[x.1]? with
 |some o,some r=>
  match eY ⟨all⟩ r.env o with
  |some true=>(match fT P (eC P r.env) (match rs[x.2]? with|some q=>q.h|none=>hEnd) o.op with|some v=>rZ v r.v|none=>false)
  |_=>true
 |_,_=>false
def uH (P:Program) (R:mE) (ops:Array Oper) (env:EK) (h:AH):Option (EK×AH):=
 if Ol ops.toList&&(P.follows .mixedOrders|| !Region.departs ops) then
  match jV P R ops.toList h.next 0 ops.toList env {h with next:=h.next+ops.size} with
  |some (e,c,d)=>if(K2 ops.toList).all (wJ P ops.toList e d) then some (c,d) else none
  |none=>none
 else none
def cQ:EM->AH->IB
 |[],h=>some h
 |d::c,h=>if h.base<=d then(match h.get d with|some (.vA true)=>cQ c (h.set d<|some<|.vA false)|_=>none) else none
def gZ (P:Program) (h:AH) (env:EK):List ResultVar->HT
 |[]=>some []
 |.tmp t::c=>(gZ P h env c).map fun l=>env.getD t undef::l
 |.cell a t::c=>match env.getD a undef with
  |.pointer (some a)=>match xW P h t a,gZ P h env c with
   |some v,some l=>some (v::l)
   |_,_=>none
  |_=>none
def A4 (vs:EK):Value:=
 match vs with
 |[v]=>v
 |vs=> .tuple ⟨vs⟩
def dD (h:AH) (l:Nat) (st:LoopState) (pending:Option (Option Code)):IB:=
 match h.get l with
 |some (.loop _ p e tmps f assign c d)=>if h.base<=l then some (h.set l<|some<|.loop st (pending.getD p) e tmps f assign c d) else none
 |_=>none
def fF (P:Program) (R:mE) (n:FuncId) (m:Option Nat) (j:EM) (env:EK) (k:List Item) (h:AH):Option (vW×AH):=
 match k with
 |[]=>some (⟨.nI,j,env,undef⟩,h)
 |.code c::k=>
  match c with
  |.skip=>R (.todo n m j env k) h
  |.label _=>R (.todo n m j env k) h
  |.seq a b=>R (.todo n m j env (.code a:: .code b::k)) h
  |.cond c t e=>match eC P env c with
   |.bool b=>R (.todo n m j env (.code (if b then t else e)::k)) h
   |_=>none
  |.block id b=>R (.todo n m j env (.code b:: .inBlock id::k)) h
  |.loop b=>R (.todo n m j env (.code b:: .inLoop b::k)) h
  |.scope b=>R (.todo n m j env (.code b:: .inScope b::k)) h
  |.exit id=>match exitTo id k with
   |some C=>R (.todo n m j env C) h
   |none=>if m.isSome then some (⟨.exit id,j,env,undef⟩,h) else none
  |.ret=>some (⟨.ret,j,env,undef⟩,h)
  |.region _ ops false=>match R (.ops ops ops.toList env) h with
   |some (o,v)=>R (.todo n m j o.env k) v
   |none=>none
  |.region _ ops true=>match uH P R ops env h with
   |some (u,v)=>R (.todo n m j u k) v
   |none=>none
  |.rangeFunc f F assign r=>
   match(match m with
    |none=>some (h.next,h.alloc<|.vA true,h.next::j)
    |some l=>match h.get l with
     |some (.loop _ _ _ _ _ _ _ d)=>some (d,h,j)
     |_=>none) with
   |some (d,x,y)=>
    match eC P env f with
    |.func (.func g) first q=>
     if iR P g then
      match R (.call g<|first.toList++[.func (.yield x.next) #[] #[]]++q.toList) (x.alloc<|.loop .ready none n env F assign r d) with
      |some (_,z)=>
       match z.get x.next with
       |some (.loop st p _ _ _ _ _ _)=>
        if st= .busy then none else
        match dD z x.next .exhausted none with
        |some A=>R (.todo n m y env<|(p.map Item.code).toList++k) A
        |none=>none
       |_=>none
      |none=>none
     else none
    |_=>none
   |none=>none
  |_=>none
 |.inBlock _::k=>R (.todo n m j env k) h
 |.inScope _::k=>R (.todo n m j env k) h
 |.inLoop b::k=>R (.todo n m j env (.code b:: .inLoop b::k)) h
 |.beginRound::k=>
  match m with
  |some l=>match h.get l with
   |some (.loop .ready _ _ _ _ _ _ _)=>match dD h l .busy none with
    |some v=>R (.todo n m j env k) v
    |none=>none
   |_=>none
  |none=>none
 |_=>none
def vN (P:Program) (R:mE) (all:Array Oper) (rest:List Oper) (env:EK) (h:AH):Option (vW×AH):=
 match rest with
 |[]=>some (⟨.nI,[],env,undef⟩,h)
 |o::rest=>
  match eY all env o with
  |none=>none
  |some false=>R (.ops all rest<|pD env o.dst undef) h
  |some true=>match oV P R env h o.op with
   |some (v,c)=>R (.ops all rest<|pD env o.dst v) c
   |none=>none
inductive lB where
 |val (v:Value)
 |fwd (g:FuncId) (args:EK)
 |Aa (F:AH->Option (Value×AH))
abbrev HQ:=Option lB
def Pe:Value->Bool
 |.tuple ⟨[.int .i64 _,.bool _]⟩=>true
 |_=>false
def oK (P:Program) (K:FuncId->EK->HQ) (R:mE) (f:FuncId) (args:EK) (h:AH):Option (vW×AH):=
 match K f args with
 |some (.val v)=>some (⟨.nI,[],[],v⟩,h)
 |some (.fwd g l)=>match R (.call g l) h with
  |some (o,e)=>if Pe o.v then some (⟨.nI,[],[],o.v⟩,e) else none
  |none=>none
 |some (.Aa F)=>(F h).map fun r=>(⟨.nI,[],[],r.1⟩,r.2)
 |none=>
  match P.funcs[f]? with
  |some d=>
   match d.body with
   |some c=>
    match R (.todo f none [] (args++List.replicate (d.ntmps - args.length) undef) [.code c]) h with
    |some (o,e)=>
     match o.jI with
     |.exit _=>none
     |_=>match cQ o.ds e with
      |some j=>(gZ P j o.env d.results.toList).map fun m=>(⟨.nI,[],[],A4 m⟩,j)
      |none=>none
    |none=>none
   |none=>none
  |none=>none
def qM (R:mE) (l:Nat) (args:EK) (h:AH):Option (vW×AH):=
 match h.get l with
 |some (.loop _ _ g tmps f assign c _)=>
  if args.length=f.size then
   match R (.todo g (some l) [] ((f.toList.zip args).foldl (fun t (p,v)=>t.set p v) tmps) [.code assign,.beginRound,.code c]) h with
   |some (o,e)=>
    if o.ds.isEmpty then
     match o.jI with
     |.nI=>(dD e l .ready<|some none).map fun d=>(⟨.nI,[],[],.bool true⟩,d)
     |.ret=>(dD e l .done<|some<|some .ret).map fun d=>(⟨.nI,[],[],.bool false⟩,d)
     |.exit id=>(dD e l .done<|some<|some<|.exit id).map fun d=>(⟨.nI,[],[],.bool false⟩,d)
    else none
   |none=>none
  else none
 |_=>none
def run (P:Program) (K:FuncId->EK->HQ):Nat->mE
 |0,_,_=>none
 |n+1,.todo g j e d k,h=>fF P (fun t h=>run P K n t h) g j e d k h
 |n+1,.ops all rest d,h=>vN P (fun t h=>run P K n t h) all rest d h
 |n+1,.call f c,h=>oK P K (fun t h=>run P K n t h) f c h
 |n+1,.round l c,h=>qM (fun t h=>run P K n t h) l c h
end
end Go.Ab
variable {f:FuncId} {env:EK} {o:Oper} {is:EM} {ρ':jB} {Y:Operand->Value} {op:Op}
namespace Go.Ab
open Go.RowKit
variable {h:AH}
theorem E5 (e:pK P B ρ h w) {a:Act} (c:bH ρ env a.tmps.toList) (x:Operand):aZ ρ (eC P env x) (a.eval x):=by
 cases x with
 |tmp t=>
  have:=c.getD t;simp_all[eC,Act.eval,ay]
 |const v=>
  grind[eC,Act.eval,fU,Yb,aZ]
 |global g=>
  simp[eC,Act.eval];split;rename_i d;exact⟨g,_,e.pO g d,rfl⟩;simp[Yb,aZ]
 |func f=>
  grind[eC,Act.eval,aZ,Mx,qN,bH.nil]
def Zv {a:Act} {e:Value} (d:Option Tmp) (c:bH ρ env a.tmps.toList) (f:aZ ρ v e):bH ρ (pD env d v) (a.put d e).tmps.toList:=by
 cases d with
 |none=>exact c
 |some d=>simpa [pD,Act.put] using c.set d f
def rH {a:Act} {d:Option Tmp}:(a.put d v).defers=a.defers:=by cases d<;>rfl
def Af:aZ ρ undef undef:=fU undef (by simp[undef,gR,Dv,qD])
theorem uB {all:Array Oper} {a:Act} {t:Bool} (g:bH ρ env a.tmps.toList) (e:eY all env o=some t):Region.wanted o (yielded all a.tmps)=t:=by
 rw[eY] at e;unfold Region.wanted yielded;split at e;grind;rename_i j gM l;rw[l];cases hd:(all[j]?).bind (·.dst) with
 |none=>grind
 |some d=>
  rw[hd] at e;simp[AT] at e ⊢;cases hv:env[d]? with
  |none=>
   have:=g.gm hv;grind
  |some v=>
   have⟨v',hv',hr⟩:=g.get hv;rw[hv] at e;cases v with
   |bool b=>simp_all[aZ]
   |chan r=>simp at e
   |agg cs=>grind[aZ]
   |tuple cs=>grind[aZ]
   |iface u x=>grind[aZ]
   |func m f c=>grind[aZ]
   |pointer p=>cases p with
    |none=>grind[aZ]
    |some p=>grind[aZ]
   |map p=>cases p with
    |none=>grind[aZ]
    |some p=>grind[aZ]
   |slice p _ _=>cases p with
    |none=>grind[aZ]
    |some p=>
     obtain⟨_,_,sp⟩:=p
     cases sp with
     |none=>grind[aZ]
     |some _=>grind[aZ]
   |_=>grind[aZ]
variable {b:Frame} {k:List Item} {cs:List Frame}
section steps
variable {a:Act} {all:Array Oper}
def T4 (d:all[i]?=some o) (g:Region.wanted o (yielded all a.tmps)=true) (e:∀c,o.op≠.defer c) (f:(execOp a.eval o).run P w= .ok (.value v) w'):
  step P (lone (b.atR a (.inRegion all (i::is)::k)) cs w)= .next (lone (b.atR (a.put o.dst v) (.inRegion all is::k)) cs w'):=by
 apply BY
 rw[stepGR_op d g,DU _ _ _ e]
 simp[stepG.apply,DO,f,BZ,CQ,d]
def aMw (d:all[i]?=some o) (g:Region.wanted o (yielded all a.tmps)=true) (e:∀c,o.op≠.defer c) (f:(execOp a.eval o).run P w= .ok .skip w'):
  step P (lone (b.atR a (.inRegion all (i::is)::k)) cs w)= .next (lone (b.atR (a.put o.dst undef) (.inRegion all is::k)) cs w'):=by
 apply BY
 rw[stepGR_op d g,DU _ _ _ e]
 simp[stepG.apply,DO,f,BZ,CQ,d]
def aS8 (e:all[i]?=some o) (j:Region.wanted o (yielded all a.tmps)=true) (d:∀c,o.op≠.defer c) {args:EP} (g:(execOp a.eval o).run P w= .ok (.enter f args) w'):
  step P (lone (b.atR a (.inRegion all (i::is)::k)) cs w)= .next (lone (Frame.enter P f args .normal) (b.atR a (.inRegion all (i::is)::k)::cs) w'):=by
 apply BY
 rw[stepGR_op e j,DU _ _ _ d]
 simp[stepG.apply,DO,g,BZ,Frame.atR]
def aQ8 (e:all[i]?=some o) (j:Region.wanted o (yielded all a.tmps)=true) (d:∀c,o.op≠.defer c) {l:Nat} {tmps:EP} {as bd:Code} (g:(execOp a.eval o).run P w= .ok (.round l f tmps as bd) w'):
  step P (lone (b.atR a (.inRegion all (i::is)::k)) cs w)= .next (lone (Frame.round l f tmps as bd .normal) (b.atR a (.inRegion all (i::is)::k)::cs) w'):=by
 apply BY
 rw[stepGR_op e j,DU _ _ _ d]
 simp[stepG.apply,DO,g,BZ,Frame.atR]
end steps
def Tz (ρ:jB):Option Nat->Option Nat->Prop
 |none,r=>r=none
 |some l,r=>∃b s,ρ l=some (b,s)/\r=some b
def Vf (ρ:jB):EM->List Deferred->Prop
 |[],c=>c=[]
 |d::l,c=>∃b s t,ρ d=some (b,s)/\Vf ρ l t/\c={target:= .collected b,args:= #[]}::t
theorem Tz.mono (h:A6 ρ ρ') {r r':Option Nat} (k:Tz ρ r r'):Tz ρ' r r':=by
 cases r with
 |none=>exact k
 |some l=>obtain⟨b,s,c,d⟩:=k;exact⟨b,s,h _ _ c,d⟩
theorem Vf.mono {ρ ρ':jB} (h:A6 ρ ρ'):∀{l:EM} {c:List Deferred},Vf ρ l c->Vf ρ' l c
 |[],_,k=>k
 |_::_,_,⟨b,s,t,d,e,f⟩=>⟨b,s,t,h _ _ d,Vf.mono h e,f⟩
def aO3:Ck->List Item->Prop
 |.nI,k=>k=[]
 |.ret,k=>∃c,k= .code .ret::c
 |.exit id,k=>∃c,k= .code (.exit id)::c/\exitTo id c=none
def tg (all:Array Oper):EM->List Oper->Prop
 |[],[]=>True
 |i::is,o::c=>all[i]?=some o/\tg all is c
 |_,_=>False
structure aOg (a b:Nat) (w w':World):Prop where
 On:∀i,i<w.heap.size->(i<a\/b<=i)->w'.heap[i]?=w.heap[i]?
 size:w.heap.size<=w'.heap.size
 os:w'.os=w.os
 out:w'.output=w.output
 tape:w'.tape=w.tape
structure aHn (a:Nat) (w w':World):Prop where
 On:∀i,a<=i->i<w.heap.size->w'.heap[i]?=w.heap[i]?
 size:w.heap.size<=w'.heap.size
 os:w'.os=w.os
 out:w'.output=w.output
 tape:w'.tape=w.tape
structure Lc (P:Program) (B:Nat) (K:FuncId->EK->HQ) where
 G:World->Prop
 On:∀w w',Below B w w'->G w->G w'
 call:∀f args v w,K f args=some (.val v)->G w->qD args=true/\Calls P f ⟨args⟩ w fun e w'=>(∃v',e= .returned v'/\∀ρ,aZ ρ v v')/\Below w.heap.size w w'
 fwd:∀f args g bs,K f args=some (.fwd g bs)->∀(ρ:jB) (args':EK) (w:World),bH ρ args args'->G w->
  ∃(bs':EK) (w1:World),bH ρ bs bs'/\Below w.heap.size w w1/\∀(v:Value) (S:World->Prop),Pe v=true->
   Calls P g ⟨bs'⟩ w1 (fun e w'=>e= .returned v/\aHn w.heap.size w1 w'/\S w')->
    Calls P f ⟨args'⟩ w (fun e w'=>e= .returned v/\∃w2,S w2/\aOg w.heap.size w1.heap.size w2 w')
 Aa:∀f args F,K f args=some (.Aa F)->∀(h:AH) (v:Value) (h':AH),F h=some (v,h')->∀(ρ:jB) (w:World) (args':EK),pK P B ρ h w->G w->bH ρ args args'->
  Calls P f ⟨args'⟩ w fun e w'=>∃ρ' v',e= .returned v'/\aZ ρ' v v'/\mU P B ρ h w ρ' h' w'
variable {K:FuncId->EK->HQ}
def q9 (C:Lc P B K) (f:FuncId) (args:EK) (h:AH) (v:Value) (h':AH):Prop:=
 ∀(ρ:jB) (w:World) (c:EK),pK P B ρ h w->C.G w->bH ρ args c->
  Calls P f ⟨c⟩ w fun e g=>∃ρ' d,e= .returned d/\aZ ρ' v d/\mU P B ρ h w ρ' h' g
def dt (C:Lc P B K) (l:Nat) (args:EK) (h:AH) (v:Value) (h':AH):Prop:=
 ∀(ρ:jB) (w:World) (d:EK) (e:Nat) (s:Nat×Nat),pK P B ρ h w->C.G w->bH ρ args d->ρ l=some (e,s)->
  ∃f tmps as bd,(Instr.yield e ⟨d⟩).run P w= .ok (.round e f tmps as bd) w/\
   ∀(c:Frame) (cs:List Frame),∃ρ' g j,aZ ρ' v g/\mU P B ρ h w ρ' h' j/\Steps P (lone (Frame.round e f tmps as bd .normal) (c::cs) w) (lone (c.finish g) cs j)
def Nd (C:Lc P B K) (g:FuncId) (j:Option Nat) (f:EM) (env:EK) (k:List Item) (h:AH) (out:vW) (h':AH):Prop:=
 ∀(ρ:jB) (w:World) (b:Frame) (a:Act) (cs:List Frame),pK P B ρ h w->C.G w->b.fn=g->Tz ρ j b.roundOf->bH ρ env a.tmps.toList->Vf ρ f a.defers->
  ∃ρ' e c d,mU P B ρ h w ρ' h' e/\bH ρ' out.env c.tmps.toList/\Vf ρ' out.ds c.defers/\Steps P (lone (b.atR a k) cs w) (lone (b.atR c d) cs e)/\aO3 out.jI d
def aDb (C:Lc P B K) (all:Array Oper) (rest:List Oper) (env:EK) (h:AH) (out:vW) (h':AH):Prop:=
 ∀(ρ:jB) (w:World) (b:Frame) (a:Act) (cs:List Frame) (is:EM) (k:List Item),pK P B ρ h w->C.G w->bH ρ env a.tmps.toList->tg all is rest->
  ∃ρ' d c,mU P B ρ h w ρ' h' d/\bH ρ' out.env c.tmps.toList/\c.defers=a.defers/\Steps P (lone (b.atR a (.inRegion all is::k)) cs w) (lone (b.atR c (.inRegion all []::k)) cs d)
def Lb (C:Lc P B K):aBg->AH->vW->AH->Prop
 |.todo j m g d k,h,out,e=>Nd C j m g d k h out e
 |.ops all rest d,h,out,e=>aDb C all rest d h out e
 |.call f c,h,out,e=>q9 C f c h out.v e
 |.round l c,h,out,e=>dt C l c h out.v e
def Gc (C:Lc P B K) (R:mE):Prop:=∀t h out c,R t h=some (out,c)->Lb C t h out c
def mU.G (C:Lc P B K) (d:pK P B ρ h w) (e:mU P B ρ h w ρ' h' w') (c:C.G w):C.G w':=C.On _ _ (e.below d) c
def aE5 (P:Program) (B:Nat) (ρ:jB) (h:AH) (w:World) (b:Frame) (a:Act) (all:Array Oper) (i:Nat) (is:EM) (k:List Item) (cs:List Frame) (o:Oper) (v:Value) (h':AH):Prop:=
 ∃ρ' d c,mU P B ρ h w ρ' h' d/\aZ ρ' v c/\Steps P (lone (b.atR a (.inRegion all (i::is)::k)) cs w) (lone (b.atR (a.put o.dst c) (.inRegion all is::k)) cs d)
theorem Jq {g:FuncId} (hc:iR P g=true) (args:EP):(callFunc g args).run P w= .ok (.enter g args) w:=by
 rw[iR] at hc;cases hf:P.funcs[g]? with
 |none=>grind
 |some c=>
  rw[hf] at hc;simp only[dn,BS] at hc;have d:c.body.isNone=false:=FY
  simp only[callFunc,cr,run_program,aW,hf,hc.2,aO,c9,d,hM]
theorem D6 (C:Lc P B K) {R:mE} (hR:Gc C R) (U:pK P B ρ h w) (hg:C.G w) {a:Act} (n:∀x,aZ ρ (Y x)<|a.eval x) {all:Array Oper}
  (k:List Item) (cs:List Frame) (Q:all[i]?=some o) (W:Region.wanted o (yielded all a.tmps)=true) (d:eX P R Y h o.op=some (v,h')):
  aE5 P B ρ h w b a all i is k cs o v h':=by
 obtain⟨dst,op,ty,pos,after,guard⟩:=o
 simp only at d
 unfold eX at d
 split at d
 .rename_i t x y;split at d
  .rename_i ad hx;simp only[aV] at d;obtain⟨Z,O,d⟩:=d;cases d;have J:=n x;rw[hx] at J;have⟨I,hr,j⟩:=Zh U J (n y) O;refine⟨ρ,I,_,j,Af,.one<|aMw Q W ES ?_⟩;simp[execOp,hr]
  .cases d
 .rename_i t m k x;simp only[aV] at d;obtain⟨Z,O,d⟩:=d;cases d;have⟨I,hr,j⟩:=ma U (n m) (n k) (n x) O;refine⟨ρ,I,_,j,Af,.one<|aMw Q W ES ?_⟩;simp[execOp,hr]
 .rename_i c;obtain⟨callee,args,argTypes⟩:=c;simp only at d;split at d
  .have⟨ρ',I,X,j,p,hr⟩:=Sc (ty:=ty) (consts:=args.map fun|.const _=>true|_=>false) U (bH.Kg n _) d;refine⟨ρ',I,X,j,p,.one<|T4 Q W ES ?_⟩;have:args.map a.eval=⟨args.toList.map a.eval⟩:=ES;grind[execOp,resolve,Sem.run_bind,Sem.run_pure,Result.andThen_ok,invoke]
  .rename_i f;split at d
   .rename_i g first r hf
    split at d
    .rename_i S;simp only[aV] at d;obtain⟨⟨out,Z⟩,A,d⟩:=d;cases d;have J:=n f;rw[hf] at J;obtain⟨_,u,L,rfl,N,T,M⟩:=J;have q:bH ρ _ (u.toList++args.toList.map a.eval++L.toList):=
      ((lH.1 N).append<|bH.Kg n _).append (lH.1 T)
     obtain⟨e,I,fr,⟨ρ',X,rfl,p,j⟩,F,_,G⟩:=hR _ _ _ _ A ρ w _ U hg q (b.atR a (.inRegion all (i::is)::k)::cs)
     refine⟨ρ',I,X,j,p,?_⟩
     have z:(execOp a.eval {dst:=dst,op:= .call {callee:= .value f,args:=args,argTypes:=argTypes},type:=ty,pos:=pos,after:=after,guard:=guard}).run P w= .ok (.enter g ⟨u.toList++args.toList.map a.eval++L.toList⟩) w:=by
      simp only[execOp,resolve,cr,M,Deferred.ofValue,hM,aW,invoke,Jq S];simp_all
     refine .head (aS8 Q W ES z)<|Steps.trans F<|.one ?_
     rw[step_leave_returned G,CQ,Q]
     rfl
    .cases d
   .rename_i l first r hf
    simp only[aV] at d
    obtain⟨⟨out,Z⟩,A,d⟩:=d
    cases d
    have J:=n f
    rw[hf] at J
    obtain⟨_,u,L,⟨lb,s,hl,rfl⟩,N,T,M⟩:=J
    have q:bH ρ (first.toList++args.toList.map Y) _:=
     (lH.1 N).append (bH.Kg n _)
    have⟨fn,tmps,as,bd,hy,hround⟩:=hR _ _ _ _ A ρ w _ lb s U hg q hl
    have⟨ρ',X,I,p,j,hsteps⟩:=hround (b.atR a (.inRegion all (i::is)::k)) cs
    refine⟨ρ',I,X,j,p,?_⟩
    have z:(execOp a.eval {dst:=dst,op:= .call {callee:= .value f,args:=args,argTypes:=argTypes},type:=ty,pos:=pos,after:=after,guard:=guard}).run P w= .ok (.round lb fn tmps as bd) w:=by
     simp[execOp,resolve,cr,M,Deferred.ofValue,hM,aW,invoke];have:u++args.map a.eval=⟨u.toList++args.toList.map a.eval⟩:=ES;grind
    have hs:=Steps.head (aQ8 Q W ES z) hsteps
    grind[Frame.finish_atR]
   .cases d
  .cases d
 .cases d
def sE (h:eM op≠.Et):∀c,op≠.defer c:=by
 rintro c rfl;exact h rfl
theorem Vj (C:Lc P B K) {R:mE} (q:Gc C R) (e:pK P B ρ h w) (r:C.G w) {a:Act} (n:bH ρ env a.tmps.toList) {all:Array Oper}
  (k:List Item) (cs:List Frame) (l:all[i]?=some o) (m:Region.wanted o (yielded all a.tmps)=true) (c:oV P R env h o.op=some (v,h')):
  aE5 P B ρ h w b a all i is k cs o v h':=by
 have d:=E5 e n
 rw[oV] at c
 split at c
 .simp only[aV] at c;obtain⟨u,j,c⟩:=c;cases c;have⟨v',hr,hrel⟩:=Mg e d o j;exact⟨ρ,w,v',mU.refl e,hrel,.one<|T4 l m (sE ES) hr⟩
 .simp only[aV] at c;obtain⟨⟨p,f⟩,j,c⟩:=c;cases c;have⟨o',g,hb,hr,hval⟩:=Mb (w:=w) d o j;exact⟨_,w.alloc o',_,As e (hb.mono<|A6.tC<|e.gO _<|ba _) rfl rfl rfl rfl,hval _ _ (0,0) rfl bV,.one<|T4 l m (sE ES) hr⟩
 .grind[D6]
 .grind[D6]
 .cases c
theorem aB7 (C:Lc P B K) {R:mE} (g:Gc C R) {all:Array Oper} {rest:List Oper} {h:AH} {out:vW}
  (d:vN P R all rest env h=some (out,h')):aDb C all rest env h out h':=by
 intro ρ w b a cs is k f j e c
 unfold vN at d
 split at d
 .cases d;cases is with
  |nil=>exact⟨ρ,w,a,mU.refl f,e,rfl,DK _ _⟩
  |cons i is=>exact c.elim
 .cases is with
  |nil=>exact c.elim
  |cons i is=>
   obtain⟨p,c⟩:=c
   split at d
   .cases d
   .rename_i m;have q:=uB e m;have⟨ρ',w',a',h1,n,h3,h4⟩:=g _ _ _ _ d ρ w b _ cs is k f j (Zv _ e Af) c;refine⟨ρ',w',a',h1,n,h3.trans rH,.head ?_ h4⟩;grind[stepR_op_skip]
   .rename_i m;split at d
    .rename_i v n l;have⟨ρ1,w1,v1,e1,r1,s1⟩:=Vj C g f j e k cs p (uB e m) (b:=b) (is:=is) l;have⟨ρ',w',a',g1,g2,g3,g4⟩:=g _ _ _ _ d ρ1 w1 b _ cs is k e1.inv (e1.G C f j) (Zv _ (bH.mono e1.ext _ _ e) r1) c;exact⟨ρ',w',a',e1.trans g1,g2,g3.trans rH,s1.trans g4⟩
    .cases d
end Go.Ab
variable {e tmps:EK} {d:Operand->Value} {t:TypeId} {c g:AH} {a:Addr} {es:List (Value×Value×Nat)} {all:List Oper} {N:Nat} {ρ0:jB} {w0:World} {V:Nat->Value} {E:Nat->EK} {H:Nat->AH}
namespace Go.Ab
open Go.RowKit
variable {vs:EK} {cs:List Frame} {st:LoopState} {p:Option Code} {ps:Array Tmp} {pd:Option (Option Code)}
section
variable {h:AH} {K:FuncId->EK->HQ}
theorem pM (c:pK P B ρ h w) (hb:Below w.heap.size w w'):mU P B ρ h w ρ h w':=
 {mU.refl c with
  inv:={
   oP:=fun i o e b s f=>by
    have⟨o',h1,h2⟩:=c.oP i o e b s f;exact⟨o',(hb.block b ES).trans h1,h2⟩
   inj:=c.inj,low:=c.low,old:=c.old,gO:=c.gO,jD:=c.jD,pO:=c.pO,size:=hI c.size hb.size,bn:=c.bn}
  frame:=fun b d _=>hb.block b d
  size:=hb.size
  os:=hb.os
  out:=hb.output
  tape:=hb.tape}
theorem aD9 (q:pK P B ρ h w) {m t:World} (d:Below w.heap.size w m) (c:mU P B ρ h m ρ' h' t) (e:aOg w.heap.size m.heap.size t w'):mU P B ρ h w ρ' h' w':=by
 have r:∀j b s,(h.get j).isSome->ρ j=some (b,s)->b<w.heap.size:=fun j b s z g=>by
  have⟨oj,hoj⟩:=cO.1 z;have⟨o',ho',_⟩:=q.oP j oj hoj b s g;grind
 exact {c with
  inv:={c.inv with
   oP:=fun i o p b s g=>by
    have⟨o',l,n⟩:=c.inv.oP i o p b s g;refine⟨o',?_,n⟩;rw[e.On b<|(fj.1 l).1];exact l;rcases ts i h.base with f|f;left;have:=c.inv.old i b s (by rwa [c.base]) g;have:=q.size;omega;rcases ts b m.heap.size with hb|hb;left;obtain⟨j,C,A,x,v⟩:=c.range i b s f (by rw[p];rfl) g hb;grind;grind
   size:=hI c.inv.size e.size}
  frame:=fun b hb y=>by
   rw[e.On b (o0 hb<|hI d.size c.size)<|.inl hb,c.frame b (o0 hb d.size) y,d.block b hb]
  range:=fun i b s l n u hb=>c.range i b s l n u<|o0 hb d.size
  size:=hI d.size<|hI c.size e.size
  os:=by rw[e.os,c.os,d.os]
  out:=by rw[e.out,c.out,d.output]
  tape:=by rw[e.tape,c.tape,d.tape]}
mutual
theorem wX {ρ:jB}:∀(v d:Value),gR v=true->aZ ρ v d->d=v
 |.bool _,_,_,k=>FA
 |.int _ _,_,_,k=>FA
 |.float _ _,_,_,k=>FA
 |.complex _ _ _,_,_,k=>FA
 |.string _,_,_,k=>FA
 |.pointer none,_,_,k=>FA
 |.pointer (some _),_,h,_=>FE
 |.slice none _ _,_,_,k=>FA
 |.slice (some _) _ _,_,h,_=>FE
 |.map none,_,_,k=>FA
 |.map (some _),_,h,_=>FE
 |.chan _,_,h,_=>FE
 |.func _ _ _,_,h,_=>FE
 |.nilFunc,_,_,k=>FA
 |.iface _ v,_,h,k=>by
  obtain⟨u,c,rfl⟩:=k;rw[wX v u h c]
 |.nilIface,_,_,k=>FA
 |.agg cs,_,h,k=>by
  obtain⟨u,c,rfl⟩:=k;rw[S8 cs u h c]
 |.tuple cs,_,h,k=>by
  obtain⟨u,c,rfl⟩:=k;rw[S8 cs u h c]
theorem S8 {ρ:jB}:∀(v c:EP),Dv v=true->qN ρ v c->c=v
 |⟨l⟩,a,h,k=>by
  have:=Kb l a.toList h k;grind
theorem Kb {ρ:jB}:∀(l c:EK),qD l=true->bH ρ l c->c=l
 |[],_,_,k=>by grind[bH]
 |v::l,_,h,k=>by
  simp[qD,dn] at h;obtain⟨g,f,d,e,rfl⟩:=k;rw[wX v g h.1 d,Kb l f h.2 e]
end
theorem Bx (f:pK P B ρ h w) {env:EK} {tmps:EP} (e:bH ρ env tmps.toList):∀(rs:List ResultVar) (vs:EK),gZ P h env rs=some vs->
  ∃c,(rs.mapM (m:=Sem) fun|.tmp t=>pure (tmps.getD t undef)|.cell a t=>do loadVar t (<-asAddr (tmps.getD a undef))).run P w= .ok c w/\bH ρ vs c
 |[],vs,d=>by simp_all[gZ,Option.some.injEq,bH.nil]
 |.tmp t::rs,vs,d=>by
  simp only[gZ,aV] at d;obtain⟨l,g,rfl⟩:=d;have⟨c,hr,hrel⟩:=Bx f e rs l g;refine⟨tmps.getD t undef::c,?_,bH.cons ?_ hrel⟩;simp_all;have:=e.getD t;simp_all
 |.cell a t::rs,vs,d=>by
  simp only[gZ] at d;split at d;rename_i u r;split at d;rename_i v l p q;cases d;have⟨c,hr,hrel⟩:=Bx f e rs l q;have j:aZ ρ (env.getD a undef) (tmps.getD a undef):=by have:=e.getD a;simp_all
  rw[r] at j;have⟨v',hv',hvr⟩:=Qk f j p;refine⟨_,?_,bH.cons hvr hrel⟩;obtain⟨b,s,_,n⟩:=j;have g:(do loadVar t (<-asAddr (tmps.getD a undef)):Sem Value).run P w= .ok v' w:=by
   rw[n] at hv' ⊢;simp[Instr.loadAt,Instr.sureAddr,cr,hM,aW] at hv';simp[asAddr,cr,hM,aW,hv']
  simp only[List.mapM_cons];rw[cr,g];simp_all;cases d;cases d
theorem ae (j:pK P B ρ h w) {tmps:EP} (g:bH ρ env tmps.toList) {e:Func} (p:gZ P h env e.results.toList=some vs):
  ∃d,(results e tmps).run P w= .ok d w/\aZ ρ (A4 vs) d:=by
 have⟨vs',hr,hrel⟩:=Bx j g _ _ p
 have n:(e.results.mapM (m:=Sem) fun|.tmp t=>pure (tmps.getD t undef)|.cell a t=>do loadVar t (<-asAddr (tmps.getD a undef))).run P w= .ok ⟨vs'⟩ w:=by
  rw[Array.mapM_eq_mapM_toList];simp_all
 refine⟨A4 vs',?_,?_⟩
 .rw[results,cr];generalize f:Sem.run P _ w=X;rw[f.symm.trans n];match vs' with
  |[]=>rfl
  |[v]=>rfl
  |v::u::l=>simp[A4]
 .match vs,vs',hrel with
  |[],[],_=>grind[A4,aZ,qN,bH.nil]
  |[v],[d],c=>exact(bH.Zf.1 c).1
  |v::u::l,d::r::q,c=>grind[A4,aZ,qN]
  |[],_::_,c=>simp[bH] at c
  |[_],[],c=>have:=c.length;simp at this
  |[_],_::_::_,c=>have:=c.length;simp at this
  |_::_::_,[],c=>have:=c.length;simp at this
  |_::_::_,[_],c=>have:=c.length;simp at this
def Rv {fr:Frame} {r:Nat} {args:EP} {c:List Deferred} (e:fr.mode= .returning) (d:fr.defers={target:= .collected r,args:=args}::c)
  (f:(Instr.takeDeferred r).run P w= .ok [] w'):step P (lone fr cs w)= .next (lone {fr with defers:=c} cs w'):=
 BY (by simp[stepG,unwind,e,d,DO,f,BZ])
theorem Lt:∀(r:EM) (h m:AH) (w:World) (fr:Frame) (cs:List Frame),cQ r h=some m->pK P B ρ h w->Vf ρ r fr.defers->fr.mode= .returning->
  ∃q,mU P B ρ h w ρ m q/\Steps P (lone fr cs w) (lone {fr with defers:=[]} cs q)
 |[],h,m,w,fr,cs,g,u,v,_=>by
  simp[cQ,Option.some.injEq] at g;subst g;refine⟨w,mU.refl u,?_⟩;rw[<-v];exact DK _ _
 |d::r,h,m,w,fr,cs,g,u,v,z=>by
  simp only[cQ] at g;split at g;rename_i l;split at g;rename_i y;obtain⟨b,s,t,A,C,x⟩:=v;have⟨o',ho,hb⟩:=u.oP _ _ y b s A;subst hb;have n:∀c e f,Obj.deferred (some [])≠.cells c e f:=ES;have p:(Instr.takeDeferred b).run P w= .ok [] {w with heap:=w.heap.setIfInBounds b (.deferred none)}:=by
   simp[Instr.takeDeferred,cr,Hj ho n,aW,xX ho n,hM]
  have j:=B2 u l y A (o:= .vA false) (w':={w with heap:=w.heap.setIfInBounds b (.deferred none)}) (by simp[wP]) rfl rfl rfl rfl;have⟨q,he2,hs2⟩:=Lt r _ m _ {fr with defers:=t} cs g j.inv C z;exact⟨q,j.trans he2,.head (Rv z x p) hs2⟩;cases g;cases g
theorem gz (C:Lc P B K) {R:mE} (hR:Gc C R) {args:EK} {h:AH} {out:vW}
  (c:oK P K R f args h=some (out,h')):q9 C f args h out.v h':=by
 intro ρ w d t G A
 rw[oK] at c
 split at c
 .rename_i v I;cases c;have⟨u,h3⟩:=C.call f args v w I G;rw[Kb _ _ u A];exact h3.mono fun e w' ⟨⟨O,N,hv⟩,S⟩=>⟨ρ,O,N,hv ρ,pM t S⟩
 .rename_i g bs I;split at c
  .rename_i o u n;split at c
   .rename_i m;cases c;have⟨bs',x,hbs,hbel,hfw⟩:=C.fwd f args g bs I ρ d w A G;have z:=pM t hbel;have:=hfw o.v (fun Q=>∃ρ',mU P B ρ h x ρ' h' Q) m ((hR _ _ _ _ n ρ x bs' z.inv (z.G C t G) hbs).mono fun e w' ⟨ρ',O,N,hv,l⟩=>by
     have hp:gR o.v=true:=by
      unfold Pe at m;split at m;rename_i a b r;rw[r];rfl;cases m
     refine⟨by grind[wX],⟨fun i u q=>l.frame i q fun j s hj hs c=>?_,l.size,l.os,l.out,l.tape⟩,ρ',l⟩;have⟨oj,hoj⟩:=cO.1 hs;have⟨o',ho',_⟩:=t.oP j oj hoj i s c;grind)
    refine this.mono fun e w' ⟨N,Q,⟨ρ',l⟩,U⟩=>⟨ρ',o.v,N,?_,aD9 t hbel l U⟩
    have hp:gR o.v=true:=by
     unfold Pe at m;split at m;rename_i a b r;rw[r];rfl;cases m
    grind[fU]
   .cases c
  .cases c
 .rename_i F I;simp only[aV] at c;obtain⟨⟨v,q⟩,hF,c⟩:=c;cases c;exact C.Aa f args F I h v _ hF ρ w d t G A
 .split at c
  .rename_i fn hf;split at c
   .rename_i y S;split at c
    .rename_i o u n;intro cs;have α:=A.length;have X:Frame.enter P f ⟨d⟩ .normal=({(default:Frame) with fn:=f,kind:= .normal}:Frame).atR {tmps:=⟨d++List.replicate (fn.ntmps - args.length) undef⟩,defers:=[]} [.code y]:=by
      simp only[Frame.enter,Frame.atR,hf,l4,ss,AT,S];congr 1;grind
     obtain⟨ρ1,x,a1,Z,z,r1,d1,s1,l1⟩:=(hR _ _ _ _ n) ρ w {(default:Frame) with fn:=f,kind:= .normal} {tmps:=⟨_⟩,defers:=[]} cs t G rfl rfl
      (A.append<|bH.replicate _ Af) rfl
     rw[<-X] at s1
     have p:(∀id,o.jI≠.exit id)/\∃q,cQ o.ds u=some q/\∃vs,gZ P q o.env fn.results.toList=some vs/\out=⟨.nI,[],[],A4 vs⟩/\h'=q:=by
      split at c;cases c;grind[Option.map_eq_some_iff]
     obtain⟨β,q,T,vs,Y,rfl,W⟩:=p;subst W
     have M:Steps P (lone (({(default:Frame) with fn:=f,kind:= .normal}:Frame).atR a1 Z) cs x) (lone {({(default:Frame) with fn:=f,kind:= .normal}:Frame).atR a1 Z with mode:= .returning} cs x):=by
      cases hl:o.jI with
      |nI=>rw[hl] at l1;subst l1;exact .one (stepR_end rfl)
      |ret=>rw[hl] at l1;obtain⟨k2,rfl⟩:=l1;exact .one (stepR_ret rfl)
      |exit id=>grind
     obtain⟨Q,e2,s2⟩:=Lt o.ds u h' x {({(default:Frame) with fn:=f,kind:= .normal}:Frame).atR a1 Z with mode:= .returning} cs T z.inv d1 rfl
     obtain⟨O,L,J⟩:=ae e2.inv ER Y
     exact⟨_,Q,_,⟨ρ1,O,rfl,J,z.trans e2⟩,(s1.trans M).trans s2,rfl,rfl,rfl,rfl,fn,hf,L⟩
    .cases c
   .cases c
  .cases c
theorem Vl (m:pK P B ρ h w) {l f:Nat} {fn:FuncId} {tmps:EK} {as bd:Code} {d:Nat} (j:h.get l=some (.loop st p fn tmps ps as bd d)) (n:ρ l=some (f,s)):
  ∃c e g,bH ρ tmps c/\ρ d=some (e,g)/\w.heap[f]?=some (.loop {state:=st,pending:=p,fn:=fn,tmps:=⟨c⟩,params:=ps,assign:=as,body:=bd,defers:=e}):=by
 have⟨o',ho,c,e,g,h1,h2,h3⟩:=m.oP _ _ j f s n
 grind
theorem zW (m:pK P B ρ h w) {l f:Nat} (e:dD h l st pd=some h') (n:ρ l=some (f,s)):
  ∃r:Loop,w.heap[f]?=some (.loop r)/\(∃c q g tmps t as bd d,h.get l=some (.loop c q g tmps t as bd d)/\r.state=c/\r.pending=q)/\
   mU P B ρ h w ρ h' {w with heap:=w.heap.setIfInBounds f (.loop {r with state:=st,pending:=pd.getD r.pending})}:=by
 rw[dD] at e
 split at e
 .rename_i c p g tmps t as bd d j;split at e
  .rename_i u;cases e;have⟨tmps',d',s',h1,h2,h3⟩:=Vl m j n;exact⟨_,h3,ES,B2 m u j n ⟨_,d',s',h1,h2,rfl⟩ rfl rfl rfl rfl⟩
  .cases e
 .cases e
theorem sI {r:Loop}:∀c e f,Obj.loop r≠.cells c e f:=ES
theorem uZ {c:Nat} {r:Loop} (h:w.heap[c]?=some (.loop r)):(Instr.getLoop c).run P w= .ok r w:=by
 simp[Instr.getLoop,cr,Hj h sI,aW,hM]
def dw:∀(l:List (Tmp×Value)) (d:List (Tmp×Value)) (t:EK) (t':EP),l.map (·.1)=d.map (·.1)->bH ρ (l.map (·.2)) (d.map (·.2))->bH ρ t t'.toList->
  bH ρ (l.foldl (fun t (p,v)=>t.set p v) t) (d.foldl (fun t (p,v)=>t.setIfInBounds p v) t').toList
 |[],[],t,t',_,_,h=>h
 |(p,v)::l,(g,j)::d,t,t',c,f,h=>by
  simp[kx,List.cons.injEq] at c;obtain⟨rfl,c⟩:=c;have e:=bH.Zf.1 f;exact dw l d _ _ c e.2 (by simpa using h.set p e.1)
 |[],_::_,_,_,c,_,_=>by simp at c
 |_::_,[],_,_,c,_,_=>by simp at c
theorem aj (C:Lc P B K) {R:mE} (O:Gc C R) {l:Nat} {args:EK} {h:AH} {out:vW}
  (e:qM R l args h=some (out,h')):dt C l args h out.v h':=by
 intro ρ w f G s J T Q F
 rw[qM] at e
 split at e
 .rename_i st p fn tmps j assign q d y;split at e
  .rename_i L;have⟨tmps',d',s',ht,hd,hw⟩:=Vl J y F;have S:=Q.length;refine⟨fn,(j.toList.zip f).foldl (fun t (p,v)=>t.setIfInBounds p v) ⟨tmps'⟩,assign,q,?_,?_⟩
   .have X:(j.zip ⟨f⟩).foldl (fun(t:EP) (x:Tmp×Value)=>t.setIfInBounds x.1 x.2) ⟨tmps'⟩=(j.toList.zip f).foldl (fun t (p,v)=>t.setIfInBounds p v) ⟨tmps'⟩:=by
     rw[<-Array.foldl_toList,Array.toList_zip]
    simp only[Instr.yield,cr,uZ hw,aW]
    simp_all
   .intro c cs;split at e
    .rename_i o I z;split at e
     .have U:∀(A:EK),A.length=j.toList.length->(j.toList.zip A).map (·.1)=j.toList/\(j.toList.zip A).map (·.2)=A:=fun A M=>⟨List.map_fst_zip ER,List.map_snd_zip ER⟩;obtain⟨ρ1,N,a1,Y,u,Z,d1,s1,l1⟩:=(O _ _ _ _ z) ρ w {(default:Frame) with fn:=fn,kind:= .normal,roundOf:=some G} {tmps:=(j.toList.zip f).foldl _ _,defers:=[]} (c::cs) J T rfl ⟨G,s,F,rfl⟩
       (dw _ _ _ _ ES ES ht) rfl
      have vC:∀(jump:Option Code) (n:AH),dD I l (if jump.isNone then .ready else .done) (some jump)=some n->∃m,(Instr.endRound G jump).run P N= .ok (.bool jump.isNone) m/\mU P B ρ1 I N ρ1 n m:=by
       intro jump n g;have⟨r,hw1,_,hev⟩:=zW u.inv g<|u.ext _ _ F;refine⟨_,?_,hev⟩;simp[Instr.endRound,cr,uZ hw1,aW,xX hw1 sI,hM,ss]
      cases hlv:o.jI with
      |nI=>
       rw[hlv] at e l1
       subst l1
       simp only[aV] at e
       obtain⟨n,g,e⟩:=e
       cases e
       have⟨m,hend,hev⟩:=vC none _ g
       exact⟨ρ1,.bool true,m,EZ,u.trans hev,s1.trans<|.one<|stepR_round_end rfl rfl hend⟩
      |ret=>
       rw[hlv] at e l1
       obtain⟨W,rfl⟩:=l1
       simp only[aV] at e
       obtain⟨n,g,e⟩:=e
       cases e
       have⟨m,hend,hev⟩:=vC (some .ret) _ g
       exact⟨ρ1,.bool false,m,EZ,u.trans hev,s1.trans<|.one<|stepR_round_ret rfl rfl hend⟩
      |exit id=>
       rw[hlv] at e l1
       obtain⟨W,rfl,M⟩:=l1
       simp only[aV] at e
       obtain⟨n,g,e⟩:=e
       cases e
       have⟨m,hend,hev⟩:=vC (some _) _ g
       exact⟨ρ1,.bool false,m,EZ,u.trans hev,s1.trans<|.one<|stepR_round_exit rfl rfl M hend⟩
     .cases e
    .cases e
  .cases e
 .cases e
def aCf (C:Lc P B K) (R:mE):Prop:=∀(ops:Array Oper) (d:EK) (h:AH) (c:EK) (f:AH),uH P R ops d h=some (c,f)->
 ∀(ρ:jB) (w:World) (b:Frame) (a:Act) (cs:List Frame) (k:List Item) (t:Nat),pK P B ρ h w->C.G w->bH ρ d a.tmps.toList->
  ∃ρ' g e,mU P B ρ h w ρ' f g/\bH ρ' c e.tmps.toList/\e.defers=a.defers/\
   Steps P (lone (b.atR a (.inRegion ops (Region.schedule (P.follows .mixedOrders) ops t)::k)) cs w) (lone (b.atR e (.inRegion ops []::k)) cs g)
theorem Ls (all:Array Oper):∀(rest:List Oper) (i:Nat),(∀j,all[i+j]?=rest[j]?)->tg all (List.range' i rest.length) rest
 |[],i,_=>trivial
 |o::rest,i,c=>by
  refine⟨by simpa using c 0,Ls all rest _ fun j=>?_⟩;have:=c<|j+1;grind
end
section
variable {K:FuncId->EK->HQ}
theorem mP (C:Lc P B K) {d:FuncId} {f:Option Nat} {g:EM} {k j:List Item} {h:AH} {out:vW}
  (r:∀(b:Frame) (a:Act) (cs:List Frame) (w:World) (ρ:jB),pK P B ρ h w->bH ρ env a.tmps.toList->b.fn=d->Tz ρ f b.roundOf->step P (lone (b.atR a k) cs w)= .next (lone (b.atR a j) cs w))
  (c:Nd C d f g env j h out h'):Nd C d f g env k h out h':=by
 intro ρ w b a cs q p l e n m
 have⟨ρ',w',a',k',h1,h2,h3,h4,h5⟩:=c ρ w b a cs q p l e n m
 exact⟨ρ',w',a',k',h1,h2,h3,.head ES h4,h5⟩
set_option maxHeartbeats 1000000 in
theorem aO9 (C:Lc P B K) (ε:∀R,Gc C R->aCf C R):∀n,Gc C (run P K n):=by
 intro n;induction n with
 |zero=>intro t h out h' j;simp[run] at j
 |succ n u=>
  intro t h out h' j;cases t with
  |call f args=>exact gz C u j
  |round l args=>exact aj C u j
  |ops all rest M=>exact aB7 C u j
  |todo fn ro ds M k=>
   replace j:fF P (run P K n) fn ro ds M k h=some (out,h'):=j;show Nd C fn ro ds M k h out h';unfold fF at j;split at j;cases j;exact fun ρ w b a cs m _ _ _ A G=>⟨ρ,w,a,[],mU.refl m,A,G,DK _ _,rfl⟩;rename_i c k;split at j;exact mP C (fun b a cs w ρ _ _ _ _=>stepR_skip)<|u _ _ _ _ j;exact mP C (fun b a cs w ρ _ _ _ _=>stepR_label)<|u _ _ _ _ j;exact mP C (fun b a cs w ρ _ _ _ _=>stepR_seq)<|u _ _ _ _ j;rename_i c t e;split at j;refine mP C (fun b a cs w ρ m A _ _=>?_)<|u _ _ _ _ j;have:=E5 m A c;grind[aZ,stepR_cond];cases j;exact mP C (fun b a cs w ρ _ _ _ _=>stepR_block)<|u _ _ _ _ j;exact mP C (fun b a cs w ρ _ _ _ _=>stepR_loop)<|u _ _ _ _ j;exact mP C (fun b a cs w ρ _ _ _ _=>BY<|by simp[stepG,stepG.exec,Frame.atR])<|u _ _ _ _ j;split at j;rename_i k' hx;exact mP C (fun b a cs w ρ _ _ _ _=>stepR_exit hx)<|u _ _ _ _ j;rename_i hx;split at j;cases j;exact fun ρ w b a cs m _ _ _ A G=>⟨ρ,w,a,_,mU.refl m,A,G,DK _ _,⟨k,rfl,hx⟩⟩;cases j;cases j;exact fun ρ w b a cs m _ _ _ A G=>⟨ρ,w,a,_,mU.refl m,A,G,DK _ _,⟨k,rfl⟩⟩;rename_i id ops;split at j;rename_i o J υ;intro ρ w b a cs m S Z y A G;have hat:tg ops (List.range ops.size) ops.toList:=by
    have:=Ls ops ops.toList 0 ES;rw[List.range_eq_range'];simpa using this
   have⟨ρ1,q,a1,z,r1,d1,s1⟩:=u _ _ _ _ υ ρ w b a cs _ k m S A hat;have⟨ρ',w',a',k',J,h2,h3,h4,h5⟩:=u _ _ _ _ j ρ1 q b a1 cs z.inv (z.G C m S) Z (y.mono z.ext) r1 (by rw[d1];exact G.mono z.ext);exact⟨ρ',w',a',k',z.trans J,h2,h3,.head stepR_region<|s1.trans<|.head stepR_region_end h4,h5⟩;cases j;rename_i id ops;split at j;rename_i ν J hdr;intro ρ w b a cs m S Z y A G;have ed:=aF8 m;have⟨ρ1,q,a1,z,r1,d1,s1⟩:=ε _ u ops M h ν J hdr ρ {w with drawn:=w.drawn+1} b a cs k (w.tape w.drawn<|.order b.fn id) ed.inv (ed.G C m S) A;have Q:=ed.trans z;have⟨ρ',w',a',k',J,h2,h3,h4,h5⟩:=u _ _ _ _ j ρ1 q b a1 cs Q.inv (Q.G C m S) Z (y.mono Q.ext) r1 (by rw[d1];exact G.mono Q.ext);exact⟨ρ',w',a',k',Q.trans J,h2,h3,.head stepR_region_draw<|s1.trans<|.head stepR_region_end h4,h5⟩;cases j;rename_i f ps assign body;split at j;rename_i d J ds1 N;split at j;rename_i g first I hf
   split at j;rename_i ο;split at j;rename_i ox h3 δ;split at j;rename_i st p _ _ _ _ _ _ η;split at j;cases j;rename_i hbusy;split at j;rename_i h4 θ;intro ρ w b a cs m S Z y A G;obtain⟨ρ1,q,mark,L,s',z,hd1,π,X⟩:∃ρ1 q mark L s',mU P B ρ h w ρ1 J q/\ρ1 d=some (L,s')/\Vf ρ1 ds1 (mark++a.defers)/\
     (Instr.enterLoop b.fn a.tmps ps assign body b.roundOf).run P w= .ok (q.heap.size,mark) (q.alloc<|.loop {state:= .ready,pending:=none,fn:=b.fn,tmps:=a.tmps,params:=ps,assign:=assign,body:=body,defers:=L}):=by
    cases ro with
    |none=>
     simp[Tz] at y
     obtain⟨rfl,rfl,rfl⟩:=N
     have ea:=As m (o:= .vA true) (s:=(0,0)) (w':=w.alloc<|.deferred<|some []) (by simp[wP]) rfl rfl rfl rfl
     refine⟨_,_,[{target:= .collected w.heap.size,args:= #[]}],_,_,ea,bV,⟨_,_,_,bV,G.mono ea.ext,rfl⟩,?_⟩
     simp_all[Instr.enterLoop]
    |some l=>
     obtain⟨lb,s,hl,O⟩:=y
     simp only at N
     split at N
     .rename_i st0 p0 ξ tm0 ps0 ι κ d0 F;obtain⟨rfl,rfl,rfl⟩:=N;have⟨tmps',L,s',_,hdd',hw⟩:=Vl m F hl;refine⟨ρ,w,[],L,s',mU.refl m,hdd',G,?_⟩;simp_all[Instr.enterLoop,uZ]
     .cases N
   have σ:=bH.mono z.ext _ _ A;have Q:=As z.inv (o:= .loop .ready none fn M ps assign body d)
    (w':=q.alloc<|.loop {state:= .ready,pending:=none,fn:=b.fn,tmps:=a.tmps,params:=ps,assign:=assign,body:=body,defers:=L})
    (by
     have α:=A6.tC (x:=(q.heap.size,(0,0)))<|z.inv.gO J.next<|ba _;exact⟨_,L,s',bH.mono α _ _ σ,α _ _ hd1,by rw[Z]⟩) rfl rfl rfl rfl
   have β:=z.trans Q;have ζ:=E5 β.inv (bH.mono Q.ext _ _ σ) f;rw[hf] at ζ;simp only[aZ,Mx] at ζ;obtain⟨_,U,T,rfl,hfs,hcs,hfe⟩:=ζ;have γ:bH (tC ρ1 J.next (q.heap.size,(0,0))) (first.toList++[.func (.yield J.next) #[] #[]]++I.toList) (U.toList++[.func (.yield q.heap.size) #[] #[]]++T.toList):=by
    refine((lH.1 hfs).append<|bH.cons ?_ bH.nil).append (lH.1 hcs);simp only[aZ,Mx];exact⟨_,_,_,⟨_,_,bV,rfl⟩,by grind[qN,bH.nil],by grind[qN,bH.nil],rfl⟩
   obtain⟨e,w3,fr,⟨ρ3,v',rfl,_,e3⟩,W,_,Y⟩:=u _ _ _ _ δ _ _ _ Q.inv (β.G C m S) γ (b.atR {a with defers:=mark++a.defers} (.inRangeFunc q.heap.size::k)::cs);have μ:=β.trans e3;have hl3:=e3.ext _ _ bV;obtain⟨r,ω,⟨st0,p0,ξ,tm0,ps0,ι,κ,d0,F,ψ,φ⟩,e4⟩:=zW e3.inv θ hl3;rw[η] at F;cases F;have τ:(Instr.endLoop q.heap.size).run P w3= .ok p {w3 with heap:=w3.heap.setIfInBounds q.heap.size (.loop {r with state:= .exhausted})}:=by
    have hnb:(r.state==LoopState.busy)=false:=ES
    simp only[Instr.endLoop,cr,uZ ω,aW];simp[hnb,aO,c9,cr,xX ω sI,aW,hM,φ]
   simp[Option.getD_none] at e4;have v:=μ.trans e4;have⟨ρ',w',a',k',g1,g2,g3,g4,g5⟩:=u _ _ _ _ j ρ3 _ b {a with defers:=mark++a.defers} cs e4.inv (v.G C m S) Z (y.mono v.ext)
    (bH.mono v.ext _ _ A) (π.mono (Q.trans<|e3.trans e4).ext)
   refine⟨ρ',w',a',k',v.trans g1,g2,g3,?_,g5⟩;have χ:(resolve a.eval (rangeCall f q.heap.size) 0).run P (q.alloc<|.loop {state:= .ready,pending:=none,fn:=b.fn,tmps:=a.tmps,params:=ps,assign:=assign,body:=body,defers:=L})=
     .ok {target:= .fn (.func g) T,args:=U++ #[.func (.yield q.heap.size) #[] #[]]} (q.alloc<|.loop {state:= .ready,pending:=none,fn:=b.fn,tmps:=a.tmps,params:=ps,assign:=assign,body:=body,defers:=L}):=by
    show(Deferred.ofValue _<|(#[.const _]:Array Operand).map a.eval).run P _=_
    rw[hfe]
    simp[Deferred.ofValue,Act.eval]
   have hinv:(invoke (.fn (.func g) T)<|U++ #[.func (.yield q.heap.size) #[] #[]]).run P (q.alloc<|.loop {state:= .ready,pending:=none,fn:=b.fn,tmps:=a.tmps,params:=ps,assign:=assign,body:=body,defers:=L})=
     .ok (.enter g ⟨U.toList++[.func (.yield q.heap.size) #[] #[]]++T.toList⟩) (q.alloc<|.loop {state:= .ready,pending:=none,fn:=b.fn,tmps:=a.tmps,params:=ps,assign:=assign,body:=body,defers:=L}):=by
    simp only[invoke]
    rw[Jq ο]
    simp_all
   refine .head (stepR_rangeFunc X χ hinv)<|Steps.trans W<|.head ?_<|.head (stepR_endRangeFunc τ) g4;rw[step_leave_returned Y,finish_atR_inRangeFunc];cases j;cases j;cases j;cases j;cases j;cases j;cases j;exact mP C (fun b a cs w ρ _ _ _ _=>stepR_inBlock)<|u _ _ _ _ j;exact mP C (fun b a cs w ρ _ _ _ _=>BY<|by simp[stepG,stepG.exec,Frame.atR])<|u _ _ _ _ j;exact mP C (fun b a cs w ρ _ _ _ _=>stepR_inLoop)<|u _ _ _ _ j;split at j;split at j;rename_i _ _ _ _ _ _ _ η;split at j;rename_i J θ;intro ρ w b a cs m S Z y A G;obtain⟨lb,s,hl,O⟩:=y;obtain⟨r,hw,⟨st0,p0,ξ,tm0,ps0,ι,κ,d0,F,ψ,φ⟩,z⟩:=zW m θ hl;rw[η] at F;cases F;have hbr:(Instr.beginRound lb).run P w= .ok () {w with heap:=w.heap.setIfInBounds lb (.loop {r with state:= .busy})}:=by
    simp only[Instr.beginRound,cr,uZ hw,aW,xX hw sI,ψ];rfl
   have⟨ρ',w',a',k',g1,g2,g3,g4,g5⟩:=u _ _ _ _ j ρ _ b a cs z.inv (z.G C m S) Z ⟨lb,s,hl,O⟩ A G;exact⟨ρ',w',a',k',z.trans g1,g2,g3,.head (stepR_beginRound O hbr) g4,g5⟩;cases j;cases j;cases j;cases j
end
theorem zP {α:Type} {f g:α->Value}:∀(l:List α),(∀x∈l,f x=g x)->l.map f=l.map g
 |[],_=>rfl
 |x::l,h=>FY
theorem Ws {g e:Operand->Value} {h:AH} (op:Op) (u:∀x∈op.operands.toList,g x=e x):dA P g h op=dA P e h op:=by
 cases op with
 |build t r=>
  simp[dA];have:∀l:List (Nat×Operand),(∀p∈l,g p.2=e p.2)->l.map (fun p=>(p.1,g p.2))=l.map fun p=>(p.1,e p.2):=by
   intro l F;induction l with
   |nil=>rfl
   |cons p l I=>grind
  grind[Op.operands]
 |makeFunc v first j=>
  simp[dA];grind[Array.ext',Array.toList_map,zP,Op.operands,Array.toList_append]
 |slice t x n m q=>
  simp[dA];have G:=u x (by simp[Op.operands]);have z:n.map g=n.map e:=by cases n with|none=>rfl|some y=>grind[Op.operands]
  have A:m.map g=m.map e:=by cases m with|none=>rfl|some y=>grind[Op.operands]
  have C:q.map g=q.map e:=by cases q with|none=>rfl|some y=>grind[Op.operands]
  grind
 |move x=>simp_all[dA,Op.operands]
 |assign x=>simp_all[dA,Op.operands]
 |pick c a b=>simp_all[dA,Op.operands]
 |load t a=>simp_all[dA,Op.operands]
 |nilCheck x=>simp_all[dA,Op.operands]
 |binOp op t x y J=>simp_all[dA,Op.operands]
 |unOp op t x=>simp_all[dA,Op.operands]
 |convert s d x=>simp_all[dA,Op.operands]
 |makeInterface t x=>simp_all[dA,Op.operands]
 |fieldAddr s x f=>simp_all[dA,Op.operands]
 |field s x f=>simp_all[dA,Op.operands]
 |indexAddr t x i=>simp_all[dA,Op.operands]
 |index t x i=>simp_all[dA,Op.operands]
 |extract t i=>simp_all[dA,Op.operands]
 |lookup t x i ok=>simp_all[dA,Op.operands]
 |_=>rfl
theorem Xt {f:Operand->Value} (op:Op) (j:∀x∈op.operands.toList,f x=d x):iT P f op=iT P d op:=by
 cases op with
 |alloc e=>rfl
 |box e x=>grind[iT,Op.operands]
 |buildSlice t len g=>
  simp only[iT];have:∀l:List (Nat×Operand),(∀p∈l,f p.2=d p.2)->l.map (fun p=>(p.1,f p.2))=l.map fun p=>(p.1,d p.2):=by
   intro l m;induction l with
   |nil=>rfl
   |cons p l n=>grind
  grind[Op.operands]
 |makeSlice t l c=>grind[iT,Op.operands]
 |makeMap t r=>
  cases r with
  |none=>rfl
  |some x=>grind[iT,Op.operands]
 |_=>rfl
theorem Gi {c:Call} {x:Operand} (h:x∈c.args.toList):x∈(Op.call c).operands.toList:=by
 grind[Op.operands,Call.operands,Array.toList_append]
theorem ft {R:mE} {j e:Operand->Value} {h:AH} (op:Op) (l:∀x∈op.operands.toList,j x=e x):eX P R j h op=eX P R e h op:=by
 cases op with
 |store t a x=>grind[eX,Op.operands]
 |mapUpdate t m k x=>grind[eX,Op.operands]
 |call c=>
  have p:=zP _ fun x n=>l x<|Gi n;obtain⟨callee,g,d⟩:=c;cases callee with
  |builtin b=>grind[eX]
  |value f=>
   grind[Op.operands,Call.operands,eX]
  |invoke r m=>rfl
 |_=>rfl
theorem Zk {e:Operand->Value} {h:AH} (op:Op) (f:∀x∈op.operands.toList,e x=d x):fT P e h op=fT P d h op:=by
 cases op with
 |call c=>
  grind[zP,Gi,builtin,fT]
 |_=>exact Ws (P:=P) (h:=h) _ f
def tK (g c:AH):Prop:=∀i o,g.get i=some o->c.get i=some o
theorem P5 (e:tK g c) (h:dE g a n=some l):dE c a n=some l:=by
 rw[dE] at h ⊢;split at h;cases h;rename_i f;rw[aXf f];split at h;rename_i d;rwa [e _ _ d];cases h
theorem pg (e:tK g c) (h:xW P g t a=some v):xW P c t a=some v:=by
 rw[xW] at h ⊢;split at h;grind[Option.map_eq_some_iff,P5];split at h;cases h;rename_i f;rw[aXf f];split at h;rename_i d;rwa [e _ _ d];cases h;cases h
theorem ee (m:tK g c) {f e j:EO} (h:B5 P g t x f e j=some v):B5 P c t x f e j=some v:=by
 have n:∀i b,qU g i=some b->qU c i=some b:=by
  intro i b d;rw[qU] at d ⊢;split at d;rename_i l;rwa [m _ _ l];cases d
 unfold B5 at h ⊢;split at h;exact h;split at h;split at h;grind;cases h;cases h;exact h;cases h
theorem Zm (e:tK g c) (h:pj g x=some es):pj c x=some es:=by
 unfold pj at h ⊢;split at h;exact h;split at h;rename_i d;rwa [e _ _ d];cases h;cases h
theorem Wz (d:tK g c) {i:Value} {ok:Bool} (h:zD P g t x i ok=some v):zD P c t x i ok=some v:=by
 unfold zD at h ⊢;grind[Zm]
theorem aJg (f:tK g c) {b:Builtin} (hb:qW b=true) (at_:Array TypeId) (args:EK) (h:(gW P g b at_ args).map (·.1)=some v):(gW P c b at_ args).map (·.1)=some v:=by
 rw[<-h];cases b<;>simp only[qW] at hb<;>try cases hb
 rcases args with _|⟨x,_|⟨y,l⟩⟩;rfl;simp only[gW] at h ⊢;split;rfl;rfl;rfl;rename_i y _ _ _ _ e;cases hm:pj g y with
 |none=>grind
 |some d=>grind[Zm]
 rfl;rfl;rcases args with _|⟨x,_|⟨y,_|⟨z,l⟩⟩⟩;rfl;cases x<;>rfl;cases x<;>cases y<;>rfl;cases x<;>cases y<;>rfl
theorem pf {j:AH} (l:tK g j) {f:Operand->Value} (h:fT P f g op=some v):fT P f j op=some v:=by
 cases op with
 |call c=>
  obtain⟨callee,e,d⟩:=c;cases callee with
  |builtin b=>
   simp only[fT] at h ⊢;split at h;grind[aJg];cases h
  |_=>grind[fT]
 |load t a=>
  simp[fT,dA] at h ⊢;grind[pg]
 |slice t x n m p=>simp[fT,dA] at h ⊢;grind[ee]
 |lookup t x i ok=>simp[fT,dA] at h ⊢;grind[Wz]
 |_=>simp_all[fT,dA]
mutual
theorem Q9:∀(a b:Value),rZ a b=true->a=b
 |.bool a,b,h=>FV
 |.int j a,b,h=>FV
 |.float _ _,b,h=>by simp[rZ] at h
 |.complex _ _ _,b,h=>by simp[rZ] at h
 |.string a,b,h=>by
  cases b<;>simp[rZ] at h;rename_i b;obtain⟨a⟩:=a;obtain⟨b⟩:=b;rw[eq_of_beq<|show(a==b)=true from h]
 |.pointer a,b,h=>FV
 |.slice a l c,b,h=>FV
 |.map a,b,h=>FV
 |.chan _,b,h=>by simp[rZ] at h
 |.func f x y,b,h=>by
  cases b<;>simp[rZ] at h;rename_i g c d;rw[h.1.1,Nh x c h.1.2,Nh y d h.2]
 |.nilFunc,b,h=>by grind[rZ]
 |.iface t v,b,h=>by
  cases b<;>simp[rZ] at h;rename_i u w;rw[h.1,Q9 v w h.2]
 |.nilIface,b,h=>by grind[rZ]
 |.agg x,b,h=>by
  cases b<;>simp[rZ] at h;rename_i c;rw[Nh x c h]
 |.tuple x,b,h=>by
  cases b<;>simp[rZ] at h;rename_i c;rw[Nh x c h]
theorem Nh:∀(a b:EP),aAp a b=true->a=b
 |⟨l⟩,b,h=>by
  have:=Nj l b.toList h;grind
theorem Nj:∀(l m:EK),Po l m=true->l=m
 |[],[],_=>rfl
 |[],_::_,h=>by simp[Po] at h
 |_::_,[],h=>by simp[Po] at h
 |a::l,b::m,h=>by
  simp[Po,dn] at h;rw[Q9 a b h.1,Nj l m h.2]
end
theorem H4 {acc c:EM}:∀(l:EM),(∀j∈l,acc[j]?=c[j]?)->zU acc l=zU c l
 |[],_=>rfl
 |j::l,h=>by
  simp only[zU];rw[H4 l fun y d=>h y<|eK _ d,ay,ay,h j ES]
theorem Qn {acc:EM} {i:Nat}:∀(l:EM),(zU acc l).testBit i=true->∃j∈l,i=j\/(acc.getD j 0).testBit i=true
 |[],h=>by simp[zU] at h
 |j::l,h=>by
  simp only[zU,Nat.testBit_or,BA] at h;rcases h with h|h|h;grind[List.mem_cons_self,Nat.one_shiftLeft];grind;have⟨k,hk,hh⟩:=Qn l h;grind
theorem H5:∀(os:List Oper) (acc:EM),(∀k o,os[k]?=some o->∀j∈gI o,j<acc.length+k)->
  (∀k,k<acc.length->(gN os acc)[k]?=acc[k]?)/\
  ∀k o,os[k]?=some o->(gN os acc)[acc.length+k]?=some (zU (gN os acc)<|gI o)
 |[],acc,_=>⟨fun k _=>rfl,ES⟩
 |o::os,acc,f=>by
  have g:=H5 os (acc++[zU acc<|gI o]) (by
   intro k l c j e;have:=f (k+1) l ES j e;grind)
  have d:∀k,k<acc.length->(gN (o::os) acc)[k]?=acc[k]?:=by
   intro k m;simp[gN];rw[g.1 k EW,p4 m]
  refine⟨d,?_⟩;intro k l c;cases k with
  |zero=>
   simp at c;subst c;simp[gN,AI];rw[g.1 acc.length EV,l9<|ba _];simp[BK,r5,Option.some.injEq];apply H4;intro j e;have n:j<acc.length:=by have:=f 0 o EV j e;omega
   grind
  |succ k=>
   grind[gN]
theorem Ps (l:∀k o,all[k]?=some o->∀j∈gI o,j<k) {D:EM} (hD:∀i∈D,∀o,all[i]?=some o->∀j∈gI o,j∈D):
  ∀(i:Nat) (o:Oper),all[i]?=some o->(∀j∈gI o,j∈D)->∀j,mS (gN all []) j i=true->j∈D:=by
 intro i
 induction i using Nat.strongRecOn with
 |ind i m=>
  intro o f d j e
  have g:=(H5 all [] ES).2 i o f
  simp[q6,AQ] at g
  rw[mS,ay,g,ss] at e
  have⟨j',hj',c⟩:=Qn _ e
  rcases c with p|c
  .grind
  .cases ho':all[j']? with
   |none=>
    grind
   |some n=>exact m j' (l i o f j' hj') n ho' ES j (by grind[mS])
def Fk (all:List Oper):EM->EM->Prop
 |D,[]=>∀i,i<all.length->i∈D
 |D,i::l=>i<all.length/\i∉D/\(∀o,all[i]?=some o->∀j∈gI o,j∈D)/\Fk all (D++[i]) l
theorem Mk {j:Nat}:j∈gI o↔∃e∈o.after,Region.binds .any e=true/\e.on=j:=by
 grind[gI]
theorem F5 {ops:Array Oper} (p:∀k o,ops.toList[k]?=some o->∀j∈gI o,j<k):∀(fuel t:Nat) (listed:Array Bool) (D:EM),listed.size=ops.size->
  (∀i,i<ops.size->(listed.getD i false=true↔i∈D))->((List.range ops.size).filter fun i=>decide<|i∉D).length<=fuel->
  Fk ops.toList D (Region.linearise.go .any ops fuel t listed [])
 |0,t,listed,D,m,v,u=>by
  simp_all[Region.linearise.go,List.reverse_nil,Fk]
 |fuel+1,t,listed,D,m,v,u=>by
  change Fk ops.toList D (match(Region.ready .any ops listed)[t % (Region.ready .any ops listed).length]? with
   |some i=>Region.linearise.go .any ops fuel (t/(Region.ready .any ops listed).length) _ [i]
   |none=>[].reverse)
  have g:∀i,i<ops.size->(listed.getD i true=false↔i∉D):=by
   grind
  cases hi:(Region.ready .any ops listed)[t % (Region.ready .any ops listed).length]? with
  |none=>
   have q:Region.ready .any ops listed=[]:=by
    cases z:Region.ready .any ops listed with
    |nil=>rfl
    |cons x J=>
     grind[Nat.mod_lt]
   intro i;induction i using Nat.strongRecOn with
   |ind i I=>
    intro l;rcases Classical.em (i∈D) with h|h;exact h;have c:i<ops.size:=by simpa using l
    have z:i∈Region.ready .any ops listed:=by
     rw[mem_ready];refine⟨ES,_,Array.getElem?_eq_getElem c,?_⟩;intro e C A;have y:=p i ops[i] (by simp[c]) e.on (Mk.2 ES);grind
    grind
  |some i=>
   simp[];rw[linearise_go_acc,List.reverse_singleton,List.singleton_append];have d:=fm hi;rw[mem_ready] at d;obtain⟨r,o,G,n⟩:=d;refine⟨ES,(g i<|ES).1 r,?_,?_⟩;grind[Mk];refine F5 p fuel _ _ _ ES ?_ ?_;intro j F;by_cases e:i=j;simp_all;simp_all[getD_set_ne,false,Ne.symm];have f:((List.range ops.size).filter fun j=>decide<|j∉D++[i])=(((List.range ops.size).filter fun j=>decide<|j∉D).filter fun j=>decide<|j≠i):=by
    rw[List.filter_filter];grind
   rw[f];have:((((List.range ops.size).filter fun j=>decide _).filter fun j=>decide<|j≠i).length<((List.range ops.size).filter fun j=>decide<|j∉D).length):=
    List.length_filter_lt_length_iff_exists.2 ⟨i,ES,EV⟩
   omega
variable {o':Obj}
section
variable {K:FuncId->EK->HQ}
structure Sf (P:Program) (B N:Nat) (ρ:jB) (h:AH) (w:World) (ρ':jB) (h':AH) (w':World):Prop where
 ext:A6 ρ ρ'
 inv:pK P B ρ' h' w'
 un:∀i,i<N->ρ i=none->ρ' i=none
 pF:∀i,i<N->ρ i=none->h'.get i=h.get i
 stay:∀i,i<N->h.get i=none->h'.get i=none
 frame:∀b,b<w.heap.size->(∀i s,h.base<=i->(h.get i).isSome->ρ i≠some (b,s))->w'.heap[b]?=w.heap[b]?
 range:∀i b s,h.base<=i->(h'.get i).isSome->ρ' i=some (b,s)->b<w.heap.size->∃j s',h.base<=j/\(h.get j).isSome/\ρ j=some (b,s')
 base:h'.base=h.base
 yR:∀i,i<h.base->h'.get i=h.get i
 size:w.heap.size<=w'.heap.size
 os:w'.os=w.os
 out:w'.output=w.output
 tape:w'.tape=w.tape
def Sf.Hr {h:AH} (e:Sf P B h.next ρ h w ρ' h' w') (c:h.next<=h'.next):mU P B ρ h w ρ' h' w':=
 {ext:=e.ext,inv:=e.inv,un:=e.un,pF:=e.pF,stay:=e.stay,frame:=e.frame,range:=e.range,base:=e.base,yR:=e.yR,next:=c,size:=e.size,os:=e.os,out:=e.out,tape:=e.tape}
theorem Sf.then {ρ1 ρ2:jB} {h m r:AH} {u v:World} (a:Sf P B N ρ h w ρ1 m u) (b:mU P B ρ1 m u ρ2 r v) (y:N<=m.next):Sf P B N ρ h w ρ2 r v where
 ext:=a.ext.trans b.ext
 inv:=b.inv
 un:=fun i c d=>b.un i ER<|a.un i c d
 pF:=fun i c d=>(b.pF i ER<|a.un i c d).trans<|a.pF i c d
 stay:=fun i c d=>b.stay i ER<|a.stay i c d
 frame:=fun x f d=>by
  refine(b.frame x (o0 f a.size) ?_).trans (a.frame x f d);intro i s n q p;rw[a.base] at n;have⟨j,t,e,g,l⟩:=a.range i x s n q p f;grind
 range:=fun i x s n q p f=>by
  obtain⟨j,t,e,g,l⟩:=b.range i x s HE q p<|o0 f a.size;rw[a.base] at e;exact a.range j x t e g l f
 base:=b.base.trans a.base
 yR:=fun i c=>(b.yR i HE).trans<|a.yR i c
 size:=hI a.size b.size
 os:=b.os.trans a.os
 out:=b.out.trans a.out
 tape:=b.tape.trans a.tape
theorem aE6 {y:AH} (e:Sf P B N ρ0 y w0 ρ g w) (T:N<=i) (O:i<g.next) (hb:y.base<=i) (hB:B<=w0.heap.size) (Q:ρ i=none)
  (c:w'.heap=w.heap.push o') (C:w'.os=w.os) (x:w'.output=w.output) (t:w'.tape=w.tape) (F:∀o,g.get i=some o->wP P (tC ρ i (w.heap.size,(0,0))) (0,0) o o'):
  Sf P B N ρ0 y w0 (tC ρ i (w.heap.size,(0,0))) g w':=by
 have p:A6 ρ (tC ρ i (w.heap.size,(0,0))):=A6.tC Q
 have l:=e.inv
 have z:∀j b s,(g.get j).isSome->ρ j=some (b,s)->b<w.heap.size:=fun j b s d q=>by
  have⟨o,ho⟩:=cO.1 d;have⟨o2,h2,_⟩:=l.oP j o ho b s q;grind
 have r:∀k,k<P.globals.size->k≠i:=fun k u M=>by
  have:=l.pO k u;grind
 refine {ext:=e.ext.trans p,inv:=?_,un:=?_,pF:=fun j d q=>e.pF j d q,stay:=e.stay,frame:=?_,range:=?_,base:=e.base,yR:=e.yR,size:=by rw[c];simp;exact tb e.size,os:=C.trans e.os,out:=x.trans e.out,tape:=t.trans e.tape}
 .refine {oP:=?_,inj:=?_,low:=?_,old:=?_,gO:=?_,jD:=l.jD,pO:=?_,size:=by rw[c];simp;exact tb l.size,bn:=l.bn}
  .intro j o L b s q;by_cases n:j=i
   .grind[bV]
   .rw[bY n] at q;have⟨o2,h2,h3⟩:=l.oP j o L b s q;refine⟨o2,?_,h3.mono p⟩;grind
  .intro j k b S sk d u v J f G;by_cases n:j=i
   .grind[bY,bV]
   .rw[bY n] at f;by_cases I:k=i
    .grind[bV]
    .rw[bY I] at G;exact l.inj j k b S sk d u v J f G
  .intro j b s d v f;by_cases n:j=i
   .subst n;rw[bV] at f;cases f;exact hI hB e.size
   .rw[bY n] at f;exact l.low j b s d v f
  .intro j b s d f;rw[e.base] at d;rw[bY ER] at f;exact l.old j b s (by rwa [e.base]) f
  .intro j d;rw[bY ER];exact l.gO j d
  .intro k u;rw[bY<|r k u];exact l.pO k u
 .intro j d q;rw[bY ER];exact e.un j d q
 .intro b m A;rw[c,CD,aXf<|by have:=e.size;omega];exact e.frame b m A
 .intro j b s d v f m;by_cases n:j=i
  .subst n;rw[bV] at f;cases f;have:=e.size;omega
  .rw[bY n] at f;exact e.range j b s d v f m
theorem fe {u:AH} (e:Sf P B N ρ0 u w0 ρ g w) {o:oU} (Q:N<=i) (C:i<g.next) (hb:u.base<=i) (hB:B<=w0.heap.size)
  (z:∀b s,ρ i=some (b,s)->∃A,w.heap[b]?=some A/\wP P ρ s o A)
  (G:∀b s,ρ i=some (b,s)->w0.heap.size<=b/\∀j M,u.base<=j->(g.get j).isSome->ρ j=some (b,M)->j=i):
  Sf P B N ρ0 u w0 ρ (g.set i<|some o) w:=by
 have n:=e.inv
 have f:∀j,(g.set i _).get j=if j=i then some o else g.get j:=fun j=>AH.kP (by rw[e.base];exact hb)
 have c:∀j,((g.set i<|some o).get j).isSome->j=i\/(g.get j).isSome:=ES
 refine {ext:=e.ext,inv:=?_,un:=e.un,pF:=?_,stay:=fun j d F=>by rw[f,aab];exact e.stay j d F,frame:=e.frame,range:=?_,base:=by simp;exact e.base,yR:=?_,size:=e.size,os:=e.os,out:=e.out,tape:=e.tape}
 .refine {oP:=?_,inj:=?_,low:=?_,old:=?_,gO:=?_,jD:=?_,pO:=n.pO,size:=n.size,bn:=by simp;exact n.bn}
  .intro j J m b s p;rw[f] at m;by_cases q:j=i
   .grind
   .rw[aXf q] at m;exact n.oP j J m b s p
  .intro j k b O sk d v m y p L;simp at d v;rcases c j m with q|l
   .rcases c k y with x|r
    .rw[q,x]
    .rw[e.base] at v;grind
   .rcases c k y with x|r
    .rw[e.base] at d;grind
    .exact n.inj j k b O sk d v l r p L
  .intro j b s d m p;simp at d;rcases c j m with q|l
   .grind
   .exact n.low j b s d l p
  .intro j b s d p;simp at d;exact n.old j b s d p
  .intro j d;simp at d;exact n.gO j d
  .intro j d;simp at d;rw[f,aab];exact n.jD j d
 .intro j d I;rw[f,aab];exact e.pF j d I
 .intro j b s d m p t;rcases c j m with q|l
  .grind
  .exact e.range j b s d l p t
 .intro j d;rw[f,aab];exact e.yR j d
theorem Ph {R:mE} {all:List Oper} {r0:Nat}:∀(os:List Oper) (i:Nat) (env:EK) (h:AH) (rs:List Rec) (e:EK) (d:AH),jV P R all r0 i os env h=some (rs,e,d)->
  ∃(E:Nat->EK) (H:Nat->AH) (V:Nat->Value),E 0=env/\H 0=h/\
   (∀j o,os[j]?=some o->gX P R all r0 (i+j) (E j) (H j) o=some (V j,H<|j+1)/\E (j+1)=pD (E j) o.dst (V j))/\
   E os.length=e/\H os.length=d/\∀j,j<os.length->rs[j]?=some ⟨E j,H j,V j⟩
 |[],i,env,h,rs,e,d,c=>by
  obtain⟨rfl,rfl,rfl⟩:=c;exact⟨fun _=>env,fun _=>h,fun _=>undef,rfl,rfl,ES,rfl,rfl,ES⟩
 |o::os,i,env,h,rs,e,d,c=>by
  simp[jV] at c;split at c;rename_i v l q;split at c;rename_i g p f;obtain⟨rfl,rfl⟩:=c;have⟨E,H,V,h1,h2,h3,m,n,h6⟩:=Ph os _ _ l g e d f;refine⟨fun j=>match j with|0=>env|j+1=>E j,fun j=>match j with|0=>h|j+1=>H j,fun j=>match j with|0=>v|j+1=>V j,rfl,rfl,?_,m,n,?_⟩;grind;grind;cases c;cases c
def Cz (all:List Oper) (V:Nat->Value) (e:EK) (D:EM):EK:=D.foldl (fun e i=>pD e ((all[i]?).bind (·.dst))<|V i) e
def aD7 {d:Option Tmp}:(pD e d v).length=e.length:=by cases d<;>simp[pD]
theorem en {d:Option Tmp} {t:Nat}:(pD e d v)[t]?=if d=some t then(if t<e.length then some v else none) else e[t]?:=by
 cases d with
 |none=>simp[pD]
 |some d=>
  grind[pD,Option.some.injEq]
theorem Pw {all:List Oper} {V:Nat->Value} {t:Nat}:∀(D:EM) (e:EK),(∀i∈D,(all[i]?).bind (·.dst)≠some t)->(Cz all V e D)[t]?=e[t]?
 |[],e,_=>rfl
 |i::D,e,h=>by
  show(Cz all V (pD e _ _) D)[t]?=_;rw[Pw D _ ES,en,aXf ES]
theorem q7 {all:List Oper} {V:Nat->Value} {t j:Nat} (d:(all[j]?).bind (·.dst)=some t) (f:∀i,(all[i]?).bind (·.dst)=some t->i=j):∀(D:EM) (e:EK),j∈D->(Cz all V e D)[t]?=if t<e.length then some (V j) else none
 |[],e,h=>EY
 |i::D,e,h=>by
  show(Cz all V (pD e _ _) D)[t]?=_;by_cases hD:j∈D;rw[q7 d f D _ hD,aD7];have c:i=j:=ES
  subst c;rw[Pw D _ ES,en,aXg d]
theorem Sy {t:Nat} (m:∀i j:Nat,(all[i]?).bind (·.dst)=some t->(all[j]?).bind (·.dst)=some t->i=j) {D c:EM}
  (g:∀j:Nat,(all[j]?).bind (·.dst)=some t->(j∈D↔j∈c)):(Cz all V e D)[t]?=(Cz all V e c)[t]?:=by
 rcases Classical.em (∃j,j∈D/\(all[j]?).bind (·.dst)=some t) with⟨j,f,l⟩|d
 .grind[q7]
 grind[Pw]
theorem Un {D:EM}:Cz all V e (D++[i])=pD (Cz all V e D) ((all[i]?).bind (·.dst)) (V i):=by
 unfold Cz;grind
structure Dr (P:Program) (R:mE) (all:List Oper) (r0:Nat) (E:Nat->EK) (H:Nat->AH) (V:Nat->Value):Prop where
 step:∀(j:Nat) o,all[j]?=some o->gX P R all r0 j (E j) (H j) o=some (V j,H<|j+1)
 env:∀(j:Nat) o,all[j]?=some o->E (j+1)=pD (E j) o.dst (V j)
 dir:∀(k:Nat) o,all[k]?=some o->∀j∈gI o,j<k
 kind:∀(k:Nat) o,all[k]?=some o->eM o.op≠.Et
 Fq:∀i j:Nat,∀t,(all[i]?).bind (·.dst)=some t->(all[j]?).bind (·.dst)=some t->i=j
 tmps:∀i j:Nat,∀o p d,all[i]?=some o->all[j]?=some p->i≠j->p.dst=some d->d∈Hh all o->(j<i->mS (gN all []) j i=true)/\(i<j->mS (gN all []) i j=true)
 Ay:∀i j:Nat,∀o p,all[i]?=some o->all[j]?=some p->eD o.op=true->eD p.op=true->j<i->mS (gN all []) j i=true
 flt:∀i s:Nat,∀o,all[i]?=some o->kO o.op=true->s<=all.length->(s=all.length\/∃p,all[s]?=some p/\eD p.op=true)->
  (∀j p,all[j]?=some p->eD p.op=true->(j<s->mS (gN all []) i j=false)/\(s<=j->mS (gN all []) j i=false))->
  ¬(i<s/\∀j p,i<j->j<s->all[j]?=some p->eD p.op=false)->
  eY ⟨all⟩ (E i) o=some true->fT P (eC P<|E i) (H s) o.op=some (V i)
structure St (P:Program) (B:Nat) (all:List Oper) (r0:Nat) (E:Nat->EK) (H:Nat->AH) (V:Nat->Value) (ρ0:jB) (h:AH) (w0:World) (D:EM) (s:Nat) (ρ:jB) (w:World) (tmps:EK):Prop where
 Hr:Sf P B r0 ρ0 h w0 ρ (H s) w
 dlt:∀i∈D,i<all.length
 qH:∀i∈D,∀o,all[i]?=some o->∀j∈gI o,j∈D
 s1:∀(j:Nat) o,j<s->all[j]?=some o->eD o.op=true->j∈D
 s3:∀(j:Nat) o,all[j]?=some o->eD o.op=true->j∈D->j<s
 sle:s<=all.length
 env:bH ρ (Cz all V (E 0) D) tmps
 nx:r0+all.length<=(H s).next
 Hg:∀(i:Nat) o b f,s<=i->i∈D->all[i]?=some o->eY ⟨all⟩ (E i) o=some true->iT P (eC P<|E i) o.op=some (b,f)->eM o.op= .alloc->
  ∃n o',ρ (r0+i)=some (n,(0,0))/\w.heap[n]?=some o'/\wP P ρ (0,0) b o'
 Be:∀i n t,i<all.length->ρ (r0+i)=some (n,t)->w0.heap.size<=n/\n<w.heap.size
 lone:∀i n t,s<=i->i<all.length->ρ (r0+i)=some (n,t)->∀j s',h.base<=j->((H s).get j).isSome->ρ j≠some (n,s')
 M8:∀i i' n t t',i<all.length->i'<all.length->ρ (r0+i)=some (n,t)->ρ (r0+i')=some (n,t')->i=i'
 tz:∀i,i<all.length->i∉D->ρ (r0+i)=none
 unA:∀(i:Nat) o,all[i]?=some o->¬(eM o.op= .alloc/\eY ⟨all⟩ (E i) o=some true)->ρ (r0+i)=none
 rev:∀(i:Nat) o b f,i<s->i∉D->all[i]?=some o->eY ⟨all⟩ (E i) o=some true->iT P (eC P<|E i) o.op=some (b,f)->eM o.op= .alloc->(H s).get (r0+i)=some b
 vb:∀j,s<=j->j<all.length->(H s).get (r0+j)=none
 gr:∀m,m<=s->(∀(j:Nat) p,m<=j->j<s->all[j]?=some p->eD p.op=false)->tK (H m) (H s)
def aC8 (all:List Oper) (D:EM) (s:Nat):Prop:=s=all.length\/∃o,all[s]?=some o/\eD o.op=true/\s∉D
variable {R:mE} {r0:Nat} {h:AH} {D:EM} {s:Nat}
theorem P0 (h:kO op=true):eM op= .Cr\/eM op= .call:=by
 cases op<;>simp[kO,eM] at h ⊢
theorem Ad (h:kO op=true):eD op=false/\eM op≠.alloc:=by
 grind[P0,eD]
theorem Dr.cases (d:Dr P R all r0 E H V) {i:Nat} {o:Oper} (j:all[i]?=some o):
  (eY ⟨all⟩ (E i) o=some false/\V i=undef/\H (i+1)=H i)\/
  (eY ⟨all⟩ (E i) o=some true/\kO o.op=true/\fT P (eC P<|E i) (H i) o.op=some (V i)/\H (i+1)=H i)\/
  (eY ⟨all⟩ (E i) o=some true/\eM o.op= .alloc/\∃b f,iT P (eC P<|E i) o.op=some (b,f)/\V i=f (r0+i)/\H (i+1)=(H i).set (r0+i) (some b))\/
  (eY ⟨all⟩ (E i) o=some true/\eD o.op=true/\eX P R (eC P<|E i) (H i) o.op=some (V i,H<|i+1)):=by
 have c:=d.step i o j
 have n:=d.kind i o j
 rw[gX] at c
 split at c
 .cases c
 .grind
 .rename_i m;split at c
  .grind[Option.map_eq_some_iff]
  .rename_i g;split at c
   .grind[Option.map_eq_some_iff]
   .refine .inr (.inr<|.inr ⟨m,?_,c⟩);simp only[eD,g,EE,CV];have l:eM o.op≠.Cr:=by
     intro e;apply g;cases hop:o.op<;>rw[hop] at e<;>simp[eM] at e<;>simp[kO,eM]
    cases hkk:eM o.op with
    |Cr=>grind
    |alloc=>grind
    |store=>rfl
    |call=>rfl
    |Et=>grind
theorem Dr.aP8 (d:Dr P R all r0 E H V):∀i,i<=all.length->E i=Cz all V (E 0) (List.range i)
 |0,_=>rfl
 |i+1,e=>by
  have c:all[i]?=some all[i]:=ES;rw[d.env i _ c,d.aP8 i ER,er,Un,c];rfl
def St.Ra (d:Dr P R all r0 E H V) (st:St P B all r0 E H V ρ0 h w0 D s ρ w tmps) (f:all[i]?=some o) (c:∀j∈gI o,j∈D) {j:Nat} (e:mS (gN all []) j i=true):j∈D:=
 Ps d.dir st.qH i o f c j e
theorem St.aI6 (d:Dr P R all r0 E H V) (st:St P B all r0 E H V ρ0 h w0 D s ρ w tmps) (m:all[i]?=some o) (hD:i∉D) (e:∀j∈gI o,j∈D) {t:Nat} (u:t∈Hh all o):
  (Cz all V (E 0) D)[t]?=(E i)[t]?:=by
 have v:i<all.length:=ES
 rw[d.aP8 i ER]
 refine Sy (fun a b n q=>d.Fq a b t n q) fun j l=>?_
 rw[k7]
 cases hp:all[j]? with
 |none=>grind
 |some p=>
  rw[hp] at l
  by_cases g:j=i
  .grind
  .have⟨h1,h2⟩:=d.tmps i j o p t m hp (Ne.symm g) l u;constructor
   .intro f;rcases ts j i with c|r
    .exact c
    .exfalso;exact hD<|Ps d.dir st.qH j p hp (st.qH j f p hp) i<|h2 ER
   .intro c;exact st.Ra d m e<|h1 c
theorem St.ev (d:Dr P R all r0 E H V) (st:St P B all r0 E H V ρ0 h w0 D s ρ w tmps) (e:all[i]?=some o) (hD:i∉D) (c:∀j∈gI o,j∈D):
  ∀x∈o.op.operands.toList,eC P (Cz all V (E 0) D) x=eC P (E i) x:=by
 intro x f
 cases x with
 |tmp t=>
  have:=st.aI6 d e hD c (t:=t) (by grind[Hh])
  grind[eC]
 |_=>rfl
theorem St.wanted (d:Dr P R all r0 E H V) (st:St P B all r0 E H V ρ0 h w0 D s ρ w tmps) (e:all[i]?=some o) (hD:i∉D) (c:∀j∈gI o,j∈D):
  eY ⟨all⟩ (Cz all V (E 0) D) o=eY ⟨all⟩ (E i) o:=by
 unfold eY
 cases hg:o.guard with
 |none=>rfl
 |some x=>
  obtain⟨j,gM⟩:=x
  simp only
  cases hj:((⟨all⟩:Array Oper)[j]?).bind _ with
  |none=>rfl
  |some t=>
   have:=st.aI6 d e hD c (t:=t) (by grind[Hh])
   grind
theorem St.zw (d:Dr P R all r0 E H V) (st:St P B all r0 E H V ρ0 h w0 D s ρ w tmps) (n:aC8 all D s) (l:all[i]?=some o) (hD:i∉D) (c:∀j∈gI o,j∈D) (v:kO o.op=true) (y:eY ⟨all⟩ (E i) o=some true):
  fT P (eC P<|E i) (H s) o.op=some (V i):=by
 rcases Classical.em (i<s/\∀j p,i<j->j<s->all[j]?=some p->eD p.op=false) with⟨A,C⟩|g
 .rcases d.cases l with⟨z,_⟩|⟨_,_,x,_⟩|⟨_,u,_⟩|⟨_,u,_⟩
  .grind
  .refine pf (st.gr i ER fun j p r t e=>?_) x;grind[Ad]
  .grind[absurd,Ad]
  grind[Ad]
 .refine d.flt i s o l v st.sle (n.imp id ES) ?_ g y;intro j p e m;constructor
  .intro f;cases ha:mS _ i j with
   |false=>rfl
   |true=>exact absurd (Ps d.dir st.qH j p e (st.qH j (st.s1 j p f e m) p e) i ha) hD
  .intro q;cases ha:mS _ j i with
   |false=>rfl
   |true=>
    have:=st.s3 j p e m<|st.Ra d l c ha
    omega
end
variable {K:FuncId->EK->HQ}
variable {R:mE} {r0:Nat} {h:AH} {D:EM} {s:Nat}
theorem tK.refl (g:AH):tK g g:=fun _ _ h=>h
def tK.trans {a b:AH} (h:tK a b) (k:tK b c):tK a c:=fun i o x=>k i o<|h i o x
theorem St.aQ6 (d:Dr P R all r0 E H V) (β:h.base<=r0) (hB:B<=w0.heap.size) (st:St P B all r0 E H V ρ0 h w0 D s ρ w tmps) (Y:all[s]?=some o) (hh:eD o.op=false):
  St P B all r0 E H V ρ0 h w0 D (s+1) ρ w tmps:=by
 have y:s<all.length:=ES
 have C:∀(j:Nat) p,j<s+1->all[j]?=some p->eD p.op=true->j∈D:=fun j p q r l=>by
  by_cases e:j=s;grind;exact st.s1 j p ER r l
 have wS:H _=H s->¬(eM o.op= .alloc/\eY ⟨all⟩ (E s) o=some true)->St P B all r0 E H V ρ0 h w0 D _ ρ w tmps:=fun c α=>
  {Hr:=by rw[c];exact st.Hr,dlt:=st.dlt,qH:=st.qH,s1:=C,s3:=fun j p r l q=>DP<|st.s3 j p r l q,sle:=y,env:=st.env,nx:=by rw[c];exact st.nx
   Hg:=fun i p b f z=>st.Hg i p b f ER,Be:=st.Be,lone:=fun i n t z=>by rw[c];exact st.lone i n t ER,M8:=st.M8,tz:=st.tz,unA:=st.unA
   rev:=fun i p b f z hD r F M G=>by
    rw[c];by_cases e:i=s;grind;exact st.rev i p b f ER hD r F M G
   vb:=fun j q=>by rw[c];exact st.vb j ER
   gr:=fun m hm T=>by
    by_cases e:m=s+1;grind[tK.refl];rw[c];exact st.gr m ER ES}
 rcases d.cases Y with⟨F,_,c⟩|⟨F,hl,_,c⟩|⟨F,G,b,f,M,_,c⟩|⟨_,G,_⟩
 .grind
 .grind[Ad]
 .have O:(H s).base<=r0+s:=by rw[st.Hr.base];omega
  have g:∀j,(H _).get j=if j=r0+s then some b else(H s).get j:=fun j=>by rw[c];grind[AH.kP]
  have v:∀j,((H<|s+1).get j).isSome->j=r0+s\/((H s).get j).isSome:=ES
  refine {Hr:=?_,dlt:=st.dlt,qH:=st.qH,s1:=C,s3:=fun j p r l q=>DP<|st.s3 j p r l q,sle:=y,env:=st.env,nx:=by rw[c];simp;exact st.nx,
             Hg:=fun i p b f z=>st.Hg i p b f ER,Be:=st.Be,lone:=?_,M8:=st.M8,tz:=st.tz,unA:=st.unA,rev:=?_,vb:=?_,gr:=?_}
  .rw[c];refine fe st.Hr ER FK ER hB ?_ ?_
   .intro n t u;by_cases hD:s∈D
    .have⟨n',o',h1,h2,h3⟩:=st.Hg s o b f (ba _) hD Y F M G;grind
    .rw[st.tz s y hD] at u;cases u
   .intro n t u;exact⟨(st.Be s n t y u).1,fun j I q J X=>absurd X<|st.lone s n t (ba _) y u j I q J⟩
  .intro i n t z A u j I q J;rcases v j J with ej|L
   .subst ej;intro X;have:=st.M8 i s n t I A y u X;omega
   .exact st.lone i n t ER A u j I q L
  .intro i p Z f' z hD r U N S;rw[g];by_cases e:i=s
   .grind
   .rw[aab];exact st.rev i p Z f' ER hD r U N S
  .intro j q Q;rw[g,aab];exact st.vb j ER Q
  .intro m hm T;by_cases e:m=s+1
   .grind[tK.refl]
   .apply(st.gr m ER ES).trans;intro j x W;rw[g,aXf]
    .exact W
    .rintro rfl;rw[st.vb s (ba _) y] at W;cases W
 grind
theorem St.X3 (d:Dr P R all r0 E H V) (c:h.base<=r0) (hB:B<=w0.heap.size):∀(n s:Nat),all.length - s=n->St P B all r0 E H V ρ0 h w0 D s ρ w tmps->∃f,St P B all r0 E H V ρ0 h w0 D f ρ w tmps/\aC8 all D f
 |0,s,g,st=>⟨s,st,.inl<|by have:=st.sle;omega⟩
 |n+1,s,g,st=>by
  have e:all[s]?=some all[s]:=ES;cases hh:eD _ with
  |true=>exact⟨s,st,.inr ⟨_,e,hh,fun hD=>by have:=st.s3 s _ e hh hD;omega⟩⟩
  |false=>exact St.X3 d c hB n (s+1) ER<|st.aQ6 d c hB e hh
theorem Ee (hc:∀i∈D,∀o,all[i]?=some o->∀j∈gI o,j∈D) (d:all[i]?=some o) (c:∀j∈gI o,j∈D):
  ∀k∈D++[i],∀p,all[k]?=some p->∀j∈gI p,j∈D++[i]:=by
 grind
def Qc (f:all[i]?=some o) {d:Value} (c:bH ρ (Cz all V (E 0) D) tmps) (g:aZ ρ (V i) d):bH ρ (Cz all V (E 0)<|D++[i]) (pD tmps o.dst d):=by
 rw[Un,f];simp[AT];cases o.dst with
 |none=>exact c
 |some e=>exact c.set e g
theorem St.value (st:St P B all r0 E H V ρ0 h w0 D s ρ w tmps) (q:all[i]?=some o) (e:∀j∈gI o,j∈D) (y:eD o.op=false) (u:¬(eM o.op= .alloc/\eY ⟨all⟩ (E i) o=some true))
 (v:aZ ρ (V i) r):St P B all r0 E H V ρ0 h w0 (D++[i]) s ρ w (pD tmps o.dst r) where
 Hr:=st.Hr
 dlt:=fun k c=>by
  rcases cL.1 c with h1|h1;exact st.dlt k h1;grind
 qH:=Ee st.qH q e
 s1:=fun j p l g d=>CX _<|st.s1 j p l g d
 s3:=fun j p g d l=>by
  rcases cL.1 l with h1|h1;exact st.s3 j p g d h1;grind
 sle:=st.sle
 env:=Qc q st.env v
 nx:=st.nx
 Hg:=fun k p b f c m g x t n=>by
  rcases cL.1 m with h1|h1;exact st.Hg k p b f c h1 g x t n;grind
 Be:=st.Be
 lone:=st.lone
 M8:=st.M8
 tz:=fun k c hD=>st.tz k c ES
 unA:=st.unA
 rev:=fun k p b f c hD=>st.rev k p b f c ES
 vb:=st.vb
 gr:=st.gr
theorem St.block (st:St P B all r0 E H V ρ0 h w0 D s ρ w tmps) (α:h.base<=r0) (hB:B<=w0.heap.size) (Q:all[i]?=some o) (hD:i∉D) (J:∀j∈gI o,j∈D) (W:eM o.op= .alloc) (hw:eY ⟨all⟩ (E i) o=some true)
  {b:oU} {f:Nat->Value} (ha:iT P (eC P<|E i) o.op=some (b,f)) (hb:wP P ρ (0,0) b o') {v':Value} (hv:aZ (tC ρ (r0+i) (w.heap.size,(0,0))) (V i) v'):
  St P B all r0 E H V ρ0 h w0 (D++[i]) s (tC ρ (r0+i) (w.heap.size,(0,0))) (w.alloc o') (pD tmps o.dst v'):=by
 have L:i<all.length:=ES
 have hn:=st.tz i L hD
 have l:A6 ρ (tC ρ _ (w.heap.size,(0,0))):=A6.tC hn
 have c:∀k,k≠i->tC ρ (r0+i) (w.heap.size,(0,0)) _=ρ (r0+k):=fun k W=>bY ER
 have X:∀j n t,((H s).get j).isSome->ρ j=some (n,t)->n<w.heap.size:=fun j n t z g=>by
  have⟨x,v⟩:=cO.1 z;have⟨o2,h2,_⟩:=st.Hr.inv.oP j x v n t g;grind
 have O:eD o.op=false:=by simp[eD,W]
 refine {Hr:=?_,dlt:=?_,qH:=Ee st.qH Q J,s1:=fun j p z r F=>CX _<|st.s1 j p z r F,s3:=?_,sle:=st.sle,env:=Qc Q (bH.mono l _ _ st.env) hv,nx:=st.nx,
           Hg:=?_,Be:=?_,lone:=?_,M8:=?_,tz:=?_,unA:=?_,rev:=?_,vb:=st.vb,gr:=st.gr}
 .refine aE6 st.Hr ER FK ER hB hn rfl rfl rfl rfl ?_;intro x v;rcases ts i s with h1|h1
  .rw[st.rev i o b f h1 hD Q hw ha W] at v;cases v;exact hb.mono l
  .rw[st.vb i h1 L] at v;cases v
 .intro k A;rcases cL.1 A with h1|h1
  .exact st.dlt k h1
  grind
 .intro j p r F z;rcases cL.1 z with h1|h1
  .exact st.s3 j p r F h1
  grind
 .intro k p S T m C r Z y A;by_cases e:k=i
  .subst e;rw[Q] at r;cases r;rw[ha] at y;cases y;exact⟨_,o',bV,by show(w.heap.push o')[w.heap.size]?=some o';simp,hb.mono l⟩
  .have M:k∈D:=by
    rcases cL.1 C with h1|h1;exact h1;grind
   have⟨n,o2,h1,h2,h3⟩:=st.Hg k p S T m M r Z y A
   refine⟨n,o2,ES,?_,h3.mono l⟩
   grind[Array.getElem?_eq_some_iff,World.alloc]
 .intro k n t d g;by_cases e:k=i
  .subst e;rw[bV] at g;cases g;exact⟨st.Hr.size,EV⟩
  .rw[c k e] at g;have:=st.Be k n t d g;exact⟨this.1,EW⟩
 .intro k n t m d g j s' z U;by_cases e:k=i
  .subst e;rw[bV] at g;cases g;by_cases N:j=r0+k
   .subst N;rw[st.vb k m d] at U;cases U
   grind[bY]
  .rw[c k e] at g;by_cases N:j=r0+i
   .subst N;rw[bV];intro v;cases v;have:=(st.Be k w.heap.size t d g).2;omega
   .rw[bY N];exact st.lone k n t m d g j s' z U
 .intro k G n t t' d u g q;by_cases e:k=i
  .by_cases I:G=i
   .rw[e,I]
   .subst e;rw[bV] at g;cases g;rw[c G I] at q;have:=(st.Be G w.heap.size t' u q).2;omega
  .rw[c k e] at g;by_cases I:G=i
   .subst I;rw[bV] at q;cases q;have:=(st.Be k w.heap.size t d g).2;omega
   .rw[c G I] at q;exact st.M8 k G n t t' d u g q
 .intro k d C;rw[c k ES];exact st.tz k d ES
 .intro k p r Y;rw[c k ES];exact st.unA k p r Y
 .intro k p S T m C;exact st.rev k p S T m ES
theorem St.aTa (st:St P B all r0 E H V ρ0 h w0 D s ρ w tmps) (U:all[s]?=some o) (Y:s∉D) (hh:eD o.op=true) (z:∀j∈gI o,j∈D) {ρ1:jB} {X:World} (d:mU P B ρ (H s) w ρ1 (H<|s+1) X) {W:Value} (Z:aZ ρ1 (V s) W):
  St P B all r0 E H V ρ0 h w0 (D++[s]) (s+1) ρ1 X (pD tmps o.dst W):=by
 have Q:s<all.length:=ES
 have m:∀k x,k<all.length->ρ1 _=some x->ρ _=some x:=fun k x g C=>by
  cases hx:ρ (r0+k) with
  |none=>
   have:=d.un _ FK hx;rw[C] at this;cases this
  |some y=>have:=d.ext _ _ hx;grind
 refine {Hr:=st.Hr.then d FK,dlt:=?_,qH:=Ee st.qH U z,s1:=?_,s3:=?_,sle:=Q,env:=Qc U (bH.mono d.ext _ _ st.env) Z,nx:=hI st.nx d.next,
           Hg:=?_,Be:=?_,lone:=?_,M8:=?_,tz:=?_,unA:=?_,rev:=?_,vb:=?_,gr:=?_}
 .intro k g;rcases cL.1 g with h1|h1
  .exact st.dlt k h1
  grind
 .intro j p A l u;by_cases e:j=s
  .simp[e]
  .exact CX _ (st.s1 j p ER l u)
 .intro j p l u A;rcases cL.1 A with h1|h1
  .exact DP (st.s3 j p l u h1)
  grind
 .intro k p b f g q l S J r;have c:k∈D:=by
   rcases cL.1 q with h1|h1;exact h1;grind
  have⟨n,o',h1,G,I⟩:=st.Hg k p b f ER c l S J r
  refine⟨n,o',d.ext _ _ h1,?_,I.mono d.ext⟩
  rw[d.frame n ES fun j t A F=>st.lone k n (0,0) ER (st.dlt k c) h1 j t (by rwa [<-st.Hr.base]) F]
  exact G
 .intro k n t g C;have:=st.Be k n t g ES;exact⟨this.1,o0 this.2 d.size⟩
 .intro k n t N g C j T A F rj;have v:=m k _ g C;obtain⟨j',t2,h1,G,I⟩:=d.range j n T (by rwa [st.Hr.base]) F rj<|(st.Be k n t g v).2;exact st.lone k n t ER g v j' t2 (by rwa [<-st.Hr.base]) G I
 .intro k k' n t T g M C v;exact st.M8 k k' n t T g M ES ES
 .intro k g q;exact d.un _ FK<|st.tz k g ES
 .intro k p l O;exact d.un _ (by have:=st.nx;grind)<|st.unA k p l O
 .intro k p b f g q l S J r;have N:k≠s:=ES;have c:k∉D:=ES;rw[d.pF _ FK<|st.tz k (eh.1 l).1 c];exact st.rev k p b f ER c l S J r
 .intro j A L;exact d.stay _ FK<|st.vb j ER L
 grind[tK.refl]
def Dp {a:Act} {d:Option Tmp}:(a.put d v).tmps.toList=pD a.tmps.toList d v:=by cases d<;>simp[Act.put,pD]
theorem Qs (C:Lc P B K) (hR:Gc C R) {ops:Array Oper} (Q:ops.toList=all) (d:Dr P R all r0 E H V) (X:h.base<=r0) (hB:B<=w0.heap.size) (δ:pK P B ρ0 h w0) (γ:C.G w0) {b:Frame} {cs:List Frame} {k:List Item}:
  ∀(l:EM) (D:EM) (s:Nat) (ρ:jB) (w:World) (a:Act),Fk all D l->aC8 all D s->St P B all r0 E H V ρ0 h w0 D s ρ w a.tmps.toList->
   ∃S ρ' Z L,St P B all r0 E H V ρ0 h w0 S all.length ρ' Z L.tmps.toList/\(∀i,i<all.length->i∈S)/\L.defers=a.defers/\Steps P (lone (b.atR a (.inRegion ops l::k)) cs w) (lone (b.atR L (.inRegion ops []::k)) cs Z)
 |[],D,s,ρ,w,a,F,hf,st=>by
  have:s=all.length:=by
   rcases hf with h1|⟨o,z,_,hD⟩;exact h1;exact absurd (F s ES) hD
  subst this;exact⟨D,ρ,w,a,st,F,rfl,DK _ _⟩
 |i::l,D,s,ρ,w,a,F,hf,st=>by
  obtain⟨σ,hD,T,W⟩:=F;have z:all[i]?=some all[i]:=ES;have I:ops[i]?=some all[i]:=ES
  have r:ops=⟨all⟩:=by rw[<-Q]
  have m:=T _ z;generalize all[i]=o at z I m;have η:=st.wanted d z hD m;have q:=st.ev d z hD m;have hG:C.G w:=by
   have M:Below B w0 w:=⟨st.Hr.os,st.Hr.tape,st.Hr.out,st.Hr.size,fun x hx=>st.Hr.frame x ER fun j t hj gj hr=>absurd (δ.low j x t hj gj hr) ER⟩;exact C.On _ _ M γ
  have N:=E5 st.Hr.inv st.env;have go:∀(s1:Nat) (ρ1:jB) (w1:World) (a1:Act),St P B all r0 E H V ρ0 h w0 (D++[i]) s1 ρ1 w1 a1.tmps.toList->a1.defers=a.defers->Steps P (lone (b.atR a (.inRegion ops (i::l)::k)) cs w) (lone (b.atR a1 (.inRegion ops l::k)) cs w1)->
    ∃S ρ' Z L,St P B all r0 E H V ρ0 h w0 S all.length ρ' Z L.tmps.toList/\(∀i,i<all.length->i∈S)/\L.defers=a.defers/\Steps P (lone (b.atR a (.inRegion ops (i::l)::k)) cs w) (lone (b.atR L (.inRegion ops []::k)) cs Z):=by
   intro s1 ρ1 w1 a1 st1 κ ξ
   obtain⟨s2,st2,μ⟩:=st1.X3 d X hB _ _ rfl
   obtain⟨S,ρ',Z,L,g1,g2,g3,g4⟩:=Qs C hR Q d X hB δ γ l (D++[i]) s2 ρ1 w1 a1 W μ st2
   exact⟨S,ρ',Z,L,g1,g2,g3.trans κ,ξ.trans g4⟩
  have v:eD o.op=true->i=s:=by
   intro O;rcases ts i s with h1|h1;exact absurd (st.s1 i o h1 z O) hD;by_cases e:i=s;exact e;exfalso;rcases hf with h2|⟨p,hp,ν,ο⟩;omega;exact ο<|st.Ra d z m<|d.Ay i s o p z hp O ν ER
  rcases d.cases z with⟨hw,π,he⟩|⟨hw,hl,hv,he⟩|⟨hw,hk,bl,f,ha,τ,he⟩|⟨hw,O,hv⟩;have A:Region.wanted o (yielded ops a.tmps)=false:=by
   rw[r];exact uB st.env ES
  have J:step P (lone (b.atR a (.inRegion ops (i::l)::k)) cs w)= .next (lone (b.atR (a.put o.dst undef) (.inRegion ops l::k)) cs w):=by
   have:=stepR_op_skip (P:=P) (b:=b) (a:=a) (k:=k) (cs:=cs) (w:=w) (ops:=ops) (i:=i) (rest:=l) ES;grind
  have ζ:aZ ρ (V i) undef:=by rw[π];exact Af
  cases O:eD o.op with
  |true=>
   have U:=v O;subst U;refine go (i+1) ρ w _ ?_ rH<|.one J;rw[Dp];exact st.aTa z hD O m (by rw[he];exact mU.refl st.Hr.inv) ζ
  |false=>
   refine go s ρ w _ ?_ rH<|.one J;rw[Dp];exact st.value z m O ES ζ
  have A:Region.wanted o (yielded ops a.tmps)=true:=by
   rw[r];exact uB st.env ES
  have n:=st.zw d hf z hD m hl hw;rw[<-Zk o.op q] at n;have ε:∃Y,aZ ρ (V i) Y/\Steps P (lone (b.atR a (.inRegion ops (i::l)::k)) cs w) (lone (b.atR (a.put o.dst Y) (.inRegion ops l::k)) cs w):=by
   obtain⟨dst,op,ty,pos,after,guard⟩:=o;simp only at n hl;rcases P0 hl with hk|hk;have θ:dA P (eC P<|Cz all V (E 0) D) (H s) op=some (V i):=by
    cases op<;>first|exact n|grind[eM]
   have⟨Y,hr,y⟩:=Mg st.Hr.inv N {dst:=dst,op:=op,type:=ty,pos:=pos,after:=after,guard:=guard} θ;exact⟨Y,y,.one<|T4 I A (sE ES) hr⟩;cases op with
   |call c=>
    obtain⟨callee,G,α⟩:=c;cases callee with
    |builtin bi=>
     simp only[fT] at n;split at n;simp only[aV] at n;obtain⟨⟨u,g1⟩,ι,hu⟩:=n;subst hu;have⟨_,Y,y,hr⟩:=S7 st.Hr.inv (ty:=ty) (consts:=G.map fun|.const _=>true|_=>false) (by grind[qW]) (bH.Kg N _) ι;refine⟨Y,y,.one<|T4 I A ES ?_⟩;have:G.map a.eval=⟨G.toList.map a.eval⟩:=ES;grind[execOp,resolve,Sem.run_bind,Sem.run_pure,Result.andThen_ok,invoke];cases n
    |_=>grind[fT]
   |_=>simp[eM] at hk
  obtain⟨Y,y,hs⟩:=ε;refine go s ρ w _ ?_ rH hs;rw[Dp];exact st.value z m (Ad hl).1 (fun hx=>(Ad hl).2 hx.1) y;have A:Region.wanted o (yielded ops a.tmps)=true:=by
   rw[r];exact uB st.env ES
  have β:=ha;rw[<-Xt o.op q] at β;have⟨o',g,hb,hr,n⟩:=Mb (w:=w) N o β;refine go s (tC ρ (r0+i) (w.heap.size,(0,0))) _ _ ?_ rH<|.one<|T4 I A (sE ES) hr;rw[Dp];exact st.block X hB z hD m hk hw ha hb (by grind[bV]);have A:Region.wanted o (yielded ops a.tmps)=true:=by
   rw[r];exact uB st.env ES
  have U:=v O;subst U;rw[<-ft o.op q] at hv;have⟨ρ1,w1,v1,e1,r1,s1⟩:=D6 C hR st.Hr.inv hG N k cs I A (b:=b) (is:=l) hv;refine go (i+1) ρ1 w1 _ ?_ rH s1;rw[Dp];exact st.aTa z hD O m e1 r1
end Go.Ab
