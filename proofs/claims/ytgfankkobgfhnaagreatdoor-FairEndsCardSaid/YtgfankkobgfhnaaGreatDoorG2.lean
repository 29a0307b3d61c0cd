/- A part of the proof. -/
import Derived.Test.YtgfankkobgfhnaaGreatDoorG1
import Derived.RangeFuncIn
set_option linter.all false
open Go Go.Ab
variable {P:Program} {B i n:Nat} {ρ:nL} {w w':World} {p v x:Value} {l new:EU} {ty:TypeId} {s:Nat×Nat} {h' r:AH}
namespace Go.Ab
open Go.RowKit
variable {h:AH}
def gB.di (c:gB P B ρ h w) (d:w'.heap=w.heap):gB P B ρ h w' where
 yS:=fun i o e b s f=>by rw[d];exact c.yS i o e b s f
 inj:=c.inj
 low:=c.low
 old:=c.old
 iT:=c.iT
 lZ:=c.lZ
 xS:=c.xS
 size:=by rw[d];exact c.size
 bn:=c.bn
def aBt {e:Value} (c:aR ρ x e) (d:Gf x=some n):(Builtin.lenOf e).run P w= .ok n w:=by
 unfold Gf at d;split at d;rename_i a _ _;cases d;cases a with
 |none=>simp[aR] at c;subst c;rfl
 |some a=>
  obtain⟨_,_,sp⟩:=a;cases sp with
  |none=>simp only[aR] at c;obtain⟨_,_,_,_,_,_,rfl⟩:=c;rfl
  |some _=>simp only[aR] at c;obtain⟨rfl,_,_,_,_,_,rfl⟩:=c;rfl
 cases d
theorem zp (q:gB P B ρ h w) {size:Nat} (m:aR ρ x p) (d:nE h size n x=some new):
  ∃e,(Builtin.firstCells size n p).run P w= .ok ⟨e⟩ w/\bV ρ new e:=by
 unfold nE at d
 split at d
 .simp_all[aR,Builtin.firstCells,bV.nil]
 .rename_i a l c;split at d
  .rename_i j;cases d;subst j;obtain⟨_,_,sp⟩:=a;have t:∀g f,(Builtin.firstCells size 0<|.slice (some g) l f).run P w= .ok ⟨[]⟩ w:=fun g f=>FU
   cases sp with
   |none=>grind[aR,bV.nil]
   |some _=>grind[aR,bV.nil]
  .rename_i j;split at d
   .obtain⟨i,o,sp⟩:=a;cases sp with
    |none=>
     simp only[aR] at m;obtain⟨b,s,f,r,_,_,rfl⟩:=m
     have⟨l',hrun,hrel,_,_⟩:=B5 q r d
     exact⟨l',hrun,hrel⟩
    |some _=>grind[eE]
   .cases d
 .cases d
theorem Ss {z:Value} (d:z.cells=⟨l⟩) {size:Nat} (c:l.length=size) (n:Nat):Builtin.zeroCells z.cells n=⟨iE l n⟩:=by
 grind[Builtin.zeroCells,Dq]
variable {c':Nat}
theorem jz {c:Array TypeId} {F e:TypeId} {i:TypeInfo} {r:Value} {z:EU} {base':EX} {sLen:Nat} {j g:EU}
  (G:c[0]?=some F) (J:P.underlying F=some (.slice e)) (C:P.info? e=some i) (O:i.zero=some r) (x:r.cells=⟨z⟩)
  {u:TypeId} (I:c[1]?=some u) (q:P.underlying u=some .string\/∃y,P.underlying u=some (.slice y))
  (m:(Builtin.lenOf v).run P w= .ok n w) (t:¬sLen+n<=c') (A:(sLen+n)*(i.bytes+1)<=2^46)
  (hold:(Builtin.firstCells (P.cellsOf e) sLen<|.slice base' sLen c').run P w.drew= .ok ⟨j⟩ w.drew) (p:(Builtin.firstCells (P.cellsOf e) n v).run P w.drew= .ok ⟨g⟩ w.drew):
  (Builtin.append_ c ty #[.slice base' sLen c',v]).run P w=
   .ok (.slice (some ⟨w.heap.size,0,none⟩) (sLen+n)<|grownCap w (sLen+n) c' e) (w.drew.alloc<|.cells (⟨j⟩++⟨g⟩++Builtin.zeroCells r.cells (grownCap w (sLen+n) c' e - (sLen+n))) e):=by
 have M:(sLen+n)*i.bytes<=2^46:=FB
 have e2:sLen+n<=2^46:=FB
 have l:¬Builtin.nextslicecap (sLen+n) c'*i.bytes>2^48:=by
  have:=growslice_fits (need:=sLen+n) (old:=c') (bytes:=i.bytes) FA FA;omega
 have f:¬(((sLen+n:Nat):Int)>IntKind.i64.max/\(false=true\/i.bytes=0)):=by
  rw[IntKind.max_i64];intro N;omega
 have L:(Question.appendCap (sLen+n) c' e).forced=false:=rfl
 have t1:∀d,(typeInfo e).run P d= .ok i d:=fun d=>by simp[typeInfo,C]
 have t2:∀d,(sizeOf e).run P d= .ok _ d:=fun d=>lC C
 have t3:∀d,(zeroValue e).run P d= .ok r d:=fun d=>by simp_all[zeroValue,typeInfo]
 rcases q with q|⟨y,q⟩
 all_goals
  simp only[Builtin.append_,G,I,CW,r5,AO,c8,cr J,cr q,cb,t2,hT,
      aO,dd,m,t,t1,false_or]
  simp only[aO,false_or] at f
  rw[bA0 f]
  simp only[c8,run_choose,L,aO,dd,cb,run_askRoom,World.drew_eq,t1,l,hold,EO,ew,p,t3,newRow,c8,run_newObj,cb,hT,World.alloc_eq]
  rfl
theorem tK {c:Array TypeId} {r e m:TypeId} {i:TypeInfo} {base':EX} {sLen:Nat} {d:EU}
  (t:c[0]?=some r) (v:P.underlying r=some (.slice e)) (x:P.info? e=some i)
  (u:c[1]?=some m) (l:P.underlying m=some .string\/∃q,P.underlying m=some (.slice q))
  (f:(Builtin.lenOf p).run P w= .ok n w) (hle:sLen+n<=c') (g:(Builtin.firstCells (P.cellsOf e) n p).run P w= .ok ⟨d⟩ w):
  (Builtin.append_ c ty #[.slice base' sLen c',p]).run P w=
   match base' with
   |some a=>((storeCells (a.add<|sLen*P.cellsOf e) d).run P w).andThen fun _ j=> .ok (.slice base' (sLen+n) c') j
   |none=> .ok (.slice base' (sLen+n) c') w:=by
 have t2:∀j,(sizeOf e).run P j= .ok _ j:=fun j=>lC x
 rcases l with l|⟨q,l⟩
 all_goals
  simp only[Builtin.append_,t,u,CW,r5,AO,c8,cr v,cr l,cb,t2,hT,
      aO,dd,f,hle,ew,EO,g]
  cases base'<;>simp
theorem ey (e:gB P B ρ h w) {b:Nat} {u:vQ} (p:h.base<=i) (y:h.get i=some u) (z:ρ i=some (b,s)):sE P B ρ h w ρ (h.set i none) w:=by
 have f:∀j,(h.set i none).get j=if j=i then none else h.get j:=fun j=>AH.oF p
 have c:∀j,((h.set i none).get j).isSome->(h.get j).isSome/\j≠i:=FB;refine {ext:=F1.refl _,inv:=?_,un:=fun _ _ h=>h,sQ:=?_,stay:=FB,frame:=FB,range:=?_,base:=AH.o9,C8:=?_,next:=FF,size:=b0 _,os:=rfl,out:=rfl,tape:=rfl};refine {yS:=?_,inj:=?_,low:=?_,old:=?_,iT:=?_,lZ:=?_,xS:=e.xS,size:=e.size,bn:=by simp;exact e.bn};intro j v g r m l;have:=c j (by rw[g];rfl);rw[f,bA0 this.2] at g;exact e.yS j v g r m l;intro j k n m sk d q g t l x;simp at d q;exact e.inj j k n m sk d q (c j g).1 (c k t).1 l x;intro j n m d g l;simp at d;exact e.low j n m d (c j g).1 l;intro j n m d l;simp at d;exact e.old j n m d l;intro j d;simp at d;exact e.iT j d;intro j d;simp at d;rw[f];split;rfl;exact e.lZ j d;grind;grind;grind
theorem Z4 (I:gB P B ρ h w) {g:Array TypeId} {s s' x':Value} (F:aR ρ s s') (hx:aR ρ x x') (f:Q6 P h g s x=some (v,h')):
  ∃ρ' T v',sE P B ρ h w ρ' h' T/\aR ρ' v v'/\(Builtin.append_ g ty #[s',x']).run P w= .ok v' T:=by
 unfold Q6 at f
 split at f
 .rename_i e base d α n hd hn;split at f
  .cases f
  .rename_i hxk;split at f
   .rename_i z new hz ε;have⟨i,zv,hinf,hzero,hzr,hzc,hzl,hzz⟩:=Af (w:=w) hz;have ψ:zv.cells=⟨z⟩:=HR
    have hby:i.bytes=P.bytesOf e:=by simp[Program.bytesOf,hinf]
    split at f
    .cases f
    .rename_i W;simp only[BZ,AN,bne_iff_ne,ne_eq,not_or,Bool.not_eq_false,aW] at W;obtain⟨hall,hnl⟩:=W;have⟨sT,h0,hd⟩:∃sT,g[0]?=some sT/\P.underlying sT=some (.slice e):=by
      grind
     have⟨uT,h1,hu⟩:∃uT,g[1]?=some uT/\(P.underlying uT=some .string\/∃p,P.underlying uT=some (.slice p)):=by
      grind[Q9]
     have J:=aBt (P:=P) (w:=w) hx hn
     have⟨new',hnrun,hnrel⟩:=zp I hx ε
     have hnl':=hnrel.length
     have τ:gB P B ρ h w.drew:=I.di rfl
     split at f
     .rename_i hle;split at f
      .split at f
       .rename_i δ;cases f;subst δ;simp[aR] at F;subst F;refine⟨ρ,w,.slice none d α,sE.refl I,FK,?_⟩;grind[tK]
       .cases f
      .rename_i a;obtain⟨ai,r,β⟩:=a;split at f
       .rename_i δ;cases f;subst δ;have:new'=[]:=FB;subst this;have L:=F;cases β with
        |none=>
         simp only[aR] at F
         obtain⟨b,sp,l,Z,ξ,U,rfl⟩:=F
         refine⟨ρ,w,_,sE.refl I,L,?_⟩
         rw[tK h0 hd hinf h1 hu J FA hnrun]
         simp[storeCells]
        |some _=>
         simp only[aR] at F
         obtain⟨rfl,rfl,a',l,_,_,rfl⟩:=F
         refine⟨ρ,w,_,sE.refl I,L,?_⟩
         simp_all[tK,storeCells]
       .split at f
        .cases f
        .rename_i S;obtain rfl:β=none:=GK
         have L:=F
         simp only[aR] at F
         obtain⟨b,sp,l,Z,ξ,U,rfl⟩:=F
         have t:=tK (ty:=ty) (base':=some ⟨b,r+sp.2,none⟩) (sLen:=d) (c':=l) h0 hd hinf h1 hu J FA hnrun
         simp[fA] at t
         simp only[cg] at f
         obtain⟨h2,υ,f⟩:=f
         cases f
         rw[fA] at υ
         have⟨T,C,G,_⟩:=Ox I Z υ hnrel
         refine⟨ρ,T,.slice (some ⟨b,r+sp.2,none⟩) (d+n) l,G,?_,?_⟩
         .grind[aR]
         .rw[t];rw[show r+d*P.cellsOf e+sp.2=r+sp.2+d*P.cellsOf e by omega] at C;rw[C];rfl
     .rename_i π;split at f
      .rename_i hbig;have grown:∀(q:EX) (l:Nat) (M A:EU) (ρ0:nL) (γ:AH),¬d+n<=l->bV ρ M A->M.length=d*P.cellsOf e->
         (Builtin.firstCells (P.cellsOf e) d<|.slice q d l).run P w.drew= .ok ⟨A⟩ w.drew->sE P B ρ h w ρ γ w->γ.next=h.next->
         ∃ρ' T v',sE P B ρ h w ρ' (γ.alloc<|.cells (M++new) e (0,0) false) T/\aR ρ' (.slice (some ⟨h.next,0,none⟩) (d+n)<|d+n) v'/\(Builtin.append_ g ty #[.slice q d l,x']).run P w= .ok v' T:=by
        intro q l M A ρ0 γ σ hold hol hor G hnx
        have⟨new2,hnrun2,hnrel2⟩:=zp τ hx ε
        have t:=jz (ty:=ty) h0 hd hinf hzero ψ h1 hu J σ FB hor hnrun2
        have hcap:=grownCap_ge w (d+n) l e
        have hol':=hold.length
        have hn2:=hnrel2.length
        refine⟨_,_,_,G.trans<|I0 (s:=(grownCap w (d+n) l e - (d+n),0)) G.inv (w':=w.drew.alloc _) ⟨_,rfl,?_,?_,FB⟩ rfl rfl rfl rfl,?_,t⟩
        .have e1:(M++new).length=(A++new2).length:=by simp[cV];omega
         simp only[DN,l5]
         rw[e1,x0<|b0 _,BO]
         exact bV.mono (F1.C3<|G.inv.iT _<|b0 _) _ _<|hold.append hnrel2
        .grind[Array.size_append,size_zeroCells,List.size_toArray,List.length_append]
        .rw[hnx];simp only[aR];exact⟨_,_,_,cY,FA,FB,rfl⟩
       split at f
       .split at f
        .rename_i L;subst L;simp[aR] at F;subst F;simp[Option.some.injEq,Prod.mk.injEq] at f;obtain⟨rfl,rfl⟩:=f;have:=grown none α [] [] ρ h π bV.nil FF (by simp[Builtin.firstCells]) (sE.refl I) rfl;grind
        .cases f
       .rename_i a;obtain⟨ai,r,β⟩:=a;split at f
        .rename_i S;simp only at S;subst S;split at f
         .rename_i L;subst L;simp only[aR] at F;obtain⟨_,rfl,a',l,hc0,_,rfl⟩:=F;obtain rfl:=hc0 trivial;simp[Option.some.injEq,Prod.mk.injEq] at f;obtain⟨rfl,rfl⟩:=f;have:=grown (some a') 0 [] [] ρ h π bV.nil FF FU (sE.refl I) rfl;grind
         .cases f
        .split at f
         .rename_i S;simp only at S;subst S;split at f
          .rename_i c p fz xx hg;split at f
           .rename_i hc;obtain⟨rfl,m,rfl,ω,rfl,rfl⟩:=hc;simp only at ω m;simp[Option.some.injEq,Prod.mk.injEq] at f;obtain⟨rfl,rfl⟩:=f;simp only[aR] at F;obtain⟨_,_,a',l,_,U,rfl⟩:=F;have⟨b,sp,Z,hsp1,hpos⟩:=U trivial;obtain⟨ob,θ,cc,rfl,ζ,hsz,φ⟩:=I.yS _ _ hg b sp Z;by_cases y:0+n<=l
            .have δ:0<n:=FA
             obtain rfl:=hpos FA
             have μ:n*P.cellsOf p<=l*P.cellsOf p:=og _ FA
             have ν:l*P.cellsOf p<=sp.1*P.cellsOf p:=og _ hsp1
             have X:∀v∈new',v.oneCell'=true:=by
              intro v κ;have⟨j,hj⟩:=DF κ;have η:j<new.length:=by
               have:=(eh.1 hj).1;omega
              have⟨u,hu',hru⟩:=hnrel.get<|bj η;rw[hj] at hu';cases hu';exact hru.Ys FB
             obtain⟨T,C,N,ι,Y,O⟩:=uX (P:=P) rfl new' w cc (r+sp.2+0*P.cellsOf p) 0 θ X FA
             have t:=tK (ty:=ty) (base':=some ⟨b,r+sp.2,none⟩) h0 hd hinf h1 hu J y hnrun
             simp only[fA] at t
             have hb3:(l - n)*P.cellsOf p=l*P.cellsOf p - n*P.cellsOf p:=by rw[Nat.sub_mul]
             refine⟨_,T,.slice (some ⟨b,r+sp.2,none⟩) (0+n) l,j1 I m hg Z (s':=(l - n,r+sp.2)) ⟨_,rfl,?_,?_,FB⟩ N ι Y O,?_,?_⟩
             .apply bV.mono (F1.C3<|I.iT _<|b0 _) _ _;have ht:((dU cc.toList (r+sp.2+0*P.cellsOf p+0) new').drop<|r+sp.2).take new.length=new':=by
               rw[dU];simp only[BE,DP];rw[ef,AL FG,CR,BF,List.take_zero,gk];rw[show new.length=new'.length by omega,x0<|b0 _,BO]
              grind
             .grind[dU,List.length_append,List.length_take,List.length_drop,Array.length_toList]
             .simp only[aR];exact⟨b,_,l,cY,FA,FB,FF⟩
             simp_all
            .have:=grown (some a') l [] [] ρ _ y bV.nil FF FU (ey I m hg Z) FF;grind
           .cases f
          .cases f
         .split at f
          .rename_i M c p fz xx hold hg;split at f
           .cases f
           .have L:=F;obtain rfl:β=none:=by
             simp_all[eE,none,some]
            simp only[aR] at F
            obtain⟨b,sp,l,Z,ξ,U,rfl⟩:=F
            have⟨A,horun,horel,_,holen⟩:=B5 τ Z hold
            have Q:(Builtin.firstCells _ d<|.slice (some ⟨b,r+sp.2,none⟩) d l).run P w.drew= .ok _ w.drew:=horun
            obtain⟨ob,θ,cc,rfl,ζ,hsz,φ⟩:=I.yS _ _ hg b sp Z
            split at f
            .rename_i χ;simp[Option.some.injEq,Prod.mk.injEq] at f;obtain⟨rfl,rfl⟩:=f;have hsp0:=(φ χ).1;exact grown _ l M A ρ h FA horel holen Q (sE.refl I) rfl
            .rename_i χ;split at f
             .rename_i hc;obtain⟨rfl,m,rfl,hcl⟩:=hc;simp only at hcl m;simp[Option.some.injEq,Prod.mk.injEq] at f;obtain⟨rfl,rfl⟩:=f;by_cases y:d+n<=l
              .have μ:(d+n)*P.cellsOf p<=l*P.cellsOf p:=og _ y;have ν:l*P.cellsOf p<=(α+sp.1)*P.cellsOf p:=og _ U;rw[DZ] at μ ν;have X:∀v∈new',v.oneCell'=true:=by
                intro v κ;have⟨j,hj⟩:=DF κ;have η:j<new.length:=by
                 have:=(eh.1 hj).1;omega
                have⟨u,hu',hru⟩:=hnrel.get<|bj η;rw[hj] at hu';cases hu';exact hru.Ys FB
               obtain⟨T,C,N,ι,Y,O⟩:=uX (P:=P) rfl new' w cc (r+sp.2+d*P.cellsOf p) 0 θ X FA
               have t:=tK (ty:=ty) (base':=some ⟨b,r+sp.2,none⟩) h0 hd hinf h1 hu J y hnrun
               simp[fA] at t
               have hb3:(l - (d+n))*P.cellsOf p=l*P.cellsOf p - (d*P.cellsOf p+n*P.cellsOf p):=by rw[Nat.sub_mul,DZ]
               refine⟨_,T,.slice (some ⟨b,r+sp.2,none⟩) (d+n) l,j1 I m hg Z (s':=(l - (d+n),r+sp.2)) ⟨_,rfl,?_,?_,FB⟩ N ι Y O,?_,?_⟩
               .apply bV.mono (F1.C3<|I.iT _<|b0 _) _ _;have ο:=ζ.length;simp[l4,oH,BJ] at ο;simp only[eE,dn,aO,dd,hg] at hold;split at hold
                .rename_i hle';cases hold;have ht:((dU cc.toList (r+sp.2+d*P.cellsOf p+0) new').drop<|r+sp.2).take ((c.drop r).take (d*P.cellsOf p)++new).length=(cc.toList.drop<|r+sp.2).take (d*P.cellsOf p)++new':=by
                  rw[dU];have e1:((c.drop r).take (d*P.cellsOf p)++new).length=((cc.toList.drop<|r+sp.2).take (d*P.cellsOf p)++new').length:=by
                   simp[cV,l4,oH,BJ];omega
                  rw[e1];simp only[BE];rw[ef,AL FG,CR,show r+sp.2+d*P.cellsOf p - (r+sp.2)=d*P.cellsOf p by omega,<-ef];rw[x0<|b0 _,BO]
                 show bV ρ _ (((dU cc.toList _ new').drop<|r+sp.2).take _)
                 rw[ht]
                 refine bV.append ?_ hnrel
                 have:=(ζ.drop r).take<|d*P.cellsOf p
                 grind[List.drop_take,List.drop_drop,Nat.min_eq_left,Nat.add_comm]
                .cases hold
               .grind[dU,List.length_append,List.length_take,List.length_drop,Array.length_toList]
               .simp only[aR];exact⟨b,_,l,cY,y,FB,FF⟩
               simp_all
              .exact grown _ l M A ρ (h.set ai none) y horel holen Q (ey I m hg Z) FF
             .cases f
          .cases f
      .cases f
   .cases f
 .cases f
def aI7 (c:gB P B ρ h w):sE P B ρ h w ρ h w.drew:=
 {sE.refl c with inv:=c.di rfl}
variable {b:Builtin}
theorem Wd (C:gB P B ρ h w) {d:Array TypeId} {consts:Array Bool} {args g:EU} (hb:b= .len\/b= .min) (l:bV ρ args g) (f:kH P h b d args=some (v,r)):
  r=h/\∃m,aR ρ v m/\(builtin b d ty consts ⟨g⟩).run P w= .ok (.value m) w:=by
 unfold kH at f
 split at f
 .rename_i x;simp only[bV] at l;obtain⟨p,t,j,rfl,rfl⟩:=l;have q:∀(t:TypeId) (n:Nat),d[0]?=some t->(Builtin.len_ d ty #[p]).run P w= .ok (goInt n) w->h=h/\∃m,aR ρ (.int .i64 n) m/\(builtin .len d ty consts ⟨[p]⟩).run P w= .ok _ w:=
   fun t n _ A=>⟨rfl,.int .i64 n,FK,by
    show(do pure (Next.value<|<-Builtin.len_ d ty #[p]):Sem Next).run P w=_;simp only[c8,A,cb];rfl⟩
  cases h0:d[0]? with
  |none=>grind
  |some t=>
   rw[h0] at f
   simp[u4] at f
   split at f
   .rename_i n e u;simp[Option.some.injEq,Prod.mk.injEq] at f;obtain⟨rfl,rfl⟩:=f;simp_all[Builtin.len_,cr]
   .rename_i e a n c u;simp[Option.some.injEq,Prod.mk.injEq] at f;obtain⟨rfl,rfl⟩:=f;cases a with
    |none=>simp[aR] at j;simp_all[Builtin.len_,cr]
    |some a=>
     obtain⟨_,_,sp⟩:=a
     cases sp with
     |none=>simp only[aR] at j;obtain⟨_,_,_,_,_,_,rfl⟩:=j;simp_all[Builtin.len_,cr]
     |some _=>simp only[aR] at j;obtain⟨rfl,_,_,_,_,_,rfl⟩:=j;exact q t _ h0 (by simp[Builtin.len_,h0,cr u])
   .grind[Option.map_eq_some_iff,vf]
   .cases f
 .grind
 .grind
 .grind
 .rename_i k x F y;simp only[bV] at l;obtain⟨p,_,j,⟨G,_,z,rfl,rfl⟩,rfl⟩:=l;simp[aR] at j z;subst j z;simp[Option.some.injEq,Prod.mk.injEq] at f;obtain⟨rfl,rfl⟩:=f;exact⟨rfl,_,by simp only[aR];rfl,by simp[builtin,Builtin.min_,Builtin.min2]⟩
 .cases f
theorem Vo (J:gB P B ρ h w) {f:Array TypeId} {consts:Array Bool} {args:EU} (u:bV ρ args l) (g:kH P h b f args=some (v,r)):
  ∃ρ' j p,sE P B ρ h w ρ' r j/\aR ρ' v p/\(builtin b f ty consts ⟨l⟩).run P w= .ok (.value p) j:=by
 have O:=g
 have lit:b= .len\/b= .min->∃ρ' j p,sE P B ρ h w ρ' r j/\aR ρ' v p/\(builtin b f ty consts ⟨l⟩).run P w= .ok (.value p) j:=fun X=>by
  obtain⟨rfl,p,T,G⟩:=Wd (ty:=ty) (consts:=consts) J X u O;grind[sE.refl]
 unfold kH at g
 split at g
 .grind
 .rename_i s x;simp only[bV] at u;obtain⟨s',_,hs,⟨C,_,q,rfl,rfl⟩,rfl⟩:=u;have⟨ρ',j,p,T,G,h3⟩:=Z4 J (ty:=ty) hs q g;refine⟨ρ',j,p,T,G,?_⟩;show(do pure (Next.value<|<-Builtin.append_ f ty #[s',C]):Sem Next).run P w=_;simp_all
 .rename_i x;simp only[bV] at u;obtain⟨C,t,q,rfl,rfl⟩:=u;have Q:∀(j:World) (r:AH),sE P B ρ h w ρ r j->(Builtin.clear_ f ty #[C]).run P w= .ok (.tuple #[]) j->∃ρ' j p,sE P B ρ h w ρ' r j/\aR ρ' _ p/\(builtin .clear f ty consts ⟨[C]⟩).run P w= .ok (.value p) j:=
   fun j r L M=>⟨ρ,j,.tuple #[],L,nX _<|by simp[gV,B9,uO],by
    show(do pure (Next.value<|<-Builtin.clear_ f ty #[C]):Sem Next).run P w=_;simp_all⟩
  cases F:f[0]? with
  |none=>grind
  |some t=>
   rw[F] at g
   simp[u4] at g
   split at g
   .rename_i d _ _ I;simp[Option.some.injEq,Prod.mk.injEq] at g;obtain⟨rfl,rfl⟩:=g;simp[aR] at q;simp_all[sE.refl,Builtin.clear_,cr]
   .rename_i e a n c I;obtain⟨ai,ao,y⟩:=a;split at g
    .rename_i U;subst U;simp[Option.some.injEq,Prod.mk.injEq] at g;obtain⟨rfl,rfl⟩:=g;cases y with
     |none=>
      simp only[aR] at q;obtain⟨_,_,S,_,_,_,rfl⟩:=q
      simp_all[sE.refl,Builtin.clear_,cr]
     |some _=>
      simp only[aR] at q;obtain⟨_,_,_,S,_,_,rfl⟩:=q
      simp_all[sE.refl,Builtin.clear_,cr]
    .rename_i U;split at g
     .rename_i z hz;simp only[cg] at g;obtain⟨G,N,g⟩:=g;cases g;have⟨i,zv,hinf,hzero,hzr,hzc,hzl,hzz⟩:=Af (w:=w) hz;cases y with
      |none=>
       simp only[aR] at q;obtain⟨b,sp,S,M,_,_,rfl⟩:=q
       have⟨j,hrun2,hevo,_⟩:=Ox J M N<|Jx (hzz ρ) n
       apply Q j _ hevo
       have A:zv.cells=⟨z⟩:=HR
       have W:=Ss A hzl n
       simp only[Builtin.clear_,F,CW,r5,c8,cr I,cb]
       simp_all
      |some _=>grind[iU]
     .cases g
   .cases g
 .rename_i m k;simp only[bV] at u;obtain⟨m',_,Z,⟨k',_,Y,rfl,rfl⟩,rfl⟩:=u;split at g
  .rename_i t F;simp only[cg] at g;obtain⟨G,I,g⟩:=g;cases g;have⟨j,M,L⟩:=va (ty:=ty) J F Z Y I;refine⟨ρ,j,_,L,nX _<|by simp[gV,B9,uO],?_⟩;show(do pure (Next.value<|<-Builtin.delete_ f ty _):Sem Next).run P w=_;simp_all
  .cases g
 .grind
 .cases g
end Go.Ab
namespace Go.Ab
noncomputable section
inductive Ff where
 |vV|ret|exit (id:Nat)
structure Dn where
 iB:Ff
 ds:EW
 env:EU
 v:Value
inductive aL2 where
 |todo (fn:FuncId) (ro:Option Nat) (ds:EW) (env:EU) (k:List Item)
 |ops (all:Array Oper) (rest:List Oper) (env:EU)
 |call (f:FuncId) (args:EU)
 |round (l:Nat) (args:EU)
def eK (P:Program) (env:EU):Operand->Value
 |.tmp t=>env.getD t undef
 |.const v=>if gV v then v else top
 |.global g=>if g<P.globals.size then .pointer (some ⟨g,0,none⟩) else top
 |.func f=> .func (.func f) #[] #[]
def pF (env:EU) (d:Option Tmp) (v:Value):EU:=
 match d with
 |some d=>env.set d v
 |none=>env
def gR (all:Array Oper) (env:EU) (o:Oper):Option Bool:=
 match o.guard with
 |none=>some true
 |some (j,fV)=>
  match((all[j]?).bind (·.dst)).bind (env[·]?) with
  |some (.bool b)=>some (b==fV)
  |some (.chan _)=>none
  |_=>some false
def lU (P:Program) (g:FuncId):Bool:=
 match P.funcs[g]? with
 |some c=>c.body.isSome&& !(c.name=="runtime.NumGoroutine")
 |none=>false
abbrev mS:=aL2->AH->Option (Dn×AH)
def wO:Builtin->Bool
 |.len|.min=>true
 |_=>false
def mW (op:Op):Bool:=
 match op with
 |.call c=>(match c.callee with|.builtin b=>wO b|_=>false)
 |op=>fR op== .G1
def hZ (P:Program) (d:Operand->Value) (h:AH) (op:Op):EY:=
 match op with
 |.call c=>(match c.callee with|.builtin b=>if wO b then(kH P h b c.argTypes<|c.args.toList.map d).map (·.1) else none|_=>none)
 |op=>dQ P d h op
def gP (P:Program) (R:mS) (e:Operand->Value) (h:AH) (op:Op):Option (Value×AH):=
 match op with
 |.store t a x=>match e a with
  |.pointer (some a)=>(ba P h t a<|e x).map fun j=>(undef,j)
  |_=>none
 |.mapUpdate t m k x=>(Mu P h t (e m) (e k)<|e x).map fun j=>(undef,j)
 |.call c=>
  match c.callee with
  |.builtin b=>kH P h b c.argTypes (c.args.toList.map e)
  |.value f=>match e f with
   |.func (.func g) first d=>
    if lU P g then(R (.call g<|first.toList++c.args.toList.map e++d.toList) h).map fun r=>(r.1.v,r.2) else none
   |.func (.yield l) first _=>(R (.round l<|first.toList++c.args.toList.map e) h).map fun r=>(r.1.v,r.2)
   |_=>none
  |.invoke _ _=>none
 |_=>none
def uL (P:Program) (R:mS) (env:EU) (h:AH) (op:Op):Option (Value×AH):=
 match fR op with
 |.G1=>(dQ P (eK P env) h op).map fun v=>(v,h)
 |.alloc=>(kZ P (eK P env) op).map fun r=>(r.2 h.next,h.alloc r.1)
 |.store|.call=>gP P R (eK P env) h op
 |.Jr=>none
def iH (o:Oper):EW:=(o.after.toList.filter fun e=>Region.binds .any e).map (·.on)
def Cc (acc:EW):EW->Nat
 |[]=>0
 |j::l=>(1<<<j)|||(acc.getD j 0|||Cc acc l)
def iW:List Oper->EW->EW
 |[],acc=>acc
 |o::c,acc=>iW c<|acc++[Cc acc<|iH o]
def Kr (ops:List Oper) (o:Oper):EW:=
 (o.op.operands.toList.filterMap fun|.tmp t=>some t|_=>none)++
 (match o.guard with|some (j,_)=>((ops[j]?).bind (·.dst)).toList|none=>[])
def fL (op:Op):Bool:=(fR op== .store||fR op== .call)&& !mW op
def qU (ps:EW) (i j:Nat):Bool:=(ps.getD j 0).testBit i
def R8 (ops:List Oper):Bool:=
 let c:=iW ops []
 let n:=ops.length
 let is:=List.range n
 (ops.zipIdx.all fun(o,i)=>(iH o).all (·<i))&&
 (ops.all fun o=>match o.op with|.select _ _=>false|.defer _=>false|_=>fR o.op != .Jr)&&
 (ops.zipIdx.all fun(o,i)=>ops.zipIdx.all fun(p,j)=>i==j||(
  (o.dst.isNone||o.dst !=p.dst)&&
  (match p.dst with|some d=> !(Kr ops o).contains d||(if j<i then qU c j i else qU c i j)|none=>true)&&
  (!(fL o.op&&fL p.op&&j<i)||qU c j i)))&&is.length==n
def Ou (ops:List Oper):List (Nat×Nat):=
 let d:=iW ops []
 let n:=ops.length
 let Di:=(List.range n).filter fun i=>(ops[i]?).any fun o=>fL o.op
 let c:=Di++[n]
 (List.range n).flatMap fun i=>
  if(ops[i]?).any (fun o=>mW o.op) then
   let Ve:=(c.find? (i<·)).getD n
   (c.filter fun p=>p !=Ve&&Di.all fun j=>if j<p then !qU d i j else !qU d j i).map fun p=>(i,p)
  else []
mutual
def uG:Value->Value->Bool
 |.bool a,.bool b=>a==b
 |.int j a,.int k b=>j==k&&a==b
 |.string a,.string b=>a==b
 |.pointer a,.pointer b=>a==b
 |.slice a l c,.slice b m d=>a==b&&l==m&&c==d
 |.map a,.map b=>a==b
 |.nilFunc,.nilFunc=>true
 |.nilIface,.nilIface=>true
 |.func f a b,.func g c d=>f==g&&bq a c&&bq b d
 |.iface t v,.iface u w=>t==u&&uG v w
 |.agg a,.agg b=>bq a b
 |.tuple a,.tuple b=>bq a b
 |_,_=>false
def bq:EZ->EZ->Bool
 |⟨a⟩,b=>S7 a b.toList
def S7:EU->EU->Bool
 |[],[]=>true
 |a::l,b::m=>uG a b&&S7 l m
 |_,_=>false
end
def lA (P:Program) (R:mS) (all:List Oper) (r0 i:Nat) (env:EU) (h:AH) (o:Oper):Option (Value×AH):=
 match gR ⟨all⟩ env o with
 |none=>none
 |some false=>some (undef,h)
 |some true=>
  if mW o.op then(hZ P (eK P env) h o.op).map fun v=>(v,h)
  else if fR o.op== .alloc then(kZ P (eK P env) o.op).map fun r=>(r.2<|r0+i,h.set (r0+i)<|some r.1)
  else gP P R (eK P env) h o.op
structure Rec where
 env:EU
 h:AH
 v:Value
def mT (P:Program) (R:mS) (all:List Oper) (r0:Nat):Nat->List Oper->EU->AH->Option (List Rec×EU×AH)
 |_,[],c,h=>some ([],c,h)
 |i,o::f,c,h=>
  match lA P R all r0 i c h o with
  |some (v,d)=>match mT P R all r0 (i+1) f (pF c o.dst v) d with
   |some (g,e)=>some (⟨c,h,v⟩::g,e)
   |none=>none
  |none=>none
def Ir (P:Program) (all:List Oper) (rs:List Rec) (hEnd:AH) (x:Nat×Nat):Bool:=
 match all[x.1]?,rs[x.1]? with
 |some o,some r=>
  match gR ⟨all⟩ r.env o with
  |some true=>(match hZ P (eK P r.env) (match rs[x.2]? with|some q=>q.h|none=>hEnd) o.op with|some v=>uG v r.v|none=>false)
  |_=>true
 |_,_=>false
def Bl (P:Program) (R:mS) (ops:Array Oper) (env:EU) (h:AH):Option (EU×AH):=
 if R8 ops.toList&&(P.follows .mixedOrders|| !Region.departs ops) then
  match mT P R ops.toList h.next 0 ops.toList env {h with next:=h.next+ops.size} with
  |some (e,c,d)=>if(Ou ops.toList).all (Ir P ops.toList e d) then some (c,d) else none
  |none=>none
 else none
def dX:EW->AH->IQ
 |[],h=>some h
 |d::c,h=>if h.base<=d then(match h.get d with|some (.A1 true)=>dX c (h.set d<|some<|.A1 false)|_=>none) else none
def mO (P:Program) (h:AH) (env:EU):List ResultVar->IN
 |[]=>some []
 |.tmp t::c=>(mO P h env c).map fun l=>env.getD t undef::l
 |.cell a t::c=>match env.getD a undef with
  |.pointer (some a)=>match C5 P h t a,mO P h env c with
   |some v,some l=>some (v::l)
   |_,_=>none
  |_=>none
def Fu (vs:EU):Value:=
 match vs with
 |[v]=>v
 |vs=> .tuple ⟨vs⟩
def fJ (h:AH) (l:Nat) (st:LoopState) (pending:Option (Option Code)):IQ:=
 match h.get l with
 |some (.loop _ p e tmps f assign c d)=>if h.base<=l then some (h.set l<|some<|.loop st (pending.getD p) e tmps f assign c d) else none
 |_=>none
def gT (P:Program) (R:mS) (n:FuncId) (m:Option Nat) (j:EW) (env:EU) (k:List Item) (h:AH):Option (Dn×AH):=
 match k with
 |[]=>some (⟨.vV,j,env,undef⟩,h)
 |.code c::k=>
  match c with
  |.skip=>R (.todo n m j env k) h
  |.label _=>R (.todo n m j env k) h
  |.seq a b=>R (.todo n m j env (.code a:: .code b::k)) h
  |.cond c t e=>match eK P env c with
   |.bool b=>R (.todo n m j env (.code (if b then t else e)::k)) h
   |_=>none
  |.block id b=>R (.todo n m j env (.code b:: .inBlock id::k)) h
  |.loop b=>R (.todo n m j env (.code b:: .inLoop b::k)) h
  |.scope b=>R (.todo n m j env (.code b:: .inScope b::k)) h
  |.exit id=>match exitTo id k with
   |some C=>R (.todo n m j env C) h
   |none=>if m.isSome then some (⟨.exit id,j,env,undef⟩,h) else none
  |.ret=>some (⟨.ret,j,env,undef⟩,h)
  |.region _ ops false=>match R (.ops ops ops.toList env) h with
   |some (o,v)=>R (.todo n m j o.env k) v
   |none=>none
  |.region _ ops true=>match Bl P R ops env h with
   |some (u,v)=>R (.todo n m j u k) v
   |none=>none
  |.rangeFunc f F assign r=>
   match(match m with
    |none=>some (h.next,h.alloc<|.A1 true,h.next::j)
    |some l=>match h.get l with
     |some (.loop _ _ _ _ _ _ _ d)=>some (d,h,j)
     |_=>none) with
   |some (d,x,y)=>
    match eK P env f with
    |.func (.func g) first q=>
     if lU P g then
      match R (.call g<|first.toList++[.func (.yield x.next) #[] #[]]++q.toList) (x.alloc<|.loop .ready none n env F assign r d) with
      |some (_,z)=>
       match z.get x.next with
       |some (.loop st p _ _ _ _ _ _)=>
        if st= .busy then none else
        match fJ z x.next .exhausted none with
        |some A=>R (.todo n m y env<|(p.map Item.code).toList++k) A
        |none=>none
       |_=>none
      |none=>none
     else none
    |_=>none
   |none=>none
  |_=>none
 |.inBlock _::k=>R (.todo n m j env k) h
 |.inScope _::k=>R (.todo n m j env k) h
 |.inLoop b::k=>R (.todo n m j env (.code b:: .inLoop b::k)) h
 |.beginRound::k=>
  match m with
  |some l=>match h.get l with
   |some (.loop .ready _ _ _ _ _ _ _)=>match fJ h l .busy none with
    |some v=>R (.todo n m j env k) v
    |none=>none
   |_=>none
  |none=>none
 |_=>none
def Cg (P:Program) (R:mS) (all:Array Oper) (rest:List Oper) (env:EU) (h:AH):Option (Dn×AH):=
 match rest with
 |[]=>some (⟨.vV,[],env,undef⟩,h)
 |o::rest=>
  match gR all env o with
  |none=>none
  |some false=>R (.ops all rest<|pF env o.dst undef) h
  |some true=>match uL P R env h o.op with
   |some (v,c)=>R (.ops all rest<|pF env o.dst v) c
   |none=>none
inductive pB where
 |val (v:Value)
 |fwd (g:FuncId) (args:EU)
 |pn (F:AH->Option (Value×AH))
abbrev IE:=Option pB
def Wt:Value->Bool
 |.tuple ⟨[.int .i64 _,.bool _]⟩=>true
 |_=>false
def sU (P:Program) (K:FuncId->EU->IE) (R:mS) (f:FuncId) (args:EU) (h:AH):Option (Dn×AH):=
 match K f args with
 |some (.val v)=>some (⟨.vV,[],[],v⟩,h)
 |some (.fwd g l)=>match R (.call g l) h with
  |some (o,e)=>if Wt o.v then some (⟨.vV,[],[],o.v⟩,e) else none
  |none=>none
 |some (.pn F)=>(F h).map fun r=>(⟨.vV,[],[],r.1⟩,r.2)
 |none=>
  match P.funcs[f]? with
  |some d=>
   match d.body with
   |some c=>
    match R (.todo f none [] (args++List.replicate (d.ntmps - args.length) undef) [.code c]) h with
    |some (o,e)=>
     match o.iB with
     |.exit _=>none
     |_=>match dX o.ds e with
      |some j=>(mO P j o.env d.results.toList).map fun m=>(⟨.vV,[],[],Fu m⟩,j)
      |none=>none
    |none=>none
   |none=>none
  |none=>none
def yB (R:mS) (l:Nat) (args:EU) (h:AH):Option (Dn×AH):=
 match h.get l with
 |some (.loop _ _ g tmps f assign c _)=>
  if args.length=f.size then
   match R (.todo g (some l) [] ((f.toList.zip args).foldl (fun t (p,v)=>t.set p v) tmps) [.code assign,.beginRound,.code c]) h with
   |some (o,e)=>
    if o.ds.isEmpty then
     match o.iB with
     |.vV=>(fJ e l .ready<|some none).map fun d=>(⟨.vV,[],[],.bool true⟩,d)
     |.ret=>(fJ e l .done<|some<|some .ret).map fun d=>(⟨.vV,[],[],.bool false⟩,d)
     |.exit id=>(fJ e l .done<|some<|some<|.exit id).map fun d=>(⟨.vV,[],[],.bool false⟩,d)
    else none
   |none=>none
  else none
 |_=>none
def run (P:Program) (K:FuncId->EU->IE):Nat->mS
 |0,_,_=>none
 |n+1,.todo g j e d k,h=>gT P (fun t h=>run P K n t h) g j e d k h
 |n+1,.ops all rest d,h=>Cg P (fun t h=>run P K n t h) all rest d h
 |n+1,.call f c,h=>sU P K (fun t h=>run P K n t h) f c h
 |n+1,.round l c,h=>yB (fun t h=>run P K n t h) l c h
end
end Go.Ab
variable {env:EU} {o:Oper} {is:EW} {f:FuncId} {ρ':nL} {c:AH} {Y:Operand->Value} {op:Op}
namespace Go.Ab
open Go.RowKit
variable {h:AH}
theorem Ic (e:gB P B ρ h w) {a:Act} (c:bV ρ env a.tmps.toList) (x:Operand):aR ρ (eK P env x) (a.eval x):=by
 cases x with
 |tmp t=>
  have:=c.getD t;simp_all[eK,Act.eval,aP]
 |const v=>
  grind[eK,Act.eval,nX,top,aR]
 |global g=>
  simp[eK,Act.eval];split;rename_i d;simp only[aR];exact⟨g,_,e.xS g d,rfl⟩;simp[top,aR]
 |func f=>
  grind[eK,Act.eval,aR,Lj,sG,bV.nil]
def jf {a:Act} {e:Value} (d:Option Tmp) (c:bV ρ env a.tmps.toList) (f:aR ρ v e):bV ρ (pF env d v) (a.put d e).tmps.toList:=by
 cases d with
 |none=>exact c
 |some d=>simpa [pF,Act.put] using c.set d f
def tJ {a:Act} {d:Option Tmp}:(a.put d v).defers=a.defers:=by cases d<;>rfl
def Cs:aR ρ undef undef:=nX undef (by simp[undef,gV,B9,uO])
theorem xC {all:Array Oper} {a:Act} {t:Bool} (g:bV ρ env a.tmps.toList) (e:gR all env o=some t):Region.wanted o (yielded all a.tmps)=t:=by
 rw[gR] at e;unfold Region.wanted yielded;split at e;grind;rename_i j fV m;rw[m];simp only;cases hd:(all[j]?).bind (·.dst) with
 |none=>grind
 |some d=>
  rw[hd] at e;simp[u4] at e ⊢;cases hv:env[d]? with
  |none=>
   have:=g.po hv;grind
  |some v=>
   have⟨v',hv',hr⟩:=g.get hv;have l:a.tmps[d]?=some v':=by simpa using hv'
   rw[hv] at e;rw[l];cases v with
   |bool b=>simp_all[aR]
   |chan r=>simp at e
   |agg cs=>grind[aR]
   |tuple cs=>grind[aR]
   |iface u x=>grind[aR]
   |func n f c=>grind[aR]
   |pointer p=>cases p with
    |none=>grind[aR]
    |some p=>grind[aR]
   |map p=>cases p with
    |none=>grind[aR]
    |some p=>grind[aR]
   |slice p _ _=>cases p with
    |none=>grind[aR]
    |some p=>
     obtain⟨_,_,sp⟩:=p
     cases sp with
     |none=>grind[aR]
     |some _=>grind[aR]
   |_=>grind[aR]
variable {b:Frame} {k:List Item} {cs:List Frame}
section steps
variable {a:Act} {all:Array Oper}
def W9 (d:all[i]?=some o) (g:Region.wanted o (yielded all a.tmps)=true) (e:∀c,o.op≠.defer c) (f:(execOp a.eval o).run P w= .ok (.value v) w'):
  step P (lone (b.atR a (.inRegion all (i::is)::k)) cs w)= .next (lone (b.atR (a.put o.dst v) (.inRegion all is::k)) cs w'):=by
 apply CH
 rw[stepGR_op d g,ED _ _ _ e]
 simp[stepG.apply,D0,f,CI,CY,d]
def aQ1 (d:all[i]?=some o) (g:Region.wanted o (yielded all a.tmps)=true) (e:∀c,o.op≠.defer c) (f:(execOp a.eval o).run P w= .ok .skip w'):
  step P (lone (b.atR a (.inRegion all (i::is)::k)) cs w)= .next (lone (b.atR (a.put o.dst undef) (.inRegion all is::k)) cs w'):=by
 apply CH
 rw[stepGR_op d g,ED _ _ _ e]
 simp[stepG.apply,D0,f,CI,CY,d]
def aVn (e:all[i]?=some o) (j:Region.wanted o (yielded all a.tmps)=true) (d:∀c,o.op≠.defer c) {args:EZ} (g:(execOp a.eval o).run P w= .ok (.enter f args) w'):
  step P (lone (b.atR a (.inRegion all (i::is)::k)) cs w)= .next (lone (Frame.enter P f args .normal) (b.atR a (.inRegion all (i::is)::k)::cs) w'):=by
 apply CH
 rw[stepGR_op e j,ED _ _ _ d]
 simp[stepG.apply,D0,g,CI,Frame.atR]
def aTo (e:all[i]?=some o) (j:Region.wanted o (yielded all a.tmps)=true) (d:∀c,o.op≠.defer c) {l:Nat} {tmps:EZ} {as bd:Code} (g:(execOp a.eval o).run P w= .ok (.round l f tmps as bd) w'):
  step P (lone (b.atR a (.inRegion all (i::is)::k)) cs w)= .next (lone (Frame.round l f tmps as bd .normal) (b.atR a (.inRegion all (i::is)::k)::cs) w'):=by
 apply CH
 rw[stepGR_op e j,ED _ _ _ d]
 simp[stepG.apply,D0,g,CI,Frame.atR]
end steps
def W3 (ρ:nL):Option Nat->Option Nat->Prop
 |none,r=>r=none
 |some l,r=>∃b s,ρ l=some (b,s)/\r=some b
def Vi (ρ:nL):EW->List Deferred->Prop
 |[],c=>c=[]
 |d::l,c=>∃b s t,ρ d=some (b,s)/\Vi ρ l t/\c={target:= .collected b,args:= #[]}::t
theorem W3.mono (h:F1 ρ ρ') {r r':Option Nat} (k:W3 ρ r r'):W3 ρ' r r':=by
 cases r with
 |none=>exact k
 |some l=>obtain⟨b,s,c,d⟩:=k;exact⟨b,s,h _ _ c,d⟩
theorem Vi.mono {ρ ρ':nL} (h:F1 ρ ρ'):∀{l:EW} {c:List Deferred},Vi ρ l c->Vi ρ' l c
 |[],_,k=>k
 |_::_,_,⟨b,s,t,d,e,f⟩=>⟨b,s,t,h _ _ d,Vi.mono h e,f⟩
def r9:Ff->List Item->Prop
 |.vV,k=>k=[]
 |.ret,k=>∃c,k= .code .ret::c
 |.exit id,k=>∃c,k= .code (.exit id)::c/\exitTo id c=none
def yq (all:Array Oper):EW->List Oper->Prop
 |[],[]=>True
 |i::is,o::c=>all[i]?=some o/\yq all is c
 |_,_=>False
structure aRr (a b:Nat) (w w':World):Prop where
 Yv:∀i,i<w.heap.size->(i<a\/b<=i)->w'.heap[i]?=w.heap[i]?
 size:w.heap.size<=w'.heap.size
 os:w'.os=w.os
 out:w'.output=w.output
 tape:w'.tape=w.tape
structure aKd (a:Nat) (w w':World):Prop where
 Yv:∀i,a<=i->i<w.heap.size->w'.heap[i]?=w.heap[i]?
 size:w.heap.size<=w'.heap.size
 os:w'.os=w.os
 out:w'.output=w.output
 tape:w'.tape=w.tape
structure Vz (P:Program) (B:Nat) (K:FuncId->EU->IE) where
 G:World->Prop
 Yv:∀w w',Below B w w'->G w->G w'
 call:∀f args v w,K f args=some (.val v)->G w->uO args=true/\Calls P f ⟨args⟩ w fun e w'=>(∃v',e= .returned v'/\∀ρ,aR ρ v v')/\Below w.heap.size w w'
 fwd:∀f args g bs,K f args=some (.fwd g bs)->∀(ρ:nL) (args':EU) (w:World),bV ρ args args'->G w->
  ∃(bs':EU) (w1:World),bV ρ bs bs'/\Below w.heap.size w w1/\∀(v:Value) (S:World->Prop),Wt v=true->
   Calls P g ⟨bs'⟩ w1 (fun e w'=>e= .returned v/\aKd w.heap.size w1 w'/\S w')->
    Calls P f ⟨args'⟩ w (fun e w'=>e= .returned v/\∃w2,S w2/\aRr w.heap.size w1.heap.size w2 w')
 pn:∀f args F,K f args=some (.pn F)->∀(h:AH) (v:Value) (h':AH),F h=some (v,h')->∀(ρ:nL) (w:World) (args':EU),gB P B ρ h w->G w->bV ρ args args'->
  Calls P f ⟨args'⟩ w fun e w'=>∃ρ' v',e= .returned v'/\aR ρ' v v'/\sE P B ρ h w ρ' h' w'
variable {K:FuncId->EU->IE}
def xo (C:Vz P B K) (f:FuncId) (args:EU) (h:AH) (v:Value) (g:AH):Prop:=
 ∀(ρ:nL) (w:World) (c:EU),gB P B ρ h w->C.G w->bV ρ args c->
  Calls P f ⟨c⟩ w fun e j=>∃ρ' d,e= .returned d/\aR ρ' v d/\sE P B ρ h w ρ' g j
def np (C:Vz P B K) (l:Nat) (args:EU) (h:AH) (v:Value) (m:AH):Prop:=
 ∀(ρ:nL) (w:World) (d:EU) (e:Nat) (s:Nat×Nat),gB P B ρ h w->C.G w->bV ρ args d->ρ l=some (e,s)->
  ∃f tmps as bd,(Instr.yield e ⟨d⟩).run P w= .ok (.round e f tmps as bd) w/\
   ∀(c:Frame) (cs:List Frame),∃ρ' g j,aR ρ' v g/\sE P B ρ h w ρ' m j/\Steps P (lone (Frame.round e f tmps as bd .normal) (c::cs) w) (lone (c.finish g) cs j)
def Qo (C:Vz P B K) (g:FuncId) (l:Option Nat) (f:EW) (env:EU) (k:List Item) (h:AH) (out:Dn) (j:AH):Prop:=
 ∀(ρ:nL) (w:World) (b:Frame) (a:Act) (cs:List Frame),gB P B ρ h w->C.G w->b.fn=g->W3 ρ l b.roundOf->bV ρ env a.tmps.toList->Vi ρ f a.defers->
  ∃ρ' e c d,sE P B ρ h w ρ' j e/\bV ρ' out.env c.tmps.toList/\Vi ρ' out.ds c.defers/\Steps P (lone (b.atR a k) cs w) (lone (b.atR c d) cs e)/\r9 out.iB d
def aG7 (C:Vz P B K) (all:Array Oper) (rest:List Oper) (env:EU) (h:AH) (out:Dn) (e:AH):Prop:=
 ∀(ρ:nL) (w:World) (b:Frame) (a:Act) (cs:List Frame) (is:EW) (k:List Item),gB P B ρ h w->C.G w->bV ρ env a.tmps.toList->yq all is rest->
  ∃ρ' d c,sE P B ρ h w ρ' e d/\bV ρ' out.env c.tmps.toList/\c.defers=a.defers/\Steps P (lone (b.atR a (.inRegion all is::k)) cs w) (lone (b.atR c (.inRegion all []::k)) cs d)
def Sim (C:Vz P B K):aL2->AH->Dn->AH->Prop
 |.todo j m g d k,h,out,e=>Qo C j m g d k h out e
 |.ops all rest d,h,out,e=>aG7 C all rest d h out e
 |.call f c,h,out,e=>xo C f c h out.v e
 |.round l c,h,out,e=>np C l c h out.v e
def Jj (C:Vz P B K) (R:mS):Prop:=∀t h out c,R t h=some (out,c)->Sim C t h out c
def sE.G (C:Vz P B K) (f:gB P B ρ h w) (e:sE P B ρ h w ρ' c w') (d:C.G w):C.G w':=C.Yv _ _ (e.below f) d
def aH6 (P:Program) (B:Nat) (ρ:nL) (h:AH) (w:World) (b:Frame) (a:Act) (all:Array Oper) (i:Nat) (is:EW) (k:List Item) (cs:List Frame) (o:Oper) (v:Value) (e:AH):Prop:=
 ∃ρ' d c,sE P B ρ h w ρ' e d/\aR ρ' v c/\Steps P (lone (b.atR a (.inRegion all (i::is)::k)) cs w) (lone (b.atR (a.put o.dst c) (.inRegion all is::k)) cs d)
theorem Nc {g:FuncId} (hc:lU P g=true) (args:EZ):(callFunc g args).run P w= .ok (.enter g args) w:=by
 rw[lU] at hc;cases hf:P.funcs[g]? with
 |none=>grind
 |some c=>
  rw[hf] at hc;simp only[ep,AN] at hc;have d:c.body.isNone=false:=GK
  simp only[callFunc,c8,run_program,cb,hf,hc.2,aO,dd,d,hT]
theorem G9 (C:Vz P B K) {R:mS} (hR:Jj C R) (U:gB P B ρ h w) (hg:C.G w) {a:Act} (n:∀x,aR ρ (Y x)<|a.eval x) {all:Array Oper}
  (k:List Item) (cs:List Frame) (Q:all[i]?=some o) (W:Region.wanted o (yielded all a.tmps)=true) (d:gP P R Y h o.op=some (v,h')):
  aH6 P B ρ h w b a all i is k cs o v h':=by
 obtain⟨dst,op,ty,pos,after,guard⟩:=o
 simp only at d
 unfold gP at d
 split at d
 .rename_i t x y;split at d
  .rename_i ad hx;simp only[cg] at d;obtain⟨Z,O,d⟩:=d;cases d;have F:=n x;rw[hx] at F;have⟨J,hr,j⟩:=ik U F (n y) O;refine⟨ρ,J,_,j,Cs,.one<|aQ1 Q W FB ?_⟩;simp[execOp,hr]
  .cases d
 .rename_i t m k x;simp only[cg] at d;obtain⟨Z,O,d⟩:=d;cases d;have⟨J,hr,j⟩:=ue U (n m) (n k) (n x) O;refine⟨ρ,J,_,j,Cs,.one<|aQ1 Q W FB ?_⟩;simp[execOp,hr]
 .rename_i c;obtain⟨callee,args,argTypes⟩:=c;simp only at d;split at d
  .rename_i bi;have⟨ρ',J,X,j,p,hr⟩:=Vo (ty:=ty) (consts:=args.map fun|.const _=>true|_=>false) U (bV.N5 n _) d;refine⟨ρ',J,X,j,p,.one<|W9 Q W FB ?_⟩;have:args.map a.eval=⟨args.toList.map a.eval⟩:=FB;grind[execOp,resolve,Sem.run_bind,Sem.run_pure,Result.andThen_ok,invoke]
  .rename_i f;split at d
   .rename_i g first r hf
    split at d
    .rename_i S;simp only[cg] at d;obtain⟨⟨out,Z⟩,A,d⟩:=d;cases d;have F:=n f;rw[hf] at F;simp only[aR,Lj] at F;obtain⟨_,u,L,rfl,N,T,M⟩:=F;have q:bV ρ _ (u.toList++args.toList.map a.eval++L.toList):=
      ((nP.1 N).append<|bV.N5 n _).append (nP.1 T)
     obtain⟨e,J,fr,⟨ρ',X,rfl,p,j⟩,G,_,I⟩:=hR _ _ _ _ A ρ w _ U hg q (b.atR a (.inRegion all (i::is)::k)::cs)
     refine⟨ρ',J,X,j,p,?_⟩
     have z:(execOp a.eval {dst:=dst,op:= .call {callee:= .value f,args:=args,argTypes:=argTypes},type:=ty,pos:=pos,after:=after,guard:=guard}).run P w= .ok (.enter g ⟨u.toList++args.toList.map a.eval++L.toList⟩) w:=by
      simp only[execOp,resolve,c8,M,Deferred.ofValue,hT,cb,invoke,Nc S];simp_all
     refine .head (aVn Q W FB z)<|Steps.trans G<|.one ?_
     rw[step_leave_returned I,CY,Q]
     rfl
    .cases d
   .rename_i l first r hf
    simp only[cg] at d
    obtain⟨⟨out,Z⟩,A,d⟩:=d
    cases d
    have F:=n f
    rw[hf] at F
    simp only[aR,Lj] at F
    obtain⟨_,u,L,⟨lb,s,hl,rfl⟩,N,T,M⟩:=F
    have q:bV ρ (first.toList++args.toList.map Y) _:=
     (nP.1 N).append (bV.N5 n _)
    have⟨fn,tmps,as,bd,hy,hround⟩:=hR _ _ _ _ A ρ w _ lb s U hg q hl
    have⟨ρ',X,J,p,j,hsteps⟩:=hround (b.atR a (.inRegion all (i::is)::k)) cs
    refine⟨ρ',J,X,j,p,?_⟩
    have z:(execOp a.eval {dst:=dst,op:= .call {callee:= .value f,args:=args,argTypes:=argTypes},type:=ty,pos:=pos,after:=after,guard:=guard}).run P w= .ok (.round lb fn tmps as bd) w:=by
     simp[execOp,resolve,c8,M,Deferred.ofValue,hT,cb,invoke];have:u++args.map a.eval=⟨u.toList++args.toList.map a.eval⟩:=FB;grind
    have hs:=Steps.head (aTo Q W FB z) hsteps
    grind[Frame.finish_atR]
   .cases d
  .cases d
 .cases d
def uM (h:fR op≠.Jr):∀c,op≠.defer c:=by
 rintro c rfl;exact h rfl
theorem Yq (C:Vz P B K) {R:mS} (t:Jj C R) (e:gB P B ρ h w) (x:C.G w) {a:Act} (p:bV ρ env a.tmps.toList) {all:Array Oper}
  (k:List Item) (cs:List Frame) (m:all[i]?=some o) (n:Region.wanted o (yielded all a.tmps)=true) {l:AH} (c:uL P R env h o.op=some (v,l)):
  aH6 P B ρ h w b a all i is k cs o v l:=by
 have d:=Ic e p
 rw[uL] at c
 split at c
 .rename_i q;simp only[cg] at c;obtain⟨u,j,c⟩:=c;cases c;have⟨v',hr,hrel⟩:=Pu e d o j;exact⟨ρ,w,v',sE.refl e,hrel,.one<|W9 m n (uM FB) hr⟩
 .rename_i q;simp only[cg] at c;obtain⟨⟨r,f⟩,j,c⟩:=c;cases c;have⟨o',g,hb,hr,hval⟩:=Pp (w:=w) d o j;exact⟨_,w.alloc o',_,I0 e (hb.mono<|F1.C3<|e.iT _<|b0 _) rfl rfl rfl rfl,hval _ _ (0,0) rfl cY,.one<|W9 m n (uM FB) hr⟩
 .grind[G9]
 .grind[G9]
 .cases c
theorem aEc (C:Vz P B K) {R:mS} (j:Jj C R) {all:Array Oper} {rest:List Oper} {h:AH} {out:Dn} {p:AH}
  (d:Cg P R all rest env h=some (out,p)):aG7 C all rest env h out p:=by
 intro ρ w b a cs is k g l e c
 unfold Cg at d
 split at d
 .cases d;cases is with
  |nil=>exact⟨ρ,w,a,sE.refl g,e,rfl,DV _ _⟩
  |cons i is=>exact c.elim
 .rename_i o rest;cases is with
  |nil=>exact c.elim
  |cons i is=>
   obtain⟨r,c⟩:=c
   split at d
   .cases d
   .rename_i n;have f:=xC e n;have⟨ρ',w',a',h1,q,h3,h4⟩:=j _ _ _ _ d ρ w b _ cs is k g l (jf _ e Cs) c;refine⟨ρ',w',a',h1,q,h3.trans tJ,.head ?_ h4⟩;grind[stepR_op_skip]
   .rename_i n;have f:=xC e n;split at d
    .rename_i v q m;have⟨ρ1,w1,v1,e1,r1,s1⟩:=Yq C j g l e k cs r f (b:=b) (is:=is) m;have⟨ρ',w',a',g1,g2,g3,g4⟩:=j _ _ _ _ d ρ1 w1 b _ cs is k e1.inv (e1.G C g l) (jf _ (bV.mono e1.ext _ _ e) r1) c;exact⟨ρ',w',a',e1.trans g1,g2,g3.trans tJ,s1.trans g4⟩
    .cases d
end Go.Ab
variable {e tmps:EU} {g j:AH} {d:Operand->Value} {t:TypeId} {w0 w1:World} {a:Addr} {es:List (Value×Value×Nat)} {all:List Oper} {N:Nat} {ρ0:nL} {V:Nat->Value} {E:Nat->EU} {H:Nat->AH}
namespace Go.Ab
open Go.RowKit
variable {u:World} {vs:EU} {cs:List Frame} {st:LoopState} {ps:Array Tmp}
section
variable {h:AH} {K:FuncId->EU->IE}
theorem Du (c:gB P B ρ h w) (hb:Below w.heap.size w w'):sE P B ρ h w ρ h w':=
 {sE.refl c with
  inv:={
   yS:=fun i o e b s f=>by
    have⟨o',h1,h2⟩:=c.yS i o e b s f;exact⟨o',(hb.block b FB).trans h1,h2⟩
   inj:=c.inj,low:=c.low,old:=c.old,iT:=c.iT,lZ:=c.lZ,xS:=c.xS,size:=cO c.size hb.size,bn:=c.bn}
  frame:=fun b d _=>hb.block b d
  size:=hb.size
  os:=hb.os
  out:=hb.output
  tape:=hb.tape}
theorem aG5 (r:gB P B ρ h w) (d:Below w.heap.size w w1) {p:AH} (c:sE P B ρ h w1 ρ' p u) (e:aRr w.heap.size w1.heap.size u w'):sE P B ρ h w ρ' p w':=by
 have t:∀j b s,(h.get j).isSome->ρ j=some (b,s)->b<w.heap.size:=fun j b s A g=>by
  have⟨oj,hoj⟩:=c7.1 A;have⟨o',ho',_⟩:=r.yS j oj hoj b s g;grind
 exact {c with
  inv:={c.inv with
   yS:=fun i o q b s g=>by
    have⟨o',l,m⟩:=c.inv.yS i o q b s g;have n:=(hY.1 l).1;refine⟨o',?_,m⟩;rw[e.Yv b n];exact l;rcases ql i h.base with f|f;left;have:=c.inv.old i b s (by rwa [c.base]) g;have:=r.size;omega;rcases ql b w1.heap.size with hb|hb;left;obtain⟨j,F,C,y,x⟩:=c.range i b s f (by rw[q];rfl) g hb;grind;grind
   size:=cO c.inv.size e.size}
  frame:=fun b hb z=>by
   rw[e.Yv b (l7 hb<|cO d.size c.size)<|.inl hb,c.frame b (l7 hb d.size) z,d.block b hb]
  range:=fun i b s l m v hb=>c.range i b s l m v<|l7 hb d.size
  size:=cO d.size<|cO c.size e.size
  os:=by rw[e.os,c.os,d.os]
  out:=by rw[e.out,c.out,d.output]
  tape:=by rw[e.tape,c.tape,d.tape]}
mutual
theorem Nu {ρ:nL}:∀(v d:Value),gV v=true->aR ρ v d->d=v
 |.bool _,_,_,k=>FJ
 |.int _ _,_,_,k=>FJ
 |.float _ _,_,_,k=>FJ
 |.complex _ _ _,_,_,k=>FJ
 |.string _,_,_,k=>FJ
 |.pointer none,_,_,k=>FJ
 |.pointer (some _),_,h,_=>FO
 |.slice none _ _,_,_,k=>FJ
 |.slice (some _) _ _,_,h,_=>FO
 |.map none,_,_,k=>FJ
 |.map (some _),_,h,_=>FO
 |.chan _,_,h,_=>FO
 |.func _ _ _,_,h,_=>FO
 |.nilFunc,_,_,k=>FJ
 |.iface _ v,_,h,k=>by
  simp[aR] at k;simp[gV] at h;obtain⟨u,c,rfl⟩:=k;rw[Nu v u h c]
 |.nilIface,_,_,k=>FJ
 |.agg cs,_,h,k=>by
  simp[aR] at k;simp[gV] at h;obtain⟨u,c,rfl⟩:=k;rw[We cs u h c]
 |.tuple cs,_,h,k=>by
  simp[aR] at k;simp[gV] at h;obtain⟨u,c,rfl⟩:=k;rw[We cs u h c]
theorem We {ρ:nL}:∀(v c:EZ),B9 v=true->sG ρ v c->c=v
 |⟨l⟩,a,h,k=>by
  simp[B9] at h;simp[sG] at k;have:=N2 l a.toList h k;grind
theorem N2 {ρ:nL}:∀(l l':EU),uO l=true->bV ρ l l'->l'=l
 |[],_,_,k=>by grind[bV]
 |v::l,_,h,k=>by
  simp only[bV] at k;simp[uO,ep] at h;obtain⟨f,e,c,d,rfl⟩:=k;rw[Nu v f h.1 c,N2 l e h.2 d]
end
theorem Eo (g:gB P B ρ h w) {env:EU} {tmps:EZ} (e:bV ρ env tmps.toList):∀(rs:List ResultVar) (vs:EU),mO P h env rs=some vs->
  ∃c,(rs.mapM (m:=Sem) fun|.tmp t=>pure (tmps.getD t undef)|.cell a t=>do loadVar t (<-asAddr (tmps.getD a undef))).run P w= .ok c w/\bV ρ vs c
 |[],vs,d=>by simp_all[mO,Option.some.injEq,bV.nil]
 |.tmp t::rs,vs,d=>by
  simp only[mO,cg] at d;obtain⟨l,j,rfl⟩:=d;have⟨c,hr,hrel⟩:=Eo g e rs l j;refine⟨tmps.getD t undef::c,?_,bV.cons ?_ hrel⟩;simp_all;have:=e.getD t;simp_all
 |.cell a t::rs,vs,d=>by
  simp only[mO] at d;split at d;rename_i u r;split at d;rename_i v l p q;cases d;have⟨c,hr,hrel⟩:=Eo g e rs l q;have f:aR ρ (env.getD a undef) (tmps.getD a undef):=by have:=e.getD a;simp_all
  rw[r] at f;have⟨v',hv',hvr⟩:=T2 g f p;refine⟨_,?_,bV.cons hvr hrel⟩;simp only[aR] at f;obtain⟨b,s,_,n⟩:=f;have j:(do loadVar t (<-asAddr (tmps.getD a undef)):Sem Value).run P w= .ok v' w:=by
   rw[n] at hv' ⊢;simp[Instr.loadAt,Instr.sureAddr,c8,hT,cb] at hv';simp[asAddr,c8,hT,cb,hv']
  simp only[List.mapM_cons];rw[c8,j];simp_all;cases d;cases d
theorem j0 (j:gB P B ρ h w) {tmps:EZ} (g:bV ρ env tmps.toList) {e:Func} (p:mO P h env e.results.toList=some vs):
  ∃d,(results e tmps).run P w= .ok d w/\aR ρ (Fu vs) d:=by
 have⟨vs',hr,hrel⟩:=Eo j g _ _ p
 have n:(e.results.mapM (m:=Sem) fun|.tmp t=>pure (tmps.getD t undef)|.cell a t=>do loadVar t (<-asAddr (tmps.getD a undef))).run P w= .ok ⟨vs'⟩ w:=by
  rw[Array.mapM_eq_mapM_toList];simp_all
 refine⟨Fu vs',?_,?_⟩
 .rw[results,c8];generalize f:Sem.run P _ w=X;rw[f.symm.trans n];simp only[cb,hT,Result.ok.injEq,and_true];match vs' with
  |[]=>rfl
  |[v]=>rfl
  |v::u::l=>simp[Fu]
 .match vs,vs',hrel with
  |[],[],_=>grind[Fu,aR,sG,bV.nil]
  |[v],[d],c=>exact(bV.ic.1 c).1
  |v::u::l,d::r::q,c=>grind[Fu,aR,sG]
  |[],_::_,c=>simp[bV] at c
  |[_],[],c=>have:=c.length;simp at this
  |[_],_::_::_,c=>have:=c.length;simp at this
  |_::_::_,[],c=>have:=c.length;simp at this
  |_::_::_,[_],c=>have:=c.length;simp at this
def U8 {fr:Frame} {r:Nat} {args:EZ} {c:List Deferred} (e:fr.mode= .returning) (d:fr.defers={target:= .collected r,args:=args}::c)
  (f:(Instr.takeDeferred r).run P w= .ok [] w'):step P (lone fr cs w)= .next (lone {fr with defers:=c} cs w'):=
 CH (by simp[stepG,unwind,e,d,D0,f,CI])
theorem Pf:∀(r:EW) (h m:AH) (w:World) (fr:Frame) (cs:List Frame),dX r h=some m->gB P B ρ h w->Vi ρ r fr.defers->fr.mode= .returning->
  ∃q,sE P B ρ h w ρ m q/\Steps P (lone fr cs w) (lone {fr with defers:=[]} cs q)
 |[],h,m,w,fr,cs,g,v,u,_=>by
  simp[dX,Option.some.injEq] at g;subst g;simp[Vi] at u;refine⟨w,sE.refl v,?_⟩;rw[<-u];exact DV _ _
 |d::r,h,m,w,fr,cs,g,v,u,z=>by
  simp only[dX] at g;split at g;rename_i l;split at g;rename_i y;obtain⟨b,s,t,A,C,x⟩:=u;have⟨o',ho,hb⟩:=v.yS _ _ y b s A;simp[Ca,ew] at hb;subst hb;have n:∀c e f,Obj.deferred (some [])≠.cells c e f:=FB;have p:(Instr.takeDeferred b).run P w= .ok [] {w with heap:=w.heap.setIfInBounds b (.deferred none)}:=by
   simp[Instr.takeDeferred,c8,Ku ho n,cb,Aj ho n,hT]
  have j:=Ey v l y A (o:= .A1 false) (w':={w with heap:=w.heap.setIfInBounds b (.deferred none)}) (by simp[Ca]) rfl rfl rfl rfl;have⟨q,he2,hs2⟩:=Pf r _ m _ {fr with defers:=t} cs g j.inv C z;exact⟨q,j.trans he2,.head (U8 z x p) hs2⟩;cases g;cases g
theorem qd (C:Vz P B K) {R:mS} (hR:Jj C R) {args:EU} {h:AH} {out:Dn} {z:AH}
  (c:sU P K R f args h=some (out,z)):xo C f args h out.v z:=by
 intro ρ w d t G A
 rw[sU] at c
 split at c
 .rename_i v I;cases c;have⟨u,h3⟩:=C.call f args v w I G;rw[N2 _ _ u A];exact h3.mono fun e w' ⟨⟨Q,O,hv⟩,T⟩=>⟨ρ,Q,O,hv ρ,Du t T⟩
 .rename_i g bs I;split at c
  .rename_i o u n;split at c
   .rename_i m;cases c;have⟨bs',w1,hbs,hbel,hfw⟩:=C.fwd f args g bs I ρ d w A G;have y:=Du t hbel;have hc:=hR _ _ _ _ n ρ w1 bs' y.inv (y.G C t G) hbs;have:=hfw o.v (fun S=>∃ρ',sE P B ρ h w1 ρ' z S) m (hc.mono fun e w' ⟨ρ',Q,O,hv,l⟩=>by
     have hp:gV o.v=true:=by
      unfold Wt at m;split at m;rename_i a b r;rw[r];rfl;cases m
     refine⟨by grind[Nu],⟨fun i u q=>l.frame i q fun j s hj hs c=>?_,l.size,l.os,l.out,l.tape⟩,ρ',l⟩;have⟨oj,hoj⟩:=c7.1 hs;have⟨o',ho',_⟩:=t.yS j oj hoj i s c;grind)
    refine this.mono fun e w' ⟨O,S,⟨ρ',l⟩,W⟩=>⟨ρ',o.v,O,?_,aG5 t hbel l W⟩
    have hp:gV o.v=true:=by
     unfold Wt at m;split at m;rename_i a b r;rw[r];rfl;cases m
    grind[nX]
   .cases c
  .cases c
 .rename_i F I;simp only[cg] at c;obtain⟨⟨v,q⟩,hF,c⟩:=c;cases c;exact C.pn f args F I h v _ hF ρ w d t G A
 .split at c
  .rename_i fn hf;split at c
   .rename_i x T;split at c
    .rename_i o u n;have N:=hR _ _ _ _ n;intro cs;have α:=A.length;have Y:Frame.enter P f ⟨d⟩ .normal=({(default:Frame) with fn:=f,kind:= .normal}:Frame).atR {tmps:=⟨d++List.replicate (fn.ntmps - args.length) undef⟩,defers:=[]} [.code x]:=by
      simp only[Frame.enter,Frame.atR,hf,rk,p4,u4,T];congr 1;grind
     obtain⟨ρ1,w1,a1,k1,y,r1,d1,s1,l1⟩:=N ρ w {(default:Frame) with fn:=f,kind:= .normal} {tmps:=⟨_⟩,defers:=[]} cs t G rfl rfl
      (A.append<|bV.replicate _ Cs) rfl
     rw[<-Y] at s1
     have p:(∀id,o.iB≠.exit id)/\∃q,dX o.ds u=some q/\∃vs,mO P q o.env fn.results.toList=some vs/\out=⟨.vV,[],[],Fu vs⟩/\z=q:=by
      split at c;cases c;grind[Option.map_eq_some_iff]
     obtain⟨β,q,U,vs,Z,rfl,X⟩:=p;subst X
     have M:Steps P (lone (({(default:Frame) with fn:=f,kind:= .normal}:Frame).atR a1 k1) cs w1) (lone {({(default:Frame) with fn:=f,kind:= .normal}:Frame).atR a1 k1 with mode:= .returning} cs w1):=by
      cases hl:o.iB with
      |vV=>rw[hl] at l1;simp[r9] at l1;subst l1;exact .one (stepR_end rfl)
      |ret=>rw[hl] at l1;obtain⟨k2,rfl⟩:=l1;exact .one (stepR_ret rfl)
      |exit id=>grind
     obtain⟨S,e2,s2⟩:=Pf o.ds u z w1 {({(default:Frame) with fn:=f,kind:= .normal}:Frame).atR a1 k1 with mode:= .returning} cs U y.inv d1 rfl
     obtain⟨Q,L,J⟩:=j0 e2.inv FA Z
     exact⟨_,S,_,⟨ρ1,Q,rfl,J,y.trans e2⟩,(s1.trans M).trans s2,rfl,rfl,rfl,rfl,fn,hf,L⟩
    .cases c
   .cases c
  .cases c
theorem Yt (m:gB P B ρ h w) {l f:Nat} {p:Option Code} {fn:FuncId} {tmps:EU} {as bd:Code} {d:Nat} (j:h.get l=some (.loop st p fn tmps ps as bd d)) (n:ρ l=some (f,s)):
  ∃c e g,bV ρ tmps c/\ρ d=some (e,g)/\w.heap[f]?=some (.loop {state:=st,pending:=p,fn:=fn,tmps:=⟨c⟩,params:=ps,assign:=as,body:=bd,defers:=e}):=by
 have⟨o',ho,c,e,g,h1,h2,h3⟩:=m.yS _ _ j f s n
 grind
theorem Cd (n:gB P B ρ h w) {l f:Nat} {pd:Option (Option Code)} (e:fJ h l st pd=some j) (q:ρ l=some (f,s)):
  ∃r:Loop,w.heap[f]?=some (.loop r)/\(∃c t g tmps u as bd d,h.get l=some (.loop c t g tmps u as bd d)/\r.state=c/\r.pending=t)/\
   sE P B ρ h w ρ j {w with heap:=w.heap.setIfInBounds f (.loop {r with state:=st,pending:=pd.getD r.pending})}:=by
 rw[fJ] at e
 split at e
 .rename_i c p g tmps u as bd d m;split at e
  .rename_i v;cases e;have⟨tmps',d',s',h1,h2,h3⟩:=Yt n m q;exact⟨_,h3,FB,Ey n v m q ⟨_,d',s',h1,h2,rfl⟩ rfl rfl rfl rfl⟩
  .cases e
 .cases e
theorem uR {r:Loop}:∀c e f,Obj.loop r≠.cells c e f:=FB
theorem yG {c:Nat} {r:Loop} (h:w.heap[c]?=some (.loop r)):(Instr.getLoop c).run P w= .ok r w:=by
 simp[Instr.getLoop,c8,Ku h uR,cb,hT]
def nq:∀(l:List (Tmp×Value)) (l':List (Tmp×Value)) (t:EU) (t':EZ),l.map (·.1)=l'.map (·.1)->bV ρ (l.map (·.2)) (l'.map (·.2))->bV ρ t t'.toList->
  bV ρ (l.foldl (fun t (p,v)=>t.set p v) t) (l'.foldl (fun t (p,v)=>t.setIfInBounds p v) t').toList
 |[],[],t,t',_,_,h=>h
 |(p,v)::l,(f,g)::l',t,t',c,d,h=>by
  simp[kd,List.cons.injEq] at c;obtain⟨rfl,c⟩:=c;simp[kd] at d;have e:=bV.ic.1 d;simp[CA];exact nq l l' _ _ c e.2 (by simpa using h.set p e.1)
 |[],_::_,_,_,c,_,_=>by simp at c
 |_::_,[],_,_,c,_,_=>by simp at c
theorem j7 (C:Vz P B K) {R:mS} (T:Jj C R) {l:Nat} {args:EU} {h:AH} {out:Dn} {M:AH}
  (f:yB R l args h=some (out,M)):np C l args h out.v M:=by
 intro ρ w e L s O X U I
 rw[yB] at f
 split at f
 .rename_i st p fn tmps j assign q d y;split at f
  .rename_i Q;have⟨tmps',d',s',ht,hd,hw⟩:=Yt O y I;have W:=U.length;refine⟨fn,(j.toList.zip e).foldl (fun t (p,v)=>t.setIfInBounds p v) ⟨tmps'⟩,assign,q,?_,?_⟩
   .have hz:(j.zip ⟨e⟩).foldl (fun(t:EZ) (x:Tmp×Value)=>t.setIfInBounds x.1 x.2) ⟨tmps'⟩=(j.toList.zip e).foldl (fun t (p,v)=>t.setIfInBounds p v) ⟨tmps'⟩:=by
     rw[<-Array.foldl_toList,Array.toList_zip]
    have Y:¬(⟨e⟩:EZ).size≠j.size:=FG
    simp only[Instr.yield,c8,yG hw,cb]
    simp_all
   .intro c cs;split at f
    .rename_i o N z;have A:=T _ _ _ _ z;split at f
     .have F:∀(G:EU),G.length=j.toList.length->(j.toList.zip G).map (·.1)=j.toList/\(j.toList.zip G).map (·.2)=G:=fun G S=>⟨List.map_fst_zip FA,List.map_snd_zip FA⟩;have Z:=F args FB;have α:=F e FG;obtain⟨ρ1,w1,a1,k1,u,r1,d1,s1,l1⟩:=A ρ w {(default:Frame) with fn:=fn,kind:= .normal,roundOf:=some L} {tmps:=(j.toList.zip e).foldl _ _,defers:=[]} (c::cs) O X rfl ⟨L,s,I,rfl⟩
       (nq _ _ _ _ FB FB ht) rfl
      have J:=u.ext _ _ I
      have sY:∀(jump:Option Code) (n:AH),fJ N l (if jump.isNone then .ready else .done) (some jump)=some n->∃m,(Instr.endRound L jump).run P w1= .ok (.bool jump.isNone) m/\sE P B ρ1 N w1 ρ1 n m:=by
       intro jump n g;have⟨r,hw1,_,hev⟩:=Cd u.inv g J;refine⟨_,?_,hev⟩;simp[Instr.endRound,c8,yG hw1,cb,Aj hw1 uR,hT,p4]
      cases hlv:o.iB with
      |vV=>
       rw[hlv] at f l1
       simp[r9] at l1;subst l1
       simp only[cg] at f
       obtain⟨n,g,f⟩:=f
       cases f
       have⟨m,hend,hev⟩:=sY none _ g
       exact⟨ρ1,.bool true,m,FK,u.trans hev,s1.trans<|.one<|stepR_round_end rfl rfl hend⟩
      |ret=>
       rw[hlv] at f l1
       obtain⟨k2,rfl⟩:=l1
       simp only[cg] at f
       obtain⟨n,g,f⟩:=f
       cases f
       have⟨m,hend,hev⟩:=sY (some .ret) _ g
       exact⟨ρ1,.bool false,m,FK,u.trans hev,s1.trans<|.one<|stepR_round_ret rfl rfl hend⟩
      |exit id=>
       rw[hlv] at f l1
       obtain⟨k2,rfl,S⟩:=l1
       simp only[cg] at f
       obtain⟨n,g,f⟩:=f
       cases f
       have⟨m,hend,hev⟩:=sY (some _) _ g
       exact⟨ρ1,.bool false,m,FK,u.trans hev,s1.trans<|.one<|stepR_round_exit rfl rfl S hend⟩
     .cases f
    .cases f
  .cases f
 .cases f
def aFe (C:Vz P B K) (R:mS):Prop:=∀(ops:Array Oper) (d:EU) (h:AH) (c:EU) (f:AH),Bl P R ops d h=some (c,f)->
 ∀(ρ:nL) (w:World) (b:Frame) (a:Act) (cs:List Frame) (k:List Item) (t:Nat),gB P B ρ h w->C.G w->bV ρ d a.tmps.toList->
  ∃ρ' g e,sE P B ρ h w ρ' f g/\bV ρ' c e.tmps.toList/\e.defers=a.defers/\
   Steps P (lone (b.atR a (.inRegion ops (Region.schedule (P.follows .mixedOrders) ops t)::k)) cs w) (lone (b.atR e (.inRegion ops []::k)) cs g)
theorem Pe (all:Array Oper):∀(rest:List Oper) (i:Nat),(∀j,all[i+j]?=rest[j]?)->yq all (List.range' i rest.length) rest
 |[],i,_=>trivial
 |o::rest,i,c=>by
  refine⟨by simpa using c 0,Pe all rest _ fun j=>?_⟩;have:=c<|j+1;grind
end
section
variable {K:FuncId->EU->IE}
theorem oZ (C:Vz P B K) {d:FuncId} {f:Option Nat} {g:EW} {k l:List Item} {h:AH} {out:Dn}
  (t:∀(b:Frame) (a:Act) (cs:List Frame) (w:World) (ρ:nL),gB P B ρ h w->bV ρ env a.tmps.toList->b.fn=d->W3 ρ f b.roundOf->step P (lone (b.atR a k) cs w)= .next (lone (b.atR a l) cs w))
  (c:Qo C d f g env l h out j):Qo C d f g env k h out j:=by
 intro ρ w b a cs r q m e p n
 have⟨ρ',w',a',k',h1,h2,h3,h4,h5⟩:=c ρ w b a cs r q m e p n
 exact⟨ρ',w',a',k',h1,h2,h3,.head FB h4,h5⟩
set_option maxHeartbeats 1000000 in
theorem sq (C:Vz P B K) (δ:∀R,Jj C R->aFe C R):∀n,Jj C (run P K n):=by
 intro n;induction n with
 |zero=>intro t h out h' j;simp[run] at j
 |succ n q=>
  intro t h out h' j;cases t with
  |call f args=>exact qd C q j
  |round l args=>exact j7 C q j
  |ops all rest M=>exact aEc C q j
  |todo fn ro ds M k=>
   replace j:gT P (run P K n) fn ro ds M k h=some (out,h'):=j;show Qo C fn ro ds M k h out h';unfold gT at j;split at j;cases j;exact fun ρ w b a cs m _ _ _ z G=>⟨ρ,w,a,[],sE.refl m,z,G,DV _ _,rfl⟩;rename_i c k;split at j;exact oZ C (fun b a cs w ρ _ _ _ _=>stepR_skip)<|q _ _ _ _ j;exact oZ C (fun b a cs w ρ _ _ _ _=>stepR_label)<|q _ _ _ _ j;exact oZ C (fun b a cs w ρ _ _ _ _=>stepR_seq)<|q _ _ _ _ j;rename_i c t e;split at j;rename_i bb hc;refine oZ C (fun b a cs w ρ m z _ _=>?_)<|q _ _ _ _ j;have:=Ic m z c;grind[aR,stepR_cond];cases j;exact oZ C (fun b a cs w ρ _ _ _ _=>stepR_block)<|q _ _ _ _ j;exact oZ C (fun b a cs w ρ _ _ _ _=>stepR_loop)<|q _ _ _ _ j;exact oZ C (fun b a cs w ρ _ _ _ _=>CH<|by simp[stepG,stepG.exec,Frame.atR])<|q _ _ _ _ j;rename_i id;split at j;rename_i Z hx;exact oZ C (fun b a cs w ρ _ _ _ _=>stepR_exit hx)<|q _ _ _ _ j;rename_i hx;split at j;cases j;exact fun ρ w b a cs m _ _ _ z G=>⟨ρ,w,a,_,sE.refl m,z,G,DV _ _,⟨k,rfl,hx⟩⟩;cases j;cases j;exact fun ρ w b a cs m _ _ _ z G=>⟨ρ,w,a,_,sE.refl m,z,G,DV _ _,⟨k,rfl⟩⟩;rename_i id ops;split at j;rename_i o J τ;intro ρ w b a cs m O X v z G;have hat:yq ops (List.range ops.size) ops.toList:=by
    have:=Pe ops ops.toList 0 FB;rw[List.range_eq_range'];simpa using this
   have⟨ρ1,w1,a1,y,r1,d1,s1⟩:=q _ _ _ _ τ ρ w b a cs _ k m O z hat;have⟨ρ',w',a',Z,J,h2,h3,h4,h5⟩:=q _ _ _ _ j ρ1 w1 b a1 cs y.inv (y.G C m O) X (v.mono y.ext) r1 (by rw[d1];exact G.mono y.ext);exact⟨ρ',w',a',Z,y.trans J,h2,h3,.head stepR_region<|s1.trans<|.head stepR_region_end h4,h5⟩;cases j;rename_i id ops;split at j;rename_i μ J hdr;intro ρ w b a cs m O X v z G;have ed:=aI7 m;have⟨ρ1,w1,a1,y,r1,d1,s1⟩:=δ _ q ops M h μ J hdr ρ {w with drawn:=w.drawn+1} b a cs k (w.tape w.drawn<|.order b.fn id) ed.inv (ed.G C m O) z;have e2:=ed.trans y;have⟨ρ',w',a',Z,J,h2,h3,h4,h5⟩:=q _ _ _ _ j ρ1 w1 b a1 cs e2.inv (e2.G C m O) X (v.mono e2.ext) r1 (by rw[d1];exact G.mono e2.ext);exact⟨ρ',w',a',Z,e2.trans J,h2,h3,.head stepR_region_draw<|s1.trans<|.head stepR_region_end h4,h5⟩;cases j;rename_i f ps assign body;split at j;rename_i d J ds1 A;split at j;rename_i g first I hf
   split at j;rename_i ξ;split at j;rename_i ox h3 γ;split at j;rename_i st p _ _ _ _ _ _ ζ;split at j;cases j;rename_i hbusy;split at j;rename_i h4 η;intro ρ w b a cs m O X v z G;obtain⟨ρ1,w1,mark,L,s',y,hd1,ο,U⟩:∃ρ1 w1 mark L s',sE P B ρ h w ρ1 J w1/\ρ1 d=some (L,s')/\Vi ρ1 ds1 (mark++a.defers)/\
     (Instr.enterLoop b.fn a.tmps ps assign body b.roundOf).run P w= .ok (w1.heap.size,mark) (w1.alloc<|.loop {state:= .ready,pending:=none,fn:=b.fn,tmps:=a.tmps,params:=ps,assign:=assign,body:=body,defers:=L}):=by
    cases ro with
    |none=>
     simp[W3] at v
     simp[Option.some.injEq,Prod.mk.injEq] at A
     obtain⟨rfl,rfl,rfl⟩:=A
     have ea:=I0 m (o:= .A1 true) (s:=(0,0)) (w':=w.alloc<|.deferred<|some []) (by simp[Ca]) rfl rfl rfl rfl
     refine⟨_,_,[{target:= .collected w.heap.size,args:= #[]}],_,_,ea,cY,⟨_,_,_,cY,G.mono ea.ext,rfl⟩,?_⟩
     simp_all[Instr.enterLoop]
    |some l=>
     obtain⟨lb,s,hl,N⟩:=v
     simp only at A
     split at A
     .rename_i st0 p0 ν tm0 ω θ ι d0 F;simp[Option.some.injEq,Prod.mk.injEq] at A;obtain⟨rfl,rfl,rfl⟩:=A;have⟨tmps',L,s',_,hdd',hw⟩:=Yt m F hl;refine⟨ρ,w,[],L,s',sE.refl m,hdd',G,?_⟩;simp_all[Instr.enterLoop,yG]
     .cases A
   have π:=bV.mono y.ext _ _ z;have e2:=I0 y.inv (o:= .loop .ready none fn M ps assign body d)
    (w':=w1.alloc<|.loop {state:= .ready,pending:=none,fn:=b.fn,tmps:=a.tmps,params:=ps,assign:=assign,body:=body,defers:=L})
    (by
     have Y:=F1.C3 (x:=(w1.heap.size,(0,0)))<|y.inv.iT J.next<|b0 _;exact⟨_,L,s',bV.mono Y _ _ π,Y _ _ hd1,by rw[X]⟩) rfl rfl rfl rfl
   have α:=y.trans e2;have ε:=Ic α.inv (bV.mono e2.ext _ _ π) f;rw[hf] at ε;simp only[aR,Lj] at ε;obtain⟨_,S,Q,rfl,hfs,hcs,hfe⟩:=ε;have β:bV (C3 ρ1 J.next (w1.heap.size,(0,0))) (first.toList++[.func (.yield J.next) #[] #[]]++I.toList) (S.toList++[.func (.yield w1.heap.size) #[] #[]]++Q.toList):=by
    refine((nP.1 hfs).append<|bV.cons ?_ bV.nil).append (nP.1 hcs);simp only[aR,Lj];exact⟨_,_,_,⟨_,_,cY,rfl⟩,by grind[sG,bV.nil],by grind[sG,bV.nil],rfl⟩
   obtain⟨e,w3,fr,⟨ρ3,v',rfl,_,e3⟩,T,_,W⟩:=q _ _ _ _ γ _ _ _ e2.inv (α.G C m O) β (b.atR {a with defers:=mark++a.defers} (.inRangeFunc w1.heap.size::k)::cs);have κ:=α.trans e3;have hl3:=e3.ext _ _ cY;obtain⟨r,ψ,⟨st0,p0,ν,tm0,ω,θ,ι,d0,F,χ,υ⟩,e4⟩:=Cd e3.inv η hl3;rw[ζ] at F;cases F;have σ:(Instr.endLoop w1.heap.size).run P w3= .ok p {w3 with heap:=w3.heap.setIfInBounds w1.heap.size (.loop {r with state:= .exhausted})}:=by
    have hnb:(r.state==LoopState.busy)=false:=FB
    simp only[Instr.endLoop,c8,yG ψ,cb];simp[hnb,aO,dd,c8,Aj ψ uR,cb,hT,υ]
   simp[Option.getD_none] at e4;have u:=κ.trans e4;have⟨ρ',w',a',Z,g1,g2,g3,g4,g5⟩:=q _ _ _ _ j ρ3 _ b {a with defers:=mark++a.defers} cs e4.inv (u.G C m O) X (v.mono u.ext)
    (bV.mono u.ext _ _ z) (ο.mono (e2.trans<|e3.trans e4).ext)
   refine⟨ρ',w',a',Z,u.trans g1,g2,g3,?_,g5⟩;have φ:(resolve a.eval (rangeCall f w1.heap.size) 0).run P (w1.alloc<|.loop {state:= .ready,pending:=none,fn:=b.fn,tmps:=a.tmps,params:=ps,assign:=assign,body:=body,defers:=L})=
     .ok {target:= .fn (.func g) Q,args:=S++ #[.func (.yield w1.heap.size) #[] #[]]} (w1.alloc<|.loop {state:= .ready,pending:=none,fn:=b.fn,tmps:=a.tmps,params:=ps,assign:=assign,body:=body,defers:=L}):=by
    show(Deferred.ofValue _<|(#[.const _]:Array Operand).map a.eval).run P _=_
    rw[hfe]
    simp[Deferred.ofValue,Act.eval]
   have hinv:(invoke (.fn (.func g) Q)<|S++ #[.func (.yield w1.heap.size) #[] #[]]).run P (w1.alloc<|.loop {state:= .ready,pending:=none,fn:=b.fn,tmps:=a.tmps,params:=ps,assign:=assign,body:=body,defers:=L})=
     .ok (.enter g ⟨S.toList++[.func (.yield w1.heap.size) #[] #[]]++Q.toList⟩) (w1.alloc<|.loop {state:= .ready,pending:=none,fn:=b.fn,tmps:=a.tmps,params:=ps,assign:=assign,body:=body,defers:=L}):=by
    simp only[invoke]
    rw[Nc ξ]
    simp_all
   refine .head (stepR_rangeFunc U φ hinv)<|Steps.trans T<|.head ?_<|.head (stepR_endRangeFunc σ) g4;rw[step_leave_returned W,finish_atR_inRangeFunc];cases j;cases j;cases j;cases j;cases j;cases j;cases j;exact oZ C (fun b a cs w ρ _ _ _ _=>stepR_inBlock)<|q _ _ _ _ j;exact oZ C (fun b a cs w ρ _ _ _ _=>CH<|by simp[stepG,stepG.exec,Frame.atR])<|q _ _ _ _ j;exact oZ C (fun b a cs w ρ _ _ _ _=>stepR_inLoop)<|q _ _ _ _ j;split at j;rename_i l;split at j;rename_i _ _ _ _ _ _ _ ζ;split at j;rename_i J η;intro ρ w b a cs m O X v z G;obtain⟨lb,s,hl,N⟩:=v;obtain⟨r,hw,⟨st0,p0,ν,tm0,ω,θ,ι,d0,F,χ,υ⟩,y⟩:=Cd m η hl;rw[ζ] at F;cases F;have hbr:(Instr.beginRound lb).run P w= .ok () {w with heap:=w.heap.setIfInBounds lb (.loop {r with state:= .busy})}:=by
    simp only[Instr.beginRound,c8,yG hw,cb,Aj hw uR,χ];rfl
   simp[Option.getD_none] at y;have⟨ρ',w',a',Z,g1,g2,g3,g4,g5⟩:=q _ _ _ _ j ρ _ b a cs y.inv (y.G C m O) X ⟨lb,s,hl,N⟩ z G;exact⟨ρ',w',a',Z,y.trans g1,g2,g3,.head (stepR_beginRound N hbr) g4,g5⟩;cases j;cases j;cases j;cases j
end
theorem B4 {α:Type} {f g:α->Value}:∀(l:List α),(∀x∈l,f x=g x)->l.map f=l.map g
 |[],_=>rfl
 |x::l,h=>GK
theorem Z0 {e:Operand->Value} {h:AH} (op:Op) (r:∀x∈op.operands.toList,e x=d x):dQ P e h op=dQ P d h op:=by
 cases op with
 |build t q=>
  simp[dQ];congr 1;have:∀l:List (Nat×Operand),(∀p∈l,e p.2=d p.2)->l.map (fun p=>(p.1,e p.2))=l.map fun p=>(p.1,d p.2):=by
   intro l C;induction l with
   |nil=>rfl
   |cons p l G=>grind
  grind[Op.operands]
 |makeFunc u first g=>
  simp[dQ];grind[Array.ext',Array.toList_map,B4,Op.operands,Array.toList_append]
 |slice t x m j n=>
  simp[dQ];have F:=r x (by simp[Op.operands]);have v:m.map e=m.map d:=by cases m with|none=>rfl|some y=>grind[Op.operands]
  have z:j.map e=j.map d:=by cases j with|none=>rfl|some y=>grind[Op.operands]
  have A:n.map e=n.map d:=by cases n with|none=>rfl|some y=>grind[Op.operands]
  grind
 |move x=>simp_all[dQ,Op.operands]
 |assign x=>simp_all[dQ,Op.operands]
 |pick c a b=>simp_all[dQ,Op.operands]
 |load t a=>simp_all[dQ,Op.operands]
 |nilCheck x=>simp_all[dQ,Op.operands]
 |binOp op t x y I=>simp_all[dQ,Op.operands]
 |unOp op t x=>simp_all[dQ,Op.operands]
 |makeInterface t x=>simp_all[dQ,Op.operands]
 |fieldAddr s x f=>simp_all[dQ,Op.operands]
 |field s x f=>simp_all[dQ,Op.operands]
 |indexAddr t x i=>simp_all[dQ,Op.operands]
 |index t x i=>simp_all[dQ,Op.operands]
 |extract t i=>simp_all[dQ,Op.operands]
 |lookup t x i ok=>simp_all[dQ,Op.operands]
 |_=>rfl
theorem cx {f:Operand->Value} (op:Op) (j:∀x∈op.operands.toList,f x=d x):kZ P f op=kZ P d op:=by
 cases op with
 |alloc e=>rfl
 |box e x=>grind[kZ,Op.operands]
 |buildSlice t len g=>
  simp only[kZ];have:∀l:List (Nat×Operand),(∀p∈l,f p.2=d p.2)->l.map (fun p=>(p.1,f p.2))=l.map fun p=>(p.1,d p.2):=by
   intro l m;induction l with
   |nil=>rfl
   |cons p l n=>grind
  grind[Op.operands]
 |makeSlice t l c=>grind[kZ,Op.operands]
 |makeMap t r=>
  cases r with
  |none=>rfl
  |some x=>grind[kZ,Op.operands]
 |_=>rfl
theorem Jp {c:Call} {x:Operand} (h:x∈c.args.toList):x∈(Op.call c).operands.toList:=by
 grind[Op.operands,Call.operands,Array.toList_append]
theorem o7 {R:mS} {j e:Operand->Value} {h:AH} (op:Op) (l:∀x∈op.operands.toList,j x=e x):gP P R j h op=gP P R e h op:=by
 cases op with
 |store t a x=>grind[gP,Op.operands]
 |mapUpdate t m k x=>grind[gP,Op.operands]
 |call c=>
  have p:=B4 _ fun x n=>l x<|Jp n;obtain⟨callee,g,d⟩:=c;cases callee with
  |builtin b=>grind[gP]
  |value f=>
   grind[Op.operands,Call.operands,gP]
  |invoke r m=>rfl
 |_=>rfl
theorem il {e:Operand->Value} {h:AH} (op:Op) (f:∀x∈op.operands.toList,e x=d x):hZ P e h op=hZ P d h op:=by
 cases op with
 |call c=>
  grind[B4,Jp,builtin,hZ]
 |_=>exact Z0 (P:=P) (h:=h) _ f
def vZ (g c:AH):Prop:=∀i o,g.get i=some o->c.get i=some o
theorem Tu (e:vZ g c) (h:eE g a n=some l):eE c a n=some l:=by
 rw[eE] at h ⊢;split at h;cases h;rename_i f;rw[bA0 f];split at h;rename_i d;rwa [e _ _ d];cases h
theorem vt (e:vZ g c) (h:C5 P g t a=some v):C5 P c t a=some v:=by
 rw[C5] at h ⊢;split at h;grind[Option.map_eq_some_iff,Tu];rename_i j;split at h;cases h;rename_i f;rw[bA0 f];split at h;rename_i d;rwa [e _ _ d];cases h;cases h
theorem nu (p:vZ g c) {j f l:EY} (h:Hn P g t x j f l=some v):Hn P c t x j f l=some v:=by
 have r:∀i b,xI g i=some b->xI c i=some b:=by
  intro i b d;rw[xI] at d ⊢;split at d;rename_i n;rwa [p _ _ n];cases d
 unfold Hn at h ⊢;split at h;exact h;rename_i e a len m q;split at h;split at h;grind;cases h;cases h;cases h
theorem ir (e:vZ g c) (h:vx g x=some es):vx c x=some es:=by
 unfold vx at h ⊢;split at h;exact h;split at h;rename_i d;rwa [e _ _ d];cases h;cases h
theorem Z6 (d:vZ g c) {i:Value} {ok:Bool} (h:Ed P g t x i ok=some v):Ed P c t x i ok=some v:=by
 unfold Ed at h ⊢;grind[ir]
theorem aMd (f:vZ g c) {b:Builtin} (hb:wO b=true) (at_:Array TypeId) (args:EU) (h:(kH P g b at_ args).map (·.1)=some v):(kH P c b at_ args).map (·.1)=some v:=by
 rw[<-h];cases b<;>simp only[wO] at hb<;>try cases hb
 rcases args with _|⟨x,_|⟨y,l⟩⟩;rfl;simp only[kH] at h ⊢;split;rfl;rfl;rename_i y _ _ _ _ d;rw[d] at h;simp only at h;cases hm:vx g y with
 |none=>grind
 |some e=>grind[ir]
 rfl;rfl;rcases args with _|⟨x,_|⟨y,_|⟨z,l⟩⟩⟩;rfl;cases x<;>rfl;cases x<;>cases y<;>rfl;cases x<;>cases y<;>rfl
theorem vr (m:vZ g j) {f:Operand->Value} (h:hZ P f g op=some v):hZ P f j op=some v:=by
 cases op with
 |call c=>
  obtain⟨callee,e,d⟩:=c;cases callee with
  |builtin b=>
   simp only[hZ] at h ⊢;split at h;rename_i l;rw[bA1 l];grind[aMd];cases h
  |_=>grind[hZ]
 |load t a=>
  simp[hZ,dQ] at h ⊢;grind[vt]
 |slice t x p n q=>simp[hZ,dQ] at h ⊢;grind[nu]
 |lookup t x i ok=>simp[hZ,dQ] at h ⊢;grind[Z6]
 |_=>simp_all[hZ,dQ]
mutual
theorem ct:∀(a b:Value),uG a b=true->a=b
 |.bool a,b,h=>GD
 |.int j a,b,h=>GD
 |.float _ _,b,h=>by simp[uG] at h
 |.complex _ _ _,b,h=>by simp[uG] at h
 |.string a,b,h=>by
  cases b<;>simp[uG] at h;rename_i b;obtain⟨a⟩:=a;obtain⟨b⟩:=b;have:=eq_of_beq<|show(a==b)=true from h;rw[this]
 |.pointer a,b,h=>GD
 |.slice a l c,b,h=>GD
 |.map a,b,h=>GD
 |.chan _,b,h=>by simp[uG] at h
 |.func f x y,b,h=>by
  cases b<;>simp[uG] at h;rename_i g c d;rw[h.1.1,Qs x c h.1.2,Qs y d h.2]
 |.nilFunc,b,h=>by grind[uG]
 |.iface t v,b,h=>by
  cases b<;>simp[uG] at h;rename_i u w;rw[h.1,ct v w h.2]
 |.nilIface,b,h=>by grind[uG]
 |.agg x,b,h=>by
  cases b<;>simp[uG] at h;rename_i c;rw[Qs x c h]
 |.tuple x,b,h=>by
  cases b<;>simp[uG] at h;rename_i c;rw[Qs x c h]
theorem Qs:∀(a b:EZ),bq a b=true->a=b
 |⟨l⟩,b,h=>by
  simp[bq] at h;have:=ya l b.toList h;grind
theorem ya:∀(l m:EU),S7 l m=true->l=m
 |[],[],_=>rfl
 |[],_::_,h=>by simp[S7] at h
 |_::_,[],h=>by simp[S7] at h
 |a::l,b::m,h=>by
  simp[S7,ep] at h;rw[ct a b h.1,ya l m h.2]
end
theorem Lf {acc c:EW}:∀(l:EW),(∀j∈l,acc[j]?=c[j]?)->Cc acc l=Cc c l
 |[],_=>rfl
 |j::l,h=>by
  simp only[Cc];rw[Lf l fun y d=>h y<|ca _ d,aP,aP,h j FB]
theorem T5 {acc:EW} {i:Nat}:∀(l:EW),(Cc acc l).testBit i=true->∃j∈l,i=j\/(acc.getD j 0).testBit i=true
 |[],h=>by simp[Cc] at h
 |j::l,h=>by
  simp only[Cc,Nat.testBit_or,BZ] at h;rcases h with h|h|h;grind[List.mem_cons_self,Nat.one_shiftLeft];grind;have⟨k,hk,hh⟩:=T5 l h;grind
theorem Lg:∀(os:List Oper) (acc:EW),(∀k o,os[k]?=some o->∀j∈iH o,j<acc.length+k)->
  (∀k,k<acc.length->(iW os acc)[k]?=acc[k]?)/\
  ∀k o,os[k]?=some o->(iW os acc)[acc.length+k]?=some (Cc (iW os acc)<|iH o)
 |[],acc,_=>⟨fun k _=>rfl,FB⟩
 |o::os,acc,f=>by
  have g:=Lg os (acc++[Cc acc<|iH o]) (by
   intro k l c j e;have:=f (k+1) l FB j e;grind)
  have d:∀k,k<acc.length->(iW (o::os) acc)[k]?=acc[k]?:=by
   intro k m;simp[iW];rw[g.1 k FG,q5 m]
  refine⟨d,?_⟩;intro k l c;cases k with
  |zero=>
   simp at c;subst c;simp[iW,BE];rw[g.1 acc.length FF,oX<|b0 _];simp[BF,r5,Option.some.injEq];apply Lf;intro j e;have n:j<acc.length:=by have:=f 0 o FF j e;omega
   grind
  |succ k=>
   grind[iW]
theorem Td (n:∀k o,all[k]?=some o->∀j∈iH o,j<k) {D:EW} (hD:∀i∈D,∀o,all[i]?=some o->∀j∈iH o,j∈D):
  ∀(i:Nat) (o:Oper),all[i]?=some o->(∀j∈iH o,j∈D)->∀j,qU (iW all []) j i=true->j∈D:=by
 intro i
 induction i using Nat.strongRecOn with
 |ind i p=>
  intro o l c j f
  have m:=(Lg all [] FB).2 i o l
  simp[AQ,AB] at m
  rw[qU,aP,m,p4] at f
  have⟨j',hj',d⟩:=T5 _ f
  rcases d with r|d
  .grind
  .have e:=n i o l j' hj';have g:=c j' hj';cases ho':all[j']? with
   |none=>
    grind
   |some q=>exact p j' e q ho' FB j (by grind[qU])
def E0 (all:List Oper):EW->EW->Prop
 |D,[]=>∀i,i<all.length->i∈D
 |D,i::l=>i<all.length/\i∉D/\(∀o,all[i]?=some o->∀j∈iH o,j∈D)/\E0 all (D++[i]) l
theorem Px {j:Nat}:j∈iH o↔∃e∈o.after,Region.binds .any e=true/\e.on=j:=by
 grind[iH]
theorem Je {ops:Array Oper} (r:∀k o,ops.toList[k]?=some o->∀j∈iH o,j<k):∀(fuel t:Nat) (listed:Array Bool) (D:EW),listed.size=ops.size->
  (∀i,i<ops.size->(listed.getD i false=true↔i∈D))->((List.range ops.size).filter fun i=>decide<|i∉D).length<=fuel->
  E0 ops.toList D (Region.linearise.go .any ops fuel t listed [])
 |0,t,listed,D,p,z,y=>by
  simp_all[Region.linearise.go,List.reverse_nil,E0]
 |fuel+1,t,listed,D,p,z,y=>by
  simp only[Region.linearise.go];change E0 ops.toList D (match(Region.ready .any ops listed)[t % (Region.ready .any ops listed).length]? with
   |some i=>Region.linearise.go .any ops fuel (t/(Region.ready .any ops listed).length) _ [i]
   |none=>[].reverse)
  have l:∀i,i<ops.size->(listed.getD i true=false↔i∉D):=by
   grind
  cases hi:(Region.ready .any ops listed)[t % (Region.ready .any ops listed).length]? with
  |none=>
   have u:Region.ready .any ops listed=[]:=by
    cases A:Region.ready .any ops listed with
    |nil=>rfl
    |cons x L=>
     grind[Nat.mod_lt]
   simp only[List.reverse_nil,E0];intro i;induction i using Nat.strongRecOn with
   |ind i J=>
    intro m;rcases Classical.em (i∈D) with h|h;exact h;exfalso;have c:i<ops.size:=by simpa using m
    have A:i∈Region.ready .any ops listed:=by
     rw[mem_ready];refine⟨FB,_,Array.getElem?_eq_getElem c,?_⟩;intro e F C;have f:=r i ops[i] (by simp[c]) e.on (Px.2 FB);grind
    grind
  |some i=>
   simp[];rw[linearise_go_acc,List.reverse_singleton,List.singleton_append];have d:=hX hi;rw[mem_ready] at d;obtain⟨v,o,I,q⟩:=d;have f:i<ops.size:=FB;have n:=(l i f).1 v;refine⟨FB,n,?_,?_⟩;grind[Px];refine Je r fuel _ _ _ FB ?_ ?_;intro j G;by_cases e:i=j;simp_all;simp_all[getD_set_ne,false,Ne.symm];have g:((List.range ops.size).filter fun j=>decide<|j∉D++[i])=(((List.range ops.size).filter fun j=>decide<|j∉D).filter fun j=>decide<|j≠i):=by
    rw[List.filter_filter];grind
   rw[g];have:((((List.range ops.size).filter fun j=>decide _).filter fun j=>decide<|j≠i).length<((List.range ops.size).filter fun j=>decide<|j∉D).length):=
    List.length_filter_lt_length_iff_exists.2 ⟨i,FB,FF⟩
   omega
variable {o':Obj}
section
variable {K:FuncId->EU->IE}
structure Vq (P:Program) (B N:Nat) (ρ:nL) (h:AH) (w:World) (ρ':nL) (h':AH) (w':World):Prop where
 ext:F1 ρ ρ'
 inv:gB P B ρ' h' w'
 un:∀i,i<N->ρ i=none->ρ' i=none
 sQ:∀i,i<N->ρ i=none->h'.get i=h.get i
 stay:∀i,i<N->h.get i=none->h'.get i=none
 frame:∀b,b<w.heap.size->(∀i s,h.base<=i->(h.get i).isSome->ρ i≠some (b,s))->w'.heap[b]?=w.heap[b]?
 range:∀i b s,h.base<=i->(h'.get i).isSome->ρ' i=some (b,s)->b<w.heap.size->∃j s',h.base<=j/\(h.get j).isSome/\ρ j=some (b,s')
 base:h'.base=h.base
 C8:∀i,i<h.base->h'.get i=h.get i
 size:w.heap.size<=w'.heap.size
 os:w'.os=w.os
 out:w'.output=w.output
 tape:w'.tape=w.tape
def Vq.K2 {h:AH} (e:Vq P B h.next ρ h w ρ' c w') (d:h.next<=c.next):sE P B ρ h w ρ' c w':=
 {ext:=e.ext,inv:=e.inv,un:=e.un,sQ:=e.sQ,stay:=e.stay,frame:=e.frame,range:=e.range,base:=e.base,C8:=e.C8,next:=d,size:=e.size,os:=e.os,out:=e.out,tape:=e.tape}
theorem Vq.then {ρ1 ρ2:nL} {h m:AH} (a:Vq P B N ρ h w ρ1 m w1) (b:sE P B ρ1 m w1 ρ2 r u) (v:N<=m.next):Vq P B N ρ h w ρ2 r u where
 ext:=a.ext.trans b.ext
 inv:=b.inv
 un:=fun i c d=>b.un i FA<|a.un i c d
 sQ:=fun i c d=>(b.sQ i FA<|a.un i c d).trans<|a.sQ i c d
 stay:=fun i c d=>b.stay i FA<|a.stay i c d
 frame:=fun x f d=>by
  refine(b.frame x (l7 f a.size) ?_).trans (a.frame x f d);intro i s n q p;rw[a.base] at n;have⟨j,t,e,g,l⟩:=a.range i x s n q p f;grind
 range:=fun i x s n q p f=>by
  obtain⟨j,t,e,g,l⟩:=b.range i x s HQ q p<|l7 f a.size;rw[a.base] at e;exact a.range j x t e g l f
 base:=b.base.trans a.base
 C8:=fun i c=>(b.C8 i HQ).trans<|a.C8 i c
 size:=cO a.size b.size
 os:=b.os.trans a.os
 out:=b.out.trans a.out
 tape:=b.tape.trans a.tape
theorem aH8 {y:AH} (e:Vq P B N ρ0 y w0 ρ g w) (T:N<=i) (O:i<g.next) (hb:y.base<=i) (hB:B<=w0.heap.size) (Q:ρ i=none)
  (c:w'.heap=w.heap.push o') (C:w'.os=w.os) (x:w'.output=w.output) (t:w'.tape=w.tape) (F:∀o,g.get i=some o->Ca P (C3 ρ i (w.heap.size,(0,0))) (0,0) o o'):
  Vq P B N ρ0 y w0 (C3 ρ i (w.heap.size,(0,0))) g w':=by
 have p:F1 ρ (C3 ρ i (w.heap.size,(0,0))):=F1.C3 Q
 have l:=e.inv
 have z:∀j b s,(g.get j).isSome->ρ j=some (b,s)->b<w.heap.size:=fun j b s d q=>by
  have⟨o,ho⟩:=c7.1 d;have⟨o2,h2,_⟩:=l.yS j o ho b s q;grind
 have r:∀k,k<P.globals.size->k≠i:=fun k u M=>by
  have:=l.xS k u;grind
 refine {ext:=e.ext.trans p,inv:=?_,un:=?_,sQ:=fun j d q=>e.sQ j d q,stay:=e.stay,frame:=?_,range:=?_,base:=e.base,C8:=e.C8,size:=by rw[c];simp;exact ts e.size,os:=C.trans e.os,out:=x.trans e.out,tape:=t.trans e.tape}
 .refine {yS:=?_,inj:=?_,low:=?_,old:=?_,iT:=?_,lZ:=l.lZ,xS:=?_,size:=by rw[c];simp;exact ts l.size,bn:=l.bn}
  .intro j o L b s q;by_cases n:j=i
   .grind[cY]
   .rw[dH n] at q;have⟨o2,h2,h3⟩:=l.yS j o L b s q;refine⟨o2,?_,h3.mono p⟩;grind
  .intro j k b S sk d u v J f G;by_cases n:j=i
   .grind[dH,cY]
   .rw[dH n] at f;by_cases I:k=i
    .grind[cY]
    .rw[dH I] at G;exact l.inj j k b S sk d u v J f G
  .intro j b s d v f;by_cases n:j=i
   .subst n;rw[cY] at f;cases f;exact cO hB e.size
   .rw[dH n] at f;exact l.low j b s d v f
  .intro j b s d f;rw[e.base] at d;rw[dH FA] at f;exact l.old j b s (by rwa [e.base]) f
  .intro j d;rw[dH FA];exact l.iT j d
  .intro k u;rw[dH<|r k u];exact l.xS k u
 .intro j d q;rw[dH FA];exact e.un j d q
 .intro b m A;rw[c,CJ,bA0<|by have:=e.size;omega];exact e.frame b m A
 .intro j b s d v f m;by_cases n:j=i
  .subst n;rw[cY] at f;cases f;have:=e.size;omega
  .rw[dH n] at f;exact e.range j b s d v f m
theorem oh {u:AH} (e:Vq P B N ρ0 u w0 ρ g w) {o:vQ} (S:N<=i) (F:i<g.next) (hb:u.base<=i) (hB:B<=w0.heap.size)
  (A:∀b s,ρ i=some (b,s)->∃C,w.heap[b]?=some C/\Ca P ρ s o C)
  (I:∀b s,ρ i=some (b,s)->w0.heap.size<=b/\∀j O,u.base<=j->(g.get j).isSome->ρ j=some (b,O)->j=i):
  Vq P B N ρ0 u w0 ρ (g.set i<|some o) w:=by
 have n:=e.inv
 have x:g.base<=i:=by rw[e.base];exact hb
 have f:∀j,(g.set i _).get j=if j=i then some o else g.get j:=fun j=>AH.oF x
 have c:∀j,((g.set i<|some o).get j).isSome->j=i\/(g.get j).isSome:=FB
 refine {ext:=e.ext,inv:=?_,un:=e.un,sQ:=?_,stay:=fun j d G=>by rw[f,aaa];exact e.stay j d G,frame:=e.frame,range:=?_,base:=by simp;exact e.base,C8:=?_,size:=e.size,os:=e.os,out:=e.out,tape:=e.tape}
 .refine {yS:=?_,inj:=?_,low:=?_,old:=?_,iT:=?_,lZ:=?_,xS:=n.xS,size:=n.size,bn:=by simp;exact n.bn}
  .intro j L m b s p;rw[f] at m;by_cases q:j=i
   .grind
   .rw[bA0 q] at m;exact n.yS j L m b s p
  .intro j k b Q sk d y m z p M;simp at d y;rcases c j m with q|l
   .rcases c k z with v|r
    .rw[q,v]
    .subst q;rw[e.base] at y;grind
   .rcases c k z with v|r
    .subst v;rw[e.base] at d;grind
    .exact n.inj j k b Q sk d y l r p M
  .intro j b s d m p;simp at d;rcases c j m with q|l
   .grind
   .exact n.low j b s d l p
  .intro j b s d p;simp at d;exact n.old j b s d p
  .intro j d;simp at d;exact n.iT j d
  .intro j d;simp at d;rw[f,aaa];exact n.lZ j d
 .intro j d J;rw[f,aaa];exact e.sQ j d J
 .intro j b s d m p t;rcases c j m with q|l
  .grind
  .exact e.range j b s d l p t
 .intro j d;rw[f,aaa];exact e.C8 j d
theorem S1 {R:mS} {all:List Oper} {r0:Nat}:∀(os:List Oper) (i:Nat) (env:EU) (h:AH) (rs:List Rec) (e:EU) (d:AH),mT P R all r0 i os env h=some (rs,e,d)->
  ∃(E:Nat->EU) (H:Nat->AH) (V:Nat->Value),E 0=env/\H 0=h/\
   (∀j o,os[j]?=some o->lA P R all r0 (i+j) (E j) (H j) o=some (V j,H<|j+1)/\E (j+1)=pF (E j) o.dst (V j))/\
   E os.length=e/\H os.length=d/\∀j,j<os.length->rs[j]?=some ⟨E j,H j,V j⟩
 |[],i,env,h,rs,e,d,c=>by
  simp only[mT,Option.some.injEq,Prod.mk.injEq] at c;obtain⟨rfl,rfl,rfl⟩:=c;exact⟨fun _=>env,fun _=>h,fun _=>undef,rfl,rfl,FB,rfl,rfl,FB⟩
 |o::os,i,env,h,rs,e,d,c=>by
  simp[mT] at c;split at c;rename_i v l q;split at c;rename_i g p f;simp[Option.some.injEq,Prod.mk.injEq] at c;obtain⟨rfl,rfl⟩:=c;have⟨E,H,V,h1,h2,h3,m,n,h6⟩:=S1 os _ _ l g e d f;refine⟨fun j=>match j with|0=>env|j+1=>E j,fun j=>match j with|0=>h|j+1=>H j,fun j=>match j with|0=>v|j+1=>V j,rfl,rfl,?_,m,n,?_⟩;grind;grind;cases c;cases c
def Fw (all:List Oper) (V:Nat->Value) (e:EU) (D:EW):EU:=D.foldl (fun e i=>pF e ((all[i]?).bind (·.dst))<|V i) e
def aG3 {d:Option Tmp}:(pF e d v).length=e.length:=by cases d<;>simp[pF]
theorem ny {d:Option Tmp} {t:Nat}:(pF e d v)[t]?=if d=some t then(if t<e.length then some v else none) else e[t]?:=by
 cases d with
 |none=>simp[pF]
 |some d=>
  grind[pF,Option.some.injEq]
theorem Tl {all:List Oper} {V:Nat->Value} {t:Nat}:∀(D:EW) (e:EU),(∀i∈D,(all[i]?).bind (·.dst)≠some t)->(Fw all V e D)[t]?=e[t]?
 |[],e,_=>rfl
 |i::D,e,h=>by
  show(Fw all V (pF e _ _) D)[t]?=_;rw[Tl D _ FB,ny,bA0 FB]
theorem xn {all:List Oper} {V:Nat->Value} {t j:Nat} (d:(all[j]?).bind (·.dst)=some t) (f:∀i,(all[i]?).bind (·.dst)=some t->i=j):∀(D:EW) (e:EU),j∈D->(Fw all V e D)[t]?=if t<e.length then some (V j) else none
 |[],e,h=>FH
 |i::D,e,h=>by
  show(Fw all V (pF e _ _) D)[t]?=_;by_cases hD:j∈D;rw[xn d f D _ hD,aG3];have c:i=j:=FB
  subst c;rw[Tl D _ FB,ny,bA1 d]
theorem V6 {t:Nat} (m:∀i j:Nat,(all[i]?).bind (·.dst)=some t->(all[j]?).bind (·.dst)=some t->i=j) {D c:EW}
  (g:∀j:Nat,(all[j]?).bind (·.dst)=some t->(j∈D↔j∈c)):(Fw all V e D)[t]?=(Fw all V e c)[t]?:=by
 rcases Classical.em (∃j,j∈D/\(all[j]?).bind (·.dst)=some t) with⟨j,f,l⟩|d
 .grind[xn]
 grind[Tl]
theorem Xv {D:EW}:Fw all V e (D++[i])=pF (Fw all V e D) ((all[i]?).bind (·.dst)) (V i):=by
 unfold Fw;grind
structure Dr (P:Program) (R:mS) (all:List Oper) (r0:Nat) (E:Nat->EU) (H:Nat->AH) (V:Nat->Value):Prop where
 step:∀(j:Nat) o,all[j]?=some o->lA P R all r0 j (E j) (H j) o=some (V j,H<|j+1)
 env:∀(j:Nat) o,all[j]?=some o->E (j+1)=pF (E j) o.dst (V j)
 dir:∀(k:Nat) o,all[k]?=some o->∀j∈iH o,j<k
 kind:∀(k:Nat) o,all[k]?=some o->fR o.op≠.Jr
 vT:∀i j:Nat,∀t,(all[i]?).bind (·.dst)=some t->(all[j]?).bind (·.dst)=some t->i=j
 tmps:∀i j:Nat,∀o p d,all[i]?=some o->all[j]?=some p->i≠j->p.dst=some d->d∈Kr all o->(j<i->qU (iW all []) j i=true)/\(i<j->qU (iW all []) i j=true)
 Di:∀i j:Nat,∀o p,all[i]?=some o->all[j]?=some p->fL o.op=true->fL p.op=true->j<i->qU (iW all []) j i=true
 flt:∀i s:Nat,∀o,all[i]?=some o->mW o.op=true->s<=all.length->(s=all.length\/∃p,all[s]?=some p/\fL p.op=true)->
  (∀j p,all[j]?=some p->fL p.op=true->(j<s->qU (iW all []) i j=false)/\(s<=j->qU (iW all []) j i=false))->
  ¬(i<s/\∀j p,i<j->j<s->all[j]?=some p->fL p.op=false)->
  gR ⟨all⟩ (E i) o=some true->hZ P (eK P<|E i) (H s) o.op=some (V i)
structure St (P:Program) (B:Nat) (all:List Oper) (r0:Nat) (E:Nat->EU) (H:Nat->AH) (V:Nat->Value) (ρ0:nL) (h:AH) (w0:World) (D:EW) (s:Nat) (ρ:nL) (w:World) (tmps:EU):Prop where
 K2:Vq P B r0 ρ0 h w0 ρ (H s) w
 dlt:∀i∈D,i<all.length
 sI:∀i∈D,∀o,all[i]?=some o->∀j∈iH o,j∈D
 s1:∀(j:Nat) o,j<s->all[j]?=some o->fL o.op=true->j∈D
 s3:∀(j:Nat) o,all[j]?=some o->fL o.op=true->j∈D->j<s
 sle:s<=all.length
 env:bV ρ (Fw all V (E 0) D) tmps
 nx:r0+all.length<=(H s).next
 nA:∀(i:Nat) o b f,s<=i->i∈D->all[i]?=some o->gR ⟨all⟩ (E i) o=some true->kZ P (eK P<|E i) o.op=some (b,f)->fR o.op= .alloc->
  ∃n o',ρ (r0+i)=some (n,(0,0))/\w.heap[n]?=some o'/\Ca P ρ (0,0) b o'
 Cy:∀i n t,i<all.length->ρ (r0+i)=some (n,t)->w0.heap.size<=n/\n<w.heap.size
 lone:∀i n t,s<=i->i<all.length->ρ (r0+i)=some (n,t)->∀j s',h.base<=j->((H s).get j).isSome->ρ j≠some (n,s')
 Qd:∀i i' n t t',i<all.length->i'<all.length->ρ (r0+i)=some (n,t)->ρ (r0+i')=some (n,t')->i=i'
 y8:∀i,i<all.length->i∉D->ρ (r0+i)=none
 unA:∀(i:Nat) o,all[i]?=some o->¬(fR o.op= .alloc/\gR ⟨all⟩ (E i) o=some true)->ρ (r0+i)=none
 rev:∀(i:Nat) o b f,i<s->i∉D->all[i]?=some o->gR ⟨all⟩ (E i) o=some true->kZ P (eK P<|E i) o.op=some (b,f)->fR o.op= .alloc->(H s).get (r0+i)=some b
 zy:∀j,s<=j->j<all.length->(H s).get (r0+j)=none
 gr:∀m,m<=s->(∀(j:Nat) p,m<=j->j<s->all[j]?=some p->fL p.op=false)->vZ (H m) (H s)
def aF8 (all:List Oper) (D:EW) (s:Nat):Prop:=s=all.length\/∃o,all[s]?=some o/\fL o.op=true/\s∉D
variable {R:mS} {r0:Nat} {h:AH} {D:EW} {s:Nat}
theorem Tp (h:mW op=true):fR op= .G1\/fR op= .call:=by
 cases op<;>simp[mW,fR] at h ⊢
theorem Cq (h:mW op=true):fL op=false/\fR op≠.alloc:=by
 grind[Tp,fL]
theorem Dr.cases (d:Dr P R all r0 E H V) {i:Nat} {o:Oper} (m:all[i]?=some o):
  (gR ⟨all⟩ (E i) o=some false/\V i=undef/\H (i+1)=H i)\/
  (gR ⟨all⟩ (E i) o=some true/\mW o.op=true/\hZ P (eK P<|E i) (H i) o.op=some (V i)/\H (i+1)=H i)\/
  (gR ⟨all⟩ (E i) o=some true/\fR o.op= .alloc/\∃b f,kZ P (eK P<|E i) o.op=some (b,f)/\V i=f (r0+i)/\H (i+1)=(H i).set (r0+i) (some b))\/
  (gR ⟨all⟩ (E i) o=some true/\fL o.op=true/\gP P R (eK P<|E i) (H i) o.op=some (V i,H<|i+1)):=by
 have c:=d.step i o m
 have q:=d.kind i o m
 rw[lA] at c
 split at c
 .cases c
 .grind
 .rename_i p;split at c
  .grind[Option.map_eq_some_iff]
  .rename_i l;split at c
   .grind[Option.map_eq_some_iff]
   .rename_i e;refine .inr<|.inr<|.inr ⟨p,?_,c⟩;simp only[fL,l,EO,DC];have g:fR o.op≠.alloc:=HB
    have n:fR o.op≠.G1:=by
     intro j;apply l;cases hop:o.op<;>rw[hop] at j<;>simp[fR] at j<;>simp[mW,fR]
    cases hkk:fR o.op with
    |G1=>grind
    |alloc=>grind
    |store=>rfl
    |call=>rfl
    |Jr=>grind
theorem Dr.aSm (d:Dr P R all r0 E H V):∀i,i<=all.length->E i=Fw all V (E 0) (List.range i)
 |0,_=>rfl
 |i+1,e=>by
  have c:all[i]?=some all[i]:=FB;rw[d.env i _ c,d.aSm i FA,dx,Xv,c];rfl
def St.Um (d:Dr P R all r0 E H V) (st:St P B all r0 E H V ρ0 h w0 D s ρ w tmps) (f:all[i]?=some o) (c:∀j∈iH o,j∈D) {j:Nat} (e:qU (iW all []) j i=true):j∈D:=
 Td d.dir st.sI i o f c j e
theorem St.aL3 (d:Dr P R all r0 E H V) (st:St P B all r0 E H V ρ0 h w0 D s ρ w tmps) (m:all[i]?=some o) (hD:i∉D) (e:∀j∈iH o,j∈D) {t:Nat} (u:t∈Kr all o):
  (Fw all V (E 0) D)[t]?=(E i)[t]?:=by
 have v:i<all.length:=FB
 rw[d.aSm i FA]
 refine V6 (fun a b n q=>d.vT a b t n q) fun j f=>?_
 rw[z2]
 cases hp:all[j]? with
 |none=>grind
 |some p=>
  rw[hp] at f
  simp[u4] at f
  by_cases l:j=i
  .grind
  .have⟨h1,h2⟩:=d.tmps i j o p t m hp (Ne.symm l) f u;constructor
   .intro g;rcases ql j i with c|r
    .exact c
    .exfalso;exact hD<|Td d.dir st.sI j p hp (st.sI j g p hp) i<|h2 FA
   .intro c;exact st.Um d m e<|h1 c
theorem St.ev (d:Dr P R all r0 E H V) (st:St P B all r0 E H V ρ0 h w0 D s ρ w tmps) (e:all[i]?=some o) (hD:i∉D) (c:∀j∈iH o,j∈D):
  ∀x∈o.op.operands.toList,eK P (Fw all V (E 0) D) x=eK P (E i) x:=by
 intro x f
 cases x with
 |tmp t=>
  have:=st.aL3 d e hD c (t:=t) (by grind[Kr])
  grind[eK]
 |_=>rfl
theorem St.wanted (d:Dr P R all r0 E H V) (st:St P B all r0 E H V ρ0 h w0 D s ρ w tmps) (f:all[i]?=some o) (hD:i∉D) (c:∀j∈iH o,j∈D):
  gR ⟨all⟩ (Fw all V (E 0) D) o=gR ⟨all⟩ (E i) o:=by
 unfold gR
 cases hg:o.guard with
 |none=>rfl
 |some x=>
  obtain⟨j,fV⟩:=x
  simp only
  cases hj:((⟨all⟩:Array Oper)[j]?).bind _ with
  |none=>rfl
  |some t=>
   have e:(all[j]?).bind (·.dst)=some t:=by simpa using hj
   have:=st.aL3 d f hD c (t:=t) (by grind[Kr])
   grind
theorem St.aD5 (d:Dr P R all r0 E H V) (st:St P B all r0 E H V ρ0 h w0 D s ρ w tmps) (q:aF8 all D s) (m:all[i]?=some o) (hD:i∉D) (c:∀j∈iH o,j∈D) (x:mW o.op=true) (z:gR ⟨all⟩ (E i) o=some true):
  hZ P (eK P<|E i) (H s) o.op=some (V i):=by
 rcases Classical.em (i<s/\∀j p,i<j->j<s->all[j]?=some p->fL p.op=false) with⟨C,F⟩|l
 .rcases d.cases m with⟨A,_⟩|⟨_,_,y,_⟩|⟨_,v,_⟩|⟨_,v,_⟩
  .grind
  .refine vr (st.gr i FA fun j p t u e=>?_) y;grind[Cq]
  .grind[absurd,Cq]
  grind[Cq]
 .refine d.flt i s o m x st.sle (q.imp id FB) ?_ l z;intro j p e n;constructor
  .intro g;cases ha:qU _ i j with
   |false=>rfl
   |true=>exact absurd (Td d.dir st.sI j p e (st.sI j (st.s1 j p g e n) p e) i ha) hD
  .intro r;cases ha:qU _ j i with
   |false=>rfl
   |true=>
    have f:=st.Um d m c ha
    have:=st.s3 j p e n f
    omega
end
variable {K:FuncId->EU->IE}
variable {R:mS} {r0:Nat} {h:AH} {D:EW} {s:Nat}
theorem vZ.refl (g:AH):vZ g g:=fun _ _ h=>h
def vZ.trans {a b:AH} (h:vZ a b) (k:vZ b c):vZ a c:=fun i o x=>k i o<|h i o x
theorem St.aTm (d:Dr P R all r0 E H V) (β:h.base<=r0) (hB:B<=w0.heap.size) (st:St P B all r0 E H V ρ0 h w0 D s ρ w tmps) (Y:all[s]?=some o) (hh:fL o.op=false):
  St P B all r0 E H V ρ0 h w0 D (s+1) ρ w tmps:=by
 have y:s<all.length:=FB
 have C:∀(j:Nat) p,j<s+1->all[j]?=some p->fL p.op=true->j∈D:=fun j p q r l=>by
  by_cases e:j=s;grind;exact st.s1 j p FA r l
 have qE:H _=H s->¬(fR o.op= .alloc/\gR ⟨all⟩ (E s) o=some true)->St P B all r0 E H V ρ0 h w0 D _ ρ w tmps:=fun c α=>
  {K2:=by rw[c];exact st.K2,dlt:=st.dlt,sI:=st.sI,s1:=C,s3:=fun j p r l q=>EA<|st.s3 j p r l q,sle:=y,env:=st.env,nx:=by rw[c];exact st.nx
   nA:=fun i p b f z=>st.nA i p b f FA,Cy:=st.Cy,lone:=fun i n t z=>by rw[c];exact st.lone i n t FA,Qd:=st.Qd,y8:=st.y8,unA:=st.unA
   rev:=fun i p b f z hD r F M G=>by
    rw[c];by_cases e:i=s;grind;exact st.rev i p b f FA hD r F M G
   zy:=fun j q=>by rw[c];exact st.zy j FA
   gr:=fun m hm T=>by
    by_cases e:m=s+1;grind[vZ.refl];rw[c];exact st.gr m FA FB}
 rcases d.cases Y with⟨F,_,c⟩|⟨F,hl,_,c⟩|⟨F,G,b,f,M,_,c⟩|⟨_,G,_⟩
 .grind
 .grind[Cq]
 .have O:(H s).base<=r0+s:=by rw[st.K2.base];omega
  have g:∀j,(H _).get j=if j=r0+s then some b else(H s).get j:=fun j=>by rw[c];grind[AH.oF]
  have v:∀j,((H<|s+1).get j).isSome->j=r0+s\/((H s).get j).isSome:=FB
  refine {K2:=?_,dlt:=st.dlt,sI:=st.sI,s1:=C,s3:=fun j p r l q=>EA<|st.s3 j p r l q,sle:=y,env:=st.env,nx:=by rw[c];simp;exact st.nx,
             nA:=fun i p b f z=>st.nA i p b f FA,Cy:=st.Cy,lone:=?_,Qd:=st.Qd,y8:=st.y8,unA:=st.unA,rev:=?_,zy:=?_,gr:=?_}
  .rw[c];refine oh st.K2 FA FW FA hB ?_ ?_
   .intro n t u;by_cases hD:s∈D
    .have⟨n',o',h1,h2,h3⟩:=st.nA s o b f (b0 _) hD Y F M G;grind
    .rw[st.y8 s y hD] at u;cases u
   .intro n t u;exact⟨(st.Cy s n t y u).1,fun j I q J X=>absurd X<|st.lone s n t (b0 _) y u j I q J⟩
  .intro i n t z A u j I q J;rcases v j J with ej|L
   .subst ej;intro X;have:=st.Qd i s n t I A y u X;omega
   .exact st.lone i n t FA A u j I q L
  .intro i p Z f' z hD r U N S;rw[g];by_cases e:i=s
   .grind
   .rw[aaa];exact st.rev i p Z f' FA hD r U N S
  .intro j q Q;rw[g,aaa];exact st.zy j FA Q
  .intro m hm T;by_cases e:m=s+1
   .grind[vZ.refl]
   .apply(st.gr m FA FB).trans;intro j x W;rw[g,bA0]
    .exact W
    .rintro rfl;rw[st.zy s (b0 _) y] at W;cases W
 grind
theorem St.dk (d:Dr P R all r0 E H V) (c:h.base<=r0) (hB:B<=w0.heap.size):∀(n s:Nat),all.length - s=n->St P B all r0 E H V ρ0 h w0 D s ρ w tmps->∃f,St P B all r0 E H V ρ0 h w0 D f ρ w tmps/\aF8 all D f
 |0,s,g,st=>⟨s,st,.inl<|by have:=st.sle;omega⟩
 |n+1,s,g,st=>by
  have e:all[s]?=some all[s]:=FB;cases hh:fL _ with
  |true=>exact⟨s,st,.inr ⟨_,e,hh,fun hD=>by have:=st.s3 s _ e hh hD;omega⟩⟩
  |false=>exact St.dk d c hB n (s+1) FA<|st.aTm d c hB e hh
theorem Hl (hc:∀i∈D,∀o,all[i]?=some o->∀j∈iH o,j∈D) (d:all[i]?=some o) (c:∀j∈iH o,j∈D):
  ∀k∈D++[i],∀p,all[k]?=some p->∀j∈iH p,j∈D++[i]:=by
 grind
def Tw (f:all[i]?=some o) {d:Value} (c:bV ρ (Fw all V (E 0) D) tmps) (g:aR ρ (V i) d):bV ρ (Fw all V (E 0)<|D++[i]) (pF tmps o.dst d):=by
 rw[Xv,f];simp[u4];cases o.dst with
 |none=>exact c
 |some e=>exact c.set e g
theorem St.value (st:St P B all r0 E H V ρ0 h w0 D s ρ w tmps) (r:all[i]?=some o) (g:∀j∈iH o,j∈D) (z:fL o.op=false) (v:¬(fR o.op= .alloc/\gR ⟨all⟩ (E i) o=some true))
  {t:Value} (x:aR ρ (V i) t):St P B all r0 E H V ρ0 h w0 (D++[i]) s ρ w (pF tmps o.dst t) where
 K2:=st.K2
 dlt:=fun k d=>by
  rcases cj.1 d with c|c;exact st.dlt k c;grind
 sI:=Hl st.sI r g
 s1:=fun j p m l e=>DG _<|st.s1 j p m l e
 s3:=fun j p l e m=>by
  rcases cj.1 m with c|c;exact st.s3 j p l e c;grind
 sle:=st.sle
 env:=Tw r st.env x
 nx:=st.nx
 nA:=fun k p b f d n l y u q=>by
  rcases cj.1 n with c|c;exact st.nA k p b f d c l y u q;grind
 Cy:=st.Cy
 lone:=st.lone
 Qd:=st.Qd
 y8:=fun k d hD=>st.y8 k d FB
 unA:=st.unA
 rev:=fun k p b f d hD=>st.rev k p b f d FB
 zy:=st.zy
 gr:=st.gr
theorem St.block (st:St P B all r0 E H V ρ0 h w0 D s ρ w tmps) (β:h.base<=r0) (hB:B<=w0.heap.size) (S:all[i]?=some o) (hD:i∉D) (L:∀j∈iH o,j∈D) (X:fR o.op= .alloc) (hw:gR ⟨all⟩ (E i) o=some true)
  {b:vQ} {f:Nat->Value} (ha:kZ P (eK P<|E i) o.op=some (b,f)) (hb:Ca P ρ (0,0) b o') {v':Value} (hv:aR (C3 ρ (r0+i) (w.heap.size,(0,0))) (V i) v'):
  St P B all r0 E H V ρ0 h w0 (D++[i]) s (C3 ρ (r0+i) (w.heap.size,(0,0))) (w.alloc o') (pF tmps o.dst v'):=by
 have M:i<all.length:=FB
 have hn:=st.y8 i M hD
 have l:F1 ρ (C3 ρ _ (w.heap.size,(0,0))):=F1.C3 hn
 have c:∀k,k≠i->C3 ρ (r0+i) (w.heap.size,(0,0)) _=ρ (r0+k):=fun k X=>dH FA
 have Y:∀j n t,((H s).get j).isSome->ρ j=some (n,t)->n<w.heap.size:=fun j n t A g=>by
  have⟨x,y⟩:=c7.1 A;have⟨o2,h2,_⟩:=st.K2.inv.yS j x y n t g;grind
 have Q:fL o.op=false:=by simp[fL,X]
 refine {K2:=?_,dlt:=?_,sI:=Hl st.sI S L,s1:=fun j p A u G=>DG _<|st.s1 j p A u G,s3:=?_,sle:=st.sle,env:=Tw S (bV.mono l _ _ st.env) hv,nx:=st.nx,
           nA:=?_,Cy:=?_,lone:=?_,Qd:=?_,y8:=?_,unA:=?_,rev:=?_,zy:=st.zy,gr:=st.gr}
 .refine aH8 st.K2 FA FW FA hB hn rfl rfl rfl rfl ?_;intro x y;rcases ql i s with m|m
  .have:=st.rev i o b f m hD S hw ha X;rw[this] at y;cases y;exact hb.mono l
  .rw[st.zy i m M] at y;cases y
 .intro k C;rcases cj.1 C with m|m
  .exact st.dlt k m
  grind
 .intro j p u G A;rcases cj.1 A with m|m
  .exact st.s3 j p u G m
  grind
 .intro k p T U q F u α z C;by_cases e:k=i
  .subst e;rw[S] at u;cases u;rw[ha] at z;cases z;exact⟨_,o',cY,by show(w.heap.push o')[w.heap.size]?=some o';simp,hb.mono l⟩
  .have N:k∈D:=by
    rcases cj.1 F with m|m;exact m;grind
   have⟨n,o2,m,h2,h3⟩:=st.nA k p T U q N u α z C
   refine⟨n,o2,FB,?_,h3.mono l⟩
   grind[Array.getElem?_eq_some_iff,World.alloc]
 .intro k n t d g;by_cases e:k=i
  .subst e;rw[cY] at g;cases g;exact⟨st.K2.size,FF⟩
  .rw[c k e] at g;have:=st.Cy k n t d g;exact⟨this.1,FG⟩
 .intro k n t q d g j s' A W;by_cases e:k=i
  .subst e;rw[cY] at g;cases g;by_cases O:j=r0+k
   .subst O;rw[st.zy k q d] at W;cases W
   grind[dH]
  .rw[c k e] at g;by_cases O:j=r0+i
   .subst O;rw[cY];intro y;cases y;have:=(st.Cy k w.heap.size t d g).2;omega
   .rw[dH O];exact st.lone k n t q d g j s' A W
 .intro k I n t t' d v g r;by_cases e:k=i
  .by_cases J:I=i
   .rw[e,J]
   .subst e;rw[cY] at g;cases g;rw[c I J] at r;have:=(st.Cy I w.heap.size t' v r).2;omega
  .rw[c k e] at g;by_cases J:I=i
   .subst J;rw[cY] at r;cases r;have:=(st.Cy k w.heap.size t d g).2;omega
   .rw[c I J] at r;exact st.Qd k I n t t' d v g r
 .intro k d F;rw[c k FB];exact st.y8 k d FB
 .intro k p u Z;rw[c k FB];exact st.unA k p u Z
 .intro k p T U q F;exact st.rev k p T U q FB
theorem St.aWr (st:St P B all r0 E H V ρ0 h w0 D s ρ w tmps) (W:all[s]?=some o) (Z:s∉D) (hh:fL o.op=true) (A:∀j∈iH o,j∈D) {ρ1:nL} (d:sE P B ρ (H s) w ρ1 (H<|s+1) w1) {X:Value} (hv:aR ρ1 (V s) X):
  St P B all r0 E H V ρ0 h w0 (D++[s]) (s+1) ρ1 w1 (pF tmps o.dst X):=by
 have S:s<all.length:=FB
 have q:∀k x,k<all.length->ρ1 _=some x->ρ _=some x:=fun k x g F=>by
  cases hx:ρ (r0+k) with
  |none=>
   have:=d.un _ FW hx;rw[F] at this;cases this
  |some y=>have:=d.ext _ _ hx;grind
 refine {K2:=st.K2.then d FW,dlt:=?_,sI:=Hl st.sI W A,s1:=?_,s3:=?_,sle:=S,env:=Tw W (bV.mono d.ext _ _ st.env) hv,nx:=cO st.nx d.next,
           nA:=?_,Cy:=?_,lone:=?_,Qd:=?_,y8:=?_,unA:=?_,rev:=?_,zy:=?_,gr:=?_}
 .intro k g;rcases cj.1 g with l|l
  .exact st.dlt k l
  grind
 .intro j p C m v;by_cases e:j=s
  .simp[e]
  .exact DG _ (st.s1 j p FA m v)
 .intro j p m v C;rcases cj.1 C with l|l
  .exact EA (st.s3 j p m v l)
  grind
 .intro k p b f g r m T L u;have c:k∈D:=by
   rcases cj.1 r with l|l;exact l;grind
  have⟨n,o',l,I,J⟩:=st.nA k p b f FA c m T L u
  refine⟨n,o',d.ext _ _ l,?_,J.mono d.ext⟩
  rw[d.frame n FB fun j t C G=>st.lone k n (0,0) FA (st.dlt k c) l j t (by rwa [<-st.K2.base]) G]
  exact I
 .intro k n t g F;have:=st.Cy k n t g FB;exact⟨this.1,l7 this.2 d.size⟩
 .intro k n t O g F j U C G rj;have z:=q k _ g F;have Y:=(st.Cy k n t g z).2;obtain⟨j',t2,l,I,J⟩:=d.range j n U (by rwa [st.K2.base]) G rj Y;exact st.lone k n t FA g z j' t2 (by rwa [<-st.K2.base]) I J
 .intro k k' n t U g N F z;exact st.Qd k k' n t U g N FB FB
 .intro k g r;exact d.un _ FW<|st.y8 k g FB
 .intro k p m Q;exact d.un _ (by have:=st.nx;grind)<|st.unA k p m Q
 .intro k p b f g r m T L u;have O:k≠s:=FB;have c:k∉D:=FB;rw[d.sQ _ FW<|st.y8 k (eh.1 m).1 c];exact st.rev k p b f FA c m T L u
 .intro j C M;exact d.stay _ FW<|st.zy j FA M
 grind[vZ.refl]
def Gx {a:Act} {d:Option Tmp}:(a.put d v).tmps.toList=pF a.tmps.toList d v:=by cases d<;>simp[Act.put,pF]
theorem T9 (C:Vz P B K) (hR:Jj C R) {ops:Array Oper} (Q:ops.toList=all) (d:Dr P R all r0 E H V) (X:h.base<=r0) (hB:B<=w0.heap.size) (δ:gB P B ρ0 h w0) (γ:C.G w0) {b:Frame} {cs:List Frame} {k:List Item}:
  ∀(l:EW) (D:EW) (s:Nat) (ρ:nL) (w:World) (a:Act),E0 all D l->aF8 all D s->St P B all r0 E H V ρ0 h w0 D s ρ w a.tmps.toList->
   ∃S ρ' Z L,St P B all r0 E H V ρ0 h w0 S all.length ρ' Z L.tmps.toList/\(∀i,i<all.length->i∈S)/\L.defers=a.defers/\Steps P (lone (b.atR a (.inRegion ops l::k)) cs w) (lone (b.atR L (.inRegion ops []::k)) cs Z)
 |[],D,s,ρ,w,a,F,hf,st=>by
  have:s=all.length:=by
   rcases hf with h1|⟨o,z,_,hD⟩;exact h1;exact absurd (F s FB) hD
  subst this;exact⟨D,ρ,w,a,st,F,rfl,DV _ _⟩
 |i::l,D,s,ρ,w,a,F,hf,st=>by
  obtain⟨φ,hD,T,W⟩:=F;have z:all[i]?=some all[i]:=FB;have I:ops[i]?=some all[i]:=FB
  have r:ops=⟨all⟩:=by rw[<-Q]
  have m:=T _ z;generalize all[i]=o at z I m;have η:=st.wanted d z hD m;have q:=st.ev d z hD m;have hG:C.G w:=by
   have M:Below B w0 w:=⟨st.K2.os,st.K2.tape,st.K2.out,st.K2.size,fun x hx=>st.K2.frame x FA fun j t hj gj hr=>absurd (δ.low j x t hj gj hr) FA⟩;exact C.Yv _ _ M γ
  have N:=Ic st.K2.inv st.env;have go:∀(s1:Nat) (ρ1:nL) (w1:World) (a1:Act),St P B all r0 E H V ρ0 h w0 (D++[i]) s1 ρ1 w1 a1.tmps.toList->a1.defers=a.defers->Steps P (lone (b.atR a (.inRegion ops (i::l)::k)) cs w) (lone (b.atR a1 (.inRegion ops l::k)) cs w1)->
    ∃S ρ' Z L,St P B all r0 E H V ρ0 h w0 S all.length ρ' Z L.tmps.toList/\(∀i,i<all.length->i∈S)/\L.defers=a.defers/\Steps P (lone (b.atR a (.inRegion ops (i::l)::k)) cs w) (lone (b.atR L (.inRegion ops []::k)) cs Z):=by
   intro s1 ρ1 w1 a1 σ κ ξ
   obtain⟨s2,τ,μ⟩:=σ.dk d X hB _ _ rfl
   obtain⟨S,ρ',Z,L,g1,g2,g3,g4⟩:=T9 C hR Q d X hB δ γ l (D++[i]) s2 ρ1 w1 a1 W μ τ
   exact⟨S,ρ',Z,L,g1,g2,g3.trans κ,ξ.trans g4⟩
  have v:fL o.op=true->i=s:=by
   intro O;rcases ql i s with h1|h1;exact absurd (st.s1 i o h1 z O) hD;by_cases e:i=s;exact e;exfalso;rcases hf with h2|⟨p,hp,ν,ο⟩;omega;exact ο<|st.Um d z m<|d.Di i s o p z hp O ν FA
  rcases d.cases z with⟨hw,π,he⟩|⟨hw,hl,hv,he⟩|⟨hw,hk,bl,f,ha,χ,he⟩|⟨hw,O,hv⟩;have A:Region.wanted o (yielded ops a.tmps)=false:=by
   rw[r];exact xC st.env FB
  have J:step P (lone (b.atR a (.inRegion ops (i::l)::k)) cs w)= .next (lone (b.atR (a.put o.dst undef) (.inRegion ops l::k)) cs w):=by
   have:=stepR_op_skip (P:=P) (b:=b) (a:=a) (k:=k) (cs:=cs) (w:=w) (ops:=ops) (i:=i) (rest:=l) FB;grind
  have ζ:aR ρ (V i) undef:=by rw[π];exact Cs
  cases O:fL o.op with
  |true=>
   have U:=v O;subst U;refine go (i+1) ρ w _ ?_ tJ<|.one J;rw[Gx];exact st.aWr z hD O m (by rw[he];exact sE.refl st.K2.inv) ζ
  |false=>
   refine go s ρ w _ ?_ tJ<|.one J;rw[Gx];exact st.value z m O FB ζ
  have A:Region.wanted o (yielded ops a.tmps)=true:=by
   rw[r];exact xC st.env FB
  have n:=st.aD5 d hf z hD m hl hw;rw[<-il o.op q] at n;have ε:∃Y,aR ρ (V i) Y/\Steps P (lone (b.atR a (.inRegion ops (i::l)::k)) cs w) (lone (b.atR (a.put o.dst Y) (.inRegion ops l::k)) cs w):=by
   obtain⟨dst,op,ty,pos,after,guard⟩:=o;simp only at n hl;rcases Tp hl with hk|hk;have θ:dQ P (eK P<|Fw all V (E 0) D) (H s) op=some (V i):=by
    cases op<;>first|exact n|grind[fR]
   have⟨Y,hr,y⟩:=Pu st.K2.inv N {dst:=dst,op:=op,type:=ty,pos:=pos,after:=after,guard:=guard} θ;exact⟨Y,y,.one<|W9 I A (uM FB) hr⟩;cases op with
   |call c=>
    obtain⟨callee,G,α⟩:=c;cases callee with
    |builtin bi=>
     simp only[hZ] at n;split at n;rename_i υ;simp only[cg] at n;obtain⟨⟨u,g1⟩,ι,hu⟩:=n;simp only at hu;subst hu;have⟨_,Y,y,hr⟩:=Wd st.K2.inv (ty:=ty) (consts:=G.map fun|.const _=>true|_=>false) (by grind[wO]) (bV.N5 N _) ι;refine⟨Y,y,.one<|W9 I A FB ?_⟩;have:G.map a.eval=⟨G.toList.map a.eval⟩:=FB;grind[execOp,resolve,Sem.run_bind,Sem.run_pure,Result.andThen_ok,invoke];cases n
    |_=>grind[hZ]
   |_=>simp[fR] at hk
  obtain⟨Y,y,hs⟩:=ε;refine go s ρ w _ ?_ tJ hs;rw[Gx];exact st.value z m (Cq hl).1 (fun hx=>(Cq hl).2 hx.1) y;have A:Region.wanted o (yielded ops a.tmps)=true:=by
   rw[r];exact xC st.env FB
  have β:=ha;rw[<-cx o.op q] at β;have⟨o',g,hb,hr,n⟩:=Pp (w:=w) N o β;refine go s (C3 ρ (r0+i) (w.heap.size,(0,0))) _ _ ?_ tJ<|.one<|W9 I A (uM FB) hr;rw[Gx];exact st.block X hB z hD m hk hw ha hb (by grind[cY]);have A:Region.wanted o (yielded ops a.tmps)=true:=by
   rw[r];exact xC st.env FB
  have U:=v O;subst U;rw[<-o7 o.op q] at hv;have⟨ρ1,w1,v1,e1,r1,s1⟩:=G9 C hR st.K2.inv hG N k cs I A (b:=b) (is:=l) hv;refine go (i+1) ρ1 w1 _ ?_ tJ s1;rw[Gx];exact st.aWr z hD O m e1 r1
end Go.Ab
