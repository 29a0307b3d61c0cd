/- A part of the proof. -/
import Derived.Test.YtcjlkjeeifemhaaGreatDoorB1
import Derived.RangeFuncIn
namespace Go.Ab
open Go.RowKit
section
variable {P:Program} {B:Nat} {ρ:dR} {h:AH} {w:World}
theorem Inv.of_heap (c:Inv P B ρ h w) {w':World} (d:w'.heap=w.heap):Inv P B ρ h w' where
 gH:=fun i o e b s f=>by rw[d];exact c.gH i o e b s f
 inj:=c.inj
 low:=c.low
 old:=c.old
 fresh:=c.fresh
 dF:=c.dF
 iN:=c.iN
 size:=by rw[d];exact c.size
 bn:=c.bn
theorem C7 {x e:Value} {n:Nat} (c:aA ρ x e) (d:pT x=some n):(Builtin.lenOf e).run P w= .ok n w:=by
 unfold pT at d;split at d;rename_i a _ _;cases d;cases a with
 |none=>simp only[aA] at c;subst c;rfl
 |some a=>
  obtain⟨_,_,sp⟩:=a;cases sp with
  |none=>simp only[aA] at c;obtain⟨_,_,_,_,_,_,rfl⟩:=c;rfl
  |some _=>simp only[aA] at c;obtain⟨rfl,_,_,_,_,_,rfl⟩:=c;rfl
 cases d;simp only[aA] at c;subst c;rfl;cases d
theorem Fv (u:Inv P B ρ h w) {x t:Value} {size n:Nat} {new:List Value} (e:aA ρ x t) (d:dM h size n x=some new):
  ∃f,(Builtin.firstCells size n t).run P w= .ok ⟨f⟩ w/\aC ρ new f:=by
 unfold dM at d
 split at d
 .split at d
  .cases d;simp only[aA] at e;subst e;exact⟨[],by simp[Builtin.firstCells],aC.nil⟩
  .cases d
 .rename_i a l c;split at d
  .rename_i r;cases d;subst r;obtain⟨_,_,sp⟩:=a;have m:∀q p,(Builtin.firstCells size 0 (.slice (some q) l p)).run P w= .ok ⟨[]⟩ w:=fun q p=>by simp[Builtin.firstCells,loadCells,loadCellsFrom]
   cases sp with
   |none=>simp only[aA] at e;obtain⟨_,_,_,_,_,_,rfl⟩:=e;exact⟨[],m _ _,aC.nil⟩
   |some _=>simp only[aA] at e;obtain⟨rfl,_,_,_,_,_,rfl⟩:=e;exact⟨[],m _ _,aC.nil⟩
  .rename_i r;split at d
   .obtain⟨i,o,sp⟩:=a;cases sp with
    |none=>
     simp only[aA] at e;obtain⟨b,s,p,v,_,_,rfl⟩:=e
     obtain⟨y,j,g,_,_⟩:=jF u (a:=⟨i,o,none⟩) v d
     exact⟨y,j,g⟩
    |some _=>simp[aT] at d
   .cases d
 .split at d
  .cases d;simp only[aA] at e;subst e;refine⟨_,show _=Result.ok (⟨((ByteArray.extract _ 0 n).data.toList.map fun b=>Value.int .u8 b.toNat)⟩:Array Value) w from ?_,aC.sS (fun b=>by simp only[aA]) _⟩;simp only[Builtin.firstCells,Sem.run_pure,Result.ok.injEq,and_true];exact Array.ext' (by simp)
  .cases d
 .cases d
theorem A4 {z:Value} {l:List Value} (d:z.cells=⟨l⟩) {size:Nat} (c:l.length=size) (n:Nat):Builtin.zeroCells z.cells n=⟨cS l n⟩:=by
 unfold Builtin.zeroCells;rw[d];have:=pH c n;grind
theorem Hu {c:Array TypeId} {ty F e:TypeId} {i:TypeInfo} {t:Value} {z:List Value} {base':Option Addr} {sLen c' n:Nat} {y:Value} {l j:List Value}
  (G:c[0]?=some F) (J:P.underlying F=some (.slice e)) (v:P.info? e=some i) (M:i.zero=some t) (_A:t.cells=⟨z⟩)
  {x:TypeId} (I:c[1]?=some x) (r:P.underlying x=some .string\/∃C,P.underlying x=some (.slice C))
  (p:(Builtin.lenOf y).run P w= .ok n w) (u:¬sLen+n<=c') (f:(sLen+n)*(i.bytes+1)<=2^46)
  (hold:(Builtin.firstCells (P.cellsOf e) sLen (.slice base' sLen c')).run P w.drew= .ok ⟨l⟩ w.drew) (q:(Builtin.firstCells (P.cellsOf e) n y).run P w.drew= .ok ⟨j⟩ w.drew):
  (Builtin.append_ c ty #[.slice base' sLen c',y]).run P w=
   .ok (.slice (some ⟨w.heap.size,0,none⟩) (sLen+n) (grownCap w (sLen+n) c' e)) (w.drew.alloc (.cells (⟨l⟩++⟨j⟩++Builtin.zeroCells t.cells (grownCap w (sLen+n) c' e - (sLen+n))) e)):=by
 have N:(sLen+n)*i.bytes<=2^46:=Nat.le_trans (Nat.mul_le_mul_left _ (Nat.le_succ _)) f
 have O:sLen+n<=2^46:=Nat.le_trans (Nat.le_mul_of_pos_right _ (Nat.succ_pos _)) f
 have m:¬Builtin.nextslicecap (sLen+n) c'*i.bytes>2^48:=by
  have:=growslice_fits (need:=sLen+n) (old:=c') (bytes:=i.bytes) (by omega) (by omega);omega
 have g:¬(((sLen+n:Nat):Int)>IntKind.i64.max/\(false=true\/i.bytes=0)):=by
  rw[IntKind.max_i64];intro Q;omega
 have L:(Question.appendCap (sLen+n) c' e).forced=false:=rfl
 have t1:∀d,(typeInfo e).run P d= .ok i d:=fun d=>by simp[typeInfo,v]
 have t2:∀d,(sizeOf e).run P d= .ok (P.cellsOf e) d:=fun d=>cU v
 have t3:∀d,(zeroValue e).run P d= .ok t d:=fun d=>by simp[zeroValue,typeInfo,v,M]
 rcases r with r|⟨C,r⟩
 all_goals
  unfold Builtin.append_
  simp only[G,I,List.getElem?_toArray,List.getElem?_cons_zero,List.getElem?_cons_succ,Sem.run_bind,run_underlying J,run_underlying r,Result.andThen_ok,t2,Sem.run_pure,
      Bool.false_eq_true,if_false,p,u,t1,false_or]
  simp only[Bool.false_eq_true,false_or] at g
  rw[tt g]
  simp only[Sem.run_bind,run_choose,L,Bool.false_eq_true,if_false,Result.andThen_ok,run_askRoom,World.drew_eq,t1,m,hold,Bool.not_false,if_true,q,t3]
  simp only[newRow,Sem.run_bind,run_newObj,Result.andThen_ok,Sem.run_pure,World.alloc_eq]
  rfl
theorem hJ {c:Array TypeId} {ty r e m:TypeId} {i:TypeInfo} {base':Option Addr} {sLen c' n:Nat} {p:Value} {d:List Value}
  (t:c[0]?=some r) (v:P.underlying r=some (.slice e)) (x:P.info? e=some i)
  (u:c[1]?=some m) (l:P.underlying m=some .string\/∃q,P.underlying m=some (.slice q))
  (f:(Builtin.lenOf p).run P w= .ok n w) (hle:sLen+n<=c') (g:(Builtin.firstCells (P.cellsOf e) n p).run P w= .ok ⟨d⟩ w):
  (Builtin.append_ c ty #[.slice base' sLen c',p]).run P w=
   match base' with
   |some a=>((storeCells (a.add (sLen*P.cellsOf e)) d).run P w).andThen fun _ j=> .ok (.slice base' (sLen+n) c') j
   |none=> .ok (.slice base' (sLen+n) c') w:=by
 have t2:∀j,(sizeOf e).run P j= .ok (P.cellsOf e) j:=fun j=>cU x
 rcases l with l|⟨q,l⟩
 all_goals
  unfold Builtin.append_
  simp only[t,u,List.getElem?_toArray,List.getElem?_cons_zero,List.getElem?_cons_succ,Sem.run_bind,run_underlying v,run_underlying l,Result.andThen_ok,t2,Sem.run_pure,
      Bool.false_eq_true,if_false,f,hle,if_true,Bool.not_false,g]
  cases base'<;>simp
theorem Jn (g:Inv P B ρ h w) {i b:Nat} {s:Nat×Nat} {u:hZ} (p:h.base<=i) (y:h.get i=some u) (A:ρ i=some (b,s)):fA P B ρ h w ρ (h.set i none) w:=by
 have e:∀j,(h.set i none).get j=if j=i then none else h.get j:=fun j=>AH.dO p
 have c:∀j,((h.set i none).get j).isSome->(h.get j).isSome/\j≠i:=fun j d=>by
  grind
 refine {ext:=Ext.refl _,inv:=?_,un:=fun _ _ h=>h,gA:=?_,stay:=fun j d z=>by grind,frame:=fun _ _ _=>rfl,range:=?_,base:=AH.Be,nB:=?_,next:=by simp,size:=Nat.le_refl _,os:=rfl,out:=rfl,tape:=rfl};refine {gH:=?_,inj:=?_,low:=?_,old:=?_,fresh:=?_,dF:=?_,iN:=g.iN,size:=g.size,bn:=by simp;exact g.bn};intro j v f r m l;have:=c j (by rw[f];rfl);rw[e,tt this.2] at f;exact g.gH j v f r m l;intro j k n m sk d q f t l x;simp at d q;exact g.inj j k n m sk d q (c j f).1 (c k t).1 l x;intro j n m d f l;simp at d;exact g.low j n m d (c j f).1 l;intro j n m d l;simp at d;exact g.old j n m d l;intro j d;simp at d;exact g.fresh j d;intro j d;simp at d;rw[e];split;rfl;exact g.dF j d;grind;intro j n m d f l _;exact⟨j,m,d,(c j f).1,l⟩;intro j d;rw[e,aab]
theorem Eu (Q:Inv P B ρ h w) {p:Array TypeId} {ty:TypeId} {s x s' x' v:Value} {h':AH} (N:aA ρ s s') (hx:aA ρ x x') (f:yH P h p s x=some (v,h')):
  ∃ρ' w' v',fA P B ρ h w ρ' h' w'/\aA ρ' v v'/\(Builtin.append_ p ty #[s',x']).run P w= .ok v' w':=by
 unfold yH at f
 split at f
 .rename_i e base d κ n hd hn;split at f
  .cases f
  .rename_i hxk;split at f
   .rename_i z new hz π;obtain⟨i,zv,G,hzero,hzr,hzc,hzl,hzz⟩:=lG (w:=w) hz;have σ:zv.cells=⟨z⟩:=by rw[<-hzc]
    have hby:i.bytes=P.bytesOf e:=by simp[Program.bytesOf,G]
    split at f
    .cases f
    .rename_i β;simp only[Bool.or_eq_true,Bool.not_eq_true',bne_iff_ne,ne_eq,not_or,Bool.not_eq_false,Decidable.not_not] at β;obtain⟨ο,hnl⟩:=β;obtain⟨sT,h0,hd⟩:∃sT,p[0]?=some sT/\P.underlying sT=some (.slice e):=by
      grind
     obtain⟨uT,h1,hu⟩:∃uT,p[1]?=some uT/\(P.underlying uT=some .string\/∃q,P.underlying uT=some (.slice q)):=by
      unfold yX at hxk;grind
     have J:=C7 (P:=P) (w:=w) hx hn
     obtain⟨l,F,C⟩:=Fv Q hx π
     have hnl':=C.length
     have hid:Inv P B ρ h w.drew:=Q.of_heap rfl
     split at f
     .rename_i hle;split at f
      .split at f
       .rename_i ν;cases f;subst ν;simp only[aA] at N;subst N;refine⟨ρ,w,.slice none d κ,fA.refl Q,by simp only[aA],?_⟩;rw[hJ h0 hd G h1 hu J (by omega) F];simp
       .cases f
      .rename_i a;obtain⟨ai,r,Z⟩:=a;split at f
       .rename_i ν;cases f;subst ν;have:l=[]:=List.eq_nil_of_length_eq_zero (by omega);subst this;have S:=N;cases Z with
        |none=>
         simp only[aA] at N
         obtain⟨b,sp,g,hr,τ,α,rfl⟩:=N
         refine⟨ρ,w,_,fA.refl Q,S,?_⟩
         rw[hJ (ty:=ty) (base':=some ⟨b,r+sp.2,none⟩) (sLen:=d) (c':=g) h0 hd G h1 hu J (by omega) F]
         simp[storeCells]
        |some _=>
         simp only[aA] at N
         obtain⟨rfl,rfl,a',g,_,_,rfl⟩:=N
         refine⟨ρ,w,_,fA.refl Q,S,?_⟩
         rw[hJ (ty:=ty) (base':=some a') (sLen:=0) (c':=g) h0 hd G h1 hu J (by omega) F]
         simp[storeCells]
       .split at f
        .cases f
        .rename_i U;obtain rfl:Z=none:=by cases Z with|none=>rfl|some _=>exact absurd rfl U
         have S:=N
         simp only[aA] at N
         obtain⟨b,sp,g,hr,τ,α,rfl⟩:=N
         have A:=hJ (ty:=ty) (base':=some ⟨b,r+sp.2,none⟩) (sLen:=d) (c':=g) h0 hd G h1 hu J (by omega) F
         simp only[cF] at A
         simp only[Option.map_eq_some_iff] at f
         obtain⟨h2,hst,f⟩:=f
         cases f
         rw[cF] at hst
         obtain⟨w',L,O,_⟩:=rO Q (a:=⟨ai,r+d*P.cellsOf e,none⟩) hr hst C
         refine⟨ρ,w',.slice (some ⟨b,r+sp.2,none⟩) (d+n) g,O,?_,?_⟩
         .simp only[aA];exact⟨b,sp,g,hr,τ,α,rfl⟩
         .rw[A];rw[show r+d*P.cellsOf e+sp.2=r+sp.2+d*P.cellsOf e by omega] at L;rw[L];rfl
     .rename_i hgt;split at f
      .rename_i hbig;have grown:∀(m:Option Addr) (g:Nat) (M t:List Value) (ρ0:dR) (μ:AH),¬d+n<=g->aC ρ M t->M.length=d*P.cellsOf e->
         (Builtin.firstCells (P.cellsOf e) d (.slice m d g)).run P w.drew= .ok ⟨t⟩ w.drew->fA P B ρ h w ρ μ w->μ.next=h.next->
         ∃ρ' w' v',fA P B ρ h w ρ' (μ.alloc (.cells (M++new) e (0,0) false)) w'/\aA ρ' (.slice (some ⟨h.next,0,none⟩) (d+n) (d+n)) v'/\(Builtin.append_ p ty #[.slice m d g,x']).run P w= .ok v' w':=by
        intro m g M t ρ0 μ hgt' hold hol hor O hnx
        obtain⟨ι,ξ,X⟩:=Fv hid hx π
        have A:=Hu (ty:=ty) (base':=m) (sLen:=d) (c':=g) h0 hd G hzero σ h1 hu J hgt' (by rw[hby];exact hbig) hor ξ
        have hcap:=grownCap_ge w (d+n) g e
        have hol':=hold.length
        have hn2:=X.length
        refine⟨_,_,_,O.trans (rL (s:=(grownCap w (d+n) g e - (d+n),0)) O.inv (o:= .cells (M++new) e (0,0) false) (o':= .cells (⟨t⟩++⟨ι⟩++Builtin.zeroCells zv.cells (grownCap w (d+n) g e - (d+n))) e) (w':=w.drew.alloc (.cells (⟨t⟩++⟨ι⟩++Builtin.zeroCells zv.cells (grownCap w (d+n) g e - (d+n))) e)) ⟨_,rfl,?_,?_,fun hh=>by cases hh⟩ rfl rfl rfl rfl),?_,A⟩
        .have e1:(M++new).length=(t++ι).length:=by simp only[List.length_append];omega
         simp only[Array.toList_append,List.drop_zero]
         rw[e1,List.take_append_of_le_length (Nat.le_refl _),List.take_length]
         exact aC.mono (Ext.qH (O.inv.fresh _ (Nat.le_refl _))) _ _ (hold.append X)
        .have e2:zv.cells.size=P.cellsOf e:=by rw[σ];exact hzl
         simp only[Array.size_append,size_zeroCells,List.size_toArray,List.length_append,e2]
         omega
        .rw[hnx];simp only[aA];exact⟨_,_,_,aX,by omega,by simp only;omega,rfl⟩
       split at f
       .split at f
        .rename_i S;subst S;simp only[aA] at N;subst N;simp only[Option.some.injEq,Prod.mk.injEq] at f;obtain⟨rfl,rfl⟩:=f;have:=grown none κ [] [] ρ h hgt aC.nil (by simp) (by simp[Builtin.firstCells]) (fA.refl Q) rfl;simpa using this
        .cases f
       .rename_i a;obtain⟨ai,r,Z⟩:=a;split at f
        .rename_i U;simp only at U;subst U;split at f
         .rename_i S;subst S;simp only[aA] at N;obtain⟨_,rfl,a',g,hc0,_,rfl⟩:=N;obtain rfl:=hc0 trivial;simp only[Option.some.injEq,Prod.mk.injEq] at f;obtain⟨rfl,rfl⟩:=f;have:=grown (some a') 0 [] [] ρ h hgt aC.nil (by simp) (by simp[Builtin.firstCells,loadCells,loadCellsFrom]) (fA.refl Q) rfl;simpa using this
         .cases f
        .split at f
         .rename_i U;simp only at U;subst U;split at f
          .rename_i c q fz xx hg;split at f
           .rename_i hc;obtain⟨rfl,y,rfl,hao,rfl,rfl⟩:=hc;simp only at hao y;simp only[Option.some.injEq,Prod.mk.injEq] at f;obtain⟨rfl,rfl⟩:=f;simp only[aA] at N;obtain⟨_,_,a',g,_,α,rfl⟩:=N;obtain⟨b,sp,hr,hsp1,hpos⟩:=α trivial;obtain⟨ob,φ,cc,rfl,υ,hsz,hx0⟩:=Q.gH _ _ hg b sp hr;by_cases I:0+n<=g
            .have ν:0<n:=by omega
             obtain rfl:=hpos (by omega)
             have hb1:n*P.cellsOf q<=g*P.cellsOf q:=Nat.mul_le_mul_right _ (by omega)
             have hb2:g*P.cellsOf q<=sp.1*P.cellsOf q:=Nat.mul_le_mul_right _ hsp1
             have ε:∀v∈l,v.oneCell'=true:=by
              intro v hv';obtain⟨j,hj⟩:=List.getElem?_of_mem hv';have γ:j<new.length:=by
               have:=(List.getElem?_eq_some_iff.1 hj).1;omega
              obtain⟨u,θ,ω⟩:=C.get (List.getElem?_eq_getElem γ);rw[hj] at θ;cases θ;exact ω.Gp (List.all_eq_true.1 ο _ (List.getElem_mem γ))
             obtain⟨w',L,T,ψ,η,W⟩:=iO (P:=P) (b:=b) (e:=q) (fz:=(0,0)) rfl l w cc (r+sp.2+0*P.cellsOf q) 0 φ ε (by omega)
             have A:=hJ (ty:=ty) (base':=some ⟨b,r+sp.2,none⟩) (sLen:=0) (c':=g) h0 hd G h1 hu J I F
             simp only[cF] at A
             have hb3:(g - n)*P.cellsOf q=g*P.cellsOf q - n*P.cellsOf q:=by rw[Nat.sub_mul]
             refine⟨_,w',.slice (some ⟨b,r+sp.2,none⟩) (0+n) g,I3 Q y hg hr (s':=(g - n,r+sp.2)) (o:= .cells new q (0,0) false) ⟨_,rfl,?_,?_,fun hh=>by cases hh⟩ T ψ η W,?_,?_⟩
             .refine aC.mono (Ext.qH (Q.fresh _ (Nat.le_refl _))) _ _ ?_;have ht:((aQ cc.toList (r+sp.2+0*P.cellsOf q+0) l).drop (r+sp.2)).take new.length=l:=by
               unfold aQ;simp only[Nat.add_zero,Nat.zero_mul];rw[List.append_assoc,List.drop_append_of_le_length (by simp;omega),List.drop_take,Nat.sub_self,List.take_zero,List.nil_append];rw[show new.length=l.length by omega,List.take_append_of_le_length (Nat.le_refl _),List.take_length]
              show aC ρ _ (((aQ cc.toList (r+sp.2+0*P.cellsOf q+0) l).drop (r+sp.2)).take new.length)
              rw[ht]
              exact C
             .show r+sp.2+new.length+(g - n)*P.cellsOf q<=(aQ cc.toList (r+sp.2+0*P.cellsOf q+0) l).length;simp only[List.length_append,aQ,List.length_take,List.length_drop,Array.length_toList];omega
             .simp only[aA];exact⟨b,_,g,aX,by omega,by simp only;omega,by simp⟩
             .rw[A,L];rfl
            .have:=grown (some a') g [] [] ρ (h.set ai none) I aC.nil (by simp) (by simp[Builtin.firstCells,loadCells,loadCellsFrom]) (Jn Q y hg hr) (by simp);simpa using this
           .cases f
          .cases f
         .split at f
          .rename_i M c q fz xx hold hg;split at f
           .cases f
           .have S:=N;obtain rfl:Z=none:=by
             unfold aT at hold;cases Z with
             |none=>rfl
             |some _=>simp at hold
            simp only[aA] at N
            obtain⟨b,sp,g,hr,τ,α,rfl⟩:=N
            obtain⟨t,χ,ζ,_,δ⟩:=jF hid (a:=⟨ai,r,none⟩) hr hold
            have Y:(Builtin.firstCells (P.cellsOf e) d (.slice (some ⟨b,r+sp.2,none⟩) d g)).run P w.drew= .ok ⟨t⟩ w.drew:=χ
            obtain⟨ob,φ,cc,rfl,υ,hsz,hx0⟩:=Q.gH _ _ hg b sp hr
            split at f
            .rename_i hxx;simp only[Option.some.injEq,Prod.mk.injEq] at f;obtain⟨rfl,rfl⟩:=f;have hsp0:sp.1=0:=(hx0 hxx).1;exact grown _ g M t ρ h (by omega) ζ δ Y (fA.refl Q) rfl
            .rename_i hxx;split at f
             .rename_i hc;obtain⟨rfl,y,rfl,hcl⟩:=hc;simp only at hcl y;simp only[Option.some.injEq,Prod.mk.injEq] at f;obtain⟨rfl,rfl⟩:=f;by_cases I:d+n<=g
              .have hb1:(d+n)*P.cellsOf q<=g*P.cellsOf q:=Nat.mul_le_mul_right _ I;have hb2:g*P.cellsOf q<=(κ+sp.1)*P.cellsOf q:=Nat.mul_le_mul_right _ α;rw[Nat.add_mul] at hb1 hb2;have ε:∀v∈l,v.oneCell'=true:=by
                intro v hv';obtain⟨j,hj⟩:=List.getElem?_of_mem hv';have γ:j<new.length:=by
                 have:=(List.getElem?_eq_some_iff.1 hj).1;omega
                obtain⟨u,θ,ω⟩:=C.get (List.getElem?_eq_getElem γ);rw[hj] at θ;cases θ;exact ω.Gp (List.all_eq_true.1 ο _ (List.getElem_mem γ))
               obtain⟨w',L,T,ψ,η,W⟩:=iO (P:=P) (b:=b) (e:=q) (fz:=(0,0)) rfl l w cc (r+sp.2+d*P.cellsOf q) 0 φ ε (by omega)
               have A:=hJ (ty:=ty) (base':=some ⟨b,r+sp.2,none⟩) (sLen:=d) (c':=g) h0 hd G h1 hu J I F
               simp only[cF] at A
               have hb3:(g - (d+n))*P.cellsOf q=g*P.cellsOf q - (d*P.cellsOf q+n*P.cellsOf q):=by rw[Nat.sub_mul,Nat.add_mul]
               refine⟨_,w',.slice (some ⟨b,r+sp.2,none⟩) (d+n) g,I3 Q y hg hr (s':=(g - (d+n),r+sp.2)) (o:= .cells (M++new) q (0,0) false) ⟨_,rfl,?_,?_,fun hh=>by cases hh⟩ T ψ η W,?_,?_⟩
               .refine aC.mono (Ext.qH (Q.fresh _ (Nat.le_refl _))) _ _ ?_;have hcl':=υ.length;simp only[List.length_take,List.length_drop,Array.length_toList] at hcl';unfold aT at hold;simp only[Option.isSome_none,Bool.false_eq_true,if_false,hg] at hold;split at hold
                .rename_i hle';cases hold;have ht:((aQ cc.toList (r+sp.2+d*P.cellsOf q+0) l).drop (r+sp.2)).take ((c.drop r).take (d*P.cellsOf q)++new).length=(cc.toList.drop (r+sp.2)).take (d*P.cellsOf q)++l:=by
                  unfold aQ;have e1:((c.drop r).take (d*P.cellsOf q)++new).length=((cc.toList.drop (r+sp.2)).take (d*P.cellsOf q)++l).length:=by
                   simp only[List.length_append,List.length_take,List.length_drop,Array.length_toList];omega
                  rw[e1];simp only[Nat.add_zero];rw[List.append_assoc,List.drop_append_of_le_length (by simp;omega),List.drop_take,show r+sp.2+d*P.cellsOf q - (r+sp.2)=d*P.cellsOf q by omega,<-List.append_assoc];rw[List.take_append_of_le_length (Nat.le_refl _),List.take_length]
                 show aC ρ _ (((aQ cc.toList (r+sp.2+d*P.cellsOf q+0) l).drop (r+sp.2)).take ((c.drop r).take (d*P.cellsOf q)++new).length)
                 rw[ht]
                 refine aC.append ?_ C
                 have:=(υ.drop r).take (d*P.cellsOf q)
                 rw[List.drop_take,List.take_take,List.drop_drop,Nat.min_eq_left (by omega),Nat.add_comm sp.2 r] at this
                 exact this
                .cases hold
               .show r+sp.2+(M++new).length+(g - (d+n))*P.cellsOf q<=(aQ cc.toList (r+sp.2+d*P.cellsOf q+0) l).length;simp only[List.length_append,aQ,List.length_take,List.length_drop,Array.length_toList];omega
               .simp only[aA];exact⟨b,_,g,aX,I,by simp only;omega,by simp⟩
               simp_all
              .exact grown _ g M t ρ (h.set ai none) I ζ δ Y (Jn Q y hg hr) (by simp)
             .cases f
          .cases f
      .cases f
   .cases f
 .cases f
theorem uI (c:Inv P B ρ h w):fA P B ρ h w ρ h w.drew:=
 {fA.refl c with inv:=c.of_heap rfl}
theorem Cz (J:Inv P B ρ h w) {b:Builtin} {f:Array TypeId} {ty:TypeId} {consts:Array Bool} {args args':List Value} {v:Value} {h':AH} (I:aC ρ args args') (g:bY P h b f args=some (v,h')):
  ∃ρ' r T,fA P B ρ h w ρ' h' r/\aA ρ' v T/\(builtin b f ty consts ⟨args'⟩).run P w= .ok (.value T) r:=by
 unfold bY at g
 split at g
 .rename_i x;simp only[aC] at I;obtain⟨A,t,l,rfl,rfl⟩:=I;have j:∀(t:TypeId) (n:Nat),f[0]?=some t->(Builtin.len_ f ty #[A]).run P w= .ok (goInt n) w->∃ρ' r T,fA P B ρ h w ρ' h r/\aA ρ' (.int .i64 n) T/\(builtin .len f ty consts ⟨[A]⟩).run P w= .ok (.value T) r:=
   fun t n _ Y=>⟨ρ,w,.int .i64 n,fA.refl J,by simp only[aA],by
    show(do pure (Next.value (<-Builtin.len_ f ty #[A])):Sem Next).run P w=_;simp only[Sem.run_bind,Y,Result.andThen_ok];rfl⟩
  cases p:f[0]? with
  |none=>grind
  |some t=>
   rw[p] at g
   simp only[Option.bind_some] at g
   split at g
   .rename_i s q;simp only[Option.some.injEq,Prod.mk.injEq] at g;obtain⟨rfl,rfl⟩:=g;simp only[aA] at l;subst l;exact j t _ p (by simp[Builtin.len_,p,run_underlying q])
   .rename_i n e q;simp only[Option.some.injEq,Prod.mk.injEq] at g;obtain⟨rfl,rfl⟩:=g;exact j t _ p (by simp[Builtin.len_,p,run_underlying q])
   .rename_i e q;split at g
    .rename_i n e2 γ;simp only[Option.some.injEq,Prod.mk.injEq] at g;obtain⟨rfl,rfl⟩:=g;exact j t _ p (by simp[Builtin.len_,p,run_underlying q,run_underlying γ])
    .cases g
   .rename_i e a n c q;simp only[Option.some.injEq,Prod.mk.injEq] at g;obtain⟨rfl,rfl⟩:=g;cases a with
    |none=>simp only[aA] at l;subst l;exact j t _ p (by simp[Builtin.len_,p,run_underlying q])
    |some a=>
     obtain⟨_,_,sp⟩:=a
     cases sp with
     |none=>simp only[aA] at l;obtain⟨_,_,_,_,_,_,rfl⟩:=l;exact j t _ p (by simp[Builtin.len_,p,run_underlying q])
     |some _=>simp only[aA] at l;obtain⟨rfl,_,_,_,_,_,rfl⟩:=l;exact j t _ p (by simp[Builtin.len_,p,run_underlying q])
   .rename_i q;simp only[Option.map_eq_some_iff] at g;obtain⟨es,δ,g⟩:=g;cases g;exact j t _ p (Bw J p q l δ)
   .cases g
 .rename_i s x;simp only[aC] at I;obtain⟨s',_,hs,⟨A,_,l,rfl,rfl⟩,rfl⟩:=I;obtain⟨ρ',r,T,h1,h2,h3⟩:=Eu J (ty:=ty) hs l g;refine⟨ρ',r,T,h1,h2,?_⟩;show(do pure (Next.value (<-Builtin.append_ f ty #[s',A])):Sem Next).run P w=_;simp_all
 .rename_i d x;simp only[aC] at I;obtain⟨d',_,F,⟨A,_,l,rfl,rfl⟩,rfl⟩:=I;split at g
  .rename_i e θ C ι m q hm;split at g
   .cases g
   .rename_i L;obtain⟨i,L⟩:∃i,P.info? e=some i:=by cases hh:P.info? e with|none=>simp[hh] at L|some i=>exact⟨i,rfl⟩
    obtain⟨sT,p,q⟩:∃sT,f[0]?=some sT/\P.underlying sT=some (.slice e):=by
     grind
    have Z:=C7 (P:=P) (w:=w) l hm
    split at g
    .rename_i new G;obtain⟨W,X,O⟩:=Fv J l G;have j:∀(u:Option Addr) (U:Nat),(Builtin.copy_ f ty #[.slice u C U,A]).run P w=
       match u with
       |some a=>((storeCells a W).run P w).andThen fun _ r=> .ok (goInt (Nat.min m C)) r
       |none=> .ok (goInt (Nat.min m C)) w:=fun u U=>by
      cases u<;>simp[Builtin.copy_,p,run_underlying q,Z,cU L,X]
     split at g
     .simp only[Option.some.injEq,Prod.mk.injEq] at g;obtain⟨rfl,rfl⟩:=g;simp only[aA] at F;subst F;refine⟨ρ,w,.int .i64 (Nat.min m C:Nat),fA.refl J,by simp only[aA],?_⟩;show(do pure (Next.value (<-Builtin.copy_ f ty #[_,A])):Sem Next).run P w=_;simp only[Sem.run_bind,j,Result.andThen_ok];rfl
     .rename_i a;split at g
      .rename_i hz;simp only[Option.some.injEq,Prod.mk.injEq] at g;obtain⟨rfl,rfl⟩:=g;have α:W=[]:=by
        rw[hz] at G;have:new.length=0:=by
         unfold dM at G;split at G;grind;grind;simp_all;cases G
        exact List.eq_nil_of_length_eq_zero (by rw[O.length];exact this)
       subst α
       refine⟨ρ,w,.int .i64 0,fA.refl J,by simp only[aA],?_⟩
       obtain⟨ai,ao,M⟩:=a
       cases M with
       |none=>
        simp only[aA] at F;obtain⟨_,_,U,_,_,_,rfl⟩:=F
        show(do pure (Next.value (<-Builtin.copy_ f ty #[_,A])):Sem Next).run P w=_
        simp only[Sem.run_bind,j,storeCells,Sem.run_pure,Result.andThen_ok,hz];rfl
       |some _=>
        simp only[aA] at F;obtain⟨rfl,_,_,U,_,_,rfl⟩:=F
        show(do pure (Next.value (<-Builtin.copy_ f ty #[_,A])):Sem Next).run P w=_
        simp only[Sem.run_bind,j,storeCells,Sem.run_pure,Result.andThen_ok,hz];rfl
      .simp only[Option.map_eq_some_iff] at g;obtain⟨h2,S,g⟩:=g;cases g;obtain⟨ai,ao,M⟩:=a;cases M with
       |none=>
        simp only[aA] at F;obtain⟨b,sp,U,Y,_,_,rfl⟩:=F
        obtain⟨r,Q,N,_⟩:=rO J (a:=⟨ai,ao,none⟩) Y S O
        refine⟨ρ,r,.int .i64 (Nat.min m C:Nat),N,by simp only[aA],?_⟩
        show(do pure (Next.value (<-Builtin.copy_ f ty #[_,A])):Sem Next).run P w=_
        simp only[Sem.run_bind,j,Q,Result.andThen_ok];rfl
       |some _=>simp[bL] at S
    .cases g
  .cases g
 .rename_i x;simp only[aC] at I;obtain⟨A,t,l,rfl,rfl⟩:=I;have j:∀(r:World) (h':AH),fA P B ρ h w ρ h' r->(Builtin.clear_ f ty #[A]).run P w= .ok (.tuple #[]) r->∃ρ' r T,fA P B ρ h w ρ' h' r/\aA ρ' (.tuple #[]) T/\(builtin .clear f ty consts ⟨[A]⟩).run P w= .ok (.value T) r:=
   fun r h' he Y=>⟨ρ,r,.tuple #[],he,dB _ (by simp[bU,mU,iF]),by
    show(do pure (Next.value (<-Builtin.clear_ f ty #[A])):Sem Next).run P w=_;simp_all⟩
  cases p:f[0]? with
  |none=>grind
  |some t=>
   rw[p] at g
   simp only[Option.bind_some] at g
   split at g
   .rename_i d _ _ q;simp only[Option.some.injEq,Prod.mk.injEq] at g;obtain⟨rfl,rfl⟩:=g;simp only[aA] at l;subst l;exact j w _ (fA.refl J) (by simp[Builtin.clear_,p,run_underlying q])
   .rename_i e a n c q;obtain⟨ai,ao,M⟩:=a;split at g
    .rename_i hn;subst hn;simp only[Option.some.injEq,Prod.mk.injEq] at g;obtain⟨rfl,rfl⟩:=g;cases M with
     |none=>
      simp only[aA] at l;obtain⟨_,_,U,_,_,_,rfl⟩:=l
      exact j w _ (fA.refl J) (by simp[Builtin.clear_,p,run_underlying q])
     |some _=>
      simp only[aA] at l;obtain⟨_,_,_,U,_,_,rfl⟩:=l
      exact j w _ (fA.refl J) (by simp[Builtin.clear_,p,run_underlying q])
    .rename_i hn;split at g
     .rename_i z hz;simp only[Option.map_eq_some_iff] at g;obtain⟨h2,S,g⟩:=g;cases g;obtain⟨i,zv,L,hzero,μ,ε,ζ,η⟩:=lG (w:=w) hz;cases M with
      |none=>
       simp only[aA] at l;obtain⟨b,sp,U,Y,_,_,rfl⟩:=l
       obtain⟨r,Q,N,_⟩:=rO J (a:=⟨ai,ao,none⟩) Y S (tE (η ρ) n)
       refine j r _ N ?_
       have β:zv.cells=⟨z⟩:=by rw[<-ε]
       have κ:=A4 β ζ n
       unfold Builtin.clear_
       simp only[p,List.getElem?_toArray,List.getElem?_cons_zero,Sem.run_bind,run_underlying q,Result.andThen_ok]
       simp_all
      |some _=>simp[bL] at S
     .cases g
   .cases g
 .rename_i m k;simp only[aC] at I;obtain⟨m',_,hm,⟨k',_,hk,rfl,rfl⟩,rfl⟩:=I;split at g
  .rename_i t p;simp only[Option.map_eq_some_iff] at g;obtain⟨h2,q,g⟩:=g;cases g;obtain⟨r,Y,he⟩:=M3 (ty:=ty) J p hm hk q;refine⟨ρ,r,.tuple #[],he,dB _ (by simp[bU,mU,iF]),?_⟩;show(do pure (Next.value (<-Builtin.delete_ f ty ⟨[m',k']⟩)):Sem Next).run P w=_;simp_all
  .cases g
 .rename_i k x k' y;simp only[aC] at I;obtain⟨A,_,l,⟨y',_,hy,rfl,rfl⟩,rfl⟩:=I;simp only[aA] at l hy;subst l;subst hy;simp only[Option.some.injEq,Prod.mk.injEq] at g;obtain⟨rfl,rfl⟩:=g;exact⟨ρ,w,_,fA.refl J,by simp only[aA];rfl,by simp[builtin,Builtin.min_,Builtin.min2]⟩
 .rename_i k x k' y;simp only[aC] at I;obtain⟨A,_,l,⟨y',_,hy,rfl,rfl⟩,rfl⟩:=I;simp only[aA] at l hy;subst l;subst hy;simp only[Option.some.injEq,Prod.mk.injEq] at g;obtain⟨rfl,rfl⟩:=g;exact⟨ρ,w,_,fA.refl J,by simp only[aA];rfl,by simp[builtin,Builtin.max_,Builtin.max2]⟩
 .rename_i x;simp only[aC] at I;obtain⟨A,t,l,rfl,rfl⟩:=I;split at g
  .rename_i q;simp only[Option.some.injEq,Prod.mk.injEq] at g;obtain⟨rfl,rfl⟩:=g;simp only[aA] at l;subst l;cases p:f[0]? with
   |none=>simp[p] at q
   |some t=>
    rw[p] at q
    simp only[Option.bind_some] at q
    refine⟨ρ,w,_,fA.refl J,by simp only[aA];rfl,?_⟩
    show(do pure (Next.value (<-Builtin.cap_ f ty #[_])):Sem Next).run P w=_
    simp[Builtin.cap_,p,run_underlying q]
    rfl
  .cases g
 .cases g
end
end Go.Ab
section
namespace Go.Ab
noncomputable section
inductive nW where
 |eM|ret|exit (id:Nat)
structure Out where
 leave:nW
 ds:List Nat
 env:List Value
 v:Value
inductive Task where
 |todo (fn:FuncId) (ro:Option Nat) (ds:List Nat) (env:List Value) (k:List Item)
 |ops (all:Array Oper) (rest:List Oper) (env:List Value)
 |call (f:FuncId) (args:List Value)
 |round (l:Nat) (args:List Value)
def bA (P:Program) (env:List Value):Operand->Value
 |.tmp t=>env.getD t undef
 |.const v=>if bU v then v else top
 |.global g=>if g<P.globals.size then .pointer (some ⟨g,0,none⟩) else top
 |.func f=> .func (.func f) #[] #[]
def eE (env:List Value) (d:Option Tmp) (v:Value):List Value:=
 match d with
 |some d=>env.set d v
 |none=>env
def bS (all:Array Oper) (env:List Value) (o:Oper):Option Bool:=
 match o.guard with
 |none=>some true
 |some (j,want)=>
  match((all[j]?).bind (·.dst)).bind (env[·]?) with
  |some (.bool b)=>some (b==want)
  |some (.chan _)=>none
  |_=>some false
def eA (P:Program) (g:FuncId):Bool:=
 match P.funcs[g]? with
 |some c=>c.body.isSome&& !(c.name=="runtime.NumGoroutine")
 |none=>false
abbrev mT:=Task->AH->Option (Out×AH)
def dI:Builtin->Bool
 |.len|.min|.max=>true
 |_=>false
def dD (op:Op):Bool:=
 match op with
 |.call c=>(match c.callee with|.builtin b=>dI b|_=>false)
 |op=>kindOf op== .pW
def bZ (P:Program) (d:Operand->Value) (h:AH) (op:Op):Option Value:=
 match op with
 |.call c=>(match c.callee with|.builtin b=>if dI b then(bY P h b c.argTypes (c.args.toList.map d)).map (·.1) else none|_=>none)
 |op=>aH P d h op
def bQ (P:Program) (R:mT) (e:Operand->Value) (h:AH) (op:Op):Option (Value×AH):=
 match op with
 |.store t a x=>match e a with
  |.pointer (some a)=>(Bl P h t a (e x)).map fun j=>(undef,j)
  |_=>none
 |.mapUpdate t m k x=>(rK P h t (e m) (e k) (e x)).map fun j=>(undef,j)
 |.call c=>
  match c.callee with
  |.builtin b=>bY P h b c.argTypes (c.args.toList.map e)
  |.value f=>match e f with
   |.func (.func g) first d=>
    if eA P g then(R (.call g (first.toList++c.args.toList.map e++d.toList)) h).map fun r=>(r.1.v,r.2) else none
   |.func (.yield l) first _=>(R (.round l (first.toList++c.args.toList.map e)) h).map fun r=>(r.1.v,r.2)
   |_=>none
  |.invoke _ _=>none
 |_=>none
def fL (P:Program) (R:mT) (env:List Value) (h:AH) (op:Op):Option (Value×AH):=
 match kindOf op with
 |.pW=>(aH P (bA P env) h op).map fun v=>(v,h)
 |.alloc=>(bT P (bA P env) op).map fun r=>(r.2 h.next,h.alloc r.1)
 |.store|.call=>bQ P R (bA P env) h op
 |.other=>none
def cG (o:Oper):List Nat:=(o.after.toList.filter fun e=>Region.binds .any e).map (·.on)
def mW (acc:List Nat):List Nat->Nat
 |[]=>0
 |j::l=>(1<<<j)|||(acc.getD j 0|||mW acc l)
def cE:List Oper->List Nat->List Nat
 |[],acc=>acc
 |o::c,acc=>cE c (acc++[mW acc (cG o)])
def sY (ops:List Oper) (o:Oper):List Nat:=
 (o.op.operands.toList.filterMap fun|.tmp t=>some t|_=>none)++
 (match o.guard with|some (j,_)=>((ops[j]?).bind (·.dst)).toList|none=>[])
def bH (op:Op):Bool:=(kindOf op== .store||kindOf op== .call)&& !dD op
def ahead (ps:List Nat) (i j:Nat):Bool:=(ps.getD j 0).testBit i
def vS (ops:List Oper):Bool:=
 let c:=cE ops []
 let n:=ops.length
 let is:=List.range n
 (ops.zipIdx.all fun(o,i)=>(cG o).all (·<i))&&
 (ops.all fun o=>match o.op with|.select _ _=>false|.defer _=>false|_=>kindOf o.op != .other)&&
 (ops.zipIdx.all fun(o,i)=>ops.zipIdx.all fun(p,j)=>i==j||(
  (o.dst.isNone||o.dst !=p.dst)&&
  (match p.dst with|some d=> !(sY ops o).contains d||(if j<i then ahead c j i else ahead c i j)|none=>true)&&
  (!(bH o.op&&bH p.op&&j<i)||ahead c j i)))&&is.length==n
def tJ (ops:List Oper):List (Nat×Nat):=
 let d:=cE ops []
 let n:=ops.length
 let nT:=(List.range n).filter fun i=>(ops[i]?).any fun o=>bH o.op
 let c:=nT++[n]
 (List.range n).flatMap fun i=>
  if(ops[i]?).any (fun o=>dD o.op) then
   let own:=(c.find? (i<·)).getD n
   (c.filter fun p=>p !=own&&nT.all fun j=>if j<p then !ahead d i j else !ahead d j i).map fun p=>(i,p)
  else []
mutual
def mA:Value->Value->Bool
 |.bool a,.bool b=>a==b
 |.int j a,.int k b=>j==k&&a==b
 |.string a,.string b=>a==b
 |.pointer a,.pointer b=>a==b
 |.slice a l c,.slice b m d=>a==b&&l==m&&c==d
 |.map a,.map b=>a==b
 |.nilFunc,.nilFunc=>true
 |.nilIface,.nilIface=>true
 |.func f a b,.func g c d=>f==g&&Ng a c&&Ng b d
 |.iface t v,.iface u w=>t==u&&mA v w
 |.agg a,.agg b=>Ng a b
 |.tuple a,.tuple b=>Ng a b
 |_,_=>false
def Ng:Array Value->Array Value->Bool
 |⟨a⟩,b=>Fh a b.toList
def Fh:List Value->List Value->Bool
 |[],[]=>true
 |a::l,b::m=>mA a b&&Fh l m
 |_,_=>false
end
def cI (P:Program) (R:mT) (all:List Oper) (r0 i:Nat) (env:List Value) (h:AH) (o:Oper):Option (Value×AH):=
 match bS ⟨all⟩ env o with
 |none=>none
 |some false=>some (undef,h)
 |some true=>
  if dD o.op then(bZ P (bA P env) h o.op).map fun v=>(v,h)
  else if kindOf o.op== .alloc then(bT P (bA P env) o.op).map fun r=>(r.2 (r0+i),h.set (r0+i) (some r.1))
  else bQ P R (bA P env) h o.op
structure Rec where
 env:List Value
 h:AH
 v:Value
def dG (P:Program) (R:mT) (all:List Oper) (r0:Nat):Nat->List Oper->List Value->AH->Option (List Rec×List Value×AH)
 |_,[],c,h=>some ([],c,h)
 |i,o::f,c,h=>
  match cI P R all r0 i c h o with
  |some (v,d)=>match dG P R all r0 (i+1) f (eE c o.dst v) d with
   |some (g,e)=>some (⟨c,h,v⟩::g,e)
   |none=>none
  |none=>none
def kP (P:Program) (all:List Oper) (rs:List Rec) (hEnd:AH) (x:Nat×Nat):Bool:=
 match all[x.1]?,rs[x.1]? with
 |some o,some r=>
  match bS ⟨all⟩ r.env o with
  |some true=>(match bZ P (bA P r.env) (match rs[x.2]? with|some q=>q.h|none=>hEnd) o.op with|some v=>mA v r.v|none=>false)
  |_=>true
 |_,_=>false
def jG (P:Program) (R:mT) (ops:Array Oper) (env:List Value) (h:AH):Option (List Value×AH):=
 if vS ops.toList&&(P.follows .mixedOrders|| !Region.departs ops) then
  match dG P R ops.toList h.next 0 ops.toList env {h with next:=h.next+ops.size} with
  |some (e,c,d)=>if(tJ ops.toList).all (kP P ops.toList e d) then some (c,d) else none
  |none=>none
 else none
def aR:List Nat->AH->Option AH
 |[],h=>some h
 |d::c,h=>if h.base<=d then(match h.get d with|some (.marks true)=>aR c (h.set d (some (.marks false)))|_=>none) else none
def cN (P:Program) (h:AH) (env:List Value):List ResultVar->Option (List Value)
 |[]=>some []
 |.tmp t::c=>(cN P h env c).map fun l=>env.getD t undef::l
 |.cell a t::c=>match env.getD a undef with
  |.pointer (some a)=>match lS P h t a,cN P h env c with
   |some v,some l=>some (v::l)
   |_,_=>none
  |_=>none
def oneOf (vs:List Value):Value:=
 match vs with
 |[v]=>v
 |vs=> .tuple ⟨vs⟩
def aY (h:AH) (l:Nat) (st:LoopState) (pending:Option (Option Code)):Option AH:=
 match h.get l with
 |some (.loop _ p e tmps f assign c d)=>if h.base<=l then some (h.set l (some (.loop st (pending.getD p) e tmps f assign c d))) else none
 |_=>none
def bP (P:Program) (R:mT) (n:FuncId) (m:Option Nat) (j:List Nat) (env:List Value) (k:List Item) (h:AH):Option (Out×AH):=
 match k with
 |[]=>some (⟨.eM,j,env,undef⟩,h)
 |.code c::k=>
  match c with
  |.skip=>R (.todo n m j env k) h
  |.label _=>R (.todo n m j env k) h
  |.seq a b=>R (.todo n m j env (.code a:: .code b::k)) h
  |.cond c t e=>match bA P env c with
   |.bool b=>R (.todo n m j env (.code (if b then t else e)::k)) h
   |_=>none
  |.block id b=>R (.todo n m j env (.code b:: .inBlock id::k)) h
  |.loop b=>R (.todo n m j env (.code b:: .inLoop b::k)) h
  |.scope b=>R (.todo n m j env (.code b:: .inScope b::k)) h
  |.exit id=>match exitTo id k with
   |some C=>R (.todo n m j env C) h
   |none=>if m.isSome then some (⟨.exit id,j,env,undef⟩,h) else none
  |.ret=>some (⟨.ret,j,env,undef⟩,h)
  |.region _ ops false=>match R (.ops ops ops.toList env) h with
   |some (o,v)=>R (.todo n m j o.env k) v
   |none=>none
  |.region _ ops true=>match jG P R ops env h with
   |some (u,v)=>R (.todo n m j u k) v
   |none=>none
  |.rangeFunc f F assign r=>
   match(match m with
    |none=>some (h.next,h.alloc (.marks true),h.next::j)
    |some l=>match h.get l with
     |some (.loop _ _ _ _ _ _ _ d)=>some (d,h,j)
     |_=>none) with
   |some (d,x,y)=>
    match bA P env f with
    |.func (.func g) first q=>
     if eA P g then
      match R (.call g (first.toList++[.func (.yield x.next) #[] #[]]++q.toList)) (x.alloc (.loop .ready none n env F assign r d)) with
      |some (_,z)=>
       match z.get x.next with
       |some (.loop st p _ _ _ _ _ _)=>
        if st= .busy then none else
        match aY z x.next .exhausted none with
        |some A=>R (.todo n m y env ((p.map Item.code).toList++k)) A
        |none=>none
       |_=>none
      |none=>none
     else none
    |_=>none
   |none=>none
  |_=>none
 |.inBlock _::k=>R (.todo n m j env k) h
 |.inScope _::k=>R (.todo n m j env k) h
 |.inLoop b::k=>R (.todo n m j env (.code b:: .inLoop b::k)) h
 |.beginRound::k=>
  match m with
  |some l=>match h.get l with
   |some (.loop .ready _ _ _ _ _ _ _)=>match aY h l .busy none with
    |some v=>R (.todo n m j env k) v
    |none=>none
   |_=>none
  |none=>none
 |_=>none
def kB (P:Program) (R:mT) (all:Array Oper) (rest:List Oper) (env:List Value) (h:AH):Option (Out×AH):=
 match rest with
 |[]=>some (⟨.eM,[],env,undef⟩,h)
 |o::rest=>
  match bS all env o with
  |none=>none
  |some false=>R (.ops all rest (eE env o.dst undef)) h
  |some true=>match fL P R env h o.op with
   |some (v,c)=>R (.ops all rest (eE env o.dst v)) c
   |none=>none
inductive dU where
 |val (v:Value)
 |fwd (g:FuncId) (args:List Value)
 |host (F:AH->Option (Value×AH))
def D6:Value->Bool
 |.tuple ⟨[.int .i64 _,.bool _]⟩=>true
 |_=>false
def fJ (P:Program) (K:FuncId->List Value->Option dU) (R:mT) (f:FuncId) (args:List Value) (h:AH):Option (Out×AH):=
 match K f args with
 |some (.val v)=>some (⟨.eM,[],[],v⟩,h)
 |some (.fwd g l)=>match R (.call g l) h with
  |some (o,e)=>if D6 o.v then some (⟨.eM,[],[],o.v⟩,e) else none
  |none=>none
 |some (.host F)=>(F h).map fun r=>(⟨.eM,[],[],r.1⟩,r.2)
 |none=>
  match P.funcs[f]? with
  |some d=>
   match d.body with
   |some c=>
    match R (.todo f none [] (args++List.replicate (d.ntmps - args.length) undef) [.code c]) h with
    |some (o,e)=>
     match o.leave with
     |.exit _=>none
     |_=>match aR o.ds e with
      |some j=>(cN P j o.env d.results.toList).map fun m=>(⟨.eM,[],[],oneOf m⟩,j)
      |none=>none
    |none=>none
   |none=>none
  |none=>none
def gN (R:mT) (l:Nat) (args:List Value) (h:AH):Option (Out×AH):=
 match h.get l with
 |some (.loop _ _ g tmps f assign c _)=>
  if args.length=f.size then
   match R (.todo g (some l) [] ((f.toList.zip args).foldl (fun t (p,v)=>t.set p v) tmps) [.code assign,.beginRound,.code c]) h with
   |some (o,e)=>
    if o.ds.isEmpty then
     match o.leave with
     |.eM=>(aY e l .ready (some none)).map fun d=>(⟨.eM,[],[],.bool true⟩,d)
     |.ret=>(aY e l .done (some (some .ret))).map fun d=>(⟨.eM,[],[],.bool false⟩,d)
     |.exit id=>(aY e l .done (some (some (.exit id)))).map fun d=>(⟨.eM,[],[],.bool false⟩,d)
    else none
   |none=>none
  else none
 |_=>none
def run (P:Program) (K:FuncId->List Value->Option dU):Nat->mT
 |0,_,_=>none
 |n+1,.todo g j e d k,h=>bP P (fun t h=>run P K n t h) g j e d k h
 |n+1,.ops all rest d,h=>kB P (fun t h=>run P K n t h) all rest d h
 |n+1,.call f c,h=>fJ P K (fun t h=>run P K n t h) f c h
 |n+1,.round l c,h=>gN (fun t h=>run P K n t h) l c h
end
end Go.Ab
end
section
namespace Go.Ab
open Go.RowKit
variable {P:Program} {B:Nat} {ρ:dR} {h:AH} {w:World}
theorem rU (e:Inv P B ρ h w) {env:List Value} {a:Act} (c:aC ρ env a.tmps.toList) (x:Operand):aA ρ (bA P env x) (a.eval x):=by
 cases x with
 |tmp t=>
  have:=c.getD t;simpa [bA,Act.eval,List.getD_eq_getElem?_getD] using this
 |const v=>
  simp only[bA,Act.eval];split;rename_i j;exact dB v j;simp only[top,aA]
 |global g=>
  simp only[bA,Act.eval];split;rename_i d;simp only[aA];exact⟨g,(0,0),e.iN g d,rfl⟩;simp only[top,aA]
 |func f=>
  simp only[bA,Act.eval,aA,uJ];exact⟨_,_,_,rfl,by simp only[fG];exact aC.nil,by simp only[fG];exact aC.nil,rfl⟩
theorem J1 {env:List Value} {a:Act} {v v':Value} (d:Option Tmp) (c:aC ρ env a.tmps.toList) (e:aA ρ v v'):aC ρ (eE env d v) (a.put d v').tmps.toList:=by
 cases d with
 |none=>exact c
 |some d=>simpa [eE,Act.put] using c.set d e
theorem put_defers {a:Act} {d:Option Tmp} {v:Value}:(a.put d v).defers=a.defers:=by cases d<;>rfl
theorem nU:aA ρ undef undef:=dB undef (by simp[undef,bU,mU,iF])
theorem jA {all:Array Oper} {env:List Value} {a:Act} {o:Oper} {t:Bool} (m:aC ρ env a.tmps.toList) (g:bS all env o=some t):Region.wanted o (yielded all a.tmps)=t:=by
 unfold bS at g;unfold Region.wanted yielded;split at g;grind;rename_i j want q;rw[q];simp only;cases hd:(all[j]?).bind (·.dst) with
 |none=>grind
 |some d=>
  rw[hd] at g;simp only[Option.bind_some] at g ⊢;cases hv:env[d]? with
  |none=>
   have:=m.get_none hv;grind
  |some v=>
   obtain⟨y,l,e⟩:=m.get hv;have n:a.tmps[d]?=some y:=by simpa using l
   rw[hv] at g;rw[n];cases v with
   |bool b=>simp only[aA] at e;simp_all
   |chan r=>simp at g
   |agg cs=>simp only[aA] at e;grind
   |tuple cs=>simp only[aA] at e;grind
   |iface u x=>simp only[aA] at e;grind
   |func z f c=>simp only[aA] at e;grind
   |pointer p=>cases p with
    |none=>simp only[aA] at e;grind
    |some p=>simp only[aA] at e;grind
   |map p=>cases p with
    |none=>simp only[aA] at e;grind
    |some p=>simp only[aA] at e;grind
   |slice p _ _=>cases p with
    |none=>simp only[aA] at e;grind
    |some p=>
     obtain⟨_,_,sp⟩:=p
     cases sp with
     |none=>simp only[aA] at e;grind
     |some _=>simp only[aA] at e;grind
   |_=>simp only[aA] at e;grind
section steps
variable {b:Frame} {a:Act} {k:List Item} {cs:List Frame} {all:Array Oper} {i:Nat} {is:List Nat} {o:Oper}
theorem Es (d:all[i]?=some o) (g:Region.wanted o (yielded all a.tmps)=true) (e:∀c,o.op≠.defer c) {v:Value} {w w':World} (f:(execOp a.eval o).run P w= .ok (.value v) w'):
  step P (lone (b.atR a (.inRegion all (i::is)::k)) cs w)= .next (lone (b.atR (a.put o.dst v) (.inRegion all is::k)) cs w'):=by
 refine step_lone_go ?_
 rw[stepGR_op d g,Oper.semAt_eq _ _ _ e]
 simp[stepG.apply,Sem.runT_eq,f,GStep.bare_after,Frame.finish_atR,d]
theorem bh (d:all[i]?=some o) (g:Region.wanted o (yielded all a.tmps)=true) (e:∀c,o.op≠.defer c) {w w':World} (f:(execOp a.eval o).run P w= .ok .skip w'):
  step P (lone (b.atR a (.inRegion all (i::is)::k)) cs w)= .next (lone (b.atR (a.put o.dst undef) (.inRegion all is::k)) cs w'):=by
 refine step_lone_go ?_
 rw[stepGR_op d g,Oper.semAt_eq _ _ _ e]
 simp[stepG.apply,Sem.runT_eq,f,GStep.bare_after,Frame.finish_atR,d]
theorem ja (e:all[i]?=some o) (j:Region.wanted o (yielded all a.tmps)=true) (d:∀c,o.op≠.defer c) {f:FuncId} {args:Array Value} {w w':World} (g:(execOp a.eval o).run P w= .ok (.enter f args) w'):
  step P (lone (b.atR a (.inRegion all (i::is)::k)) cs w)= .next (lone (Frame.enter P f args .normal) (b.atR a (.inRegion all (i::is)::k)::cs) w'):=by
 refine step_lone_go ?_
 rw[stepGR_op e j,Oper.semAt_eq _ _ _ d]
 simp[stepG.apply,Sem.runT_eq,g,GStep.bare_after,Frame.atR]
theorem bp (e:all[i]?=some o) (j:Region.wanted o (yielded all a.tmps)=true) (d:∀c,o.op≠.defer c) {l:Nat} {f:FuncId} {tmps:Array Value} {as bd:Code} {w w':World} (g:(execOp a.eval o).run P w= .ok (.round l f tmps as bd) w'):
  step P (lone (b.atR a (.inRegion all (i::is)::k)) cs w)= .next (lone (Frame.round l f tmps as bd .normal) (b.atR a (.inRegion all (i::is)::k)::cs) w'):=by
 refine step_lone_go ?_
 rw[stepGR_op e j,Oper.semAt_eq _ _ _ d]
 simp[stepG.apply,Sem.runT_eq,g,GStep.bare_after,Frame.atR]
end steps
def Db (ρ:dR):Option Nat->Option Nat->Prop
 |none,r=>r=none
 |some l,r=>∃b s,ρ l=some (b,s)/\r=some b
def C3 (ρ:dR):List Nat->List Deferred->Prop
 |[],c=>c=[]
 |d::l,c=>∃b s t,ρ d=some (b,s)/\C3 ρ l t/\c={target:= .collected b,args:= #[]}::t
theorem Db.mono {ρ ρ':dR} (h:Ext ρ ρ') {r c:Option Nat} (k:Db ρ r c):Db ρ' r c:=by
 cases r with
 |none=>exact k
 |some l=>obtain⟨b,s,d,e⟩:=k;exact⟨b,s,h _ _ d,e⟩
theorem C3.mono {ρ ρ':dR} (h:Ext ρ ρ'):∀{l:List Nat} {c:List Deferred},C3 ρ l c->C3 ρ' l c
 |[],_,k=>k
 |_::_,_,⟨b,s,t,d,e,f⟩=>⟨b,s,t,h _ _ d,C3.mono h e,f⟩
def Nd:nW->List Item->Prop
 |.eM,k=>k=[]
 |.ret,k=>∃c,k= .code .ret::c
 |.exit id,k=>∃c,k= .code (.exit id)::c/\exitTo id c=none
def P2 (all:Array Oper):List Nat->List Oper->Prop
 |[],[]=>True
 |i::is,o::c=>all[i]?=some o/\P2 all is c
 |_,_=>False
structure gh (a b:Nat) (w w':World):Prop where
 A0:∀i,i<w.heap.size->(i<a\/b<=i)->w'.heap[i]?=w.heap[i]?
 size:w.heap.size<=w'.heap.size
 os:w'.os=w.os
 out:w'.output=w.output
 tape:w'.tape=w.tape
structure Ua (a:Nat) (w w':World):Prop where
 A0:∀i,a<=i->i<w.heap.size->w'.heap[i]?=w.heap[i]?
 size:w.heap.size<=w'.heap.size
 os:w'.os=w.os
 out:w'.output=w.output
 tape:w'.tape=w.tape
structure Ctx (P:Program) (B:Nat) (K:FuncId->List Value->Option dU) where
 G:World->Prop
 A0:∀w w',Below B w w'->G w->G w'
 call:∀f args v w,K f args=some (.val v)->G w->iF args=true/\Calls P f ⟨args⟩ w fun e w'=>(∃v',e= .returned v'/\∀ρ,aA ρ v v')/\Below w.heap.size w w'
 fwd:∀f args g bs,K f args=some (.fwd g bs)->∀(ρ:dR) (args':List Value) (w:World),aC ρ args args'->G w->
  ∃(bs':List Value) (w1:World),aC ρ bs bs'/\Below w.heap.size w w1/\∀(v:Value) (S:World->Prop),D6 v=true->
   Calls P g ⟨bs'⟩ w1 (fun e w'=>e= .returned v/\Ua w.heap.size w1 w'/\S w')->
    Calls P f ⟨args'⟩ w (fun e w'=>e= .returned v/\∃w2,S w2/\gh w.heap.size w1.heap.size w2 w')
 host:∀f args F,K f args=some (.host F)->∀(h:AH) (v:Value) (h':AH),F h=some (v,h')->∀(ρ:dR) (w:World) (args':List Value),Inv P B ρ h w->G w->aC ρ args args'->
  Calls P f ⟨args'⟩ w fun e w'=>∃ρ' v',e= .returned v'/\aA ρ' v v'/\fA P B ρ h w ρ' h' w'
variable {K:FuncId->List Value->Option dU}
def Ow (C:Ctx P B K) (f:FuncId) (args:List Value) (h:AH) (v:Value) (h':AH):Prop:=
 ∀(ρ:dR) (w:World) (c:List Value),Inv P B ρ h w->C.G w->aC ρ args c->
  Calls P f ⟨c⟩ w fun e g=>∃ρ' d,e= .returned d/\aA ρ' v d/\fA P B ρ h w ρ' h' g
def Km (C:Ctx P B K) (l:Nat) (args:List Value) (h:AH) (v:Value) (h':AH):Prop:=
 ∀(ρ:dR) (w:World) (d:List Value) (e:Nat) (s:Nat×Nat),Inv P B ρ h w->C.G w->aC ρ args d->ρ l=some (e,s)->
  ∃f tmps as bd,(Instr.yield e ⟨d⟩).run P w= .ok (.round e f tmps as bd) w/\
   ∀(c:Frame) (cs:List Frame),∃ρ' g j,aA ρ' v g/\fA P B ρ h w ρ' h' j/\Steps P (lone (Frame.round e f tmps as bd .normal) (c::cs) w) (lone (c.finish g) cs j)
def yL (C:Ctx P B K) (g:FuncId) (j:Option Nat) (f:List Nat) (env:List Value) (k:List Item) (h:AH) (out:Out) (h':AH):Prop:=
 ∀(ρ:dR) (w:World) (b:Frame) (a:Act) (cs:List Frame),Inv P B ρ h w->C.G w->b.fn=g->Db ρ j b.roundOf->aC ρ env a.tmps.toList->C3 ρ f a.defers->
  ∃ρ' e c d,fA P B ρ h w ρ' h' e/\aC ρ' out.env c.tmps.toList/\C3 ρ' out.ds c.defers/\Steps P (lone (b.atR a k) cs w) (lone (b.atR c d) cs e)/\Nd out.leave d
def Uu (C:Ctx P B K) (all:Array Oper) (rest:List Oper) (env:List Value) (h:AH) (out:Out) (h':AH):Prop:=
 ∀(ρ:dR) (w:World) (b:Frame) (a:Act) (cs:List Frame) (is:List Nat) (k:List Item),Inv P B ρ h w->C.G w->aC ρ env a.tmps.toList->P2 all is rest->
  ∃ρ' d c,fA P B ρ h w ρ' h' d/\aC ρ' out.env c.tmps.toList/\c.defers=a.defers/\Steps P (lone (b.atR a (.inRegion all is::k)) cs w) (lone (b.atR c (.inRegion all []::k)) cs d)
def s7 (C:Ctx P B K):Task->AH->Out->AH->Prop
 |.todo j m g d k,h,out,e=>yL C j m g d k h out e
 |.ops all rest d,h,out,e=>Uu C all rest d h out e
 |.call f c,h,out,e=>Ow C f c h out.v e
 |.round l c,h,out,e=>Km C l c h out.v e
def sK (C:Ctx P B K) (R:mT):Prop:=∀t h out c,R t h=some (out,c)->s7 C t h out c
theorem fA.G (C:Ctx P B K) (d:Inv P B ρ h w) {ρ':dR} {h':AH} {w':World} (e:fA P B ρ h w ρ' h' w') (c:C.G w):C.G w':=C.A0 _ _ (e.below d) c
def V8 (P:Program) (B:Nat) (ρ:dR) (h:AH) (w:World) (b:Frame) (a:Act) (all:Array Oper) (i:Nat) (is:List Nat) (k:List Item) (cs:List Frame) (o:Oper) (v:Value) (h':AH):Prop:=
 ∃ρ' d c,fA P B ρ h w ρ' h' d/\aA ρ' v c/\Steps P (lone (b.atR a (.inRegion all (i::is)::k)) cs w) (lone (b.atR (a.put o.dst c) (.inRegion all is::k)) cs d)
theorem vF {g:FuncId} (c:eA P g=true) (args:Array Value):(callFunc g args).run P w= .ok (.enter g args) w:=by
 unfold eA at c;cases hf:P.funcs[g]? with
 |none=>simp[hf] at c
 |some d=>
  rw[hf] at c;simp only[Bool.and_eq_true,Bool.not_eq_true'] at c;have e:d.body.isNone=false:=by simp_all
  simp only[callFunc,Sem.run_bind,run_program,Result.andThen_ok,hf,c.2,Bool.false_eq_true,if_false,e,Sem.run_pure]
theorem qO (C:Ctx P B K) {R:mT} (hR:sK C R) (Z:Inv P B ρ h w) (hg:C.G w) {ev:Operand->Value} {b:Frame} {a:Act} (n:∀x,aA ρ (ev x) (a.eval x)) {all:Array Oper} {i:Nat} {is:List Nat}
  (k:List Item) (cs:List Frame) {o:Oper} (U:all[i]?=some o) (hw:Region.wanted o (yielded all a.tmps)=true) {v:Value} {h':AH} (d:bQ P R ev h o.op=some (v,h')):
  V8 P B ρ h w b a all i is k cs o v h':=by
 obtain⟨dst,op,ty,pos,after,guard⟩:=o
 simp only at d
 unfold bQ at d
 split at d
 .rename_i t x y;split at d
  .rename_i ad hx;simp only[Option.map_eq_some_iff] at d;obtain⟨h2,W,d⟩:=d;cases d;have F:=n x;rw[hx] at F;obtain⟨N,hr,j⟩:=Jk Z F (n y) W;refine⟨ρ,N,undef,j,nU,.one (bh U hw (fun c G=>by cases G) ?_)⟩;simp[execOp,hr]
  .cases d
 .rename_i t m k x;simp only[Option.map_eq_some_iff] at d;obtain⟨h2,W,d⟩:=d;cases d;obtain⟨N,hr,j⟩:=Mm Z (n m) (n k) (n x) W;refine⟨ρ,N,undef,j,nU,.one (bh U hw (fun c G=>by cases G) ?_)⟩;simp[execOp,hr]
 .rename_i c;obtain⟨callee,args,argTypes⟩:=c;simp only at d;split at d
  .rename_i bi;obtain⟨ρ',N,v',j,q,hr⟩:=Cz (ty:=ty) (consts:=args.map fun|.const _=>true|_=>false) (args':=args.toList.map a.eval) Z (aC.sS n _) d;refine⟨ρ',N,v',j,q,.one (Es U hw (fun c G=>by cases G) ?_)⟩;have:args.map a.eval=⟨args.toList.map a.eval⟩:=Array.ext' (by simp);simp only[execOp,resolve,Sem.run_bind,Sem.run_pure,Result.andThen_ok,invoke];grind
  .rename_i f;split at d
   .rename_i g first p hf
    split at d
    .rename_i X;simp only[Option.map_eq_some_iff] at d;obtain⟨⟨out,h2⟩,A,d⟩:=d;cases d;have F:=n f;rw[hf] at F;simp only[aA,uJ] at F;obtain⟨_,u,O,rfl,T,Y,S⟩:=F;have r:aC ρ (first.toList++args.toList.map ev++p.toList) (u.toList++args.toList.map a.eval++O.toList):=
      ((dY.1 T).append (aC.sS n _)).append (dY.1 Y)
     have Q:=hR _ _ _ _ A ρ w _ Z hg r (b.atR a (.inRegion all (i::is)::k)::cs)
     obtain⟨e,N,fr,⟨ρ',v',rfl,q,j⟩,I,_,J⟩:=Q
     refine⟨ρ',N,v',j,q,?_⟩
     have z:(execOp a.eval {dst:=dst,op:= .call {callee:= .value f,args:=args,argTypes:=argTypes},type:=ty,pos:=pos,after:=after,guard:=guard}).run P w= .ok (.enter g ⟨u.toList++args.toList.map a.eval++O.toList⟩) w:=by
      simp only[execOp,resolve,Sem.run_bind,S,Deferred.ofValue,Sem.run_pure,Result.andThen_ok,invoke,vF X];simp_all
     refine .head (ja U hw (fun c G=>by cases G) z) (Steps.trans I (.one ?_))
     rw[step_leave_returned J,Frame.finish_atR,U]
     rfl
    .cases d
   .rename_i l first p hf
    simp only[Option.map_eq_some_iff] at d
    obtain⟨⟨out,h2⟩,A,d⟩:=d
    cases d
    have F:=n f
    rw[hf] at F
    simp only[aA,uJ] at F
    obtain⟨_,u,O,⟨lb,s,hl,rfl⟩,T,Y,S⟩:=F
    have r:aC ρ (first.toList++args.toList.map ev) (u.toList++args.toList.map a.eval):=
     (dY.1 T).append (aC.sS n _)
    obtain⟨fn,tmps,as,bd,hy,L⟩:=hR _ _ _ _ A ρ w _ lb s Z hg r hl
    obtain⟨ρ',v',N,q,j,M⟩:=L (b.atR a (.inRegion all (i::is)::k)) cs
    refine⟨ρ',N,v',j,q,?_⟩
    have z:(execOp a.eval {dst:=dst,op:= .call {callee:= .value f,args:=args,argTypes:=argTypes},type:=ty,pos:=pos,after:=after,guard:=guard}).run P w= .ok (.round lb fn tmps as bd) w:=by
     simp only[execOp,resolve,Sem.run_bind,S,Deferred.ofValue,Sem.run_pure,Result.andThen_ok,invoke];have:u++args.map a.eval=⟨u.toList++args.toList.map a.eval⟩:=Array.ext' (by simp);grind
    have hs:=Steps.head (bp U hw (fun c G=>by cases G) z) M
    rw[Frame.finish_atR,U] at hs
    exact hs
   .cases d
  .cases d
 .cases d
theorem iH {op:Op} (h:kindOf op≠.other):∀c,op≠.defer c:=by
 intro c d;subst d;exact h rfl
theorem E6 (C:Ctx P B K) {R:mT} (hR:sK C R) (e:Inv P B ρ h w) (x:C.G w) {env:List Value} {b:Frame} {a:Act} (F:aC ρ env a.tmps.toList) {all:Array Oper} {i:Nat} {is:List Nat}
  (k:List Item) (cs:List Frame) {o:Oper} (m:all[i]?=some o) (n:Region.wanted o (yielded all a.tmps)=true) {v:Value} {h':AH} (c:fL P R env h o.op=some (v,h')):
  V8 P B ρ h w b a all i is k cs o v h':=by
 have d:=rU e F
 unfold fL at c
 split at c
 .rename_i q;simp only[Option.map_eq_some_iff] at c;obtain⟨u,t,c⟩:=c;cases c;obtain⟨G,r,j⟩:=wY e d o t;exact⟨ρ,w,G,fA.refl e,j,.one (Es m n (iH (by rw[q];simp)) r)⟩
 .rename_i q;simp only[Option.map_eq_some_iff] at c;obtain⟨⟨z,f⟩,t,c⟩:=c;cases c;obtain⟨y,g,A,r,l⟩:=xQ (P:=P) (w:=w) d o t;have p:mB P (qH ρ h.next (w.heap.size,(0,0))) (0,0) z y:=A.mono (Ext.qH (e.fresh _ (Nat.le_refl _)));exact⟨_,w.alloc y,g w.heap.size,rL e p rfl rfl rfl rfl,l _ _ (0,0) rfl aX,.one (Es m n (iH (by rw[q];simp)) r)⟩
 .exact qO C hR e x d k cs m n c
 .exact qO C hR e x d k cs m n c
 .cases c
theorem P5 (C:Ctx P B K) {R:mT} (hR:sK C R) {all:Array Oper} {rest:List Oper} {env:List Value} {h:AH} {out:Out} {h':AH}
  (d:kB P R all rest env h=some (out,h')):Uu C all rest env h out h':=by
 intro ρ w b a cs is k j m e c
 unfold kB at d
 split at d
 .cases d;cases is with
  |nil=>exact⟨ρ,w,a,fA.refl j,e,rfl,Steps.refl _ _⟩
  |cons i is=>exact c.elim
 .rename_i o rest;cases is with
  |nil=>exact c.elim
  |cons i is=>
   obtain⟨y,c⟩:=c
   split at d
   .cases d
   .rename_i p;have f:=jA e p;obtain⟨ρ',q,l,t,r,u,x⟩:=hR _ _ _ _ d ρ w b (a.put o.dst undef) cs is k j m (J1 _ e nU) c;refine⟨ρ',q,l,t,r,u.trans put_defers,.head ?_ x⟩;have:=stepR_op_skip (P:=P) (b:=b) (a:=a) (k:=k) (cs:=cs) (w:=w) (ops:=all) (i:=i) (rest:=is) (by grind);grind
   .rename_i p;have f:=jA e p;split at d
    .rename_i v r n;obtain⟨ρ1,A,v1,g,z,s1⟩:=E6 C hR j m e k cs y f (b:=b) (is:=is) n;obtain⟨ρ',q,l,g1,g2,g3,g4⟩:=hR _ _ _ _ d ρ1 A b (a.put o.dst v1) cs is k g.inv (g.G C j m) (J1 _ (aC.mono g.ext _ _ e) z) c;exact⟨ρ',q,l,g.trans g1,g2,g3.trans put_defers,s1.trans g4⟩
    .cases d
end Go.Ab
end
namespace Go.Ab
open Go.RowKit
section
variable {P:Program} {B:Nat} {ρ:dR} {h:AH} {w:World} {K:FuncId->List Value->Option dU}
theorem kM (c:Inv P B ρ h w) {w':World} (hb:Below w.heap.size w w'):fA P B ρ h w ρ h w':=
 {fA.refl c with
  inv:={
   gH:=fun i o g b s j=>by
    obtain⟨l,e,f⟩:=c.gH i o g b s j;exact⟨l,(hb.block b (Array.getElem?_eq_some_iff.1 e).1).trans e,f⟩
   inj:=c.inj,low:=c.low,old:=c.old,fresh:=c.fresh,dF:=c.dF,iN:=c.iN,size:=Nat.le_trans c.size hb.size,bn:=c.bn}
  frame:=fun b d _=>hb.block b d
  size:=hb.size
  os:=hb.os
  out:=hb.output
  tape:=hb.tape}
theorem Uc (t:Inv P B ρ h w) {m x w':World} (d:Below w.heap.size w m) {ρ':dR} {h':AH} (c:fA P B ρ h m ρ' h' x) (e:gh w.heap.size m.heap.size x w'):fA P B ρ h w ρ' h' w':=by
 have u:∀j b s,(h.get j).isSome->ρ j=some (b,s)->b<w.heap.size:=fun j b s G g=>by
  obtain⟨I,q⟩:=Option.isSome_iff_exists.1 G;obtain⟨v,F,_⟩:=t.gH j I q b s g;grind
 exact {c with
  inv:={c.inv with
   gH:=fun i o r b s g=>by
    obtain⟨v,l,n⟩:=c.inv.gH i o r b s g;have p:=(Array.getElem?_eq_some_iff.1 l).1;refine⟨v,?_,n⟩;rw[e.A0 b p];exact l;rcases Nat.lt_or_ge i h.base with f|f;left;have:=c.inv.old i b s (by rw[c.base];exact f) g;have:=t.size;omega;rcases Nat.lt_or_ge b m.heap.size with hb|hb;left;obtain⟨j,L,J,A,z⟩:=c.range i b s f (by rw[r];rfl) g hb;grind;exact .inr hb
   size:=Nat.le_trans c.inv.size e.size}
  frame:=fun b hb C=>by
   rw[e.A0 b (Nat.lt_of_lt_of_le hb (Nat.le_trans d.size c.size)) (.inl hb),c.frame b (Nat.lt_of_lt_of_le hb d.size) C,d.block b hb]
  range:=fun i b s l n y hb=>c.range i b s l n y (Nat.lt_of_lt_of_le hb d.size)
  size:=Nat.le_trans d.size (Nat.le_trans c.size e.size)
  os:=by rw[e.os,c.os,d.os]
  out:=by rw[e.out,c.out,d.output]
  tape:=by rw[e.tape,c.tape,d.tape]}
mutual
theorem rJ {ρ:dR}:∀(v v':Value),bU v=true->aA ρ v v'->v'=v
 |.bool _,_,_,k=>by simp only[aA] at k;exact k
 |.int _ _,_,_,k=>by simp only[aA] at k;exact k
 |.float _ _,_,_,k=>by simp only[aA] at k;exact k
 |.complex _ _ _,_,_,k=>by simp only[aA] at k;exact k
 |.string _,_,_,k=>by simp only[aA] at k;exact k
 |.pointer none,_,_,k=>by simp only[aA] at k;exact k
 |.pointer (some _),_,h,_=>by simp[bU] at h
 |.slice none _ _,_,_,k=>by simp only[aA] at k;exact k
 |.slice (some _) _ _,_,h,_=>by simp[bU] at h
 |.map none,_,_,k=>by simp only[aA] at k;exact k
 |.map (some _),_,h,_=>by simp[bU] at h
 |.chan _,_,h,_=>by simp[bU] at h
 |.func _ _ _,_,h,_=>by simp[bU] at h
 |.nilFunc,_,_,k=>by simp only[aA] at k;exact k
 |.iface _ v,_,h,k=>by
  simp only[aA] at k;simp only[bU] at h;obtain⟨u,c,rfl⟩:=k;rw[rJ v u h c]
 |.nilIface,_,_,k=>by simp only[aA] at k;exact k
 |.agg cs,_,h,k=>by
  simp only[aA] at k;simp only[bU] at h;obtain⟨u,c,rfl⟩:=k;rw[El cs u h c]
 |.tuple cs,_,h,k=>by
  simp only[aA] at k;simp only[bU] at h;obtain⟨u,c,rfl⟩:=k;rw[El cs u h c]
theorem El {ρ:dR}:∀(v v':Array Value),mU v=true->fG ρ v v'->v'=v
 |⟨l⟩,a,h,k=>by
  simp only[mU] at h;simp only[fG] at k;have:=vU l a.toList h k;grind
theorem vU {ρ:dR}:∀(l c:List Value),iF l=true->aC ρ l c->c=l
 |[],_,_,k=>by simp only[aC] at k;exact k
 |v::l,_,h,k=>by
  simp only[aC] at k;simp only[iF,Bool.and_eq_true] at h;obtain⟨g,f,d,e,rfl⟩:=k;rw[rJ v g h.1 d,vU l f h.2 e]
end
theorem pN (n:Inv P B ρ h w) {env:List Value} {tmps:Array Value} (g:aC ρ env tmps.toList):∀(rs:List ResultVar) (vs:List Value),cN P h env rs=some vs->
  ∃c,(rs.mapM (m:=Sem) fun|.tmp t=>pure (tmps.getD t undef)|.cell a t=>do loadVar t (<-asAddr (tmps.getD a undef))).run P w= .ok c w/\aC ρ vs c
 |[],vs,d=>by simp only[cN,Option.some.injEq] at d;subst d;exact⟨[],by simp,aC.nil⟩
 |.tmp t::rs,vs,d=>by
  simp only[cN,Option.map_eq_some_iff] at d;obtain⟨l,p,rfl⟩:=d;obtain⟨c,A,e⟩:=pN n g rs l p;refine⟨tmps.getD t undef::c,?_,aC.cons ?_ e⟩;simp_all;have:=g.getD t;simp_all
 |.cell a t::rs,vs,d=>by
  simp only[cN] at d;split at d;rename_i C z;split at d;rename_i v l x y;cases d;obtain⟨c,A,e⟩:=pN n g rs l y;have j:aA ρ (env.getD a undef) (tmps.getD a undef):=by have:=g.getD a;simp_all
  rw[z] at j;obtain⟨u,f,r⟩:=Bp n j x;refine⟨u::c,?_,aC.cons r e⟩;simp only[aA] at j;obtain⟨b,s,_,q⟩:=j;have p:(do loadVar t (<-asAddr (tmps.getD a undef)):Sem Value).run P w= .ok u w:=by
   rw[q] at f ⊢;simp only[Instr.loadAt,Instr.sureAddr,Sem.run_bind,Sem.run_pure,Result.andThen_ok] at f;simp only[asAddr,Sem.run_bind,Sem.run_pure,Result.andThen_ok,f]
  simp only[List.mapM_cons];rw[Sem.run_bind,p];simp_all;cases d;cases d
theorem Hp (q:Inv P B ρ h w) {env:List Value} {tmps:Array Value} (p:aC ρ env tmps.toList) {f:Func} {vs:List Value} (x:cN P h env f.results.toList=some vs):
  ∃g,(results f tmps).run P w= .ok g w/\aA ρ (oneOf vs) g:=by
 obtain⟨d,y,e⟩:=pN q p _ _ x
 have r:(f.results.mapM (m:=Sem) fun|.tmp t=>pure (tmps.getD t undef)|.cell a t=>do loadVar t (<-asAddr (tmps.getD a undef))).run P w= .ok ⟨d⟩ w:=by
  rw[Array.mapM_eq_mapM_toList];simp_all
 refine⟨oneOf d,?_,?_⟩
 .unfold results;rw[Sem.run_bind];generalize n:Sem.run P (Array.mapM _ f.results) w=X;have j:X= .ok ⟨d⟩ w:=n.symm.trans r;rw[j];simp only[Result.andThen_ok,Sem.run_pure,Result.ok.injEq,and_true];match d with
  |[]=>rfl
  |[v]=>rfl
  |v::u::l=>simp[oneOf]
 .match vs,d,e with
  |[],[],_=>simp only[oneOf,aA];exact⟨_,by simp only[fG];exact aC.nil,rfl⟩
  |[v],[g],c=>exact(aC.He.1 c).1
  |v::u::l,g::A::z,c=>simp only[oneOf,aA];exact⟨_,by simp only[fG];exact c,rfl⟩
  |[],_::_,c=>simp[aC] at c
  |[_],[],c=>have:=c.length;simp at this
  |[_],_::_::_,c=>have:=c.length;simp at this
  |_::_::_,[],c=>have:=c.length;simp at this
  |_::_::_,[_],c=>have:=c.length;simp at this
theorem step_collected {fr:Frame} {cs:List Frame} {r:Nat} {args:Array Value} {c:List Deferred} {w':World} (e:fr.mode= .returning) (d:fr.defers={target:= .collected r,args:=args}::c)
  (f:(Instr.takeDeferred r).run P w= .ok [] w'):step P (lone fr cs w)= .next (lone {fr with defers:=c} cs w'):=
 step_lone_go (by simp[stepG,unwind,e,d,Sem.runT_eq,f,GStep.bare_after])
theorem xK:∀(r:List Nat) (h m:AH) (w:World) (fr:Frame) (cs:List Frame),aR r h=some m->Inv P B ρ h w->C3 ρ r fr.defers->fr.mode= .returning->
  ∃q,fA P B ρ h w ρ m q/\Steps P (lone fr cs w) (lone {fr with defers:=[]} cs q)
 |[],h,m,w,fr,cs,g,v,u,_=>by
  simp only[aR,Option.some.injEq] at g;subst g;simp only[C3] at u;refine⟨w,fA.refl v,?_⟩;rw[<-u];exact Steps.refl _ _
 |d::r,h,m,w,fr,cs,g,v,u,F=>by
  simp only[aR] at g;split at g;rename_i l;split at g;rename_i C;obtain⟨b,s,t,I,L,x⟩:=u;obtain⟨M,G,A⟩:=v.gH _ _ C b s I;simp only[mB,if_true] at A;subst A;have n:∀c e f,Obj.deferred (some [])≠.cells c e f:=fun _ _ _ J=>by cases J
  have p:(Instr.takeDeferred b).run P w= .ok [] {w with heap:=w.heap.setIfInBounds b (.deferred none)}:=by
   simp only[Instr.takeDeferred,Sem.run_bind,sO G n,Result.andThen_ok,lU G n,Sem.run_pure]
  have j:=mJ v l C I (o:= .marks false) (o':= .deferred none) (w':={w with heap:=w.heap.setIfInBounds b (.deferred none)}) (by simp[mB]) rfl rfl rfl rfl;obtain⟨q,y,z⟩:=xK r _ m _ {fr with defers:=t} cs g j.inv L F;exact⟨q,j.trans y,.head (step_collected F x p) z⟩;cases g;cases g
theorem Lh (C:Ctx P B K) {R:mT} (hR:sK C R) {f:FuncId} {args:List Value} {h:AH} {out:Out} {h':AH}
  (c:fJ P K R f args h=some (out,h')):Ow C f args h out.v h':=by
 intro ρ w d u L G
 unfold fJ at c
 split at c
 .rename_i v M;cases c;obtain⟨x,h3⟩:=C.call f args v w M L;rw[vU _ _ x G];exact h3.mono fun e w' ⟨⟨X,J,hv⟩,hb⟩=>⟨ρ,X,J,hv ρ,kM u hb⟩
 .rename_i g bs M;split at c
  .rename_i o x n;split at c
   .rename_i m;cases c;obtain⟨α,y,β,r,γ⟩:=C.fwd f args g bs M ρ d w G L;have A:=kM u r;have hc:=hR _ _ _ _ n ρ y α A.inv (A.G C u L) β;have:=γ o.v (fun Y=>∃ρ',fA P B ρ h y ρ' h' Y) m (hc.mono fun e w' ⟨ρ',X,J,hv,l⟩=>by
     have hp:bU o.v=true:=by
      unfold D6 at m;split at m;rename_i a b t;rw[t];rfl;cases m
     refine⟨by rw[J,rJ _ _ hp hv],⟨fun i x q=>l.frame i q fun j s hj hs c=>?_,l.size,l.os,l.out,l.tape⟩,ρ',l⟩;obtain⟨oj,θ⟩:=Option.isSome_iff_exists.1 hs;obtain⟨o',η,_⟩:=u.gH j oj θ i s c;have:=(Array.getElem?_eq_some_iff.1 η).1;omega)
    refine this.mono fun e w' ⟨J,Y,⟨ρ',l⟩,δ⟩=>⟨ρ',o.v,J,?_,Uc u r l δ⟩
    have hp:bU o.v=true:=by
     unfold D6 at m;split at m;rename_i a b t;rw[t];rfl;cases m
    exact dB _ hp
   .cases c
  .cases c
 .rename_i F M;simp only[Option.map_eq_some_iff] at c;obtain⟨⟨v,q⟩,hF,c⟩:=c;cases c;exact C.host f args F M h v _ hF ρ w d u L G
 .split at c
  .rename_i fn hf;split at c
   .rename_i z hb;split at c
    .rename_i o x n;have U:=hR _ _ _ _ n;intro cs;have N:=G.length;have ι:Frame.enter P f ⟨d⟩ .normal=({(default:Frame) with fn:=f,kind:= .normal}:Frame).atR {tmps:=⟨d++List.replicate (fn.ntmps - args.length) undef⟩,defers:=[]} [.code z]:=by
      simp only[Frame.enter,Frame.atR,hf,Option.map_some,Option.getD_some,Option.bind_some,hb];congr 1;apply Array.ext';simp[N]
     obtain⟨ρ1,y,Z,k1,A,r1,d1,s1,W⟩:=U ρ w {(default:Frame) with fn:=f,kind:= .normal} {tmps:=⟨d++List.replicate (fn.ntmps - args.length) undef⟩,defers:=[]} cs u L rfl rfl
      (G.append (aC.replicate _ nU)) rfl
     rw[<-ι] at s1
     have p:(∀id,o.leave≠.exit id)/\∃q,aR o.ds x=some q/\∃vs,cN P q o.env fn.results.toList=some vs/\out=⟨.eM,[],[],oneOf vs⟩/\h'=q:=by
      split at c;cases c;rename_i ζ;split at c;rename_i q I;simp only[Option.map_eq_some_iff] at c;grind;cases c
     obtain⟨ζ,q,I,vs,κ,O,ε⟩:=p
     subst O;subst ε
     have T:Steps P (lone (({(default:Frame) with fn:=f,kind:= .normal}:Frame).atR Z k1) cs y) (lone {({(default:Frame) with fn:=f,kind:= .normal}:Frame).atR Z k1 with mode:= .returning} cs y):=by
      cases hl:o.leave with
      |eM=>rw[hl] at W;simp only[Nd] at W;subst W;exact .one (stepR_end rfl)
      |ret=>rw[hl] at W;obtain⟨k2,rfl⟩:=W;exact .one (stepR_ret rfl)
      |exit id=>grind
     obtain⟨Y,e2,s2⟩:=xK o.ds x h' y {({(default:Frame) with fn:=f,kind:= .normal}:Frame).atR Z k1 with mode:= .returning} cs I A.inv d1 rfl
     obtain⟨X,S,Q⟩:=Hp e2.inv (aC.mono e2.ext _ _ r1) κ
     exact⟨.returned X,Y,_,⟨ρ1,X,rfl,Q,A.trans e2⟩,(s1.trans T).trans s2,rfl,rfl,rfl,rfl,fn,hf,S⟩
    .cases c
   .cases c
  .cases c
end
section
variable {P:Program} {B:Nat} {ρ:dR} {h:AH} {w:World} {K:FuncId->List Value->Option dU}
theorem Fm (m:Inv P B ρ h w) {l f:Nat} {s:Nat×Nat} {st:LoopState} {p:Option Code} {fn:FuncId} {tmps:List Value} {ps:Array Tmp} {as bd:Code} {d:Nat} (j:h.get l=some (.loop st p fn tmps ps as bd d)) (n:ρ l=some (f,s)):
  ∃c e g,aC ρ tmps c/\ρ d=some (e,g)/\w.heap[f]?=some (.loop {state:=st,pending:=p,fn:=fn,tmps:=⟨c⟩,params:=ps,assign:=as,body:=bd,defers:=e}):=by
 obtain⟨v,u,c,e,g,q,r,t⟩:=m.gH _ _ j f s n
 grind
theorem mX (q:Inv P B ρ h w) {l m:Nat} {s:Nat×Nat} {st:LoopState} {pd:Option (Option Code)} {h':AH} (f:aY h l st pd=some h') (t:ρ l=some (m,s)):
  ∃r:Loop,w.heap[m]?=some (.loop r)/\(∃c u g tmps n as bd d,h.get l=some (.loop c u g tmps n as bd d)/\r.state=c/\r.pending=u)/\
   fA P B ρ h w ρ h' {w with heap:=w.heap.setIfInBounds m (.loop {r with state:=st,pending:=pd.getD r.pending})}:=by
 unfold aY at f
 split at f
 .rename_i c p g tmps n as bd d j;split at f
  .rename_i A;cases f;obtain⟨e,v,C,x,y,z⟩:=Fm q j t;exact⟨_,z,⟨_,_,_,_,_,_,_,_,j,rfl,rfl⟩,mJ q A j t (o:= .loop st (pd.getD p) g tmps n as bd d) ⟨e,v,C,x,y,rfl⟩ rfl rfl rfl rfl⟩
  .cases f
 .cases f
theorem iK {r:Loop}:∀c e f,Obj.loop r≠.cells c e f:=fun _ _ _ d=>by cases d
theorem jV {c:Nat} {r:Loop} (h:w.heap[c]?=some (.loop r)):(Instr.getLoop c).run P w= .ok r w:=by
 simp only[Instr.getLoop,Sem.run_bind,sO h iK,Result.andThen_ok,Sem.run_pure]
theorem Hx:∀(l:List (Tmp×Value)) (d:List (Tmp×Value)) (t:List Value) (t':Array Value),l.map (·.1)=d.map (·.1)->aC ρ (l.map (·.2)) (d.map (·.2))->aC ρ t t'.toList->
  aC ρ (l.foldl (fun t (p,v)=>t.set p v) t) (d.foldl (fun t (p,v)=>t.setIfInBounds p v) t').toList
 |[],[],t,t',_,_,h=>h
 |(p,v)::l,(g,j)::d,t,t',c,e,h=>by
  simp only[List.map_cons,List.cons.injEq] at c;obtain⟨rfl,c⟩:=c;simp only[List.map_cons] at e;have f:=aC.He.1 e;simp only[List.foldl_cons];exact Hx l d _ _ c f.2 (by simpa using h.set p f.1)
 |[],_::_,_,_,c,_,_=>by simp at c
 |_::_,[],_,_,c,_,_=>by simp at c
theorem Kf (C:Ctx P B K) {R:mT} (hR:sK C R) {l:Nat} {args:List Value} {h:AH} {out:Out} {h':AH}
  (f:gN R l args h=some (out,h')):Km C l args h out.v h':=by
 intro ρ w e W s Y hg ha Q
 unfold gN at f
 split at f
 .rename_i st p fn tmps q assign A d G;split at f
  .rename_i I;obtain⟨g,d',s',ht,hd,hw⟩:=Fm Y G Q;have α:=ha.length;refine⟨fn,(q.toList.zip e).foldl (fun t (p,v)=>t.setIfInBounds p v) ⟨g⟩,assign,A,?_,?_⟩
   .have hz:(q.zip ⟨e⟩).foldl (fun(t:Array Value) (x:Tmp×Value)=>t.setIfInBounds x.1 x.2) ⟨g⟩=(q.toList.zip e).foldl (fun t (p,v)=>t.setIfInBounds p v) ⟨g⟩:=by
     rw[<-Array.foldl_toList,Array.toList_zip]
    have β:¬(⟨e⟩:Array Value).size≠q.size:=by simp;omega
    simp only[Instr.yield,Sem.run_bind,jV hw,Result.andThen_ok]
    simp_all
   .intro c cs;split at f
    .rename_i o X J;have L:=hR _ _ _ _ J;split at f
     .have N:∀(O:List Value),O.length=q.toList.length->(q.toList.zip O).map (·.1)=q.toList/\(q.toList.zip O).map (·.2)=O:=fun O Z=>⟨List.map_fst_zip (by omega),List.map_snd_zip (by omega)⟩;have T:=N args (by simpa using I);have U:=N e (by simp;omega);obtain⟨ρ1,w1,a1,k1,F,r1,d1,s1,y⟩:=L ρ w {(default:Frame) with fn:=fn,kind:= .normal,roundOf:=some W} {tmps:=(q.toList.zip e).foldl (fun t (p,v)=>t.setIfInBounds p v) ⟨g⟩,defers:=[]} (c::cs) Y hg rfl ⟨W,s,Q,rfl⟩
       (Hx _ _ _ _ (by rw[T.1,U.1]) (by grind) ht) rfl
      have S:=F.ext _ _ Q
      have fin:∀(jump:Option Code) (z:AH),aY X l (if jump.isNone then .ready else .done) (some jump)=some z->∃u,(Instr.endRound W jump).run P w1= .ok (.bool jump.isNone) u/\fA P B ρ1 X w1 ρ1 z u:=by
       intro jump z n;obtain⟨r,M,_,m⟩:=mX F.inv n S;refine⟨_,?_,m⟩;simp only[Instr.endRound,Sem.run_bind,jV M,Result.andThen_ok,lU M iK,Sem.run_pure,Option.getD_some]
      cases hlv:o.leave with
      |eM=>
       rw[hlv] at f y
       simp only[Nd] at y;subst y
       simp only[Option.map_eq_some_iff] at f
       obtain⟨z,n,f⟩:=f
       cases f
       obtain⟨u,j,m⟩:=fin none _ n
       exact⟨ρ1,.bool true,u,by simp only[aA],F.trans m,s1.trans (.one (stepR_round_end rfl rfl j))⟩
      |ret=>
       rw[hlv] at f y
       obtain⟨k2,rfl⟩:=y
       simp only[Option.map_eq_some_iff] at f
       obtain⟨z,n,f⟩:=f
       cases f
       obtain⟨u,j,m⟩:=fin (some .ret) _ n
       exact⟨ρ1,.bool false,u,by simp only[aA],F.trans m,s1.trans (.one (stepR_round_ret rfl rfl j))⟩
      |exit id=>
       rw[hlv] at f y
       obtain⟨k2,rfl,Z⟩:=y
       simp only[Option.map_eq_some_iff] at f
       obtain⟨z,n,f⟩:=f
       cases f
       obtain⟨u,j,m⟩:=fin (some (.exit id)) _ n
       exact⟨ρ1,.bool false,u,by simp only[aA],F.trans m,s1.trans (.one (stepR_round_exit rfl rfl Z j))⟩
     .cases f
    .cases f
  .cases f
 .cases f
def Tx (C:Ctx P B K) (R:mT):Prop:=∀(ops:Array Oper) (d:List Value) (h:AH) (c:List Value) (f:AH),jG P R ops d h=some (c,f)->
 ∀(ρ:dR) (w:World) (b:Frame) (a:Act) (cs:List Frame) (k:List Item) (t:Nat),Inv P B ρ h w->C.G w->aC ρ d a.tmps.toList->
  ∃ρ' g e,fA P B ρ h w ρ' f g/\aC ρ' c e.tmps.toList/\e.defers=a.defers/\
   Steps P (lone (b.atR a (.inRegion ops (Region.schedule (P.follows .mixedOrders) ops t)::k)) cs w) (lone (b.atR e (.inRegion ops []::k)) cs g)
theorem wX (all:Array Oper):∀(rest:List Oper) (i:Nat),(∀j,all[i+j]?=rest[j]?)->P2 all (List.range' i rest.length) rest
 |[],i,_=>trivial
 |o::rest,i,c=>by
  refine⟨by simpa using c 0,wX all rest (i+1) fun j=>?_⟩;have:=c (j+1);grind
end
section
variable {P:Program} {B:Nat} {K:FuncId->List Value->Option dU}
theorem eI (C:Ctx P B K) {e:FuncId} {f:Option Nat} {g:List Nat} {env:List Value} {k n:List Item} {h:AH} {out:Out} {h':AH}
  (z:∀(b:Frame) (a:Act) (cs:List Frame) (w:World) (ρ:dR),Inv P B ρ h w->aC ρ env a.tmps.toList->b.fn=e->Db ρ f b.roundOf->step P (lone (b.atR a k) cs w)= .next (lone (b.atR a n) cs w))
  (d:yL C e f g env n h out h'):yL C e f g env k h out h':=by
 intro ρ w b a cs m y j c l x
 obtain⟨ρ',F,p,A,q,r,t,u,v⟩:=d ρ w b a cs m y j c l x
 exact⟨ρ',F,p,A,q,r,t,.head (z b a cs w ρ m l j c) u,v⟩
set_option maxHeartbeats 1000000 in
theorem fq (C:Ctx P B K) (ζ:∀R,sK C R->Tx C R):∀n,sK C (run P K n):=by
 intro n;induction n with
 |zero=>intro t h out h' m;simp[run] at m
 |succ n y=>
  intro t h out h' m;cases t with
  |call f args=>exact Lh C y m
  |round l args=>exact Kf C y m
  |ops all rest Q=>exact P5 C y m
  |todo fn ro ds Q k=>
   replace m:bP P (run P K n) fn ro ds Q k h=some (out,h'):=m;show yL C fn ro ds Q k h out h';unfold bP at m;split at m;cases m;exact fun ρ w b a cs u _ _ _ F J=>⟨ρ,w,a,[],fA.refl u,F,J,Steps.refl _ _,rfl⟩;rename_i c k;split at m;exact eI C (fun b a cs w ρ _ _ _ _=>stepR_skip) (y _ _ _ _ m);exact eI C (fun b a cs w ρ _ _ _ _=>stepR_label) (y _ _ _ _ m);exact eI C (fun b a cs w ρ _ _ _ _=>stepR_seq) (y _ _ _ _ m);rename_i c t e;split at m;rename_i bb hc;refine eI C (fun b a cs w ρ u F _ _=>?_) (y _ _ _ _ m);have:=rU u F c;rw[hc] at this;simp only[aA] at this;exact stepR_cond this;cases m;exact eI C (fun b a cs w ρ _ _ _ _=>stepR_block) (y _ _ _ _ m);exact eI C (fun b a cs w ρ _ _ _ _=>stepR_loop) (y _ _ _ _ m);exact eI C (fun b a cs w ρ _ _ _ _=>step_lone_go (by simp[stepG,stepG.exec,Frame.atR])) (y _ _ _ _ m);rename_i id;split at m;rename_i k' hx;exact eI C (fun b a cs w ρ _ _ _ _=>stepR_exit hx) (y _ _ _ _ m);rename_i hx;split at m;cases m;exact fun ρ w b a cs u _ _ _ F J=>⟨ρ,w,a,.code (.exit id)::k,fA.refl u,F,J,Steps.refl _ _,⟨k,rfl,hx⟩⟩;cases m;cases m;exact fun ρ w b a cs u _ _ _ F J=>⟨ρ,w,a,.code .ret::k,fA.refl u,F,J,Steps.refl _ _,⟨k,rfl⟩⟩;rename_i id ops;split at m;rename_i o N χ;intro ρ w b a cs u T hb v F J;have hat:P2 ops (List.range ops.size) ops.toList:=by
    have:=wX ops ops.toList 0 (fun j=>by simp);rw[List.range_eq_range'];simpa using this
   obtain⟨ρ1,q,a1,A,r1,d1,s1⟩:=y _ _ _ _ χ ρ w b a cs (List.range ops.size) k u T F hat;obtain⟨ρ',w',a',k',N,h2,h3,h4,h5⟩:=y _ _ _ _ m ρ1 q b a1 cs A.inv (A.G C u T) hb (v.mono A.ext) r1 (by rw[d1];exact J.mono A.ext);exact⟨ρ',w',a',k',A.trans N,h2,h3,.head stepR_region (s1.trans (.head stepR_region_end h4)),h5⟩;cases m;rename_i id ops;split at m;rename_i ξ N hdr;intro ρ w b a cs u T hb v F J;have ed:=uI u;obtain⟨ρ1,q,a1,A,r1,d1,s1⟩:=ζ _ y ops Q h ξ N hdr ρ {w with drawn:=w.drawn+1} b a cs k (w.tape w.drawn (.order b.fn id)) ed.inv (ed.G C u T) F;have S:=ed.trans A;obtain⟨ρ',w',a',k',N,h2,h3,h4,h5⟩:=y _ _ _ _ m ρ1 q b a1 cs S.inv (S.G C u T) hb (v.mono S.ext) r1 (by rw[d1];exact J.mono S.ext);exact⟨ρ',w',a',k',S.trans N,h2,h3,.head stepR_region_draw (s1.trans (.head stepR_region_end h4)),h5⟩;cases m;rename_i f ps assign body;split at m;rename_i d N ds1 G;split at m;rename_i g first M hf
   split at m;rename_i π;split at m;rename_i ox h3 ε;split at m;rename_i st p _ _ _ _ _ _ θ;split at m;cases m;rename_i hbusy;split at m;rename_i h4 ι;intro ρ w b a cs u T hb v F J;obtain⟨ρ1,q,mark,O,s',A,hd1,τ,Z⟩:∃ρ1 q mark O s',fA P B ρ h w ρ1 N q/\ρ1 d=some (O,s')/\C3 ρ1 ds1 (mark++a.defers)/\
     (Instr.enterLoop b.fn a.tmps ps assign body b.roundOf).run P w= .ok (q.heap.size,mark) (q.alloc (.loop {state:= .ready,pending:=none,fn:=b.fn,tmps:=a.tmps,params:=ps,assign:=assign,body:=body,defers:=O})):=by
    cases ro with
    |none=>
     simp only[Db] at v
     simp only[Option.some.injEq,Prod.mk.injEq] at G
     obtain⟨rfl,rfl,rfl⟩:=G
     have ea:=rL u (o:= .marks true) (o':= .deferred (some [])) (s:=(0,0)) (w':=w.alloc (.deferred (some []))) (by simp[mB]) rfl rfl rfl rfl
     refine⟨_,_,[{target:= .collected w.heap.size,args:= #[]}],w.heap.size,(0,0),ea,aX,⟨_,_,_,aX,J.mono ea.ext,rfl⟩,?_⟩
     rw[v]
     simp[Instr.enterLoop]
    |some l=>
     obtain⟨lb,s,hl,L⟩:=v
     simp only at G
     split at G
     .rename_i st0 p0 ο tm0 ps0 κ μ d0 I;simp only[Option.some.injEq,Prod.mk.injEq] at G;obtain⟨rfl,rfl,rfl⟩:=G;obtain⟨tmps',O,s',_,σ,hw⟩:=Fm u I hl;refine⟨ρ,w,[],O,s',fA.refl u,σ,J,?_⟩;rw[L];simp[Instr.enterLoop,jV hw]
     .cases G
   have υ:=aC.mono A.ext _ _ F;have S:=rL A.inv (o:= .loop .ready none fn Q ps assign body d) (s:=(0,0))
    (o':= .loop {state:= .ready,pending:=none,fn:=b.fn,tmps:=a.tmps,params:=ps,assign:=assign,body:=body,defers:=O})
    (w':=q.alloc (.loop {state:= .ready,pending:=none,fn:=b.fn,tmps:=a.tmps,params:=ps,assign:=assign,body:=body,defers:=O}))
    (by
     have β:=Ext.qH (x:=(q.heap.size,(0,0))) (A.inv.fresh N.next (Nat.le_refl _));exact⟨a.tmps.toList,O,s',aC.mono β _ _ υ,β _ _ hd1,by rw[hb]⟩) rfl rfl rfl rfl
   have γ:=A.trans S;have η:=rU γ.inv (a:=a) (aC.mono S.ext _ _ υ) f;rw[hf] at η;simp only[aA,uJ] at η;obtain⟨_,W,U,rfl,hfs,hcs,hfe⟩:=η;have δ:aC (qH ρ1 N.next (q.heap.size,(0,0))) (first.toList++[.func (.yield N.next) #[] #[]]++M.toList) (W.toList++[.func (.yield q.heap.size) #[] #[]]++U.toList):=by
    refine((dY.1 hfs).append (aC.cons ?_ aC.nil)).append (dY.1 hcs);simp only[aA,uJ];exact⟨_,_,_,⟨_,_,aX,rfl⟩,by simp only[fG];exact aC.nil,by simp only[fG];exact aC.nil,rfl⟩
   have X:=y _ _ _ _ ε _ _ _ S.inv (γ.G C u T) δ (b.atR {a with defers:=mark++a.defers} (.inRangeFunc q.heap.size::k)::cs);obtain⟨e,w3,fr,⟨ρ3,v',rfl,_,e3⟩,Y,_,α⟩:=X;have ν:=γ.trans e3;have hl3:ρ3 N.next=some (q.heap.size,(0,0)):=e3.ext _ _ aX
   obtain⟨r,hw3,⟨st0,p0,ο,tm0,ps0,κ,μ,d0,I,hst,ψ⟩,e4⟩:=mX e3.inv ι hl3;rw[θ] at I;cases I;have φ:(Instr.endLoop q.heap.size).run P w3= .ok p {w3 with heap:=w3.heap.setIfInBounds q.heap.size (.loop {r with state:= .exhausted})}:=by
    have hnb:(r.state==LoopState.busy)=false:=by grind
    simp only[Instr.endLoop,Sem.run_bind,jV hw3,Result.andThen_ok];simp only[hnb,Bool.false_eq_true,if_false,Sem.run_bind,lU hw3 iK,Result.andThen_ok,Sem.run_pure,ψ]
   simp only[Option.getD_none] at e4;have z:=ν.trans e4;obtain⟨ρ',w',a',k',g1,g2,g3,g4,g5⟩:=y _ _ _ _ m ρ3 {w3 with heap:=w3.heap.setIfInBounds q.heap.size (.loop {r with state:= .exhausted})} b {a with defers:=mark++a.defers} cs e4.inv (z.G C u T) hb (v.mono z.ext)
    (aC.mono z.ext _ _ F) (τ.mono (S.trans (e3.trans e4)).ext)
   refine⟨ρ',w',a',k',z.trans g1,g2,g3,?_,g5⟩;have ω:(resolve a.eval (rangeCall f q.heap.size) 0).run P (q.alloc (.loop {state:= .ready,pending:=none,fn:=b.fn,tmps:=a.tmps,params:=ps,assign:=assign,body:=body,defers:=O}))=
     .ok {target:= .fn (.func g) U,args:=W++ #[.func (.yield q.heap.size) #[] #[]]} (q.alloc (.loop {state:= .ready,pending:=none,fn:=b.fn,tmps:=a.tmps,params:=ps,assign:=assign,body:=body,defers:=O})):=by
    show(Deferred.ofValue (a.eval f) ((#[.const (.func (.yield q.heap.size) #[] #[])]:Array Operand).map a.eval)).run P _=_
    rw[hfe]
    simp[Deferred.ofValue,Act.eval]
   have hinv:(invoke (.fn (.func g) U) (W++ #[.func (.yield q.heap.size) #[] #[]])).run P (q.alloc (.loop {state:= .ready,pending:=none,fn:=b.fn,tmps:=a.tmps,params:=ps,assign:=assign,body:=body,defers:=O}))=
     .ok (.enter g ⟨W.toList++[.func (.yield q.heap.size) #[] #[]]++U.toList⟩) (q.alloc (.loop {state:= .ready,pending:=none,fn:=b.fn,tmps:=a.tmps,params:=ps,assign:=assign,body:=body,defers:=O})):=by
    simp only[invoke]
    rw[vF π]
    simp_all
   refine .head (stepR_rangeFunc Z ω hinv) (Steps.trans Y (.head ?_ (.head (stepR_endRangeFunc φ) g4)));rw[step_leave_returned α,finish_atR_inRangeFunc];cases m;cases m;cases m;cases m;cases m;cases m;cases m;exact eI C (fun b a cs w ρ _ _ _ _=>stepR_inBlock) (y _ _ _ _ m);exact eI C (fun b a cs w ρ _ _ _ _=>step_lone_go (by simp[stepG,stepG.exec,Frame.atR])) (y _ _ _ _ m);exact eI C (fun b a cs w ρ _ _ _ _=>stepR_inLoop) (y _ _ _ _ m);split at m;rename_i l;split at m;rename_i _ _ _ _ _ _ _ θ;split at m;rename_i N ι;intro ρ w b a cs u T hb v F J;obtain⟨lb,s,hl,L⟩:=v;obtain⟨r,hw,⟨st0,p0,ο,tm0,ps0,κ,μ,d0,I,hst,ψ⟩,A⟩:=mX u ι hl;rw[θ] at I;cases I;have hbr:(Instr.beginRound lb).run P w= .ok () {w with heap:=w.heap.setIfInBounds lb (.loop {r with state:= .busy})}:=by
    simp only[Instr.beginRound,Sem.run_bind,jV hw,Result.andThen_ok,lU hw iK,hst];rfl
   simp only[Option.getD_none] at A;obtain⟨ρ',w',a',k',g1,g2,g3,g4,g5⟩:=y _ _ _ _ m ρ _ b a cs A.inv (A.G C u T) hb ⟨lb,s,hl,L⟩ F J;exact⟨ρ',w',a',k',A.trans g1,g2,g3,.head (stepR_beginRound L hbr) g4,g5⟩;cases m;cases m;cases m;cases m
end
section
variable {P:Program}
theorem jJ {α:Type} {f g:α->Value}:∀(l:List α),(∀x∈l,f x=g x)->l.map f=l.map g
 |[],_=>rfl
 |x::l,h=>by simp_all
theorem G9 {m g:Operand->Value} {h:AH} (op:Op) (e:∀x∈op.operands.toList,m x=g x):aH P m h op=aH P g h op:=by
 cases op with
 |build t C=>
  simp only[aH];congr 1;have:∀l:List (Nat×Operand),(∀p∈l,m p.2=g p.2)->l.map (fun p=>(p.1,m p.2))=l.map fun p=>(p.1,g p.2):=by
   intro l F;induction l with
   |nil=>rfl
   |cons p l J=>simp only[List.map_cons];rw[F p List.mem_cons_self,J fun q I=>F q (List.mem_cons_of_mem _ I)]
  exact this _ fun p M=>e _ (by simp only[Op.operands];grind)
 |makeFunc L first j=>
  simp only[aH];have n:first.map m=first.map g:=Array.ext' (by simp only[Array.toList_map];exact jJ _ fun x v=>e x (by simp only[Op.operands,Array.toList_append];grind))
  have r:j.map m=j.map g:=Array.ext' (by simp only[Array.toList_map];exact jJ _ fun x v=>e x (by simp only[Op.operands,Array.toList_append];grind));rw[n,r]
 |slice t x z u A=>
  simp only[aH];have v:m x=g x:=e x (by simp[Op.operands]);have n:z.map m=z.map g:=by cases z with|none=>rfl|some y=>simp only[Option.map_some];rw[e y (by simp[Op.operands])]
  have r:u.map m=u.map g:=by cases u with|none=>rfl|some y=>simp only[Option.map_some];rw[e y (by simp[Op.operands])]
  have G:A.map m=A.map g:=by cases A with|none=>rfl|some y=>simp only[Option.map_some];rw[e y (by simp[Op.operands])]
  rw[v,n,r,G]
 |move x=>simp only[aH];rw[e x (by simp[Op.operands])]
 |assign x=>simp only[aH];rw[e x (by simp[Op.operands])]
 |pick c a b=>simp only[aH];rw[e c (by simp[Op.operands]),e a (by simp[Op.operands]),e b (by simp[Op.operands])]
 |load t a=>simp only[aH];rw[e a (by simp[Op.operands])]
 |nilCheck x=>simp only[aH];rw[e x (by simp[Op.operands])]
 |binOp op t x y N=>simp only[aH];rw[e x (by simp[Op.operands]),e y (by simp[Op.operands])]
 |unOp op t x=>simp only[aH];rw[e x (by simp[Op.operands])]
 |convert s d x=>simp only[aH];rw[e x (by simp[Op.operands])]
 |makeInterface t x=>simp only[aH];rw[e x (by simp[Op.operands])]
 |fieldAddr s x f=>simp only[aH];rw[e x (by simp[Op.operands])]
 |field s x f=>simp only[aH];rw[e x (by simp[Op.operands])]
 |indexAddr t x i=>simp only[aH];rw[e x (by simp[Op.operands]),e i (by simp[Op.operands])]
 |index t x i=>simp only[aH];rw[e x (by simp[Op.operands]),e i (by simp[Op.operands])]
 |extract t i=>simp only[aH];rw[e t (by simp[Op.operands])]
 |lookup t x i ok=>simp only[aH];rw[e x (by simp[Op.operands]),e i (by simp[Op.operands])]
 |_=>rfl
theorem E4 {j d:Operand->Value} (op:Op) (g:∀x∈op.operands.toList,j x=d x):bT P j op=bT P d op:=by
 cases op with
 |alloc e=>rfl
 |box e x=>simp only[bT];rw[g x (by simp[Op.operands])]
 |buildSlice t len f=>
  simp only[bT];have:∀l:List (Nat×Operand),(∀p∈l,j p.2=d p.2)->l.map (fun p=>(p.1,j p.2))=l.map fun p=>(p.1,d p.2):=by
   intro l m;induction l with
   |nil=>rfl
   |cons p l u=>simp only[List.map_cons];rw[m p List.mem_cons_self,u fun q n=>m q (List.mem_cons_of_mem _ n)]
  rw[this f.toList fun p v=>g _ (by simp only[Op.operands];grind)]
 |makeSlice t l c=>simp only[bT];rw[g l (by simp[Op.operands]),g c (by simp[Op.operands])]
 |makeMap t r=>
  cases r with
  |none=>rfl
  |some x=>simp only[bT];rw[g x (by simp[Op.operands])]
 |_=>rfl
theorem sH {c:Call} {x:Operand} (h:x∈c.args.toList):x∈(Op.call c).operands.toList:=by
 simp only[Op.operands,Call.operands,Array.toList_append];grind
theorem J9 {R:mT} {j d:Operand->Value} {h:AH} (op:Op) (e:∀x∈op.operands.toList,j x=d x):bQ P R j h op=bQ P R d h op:=by
 cases op with
 |store t a x=>simp only[bQ];rw[e a (by simp[Op.operands]),e x (by simp[Op.operands])]
 |mapUpdate t m k x=>simp only[bQ];rw[e m (by simp[Op.operands]),e k (by simp[Op.operands]),e x (by simp[Op.operands])]
 |call c=>
  have p:c.args.toList.map j=c.args.toList.map d:=jJ _ fun x n=>e x (sH n);obtain⟨callee,l,g⟩:=c;cases callee with
  |builtin b=>simp only[bQ];grind
  |value f=>
   have q:j f=d f:=e f (by simp[Op.operands,Call.operands]);simp only[bQ];grind
  |invoke r m=>rfl
 |_=>rfl
theorem Jt {f d:Operand->Value} {h:AH} (op:Op) (j:∀x∈op.operands.toList,f x=d x):bZ P f h op=bZ P d h op:=by
 cases op with
 |call c=>
  have m:c.args.toList.map f=c.args.toList.map d:=jJ _ fun x l=>j x (sH l);obtain⟨callee,g,e⟩:=c;cases callee with
  |builtin b=>simp only[bZ];grind
  |_=>rfl
 |_=>exact G9 (P:=P) (h:=h) _ j
def iE (g c:AH):Prop:=∀i o,g.get i=some o->c.get i=some o
theorem qQ {g c:AH} (e:iE g c) {a:Addr} {n:Nat} {l:List Value} (h:aT g a n=some l):aT c a n=some l:=by
 unfold aT at h ⊢;split at h;cases h;rename_i f;rw[tt f];split at h;rename_i d;rw[e _ _ d];exact h;cases h
theorem Mp {g c:AH} (d:iE g c) {t:TypeId} {a:Addr} {v:Value} (h:lS P g t a=some v):lS P c t a=some v:=by
 unfold lS at h ⊢;split at h;rename_i m;simp only[Option.map_eq_some_iff] at h;obtain⟨l,f,rfl⟩:=h;simp only[qQ d f,Option.map_some];rename_i m;split at h;cases h;rename_i j;rw[tt j];split at h;rename_i e;rw[d _ _ e];exact h;cases h;cases h
theorem H9 {g d:AH} (p:iE g d) {t:TypeId} {x:Value} {j f l:Option Value} {v:Value} (h:lQ P g t x j f l=some v):lQ P d t x j f l=some v:=by
 have r:∀i b,fX g i=some b->fX d i=some b:=by
  intro i b c;unfold fX at c ⊢;split at c;rename_i n;rw[p _ _ n];exact c;cases c
 unfold lQ at h ⊢;split at h;exact h;exact h;exact h;rename_i e a len m q;split at h;split at h;grind;cases h;cases h;cases h
theorem Md {g d:AH} (f:iE g d) {x v:Value} (h:strOf g x=some v):strOf d x=some v:=by
 unfold strOf at h ⊢;split at h;exact h;split at h;grind;rename_i m;rw[tt m];simp only[Option.map_eq_some_iff,Option.bind_eq_some_iff] at h ⊢;obtain⟨l,⟨c,e,j⟩,rfl⟩:=h;exact⟨l,⟨c,qQ f e,j⟩,rfl⟩;cases h
theorem Ji {g c:AH} (e:iE g c) {x:Value} {es:List (Value×Value×Nat)} (h:Sk g x=some es):Sk c x=some es:=by
 unfold Sk at h ⊢;split at h;exact h;split at h;rename_i d;rw[e _ _ d];exact h;cases h;cases h
theorem Ft {g c:AH} (j:iE g c) {t:TypeId} {x i v:Value} {ok:Bool} (h:mD P g t x i ok=some v):mD P c t x i ok=some v:=by
 unfold mD at h ⊢;split at h;rename_i e l k n d f;rw[d,Ji j f];exact h;cases h
theorem Xk {g c:AH} (e:iE g c) {b:Builtin} (hb:dI b=true) (at_:Array TypeId) (args:List Value) {v:Value} (h:(bY P g b at_ args).map (·.1)=some v):(bY P c b at_ args).map (·.1)=some v:=by
 rw[<-h];cases b<;>simp only[dI] at hb<;>try cases hb
 rcases args with _|⟨x,_|⟨y,l⟩⟩;rfl;simp only[bY] at h ⊢;split;rfl;rfl;split<;>rfl;rfl;rename_i y _ _ _ _ d;rw[d] at h;simp only at h;cases hm:Sk g y with
 |none=>rw[hm] at h;cases h
 |some f=>rw[Ji e hm];rfl
 rfl;rfl;rcases args with _|⟨x,_|⟨y,_|⟨z,l⟩⟩⟩;rfl;cases x<;>rfl;cases x<;>cases y<;>rfl;cases x<;>cases y<;>rfl;rcases args with _|⟨x,_|⟨y,_|⟨z,l⟩⟩⟩;rfl;cases x<;>rfl;cases x<;>cases y<;>rfl;cases x<;>cases y<;>rfl
theorem Mb {g m:AH} (f:iE g m) {l:Operand->Value} {op:Op} {v:Value} (h:bZ P l g op=some v):bZ P l m op=some v:=by
 cases op with
 |call c=>
  obtain⟨callee,j,e⟩:=c;cases callee with
  |builtin b=>
   simp only[bZ] at h ⊢;split at h;rename_i n;rw[tu n];exact Xk f n _ _ h;cases h
  |_=>simp[bZ] at h
 |load t a=>
  simp only[bZ,aH] at h ⊢;split at h;exact Mp f h;cases h
 |slice t x r p u=>simp only[bZ,aH] at h ⊢;exact H9 f h
 |lookup t x i ok=>simp only[bZ,aH] at h ⊢;exact Ft f h
 |convert s d x=>
  simp only[bZ,aH] at h ⊢;split at h;exact h;exact h;rename_i q _;split at h;exact Md f h;cases h;cases h
 |_=>first|exact h|(simp[bZ,aH] at h)
mutual
theorem B3:∀(a b:Value),mA a b=true->a=b
 |.bool a,b,h=>by cases b<;>simp_all [mA]
 |.int j a,b,h=>by cases b<;>simp_all [mA]
 |.float _ _,b,h=>by simp[mA] at h
 |.complex _ _ _,b,h=>by simp[mA] at h
 |.string a,b,h=>by
  cases b<;>simp[mA] at h;rename_i b;obtain⟨a⟩:=a;obtain⟨b⟩:=b;have:a=b:=eq_of_beq (show(a==b)=true from h);rw[this]
 |.pointer a,b,h=>by cases b<;>simp_all [mA]
 |.slice a l c,b,h=>by cases b<;>simp_all [mA]
 |.map a,b,h=>by cases b<;>simp_all [mA]
 |.chan _,b,h=>by simp[mA] at h
 |.func f x y,b,h=>by
  cases b<;>simp[mA] at h;rename_i g c d;rw[h.1.1,yP x c h.1.2,yP y d h.2]
 |.nilFunc,b,h=>by cases b<;>simp_all [mA]
 |.iface t v,b,h=>by
  cases b<;>simp[mA] at h;rename_i u w;rw[h.1,B3 v w h.2]
 |.nilIface,b,h=>by cases b<;>simp_all [mA]
 |.agg x,b,h=>by
  cases b<;>simp[mA] at h;rename_i c;rw[yP x c h]
 |.tuple x,b,h=>by
  cases b<;>simp[mA] at h;rename_i c;rw[yP x c h]
theorem yP:∀(a b:Array Value),Ng a b=true->a=b
 |⟨l⟩,b,h=>by
  simp only[Ng] at h;have:=Py l b.toList h;grind
theorem Py:∀(l m:List Value),Fh l m=true->l=m
 |[],[],_=>rfl
 |[],_::_,h=>by simp[Fh] at h
 |_::_,[],h=>by simp[Fh] at h
 |a::l,b::m,h=>by
  simp only[Fh,Bool.and_eq_true] at h;rw[B3 a b h.1,Py l m h.2]
end
theorem uU {acc c:List Nat}:∀(l:List Nat),(∀j∈l,acc[j]?=c[j]?)->mW acc l=mW c l
 |[],_=>rfl
 |j::l,h=>by
  simp only[mW];rw[uU l fun y d=>h y (List.mem_cons_of_mem _ d),List.getD_eq_getElem?_getD,List.getD_eq_getElem?_getD,h j List.mem_cons_self]
theorem zT {acc:List Nat} {i:Nat}:∀(l:List Nat),(mW acc l).testBit i=true->∃j∈l,i=j\/(acc.getD j 0).testBit i=true
 |[],h=>by simp[mW] at h
 |j::l,h=>by
  simp only[mW,Nat.testBit_or,Bool.or_eq_true] at h;rcases h with h|h|h;refine⟨j,List.mem_cons_self,.inl ?_⟩;rw[Nat.one_shiftLeft,Nat.testBit_two_pow] at h;grind;grind;obtain⟨k,d,c⟩:=zT l h;grind
theorem uG:∀(os:List Oper) (acc:List Nat),(∀k o,os[k]?=some o->∀j∈cG o,j<acc.length+k)->
  (∀k,k<acc.length->(cE os acc)[k]?=acc[k]?)/\
  ∀k o,os[k]?=some o->(cE os acc)[acc.length+k]?=some (mW (cE os acc) (cG o))
 |[],acc,_=>⟨fun k _=>rfl,fun k o h=>by simp at h⟩
 |o::os,acc,l=>by
  have f:=uG os (acc++[mW acc (cG o)]) (by
   intro k g c j e;have:=l (k+1) g (by simpa using c) j e;simp only[List.length_append,List.length_cons,List.length_nil];omega)
  have d:∀k,k<acc.length->(cE (o::os) acc)[k]?=acc[k]?:=by
   intro k m;simp only[cE];rw[f.1 k (by simp;omega),List.getElem?_append_left m]
  refine⟨d,?_⟩;intro k g c;cases k with
  |zero=>
   simp at c;subst c;simp only[cE,Nat.add_zero];rw[f.1 acc.length (by simp)];rw[List.getElem?_append_right (Nat.le_refl _)];simp only[Nat.sub_self,List.getElem?_cons_zero,Option.some.injEq];apply uU;intro j e;have n:j<acc.length:=by have:=l 0 o (by simp) j e;omega
   grind
  |succ k=>
   have:=f.2 k g (by simpa using c);simp only[cE];grind
theorem A2 {all:List Oper} (n:∀k o,all[k]?=some o->∀j∈cG o,j<k) {D:List Nat} (hD:∀i∈D,∀o,all[i]?=some o->∀j∈cG o,j∈D):
  ∀(i:Nat) (o:Oper),all[i]?=some o->(∀j∈cG o,j∈D)->∀j,ahead (cE all []) j i=true->j∈D:=by
 intro i
 induction i using Nat.strongRecOn with
 |ind i t=>
  intro o p d j l
  have q:=(uG all [] (by simpa using n)).2 i o p
  simp only[List.length_nil,Nat.zero_add] at q
  unfold ahead at l
  rw[List.getD_eq_getElem?_getD,q,Option.getD_some] at l
  obtain⟨g,e,c⟩:=zT _ l
  rcases c with u|c
  .grind
  .have m:=n i o p g e;have f:=d g e;cases ho':all[g]? with
   |none=>
    grind
   |some r=>exact t g m r ho' (hD g f r ho') j (by unfold ahead;exact c)
def oZ (all:List Oper):List Nat->List Nat->Prop
 |D,[]=>∀i,i<all.length->i∈D
 |D,i::l=>i<all.length/\i∉D/\(∀o,all[i]?=some o->∀j∈cG o,j∈D)/\oZ all (D++[i]) l
theorem xH {o:Oper} {j:Nat}:j∈cG o↔∃e∈o.after,Region.binds .any e=true/\e.on=j:=by
 unfold cG;grind
theorem sG {ops:Array Oper} (v:∀k o,ops.toList[k]?=some o->∀j∈cG o,j<k):∀(fuel t:Nat) (listed:Array Bool) (D:List Nat),listed.size=ops.size->
  (∀i,i<ops.size->(listed.getD i false=true↔i∈D))->((List.range ops.size).filter fun i=>decide (i∉D)).length<=fuel->
  oZ ops.toList D (Region.linearise.go .any ops fuel t listed [])
 |0,t,listed,D,n,z,I=>by
  simp only[Region.linearise.go,List.reverse_nil,oZ];simp_all
 |fuel+1,t,listed,D,n,z,I=>by
  simp only[Region.linearise.go];change oZ ops.toList D (match(Region.ready .any ops listed)[t % (Region.ready .any ops listed).length]? with
   |some i=>Region.linearise.go .any ops fuel (t/(Region.ready .any ops listed).length) (listed.setIfInBounds i true) [i]
   |none=>[].reverse)
  have g:∀i,i<ops.size->(listed.getD i true=false↔i∉D):=by
   grind
  cases hi:(Region.ready .any ops listed)[t % (Region.ready .any ops listed).length]? with
  |none=>
   have A:Region.ready .any ops listed=[]:=by
    cases C:Region.ready .any ops listed with
    |nil=>rfl
    |cons x F=>
     rw[C] at hi;have d:t % (x::F).length<(x::F).length:=Nat.mod_lt _ (by simp);grind
   simp only[List.reverse_nil,oZ];intro i;induction i using Nat.strongRecOn with
   |ind i N=>
    intro p;rcases Classical.em (i∈D) with h|h;exact h;exfalso;have c:i<ops.size:=by simpa using p
    have C:i∈Region.ready .any ops listed:=by
     rw[mem_ready];refine⟨(g i c).2 h,ops[i],Array.getElem?_eq_getElem c,?_⟩;intro e y u;have d:e.on<i:=v i ops[i] (by simp[c]) e.on (xH.2 ⟨e,y,u,rfl⟩);grind
    grind
  |some i=>
   simp only[];rw[linearise_go_acc,List.reverse_singleton,List.singleton_append];have f:=List.mem_of_getElem? hi;rw[mem_ready] at f;obtain⟨G,o,J,r⟩:=f;have d:i<ops.size:=(Array.getElem?_eq_some_iff.1 J).1;have l:=(g i d).1 G;refine⟨by simpa using d,l,?_,?_⟩;intro M L j q;have:M=o:=by grind
   subst this;obtain⟨e,y,u,rfl⟩:=xH.1 q;grind;refine sG v fuel _ _ (D++[i]) (by simpa using n) ?_ ?_;intro j q;by_cases e:i=j;simp_all;rw[getD_set_ne false e,z j q];simp[Ne.symm e];have m:((List.range ops.size).filter fun j=>decide (j∉D++[i]))=(((List.range ops.size).filter fun j=>decide (j∉D)).filter fun j=>decide (j≠i)):=by
    rw[List.filter_filter];grind
   rw[m];have:((((List.range ops.size).filter fun j=>decide (j∉D)).filter fun j=>decide (j≠i)).length<((List.range ops.size).filter fun j=>decide (j∉D)).length):=
    List.length_filter_lt_length_iff_exists.2 ⟨i,by simp[l];exact d,by simp⟩
   omega
end
section
variable {P:Program} {B:Nat} {K:FuncId->List Value->Option dU}
structure Cy (P:Program) (B N:Nat) (ρ:dR) (h:AH) (w:World) (ρ':dR) (h':AH) (w':World):Prop where
 ext:Ext ρ ρ'
 inv:Inv P B ρ' h' w'
 un:∀i,i<N->ρ i=none->ρ' i=none
 gA:∀i,i<N->ρ i=none->h'.get i=h.get i
 stay:∀i,i<N->h.get i=none->h'.get i=none
 frame:∀b,b<w.heap.size->(∀i s,h.base<=i->(h.get i).isSome->ρ i≠some (b,s))->w'.heap[b]?=w.heap[b]?
 range:∀i b s,h.base<=i->(h'.get i).isSome->ρ' i=some (b,s)->b<w.heap.size->∃j s',h.base<=j/\(h.get j).isSome/\ρ j=some (b,s')
 base:h'.base=h.base
 nB:∀i,i<h.base->h'.get i=h.get i
 size:w.heap.size<=w'.heap.size
 os:w'.os=w.os
 out:w'.output=w.output
 tape:w'.tape=w.tape
theorem Cy.tN {ρ ρ':dR} {h h':AH} {w w':World} (e:Cy P B h.next ρ h w ρ' h' w') (c:h.next<=h'.next):fA P B ρ h w ρ' h' w':=
 {ext:=e.ext,inv:=e.inv,un:=e.un,gA:=e.gA,stay:=e.stay,frame:=e.frame,range:=e.range,base:=e.base,nB:=e.nB,next:=c,size:=e.size,os:=e.os,out:=e.out,tape:=e.tape}
theorem Cy.then {N:Nat} {ρ ρ1 ρ2:dR} {h n t:AH} {w v y:World} (a:Cy P B N ρ h w ρ1 n v) (b:fA P B ρ1 n v ρ2 t y) (p:N<=n.next):Cy P B N ρ h w ρ2 t y where
 ext:=a.ext.trans b.ext
 inv:=b.inv
 un:=fun i c d=>b.un i (Nat.lt_of_lt_of_le c p) (a.un i c d)
 gA:=fun i c d=>(b.gA i (Nat.lt_of_lt_of_le c p) (a.un i c d)).trans (a.gA i c d)
 stay:=fun i c d=>b.stay i (Nat.lt_of_lt_of_le c p) (a.stay i c d)
 frame:=fun x f d=>by
  refine(b.frame x (Nat.lt_of_lt_of_le f a.size) ?_).trans (a.frame x f d);intro i s m r q;rw[a.base] at m;obtain⟨j,u,e,g,l⟩:=a.range i x s m r q f;grind
 range:=fun i x s m r q f=>by
  obtain⟨j,u,e,g,l⟩:=b.range i x s (by rw[a.base];exact m) r q (Nat.lt_of_lt_of_le f a.size);rw[a.base] at e;exact a.range j x u e g l f
 base:=b.base.trans a.base
 nB:=fun i c=>(b.nB i (by rw[a.base];exact c)).trans (a.nB i c)
 size:=Nat.le_trans a.size b.size
 os:=b.os.trans a.os
 out:=b.out.trans a.out
 tape:=b.tape.trans a.tape
theorem Ud {N:Nat} {ρ0 ρ:dR} {C g:AH} {w0 w w':World} (e:Cy P B N ρ0 C w0 ρ g w) {i:Nat} {o':Obj} (Y:N<=i) (U:i<g.next) (hb:C.base<=i) (hB:B<=w0.heap.size) (W:ρ i=none)
  (f:w'.heap=w.heap.push o') (G:w'.os=w.os) (A:w'.output=w.output) (u:w'.tape=w.tape) (J:∀o,g.get i=some o->mB P (qH ρ i (w.heap.size,(0,0))) (0,0) o o'):
  Cy P B N ρ0 C w0 (qH ρ i (w.heap.size,(0,0))) g w':=by
 have r:Ext ρ (qH ρ i (w.heap.size,(0,0))):=Ext.qH W
 have m:=e.inv
 have n:∀j b s,(g.get j).isSome->ρ j=some (b,s)->b<w.heap.size:=fun j b s d q=>by
  obtain⟨o,X⟩:=Option.isSome_iff_exists.1 d;obtain⟨L,O,_⟩:=m.gH j o X b s q;grind
 have t:∀k,k<P.globals.size->k≠i:=fun k x T=>by
  have:=m.iN k x;grind
 refine {ext:=e.ext.trans r,inv:=?_,un:=?_,gA:=fun j d q=>e.gA j d q,stay:=e.stay,frame:=?_,range:=?_,base:=e.base,nB:=e.nB,size:=by rw[f];simp;exact Nat.le_succ_of_le e.size,os:=G.trans e.os,out:=A.trans e.out,tape:=u.trans e.tape}
 .refine {gH:=?_,inj:=?_,low:=?_,old:=?_,fresh:=?_,dF:=m.dF,iN:=?_,size:=by rw[f];simp;exact Nat.le_succ_of_le m.size,bn:=m.bn}
  .intro j o S b s q;by_cases l:j=i
   .subst l;rw[aX] at q;grind
   .rw[aJ l] at q;obtain⟨L,O,Q⟩:=m.gH j o S b s q;refine⟨L,?_,Q.mono r⟩;grind
  .intro j k b M sk d x v I c y;by_cases l:j=i
   .by_cases z:k=i
    .rw[l,z]
    .rw[aJ z] at y;have:=n k b sk I y;subst l;rw[aX] at c;cases c;omega
   .rw[aJ l] at c;by_cases z:k=i
    .have:=n j b M v c;subst z;rw[aX] at y;cases y;omega
    .rw[aJ z] at y;exact m.inj j k b M sk d x v I c y
  .intro j b s d v c;by_cases l:j=i
   .subst l;rw[aX] at c;cases c;exact Nat.le_trans hB e.size
   .rw[aJ l] at c;exact m.low j b s d v c
  .intro j b s d c;rw[e.base] at d;rw[aJ (by omega)] at c;exact m.old j b s (by rw[e.base];exact d) c
  .intro j d;rw[aJ (by omega)];exact m.fresh j d
  .intro k x;rw[aJ (t k x)];exact m.iN k x
 .intro j d q;rw[aJ (by omega)];exact e.un j d q
 .intro b p F;rw[f,Array.getElem?_push,tt (by have:=e.size;omega)];exact e.frame b p F
 .intro j b s d v c p;by_cases l:j=i
  .subst l;rw[aX] at c;cases c;have:=e.size;omega
  .rw[aJ l] at c;exact e.range j b s d v c p
theorem J7 {N:Nat} {ρ0 ρ:dR} {u g:AH} {w0 w:World} (e:Cy P B N ρ0 u w0 ρ g w) {i:Nat} {o:hZ} (S:N<=i) (F:i<g.next) (hb:u.base<=i) (hB:B<=w0.heap.size)
  (A:∀b s,ρ i=some (b,s)->∃C,w.heap[b]?=some C/\mB P ρ s o C)
  (I:∀b s,ρ i=some (b,s)->w0.heap.size<=b/\∀j O,u.base<=j->(g.get j).isSome->ρ j=some (b,O)->j=i):
  Cy P B N ρ0 u w0 ρ (g.set i (some o)) w:=by
 have n:=e.inv
 have x:g.base<=i:=by rw[e.base];exact hb
 have f:∀j,(g.set i (some o)).get j=if j=i then some o else g.get j:=fun j=>AH.dO x
 have d:∀j,((g.set i (some o)).get j).isSome->j=i\/(g.get j).isSome:=fun j c=>by
  grind
 refine {ext:=e.ext,inv:=?_,un:=e.un,gA:=?_,stay:=fun j c G=>by rw[f,aab];exact e.stay j c G,frame:=e.frame,range:=?_,base:=by simp;exact e.base,nB:=?_,size:=e.size,os:=e.os,out:=e.out,tape:=e.tape}
 .refine {gH:=?_,inj:=?_,low:=?_,old:=?_,fresh:=?_,dF:=?_,iN:=n.iN,size:=n.size,bn:=by simp;exact n.bn}
  .intro j L m b s p;rw[f] at m;by_cases q:j=i
   .grind
   .rw[tt q] at m;exact n.gH j L m b s p
  .intro j k b Q sk c y m z p M;simp at c y;rcases d j m with q|l
   .rcases d k z with v|r
    .rw[q,v]
    .subst q;rw[e.base] at y;grind
   .rcases d k z with v|r
    .subst v;rw[e.base] at c;grind
    .exact n.inj j k b Q sk c y l r p M
  .intro j b s c m p;simp at c;rcases d j m with q|l
   .grind
   .exact n.low j b s c l p
  .intro j b s c p;simp at c;exact n.old j b s c p
  .intro j c;simp at c;exact n.fresh j c
  .intro j c;simp at c;rw[f,aab];exact n.dF j c
 .intro j c J;rw[f,aab];exact e.gA j c J
 .intro j b s c m p t;rcases d j m with q|l
  .grind
  .exact e.range j b s c l p t
 .intro j c;rw[f,aab];exact e.nB j c
theorem B5 {R:mT} {all:List Oper} {r0:Nat}:∀(os:List Oper) (i:Nat) (env:List Value) (h:AH) (rs:List Rec) (e:List Value) (d:AH),dG P R all r0 i os env h=some (rs,e,d)->
  ∃(E:Nat->List Value) (H:Nat->AH) (V:Nat->Value),E 0=env/\H 0=h/\
   (∀j o,os[j]?=some o->cI P R all r0 (i+j) (E j) (H j) o=some (V j,H (j+1))/\E (j+1)=eE (E j) o.dst (V j))/\
   E os.length=e/\H os.length=d/\∀j,j<os.length->rs[j]?=some ⟨E j,H j,V j⟩
 |[],i,env,h,rs,e,d,c=>by
  simp only[dG,Option.some.injEq,Prod.mk.injEq] at c;obtain⟨rfl,rfl,rfl⟩:=c;exact⟨fun _=>env,fun _=>h,fun _=>undef,rfl,rfl,fun j o f=>by simp at f,rfl,rfl,fun j f=>by simp at f⟩
 |o::os,i,env,h,rs,e,d,c=>by
  simp only[dG] at c;split at c;rename_i v m y;split at c;rename_i l q g;simp only[Option.some.injEq,Prod.mk.injEq] at c;obtain⟨rfl,rfl⟩:=c;obtain⟨E,H,V,r,t,u,n,p,x⟩:=B5 os (i+1) (eE env o.dst v) m l e d g;refine⟨fun j=>match j with|0=>env|j+1=>E j,fun j=>match j with|0=>h|j+1=>H j,fun j=>match j with|0=>v|j+1=>V j,rfl,rfl,?_,n,p,?_⟩;grind;grind;cases c;cases c
def qD (all:List Oper) (V:Nat->Value) (e:List Value) (D:List Nat):List Value:=D.foldl (fun e i=>eE e ((all[i]?).bind (·.dst)) (V i)) e
theorem S1 {e:List Value} {d:Option Tmp} {v:Value}:(eE e d v).length=e.length:=by cases d<;>simp[eE]
theorem I6 {e:List Value} {d:Option Tmp} {v:Value} {t:Nat}:(eE e d v)[t]?=if d=some t then(if t<e.length then some v else none) else e[t]?:=by
 cases d with
 |none=>simp[eE]
 |some d=>
  simp only[eE,Option.some.injEq,List.getElem?_set];grind
theorem tZ {all:List Oper} {V:Nat->Value} {t:Nat}:∀(D:List Nat) (e:List Value),(∀i∈D,(all[i]?).bind (·.dst)≠some t)->(qD all V e D)[t]?=e[t]?
 |[],e,_=>rfl
 |i::D,e,h=>by
  show(qD all V (eE e _ (V i)) D)[t]?=_;rw[tZ D _ fun j c=>h j (List.mem_cons_of_mem _ c),I6,tt (h i List.mem_cons_self)]
theorem G7 {all:List Oper} {V:Nat->Value} {t j:Nat} (f:(all[j]?).bind (·.dst)=some t) (g:∀i,(all[i]?).bind (·.dst)=some t->i=j):∀(D:List Nat) (e:List Value),j∈D->(qD all V e D)[t]?=if t<e.length then some (V j) else none
 |[],e,h=>by cases h
 |i::D,e,h=>by
  show(qD all V (eE e _ (V i)) D)[t]?=_;by_cases hD:j∈D;rw[G7 f g D _ hD,S1];have c:i=j:=by grind
  subst c;rw[tZ D _ fun k l d=>hD (g k d▸l),I6,tu f]
theorem D5 {all:List Oper} {V:Nat->Value} {t:Nat} {e:List Value} (n:∀i j:Nat,(all[i]?).bind (·.dst)=some t->(all[j]?).bind (·.dst)=some t->i=j) {D g:List Nat}
  (m:∀j:Nat,(all[j]?).bind (·.dst)=some t->(j∈D↔j∈g)):(qD all V e D)[t]?=(qD all V e g)[t]?:=by
 rcases Classical.em (∃j,j∈D/\(all[j]?).bind (·.dst)=some t) with⟨j,l,f⟩|d
 .rw[G7 f (fun i c=>n i j c f) D e l,G7 f (fun i c=>n i j c f) g e ((m j f).1 l)]
 .rw[tZ D e fun i c hit=>d ⟨i,c,hit⟩,tZ g e fun i c hit=>d ⟨i,(m i hit).2 c,hit⟩]
theorem Dj {all:List Oper} {V:Nat->Value} {e:List Value} {D:List Nat} {i:Nat}:qD all V e (D++[i])=eE (qD all V e D) ((all[i]?).bind (·.dst)) (V i):=by
 unfold qD;grind
end
section
variable {P:Program} {B:Nat} {K:FuncId->List Value->Option dU}
structure Dr (P:Program) (R:mT) (all:List Oper) (r0:Nat) (E:Nat->List Value) (H:Nat->AH) (V:Nat->Value):Prop where
 step:∀(j:Nat) o,all[j]?=some o->cI P R all r0 j (E j) (H j) o=some (V j,H (j+1))
 env:∀(j:Nat) o,all[j]?=some o->E (j+1)=eE (E j) o.dst (V j)
 dir:∀(k:Nat) o,all[k]?=some o->∀j∈cG o,j<k
 kind:∀(k:Nat) o,all[k]?=some o->kindOf o.op≠.other
 iR:∀i j:Nat,∀t,(all[i]?).bind (·.dst)=some t->(all[j]?).bind (·.dst)=some t->i=j
 tmps:∀i j:Nat,∀o p d,all[i]?=some o->all[j]?=some p->i≠j->p.dst=some d->d∈sY all o->(j<i->ahead (cE all []) j i=true)/\(i<j->ahead (cE all []) i j=true)
 nT:∀i j:Nat,∀o p,all[i]?=some o->all[j]?=some p->bH o.op=true->bH p.op=true->j<i->ahead (cE all []) j i=true
 rn:∀i s:Nat,∀o,all[i]?=some o->dD o.op=true->s<=all.length->(s=all.length\/∃p,all[s]?=some p/\bH p.op=true)->
  (∀j p,all[j]?=some p->bH p.op=true->(j<s->ahead (cE all []) i j=false)/\(s<=j->ahead (cE all []) j i=false))->
  ¬(i<s/\∀j p,i<j->j<s->all[j]?=some p->bH p.op=false)->
  bS ⟨all⟩ (E i) o=some true->bZ P (bA P (E i)) (H s) o.op=some (V i)
structure St (P:Program) (B:Nat) (all:List Oper) (r0:Nat) (E:Nat->List Value) (H:Nat->AH) (V:Nat->Value) (ρ0:dR) (h:AH) (w0:World) (D:List Nat) (s:Nat) (ρ:dR) (w:World) (tmps:List Value):Prop where
 tN:Cy P B r0 ρ0 h w0 ρ (H s) w
 Sh:∀i∈D,i<all.length
 closed:∀i∈D,∀o,all[i]?=some o->∀j∈cG o,j∈D
 s1:∀(j:Nat) o,j<s->all[j]?=some o->bH o.op=true->j∈D
 s3:∀(j:Nat) o,all[j]?=some o->bH o.op=true->j∈D->j<s
 sle:s<=all.length
 env:aC ρ (qD all V (E 0) D) tmps
 nx:r0+all.length<=(H s).next
 tD:∀(i:Nat) o b f,s<=i->i∈D->all[i]?=some o->bS ⟨all⟩ (E i) o=some true->bT P (bA P (E i)) o.op=some (b,f)->kindOf o.op= .alloc->
  ∃n o',ρ (r0+i)=some (n,(0,0))/\w.heap[n]?=some o'/\mB P ρ (0,0) b o'
 oB:∀i n t,i<all.length->ρ (r0+i)=some (n,t)->w0.heap.size<=n/\n<w.heap.size
 lone:∀i n t,s<=i->i<all.length->ρ (r0+i)=some (n,t)->∀j s',h.base<=j->((H s).get j).isSome->ρ j≠some (n,s')
 yA:∀i i' n t t',i<all.length->i'<all.length->ρ (r0+i)=some (n,t)->ρ (r0+i')=some (n,t')->i=i'
 Pc:∀i,i<all.length->i∉D->ρ (r0+i)=none
 Su:∀(i:Nat) o,all[i]?=some o->¬(kindOf o.op= .alloc/\bS ⟨all⟩ (E i) o=some true)->ρ (r0+i)=none
 rev:∀(i:Nat) o b f,i<s->i∉D->all[i]?=some o->bS ⟨all⟩ (E i) o=some true->bT P (bA P (E i)) o.op=some (b,f)->kindOf o.op= .alloc->(H s).get (r0+i)=some b
 Pf:∀j,s<=j->j<all.length->(H s).get (r0+j)=none
 gr:∀m,m<=s->(∀(j:Nat) p,m<=j->j<s->all[j]?=some p->bH p.op=false)->iE (H m) (H s)
def V5 (all:List Oper) (D:List Nat) (s:Nat):Prop:=s=all.length\/∃o,all[s]?=some o/\bH o.op=true/\s∉D
variable {R:mT} {all:List Oper} {r0:Nat} {E:Nat->List Value} {H:Nat->AH} {V:Nat->Value} {ρ0 ρ:dR} {h:AH} {w0 w:World} {D:List Nat} {s:Nat} {tmps:List Value}
theorem zU {op:Op} (h:dD op=true):kindOf op= .pW\/kindOf op= .call:=by
 cases op<;>simp[dD,kindOf] at h ⊢
theorem oC {op:Op} (h:dD op=true):bH op=false/\kindOf op≠.alloc:=by
 rcases zU h with c|c<;>simp[bH,h,c]
theorem Dr.cases (d:Dr P R all r0 E H V) {i:Nat} {o:Oper} (n:all[i]?=some o):
  (bS ⟨all⟩ (E i) o=some false/\V i=undef/\H (i+1)=H i)\/
  (bS ⟨all⟩ (E i) o=some true/\dD o.op=true/\bZ P (bA P (E i)) (H i) o.op=some (V i)/\H (i+1)=H i)\/
  (bS ⟨all⟩ (E i) o=some true/\kindOf o.op= .alloc/\∃b f,bT P (bA P (E i)) o.op=some (b,f)/\V i=f (r0+i)/\H (i+1)=(H i).set (r0+i) (some b))\/
  (bS ⟨all⟩ (E i) o=some true/\bH o.op=true/\bQ P R (bA P (E i)) (H i) o.op=some (V i,H (i+1))):=by
 have c:=d.step i o n
 have p:=d.kind i o n
 unfold cI at c
 split at c
 .cases c
 .grind
 .rename_i q;split at c
  .rename_i j;simp only[Option.map_eq_some_iff] at c;grind
  .rename_i j;split at c
   .rename_i e;simp only[Option.map_eq_some_iff] at c;grind
   .rename_i e;refine .inr (.inr (.inr ⟨q,?_,c⟩));unfold bH;simp only[j,Bool.not_false,Bool.and_true];have g:kindOf o.op≠.alloc:=by simpa using e
    have l:kindOf o.op≠.pW:=by
     intro m;apply j;cases hop:o.op<;>rw[hop] at m<;>simp[kindOf] at m<;>simp[dD,kindOf]
    cases hkk:kindOf o.op with
    |pW=>exact absurd hkk l
    |alloc=>exact absurd hkk g
    |store=>rfl
    |call=>rfl
    |other=>exact absurd hkk p
theorem Dr.ca (d:Dr P R all r0 E H V):∀i,i<=all.length->E i=qD all V (E 0) (List.range i)
 |0,_=>rfl
 |i+1,e=>by
  have c:all[i]?=some all[i]:=List.getElem?_eq_getElem (by omega);rw[d.env i _ c,d.ca i (by omega),List.range_succ,Dj,c];rfl
theorem St.As (d:Dr P R all r0 E H V) (st:St P B all r0 E H V ρ0 h w0 D s ρ w tmps) {i:Nat} {o:Oper} (f:all[i]?=some o) (c:∀j∈cG o,j∈D) {j:Nat} (e:ahead (cE all []) j i=true):j∈D:=
 A2 d.dir st.closed i o f c j e
theorem St.looks (d:Dr P R all r0 E H V) (st:St P B all r0 E H V ρ0 h w0 D s ρ w tmps) {i:Nat} {o:Oper} (m:all[i]?=some o) (hD:i∉D) (e:∀j∈cG o,j∈D) {t:Nat} (y:t∈sY all o):
  (qD all V (E 0) D)[t]?=(E i)[t]?:=by
 have z:i<all.length:=(List.getElem?_eq_some_iff.1 m).1
 rw[d.ca i (by omega)]
 refine D5 (fun a b u v=>d.iR a b t u v) fun j g=>?_
 rw[List.mem_range]
 cases hp:all[j]? with
 |none=>grind
 |some p=>
  rw[hp] at g
  simp only[Option.bind_some] at g
  by_cases f:j=i
  .subst f;simp[hD]
  .obtain⟨n,q⟩:=d.tmps i j o p t m hp (Ne.symm f) g y;constructor
   .intro l;rcases Nat.lt_or_ge j i with c|x
    .exact c
    .exfalso;have r:=q (by omega);exact hD (A2 d.dir st.closed j p hp (st.closed j l p hp) i r)
   .intro c;exact st.As d m e (n c)
theorem St.ev (d:Dr P R all r0 E H V) (st:St P B all r0 E H V ρ0 h w0 D s ρ w tmps) {i:Nat} {o:Oper} (e:all[i]?=some o) (hD:i∉D) (c:∀j∈cG o,j∈D):
  ∀x∈o.op.operands.toList,bA P (qD all V (E 0) D) x=bA P (E i) x:=by
 intro x f
 cases x with
 |tmp t=>
  have:=st.looks d e hD c (t:=t) (by unfold sY;grind)
  simp only[bA,List.getD_eq_getElem?_getD,this]
 |_=>rfl
theorem St.wanted (d:Dr P R all r0 E H V) (st:St P B all r0 E H V ρ0 h w0 D s ρ w tmps) {i:Nat} {o:Oper} (f:all[i]?=some o) (hD:i∉D) (c:∀j∈cG o,j∈D):
  bS ⟨all⟩ (qD all V (E 0) D) o=bS ⟨all⟩ (E i) o:=by
 unfold bS
 cases hg:o.guard with
 |none=>rfl
 |some x=>
  obtain⟨j,want⟩:=x
  simp only
  cases hj:((⟨all⟩:Array Oper)[j]?).bind (·.dst) with
  |none=>rfl
  |some t=>
   have e:(all[j]?).bind (·.dst)=some t:=by simpa using hj
   have:=st.looks d f hD c (t:=t) (by unfold sY;grind)
   grind
theorem St.Qa (d:Dr P R all r0 E H V) (st:St P B all r0 E H V ρ0 h w0 D s ρ w tmps) (u:V5 all D s) {i:Nat} {o:Oper} (n:all[i]?=some o) (hD:i∉D) (f:∀j∈cG o,j∈D) (m:dD o.op=true) (A:bS ⟨all⟩ (E i) o=some true):
  bZ P (bA P (E i)) (H s) o.op=some (V i):=by
 rcases Classical.em (i<s/\∀j p,i<j->j<s->all[j]?=some p->bH p.op=false) with⟨F,G⟩|t
 .rcases d.cases n with⟨C,_⟩|⟨_,_,z,_⟩|⟨_,l,_⟩|⟨_,l,_⟩
  .grind
  .refine Mb (st.gr i (by omega) fun j p x y c=>?_) z;by_cases e:j=i
   .subst e;rw[n] at c;cases c;exact(oC m).1
   grind
  .exact absurd l (oC m).2
  .rw[(oC m).1] at l;cases l
 .refine d.rn i s o n m st.sle (u.imp id fun⟨p,c,g,_⟩=>⟨p,c,g⟩) ?_ t A;intro j p c g;constructor
  .intro r;cases ha:ahead (cE all []) i j with
   |false=>rfl
   |true=>exact absurd (A2 d.dir st.closed j p c (st.closed j (st.s1 j p r c g) p c) i ha) hD
  .intro v;cases ha:ahead (cE all []) j i with
   |false=>rfl
   |true=>
    have q:=st.As d n f ha
    have:=st.s3 j p c g q
    omega
end
end Go.Ab
