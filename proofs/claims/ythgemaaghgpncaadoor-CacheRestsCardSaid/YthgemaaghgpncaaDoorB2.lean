/- A part of the proof. -/
import Derived.Test.YthgemaaghgpncaaDoorB1
import Derived.RangeFuncIn
section
namespace Go.Ab
open Go.RowKit
variable {P:Program} {B:Nat} {ρ:fN} {h:AH} {w:World}
theorem Inv.of_heap (hi:Inv P B ρ h w) {w':World} (hh:w'.heap=w.heap):Inv P B ρ h w' where
 nJ:=fun i o hg b s hr=>by rw[hh];exact hi.nJ i o hg b s hr
 inj:=hi.inj
 low:=hi.low
 old:=hi.old
 fresh:=hi.fresh
 fD:=hi.fD
 lM:=hi.lM
 size:=by rw[hh];exact hi.size
 bn:=hi.bn
theorem C5 {x x':Value} {n:Nat} (hx:aB ρ x x') (hn:mB x=some n):(Builtin.lenOf x').run P w= .ok n w:=by
 unfold mB at hn
 split at hn
 ·rename_i a _ _
  cases hn
  cases a with
  |none=>simp only[aB] at hx;subst hx;rfl
  |some a=>
   obtain⟨_,_,sp⟩:=a
   cases sp with
   |none=>simp only[aB] at hx;obtain⟨_,_,_,_,_,_,rfl⟩:=hx;rfl
   |some _=>simp only[aB] at hx;obtain⟨rfl,_,_,_,_,_,rfl⟩:=hx;rfl
 ·cases hn;simp only[aB] at hx;subst hx;rfl
 ·cases hn
theorem Fy (hi:Inv P B ρ h w) {x x':Value} {size n:Nat} {new:List Value} (hx:aB ρ x x') (hs:eM h size n x=some new):
  ∃new',(Builtin.firstCells size n x').run P w= .ok ⟨new'⟩ w∧aH ρ new new':=by
 unfold eM at hs
 split at hs
 ·split at hs
  ·cases hs;simp only[aB] at hx;subst hx;exact⟨[],by simp[Builtin.firstCells],aH.nil⟩
  ·cases hs
 ·rename_i a l c
  split at hs
  ·rename_i h0
   cases hs;subst h0
   obtain⟨_,_,sp⟩:=a
   have key:∀a' c',(Builtin.firstCells size 0 (.slice (some a') l c')).run P w= .ok ⟨[]⟩ w:=fun a' c'=>by simp[Builtin.firstCells,loadCells,loadCellsFrom]
   cases sp with
   |none=>simp only[aB] at hx;obtain⟨_,_,_,_,_,_,rfl⟩:=hx;exact⟨[],key _ _,aH.nil⟩
   |some _=>simp only[aB] at hx;obtain⟨rfl,_,_,_,_,_,rfl⟩:=hx;exact⟨[],key _ _,aH.nil⟩
  ·rename_i h0
   split at hs
   ·obtain⟨i,o,sp⟩:=a
    cases sp with
    |none=>
     simp only[aB] at hx;obtain⟨b,s,c',hr,_,_,rfl⟩:=hx
     obtain⟨l',hrun,hrel,_,_⟩:=kG hi (a:=⟨i,o,none⟩) hr hs
     exact⟨l',hrun,hrel⟩
    |some _=>simp[aW] at hs
   ·cases hs
 ·split at hs
  ·cases hs
   simp only[aB] at hx;subst hx
   refine⟨_,show _=Result.ok (⟨((ByteArray.extract _ 0 n).data.toList.map fun b=>Value.int .u8 b.toNat)⟩:Array Value) w from ?_,aH.tO (fun b=>by simp only[aB]) _⟩
   simp only[Builtin.firstCells,Sem.run_pure,Result.ok.injEq,and_true]
   exact Array.ext' (by simp)
  ·cases hs
 ·cases hs
theorem Bv {z:Value} {l:List Value} (hz:z.cells=⟨l⟩) {size:Nat} (hl:l.length=size) (n:Nat):Builtin.zeroCells z.cells n=⟨dV l n⟩:=by
 unfold Builtin.zeroCells
 rw[hz]
 have:=pH hl n
 grind
theorem Ir {argTypes:Array TypeId} {ty sT e:TypeId} {i:TypeInfo} {zv:Value} {z:List Value} {base':Option Addr} {sLen c' n:Nat} {x':Value} {old' new':List Value}
  (h0:argTypes[0]?=some sT) (hd:P.underlying sT=some (.slice e)) (hi:P.info? e=some i) (hz:i.zero=some zv) (_hzc:zv.cells=⟨z⟩)
  {uT:TypeId} (h1:argTypes[1]?=some uT) (hu:P.underlying uT=some .string∨∃e',P.underlying uT=some (.slice e'))
  (hlen:(Builtin.lenOf x').run P w= .ok n w) (hgt:¬sLen+n≤c') (hbig:(sLen+n)*(i.bytes+1)≤2^46)
  (hold:(Builtin.firstCells (P.cellsOf e) sLen (.slice base' sLen c')).run P w.drew= .ok ⟨old'⟩ w.drew) (hnew:(Builtin.firstCells (P.cellsOf e) n x').run P w.drew= .ok ⟨new'⟩ w.drew):
  (Builtin.append_ argTypes ty #[.slice base' sLen c',x']).run P w=
   .ok (.slice (some ⟨w.heap.size,0,none⟩) (sLen+n) (grownCap w (sLen+n) c' e)) (w.drew.alloc (.cells (⟨old'⟩++⟨new'⟩++Builtin.zeroCells zv.cells (grownCap w (sLen+n) c' e - (sLen+n))) e)):=by
 have e1:(sLen+n)*i.bytes≤2^46:=Nat.le_trans (Nat.mul_le_mul_left _ (Nat.le_succ _)) hbig
 have e2:sLen+n≤2^46:=Nat.le_trans (Nat.le_mul_of_pos_right _ (Nat.succ_pos _)) hbig
 have hfit:¬Builtin.nextslicecap (sLen+n) c'*i.bytes>2^48:=by
  have:=growslice_fits (need:=sLen+n) (old:=c') (bytes:=i.bytes) (by omega) (by omega)
  omega
 have hmax:¬(((sLen+n:Nat):Int)>IntKind.i64.max∧(false=true∨i.bytes=0)):=by
  rw[IntKind.max_i64];intro hh;omega
 have hq:(Question.appendCap (sLen+n) c' e).forced=false:=rfl
 have t1:∀w',(typeInfo e).run P w'= .ok i w':=fun w'=>by simp[typeInfo,hi]
 have t2:∀w',(sizeOf e).run P w'= .ok (P.cellsOf e) w':=fun w'=>dJ hi
 have t3:∀w',(zeroValue e).run P w'= .ok zv w':=fun w'=>by simp[zeroValue,typeInfo,hi,hz]
 rcases hu with hu|⟨e',hu⟩
 all_goals
  unfold Builtin.append_
  simp only[h0,h1,List.getElem?_toArray,List.getElem?_cons_zero,List.getElem?_cons_succ,Sem.run_bind,run_underlying hd,run_underlying hu,Result.andThen_ok,t2,Sem.run_pure,
      Bool.false_eq_true,if_false,hlen,hgt,t1,false_or]
  simp only[Bool.false_eq_true,false_or] at hmax
  rw[if_neg hmax]
  simp only[Sem.run_bind,run_choose,hq,Bool.false_eq_true,if_false,Result.andThen_ok,run_askRoom,World.drew_eq,t1,hfit,hold,Bool.not_false,if_true,hnew,t3]
  simp only[newRow,Sem.run_bind,run_newObj,Result.andThen_ok,Sem.run_pure,World.alloc_eq]
  rfl
theorem jD {argTypes:Array TypeId} {ty sT e uT:TypeId} {i:TypeInfo} {base':Option Addr} {sLen c' n:Nat} {x':Value} {new':List Value}
  (h0:argTypes[0]?=some sT) (hd:P.underlying sT=some (.slice e)) (hi:P.info? e=some i)
  (h1:argTypes[1]?=some uT) (hu:P.underlying uT=some .string∨∃e',P.underlying uT=some (.slice e'))
  (hlen:(Builtin.lenOf x').run P w= .ok n w) (hle:sLen+n≤c') (hnew:(Builtin.firstCells (P.cellsOf e) n x').run P w= .ok ⟨new'⟩ w):
  (Builtin.append_ argTypes ty #[.slice base' sLen c',x']).run P w=
   match base' with
   |some a=>((storeCells (a.add (sLen*P.cellsOf e)) new').run P w).andThen fun _ w'=> .ok (.slice base' (sLen+n) c') w'
   |none=> .ok (.slice base' (sLen+n) c') w:=by
 have t2:∀w',(sizeOf e).run P w'= .ok (P.cellsOf e) w':=fun w'=>dJ hi
 rcases hu with hu|⟨e',hu⟩
 all_goals
  unfold Builtin.append_
  simp only[h0,h1,List.getElem?_toArray,List.getElem?_cons_zero,List.getElem?_cons_succ,Sem.run_bind,run_underlying hd,run_underlying hu,Result.andThen_ok,t2,Sem.run_pure,
      Bool.false_eq_true,if_false,hlen,hle,if_true,Bool.not_false,hnew]
  cases base'<;>simp
theorem Iz (hi:Inv P B ρ h w) {i b:Nat} {s:Nat×Nat} {o0:jN} (hbi:h.base≤i) (hg:h.get i=some o0) (hr:ρ i=some (b,s)):hQ P B ρ h w ρ (h.set i none) w:=by
 have hget:∀j,(h.set i none).get j=if j=i then none else h.get j:=fun j=>AH.fJ hbi
 have hsome:∀j,((h.set i none).get j).isSome→(h.get j).isSome∧j≠i:=fun j hj=>by
  grind
 refine {ext:=Ext.refl _,inv:=?_,un:=fun _ _ h=>h,jB:=?_,stay:=fun j hj hn=>by grind,frame:=fun _ _ _=>rfl,range:=?_,base:=AH.Ip,oR:=?_,next:=by simp,size:=Nat.le_refl _,os:=rfl,out:=rfl,tape:=rfl}
 ·refine {nJ:=?_,inj:=?_,low:=?_,old:=?_,fresh:=?_,fD:=?_,lM:=hi.lM,size:=hi.size,bn:=by simp;exact hi.bn}
  ·intro j oj gj bj sj rj
   have:=hsome j (by rw[gj];rfl)
   rw[hget,if_neg this.2] at gj
   exact hi.nJ j oj gj bj sj rj
  ·intro j k bb sj sk hj hk gj gk rj rk
   simp at hj hk
   exact hi.inj j k bb sj sk hj hk (hsome j gj).1 (hsome k gk).1 rj rk
  ·intro j bb sj hj gj rj
   simp at hj
   exact hi.low j bb sj hj (hsome j gj).1 rj
  ·intro j bb sj hj rj
   simp at hj
   exact hi.old j bb sj hj rj
  ·intro j hj
   simp at hj
   exact hi.fresh j hj
  ·intro j hj
   simp at hj
   rw[hget]
   split
   ·rfl
   ·exact hi.fD j hj
 ·grind
 ·intro j bb sj hj gj rj _
  exact⟨j,sj,hj,(hsome j gj).1,rj⟩
 ·intro j hj
  rw[hget,if_neg (by omega)]
theorem Eg (hi:Inv P B ρ h w) {argTypes:Array TypeId} {ty:TypeId} {s x s' x' v:Value} {h':AH} (hs:aB ρ s s') (hx:aB ρ x x') (hv:zB P h argTypes s x=some (v,h')):
  ∃ρ' w' v',hQ P B ρ h w ρ' h' w'∧aB ρ' v v'∧(Builtin.append_ argTypes ty #[s',x']).run P w= .ok v' w':=by
 unfold zB at hv
 split at hv
 ·rename_i e base sLen sCap n hd hn
  split at hv
  ·cases hv
  ·rename_i hxk
   split at hv
   ·rename_i z new hz hnew
    obtain⟨i,zv,hinf,hzero,hzr,hzc,hzl,hzz⟩:=lV (w:=w) hz
    have hzc':zv.cells=⟨z⟩:=by rw[←hzc]
    have hby:i.bytes=P.bytesOf e:=by simp[Program.bytesOf,hinf]
    split at hv
    ·cases hv
    ·rename_i hcell
     simp only[Bool.or_eq_true,Bool.not_eq_true',bne_iff_ne,ne_eq,not_or,Bool.not_eq_false,Decidable.not_not] at hcell
     obtain⟨hall,hnl⟩:=hcell
     obtain⟨sT,h0,hd⟩:∃sT,argTypes[0]?=some sT∧P.underlying sT=some (.slice e):=by
      grind
     obtain⟨uT,h1,hu⟩:∃uT,argTypes[1]?=some uT∧(P.underlying uT=some .string∨∃e',P.underlying uT=some (.slice e')):=by
      unfold zE at hxk
      grind
     have hlen:=C5 (P:=P) (w:=w) hx hn
     obtain⟨new',hnrun,hnrel⟩:=Fy hi hx hnew
     have hnl':=hnrel.length
     have hid:Inv P B ρ h w.drew:=hi.of_heap rfl
     split at hv
     ·
      rename_i hle
      split at hv
      ·split at hv
       ·rename_i hn0
        cases hv;subst hn0
        simp only[aB] at hs;subst hs
        refine⟨ρ,w,.slice none sLen sCap,hQ.refl hi,by simp only[aB],?_⟩
        rw[jD h0 hd hinf h1 hu hlen (by omega) hnrun]
        simp
       ·cases hv
      ·rename_i a
       obtain⟨ai,ao,asp⟩:=a
       split at hv
       ·rename_i hn0
        cases hv;subst hn0
        have:new'=[]:=List.eq_nil_of_length_eq_zero (by omega)
        subst this
        have hs0:=hs
        cases asp with
        |none=>
         simp only[aB] at hs
         obtain⟨b,sp,c',hr,hc1,hc2,rfl⟩:=hs
         refine⟨ρ,w,_,hQ.refl hi,hs0,?_⟩
         rw[jD (ty:=ty) (base':=some ⟨b,ao+sp.2,none⟩) (sLen:=sLen) (c':=c') h0 hd hinf h1 hu hlen (by omega) hnrun]
         simp[storeCells]
        |some _=>
         simp only[aB] at hs
         obtain⟨rfl,rfl,a',c',_,_,rfl⟩:=hs
         refine⟨ρ,w,_,hQ.refl hi,hs0,?_⟩
         rw[jD (ty:=ty) (base':=some a') (sLen:=0) (c':=c') h0 hd hinf h1 hu hlen (by omega) hnrun]
         simp[storeCells]
       ·split at hv
        ·cases hv
        ·rename_i hsp
         obtain rfl:asp=none:=by cases asp with|none=>rfl|some _=>exact absurd rfl hsp
         have hs0:=hs
         simp only[aB] at hs
         obtain⟨b,sp,c',hr,hc1,hc2,rfl⟩:=hs
         have hrun:=jD (ty:=ty) (base':=some ⟨b,ao+sp.2,none⟩) (sLen:=sLen) (c':=c') h0 hd hinf h1 hu hlen (by omega) hnrun
         simp only[bG] at hrun
         simp only[Option.map_eq_some_iff] at hv
         obtain⟨h2,hst,hv⟩:=hv
         cases hv
         rw[bG] at hst
         obtain⟨w',hrun2,hevo,_⟩:=rS hi (a:=⟨ai,ao+sLen*P.cellsOf e,none⟩) hr hst hnrel
         refine⟨ρ,w',.slice (some ⟨b,ao+sp.2,none⟩) (sLen+n) c',hevo,?_,?_⟩
         ·simp only[aB];exact⟨b,sp,c',hr,hc1,hc2,rfl⟩
         ·rw[hrun]
          rw[show ao+sLen*P.cellsOf e+sp.2=ao+sp.2+sLen*P.cellsOf e by omega] at hrun2
          rw[hrun2];rfl
     ·rename_i hgt
      split at hv
      ·rename_i hbig
       have grown:∀(base':Option Addr) (c':Nat) (old old':List Value) (ρ0:fN) (h0':AH),¬sLen+n≤c'→aH ρ old old'→old.length=sLen*P.cellsOf e→
         (Builtin.firstCells (P.cellsOf e) sLen (.slice base' sLen c')).run P w.drew= .ok ⟨old'⟩ w.drew→hQ P B ρ h w ρ h0' w→h0'.next=h.next→
         ∃ρ' w' v',hQ P B ρ h w ρ' (h0'.alloc (.cells (old++new) e (0,0) false)) w'∧aB ρ' (.slice (some ⟨h.next,0,none⟩) (sLen+n) (sLen+n)) v'∧(Builtin.append_ argTypes ty #[.slice base' sLen c',x']).run P w= .ok v' w':=by
        intro base' c' old old' ρ0 h0' hgt' hold hol hor hevo hnx
        obtain⟨new2,hnrun2,hnrel2⟩:=Fy hid hx hnew
        have hrun:=Ir (ty:=ty) (base':=base') (sLen:=sLen) (c':=c') h0 hd hinf hzero hzc' h1 hu hlen hgt' (by rw[hby];exact hbig) hor hnrun2
        have hcap:=grownCap_ge w (sLen+n) c' e
        have hol':=hold.length
        have hn2:=hnrel2.length
        refine⟨_,_,_,hevo.trans (rU (s:=(grownCap w (sLen+n) c' e - (sLen+n),0)) hevo.inv (o:= .cells (old++new) e (0,0) false) (o':= .cells (⟨old'⟩++⟨new2⟩++Builtin.zeroCells zv.cells (grownCap w (sLen+n) c' e - (sLen+n))) e) (w':=w.drew.alloc (.cells (⟨old'⟩++⟨new2⟩++Builtin.zeroCells zv.cells (grownCap w (sLen+n) c' e - (sLen+n))) e)) ⟨_,rfl,?_,?_,fun hh=>by cases hh⟩ rfl rfl rfl rfl),?_,hrun⟩
        ·have e1:(old++new).length=(old'++new2).length:=by simp only[List.length_append];omega
         simp only[Array.toList_append,List.drop_zero]
         rw[e1,List.take_append_of_le_length (Nat.le_refl _),List.take_length]
         exact aH.mono (Ext.sG (hevo.inv.fresh _ (Nat.le_refl _))) _ _ (hold.append hnrel2)
        ·have e2:zv.cells.size=P.cellsOf e:=by rw[hzc'];exact hzl
         simp only[Array.size_append,size_zeroCells,List.size_toArray,List.length_append,e2]
         omega
        ·rw[hnx]
         simp only[aB]
         exact⟨_,_,_,bN,by omega,by simp only;omega,rfl⟩
       split at hv
       ·split at hv
        ·rename_i hs0
         subst hs0
         simp only[aB] at hs;subst hs
         simp only[Option.some.injEq,Prod.mk.injEq] at hv
         obtain⟨rfl,rfl⟩:=hv
         have:=grown none sCap [] [] ρ h hgt aH.nil (by simp) (by simp[Builtin.firstCells]) (hQ.refl hi) rfl
         simpa using this
        ·cases hv
       ·rename_i a
        obtain⟨ai,ao,asp⟩:=a
        split at hv
        ·rename_i hsp
         simp only at hsp
         subst hsp
         split at hv
         ·rename_i hs0
          subst hs0
          simp only[aB] at hs
          obtain⟨_,rfl,a',c',hc0,_,rfl⟩:=hs
          obtain rfl:=hc0 trivial
          simp only[Option.some.injEq,Prod.mk.injEq] at hv
          obtain⟨rfl,rfl⟩:=hv
          have:=grown (some a') 0 [] [] ρ h hgt aH.nil (by simp) (by simp[Builtin.firstCells,loadCells,loadCellsFrom]) (hQ.refl hi) rfl
          simpa using this
         ·cases hv
        ·split at hv
         ·
          rename_i hsp
          simp only at hsp
          subst hsp
          split at hv
          ·rename_i c e' fz xx hg
           split at hv
           ·rename_i hc
            obtain⟨rfl,hbase,rfl,hao,rfl,rfl⟩:=hc
            simp only at hao hbase
            simp only[Option.some.injEq,Prod.mk.injEq] at hv
            obtain⟨rfl,rfl⟩:=hv
            simp only[aB] at hs
            obtain⟨_,_,a',c',_,hc2,rfl⟩:=hs
            obtain⟨b,sp,hr,hsp1,hpos⟩:=hc2 trivial
            obtain⟨ob,hob,cc,rfl,hcc,hsz,hx0⟩:=hi.nJ _ _ hg b sp hr
            by_cases hfit:0+n≤c'
            ·have hn0:0<n:=by omega
             obtain rfl:=hpos (by omega)
             have hb1:n*P.cellsOf e'≤c'*P.cellsOf e':=Nat.mul_le_mul_right _ (by omega)
             have hb2:c'*P.cellsOf e'≤sp.1*P.cellsOf e':=Nat.mul_le_mul_right _ hsp1
             have hone:∀v∈new',v.oneCell'=true:=by
              intro v hv'
              obtain⟨j,hj⟩:=List.getElem?_of_mem hv'
              have hjl:j<new.length:=by
               have:=(List.getElem?_eq_some_iff.1 hj).1
               omega
              obtain⟨u,hu',hru⟩:=hnrel.get (List.getElem?_eq_getElem hjl)
              rw[hj] at hu';cases hu'
              exact hru.Ft (List.all_eq_true.1 hall _ (List.getElem_mem hjl))
             obtain⟨w',hrun2,hheap,hos,hout,htape⟩:=jU (P:=P) (b:=b) (e:=e') (fz:=(0,0)) rfl new' w cc (ao+sp.2+0*P.cellsOf e') 0 hob hone (by omega)
             have hrun:=jD (ty:=ty) (base':=some ⟨b,ao+sp.2,none⟩) (sLen:=0) (c':=c') h0 hd hinf h1 hu hlen hfit hnrun
             simp only[bG] at hrun
             have hb3:(c' - n)*P.cellsOf e'=c'*P.cellsOf e' - n*P.cellsOf e':=by rw[Nat.sub_mul]
             refine⟨_,w',.slice (some ⟨b,ao+sp.2,none⟩) (0+n) c',Ii hi hbase hg hr (s':=(c' - n,ao+sp.2)) (o:= .cells new e' (0,0) false) ⟨_,rfl,?_,?_,fun hh=>by cases hh⟩ hheap hos hout htape,?_,?_⟩
             ·refine aH.mono (Ext.sG (hi.fresh _ (Nat.le_refl _))) _ _ ?_
              have ht:((aT cc.toList (ao+sp.2+0*P.cellsOf e'+0) new').drop (ao+sp.2)).take new.length=new':=by
               unfold aT
               simp only[Nat.add_zero,Nat.zero_mul]
               rw[List.append_assoc,List.drop_append_of_le_length (by simp;omega),List.drop_take,Nat.sub_self,List.take_zero,List.nil_append]
               rw[show new.length=new'.length by omega,List.take_append_of_le_length (Nat.le_refl _),List.take_length]
              show aH ρ _ (((aT cc.toList (ao+sp.2+0*P.cellsOf e'+0) new').drop (ao+sp.2)).take new.length)
              rw[ht]
              exact hnrel
             ·show ao+sp.2+new.length+(c' - n)*P.cellsOf e'≤(aT cc.toList (ao+sp.2+0*P.cellsOf e'+0) new').length
              simp only[List.length_append,aT,List.length_take,List.length_drop,Array.length_toList]
              omega
             ·simp only[aB]
              exact⟨b,_,c',bN,by omega,by simp only;omega,by simp⟩
             ·rw[hrun,hrun2];rfl
            ·have:=grown (some a') c' [] [] ρ (h.set ai none) hfit aH.nil (by simp) (by simp[Builtin.firstCells,loadCells,loadCellsFrom]) (Iz hi hbase hg hr) (by simp)
             simpa using this
           ·cases hv
          ·cases hv
         ·split at hv
          ·rename_i old c e' fz xx hold hg
           split at hv
           ·cases hv
           ·have hs0:=hs
            obtain rfl:asp=none:=by
             unfold aW at hold
             cases asp with
             |none=>rfl
             |some _=>simp at hold
            simp only[aB] at hs
            obtain⟨b,sp,c',hr,hc1,hc2,rfl⟩:=hs
            obtain⟨old',horun,horel,_,holen⟩:=kG hid (a:=⟨ai,ao,none⟩) hr hold
            have horun':(Builtin.firstCells (P.cellsOf e) sLen (.slice (some ⟨b,ao+sp.2,none⟩) sLen c')).run P w.drew= .ok ⟨old'⟩ w.drew:=horun
            obtain⟨ob,hob,cc,rfl,hcc,hsz,hx0⟩:=hi.nJ _ _ hg b sp hr
            split at hv
            ·rename_i hxx
             simp only[Option.some.injEq,Prod.mk.injEq] at hv
             obtain⟨rfl,rfl⟩:=hv
             have hsp0:sp.1=0:=(hx0 hxx).1
             exact grown _ c' old old' ρ h (by omega) horel holen horun' (hQ.refl hi) rfl
            ·rename_i hxx
             split at hv
             ·rename_i hc
              obtain⟨rfl,hbase,rfl,hcl⟩:=hc
              simp only at hcl hbase
              simp only[Option.some.injEq,Prod.mk.injEq] at hv
              obtain⟨rfl,rfl⟩:=hv
              by_cases hfit:sLen+n≤c'
              ·
               have hb1:(sLen+n)*P.cellsOf e'≤c'*P.cellsOf e':=Nat.mul_le_mul_right _ hfit
               have hb2:c'*P.cellsOf e'≤(sCap+sp.1)*P.cellsOf e':=Nat.mul_le_mul_right _ hc2
               rw[Nat.add_mul] at hb1 hb2
               have hone:∀v∈new',v.oneCell'=true:=by
                intro v hv'
                obtain⟨j,hj⟩:=List.getElem?_of_mem hv'
                have hjl:j<new.length:=by
                 have:=(List.getElem?_eq_some_iff.1 hj).1
                 omega
                obtain⟨u,hu',hru⟩:=hnrel.get (List.getElem?_eq_getElem hjl)
                rw[hj] at hu';cases hu'
                exact hru.Ft (List.all_eq_true.1 hall _ (List.getElem_mem hjl))
               obtain⟨w',hrun2,hheap,hos,hout,htape⟩:=jU (P:=P) (b:=b) (e:=e') (fz:=(0,0)) rfl new' w cc (ao+sp.2+sLen*P.cellsOf e') 0 hob hone (by omega)
               have hrun:=jD (ty:=ty) (base':=some ⟨b,ao+sp.2,none⟩) (sLen:=sLen) (c':=c') h0 hd hinf h1 hu hlen hfit hnrun
               simp only[bG] at hrun
               have hb3:(c' - (sLen+n))*P.cellsOf e'=c'*P.cellsOf e' - (sLen*P.cellsOf e'+n*P.cellsOf e'):=by rw[Nat.sub_mul,Nat.add_mul]
               refine⟨_,w',.slice (some ⟨b,ao+sp.2,none⟩) (sLen+n) c',Ii hi hbase hg hr (s':=(c' - (sLen+n),ao+sp.2)) (o:= .cells (old++new) e' (0,0) false) ⟨_,rfl,?_,?_,fun hh=>by cases hh⟩ hheap hos hout htape,?_,?_⟩
               ·refine aH.mono (Ext.sG (hi.fresh _ (Nat.le_refl _))) _ _ ?_
                have hcl':=hcc.length
                simp only[List.length_take,List.length_drop,Array.length_toList] at hcl'
                unfold aW at hold
                simp only[Option.isSome_none,Bool.false_eq_true,if_false,hg] at hold
                split at hold
                ·rename_i hle'
                 cases hold
                 have ht:((aT cc.toList (ao+sp.2+sLen*P.cellsOf e'+0) new').drop (ao+sp.2)).take ((c.drop ao).take (sLen*P.cellsOf e')++new).length=(cc.toList.drop (ao+sp.2)).take (sLen*P.cellsOf e')++new':=by
                  unfold aT
                  have e1:((c.drop ao).take (sLen*P.cellsOf e')++new).length=((cc.toList.drop (ao+sp.2)).take (sLen*P.cellsOf e')++new').length:=by
                   simp only[List.length_append,List.length_take,List.length_drop,Array.length_toList]
                   omega
                  rw[e1]
                  simp only[Nat.add_zero]
                  rw[List.append_assoc,List.drop_append_of_le_length (by simp;omega),List.drop_take,show ao+sp.2+sLen*P.cellsOf e' - (ao+sp.2)=sLen*P.cellsOf e' by omega,←List.append_assoc]
                  rw[List.take_append_of_le_length (Nat.le_refl _),List.take_length]
                 show aH ρ _ (((aT cc.toList (ao+sp.2+sLen*P.cellsOf e'+0) new').drop (ao+sp.2)).take ((c.drop ao).take (sLen*P.cellsOf e')++new).length)
                 rw[ht]
                 refine aH.append ?_ hnrel
                 have:=(hcc.drop ao).take (sLen*P.cellsOf e')
                 rw[List.drop_take,List.take_take,List.drop_drop,Nat.min_eq_left (by omega),Nat.add_comm sp.2 ao] at this
                 exact this
                ·cases hold
               ·show ao+sp.2+(old++new).length+(c' - (sLen+n))*P.cellsOf e'≤(aT cc.toList (ao+sp.2+sLen*P.cellsOf e'+0) new').length
                simp only[List.length_append,aT,List.length_take,List.length_drop,Array.length_toList]
                omega
               ·simp only[aB]
                exact⟨b,_,c',bN,hfit,by simp only;omega,by simp⟩
               simp_all
              ·exact grown _ c' old old' ρ (h.set ai none) hfit horel holen horun' (Iz hi hbase hg hr) (by simp)
             ·cases hv
          ·cases hv
      ·cases hv
   ·cases hv
 ·cases hv
theorem Q4 (hi:Inv P B ρ h w):hQ P B ρ h w ρ h w.drew:=
 {hQ.refl hi with inv:=hi.of_heap rfl}
theorem Cs (hi:Inv P B ρ h w) {b:Builtin} {argTypes:Array TypeId} {ty:TypeId} {consts:Array Bool} {args args':List Value} {v:Value} {h':AH} (ha:aH ρ args args') (hv:cJ P h b argTypes args=some (v,h')):
  ∃ρ' w' v',hQ P B ρ h w ρ' h' w'∧aB ρ' v v'∧(builtin b argTypes ty consts ⟨args'⟩).run P w= .ok (.value v') w':=by
 unfold cJ at hv
 split at hv
 ·
  rename_i x
  simp only[aH] at ha
  obtain⟨x',t,hx,rfl,rfl⟩:=ha
  have key:∀(t:TypeId) (n:Nat),argTypes[0]?=some t→(Builtin.len_ argTypes ty #[x']).run P w= .ok (goInt n) w→∃ρ' w' v',hQ P B ρ h w ρ' h w'∧aB ρ' (.int .i64 n) v'∧(builtin .len argTypes ty consts ⟨[x']⟩).run P w= .ok (.value v') w':=
   fun t n _ hr=>⟨ρ,w,.int .i64 n,hQ.refl hi,by simp only[aB],by
    show(do pure (Next.value (←Builtin.len_ argTypes ty #[x'])):Sem Next).run P w=_
    simp only[Sem.run_bind,hr,Result.andThen_ok];rfl⟩
  cases h0:argTypes[0]? with
  |none=>grind
  |some t=>
   rw[h0] at hv
   simp only[Option.bind_some] at hv
   split at hv
   ·rename_i s hd
    simp only[Option.some.injEq,Prod.mk.injEq] at hv
    obtain⟨rfl,rfl⟩:=hv
    simp only[aB] at hx;subst hx
    exact key t _ h0 (by simp[Builtin.len_,h0,run_underlying hd])
   ·rename_i n e hd
    simp only[Option.some.injEq,Prod.mk.injEq] at hv
    obtain⟨rfl,rfl⟩:=hv
    exact key t _ h0 (by simp[Builtin.len_,h0,run_underlying hd])
   ·rename_i e hd
    split at hv
    ·rename_i n e2 hd2
     simp only[Option.some.injEq,Prod.mk.injEq] at hv
     obtain⟨rfl,rfl⟩:=hv
     exact key t _ h0 (by simp[Builtin.len_,h0,run_underlying hd,run_underlying hd2])
    ·cases hv
   ·rename_i e a n c hd
    simp only[Option.some.injEq,Prod.mk.injEq] at hv
    obtain⟨rfl,rfl⟩:=hv
    cases a with
    |none=>simp only[aB] at hx;subst hx;exact key t _ h0 (by simp[Builtin.len_,h0,run_underlying hd])
    |some a=>
     obtain⟨_,_,sp⟩:=a
     cases sp with
     |none=>simp only[aB] at hx;obtain⟨_,_,_,_,_,_,rfl⟩:=hx;exact key t _ h0 (by simp[Builtin.len_,h0,run_underlying hd])
     |some _=>simp only[aB] at hx;obtain⟨rfl,_,_,_,_,_,rfl⟩:=hx;exact key t _ h0 (by simp[Builtin.len_,h0,run_underlying hd])
   ·rename_i hd
    simp only[Option.map_eq_some_iff] at hv
    obtain⟨es,hes,hv⟩:=hv
    cases hv
    exact key t _ h0 (Ad hi h0 hd hx hes)
   ·cases hv
 ·
  rename_i s x
  simp only[aH] at ha
  obtain⟨s',_,hs,⟨x',_,hx,rfl,rfl⟩,rfl⟩:=ha
  obtain⟨ρ',w',v',h1,h2,h3⟩:=Eg hi (ty:=ty) hs hx hv
  refine⟨ρ',w',v',h1,h2,?_⟩
  show(do pure (Next.value (←Builtin.append_ argTypes ty #[s',x'])):Sem Next).run P w=_
  simp_all
 ·
  rename_i d x
  simp only[aH] at ha
  obtain⟨d',_,hd',⟨x',_,hx,rfl,rfl⟩,rfl⟩:=ha
  split at hv
  ·rename_i e base dLen dCap m hd hm
   split at hv
   ·cases hv
   ·rename_i hinf
    obtain⟨i,hinf⟩:∃i,P.info? e=some i:=by cases hh:P.info? e with|none=>simp[hh] at hinf|some i=>exact⟨i,rfl⟩
    obtain⟨sT,h0,hd⟩:∃sT,argTypes[0]?=some sT∧P.underlying sT=some (.slice e):=by
     grind
    have hlen:=C5 (P:=P) (w:=w) hx hm
    split at hv
    ·rename_i new hnew
     obtain⟨new',hnrun,hnrel⟩:=Fy hi hx hnew
     have key:∀(base':Option Addr) (c':Nat),(Builtin.copy_ argTypes ty #[.slice base' dLen c',x']).run P w=
       match base' with
       |some a=>((storeCells a new').run P w).andThen fun _ w'=> .ok (goInt (Nat.min m dLen)) w'
       |none=> .ok (goInt (Nat.min m dLen)) w:=fun base' c'=>by
      cases base'<;>simp[Builtin.copy_,h0,run_underlying hd,hlen,dJ hinf,hnrun]
     split at hv
     ·simp only[Option.some.injEq,Prod.mk.injEq] at hv
      obtain⟨rfl,rfl⟩:=hv
      simp only[aB] at hd';subst hd'
      refine⟨ρ,w,.int .i64 (Nat.min m dLen:Nat),hQ.refl hi,by simp only[aB],?_⟩
      show(do pure (Next.value (←Builtin.copy_ argTypes ty #[_,x'])):Sem Next).run P w=_
      simp only[Sem.run_bind,key,Result.andThen_ok];rfl
     ·rename_i a
      split at hv
      ·rename_i hz
       simp only[Option.some.injEq,Prod.mk.injEq] at hv
       obtain⟨rfl,rfl⟩:=hv
       have hnil:new'=[]:=by
        rw[hz] at hnew
        have:new.length=0:=by
         unfold eM at hnew
         split at hnew
         ·grind
         ·grind
         ·simp_all
         ·cases hnew
        exact List.eq_nil_of_length_eq_zero (by rw[hnrel.length];exact this)
       subst hnil
       refine⟨ρ,w,.int .i64 0,hQ.refl hi,by simp only[aB],?_⟩
       obtain⟨ai,ao,asp⟩:=a
       cases asp with
       |none=>
        simp only[aB] at hd';obtain⟨_,_,c',_,_,_,rfl⟩:=hd'
        show(do pure (Next.value (←Builtin.copy_ argTypes ty #[_,x'])):Sem Next).run P w=_
        simp only[Sem.run_bind,key,storeCells,Sem.run_pure,Result.andThen_ok,hz];rfl
       |some _=>
        simp only[aB] at hd';obtain⟨rfl,_,_,c',_,_,rfl⟩:=hd'
        show(do pure (Next.value (←Builtin.copy_ argTypes ty #[_,x'])):Sem Next).run P w=_
        simp only[Sem.run_bind,key,storeCells,Sem.run_pure,Result.andThen_ok,hz];rfl
      ·simp only[Option.map_eq_some_iff] at hv
       obtain⟨h2,hst,hv⟩:=hv
       cases hv
       obtain⟨ai,ao,asp⟩:=a
       cases asp with
       |none=>
        simp only[aB] at hd';obtain⟨b,sp,c',hr,_,_,rfl⟩:=hd'
        obtain⟨w',hrun2,hevo,_⟩:=rS hi (a:=⟨ai,ao,none⟩) hr hst hnrel
        refine⟨ρ,w',.int .i64 (Nat.min m dLen:Nat),hevo,by simp only[aB],?_⟩
        show(do pure (Next.value (←Builtin.copy_ argTypes ty #[_,x'])):Sem Next).run P w=_
        simp only[Sem.run_bind,key,hrun2,Result.andThen_ok];rfl
       |some _=>simp[cA] at hst
    ·cases hv
  ·cases hv
 ·
  rename_i x
  simp only[aH] at ha
  obtain⟨x',t,hx,rfl,rfl⟩:=ha
  have key:∀(w':World) (h':AH),hQ P B ρ h w ρ h' w'→(Builtin.clear_ argTypes ty #[x']).run P w= .ok (.tuple #[]) w'→∃ρ' w' v',hQ P B ρ h w ρ' h' w'∧aB ρ' (.tuple #[]) v'∧(builtin .clear argTypes ty consts ⟨[x']⟩).run P w= .ok (.value v') w':=
   fun w' h' he hr=>⟨ρ,w',.tuple #[],he,eI _ (by simp[cG,nG,iK]),by
    show(do pure (Next.value (←Builtin.clear_ argTypes ty #[x'])):Sem Next).run P w=_
    simp_all⟩
  cases h0:argTypes[0]? with
  |none=>grind
  |some t=>
   rw[h0] at hv
   simp only[Option.bind_some] at hv
   split at hv
   ·rename_i d _ _ hd
    simp only[Option.some.injEq,Prod.mk.injEq] at hv
    obtain⟨rfl,rfl⟩:=hv
    simp only[aB] at hx;subst hx
    exact key w _ (hQ.refl hi) (by simp[Builtin.clear_,h0,run_underlying hd])
   ·rename_i e a n c hd
    obtain⟨ai,ao,asp⟩:=a
    split at hv
    ·rename_i hn
     subst hn
     simp only[Option.some.injEq,Prod.mk.injEq] at hv
     obtain⟨rfl,rfl⟩:=hv
     cases asp with
     |none=>
      simp only[aB] at hx;obtain⟨_,_,c',_,_,_,rfl⟩:=hx
      exact key w _ (hQ.refl hi) (by simp[Builtin.clear_,h0,run_underlying hd])
     |some _=>
      simp only[aB] at hx;obtain⟨_,_,_,c',_,_,rfl⟩:=hx
      exact key w _ (hQ.refl hi) (by simp[Builtin.clear_,h0,run_underlying hd])
    ·rename_i hn
     split at hv
     ·rename_i z hz
      simp only[Option.map_eq_some_iff] at hv
      obtain⟨h2,hst,hv⟩:=hv
      cases hv
      obtain⟨i,zv,hinf,hzero,hzr,hzc,hzl,hzz⟩:=lV (w:=w) hz
      cases asp with
      |none=>
       simp only[aB] at hx;obtain⟨b,sp,c',hr,_,_,rfl⟩:=hx
       obtain⟨w',hrun2,hevo,_⟩:=rS hi (a:=⟨ai,ao,none⟩) hr hst (tT (hzz ρ) n)
       refine key w' _ hevo ?_
       have hzc':zv.cells=⟨z⟩:=by rw[←hzc]
       have hzz':=Bv hzc' hzl n
       unfold Builtin.clear_
       simp only[h0,List.getElem?_toArray,List.getElem?_cons_zero,Sem.run_bind,run_underlying hd,Result.andThen_ok]
       simp_all
      |some _=>simp[cA] at hst
     ·cases hv
   ·cases hv
 ·
  rename_i m k
  simp only[aH] at ha
  obtain⟨m',_,hm,⟨k',_,hk,rfl,rfl⟩,rfl⟩:=ha
  split at hv
  ·rename_i t h0
   simp only[Option.map_eq_some_iff] at hv
   obtain⟨h2,hd,hv⟩:=hv
   cases hv
   obtain⟨w',hr,he⟩:=J3 (ty:=ty) hi h0 hm hk hd
   refine⟨ρ,w',.tuple #[],he,eI _ (by simp[cG,nG,iK]),?_⟩
   show(do pure (Next.value (←Builtin.delete_ argTypes ty ⟨[m',k']⟩)):Sem Next).run P w=_
   simp_all
  ·cases hv
 ·
  rename_i k x k' y
  simp only[aH] at ha
  obtain⟨x',_,hx,⟨y',_,hy,rfl,rfl⟩,rfl⟩:=ha
  simp only[aB] at hx hy;subst hx;subst hy
  simp only[Option.some.injEq,Prod.mk.injEq] at hv
  obtain⟨rfl,rfl⟩:=hv
  exact⟨ρ,w,_,hQ.refl hi,by simp only[aB];rfl,by simp[builtin,Builtin.min_,Builtin.min2]⟩
 ·
  rename_i k x k' y
  simp only[aH] at ha
  obtain⟨x',_,hx,⟨y',_,hy,rfl,rfl⟩,rfl⟩:=ha
  simp only[aB] at hx hy;subst hx;subst hy
  simp only[Option.some.injEq,Prod.mk.injEq] at hv
  obtain⟨rfl,rfl⟩:=hv
  exact⟨ρ,w,_,hQ.refl hi,by simp only[aB];rfl,by simp[builtin,Builtin.max_,Builtin.max2]⟩
 ·cases hv
end Go.Ab
end
section
namespace Go.Ab
noncomputable section
inductive oG where
 |fU|ret|exit (id:Nat)
structure Out where
 leave:oG
 ds:List Nat
 env:List Value
 v:Value
inductive Task where
 |todo (fn:FuncId) (ro:Option Nat) (ds:List Nat) (env:List Value) (k:List Item)
 |ops (all:Array Oper) (rest:List Oper) (env:List Value)
 |call (f:FuncId) (args:List Value)
 |round (l:Nat) (args:List Value)
def bB (P:Program) (env:List Value):Operand→Value
 |.tmp t=>env.getD t undef
 |.const v=>if cG v then v else top
 |.global g=>if g<P.globals.size then .pointer (some ⟨g,0,none⟩) else top
 |.func f=> .func (.func f) #[] #[]
def fP (env:List Value) (d:Option Tmp) (v:Value):List Value:=
 match d with
 |some d=>env.set d v
 |none=>env
def cB (all:Array Oper) (env:List Value) (o:Oper):Option Bool:=
 match o.guard with
 |none=>some true
 |some (j,want)=>
  match((all[j]?).bind (·.dst)).bind (env[·]?) with
  |some (.bool b)=>some (b==want)
  |some (.chan _)=>none
  |_=>some false
def dS (P:Program) (g:FuncId):Bool:=
 match P.funcs[g]? with
 |some fn=>fn.body.isSome&& !(fn.name== "runtime.NumGoroutine")
 |none=>false
abbrev kT:=Task→AH→Option (Out×AH)
def eY:Builtin→Bool
 |.len|.min|.max=>true
 |_=>false
def eB (op:Op):Bool:=
 match op with
 |.call c=>(match c.callee with|.builtin b=>eY b|_=>false)
 |op=>kindOf op== .qG
def cH (P:Program) (ev:Operand→Value) (h:AH) (op:Op):Option Value:=
 match op with
 |.call c=>(match c.callee with|.builtin b=>if eY b then(cJ P h b c.argTypes (c.args.toList.map ev)).map (·.1) else none|_=>none)
 |op=>aM P ev h op
def bZ (P:Program) (R:kT) (ev:Operand→Value) (h:AH) (op:Op):Option (Value×AH):=
 match op with
 |.store t a x=>match ev a with
  |.pointer (some a)=>(zV P h t a (ev x)).map fun h'=>(undef,h')
  |_=>none
 |.mapUpdate t m k x=>(sA P h t (ev m) (ev k) (ev x)).map fun h'=>(undef,h')
 |.call c=>
  match c.callee with
  |.builtin b=>cJ P h b c.argTypes (c.args.toList.map ev)
  |.value f=>match ev f with
   |.func (.func g) first captured=>
    if dS P g then(R (.call g (first.toList++c.args.toList.map ev++captured.toList)) h).map fun r=>(r.1.v,r.2) else none
   |.func (.yield l) first _=>(R (.round l (first.toList++c.args.toList.map ev)) h).map fun r=>(r.1.v,r.2)
   |_=>none
  |.invoke _ _=>none
 |_=>none
def gW (P:Program) (R:kT) (env:List Value) (h:AH) (op:Op):Option (Value×AH):=
 match kindOf op with
 |.qG=>(aM P (bB P env) h op).map fun v=>(v,h)
 |.alloc=>(cC P (bB P env) op).map fun r=>(r.2 h.next,h.alloc r.1)
 |.store|.call=>bZ P R (bB P env) h op
 |.other=>none
def cX (o:Oper):List Nat:=(o.after.toList.filter fun e=>Region.binds .any e).map (·.on)
def nM (acc:List Nat):List Nat→Nat
 |[]=>0
 |j::l=>(1<<<j)|||(acc.getD j 0|||nM acc l)
def cR:List Oper→List Nat→List Nat
 |[],acc=>acc
 |o::os,acc=>cR os (acc++[nM acc (cX o)])
def tI (ops:List Oper) (o:Oper):List Nat:=
 (o.op.operands.toList.filterMap fun|.tmp t=>some t|_=>none)++
 (match o.guard with|some (j,_)=>((ops[j]?).bind (·.dst)).toList|none=>[])
def bS (op:Op):Bool:=(kindOf op== .store||kindOf op== .call)&& !eB op
def ahead (ps:List Nat) (i j:Nat):Bool:=(ps.getD j 0).testBit i
def xG (ops:List Oper):Bool:=
 let ps:=cR ops []
 let n:=ops.length
 let is:=List.range n
 (ops.zipIdx.all fun(o,i)=>(cX o).all (·<i))&&
 (ops.all fun o=>match o.op with|.select _ _=>false|.defer _=>false|_=>kindOf o.op != .other)&&
 (ops.zipIdx.all fun(o,i)=>ops.zipIdx.all fun(p,j)=>i==j||(
  (o.dst.isNone||o.dst !=p.dst)&&
  (match p.dst with|some d=> !(tI ops o).contains d||(if j<i then ahead ps j i else ahead ps i j)|none=>true)&&
  (!(bS o.op&&bS p.op&&j<i)||ahead ps j i)))&&is.length==n
def tS (ops:List Oper):List (Nat×Nat):=
 let ps:=cR ops []
 let n:=ops.length
 let nS:=(List.range n).filter fun i=>(ops[i]?).any fun o=>bS o.op
 let phases:=nS++[n]
 (List.range n).flatMap fun i=>
  if(ops[i]?).any (fun o=>eB o.op) then
   let own:=(phases.find? (i<·)).getD n
   (phases.filter fun p=>p !=own&&nS.all fun j=>if j<p then !ahead ps i j else !ahead ps j i).map fun p=>(i,p)
  else []
mutual
def mL:Value→Value→Bool
 |.bool a,.bool b=>a==b
 |.int j a,.int k b=>j==k&&a==b
 |.string a,.string b=>a==b
 |.pointer a,.pointer b=>a==b
 |.slice a l c,.slice b m d=>a==b&&l==m&&c==d
 |.map a,.map b=>a==b
 |.nilFunc,.nilFunc=>true
 |.nilIface,.nilIface=>true
 |.func f a b,.func g c d=>f==g&&Lb a c&&Lb b d
 |.iface t v,.iface u w=>t==u&&mL v w
 |.agg a,.agg b=>Lb a b
 |.tuple a,.tuple b=>Lb a b
 |_,_=>false
def Lb:Array Value→Array Value→Bool
 |⟨a⟩,b=>Gb a b.toList
def Gb:List Value→List Value→Bool
 |[],[]=>true
 |a::l,b::m=>mL a b&&Gb l m
 |_,_=>false
end
def dA (P:Program) (R:kT) (all:List Oper) (r0 i:Nat) (env:List Value) (h:AH) (o:Oper):Option (Value×AH):=
 match cB ⟨all⟩ env o with
 |none=>none
 |some false=>some (undef,h)
 |some true=>
  if eB o.op then(cH P (bB P env) h o.op).map fun v=>(v,h)
  else if kindOf o.op== .alloc then(cC P (bB P env) o.op).map fun r=>(r.2 (r0+i),h.set (r0+i) (some r.1))
  else bZ P R (bB P env) h o.op
structure Rec where
 env:List Value
 h:AH
 v:Value
def eC (P:Program) (R:kT) (all:List Oper) (r0:Nat):Nat→List Oper→List Value→AH→Option (List Rec×List Value×AH)
 |_,[],env,h=>some ([],env,h)
 |i,o::os,env,h=>
  match dA P R all r0 i env h o with
  |some (v,h')=>match eC P R all r0 (i+1) os (fP env o.dst v) h' with
   |some (rs,e)=>some (⟨env,h,v⟩::rs,e)
   |none=>none
  |none=>none
def lL (P:Program) (all:List Oper) (rs:List Rec) (hEnd:AH) (x:Nat×Nat):Bool:=
 match all[x.1]?,rs[x.1]? with
 |some o,some r=>
  match cB ⟨all⟩ r.env o with
  |some true=>(match cH P (bB P r.env) (match rs[x.2]? with|some q=>q.h|none=>hEnd) o.op with|some v=>mL v r.v|none=>false)
  |_=>true
 |_,_=>false
def kJ (P:Program) (R:kT) (ops:Array Oper) (env:List Value) (h:AH):Option (List Value×AH):=
 if xG ops.toList&&(P.follows .mixedOrders|| !Region.departs ops) then
  match eC P R ops.toList h.next 0 ops.toList env {h with next:=h.next+ops.size} with
  |some (rs,env',h')=>if(tS ops.toList).all (lL P ops.toList rs h') then some (env',h') else none
  |none=>none
 else none
def bQ:List Nat→AH→Option AH
 |[],h=>some h
 |d::ds,h=>if h.base≤d then(match h.get d with|some (.marks true)=>bQ ds (h.set d (some (.marks false)))|_=>none) else none
def dE (P:Program) (h:AH) (env:List Value):List ResultVar→Option (List Value)
 |[]=>some []
 |.tmp t::rs=>(dE P h env rs).map fun l=>env.getD t undef::l
 |.cell a t::rs=>match env.getD a undef with
  |.pointer (some a)=>match lW P h t a,dE P h env rs with
   |some v,some l=>some (v::l)
   |_,_=>none
  |_=>none
def oneOf (vs:List Value):Value:=
 match vs with
 |[v]=>v
 |vs=> .tuple ⟨vs⟩
def bP (h:AH) (l:Nat) (st:LoopState) (pending:Option (Option Code)):Option AH:=
 match h.get l with
 |some (.loop _ p fn tmps ps assign body d)=>if h.base≤l then some (h.set l (some (.loop st (pending.getD p) fn tmps ps assign body d))) else none
 |_=>none
def bX (P:Program) (R:kT) (fn:FuncId) (ro:Option Nat) (ds:List Nat) (env:List Value) (k:List Item) (h:AH):Option (Out×AH):=
 match k with
 |[]=>some (⟨.fU,ds,env,undef⟩,h)
 |.code c::k=>
  match c with
  |.skip=>R (.todo fn ro ds env k) h
  |.label _=>R (.todo fn ro ds env k) h
  |.seq a b=>R (.todo fn ro ds env (.code a:: .code b::k)) h
  |.cond c t e=>match bB P env c with
   |.bool b=>R (.todo fn ro ds env (.code (if b then t else e)::k)) h
   |_=>none
  |.block id b=>R (.todo fn ro ds env (.code b:: .inBlock id::k)) h
  |.loop b=>R (.todo fn ro ds env (.code b:: .inLoop b::k)) h
  |.scope b=>R (.todo fn ro ds env (.code b:: .inScope b::k)) h
  |.exit id=>match exitTo id k with
   |some k'=>R (.todo fn ro ds env k') h
   |none=>if ro.isSome then some (⟨.exit id,ds,env,undef⟩,h) else none
  |.ret=>some (⟨.ret,ds,env,undef⟩,h)
  |.region _ ops false=>match R (.ops ops ops.toList env) h with
   |some (o,h')=>R (.todo fn ro ds o.env k) h'
   |none=>none
  |.region _ ops true=>match kJ P R ops env h with
   |some (env',h')=>R (.todo fn ro ds env' k) h'
   |none=>none
  |.rangeFunc f ps assign body=>
   match(match ro with
    |none=>some (h.next,h.alloc (.marks true),h.next::ds)
    |some l=>match h.get l with
     |some (.loop _ _ _ _ _ _ _ d)=>some (d,h,ds)
     |_=>none) with
   |some (d,h1,ds1)=>
    match bB P env f with
    |.func (.func g) first captured=>
     if dS P g then
      match R (.call g (first.toList++[.func (.yield h1.next) #[] #[]]++captured.toList)) (h1.alloc (.loop .ready none fn env ps assign body d)) with
      |some (_,h3)=>
       match h3.get h1.next with
       |some (.loop st p _ _ _ _ _ _)=>
        if st= .busy then none else
        match bP h3 h1.next .exhausted none with
        |some h4=>R (.todo fn ro ds1 env ((p.map Item.code).toList++k)) h4
        |none=>none
       |_=>none
      |none=>none
     else none
    |_=>none
   |none=>none
  |_=>none
 |.inBlock _::k=>R (.todo fn ro ds env k) h
 |.inScope _::k=>R (.todo fn ro ds env k) h
 |.inLoop b::k=>R (.todo fn ro ds env (.code b:: .inLoop b::k)) h
 |.beginRound::k=>
  match ro with
  |some l=>match h.get l with
   |some (.loop .ready _ _ _ _ _ _ _)=>match bP h l .busy none with
    |some h'=>R (.todo fn ro ds env k) h'
    |none=>none
   |_=>none
  |none=>none
 |_=>none
def lH (P:Program) (R:kT) (all:Array Oper) (rest:List Oper) (env:List Value) (h:AH):Option (Out×AH):=
 match rest with
 |[]=>some (⟨.fU,[],env,undef⟩,h)
 |o::rest=>
  match cB all env o with
  |none=>none
  |some false=>R (.ops all rest (fP env o.dst undef)) h
  |some true=>match gW P R env h o.op with
   |some (v,h')=>R (.ops all rest (fP env o.dst v)) h'
   |none=>none
inductive fM where
 |val (v:Value)
 |fwd (g:FuncId) (args:List Value)
 |host (F:AH→Option (Value×AH))
def Bn:Value→Bool
 |.tuple ⟨[.int .i64 _,.bool _]⟩=>true
 |_=>false
def gV (P:Program) (K:FuncId→List Value→Option fM) (R:kT) (f:FuncId) (args:List Value) (h:AH):Option (Out×AH):=
 match K f args with
 |some (.val v)=>some (⟨.fU,[],[],v⟩,h)
 |some (.fwd g bs)=>match R (.call g bs) h with
  |some (o,h1)=>if Bn o.v then some (⟨.fU,[],[],o.v⟩,h1) else none
  |none=>none
 |some (.host F)=>(F h).map fun r=>(⟨.fU,[],[],r.1⟩,r.2)
 |none=>
  match P.funcs[f]? with
  |some fn=>
   match fn.body with
   |some body=>
    match R (.todo f none [] (args++List.replicate (fn.ntmps - args.length) undef) [.code body]) h with
    |some (o,h1)=>
     match o.leave with
     |.exit _=>none
     |_=>match bQ o.ds h1 with
      |some h2=>(dE P h2 o.env fn.results.toList).map fun vs=>(⟨.fU,[],[],oneOf vs⟩,h2)
      |none=>none
    |none=>none
   |none=>none
  |none=>none
def iP (R:kT) (l:Nat) (args:List Value) (h:AH):Option (Out×AH):=
 match h.get l with
 |some (.loop _ _ fn tmps ps assign body _)=>
  if args.length=ps.size then
   match R (.todo fn (some l) [] ((ps.toList.zip args).foldl (fun t (p,v)=>t.set p v) tmps) [.code assign,.beginRound,.code body]) h with
   |some (o,h1)=>
    if o.ds.isEmpty then
     match o.leave with
     |.fU=>(bP h1 l .ready (some none)).map fun h2=>(⟨.fU,[],[],.bool true⟩,h2)
     |.ret=>(bP h1 l .done (some (some .ret))).map fun h2=>(⟨.fU,[],[],.bool false⟩,h2)
     |.exit id=>(bP h1 l .done (some (some (.exit id)))).map fun h2=>(⟨.fU,[],[],.bool false⟩,h2)
    else none
   |none=>none
  else none
 |_=>none
def run (P:Program) (K:FuncId→List Value→Option fM):Nat→kT
 |0,_,_=>none
 |n+1,.todo fn ro ds env k,h=>bX P (fun t h=>run P K n t h) fn ro ds env k h
 |n+1,.ops all rest env,h=>lH P (fun t h=>run P K n t h) all rest env h
 |n+1,.call f args,h=>gV P K (fun t h=>run P K n t h) f args h
 |n+1,.round l args,h=>iP (fun t h=>run P K n t h) l args h
end
end Go.Ab
end
section
namespace Go.Ab
open Go.RowKit
variable {P:Program} {B:Nat} {ρ:fN} {h:AH} {w:World}
theorem rT (hi:Inv P B ρ h w) {env:List Value} {a:Act} (he:aH ρ env a.tmps.toList) (x:Operand):aB ρ (bB P env x) (a.eval x):=by
 cases x with
 |tmp t=>
  have:=he.getD t
  simpa [bB,Act.eval,List.getD_eq_getElem?_getD] using this
 |const v=>
  simp only[bB,Act.eval]
  split
  ·rename_i hp;exact eI v hp
  ·simp only[top,aB]
 |global g=>
  simp only[bB,Act.eval]
  split
  ·rename_i hg;simp only[aB];exact⟨g,(0,0),hi.lM g hg,rfl⟩
  ·simp only[top,aB]
 |func f=>
  simp only[bB,Act.eval,aB,xB]
  exact⟨_,_,_,rfl,by simp only[iC];exact aH.nil,by simp only[iC];exact aH.nil,rfl⟩
theorem H9 {env:List Value} {a:Act} {v v':Value} (d:Option Tmp) (he:aH ρ env a.tmps.toList) (hv:aB ρ v v'):aH ρ (fP env d v) (a.put d v').tmps.toList:=by
 cases d with
 |none=>exact he
 |some d=>simpa [fP,Act.put] using he.set d hv
theorem put_defers {a:Act} {d:Option Tmp} {v:Value}:(a.put d v).defers=a.defers:=by cases d<;>rfl
theorem oL:aB ρ undef undef:=eI undef (by simp[undef,cG,nG,iK])
theorem kC {all:Array Oper} {env:List Value} {a:Act} {o:Oper} {t:Bool} (he:aH ρ env a.tmps.toList) (hw:cB all env o=some t):Region.wanted o (yielded all a.tmps)=t:=by
 unfold cB at hw
 unfold Region.wanted yielded
 split at hw
 ·grind
 ·rename_i j want hg
  rw[hg]
  simp only
  cases hd:(all[j]?).bind (·.dst) with
  |none=>grind
  |some d=>
   rw[hd] at hw
   simp only[Option.bind_some] at hw ⊢
   cases hv:env[d]? with
   |none=>
    have:=he.get_none hv
    grind
   |some v=>
    obtain⟨v',hv',hr⟩:=he.get hv
    have h2:a.tmps[d]?=some v':=by simpa using hv'
    rw[hv] at hw
    rw[h2]
    cases v with
    |bool b=>simp only[aB] at hr;simp_all
    |chan r=>simp at hw
    |agg cs=>simp only[aB] at hr;grind
    |tuple cs=>simp only[aB] at hr;grind
    |iface u x=>simp only[aB] at hr;grind
    |func fn f c=>simp only[aB] at hr;grind
    |pointer p=>cases p with
     |none=>simp only[aB] at hr;grind
     |some p=>simp only[aB] at hr;grind
    |map p=>cases p with
     |none=>simp only[aB] at hr;grind
     |some p=>simp only[aB] at hr;grind
    |slice p _ _=>cases p with
     |none=>simp only[aB] at hr;grind
     |some p=>
      obtain⟨_,_,sp⟩:=p
      cases sp with
      |none=>simp only[aB] at hr;grind
      |some _=>simp only[aB] at hr;grind
    |_=>simp only[aB] at hr;grind
section steps
variable {b:Frame} {a:Act} {k:List Item} {cs:List Frame} {all:Array Oper} {i:Nat} {is:List Nat} {o:Oper}
theorem D1 (ho:all[i]?=some o) (hw:Region.wanted o (yielded all a.tmps)=true) (hd:∀c,o.op≠.defer c) {v:Value} {w w':World} (hr:(execOp a.eval o).run P w= .ok (.value v) w'):
  step P (lone (b.atR a (.inRegion all (i::is)::k)) cs w)= .next (lone (b.atR (a.put o.dst v) (.inRegion all is::k)) cs w'):=by
 refine step_lone_go ?_
 rw[stepGR_op ho hw,Oper.semAt_eq _ _ _ hd]
 simp[stepG.apply,Sem.runT_eq,hr,GStep.bare_after,Frame.finish_atR,ho]
theorem V4 (ho:all[i]?=some o) (hw:Region.wanted o (yielded all a.tmps)=true) (hd:∀c,o.op≠.defer c) {w w':World} (hr:(execOp a.eval o).run P w= .ok .skip w'):
  step P (lone (b.atR a (.inRegion all (i::is)::k)) cs w)= .next (lone (b.atR (a.put o.dst undef) (.inRegion all is::k)) cs w'):=by
 refine step_lone_go ?_
 rw[stepGR_op ho hw,Oper.semAt_eq _ _ _ hd]
 simp[stepG.apply,Sem.runT_eq,hr,GStep.bare_after,Frame.finish_atR,ho]
theorem de (ho:all[i]?=some o) (hw:Region.wanted o (yielded all a.tmps)=true) (hd:∀c,o.op≠.defer c) {f:FuncId} {args:Array Value} {w w':World} (hr:(execOp a.eval o).run P w= .ok (.enter f args) w'):
  step P (lone (b.atR a (.inRegion all (i::is)::k)) cs w)= .next (lone (Frame.enter P f args .normal) (b.atR a (.inRegion all (i::is)::k)::cs) w'):=by
 refine step_lone_go ?_
 rw[stepGR_op ho hw,Oper.semAt_eq _ _ _ hd]
 simp[stepG.apply,Sem.runT_eq,hr,GStep.bare_after,Frame.atR]
theorem Ym (ho:all[i]?=some o) (hw:Region.wanted o (yielded all a.tmps)=true) (hd:∀c,o.op≠.defer c) {l:Nat} {f:FuncId} {tmps:Array Value} {as bd:Code} {w w':World} (hr:(execOp a.eval o).run P w= .ok (.round l f tmps as bd) w'):
  step P (lone (b.atR a (.inRegion all (i::is)::k)) cs w)= .next (lone (Frame.round l f tmps as bd .normal) (b.atR a (.inRegion all (i::is)::k)::cs) w'):=by
 refine step_lone_go ?_
 rw[stepGR_op ho hw,Oper.semAt_eq _ _ _ hd]
 simp[stepG.apply,Sem.runT_eq,hr,GStep.bare_after,Frame.atR]
end steps
def D7 (ρ:fN):Option Nat→Option Nat→Prop
 |none,r=>r=none
 |some l,r=>∃b s,ρ l=some (b,s)∧r=some b
def Cx (ρ:fN):List Nat→List Deferred→Prop
 |[],ds=>ds=[]
 |d::l,ds=>∃b s t,ρ d=some (b,s)∧Cx ρ l t∧ds={target:= .collected b,args:= #[]}::t
theorem D7.mono {ρ ρ':fN} (h:Ext ρ ρ') {r r':Option Nat} (k:D7 ρ r r'):D7 ρ' r r':=by
 cases r with
 |none=>exact k
 |some l=>obtain⟨b,s,h1,h2⟩:=k;exact⟨b,s,h _ _ h1,h2⟩
theorem Cx.mono {ρ ρ':fN} (h:Ext ρ ρ'):∀{l:List Nat} {ds:List Deferred},Cx ρ l ds→Cx ρ' l ds
 |[],_,k=>k
 |_::_,_,⟨b,s,t,h1,h2,h3⟩=>⟨b,s,t,h _ _ h1,Cx.mono h h2,h3⟩
def Ky:oG→List Item→Prop
 |.fU,k=>k=[]
 |.ret,k=>∃k2,k= .code .ret::k2
 |.exit id,k=>∃k2,k= .code (.exit id)::k2∧exitTo id k2=none
def Ml (all:Array Oper):List Nat→List Oper→Prop
 |[],[]=>True
 |i::is,o::os=>all[i]?=some o∧Ml all is os
 |_,_=>False
structure Yy (a b:Nat) (w w':World):Prop where
 yO:∀i,i<w.heap.size→(i<a∨b≤i)→w'.heap[i]?=w.heap[i]?
 size:w.heap.size≤w'.heap.size
 os:w'.os=w.os
 out:w'.output=w.output
 tape:w'.tape=w.tape
structure Qa (a:Nat) (w w':World):Prop where
 yO:∀i,a≤i→i<w.heap.size→w'.heap[i]?=w.heap[i]?
 size:w.heap.size≤w'.heap.size
 os:w'.os=w.os
 out:w'.output=w.output
 tape:w'.tape=w.tape
structure Ctx (P:Program) (B:Nat) (K:FuncId→List Value→Option fM) where
 G:World→Prop
 yO:∀w w',Below B w w'→G w→G w'
 call:∀f args v w,K f args=some (.val v)→G w→iK args=true∧Calls P f ⟨args⟩ w fun e w'=>(∃v',e= .returned v'∧∀ρ,aB ρ v v')∧Below w.heap.size w w'
 fwd:∀f args g bs,K f args=some (.fwd g bs)→∀(ρ:fN) (args':List Value) (w:World),aH ρ args args'→G w→
  ∃(bs':List Value) (w1:World),aH ρ bs bs'∧Below w.heap.size w w1∧∀(v:Value) (S:World→Prop),Bn v=true→
   Calls P g ⟨bs'⟩ w1 (fun e w'=>e= .returned v∧Qa w.heap.size w1 w'∧S w')→
    Calls P f ⟨args'⟩ w (fun e w'=>e= .returned v∧∃w2,S w2∧Yy w.heap.size w1.heap.size w2 w')
 host:∀f args F,K f args=some (.host F)→∀(h:AH) (v:Value) (h':AH),F h=some (v,h')→∀(ρ:fN) (w:World) (args':List Value),Inv P B ρ h w→G w→aH ρ args args'→
  Calls P f ⟨args'⟩ w fun e w'=>∃ρ' v',e= .returned v'∧aB ρ' v v'∧hQ P B ρ h w ρ' h' w'
variable {K:FuncId→List Value→Option fM}
def M8 (C:Ctx P B K) (f:FuncId) (args:List Value) (h:AH) (v:Value) (h':AH):Prop:=
 ∀(ρ:fN) (w:World) (args':List Value),Inv P B ρ h w→C.G w→aH ρ args args'→
  Calls P f ⟨args'⟩ w fun e w'=>∃ρ' v',e= .returned v'∧aB ρ' v v'∧hQ P B ρ h w ρ' h' w'
def I4 (C:Ctx P B K) (l:Nat) (args:List Value) (h:AH) (v:Value) (h':AH):Prop:=
 ∀(ρ:fN) (w:World) (args':List Value) (lb:Nat) (s:Nat×Nat),Inv P B ρ h w→C.G w→aH ρ args args'→ρ l=some (lb,s)→
  ∃f tmps as bd,(Instr.yield lb ⟨args'⟩).run P w= .ok (.round lb f tmps as bd) w∧
   ∀(c:Frame) (cs:List Frame),∃ρ' v' w',aB ρ' v v'∧hQ P B ρ h w ρ' h' w'∧Steps P (lone (Frame.round lb f tmps as bd .normal) (c::cs) w) (lone (c.finish v') cs w')
def zD (C:Ctx P B K) (fn:FuncId) (ro:Option Nat) (ds:List Nat) (env:List Value) (k:List Item) (h:AH) (out:Out) (h':AH):Prop:=
 ∀(ρ:fN) (w:World) (b:Frame) (a:Act) (cs:List Frame),Inv P B ρ h w→C.G w→b.fn=fn→D7 ρ ro b.roundOf→aH ρ env a.tmps.toList→Cx ρ ds a.defers→
  ∃ρ' w' a' k',hQ P B ρ h w ρ' h' w'∧aH ρ' out.env a'.tmps.toList∧Cx ρ' out.ds a'.defers∧Steps P (lone (b.atR a k) cs w) (lone (b.atR a' k') cs w')∧Ky out.leave k'
def Sn (C:Ctx P B K) (all:Array Oper) (rest:List Oper) (env:List Value) (h:AH) (out:Out) (h':AH):Prop:=
 ∀(ρ:fN) (w:World) (b:Frame) (a:Act) (cs:List Frame) (is:List Nat) (k:List Item),Inv P B ρ h w→C.G w→aH ρ env a.tmps.toList→Ml all is rest→
  ∃ρ' w' a',hQ P B ρ h w ρ' h' w'∧aH ρ' out.env a'.tmps.toList∧a'.defers=a.defers∧Steps P (lone (b.atR a (.inRegion all is::k)) cs w) (lone (b.atR a' (.inRegion all []::k)) cs w')
def ji (C:Ctx P B K):Task→AH→Out→AH→Prop
 |.todo fn ro ds env k,h,out,h'=>zD C fn ro ds env k h out h'
 |.ops all rest env,h,out,h'=>Sn C all rest env h out h'
 |.call f args,h,out,h'=>M8 C f args h out.v h'
 |.round l args,h,out,h'=>I4 C l args h out.v h'
def sM (C:Ctx P B K) (R:kT):Prop:=∀t h out h',R t h=some (out,h')→ji C t h out h'
theorem hQ.G (C:Ctx P B K) (hi:Inv P B ρ h w) {ρ':fN} {h':AH} {w':World} (e:hQ P B ρ h w ρ' h' w') (hg:C.G w):C.G w':=C.yO _ _ (e.below hi) hg
def S3 (P:Program) (B:Nat) (ρ:fN) (h:AH) (w:World) (b:Frame) (a:Act) (all:Array Oper) (i:Nat) (is:List Nat) (k:List Item) (cs:List Frame) (o:Oper) (v:Value) (h':AH):Prop:=
 ∃ρ' w' v',hQ P B ρ h w ρ' h' w'∧aB ρ' v v'∧Steps P (lone (b.atR a (.inRegion all (i::is)::k)) cs w) (lone (b.atR (a.put o.dst v') (.inRegion all is::k)) cs w')
theorem vT {g:FuncId} (hc:dS P g=true) (args:Array Value):(callFunc g args).run P w= .ok (.enter g args) w:=by
 unfold dS at hc
 cases hf:P.funcs[g]? with
 |none=>simp[hf] at hc
 |some fn=>
  rw[hf] at hc
  simp only[Bool.and_eq_true,Bool.not_eq_true'] at hc
  have hb:fn.body.isNone=false:=by simp_all
  simp only[callFunc,Sem.run_bind,run_program,Result.andThen_ok,hf,hc.2,Bool.false_eq_true,if_false,hb,Sem.run_pure]
theorem qR (C:Ctx P B K) {R:kT} (hR:sM C R) (hi:Inv P B ρ h w) (hg:C.G w) {ev:Operand→Value} {b:Frame} {a:Act} (hev:∀x,aB ρ (ev x) (a.eval x)) {all:Array Oper} {i:Nat} {is:List Nat}
  (k:List Item) (cs:List Frame) {o:Oper} (ho:all[i]?=some o) (hw:Region.wanted o (yielded all a.tmps)=true) {v:Value} {h':AH} (hv:bZ P R ev h o.op=some (v,h')):
  S3 P B ρ h w b a all i is k cs o v h':=by
 obtain⟨dst,op,ty,pos,after,guard⟩:=o
 simp only at hv
 unfold bZ at hv
 split at hv
 ·
  rename_i t x y
  split at hv
  ·rename_i ad hx
   simp only[Option.map_eq_some_iff] at hv
   obtain⟨h2,hst,hv⟩:=hv
   cases hv
   have h1:=hev x
   rw[hx] at h1
   obtain⟨w',hr,hevo⟩:=H8 hi h1 (hev y) hst
   refine⟨ρ,w',undef,hevo,oL,.one (V4 ho hw (fun c hc=>by cases hc) ?_)⟩
   simp[execOp,hr]
  ·cases hv
 ·
  rename_i t m k x
  simp only[Option.map_eq_some_iff] at hv
  obtain⟨h2,hst,hv⟩:=hv
  cases hv
  obtain⟨w',hr,hevo⟩:=J6 hi (hev m) (hev k) (hev x) hst
  refine⟨ρ,w',undef,hevo,oL,.one (V4 ho hw (fun c hc=>by cases hc) ?_)⟩
  simp[execOp,hr]
 ·rename_i c
  obtain⟨callee,args,argTypes⟩:=c
  simp only at hv
  split at hv
  ·
   rename_i bi
   obtain⟨ρ',w',v',hevo,hrel,hr⟩:=Cs (ty:=ty) (consts:=args.map fun|.const _=>true|_=>false) (args':=args.toList.map a.eval) hi (aH.tO hev _) hv
   refine⟨ρ',w',v',hevo,hrel,.one (D1 ho hw (fun c hc=>by cases hc) ?_)⟩
   have:args.map a.eval=⟨args.toList.map a.eval⟩:=Array.ext' (by simp)
   simp only[execOp,resolve,Sem.run_bind,Sem.run_pure,Result.andThen_ok,invoke]
   grind
  ·rename_i f
   split at hv
   ·
    rename_i g first captured hf
    split at hv
    ·rename_i hcal
     simp only[Option.map_eq_some_iff] at hv
     obtain⟨⟨out,h2⟩,hrun,hv⟩:=hv
     cases hv
     have h1:=hev f
     rw[hf] at h1
     simp only[aB,xB] at h1
     obtain⟨_,fs',cs',rfl,hfs,hcs,hfe⟩:=h1
     have hargs:aH ρ (first.toList++args.toList.map ev++captured.toList) (fs'.toList++args.toList.map a.eval++cs'.toList):=
      ((fH.1 hfs).append (aH.tO hev _)).append (fH.1 hcs)
     have hcall:=hR _ _ _ _ hrun ρ w _ hi hg hargs (b.atR a (.inRegion all (i::is)::k)::cs)
     obtain⟨e,w',fr,⟨ρ',v',rfl,hrel,hevo⟩,hcomes,_,hleave⟩:=hcall
     refine⟨ρ',w',v',hevo,hrel,?_⟩
     have hent:(execOp a.eval {dst:=dst,op:= .call {callee:= .value f,args:=args,argTypes:=argTypes},type:=ty,pos:=pos,after:=after,guard:=guard}).run P w= .ok (.enter g ⟨fs'.toList++args.toList.map a.eval++cs'.toList⟩) w:=by
      simp only[execOp,resolve,Sem.run_bind,hfe,Deferred.ofValue,Sem.run_pure,Result.andThen_ok,invoke,vT hcal]
      simp_all
     refine .head (de ho hw (fun c hc=>by cases hc) hent) (Steps.trans hcomes (.one ?_))
     rw[step_leave_returned hleave,Frame.finish_atR,ho]
     rfl
    ·cases hv
   ·
    rename_i l first captured hf
    simp only[Option.map_eq_some_iff] at hv
    obtain⟨⟨out,h2⟩,hrun,hv⟩:=hv
    cases hv
    have h1:=hev f
    rw[hf] at h1
    simp only[aB,xB] at h1
    obtain⟨_,fs',cs',⟨lb,s,hl,rfl⟩,hfs,hcs,hfe⟩:=h1
    have hargs:aH ρ (first.toList++args.toList.map ev) (fs'.toList++args.toList.map a.eval):=
     (fH.1 hfs).append (aH.tO hev _)
    obtain⟨fn,tmps,as,bd,hy,hround⟩:=hR _ _ _ _ hrun ρ w _ lb s hi hg hargs hl
    obtain⟨ρ',v',w',hrel,hevo,hsteps⟩:=hround (b.atR a (.inRegion all (i::is)::k)) cs
    refine⟨ρ',w',v',hevo,hrel,?_⟩
    have hent:(execOp a.eval {dst:=dst,op:= .call {callee:= .value f,args:=args,argTypes:=argTypes},type:=ty,pos:=pos,after:=after,guard:=guard}).run P w= .ok (.round lb fn tmps as bd) w:=by
     simp only[execOp,resolve,Sem.run_bind,hfe,Deferred.ofValue,Sem.run_pure,Result.andThen_ok,invoke]
     have:fs'++args.map a.eval=⟨fs'.toList++args.toList.map a.eval⟩:=Array.ext' (by simp)
     grind
    have hs:=Steps.head (Ym ho hw (fun c hc=>by cases hc) hent) hsteps
    rw[Frame.finish_atR,ho] at hs
    exact hs
   ·cases hv
  ·cases hv
 ·cases hv
theorem jQ {op:Op} (h:kindOf op≠.other):∀c,op≠.defer c:=by
 intro c hc
 subst hc
 exact h rfl
theorem E6 (C:Ctx P B K) {R:kT} (hR:sM C R) (hi:Inv P B ρ h w) (hg:C.G w) {env:List Value} {b:Frame} {a:Act} (he:aH ρ env a.tmps.toList) {all:Array Oper} {i:Nat} {is:List Nat}
  (k:List Item) (cs:List Frame) {o:Oper} (ho:all[i]?=some o) (hw:Region.wanted o (yielded all a.tmps)=true) {v:Value} {h':AH} (hv:gW P R env h o.op=some (v,h')):
  S3 P B ρ h w b a all i is k cs o v h':=by
 have hev:=rT hi he
 unfold gW at hv
 split at hv
 ·rename_i hk
  simp only[Option.map_eq_some_iff] at hv
  obtain⟨u,hu,hv⟩:=hv
  cases hv
  obtain⟨v',hr,hrel⟩:=xT hi hev o hu
  exact⟨ρ,w,v',hQ.refl hi,hrel,.one (D1 ho hw (jQ (by rw[hk];simp)) hr)⟩
 ·rename_i hk
  simp only[Option.map_eq_some_iff] at hv
  obtain⟨⟨bl,f⟩,hu,hv⟩:=hv
  cases hv
  obtain⟨o',g,hb,hr,hval⟩:=xW (P:=P) (w:=w) hev o hu
  have hb':pA P (sG ρ h.next (w.heap.size,(0,0))) (0,0) bl o':=hb.mono (Ext.sG (hi.fresh _ (Nat.le_refl _)))
  exact⟨_,w.alloc o',g w.heap.size,rU hi hb' rfl rfl rfl rfl,hval _ _ (0,0) rfl bN,.one (D1 ho hw (jQ (by rw[hk];simp)) hr)⟩
 ·exact qR C hR hi hg hev k cs ho hw hv
 ·exact qR C hR hi hg hev k cs ho hw hv
 ·cases hv
theorem O4 (C:Ctx P B K) {R:kT} (hR:sM C R) {all:Array Oper} {rest:List Oper} {env:List Value} {h:AH} {out:Out} {h':AH}
  (hr:lH P R all rest env h=some (out,h')):Sn C all rest env h out h':=by
 intro ρ w b a cs is k hi hg he hat
 unfold lH at hr
 split at hr
 ·cases hr
  cases is with
  |nil=>exact⟨ρ,w,a,hQ.refl hi,he,rfl,Steps.refl _ _⟩
  |cons i is=>exact hat.elim
 ·rename_i o rest
  cases is with
  |nil=>exact hat.elim
  |cons i is=>
   obtain⟨ho,hat⟩:=hat
   split at hr
   ·cases hr
   ·rename_i hw
    have hw':=kC he hw
    obtain⟨ρ',w',a',h1,h2,h3,h4⟩:=hR _ _ _ _ hr ρ w b (a.put o.dst undef) cs is k hi hg (H9 _ he oL) hat
    refine⟨ρ',w',a',h1,h2,h3.trans put_defers,.head ?_ h4⟩
    have:=stepR_op_skip (P:=P) (b:=b) (a:=a) (k:=k) (cs:=cs) (w:=w) (ops:=all) (i:=i) (rest:=is) (by grind)
    grind
   ·rename_i hw
    have hw':=kC he hw
    split at hr
    ·rename_i v h2 hst
     obtain⟨ρ1,w1,v1,e1,r1,s1⟩:=E6 C hR hi hg he k cs ho hw' (b:=b) (is:=is) hst
     obtain⟨ρ',w',a',g1,g2,g3,g4⟩:=hR _ _ _ _ hr ρ1 w1 b (a.put o.dst v1) cs is k e1.inv (e1.G C hi hg) (H9 _ (aH.mono e1.ext _ _ he) r1) hat
     exact⟨ρ',w',a',e1.trans g1,g2,g3.trans put_defers,s1.trans g4⟩
    ·cases hr
end Go.Ab
end
section
namespace Go.Ab
open Go.RowKit
variable {P:Program} {B:Nat} {ρ:fN} {h:AH} {w:World} {K:FuncId→List Value→Option fM}
theorem vN (hi:Inv P B ρ h w) {w':World} (hb:Below w.heap.size w w'):hQ P B ρ h w ρ h w':=
 {hQ.refl hi with
  inv:={
   nJ:=fun i o hg b s hr=>by
    obtain⟨o',h1,h2⟩:=hi.nJ i o hg b s hr
    exact⟨o',(hb.block b (Array.getElem?_eq_some_iff.1 h1).1).trans h1,h2⟩
   inj:=hi.inj,low:=hi.low,old:=hi.old,fresh:=hi.fresh,fD:=hi.fD,lM:=hi.lM,size:=Nat.le_trans hi.size hb.size,bn:=hi.bn}
  frame:=fun b hlt _=>hb.block b hlt
  size:=hb.size
  os:=hb.os
  out:=hb.output
  tape:=hb.tape}
theorem P0 (hi:Inv P B ρ h w) {w1 w2 w':World} (hbel:Below w.heap.size w w1) {ρ':fN} {h':AH} (hev:hQ P B ρ h w1 ρ' h' w2) (hga:Yy w.heap.size w1.heap.size w2 w'):hQ P B ρ h w ρ' h' w':=by
 have hlow:∀j b s,(h.get j).isSome→ρ j=some (b,s)→b<w.heap.size:=fun j b s hs hr=>by
  obtain⟨oj,hoj⟩:=Option.isSome_iff_exists.1 hs
  obtain⟨o',ho',_⟩:=hi.nJ j oj hoj b s hr
  grind
 exact {hev with
  inv:={hev.inv with
   nJ:=fun i o hg b s hr=>by
    obtain⟨o',h1,h2⟩:=hev.inv.nJ i o hg b s hr
    have hb2:=(Array.getElem?_eq_some_iff.1 h1).1
    refine⟨o',?_,h2⟩
    rw[hga.yO b hb2]
    ·exact h1
    ·rcases Nat.lt_or_ge i h.base with hib|hib
     ·left
      have:=hev.inv.old i b s (by rw[hev.base];exact hib) hr
      have:=hi.size
      omega
     ·rcases Nat.lt_or_ge b w1.heap.size with hb|hb
      ·left
       obtain⟨j,s',hj,hjs,hjr⟩:=hev.range i b s hib (by rw[hg];rfl) hr hb
       grind
      ·exact .inr hb
   size:=Nat.le_trans hev.inv.size hga.size}
  frame:=fun b hb hn=>by
   rw[hga.yO b (Nat.lt_of_lt_of_le hb (Nat.le_trans hbel.size hev.size)) (.inl hb),hev.frame b (Nat.lt_of_lt_of_le hb hbel.size) hn,hbel.block b hb]
  range:=fun i b s h1 h2 h3 hb=>hev.range i b s h1 h2 h3 (Nat.lt_of_lt_of_le hb hbel.size)
  size:=Nat.le_trans hbel.size (Nat.le_trans hev.size hga.size)
  os:=by rw[hga.os,hev.os,hbel.os]
  out:=by rw[hga.out,hev.out,hbel.output]
  tape:=by rw[hga.tape,hev.tape,hbel.tape]}
mutual
theorem rZ {ρ:fN}:∀(v v':Value),cG v=true→aB ρ v v'→v'=v
 |.bool _,_,_,k=>by simp only[aB] at k;exact k
 |.int _ _,_,_,k=>by simp only[aB] at k;exact k
 |.float _ _,_,_,k=>by simp only[aB] at k;exact k
 |.complex _ _ _,_,_,k=>by simp only[aB] at k;exact k
 |.string _,_,_,k=>by simp only[aB] at k;exact k
 |.pointer none,_,_,k=>by simp only[aB] at k;exact k
 |.pointer (some _),_,h,_=>by simp[cG] at h
 |.slice none _ _,_,_,k=>by simp only[aB] at k;exact k
 |.slice (some _) _ _,_,h,_=>by simp[cG] at h
 |.map none,_,_,k=>by simp only[aB] at k;exact k
 |.map (some _),_,h,_=>by simp[cG] at h
 |.chan _,_,h,_=>by simp[cG] at h
 |.func _ _ _,_,h,_=>by simp[cG] at h
 |.nilFunc,_,_,k=>by simp only[aB] at k;exact k
 |.iface _ v,_,h,k=>by
  simp only[aB] at k;simp only[cG] at h
  obtain⟨u,hu,rfl⟩:=k
  rw[rZ v u h hu]
 |.nilIface,_,_,k=>by simp only[aB] at k;exact k
 |.agg cs,_,h,k=>by
  simp only[aB] at k;simp only[cG] at h
  obtain⟨u,hu,rfl⟩:=k
  rw[Df cs u h hu]
 |.tuple cs,_,h,k=>by
  simp only[aB] at k;simp only[cG] at h
  obtain⟨u,hu,rfl⟩:=k
  rw[Df cs u h hu]
theorem Df {ρ:fN}:∀(v v':Array Value),nG v=true→iC ρ v v'→v'=v
 |⟨l⟩,a,h,k=>by
  simp only[nG] at h;simp only[iC] at k
  have:=xC l a.toList h k
  grind
theorem xC {ρ:fN}:∀(l l':List Value),iK l=true→aH ρ l l'→l'=l
 |[],_,_,k=>by simp only[aH] at k;exact k
 |v::l,_,h,k=>by
  simp only[aH] at k;simp only[iK,Bool.and_eq_true] at h
  obtain⟨v',t',h1,h2,rfl⟩:=k
  rw[rZ v v' h.1 h1,xC l t' h.2 h2]
end
theorem pS (hi:Inv P B ρ h w) {env:List Value} {tmps:Array Value} (he:aH ρ env tmps.toList):∀(rs:List ResultVar) (vs:List Value),dE P h env rs=some vs→
  ∃vs',(rs.mapM (m:=Sem) fun|.tmp t=>pure (tmps.getD t undef)|.cell a t=>do loadVar t (←asAddr (tmps.getD a undef))).run P w= .ok vs' w∧aH ρ vs vs'
 |[],vs,hv=>by simp only[dE,Option.some.injEq] at hv;subst hv;exact⟨[],by simp,aH.nil⟩
 |.tmp t::rs,vs,hv=>by
  simp only[dE,Option.map_eq_some_iff] at hv
  obtain⟨l,hl,rfl⟩:=hv
  obtain⟨vs',hr,hrel⟩:=pS hi he rs l hl
  refine⟨tmps.getD t undef::vs',?_,aH.cons ?_ hrel⟩
  ·simp_all
  ·have:=he.getD t;simp_all
 |.cell a t::rs,vs,hv=>by
  simp only[dE] at hv
  split at hv
  ·rename_i ad ha
   split at hv
   ·rename_i v l h1 h2
    cases hv
    obtain⟨vs',hr,hrel⟩:=pS hi he rs l h2
    have hp:aB ρ (env.getD a undef) (tmps.getD a undef):=by have:=he.getD a;simp_all
    rw[ha] at hp
    obtain⟨v',hv',hvr⟩:=zR hi hp h1
    refine⟨v'::vs',?_,aH.cons hvr hrel⟩
    simp only[aB] at hp
    obtain⟨b,s,_,hpe⟩:=hp
    have hl:(do loadVar t (←asAddr (tmps.getD a undef)):Sem Value).run P w= .ok v' w:=by
     rw[hpe] at hv' ⊢
     simp only[Instr.loadAt,Instr.sureAddr,Sem.run_bind,Sem.run_pure,Result.andThen_ok] at hv'
     simp only[asAddr,Sem.run_bind,Sem.run_pure,Result.andThen_ok,hv']
    simp only[List.mapM_cons]
    rw[Sem.run_bind,hl]
    simp_all
   ·cases hv
  ·cases hv
theorem I2 (hi:Inv P B ρ h w) {env:List Value} {tmps:Array Value} (he:aH ρ env tmps.toList) {fn:Func} {vs:List Value} (hv:dE P h env fn.results.toList=some vs):
  ∃v',(results fn tmps).run P w= .ok v' w∧aB ρ (oneOf vs) v':=by
 obtain⟨vs',hr,hrel⟩:=pS hi he _ _ hv
 have hm:(fn.results.mapM (m:=Sem) fun|.tmp t=>pure (tmps.getD t undef)|.cell a t=>do loadVar t (←asAddr (tmps.getD a undef))).run P w= .ok ⟨vs'⟩ w:=by
  rw[Array.mapM_eq_mapM_toList]
  simp_all
 refine⟨oneOf vs',?_,?_⟩
 ·unfold results
  rw[Sem.run_bind]
  generalize hX:Sem.run P (Array.mapM _ fn.results) w=X
  have hX':X= .ok ⟨vs'⟩ w:=hX.symm.trans hm
  rw[hX']
  simp only[Result.andThen_ok,Sem.run_pure,Result.ok.injEq,and_true]
  match vs' with
  |[]=>rfl
  |[v]=>rfl
  |v::u::l=>simp[oneOf]
 ·match vs,vs',hrel with
  |[],[],_=>simp only[oneOf,aB];exact⟨_,by simp only[iC];exact aH.nil,rfl⟩
  |[v],[v'],hh=>exact(aH.Gq.1 hh).1
  |v::u::l,v'::u'::l',hh=>simp only[oneOf,aB];exact⟨_,by simp only[iC];exact hh,rfl⟩
  |[],_::_,hh=>simp[aH] at hh
  |[_],[],hh=>have:=hh.length;simp at this
  |[_],_::_::_,hh=>have:=hh.length;simp at this
  |_::_::_,[],hh=>have:=hh.length;simp at this
  |_::_::_,[_],hh=>have:=hh.length;simp at this
theorem Bt {fr:Frame} {cs:List Frame} {r:Nat} {args:Array Value} {ds:List Deferred} {w':World} (hm:fr.mode= .returning) (hd:fr.defers={target:= .collected r,args:=args}::ds)
  (hr:(Instr.takeDeferred r).run P w= .ok [] w'):step P (lone fr cs w)= .next (lone {fr with defers:=ds} cs w'):=
 step_lone_go (by simp[stepG,unwind,hm,hd,Sem.runT_eq,hr,GStep.bare_after])
theorem xR:∀(ds:List Nat) (h h2:AH) (w:World) (fr:Frame) (cs:List Frame),bQ ds h=some h2→Inv P B ρ h w→Cx ρ ds fr.defers→fr.mode= .returning→
  ∃w',hQ P B ρ h w ρ h2 w'∧Steps P (lone fr cs w) (lone {fr with defers:=[]} cs w')
 |[],h,h2,w,fr,cs,hc,hi,hd,_=>by
  simp only[bQ,Option.some.injEq] at hc;subst hc
  simp only[Cx] at hd
  refine⟨w,hQ.refl hi,?_⟩
  rw[←hd]
  exact Steps.refl _ _
 |d::ds,h,h2,w,fr,cs,hc,hi,hd,hm=>by
  simp only[bQ] at hc
  split at hc
  ·rename_i hbase
   split at hc
   ·rename_i hg
    obtain⟨b,s,t,hr,ht,hdt⟩:=hd
    obtain⟨o',ho,hb⟩:=hi.nJ _ _ hg b s hr
    simp only[pA,if_true] at hb
    subst hb
    have hnc:∀c e f,Obj.deferred (some [])≠.cells c e f:=fun _ _ _ hh=>by cases hh
    have hrun:(Instr.takeDeferred b).run P w= .ok [] {w with heap:=w.heap.setIfInBounds b (.deferred none)}:=by
     simp only[Instr.takeDeferred,Sem.run_bind,tH ho hnc,Result.andThen_ok,mK ho hnc,Sem.run_pure]
    have hevo:=pZ hi hbase hg hr (o:= .marks false) (o':= .deferred none) (w':={w with heap:=w.heap.setIfInBounds b (.deferred none)}) (by simp[pA]) rfl rfl rfl rfl
    obtain⟨w',he2,hs2⟩:=xR ds _ h2 _ {fr with defers:=t} cs hc hevo.inv ht hm
    exact⟨w',hevo.trans he2,.head (Bt hm hdt hrun) hs2⟩
   ·cases hc
  ·cases hc
theorem J8 (C:Ctx P B K) {R:kT} (hR:sM C R) {f:FuncId} {args:List Value} {h:AH} {out:Out} {h':AH}
  (hr:gV P K R f args h=some (out,h')):M8 C f args h out.v h':=by
 intro ρ w args' hi hg ha
 unfold gV at hr
 split at hr
 ·rename_i v hk
  cases hr
  obtain⟨h1,h3⟩:=C.call f args v w hk hg
  rw[xC _ _ h1 ha]
  exact h3.mono fun e w' ⟨⟨v',he,hv⟩,hb⟩=>⟨ρ,v',he,hv ρ,vN hi hb⟩
 ·
  rename_i g bs hk
  split at hr
  ·rename_i o h1 hrun
   split at hr
   ·rename_i hok
    cases hr
    obtain⟨bs',w1,hbs,hbel,hfw⟩:=C.fwd f args g bs hk ρ args' w ha hg
    have e1:=vN hi hbel
    have hc:=hR _ _ _ _ hrun ρ w1 bs' e1.inv (e1.G C hi hg) hbs
    have:=hfw o.v (fun w2=>∃ρ',hQ P B ρ h w1 ρ' h' w2) hok (hc.mono fun e w' ⟨ρ',v',he,hv,hev⟩=>by
     have hp:cG o.v=true:=by
      unfold Bn at hok
      split at hok
      ·rename_i a b hab
       rw[hab]
       rfl
      ·cases hok
     refine⟨by rw[he,rZ _ _ hp hv],⟨fun i h1 h2=>hev.frame i h2 fun j s hj hs hr=>?_,hev.size,hev.os,hev.out,hev.tape⟩,ρ',hev⟩
     obtain⟨oj,hoj⟩:=Option.isSome_iff_exists.1 hs
     obtain⟨o',ho',_⟩:=hi.nJ j oj hoj i s hr
     have:=(Array.getElem?_eq_some_iff.1 ho').1
     omega)
    refine this.mono fun e w' ⟨he,w2,⟨ρ',hev⟩,hga⟩=>⟨ρ',o.v,he,?_,P0 hi hbel hev hga⟩
    have hp:cG o.v=true:=by
     unfold Bn at hok
     split at hok
     ·rename_i a b hab
      rw[hab]
      rfl
     ·cases hok
    exact eI _ hp
   ·cases hr
  ·cases hr
 ·rename_i F hk
  simp only[Option.map_eq_some_iff] at hr
  obtain⟨⟨v,h2⟩,hF,hr⟩:=hr
  cases hr
  exact C.host f args F hk h v _ hF ρ w args' hi hg ha
 ·split at hr
  ·rename_i fn hf
   split at hr
   ·rename_i body hb
    split at hr
    ·rename_i o h1 hrun
     have hsim:=hR _ _ _ _ hrun
     intro cs
     have hlen:=ha.length
     have hte:Frame.enter P f ⟨args'⟩ .normal=({(default:Frame) with fn:=f,kind:= .normal}:Frame).atR {tmps:=⟨args'++List.replicate (fn.ntmps - args.length) undef⟩,defers:=[]} [.code body]:=by
      simp only[Frame.enter,Frame.atR,hf,Option.map_some,Option.getD_some,Option.bind_some,hb]
      congr 1
      ·apply Array.ext'
       simp[hlen]
     obtain⟨ρ1,w1,a1,k1,e1,r1,d1,s1,l1⟩:=hsim ρ w {(default:Frame) with fn:=f,kind:= .normal} {tmps:=⟨args'++List.replicate (fn.ntmps - args.length) undef⟩,defers:=[]} cs hi hg rfl rfl
      (ha.append (aH.replicate _ oL)) rfl
     rw[←hte] at s1
     have hleave:(∀id,o.leave≠.exit id)∧∃h2,bQ o.ds h1=some h2∧∃vs,dE P h2 o.env fn.results.toList=some vs∧out=⟨.fU,[],[],oneOf vs⟩∧h'=h2:=by
      split at hr
      ·cases hr
      ·rename_i hne
       split at hr
       ·rename_i h2 hcm
        simp only[Option.map_eq_some_iff] at hr
        grind
       ·cases hr
     obtain⟨hne,h2,hcm,vs,hvs,hout,hh2⟩:=hleave
     subst hout;subst hh2
     have hret:Steps P (lone (({(default:Frame) with fn:=f,kind:= .normal}:Frame).atR a1 k1) cs w1) (lone {({(default:Frame) with fn:=f,kind:= .normal}:Frame).atR a1 k1 with mode:= .returning} cs w1):=by
      cases hl:o.leave with
      |fU=>rw[hl] at l1;simp only[Ky] at l1;subst l1;exact .one (stepR_end rfl)
      |ret=>rw[hl] at l1;obtain⟨k2,rfl⟩:=l1;exact .one (stepR_ret rfl)
      |exit id=>grind
     obtain⟨w2,e2,s2⟩:=xR o.ds h1 h' w1 {({(default:Frame) with fn:=f,kind:= .normal}:Frame).atR a1 k1 with mode:= .returning} cs hcm e1.inv d1 rfl
     obtain⟨v',hres,hrel⟩:=I2 e2.inv (aH.mono e2.ext _ _ r1) hvs
     exact⟨.returned v',w2,_,⟨ρ1,v',rfl,hrel,e1.trans e2⟩,(s1.trans hret).trans s2,rfl,rfl,rfl,rfl,fn,hf,hres⟩
    ·cases hr
   ·cases hr
  ·cases hr
end Go.Ab
end
section
namespace Go.Ab
open Go.RowKit
variable {P:Program} {B:Nat} {ρ:fN} {h:AH} {w:World} {K:FuncId→List Value→Option fM}
theorem Gc (hi:Inv P B ρ h w) {l lb:Nat} {s:Nat×Nat} {st:LoopState} {p:Option Code} {fn:FuncId} {tmps:List Value} {ps:Array Tmp} {as bd:Code} {d:Nat} (hg:h.get l=some (.loop st p fn tmps ps as bd d)) (hr:ρ l=some (lb,s)):
  ∃tmps' d' s',aH ρ tmps tmps'∧ρ d=some (d',s')∧w.heap[lb]?=some (.loop {state:=st,pending:=p,fn:=fn,tmps:=⟨tmps'⟩,params:=ps,assign:=as,body:=bd,defers:=d'}):=by
 obtain⟨o',ho,tmps',d',s',h1,h2,h3⟩:=hi.nJ _ _ hg lb s hr
 grind
theorem nH (hi:Inv P B ρ h w) {l lb:Nat} {s:Nat×Nat} {st:LoopState} {pd:Option (Option Code)} {h':AH} (hs:bP h l st pd=some h') (hr:ρ l=some (lb,s)):
  ∃r:Loop,w.heap[lb]?=some (.loop r)∧(∃st0 p0 fn tmps ps as bd d,h.get l=some (.loop st0 p0 fn tmps ps as bd d)∧r.state=st0∧r.pending=p0)∧
   hQ P B ρ h w ρ h' {w with heap:=w.heap.setIfInBounds lb (.loop {r with state:=st,pending:=pd.getD r.pending})}:=by
 unfold bP at hs
 split at hs
 ·rename_i st0 p fn tmps ps as bd d hg
  split at hs
  ·rename_i hb
   cases hs
   obtain⟨tmps',d',s',h1,h2,h3⟩:=Gc hi hg hr
   exact⟨_,h3,⟨_,_,_,_,_,_,_,_,hg,rfl,rfl⟩,pZ hi hb hg hr (o:= .loop st (pd.getD p) fn tmps ps as bd d) ⟨tmps',d',s',h1,h2,rfl⟩ rfl rfl rfl rfl⟩
  ·cases hs
 ·cases hs
theorem jM {r:Loop}:∀c e f,Obj.loop r≠.cells c e f:=fun _ _ _ hh=>by cases hh
theorem kP {lb:Nat} {r:Loop} (h:w.heap[lb]?=some (.loop r)):(Instr.getLoop lb).run P w= .ok r w:=by
 simp only[Instr.getLoop,Sem.run_bind,tH h jM,Result.andThen_ok,Sem.run_pure]
theorem G6:∀(l:List (Tmp×Value)) (l':List (Tmp×Value)) (t:List Value) (t':Array Value),l.map (·.1)=l'.map (·.1)→aH ρ (l.map (·.2)) (l'.map (·.2))→aH ρ t t'.toList→
  aH ρ (l.foldl (fun t (p,v)=>t.set p v) t) (l'.foldl (fun t (p,v)=>t.setIfInBounds p v) t').toList
 |[],[],t,t',_,_,h=>h
 |(p,v)::l,(p',v')::l',t,t',h1,h2,h=>by
  simp only[List.map_cons,List.cons.injEq] at h1
  obtain⟨rfl,h1⟩:=h1
  simp only[List.map_cons] at h2
  have h3:=aH.Gq.1 h2
  simp only[List.foldl_cons]
  exact G6 l l' _ _ h1 h3.2 (by simpa using h.set p h3.1)
 |[],_::_,_,_,h1,_,_=>by simp at h1
 |_::_,[],_,_,h1,_,_=>by simp at h1
theorem Ih (C:Ctx P B K) {R:kT} (hR:sM C R) {l:Nat} {args:List Value} {h:AH} {out:Out} {h':AH}
  (hr:iP R l args h=some (out,h')):I4 C l args h out.v h':=by
 intro ρ w args' lb s hi hg ha hl
 unfold iP at hr
 split at hr
 ·rename_i st p fn tmps ps assign body d hget
  split at hr
  ·rename_i hlen
   obtain⟨tmps',d',s',ht,hd,hw⟩:=Gc hi hget hl
   have hal:=ha.length
   refine⟨fn,(ps.toList.zip args').foldl (fun t (p,v)=>t.setIfInBounds p v) ⟨tmps'⟩,assign,body,?_,?_⟩
   ·have hz:(ps.zip ⟨args'⟩).foldl (fun(t:Array Value) (x:Tmp×Value)=>t.setIfInBounds x.1 x.2) ⟨tmps'⟩=(ps.toList.zip args').foldl (fun t (p,v)=>t.setIfInBounds p v) ⟨tmps'⟩:=by
     rw[←Array.foldl_toList,Array.toList_zip]
    have hsz:¬(⟨args'⟩:Array Value).size≠ps.size:=by simp;omega
    simp only[Instr.yield,Sem.run_bind,kP hw,Result.andThen_ok]
    simp_all
   ·intro c cs
    split at hr
    ·rename_i o h1 hrun
     have hsim:=hR _ _ _ _ hrun
     split at hr
     ·have hzl:∀(xs:List Value),xs.length=ps.toList.length→(ps.toList.zip xs).map (·.1)=ps.toList∧(ps.toList.zip xs).map (·.2)=xs:=fun xs hx=>⟨List.map_fst_zip (by omega),List.map_snd_zip (by omega)⟩
      have hz1:=hzl args (by simpa using hlen)
      have hz2:=hzl args' (by simp;omega)
      obtain⟨ρ1,w1,a1,k1,e1,r1,d1,s1,l1⟩:=hsim ρ w {(default:Frame) with fn:=fn,kind:= .normal,roundOf:=some lb} {tmps:=(ps.toList.zip args').foldl (fun t (p,v)=>t.setIfInBounds p v) ⟨tmps'⟩,defers:=[]} (c::cs) hi hg rfl ⟨lb,s,hl,rfl⟩
       (G6 _ _ _ _ (by rw[hz1.1,hz2.1]) (by grind) ht) rfl
      have hl1:=e1.ext _ _ hl
      have fin:∀(jump:Option Code) (h2:AH),bP h1 l (if jump.isNone then .ready else .done) (some jump)=some h2→∃w2,(Instr.endRound lb jump).run P w1= .ok (.bool jump.isNone) w2∧hQ P B ρ1 h1 w1 ρ1 h2 w2:=by
       intro jump h2 hsl
       obtain⟨r,hw1,_,hev⟩:=nH e1.inv hsl hl1
       refine⟨_,?_,hev⟩
       simp only[Instr.endRound,Sem.run_bind,kP hw1,Result.andThen_ok,mK hw1 jM,Sem.run_pure,Option.getD_some]
      cases hlv:o.leave with
      |fU=>
       rw[hlv] at hr l1
       simp only[Ky] at l1;subst l1
       simp only[Option.map_eq_some_iff] at hr
       obtain⟨h2,hsl,hr⟩:=hr
       cases hr
       obtain⟨w2,hend,hev⟩:=fin none _ hsl
       exact⟨ρ1,.bool true,w2,by simp only[aB],e1.trans hev,s1.trans (.one (stepR_round_end rfl rfl hend))⟩
      |ret=>
       rw[hlv] at hr l1
       obtain⟨k2,rfl⟩:=l1
       simp only[Option.map_eq_some_iff] at hr
       obtain⟨h2,hsl,hr⟩:=hr
       cases hr
       obtain⟨w2,hend,hev⟩:=fin (some .ret) _ hsl
       exact⟨ρ1,.bool false,w2,by simp only[aB],e1.trans hev,s1.trans (.one (stepR_round_ret rfl rfl hend))⟩
      |exit id=>
       rw[hlv] at hr l1
       obtain⟨k2,rfl,hx⟩:=l1
       simp only[Option.map_eq_some_iff] at hr
       obtain⟨h2,hsl,hr⟩:=hr
       cases hr
       obtain⟨w2,hend,hev⟩:=fin (some (.exit id)) _ hsl
       exact⟨ρ1,.bool false,w2,by simp only[aB],e1.trans hev,s1.trans (.one (stepR_round_exit rfl rfl hx hend))⟩
     ·cases hr
    ·cases hr
  ·cases hr
 ·cases hr
def Sj (C:Ctx P B K) (R:kT):Prop:=∀(ops:Array Oper) (env:List Value) (h:AH) (env':List Value) (h':AH),kJ P R ops env h=some (env',h')→
 ∀(ρ:fN) (w:World) (b:Frame) (a:Act) (cs:List Frame) (k:List Item) (t:Nat),Inv P B ρ h w→C.G w→aH ρ env a.tmps.toList→
  ∃ρ' w' a',hQ P B ρ h w ρ' h' w'∧aH ρ' env' a'.tmps.toList∧a'.defers=a.defers∧
   Steps P (lone (b.atR a (.inRegion ops (Region.schedule (P.follows .mixedOrders) ops t)::k)) cs w) (lone (b.atR a' (.inRegion ops []::k)) cs w')
theorem xY (all:Array Oper):∀(rest:List Oper) (i:Nat),(∀j,all[i+j]?=rest[j]?)→Ml all (List.range' i rest.length) rest
 |[],i,_=>trivial
 |o::rest,i,hall=>by
  refine⟨by simpa using hall 0,xY all rest (i+1) fun j=>?_⟩
  have:=hall (j+1)
  grind
end Go.Ab
end
section
namespace Go.Ab
open Go.RowKit
variable {P:Program} {B:Nat} {K:FuncId→List Value→Option fM}
theorem fY (C:Ctx P B K) {fn:FuncId} {ro:Option Nat} {ds:List Nat} {env:List Value} {k k1:List Item} {h:AH} {out:Out} {h':AH}
  (hs:∀(b:Frame) (a:Act) (cs:List Frame) (w:World) (ρ:fN),Inv P B ρ h w→aH ρ env a.tmps.toList→b.fn=fn→D7 ρ ro b.roundOf→step P (lone (b.atR a k) cs w)= .next (lone (b.atR a k1) cs w))
  (hsim:zD C fn ro ds env k1 h out h'):zD C fn ro ds env k h out h':=by
 intro ρ w b a cs hi hg hb hro he hd
 obtain⟨ρ',w',a',k',h1,h2,h3,h4,h5⟩:=hsim ρ w b a cs hi hg hb hro he hd
 exact⟨ρ',w',a',k',h1,h2,h3,.head (hs b a cs w ρ hi he hb hro) h4,h5⟩
set_option maxHeartbeats 1000000 in
theorem Ya (C:Ctx P B K) (hdraw:∀R,sM C R→Sj C R):∀n,sM C (run P K n):=by
 intro n
 induction n with
 |zero=>intro t h out h' hr;simp[run] at hr
 |succ n ih=>
  intro t h out h' hr
  cases t with
  |call f args=>exact J8 C ih hr
  |round l args=>exact Ih C ih hr
  |ops all rest env=>exact O4 C ih hr
  |todo fn ro ds env k=>
   replace hr:bX P (run P K n) fn ro ds env k h=some (out,h'):=hr
   show zD C fn ro ds env k h out h'
   unfold bX at hr
   split at hr
   ·
    cases hr
    exact fun ρ w b a cs hi _ _ _ he hd=>⟨ρ,w,a,[],hQ.refl hi,he,hd,Steps.refl _ _,rfl⟩
   ·rename_i c k
    split at hr
    ·exact fY C (fun b a cs w ρ _ _ _ _=>stepR_skip) (ih _ _ _ _ hr)
    ·exact fY C (fun b a cs w ρ _ _ _ _=>stepR_label) (ih _ _ _ _ hr)
    ·exact fY C (fun b a cs w ρ _ _ _ _=>stepR_seq) (ih _ _ _ _ hr)
    ·rename_i c t e
     split at hr
     ·rename_i bb hc
      refine fY C (fun b a cs w ρ hi he _ _=>?_) (ih _ _ _ _ hr)
      have:=rT hi he c
      rw[hc] at this
      simp only[aB] at this
      exact stepR_cond this
     ·cases hr
    ·exact fY C (fun b a cs w ρ _ _ _ _=>stepR_block) (ih _ _ _ _ hr)
    ·exact fY C (fun b a cs w ρ _ _ _ _=>stepR_loop) (ih _ _ _ _ hr)
    ·exact fY C (fun b a cs w ρ _ _ _ _=>step_lone_go (by simp[stepG,stepG.exec,Frame.atR])) (ih _ _ _ _ hr)
    ·rename_i id
     split at hr
     ·rename_i k' hx
      exact fY C (fun b a cs w ρ _ _ _ _=>stepR_exit hx) (ih _ _ _ _ hr)
     ·rename_i hx
      split at hr
      ·cases hr
       exact fun ρ w b a cs hi _ _ _ he hd=>⟨ρ,w,a,.code (.exit id)::k,hQ.refl hi,he,hd,Steps.refl _ _,⟨k,rfl,hx⟩⟩
      ·cases hr
    ·cases hr
     exact fun ρ w b a cs hi _ _ _ he hd=>⟨ρ,w,a,.code .ret::k,hQ.refl hi,he,hd,Steps.refl _ _,⟨k,rfl⟩⟩
    ·
     rename_i id ops
     split at hr
     ·rename_i o h1 hops
      intro ρ w b a cs hi hg hb hro he hd
      have hat:Ml ops (List.range ops.size) ops.toList:=by
       have:=xY ops ops.toList 0 (fun j=>by simp)
       rw[List.range_eq_range']
       simpa using this
      obtain⟨ρ1,w1,a1,e1,r1,d1,s1⟩:=ih _ _ _ _ hops ρ w b a cs (List.range ops.size) k hi hg he hat
      obtain⟨ρ',w',a',k',h1,h2,h3,h4,h5⟩:=ih _ _ _ _ hr ρ1 w1 b a1 cs e1.inv (e1.G C hi hg) hb (hro.mono e1.ext) r1 (by rw[d1];exact hd.mono e1.ext)
      exact⟨ρ',w',a',k',e1.trans h1,h2,h3,.head stepR_region (s1.trans (.head stepR_region_end h4)),h5⟩
     ·cases hr
    ·
     rename_i id ops
     split at hr
     ·rename_i env' h1 hdr
      intro ρ w b a cs hi hg hb hro he hd
      have ed:=Q4 hi
      obtain⟨ρ1,w1,a1,e1,r1,d1,s1⟩:=hdraw _ ih ops env h env' h1 hdr ρ {w with drawn:=w.drawn+1} b a cs k (w.tape w.drawn (.order b.fn id)) ed.inv (ed.G C hi hg) he
      have e2:=ed.trans e1
      obtain⟨ρ',w',a',k',h1,h2,h3,h4,h5⟩:=ih _ _ _ _ hr ρ1 w1 b a1 cs e2.inv (e2.G C hi hg) hb (hro.mono e2.ext) r1 (by rw[d1];exact hd.mono e2.ext)
      exact⟨ρ',w',a',k',e2.trans h1,h2,h3,.head stepR_region_draw (s1.trans (.head stepR_region_end h4)),h5⟩
     ·cases hr
    ·
     rename_i f ps assign body
     split at hr
     ·rename_i d h1 ds1 hdd
      split at hr
      ·rename_i g first captured hf
       split at hr
       ·rename_i hcal
        split at hr
        ·rename_i ox h3 hcall
         split at hr
         ·rename_i st p _ _ _ _ _ _ hgl
          split at hr
          ·cases hr
          ·rename_i hbusy
           split at hr
           ·rename_i h4 hsl
            intro ρ w b a cs hi hg hb hro he hd
            obtain⟨ρ1,w1,mark,d',s',e1,hd1,hdr1,henter⟩:∃ρ1 w1 mark d' s',hQ P B ρ h w ρ1 h1 w1∧ρ1 d=some (d',s')∧Cx ρ1 ds1 (mark++a.defers)∧
              (Instr.enterLoop b.fn a.tmps ps assign body b.roundOf).run P w= .ok (w1.heap.size,mark) (w1.alloc (.loop {state:= .ready,pending:=none,fn:=b.fn,tmps:=a.tmps,params:=ps,assign:=assign,body:=body,defers:=d'})):=by
             cases ro with
             |none=>
              simp only[D7] at hro
              simp only[Option.some.injEq,Prod.mk.injEq] at hdd
              obtain⟨rfl,rfl,rfl⟩:=hdd
              have ea:=rU hi (o:= .marks true) (o':= .deferred (some [])) (s:=(0,0)) (w':=w.alloc (.deferred (some []))) (by simp[pA]) rfl rfl rfl rfl
              refine⟨_,_,[{target:= .collected w.heap.size,args:= #[]}],w.heap.size,(0,0),ea,bN,⟨_,_,_,bN,hd.mono ea.ext,rfl⟩,?_⟩
              rw[hro]
              simp[Instr.enterLoop]
             |some l=>
              obtain⟨lb,s,hl,hro'⟩:=hro
              simp only at hdd
              split at hdd
              ·rename_i st0 p0 fn0 tm0 ps0 as0 bd0 d0 hg0
               simp only[Option.some.injEq,Prod.mk.injEq] at hdd
               obtain⟨rfl,rfl,rfl⟩:=hdd
               obtain⟨tmps',d',s',_,hdd',hw⟩:=Gc hi hg0 hl
               refine⟨ρ,w,[],d',s',hQ.refl hi,hdd',hd,?_⟩
               rw[hro']
               simp[Instr.enterLoop,kP hw]
              ·cases hdd
            have he1:=aH.mono e1.ext _ _ he
            have e2:=rU e1.inv (o:= .loop .ready none fn env ps assign body d) (s:=(0,0))
             (o':= .loop {state:= .ready,pending:=none,fn:=b.fn,tmps:=a.tmps,params:=ps,assign:=assign,body:=body,defers:=d'})
             (w':=w1.alloc (.loop {state:= .ready,pending:=none,fn:=b.fn,tmps:=a.tmps,params:=ps,assign:=assign,body:=body,defers:=d'}))
             (by
              have hext:=Ext.sG (x:=(w1.heap.size,(0,0))) (e1.inv.fresh h1.next (Nat.le_refl _))
              exact⟨a.tmps.toList,d',s',aH.mono hext _ _ he1,hext _ _ hd1,by rw[hb]⟩) rfl rfl rfl rfl
            have e12:=e1.trans e2
            have hfv:=rT e12.inv (a:=a) (aH.mono e2.ext _ _ he1) f
            rw[hf] at hfv
            simp only[aB,xB] at hfv
            obtain⟨_,fs',cs',rfl,hfs,hcs,hfe⟩:=hfv
            have hargs:aH (sG ρ1 h1.next (w1.heap.size,(0,0))) (first.toList++[.func (.yield h1.next) #[] #[]]++captured.toList) (fs'.toList++[.func (.yield w1.heap.size) #[] #[]]++cs'.toList):=by
             refine((fH.1 hfs).append (aH.cons ?_ aH.nil)).append (fH.1 hcs)
             simp only[aB,xB]
             exact⟨_,_,_,⟨_,_,bN,rfl⟩,by simp only[iC];exact aH.nil,by simp only[iC];exact aH.nil,rfl⟩
            have hcalls:=ih _ _ _ _ hcall _ _ _ e2.inv (e12.G C hi hg) hargs (b.atR {a with defers:=mark++a.defers} (.inRangeFunc w1.heap.size::k)::cs)
            obtain⟨e,w3,fr,⟨ρ3,v',rfl,_,e3⟩,hcomes,_,hleave⟩:=hcalls
            have e123:=e12.trans e3
            have hl3:ρ3 h1.next=some (w1.heap.size,(0,0)):=e3.ext _ _ bN
            obtain⟨r,hw3,⟨st0,p0,fn0,tm0,ps0,as0,bd0,d0,hg0,hst,hpd⟩,e4⟩:=nH e3.inv hsl hl3
            rw[hgl] at hg0
            cases hg0
            have hend:(Instr.endLoop w1.heap.size).run P w3= .ok p {w3 with heap:=w3.heap.setIfInBounds w1.heap.size (.loop {r with state:= .exhausted})}:=by
             have hnb:(r.state==LoopState.busy)=false:=by grind
             simp only[Instr.endLoop,Sem.run_bind,kP hw3,Result.andThen_ok]
             simp only[hnb,Bool.false_eq_true,if_false,Sem.run_bind,mK hw3 jM,Result.andThen_ok,Sem.run_pure,hpd]
            simp only[Option.getD_none] at e4
            have e1234:=e123.trans e4
            obtain⟨ρ',w',a',k',g1,g2,g3,g4,g5⟩:=ih _ _ _ _ hr ρ3 {w3 with heap:=w3.heap.setIfInBounds w1.heap.size (.loop {r with state:= .exhausted})} b {a with defers:=mark++a.defers} cs e4.inv (e1234.G C hi hg) hb (hro.mono e1234.ext)
             (aH.mono e1234.ext _ _ he) (hdr1.mono (e2.trans (e3.trans e4)).ext)
            refine⟨ρ',w',a',k',e1234.trans g1,g2,g3,?_,g5⟩
            have hres:(resolve a.eval (rangeCall f w1.heap.size) 0).run P (w1.alloc (.loop {state:= .ready,pending:=none,fn:=b.fn,tmps:=a.tmps,params:=ps,assign:=assign,body:=body,defers:=d'}))=
              .ok {target:= .fn (.func g) cs',args:=fs'++ #[.func (.yield w1.heap.size) #[] #[]]} (w1.alloc (.loop {state:= .ready,pending:=none,fn:=b.fn,tmps:=a.tmps,params:=ps,assign:=assign,body:=body,defers:=d'})):=by
             show(Deferred.ofValue (a.eval f) ((#[.const (.func (.yield w1.heap.size) #[] #[])]:Array Operand).map a.eval)).run P _=_
             rw[hfe]
             simp[Deferred.ofValue,Act.eval]
            have hinv:(invoke (.fn (.func g) cs') (fs'++ #[.func (.yield w1.heap.size) #[] #[]])).run P (w1.alloc (.loop {state:= .ready,pending:=none,fn:=b.fn,tmps:=a.tmps,params:=ps,assign:=assign,body:=body,defers:=d'}))=
              .ok (.enter g ⟨fs'.toList++[.func (.yield w1.heap.size) #[] #[]]++cs'.toList⟩) (w1.alloc (.loop {state:= .ready,pending:=none,fn:=b.fn,tmps:=a.tmps,params:=ps,assign:=assign,body:=body,defers:=d'})):=by
             simp only[invoke]
             rw[vT hcal]
             simp_all
            refine .head (stepR_rangeFunc henter hres hinv) (Steps.trans hcomes (.head ?_ (.head (stepR_endRangeFunc hend) g4)))
            rw[step_leave_returned hleave,finish_atR_inRangeFunc]
           ·cases hr
         ·cases hr
        ·cases hr
       ·cases hr
      ·cases hr
     ·cases hr
    ·cases hr
   ·exact fY C (fun b a cs w ρ _ _ _ _=>stepR_inBlock) (ih _ _ _ _ hr)
   ·exact fY C (fun b a cs w ρ _ _ _ _=>step_lone_go (by simp[stepG,stepG.exec,Frame.atR])) (ih _ _ _ _ hr)
   ·exact fY C (fun b a cs w ρ _ _ _ _=>stepR_inLoop) (ih _ _ _ _ hr)
   ·
    split at hr
    ·rename_i l
     split at hr
     ·rename_i _ _ _ _ _ _ _ hgl
      split at hr
      ·rename_i h1 hsl
       intro ρ w b a cs hi hg hb hro he hd
       obtain⟨lb,s,hl,hro'⟩:=hro
       obtain⟨r,hw,⟨st0,p0,fn0,tm0,ps0,as0,bd0,d0,hg0,hst,hpd⟩,e1⟩:=nH hi hsl hl
       rw[hgl] at hg0
       cases hg0
       have hbr:(Instr.beginRound lb).run P w= .ok () {w with heap:=w.heap.setIfInBounds lb (.loop {r with state:= .busy})}:=by
        simp only[Instr.beginRound,Sem.run_bind,kP hw,Result.andThen_ok,mK hw jM,hst]
        rfl
       simp only[Option.getD_none] at e1
       obtain⟨ρ',w',a',k',g1,g2,g3,g4,g5⟩:=ih _ _ _ _ hr ρ _ b a cs e1.inv (e1.G C hi hg) hb ⟨lb,s,hl,hro'⟩ he hd
       exact⟨ρ',w',a',k',e1.trans g1,g2,g3,.head (stepR_beginRound hro' hbr) g4,g5⟩
      ·cases hr
     ·cases hr
    ·cases hr
   ·cases hr
end Go.Ab
end
section
namespace Go.Ab
open Go.RowKit
variable {P:Program}
theorem kH {α:Type} {f g:α→Value}:∀(l:List α),(∀x∈l,f x=g x)→l.map f=l.map g
 |[],_=>rfl
 |x::l,h=>by simp_all
theorem Er {ev ev':Operand→Value} {h:AH} (op:Op) (he:∀x∈op.operands.toList,ev x=ev' x):aM P ev h op=aM P ev' h op:=by
 cases op with
 |build t parts=>
  simp only[aM]
  congr 1
  have:∀l:List (Nat×Operand),(∀p∈l,ev p.2=ev' p.2)→l.map (fun p=>(p.1,ev p.2))=l.map fun p=>(p.1,ev' p.2):=by
   intro l hl
   induction l with
   |nil=>rfl
   |cons p l ih=>simp only[List.map_cons];rw[hl p List.mem_cons_self,ih fun q hq=>hl q (List.mem_cons_of_mem _ hq)]
  exact this _ fun p hp=>he _ (by simp only[Op.operands];grind)
 |makeFunc fn first captured=>
  simp only[aM]
  have h1:first.map ev=first.map ev':=Array.ext' (by simp only[Array.toList_map];exact kH _ fun x hx=>he x (by simp only[Op.operands,Array.toList_append];grind))
  have h2:captured.map ev=captured.map ev':=Array.ext' (by simp only[Array.toList_map];exact kH _ fun x hx=>he x (by simp only[Op.operands,Array.toList_append];grind))
  rw[h1,h2]
 |slice t x lo hi mx=>
  simp only[aM]
  have hx:ev x=ev' x:=he x (by simp[Op.operands])
  have h1:lo.map ev=lo.map ev':=by cases lo with|none=>rfl|some y=>simp only[Option.map_some];rw[he y (by simp[Op.operands])]
  have h2:hi.map ev=hi.map ev':=by cases hi with|none=>rfl|some y=>simp only[Option.map_some];rw[he y (by simp[Op.operands])]
  have h3:mx.map ev=mx.map ev':=by cases mx with|none=>rfl|some y=>simp only[Option.map_some];rw[he y (by simp[Op.operands])]
  rw[hx,h1,h2,h3]
 |move x=>simp only[aM];rw[he x (by simp[Op.operands])]
 |assign x=>simp only[aM];rw[he x (by simp[Op.operands])]
 |pick c a b=>simp only[aM];rw[he c (by simp[Op.operands]),he a (by simp[Op.operands]),he b (by simp[Op.operands])]
 |load t a=>simp only[aM];rw[he a (by simp[Op.operands])]
 |nilCheck x=>simp only[aM];rw[he x (by simp[Op.operands])]
 |binOp op t x y yt=>simp only[aM];rw[he x (by simp[Op.operands]),he y (by simp[Op.operands])]
 |unOp op t x=>simp only[aM];rw[he x (by simp[Op.operands])]
 |convert s d x=>simp only[aM];rw[he x (by simp[Op.operands])]
 |makeInterface t x=>simp only[aM];rw[he x (by simp[Op.operands])]
 |fieldAddr s x f=>simp only[aM];rw[he x (by simp[Op.operands])]
 |field s x f=>simp only[aM];rw[he x (by simp[Op.operands])]
 |indexAddr t x i=>simp only[aM];rw[he x (by simp[Op.operands]),he i (by simp[Op.operands])]
 |index t x i=>simp only[aM];rw[he x (by simp[Op.operands]),he i (by simp[Op.operands])]
 |extract t i=>simp only[aM];rw[he t (by simp[Op.operands])]
 |lookup t x i ok=>simp only[aM];rw[he x (by simp[Op.operands]),he i (by simp[Op.operands])]
 |_=>rfl
theorem Fg {ev ev':Operand→Value} (op:Op) (he:∀x∈op.operands.toList,ev x=ev' x):cC P ev op=cC P ev' op:=by
 cases op with
 |alloc e=>rfl
 |box e x=>simp only[cC];rw[he x (by simp[Op.operands])]
 |buildSlice t len parts=>
  simp only[cC]
  have:∀l:List (Nat×Operand),(∀p∈l,ev p.2=ev' p.2)→l.map (fun p=>(p.1,ev p.2))=l.map fun p=>(p.1,ev' p.2):=by
   intro l hl
   induction l with
   |nil=>rfl
   |cons p l ih=>simp only[List.map_cons];rw[hl p List.mem_cons_self,ih fun q hq=>hl q (List.mem_cons_of_mem _ hq)]
  rw[this parts.toList fun p hp=>he _ (by simp only[Op.operands];grind)]
 |makeSlice t l c=>simp only[cC];rw[he l (by simp[Op.operands]),he c (by simp[Op.operands])]
 |makeMap t r=>
  cases r with
  |none=>rfl
  |some x=>simp only[cC];rw[he x (by simp[Op.operands])]
 |_=>rfl
theorem sP {c:Call} {x:Operand} (h:x∈c.args.toList):x∈(Op.call c).operands.toList:=by
 simp only[Op.operands,Call.operands,Array.toList_append]
 grind
theorem Ja {R:kT} {ev ev':Operand→Value} {h:AH} (op:Op) (he:∀x∈op.operands.toList,ev x=ev' x):bZ P R ev h op=bZ P R ev' h op:=by
 cases op with
 |store t a x=>simp only[bZ];rw[he a (by simp[Op.operands]),he x (by simp[Op.operands])]
 |mapUpdate t m k x=>simp only[bZ];rw[he m (by simp[Op.operands]),he k (by simp[Op.operands]),he x (by simp[Op.operands])]
 |call c=>
  have ha:c.args.toList.map ev=c.args.toList.map ev':=kH _ fun x hx=>he x (sP hx)
  obtain⟨callee,args,argTypes⟩:=c
  cases callee with
  |builtin b=>simp only[bZ];grind
  |value f=>
   have hf:ev f=ev' f:=he f (by simp[Op.operands,Call.operands])
   simp only[bZ];grind
  |invoke r m=>rfl
 |_=>rfl
theorem I6 {ev ev':Operand→Value} {h:AH} (op:Op) (he:∀x∈op.operands.toList,ev x=ev' x):cH P ev h op=cH P ev' h op:=by
 cases op with
 |call c=>
  have ha:c.args.toList.map ev=c.args.toList.map ev':=kH _ fun x hx=>he x (sP hx)
  obtain⟨callee,args,argTypes⟩:=c
  cases callee with
  |builtin b=>simp only[cH];grind
  |_=>rfl
 |_=>exact Er (P:=P) (h:=h) _ he
def jS (g g':AH):Prop:=∀i o,g.get i=some o→g'.get i=some o
theorem qY {g g':AH} (hg:jS g g') {a:Addr} {n:Nat} {l:List Value} (h:aW g a n=some l):aW g' a n=some l:=by
 unfold aW at h ⊢
 split at h
 ·cases h
 ·rename_i hs
  rw[if_neg hs]
  split at h
  ·rename_i hb;rw[hg _ _ hb];exact h
  ·cases h
theorem K1 {g g':AH} (hg:jS g g') {t:TypeId} {a:Addr} {v:Value} (h:lW P g t a=some v):lW P g' t a=some v:=by
 unfold lW at h ⊢
 split at h
 ·rename_i ht
  simp only[Option.map_eq_some_iff] at h
  obtain⟨l,hl,rfl⟩:=h
  simp only[qY hg hl,Option.map_some]
 ·rename_i ht
  split at h
  ·cases h
  ·rename_i hs
   rw[if_neg hs]
   split at h
   ·rename_i hb;rw[hg _ _ hb];exact h
   ·cases h
 ·cases h
theorem H6 {g g':AH} (hg:jS g g') {t:TypeId} {x:Value} {lo hi mx:Option Value} {v:Value} (h:lT P g t x lo hi mx=some v):lT P g' t x lo hi mx=some v:=by
 have he:∀i b,iS g i=some b→iS g' i=some b:=by
  intro i b hb
  unfold iS at hb ⊢
  split at hb
  ·rename_i hc;rw[hg _ _ hc];exact hb
  ·cases hb
 unfold lT at h ⊢
 split at h
 ·exact h
 ·exact h
 ·exact h
 ·rename_i e a len cap hd
  split at h
  ·split at h
   ·grind
   ·cases h
  ·cases h
 ·cases h
theorem Kd {g g':AH} (hg:jS g g') {x v:Value} (h:strOf g x=some v):strOf g' x=some v:=by
 unfold strOf at h ⊢
 split at h
 ·exact h
 ·split at h
  ·grind
  ·rename_i hn
   rw[if_neg hn]
   simp only[Option.map_eq_some_iff,Option.bind_eq_some_iff] at h ⊢
   obtain⟨l,⟨c,hc,hl⟩,rfl⟩:=h
   exact⟨l,⟨c,qY hg hc,hl⟩,rfl⟩
 ·cases h
theorem Hn {g g':AH} (hg:jS g g') {x:Value} {es:List (Value×Value×Nat)} (h:Pa g x=some es):Pa g' x=some es:=by
 unfold Pa at h ⊢
 split at h
 ·exact h
 ·split at h
  ·rename_i hb;rw[hg _ _ hb];exact h
  ·cases h
 ·cases h
theorem Ea {g g':AH} (hg:jS g g') {t:TypeId} {x i v:Value} {ok:Bool} (h:mQ P g t x i ok=some v):mQ P g' t x i ok=some v:=by
 unfold mQ at h ⊢
 split at h
 ·rename_i e es k n h1 h2
  rw[h1,Hn hg h2]
  exact h
 ·cases h
theorem T9 {g g':AH} (hg:jS g g') {b:Builtin} (hb:eY b=true) (at_:Array TypeId) (args:List Value) {v:Value} (h:(cJ P g b at_ args).map (·.1)=some v):(cJ P g' b at_ args).map (·.1)=some v:=by
 rw[←h]
 cases b<;>simp only[eY] at hb<;>try cases hb
 ·rcases args with _|⟨x,_|⟨y,l⟩⟩
  ·rfl
  ·simp only[cJ] at h ⊢
   split
   ·rfl
   ·rfl
   ·split<;>rfl
   ·rfl
   ·rename_i y _ _ _ _ hd
    rw[hd] at h
    simp only at h
    cases hm:Pa g y with
    |none=>rw[hm] at h;cases h
    |some es=>rw[Hn hg hm];rfl
   ·rfl
  ·rfl
 ·rcases args with _|⟨x,_|⟨y,_|⟨z,l⟩⟩⟩
  ·rfl
  ·cases x<;>rfl
  ·cases x<;>cases y<;>rfl
  ·cases x<;>cases y<;>rfl
 ·rcases args with _|⟨x,_|⟨y,_|⟨z,l⟩⟩⟩
  ·rfl
  ·cases x<;>rfl
  ·cases x<;>cases y<;>rfl
  ·cases x<;>cases y<;>rfl
theorem K6 {g g':AH} (hg:jS g g') {ev:Operand→Value} {op:Op} {v:Value} (h:cH P ev g op=some v):cH P ev g' op=some v:=by
 cases op with
 |call c=>
  obtain⟨callee,args,argTypes⟩:=c
  cases callee with
  |builtin b=>
   simp only[cH] at h ⊢
   split at h
   ·rename_i hb
    rw[if_pos hb]
    exact T9 hg hb _ _ h
   ·cases h
  |_=>simp[cH] at h
 |load t a=>
  simp only[cH,aM] at h ⊢
  split at h
  ·exact K1 hg h
  ·cases h
 |slice t x lo hi mx=>simp only[cH,aM] at h ⊢;exact H6 hg h
 |lookup t x i ok=>simp only[cH,aM] at h ⊢;exact Ea hg h
 |convert s d x=>
  simp only[cH,aM] at h ⊢
  split at h
  ·exact h
  ·exact h
  ·rename_i hu _
   split at h
   ·exact Kd hg h
   ·cases h
  ·cases h
 |_=>first|exact h|(simp[cH,aM] at h)
mutual
theorem Af:∀(a b:Value),mL a b=true→a=b
 |.bool a,b,h=>by cases b<;>simp_all [mL]
 |.int j a,b,h=>by cases b<;>simp_all [mL]
 |.float _ _,b,h=>by simp[mL] at h
 |.complex _ _ _,b,h=>by simp[mL] at h
 |.string a,b,h=>by
  cases b<;>simp[mL] at h
  rename_i b
  obtain⟨a⟩:=a
  obtain⟨b⟩:=b
  have:a=b:=eq_of_beq (show(a==b)=true from h)
  rw[this]
 |.pointer a,b,h=>by cases b<;>simp_all [mL]
 |.slice a l c,b,h=>by cases b<;>simp_all [mL]
 |.map a,b,h=>by cases b<;>simp_all [mL]
 |.chan _,b,h=>by simp[mL] at h
 |.func f x y,b,h=>by
  cases b<;>simp[mL] at h
  rename_i g c d
  rw[h.1.1,yW x c h.1.2,yW y d h.2]
 |.nilFunc,b,h=>by cases b<;>simp_all [mL]
 |.iface t v,b,h=>by
  cases b<;>simp[mL] at h
  rename_i u w
  rw[h.1,Af v w h.2]
 |.nilIface,b,h=>by cases b<;>simp_all [mL]
 |.agg x,b,h=>by
  cases b<;>simp[mL] at h
  rename_i c
  rw[yW x c h]
 |.tuple x,b,h=>by
  cases b<;>simp[mL] at h
  rename_i c
  rw[yW x c h]
theorem yW:∀(a b:Array Value),Lb a b=true→a=b
 |⟨l⟩,b,h=>by
  simp only[Lb] at h
  have:=Mp l b.toList h
  grind
theorem Mp:∀(l m:List Value),Gb l m=true→l=m
 |[],[],_=>rfl
 |[],_::_,h=>by simp[Gb] at h
 |_::_,[],h=>by simp[Gb] at h
 |a::l,b::m,h=>by
  simp only[Gb,Bool.and_eq_true] at h
  rw[Af a b h.1,Mp l m h.2]
end
theorem vM {acc acc':List Nat}:∀(l:List Nat),(∀j∈l,acc[j]?=acc'[j]?)→nM acc l=nM acc' l
 |[],_=>rfl
 |j::l,h=>by
  simp only[nM]
  rw[vM l fun y hy=>h y (List.mem_cons_of_mem _ hy),List.getD_eq_getElem?_getD,List.getD_eq_getElem?_getD,h j List.mem_cons_self]
theorem Bh {acc:List Nat} {i:Nat}:∀(l:List Nat),(nM acc l).testBit i=true→∃j∈l,i=j∨(acc.getD j 0).testBit i=true
 |[],h=>by simp[nM] at h
 |j::l,h=>by
  simp only[nM,Nat.testBit_or,Bool.or_eq_true] at h
  rcases h with h|h|h
  ·refine⟨j,List.mem_cons_self,.inl ?_⟩
   rw[Nat.one_shiftLeft,Nat.testBit_two_pow] at h
   grind
  ·grind
  ·obtain⟨k,hk,hh⟩:=Bh l h
   grind
theorem uR:∀(os:List Oper) (acc:List Nat),(∀k o,os[k]?=some o→∀j∈cX o,j<acc.length+k)→
  (∀k,k<acc.length→(cR os acc)[k]?=acc[k]?)∧
  ∀k o,os[k]?=some o→(cR os acc)[acc.length+k]?=some (nM (cR os acc) (cX o))
 |[],acc,_=>⟨fun k _=>rfl,fun k o h=>by simp at h⟩
 |o::os,acc,hd=>by
  have ih:=uR os (acc++[nM acc (cX o)]) (by
   intro k o' ho' j hj
   have:=hd (k+1) o' (by simpa using ho') j hj
   simp only[List.length_append,List.length_cons,List.length_nil];omega)
  have hpre:∀k,k<acc.length→(cR (o::os) acc)[k]?=acc[k]?:=by
   intro k hk
   simp only[cR]
   rw[ih.1 k (by simp;omega),List.getElem?_append_left hk]
  refine⟨hpre,?_⟩
  intro k o' ho'
  cases k with
  |zero=>
   simp at ho';subst ho'
   simp only[cR,Nat.add_zero]
   rw[ih.1 acc.length (by simp)]
   rw[List.getElem?_append_right (Nat.le_refl _)]
   simp only[Nat.sub_self,List.getElem?_cons_zero,Option.some.injEq]
   apply vM
   intro j hj
   have hlt:j<acc.length:=by have:=hd 0 o (by simp) j hj;omega
   grind
  |succ k=>
   have:=ih.2 k o' (by simpa using ho')
   simp only[cR]
   grind
theorem B4 {all:List Oper} (hd:∀k o,all[k]?=some o→∀j∈cX o,j<k) {D:List Nat} (hD:∀i∈D,∀o,all[i]?=some o→∀j∈cX o,j∈D):
  ∀(i:Nat) (o:Oper),all[i]?=some o→(∀j∈cX o,j∈D)→∀j,ahead (cR all []) j i=true→j∈D:=by
 intro i
 induction i using Nat.strongRecOn with
 |ind i ih=>
  intro o ho hdir j hj
  have hs:=(uR all [] (by simpa using hd)).2 i o ho
  simp only[List.length_nil,Nat.zero_add] at hs
  unfold ahead at hj
  rw[List.getD_eq_getElem?_getD,hs,Option.getD_some] at hj
  obtain⟨j',hj',hjj⟩:=Bh _ hj
  rcases hjj with h1|hjj
  ·grind
  ·have hlt:=hd i o ho j' hj'
   have hj'D:=hdir j' hj'
   cases ho':all[j']? with
   |none=>
    grind
   |some o'=>exact ih j' hlt o' ho' (hD j' hj'D o' ho') j (by unfold ahead;exact hjj)
def pF (all:List Oper):List Nat→List Nat→Prop
 |D,[]=>∀i,i<all.length→i∈D
 |D,i::l=>i<all.length∧i∉D∧(∀o,all[i]?=some o→∀j∈cX o,j∈D)∧pF all (D++[i]) l
theorem yA {o:Oper} {j:Nat}:j∈cX o↔∃e∈o.after,Region.binds .any e=true∧e.on=j:=by
 unfold cX
 grind
theorem sY {ops:Array Oper} (hd:∀k o,ops.toList[k]?=some o→∀j∈cX o,j<k):∀(fuel t:Nat) (listed:Array Bool) (D:List Nat),listed.size=ops.size→
  (∀i,i<ops.size→(listed.getD i false=true↔i∈D))→((List.range ops.size).filter fun i=>decide (i∉D)).length≤fuel→
  pF ops.toList D (Region.linearise.go .any ops fuel t listed [])
 |0,t,listed,D,hsz,hl,hf=>by
  simp only[Region.linearise.go,List.reverse_nil,pF]
  simp_all
 |fuel+1,t,listed,D,hsz,hl,hf=>by
  simp only[Region.linearise.go]
  change pF ops.toList D (match(Region.ready .any ops listed)[t % (Region.ready .any ops listed).length]? with
   |some i=>Region.linearise.go .any ops fuel (t/(Region.ready .any ops listed).length) (listed.setIfInBounds i true) [i]
   |none=>[].reverse)
  have hgt:∀i,i<ops.size→(listed.getD i true=false↔i∉D):=by
   grind
  cases hi:(Region.ready .any ops listed)[t % (Region.ready .any ops listed).length]? with
  |none=>
   have hnil:Region.ready .any ops listed=[]:=by
    cases hr:Region.ready .any ops listed with
    |nil=>rfl
    |cons x xs=>
     rw[hr] at hi
     have hlt:t % (x::xs).length<(x::xs).length:=Nat.mod_lt _ (by simp)
     grind
   simp only[List.reverse_nil,pF]
   intro i
   induction i using Nat.strongRecOn with
   |ind i ih=>
    intro hil
    rcases Classical.em (i∈D) with h|h
    ·exact h
    ·exfalso
     have hil':i<ops.size:=by simpa using hil
     have hr:i∈Region.ready .any ops listed:=by
      rw[mem_ready]
      refine⟨(hgt i hil').2 h,ops[i],Array.getElem?_eq_getElem hil',?_⟩
      intro e he hb
      have hlt:e.on<i:=hd i ops[i] (by simp[hil']) e.on (yA.2 ⟨e,he,hb,rfl⟩)
      grind
     grind
  |some i=>
   simp only[]
   rw[linearise_go_acc,List.reverse_singleton,List.singleton_append]
   have hmem:=List.mem_of_getElem? hi
   rw[mem_ready] at hmem
   obtain⟨h0,o,ho,hall⟩:=hmem
   have hlt:i<ops.size:=(Array.getElem?_eq_some_iff.1 ho).1
   have hnD:=(hgt i hlt).1 h0
   refine⟨by simpa using hlt,hnD,?_,?_⟩
   ·intro o' ho' j hj
    have:o'=o:=by grind
    subst this
    obtain⟨e,he,hb,rfl⟩:=yA.1 hj
    grind
   ·refine sY hd fuel _ _ (D++[i]) (by simpa using hsz) ?_ ?_
    ·intro j hj
     by_cases e:i=j
     ·simp_all
     ·rw[getD_set_ne false e,hl j hj];simp[Ne.symm e]
    ·have hsub:((List.range ops.size).filter fun j=>decide (j∉D++[i]))=(((List.range ops.size).filter fun j=>decide (j∉D)).filter fun j=>decide (j≠i)):=by
      rw[List.filter_filter]
      grind
     rw[hsub]
     have:((((List.range ops.size).filter fun j=>decide (j∉D)).filter fun j=>decide (j≠i)).length<((List.range ops.size).filter fun j=>decide (j∉D)).length):=
      List.length_filter_lt_length_iff_exists.2 ⟨i,by simp[hnD];exact hlt,by simp⟩
     omega
end Go.Ab
end
section
namespace Go.Ab
open Go.RowKit
variable {P:Program} {B:Nat} {K:FuncId→List Value→Option fM}
structure Cy (P:Program) (B N:Nat) (ρ:fN) (h:AH) (w:World) (ρ':fN) (h':AH) (w':World):Prop where
 ext:Ext ρ ρ'
 inv:Inv P B ρ' h' w'
 un:∀i,i<N→ρ i=none→ρ' i=none
 jB:∀i,i<N→ρ i=none→h'.get i=h.get i
 stay:∀i,i<N→h.get i=none→h'.get i=none
 frame:∀b,b<w.heap.size→(∀i s,h.base≤i→(h.get i).isSome→ρ i≠some (b,s))→w'.heap[b]?=w.heap[b]?
 range:∀i b s,h.base≤i→(h'.get i).isSome→ρ' i=some (b,s)→b<w.heap.size→∃j s',h.base≤j∧(h.get j).isSome∧ρ j=some (b,s')
 base:h'.base=h.base
 oR:∀i,i<h.base→h'.get i=h.get i
 size:w.heap.size≤w'.heap.size
 os:w'.os=w.os
 out:w'.output=w.output
 tape:w'.tape=w.tape
theorem Cy.uB {ρ ρ':fN} {h h':AH} {w w':World} (e:Cy P B h.next ρ h w ρ' h' w') (hn:h.next≤h'.next):hQ P B ρ h w ρ' h' w':=
 {ext:=e.ext,inv:=e.inv,un:=e.un,jB:=e.jB,stay:=e.stay,frame:=e.frame,range:=e.range,base:=e.base,oR:=e.oR,next:=hn,size:=e.size,os:=e.os,out:=e.out,tape:=e.tape}
theorem Cy.then {N:Nat} {ρ ρ1 ρ2:fN} {h h1 h2:AH} {w w1 w2:World} (a:Cy P B N ρ h w ρ1 h1 w1) (b:hQ P B ρ1 h1 w1 ρ2 h2 w2) (hN:N≤h1.next):Cy P B N ρ h w ρ2 h2 w2 where
 ext:=a.ext.trans b.ext
 inv:=b.inv
 un:=fun i hi hn=>b.un i (Nat.lt_of_lt_of_le hi hN) (a.un i hi hn)
 jB:=fun i hi hn=>(b.jB i (Nat.lt_of_lt_of_le hi hN) (a.un i hi hn)).trans (a.jB i hi hn)
 stay:=fun i hi hn=>b.stay i (Nat.lt_of_lt_of_le hi hN) (a.stay i hi hn)
 frame:=fun x hx hn=>by
  refine(b.frame x (Nat.lt_of_lt_of_le hx a.size) ?_).trans (a.frame x hx hn)
  intro i s hb hl he
  rw[a.base] at hb
  obtain⟨j,s',hj1,hj2,hj3⟩:=a.range i x s hb hl he hx
  grind
 range:=fun i x s hb hl he hx=>by
  obtain⟨j,s',hj1,hj2,hj3⟩:=b.range i x s (by rw[a.base];exact hb) hl he (Nat.lt_of_lt_of_le hx a.size)
  rw[a.base] at hj1
  exact a.range j x s' hj1 hj2 hj3 hx
 base:=b.base.trans a.base
 oR:=fun i hi=>(b.oR i (by rw[a.base];exact hi)).trans (a.oR i hi)
 size:=Nat.le_trans a.size b.size
 os:=b.os.trans a.os
 out:=b.out.trans a.out
 tape:=b.tape.trans a.tape
theorem Rk {N:Nat} {ρ0 ρ:fN} {h0 g:AH} {w0 w w':World} (e:Cy P B N ρ0 h0 w0 ρ g w) {i:Nat} {o':Obj} (hN:N≤i) (hlt:i<g.next) (hb:h0.base≤i) (hB:B≤w0.heap.size) (hn:ρ i=none)
  (hheap:w'.heap=w.heap.push o') (hos:w'.os=w.os) (hout:w'.output=w.output) (htape:w'.tape=w.tape) (hrel:∀o,g.get i=some o→pA P (sG ρ i (w.heap.size,(0,0))) (0,0) o o'):
  Cy P B N ρ0 h0 w0 (sG ρ i (w.heap.size,(0,0))) g w':=by
 have hext:Ext ρ (sG ρ i (w.heap.size,(0,0))):=Ext.sG hn
 have hi:=e.inv
 have hlive:∀j b s,(g.get j).isSome→ρ j=some (b,s)→b<w.heap.size:=fun j b s hj hr=>by
  obtain⟨o,ho⟩:=Option.isSome_iff_exists.1 hj
  obtain⟨o2,h2,_⟩:=hi.nJ j o ho b s hr
  grind
 have hglob:∀k,k<P.globals.size→k≠i:=fun k hk hki=>by
  have:=hi.lM k hk
  grind
 refine {ext:=e.ext.trans hext,inv:=?_,un:=?_,jB:=fun j hj hr=>e.jB j hj hr,stay:=e.stay,frame:=?_,range:=?_,base:=e.base,oR:=e.oR,size:=by rw[hheap];simp;exact Nat.le_succ_of_le e.size,os:=hos.trans e.os,out:=hout.trans e.out,tape:=htape.trans e.tape}
 ·refine {nJ:=?_,inj:=?_,low:=?_,old:=?_,fresh:=?_,fD:=hi.fD,lM:=?_,size:=by rw[hheap];simp;exact Nat.le_succ_of_le hi.size,bn:=hi.bn}
  ·intro j o hg b s hr
   by_cases ej:j=i
   ·subst ej
    rw[bN] at hr;grind
   ·rw[aX ej] at hr
    obtain⟨o2,h2,h3⟩:=hi.nJ j o hg b s hr
    refine⟨o2,?_,h3.mono hext⟩
    grind
  ·intro j k b sj sk hj hk gj gk rj rk
   by_cases ej:j=i
   ·by_cases ek:k=i
    ·rw[ej,ek]
    ·rw[aX ek] at rk
     have:=hlive k b sk gk rk
     subst ej;rw[bN] at rj;cases rj;omega
   ·rw[aX ej] at rj
    by_cases ek:k=i
    ·have:=hlive j b sj gj rj
     subst ek;rw[bN] at rk;cases rk;omega
    ·rw[aX ek] at rk
     exact hi.inj j k b sj sk hj hk gj gk rj rk
  ·intro j b s hj gj rj
   by_cases ej:j=i
   ·subst ej;rw[bN] at rj;cases rj;exact Nat.le_trans hB e.size
   ·rw[aX ej] at rj;exact hi.low j b s hj gj rj
  ·intro j b s hj rj
   rw[e.base] at hj
   rw[aX (by omega)] at rj
   exact hi.old j b s (by rw[e.base];exact hj) rj
  ·intro j hj
   rw[aX (by omega)]
   exact hi.fresh j hj
  ·intro k hk
   rw[aX (hglob k hk)]
   exact hi.lM k hk
 ·intro j hj hr
  rw[aX (by omega)]
  exact e.un j hj hr
 ·intro b hlt' hno
  rw[hheap,Array.getElem?_push,if_neg (by have:=e.size;omega)]
  exact e.frame b hlt' hno
 ·intro j b s hj gj rj hlt'
  by_cases ej:j=i
  ·subst ej;rw[bN] at rj;cases rj;have:=e.size;omega
  ·rw[aX ej] at rj;exact e.range j b s hj gj rj hlt'
theorem Gn {N:Nat} {ρ0 ρ:fN} {h0 g:AH} {w0 w:World} (e:Cy P B N ρ0 h0 w0 ρ g w) {i:Nat} {o:jN} (hN:N≤i) (hlt:i<g.next) (hb:h0.base≤i) (hB:B≤w0.heap.size)
  (hrel:∀b s,ρ i=some (b,s)→∃o',w.heap[b]?=some o'∧pA P ρ s o o')
  (hno:∀b s,ρ i=some (b,s)→w0.heap.size≤b∧∀j s',h0.base≤j→(g.get j).isSome→ρ j=some (b,s')→j=i):
  Cy P B N ρ0 h0 w0 ρ (g.set i (some o)) w:=by
 have hi:=e.inv
 have hgb:g.base≤i:=by rw[e.base];exact hb
 have hget:∀j,(g.set i (some o)).get j=if j=i then some o else g.get j:=fun j=>AH.fJ hgb
 have hcase:∀j,((g.set i (some o)).get j).isSome→j=i∨(g.get j).isSome:=fun j hj=>by
  grind
 refine {ext:=e.ext,inv:=?_,un:=e.un,jB:=?_,stay:=fun j hj hn=>by rw[hget,if_neg (by omega)];exact e.stay j hj hn,frame:=e.frame,range:=?_,base:=by simp;exact e.base,oR:=?_,size:=e.size,os:=e.os,out:=e.out,tape:=e.tape}
 ·refine {nJ:=?_,inj:=?_,low:=?_,old:=?_,fresh:=?_,fD:=?_,lM:=hi.lM,size:=hi.size,bn:=by simp;exact hi.bn}
  ·intro j oj gj b s rj
   rw[hget] at gj
   by_cases ej:j=i
   ·grind
   ·rw[if_neg ej] at gj;exact hi.nJ j oj gj b s rj
  ·intro j k b sj sk hj hk gj gk rj rk
   simp at hj hk
   rcases hcase j gj with ej|gj'
   ·rcases hcase k gk with ek|gk'
    ·rw[ej,ek]
    ·subst ej;rw[e.base] at hk;grind
   ·rcases hcase k gk with ek|gk'
    ·subst ek;rw[e.base] at hj;grind
    ·exact hi.inj j k b sj sk hj hk gj' gk' rj rk
  ·intro j b s hj gj rj
   simp at hj
   rcases hcase j gj with ej|gj'
   ·grind
   ·exact hi.low j b s hj gj' rj
  ·intro j b s hj rj
   simp at hj
   exact hi.old j b s hj rj
  ·intro j hj
   simp at hj
   exact hi.fresh j hj
  ·intro j hj
   simp at hj
   rw[hget,if_neg (by omega)]
   exact hi.fD j hj
 ·intro j hj hr
  rw[hget,if_neg (by omega)]
  exact e.jB j hj hr
 ·intro j b s hj gj rj hlt'
  rcases hcase j gj with ej|gj'
  ·grind
  ·exact e.range j b s hj gj' rj hlt'
 ·intro j hj
  rw[hget,if_neg (by omega)]
  exact e.oR j hj
theorem Bm {R:kT} {all:List Oper} {r0:Nat}:∀(os:List Oper) (i:Nat) (env:List Value) (h:AH) (rs:List Rec) (e:List Value) (hN:AH),eC P R all r0 i os env h=some (rs,e,hN)→
  ∃(E:Nat→List Value) (H:Nat→AH) (V:Nat→Value),E 0=env∧H 0=h∧
   (∀j o,os[j]?=some o→dA P R all r0 (i+j) (E j) (H j) o=some (V j,H (j+1))∧E (j+1)=fP (E j) o.dst (V j))∧
   E os.length=e∧H os.length=hN∧∀j,j<os.length→rs[j]?=some ⟨E j,H j,V j⟩
 |[],i,env,h,rs,e,hN,ht=>by
  simp only[eC,Option.some.injEq,Prod.mk.injEq] at ht
  obtain⟨rfl,rfl,rfl⟩:=ht
  exact⟨fun _=>env,fun _=>h,fun _=>undef,rfl,rfl,fun j o hj=>by simp at hj,rfl,rfl,fun j hj=>by simp at hj⟩
 |o::os,i,env,h,rs,e,hN,ht=>by
  simp only[eC] at ht
  split at ht
  ·rename_i v h' hs
   split at ht
   ·rename_i rs' e' ht'
    simp only[Option.some.injEq,Prod.mk.injEq] at ht
    obtain⟨rfl,rfl⟩:=ht
    obtain⟨E,H,V,h1,h2,h3,h4,h5,h6⟩:=Bm os (i+1) (fP env o.dst v) h' rs' e hN ht'
    refine⟨fun j=>match j with|0=>env|j+1=>E j,fun j=>match j with|0=>h|j+1=>H j,fun j=>match j with|0=>v|j+1=>V j,rfl,rfl,?_,h4,h5,?_⟩
    ·grind
    grind
   ·cases ht
  ·cases ht
def qI (all:List Oper) (V:Nat→Value) (e:List Value) (D:List Nat):List Value:=D.foldl (fun e i=>fP e ((all[i]?).bind (·.dst)) (V i)) e
theorem Rx {e:List Value} {d:Option Tmp} {v:Value}:(fP e d v).length=e.length:=by cases d<;>simp[fP]
theorem Gy {e:List Value} {d:Option Tmp} {v:Value} {t:Nat}:(fP e d v)[t]?=if d=some t then(if t<e.length then some v else none) else e[t]?:=by
 cases d with
 |none=>simp[fP]
 |some d=>
  simp only[fP,Option.some.injEq,List.getElem?_set]
  grind
theorem uP {all:List Oper} {V:Nat→Value} {t:Nat}:∀(D:List Nat) (e:List Value),(∀i∈D,(all[i]?).bind (·.dst)≠some t)→(qI all V e D)[t]?=e[t]?
 |[],e,_=>rfl
 |i::D,e,h=>by
  show(qI all V (fP e _ (V i)) D)[t]?=_
  rw[uP D _ fun j hj=>h j (List.mem_cons_of_mem _ hj),Gy,if_neg (h i List.mem_cons_self)]
theorem F7 {all:List Oper} {V:Nat→Value} {t j:Nat} (hj:(all[j]?).bind (·.dst)=some t) (hu:∀i,(all[i]?).bind (·.dst)=some t→i=j):∀(D:List Nat) (e:List Value),j∈D→(qI all V e D)[t]?=if t<e.length then some (V j) else none
 |[],e,h=>by cases h
 |i::D,e,h=>by
  show(qI all V (fP e _ (V i)) D)[t]?=_
  by_cases hD:j∈D
  ·rw[F7 hj hu D _ hD,Rx]
  ·have hij:i=j:=by grind
   subst hij
   rw[uP D _ fun k hk hkt=>hD (hu k hkt▸hk),Gy,if_pos hj]
theorem De {all:List Oper} {V:Nat→Value} {t:Nat} {e:List Value} (hu:∀i j:Nat,(all[i]?).bind (·.dst)=some t→(all[j]?).bind (·.dst)=some t→i=j) {D D':List Nat}
  (hs:∀j:Nat,(all[j]?).bind (·.dst)=some t→(j∈D↔j∈D')):(qI all V e D)[t]?=(qI all V e D')[t]?:=by
 rcases Classical.em (∃j,j∈D∧(all[j]?).bind (·.dst)=some t) with⟨j,hj,ht⟩|hno
 ·rw[F7 ht (fun i hi=>hu i j hi ht) D e hj,F7 ht (fun i hi=>hu i j hi ht) D' e ((hs j ht).1 hj)]
 ·rw[uP D e fun i hi hit=>hno ⟨i,hi,hit⟩,uP D' e fun i hi hit=>hno ⟨i,(hs i hit).2 hi,hit⟩]
theorem C9 {all:List Oper} {V:Nat→Value} {e:List Value} {D:List Nat} {i:Nat}:qI all V e (D++[i])=fP (qI all V e D) ((all[i]?).bind (·.dst)) (V i):=by
 unfold qI;grind
end Go.Ab
end
section
namespace Go.Ab
open Go.RowKit
variable {P:Program} {B:Nat} {K:FuncId→List Value→Option fM}
structure Dr (P:Program) (R:kT) (all:List Oper) (r0:Nat) (E:Nat→List Value) (H:Nat→AH) (V:Nat→Value):Prop where
 step:∀(j:Nat) o,all[j]?=some o→dA P R all r0 j (E j) (H j) o=some (V j,H (j+1))
 env:∀(j:Nat) o,all[j]?=some o→E (j+1)=fP (E j) o.dst (V j)
 dir:∀(k:Nat) o,all[k]?=some o→∀j∈cX o,j<k
 kind:∀(k:Nat) o,all[k]?=some o→kindOf o.op≠.other
 jV:∀i j:Nat,∀t,(all[i]?).bind (·.dst)=some t→(all[j]?).bind (·.dst)=some t→i=j
 tmps:∀i j:Nat,∀o p d,all[i]?=some o→all[j]?=some p→i≠j→p.dst=some d→d∈tI all o→(j<i→ahead (cR all []) j i=true)∧(i<j→ahead (cR all []) i j=true)
 nS:∀i j:Nat,∀o p,all[i]?=some o→all[j]?=some p→bS o.op=true→bS p.op=true→j<i→ahead (cR all []) j i=true
 ik:∀i s:Nat,∀o,all[i]?=some o→eB o.op=true→s≤all.length→(s=all.length∨∃p,all[s]?=some p∧bS p.op=true)→
  (∀j p,all[j]?=some p→bS p.op=true→(j<s→ahead (cR all []) i j=false)∧(s≤j→ahead (cR all []) j i=false))→
  ¬(i<s∧∀j p,i<j→j<s→all[j]?=some p→bS p.op=false)→
  cB ⟨all⟩ (E i) o=some true→cH P (bB P (E i)) (H s) o.op=some (V i)
structure St (P:Program) (B:Nat) (all:List Oper) (r0:Nat) (E:Nat→List Value) (H:Nat→AH) (V:Nat→Value) (ρ0:fN) (h:AH) (w0:World) (D:List Nat) (s:Nat) (ρ:fN) (w:World) (tmps:List Value):Prop where
 uB:Cy P B r0 ρ0 h w0 ρ (H s) w
 Pg:∀i∈D,i<all.length
 closed:∀i∈D,∀o,all[i]?=some o→∀j∈cX o,j∈D
 s1:∀(j:Nat) o,j<s→all[j]?=some o→bS o.op=true→j∈D
 s3:∀(j:Nat) o,all[j]?=some o→bS o.op=true→j∈D→j<s
 sle:s≤all.length
 env:aH ρ (qI all V (E 0) D) tmps
 nx:r0+all.length≤(H s).next
 tR:∀(i:Nat) o b f,s≤i→i∈D→all[i]?=some o→cB ⟨all⟩ (E i) o=some true→cC P (bB P (E i)) o.op=some (b,f)→kindOf o.op= .alloc→
  ∃n o',ρ (r0+i)=some (n,(0,0))∧w.heap[n]?=some o'∧pA P ρ (0,0) b o'
 oC:∀i n t,i<all.length→ρ (r0+i)=some (n,t)→w0.heap.size≤n∧n<w.heap.size
 lone:∀i n t,s≤i→i<all.length→ρ (r0+i)=some (n,t)→∀j s',h.base≤j→((H s).get j).isSome→ρ j≠some (n,s')
 yI:∀i i' n t t',i<all.length→i'<all.length→ρ (r0+i)=some (n,t)→ρ (r0+i')=some (n,t')→i=i'
 Nf:∀i,i<all.length→i∉D→ρ (r0+i)=none
 Rf:∀(i:Nat) o,all[i]?=some o→¬(kindOf o.op= .alloc∧cB ⟨all⟩ (E i) o=some true)→ρ (r0+i)=none
 rev:∀(i:Nat) o b f,i<s→i∉D→all[i]?=some o→cB ⟨all⟩ (E i) o=some true→cC P (bB P (E i)) o.op=some (b,f)→kindOf o.op= .alloc→(H s).get (r0+i)=some b
 Nd:∀j,s≤j→j<all.length→(H s).get (r0+j)=none
 gr:∀m,m≤s→(∀(j:Nat) p,m≤j→j<s→all[j]?=some p→bS p.op=false)→jS (H m) (H s)
def Pn (all:List Oper) (D:List Nat) (s:Nat):Prop:=s=all.length∨∃o,all[s]?=some o∧bS o.op=true∧s∉D
variable {R:kT} {all:List Oper} {r0:Nat} {E:Nat→List Value} {H:Nat→AH} {V:Nat→Value} {ρ0 ρ:fN} {h:AH} {w0 w:World} {D:List Nat} {s:Nat} {tmps:List Value}
theorem Bw {op:Op} (h:eB op=true):kindOf op= .qG∨kindOf op= .call:=by
 cases op<;>simp[eB,kindOf] at h ⊢
theorem nX {op:Op} (h:eB op=true):bS op=false∧kindOf op≠.alloc:=by
 rcases Bw h with hk|hk<;>simp[bS,h,hk]
theorem Dr.cases (d:Dr P R all r0 E H V) {i:Nat} {o:Oper} (ho:all[i]?=some o):
  (cB ⟨all⟩ (E i) o=some false∧V i=undef∧H (i+1)=H i)∨
  (cB ⟨all⟩ (E i) o=some true∧eB o.op=true∧cH P (bB P (E i)) (H i) o.op=some (V i)∧H (i+1)=H i)∨
  (cB ⟨all⟩ (E i) o=some true∧kindOf o.op= .alloc∧∃b f,cC P (bB P (E i)) o.op=some (b,f)∧V i=f (r0+i)∧H (i+1)=(H i).set (r0+i) (some b))∨
  (cB ⟨all⟩ (E i) o=some true∧bS o.op=true∧bZ P R (bB P (E i)) (H i) o.op=some (V i,H (i+1))):=by
 have hs:=d.step i o ho
 have hk:=d.kind i o ho
 unfold dA at hs
 split at hs
 ·cases hs
 ·grind
 ·rename_i hw
  split at hs
  ·rename_i hl
   simp only[Option.map_eq_some_iff] at hs
   grind
  ·rename_i hl
   split at hs
   ·rename_i hal
    simp only[Option.map_eq_some_iff] at hs
    grind
   ·rename_i hal
    refine .inr (.inr (.inr ⟨hw,?_,hs⟩))
    unfold bS
    simp only[hl,Bool.not_false,Bool.and_true]
    have hal':kindOf o.op≠.alloc:=by simpa using hal
    have hll:kindOf o.op≠.qG:=by
     intro hh
     apply hl
     cases hop:o.op<;>rw[hop] at hh<;>simp[kindOf] at hh<;>simp[eB,kindOf]
    cases hkk:kindOf o.op with
    |qG=>exact absurd hkk hll
    |alloc=>exact absurd hkk hal'
    |store=>rfl
    |call=>rfl
    |other=>exact absurd hkk hk
theorem Dr.Yt (d:Dr P R all r0 E H V):∀i,i≤all.length→E i=qI all V (E 0) (List.range i)
 |0,_=>rfl
 |i+1,hi=>by
  have ho:all[i]?=some all[i]:=List.getElem?_eq_getElem (by omega)
  rw[d.env i _ ho,d.Yt i (by omega),List.range_succ,C9,ho]
  rfl
theorem St.Au (d:Dr P R all r0 E H V) (st:St P B all r0 E H V ρ0 h w0 D s ρ w tmps) {i:Nat} {o:Oper} (ho:all[i]?=some o) (hdir:∀j∈cX o,j∈D) {j:Nat} (hj:ahead (cR all []) j i=true):j∈D:=
 B4 d.dir st.closed i o ho hdir j hj
theorem St.looks (d:Dr P R all r0 E H V) (st:St P B all r0 E H V ρ0 h w0 D s ρ w tmps) {i:Nat} {o:Oper} (ho:all[i]?=some o) (hD:i∉D) (hdir:∀j∈cX o,j∈D) {t:Nat} (ht:t∈tI all o):
  (qI all V (E 0) D)[t]?=(E i)[t]?:=by
 have hi:i<all.length:=(List.getElem?_eq_some_iff.1 ho).1
 rw[d.Yt i (by omega)]
 refine De (fun a b ha hb=>d.jV a b t ha hb) fun j hj=>?_
 rw[List.mem_range]
 cases hp:all[j]? with
 |none=>grind
 |some p=>
  rw[hp] at hj
  simp only[Option.bind_some] at hj
  by_cases hji:j=i
  ·subst hji;simp[hD]
  ·obtain⟨h1,h2⟩:=d.tmps i j o p t ho hp (Ne.symm hji) hj ht
   constructor
   ·intro hjD
    rcases Nat.lt_or_ge j i with hlt|hge
    ·exact hlt
    ·exfalso
     have h3:=h2 (by omega)
     exact hD (B4 d.dir st.closed j p hp (st.closed j hjD p hp) i h3)
   ·intro hlt
    exact st.Au d ho hdir (h1 hlt)
theorem St.ev (d:Dr P R all r0 E H V) (st:St P B all r0 E H V ρ0 h w0 D s ρ w tmps) {i:Nat} {o:Oper} (ho:all[i]?=some o) (hD:i∉D) (hdir:∀j∈cX o,j∈D):
  ∀x∈o.op.operands.toList,bB P (qI all V (E 0) D) x=bB P (E i) x:=by
 intro x hx
 cases x with
 |tmp t=>
  have:=st.looks d ho hD hdir (t:=t) (by unfold tI;grind)
  simp only[bB,List.getD_eq_getElem?_getD,this]
 |_=>rfl
theorem St.wanted (d:Dr P R all r0 E H V) (st:St P B all r0 E H V ρ0 h w0 D s ρ w tmps) {i:Nat} {o:Oper} (ho:all[i]?=some o) (hD:i∉D) (hdir:∀j∈cX o,j∈D):
  cB ⟨all⟩ (qI all V (E 0) D) o=cB ⟨all⟩ (E i) o:=by
 unfold cB
 cases hg:o.guard with
 |none=>rfl
 |some x=>
  obtain⟨j,want⟩:=x
  simp only
  cases hj:((⟨all⟩:Array Oper)[j]?).bind (·.dst) with
  |none=>rfl
  |some t=>
   have hj':(all[j]?).bind (·.dst)=some t:=by simpa using hj
   have:=st.looks d ho hD hdir (t:=t) (by unfold tI;grind)
   grind
theorem St.Oc (d:Dr P R all r0 E H V) (st:St P B all r0 E H V ρ0 h w0 D s ρ w tmps) (hf:Pn all D s) {i:Nat} {o:Oper} (ho:all[i]?=some o) (hD:i∉D) (hdir:∀j∈cX o,j∈D) (hl:eB o.op=true) (hw:cB ⟨all⟩ (E i) o=some true):
  cH P (bB P (E i)) (H s) o.op=some (V i):=by
 rcases Classical.em (i<s∧∀j p,i<j→j<s→all[j]?=some p→bS p.op=false) with⟨h1,h2⟩|hno
 ·rcases d.cases ho with⟨hw',_⟩|⟨_,_,hv,_⟩|⟨_,hk,_⟩|⟨_,hk,_⟩
  ·grind
  ·refine K6 (st.gr i (by omega) fun j p hj1 hj2 hp=>?_) hv
   by_cases e:j=i
   ·subst e;rw[ho] at hp;cases hp;exact(nX hl).1
   grind
  ·exact absurd hk (nX hl).2
  ·rw[(nX hl).1] at hk;cases hk
 ·refine d.ik i s o ho hl st.sle (hf.imp id fun⟨p,hp,hh,_⟩=>⟨p,hp,hh⟩) ?_ hno hw
  intro j p hp hh
  constructor
  ·intro hlt
   cases ha:ahead (cR all []) i j with
   |false=>rfl
   |true=>exact absurd (B4 d.dir st.closed j p hp (st.closed j (st.s1 j p hlt hp hh) p hp) i ha) hD
  ·intro hge
   cases ha:ahead (cR all []) j i with
   |false=>rfl
   |true=>
    have hjD:=st.Au d ho hdir ha
    have:=st.s3 j p hp hh hjD
    omega
end Go.Ab
end
