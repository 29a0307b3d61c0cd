/- A part of the proof. -/
import Derived.Test.YtajjljbmfdboaaaGreatDoorF1
import Derived.RangeFuncIn
section
namespace Go.Ab
open Go.RowKit
variable {P:Program} {B:Nat} {ρ:gQ} {h:AH} {w:World}
theorem Inv.of_heap (hi:Inv P B ρ h w) {w':World} (hh:w'.heap=w.heap):Inv P B ρ h w' where
 pM:=fun i o hg b s hr=>by rw[hh];exact hi.pM i o hg b s hr
 inj:=hi.inj
 low:=hi.low
 old:=hi.old
 fresh:=hi.fresh
 gM:=hi.gM
 oQ:=hi.oQ
 size:=by rw[hh];exact hi.size
 bn:=hi.bn
theorem Ld {x x':Value} {n:Nat} (hx:aD ρ x x') (hn:tA x=some n):(Builtin.lenOf x').run P w= .ok n w:=by
 unfold tA at hn
 split at hn
 ·rename_i a _ _
  cases hn
  cases a with
  |none=>simp only[aD] at hx;subst hx;rfl
  |some a=>
   obtain⟨_,_,sp⟩:=a
   cases sp with
   |none=>simp only[aD] at hx;obtain⟨_,_,_,_,_,_,rfl⟩:=hx;rfl
   |some _=>simp only[aD] at hx;obtain⟨rfl,_,_,_,_,_,rfl⟩:=hx;rfl
 ·cases hn;simp only[aD] at hx;subst hx;rfl
 ·cases hn
theorem Pw (hi:Inv P B ρ h w) {x x':Value} {size n:Nat} {new:List Value} (hx:aD ρ x x') (hs:fU h size n x=some new):
  ∃new',(Builtin.firstCells size n x').run P w= .ok ⟨new'⟩ w∧aT ρ new new':=by
 unfold fU at hs
 split at hs
 ·split at hs
  ·cases hs;simp only[aD] at hx;subst hx;exact⟨[],by simp[Builtin.firstCells],aT.nil⟩
  ·cases hs
 ·rename_i a l c
  split at hs
  ·rename_i h0
   cases hs;subst h0
   obtain⟨_,_,sp⟩:=a
   have key:∀a' c',(Builtin.firstCells size 0 (.slice (some a') l c')).run P w= .ok ⟨[]⟩ w:=fun a' c'=>by simp[Builtin.firstCells,loadCells,loadCellsFrom]
   cases sp with
   |none=>simp only[aD] at hx;obtain⟨_,_,_,_,_,_,rfl⟩:=hx;exact⟨[],key _ _,aT.nil⟩
   |some _=>simp only[aD] at hx;obtain⟨rfl,_,_,_,_,_,rfl⟩:=hx;exact⟨[],key _ _,aT.nil⟩
  ·rename_i h0
   split at hs
   ·obtain⟨i,o,sp⟩:=a
    cases sp with
    |none=>
     simp only[aD] at hx;obtain⟨b,s,c',hr,_,_,rfl⟩:=hx
     obtain⟨l',hrun,hrel,_,_⟩:=oW hi (a:=⟨i,o,none⟩) hr hs
     exact⟨l',hrun,hrel⟩
    |some _=>simp[cI] at hs
   ·cases hs
 ·split at hs
  ·cases hs
   simp only[aD] at hx;subst hx
   refine⟨_,show _=Result.ok (⟨((ByteArray.extract _ 0 n).data.toList.map fun b=>Value.int .u8 b.toNat)⟩:Array Value) w from ?_,aT.Ar (fun b=>by simp only[aD]) _⟩
   simp only[Builtin.firstCells,Sem.run_pure,Result.ok.injEq,and_true]
   exact Array.ext' (by simp)
  ·cases hs
 ·cases hs
theorem Ip {z:Value} {l:List Value} (hz:z.cells=⟨l⟩) {size:Nat} (hl:l.length=size) (n:Nat):Builtin.zeroCells z.cells n=⟨eB l n⟩:=by
 unfold Builtin.zeroCells
 rw[hz]
 have:=uM hl n
 grind
theorem Qf {argTypes:Array TypeId} {ty sT e:TypeId} {i:TypeInfo} {zv:Value} {z:List Value} {base':Option Addr} {sLen c' n:Nat} {x':Value} {old' new':List Value}
  (h0:argTypes[0]?=some sT) (hd:P.underlying sT=some (.slice e)) (hi:P.info? e=some i) (hz:i.zero=some zv) (_hzc:zv.cells=⟨z⟩)
  {uT:TypeId} (h1:argTypes[1]?=some uT) (hu:P.underlying uT=some .string∨∃e',P.underlying uT=some (.slice e'))
  (hlen:(Builtin.lenOf x').run P w= .ok n w) (hgt:¬sLen+n≤c') (hbig:(sLen+n)*(i.bytes+1)≤2^46)
  (hold:(Builtin.firstCells (P.cellsOf e) sLen (.slice base' sLen c')).run P w.drew= .ok ⟨old'⟩ w.drew) (hnew:(Builtin.firstCells (P.cellsOf e) n x').run P w.drew= .ok ⟨new'⟩ w.drew):
  (Builtin.append_ argTypes ty #[.slice base' sLen c',x']).run P w=
   .ok (.slice (some ⟨w.heap.size,0,none⟩) (sLen+n) (grownCap w (sLen+n) c' e)) (w.drew.alloc (.cells (⟨old'⟩++⟨new'⟩++Builtin.zeroCells zv.cells (grownCap w (sLen+n) c' e - (sLen+n))) e)):=by
 have e1:(sLen+n)*i.bytes≤2^46:=Nat.le_trans (Nat.mul_le_mul_left _ (Nat.le_succ _)) hbig
 have e2:sLen+n≤2^46:=Nat.le_trans (Nat.le_mul_of_pos_right _ (Nat.succ_pos _)) hbig
 have hfit:¬Builtin.nextslicecap (sLen+n) c'*i.bytes>2^48:=by
  have:=growslice_fits (need:=sLen+n) (old:=c') (bytes:=i.bytes) (by omega) (by omega)
  omega
 have hmax:¬(((sLen+n:Nat):Int)>IntKind.i64.max∧(false=true∨i.bytes=0)):=by
  rw[IntKind.max_i64];intro hh;omega
 have hq:(Question.appendCap (sLen+n) c' e).forced=false:=rfl
 have t1:∀w',(typeInfo e).run P w'= .ok i w':=fun w'=>by simp[typeInfo,hi]
 have t2:∀w',(sizeOf e).run P w'= .ok (P.cellsOf e) w':=fun w'=>fH hi
 have t3:∀w',(zeroValue e).run P w'= .ok zv w':=fun w'=>by simp[zeroValue,typeInfo,hi,hz]
 rcases hu with hu|⟨e',hu⟩
 all_goals
  unfold Builtin.append_
  simp only[h0,h1,List.getElem?_toArray,List.getElem?_cons_zero,List.getElem?_cons_succ,Sem.run_bind,run_underlying hd,run_underlying hu,Result.andThen_ok,t2,Sem.run_pure,
      Bool.false_eq_true,if_false,hlen,hgt,t1,false_or]
  simp only[Bool.false_eq_true,false_or] at hmax
  rw[if_neg hmax]
  simp only[Sem.run_bind,run_choose,hq,Bool.false_eq_true,if_false,Result.andThen_ok,run_askRoom,World.drew_eq,t1,hfit,hold,Bool.not_false,if_true,hnew,t3]
  simp only[newRow,Sem.run_bind,run_newObj,Result.andThen_ok,Sem.run_pure,World.alloc_eq]
  rfl
theorem mO {argTypes:Array TypeId} {ty sT e uT:TypeId} {i:TypeInfo} {base':Option Addr} {sLen c' n:Nat} {x':Value} {new':List Value}
  (h0:argTypes[0]?=some sT) (hd:P.underlying sT=some (.slice e)) (hi:P.info? e=some i)
  (h1:argTypes[1]?=some uT) (hu:P.underlying uT=some .string∨∃e',P.underlying uT=some (.slice e'))
  (hlen:(Builtin.lenOf x').run P w= .ok n w) (hle:sLen+n≤c') (hnew:(Builtin.firstCells (P.cellsOf e) n x').run P w= .ok ⟨new'⟩ w):
  (Builtin.append_ argTypes ty #[.slice base' sLen c',x']).run P w=
   match base' with
   |some a=>((storeCells (a.add (sLen*P.cellsOf e)) new').run P w).andThen fun _ w'=> .ok (.slice base' (sLen+n) c') w'
   |none=> .ok (.slice base' (sLen+n) c') w:=by
 have t2:∀w',(sizeOf e).run P w'= .ok (P.cellsOf e) w':=fun w'=>fH hi
 rcases hu with hu|⟨e',hu⟩
 all_goals
  unfold Builtin.append_
  simp only[h0,h1,List.getElem?_toArray,List.getElem?_cons_zero,List.getElem?_cons_succ,Sem.run_bind,run_underlying hd,run_underlying hu,Result.andThen_ok,t2,Sem.run_pure,
      Bool.false_eq_true,if_false,hlen,hle,if_true,Bool.not_false,hnew]
  cases base'<;>simp
theorem Rp (hi:Inv P B ρ h w) {i b:Nat} {s:Nat×Nat} {o0:lG} (hbi:h.base≤i) (hg:h.get i=some o0) (hr:ρ i=some (b,s)):kM P B ρ h w ρ (h.set i none) w:=by
 have hget:∀j,(h.set i none).get j=if j=i then none else h.get j:=fun j=>AH.gY hbi
 have hsome:∀j,((h.set i none).get j).isSome→(h.get j).isSome∧j≠i:=fun j hj=>by
  grind
 refine {ext:=Ext.refl _,inv:=?_,un:=fun _ _ h=>h,lQ:=?_,stay:=fun j hj hn=>by grind,frame:=fun _ _ _=>rfl,range:=?_,base:=AH.Sw,tJ:=?_,next:=by simp,size:=Nat.le_refl _,os:=rfl,out:=rfl,tape:=rfl}
 ·refine {pM:=?_,inj:=?_,low:=?_,old:=?_,fresh:=?_,gM:=?_,oQ:=hi.oQ,size:=hi.size,bn:=by simp;exact hi.bn}
  ·intro j oj gj bj sj rj
   have:=hsome j (by rw[gj];rfl)
   rw[hget,if_neg this.2] at gj
   exact hi.pM j oj gj bj sj rj
  ·intro j k bb sj sk hj hk gj gk rj rk
   simp at hj hk
   exact hi.inj j k bb sj sk hj hk (hsome j gj).1 (hsome k gk).1 rj rk
  ·intro j bb sj hj gj rj
   simp at hj
   exact hi.low j bb sj hj (hsome j gj).1 rj
  ·intro j bb sj hj rj
   simp at hj
   exact hi.old j bb sj hj rj
  ·intro j hj
   simp at hj
   exact hi.fresh j hj
  ·intro j hj
   simp at hj
   rw[hget]
   split
   ·rfl
   ·exact hi.gM j hj
 ·grind
 ·intro j bb sj hj gj rj _
  exact⟨j,sj,hj,(hsome j gj).1,rj⟩
 ·intro j hj
  rw[hget,if_neg (by omega)]
theorem O4 (hi:Inv P B ρ h w) {argTypes:Array TypeId} {ty:TypeId} {s x s' x' v:Value} {h':AH} (hs:aD ρ s s') (hx:aD ρ x x') (hv:Gn P h argTypes s x=some (v,h')):
  ∃ρ' w' v',kM P B ρ h w ρ' h' w'∧aD ρ' v v'∧(Builtin.append_ argTypes ty #[s',x']).run P w= .ok v' w':=by
 unfold Gn at hv
 split at hv
 ·rename_i e base sLen sCap n hd hn
  split at hv
  ·cases hv
  ·rename_i hxk
   split at hv
   ·rename_i z new hz hnew
    obtain⟨i,zv,hinf,hzero,hzr,hzc,hzl,hzz⟩:=rJ (w:=w) hz
    have hzc':zv.cells=⟨z⟩:=by rw[←hzc]
    have hby:i.bytes=P.bytesOf e:=by simp[Program.bytesOf,hinf]
    split at hv
    ·cases hv
    ·rename_i hcell
     simp only[Bool.or_eq_true,Bool.not_eq_true',bne_iff_ne,ne_eq,not_or,Bool.not_eq_false,Decidable.not_not] at hcell
     obtain⟨hall,hnl⟩:=hcell
     obtain⟨sT,h0,hd⟩:∃sT,argTypes[0]?=some sT∧P.underlying sT=some (.slice e):=by
      grind
     obtain⟨uT,h1,hu⟩:∃uT,argTypes[1]?=some uT∧(P.underlying uT=some .string∨∃e',P.underlying uT=some (.slice e')):=by
      unfold F6 at hxk
      grind
     have hlen:=Ld (P:=P) (w:=w) hx hn
     obtain⟨new',hnrun,hnrel⟩:=Pw hi hx hnew
     have hnl':=hnrel.length
     have hid:Inv P B ρ h w.drew:=hi.of_heap rfl
     split at hv
     ·
      rename_i hle
      split at hv
      ·split at hv
       ·rename_i hn0
        cases hv;subst hn0
        simp only[aD] at hs;subst hs
        refine⟨ρ,w,.slice none sLen sCap,kM.refl hi,by simp only[aD],?_⟩
        rw[mO h0 hd hinf h1 hu hlen (by omega) hnrun]
        simp
       ·cases hv
      ·rename_i a
       obtain⟨ai,ao,asp⟩:=a
       split at hv
       ·rename_i hn0
        cases hv;subst hn0
        have:new'=[]:=List.eq_nil_of_length_eq_zero (by omega)
        subst this
        have hs0:=hs
        cases asp with
        |none=>
         simp only[aD] at hs
         obtain⟨b,sp,c',hr,hc1,hc2,rfl⟩:=hs
         refine⟨ρ,w,_,kM.refl hi,hs0,?_⟩
         rw[mO (ty:=ty) (base':=some ⟨b,ao+sp.2,none⟩) (sLen:=sLen) (c':=c') h0 hd hinf h1 hu hlen (by omega) hnrun]
         simp[storeCells]
        |some _=>
         simp only[aD] at hs
         obtain⟨rfl,rfl,a',c',_,_,rfl⟩:=hs
         refine⟨ρ,w,_,kM.refl hi,hs0,?_⟩
         rw[mO (ty:=ty) (base':=some a') (sLen:=0) (c':=c') h0 hd hinf h1 hu hlen (by omega) hnrun]
         simp[storeCells]
       ·split at hv
        ·cases hv
        ·rename_i hsp
         obtain rfl:asp=none:=by cases asp with|none=>rfl|some _=>exact absurd rfl hsp
         have hs0:=hs
         simp only[aD] at hs
         obtain⟨b,sp,c',hr,hc1,hc2,rfl⟩:=hs
         have hrun:=mO (ty:=ty) (base':=some ⟨b,ao+sp.2,none⟩) (sLen:=sLen) (c':=c') h0 hd hinf h1 hu hlen (by omega) hnrun
         simp only[cX] at hrun
         simp only[Option.map_eq_some_iff] at hv
         obtain⟨h2,hst,hv⟩:=hv
         cases hv
         rw[cX] at hst
         obtain⟨w',hrun2,hevo,_⟩:=yU hi (a:=⟨ai,ao+sLen*P.cellsOf e,none⟩) hr hst hnrel
         refine⟨ρ,w',.slice (some ⟨b,ao+sp.2,none⟩) (sLen+n) c',hevo,?_,?_⟩
         ·simp only[aD];exact⟨b,sp,c',hr,hc1,hc2,rfl⟩
         ·rw[hrun]
          rw[show ao+sLen*P.cellsOf e+sp.2=ao+sp.2+sLen*P.cellsOf e by omega] at hrun2
          rw[hrun2];rfl
     ·rename_i hgt
      split at hv
      ·rename_i hbig
       have grown:∀(base':Option Addr) (c':Nat) (old old':List Value) (ρ0:gQ) (h0':AH),¬sLen+n≤c'→aT ρ old old'→old.length=sLen*P.cellsOf e→
         (Builtin.firstCells (P.cellsOf e) sLen (.slice base' sLen c')).run P w.drew= .ok ⟨old'⟩ w.drew→kM P B ρ h w ρ h0' w→h0'.next=h.next→
         ∃ρ' w' v',kM P B ρ h w ρ' (h0'.alloc (.cells (old++new) e (0,0) false)) w'∧aD ρ' (.slice (some ⟨h.next,0,none⟩) (sLen+n) (sLen+n)) v'∧(Builtin.append_ argTypes ty #[.slice base' sLen c',x']).run P w= .ok v' w':=by
        intro base' c' old old' ρ0 h0' hgt' hold hol hor hevo hnx
        obtain⟨new2,hnrun2,hnrel2⟩:=Pw hid hx hnew
        have hrun:=Qf (ty:=ty) (base':=base') (sLen:=sLen) (c':=c') h0 hd hinf hzero hzc' h1 hu hlen hgt' (by rw[hby];exact hbig) hor hnrun2
        have hcap:=grownCap_ge w (sLen+n) c' e
        have hol':=hold.length
        have hn2:=hnrel2.length
        refine⟨_,_,_,hevo.trans (zR (s:=(grownCap w (sLen+n) c' e - (sLen+n),0)) hevo.inv (o:= .cells (old++new) e (0,0) false) (o':= .cells (⟨old'⟩++⟨new2⟩++Builtin.zeroCells zv.cells (grownCap w (sLen+n) c' e - (sLen+n))) e) (w':=w.drew.alloc (.cells (⟨old'⟩++⟨new2⟩++Builtin.zeroCells zv.cells (grownCap w (sLen+n) c' e - (sLen+n))) e)) ⟨_,rfl,?_,?_,fun hh=>by cases hh⟩ rfl rfl rfl rfl),?_,hrun⟩
        ·have e1:(old++new).length=(old'++new2).length:=by simp only[List.length_append];omega
         simp only[Array.toList_append,List.drop_zero]
         rw[e1,List.take_append_of_le_length (Nat.le_refl _),List.take_length]
         exact aT.mono (Ext.sL (hevo.inv.fresh _ (Nat.le_refl _))) _ _ (hold.append hnrel2)
        ·have e2:zv.cells.size=P.cellsOf e:=by rw[hzc'];exact hzl
         simp only[Array.size_append,size_zeroCells,List.size_toArray,List.length_append,e2]
         omega
        ·rw[hnx]
         simp only[aD]
         exact⟨_,_,_,bK,by omega,by simp only;omega,rfl⟩
       split at hv
       ·split at hv
        ·rename_i hs0
         subst hs0
         simp only[aD] at hs;subst hs
         simp only[Option.some.injEq,Prod.mk.injEq] at hv
         obtain⟨rfl,rfl⟩:=hv
         have:=grown none sCap [] [] ρ h hgt aT.nil (by simp) (by simp[Builtin.firstCells]) (kM.refl hi) rfl
         simpa using this
        ·cases hv
       ·rename_i a
        obtain⟨ai,ao,asp⟩:=a
        split at hv
        ·rename_i hsp
         simp only at hsp
         subst hsp
         split at hv
         ·rename_i hs0
          subst hs0
          simp only[aD] at hs
          obtain⟨_,rfl,a',c',hc0,_,rfl⟩:=hs
          obtain rfl:=hc0 trivial
          simp only[Option.some.injEq,Prod.mk.injEq] at hv
          obtain⟨rfl,rfl⟩:=hv
          have:=grown (some a') 0 [] [] ρ h hgt aT.nil (by simp) (by simp[Builtin.firstCells,loadCells,loadCellsFrom]) (kM.refl hi) rfl
          simpa using this
         ·cases hv
        ·split at hv
         ·
          rename_i hsp
          simp only at hsp
          subst hsp
          split at hv
          ·rename_i c e' fz xx hg
           split at hv
           ·rename_i hc
            obtain⟨rfl,hbase,rfl,hao,rfl,rfl⟩:=hc
            simp only at hao hbase
            simp only[Option.some.injEq,Prod.mk.injEq] at hv
            obtain⟨rfl,rfl⟩:=hv
            simp only[aD] at hs
            obtain⟨_,_,a',c',_,hc2,rfl⟩:=hs
            obtain⟨b,sp,hr,hsp1,hpos⟩:=hc2 trivial
            obtain⟨ob,hob,cc,rfl,hcc,hsz,hx0⟩:=hi.pM _ _ hg b sp hr
            by_cases hfit:0+n≤c'
            ·have hn0:0<n:=by omega
             obtain rfl:=hpos (by omega)
             have hb1:n*P.cellsOf e'≤c'*P.cellsOf e':=Nat.mul_le_mul_right _ (by omega)
             have hb2:c'*P.cellsOf e'≤sp.1*P.cellsOf e':=Nat.mul_le_mul_right _ hsp1
             have hone:∀v∈new',v.oneCell'=true:=by
              intro v hv'
              obtain⟨j,hj⟩:=List.getElem?_of_mem hv'
              have hjl:j<new.length:=by
               have:=(List.getElem?_eq_some_iff.1 hj).1
               omega
              obtain⟨u,hu',hru⟩:=hnrel.get (List.getElem?_eq_getElem hjl)
              rw[hj] at hu';cases hu'
              exact hru.Oq (List.all_eq_true.1 hall _ (List.getElem_mem hjl))
             obtain⟨w',hrun2,hheap,hos,hout,htape⟩:=nF (P:=P) (b:=b) (e:=e') (fz:=(0,0)) rfl new' w cc (ao+sp.2+0*P.cellsOf e') 0 hob hone (by omega)
             have hrun:=mO (ty:=ty) (base':=some ⟨b,ao+sp.2,none⟩) (sLen:=0) (c':=c') h0 hd hinf h1 hu hlen hfit hnrun
             simp only[cX] at hrun
             have hb3:(c' - n)*P.cellsOf e'=c'*P.cellsOf e' - n*P.cellsOf e':=by rw[Nat.sub_mul]
             refine⟨_,w',.slice (some ⟨b,ao+sp.2,none⟩) (0+n) c',Ro hi hbase hg hr (s':=(c' - n,ao+sp.2)) (o:= .cells new e' (0,0) false) ⟨_,rfl,?_,?_,fun hh=>by cases hh⟩ hheap hos hout htape,?_,?_⟩
             ·refine aT.mono (Ext.sL (hi.fresh _ (Nat.le_refl _))) _ _ ?_
              have ht:((bY cc.toList (ao+sp.2+0*P.cellsOf e'+0) new').drop (ao+sp.2)).take new.length=new':=by
               unfold bY
               simp only[Nat.add_zero,Nat.zero_mul]
               rw[List.append_assoc,List.drop_append_of_le_length (by simp;omega),List.drop_take,Nat.sub_self,List.take_zero,List.nil_append]
               rw[show new.length=new'.length by omega,List.take_append_of_le_length (Nat.le_refl _),List.take_length]
              show aT ρ _ (((bY cc.toList (ao+sp.2+0*P.cellsOf e'+0) new').drop (ao+sp.2)).take new.length)
              rw[ht]
              exact hnrel
             ·show ao+sp.2+new.length+(c' - n)*P.cellsOf e'≤(bY cc.toList (ao+sp.2+0*P.cellsOf e'+0) new').length
              simp only[List.length_append,bY,List.length_take,List.length_drop,Array.length_toList]
              omega
             ·simp only[aD]
              exact⟨b,_,c',bK,by omega,by simp only;omega,by simp⟩
             ·rw[hrun,hrun2];rfl
            ·have:=grown (some a') c' [] [] ρ (h.set ai none) hfit aT.nil (by simp) (by simp[Builtin.firstCells,loadCells,loadCellsFrom]) (Rp hi hbase hg hr) (by simp)
             simpa using this
           ·cases hv
          ·cases hv
         ·split at hv
          ·rename_i old c e' fz xx hold hg
           split at hv
           ·cases hv
           ·have hs0:=hs
            obtain rfl:asp=none:=by
             unfold cI at hold
             cases asp with
             |none=>rfl
             |some _=>simp at hold
            simp only[aD] at hs
            obtain⟨b,sp,c',hr,hc1,hc2,rfl⟩:=hs
            obtain⟨old',horun,horel,_,holen⟩:=oW hid (a:=⟨ai,ao,none⟩) hr hold
            have horun':(Builtin.firstCells (P.cellsOf e) sLen (.slice (some ⟨b,ao+sp.2,none⟩) sLen c')).run P w.drew= .ok ⟨old'⟩ w.drew:=horun
            obtain⟨ob,hob,cc,rfl,hcc,hsz,hx0⟩:=hi.pM _ _ hg b sp hr
            split at hv
            ·rename_i hxx
             simp only[Option.some.injEq,Prod.mk.injEq] at hv
             obtain⟨rfl,rfl⟩:=hv
             have hsp0:sp.1=0:=(hx0 hxx).1
             exact grown _ c' old old' ρ h (by omega) horel holen horun' (kM.refl hi) rfl
            ·rename_i hxx
             split at hv
             ·rename_i hc
              obtain⟨rfl,hbase,rfl,hcl⟩:=hc
              simp only at hcl hbase
              simp only[Option.some.injEq,Prod.mk.injEq] at hv
              obtain⟨rfl,rfl⟩:=hv
              by_cases hfit:sLen+n≤c'
              ·
               have hb1:(sLen+n)*P.cellsOf e'≤c'*P.cellsOf e':=Nat.mul_le_mul_right _ hfit
               have hb2:c'*P.cellsOf e'≤(sCap+sp.1)*P.cellsOf e':=Nat.mul_le_mul_right _ hc2
               rw[Nat.add_mul] at hb1 hb2
               have hone:∀v∈new',v.oneCell'=true:=by
                intro v hv'
                obtain⟨j,hj⟩:=List.getElem?_of_mem hv'
                have hjl:j<new.length:=by
                 have:=(List.getElem?_eq_some_iff.1 hj).1
                 omega
                obtain⟨u,hu',hru⟩:=hnrel.get (List.getElem?_eq_getElem hjl)
                rw[hj] at hu';cases hu'
                exact hru.Oq (List.all_eq_true.1 hall _ (List.getElem_mem hjl))
               obtain⟨w',hrun2,hheap,hos,hout,htape⟩:=nF (P:=P) (b:=b) (e:=e') (fz:=(0,0)) rfl new' w cc (ao+sp.2+sLen*P.cellsOf e') 0 hob hone (by omega)
               have hrun:=mO (ty:=ty) (base':=some ⟨b,ao+sp.2,none⟩) (sLen:=sLen) (c':=c') h0 hd hinf h1 hu hlen hfit hnrun
               simp only[cX] at hrun
               have hb3:(c' - (sLen+n))*P.cellsOf e'=c'*P.cellsOf e' - (sLen*P.cellsOf e'+n*P.cellsOf e'):=by rw[Nat.sub_mul,Nat.add_mul]
               refine⟨_,w',.slice (some ⟨b,ao+sp.2,none⟩) (sLen+n) c',Ro hi hbase hg hr (s':=(c' - (sLen+n),ao+sp.2)) (o:= .cells (old++new) e' (0,0) false) ⟨_,rfl,?_,?_,fun hh=>by cases hh⟩ hheap hos hout htape,?_,?_⟩
               ·refine aT.mono (Ext.sL (hi.fresh _ (Nat.le_refl _))) _ _ ?_
                have hcl':=hcc.length
                simp only[List.length_take,List.length_drop,Array.length_toList] at hcl'
                unfold cI at hold
                simp only[Option.isSome_none,Bool.false_eq_true,if_false,hg] at hold
                split at hold
                ·rename_i hle'
                 cases hold
                 have ht:((bY cc.toList (ao+sp.2+sLen*P.cellsOf e'+0) new').drop (ao+sp.2)).take ((c.drop ao).take (sLen*P.cellsOf e')++new).length=(cc.toList.drop (ao+sp.2)).take (sLen*P.cellsOf e')++new':=by
                  unfold bY
                  have e1:((c.drop ao).take (sLen*P.cellsOf e')++new).length=((cc.toList.drop (ao+sp.2)).take (sLen*P.cellsOf e')++new').length:=by
                   simp only[List.length_append,List.length_take,List.length_drop,Array.length_toList]
                   omega
                  rw[e1]
                  simp only[Nat.add_zero]
                  rw[List.append_assoc,List.drop_append_of_le_length (by simp;omega),List.drop_take,show ao+sp.2+sLen*P.cellsOf e' - (ao+sp.2)=sLen*P.cellsOf e' by omega,←List.append_assoc]
                  rw[List.take_append_of_le_length (Nat.le_refl _),List.take_length]
                 show aT ρ _ (((bY cc.toList (ao+sp.2+sLen*P.cellsOf e'+0) new').drop (ao+sp.2)).take ((c.drop ao).take (sLen*P.cellsOf e')++new).length)
                 rw[ht]
                 refine aT.append ?_ hnrel
                 have:=(hcc.drop ao).take (sLen*P.cellsOf e')
                 rw[List.drop_take,List.take_take,List.drop_drop,Nat.min_eq_left (by omega),Nat.add_comm sp.2 ao] at this
                 exact this
                ·cases hold
               ·show ao+sp.2+(old++new).length+(c' - (sLen+n))*P.cellsOf e'≤(bY cc.toList (ao+sp.2+sLen*P.cellsOf e'+0) new').length
                simp only[List.length_append,bY,List.length_take,List.length_drop,Array.length_toList]
                omega
               ·simp only[aD]
                exact⟨b,_,c',bK,hfit,by simp only;omega,by simp⟩
               simp_all
              ·exact grown _ c' old old' ρ (h.set ai none) hfit horel holen horun' (Rp hi hbase hg hr) (by simp)
             ·cases hv
          ·cases hv
      ·cases hv
   ·cases hv
 ·cases hv
theorem pb (hi:Inv P B ρ h w):kM P B ρ h w ρ h w.drew:=
 {kM.refl hi with inv:=hi.of_heap rfl}
theorem Kb (hi:Inv P B ρ h w) {b:Builtin} {argTypes:Array TypeId} {ty:TypeId} {consts:Array Bool} {args args':List Value} {v:Value} {h':AH} (ha:aT ρ args args') (hv:eE P h b argTypes args=some (v,h')):
  ∃ρ' w' v',kM P B ρ h w ρ' h' w'∧aD ρ' v v'∧(builtin b argTypes ty consts ⟨args'⟩).run P w= .ok (.value v') w':=by
 unfold eE at hv
 split at hv
 ·
  rename_i x
  simp only[aT] at ha
  obtain⟨x',t,hx,rfl,rfl⟩:=ha
  have key:∀(t:TypeId) (n:Nat),argTypes[0]?=some t→(Builtin.len_ argTypes ty #[x']).run P w= .ok (goInt n) w→∃ρ' w' v',kM P B ρ h w ρ' h w'∧aD ρ' (.int .i64 n) v'∧(builtin .len argTypes ty consts ⟨[x']⟩).run P w= .ok (.value v') w':=
   fun t n _ hr=>⟨ρ,w,.int .i64 n,kM.refl hi,by simp only[aD],by
    show(do pure (Next.value (←Builtin.len_ argTypes ty #[x'])):Sem Next).run P w=_
    simp only[Sem.run_bind,hr,Result.andThen_ok];rfl⟩
  cases h0:argTypes[0]? with
  |none=>grind
  |some t=>
   rw[h0] at hv
   simp only[Option.bind_some] at hv
   split at hv
   ·rename_i s hd
    simp only[Option.some.injEq,Prod.mk.injEq] at hv
    obtain⟨rfl,rfl⟩:=hv
    simp only[aD] at hx;subst hx
    exact key t _ h0 (by simp[Builtin.len_,h0,run_underlying hd])
   ·rename_i n e hd
    simp only[Option.some.injEq,Prod.mk.injEq] at hv
    obtain⟨rfl,rfl⟩:=hv
    exact key t _ h0 (by simp[Builtin.len_,h0,run_underlying hd])
   ·rename_i e hd
    split at hv
    ·rename_i n e2 hd2
     simp only[Option.some.injEq,Prod.mk.injEq] at hv
     obtain⟨rfl,rfl⟩:=hv
     exact key t _ h0 (by simp[Builtin.len_,h0,run_underlying hd,run_underlying hd2])
    ·cases hv
   ·rename_i e a n c hd
    simp only[Option.some.injEq,Prod.mk.injEq] at hv
    obtain⟨rfl,rfl⟩:=hv
    cases a with
    |none=>simp only[aD] at hx;subst hx;exact key t _ h0 (by simp[Builtin.len_,h0,run_underlying hd])
    |some a=>
     obtain⟨_,_,sp⟩:=a
     cases sp with
     |none=>simp only[aD] at hx;obtain⟨_,_,_,_,_,_,rfl⟩:=hx;exact key t _ h0 (by simp[Builtin.len_,h0,run_underlying hd])
     |some _=>simp only[aD] at hx;obtain⟨rfl,_,_,_,_,_,rfl⟩:=hx;exact key t _ h0 (by simp[Builtin.len_,h0,run_underlying hd])
   ·rename_i hd
    simp only[Option.map_eq_some_iff] at hv
    obtain⟨es,hes,hv⟩:=hv
    cases hv
    exact key t _ h0 (Io hi h0 hd hx hes)
   ·cases hv
 ·
  rename_i s x
  simp only[aT] at ha
  obtain⟨s',_,hs,⟨x',_,hx,rfl,rfl⟩,rfl⟩:=ha
  obtain⟨ρ',w',v',h1,h2,h3⟩:=O4 hi (ty:=ty) hs hx hv
  refine⟨ρ',w',v',h1,h2,?_⟩
  show(do pure (Next.value (←Builtin.append_ argTypes ty #[s',x'])):Sem Next).run P w=_
  simp_all
 ·
  rename_i d x
  simp only[aT] at ha
  obtain⟨d',_,hd',⟨x',_,hx,rfl,rfl⟩,rfl⟩:=ha
  split at hv
  ·rename_i e base dLen dCap m hd hm
   split at hv
   ·cases hv
   ·rename_i hinf
    obtain⟨i,hinf⟩:∃i,P.info? e=some i:=by cases hh:P.info? e with|none=>simp[hh] at hinf|some i=>exact⟨i,rfl⟩
    obtain⟨sT,h0,hd⟩:∃sT,argTypes[0]?=some sT∧P.underlying sT=some (.slice e):=by
     grind
    have hlen:=Ld (P:=P) (w:=w) hx hm
    split at hv
    ·rename_i new hnew
     obtain⟨new',hnrun,hnrel⟩:=Pw hi hx hnew
     have key:∀(base':Option Addr) (c':Nat),(Builtin.copy_ argTypes ty #[.slice base' dLen c',x']).run P w=
       match base' with
       |some a=>((storeCells a new').run P w).andThen fun _ w'=> .ok (goInt (Nat.min m dLen)) w'
       |none=> .ok (goInt (Nat.min m dLen)) w:=fun base' c'=>by
      cases base'<;>simp[Builtin.copy_,h0,run_underlying hd,hlen,fH hinf,hnrun]
     split at hv
     ·simp only[Option.some.injEq,Prod.mk.injEq] at hv
      obtain⟨rfl,rfl⟩:=hv
      simp only[aD] at hd';subst hd'
      refine⟨ρ,w,.int .i64 (Nat.min m dLen:Nat),kM.refl hi,by simp only[aD],?_⟩
      show(do pure (Next.value (←Builtin.copy_ argTypes ty #[_,x'])):Sem Next).run P w=_
      simp only[Sem.run_bind,key,Result.andThen_ok];rfl
     ·rename_i a
      split at hv
      ·rename_i hz
       simp only[Option.some.injEq,Prod.mk.injEq] at hv
       obtain⟨rfl,rfl⟩:=hv
       have hnil:new'=[]:=by
        rw[hz] at hnew
        have:new.length=0:=by
         unfold fU at hnew
         split at hnew
         ·grind
         ·grind
         ·simp_all
         ·cases hnew
        exact List.eq_nil_of_length_eq_zero (by rw[hnrel.length];exact this)
       subst hnil
       refine⟨ρ,w,.int .i64 0,kM.refl hi,by simp only[aD],?_⟩
       obtain⟨ai,ao,asp⟩:=a
       cases asp with
       |none=>
        simp only[aD] at hd';obtain⟨_,_,c',_,_,_,rfl⟩:=hd'
        show(do pure (Next.value (←Builtin.copy_ argTypes ty #[_,x'])):Sem Next).run P w=_
        simp only[Sem.run_bind,key,storeCells,Sem.run_pure,Result.andThen_ok,hz];rfl
       |some _=>
        simp only[aD] at hd';obtain⟨rfl,_,_,c',_,_,rfl⟩:=hd'
        show(do pure (Next.value (←Builtin.copy_ argTypes ty #[_,x'])):Sem Next).run P w=_
        simp only[Sem.run_bind,key,storeCells,Sem.run_pure,Result.andThen_ok,hz];rfl
      ·simp only[Option.map_eq_some_iff] at hv
       obtain⟨h2,hst,hv⟩:=hv
       cases hv
       obtain⟨ai,ao,asp⟩:=a
       cases asp with
       |none=>
        simp only[aD] at hd';obtain⟨b,sp,c',hr,_,_,rfl⟩:=hd'
        obtain⟨w',hrun2,hevo,_⟩:=yU hi (a:=⟨ai,ao,none⟩) hr hst hnrel
        refine⟨ρ,w',.int .i64 (Nat.min m dLen:Nat),hevo,by simp only[aD],?_⟩
        show(do pure (Next.value (←Builtin.copy_ argTypes ty #[_,x'])):Sem Next).run P w=_
        simp only[Sem.run_bind,key,hrun2,Result.andThen_ok];rfl
       |some _=>simp[dV] at hst
    ·cases hv
  ·cases hv
 ·
  rename_i x
  simp only[aT] at ha
  obtain⟨x',t,hx,rfl,rfl⟩:=ha
  have key:∀(w':World) (h':AH),kM P B ρ h w ρ h' w'→(Builtin.clear_ argTypes ty #[x']).run P w= .ok (.tuple #[]) w'→∃ρ' w' v',kM P B ρ h w ρ' h' w'∧aD ρ' (.tuple #[]) v'∧(builtin .clear argTypes ty consts ⟨[x']⟩).run P w= .ok (.value v') w':=
   fun w' h' he hr=>⟨ρ,w',.tuple #[],he,gI _ (by simp[dG,sU,jS]),by
    show(do pure (Next.value (←Builtin.clear_ argTypes ty #[x'])):Sem Next).run P w=_
    simp_all⟩
  cases h0:argTypes[0]? with
  |none=>grind
  |some t=>
   rw[h0] at hv
   simp only[Option.bind_some] at hv
   split at hv
   ·rename_i d _ _ hd
    simp only[Option.some.injEq,Prod.mk.injEq] at hv
    obtain⟨rfl,rfl⟩:=hv
    simp only[aD] at hx;subst hx
    exact key w _ (kM.refl hi) (by simp[Builtin.clear_,h0,run_underlying hd])
   ·rename_i e a n c hd
    obtain⟨ai,ao,asp⟩:=a
    split at hv
    ·rename_i hn
     subst hn
     simp only[Option.some.injEq,Prod.mk.injEq] at hv
     obtain⟨rfl,rfl⟩:=hv
     cases asp with
     |none=>
      simp only[aD] at hx;obtain⟨_,_,c',_,_,_,rfl⟩:=hx
      exact key w _ (kM.refl hi) (by simp[Builtin.clear_,h0,run_underlying hd])
     |some _=>
      simp only[aD] at hx;obtain⟨_,_,_,c',_,_,rfl⟩:=hx
      exact key w _ (kM.refl hi) (by simp[Builtin.clear_,h0,run_underlying hd])
    ·rename_i hn
     split at hv
     ·rename_i z hz
      simp only[Option.map_eq_some_iff] at hv
      obtain⟨h2,hst,hv⟩:=hv
      cases hv
      obtain⟨i,zv,hinf,hzero,hzr,hzc,hzl,hzz⟩:=rJ (w:=w) hz
      cases asp with
      |none=>
       simp only[aD] at hx;obtain⟨b,sp,c',hr,_,_,rfl⟩:=hx
       obtain⟨w',hrun2,hevo,_⟩:=yU hi (a:=⟨ai,ao,none⟩) hr hst (Am (hzz ρ) n)
       refine key w' _ hevo ?_
       have hzc':zv.cells=⟨z⟩:=by rw[←hzc]
       have hzz':=Ip hzc' hzl n
       unfold Builtin.clear_
       simp only[h0,List.getElem?_toArray,List.getElem?_cons_zero,Sem.run_bind,run_underlying hd,Result.andThen_ok]
       simp_all
      |some _=>simp[dV] at hst
     ·cases hv
   ·cases hv
 ·
  rename_i m k
  simp only[aT] at ha
  obtain⟨m',_,hm,⟨k',_,hk,rfl,rfl⟩,rfl⟩:=ha
  split at hv
  ·rename_i t h0
   simp only[Option.map_eq_some_iff] at hv
   obtain⟨h2,hd,hv⟩:=hv
   cases hv
   obtain⟨w',hr,he⟩:=Wn (ty:=ty) hi h0 hm hk hd
   refine⟨ρ,w',.tuple #[],he,gI _ (by simp[dG,sU,jS]),?_⟩
   show(do pure (Next.value (←Builtin.delete_ argTypes ty ⟨[m',k']⟩)):Sem Next).run P w=_
   simp_all
  ·cases hv
 ·
  rename_i k x k' y
  simp only[aT] at ha
  obtain⟨x',_,hx,⟨y',_,hy,rfl,rfl⟩,rfl⟩:=ha
  simp only[aD] at hx hy;subst hx;subst hy
  simp only[Option.some.injEq,Prod.mk.injEq] at hv
  obtain⟨rfl,rfl⟩:=hv
  exact⟨ρ,w,_,kM.refl hi,by simp only[aD];rfl,by simp[builtin,Builtin.min_,Builtin.min2]⟩
 ·
  rename_i k x k' y
  simp only[aT] at ha
  obtain⟨x',_,hx,⟨y',_,hy,rfl,rfl⟩,rfl⟩:=ha
  simp only[aD] at hx hy;subst hx;subst hy
  simp only[Option.some.injEq,Prod.mk.injEq] at hv
  obtain⟨rfl,rfl⟩:=hv
  exact⟨ρ,w,_,kM.refl hi,by simp only[aD];rfl,by simp[builtin,Builtin.max_,Builtin.max2]⟩
 ·cases hv
end Go.Ab
end
section
namespace Go.Ab
noncomputable section
inductive tQ where
 |iI|ret|exit (id:Nat)
structure Out where
 leave:tQ
 ds:List Nat
 env:List Value
 v:Value
inductive Task where
 |todo (fn:FuncId) (ro:Option Nat) (ds:List Nat) (env:List Value) (k:List Item)
 |ops (all:Array Oper) (rest:List Oper) (env:List Value)
 |call (f:FuncId) (args:List Value)
 |round (l:Nat) (args:List Value)
def cT (P:Program) (env:List Value):Operand→Value
 |.tmp t=>env.getD t undef
 |.const v=>if dG v then v else top
 |.global g=>if g<P.globals.size then .pointer (some ⟨g,0,none⟩) else top
 |.func f=> .func (.func f) #[] #[]
def iD (env:List Value) (d:Option Tmp) (v:Value):List Value:=
 match d with
 |some d=>env.set d v
 |none=>env
def dU (all:Array Oper) (env:List Value) (o:Oper):Option Bool:=
 match o.guard with
 |none=>some true
 |some (j,want)=>
  match((all[j]?).bind (·.dst)).bind (env[·]?) with
  |some (.bool b)=>some (b==want)
  |some (.chan _)=>none
  |_=>some false
def fN (P:Program) (g:FuncId):Bool:=
 match P.funcs[g]? with
 |some fn=>fn.body.isSome&& !(fn.name=="runtime.NumGoroutine")
 |none=>false
abbrev iM:=Task→AH→Option (Out×AH)
def gR:Builtin→Bool
 |.len|.min|.max=>true
 |_=>false
def fR (op:Op):Bool:=
 match op with
 |.call c=>(match c.callee with|.builtin b=>gR b|_=>false)
 |op=>kindOf op== .vX
def eD (P:Program) (ev:Operand→Value) (h:AH) (op:Op):Option Value:=
 match op with
 |.call c=>(match c.callee with|.builtin b=>if gR b then(eE P h b c.argTypes (c.args.toList.map ev)).map (·.1) else none|_=>none)
 |op=>bM P ev h op
def dS (P:Program) (R:iM) (ev:Operand→Value) (h:AH) (op:Op):Option (Value×AH):=
 match op with
 |.store t a x=>match ev a with
  |.pointer (some a)=>(Js P h t a (ev x)).map fun h'=>(undef,h')
  |_=>none
 |.mapUpdate t m k x=>(zO P h t (ev m) (ev k) (ev x)).map fun h'=>(undef,h')
 |.call c=>
  match c.callee with
  |.builtin b=>eE P h b c.argTypes (c.args.toList.map ev)
  |.value f=>match ev f with
   |.func (.func g) first captured=>
    if fN P g then(R (.call g (first.toList++c.args.toList.map ev++captured.toList)) h).map fun r=>(r.1.v,r.2) else none
   |.func (.yield l) first _=>(R (.round l (first.toList++c.args.toList.map ev)) h).map fun r=>(r.1.v,r.2)
   |_=>none
  |.invoke _ _=>none
 |_=>none
def kG (P:Program) (R:iM) (env:List Value) (h:AH) (op:Op):Option (Value×AH):=
 match kindOf op with
 |.vX=>(bM P (cT P env) h op).map fun v=>(v,h)
 |.alloc=>(dW P (cT P env) op).map fun r=>(r.2 h.next,h.alloc r.1)
 |.store|.call=>dS P R (cT P env) h op
 |.other=>none
def eO (o:Oper):List Nat:=(o.after.toList.filter fun e=>Region.binds .any e).map (·.on)
def sV (acc:List Nat):List Nat→Nat
 |[]=>0
 |j::l=>(1<<<j)|||(acc.getD j 0|||sV acc l)
def eK:List Oper→List Nat→List Nat
 |[],acc=>acc
 |o::os,acc=>eK os (acc++[sV acc (eO o)])
def Az (ops:List Oper) (o:Oper):List Nat:=
 (o.op.operands.toList.filterMap fun|.tmp t=>some t|_=>none)++
 (match o.guard with|some (j,_)=>((ops[j]?).bind (·.dst)).toList|none=>[])
def dF (op:Op):Bool:=(kindOf op== .store||kindOf op== .call)&& !fR op
def ahead (ps:List Nat) (i j:Nat):Bool:=(ps.getD j 0).testBit i
def D7 (ops:List Oper):Bool:=
 let ps:=eK ops []
 let n:=ops.length
 let is:=List.range n
 (ops.zipIdx.all fun(o,i)=>(eO o).all (·<i))&&
 (ops.all fun o=>match o.op with|.select _ _=>false|.defer _=>false|_=>kindOf o.op != .other)&&
 (ops.zipIdx.all fun(o,i)=>ops.zipIdx.all fun(p,j)=>i==j||(
  (o.dst.isNone||o.dst !=p.dst)&&
  (match p.dst with|some d=> !(Az ops o).contains d||(if j<i then ahead ps j i else ahead ps i j)|none=>true)&&
  (!(dF o.op&&dF p.op&&j<i)||ahead ps j i)))&&is.length==n
def Bk (ops:List Oper):List (Nat×Nat):=
 let ps:=eK ops []
 let n:=ops.length
 let tP:=(List.range n).filter fun i=>(ops[i]?).any fun o=>dF o.op
 let phases:=tP++[n]
 (List.range n).flatMap fun i=>
  if(ops[i]?).any (fun o=>fR o.op) then
   let own:=(phases.find? (i<·)).getD n
   (phases.filter fun p=>p !=own&&tP.all fun j=>if j<p then !ahead ps i j else !ahead ps j i).map fun p=>(i,p)
  else []
mutual
def mS:Value→Value→Bool
 |.bool a,.bool b=>a==b
 |.int j a,.int k b=>j==k&&a==b
 |.string a,.string b=>a==b
 |.pointer a,.pointer b=>a==b
 |.slice a l c,.slice b m d=>a==b&&l==m&&c==d
 |.map a,.map b=>a==b
 |.nilFunc,.nilFunc=>true
 |.nilIface,.nilIface=>true
 |.func f a b,.func g c d=>f==g&&Wh a c&&Wh b d
 |.iface t v,.iface u w=>t==u&&mS v w
 |.agg a,.agg b=>Wh a b
 |.tuple a,.tuple b=>Wh a b
 |_,_=>false
def Wh:Array Value→Array Value→Bool
 |⟨a⟩,b=>Hr a b.toList
def Hr:List Value→List Value→Bool
 |[],[]=>true
 |a::l,b::m=>mS a b&&Hr l m
 |_,_=>false
end
def eT (P:Program) (R:iM) (all:List Oper) (r0 i:Nat) (env:List Value) (h:AH) (o:Oper):Option (Value×AH):=
 match dU ⟨all⟩ env o with
 |none=>none
 |some false=>some (undef,h)
 |some true=>
  if fR o.op then(eD P (cT P env) h o.op).map fun v=>(v,h)
  else if kindOf o.op== .alloc then(dW P (cT P env) o.op).map fun r=>(r.2 (r0+i),h.set (r0+i) (some r.1))
  else dS P R (cT P env) h o.op
structure Rec where
 env:List Value
 h:AH
 v:Value
def fT (P:Program) (R:iM) (all:List Oper) (r0:Nat):Nat→List Oper→List Value→AH→Option (List Rec×List Value×AH)
 |_,[],env,h=>some ([],env,h)
 |i,o::os,env,h=>
  match eT P R all r0 i env h o with
  |some (v,h')=>match fT P R all r0 (i+1) os (iD env o.dst v) h' with
   |some (rs,e)=>some (⟨env,h,v⟩::rs,e)
   |none=>none
  |none=>none
def qL (P:Program) (all:List Oper) (rs:List Rec) (hEnd:AH) (x:Nat×Nat):Bool:=
 match all[x.1]?,rs[x.1]? with
 |some o,some r=>
  match dU ⟨all⟩ r.env o with
  |some true=>(match eD P (cT P r.env) (match rs[x.2]? with|some q=>q.h|none=>hEnd) o.op with|some v=>mS v r.v|none=>false)
  |_=>true
 |_,_=>false
def oV (P:Program) (R:iM) (ops:Array Oper) (env:List Value) (h:AH):Option (List Value×AH):=
 if D7 ops.toList&&(P.follows .mixedOrders|| !Region.departs ops) then
  match fT P R ops.toList h.next 0 ops.toList env {h with next:=h.next+ops.size} with
  |some (rs,env',h')=>if(Bk ops.toList).all (qL P ops.toList rs h') then some (env',h') else none
  |none=>none
 else none
def cC:List Nat→AH→Option AH
 |[],h=>some h
 |d::ds,h=>if h.base≤d then(match h.get d with|some (.marks true)=>cC ds (h.set d (some (.marks false)))|_=>none) else none
def eW (P:Program) (h:AH) (env:List Value):List ResultVar→Option (List Value)
 |[]=>some []
 |.tmp t::rs=>(eW P h env rs).map fun l=>env.getD t undef::l
 |.cell a t::rs=>match env.getD a undef with
  |.pointer (some a)=>match rB P h t a,eW P h env rs with
   |some v,some l=>some (v::l)
   |_,_=>none
  |_=>none
def oneOf (vs:List Value):Value:=
 match vs with
 |[v]=>v
 |vs=> .tuple ⟨vs⟩
def cS (h:AH) (l:Nat) (st:LoopState) (pending:Option (Option Code)):Option AH:=
 match h.get l with
 |some (.loop _ p fn tmps ps assign body d)=>if h.base≤l then some (h.set l (some (.loop st (pending.getD p) fn tmps ps assign body d))) else none
 |_=>none
def dO (P:Program) (R:iM) (fn:FuncId) (ro:Option Nat) (ds:List Nat) (env:List Value) (k:List Item) (h:AH):Option (Out×AH):=
 match k with
 |[]=>some (⟨.iI,ds,env,undef⟩,h)
 |.code c::k=>
  match c with
  |.skip=>R (.todo fn ro ds env k) h
  |.label _=>R (.todo fn ro ds env k) h
  |.seq a b=>R (.todo fn ro ds env (.code a:: .code b::k)) h
  |.cond c t e=>match cT P env c with
   |.bool b=>R (.todo fn ro ds env (.code (if b then t else e)::k)) h
   |_=>none
  |.block id b=>R (.todo fn ro ds env (.code b:: .inBlock id::k)) h
  |.loop b=>R (.todo fn ro ds env (.code b:: .inLoop b::k)) h
  |.scope b=>R (.todo fn ro ds env (.code b:: .inScope b::k)) h
  |.exit id=>match exitTo id k with
   |some k'=>R (.todo fn ro ds env k') h
   |none=>if ro.isSome then some (⟨.exit id,ds,env,undef⟩,h) else none
  |.ret=>some (⟨.ret,ds,env,undef⟩,h)
  |.region _ ops false=>match R (.ops ops ops.toList env) h with
   |some (o,h')=>R (.todo fn ro ds o.env k) h'
   |none=>none
  |.region _ ops true=>match oV P R ops env h with
   |some (env',h')=>R (.todo fn ro ds env' k) h'
   |none=>none
  |.rangeFunc f ps assign body=>
   match(match ro with
    |none=>some (h.next,h.alloc (.marks true),h.next::ds)
    |some l=>match h.get l with
     |some (.loop _ _ _ _ _ _ _ d)=>some (d,h,ds)
     |_=>none) with
   |some (d,h1,ds1)=>
    match cT P env f with
    |.func (.func g) first captured=>
     if fN P g then
      match R (.call g (first.toList++[.func (.yield h1.next) #[] #[]]++captured.toList)) (h1.alloc (.loop .ready none fn env ps assign body d)) with
      |some (_,h3)=>
       match h3.get h1.next with
       |some (.loop st p _ _ _ _ _ _)=>
        if st= .busy then none else
        match cS h3 h1.next .exhausted none with
        |some h4=>R (.todo fn ro ds1 env ((p.map Item.code).toList++k)) h4
        |none=>none
       |_=>none
      |none=>none
     else none
    |_=>none
   |none=>none
  |_=>none
 |.inBlock _::k=>R (.todo fn ro ds env k) h
 |.inScope _::k=>R (.todo fn ro ds env k) h
 |.inLoop b::k=>R (.todo fn ro ds env (.code b:: .inLoop b::k)) h
 |.beginRound::k=>
  match ro with
  |some l=>match h.get l with
   |some (.loop .ready _ _ _ _ _ _ _)=>match cS h l .busy none with
    |some h'=>R (.todo fn ro ds env k) h'
    |none=>none
   |_=>none
  |none=>none
 |_=>none
def pY (P:Program) (R:iM) (all:Array Oper) (rest:List Oper) (env:List Value) (h:AH):Option (Out×AH):=
 match rest with
 |[]=>some (⟨.iI,[],env,undef⟩,h)
 |o::rest=>
  match dU all env o with
  |none=>none
  |some false=>R (.ops all rest (iD env o.dst undef)) h
  |some true=>match kG P R env h o.op with
   |some (v,h')=>R (.ops all rest (iD env o.dst v)) h'
   |none=>none
inductive hJ where
 |val (v:Value)
 |fwd (g:FuncId) (args:List Value)
 |host (F:AH→Option (Value×AH))
def Jn:Value→Bool
 |.tuple ⟨[.int .i64 _,.bool _]⟩=>true
 |_=>false
def iL (P:Program) (K:FuncId→List Value→Option hJ) (R:iM) (f:FuncId) (args:List Value) (h:AH):Option (Out×AH):=
 match K f args with
 |some (.val v)=>some (⟨.iI,[],[],v⟩,h)
 |some (.fwd g bs)=>match R (.call g bs) h with
  |some (o,h1)=>if Jn o.v then some (⟨.iI,[],[],o.v⟩,h1) else none
  |none=>none
 |some (.host F)=>(F h).map fun r=>(⟨.iI,[],[],r.1⟩,r.2)
 |none=>
  match P.funcs[f]? with
  |some fn=>
   match fn.body with
   |some body=>
    match R (.todo f none [] (args++List.replicate (fn.ntmps - args.length) undef) [.code body]) h with
    |some (o,h1)=>
     match o.leave with
     |.exit _=>none
     |_=>match cC o.ds h1 with
      |some h2=>(eW P h2 o.env fn.results.toList).map fun vs=>(⟨.iI,[],[],oneOf vs⟩,h2)
      |none=>none
    |none=>none
   |none=>none
  |none=>none
def lH (R:iM) (l:Nat) (args:List Value) (h:AH):Option (Out×AH):=
 match h.get l with
 |some (.loop _ _ fn tmps ps assign body _)=>
  if args.length=ps.size then
   match R (.todo fn (some l) [] ((ps.toList.zip args).foldl (fun t (p,v)=>t.set p v) tmps) [.code assign,.beginRound,.code body]) h with
   |some (o,h1)=>
    if o.ds.isEmpty then
     match o.leave with
     |.iI=>(cS h1 l .ready (some none)).map fun h2=>(⟨.iI,[],[],.bool true⟩,h2)
     |.ret=>(cS h1 l .done (some (some .ret))).map fun h2=>(⟨.iI,[],[],.bool false⟩,h2)
     |.exit id=>(cS h1 l .done (some (some (.exit id)))).map fun h2=>(⟨.iI,[],[],.bool false⟩,h2)
    else none
   |none=>none
  else none
 |_=>none
def run (P:Program) (K:FuncId→List Value→Option hJ):Nat→iM
 |0,_,_=>none
 |n+1,.todo fn ro ds env k,h=>dO P (fun t h=>run P K n t h) fn ro ds env k h
 |n+1,.ops all rest env,h=>pY P (fun t h=>run P K n t h) all rest env h
 |n+1,.call f args,h=>iL P K (fun t h=>run P K n t h) f args h
 |n+1,.round l args,h=>lH (fun t h=>run P K n t h) l args h
end
end Go.Ab
end
section
namespace Go.Ab
open Go.RowKit
variable {P:Program} {B:Nat} {ρ:gQ} {h:AH} {w:World}
theorem zF (hi:Inv P B ρ h w) {env:List Value} {a:Act} (he:aT ρ env a.tmps.toList) (x:Operand):aD ρ (cT P env x) (a.eval x):=by
 cases x with
 |tmp t=>
  have:=he.getD t
  simpa [cT,Act.eval,List.getD_eq_getElem?_getD] using this
 |const v=>
  simp only[cT,Act.eval]
  split
  ·rename_i hp;exact gI v hp
  ·simp only[top,aD]
 |global g=>
  simp only[cT,Act.eval]
  split
  ·rename_i hg;simp only[aD];exact⟨g,(0,0),hi.oQ g hg,rfl⟩
  ·simp only[top,aD]
 |func f=>
  simp only[cT,Act.eval,aD,Cm]
  exact⟨_,_,_,rfl,by simp only[kN];exact aT.nil,by simp only[kN];exact aT.nil,rfl⟩
theorem Tb {env:List Value} {a:Act} {v v':Value} (d:Option Tmp) (he:aT ρ env a.tmps.toList) (hv:aD ρ v v'):aT ρ (iD env d v) (a.put d v').tmps.toList:=by
 cases d with
 |none=>exact he
 |some d=>simpa [iD,Act.put] using he.set d hv
theorem put_defers {a:Act} {d:Option Tmp} {v:Value}:(a.put d v).defers=a.defers:=by cases d<;>rfl
theorem tS:aD ρ undef undef:=gI undef (by simp[undef,dG,sU,jS])
theorem oA {all:Array Oper} {env:List Value} {a:Act} {o:Oper} {t:Bool} (he:aT ρ env a.tmps.toList) (hw:dU all env o=some t):Region.wanted o (yielded all a.tmps)=t:=by
 unfold dU at hw
 unfold Region.wanted yielded
 split at hw
 ·grind
 ·rename_i j want hg
  rw[hg]
  simp only
  cases hd:(all[j]?).bind (·.dst) with
  |none=>grind
  |some d=>
   rw[hd] at hw
   simp only[Option.bind_some] at hw ⊢
   cases hv:env[d]? with
   |none=>
    have:=he.get_none hv
    grind
   |some v=>
    obtain⟨v',hv',hr⟩:=he.get hv
    have h2:a.tmps[d]?=some v':=by simpa using hv'
    rw[hv] at hw
    rw[h2]
    cases v with
    |bool b=>simp only[aD] at hr;simp_all
    |chan r=>simp at hw
    |agg cs=>simp only[aD] at hr;grind
    |tuple cs=>simp only[aD] at hr;grind
    |iface u x=>simp only[aD] at hr;grind
    |func fn f c=>simp only[aD] at hr;grind
    |pointer p=>cases p with
     |none=>simp only[aD] at hr;grind
     |some p=>simp only[aD] at hr;grind
    |map p=>cases p with
     |none=>simp only[aD] at hr;grind
     |some p=>simp only[aD] at hr;grind
    |slice p _ _=>cases p with
     |none=>simp only[aD] at hr;grind
     |some p=>
      obtain⟨_,_,sp⟩:=p
      cases sp with
      |none=>simp only[aD] at hr;grind
      |some _=>simp only[aD] at hr;grind
    |_=>simp only[aD] at hr;grind
section steps
variable {b:Frame} {a:Act} {k:List Item} {cs:List Frame} {all:Array Oper} {i:Nat} {is:List Nat} {o:Oper}
theorem Lz (ho:all[i]?=some o) (hw:Region.wanted o (yielded all a.tmps)=true) (hd:∀c,o.op≠.defer c) {v:Value} {w w':World} (hr:(execOp a.eval o).run P w= .ok (.value v) w'):
  step P (lone (b.atR a (.inRegion all (i::is)::k)) cs w)= .next (lone (b.atR (a.put o.dst v) (.inRegion all is::k)) cs w'):=by
 refine step_lone_go ?_
 rw[stepGR_op ho hw,Oper.semAt_eq _ _ _ hd]
 simp[stepG.apply,Sem.runT_eq,hr,GStep.bare_after,Frame.finish_atR,ho]
theorem yz (ho:all[i]?=some o) (hw:Region.wanted o (yielded all a.tmps)=true) (hd:∀c,o.op≠.defer c) {w w':World} (hr:(execOp a.eval o).run P w= .ok .skip w'):
  step P (lone (b.atR a (.inRegion all (i::is)::k)) cs w)= .next (lone (b.atR (a.put o.dst undef) (.inRegion all is::k)) cs w'):=by
 refine step_lone_go ?_
 rw[stepGR_op ho hw,Oper.semAt_eq _ _ _ hd]
 simp[stepG.apply,Sem.runT_eq,hr,GStep.bare_after,Frame.finish_atR,ho]
theorem aEd (ho:all[i]?=some o) (hw:Region.wanted o (yielded all a.tmps)=true) (hd:∀c,o.op≠.defer c) {f:FuncId} {args:Array Value} {w w':World} (hr:(execOp a.eval o).run P w= .ok (.enter f args) w'):
  step P (lone (b.atR a (.inRegion all (i::is)::k)) cs w)= .next (lone (Frame.enter P f args .normal) (b.atR a (.inRegion all (i::is)::k)::cs) w'):=by
 refine step_lone_go ?_
 rw[stepGR_op ho hw,Oper.semAt_eq _ _ _ hd]
 simp[stepG.apply,Sem.runT_eq,hr,GStep.bare_after,Frame.atR]
theorem aA8 (ho:all[i]?=some o) (hw:Region.wanted o (yielded all a.tmps)=true) (hd:∀c,o.op≠.defer c) {l:Nat} {f:FuncId} {tmps:Array Value} {as bd:Code} {w w':World} (hr:(execOp a.eval o).run P w= .ok (.round l f tmps as bd) w'):
  step P (lone (b.atR a (.inRegion all (i::is)::k)) cs w)= .next (lone (Frame.round l f tmps as bd .normal) (b.atR a (.inRegion all (i::is)::k)::cs) w'):=by
 refine step_lone_go ?_
 rw[stepGR_op ho hw,Oper.semAt_eq _ _ _ hd]
 simp[stepG.apply,Sem.runT_eq,hr,GStep.bare_after,Frame.atR]
end steps
def Lp (ρ:gQ):Option Nat→Option Nat→Prop
 |none,r=>r=none
 |some l,r=>∃b s,ρ l=some (b,s)∧r=some b
def Kg (ρ:gQ):List Nat→List Deferred→Prop
 |[],ds=>ds=[]
 |d::l,ds=>∃b s t,ρ d=some (b,s)∧Kg ρ l t∧ds={target:= .collected b,args:= #[]}::t
theorem Lp.mono {ρ ρ':gQ} (h:Ext ρ ρ') {r r':Option Nat} (k:Lp ρ r r'):Lp ρ' r r':=by
 cases r with
 |none=>exact k
 |some l=>obtain⟨b,s,h1,h2⟩:=k;exact⟨b,s,h _ _ h1,h2⟩
theorem Kg.mono {ρ ρ':gQ} (h:Ext ρ ρ'):∀{l:List Nat} {ds:List Deferred},Kg ρ l ds→Kg ρ' l ds
 |[],_,k=>k
 |_::_,_,⟨b,s,t,h1,h2,h3⟩=>⟨b,s,t,h _ _ h1,Kg.mono h h2,h3⟩
def T4:tQ→List Item→Prop
 |.iI,k=>k=[]
 |.ret,k=>∃k2,k= .code .ret::k2
 |.exit id,k=>∃k2,k= .code (.exit id)::k2∧exitTo id k2=none
def Xs (all:Array Oper):List Nat→List Oper→Prop
 |[],[]=>True
 |i::is,o::os=>all[i]?=some o∧Xs all is os
 |_,_=>False
structure aC2 (a b:Nat) (w w':World):Prop where
 B7:∀i,i<w.heap.size→(i<a∨b≤i)→w'.heap[i]?=w.heap[i]?
 size:w.heap.size≤w'.heap.size
 os:w'.os=w.os
 out:w'.output=w.output
 tape:w'.tape=w.tape
structure px (a:Nat) (w w':World):Prop where
 B7:∀i,a≤i→i<w.heap.size→w'.heap[i]?=w.heap[i]?
 size:w.heap.size≤w'.heap.size
 os:w'.os=w.os
 out:w'.output=w.output
 tape:w'.tape=w.tape
structure Ctx (P:Program) (B:Nat) (K:FuncId→List Value→Option hJ) where
 G:World→Prop
 B7:∀w w',Below B w w'→G w→G w'
 call:∀f args v w,K f args=some (.val v)→G w→jS args=true∧Calls P f ⟨args⟩ w fun e w'=>(∃v',e= .returned v'∧∀ρ,aD ρ v v')∧Below w.heap.size w w'
 fwd:∀f args g bs,K f args=some (.fwd g bs)→∀(ρ:gQ) (args':List Value) (w:World),aT ρ args args'→G w→
  ∃(bs':List Value) (w1:World),aT ρ bs bs'∧Below w.heap.size w w1∧∀(v:Value) (S:World→Prop),Jn v=true→
   Calls P g ⟨bs'⟩ w1 (fun e w'=>e= .returned v∧px w.heap.size w1 w'∧S w')→
    Calls P f ⟨args'⟩ w (fun e w'=>e= .returned v∧∃w2,S w2∧aC2 w.heap.size w1.heap.size w2 w')
 host:∀f args F,K f args=some (.host F)→∀(h:AH) (v:Value) (h':AH),F h=some (v,h')→∀(ρ:gQ) (w:World) (args':List Value),Inv P B ρ h w→G w→aT ρ args args'→
  Calls P f ⟨args'⟩ w fun e w'=>∃ρ' v',e= .returned v'∧aD ρ' v v'∧kM P B ρ h w ρ' h' w'
variable {K:FuncId→List Value→Option hJ}
def Y3 (C:Ctx P B K) (f:FuncId) (args:List Value) (h:AH) (v:Value) (h':AH):Prop:=
 ∀(ρ:gQ) (w:World) (args':List Value),Inv P B ρ h w→C.G w→aT ρ args args'→
  Calls P f ⟨args'⟩ w fun e w'=>∃ρ' v',e= .returned v'∧aD ρ' v v'∧kM P B ρ h w ρ' h' w'
def S2 (C:Ctx P B K) (l:Nat) (args:List Value) (h:AH) (v:Value) (h':AH):Prop:=
 ∀(ρ:gQ) (w:World) (args':List Value) (lb:Nat) (s:Nat×Nat),Inv P B ρ h w→C.G w→aT ρ args args'→ρ l=some (lb,s)→
  ∃f tmps as bd,(Instr.yield lb ⟨args'⟩).run P w= .ok (.round lb f tmps as bd) w∧
   ∀(c:Frame) (cs:List Frame),∃ρ' v' w',aD ρ' v v'∧kM P B ρ h w ρ' h' w'∧Steps P (lone (Frame.round lb f tmps as bd .normal) (c::cs) w) (lone (c.finish v') cs w')
def F8 (C:Ctx P B K) (fn:FuncId) (ro:Option Nat) (ds:List Nat) (env:List Value) (k:List Item) (h:AH) (out:Out) (h':AH):Prop:=
 ∀(ρ:gQ) (w:World) (b:Frame) (a:Act) (cs:List Frame),Inv P B ρ h w→C.G w→b.fn=fn→Lp ρ ro b.roundOf→aT ρ env a.tmps.toList→Kg ρ ds a.defers→
  ∃ρ' w' a' k',kM P B ρ h w ρ' h' w'∧aT ρ' out.env a'.tmps.toList∧Kg ρ' out.ds a'.defers∧Steps P (lone (b.atR a k) cs w) (lone (b.atR a' k') cs w')∧T4 out.leave k'
def na (C:Ctx P B K) (all:Array Oper) (rest:List Oper) (env:List Value) (h:AH) (out:Out) (h':AH):Prop:=
 ∀(ρ:gQ) (w:World) (b:Frame) (a:Act) (cs:List Frame) (is:List Nat) (k:List Item),Inv P B ρ h w→C.G w→aT ρ env a.tmps.toList→Xs all is rest→
  ∃ρ' w' a',kM P B ρ h w ρ' h' w'∧aT ρ' out.env a'.tmps.toList∧a'.defers=a.defers∧Steps P (lone (b.atR a (.inRegion all is::k)) cs w) (lone (b.atR a' (.inRegion all []::k)) cs w')
def Sim (C:Ctx P B K):Task→AH→Out→AH→Prop
 |.todo fn ro ds env k,h,out,h'=>F8 C fn ro ds env k h out h'
 |.ops all rest env,h,out,h'=>na C all rest env h out h'
 |.call f args,h,out,h'=>Y3 C f args h out.v h'
 |.round l args,h,out,h'=>S2 C l args h out.v h'
def zX (C:Ctx P B K) (R:iM):Prop:=∀t h out h',R t h=some (out,h')→Sim C t h out h'
theorem kM.G (C:Ctx P B K) (hi:Inv P B ρ h w) {ρ':gQ} {h':AH} {w':World} (e:kM P B ρ h w ρ' h' w') (hg:C.G w):C.G w':=C.B7 _ _ (e.below hi) hg
def j7 (P:Program) (B:Nat) (ρ:gQ) (h:AH) (w:World) (b:Frame) (a:Act) (all:Array Oper) (i:Nat) (is:List Nat) (k:List Item) (cs:List Frame) (o:Oper) (v:Value) (h':AH):Prop:=
 ∃ρ' w' v',kM P B ρ h w ρ' h' w'∧aD ρ' v v'∧Steps P (lone (b.atR a (.inRegion all (i::is)::k)) cs w) (lone (b.atR (a.put o.dst v') (.inRegion all is::k)) cs w')
theorem Dj {g:FuncId} (hc:fN P g=true) (args:Array Value):(callFunc g args).run P w= .ok (.enter g args) w:=by
 unfold fN at hc
 cases hf:P.funcs[g]? with
 |none=>simp[hf] at hc
 |some fn=>
  rw[hf] at hc
  simp only[Bool.and_eq_true,Bool.not_eq_true'] at hc
  have hb:fn.body.isNone=false:=by simp_all
  simp only[callFunc,Sem.run_bind,run_program,Result.andThen_ok,hf,hc.2,Bool.false_eq_true,if_false,hb,Sem.run_pure]
theorem yJ (C:Ctx P B K) {R:iM} (hR:zX C R) (hi:Inv P B ρ h w) (hg:C.G w) {ev:Operand→Value} {b:Frame} {a:Act} (hev:∀x,aD ρ (ev x) (a.eval x)) {all:Array Oper} {i:Nat} {is:List Nat}
  (k:List Item) (cs:List Frame) {o:Oper} (ho:all[i]?=some o) (hw:Region.wanted o (yielded all a.tmps)=true) {v:Value} {h':AH} (hv:dS P R ev h o.op=some (v,h')):
  j7 P B ρ h w b a all i is k cs o v h':=by
 obtain⟨dst,op,ty,pos,after,guard⟩:=o
 simp only at hv
 unfold dS at hv
 split at hv
 ·
  rename_i t x y
  split at hv
  ·rename_i ad hx
   simp only[Option.map_eq_some_iff] at hv
   obtain⟨h2,hst,hv⟩:=hv
   cases hv
   have h1:=hev x
   rw[hx] at h1
   obtain⟨w',hr,hevo⟩:=Td hi h1 (hev y) hst
   refine⟨ρ,w',undef,hevo,tS,.one (yz ho hw (fun c hc=>by cases hc) ?_)⟩
   simp[execOp,hr]
  ·cases hv
 ·
  rename_i t m k x
  simp only[Option.map_eq_some_iff] at hv
  obtain⟨h2,hst,hv⟩:=hv
  cases hv
  obtain⟨w',hr,hevo⟩:=Vr hi (hev m) (hev k) (hev x) hst
  refine⟨ρ,w',undef,hevo,tS,.one (yz ho hw (fun c hc=>by cases hc) ?_)⟩
  simp[execOp,hr]
 ·rename_i c
  obtain⟨callee,args,argTypes⟩:=c
  simp only at hv
  split at hv
  ·
   rename_i bi
   obtain⟨ρ',w',v',hevo,hrel,hr⟩:=Kb (ty:=ty) (consts:=args.map fun|.const _=>true|_=>false) (args':=args.toList.map a.eval) hi (aT.Ar hev _) hv
   refine⟨ρ',w',v',hevo,hrel,.one (Lz ho hw (fun c hc=>by cases hc) ?_)⟩
   have:args.map a.eval=⟨args.toList.map a.eval⟩:=Array.ext' (by simp)
   simp only[execOp,resolve,Sem.run_bind,Sem.run_pure,Result.andThen_ok,invoke]
   grind
  ·rename_i f
   split at hv
   ·
    rename_i g first captured hf
    split at hv
    ·rename_i hcal
     simp only[Option.map_eq_some_iff] at hv
     obtain⟨⟨out,h2⟩,hrun,hv⟩:=hv
     cases hv
     have h1:=hev f
     rw[hf] at h1
     simp only[aD,Cm] at h1
     obtain⟨_,fs',cs',rfl,hfs,hcs,hfe⟩:=h1
     have hargs:aT ρ (first.toList++args.toList.map ev++captured.toList) (fs'.toList++args.toList.map a.eval++cs'.toList):=
      ((hZ.1 hfs).append (aT.Ar hev _)).append (hZ.1 hcs)
     have hcall:=hR _ _ _ _ hrun ρ w _ hi hg hargs (b.atR a (.inRegion all (i::is)::k)::cs)
     obtain⟨e,w',fr,⟨ρ',v',rfl,hrel,hevo⟩,hcomes,_,hleave⟩:=hcall
     refine⟨ρ',w',v',hevo,hrel,?_⟩
     have hent:(execOp a.eval {dst:=dst,op:= .call {callee:= .value f,args:=args,argTypes:=argTypes},type:=ty,pos:=pos,after:=after,guard:=guard}).run P w= .ok (.enter g ⟨fs'.toList++args.toList.map a.eval++cs'.toList⟩) w:=by
      simp only[execOp,resolve,Sem.run_bind,hfe,Deferred.ofValue,Sem.run_pure,Result.andThen_ok,invoke,Dj hcal]
      simp_all
     refine .head (aEd ho hw (fun c hc=>by cases hc) hent) (Steps.trans hcomes (.one ?_))
     rw[step_leave_returned hleave,Frame.finish_atR,ho]
     rfl
    ·cases hv
   ·
    rename_i l first captured hf
    simp only[Option.map_eq_some_iff] at hv
    obtain⟨⟨out,h2⟩,hrun,hv⟩:=hv
    cases hv
    have h1:=hev f
    rw[hf] at h1
    simp only[aD,Cm] at h1
    obtain⟨_,fs',cs',⟨lb,s,hl,rfl⟩,hfs,hcs,hfe⟩:=h1
    have hargs:aT ρ (first.toList++args.toList.map ev) (fs'.toList++args.toList.map a.eval):=
     (hZ.1 hfs).append (aT.Ar hev _)
    obtain⟨fn,tmps,as,bd,hy,hround⟩:=hR _ _ _ _ hrun ρ w _ lb s hi hg hargs hl
    obtain⟨ρ',v',w',hrel,hevo,hsteps⟩:=hround (b.atR a (.inRegion all (i::is)::k)) cs
    refine⟨ρ',w',v',hevo,hrel,?_⟩
    have hent:(execOp a.eval {dst:=dst,op:= .call {callee:= .value f,args:=args,argTypes:=argTypes},type:=ty,pos:=pos,after:=after,guard:=guard}).run P w= .ok (.round lb fn tmps as bd) w:=by
     simp only[execOp,resolve,Sem.run_bind,hfe,Deferred.ofValue,Sem.run_pure,Result.andThen_ok,invoke]
     have:fs'++args.map a.eval=⟨fs'.toList++args.toList.map a.eval⟩:=Array.ext' (by simp)
     grind
    have hs:=Steps.head (aA8 ho hw (fun c hc=>by cases hc) hent) hsteps
    rw[Frame.finish_atR,ho] at hs
    exact hs
   ·cases hv
  ·cases hv
 ·cases hv
theorem mX {op:Op} (h:kindOf op≠.other):∀c,op≠.defer c:=by
 intro c hc
 subst hc
 exact h rfl
theorem Pn (C:Ctx P B K) {R:iM} (hR:zX C R) (hi:Inv P B ρ h w) (hg:C.G w) {env:List Value} {b:Frame} {a:Act} (he:aT ρ env a.tmps.toList) {all:Array Oper} {i:Nat} {is:List Nat}
  (k:List Item) (cs:List Frame) {o:Oper} (ho:all[i]?=some o) (hw:Region.wanted o (yielded all a.tmps)=true) {v:Value} {h':AH} (hv:kG P R env h o.op=some (v,h')):
  j7 P B ρ h w b a all i is k cs o v h':=by
 have hev:=zF hi he
 unfold kG at hv
 split at hv
 ·rename_i hk
  simp only[Option.map_eq_some_iff] at hv
  obtain⟨u,hu,hv⟩:=hv
  cases hv
  obtain⟨v',hr,hrel⟩:=E8 hi hev o hu
  exact⟨ρ,w,v',kM.refl hi,hrel,.one (Lz ho hw (mX (by rw[hk];simp)) hr)⟩
 ·rename_i hk
  simp only[Option.map_eq_some_iff] at hv
  obtain⟨⟨bl,f⟩,hu,hv⟩:=hv
  cases hv
  obtain⟨o',g,hb,hr,hval⟩:=Fg (P:=P) (w:=w) hev o hu
  have hb':rZ P (sL ρ h.next (w.heap.size,(0,0))) (0,0) bl o':=hb.mono (Ext.sL (hi.fresh _ (Nat.le_refl _)))
  exact⟨_,w.alloc o',g w.heap.size,zR hi hb' rfl rfl rfl rfl,hval _ _ (0,0) rfl bK,.one (Lz ho hw (mX (by rw[hk];simp)) hr)⟩
 ·exact yJ C hR hi hg hev k cs ho hw hv
 ·exact yJ C hR hi hg hev k cs ho hw hv
 ·cases hv
theorem az (C:Ctx P B K) {R:iM} (hR:zX C R) {all:Array Oper} {rest:List Oper} {env:List Value} {h:AH} {out:Out} {h':AH}
  (hr:pY P R all rest env h=some (out,h')):na C all rest env h out h':=by
 intro ρ w b a cs is k hi hg he hat
 unfold pY at hr
 split at hr
 ·cases hr
  cases is with
  |nil=>exact⟨ρ,w,a,kM.refl hi,he,rfl,Steps.refl _ _⟩
  |cons i is=>exact hat.elim
 ·rename_i o rest
  cases is with
  |nil=>exact hat.elim
  |cons i is=>
   obtain⟨ho,hat⟩:=hat
   split at hr
   ·cases hr
   ·rename_i hw
    have hw':=oA he hw
    obtain⟨ρ',w',a',h1,h2,h3,h4⟩:=hR _ _ _ _ hr ρ w b (a.put o.dst undef) cs is k hi hg (Tb _ he tS) hat
    refine⟨ρ',w',a',h1,h2,h3.trans put_defers,.head ?_ h4⟩
    have:=stepR_op_skip (P:=P) (b:=b) (a:=a) (k:=k) (cs:=cs) (w:=w) (ops:=all) (i:=i) (rest:=is) (by grind)
    grind
   ·rename_i hw
    have hw':=oA he hw
    split at hr
    ·rename_i v h2 hst
     obtain⟨ρ1,w1,v1,e1,r1,s1⟩:=Pn C hR hi hg he k cs ho hw' (b:=b) (is:=is) hst
     obtain⟨ρ',w',a',g1,g2,g3,g4⟩:=hR _ _ _ _ hr ρ1 w1 b (a.put o.dst v1) cs is k e1.inv (e1.G C hi hg) (Tb _ (aT.mono e1.ext _ _ he) r1) hat
     exact⟨ρ',w',a',e1.trans g1,g2,g3.trans put_defers,s1.trans g4⟩
    ·cases hr
end Go.Ab
end
section
namespace Go.Ab
open Go.RowKit
variable {P:Program} {B:Nat} {ρ:gQ} {h:AH} {w:World} {K:FuncId→List Value→Option hJ}
theorem vD (hi:Inv P B ρ h w) {w':World} (hb:Below w.heap.size w w'):kM P B ρ h w ρ h w':=
 {kM.refl hi with
  inv:={
   pM:=fun i o hg b s hr=>by
    obtain⟨o',h1,h2⟩:=hi.pM i o hg b s hr
    exact⟨o',(hb.block b (Array.getElem?_eq_some_iff.1 h1).1).trans h1,h2⟩
   inj:=hi.inj,low:=hi.low,old:=hi.old,fresh:=hi.fresh,gM:=hi.gM,oQ:=hi.oQ,size:=Nat.le_trans hi.size hb.size,bn:=hi.bn}
  frame:=fun b hlt _=>hb.block b hlt
  size:=hb.size
  os:=hb.os
  out:=hb.output
  tape:=hb.tape}
theorem ra (hi:Inv P B ρ h w) {w1 w2 w':World} (hbel:Below w.heap.size w w1) {ρ':gQ} {h':AH} (hev:kM P B ρ h w1 ρ' h' w2) (hga:aC2 w.heap.size w1.heap.size w2 w'):kM P B ρ h w ρ' h' w':=by
 have hlow:∀j b s,(h.get j).isSome→ρ j=some (b,s)→b<w.heap.size:=fun j b s hs hr=>by
  obtain⟨oj,hoj⟩:=Option.isSome_iff_exists.1 hs
  obtain⟨o',ho',_⟩:=hi.pM j oj hoj b s hr
  grind
 exact {hev with
  inv:={hev.inv with
   pM:=fun i o hg b s hr=>by
    obtain⟨o',h1,h2⟩:=hev.inv.pM i o hg b s hr
    have hb2:=(Array.getElem?_eq_some_iff.1 h1).1
    refine⟨o',?_,h2⟩
    rw[hga.B7 b hb2]
    ·exact h1
    ·rcases Nat.lt_or_ge i h.base with hib|hib
     ·left
      have:=hev.inv.old i b s (by rw[hev.base];exact hib) hr
      have:=hi.size
      omega
     ·rcases Nat.lt_or_ge b w1.heap.size with hb|hb
      ·left
       obtain⟨j,s',hj,hjs,hjr⟩:=hev.range i b s hib (by rw[hg];rfl) hr hb
       grind
      ·exact .inr hb
   size:=Nat.le_trans hev.inv.size hga.size}
  frame:=fun b hb hn=>by
   rw[hga.B7 b (Nat.lt_of_lt_of_le hb (Nat.le_trans hbel.size hev.size)) (.inl hb),hev.frame b (Nat.lt_of_lt_of_le hb hbel.size) hn,hbel.block b hb]
  range:=fun i b s h1 h2 h3 hb=>hev.range i b s h1 h2 h3 (Nat.lt_of_lt_of_le hb hbel.size)
  size:=Nat.le_trans hbel.size (Nat.le_trans hev.size hga.size)
  os:=by rw[hga.os,hev.os,hbel.os]
  out:=by rw[hga.out,hev.out,hbel.output]
  tape:=by rw[hga.tape,hev.tape,hbel.tape]}
mutual
theorem tK {ρ:gQ}:∀(v v':Value),dG v=true→aD ρ v v'→v'=v
 |.bool _,_,_,k=>by simp only[aD] at k;exact k
 |.int _ _,_,_,k=>by simp only[aD] at k;exact k
 |.float _ _,_,_,k=>by simp only[aD] at k;exact k
 |.complex _ _ _,_,_,k=>by simp only[aD] at k;exact k
 |.string _,_,_,k=>by simp only[aD] at k;exact k
 |.pointer none,_,_,k=>by simp only[aD] at k;exact k
 |.pointer (some _),_,h,_=>by simp[dG] at h
 |.slice none _ _,_,_,k=>by simp only[aD] at k;exact k
 |.slice (some _) _ _,_,h,_=>by simp[dG] at h
 |.map none,_,_,k=>by simp only[aD] at k;exact k
 |.map (some _),_,h,_=>by simp[dG] at h
 |.chan _,_,h,_=>by simp[dG] at h
 |.func _ _ _,_,h,_=>by simp[dG] at h
 |.nilFunc,_,_,k=>by simp only[aD] at k;exact k
 |.iface _ v,_,h,k=>by
  simp only[aD] at k;simp only[dG] at h
  obtain⟨u,hu,rfl⟩:=k
  rw[tK v u h hu]
 |.nilIface,_,_,k=>by simp only[aD] at k;exact k
 |.agg cs,_,h,k=>by
  simp only[aD] at k;simp only[dG] at h
  obtain⟨u,hu,rfl⟩:=k
  rw[Mh cs u h hu]
 |.tuple cs,_,h,k=>by
  simp only[aD] at k;simp only[dG] at h
  obtain⟨u,hu,rfl⟩:=k
  rw[Mh cs u h hu]
theorem Mh {ρ:gQ}:∀(v v':Array Value),sU v=true→kN ρ v v'→v'=v
 |⟨l⟩,a,h,k=>by
  simp only[sU] at h;simp only[kN] at k
  have:=Dx l a.toList h k
  grind
theorem Dx {ρ:gQ}:∀(l l':List Value),jS l=true→aT ρ l l'→l'=l
 |[],_,_,k=>by simp only[aT] at k;exact k
 |v::l,_,h,k=>by
  simp only[aT] at k;simp only[jS,Bool.and_eq_true] at h
  obtain⟨v',t',h1,h2,rfl⟩:=k
  rw[tK v v' h.1 h1,Dx l t' h.2 h2]
end
theorem uV (hi:Inv P B ρ h w) {env:List Value} {tmps:Array Value} (he:aT ρ env tmps.toList):∀(rs:List ResultVar) (vs:List Value),eW P h env rs=some vs→
  ∃vs',(rs.mapM (m:=Sem) fun|.tmp t=>pure (tmps.getD t undef)|.cell a t=>do loadVar t (←asAddr (tmps.getD a undef))).run P w= .ok vs' w∧aT ρ vs vs'
 |[],vs,hv=>by simp only[eW,Option.some.injEq] at hv;subst hv;exact⟨[],by simp,aT.nil⟩
 |.tmp t::rs,vs,hv=>by
  simp only[eW,Option.map_eq_some_iff] at hv
  obtain⟨l,hl,rfl⟩:=hv
  obtain⟨vs',hr,hrel⟩:=uV hi he rs l hl
  refine⟨tmps.getD t undef::vs',?_,aT.cons ?_ hrel⟩
  ·simp_all
  ·have:=he.getD t;simp_all
 |.cell a t::rs,vs,hv=>by
  simp only[eW] at hv
  split at hv
  ·rename_i ad ha
   split at hv
   ·rename_i v l h1 h2
    cases hv
    obtain⟨vs',hr,hrel⟩:=uV hi he rs l h2
    have hp:aD ρ (env.getD a undef) (tmps.getD a undef):=by have:=he.getD a;simp_all
    rw[ha] at hp
    obtain⟨v',hv',hvr⟩:=Jr hi hp h1
    refine⟨v'::vs',?_,aT.cons hvr hrel⟩
    simp only[aD] at hp
    obtain⟨b,s,_,hpe⟩:=hp
    have hl:(do loadVar t (←asAddr (tmps.getD a undef)):Sem Value).run P w= .ok v' w:=by
     rw[hpe] at hv' ⊢
     simp only[Instr.loadAt,Instr.sureAddr,Sem.run_bind,Sem.run_pure,Result.andThen_ok] at hv'
     simp only[asAddr,Sem.run_bind,Sem.run_pure,Result.andThen_ok,hv']
    simp only[List.mapM_cons]
    rw[Sem.run_bind,hl]
    simp_all
   ·cases hv
  ·cases hv
theorem Rb (hi:Inv P B ρ h w) {env:List Value} {tmps:Array Value} (he:aT ρ env tmps.toList) {fn:Func} {vs:List Value} (hv:eW P h env fn.results.toList=some vs):
  ∃v',(results fn tmps).run P w= .ok v' w∧aD ρ (oneOf vs) v':=by
 obtain⟨vs',hr,hrel⟩:=uV hi he _ _ hv
 have hm:(fn.results.mapM (m:=Sem) fun|.tmp t=>pure (tmps.getD t undef)|.cell a t=>do loadVar t (←asAddr (tmps.getD a undef))).run P w= .ok ⟨vs'⟩ w:=by
  rw[Array.mapM_eq_mapM_toList]
  simp_all
 refine⟨oneOf vs',?_,?_⟩
 ·unfold results
  rw[Sem.run_bind]
  generalize hX:Sem.run P (Array.mapM _ fn.results) w=X
  have hX':X= .ok ⟨vs'⟩ w:=hX.symm.trans hm
  rw[hX']
  simp only[Result.andThen_ok,Sem.run_pure,Result.ok.injEq,and_true]
  match vs' with
  |[]=>rfl
  |[v]=>rfl
  |v::u::l=>simp[oneOf]
 ·match vs,vs',hrel with
  |[],[],_=>simp only[oneOf,aD];exact⟨_,by simp only[kN];exact aT.nil,rfl⟩
  |[v],[v'],hh=>exact(aT.Sr.1 hh).1
  |v::u::l,v'::u'::l',hh=>simp only[oneOf,aD];exact⟨_,by simp only[kN];exact hh,rfl⟩
  |[],_::_,hh=>simp[aT] at hh
  |[_],[],hh=>have:=hh.length;simp at this
  |[_],_::_::_,hh=>have:=hh.length;simp at this
  |_::_::_,[],hh=>have:=hh.length;simp at this
  |_::_::_,[_],hh=>have:=hh.length;simp at this
theorem step_collected {fr:Frame} {cs:List Frame} {r:Nat} {args:Array Value} {ds:List Deferred} {w':World} (hm:fr.mode= .returning) (hd:fr.defers={target:= .collected r,args:=args}::ds)
  (hr:(Instr.takeDeferred r).run P w= .ok [] w'):step P (lone fr cs w)= .next (lone {fr with defers:=ds} cs w'):=
 step_lone_go (by simp[stepG,unwind,hm,hd,Sem.runT_eq,hr,GStep.bare_after])
theorem E1:∀(ds:List Nat) (h h2:AH) (w:World) (fr:Frame) (cs:List Frame),cC ds h=some h2→Inv P B ρ h w→Kg ρ ds fr.defers→fr.mode= .returning→
  ∃w',kM P B ρ h w ρ h2 w'∧Steps P (lone fr cs w) (lone {fr with defers:=[]} cs w')
 |[],h,h2,w,fr,cs,hc,hi,hd,_=>by
  simp only[cC,Option.some.injEq] at hc;subst hc
  simp only[Kg] at hd
  refine⟨w,kM.refl hi,?_⟩
  rw[←hd]
  exact Steps.refl _ _
 |d::ds,h,h2,w,fr,cs,hc,hi,hd,hm=>by
  simp only[cC] at hc
  split at hc
  ·rename_i hbase
   split at hc
   ·rename_i hg
    obtain⟨b,s,t,hr,ht,hdt⟩:=hd
    obtain⟨o',ho,hb⟩:=hi.pM _ _ hg b s hr
    simp only[rZ,if_true] at hb
    subst hb
    have hnc:∀c e f,Obj.deferred (some [])≠.cells c e f:=fun _ _ _ hh=>by cases hh
    have hrun:(Instr.takeDeferred b).run P w= .ok [] {w with heap:=w.heap.setIfInBounds b (.deferred none)}:=by
     simp only[Instr.takeDeferred,Sem.run_bind,Aq ho hnc,Result.andThen_ok,qU ho hnc,Sem.run_pure]
    have hevo:=vP hi hbase hg hr (o:= .marks false) (o':= .deferred none) (w':={w with heap:=w.heap.setIfInBounds b (.deferred none)}) (by simp[rZ]) rfl rfl rfl rfl
    obtain⟨w',he2,hs2⟩:=E1 ds _ h2 _ {fr with defers:=t} cs hc hevo.inv ht hm
    exact⟨w',hevo.trans he2,.head (step_collected hm hdt hrun) hs2⟩
   ·cases hc
  ·cases hc
theorem W6 (C:Ctx P B K) {R:iM} (hR:zX C R) {f:FuncId} {args:List Value} {h:AH} {out:Out} {h':AH}
  (hr:iL P K R f args h=some (out,h')):Y3 C f args h out.v h':=by
 intro ρ w args' hi hg ha
 unfold iL at hr
 split at hr
 ·rename_i v hk
  cases hr
  obtain⟨h1,h3⟩:=C.call f args v w hk hg
  rw[Dx _ _ h1 ha]
  exact h3.mono fun e w' ⟨⟨v',he,hv⟩,hb⟩=>⟨ρ,v',he,hv ρ,vD hi hb⟩
 ·
  rename_i g bs hk
  split at hr
  ·rename_i o h1 hrun
   split at hr
   ·rename_i hok
    cases hr
    obtain⟨bs',w1,hbs,hbel,hfw⟩:=C.fwd f args g bs hk ρ args' w ha hg
    have e1:=vD hi hbel
    have hc:=hR _ _ _ _ hrun ρ w1 bs' e1.inv (e1.G C hi hg) hbs
    have:=hfw o.v (fun w2=>∃ρ',kM P B ρ h w1 ρ' h' w2) hok (hc.mono fun e w' ⟨ρ',v',he,hv,hev⟩=>by
     have hp:dG o.v=true:=by
      unfold Jn at hok
      split at hok
      ·rename_i a b hab
       rw[hab]
       rfl
      ·cases hok
     refine⟨by rw[he,tK _ _ hp hv],⟨fun i h1 h2=>hev.frame i h2 fun j s hj hs hr=>?_,hev.size,hev.os,hev.out,hev.tape⟩,ρ',hev⟩
     obtain⟨oj,hoj⟩:=Option.isSome_iff_exists.1 hs
     obtain⟨o',ho',_⟩:=hi.pM j oj hoj i s hr
     have:=(Array.getElem?_eq_some_iff.1 ho').1
     omega)
    refine this.mono fun e w' ⟨he,w2,⟨ρ',hev⟩,hga⟩=>⟨ρ',o.v,he,?_,ra hi hbel hev hga⟩
    have hp:dG o.v=true:=by
     unfold Jn at hok
     split at hok
     ·rename_i a b hab
      rw[hab]
      rfl
     ·cases hok
    exact gI _ hp
   ·cases hr
  ·cases hr
 ·rename_i F hk
  simp only[Option.map_eq_some_iff] at hr
  obtain⟨⟨v,h2⟩,hF,hr⟩:=hr
  cases hr
  exact C.host f args F hk h v _ hF ρ w args' hi hg ha
 ·split at hr
  ·rename_i fn hf
   split at hr
   ·rename_i body hb
    split at hr
    ·rename_i o h1 hrun
     have hsim:=hR _ _ _ _ hrun
     intro cs
     have hlen:=ha.length
     have hte:Frame.enter P f ⟨args'⟩ .normal=({(default:Frame) with fn:=f,kind:= .normal}:Frame).atR {tmps:=⟨args'++List.replicate (fn.ntmps - args.length) undef⟩,defers:=[]} [.code body]:=by
      simp only[Frame.enter,Frame.atR,hf,Option.map_some,Option.getD_some,Option.bind_some,hb]
      congr 1
      ·apply Array.ext'
       simp[hlen]
     obtain⟨ρ1,w1,a1,k1,e1,r1,d1,s1,l1⟩:=hsim ρ w {(default:Frame) with fn:=f,kind:= .normal} {tmps:=⟨args'++List.replicate (fn.ntmps - args.length) undef⟩,defers:=[]} cs hi hg rfl rfl
      (ha.append (aT.replicate _ tS)) rfl
     rw[←hte] at s1
     have hleave:(∀id,o.leave≠.exit id)∧∃h2,cC o.ds h1=some h2∧∃vs,eW P h2 o.env fn.results.toList=some vs∧out=⟨.iI,[],[],oneOf vs⟩∧h'=h2:=by
      split at hr
      ·cases hr
      ·rename_i hne
       split at hr
       ·rename_i h2 hcm
        simp only[Option.map_eq_some_iff] at hr
        grind
       ·cases hr
     obtain⟨hne,h2,hcm,vs,hvs,hout,hh2⟩:=hleave
     subst hout;subst hh2
     have hret:Steps P (lone (({(default:Frame) with fn:=f,kind:= .normal}:Frame).atR a1 k1) cs w1) (lone {({(default:Frame) with fn:=f,kind:= .normal}:Frame).atR a1 k1 with mode:= .returning} cs w1):=by
      cases hl:o.leave with
      |iI=>rw[hl] at l1;simp only[T4] at l1;subst l1;exact .one (stepR_end rfl)
      |ret=>rw[hl] at l1;obtain⟨k2,rfl⟩:=l1;exact .one (stepR_ret rfl)
      |exit id=>grind
     obtain⟨w2,e2,s2⟩:=E1 o.ds h1 h' w1 {({(default:Frame) with fn:=f,kind:= .normal}:Frame).atR a1 k1 with mode:= .returning} cs hcm e1.inv d1 rfl
     obtain⟨v',hres,hrel⟩:=Rb e2.inv (aT.mono e2.ext _ _ r1) hvs
     exact⟨.returned v',w2,_,⟨ρ1,v',rfl,hrel,e1.trans e2⟩,(s1.trans hret).trans s2,rfl,rfl,rfl,rfl,fn,hf,hres⟩
    ·cases hr
   ·cases hr
  ·cases hr
end Go.Ab
end
section
namespace Go.Ab
open Go.RowKit
variable {P:Program} {B:Nat} {ρ:gQ} {h:AH} {w:World} {K:FuncId→List Value→Option hJ}
theorem Pv (hi:Inv P B ρ h w) {l lb:Nat} {s:Nat×Nat} {st:LoopState} {p:Option Code} {fn:FuncId} {tmps:List Value} {ps:Array Tmp} {as bd:Code} {d:Nat} (hg:h.get l=some (.loop st p fn tmps ps as bd d)) (hr:ρ l=some (lb,s)):
  ∃tmps' d' s',aT ρ tmps tmps'∧ρ d=some (d',s')∧w.heap[lb]?=some (.loop {state:=st,pending:=p,fn:=fn,tmps:=⟨tmps'⟩,params:=ps,assign:=as,body:=bd,defers:=d'}):=by
 obtain⟨o',ho,tmps',d',s',h1,h2,h3⟩:=hi.pM _ _ hg lb s hr
 grind
theorem sX (hi:Inv P B ρ h w) {l lb:Nat} {s:Nat×Nat} {st:LoopState} {pd:Option (Option Code)} {h':AH} (hs:cS h l st pd=some h') (hr:ρ l=some (lb,s)):
  ∃r:Loop,w.heap[lb]?=some (.loop r)∧(∃st0 p0 fn tmps ps as bd d,h.get l=some (.loop st0 p0 fn tmps ps as bd d)∧r.state=st0∧r.pending=p0)∧
   kM P B ρ h w ρ h' {w with heap:=w.heap.setIfInBounds lb (.loop {r with state:=st,pending:=pd.getD r.pending})}:=by
 unfold cS at hs
 split at hs
 ·rename_i st0 p fn tmps ps as bd d hg
  split at hs
  ·rename_i hb
   cases hs
   obtain⟨tmps',d',s',h1,h2,h3⟩:=Pv hi hg hr
   exact⟨_,h3,⟨_,_,_,_,_,_,_,_,hg,rfl,rfl⟩,vP hi hb hg hr (o:= .loop st (pd.getD p) fn tmps ps as bd d) ⟨tmps',d',s',h1,h2,rfl⟩ rfl rfl rfl rfl⟩
  ·cases hs
 ·cases hs
theorem nC {r:Loop}:∀c e f,Obj.loop r≠.cells c e f:=fun _ _ _ hh=>by cases hh
theorem oZ {lb:Nat} {r:Loop} (h:w.heap[lb]?=some (.loop r)):(Instr.getLoop lb).run P w= .ok r w:=by
 simp only[Instr.getLoop,Sem.run_bind,Aq h nC,Result.andThen_ok,Sem.run_pure]
theorem To:∀(l:List (Tmp×Value)) (l':List (Tmp×Value)) (t:List Value) (t':Array Value),l.map (·.1)=l'.map (·.1)→aT ρ (l.map (·.2)) (l'.map (·.2))→aT ρ t t'.toList→
  aT ρ (l.foldl (fun t (p,v)=>t.set p v) t) (l'.foldl (fun t (p,v)=>t.setIfInBounds p v) t').toList
 |[],[],t,t',_,_,h=>h
 |(p,v)::l,(p',v')::l',t,t',h1,h2,h=>by
  simp only[List.map_cons,List.cons.injEq] at h1
  obtain⟨rfl,h1⟩:=h1
  simp only[List.map_cons] at h2
  have h3:=aT.Sr.1 h2
  simp only[List.foldl_cons]
  exact To l l' _ _ h1 h3.2 (by simpa using h.set p h3.1)
 |[],_::_,_,_,h1,_,_=>by simp at h1
 |_::_,[],_,_,h1,_,_=>by simp at h1
theorem R5 (C:Ctx P B K) {R:iM} (hR:zX C R) {l:Nat} {args:List Value} {h:AH} {out:Out} {h':AH}
  (hr:lH R l args h=some (out,h')):S2 C l args h out.v h':=by
 intro ρ w args' lb s hi hg ha hl
 unfold lH at hr
 split at hr
 ·rename_i st p fn tmps ps assign body d hget
  split at hr
  ·rename_i hlen
   obtain⟨tmps',d',s',ht,hd,hw⟩:=Pv hi hget hl
   have hal:=ha.length
   refine⟨fn,(ps.toList.zip args').foldl (fun t (p,v)=>t.setIfInBounds p v) ⟨tmps'⟩,assign,body,?_,?_⟩
   ·have hz:(ps.zip ⟨args'⟩).foldl (fun(t:Array Value) (x:Tmp×Value)=>t.setIfInBounds x.1 x.2) ⟨tmps'⟩=(ps.toList.zip args').foldl (fun t (p,v)=>t.setIfInBounds p v) ⟨tmps'⟩:=by
     rw[←Array.foldl_toList,Array.toList_zip]
    have hsz:¬(⟨args'⟩:Array Value).size≠ps.size:=by simp;omega
    simp only[Instr.yield,Sem.run_bind,oZ hw,Result.andThen_ok]
    simp_all
   ·intro c cs
    split at hr
    ·rename_i o h1 hrun
     have hsim:=hR _ _ _ _ hrun
     split at hr
     ·have hzl:∀(xs:List Value),xs.length=ps.toList.length→(ps.toList.zip xs).map (·.1)=ps.toList∧(ps.toList.zip xs).map (·.2)=xs:=fun xs hx=>⟨List.map_fst_zip (by omega),List.map_snd_zip (by omega)⟩
      have hz1:=hzl args (by simpa using hlen)
      have hz2:=hzl args' (by simp;omega)
      obtain⟨ρ1,w1,a1,k1,e1,r1,d1,s1,l1⟩:=hsim ρ w {(default:Frame) with fn:=fn,kind:= .normal,roundOf:=some lb} {tmps:=(ps.toList.zip args').foldl (fun t (p,v)=>t.setIfInBounds p v) ⟨tmps'⟩,defers:=[]} (c::cs) hi hg rfl ⟨lb,s,hl,rfl⟩
       (To _ _ _ _ (by rw[hz1.1,hz2.1]) (by grind) ht) rfl
      have hl1:=e1.ext _ _ hl
      have fin:∀(jump:Option Code) (h2:AH),cS h1 l (if jump.isNone then .ready else .done) (some jump)=some h2→∃w2,(Instr.endRound lb jump).run P w1= .ok (.bool jump.isNone) w2∧kM P B ρ1 h1 w1 ρ1 h2 w2:=by
       intro jump h2 hsl
       obtain⟨r,hw1,_,hev⟩:=sX e1.inv hsl hl1
       refine⟨_,?_,hev⟩
       simp only[Instr.endRound,Sem.run_bind,oZ hw1,Result.andThen_ok,qU hw1 nC,Sem.run_pure,Option.getD_some]
      cases hlv:o.leave with
      |iI=>
       rw[hlv] at hr l1
       simp only[T4] at l1;subst l1
       simp only[Option.map_eq_some_iff] at hr
       obtain⟨h2,hsl,hr⟩:=hr
       cases hr
       obtain⟨w2,hend,hev⟩:=fin none _ hsl
       exact⟨ρ1,.bool true,w2,by simp only[aD],e1.trans hev,s1.trans (.one (stepR_round_end rfl rfl hend))⟩
      |ret=>
       rw[hlv] at hr l1
       obtain⟨k2,rfl⟩:=l1
       simp only[Option.map_eq_some_iff] at hr
       obtain⟨h2,hsl,hr⟩:=hr
       cases hr
       obtain⟨w2,hend,hev⟩:=fin (some .ret) _ hsl
       exact⟨ρ1,.bool false,w2,by simp only[aD],e1.trans hev,s1.trans (.one (stepR_round_ret rfl rfl hend))⟩
      |exit id=>
       rw[hlv] at hr l1
       obtain⟨k2,rfl,hx⟩:=l1
       simp only[Option.map_eq_some_iff] at hr
       obtain⟨h2,hsl,hr⟩:=hr
       cases hr
       obtain⟨w2,hend,hev⟩:=fin (some (.exit id)) _ hsl
       exact⟨ρ1,.bool false,w2,by simp only[aD],e1.trans hev,s1.trans (.one (stepR_round_exit rfl rfl hx hend))⟩
     ·cases hr
    ·cases hr
  ·cases hr
 ·cases hr
def ir (C:Ctx P B K) (R:iM):Prop:=∀(ops:Array Oper) (env:List Value) (h:AH) (env':List Value) (h':AH),oV P R ops env h=some (env',h')→
 ∀(ρ:gQ) (w:World) (b:Frame) (a:Act) (cs:List Frame) (k:List Item) (t:Nat),Inv P B ρ h w→C.G w→aT ρ env a.tmps.toList→
  ∃ρ' w' a',kM P B ρ h w ρ' h' w'∧aT ρ' env' a'.tmps.toList∧a'.defers=a.defers∧
   Steps P (lone (b.atR a (.inRegion ops (Region.schedule (P.follows .mixedOrders) ops t)::k)) cs w) (lone (b.atR a' (.inRegion ops []::k)) cs w')
theorem Fc (all:Array Oper):∀(rest:List Oper) (i:Nat),(∀j,all[i+j]?=rest[j]?)→Xs all (List.range' i rest.length) rest
 |[],i,_=>trivial
 |o::rest,i,hall=>by
  refine⟨by simpa using hall 0,Fc all rest (i+1) fun j=>?_⟩
  have:=hall (j+1)
  grind
end Go.Ab
end
section
namespace Go.Ab
open Go.RowKit
variable {P:Program} {B:Nat} {K:FuncId→List Value→Option hJ}
theorem iX (C:Ctx P B K) {fn:FuncId} {ro:Option Nat} {ds:List Nat} {env:List Value} {k k1:List Item} {h:AH} {out:Out} {h':AH}
  (hs:∀(b:Frame) (a:Act) (cs:List Frame) (w:World) (ρ:gQ),Inv P B ρ h w→aT ρ env a.tmps.toList→b.fn=fn→Lp ρ ro b.roundOf→step P (lone (b.atR a k) cs w)= .next (lone (b.atR a k1) cs w))
  (hsim:F8 C fn ro ds env k1 h out h'):F8 C fn ro ds env k h out h':=by
 intro ρ w b a cs hi hg hb hro he hd
 obtain⟨ρ',w',a',k',h1,h2,h3,h4,h5⟩:=hsim ρ w b a cs hi hg hb hro he hd
 exact⟨ρ',w',a',k',h1,h2,h3,.head (hs b a cs w ρ hi he hb hro) h4,h5⟩
set_option maxHeartbeats 1000000 in
theorem ze (C:Ctx P B K) (hdraw:∀R,zX C R→ir C R):∀n,zX C (run P K n):=by
 intro n
 induction n with
 |zero=>intro t h out h' hr;simp[run] at hr
 |succ n ih=>
  intro t h out h' hr
  cases t with
  |call f args=>exact W6 C ih hr
  |round l args=>exact R5 C ih hr
  |ops all rest env=>exact az C ih hr
  |todo fn ro ds env k=>
   replace hr:dO P (run P K n) fn ro ds env k h=some (out,h'):=hr
   show F8 C fn ro ds env k h out h'
   unfold dO at hr
   split at hr
   ·
    cases hr
    exact fun ρ w b a cs hi _ _ _ he hd=>⟨ρ,w,a,[],kM.refl hi,he,hd,Steps.refl _ _,rfl⟩
   ·rename_i c k
    split at hr
    ·exact iX C (fun b a cs w ρ _ _ _ _=>stepR_skip) (ih _ _ _ _ hr)
    ·exact iX C (fun b a cs w ρ _ _ _ _=>stepR_label) (ih _ _ _ _ hr)
    ·exact iX C (fun b a cs w ρ _ _ _ _=>stepR_seq) (ih _ _ _ _ hr)
    ·rename_i c t e
     split at hr
     ·rename_i bb hc
      refine iX C (fun b a cs w ρ hi he _ _=>?_) (ih _ _ _ _ hr)
      have:=zF hi he c
      rw[hc] at this
      simp only[aD] at this
      exact stepR_cond this
     ·cases hr
    ·exact iX C (fun b a cs w ρ _ _ _ _=>stepR_block) (ih _ _ _ _ hr)
    ·exact iX C (fun b a cs w ρ _ _ _ _=>stepR_loop) (ih _ _ _ _ hr)
    ·exact iX C (fun b a cs w ρ _ _ _ _=>step_lone_go (by simp[stepG,stepG.exec,Frame.atR])) (ih _ _ _ _ hr)
    ·rename_i id
     split at hr
     ·rename_i k' hx
      exact iX C (fun b a cs w ρ _ _ _ _=>stepR_exit hx) (ih _ _ _ _ hr)
     ·rename_i hx
      split at hr
      ·cases hr
       exact fun ρ w b a cs hi _ _ _ he hd=>⟨ρ,w,a,.code (.exit id)::k,kM.refl hi,he,hd,Steps.refl _ _,⟨k,rfl,hx⟩⟩
      ·cases hr
    ·cases hr
     exact fun ρ w b a cs hi _ _ _ he hd=>⟨ρ,w,a,.code .ret::k,kM.refl hi,he,hd,Steps.refl _ _,⟨k,rfl⟩⟩
    ·
     rename_i id ops
     split at hr
     ·rename_i o h1 hops
      intro ρ w b a cs hi hg hb hro he hd
      have hat:Xs ops (List.range ops.size) ops.toList:=by
       have:=Fc ops ops.toList 0 (fun j=>by simp)
       rw[List.range_eq_range']
       simpa using this
      obtain⟨ρ1,w1,a1,e1,r1,d1,s1⟩:=ih _ _ _ _ hops ρ w b a cs (List.range ops.size) k hi hg he hat
      obtain⟨ρ',w',a',k',h1,h2,h3,h4,h5⟩:=ih _ _ _ _ hr ρ1 w1 b a1 cs e1.inv (e1.G C hi hg) hb (hro.mono e1.ext) r1 (by rw[d1];exact hd.mono e1.ext)
      exact⟨ρ',w',a',k',e1.trans h1,h2,h3,.head stepR_region (s1.trans (.head stepR_region_end h4)),h5⟩
     ·cases hr
    ·
     rename_i id ops
     split at hr
     ·rename_i env' h1 hdr
      intro ρ w b a cs hi hg hb hro he hd
      have ed:=pb hi
      obtain⟨ρ1,w1,a1,e1,r1,d1,s1⟩:=hdraw _ ih ops env h env' h1 hdr ρ {w with drawn:=w.drawn+1} b a cs k (w.tape w.drawn (.order b.fn id)) ed.inv (ed.G C hi hg) he
      have e2:=ed.trans e1
      obtain⟨ρ',w',a',k',h1,h2,h3,h4,h5⟩:=ih _ _ _ _ hr ρ1 w1 b a1 cs e2.inv (e2.G C hi hg) hb (hro.mono e2.ext) r1 (by rw[d1];exact hd.mono e2.ext)
      exact⟨ρ',w',a',k',e2.trans h1,h2,h3,.head stepR_region_draw (s1.trans (.head stepR_region_end h4)),h5⟩
     ·cases hr
    ·
     rename_i f ps assign body
     split at hr
     ·rename_i d h1 ds1 hdd
      split at hr
      ·rename_i g first captured hf
       split at hr
       ·rename_i hcal
        split at hr
        ·rename_i ox h3 hcall
         split at hr
         ·rename_i st p _ _ _ _ _ _ hgl
          split at hr
          ·cases hr
          ·rename_i hbusy
           split at hr
           ·rename_i h4 hsl
            intro ρ w b a cs hi hg hb hro he hd
            obtain⟨ρ1,w1,mark,d',s',e1,hd1,hdr1,henter⟩:∃ρ1 w1 mark d' s',kM P B ρ h w ρ1 h1 w1∧ρ1 d=some (d',s')∧Kg ρ1 ds1 (mark++a.defers)∧
              (Instr.enterLoop b.fn a.tmps ps assign body b.roundOf).run P w= .ok (w1.heap.size,mark) (w1.alloc (.loop {state:= .ready,pending:=none,fn:=b.fn,tmps:=a.tmps,params:=ps,assign:=assign,body:=body,defers:=d'})):=by
             cases ro with
             |none=>
              simp only[Lp] at hro
              simp only[Option.some.injEq,Prod.mk.injEq] at hdd
              obtain⟨rfl,rfl,rfl⟩:=hdd
              have ea:=zR hi (o:= .marks true) (o':= .deferred (some [])) (s:=(0,0)) (w':=w.alloc (.deferred (some []))) (by simp[rZ]) rfl rfl rfl rfl
              refine⟨_,_,[{target:= .collected w.heap.size,args:= #[]}],w.heap.size,(0,0),ea,bK,⟨_,_,_,bK,hd.mono ea.ext,rfl⟩,?_⟩
              rw[hro]
              simp[Instr.enterLoop]
             |some l=>
              obtain⟨lb,s,hl,hro'⟩:=hro
              simp only at hdd
              split at hdd
              ·rename_i st0 p0 fn0 tm0 ps0 as0 bd0 d0 hg0
               simp only[Option.some.injEq,Prod.mk.injEq] at hdd
               obtain⟨rfl,rfl,rfl⟩:=hdd
               obtain⟨tmps',d',s',_,hdd',hw⟩:=Pv hi hg0 hl
               refine⟨ρ,w,[],d',s',kM.refl hi,hdd',hd,?_⟩
               rw[hro']
               simp[Instr.enterLoop,oZ hw]
              ·cases hdd
            have he1:=aT.mono e1.ext _ _ he
            have e2:=zR e1.inv (o:= .loop .ready none fn env ps assign body d) (s:=(0,0))
             (o':= .loop {state:= .ready,pending:=none,fn:=b.fn,tmps:=a.tmps,params:=ps,assign:=assign,body:=body,defers:=d'})
             (w':=w1.alloc (.loop {state:= .ready,pending:=none,fn:=b.fn,tmps:=a.tmps,params:=ps,assign:=assign,body:=body,defers:=d'}))
             (by
              have hext:=Ext.sL (x:=(w1.heap.size,(0,0))) (e1.inv.fresh h1.next (Nat.le_refl _))
              exact⟨a.tmps.toList,d',s',aT.mono hext _ _ he1,hext _ _ hd1,by rw[hb]⟩) rfl rfl rfl rfl
            have e12:=e1.trans e2
            have hfv:=zF e12.inv (a:=a) (aT.mono e2.ext _ _ he1) f
            rw[hf] at hfv
            simp only[aD,Cm] at hfv
            obtain⟨_,fs',cs',rfl,hfs,hcs,hfe⟩:=hfv
            have hargs:aT (sL ρ1 h1.next (w1.heap.size,(0,0))) (first.toList++[.func (.yield h1.next) #[] #[]]++captured.toList) (fs'.toList++[.func (.yield w1.heap.size) #[] #[]]++cs'.toList):=by
             refine((hZ.1 hfs).append (aT.cons ?_ aT.nil)).append (hZ.1 hcs)
             simp only[aD,Cm]
             exact⟨_,_,_,⟨_,_,bK,rfl⟩,by simp only[kN];exact aT.nil,by simp only[kN];exact aT.nil,rfl⟩
            have hcalls:=ih _ _ _ _ hcall _ _ _ e2.inv (e12.G C hi hg) hargs (b.atR {a with defers:=mark++a.defers} (.inRangeFunc w1.heap.size::k)::cs)
            obtain⟨e,w3,fr,⟨ρ3,v',rfl,_,e3⟩,hcomes,_,hleave⟩:=hcalls
            have e123:=e12.trans e3
            have hl3:ρ3 h1.next=some (w1.heap.size,(0,0)):=e3.ext _ _ bK
            obtain⟨r,hw3,⟨st0,p0,fn0,tm0,ps0,as0,bd0,d0,hg0,hst,hpd⟩,e4⟩:=sX e3.inv hsl hl3
            rw[hgl] at hg0
            cases hg0
            have hend:(Instr.endLoop w1.heap.size).run P w3= .ok p {w3 with heap:=w3.heap.setIfInBounds w1.heap.size (.loop {r with state:= .exhausted})}:=by
             have hnb:(r.state==LoopState.busy)=false:=by grind
             simp only[Instr.endLoop,Sem.run_bind,oZ hw3,Result.andThen_ok]
             simp only[hnb,Bool.false_eq_true,if_false,Sem.run_bind,qU hw3 nC,Result.andThen_ok,Sem.run_pure,hpd]
            simp only[Option.getD_none] at e4
            have e1234:=e123.trans e4
            obtain⟨ρ',w',a',k',g1,g2,g3,g4,g5⟩:=ih _ _ _ _ hr ρ3 {w3 with heap:=w3.heap.setIfInBounds w1.heap.size (.loop {r with state:= .exhausted})} b {a with defers:=mark++a.defers} cs e4.inv (e1234.G C hi hg) hb (hro.mono e1234.ext)
             (aT.mono e1234.ext _ _ he) (hdr1.mono (e2.trans (e3.trans e4)).ext)
            refine⟨ρ',w',a',k',e1234.trans g1,g2,g3,?_,g5⟩
            have hres:(resolve a.eval (rangeCall f w1.heap.size) 0).run P (w1.alloc (.loop {state:= .ready,pending:=none,fn:=b.fn,tmps:=a.tmps,params:=ps,assign:=assign,body:=body,defers:=d'}))=
              .ok {target:= .fn (.func g) cs',args:=fs'++ #[.func (.yield w1.heap.size) #[] #[]]} (w1.alloc (.loop {state:= .ready,pending:=none,fn:=b.fn,tmps:=a.tmps,params:=ps,assign:=assign,body:=body,defers:=d'})):=by
             show(Deferred.ofValue (a.eval f) ((#[.const (.func (.yield w1.heap.size) #[] #[])]:Array Operand).map a.eval)).run P _=_
             rw[hfe]
             simp[Deferred.ofValue,Act.eval]
            have hinv:(invoke (.fn (.func g) cs') (fs'++ #[.func (.yield w1.heap.size) #[] #[]])).run P (w1.alloc (.loop {state:= .ready,pending:=none,fn:=b.fn,tmps:=a.tmps,params:=ps,assign:=assign,body:=body,defers:=d'}))=
              .ok (.enter g ⟨fs'.toList++[.func (.yield w1.heap.size) #[] #[]]++cs'.toList⟩) (w1.alloc (.loop {state:= .ready,pending:=none,fn:=b.fn,tmps:=a.tmps,params:=ps,assign:=assign,body:=body,defers:=d'})):=by
             simp only[invoke]
             rw[Dj hcal]
             simp_all
            refine .head (stepR_rangeFunc henter hres hinv) (Steps.trans hcomes (.head ?_ (.head (stepR_endRangeFunc hend) g4)))
            rw[step_leave_returned hleave,finish_atR_inRangeFunc]
           ·cases hr
         ·cases hr
        ·cases hr
       ·cases hr
      ·cases hr
     ·cases hr
    ·cases hr
   ·exact iX C (fun b a cs w ρ _ _ _ _=>stepR_inBlock) (ih _ _ _ _ hr)
   ·exact iX C (fun b a cs w ρ _ _ _ _=>step_lone_go (by simp[stepG,stepG.exec,Frame.atR])) (ih _ _ _ _ hr)
   ·exact iX C (fun b a cs w ρ _ _ _ _=>stepR_inLoop) (ih _ _ _ _ hr)
   ·
    split at hr
    ·rename_i l
     split at hr
     ·rename_i _ _ _ _ _ _ _ hgl
      split at hr
      ·rename_i h1 hsl
       intro ρ w b a cs hi hg hb hro he hd
       obtain⟨lb,s,hl,hro'⟩:=hro
       obtain⟨r,hw,⟨st0,p0,fn0,tm0,ps0,as0,bd0,d0,hg0,hst,hpd⟩,e1⟩:=sX hi hsl hl
       rw[hgl] at hg0
       cases hg0
       have hbr:(Instr.beginRound lb).run P w= .ok () {w with heap:=w.heap.setIfInBounds lb (.loop {r with state:= .busy})}:=by
        simp only[Instr.beginRound,Sem.run_bind,oZ hw,Result.andThen_ok,qU hw nC,hst]
        rfl
       simp only[Option.getD_none] at e1
       obtain⟨ρ',w',a',k',g1,g2,g3,g4,g5⟩:=ih _ _ _ _ hr ρ _ b a cs e1.inv (e1.G C hi hg) hb ⟨lb,s,hl,hro'⟩ he hd
       exact⟨ρ',w',a',k',e1.trans g1,g2,g3,.head (stepR_beginRound hro' hbr) g4,g5⟩
      ·cases hr
     ·cases hr
    ·cases hr
   ·cases hr
end Go.Ab
end
section
namespace Go.Ab
open Go.RowKit
variable {P:Program}
theorem oX {α:Type} {f g:α→Value}:∀(l:List α),(∀x∈l,f x=g x)→l.map f=l.map g
 |[],_=>rfl
 |x::l,h=>by simp_all
theorem Mx {ev ev':Operand→Value} {h:AH} (op:Op) (he:∀x∈op.operands.toList,ev x=ev' x):bM P ev h op=bM P ev' h op:=by
 cases op with
 |build t parts=>
  simp only[bM]
  congr 1
  have:∀l:List (Nat×Operand),(∀p∈l,ev p.2=ev' p.2)→l.map (fun p=>(p.1,ev p.2))=l.map fun p=>(p.1,ev' p.2):=by
   intro l hl
   induction l with
   |nil=>rfl
   |cons p l ih=>simp only[List.map_cons];rw[hl p List.mem_cons_self,ih fun q hq=>hl q (List.mem_cons_of_mem _ hq)]
  exact this _ fun p hp=>he _ (by simp only[Op.operands];grind)
 |makeFunc fn first captured=>
  simp only[bM]
  have h1:first.map ev=first.map ev':=Array.ext' (by simp only[Array.toList_map];exact oX _ fun x hx=>he x (by simp only[Op.operands,Array.toList_append];grind))
  have h2:captured.map ev=captured.map ev':=Array.ext' (by simp only[Array.toList_map];exact oX _ fun x hx=>he x (by simp only[Op.operands,Array.toList_append];grind))
  rw[h1,h2]
 |slice t x lo hi mx=>
  simp only[bM]
  have hx:ev x=ev' x:=he x (by simp[Op.operands])
  have h1:lo.map ev=lo.map ev':=by cases lo with|none=>rfl|some y=>simp only[Option.map_some];rw[he y (by simp[Op.operands])]
  have h2:hi.map ev=hi.map ev':=by cases hi with|none=>rfl|some y=>simp only[Option.map_some];rw[he y (by simp[Op.operands])]
  have h3:mx.map ev=mx.map ev':=by cases mx with|none=>rfl|some y=>simp only[Option.map_some];rw[he y (by simp[Op.operands])]
  rw[hx,h1,h2,h3]
 |move x=>simp only[bM];rw[he x (by simp[Op.operands])]
 |assign x=>simp only[bM];rw[he x (by simp[Op.operands])]
 |pick c a b=>simp only[bM];rw[he c (by simp[Op.operands]),he a (by simp[Op.operands]),he b (by simp[Op.operands])]
 |load t a=>simp only[bM];rw[he a (by simp[Op.operands])]
 |nilCheck x=>simp only[bM];rw[he x (by simp[Op.operands])]
 |binOp op t x y yt=>simp only[bM];rw[he x (by simp[Op.operands]),he y (by simp[Op.operands])]
 |unOp op t x=>simp only[bM];rw[he x (by simp[Op.operands])]
 |convert s d x=>simp only[bM];rw[he x (by simp[Op.operands])]
 |makeInterface t x=>simp only[bM];rw[he x (by simp[Op.operands])]
 |fieldAddr s x f=>simp only[bM];rw[he x (by simp[Op.operands])]
 |field s x f=>simp only[bM];rw[he x (by simp[Op.operands])]
 |indexAddr t x i=>simp only[bM];rw[he x (by simp[Op.operands]),he i (by simp[Op.operands])]
 |index t x i=>simp only[bM];rw[he x (by simp[Op.operands]),he i (by simp[Op.operands])]
 |extract t i=>simp only[bM];rw[he t (by simp[Op.operands])]
 |lookup t x i ok=>simp only[bM];rw[he x (by simp[Op.operands]),he i (by simp[Op.operands])]
 |_=>rfl
theorem Ny {ev ev':Operand→Value} (op:Op) (he:∀x∈op.operands.toList,ev x=ev' x):dW P ev op=dW P ev' op:=by
 cases op with
 |alloc e=>rfl
 |box e x=>simp only[dW];rw[he x (by simp[Op.operands])]
 |buildSlice t len parts=>
  simp only[dW]
  have:∀l:List (Nat×Operand),(∀p∈l,ev p.2=ev' p.2)→l.map (fun p=>(p.1,ev p.2))=l.map fun p=>(p.1,ev' p.2):=by
   intro l hl
   induction l with
   |nil=>rfl
   |cons p l ih=>simp only[List.map_cons];rw[hl p List.mem_cons_self,ih fun q hq=>hl q (List.mem_cons_of_mem _ hq)]
  rw[this parts.toList fun p hp=>he _ (by simp only[Op.operands];grind)]
 |makeSlice t l c=>simp only[dW];rw[he l (by simp[Op.operands]),he c (by simp[Op.operands])]
 |makeMap t r=>
  cases r with
  |none=>rfl
  |some x=>simp only[dW];rw[he x (by simp[Op.operands])]
 |_=>rfl
theorem Aj {c:Call} {x:Operand} (h:x∈c.args.toList):x∈(Op.call c).operands.toList:=by
 simp only[Op.operands,Call.operands,Array.toList_append]
 grind
theorem Sj {R:iM} {ev ev':Operand→Value} {h:AH} (op:Op) (he:∀x∈op.operands.toList,ev x=ev' x):dS P R ev h op=dS P R ev' h op:=by
 cases op with
 |store t a x=>simp only[dS];rw[he a (by simp[Op.operands]),he x (by simp[Op.operands])]
 |mapUpdate t m k x=>simp only[dS];rw[he m (by simp[Op.operands]),he k (by simp[Op.operands]),he x (by simp[Op.operands])]
 |call c=>
  have ha:c.args.toList.map ev=c.args.toList.map ev':=oX _ fun x hx=>he x (Aj hx)
  obtain⟨callee,args,argTypes⟩:=c
  cases callee with
  |builtin b=>simp only[dS];grind
  |value f=>
   have hf:ev f=ev' f:=he f (by simp[Op.operands,Call.operands])
   simp only[dS];grind
  |invoke r m=>rfl
 |_=>rfl
theorem Tf {ev ev':Operand→Value} {h:AH} (op:Op) (he:∀x∈op.operands.toList,ev x=ev' x):eD P ev h op=eD P ev' h op:=by
 cases op with
 |call c=>
  have ha:c.args.toList.map ev=c.args.toList.map ev':=oX _ fun x hx=>he x (Aj hx)
  obtain⟨callee,args,argTypes⟩:=c
  cases callee with
  |builtin b=>simp only[eD];grind
  |_=>rfl
 |_=>exact Mx (P:=P) (h:=h) _ he
def nO (g g':AH):Prop:=∀i o,g.get i=some o→g'.get i=some o
theorem xU {g g':AH} (hg:nO g g') {a:Addr} {n:Nat} {l:List Value} (h:cI g a n=some l):cI g' a n=some l:=by
 unfold cI at h ⊢
 split at h
 ·cases h
 ·rename_i hs
  rw[if_neg hs]
  split at h
  ·rename_i hb;rw[hg _ _ hb];exact h
  ·cases h
theorem Un {g g':AH} (hg:nO g g') {t:TypeId} {a:Addr} {v:Value} (h:rB P g t a=some v):rB P g' t a=some v:=by
 unfold rB at h ⊢
 split at h
 ·rename_i ht
  simp only[Option.map_eq_some_iff] at h
  obtain⟨l,hl,rfl⟩:=h
  simp only[xU hg hl,Option.map_some]
 ·rename_i ht
  split at h
  ·cases h
  ·rename_i hs
   rw[if_neg hs]
   split at h
   ·rename_i hb;rw[hg _ _ hb];exact h
   ·cases h
 ·cases h
theorem Q2 {g g':AH} (hg:nO g g') {t:TypeId} {x:Value} {lo hi mx:Option Value} {v:Value} (h:rH P g t x lo hi mx=some v):rH P g' t x lo hi mx=some v:=by
 have he:∀i b,oT g i=some b→oT g' i=some b:=by
  intro i b hb
  unfold oT at hb ⊢
  split at hb
  ·rename_i hc;rw[hg _ _ hc];exact hb
  ·cases hb
 unfold rH at h ⊢
 split at h
 ·exact h
 ·exact h
 ·exact h
 ·rename_i e a len cap hd
  split at h
  ·split at h
   ·grind
   ·cases h
  ·cases h
 ·cases h
theorem Ug {g g':AH} (hg:nO g g') {x v:Value} (h:strOf g x=some v):strOf g' x=some v:=by
 unfold strOf at h ⊢
 split at h
 ·exact h
 ·split at h
  ·grind
  ·rename_i hn
   rw[if_neg hn]
   simp only[Option.map_eq_some_iff,Option.bind_eq_some_iff] at h ⊢
   obtain⟨l,⟨c,hc,hl⟩,rfl⟩:=h
   exact⟨l,⟨c,xU hg hc,hl⟩,rfl⟩
 ·cases h
theorem Ss {g g':AH} (hg:nO g g') {x:Value} {es:List (Value×Value×Nat)} (h:Wi g x=some es):Wi g' x=some es:=by
 unfold Wi at h ⊢
 split at h
 ·exact h
 ·split at h
  ·rename_i hb;rw[hg _ _ hb];exact h
  ·cases h
 ·cases h
theorem Ol {g g':AH} (hg:nO g g') {t:TypeId} {x i v:Value} {ok:Bool} (h:sE P g t x i ok=some v):sE P g' t x i ok=some v:=by
 unfold sE at h ⊢
 split at h
 ·rename_i e es k n h1 h2
  rw[h1,Ss hg h2]
  exact h
 ·cases h
theorem wo {g g':AH} (hg:nO g g') {b:Builtin} (hb:gR b=true) (at_:Array TypeId) (args:List Value) {v:Value} (h:(eE P g b at_ args).map (·.1)=some v):(eE P g' b at_ args).map (·.1)=some v:=by
 rw[←h]
 cases b<;>simp only[gR] at hb<;>try cases hb
 ·rcases args with _|⟨x,_|⟨y,l⟩⟩
  ·rfl
  ·simp only[eE] at h ⊢
   split
   ·rfl
   ·rfl
   ·split<;>rfl
   ·rfl
   ·rename_i y _ _ _ _ hd
    rw[hd] at h
    simp only at h
    cases hm:Wi g y with
    |none=>rw[hm] at h;cases h
    |some es=>rw[Ss hg hm];rfl
   ·rfl
  ·rfl
 ·rcases args with _|⟨x,_|⟨y,_|⟨z,l⟩⟩⟩
  ·rfl
  ·cases x<;>rfl
  ·cases x<;>cases y<;>rfl
  ·cases x<;>cases y<;>rfl
 ·rcases args with _|⟨x,_|⟨y,_|⟨z,l⟩⟩⟩
  ·rfl
  ·cases x<;>rfl
  ·cases x<;>cases y<;>rfl
  ·cases x<;>cases y<;>rfl
theorem W0 {g g':AH} (hg:nO g g') {ev:Operand→Value} {op:Op} {v:Value} (h:eD P ev g op=some v):eD P ev g' op=some v:=by
 cases op with
 |call c=>
  obtain⟨callee,args,argTypes⟩:=c
  cases callee with
  |builtin b=>
   simp only[eD] at h ⊢
   split at h
   ·rename_i hb
    rw[if_pos hb]
    exact wo hg hb _ _ h
   ·cases h
  |_=>simp[eD] at h
 |load t a=>
  simp only[eD,bM] at h ⊢
  split at h
  ·exact Un hg h
  ·cases h
 |slice t x lo hi mx=>simp only[eD,bM] at h ⊢;exact Q2 hg h
 |lookup t x i ok=>simp only[eD,bM] at h ⊢;exact Ol hg h
 |convert s d x=>
  simp only[eD,bM] at h ⊢
  split at h
  ·exact h
  ·exact h
  ·rename_i hu _
   split at h
   ·exact Ug hg h
   ·cases h
  ·cases h
 |_=>first|exact h|(simp[eD,bM] at h)
mutual
theorem Eo:∀(a b:Value),mS a b=true→a=b
 |.bool a,b,h=>by cases b<;>simp_all [mS]
 |.int j a,b,h=>by cases b<;>simp_all [mS]
 |.float _ _,b,h=>by simp[mS] at h
 |.complex _ _ _,b,h=>by simp[mS] at h
 |.string a,b,h=>by
  cases b<;>simp[mS] at h
  rename_i b
  obtain⟨a⟩:=a
  obtain⟨b⟩:=b
  have:a=b:=eq_of_beq (show(a==b)=true from h)
  rw[this]
 |.pointer a,b,h=>by cases b<;>simp_all [mS]
 |.slice a l c,b,h=>by cases b<;>simp_all [mS]
 |.map a,b,h=>by cases b<;>simp_all [mS]
 |.chan _,b,h=>by simp[mS] at h
 |.func f x y,b,h=>by
  cases b<;>simp[mS] at h
  rename_i g c d
  rw[h.1.1,Gr x c h.1.2,Gr y d h.2]
 |.nilFunc,b,h=>by cases b<;>simp_all [mS]
 |.iface t v,b,h=>by
  cases b<;>simp[mS] at h
  rename_i u w
  rw[h.1,Eo v w h.2]
 |.nilIface,b,h=>by cases b<;>simp_all [mS]
 |.agg x,b,h=>by
  cases b<;>simp[mS] at h
  rename_i c
  rw[Gr x c h]
 |.tuple x,b,h=>by
  cases b<;>simp[mS] at h
  rename_i c
  rw[Gr x c h]
theorem Gr:∀(a b:Array Value),Wh a b=true→a=b
 |⟨l⟩,b,h=>by
  simp only[Wh] at h
  have:=Of l b.toList h
  grind
theorem Of:∀(l m:List Value),Hr l m=true→l=m
 |[],[],_=>rfl
 |[],_::_,h=>by simp[Hr] at h
 |_::_,[],h=>by simp[Hr] at h
 |a::l,b::m,h=>by
  simp only[Hr,Bool.and_eq_true] at h
  rw[Eo a b h.1,Of l m h.2]
end
theorem Bv {acc acc':List Nat}:∀(l:List Nat),(∀j∈l,acc[j]?=acc'[j]?)→sV acc l=sV acc' l
 |[],_=>rfl
 |j::l,h=>by
  simp only[sV]
  rw[Bv l fun y hy=>h y (List.mem_cons_of_mem _ hy),List.getD_eq_getElem?_getD,List.getD_eq_getElem?_getD,h j List.mem_cons_self]
theorem Hl {acc:List Nat} {i:Nat}:∀(l:List Nat),(sV acc l).testBit i=true→∃j∈l,i=j∨(acc.getD j 0).testBit i=true
 |[],h=>by simp[sV] at h
 |j::l,h=>by
  simp only[sV,Nat.testBit_or,Bool.or_eq_true] at h
  rcases h with h|h|h
  ·refine⟨j,List.mem_cons_self,.inl ?_⟩
   rw[Nat.one_shiftLeft,Nat.testBit_two_pow] at h
   grind
  ·grind
  ·obtain⟨k,hk,hh⟩:=Hl l h
   grind
theorem Dh:∀(os:List Oper) (acc:List Nat),(∀k o,os[k]?=some o→∀j∈eO o,j<acc.length+k)→
  (∀k,k<acc.length→(eK os acc)[k]?=acc[k]?)∧
  ∀k o,os[k]?=some o→(eK os acc)[acc.length+k]?=some (sV (eK os acc) (eO o))
 |[],acc,_=>⟨fun k _=>rfl,fun k o h=>by simp at h⟩
 |o::os,acc,hd=>by
  have ih:=Dh os (acc++[sV acc (eO o)]) (by
   intro k o' ho' j hj
   have:=hd (k+1) o' (by simpa using ho') j hj
   simp only[List.length_append,List.length_cons,List.length_nil];omega)
  have hpre:∀k,k<acc.length→(eK (o::os) acc)[k]?=acc[k]?:=by
   intro k hk
   simp only[eK]
   rw[ih.1 k (by simp;omega),List.getElem?_append_left hk]
  refine⟨hpre,?_⟩
  intro k o' ho'
  cases k with
  |zero=>
   simp at ho';subst ho'
   simp only[eK,Nat.add_zero]
   rw[ih.1 acc.length (by simp)]
   rw[List.getElem?_append_right (Nat.le_refl _)]
   simp only[Nat.sub_self,List.getElem?_cons_zero,Option.some.injEq]
   apply Bv
   intro j hj
   have hlt:j<acc.length:=by have:=hd 0 o (by simp) j hj;omega
   grind
  |succ k=>
   have:=ih.2 k o' (by simpa using ho')
   simp only[eK]
   grind
theorem Iy {all:List Oper} (hd:∀k o,all[k]?=some o→∀j∈eO o,j<k) {D:List Nat} (hD:∀i∈D,∀o,all[i]?=some o→∀j∈eO o,j∈D):
  ∀(i:Nat) (o:Oper),all[i]?=some o→(∀j∈eO o,j∈D)→∀j,ahead (eK all []) j i=true→j∈D:=by
 intro i
 induction i using Nat.strongRecOn with
 |ind i ih=>
  intro o ho hdir j hj
  have hs:=(Dh all [] (by simpa using hd)).2 i o ho
  simp only[List.length_nil,Nat.zero_add] at hs
  unfold ahead at hj
  rw[List.getD_eq_getElem?_getD,hs,Option.getD_some] at hj
  obtain⟨j',hj',hjj⟩:=Hl _ hj
  rcases hjj with h1|hjj
  ·grind
  ·have hlt:=hd i o ho j' hj'
   have hj'D:=hdir j' hj'
   cases ho':all[j']? with
   |none=>
    grind
   |some o'=>exact ih j' hlt o' ho' (hD j' hj'D o' ho') j (by unfold ahead;exact hjj)
def vB (all:List Oper):List Nat→List Nat→Prop
 |D,[]=>∀i,i<all.length→i∈D
 |D,i::l=>i<all.length∧i∉D∧(∀o,all[i]?=some o→∀j∈eO o,j∈D)∧vB all (D++[i]) l
theorem Fb {o:Oper} {j:Nat}:j∈eO o↔∃e∈o.after,Region.binds .any e=true∧e.on=j:=by
 unfold eO
 grind
theorem Ae {ops:Array Oper} (hd:∀k o,ops.toList[k]?=some o→∀j∈eO o,j<k):∀(fuel t:Nat) (listed:Array Bool) (D:List Nat),listed.size=ops.size→
  (∀i,i<ops.size→(listed.getD i false=true↔i∈D))→((List.range ops.size).filter fun i=>decide (i∉D)).length≤fuel→
  vB ops.toList D (Region.linearise.go .any ops fuel t listed [])
 |0,t,listed,D,hsz,hl,hf=>by
  simp only[Region.linearise.go,List.reverse_nil,vB]
  simp_all
 |fuel+1,t,listed,D,hsz,hl,hf=>by
  simp only[Region.linearise.go]
  change vB ops.toList D (match(Region.ready .any ops listed)[t % (Region.ready .any ops listed).length]? with
   |some i=>Region.linearise.go .any ops fuel (t/(Region.ready .any ops listed).length) (listed.setIfInBounds i true) [i]
   |none=>[].reverse)
  have hgt:∀i,i<ops.size→(listed.getD i true=false↔i∉D):=by
   grind
  cases hi:(Region.ready .any ops listed)[t % (Region.ready .any ops listed).length]? with
  |none=>
   have hnil:Region.ready .any ops listed=[]:=by
    cases hr:Region.ready .any ops listed with
    |nil=>rfl
    |cons x xs=>
     rw[hr] at hi
     have hlt:t % (x::xs).length<(x::xs).length:=Nat.mod_lt _ (by simp)
     grind
   simp only[List.reverse_nil,vB]
   intro i
   induction i using Nat.strongRecOn with
   |ind i ih=>
    intro hil
    rcases Classical.em (i∈D) with h|h
    ·exact h
    ·exfalso
     have hil':i<ops.size:=by simpa using hil
     have hr:i∈Region.ready .any ops listed:=by
      rw[mem_ready]
      refine⟨(hgt i hil').2 h,ops[i],Array.getElem?_eq_getElem hil',?_⟩
      intro e he hb
      have hlt:e.on<i:=hd i ops[i] (by simp[hil']) e.on (Fb.2 ⟨e,he,hb,rfl⟩)
      grind
     grind
  |some i=>
   simp only[]
   rw[linearise_go_acc,List.reverse_singleton,List.singleton_append]
   have hmem:=List.mem_of_getElem? hi
   rw[mem_ready] at hmem
   obtain⟨h0,o,ho,hall⟩:=hmem
   have hlt:i<ops.size:=(Array.getElem?_eq_some_iff.1 ho).1
   have hnD:=(hgt i hlt).1 h0
   refine⟨by simpa using hlt,hnD,?_,?_⟩
   ·intro o' ho' j hj
    have:o'=o:=by grind
    subst this
    obtain⟨e,he,hb,rfl⟩:=Fb.1 hj
    grind
   ·refine Ae hd fuel _ _ (D++[i]) (by simpa using hsz) ?_ ?_
    ·intro j hj
     by_cases e:i=j
     ·simp_all
     ·rw[getD_set_ne false e,hl j hj];simp[Ne.symm e]
    ·have hsub:((List.range ops.size).filter fun j=>decide (j∉D++[i]))=(((List.range ops.size).filter fun j=>decide (j∉D)).filter fun j=>decide (j≠i)):=by
      rw[List.filter_filter]
      grind
     rw[hsub]
     have:((((List.range ops.size).filter fun j=>decide (j∉D)).filter fun j=>decide (j≠i)).length<((List.range ops.size).filter fun j=>decide (j∉D)).length):=
      List.length_filter_lt_length_iff_exists.2 ⟨i,by simp[hnD];exact hlt,by simp⟩
     omega
end Go.Ab
end
section
namespace Go.Ab
open Go.RowKit
variable {P:Program} {B:Nat} {K:FuncId→List Value→Option hJ}
structure Kj (P:Program) (B N:Nat) (ρ:gQ) (h:AH) (w:World) (ρ':gQ) (h':AH) (w':World):Prop where
 ext:Ext ρ ρ'
 inv:Inv P B ρ' h' w'
 un:∀i,i<N→ρ i=none→ρ' i=none
 lQ:∀i,i<N→ρ i=none→h'.get i=h.get i
 stay:∀i,i<N→h.get i=none→h'.get i=none
 frame:∀b,b<w.heap.size→(∀i s,h.base≤i→(h.get i).isSome→ρ i≠some (b,s))→w'.heap[b]?=w.heap[b]?
 range:∀i b s,h.base≤i→(h'.get i).isSome→ρ' i=some (b,s)→b<w.heap.size→∃j s',h.base≤j∧(h.get j).isSome∧ρ j=some (b,s')
 base:h'.base=h.base
 tJ:∀i,i<h.base→h'.get i=h.get i
 size:w.heap.size≤w'.heap.size
 os:w'.os=w.os
 out:w'.output=w.output
 tape:w'.tape=w.tape
theorem Kj.Bo {ρ ρ':gQ} {h h':AH} {w w':World} (e:Kj P B h.next ρ h w ρ' h' w') (hn:h.next≤h'.next):kM P B ρ h w ρ' h' w':=
 {ext:=e.ext,inv:=e.inv,un:=e.un,lQ:=e.lQ,stay:=e.stay,frame:=e.frame,range:=e.range,base:=e.base,tJ:=e.tJ,next:=hn,size:=e.size,os:=e.os,out:=e.out,tape:=e.tape}
theorem Kj.then {N:Nat} {ρ ρ1 ρ2:gQ} {h h1 h2:AH} {w w1 w2:World} (a:Kj P B N ρ h w ρ1 h1 w1) (b:kM P B ρ1 h1 w1 ρ2 h2 w2) (hN:N≤h1.next):Kj P B N ρ h w ρ2 h2 w2 where
 ext:=a.ext.trans b.ext
 inv:=b.inv
 un:=fun i hi hn=>b.un i (Nat.lt_of_lt_of_le hi hN) (a.un i hi hn)
 lQ:=fun i hi hn=>(b.lQ i (Nat.lt_of_lt_of_le hi hN) (a.un i hi hn)).trans (a.lQ i hi hn)
 stay:=fun i hi hn=>b.stay i (Nat.lt_of_lt_of_le hi hN) (a.stay i hi hn)
 frame:=fun x hx hn=>by
  refine(b.frame x (Nat.lt_of_lt_of_le hx a.size) ?_).trans (a.frame x hx hn)
  intro i s hb hl he
  rw[a.base] at hb
  obtain⟨j,s',hj1,hj2,hj3⟩:=a.range i x s hb hl he hx
  grind
 range:=fun i x s hb hl he hx=>by
  obtain⟨j,s',hj1,hj2,hj3⟩:=b.range i x s (by rw[a.base];exact hb) hl he (Nat.lt_of_lt_of_le hx a.size)
  rw[a.base] at hj1
  exact a.range j x s' hj1 hj2 hj3 hx
 base:=b.base.trans a.base
 tJ:=fun i hi=>(b.tJ i (by rw[a.base];exact hi)).trans (a.tJ i hi)
 size:=Nat.le_trans a.size b.size
 os:=b.os.trans a.os
 out:=b.out.trans a.out
 tape:=b.tape.trans a.tape
theorem mz {N:Nat} {ρ0 ρ:gQ} {h0 g:AH} {w0 w w':World} (e:Kj P B N ρ0 h0 w0 ρ g w) {i:Nat} {o':Obj} (hN:N≤i) (hlt:i<g.next) (hb:h0.base≤i) (hB:B≤w0.heap.size) (hn:ρ i=none)
  (hheap:w'.heap=w.heap.push o') (hos:w'.os=w.os) (hout:w'.output=w.output) (htape:w'.tape=w.tape) (hrel:∀o,g.get i=some o→rZ P (sL ρ i (w.heap.size,(0,0))) (0,0) o o'):
  Kj P B N ρ0 h0 w0 (sL ρ i (w.heap.size,(0,0))) g w':=by
 have hext:Ext ρ (sL ρ i (w.heap.size,(0,0))):=Ext.sL hn
 have hi:=e.inv
 have hlive:∀j b s,(g.get j).isSome→ρ j=some (b,s)→b<w.heap.size:=fun j b s hj hr=>by
  obtain⟨o,ho⟩:=Option.isSome_iff_exists.1 hj
  obtain⟨o2,h2,_⟩:=hi.pM j o ho b s hr
  grind
 have hglob:∀k,k<P.globals.size→k≠i:=fun k hk hki=>by
  have:=hi.oQ k hk
  grind
 refine {ext:=e.ext.trans hext,inv:=?_,un:=?_,lQ:=fun j hj hr=>e.lQ j hj hr,stay:=e.stay,frame:=?_,range:=?_,base:=e.base,tJ:=e.tJ,size:=by rw[hheap];simp;exact Nat.le_succ_of_le e.size,os:=hos.trans e.os,out:=hout.trans e.out,tape:=htape.trans e.tape}
 ·refine {pM:=?_,inj:=?_,low:=?_,old:=?_,fresh:=?_,gM:=hi.gM,oQ:=?_,size:=by rw[hheap];simp;exact Nat.le_succ_of_le hi.size,bn:=hi.bn}
  ·intro j o hg b s hr
   by_cases ej:j=i
   ·subst ej
    rw[bK] at hr;grind
   ·rw[bQ ej] at hr
    obtain⟨o2,h2,h3⟩:=hi.pM j o hg b s hr
    refine⟨o2,?_,h3.mono hext⟩
    grind
  ·intro j k b sj sk hj hk gj gk rj rk
   by_cases ej:j=i
   ·by_cases ek:k=i
    ·rw[ej,ek]
    ·rw[bQ ek] at rk
     have:=hlive k b sk gk rk
     subst ej;rw[bK] at rj;cases rj;omega
   ·rw[bQ ej] at rj
    by_cases ek:k=i
    ·have:=hlive j b sj gj rj
     subst ek;rw[bK] at rk;cases rk;omega
    ·rw[bQ ek] at rk
     exact hi.inj j k b sj sk hj hk gj gk rj rk
  ·intro j b s hj gj rj
   by_cases ej:j=i
   ·subst ej;rw[bK] at rj;cases rj;exact Nat.le_trans hB e.size
   ·rw[bQ ej] at rj;exact hi.low j b s hj gj rj
  ·intro j b s hj rj
   rw[e.base] at hj
   rw[bQ (by omega)] at rj
   exact hi.old j b s (by rw[e.base];exact hj) rj
  ·intro j hj
   rw[bQ (by omega)]
   exact hi.fresh j hj
  ·intro k hk
   rw[bQ (hglob k hk)]
   exact hi.oQ k hk
 ·intro j hj hr
  rw[bQ (by omega)]
  exact e.un j hj hr
 ·intro b hlt' hno
  rw[hheap,Array.getElem?_push,if_neg (by have:=e.size;omega)]
  exact e.frame b hlt' hno
 ·intro j b s hj gj rj hlt'
  by_cases ej:j=i
  ·subst ej;rw[bK] at rj;cases rj;have:=e.size;omega
  ·rw[bQ ej] at rj;exact e.range j b s hj gj rj hlt'
theorem Su {N:Nat} {ρ0 ρ:gQ} {h0 g:AH} {w0 w:World} (e:Kj P B N ρ0 h0 w0 ρ g w) {i:Nat} {o:lG} (hN:N≤i) (hlt:i<g.next) (hb:h0.base≤i) (hB:B≤w0.heap.size)
  (hrel:∀b s,ρ i=some (b,s)→∃o',w.heap[b]?=some o'∧rZ P ρ s o o')
  (hno:∀b s,ρ i=some (b,s)→w0.heap.size≤b∧∀j s',h0.base≤j→(g.get j).isSome→ρ j=some (b,s')→j=i):
  Kj P B N ρ0 h0 w0 ρ (g.set i (some o)) w:=by
 have hi:=e.inv
 have hgb:g.base≤i:=by rw[e.base];exact hb
 have hget:∀j,(g.set i (some o)).get j=if j=i then some o else g.get j:=fun j=>AH.gY hgb
 have hcase:∀j,((g.set i (some o)).get j).isSome→j=i∨(g.get j).isSome:=fun j hj=>by
  grind
 refine {ext:=e.ext,inv:=?_,un:=e.un,lQ:=?_,stay:=fun j hj hn=>by rw[hget,if_neg (by omega)];exact e.stay j hj hn,frame:=e.frame,range:=?_,base:=by simp;exact e.base,tJ:=?_,size:=e.size,os:=e.os,out:=e.out,tape:=e.tape}
 ·refine {pM:=?_,inj:=?_,low:=?_,old:=?_,fresh:=?_,gM:=?_,oQ:=hi.oQ,size:=hi.size,bn:=by simp;exact hi.bn}
  ·intro j oj gj b s rj
   rw[hget] at gj
   by_cases ej:j=i
   ·grind
   ·rw[if_neg ej] at gj;exact hi.pM j oj gj b s rj
  ·intro j k b sj sk hj hk gj gk rj rk
   simp at hj hk
   rcases hcase j gj with ej|gj'
   ·rcases hcase k gk with ek|gk'
    ·rw[ej,ek]
    ·subst ej;rw[e.base] at hk;grind
   ·rcases hcase k gk with ek|gk'
    ·subst ek;rw[e.base] at hj;grind
    ·exact hi.inj j k b sj sk hj hk gj' gk' rj rk
  ·intro j b s hj gj rj
   simp at hj
   rcases hcase j gj with ej|gj'
   ·grind
   ·exact hi.low j b s hj gj' rj
  ·intro j b s hj rj
   simp at hj
   exact hi.old j b s hj rj
  ·intro j hj
   simp at hj
   exact hi.fresh j hj
  ·intro j hj
   simp at hj
   rw[hget,if_neg (by omega)]
   exact hi.gM j hj
 ·intro j hj hr
  rw[hget,if_neg (by omega)]
  exact e.lQ j hj hr
 ·intro j b s hj gj rj hlt'
  rcases hcase j gj with ej|gj'
  ·grind
  ·exact e.range j b s hj gj' rj hlt'
 ·intro j hj
  rw[hget,if_neg (by omega)]
  exact e.tJ j hj
theorem G2 {R:iM} {all:List Oper} {r0:Nat}:∀(os:List Oper) (i:Nat) (env:List Value) (h:AH) (rs:List Rec) (e:List Value) (hN:AH),fT P R all r0 i os env h=some (rs,e,hN)→
  ∃(E:Nat→List Value) (H:Nat→AH) (V:Nat→Value),E 0=env∧H 0=h∧
   (∀j o,os[j]?=some o→eT P R all r0 (i+j) (E j) (H j) o=some (V j,H (j+1))∧E (j+1)=iD (E j) o.dst (V j))∧
   E os.length=e∧H os.length=hN∧∀j,j<os.length→rs[j]?=some ⟨E j,H j,V j⟩
 |[],i,env,h,rs,e,hN,ht=>by
  simp only[fT,Option.some.injEq,Prod.mk.injEq] at ht
  obtain⟨rfl,rfl,rfl⟩:=ht
  exact⟨fun _=>env,fun _=>h,fun _=>undef,rfl,rfl,fun j o hj=>by simp at hj,rfl,rfl,fun j hj=>by simp at hj⟩
 |o::os,i,env,h,rs,e,hN,ht=>by
  simp only[fT] at ht
  split at ht
  ·rename_i v h' hs
   split at ht
   ·rename_i rs' e' ht'
    simp only[Option.some.injEq,Prod.mk.injEq] at ht
    obtain⟨rfl,rfl⟩:=ht
    obtain⟨E,H,V,h1,h2,h3,h4,h5,h6⟩:=G2 os (i+1) (iD env o.dst v) h' rs' e hN ht'
    refine⟨fun j=>match j with|0=>env|j+1=>E j,fun j=>match j with|0=>h|j+1=>H j,fun j=>match j with|0=>v|j+1=>V j,rfl,rfl,?_,h4,h5,?_⟩
    ·grind
    grind
   ·cases ht
  ·cases ht
def wW (all:List Oper) (V:Nat→Value) (e:List Value) (D:List Nat):List Value:=D.foldl (fun e i=>iD e ((all[i]?).bind (·.dst)) (V i)) e
theorem iz {e:List Value} {d:Option Tmp} {v:Value}:(iD e d v).length=e.length:=by cases d<;>simp[iD]
theorem Q4 {e:List Value} {d:Option Tmp} {v:Value} {t:Nat}:(iD e d v)[t]?=if d=some t then(if t<e.length then some v else none) else e[t]?:=by
 cases d with
 |none=>simp[iD]
 |some d=>
  simp only[iD,Option.some.injEq,List.getElem?_set]
  grind
theorem Cw {all:List Oper} {V:Nat→Value} {t:Nat}:∀(D:List Nat) (e:List Value),(∀i∈D,(all[i]?).bind (·.dst)≠some t)→(wW all V e D)[t]?=e[t]?
 |[],e,_=>rfl
 |i::D,e,h=>by
  show(wW all V (iD e _ (V i)) D)[t]?=_
  rw[Cw D _ fun j hj=>h j (List.mem_cons_of_mem _ hj),Q4,if_neg (h i List.mem_cons_self)]
theorem Oi {all:List Oper} {V:Nat→Value} {t j:Nat} (hj:(all[j]?).bind (·.dst)=some t) (hu:∀i,(all[i]?).bind (·.dst)=some t→i=j):∀(D:List Nat) (e:List Value),j∈D→(wW all V e D)[t]?=if t<e.length then some (V j) else none
 |[],e,h=>by cases h
 |i::D,e,h=>by
  show(wW all V (iD e _ (V i)) D)[t]?=_
  by_cases hD:j∈D
  ·rw[Oi hj hu D _ hD,iz]
  ·have hij:i=j:=by grind
   subst hij
   rw[Cw D _ fun k hk hkt=>hD (hu k hkt▸hk),Q4,if_pos hj]
theorem Lc {all:List Oper} {V:Nat→Value} {t:Nat} {e:List Value} (hu:∀i j:Nat,(all[i]?).bind (·.dst)=some t→(all[j]?).bind (·.dst)=some t→i=j) {D D':List Nat}
  (hs:∀j:Nat,(all[j]?).bind (·.dst)=some t→(j∈D↔j∈D')):(wW all V e D)[t]?=(wW all V e D')[t]?:=by
 rcases Classical.em (∃j,j∈D∧(all[j]?).bind (·.dst)=some t) with⟨j,hj,ht⟩|hno
 ·rw[Oi ht (fun i hi=>hu i j hi ht) D e hj,Oi ht (fun i hi=>hu i j hi ht) D' e ((hs j ht).1 hj)]
 ·rw[Cw D e fun i hi hit=>hno ⟨i,hi,hit⟩,Cw D' e fun i hi hit=>hno ⟨i,(hs i hit).2 hi,hit⟩]
theorem Mg {all:List Oper} {V:Nat→Value} {e:List Value} {D:List Nat} {i:Nat}:wW all V e (D++[i])=iD (wW all V e D) ((all[i]?).bind (·.dst)) (V i):=by
 unfold wW;grind
end Go.Ab
end
section
namespace Go.Ab
open Go.RowKit
variable {P:Program} {B:Nat} {K:FuncId→List Value→Option hJ}
structure Dr (P:Program) (R:iM) (all:List Oper) (r0:Nat) (E:Nat→List Value) (H:Nat→AH) (V:Nat→Value):Prop where
 step:∀(j:Nat) o,all[j]?=some o→eT P R all r0 j (E j) (H j) o=some (V j,H (j+1))
 env:∀(j:Nat) o,all[j]?=some o→E (j+1)=iD (E j) o.dst (V j)
 dir:∀(k:Nat) o,all[k]?=some o→∀j∈eO o,j<k
 kind:∀(k:Nat) o,all[k]?=some o→kindOf o.op≠.other
 nS:∀i j:Nat,∀t,(all[i]?).bind (·.dst)=some t→(all[j]?).bind (·.dst)=some t→i=j
 tmps:∀i j:Nat,∀o p d,all[i]?=some o→all[j]?=some p→i≠j→p.dst=some d→d∈Az all o→(j<i→ahead (eK all []) j i=true)∧(i<j→ahead (eK all []) i j=true)
 tP:∀i j:Nat,∀o p,all[i]?=some o→all[j]?=some p→dF o.op=true→dF p.op=true→j<i→ahead (eK all []) j i=true
 flt:∀i s:Nat,∀o,all[i]?=some o→fR o.op=true→s≤all.length→(s=all.length∨∃p,all[s]?=some p∧dF p.op=true)→
  (∀j p,all[j]?=some p→dF p.op=true→(j<s→ahead (eK all []) i j=false)∧(s≤j→ahead (eK all []) j i=false))→
  ¬(i<s∧∀j p,i<j→j<s→all[j]?=some p→dF p.op=false)→
  dU ⟨all⟩ (E i) o=some true→eD P (cT P (E i)) (H s) o.op=some (V i)
structure St (P:Program) (B:Nat) (all:List Oper) (r0:Nat) (E:Nat→List Value) (H:Nat→AH) (V:Nat→Value) (ρ0:gQ) (h:AH) (w0:World) (D:List Nat) (s:Nat) (ρ:gQ) (w:World) (tmps:List Value):Prop where
 Bo:Kj P B r0 ρ0 h w0 ρ (H s) w
 ic:∀i∈D,i<all.length
 closed:∀i∈D,∀o,all[i]?=some o→∀j∈eO o,j∈D
 s1:∀(j:Nat) o,j<s→all[j]?=some o→dF o.op=true→j∈D
 s3:∀(j:Nat) o,all[j]?=some o→dF o.op=true→j∈D→j<s
 sle:s≤all.length
 env:aT ρ (wW all V (E 0) D) tmps
 nx:r0+all.length≤(H s).next
 Bl:∀(i:Nat) o b f,s≤i→i∈D→all[i]?=some o→dU ⟨all⟩ (E i) o=some true→dW P (cT P (E i)) o.op=some (b,f)→kindOf o.op= .alloc→
  ∃n o',ρ (r0+i)=some (n,(0,0))∧w.heap[n]?=some o'∧rZ P ρ (0,0) b o'
 tF:∀i n t,i<all.length→ρ (r0+i)=some (n,t)→w0.heap.size≤n∧n<w.heap.size
 lone:∀i n t,s≤i→i<all.length→ρ (r0+i)=some (n,t)→∀j s',h.base≤j→((H s).get j).isSome→ρ j≠some (n,s')
 Fy:∀i i' n t t',i<all.length→i'<all.length→ρ (r0+i)=some (n,t)→ρ (r0+i')=some (n,t')→i=i'
 Yg:∀i,i<all.length→i∉D→ρ (r0+i)=none
 qh:∀(i:Nat) o,all[i]?=some o→¬(kindOf o.op= .alloc∧dU ⟨all⟩ (E i) o=some true)→ρ (r0+i)=none
 rev:∀(i:Nat) o b f,i<s→i∉D→all[i]?=some o→dU ⟨all⟩ (E i) o=some true→dW P (cT P (E i)) o.op=some (b,f)→kindOf o.op= .alloc→(H s).get (r0+i)=some b
 Ys:∀j,s≤j→j<all.length→(H s).get (r0+j)=none
 gr:∀m,m≤s→(∀(j:Nat) p,m≤j→j<s→all[j]?=some p→dF p.op=false)→nO (H m) (H s)
def nr (all:List Oper) (D:List Nat) (s:Nat):Prop:=s=all.length∨∃o,all[s]?=some o∧dF o.op=true∧s∉D
variable {R:iM} {all:List Oper} {r0:Nat} {E:Nat→List Value} {H:Nat→AH} {V:Nat→Value} {ρ0 ρ:gQ} {h:AH} {w0 w:World} {D:List Nat} {s:Nat} {tmps:List Value}
theorem Jw {op:Op} (h:fR op=true):kindOf op= .vX∨kindOf op= .call:=by
 cases op<;>simp[fR,kindOf] at h ⊢
theorem uD {op:Op} (h:fR op=true):dF op=false∧kindOf op≠.alloc:=by
 rcases Jw h with hk|hk<;>simp[dF,h,hk]
theorem Dr.cases (d:Dr P R all r0 E H V) {i:Nat} {o:Oper} (ho:all[i]?=some o):
  (dU ⟨all⟩ (E i) o=some false∧V i=undef∧H (i+1)=H i)∨
  (dU ⟨all⟩ (E i) o=some true∧fR o.op=true∧eD P (cT P (E i)) (H i) o.op=some (V i)∧H (i+1)=H i)∨
  (dU ⟨all⟩ (E i) o=some true∧kindOf o.op= .alloc∧∃b f,dW P (cT P (E i)) o.op=some (b,f)∧V i=f (r0+i)∧H (i+1)=(H i).set (r0+i) (some b))∨
  (dU ⟨all⟩ (E i) o=some true∧dF o.op=true∧dS P R (cT P (E i)) (H i) o.op=some (V i,H (i+1))):=by
 have hs:=d.step i o ho
 have hk:=d.kind i o ho
 unfold eT at hs
 split at hs
 ·cases hs
 ·grind
 ·rename_i hw
  split at hs
  ·rename_i hl
   simp only[Option.map_eq_some_iff] at hs
   grind
  ·rename_i hl
   split at hs
   ·rename_i hal
    simp only[Option.map_eq_some_iff] at hs
    grind
   ·rename_i hal
    refine .inr (.inr (.inr ⟨hw,?_,hs⟩))
    unfold dF
    simp only[hl,Bool.not_false,Bool.and_true]
    have hal':kindOf o.op≠.alloc:=by simpa using hal
    have hll:kindOf o.op≠.vX:=by
     intro hh
     apply hl
     cases hop:o.op<;>rw[hop] at hh<;>simp[kindOf] at hh<;>simp[fR,kindOf]
    cases hkk:kindOf o.op with
    |vX=>exact absurd hkk hll
    |alloc=>exact absurd hkk hal'
    |store=>rfl
    |call=>rfl
    |other=>exact absurd hkk hk
theorem Dr.aC5 (d:Dr P R all r0 E H V):∀i,i≤all.length→E i=wW all V (E 0) (List.range i)
 |0,_=>rfl
 |i+1,hi=>by
  have ho:all[i]?=some all[i]:=List.getElem?_eq_getElem (by omega)
  rw[d.env i _ ho,d.aC5 i (by omega),List.range_succ,Mg,ho]
  rfl
theorem St.Jh (d:Dr P R all r0 E H V) (st:St P B all r0 E H V ρ0 h w0 D s ρ w tmps) {i:Nat} {o:Oper} (ho:all[i]?=some o) (hdir:∀j∈eO o,j∈D) {j:Nat} (hj:ahead (eK all []) j i=true):j∈D:=
 Iy d.dir st.closed i o ho hdir j hj
theorem St.looks (d:Dr P R all r0 E H V) (st:St P B all r0 E H V ρ0 h w0 D s ρ w tmps) {i:Nat} {o:Oper} (ho:all[i]?=some o) (hD:i∉D) (hdir:∀j∈eO o,j∈D) {t:Nat} (ht:t∈Az all o):
  (wW all V (E 0) D)[t]?=(E i)[t]?:=by
 have hi:i<all.length:=(List.getElem?_eq_some_iff.1 ho).1
 rw[d.aC5 i (by omega)]
 refine Lc (fun a b ha hb=>d.nS a b t ha hb) fun j hj=>?_
 rw[List.mem_range]
 cases hp:all[j]? with
 |none=>grind
 |some p=>
  rw[hp] at hj
  simp only[Option.bind_some] at hj
  by_cases hji:j=i
  ·subst hji;simp[hD]
  ·obtain⟨h1,h2⟩:=d.tmps i j o p t ho hp (Ne.symm hji) hj ht
   constructor
   ·intro hjD
    rcases Nat.lt_or_ge j i with hlt|hge
    ·exact hlt
    ·exfalso
     have h3:=h2 (by omega)
     exact hD (Iy d.dir st.closed j p hp (st.closed j hjD p hp) i h3)
   ·intro hlt
    exact st.Jh d ho hdir (h1 hlt)
theorem St.ev (d:Dr P R all r0 E H V) (st:St P B all r0 E H V ρ0 h w0 D s ρ w tmps) {i:Nat} {o:Oper} (ho:all[i]?=some o) (hD:i∉D) (hdir:∀j∈eO o,j∈D):
  ∀x∈o.op.operands.toList,cT P (wW all V (E 0) D) x=cT P (E i) x:=by
 intro x hx
 cases x with
 |tmp t=>
  have:=st.looks d ho hD hdir (t:=t) (by unfold Az;grind)
  simp only[cT,List.getD_eq_getElem?_getD,this]
 |_=>rfl
theorem St.wanted (d:Dr P R all r0 E H V) (st:St P B all r0 E H V ρ0 h w0 D s ρ w tmps) {i:Nat} {o:Oper} (ho:all[i]?=some o) (hD:i∉D) (hdir:∀j∈eO o,j∈D):
  dU ⟨all⟩ (wW all V (E 0) D) o=dU ⟨all⟩ (E i) o:=by
 unfold dU
 cases hg:o.guard with
 |none=>rfl
 |some x=>
  obtain⟨j,want⟩:=x
  simp only
  cases hj:((⟨all⟩:Array Oper)[j]?).bind (·.dst) with
  |none=>rfl
  |some t=>
   have hj':(all[j]?).bind (·.dst)=some t:=by simpa using hj
   have:=st.looks d ho hD hdir (t:=t) (by unfold Az;grind)
   grind
theorem St.Zk (d:Dr P R all r0 E H V) (st:St P B all r0 E H V ρ0 h w0 D s ρ w tmps) (hf:nr all D s) {i:Nat} {o:Oper} (ho:all[i]?=some o) (hD:i∉D) (hdir:∀j∈eO o,j∈D) (hl:fR o.op=true) (hw:dU ⟨all⟩ (E i) o=some true):
  eD P (cT P (E i)) (H s) o.op=some (V i):=by
 rcases Classical.em (i<s∧∀j p,i<j→j<s→all[j]?=some p→dF p.op=false) with⟨h1,h2⟩|hno
 ·rcases d.cases ho with⟨hw',_⟩|⟨_,_,hv,_⟩|⟨_,hk,_⟩|⟨_,hk,_⟩
  ·grind
  ·refine W0 (st.gr i (by omega) fun j p hj1 hj2 hp=>?_) hv
   by_cases e:j=i
   ·subst e;rw[ho] at hp;cases hp;exact(uD hl).1
   grind
  ·exact absurd hk (uD hl).2
  ·rw[(uD hl).1] at hk;cases hk
 ·refine d.flt i s o ho hl st.sle (hf.imp id fun⟨p,hp,hh,_⟩=>⟨p,hp,hh⟩) ?_ hno hw
  intro j p hp hh
  constructor
  ·intro hlt
   cases ha:ahead (eK all []) i j with
   |false=>rfl
   |true=>exact absurd (Iy d.dir st.closed j p hp (st.closed j (st.s1 j p hlt hp hh) p hp) i ha) hD
  ·intro hge
   cases ha:ahead (eK all []) j i with
   |false=>rfl
   |true=>
    have hjD:=st.Jh d ho hdir ha
    have:=st.s3 j p hp hh hjD
    omega
end Go.Ab
end
