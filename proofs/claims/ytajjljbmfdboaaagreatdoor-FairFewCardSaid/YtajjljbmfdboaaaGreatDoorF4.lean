/- A part of the proof. -/
import Derived.Test.YtajjljbmfdboaaaGreatDoorF3
section
namespace Go.Ab
open Go.RowKit
variable {P:Program} {B:Nat} {K:FuncId→List Value→Option hJ}
theorem Ms {α:Type} {l:List α} {f:α×Nat→Bool} (h:l.zipIdx.all f=true) {k:Nat} {o:α} (ho:l[k]?=some o):f (o,k)=true:=by
 grind
theorem Rw {l:List Nat} (hs:l.Pairwise (·<·)) {i p:Nat} (hf:l.find? (fun x=>decide (i<x))=some p):i<p∧p∈l∧∀j∈l,i<j→p≤j:=by
 obtain⟨h1,as,bs,rfl,h2⟩:=List.find?_eq_some_iff_append.1 hf
 refine⟨by simpa using h1,by simp,?_⟩
 intro j hj hij
 rcases List.mem_append.1 hj with h|h
 ·grind
 ·rw[List.pairwise_append] at hs
  rcases List.mem_cons.1 h with h|h
  ·omega
  ·have:=(List.pairwise_cons.1 hs.2.1).1 j h;omega
structure Fit (all:List Oper):Prop where
 dir:∀(k:Nat) o,all[k]?=some o→∀j∈eO o,j<k
 kind:∀(k:Nat) o,all[k]?=some o→kindOf o.op≠.other
 nS:∀i j:Nat,∀t,(all[i]?).bind (·.dst)=some t→(all[j]?).bind (·.dst)=some t→i=j
 tmps:∀i j:Nat,∀o p d,all[i]?=some o→all[j]?=some p→i≠j→p.dst=some d→d∈Az all o→(j<i→ahead (eK all []) j i=true)∧(i<j→ahead (eK all []) i j=true)
 tP:∀i j:Nat,∀o p,all[i]?=some o→all[j]?=some p→dF o.op=true→dF p.op=true→j<i→ahead (eK all []) j i=true
theorem Wd {all:List Oper} (h:D7 all=true):Fit all:=by
 unfold D7 at h
 simp only[Bool.and_eq_true] at h
 obtain⟨⟨⟨h1,h2⟩,h3⟩,_⟩:=h
 have pair:∀i j:Nat,∀o p,all[i]?=some o→all[j]?=some p→i≠j→
   (o.dst.isNone||o.dst !=p.dst)=true∧
   (match p.dst with|some d=> !(Az all o).contains d||(if j<i then ahead (eK all []) j i else ahead (eK all []) i j)|none=>true)=true∧
   (!(dF o.op&&dF p.op&&decide (j<i))||ahead (eK all []) j i)=true:=by
  intro i j o p ho hp hij
  have:=Ms (Ms h3 ho) hp
  grind
 refine {dir:=?_,kind:=?_,nS:=?_,tmps:=?_,tP:=?_}
 ·intro k o ho j hj
  have:=Ms h1 ho
  grind
 ·grind
 ·grind
 ·grind
 grind
theorem aBo {all:List Oper} {i s n:Nat} (hn:n=all.length) (hi:i<n):
  let tP:=(List.range n).filter fun i=>(all[i]?).any fun o=>dF o.op
  ((tP++[n]).find? fun x=>decide (i<x)).getD n=s→i<s∧∀j p,i<j→j<s→all[j]?=some p→dF p.op=false:=by
 intro tP hs
 have hsorted:(tP++[n]).Pairwise (·<·):=by
  rw[List.pairwise_append]
  refine⟨(List.pairwise_lt_range).filter _,by simp,?_⟩
  grind
 cases hf:(tP++[n]).find? fun x=>decide (i<x) with
 |none=>
  grind
 |some p=>
  rw[hf] at hs
  simp only[Option.getD_some] at hs
  subst hs
  obtain⟨h1,_,h3⟩:=Rw hsorted hf
  grind
theorem Wa {all:List Oper} {i s:Nat} {o:Oper} (ho:all[i]?=some o) (hl:fR o.op=true) (hph:s=all.length∨∃p,all[s]?=some p∧dF p.op=true)
  (hah:∀j p,all[j]?=some p→dF p.op=true→(j<s→ahead (eK all []) i j=false)∧(s≤j→ahead (eK all []) j i=false))
  (hown:¬(i<s∧∀j p,i<j→j<s→all[j]?=some p→dF p.op=false)):(i,s)∈Bk all:=by
 have hil:i<all.length:=(List.getElem?_eq_some_iff.1 ho).1
 unfold Bk
 simp only
 rw[List.mem_flatMap]
 refine⟨i,List.mem_range.2 hil,?_⟩
 rw[if_pos (by simp[ho,hl])]
 rw[List.mem_map]
 refine⟨s,?_,rfl⟩
 rw[List.mem_filter]
 constructor
 ·grind
 ·rw[Bool.and_eq_true]
  constructor
  ·simp only[bne_iff_ne,ne_eq]
   intro he
   exact hown (aBo rfl hil he.symm)
  ·rw[List.all_eq_true]
   intro j hj
   rw[List.mem_filter] at hj
   obtain⟨hj1,hj2⟩:=hj
   cases hp:all[j]? with
   |none=>simp[hp] at hj2
   |some p=>
    simp[hp] at hj2
    obtain⟨h1,h2⟩:=hah j p hp hj2
    split
    ·rename_i h;simp[h1 h]
    ·rename_i h;simp[h2 (by omega)]
theorem Qw {R:iM} {all:List Oper} {r0:Nat}:∀(os:List Oper) (i:Nat) (env:List Value) (h:AH) (rs:List Rec) (e:List Value) (hN:AH),fT P R all r0 i os env h=some (rs,e,hN)→rs.length=os.length
 |[],i,env,h,rs,e,hN,ht=>by
  simp only[fT,Option.some.injEq,Prod.mk.injEq] at ht
  rw[←ht.1];rfl
 |o::os,i,env,h,rs,e,hN,ht=>by
  simp only[fT] at ht
  split at ht
  ·split at ht
   ·rename_i hs
    simp only[Option.some.injEq,Prod.mk.injEq] at ht
    rw[←ht.1,List.length_cons,List.length_cons,Qw os _ _ _ _ _ _ hs]
   ·cases ht
  ·cases ht
theorem wx (C:Ctx P B K) (R:iM) (hR:zX C R):ir C R:=by
 intro ops env h env' h' hrun ρ w b a cs k t hi hg he
 unfold oV at hrun
 split at hrun
 ·rename_i hok
  rw[Bool.and_eq_true] at hok
  obtain⟨hok,hmode⟩:=hok
  split at hrun
  ·rename_i rs e hN htext
   split at hrun
   ·rename_i hfl
    simp only[Option.some.injEq,Prod.mk.injEq] at hrun
    obtain⟨rfl,rfl⟩:=hrun
    have fit:=Wd hok
    generalize hall:ops.toList=all at fit htext hfl hok
    have hsz:ops.size=all.length:=by rw[←hall];simp
    obtain⟨E,H,V,hE0,hH0,hstep,hEn,hHn,hrs⟩:=G2 all 0 env _ rs e hN htext
    have d:Dr P R all h.next E H V:={
     step:=fun j o ho=>by have:=(hstep j o ho).1;rwa [Nat.zero_add] at this
     env:=fun j o ho=>(hstep j o ho).2
     dir:=fit.dir,kind:=fit.kind,nS:=fit.nS,tmps:=fit.tmps,tP:=fit.tP
     flt:=fun i s o ho hl hs hph hah hown hw=>by
      rw[List.all_eq_true] at hfl
      have:=hfl (i,s) (Wa ho hl hph hah hown)
      have hil:i<all.length:=(List.getElem?_eq_some_iff.1 ho).1
      unfold qL at this
      simp only[ho,hrs i hil,hw] at this
      have hh:eD P (cT P (E i)) (H s) o.op=some (V i):=by
       rcases Nat.lt_or_ge s all.length with h1|h1
       ·rw[hrs s h1] at this
        simp only at this
        split at this
        ·rename_i v hv
         rw[hv,Eo _ _ this]
        ·cases this
       ·have hse:s=all.length:=by omega
        rw[List.getElem?_eq_none (by rw[Qw _ _ _ _ _ _ _ htext];omega)] at this
        simp only at this
        rw[hse,hHn]
        split at this
        ·rename_i v hv
         rw[hv,Eo _ _ this]
        ·cases this
      exact hh}
    have hB:B≤w.heap.size:=hi.size
    have hi':Inv P B ρ (H 0) w:=by
     rw[hH0]
     exact {pM:=hi.pM,inj:=hi.inj,low:=hi.low,old:=hi.old,fresh:=fun i h1=>hi.fresh i (by simp at h1;omega),gM:=fun i h1=>hi.gM i (by simp at h1;omega),oQ:=hi.oQ,size:=hi.size,bn:=by have:=hi.bn;grind}
    have hget0:∀i,(H 0).get i=h.get i:=fun i=>by rw[hH0];rfl
    have st0:St P B all h.next E H V ρ h w [] 0 ρ w a.tmps.toList:={
     Bo:={ext:=Ext.refl _,inv:=hi',un:=fun _ _ h=>h,lQ:=fun i _ _=>hget0 i,stay:=fun i _ h1=>by rw[hget0];exact h1,frame:=fun _ _ _=>rfl,
                   range:=fun i b s h1 h2 h3 _=>⟨i,s,h1,by grind,h3⟩,base:=by rw[hH0],tJ:=fun i _=>hget0 i,size:=Nat.le_refl _,os:=rfl,out:=rfl,tape:=rfl}
     ic:=fun i h1=>by cases h1
     closed:=fun i h1=>by cases h1
     s1:=fun j o h1=>by omega
     s3:=fun j o _ _ h1=>by cases h1
     sle:=Nat.zero_le _
     env:=by rw[hE0];exact he
     nx:=by grind
     Bl:=fun i o b f _ h1=>by cases h1
     tF:=fun i n t h1 h2=>by rw[hi.fresh _ (by omega)] at h2;cases h2
     lone:=fun i n t _ h1 h2=>by rw[hi.fresh _ (by omega)] at h2;cases h2
     Fy:=fun i i' n t t' _ _ h2=>by rw[hi.fresh _ (by omega)] at h2;cases h2
     Yg:=fun i _ _=>hi.fresh _ (by omega)
     qh:=fun i o _ _=>hi.fresh _ (by omega)
     rev:=fun i o b f h1=>by omega
     Ys:=fun j _ _=>by rw[hget0];exact hi.gM _ (by omega)
     gr:=fun m hm _=>(have:m=0:=(by omega);this▸nO.refl _)}
    obtain⟨s,st1,hf1⟩:=st0.advance d hi.bn hB _ _ rfl
    have hsched:Region.schedule (P.follows .mixedOrders) ops t=Region.linearise.go .any ops ops.size t (Array.replicate ops.size false) []:=by
     unfold Region.schedule
     rw[if_pos hmode]
     rfl
    have hord:vB all [] (Region.schedule (P.follows .mixedOrders) ops t):=by
     rw[hsched,←hall]
     refine Ae (by rw[hall];exact fit.dir) ops.size t _ [] (by simp) (fun i hi=>by simp[hi]) ?_
     grind
    obtain⟨D',ρ',w',a',st2,hin,hdef,hst⟩:=Hy C hR hall d hi.bn hB hi hg (b:=b) (cs:=cs) (k:=k) _ [] s ρ w a hord hf1 st1
    have hevoN:=st2.Bo
    rw[hHn] at hevoN
    have hnx:=st2.nx
    rw[hHn] at hnx
    refine⟨ρ',w',a',hevoN.Bo (by omega),?_,hdef,hst⟩
    have henv:e=wW all V (E 0) D':=by
     rw[←hEn,d.aC5 _ (Nat.le_refl _)]
     refine List.ext_getElem? fun t=>Lc (fun i j h1 h2=>fit.nS i j t h1 h2) fun j hj=>?_
     have hjl:j<all.length:=by
      cases hp:all[j]? with
      |none=>rw[hp] at hj;cases hj
      |some p=>grind
     simp[hjl,hin j hjl]
    rw[henv]
    exact st2.env
   ·cases hrun
  ·cases hrun
 ·cases hrun
theorem eh (C:Ctx P B K) (n:Nat):zX C (run P K n):=ze C (wx C) n
end Go.Ab
end
section
namespace Go.Ab
variable {P:Program} {K:FuncId→List Value→Option hJ}
def iM.le (R R':iM):Prop:=∀t h r,R t h=some r→R' t h=some r
theorem vV {R R':iM} (hl:R.le R') {ev:Operand→Value} {h:AH} {op:Op} {r:Value×AH} (hr:dS P R ev h op=some r):dS P R' ev h op=some r:=by
 unfold dS at hr ⊢
 split
 ·exact hr
 ·exact hr
 ·simp only at hr ⊢
  split
  ·grind
  ·rename_i he
   simp only[he] at hr
   split
   ·rename_i hf
    simp only[hf] at hr
    split
    ·rename_i hc
     rw[if_pos hc] at hr
     simp only[Option.map_eq_some_iff] at hr ⊢
     obtain⟨x,hx,rfl⟩:=hr
     exact⟨x,hl _ _ _ hx,rfl⟩
    grind
   ·rename_i hf
    simp only[hf] at hr
    simp only[Option.map_eq_some_iff] at hr ⊢
    obtain⟨x,hx,rfl⟩:=hr
    exact⟨x,hl _ _ _ hx,rfl⟩
   grind
  grind
 grind
theorem Lw {R R':iM} (hl:R.le R') {env:List Value} {h:AH} {op:Op} {r:Value×AH} (hr:kG P R env h op=some r):kG P R' env h op=some r:=by
 unfold kG at hr ⊢
 cases hk:kindOf op<;>simp only[hk] at hr ⊢
 ·exact hr
 ·exact hr
 ·exact vV hl hr
 ·exact vV hl hr
 ·exact hr
theorem Fk {R R':iM} (hl:R.le R') {all:List Oper} {r0 i:Nat} {env:List Value} {h:AH} {o:Oper} {r:Value×AH} (hr:eT P R all r0 i env h o=some r):eT P R' all r0 i env h o=some r:=by
 unfold eT at hr ⊢
 cases hw:dU ⟨all⟩ env o with
 |none=>grind
 |some b=>
  rw[hw] at hr
  cases b with
  |false=>exact hr
  |true=>
   simp only at hr ⊢
   split
   ·grind
   ·rename_i hc
    rw[if_neg hc] at hr
    split
    ·grind
    ·rename_i hc2;rw[if_neg hc2] at hr;exact vV hl hr
theorem yP {R R':iM} (hl:R.le R') {all:List Oper} {r0:Nat}:∀(os:List Oper) {i:Nat} {env:List Value} {h:AH} {r:List Rec×List Value×AH},fT P R all r0 i os env h=some r→fT P R' all r0 i os env h=some r
 |[],_,_,_,_,hr=>hr
 |o::os,i,env,h,r,hr=>by
  simp only[fT] at hr ⊢
  split at hr
  ·rename_i v h' hs
   rw[Fk hl hs]
   simp only
   split at hr
   ·rename_i rs e ht
    rw[yP hl os ht]
    exact hr
   ·cases hr
  ·cases hr
theorem H3 {R R':iM} (hl:R.le R') {ops:Array Oper} {env:List Value} {h:AH} {r:List Value×AH} (hr:oV P R ops env h=some r):oV P R' ops env h=some r:=by
 unfold oV at hr ⊢
 split
 ·rename_i hc
  rw[if_pos hc] at hr
  split at hr
  ·rename_i ht
   rw[yP hl _ ht]
   exact hr
  ·cases hr
 grind
theorem et {R R':iM} (hl:R.le R') {all:Array Oper} {rest:List Oper} {env:List Value} {h:AH} {r:Out×AH} (hr:pY P R all rest env h=some r):pY P R' all rest env h=some r:=by
 unfold pY at hr ⊢
 cases rest with
 |nil=>exact hr
 |cons o rest=>
  simp only at hr ⊢
  cases hw:dU all env o with
  |none=>grind
  |some b=>
   rw[hw] at hr
   cases b with
   |false=>exact hl _ _ _ hr
   |true=>
    simp only at hr ⊢
    split at hr
    ·rename_i v h' hs
     rw[Lw hl hs]
     exact hl _ _ _ hr
    ·cases hr
theorem Uj {R R':iM} (hl:R.le R') {f:FuncId} {args:List Value} {h:AH} {r:Out×AH} (hr:iL P K R f args h=some r):iL P K R' f args h=some r:=by
 unfold iL at hr ⊢
 split
 ·grind
 ·rename_i hk
  rw[hk] at hr
  simp only at hr
  split at hr
  ·rename_i hs
   rw[hl _ _ _ hs]
   exact hr
  ·cases hr
 ·grind
 ·rename_i hk
  rw[hk] at hr
  simp only at hr
  split at hr
  ·split at hr
   ·split at hr
    ·rename_i hs
     rw[hl _ _ _ hs]
     exact hr
    ·cases hr
   ·cases hr
  ·cases hr
theorem P8 {R R':iM} (hl:R.le R') {l:Nat} {args:List Value} {h:AH} {r:Out×AH} (hr:lH R l args h=some r):lH R' l args h=some r:=by
 unfold lH at hr ⊢
 split at hr
 ·split at hr
  ·rename_i hc
   rw[if_pos hc]
   split at hr
   ·rename_i hs
    rw[hl _ _ _ hs]
    exact hr
   ·cases hr
  ·cases hr
 ·cases hr
theorem Vz {R R':iM} (hl:R.le R') {fn:FuncId} {ro:Option Nat} {ds:List Nat} {env:List Value} {k:List Item} {h:AH} {r:Out×AH} (hr:dO P R fn ro ds env k h=some r):dO P R' fn ro ds env k h=some r:=by
 unfold dO at hr ⊢
 split at hr
 ·exact hr
 ·rename_i c k
  split at hr
  ·exact hl _ _ _ hr
  ·exact hl _ _ _ hr
  ·exact hl _ _ _ hr
  ·split at hr
   ·exact hl _ _ _ hr
   ·cases hr
  ·exact hl _ _ _ hr
  ·exact hl _ _ _ hr
  ·exact hl _ _ _ hr
  ·split at hr
   ·exact hl _ _ _ hr
   ·exact hr
  ·exact hr
  ·split at hr
   ·rename_i hs
    rw[hl _ _ _ hs]
    exact hl _ _ _ hr
   ·cases hr
  ·split at hr
   ·rename_i hs
    rw[H3 hl hs]
    exact hl _ _ _ hr
   ·cases hr
  ·split at hr
   ·rename_i d h1 ds1 hdd
    split at hr
    ·rename_i g first captured hf
     split at hr
     ·rename_i hcal
      rw[if_pos hcal]
      split at hr
      ·rename_i hs
       rw[hl _ _ _ hs]
       simp only
       split at hr
       ·split at hr
        ·cases hr
        ·rename_i hb
         rw[if_neg hb]
         split at hr
         ·exact hl _ _ _ hr
         ·cases hr
       ·cases hr
      ·cases hr
     ·cases hr
    ·cases hr
   ·cases hr
  ·cases hr
 ·exact hl _ _ _ hr
 ·exact hl _ _ _ hr
 ·exact hl _ _ _ hr
 ·split at hr
  ·split at hr
   ·split at hr
    ·exact hl _ _ _ hr
    ·cases hr
   ·cases hr
  ·cases hr
 ·cases hr
theorem km:∀n,(run P K n).le (run P K (n+1))
 |0,t,h,r,hr=>by simp[run] at hr
 |n+1,t,h,r,hr=>by
  have ih:=km n
  cases t with
  |todo fn ro ds env k=>exact Vz ih hr
  |ops all rest env=>exact et ih hr
  |call f args=>exact Uj ih hr
  |round l args=>exact P8 ih hr
theorem jM {n m:Nat} (h:n≤m):(run P K n).le (run P K m):=by
 induction h with
 |refl=>exact fun _ _ _ h=>h
 |step _ ih=>exact fun t g r hr=>km _ _ _ _ (ih t g r hr)
end Go.Ab
end
section
namespace Go.Ab
noncomputable section
variable {P:Program} {K:FuncId→List Value→Option hJ}
def T1 (k:Nat) (a b:Value):Option Bool:=match k,a,b with
 |0,.int k m,.int k' n=>if k=k' then some (m==n) else none
 |1,.bool m,.bool n=>some (m==n)
 |2,.string m,.string n=>some (m==n)
 |_,_,_=>none
def oY:List Nat→List Value→List Value→Option Bool
 |[],[],[]=>some true
 |k::ks,x::xs,y::ys=>match T1 k x y,oY ks xs ys with
  |some a,some b=>some (a&&b)
  |_,_=>none
 |_,_,_=>none
def I4 (P:Program) (fl:TypeId→Option (List Nat)):Nat→List Field→Option (List Nat)
 |_,[]=>some []
 |o,f::fs=>if f.name="_"∨f.offset≠o then none else
  match fl f.type,I4 P fl (o+P.cellsOf f.type) fs with
  |some a,some b=>if a.length=P.cellsOf f.type then some (a++b) else none
  |_,_=>none
def Lb (P:Program):Nat→TypeId→Option (List Nat)
 |0,_=>none
 |d+1,t=>match P.underlying t with
  |some .bool=>some [1]
  |some (.int _)=>some [0]
  |some .string=>some [2]
  |some (.array n e)=>if(P.info? e).isSome then
    (match Lb P d e with
    |some l=>if l.length=P.cellsOf e then some (List.replicate n l).flatten else none
    |none=>none) else none
  |some (.struct fs)=>if P.stoodInHeld t then none else I4 P (Lb P d) 0 fs.toList
  |_=>none
theorem pG:∀{ks:List Nat} {a b:List Value} {r:Bool},oY ks a b=some r→a.length=ks.length∧b.length=ks.length
 |[],[],[],_,_=>⟨rfl,rfl⟩
 |[],[],_::_,_,h=>by simp[oY] at h
 |[],_::_,_,_,h=>by simp[oY] at h
 |_::_,[],_,_,h=>by simp[oY] at h
 |_::_,_::_,[],_,h=>by simp[oY] at h
 |k::ks,x::xs,y::ys,r,h=>by
  simp only[oY] at h
  split at h
  ·rename_i h2;have:=pG h2;simp[this]
  ·cases h
theorem Av:∀{k1 k2:List Nat} {a b:List Value} {r:Bool},oY (k1++k2) a b=some r→∃r1 r2,oY k1 (a.take k1.length) (b.take k1.length)=some r1∧oY k2 (a.drop k1.length) (b.drop k1.length)=some r2∧r=(r1&&r2)
 |[],k2,a,b,r,h=>⟨true,r,by simp[oY],by simpa using h,by simp⟩
 |k::ks,k2,[],_,r,h=>by simp[oY] at h
 |k::ks,k2,_::_,[],r,h=>by simp[oY] at h
 |k::ks,k2,x::xs,y::ys,r,h=>by
  simp only[List.cons_append,oY] at h
  split at h
  ·rename_i r1 r2 h1 h2
   cases h
   obtain⟨s1,s2,h3,h4,rfl⟩:=Av h2
   exact⟨r1&&s1,s2,by simp[oY,h1,h3],by simpa using h4,by rw[Bool.and_assoc]⟩
  ·cases h
def valOf (P:Program) (t:TypeId) (a:List Value):Option Value:=match iG P t with
 |some true=>some (.agg ⟨a⟩)
 |some false=>a[0]?
 |none=>none
theorem zQ {t:TypeId} {xs a:List Value} {off:Nat} {v:Value} (ha:(xs.drop off).take (P.cellsOf t)=a) (hl:a.length=P.cellsOf t) (h0:0<P.cellsOf t∨off≤xs.length) (hv:valOf P t a=some v):apart P t xs off=some v:=by
 unfold valOf at hv
 unfold apart
 grind
theorem Kx {eq:TypeId→Value→Value→Option Bool} {fl:TypeId→Option (List Nat)}
  (ih:∀t ks a b r,fl t=some ks→ks.length=P.cellsOf t→oY ks a b=some r→∃x y,valOf P t a=some x∧valOf P t b=some y∧eq t x y=some r)
  {xs ys:List Value}:∀(fs:List Field) (o:Nat) (ks:List Nat) (r:Bool),o≤xs.length→o≤ys.length→I4 P fl o fs=some ks→oY ks (xs.drop o) (ys.drop o)=some r→kS P eq xs ys fs=some r
 |[],o,ks,r,_,_,hf,hc=>by
  simp only[I4,Option.some.injEq] at hf
  subst hf
  have:=pG hc
  have e1:xs.drop o=[]:=List.eq_nil_of_length_eq_zero this.1
  have e2:ys.drop o=[]:=List.eq_nil_of_length_eq_zero this.2
  rw[e1,e2] at hc
  simpa [oY,kS] using hc
 |f::fs,o,ks,r,hox,hoy,hf,hc=>by
  simp only[I4] at hf
  split at hf
  ·cases hf
  ·rename_i hn
   simp only[not_or,Decidable.not_not,ne_eq] at hn
   split at hf
   ·rename_i a b h1 h2
    split at hf
    ·rename_i hl
     cases hf
     obtain⟨r1,r2,h3,h4,rfl⟩:=Av hc
     obtain⟨x,y,hx,hy,he⟩:=ih _ _ _ _ _ h1 hl h3
     have l3:=pG h3
     have lc:=pG hc
     simp only[List.length_drop,List.length_append] at lc
     have ax:apart P f.type xs f.offset=some x:=zQ (by rw[hn.2,←hl]) (by rw[l3.1,hl]) (.inr (by omega)) hx
     have ay:apart P f.type ys f.offset=some y:=zQ (by rw[hn.2,←hl]) (by rw[l3.2,hl]) (.inr (by omega)) hy
     simp only[kS]
     rw[if_neg hn.1,ax,ay]
     simp only[he]
     rw[List.drop_drop,List.drop_drop] at h4
     have:=Kx (xs:=xs) (ys:=ys) ih fs (o+P.cellsOf f.type) b r2 (by omega) (by omega) h2 (by rw[←hl];exact h4)
     grind
    ·cases hf
   ·cases hf
theorem R6 {eq:TypeId→Value→Value→Option Bool} {e:TypeId} {l:List Nat}
  (ih:∀a b r,oY l a b=some r→∃x y,valOf P e a=some x∧valOf P e b=some y∧eq e x y=some r) (hl:l.length=P.cellsOf e)
  {xs ys:List Value}:∀(n j:Nat) (r:Bool),j*P.cellsOf e≤xs.length→j*P.cellsOf e≤ys.length→oY (List.replicate n l).flatten (xs.drop (j*P.cellsOf e)) (ys.drop (j*P.cellsOf e))=some r→pC P eq e xs ys (List.range' j n)=some r
 |0,j,r,_,_,hc=>by
  have:=pG hc
  simp only[List.replicate_zero,List.flatten_nil,List.length_nil] at this
  have e1:xs.drop (j*P.cellsOf e)=[]:=List.eq_nil_of_length_eq_zero this.1
  have e2:ys.drop (j*P.cellsOf e)=[]:=List.eq_nil_of_length_eq_zero this.2
  rw[e1,e2] at hc
  simpa [oY,pC] using hc
 |n+1,j,r,hx0,hy0,hc=>by
  rw[List.replicate_succ,List.flatten_cons] at hc
  obtain⟨r1,r2,h3,h4,rfl⟩:=Av hc
  obtain⟨x,y,hx,hy,he⟩:=ih _ _ _ h3
  have l3:=pG h3
  have lc:=pG hc
  simp only[List.length_drop,List.length_append] at lc
  have ax:apart P e xs (j*P.cellsOf e)=some x:=zQ (by rw[←hl]) (by rw[l3.1,hl]) (.inr (by omega)) hx
  have ay:apart P e ys (j*P.cellsOf e)=some y:=zQ (by rw[←hl]) (by rw[l3.2,hl]) (.inr (by omega)) hy
  simp only[List.range'_succ,pC,ax,ay,he]
  rw[List.drop_drop,List.drop_drop] at h4
  have e1:(j+1)*P.cellsOf e=j*P.cellsOf e+P.cellsOf e:=Nat.succ_mul _ _
  have:=R6 (xs:=xs) (ys:=ys) ih hl n (j+1) r2 (by omega) (by omega) (by grind)
  grind
theorem vk (d:Nat):∀(t:TypeId) (ks:List Nat) (a b:List Value) (r:Bool),Lb P d t=some ks→ks.length=P.cellsOf t→oY ks a b=some r→
  ∃x y,valOf P t a=some x∧valOf P t b=some y∧wX P d t x y=some r:=by
 induction d with
 |zero=>intro t ks a b r h;simp[Lb] at h
 |succ d ih=>
  intro t ks a b r h hk hc
  have one:∀k,ks=[k]→∃x y,a=[x]∧b=[y]∧T1 k x y=some r:=fun k hk=>by
   subst hk
   have:=pG hc
   match a,b,this with
   |[x],[y],_=>
    refine⟨x,y,rfl,rfl,?_⟩
    simp only[oY] at hc
    grind
  unfold Lb at h
  split at h
  ·rename_i hu
   obtain⟨x,y,rfl,rfl,hx⟩:=one 1 (by simpa using h.symm)
   refine⟨x,y,by simp[valOf,iG,hu],by simp[valOf,iG,hu],?_⟩
   unfold T1 at hx
   split at hx
   ·rename_i he;cases he
   ·cases hx;unfold wX;simp[hu]
   ·rename_i he;cases he
   ·cases hx
  ·rename_i k hu
   obtain⟨x,y,rfl,rfl,hx⟩:=one 0 (by simpa using h.symm)
   refine⟨x,y,by simp[valOf,iG,hu],by simp[valOf,iG,hu],?_⟩
   unfold T1 at hx
   split at hx
   ·split at hx
    ·rename_i hkk;subst hkk;cases hx;unfold wX;simp[hu]
    ·cases hx
   ·rename_i he;cases he
   ·rename_i he;cases he
   ·cases hx
  ·rename_i hu
   obtain⟨x,y,rfl,rfl,hx⟩:=one 2 (by simpa using h.symm)
   refine⟨x,y,by simp[valOf,iG,hu],by simp[valOf,iG,hu],?_⟩
   unfold T1 at hx
   split at hx
   ·rename_i he;cases he
   ·rename_i he;cases he
   ·cases hx;unfold wX;simp[hu]
   ·cases hx
  ·rename_i n e hu
   split at h
   ·rename_i hi
    split at h
    ·rename_i l hl
     split at h
     ·rename_i hle
      cases h
      refine⟨.agg ⟨a⟩,.agg ⟨b⟩,by simp[valOf,iG,hu],by simp[valOf,iG,hu],?_⟩
      unfold wX
      simp only[hu,hi,if_true]
      rw[List.range_eq_range']
      exact R6 (fun a b r hc=>ih e l a b r hl hle hc) hle n 0 r (by simp) (by simp) (by simpa using hc)
     ·cases h
    ·cases h
   ·cases h
  ·rename_i fs hu
   split at h
   ·cases h
   ·rename_i hs
    refine⟨.agg ⟨a⟩,.agg ⟨b⟩,by simp[valOf,iG,hu],by simp[valOf,iG,hu],?_⟩
    unfold wX
    simp only[hu,hs,Bool.false_eq_true,if_false]
    exact Kx (fun t ks a b r h1 h2 h3=>ih t ks a b r h1 h2 h3) fs.toList 0 ks r (by simp) (by simp) h (by simpa using hc)
  ·cases h
def Tu (op:BinOp) (r:Bool):Option Value:=match op with
 |.eql=>some (.bool r)
 |.neq=>some (.bool !r)
 |_=>none
def uK (op:BinOp) (a b:Value):Option Value:=match a,b with
 |.int k m,.int k' n=>if k=k' then Kh op k m n else Je op k m n
 |_,_=>none
def Y9 (op:BinOp) (a b:Value):Option Value:=match a,b with
 |.string m,.string n=>xm op m n
 |_,_=>none
def dw (op:BinOp) (a b:Value):Option Value:=match a,b with
 |.bool m,.bool n=>Tu op (m==n)
 |_,_=>none
def Tv (op:BinOp) (a b:Value):Option Value:=match a,b with
 |.pointer none,.pointer b=>Tu op b.isNone
 |.pointer (some _),.pointer none=>Tu op false
 |_,_=>none
def Sl (op:BinOp) (a b:Value):Option Value:=match a,b with
 |.slice none _ _,.slice b _ _=>Tu op b.isNone
 |.slice (some _) _ _,.slice none _ _=>Tu op false
 |_,_=>none
def dj (op:BinOp) (a b:Value):Option Value:=match a,b with
 |.nilFunc,.nilFunc=>Tu op true
 |.nilFunc,.func _ _ _=>Tu op false
 |.func _ _ _,.nilFunc=>Tu op false
 |_,_=>none
def Ty (c:Bool) (op:BinOp) (a b:Value):Option Value:=match a,b with
 |.nilIface,.nilIface=>if c then Tu op true else none
 |.nilIface,.iface _ _=>Tu op false
 |.iface _ _,.nilIface=>Tu op false
 |_,_=>none
def Ry (ks:List Nat) (op:BinOp) (a b:Value):Option Value:=match a,b with
 |.agg xs,.agg ys=>(oY ks xs.toList ys.toList).bind (Tu op)
 |_,_=>none
def F9 (P:Program) (t:TypeId):Option (List Nat):=match Lb P 10000 t with
 |some ks=>if ks.length=P.cellsOf t∧iG P t=some true∧P.eqGuardType P.depth t=false then some ks else none
 |none=>none
def Qx (P:Program) (op:BinOp) (t:TypeId) (x y:Operand) (a b:Value) (q:Value→Prop) (bA:Option Value→(Value→Prop)→Prop):Prop:=
 match P.underlying t with
 |some (.int _)=>bA (uK op a b) q
 |some .string=>bA (Y9 op a b) q
 |some .bool=>bA (dw op a b) q
 |some (.pointer _)=>bA (Tv op a b) q
 |some (.slice _)=>bA (Sl op a b) q
 |some (.func _ _ _)=>bA (dj op a b) q
 |some (.interface _)=>bA (Ty (isConst x||isConst y) op a b) q
 |some (.struct _)=>(match F9 P t with
  |some ks=>bA (Ry ks op a b) q
  |none=>False)
 |some (.array _ _)=>(match F9 P t with
  |some ks=>bA (Ry ks op a b) q
  |none=>False)
 |_=>False
theorem jK {op:BinOp} {t:TypeId} {x y:Operand} {a b v:Value} {r:Bool} (hi:∀k m k' n,¬(a= .int k m∧b= .int k' n)) (hs:∀m n,¬(a= .string m∧b= .string n)) (he:Tu op r=some v) (hk:Fa P t x y a b=true) (hq:wX P 10000 t a b=some r):
  Nx P op t x y a b=some v:=by
 unfold Nx
 split
 ·grind
 ·grind
 ·unfold Tu at he
  grind
theorem kL {t:TypeId} {a b:Value} {r:Bool} (h:wX P (9999+1) t a b=some r):wX P 10000 t a b=some r:=h
theorem S4 {op:BinOp} {t:TypeId} {x y:Operand} {a b:Value} {q:Value→Prop} (hw:Qx P op t x y a b q fun o p=>∃v,o=some v∧p v):∃v,Nx P op t x y a b=some v∧q v:=by
 unfold Qx at hw
 split at hw
 ·obtain⟨v,h1,h2⟩:=hw
  refine⟨v,?_,h2⟩
  unfold uK at h1
  split at h1
  ·simp only[Nx];exact h1
  ·cases h1
 ·obtain⟨v,h1,h2⟩:=hw
  refine⟨v,?_,h2⟩
  unfold Y9 at h1
  split at h1
  ·simp only[Nx];exact h1
  ·cases h1
 ·rename_i hu
  obtain⟨v,h1,h2⟩:=hw
  refine⟨v,?_,h2⟩
  unfold dw at h1
  split at h1
  ·exact jK (fun _ _ _ _ h=>by cases h.1) (fun _ _ h=>by cases h.1) h1 rfl (kL (by unfold wX;simp[hu]))
  ·cases h1
 ·rename_i hu
  obtain⟨v,h1,h2⟩:=hw
  refine⟨v,?_,h2⟩
  unfold Tv at h1
  split at h1
  ·exact jK (fun _ _ _ _ h=>by cases h.1) (fun _ _ h=>by cases h.1) h1 rfl (kL (by unfold wX;simp[hu]))
  ·exact jK (fun _ _ _ _ h=>by cases h.1) (fun _ _ h=>by cases h.1) h1 rfl (kL (by unfold wX;simp[hu]))
  ·cases h1
 ·rename_i hu
  obtain⟨v,h1,h2⟩:=hw
  refine⟨v,?_,h2⟩
  unfold Sl at h1
  split at h1
  ·exact jK (fun _ _ _ _ h=>by cases h.1) (fun _ _ h=>by cases h.1) h1 rfl (kL (by unfold wX;simp[hu]))
  ·exact jK (fun _ _ _ _ h=>by cases h.1) (fun _ _ h=>by cases h.1) h1 rfl (kL (by unfold wX;simp[hu]))
  ·cases h1
 ·rename_i hu
  obtain⟨v,h1,h2⟩:=hw
  refine⟨v,?_,h2⟩
  unfold dj at h1
  split at h1
  ·exact jK (fun _ _ _ _ h=>by cases h.1) (fun _ _ h=>by cases h.1) h1 rfl (kL (by unfold wX;simp[hu]))
  ·exact jK (fun _ _ _ _ h=>by cases h.1) (fun _ _ h=>by cases h.1) h1 rfl (kL (by unfold wX;simp[hu]))
  ·exact jK (fun _ _ _ _ h=>by cases h.1) (fun _ _ h=>by cases h.1) h1 rfl (kL (by unfold wX;simp[hu]))
  ·cases h1
 ·rename_i hu
  obtain⟨v,h1,h2⟩:=hw
  refine⟨v,?_,h2⟩
  unfold Ty at h1
  split at h1
  ·split at h1
   ·rename_i hc
    exact jK (fun _ _ _ _ h=>by cases h.1) (fun _ _ h=>by cases h.1) h1 (by simpa [Fa] using hc) (kL (by unfold wX;simp[hu]))
   ·cases h1
  ·exact jK (fun _ _ _ _ h=>by cases h.1) (fun _ _ h=>by cases h.1) h1 rfl (kL (by unfold wX;simp[hu]))
  ·exact jK (fun _ _ _ _ h=>by cases h.1) (fun _ _ h=>by cases h.1) h1 rfl (kL (by unfold wX;simp[hu]))
  ·cases h1
 all_goals
  first
   |cases hw
   |split at hw
    ·rename_i ks hks
     obtain⟨v,h1,h2⟩:=hw
     refine⟨v,?_,h2⟩
     unfold Ry at h1
     split at h1
     ·rename_i xs ys
      simp only[Option.bind_eq_some_iff] at h1
      obtain⟨r,hr,he⟩:=h1
      unfold F9 at hks
      split at hks
      ·rename_i ks' hk'
       split at hks
       ·rename_i hc
        cases hks
        obtain⟨x',y',hx',hy',hq⟩:=vk 10000 t _ _ _ _ hk' hc.1 hr
        simp only[valOf,hc.2.1,Option.some.injEq] at hx' hy'
        have e1:x'= .agg xs:=hx'.symm
        have e2:y'= .agg ys:=hy'.symm
        subst e1;subst e2
        exact jK (fun _ _ _ _ h=>by cases h.1) (fun _ _ h=>by cases h.1) he (by simp[Fa,hc.2.2]) hq
       ·cases hks
      ·cases hks
     ·cases h1
    ·cases hw
end
end Go.Ab
end
section
namespace Go.Ab
noncomputable section
variable {P:Program} {K:FuncId→List Value→Option hJ}
def Ok (P:Program) (K:FuncId→List Value→Option hJ) (t:Task) (h:AH) (Q:Out→AH→Prop):Prop:=∃n r,run P K n t h=some r∧Q r.1 r.2
def bA {α:Type} (o:Option α) (p:α→Prop):Prop:=∃v,o=some v∧p v
def Br (v:Value) (p q:Prop):Prop:=∃b,v= .bool b∧(b=true→p)∧(b=false→q)
theorem Ok.mono {t:Task} {h:AH} {Q Q':Out→AH→Prop} (k:Ok P K t h Q) (hq:∀o h',Q o h'→Q' o h'):Ok P K t h Q':=
 let⟨n,r,h1,h2⟩:=k;⟨n,r,h1,hq _ _ h2⟩
theorem Ok.of {t:Task} {h:AH} {Q:Out→AH→Prop} {n:Nat} {o:Out} {h':AH} (hr:run P K n t h=some (o,h')) (hq:Q o h'):Ok P K t h Q:=⟨n,(o,h'),hr,hq⟩
@[simp] theorem aEf {α:Type} {v:α} {p:α→Prop}:bA (some v) p↔p v:=⟨fun⟨_,h,k⟩=>by cases h;exact k,fun k=>⟨v,rfl,k⟩⟩
@[simp] theorem aDg {α:Type} {p:α→Prop}:bA none p↔False:=⟨fun⟨_,h,_⟩=>(nomatch h),False.elim⟩
@[congr] theorem aCf {α:Type} {o o':Option α} {p:α→Prop} (h:o=o'):bA o p↔bA o' p:=by rw[h]
theorem bA.mono {α:Type} {o:Option α} {p p':α→Prop} (h:bA o p) (k:∀v,p v→p' v):bA o p':=let⟨v,a,b⟩:=h;⟨v,a,k v b⟩
@[simp] theorem tg {p q:Prop}:Br (.bool true) p q↔p:=⟨fun⟨b,h,k,_⟩=>by cases h;exact k rfl,fun k=>⟨true,rfl,fun _=>k,by simp⟩⟩
@[simp] theorem lr {p q:Prop}:Br (.bool false) p q↔q:=⟨fun⟨b,h,_,k⟩=>by cases h;exact k rfl,fun k=>⟨false,rfl,by simp,fun _=>k⟩⟩
theorem Ti {b:Bool} {p q:Prop} (hp:b=true→p) (hq:b=false→q):Br (.bool b) p q:=⟨b,rfl,hp,hq⟩
@[congr] theorem aDw {v v':Value} {p q:Prop} (h:v=v'):Br v p q↔Br v' p q:=by rw[h]
def vW (c a b:Value):Option Value:=match c with
 |.bool t=>some (if t then a else b)
 |_=>none
def pN (h:AH) (p:Value):Option Value:=match p with
 |.pointer (some a)=>if a.spot.isSome then none else
  (match h.get a.block with
  |some (.cells c _ _ _)=>c[a.off]?
  |_=>none)
 |_=>none
def uC (h:AH) (n:Nat) (p:Value):Option Value:=match p with
 |.pointer (some a)=>(cI h a n).map fun l=> .agg ⟨l⟩
 |_=>none
def mQ (p:Value):Option Value:=match p with
 |.pointer (some a)=>some (.pointer (some a))
 |.func (.func f) a b=>some (.func (.func f) a b)
 |.func (.yield f) a b=>some (.func (.yield f) a b)
 |_=>none
def Yi (op:UnOp) (x:Value):Option Value:=match op,x with
 |.neg,.int k n=>some (.int k (k.wrap (0 - n)))
 |.not,.bool b=>some (.bool !b)
 |_,_=>none
def qE (k:IntKind) (x:Value):Option Value:=match x with
 |.int _ n=>some (.int k (k.wrap n))
 |_=>none
def uG (x:Value):Option Value:=match x with
 |.string z=>some (.string z)
 |_=>none
def gZ (n:Nat) (p:Value):Option Value:=match p with
 |.pointer (some a)=>some (.pointer (some (a.add n)))
 |_=>none
def sP (off:Nat) (x:Value):Option Value:=match x with
 |.agg cs=>cs.toList[off]?
 |_=>none
def qX (off n:Nat) (x:Value):Option Value:=match x with
 |.agg cs=>if off+n≤cs.toList.length then some (.agg ⟨(cs.toList.drop off).take n⟩) else none
 |_=>none
def pF (n sz:Nat) (x i:Value):Option Value:=match x,i with
 |.pointer (some a),.int _ i=>if 0≤i∧i<n then some (.pointer (some (a.add (i.toNat*sz)))) else none
 |_,_=>none
def lJ (sz:Nat) (x i:Value):Option Value:=match x,i with
 |.slice (some a) n _,.int _ i=>if 0≤i∧i<n∧a.spot=none then some (.pointer (some (a.add (i.toNat*sz)))) else none
 |_,_=>none
def P0 (n sz:Nat) (x i:Value):Option Value:=match x,i with
 |.agg cs,.int _ i=>if 0≤i∧i<n then cs.toList[i.toNat*sz]? else none
 |_,_=>none
def Wx (n sz:Nat) (x i:Value):Option Value:=match x,i with
 |.agg cs,.int _ i=>if 0≤i∧i<n∧i.toNat*sz+sz≤cs.toList.length then some (.agg ⟨(cs.toList.drop (i.toNat*sz)).take sz⟩) else none
 |_,_=>none
def en (x i:Value):Option Value:=match x,i with
 |.string s,.int _ i=>if 0≤i then(s[i.toNat]?).map fun b=> .int .u8 b.toNat else none
 |_,_=>none
def rE (i:Nat) (t:Value):Option Value:=match t with
 |.tuple vs=>vs.toList[i]?
 |_=>none
def uU (h:AH) (n:Nat) (p v:Value):Option AH:=match p with
 |.pointer (some a)=>(match iB v with
  |some vs=>if vs.length=n then dV h a vs else none
  |none=>none)
 |_=>none
def lI (e:TypeId) (v:Value):Option lG:=(iB v).map fun l=> .cells l e (0,0) true
def Iw (bytes:Nat) (l c:Value):Option (Nat×Nat):=match l,c with
 |.int _ l,.int _ c=>if 0≤l∧l≤c∧c≤2^40∧bytes*c≤2^47 then some (l.toNat,c.toNat) else none
 |_,_=>none
def nI (cells:List Value):List (Nat×Nat×Value)→Option (List Value)
 |[]=>some cells
 |(off,size,v)::rest=>match iB v with
  |some vs=>if vs.length=size∧off+vs.length≤cells.length then nI (bY cells off vs) rest else none
  |none=>none
def vR (place:Nat→Option (Nat×Nat)) (ev:Operand→Value):List (Nat×Operand)→Option (List (Nat×Nat×Value))
 |[]=>some []
 |(i,x)::rest=>match place i,vR place ev rest with
  |some (off,size),some l=>some ((off,size,ev x)::l)
  |_,_=>none
theorem B9 {place:Nat→Option (Nat×Nat)} {ev:Operand→Value}:∀{parts:List (Nat×Operand)} {l:List (Nat×Nat×Value)} {cells:List Value},vR place ev parts=some l→Bp place cells (parts.map fun p=>(p.1,ev p.2))=nI cells l
 |[],l,cells,h=>by simp only[vR,Option.some.injEq] at h;subst h;rfl
 |(i,x)::rest,l,cells,h=>by
  simp only[vR] at h
  split at h
  ·rename_i off size l' h1 h2
   cases h
   simp only[List.map_cons,Bp,nI,h1]
   cases hc:iB (ev x) with
   |none=>rfl
   |some vs=>
    simp only
    split
    ·exact B9 h2
    ·rfl
  ·cases h
def wY (sz:Nat) (h:AH) (x:Value) (lo hi mx:Option Value):Option Value:=match x with
 |.slice none len cap=>
  match jZ mx cap cap with
  |some m=>match(if hi.isNone&&mx.isSome then none else jZ hi len m) with
   |some hh=>match jZ lo 0 hh with
    |some l=>some (.slice none (hh - l) (m - l))
    |none=>none
   |none=>none
  |none=>none
 |.slice (some a) len cap=>
  match jZ mx cap cap with
  |some m=>match(if hi.isNone&&mx.isSome then none else jZ hi len m) with
   |some hh=>match jZ lo 0 hh with
    |some l=>
     if a.spot.isSome then(if len=0∧cap=0 then some (if mx.isSome then rD else aBk) else none) else
     if hh≤m then
      (if m=l then
       if mx.isSome then some rD else
       match oT h a.block with
       |some true=>some rD
       |some false=>some (yC (a.add (l*sz)))
       |none=>none
      else some (.slice (some (a.add (l*sz))) (hh - l) (m - l)))
     else none
    |none=>none
   |none=>none
  |none=>none
 |_=>none
def ft (n sz:Nat) (x:Value) (lo hi mx:Option Value):Option Value:=match x with
 |.pointer (some a)=>
  match jZ mx n n with
  |some m=>match(if hi.isNone&&mx.isSome then none else jZ hi n m) with
   |some hh=>match jZ lo 0 hh with
    |some l=>if a.spot=none then some (.slice (some (if m=l then a else a.add (l*sz))) (hh - l) (m - l)) else none
    |none=>none
   |none=>none
  |none=>none
 |_=>none
def Zd (x:Value) (lo hi:Option Value):Option Value:=match x with
 |.string s=>
  match jZ hi s.size s.size with
  |some hh=>match jZ lo 0 hh with
   |some l=>some (.string (s.extract l hh))
   |none=>none
  |none=>none
 |_=>none
def zV (P:Program) (K:FuncId→List Value→Option hJ) (f:Value) (args:List Value) (h:AH) (Q:Value→AH→Prop):Prop:=match f with
 |.func (.func g) first captured=>fN P g=true∧Ok P K (.call g (first.toList++args++captured.toList)) h fun o h'=>Q o.v h'
 |.func (.yield l) first _=>Ok P K (.round l (first.toList++args)) h fun o h'=>Q o.v h'
 |_=>False
def lkV (z:Value) (h:AH) (x ix:Value) (ok:Bool):Option Value:=match Wi h x,ix with
 |some es,.int k n=>match tH k n es 0 with
  |some (some (_,v))=>some (if ok then .tuple ⟨[v,.bool true]⟩ else v)
  |some none=>some (if ok then .tuple ⟨[z,.bool false]⟩ else z)
  |none=>none
 |_,_=>none
def iO (P:Program) (ev:Operand→Value) (h:AH) (q:Value→Prop):Op→Prop
 |.move x=>q (ev x)
 |.assign x=>q (ev x)
 |.pick c a b=>bA (vW (ev c) (ev a) (ev b)) q
 |.build t parts=>match zeroOf P t with
  |some z=>(match P.underlying t with
   |some (.struct fs)=>if fs.all (fun f=>(P.info? f.type).isSome) then(match vR (fun i=>(fs[i]?).map fun f=>(f.offset,P.cellsOf f.type)) ev parts.toList with
    |some l=>bA (nI z l) fun c=>q (.agg ⟨c⟩)
    |none=>False) else False
   |some (.array _ e)=>if(P.info? e).isSome then(match vR (fun i=>some (i*P.cellsOf e,P.cellsOf e)) ev parts.toList with
    |some l=>bA (nI z l) fun c=>q (.agg ⟨c⟩)
    |none=>False) else False
   |_=>False)
  |none=>False
 |.load t a=>match iG P t with
  |some true=>bA (uC h (P.cellsOf t) (ev a)) q
  |some false=>bA (pN h (ev a)) q
  |none=>False
 |.nilCheck x=>bA (mQ (ev x)) q
 |.binOp op t x y _=>Qx P op t x y (ev x) (ev y) q bA
 |.unOp op _ x=>bA (Yi op (ev x)) q
 |.convert s d x=>match P.underlying s with
  |some .string=>(match P.underlying d with
   |some (.int k)=>bA (qE k (ev x)) q
   |some .string=>bA (uG (ev x)) q
   |_=>False)
  |some (.slice e)=>(match P.underlying d with
   |some .string=>(match P.underlying e with
    |some (.int .u8)=>bA (strOf h (ev x)) q
    |_=>False)
   |_=>False)
  |some _=>(match P.underlying d with
   |some (.int k)=>bA (qE k (ev x)) q
   |_=>False)
  |none=>False
 |.makeInterface t x=>match P.underlying t with
  |some (.interface _)=>False
  |some _=>q (.iface t (ev x))
  |none=>False
 |.makeFunc fn first captured=>match fn with
  |.func f=>q (.func (.func f) (first.map ev) (captured.map ev))
  |_=>False
 |.slice t x lo hi mx=>match P.underlying t with
  |some (.slice e)=>if(P.info? e).isSome then bA (wY (P.cellsOf e) h (ev x) (lo.map ev) (hi.map ev) (mx.map ev)) q else False
  |some (.array n e)=>if(P.info? e).isSome then bA (ft n (P.cellsOf e) (ev x) (lo.map ev) (hi.map ev) (mx.map ev)) q else False
  |some .string=>(match mx with
   |none=>bA (Zd (ev x) (lo.map ev) (hi.map ev)) q
   |some _=>False)
  |_=>False
 |.fieldAddr s x f=>match P.underlying s with
  |some (.struct fs)=>(match fs[f]? with
   |some fd=>if P.cellsOf fd.type=0 then False else bA (gZ fd.offset (ev x)) q
   |none=>False)
  |_=>False
 |.field t x f=>match P.underlying t with
  |some (.struct fs)=>(match fs[f]? with
   |some fd=>(match iG P fd.type with
    |some true=>bA (qX fd.offset (P.cellsOf fd.type) (ev x)) q
    |some false=>bA (sP fd.offset (ev x)) q
    |none=>False)
   |none=>False)
  |_=>False
 |.indexAddr t x i=>match P.underlying t with
  |some (.array n e)=>if(P.info? e).isSome then bA (pF n (P.cellsOf e) (ev x) (ev i)) q else False
  |some (.slice e)=>if(P.info? e).isSome then bA (lJ (P.cellsOf e) (ev x) (ev i)) q else False
  |_=>False
 |.index t x i=>match P.underlying t with
  |some (.array n e)=>if(P.info? e).isSome then(match iG P e with
   |some true=>bA (Wx n (P.cellsOf e) (ev x) (ev i)) q
   |some false=>bA (P0 n (P.cellsOf e) (ev x) (ev i)) q
   |none=>False) else False
  |some .string=>bA (en (ev x) (ev i)) q
  |_=>False
 |.extract t i=>bA (rE i (ev t)) q
 |.lookup t x ix ok=>match Ee P t with
  |some e=>(match zeroV P e with
   |some z=>bA (lkV z h (ev x) (ev ix) ok) q
   |none=>False)
  |none=>False
 |_=>False
theorem Ad {ev:Operand→Value} {h:AH} {q:Value→Prop} {op:Op} (hw:iO P ev h q op):kindOf op= .vX∧∃v,bM P ev h op=some v∧q v:=by
 unfold iO at hw
 split at hw
 ·exact⟨rfl,_,rfl,hw⟩
 ·exact⟨rfl,_,rfl,hw⟩
 ·obtain⟨v,h1,h2⟩:=hw;exact⟨rfl,v,h1,h2⟩
 ·refine⟨rfl,?_⟩
  split at hw
  ·rename_i z hz
   split at hw
   ·rename_i fs hu
    split at hw
    ·rename_i hall
     split at hw
     ·rename_i l hl
      obtain⟨c,h1,h2⟩:=hw
      refine⟨_,?_,h2⟩
      simp only[bM,D3,hz,hu,hall,if_true]
      rw[B9 hl,h1];rfl
     ·cases hw
    ·cases hw
   ·rename_i e hu
    split at hw
    ·rename_i hall
     split at hw
     ·rename_i l hl
      obtain⟨c,h1,h2⟩:=hw
      refine⟨_,?_,h2⟩
      simp only[bM,D3,hz,hu,hall,if_true]
      rw[B9 hl,h1];rfl
     ·cases hw
    ·cases hw
   ·cases hw
  ·cases hw
 ·refine⟨rfl,?_⟩
  split at hw
  ·rename_i ha
   obtain⟨v,h1,h2⟩:=hw
   refine⟨v,?_,h2⟩
   unfold uC at h1
   simp only[bM]
   split at h1
   ·rename_i he;rw[he];simp only[rB,ha];exact h1
   ·cases h1
  ·rename_i ha
   obtain⟨v,h1,h2⟩:=hw
   refine⟨v,?_,h2⟩
   unfold pN at h1
   simp only[bM]
   split at h1
   ·rename_i he;rw[he];simp only[rB,ha];exact h1
   ·cases h1
  ·cases hw
 ·obtain⟨v,h1,h2⟩:=hw;exact⟨rfl,v,h1,h2⟩
 ·obtain⟨v,h1,h2⟩:=S4 hw;exact⟨rfl,v,h1,h2⟩
 ·obtain⟨v,h1,h2⟩:=hw;exact⟨rfl,v,h1,h2⟩
 ·refine⟨rfl,?_⟩
  split at hw
  ·rename_i hs
   split at hw
   ·rename_i hd
    obtain⟨v,h1,h2⟩:=hw
    refine⟨v,?_,h2⟩
    unfold qE at h1
    split at h1
    ·rename_i he;simp only[bM,hs,hd,he];exact h1
    ·cases h1
   ·rename_i hd
    obtain⟨v,h1,h2⟩:=hw
    refine⟨v,?_,h2⟩
    unfold uG at h1
    split at h1
    ·rename_i he;simp only[bM,hs,hd,he];exact h1
    ·cases h1
   ·cases hw
  ·rename_i hs
   split at hw
   ·rename_i hd
    split at hw
    ·rename_i he
     obtain⟨v,h1,h2⟩:=hw
     refine⟨v,?_,h2⟩
     simp only[bM,hs,hd,he]
     exact h1
    ·cases hw
   ·cases hw
  ·rename_i hs
   split at hw
   ·rename_i hd
    obtain⟨v,h1,h2⟩:=hw
    refine⟨v,?_,h2⟩
    unfold qE at h1
    split at h1
    ·rename_i he;simp only[bM,hs,hd,he];exact h1
    ·cases h1
   ·cases hw
  ·cases hw
 ·refine⟨rfl,?_⟩
  split at hw
  ·cases hw
  ·rename_i t x d hn hs
   refine⟨_,?_,hw⟩
   simp only[bM]
   grind
  ·cases hw
 ·split at hw
  ·exact⟨rfl,_,rfl,hw⟩
  ·cases hw
 ·refine⟨rfl,?_⟩
  split at hw
  ·rename_i hu
   split at hw
   ·rename_i hi
    obtain⟨v,h1,h2⟩:=hw
    refine⟨v,?_,h2⟩
    unfold wY at h1
    split at h1
    ·rename_i hx;simp only[bM,hx,rH,hu,hi,if_true];exact h1
    ·rename_i hx;simp only[bM,hx,rH,hu,hi,true_and];exact h1
    ·cases h1
   ·cases hw
  ·rename_i hu
   split at hw
   ·rename_i hi
    obtain⟨v,h1,h2⟩:=hw
    refine⟨v,?_,h2⟩
    unfold ft at h1
    split at h1
    ·rename_i hx;simp only[bM,hx,rH,hu,hi,true_and];exact h1
    ·cases h1
   ·cases hw
  ·rename_i hu
   split at hw
   ·obtain⟨v,h1,h2⟩:=hw
    refine⟨v,?_,h2⟩
    unfold Zd at h1
    split at h1
    ·rename_i hx;simp only[bM,hx,rH,hu,Option.map_none,Option.isSome_none,Bool.false_eq_true,if_false];exact h1
    ·cases h1
   ·cases hw
  ·cases hw
 ·refine⟨rfl,?_⟩
  split at hw
  ·rename_i hs
   split at hw
   ·rename_i hf
    split at hw
    ·cases hw
    ·rename_i hc
     obtain⟨v,h1,h2⟩:=hw
     refine⟨v,?_,h2⟩
     unfold gZ at h1
     split at h1
     ·rename_i he;simp only[bM,hs,he,hf,hc,if_false];exact h1
     ·cases h1
   ·cases hw
  ·cases hw
 ·refine⟨rfl,?_⟩
  split at hw
  ·rename_i hs
   split at hw
   ·rename_i hf
    split at hw
    ·rename_i ha
     obtain⟨v,h1,h2⟩:=hw
     refine⟨v,?_,h2⟩
     unfold qX at h1
     split at h1
     ·rename_i he;simp only[bM,hs,he,hf,apart,ha];exact h1
     ·cases h1
    ·rename_i ha
     obtain⟨v,h1,h2⟩:=hw
     refine⟨v,?_,h2⟩
     unfold sP at h1
     split at h1
     ·rename_i he;simp only[bM,hs,he,hf,apart,ha];exact h1
     ·cases h1
    ·cases hw
   ·cases hw
  ·cases hw
 ·refine⟨rfl,?_⟩
  split at hw
  ·rename_i hs
   split at hw
   ·rename_i hinf
    obtain⟨v,h1,h2⟩:=hw
    refine⟨v,?_,h2⟩
    unfold pF at h1
    split at h1
    ·rename_i he he2
     split at h1
     ·rename_i hc
      simp only[bM,hs,he,he2,hc,hinf,and_self,if_true];exact h1
     ·cases h1
    ·cases h1
   ·cases hw
  ·rename_i hs
   split at hw
   ·rename_i hinf
    obtain⟨v,h1,h2⟩:=hw
    refine⟨v,?_,h2⟩
    unfold lJ at h1
    split at h1
    ·rename_i he he2
     split at h1
     ·rename_i hc
      simp only[bM,hs,he,he2,hc,hinf,and_self,if_true];exact h1
     ·cases h1
    ·cases h1
   ·cases hw
  ·cases hw
 ·refine⟨rfl,?_⟩
  split at hw
  ·rename_i hs
   split at hw
   ·rename_i hinf
    split at hw
    ·rename_i ha
     obtain⟨v,h1,h2⟩:=hw
     refine⟨v,?_,h2⟩
     unfold Wx at h1
     split at h1
     ·rename_i he he2
      split at h1
      ·rename_i hc
       have hc1:=hc.1
       have hc2:=hc.2.1
       have hc3:=hc.2.2
       simp only[bM,hs,he,he2,hc1,hc2,hinf,and_self,if_true,apart,ha,hc3];exact h1
      ·cases h1
     ·cases h1
    ·rename_i ha
     obtain⟨v,h1,h2⟩:=hw
     refine⟨v,?_,h2⟩
     unfold P0 at h1
     split at h1
     ·rename_i he he2
      split at h1
      ·rename_i hc
       simp only[bM,hs,he,he2,hc,hinf,and_self,if_true,apart,ha];exact h1
      ·cases h1
     ·cases h1
    ·cases hw
   ·cases hw
  ·rename_i hs
   obtain⟨v,h1,h2⟩:=hw
   refine⟨v,?_,h2⟩
   unfold en at h1
   split at h1
   ·rename_i he he2;simp only[bM,hs,he,he2];exact h1
   ·cases h1
  ·cases hw
 ·obtain⟨v,h1,h2⟩:=hw;exact⟨rfl,v,h1,h2⟩
 ·refine⟨rfl,?_⟩
  split at hw
  ·rename_i e he
   split at hw
   ·rename_i z hz
    obtain⟨v,h1,h2⟩:=hw
    refine⟨v,?_,h2⟩
    unfold lkV at h1
    simp only[bM,sE,he]
    grind
   ·cases hw
  ·cases hw
 ·cases hw
end
end Go.Ab
end
section
namespace Go.Ab
noncomputable section
variable {P:Program} {K:FuncId→List Value→Option hJ}
def B8 (x:Value):Option Value:=match x with
 |.string s=>some (.int .i64 s.size)
 |_=>none
def lA (x:Value):Option Value:=match x with
 |.slice _ n _=>some (.int .i64 n)
 |_=>none
def Zp (h:AH) (x:Value):Option Value:=(Wi h x).map fun es=> .int .i64 es.length
def Be (x y:Value):Option Value:=match x,y with
 |.int k x,.int _ y=>some (.int k (if y<x then y else x))
 |_,_=>none
def Dk (x y:Value):Option Value:=match x,y with
 |.int k x,.int _ y=>some (.int k (if y>x then y else x))
 |_,_=>none
def jB (sz bytes:Nat) (e:TypeId) (h:AH) (s x:Value):Option (Value×AH):=
 match s,tA x with
 |.slice base sLen sCap,some n=>
  match fU h sz n x with
  |some new=>
   if !new.all eF||new.length !=n*sz then none else
   if sLen+n≤sCap then
    match base with
    |none=>if n=0 then some (s,h) else none
    |some a=>if n=0 then some (s,h) else if a.spot.isSome then none else
     (dV h (a.add (sLen*sz)) new).map fun h'=>(.slice base (sLen+n) sCap,h')
   else if(sLen+n)*(bytes+1)≤2^46 then
    match base with
    |none=>if sLen=0 then some (.slice (some ⟨h.next,0,none⟩) n n,h.alloc (.cells new e (0,0) false)) else none
    |some a=>
     if a.spot=some 1 then(if sLen=0 then some (.slice (some ⟨h.next,0,none⟩) n n,h.alloc (.cells new e (0,0) false)) else none) else
     if a.spot=some 2 then
      (match h.get a.block with
      |some (.cells c e' fz _)=>
       if e'=e∧h.base≤a.block∧fz=(0,0)∧a.off≤c.length∧sLen=0∧sCap=0 then
        some (.slice (some ⟨h.next,0,none⟩) n n,(h.set a.block none).alloc (.cells new e (0,0) false))
       else none
      |_=>none) else
     match cI h a (sLen*sz),h.get a.block with
     |some old,some (.cells c e' fz x)=>
      if !old.all eF then none else
      if x then some (.slice (some ⟨h.next,0,none⟩) (sLen+n) (sLen+n),h.alloc (.cells (old++new) e (0,0) false))
      else if e'=e∧h.base≤a.block∧fz=(0,0)∧a.off+sCap*sz≤c.length then
       some (.slice (some ⟨h.next,0,none⟩) (sLen+n) (sLen+n),(h.set a.block none).alloc (.cells (old++new) e (0,0) false))
      else none
     |_,_=>none
   else none
  |_=>none
 |_,_=>none
def copyV (sz:Nat) (h:AH) (d x:Value):Option (Value×AH):=
 match d,tA x with
 |.slice base dLen _,some m=>
   match fU h sz (Nat.min m dLen) x with
   |some new=>match base with
    |none=>some (.int .i64 (Nat.min m dLen:Nat),h)
    |some a=>if Nat.min m dLen=0 then some (.int .i64 0,h) else(dV h a new).map fun h'=>(.int .i64 (Nat.min m dLen:Nat),h')
   |none=>none
 |_,_=>none
def jC (z:List Value) (h:AH) (x:Value):Option (Value×AH):=
 match x with
 |.slice none _ _=>some (.tuple #[],h)
 |.slice (some a) n _=>
   if n=0 then some (.tuple #[],h) else(dV h a (eB z n)).map fun h'=>(.tuple #[],h')
 |_=>none
def Lk (h:AH) (m key v:Value):Option AH:=match m,key with
 |.map (some r),.int k n=>if r<h.base then none else match h.get r with
  |some (.map es clock)=>(uy k n v es clock).map fun o=>h.set r (some o)
  |_=>none
 |_,_=>none
def Kz (h:AH) (m key:Value):Option AH:=match m,key with
 |.map (some r),.int k n=>if r<h.base then none else match h.get r with
  |some (.map es clock)=>match tH k n es 0 with
   |some (some (i,_))=>some (h.set r (some (.map (es.eraseIdx i) clock)))
   |some none=>some (h.set r (some (.map es clock)))
   |none=>none
  |_=>none
 |_,_=>none
theorem rz {h:AH} {t e:TypeId} {m key v:Value} {h':AH} (ht:Ee P t=some e) (hm:Lk h m key v=some h'):zO P h t m key v=some h':=by
 unfold Lk at hm
 split at hm
 ·simp only[zO,ht];exact hm
 ·cases hm
theorem nb {h:AH} {t e:TypeId} {m key:Value} {h':AH} (ht:Ee P t=some e) (hm:Kz h m key=some h'):B1 P h t m key=some h':=by
 unfold Kz at hm
 split at hm
 ·simp only[B1,ht];exact hm
 ·cases hm
def tG (P:Program) (h:AH) (q:Value→AH→Prop) (argTypes:Array TypeId):Builtin→List Value→Prop
 |.len,[x]=>match(argTypes[0]?).bind P.underlying with
  |some .string=>bA (B8 x) fun v=>q v h
  |some (.slice _)=>bA (lA x) fun v=>q v h
  |some (.array n _)=>q (.int .i64 n) h
  |some (.pointer e)=>(match P.underlying e with
   |some (.array n _)=>q (.int .i64 n) h
   |_=>False)
  |some (.map _ _)=>bA (Zp h x) fun v=>q v h
  |_=>False
 |.append,[s,x]=>match(argTypes[0]?).bind P.underlying with
  |some (.slice e)=>if F6 P argTypes∧(zeroOf P e).isSome then bA (jB (P.cellsOf e) (P.bytesOf e) e h s x) fun r=>q r.1 r.2 else False
  |_=>False
 |.copy,[d,x]=>match(argTypes[0]?).bind P.underlying with
  |some (.slice e)=>if(P.info? e).isSome then bA (copyV (P.cellsOf e) h d x) fun r=>q r.1 r.2 else False
  |_=>False
 |.clear,[x]=>match(argTypes[0]?).bind P.underlying with
  |some (.slice e)=>(match zeroOf P e with
   |some z=>bA (jC z h x) fun r=>q r.1 r.2
   |none=>False)
  |_=>False
 |.min,[x,y]=>bA (Be x y) fun v=>q v h
 |.max,[x,y]=>bA (Dk x y) fun v=>q v h
 |.delete,[m,k]=>(match argTypes[0]? with
  |some t=>(match Ee P t with
   |some _=>bA (Kz h m k) fun h'=>q (.tuple #[]) h'
   |none=>False)
  |none=>False)
 |_,_=>False
theorem wI {h:AH} {q:Value→AH→Prop} {at_:Array TypeId} {b:Builtin} {args:List Value} (hw:tG P h q at_ b args):∃v h',eE P h b at_ args=some (v,h')∧q v h':=by
 unfold tG at hw
 split at hw
 ·split at hw
  ·rename_i ht
   obtain⟨v,h1,h2⟩:=hw
   refine⟨v,h,?_,h2⟩
   unfold B8 at h1
   split at h1
   ·simp only[eE,ht];cases h1;rfl
   ·cases h1
  ·rename_i ht
   obtain⟨v,h1,h2⟩:=hw
   refine⟨v,h,?_,h2⟩
   unfold lA at h1
   split at h1
   ·simp only[eE,ht];cases h1;rfl
   ·cases h1
  ·rename_i ht
   refine⟨_,h,?_,hw⟩
   simp only[eE,ht]
  ·rename_i ht
   split at hw
   ·rename_i ht2
    refine⟨_,h,?_,hw⟩
    simp only[eE,ht,ht2]
   ·cases hw
  ·rename_i ht
   obtain⟨v,h1,h2⟩:=hw
   refine⟨v,h,?_,h2⟩
   unfold Zp at h1
   cases hm:Wi h _ with
   |none=>rw[hm] at h1;cases h1
   |some es=>rw[hm] at h1;cases h1;simp only[eE,ht,hm];rfl
  ·cases hw
 ·split at hw
  ·rename_i e ht
   split at hw
   ·rename_i hc
    obtain⟨⟨v,h'⟩,h1,h2⟩:=hw
    refine⟨v,h',?_,h2⟩
    obtain⟨z,hz⟩:=Option.isSome_iff_exists.1 hc.2
    unfold jB at h1
    split at h1
    ·rename_i hl
     simp only[eE,Gn,ht,hl,hc.1,hz,Bool.not_true,Bool.false_eq_true,if_false]
     split at h1
     ·rename_i hs
      rw[hs];exact h1
     ·cases h1
    ·cases h1
   ·cases hw
  ·cases hw
 ·split at hw
  ·rename_i e ht
   split at hw
   ·rename_i hc
    obtain⟨⟨v,h'⟩,h1,h2⟩:=hw
    refine⟨v,h',?_,h2⟩
    unfold copyV at h1
    split at h1
    ·rename_i hl
     have hn:(P.info? e).isNone=false:=by simp_all
     simp only[eE,ht,hl,hn,Bool.false_eq_true,if_false]
     exact h1
    ·cases h1
   ·cases hw
  ·cases hw
 ·split at hw
  ·rename_i e ht
   split at hw
   ·rename_i z hz
    obtain⟨⟨v,h'⟩,h1,h2⟩:=hw
    refine⟨v,h',?_,h2⟩
    unfold jC at h1
    split at h1
    ·simp only[eE,ht];exact h1
    ·simp only[eE,ht,hz];exact h1
    ·cases h1
   ·cases hw
  ·cases hw
 ·obtain⟨v,h1,h2⟩:=hw
  refine⟨v,h,?_,h2⟩
  unfold Be at h1
  split at h1
  ·simp only[eE];cases h1;rfl
  ·cases h1
 ·obtain⟨v,h1,h2⟩:=hw
  refine⟨v,h,?_,h2⟩
  unfold Dk at h1
  split at h1
  ·simp only[eE];cases h1;rfl
  ·cases h1
 ·split at hw
  ·rename_i t ht
   split at hw
   ·rename_i e he
    obtain⟨h',h1,h2⟩:=hw
    exact⟨_,h',by simp only[eE,ht,nb he h1];rfl,h2⟩
   ·cases hw
  ·cases hw
 ·cases hw
def yT (P:Program) (K:FuncId→List Value→Option hJ) (ev:Operand→Value) (h:AH) (q:Value→AH→Prop):Op→Prop
 |.store t a x=>if(P.info? t).isSome then bA (uU h (P.cellsOf t) (ev a) (ev x)) fun h'=>q undef h' else False
 |.call c=>match c.callee with
  |.builtin b=>tG P h q c.argTypes b (c.args.toList.map ev)
  |.value (.func g)=>if fN P g then Ok P K (.call g (c.args.toList.map ev)) h fun o h'=>q o.v h' else False
  |.value f=>zV P K (ev f) (c.args.toList.map ev) h q
  |.invoke _ _=>False
 |.mapUpdate t m k x=>match Ee P t with
  |some _=>bA (Lk h (ev m) (ev k) (ev x)) fun h'=>q undef h'
  |none=>False
 |_=>False
theorem ba {f:Value} {args:List Value} {h:AH} {q:Value→AH→Prop} (hw:zV P K f args h q):
  ∃n v h',(match f with
   |.func (.func g) first captured=>if fN P g then(run P K n (.call g (first.toList++args++captured.toList)) h).map fun r=>(r.1.v,r.2) else none
   |.func (.yield l) first _=>(run P K n (.round l (first.toList++args)) h).map fun r=>(r.1.v,r.2)
   |_=>none)=some (v,h')∧q v h':=by
 unfold zV at hw
 split at hw
 ·obtain⟨hc,n,r,h1,h2⟩:=hw
  grind
 ·obtain⟨n,r,h1,h2⟩:=hw
  grind
 ·cases hw
theorem sW {ev:Operand→Value} (hev:∀g,ev (.func g)= .func (.func g) #[] #[]) {h:AH} {q:Value→AH→Prop} {op:Op} (hw:yT P K ev h q op):
  (kindOf op= .store∨kindOf op= .call)∧∃n v h',dS P (run P K n) ev h op=some (v,h')∧q v h':=by
 unfold yT at hw
 split at hw
 ·refine⟨.inl rfl,?_⟩
  split at hw
  ·rename_i hinf
   obtain⟨h',h1,h2⟩:=hw
   refine⟨0,undef,h',?_,h2⟩
   unfold uU at h1
   split at h1
   ·rename_i he
    split at h1
    ·rename_i hc
     split at h1
     ·rename_i hl
      simp only[dS,he,Js,hc,hl,hinf,and_self,if_true,h1];rfl
     ·cases h1
    ·cases h1
   ·cases h1
  ·cases hw
 ·rename_i c
  refine⟨.inr rfl,?_⟩
  split at hw
  ·rename_i hcal
   obtain⟨v,h',h1,h2⟩:=wI hw
   refine⟨0,v,h',?_,h2⟩
   simp only[dS,hcal,h1]
  ·rename_i hcal
   split at hw
   ·rename_i hc
    obtain⟨n,r,h1,h2⟩:=hw
    refine⟨n,_,_,?_,h2⟩
    simp only[dS,hcal,hev,hc,if_true]
    grind
   ·cases hw
  ·rename_i f hf hcal
   obtain⟨n,v,h',h1,h2⟩:=ba hw
   refine⟨n,v,h',?_,h2⟩
   simp only[dS,hcal]
   exact h1
  ·cases hw
 ·refine⟨.inl rfl,?_⟩
  split at hw
  ·rename_i e he
   obtain⟨h',h1,h2⟩:=hw
   exact⟨0,undef,h',by simp only[dS,rz he h1];rfl,h2⟩
  ·cases hw
 ·cases hw
def jf (l c i:Nat):Value:= .slice (some ⟨i,0,none⟩) l c
def zt (i:Nat):Value:= .pointer (some ⟨i,0,none⟩)
def fJ (i:Nat):Value:= .map (some i)
def zN (P:Program) (ev:Operand→Value) (q:lG→(Nat→Value)→Prop):Op→Prop
 |.alloc e=>match zeroOf P e with
  |some z=>q (.cells z e (0,0) true) zt
  |none=>False
 |.box e x=>bA (lI e (ev x)) fun b=>q b zt
 |.buildSlice t len parts=>match P.underlying t with
  |some (.slice e)=>(match zeroOf P e with
   |some z=>if len*P.cellsOf e≤2^24 then(match vR (fun i=>some (i*P.cellsOf e,P.cellsOf e)) ev parts.toList with
    |some ps=>bA (nI (eB z len) ps) fun l=>q (.cells l e (0,0) true) (jf len len)
    |none=>False) else False
   |none=>False)
  |_=>False
 |.makeSlice t l c=>match P.underlying t with
  |some (.slice e)=>(match zeroOf P e with
   |some z=>bA (Iw (P.bytesOf e) (ev l) (ev c)) fun n=>q (.cells (eB z n.2) e (0,0) true) (jf n.1 n.2)
   |none=>False)
  |_=>False
 |.makeMap _t none=>q (.map [] 0) fJ
 |.makeMap t (some x)=>match P.underlying t with
  |some (.map _ _)=>∃k n,ev x= .int k n∧q (.map [] 0) fJ
  |_=>False
 |_=>False
theorem Ag {ev:Operand→Value} {q:lG→(Nat→Value)→Prop} {op:Op} (hw:zN P ev q op):kindOf op= .alloc∧∃b f,dW P ev op=some (b,f)∧q b f:=by
 unfold zN at hw
 split at hw
 ·refine⟨rfl,?_⟩
  split at hw
  ·rename_i hz
   exact⟨_,_,by simp only[dW,hz];rfl,hw⟩
  ·cases hw
 ·refine⟨rfl,?_⟩
  obtain⟨b,h1,h2⟩:=hw
  refine⟨b,zt,?_,h2⟩
  unfold lI at h1
  simp only[Option.map_eq_some_iff] at h1
  obtain⟨l,h1,rfl⟩:=h1
  simp only[dW,h1];rfl
 ·refine⟨rfl,?_⟩
  split at hw
  ·rename_i ht
   split at hw
   ·rename_i hz
    split at hw
    ·rename_i hc
     split at hw
     ·rename_i ps hps
      obtain⟨l,h1,h2⟩:=hw
      refine⟨_,_,?_,h2⟩
      simp only[dW,ht,hz,hc,if_true]
      rw[B9 hps,h1];rfl
     ·cases hw
    ·cases hw
   ·cases hw
  ·cases hw
 ·refine⟨rfl,?_⟩
  split at hw
  ·rename_i ht
   split at hw
   ·rename_i hz
    obtain⟨n,h1,h2⟩:=hw
    refine⟨_,_,?_,h2⟩
    unfold Iw at h1
    split at h1
    ·rename_i e1 e2
     split at h1
     ·rename_i hc
      cases h1
      simp only[dW,ht,e1,e2,hz,hc,and_self,if_true]
      rfl
     ·cases h1
    ·cases h1
   ·cases hw
  ·cases hw
 ·exact⟨rfl,_,_,rfl,hw⟩
 ·refine⟨rfl,?_⟩
  split at hw
  ·rename_i ht
   obtain⟨k,n,h1,h2⟩:=hw
   exact⟨_,_,by simp only[dW,ht,h1];rfl,h2⟩
  ·cases hw
 ·cases hw
end
end Go.Ab
end
section
namespace Go.Ab
noncomputable section
variable {P:Program} {K:FuncId→List Value→Option hJ}
abbrev Ka:=List (Tmp×Option Bool)
def aFo:Option Bool→Value
 |some b=> .bool b
 |none=>undef
def Ka.drop (d:Ka) (t:Option Tmp):Ka:=match t with
 |some t=>d.filter fun x=>x.1 !=t
 |none=>d
def Ka.ok (d:Ka) (env:List Value):Prop:=∀t b,(t,b)∈d→env[t]?=some (aFo b)
def Yr (nS:Nat→Option Tmp) (env:List Value) (dec:Ka) (g:Option (Nat×Bool)) (p:Bool→List Value→Ka→Prop):Prop:=
 match g with
 |none=>p true env dec
 |some (j,want)=>match nS j with
  |none=>False
  |some d=>match dec.lookup d with
   |some (some b)=>p (b==want) env dec
   |some none=>p false env dec
   |none=>Br (env.getD d undef) (p (true==want) (env.set d (.bool true)) ((d,some true)::dec)) (p (false==want) (env.set d (.bool false)) ((d,some false)::dec))
def Dp (h:AH) (b:lG) (p:Nat→AH→Prop):Prop:=p h.next (h.alloc b)
def nH (h:AH) (r:Nat) (b:lG) (p:Nat→AH→Prop):Prop:=p r (h.set r (some b))
def tF (h:AH) (n:Nat) (p:Nat→AH→Prop):Prop:=p h.next {h with next:=h.next+n}
def wpOp (P:Program) (K:FuncId→List Value→Option hJ) (env:List Value) (h:AH) (q:Value→AH→Prop) (op:Op):Prop:=
 match kindOf op with
 |.vX=>iO P (cT P env) h (fun v=>q v h) op
 |.alloc=>zN P (cT P env) (fun b f=>Dp h b fun i h'=>q (f i) h') op
 |.store|.call=>yT P K (cT P env) h q op
 |.other=>False
theorem Ua {env:List Value} {h:AH} {q:Value→AH→Prop} {op:Op} (hw:wpOp P K env h q op):∃n v h',kG P (run P K n) env h op=some (v,h')∧q v h':=by
 unfold wpOp at hw
 cases hk:kindOf op with
 |vX=>
  simp only[hk] at hw
  obtain⟨_,v,h1,h2⟩:=Ad hw
  exact⟨0,v,h,by simp only[kG,hk,h1];rfl,h2⟩
 |alloc=>
  simp only[hk] at hw
  obtain⟨_,b,f,h1,h2⟩:=Ag hw
  exact⟨0,_,_,by simp only[kG,hk,h1];rfl,h2⟩
 |store=>
  simp only[hk] at hw
  obtain⟨_,n,v,h',h1,h2⟩:=sW (fun g=>rfl) hw
  exact⟨n,v,h',by simp only[kG,hk,h1],h2⟩
 |call=>
  simp only[hk] at hw
  obtain⟨_,n,v,h',h1,h2⟩:=sW (fun g=>rfl) hw
  exact⟨n,v,h',by simp only[kG,hk,h1],h2⟩
 |other=>simp only[hk] at hw
def yg (env:List Value) (d:Option Tmp):Bool:=match d with
 |some d=>decide (d<env.length)
 |none=>true
def r9 (dec:Ka) (op:Op):Option Operand:=match op with
 |.pick (.tmp c) a b=>(match dec.lookup c with
  |some (some true)=>some a
  |some (some false)=>some b
  |_=>none)
 |.move x=>some x
 |.assign x=>some x
 |_=>none
def rn (dec:Ka) (x:Operand):Option Bool:=match x with
 |.const (.bool y)=>some y
 |.tmp t=>(match dec.lookup t with
  |some (some y)=>some y
  |_=>none)
 |_=>none
def Ka.put (dec:Ka) (dst:Option Tmp) (x:Operand):Ka:=match dst,rn dec x with
 |some d,some y=>(d,some y)::dec.drop (some d)
 |d,_=>dec.drop d
def Ka.skip (dec:Ka) (env:List Value) (dst:Option Tmp):Ka:=match dst with
 |some d=>if d<env.length then(d,none)::dec.drop (some d) else dec.drop (some d)
 |none=>dec
def wpOps (P:Program) (K:FuncId→List Value→Option hJ) (nS:Nat→Option Tmp):List Oper→List Value→AH→Ka→(List Value→AH→Ka→Prop)→Prop
 |[],env,h,dec,q=>q env h dec
 |o::os,env,h,dec,q=>Yr nS env dec o.guard fun b env dec=>
  match b with
  |true=>(match r9 dec o.op with
   |some x=>wpOps P K nS os (iD env o.dst (cT P env x)) h (if yg env o.dst then dec.put o.dst x else dec.drop o.dst) q
   |none=>wpOp P K env h (fun v h'=>wpOps P K nS os (iD env o.dst v) h' (dec.drop o.dst) q) o.op)
  |false=>wpOps P K nS os (iD env o.dst undef) h (dec.skip env o.dst) q
def aF9 (P:Program) (h:AH) (q:Value→Prop) (argTypes:Array TypeId):Builtin→List Value→Prop
 |.len,[x]=>match(argTypes[0]?).bind P.underlying with
  |some .string=>bA (B8 x) q
  |some (.slice _)=>bA (lA x) q
  |some (.array n _)=>q (.int .i64 n)
  |some (.pointer e)=>(match P.underlying e with
   |some (.array n _)=>q (.int .i64 n)
   |_=>False)
  |some (.map _ _)=>bA (Zp h x) q
  |_=>False
 |.min,[x,y]=>bA (Be x y) q
 |.max,[x,y]=>bA (Dk x y) q
 |_,_=>False
def aE0 (P:Program) (ev:Operand→Value) (h:AH) (q:Value→Prop):Op→Prop
 |.call c=>match c.callee with
  |.builtin b=>aF9 P h q c.argTypes b (c.args.toList.map ev)
  |_=>False
 |op=>iO P ev h q op
structure DR where
 env:List Value
 h:AH
 v:Value
 ran:Bool
def aE4 (P:Program) (K:FuncId→List Value→Option hJ) (r:Nat) (env:List Value) (h:AH) (q:Value→AH→Prop) (op:Op):Prop:=
 match fR op with
 |true=>aE0 P (cT P env) h (fun v=>q v h) op
 |false=>match kindOf op with
  |.alloc=>zN P (cT P env) (fun b f=>nH h r b fun i h'=>q (f i) h') op
  |_=>yT P K (cT P env) h q op
def Gg (P:Program) (K:FuncId→List Value→Option hJ) (nS:Nat→Option Tmp):Nat→List Oper→List Value→AH→Ka→List DR→(List DR→List Value→AH→Ka→Prop)→Prop
 |_,[],env,h,dec,rs,q=>q rs env h dec
 |r,o::os,env,h,dec,rs,q=>Yr nS env dec o.guard fun b env dec=>
  match b with
  |true=>(match r9 dec o.op with
   |some x=>Gg P K nS (r+1) os (iD env o.dst (cT P env x)) h (if yg env o.dst then dec.put o.dst x else dec.drop o.dst) (rs++[⟨env,h,cT P env x,true⟩]) q
   |none=>aE4 P K r env h (fun v h'=>Gg P K nS (r+1) os (iD env o.dst v) h' (dec.drop o.dst) (rs++[⟨env,h,v,true⟩]) q) o.op)
  |false=>Gg P K nS (r+1) os (iD env o.dst undef) h (dec.skip env o.dst) (rs++[⟨env,h,undef,false⟩]) q
def zw (P:Program) (all:List Oper) (rs:List DR) (hEnd:AH):List (Nat×Nat)→Prop→Prop
 |[],p=>p
 |(i,s)::fs,p=>match all[i]? with
  |some o=>(match rs[i]? with
   |some r=>(match r.ran with
    |true=>aE0 P (cT P r.env) (match rs[s]? with|some q=>q.h|none=>hEnd) (fun v=>mS v r.v=true) o.op∧zw P all rs hEnd fs p
    |false=>zw P all rs hEnd fs p)
   |none=>False)
  |none=>False
def aBs (P:Program) (K:FuncId→List Value→Option hJ) (ops:Array Oper) (env:List Value) (h:AH) (q:List Value→AH→Ka→Prop):Prop:=
 if D7 ops.toList&&(P.follows .mixedOrders|| !Region.departs ops) then
  tF h ops.size fun r h1=>Gg P K (fun j=>(ops[j]?).bind (·.dst)) r ops.toList env h1 [] [] fun rs env' h' dec=>zw P ops.toList rs h' (Bk ops.toList) (q env' h' dec)
 else False
end
end Go.Ab
end
section
namespace Go.Ab
noncomputable section
variable {P:Program} {K:FuncId→List Value→Option hJ}
section
variable {fn:FuncId} {ro:Option Nat} {ds:List Nat} {env:List Value} {k:List Item} {h:AH} {Q:Out→AH→Prop}
theorem De {t t':Task} {h':AH} (hs:∀n,run P K (n+1) t h=run P K n t' h') (hw:Ok P K t' h' Q):Ok P K t h Q:=by
 obtain⟨n,r,h1,h2⟩:=hw
 exact⟨n+1,r,by rw[hs];exact h1,h2⟩
theorem Mv {c:Operand} {t e:Code} (hw:Br (cT P env c) (Ok P K (.todo fn ro ds env (.code t::k)) h Q) (Ok P K (.todo fn ro ds env (.code e::k)) h Q)):
  Ok P K (.todo fn ro ds env (.code (.cond c t e)::k)) h Q:=by
 obtain⟨b,hb,ht,hf⟩:=hw
 cases b with
 |true=>exact De (t':= .todo fn ro ds env (.code t::k)) (fun n=>by show dO _ _ _ _ _ _ _ _=_;simp only[dO,hb,if_true]) (ht rfl)
 |false=>exact De (t':= .todo fn ro ds env (.code e::k)) (fun n=>by show dO _ _ _ _ _ _ _ _=_;simp[dO,hb]) (hf rfl)
end
def lC (h:AH) (l:Nat):Option AH:=match h.get l with
 |some (.loop .ready _ _ _ _ _ _ _)=>cS h l .busy none
 |_=>none
def sS (h:AH) (l:Nat):Option (Option Code×AH):=match h.get l with
 |some (.loop st p _ _ _ _ _ _)=>if st= .busy then none else(cS h l .exhausted none).map fun h'=>(p,h')
 |_=>none
def gK (h:AH) (l:Nat):Option Nat:=match h.get l with
 |some (.loop _ _ _ _ _ _ _ d)=>some d
 |_=>none
def Xm (P:Program) (K:FuncId→List Value→Option hJ) (f:Value) (l:Nat) (h:AH) (q:Value→AH→Prop):Prop:=match f with
 |.func (.func g) first captured=>fN P g=true∧Ok P K (.call g (first.toList++[.func (.yield l) #[] #[]]++captured.toList)) h fun o h'=>q o.v h'
 |_=>False
def oB:Code→Option Nat
 |.region id _ _=>some id
 |.seq a b=>(match oB a with
  |some r=>some r
  |none=>oB b)
 |.block _ b=>oB b
 |.loop b=>oB b
 |.scope b=>oB b
 |_=>none
def keyOf:List Item→Option Nat
 |.code c::k=>(match oB c with
  |some r=>some r
  |none=>keyOf k)
 |.inLoop c::k=>(match oB c with
  |some r=>some r
  |none=>keyOf k)
 |_::k=>keyOf k
 |[]=>none
def iA:Code→List Nat
 |.exit id=>[id]
 |.seq a b=>iA a++iA b
 |.cond _ t e=>iA t++iA e
 |.block id b=>(iA b).filter (·!=id)
 |.loop b=>iA b
 |.scope b=>iA b
 |.rangeFunc _ _ a b=>iA a++iA b
 |_=>[]
def uE (p:Option Code) (a b:Prop) (c:List (Nat×Prop)):Prop:=match p with
 |none=>a
 |some .ret=>b
 |some (.exit id)=>(match c.lookup id with
  |some q=>q
  |none=>False)
 |_=>False
def I5 (P:Program) (K:FuncId→List Value→Option hJ) (fn:FuncId) (f:Value) (n:Nat) (lv:List Nat) (vs:List Value) (ps:Array Tmp) (assign body:Code) (d:Nat) (h:AH) (q:Option Code→AH→Prop):Prop:=
 ∀e:Nat→Value,lv.map e=vs→Dp h (.loop .ready none fn ((List.range n).map e) ps assign body d) fun l h2=>Xm P K f l h2 fun _ h3=>bA (sS h3 l) fun r=>q r.1 r.2
def Pd (L:List (Option Nat×List Nat)) (k:List Item):List Nat:=(L.lookup (keyOf k)).getD []
def lS:Nat→List Item→List Item
 |0,k=>k
 |n+1,k=>match k with
  |.code c::k'=>(match c with
   |.skip=>lS n k'
   |.label _=>lS n k'
   |.seq a b=>lS n (.code a:: .code b::k')
   |.block id b=>lS n (.code b:: .inBlock id::k')
   |.scope b=>lS n (.code b:: .inScope b::k')
   |.loop b=>lS n (.code b:: .inLoop b::k')
   |.exit id=>(match exitTo id k' with
    |some k2=>lS n k2
    |none=>k)
   |_=>k)
  |.inBlock _::k'=>lS n k'
  |.inScope _::k'=>lS n k'
  |.inLoop b::k'=>lS n (.code b:: .inLoop b::k')
  |_=>k
def yq:List Item→Bool
 |[]=>true
 |.code .ret::_=>true
 |.code (.exit _)::_=>true
 |_=>false
def short (k:List Item):Bool:=match lS 60 k with
 |.code (.region _ _ _)::k'=>yq (lS 60 k')
 |k'=>yq k'
def Ki (P:Program) (K:FuncId→List Value→Option hJ) (E:List Nat→List Value→List Item→AH→Prop) (F:tQ→List Nat→List Value→AH→Prop) (L:List (Option Nat×List Nat)) (fn:FuncId) (ro:Option Nat):
  Nat→Ka→List Nat→List Value→List Item→AH→Prop
 |0,_,ds,env,k,h=>E ds env k h
 |n+1,dec,ds,env,k,h=>
  match k with
  |[]=>F .iI ds env h
  |.code c::k=>
   (match c with
   |.skip=>Ki P K E F L fn ro n dec ds env k h
   |.label _=>Ki P K E F L fn ro n dec ds env k h
   |.seq a b=>Ki P K E F L fn ro n dec ds env (.code a:: .code b::k) h
   |.cond c t e=>(match rn dec c with
    |some true=>Ki P K E F L fn ro n dec ds env (.code t::k) h
    |some false=>Ki P K E F L fn ro n dec ds env (.code e::k) h
    |none=>Br (cT P env c)
     (match short (.code t::k) with
     |true=>Ki P K E F L fn ro n dec ds env (.code t::k) h
     |false=>E ds env (lS 60 (.code t::k)) h)
     (match short (.code e::k) with
     |true=>Ki P K E F L fn ro n dec ds env (.code e::k) h
     |false=>E ds env (lS 60 (.code e::k)) h))
   |.block id b=>Ki P K E F L fn ro n dec ds env (.code b:: .inBlock id::k) h
   |.loop b=>E ds env (lS 60 (.code b:: .inLoop b::k)) h
   |.scope b=>Ki P K E F L fn ro n dec ds env (.code b:: .inScope b::k) h
   |.exit id=>(match exitTo id k with
    |some k'=>Ki P K E F L fn ro n dec ds env k' h
    |none=>if ro.isSome then F (.exit id) ds env h else False)
   |.ret=>F .ret ds env h
   |.region _ ops false=>wpOps P K (fun j=>(ops[j]?).bind (·.dst)) ops.toList env h dec fun env' h' dec'=>Ki P K E F L fn ro n dec' ds env' k h'
   |.region _ ops true=>aBs P K ops env h fun env' h' dec'=>Ki P K E F L fn ro n dec' ds env' k h'
   |.rangeFunc f ps assign body=>
    (match ro with
    |none=>Dp h (.marks true) fun d h1=>I5 P K fn (cT P env f) env.length (Pd L [.code assign,.beginRound,.code body]) ((Pd L [.code assign,.beginRound,.code body]).map fun t=>env.getD t undef) ps assign body d h1 fun p h'=>
      uE p (Ki P K E F L fn ro n dec (d::ds) env k h') (Ki P K E F L fn ro n dec (d::ds) env (.code .ret::k) h') ((iA body).map fun id=>(id,Ki P K E F L fn ro n dec (d::ds) env (.code (.exit id)::k) h'))
    |some l=>bA (gK h l) fun d=>I5 P K fn (cT P env f) env.length (Pd L [.code assign,.beginRound,.code body]) ((Pd L [.code assign,.beginRound,.code body]).map fun t=>env.getD t undef) ps assign body d h fun p h'=>
      uE p (Ki P K E F L fn ro n dec ds env k h') (Ki P K E F L fn ro n dec ds env (.code .ret::k) h') ((iA body).map fun id=>(id,Ki P K E F L fn ro n dec ds env (.code (.exit id)::k) h')))
   |_=>False)
  |.inBlock _::k=>Ki P K E F L fn ro n dec ds env k h
  |.inScope _::k=>Ki P K E F L fn ro n dec ds env k h
  |.inLoop b::k=>E ds env (lS 60 (.code b:: .inLoop b::k)) h
  |.beginRound::k=>
   (match ro with
   |some l=>bA (lC h l) fun h'=>Ki P K E F L fn ro n dec ds env k h'
   |none=>False)
  |_=>False
theorem Kt {env:List Value} {n:Nat} (h:env.length=n):(List.range n).map (fun t=>env.getD t undef)=env:=by
 refine List.ext_getElem? fun i=>?_
 grind
theorem Uw {l:List Nat} {f:Nat→Prop} {id:Nat} {q:Prop} (h:(l.map fun i=>(i,f i)).lookup id=some q):q=f id:=by
 induction l with
 |nil=>simp at h
 |cons i l ih=>
  grind
theorem Ia {fn:FuncId} {f:Value} {env:List Value} {lv:List Nat} {ps:Array Tmp} {assign body:Code} {d:Nat} {h:AH} {q:Option Code→AH→Prop}
  (hw:I5 P K fn f env.length lv (lv.map fun t=>env.getD t undef) ps assign body d h q):
  ∃n g first captured o h3 p h4,f= .func (.func g) first captured∧fN P g=true∧run P K n (.call g (first.toList++[.func (.yield h.next) #[] #[]]++captured.toList)) (h.alloc (.loop .ready none fn env ps assign body d))=some (o,h3)∧
   sS h3 h.next=some (p,h4)∧q p h4:=by
 have:=hw (fun t=>env.getD t undef) rfl
 rw[Kt rfl] at this
 unfold Dp Xm at this
 split at this
 ·rename_i g first captured
  obtain⟨hc,n,r,h1,⟨p,h4⟩,h2,h3⟩:=this
  grind
 ·cases this
theorem G7 {fn:FuncId} {ro:Option Nat} {ds:List Nat} {env:List Value} {h:AH} {Q:Out→AH→Prop}:∀(n:Nat) {k:List Item},Ok P K (.todo fn ro ds env (lS n k)) h Q→Ok P K (.todo fn ro ds env k) h Q
 |0,_,hw=>hw
 |n+1,k,hw=>by
  have st:∀{k':List Item},Ok P K (.todo fn ro ds env (lS n k')) h Q→(∀m,run P K (m+1) (.todo fn ro ds env k) h=run P K m (.todo fn ro ds env k') h)→Ok P K (.todo fn ro ds env k) h Q:=
   fun hw hs=>De hs (G7 n hw)
  unfold lS at hw
  split at hw
  ·split at hw
   ·exact st hw fun _=>rfl
   ·exact st hw fun _=>rfl
   ·exact st hw fun _=>rfl
   ·exact st hw fun _=>rfl
   ·exact st hw fun _=>rfl
   ·exact st hw fun _=>rfl
   ·split at hw
    ·rename_i hx
     refine st hw fun m=>?_
     show dO P (run P K m) _ _ _ _ _ _=_
     simp only[dO,hx]
    ·exact hw
   ·exact hw
  ·exact st hw fun _=>rfl
  ·exact st hw fun _=>rfl
  ·exact st hw fun _=>rfl
  ·exact hw
def Uy (P:Program) (f:FuncId) (Q:Value→AH→Prop):Out→AH→Prop:=fun o h1=>
 match o.leave with
 |.exit _=>False
 |_=>bA (cC o.ds h1) fun h2=>bA (eW P h2 o.env ((P.funcs[f]?).elim [] fun fn=>fn.results.toList)) fun vs=>Q (oneOf vs) h2
theorem sy {f:FuncId} {fn:Func} {body:Code} {args:List Value} {h:AH} {Q:Value→AH→Prop} (hf:P.funcs[f]?=some fn) (hb:fn.body=some body) (hK:K f args=none)
  (hw:Ok P K (.todo f none [] (args++List.replicate (fn.ntmps - args.length) undef) [.code body]) h (Uy P f Q)):Ok P K (.call f args) h fun o h'=>Q o.v h':=by
 obtain⟨n,⟨o,g⟩,h1,h2⟩:=hw
 simp only at h2
 have key:(∀id,o.leave≠.exit id)→(bA (cC o.ds g) fun h2=>bA (eW P h2 o.env ((P.funcs[f]?).elim [] fun fn=>fn.results.toList)) fun vs=>Q (oneOf vs) h2)→Ok P K (.call f args) h fun o h'=>Q o.v h':=by
  intro hne ⟨h3,hc,vs,hv,hq⟩
  rw[hf] at hv
  simp only[Option.elim_some] at hv
  refine⟨n+1,(⟨.iI,[],[],oneOf vs⟩,h3),?_,hq⟩
  show iL P K (run P K n) f args h=_
  simp only[iL,hK,hf,hb]
  rw[h1]
  cases hlv:o.leave with
  |exit id=>exact absurd hlv (hne id)
  |iI=>grind
  |ret=>grind
 unfold Uy at h2
 grind
def Pt (P:Program) (K:FuncId→List Value→Option hJ) (fn:FuncId) (ro:Option Nat) (Q:Out→AH→Prop) (n:Nat) (lv:List Nat) (k:List Item) (ds:List Nat) (vs:List Value) (h:AH):Prop:=
 ∀e:Nat→Value,lv.map e=vs→Ok P K (.todo fn ro ds ((List.range n).map e) k) h Q
def Nv (P:Program) (h:AH) (env:List Value):List ResultVar→(List Value→Prop)→Prop
 |[],p=>p []
 |.tmp t::rs,p=>Nv P h env rs fun l=>p (env.getD t undef::l)
 |.cell a t::rs,p=>match iG P t with
  |some true=>bA (uC h (P.cellsOf t) (env.getD a undef)) fun v=>Nv P h env rs fun l=>p (v::l)
  |some false=>bA (pN h (env.getD a undef)) fun v=>Nv P h env rs fun l=>p (v::l)
  |none=>False
theorem rU {h:AH} {env:List Value}:∀{rs:List ResultVar} {p:List Value→Prop},Nv P h env rs p→∃l,eW P h env rs=some l∧p l
 |[],p,hw=>⟨[],rfl,hw⟩
 |.tmp t::rs,p,hw=>by
  obtain⟨l,h1,h2⟩:=rU (rs:=rs) hw
  exact⟨_,by simp only[eW,h1];rfl,h2⟩
 |.cell a t::rs,p,hw=>by
  simp only[Nv] at hw
  split at hw
  ·rename_i ha
   obtain⟨v,h1,hw⟩:=hw
   obtain⟨l,h2,h3⟩:=rU (rs:=rs) hw
   refine⟨v::l,?_,h3⟩
   unfold uC at h1
   split at h1
   ·rename_i x he
    have hl:rB P h t x=some v:=by unfold rB;rw[ha];exact h1
    simp only[eW,he,hl,h2]
   ·cases h1
  ·rename_i ha
   obtain⟨v,h1,hw⟩:=hw
   obtain⟨l,h2,h3⟩:=rU (rs:=rs) hw
   refine⟨v::l,?_,h3⟩
   unfold pN at h1
   split at h1
   ·rename_i x he
    have hl:rB P h t x=some v:=by unfold rB;rw[ha];exact h1
    simp only[eW,he,hl,h2]
   ·cases h1
  ·cases hw
def z6 (P:Program) (f:FuncId) (Q:Value→AH→Prop) (lv:tQ) (ds:List Nat) (env:List Value) (h:AH):Prop:=match lv with
 |.exit _=>False
 |_=>bA (cC ds h) fun h2=>Nv P h2 env ((P.funcs[f]?).elim [] fun fn=>fn.results.toList) fun l=>Q (oneOf l) h2
theorem Vu {f:FuncId} {Q:Value→AH→Prop} {lv:tQ} {ds:List Nat} {env:List Value} {h:AH} (hw:z6 P f Q lv ds env h):Uy P f Q ⟨lv,ds,env,undef⟩ h:=by
 unfold z6 at hw
 unfold Uy
 cases lv with
 |exit id=>exact hw
 |iI=>obtain⟨h2,hc,hw⟩:=hw;obtain⟨l,h3,h4⟩:=rU hw;simp_all
 |ret=>obtain⟨h2,hc,hw⟩:=hw;obtain⟨l,h3,h4⟩:=rU hw;simp_all
theorem q5 {f:FuncId} {args:List Value} {v:Value} {h:AH} {Q:Value→AH→Prop} (hK:K f args=some (.val v)) (hw:Q v h):Ok P K (.call f args) h fun o h'=>Q o.v h':=
 ⟨1,(⟨.iI,[],[],v⟩,h),by show iL _ _ _ _ _ _=_;simp only[iL,hK],hw⟩
def Dg (l:Nat) (Q:Value→AH→Prop):Out→AH→Prop:=fun o h1=>
 o.ds=[]∧match o.leave with
 |.iI=>bA (cS h1 l .ready (some none)) fun h2=>Q (.bool true) h2
 |.ret=>bA (cS h1 l .done (some (some .ret))) fun h2=>Q (.bool false) h2
 |.exit id=>bA (cS h1 l .done (some (some (.exit id)))) fun h2=>Q (.bool false) h2
theorem iv {l:Nat} {args:List Value} {h:AH} {st:LoopState} {p:Option Code} {fn:FuncId} {tmps:List Value} {ps:Array Tmp} {assign body:Code} {d:Nat} {Q:Value→AH→Prop}
  (hg:h.get l=some (.loop st p fn tmps ps assign body d)) (hl:args.length=ps.size)
  (hw:Ok P K (.todo fn (some l) [] ((ps.toList.zip args).foldl (fun t (p,v)=>t.set p v) tmps) [.code assign,.beginRound,.code body]) h (Dg l Q)):Ok P K (.round l args) h fun o h'=>Q o.v h':=by
 obtain⟨n,r,h1,h2,h3⟩:=hw
 obtain⟨o,h4⟩:=r
 simp only at h2 h3
 have key:∀o' h5,(match o.leave with
     |.iI=>(cS h4 l .ready (some none)).map fun h2=>((⟨.iI,[],[],.bool true⟩:Out),h2)
     |.ret=>(cS h4 l .done (some (some .ret))).map fun h2=>(⟨.iI,[],[],.bool false⟩,h2)
     |.exit id=>(cS h4 l .done (some (some (.exit id)))).map fun h2=>(⟨.iI,[],[],.bool false⟩,h2))=some (o',h5)→Q o'.v h5→Ok P K (.round l args) h fun o h'=>Q o.v h':=by
  intro o' h5 he hq
  refine⟨n+1,(o',h5),?_,hq⟩
  show lH (run P K n) l args h=_
  simp only[lH,hg,hl,if_true]
  grind
 split at h3
 ·rename_i hlv
  obtain⟨h5,h6,h7⟩:=h3
  grind
 ·rename_i hlv
  obtain⟨h5,h6,h7⟩:=h3
  grind
 ·rename_i hlv
  obtain⟨h5,h6,h7⟩:=h3
  grind
def Nf (l:Nat) (Q:Value→AH→Prop) (lv:tQ) (ds:List Nat) (_env:List Value) (h:AH):Prop:=match ds with
 |[]=>(match lv with
  |.iI=>bA (cS h l .ready (some none)) fun h2=>Q (.bool true) h2
  |.ret=>bA (cS h l .done (some (some .ret))) fun h2=>Q (.bool false) h2
  |.exit id=>bA (cS h l .done (some (some (.exit id)))) fun h2=>Q (.bool false) h2)
 |_=>False
theorem Nr {l:Nat} {Q:Value→AH→Prop} {lv:tQ} {ds:List Nat} {env:List Value} {h:AH} (hw:Nf l Q lv ds env h):Dg l Q ⟨lv,ds,env,undef⟩ h:=by
 unfold Nf at hw
 cases ds with
 |nil=>refine⟨rfl,?_⟩;cases lv<;>exact hw
 |cons d ds=>exact hw.elim
end
end Go.Ab
end
section
namespace Go.Ab
noncomputable section
open Go.RowKit
variable {P:Program} {K:FuncId→List Value→Option hJ}
def start (base:Nat) (old:Nat→Option lG):AH:={base:=base,next:=base,old:=old,new:= .lf}
theorem tW {base:Nat} {old:Nat→Option lG} (i:Nat):(start base old).get i=if i<base then old i else none:=by
 rw[AH.get_eq];unfold start
 split
 ·rfl
 ·cases i - base<;>rfl
structure Reads (P:Program) (base:Nat) (old:Nat→Option lG) (ρ:gQ) (w:World):Prop where
 pM:∀i o,i<base→old i=some o→∀b s,ρ i=some (b,s)→∃o',w.heap[b]?=some o'∧rZ P ρ s o o'
 low:∀i b s,i<base→ρ i=some (b,s)→b<w.heap.size
 none:∀i,base≤i→ρ i=none
 oQ:∀g,g<P.globals.size→ρ g=some (g,(0,0))
theorem Reads.inv {base:Nat} {old:Nat→Option lG} {ρ:gQ} {w:World} (r:Reads P base old ρ w):Inv P w.heap.size ρ (start base old) w where
 pM:=fun i o hg b s hr=>by
  rw[tW] at hg
  split at hg
  ·rename_i hi;exact r.pM i o hi hg b s hr
  ·cases hg
 inj:=fun i j b si sj hi _ gi=>by
  rw[tW,if_neg (Nat.not_lt.2 (show base≤_ from hi))] at gi;cases gi
 low:=fun i b s hi gi=>by
  rw[tW,if_neg (Nat.not_lt.2 (show base≤_ from hi))] at gi;cases gi
 old:=fun i b s hi hr=>r.low i b s hi hr
 fresh:=fun i hi=>r.none i hi
 gM:=fun i hi=>by rw[tW,if_neg (Nat.not_lt.2 (show base≤_ from hi))]
 oQ:=r.oQ
 size:=Nat.le_refl _
 bn:=Nat.le_refl _
theorem G9 {w:World} (C:Ctx P w.heap.size K) (hg:C.G w) {base:Nat} {old:Nat→Option lG} {ρ:gQ} (r:Reads P base old ρ w) {f:FuncId} {args args':List Value} (ha:aT ρ args args') {Q:Out→AH→Prop}
  (hok:Ok P K (.call f args) (start base old) Q):
  Calls P f ⟨args'⟩ w fun e w'=>∃ρ' o h' v',e= .returned v'∧aD ρ' o.v v'∧Q o h'∧Inv P w.heap.size ρ' h' w'∧Below w.heap.size w w':=by
 obtain⟨n,⟨o,h'⟩,hr,hq⟩:=hok
 intro cs
 obtain⟨e,w',fr,⟨ρ',v',he,hv,hevo⟩,h1,h2,h3⟩:=eh C n (.call f args) _ o h' hr ρ w args' r.inv hg ha cs
 exact⟨e,w',fr,⟨ρ',o,h',v',he,hv,hq,hevo.inv,hevo.below r.inv⟩,h1,h2,h3⟩
def Ctx.empty (P:Program) (B:Nat):Ctx P B (fun _ _=>none) where
 G:=fun _=>True
 B7:=fun _ _ _ _=>trivial
 call:=fun _ _ _ _ h=>by cases h
 fwd:=fun _ _ _ _ h=>by cases h
 host:=fun _ _ _ h=>by cases h
def gh (K:FuncId→List Value→Option hJ) (f0:FuncId) (v0:Value):FuncId→List Value→Option hJ:=fun f args=>if f=f0∧args.isEmpty=true then some (.val v0) else K f args
def Ctx.add {B:Nat} (C:Ctx P B K) (f0:FuncId) (v0:Value) (hp:dG v0=true) (h:∀w,C.G w→Calls P f0 #[] w fun e w'=>e= .returned v0∧Below w.heap.size w w'):Ctx P B (gh K f0 v0) where
 G:=C.G
 B7:=C.B7
 call:=fun f args v w hk hg=>by
  unfold gh at hk
  split at hk
  ·rename_i hc
   cases hk
   obtain⟨rfl,ha⟩:=hc
   have:args=[]:=by grind
   subst this
   exact⟨rfl,(h w hg).mono fun e w' ⟨he,hb⟩=>⟨⟨v0,he,fun ρ=>gI v0 hp⟩,hb⟩⟩
  ·exact C.call f args v w hk hg
 fwd:=fun f args g bs hk=>by
  unfold gh at hk
  split at hk
  ·cases hk
  ·exact C.fwd f args g bs hk
 host:=fun f args F hk=>by
  unfold gh at hk
  split at hk
  ·cases hk
  ·exact C.host f args F hk
theorem Um {P:Program} {f:FuncId} {args:Array Value} {v:Value} {w:World} (hp:dG v=true) (h:Calls P f args w fun e w'=>e= .returned v∧Below w.heap.size w w'):
  Calls P f args w fun e w'=>(∃v',e= .returned v'∧∀ρ,aD ρ v v')∧Below w.heap.size w w':=
 h.mono fun _ _ ⟨he,hb⟩=>⟨⟨v,he,fun _=>gI v hp⟩,hb⟩
theorem Qi {f:FuncId} {n:Nat} {v:Value} {base:Nat} {old:Nat→Option lG} (hv:dG v=true)
  (hr:((run P K n (.call f []) (start base old)).any fun r=>mS r.1.v v)=true) {w:World} (C:Ctx P w.heap.size K) (hg:C.G w) {ρ:gQ} (r:Reads P base old ρ w):
  Calls P f #[] w fun e w'=>e= .returned v∧Below w.heap.size w w':=by
 rw[Option.any_eq_true] at hr
 obtain⟨⟨o,h'⟩,hr,he⟩:=hr
 have he:=Eo _ _ he
 have:=G9 (Q:=fun o _=>o.v=v) C hg r (args:=[]) (args':=[]) rfl ⟨n,_,hr,he⟩
 intro cs
 obtain⟨e,w',fr,⟨ρ',o',h2,v',h3,h4,h5,_,h6⟩,h7⟩:=this cs
 rw[h5] at h4
 have:=tK v v' hv h4
 grind
end
end Go.Ab
end
section
namespace Go.Ab
noncomputable section
structure En where
 n:Nat
 t:Tr Value
def En.get (e:En) (i:Nat):Value:=En.rec (motive:=fun _=>Value) (fun n t=>Bool.rec (motive:=fun _=>Value) undef (t.get undef i) (Nat.blt i n)) e
def En.opt (e:En) (i:Nat):Option Value:=En.rec (motive:=fun _=>Option Value) (fun n t=>Bool.rec (motive:=fun _=>Option Value) none (some (t.get undef i)) (Nat.blt i n)) e
def En.set (e:En) (i:Nat) (v:Value):En:=En.rec (motive:=fun _=>En) (fun n t=>Bool.rec (motive:=fun _=>En) (En.mk n t) (En.mk n (t.set undef i v)) (Nat.blt i n)) e
def En.vN (e:En):List Value:=(List.range e.n).map fun i=>e.t.get undef i
def O2:List Value→Nat→Tr Value→Tr Value
 |[],_,t=>t
 |v::l,i,t=>O2 l (i+1) (t.set undef i v)
def En.of (l:List Value) (k:Nat):En:=⟨l.length+k,O2 l 0 .lf⟩
theorem En.Gs (e:En) (i:Nat):e.opt i=e.vN[i]?:=by
 obtain⟨n,t⟩:=e
 simp only[En.opt,En.vN]
 cases h:Nat.blt i n with
 |true=>
  have:i<n:=by simpa [Nat.blt_eq] using h
  simp[this]
 |false=>
  have:¬i<n:=by rw[←Nat.blt_eq,h];simp
  simp[this]
theorem En.get_eq (e:En) (i:Nat):e.get i=e.vN.getD i undef:=by
 rw[List.getD_eq_getElem?_getD,←En.Gs]
 obtain⟨n,t⟩:=e
 simp only[En.get,En.opt]
 cases Nat.blt i n<;>rfl
theorem En.Es (e:En) (i:Nat) (v:Value):(e.set i v).vN=e.vN.set i v:=by
 apply List.ext_getElem?
 intro j
 rw[List.getElem?_set,←En.Gs,←En.Gs]
 obtain⟨n,t⟩:=e
 have hl:(En.vN ⟨n,t⟩).length=n:=by simp[En.vN]
 rw[hl]
 simp only[En.set]
 cases h:Nat.blt i n with
 |true=>
  have hi:i<n:=by simpa [Nat.blt_eq] using h
  simp only[En.opt,Tr.gY]
  by_cases e1:i=j
  ·subst e1;simp[h,hi]
  ·simp[e1,Ne.symm e1]
 |false=>
  have hi:¬i<n:=by rw[←Nat.blt_eq,h];simp
  by_cases e1:i=j
  ·subst e1;simp[En.opt,h,hi]
  ·simp[e1]
theorem I0:∀(l:List Value) (i:Nat) (t:Tr Value) (m:Nat),(O2 l i t).get undef m=if i≤m∧m<i+l.length then l.getD (m - i) undef else t.get undef m
 |[],i,t,m=>by
  rw[if_neg (by simp)];rfl
 |v::l,i,t,m=>by
  simp only[O2]
  rw[I0 l (i+1) _ m,Tr.gY]
  simp only[List.length_cons]
  by_cases h1:m=i
  ·subst h1
   rw[if_neg (by omega),if_pos rfl,if_pos (by omega)]
   simp
  ·rw[if_neg h1]
   by_cases h2:i+1≤m∧m<i+1+l.length
   ·rw[if_pos h2,if_pos (by omega),show m - i=(m - (i+1))+1 by omega]
    simp
   ·rw[if_neg h2,if_neg (by omega)]
theorem En.of_eq (l:List Value) (k:Nat):(En.of l k).vN=l++List.replicate k undef:=by
 apply List.ext_getElem?
 intro j
 rw[←En.Gs]
 unfold En.of En.opt
 simp only[I0,Tr.G8]
 cases h:Nat.blt j (l.length+k) with
 |true=>
  have hj:j<l.length+k:=by simpa [Nat.blt_eq] using h
  by_cases h1:j<l.length
  ·rw[if_pos (by omega),List.getElem?_append_left h1];simp[h1]
  ·rw[if_neg (by omega),List.getElem?_append_right (by omega),List.getElem?_replicate,if_pos (by omega)]
 |false=>
  have hj:¬j<l.length+k:=by rw[←Nat.blt_eq,h];simp
  rw[List.getElem?_eq_none (by simp;omega)]
inductive Tc where
 |todo (fn:FuncId) (ro:Option Nat) (ds:List Nat) (env:En) (k:List Item)
 |ops (all:Array Oper) (rest:List Oper) (env:En)
 |call (f:FuncId) (args:List Value)
 |round (l:Nat) (args:List Value)
structure Km where
 leave:tQ
 ds:List Nat
 env:En
 v:Value
def W7:En:=⟨0,.lf⟩
abbrev pB:=Tc→AH→Option (Km×AH)
def x9:Tc→Task
 |.todo fn ro ds env k=> .todo fn ro ds env.vN k
 |.ops all rest env=> .ops all rest env.vN
 |.call f args=> .call f args
 |.round l args=> .round l args
def uq (o:Km):Out:=⟨o.leave,o.ds,o.env.vN,o.v⟩
def tR (r:Km×AH):Out×AH:=(uq r.1,r.2)
def Eu (R':pB) (R:iM):Prop:=∀t h,R (x9 t) h=(R' t h).map tR
def aFl (v:Value):Value:=if dG v then v else top
def aFi (P:Program) (g:Nat):Value:=if g<P.globals.size then .pointer (some ⟨g,0,none⟩) else top
def aFx (f:Nat):Value:= .func (.func f) #[] #[]
def bX (P:Program) (env:En) (x:Operand):Value:=Operand.rec (motive:=fun _=>Value) (En.get env) aFl (aFi P) aFx x
theorem tV (P:Program) (env:En):bX P env=cT P env.vN:=by
 funext x
 cases x<;>first|rfl|exact En.get_eq _ _
def wO (env:En) (d:Option Tmp) (v:Value):En:=Option.rec (motive:=fun _=>En) env (fun d=>env.set d v) d
theorem Hu (env:En) (d:Option Tmp) (v:Value):(wO env d v).vN=iD env.vN d v:=by
 cases d
 ·rfl
 ·exact En.Es _ _ _
def aEi (want:Bool) (x:Option Value):Option Bool:=
  match x with
  |some (.bool b)=>some (b==want)
  |some (.chan _)=>none
  |_=>some false
def um {α:Type} (l:List α):Nat→Option α:=List.rec (motive:=fun _=>Nat→Option α) (fun _=>none) (fun a _ ih n=>Nat.rec (motive:=fun _=>Option α) (some a) (fun n _=>ih n) n) l
theorem Oa {α:Type}:∀(l:List α) (n:Nat),um l n=l[n]?
 |[],_=>rfl
 |_::_,0=>rfl
 |a::l,n+1=>by
  show um l n=_
  rw[Oa l n];rfl
def zm (all:Array Oper) (env:En) (g:Nat×Bool):Option Bool:=aEi g.2 (((um all.toList g.1).bind (·.dst)).bind (fun d=>env.opt d))
def lT (all:Array Oper) (env:En) (o:Oper):Option Bool:=Option.rec (motive:=fun _=>Option Bool) (some true) (zm all env) o.guard
theorem xC (all:Array Oper) (env:En) (o:Oper):lT all env o=dU all env.vN o:=by
 unfold lT dU
 cases o.guard with
 |none=>rfl
 |some g=>
  obtain⟨j,want⟩:=g
  show zm all env (j,want)=_
  unfold zm aEi
  simp only[En.Gs,Oa,Array.getElem?_toList]
  rfl
def M8 (_:Program) (ev:Operand→Value) (_:AH) (x:Operand):Option Value:=some (ev x)
def Ez (_:Program) (ev:Operand→Value) (_:AH) (x:Operand):Option Value:=some (ev x)
def Ow (_:Program) (ev:Operand→Value) (_:AH) (c a b:Operand):Option Value:=match ev c with
  |.bool t=>some (if t then ev a else ev b)
  |_=>none
def Ii (P:Program) (ev:Operand→Value) (_:AH) (t:TypeId) (parts:Array (Nat×Operand)):Option Value:=D3 P t (parts.toList.map fun p=>(p.1,ev p.2))
def Pb (P:Program) (ev:Operand→Value) (h:AH) (t:TypeId) (a:Operand):Option Value:=match ev a with
  |.pointer (some a)=>rB P h t a
  |_=>none
def xX (_:Program) (ev:Operand→Value) (_:AH) (x:Operand):Option Value:=match ev x with
  |.pointer (some a)=>some (.pointer (some a))
  |.func (.func f) a b=>some (.func (.func f) a b)
  |.func (.yield f) a b=>some (.func (.yield f) a b)
  |_=>none
def Ih (P:Program) (ev:Operand→Value) (_:AH) (op:BinOp) (t:TypeId) (x y:Operand):Option Value:=Nx P op t x y (ev x) (ev y)
def Pm (_:Program) (ev:Operand→Value) (_:AH) (op:UnOp) (x:Operand):Option Value:=match op,ev x with
  |.neg,.int k n=>some (.int k (k.wrap (0 - n)))
  |.not,.bool b=>some (.bool !b)
  |_,_=>none
def Bc (P:Program) (ev:Operand→Value) (h:AH) (s d:TypeId) (x:Operand):Option Value:=match P.underlying s,P.underlying d,ev x with
  |some _,some (.int k),.int _ n=>some (.int k (k.wrap n))
  |some .string,some .string,.string z=>some (.string z)
  |some (.slice e),some .string,v=>(match P.underlying e with
   |some (.int .u8)=>strOf h v
   |_=>none)
  |_,_,_=>none
def oJ (P:Program) (ev:Operand→Value) (_:AH) (t:TypeId) (x:Operand):Option Value:=match P.underlying t with
  |some (.interface _)=>none
  |some _=>some (.iface t (ev x))
  |none=>none
def yG (_:Program) (ev:Operand→Value) (_:AH) (fn:Fn) (first captured:Array Operand):Option Value:=match fn with
  |.func f=>some (.func (.func f) (first.map ev) (captured.map ev))
  |_=>none
def Ie (P:Program) (ev:Operand→Value) (h:AH) (t:TypeId) (x:Operand) (lo hi mx:Option Operand):Option Value:=rH P h t (ev x) (lo.map ev) (hi.map ev) (mx.map ev)
def vE (P:Program) (ev:Operand→Value) (_:AH) (s:TypeId) (x:Operand) (f:Nat):Option Value:=match P.underlying s,ev x with
  |some (.struct fs),.pointer (some a)=>match fs[f]? with
   |some fd=>if P.cellsOf fd.type=0 then none else some (.pointer (some (a.add fd.offset)))
   |none=>none
  |_,_=>none
def H7 (P:Program) (ev:Operand→Value) (_:AH) (t:TypeId) (x:Operand) (f:Nat):Option Value:=match P.underlying t,ev x with
  |some (.struct fs),.agg cs=>match fs[f]? with
   |some fd=>apart P fd.type cs.toList fd.offset
   |none=>none
  |_,_=>none
def vI (P:Program) (ev:Operand→Value) (_:AH) (t:TypeId) (x i:Operand):Option Value:=match P.underlying t,ev x,ev i with
  |some (.array n e),.pointer (some a),.int _ i=>if 0≤i∧i<n∧(P.info? e).isSome then some (.pointer (some (a.add (i.toNat*P.cellsOf e)))) else none
  |some (.slice e),.slice (some a) n _,.int _ i=>if 0≤i∧i<n∧(P.info? e).isSome∧a.spot=none then some (.pointer (some (a.add (i.toNat*P.cellsOf e)))) else none
  |_,_,_=>none
def Ir (P:Program) (ev:Operand→Value) (_:AH) (t:TypeId) (x i:Operand):Option Value:=match P.underlying t,ev x,ev i with
  |some (.array n e),.agg cs,.int _ i=>if 0≤i∧i<n∧(P.info? e).isSome then apart P e cs.toList (i.toNat*P.cellsOf e) else none
  |some .string,.string s,.int _ i=>if 0≤i then(s[i.toNat]?).map fun b=> .int .u8 b.toNat else none
  |_,_,_=>none
def Bn (_:Program) (ev:Operand→Value) (_:AH) (t:Operand) (i:Nat):Option Value:=match ev t with
  |.tuple vs=>vs.toList[i]?
  |_=>none
def Ed (P:Program) (ev:Operand→Value) (h:AH) (t:TypeId) (x ix:Operand) (ok:Bool):Option Value:=sE P h t (ev x) (ev ix) ok
def Ot (P:Program) (ev:Operand→Value) (h:AH):Op→Option Value
 |.move x=>M8 P ev h x
 |.assign x=>Ez P ev h x
 |.pick c a b=>Ow P ev h c a b
 |.build t parts=>Ii P ev h t parts
 |.load t a=>Pb P ev h t a
 |.nilCheck x=>xX P ev h x
 |.binOp op t x y _=>Ih P ev h op t x y
 |.unOp op _ x=>Pm P ev h op x
 |.convert s d x=>Bc P ev h s d x
 |.makeInterface t x=>oJ P ev h t x
 |.makeFunc fn first captured=>yG P ev h fn first captured
 |.slice t x lo hi mx=>Ie P ev h t x lo hi mx
 |.fieldAddr s x f=>vE P ev h s x f
 |.field t x f=>H7 P ev h t x f
 |.indexAddr t x i=>vI P ev h t x i
 |.index t x i=>Ir P ev h t x i
 |.extract t i=>Bn P ev h t i
 |.lookup t x ix ok=>Ed P ev h t x ix ok
 |_=>none
theorem Il (P:Program) (ev:Operand→Value) (h:AH) (op:Op):Ot P ev h op=bM P ev h op:=by cases op<;>rfl
def aAx (h:AH) (ds:List Nat) (ro:Option Nat):Option (Nat×AH×List Nat):=
 match ro with
 |none=>some (h.next,h.alloc (.marks true),h.next::ds)
 |some l=>match h.get l with
  |some (.loop _ _ _ _ _ _ _ d)=>some (d,h,ds)
  |_=>none
structure uf where
 env:En
 h:AH
 v:Value
def aB0 (r:uf):Rec:=⟨r.env.vN,r.h,r.v⟩
def tX (P:Program) (ev:Operand→Value) (h:AH) (op:Op):Option Value:=
 match op with
 |.call c=>(match c.callee with|.builtin b=>if gR b then(eE P h b c.argTypes (c.args.toList.map ev)).map (·.1) else none|_=>none)
 |op=>Ot P ev h op
theorem C4 (P:Program) (ev:Operand→Value) (h:AH) (op:Op):tX P ev h op=eD P ev h op:=by
 cases op<;>first|exact Il P ev h _|rfl
def gS (P:Program) (R:pB) (ev:Operand→Value) (h:AH) (op:Op):Option (Value×AH):=
 match op with
 |.store t a x=>match ev a with
  |.pointer (some a)=>(Js P h t a (ev x)).map fun h'=>(undef,h')
  |_=>none
 |.mapUpdate t m k x=>(zO P h t (ev m) (ev k) (ev x)).map fun h'=>(undef,h')
 |.call c=>
  match c.callee with
  |.builtin b=>eE P h b c.argTypes (c.args.toList.map ev)
  |.value f=>match ev f with
   |.func (.func g) first captured=>
    if fN P g then(R (.call g (first.toList++c.args.toList.map ev++captured.toList)) h).map fun r=>(r.1.v,r.2) else none
   |.func (.yield l) first _=>(R (.round l (first.toList++c.args.toList.map ev)) h).map fun r=>(r.1.v,r.2)
   |_=>none
  |.invoke _ _=>none
 |_=>none
def jN (v:Option Value) (h:AH):Option (Value×AH):=Option.rec (motive:=fun _=>Option (Value×AH)) none (fun v=>some (v,h)) v
def mi (b:Option (lG×(Nat→Value))) (h:AH):Option (Value×AH):=b.map fun r=>(r.2 h.next,h.alloc r.1)
def ml (b:Option (lG×(Nat→Value))) (r:Nat) (h:AH):Option (Value×AH):=b.map fun x=>(x.2 r,h.set r (some x.1))
def aB3 (P:Program) (R:pB) (c:Call) (env:En) (h:AH):Option (Value×AH):=if fR (.call c) then jN (tX P (bX P env) h (.call c)) h else gS P R (bX P env) h (.call c)
abbrev OsF:=Program→pB→En→AH→Option (Value×AH)
abbrev DsF:=Program→pB→Nat→En→AH→Option (Value×AH)
def B6 (P:Program) (R:pB) (env:En) (h:AH) (op:Op):Option (Value×AH):=Op.rec (motive:=fun _=>OsF)
 (fun x_ P _ env h=>jN (M8 P (bX P env) h x_) h)
 (fun x_ P _ env h=>jN (Ez P (bX P env) h x_) h)
 (fun c_ a_ b_ P _ env h=>jN (Ow P (bX P env) h c_ a_ b_) h)
 (fun e_ P _ env h=>mi (dW P (bX P env) (Op.alloc e_)) h)
 (fun e_ v_ P _ env h=>mi (dW P (bX P env) (Op.box e_ v_)) h)
 (fun t_ parts_ P _ env h=>jN (Ii P (bX P env) h t_ parts_) h)
 (fun t_ n_ parts_ P _ env h=>mi (dW P (bX P env) (Op.buildSlice t_ n_ parts_)) h)
 (fun _ _ _ _ _ _ _ _=>none)
 (fun t_ a_ P _ env h=>jN (Pb P (bX P env) h t_ a_) h)
 (fun t_ a_ v_ P R env h=>gS P R (bX P env) h (Op.store t_ a_ v_))
 (fun _ _ _ _ _=>none)
 (fun _ _ _ _ _=>none)
 (fun x_ P _ env h=>jN (xX P (bX P env) h x_) h)
 (fun o_ t_ x_ y_ _ P _ env h=>jN (Ih P (bX P env) h o_ t_ x_ y_) h)
 (fun o_ _ x_ P _ env h=>jN (Pm P (bX P env) h o_ x_) h)
 (fun a_ b_ x_ P _ env h=>jN (Bc P (bX P env) h a_ b_ x_) h)
 (fun _ _ _ _ _ _=>none)
 (fun t_ x_ P _ env h=>jN (oJ P (bX P env) h t_ x_) h)
 (fun f_ a_ b_ P _ env h=>jN (yG P (bX P env) h f_ a_ b_) h)
 (fun t_ r_ P _ env h=>mi (dW P (bX P env) (Op.makeMap t_ r_)) h)
 (fun _ _ _ _ _ _=>none)
 (fun t_ l_ c_ P _ env h=>mi (dW P (bX P env) (Op.makeSlice t_ l_ c_)) h)
 (fun t_ x_ l_ h_ m_ P _ env h=>jN (Ie P (bX P env) h t_ x_ l_ h_ m_) h)
 (fun t_ x_ f_ P _ env h=>jN (vE P (bX P env) h t_ x_ f_) h)
 (fun t_ x_ f_ P _ env h=>jN (H7 P (bX P env) h t_ x_ f_) h)
 (fun t_ x_ i_ P _ env h=>jN (vI P (bX P env) h t_ x_ i_) h)
 (fun t_ x_ i_ P _ env h=>jN (Ir P (bX P env) h t_ x_ i_) h)
 (fun t_ x_ i_ o_ P _ env h=>jN (Ed P (bX P env) h t_ x_ i_ o_) h)
 (fun t_ m_ k_ v_ P R env h=>gS P R (bX P env) h (Op.mapUpdate t_ m_ k_ v_))
 (fun _ _ _ _ _ _ _=>none)
 (fun _ _ _ _ _ _ _ _=>none)
 (fun _ _ _ _ _ _=>none)
 (fun _ _ _ _ _ _=>none)
 (fun _ _ _ _ _=>none)
 (fun _ _ _ _ _ _ _ _=>none)
 (fun t_ i_ P _ env h=>jN (Bn P (bX P env) h t_ i_) h)
 (fun c_ P R env h=>gS P R (bX P env) h (Op.call c_))
 (fun _ _ _ _ _=>none)
 (fun _ _ _ _ _=>none)
 (fun _ _ _ _ _=>none)
 (fun _ _ _ _ _ _=>none)
 (fun _ _ _ _ _ _ _=>none)
 (fun _ _ _ _ _ _=>none) op P R env h
def Yy (P:Program) (R:pB) (r:Nat) (env:En) (h:AH) (op:Op):Option (Value×AH):=Op.rec (motive:=fun _=>DsF)
 (fun x_ P _ _ env h=>jN (M8 P (bX P env) h x_) h)
 (fun x_ P _ _ env h=>jN (Ez P (bX P env) h x_) h)
 (fun c_ a_ b_ P _ _ env h=>jN (Ow P (bX P env) h c_ a_ b_) h)
 (fun e_ P _ r env h=>ml (dW P (bX P env) (Op.alloc e_)) r h)
 (fun e_ v_ P _ r env h=>ml (dW P (bX P env) (Op.box e_ v_)) r h)
 (fun t_ parts_ P _ _ env h=>jN (Ii P (bX P env) h t_ parts_) h)
 (fun t_ n_ parts_ P _ r env h=>ml (dW P (bX P env) (Op.buildSlice t_ n_ parts_)) r h)
 (fun _ _ _ _ _ _ _ _ _=>none)
 (fun t_ a_ P _ _ env h=>jN (Pb P (bX P env) h t_ a_) h)
 (fun t_ a_ v_ P R _ env h=>gS P R (bX P env) h (Op.store t_ a_ v_))
 (fun _ _ _ _ _ _=>none)
 (fun _ _ _ _ _ _=>none)
 (fun x_ P _ _ env h=>jN (xX P (bX P env) h x_) h)
 (fun o_ t_ x_ y_ _ P _ _ env h=>jN (Ih P (bX P env) h o_ t_ x_ y_) h)
 (fun o_ _ x_ P _ _ env h=>jN (Pm P (bX P env) h o_ x_) h)
 (fun a_ b_ x_ P _ _ env h=>jN (Bc P (bX P env) h a_ b_ x_) h)
 (fun _ _ _ _ _ _ _=>none)
 (fun t_ x_ P _ _ env h=>jN (oJ P (bX P env) h t_ x_) h)
 (fun f_ a_ b_ P _ _ env h=>jN (yG P (bX P env) h f_ a_ b_) h)
 (fun t_ r_ P _ r env h=>ml (dW P (bX P env) (Op.makeMap t_ r_)) r h)
 (fun _ _ _ _ _ _ _=>none)
 (fun t_ l_ c_ P _ r env h=>ml (dW P (bX P env) (Op.makeSlice t_ l_ c_)) r h)
 (fun t_ x_ l_ h_ m_ P _ _ env h=>jN (Ie P (bX P env) h t_ x_ l_ h_ m_) h)
 (fun t_ x_ f_ P _ _ env h=>jN (vE P (bX P env) h t_ x_ f_) h)
 (fun t_ x_ f_ P _ _ env h=>jN (H7 P (bX P env) h t_ x_ f_) h)
 (fun t_ x_ i_ P _ _ env h=>jN (vI P (bX P env) h t_ x_ i_) h)
 (fun t_ x_ i_ P _ _ env h=>jN (Ir P (bX P env) h t_ x_ i_) h)
 (fun t_ x_ i_ o_ P _ _ env h=>jN (Ed P (bX P env) h t_ x_ i_ o_) h)
 (fun t_ m_ k_ v_ P R _ env h=>gS P R (bX P env) h (Op.mapUpdate t_ m_ k_ v_))
 (fun _ _ _ _ _ _ _ _=>none)
 (fun _ _ _ _ _ _ _ _ _=>none)
 (fun _ _ _ _ _ _ _=>none)
 (fun _ _ _ _ _ _ _=>none)
 (fun _ _ _ _ _ _=>none)
 (fun _ _ _ _ _ _ _ _ _=>none)
 (fun t_ i_ P _ _ env h=>jN (Bn P (bX P env) h t_ i_) h)
 (fun c_ P R _ env h=>aB3 P R c_ env h)
 (fun _ _ _ _ _ _=>none)
 (fun _ _ _ _ _ _=>none)
 (fun _ _ _ _ _ _=>none)
 (fun _ _ _ _ _ _ _=>none)
 (fun _ _ _ _ _ _ _ _=>none)
 (fun _ _ _ _ _ _ _=>none) op P R r env h
theorem M4 (v:Option Value) (h:AH):jN v h=v.map fun v=>(v,h):=by cases v<;>rfl
theorem Rk (P:Program) (R:pB) (env:En) (h:AH) (op:Op):B6 P R env h op=
  match kindOf op with
  |.vX=>(Ot P (bX P env) h op).map fun v=>(v,h)
  |.alloc=>(dW P (bX P env) op).map fun r=>(r.2 h.next,h.alloc r.1)
  |.store|.call=>gS P R (bX P env) h op
  |.other=>none:=by
 cases op<;>first|rfl|exact M4 _ _
theorem Rq (P:Program) (R:pB) (r:Nat) (env:En) (h:AH) (op:Op):Yy P R r env h op=
  if fR op then(tX P (bX P env) h op).map fun v=>(v,h)
  else if kindOf op== .alloc then(dW P (bX P env) op).map fun x=>(x.2 r,h.set r (some x.1))
  else gS P R (bX P env) h op:=by
 cases op<;>first|rfl|exact M4 _ _|skip
 rename_i c
 show aB3 P R c env h=_
 unfold aB3
 rw[M4]
 rfl
def aG0 (P:Program) (R:pB) (r:Nat) (env:En) (h:AH) (op:Op) (w:Option Bool):Option (Value×AH):=
 Option.rec (motive:=fun _=>Option (Value×AH)) none (fun b=>Bool.rec (motive:=fun _=>Option (Value×AH)) (some (undef,h)) (Yy P R r env h op) b) w
def oE (P:Program) (R:pB) (all:List Oper) (r0 i:Nat) (env:En) (h:AH) (o:Oper):Option (Value×AH):=aG0 P R (r0+i) env h o.op (lT ⟨all⟩ env o)
theorem Kf (P:Program) (R:pB) (all:List Oper) (r0 i:Nat) (env:En) (h:AH) (o:Oper):oE P R all r0 i env h o=
 match lT ⟨all⟩ env o with
 |none=>none
 |some false=>some (undef,h)
 |some true=>
  if fR o.op then(tX P (bX P env) h o.op).map fun v=>(v,h)
  else if kindOf o.op== .alloc then(dW P (bX P env) o.op).map fun r=>(r.2 (r0+i),h.set (r0+i) (some r.1))
  else gS P R (bX P env) h o.op:=by
 unfold oE
 cases lT ⟨all⟩ env o with
 |none=>rfl
 |some b=>
  cases b with
  |false=>rfl
  |true=>exact Rq ..
abbrev y4:=Option (List uf×En×AH)
def aD7 (env:En) (h:AH) (v:Value) (x:y4):y4:=Option.rec (motive:=fun _=>y4) none (fun r=>some (⟨env,h,v⟩::r.1,r.2)) x
def aCl (ih:Nat→En→AH→y4) (i:Nat) (o:Oper) (env:En) (h:AH) (x:Option (Value×AH)):y4:=Option.rec (motive:=fun _=>y4) none (fun r=>aD7 env h r.1 (ih (i+1) (wO env o.dst r.1) r.2)) x
def kQ (P:Program) (R:pB) (all:List Oper) (r0 i:Nat) (os:List Oper) (env:En) (h:AH):y4:=
 List.rec (motive:=fun _=>Nat→En→AH→y4) (fun _ env h=>some ([],env,h)) (fun o _ ih i env h=>aCl ih i o env h (oE P R all r0 i env h o)) os i env h
theorem I8 (P:Program) (R:pB) (all:List Oper) (r0 i:Nat) (o:Oper) (os:List Oper) (env:En) (h:AH):kQ P R all r0 i (o::os) env h=
  match oE P R all r0 i env h o with
  |some (v,h')=>match kQ P R all r0 (i+1) os (wO env o.dst v) h' with
   |some (rs,e)=>some (⟨env,h,v⟩::rs,e)
   |none=>none
  |none=>none:=by
 show aCl (fun i env h=>kQ P R all r0 i os env h) i o env h (oE P R all r0 i env h o)=_
 cases oE P R all r0 i env h o with
 |none=>rfl
 |some r=>
  show aD7 env h r.1 (kQ P R all r0 (i+1) os (wO env o.dst r.1) r.2)=_
  cases hd:kQ P R all r0 (i+1) os (wO env o.dst r.1) r.2 with
  |none=>simp only[hd];rfl
  |some q=>simp only[hd];rfl
def C6 (P:Program) (all:List Oper) (rs:List uf) (hEnd:AH) (x:Nat×Nat):Bool:=
 match all[x.1]?,rs[x.1]? with
 |some o,some r=>
  match lT ⟨all⟩ r.env o with
  |some true=>(match tX P (bX P r.env) (match rs[x.2]? with|some q=>q.h|none=>hEnd) o.op with|some v=>mS v r.v|none=>false)
  |_=>true
 |_,_=>false
def Ci (P:Program) (R:pB) (ops:Array Oper) (env:En) (h:AH):Option (En×AH):=
 if D7 ops.toList&&(P.follows .mixedOrders|| !Region.departs ops) then
  match kQ P R ops.toList h.next 0 ops.toList env {h with next:=h.next+ops.size} with
  |some (rs,env',h')=>if(Bk ops.toList).all (C6 P ops.toList rs h') then some (env',h') else none
  |none=>none
 else none
def qS (P:Program) (h:AH) (env:En):List ResultVar→Option (List Value)
 |[]=>some []
 |.tmp t::rs=>(qS P h env rs).map fun l=>env.get t::l
 |.cell a t::rs=>match env.get a with
  |.pointer (some a)=>match rB P h t a,qS P h env rs with
   |some v,some l=>some (v::l)
   |_,_=>none
  |_=>none
section td
variable (P:Program) (R:pB) (fn:FuncId) (ro:Option Nat) (ds:List Nat) (env:En) (k:List Item) (h:AH)
abbrev Fs:=Option (Km×AH)
def Xl:Fs:=R (.todo fn ro ds env k) h
def aC1 (a b:Code):Fs:=R (.todo fn ro ds env (.code a:: .code b::k)) h
def N8 (c:Operand) (t e:Code):Fs:=match bX P env c with
   |.bool b=>R (.todo fn ro ds env (.code (if b then t else e)::k)) h
   |_=>none
def X1 (b:Code) (x:Item):Fs:=R (.todo fn ro ds env (.code b::x::k)) h
def Ox (id:Nat):Fs:=match exitTo id k with
   |some k'=>R (.todo fn ro ds env k') h
   |none=>if ro.isSome then some (⟨.exit id,ds,env,undef⟩,h) else none
def aAz:Fs:=some (⟨.ret,ds,env,undef⟩,h)
def vg:Fs:=some (⟨.iI,ds,env,undef⟩,h)
def Yl (x:Option (Km×AH)):Fs:=match x with
   |some (o,h')=>R (.todo fn ro ds o.env k) h'
   |none=>none
def V3 (ops:Array Oper):Fs:=Yl R fn ro ds k (R (.ops ops ops.toList env) h)
def Sy (x:Option (En×AH)):Fs:=match x with
   |some (env',h')=>R (.todo fn ro ds env' k) h'
   |none=>none
def O1 (ops:Array Oper):Fs:=Sy R fn ro ds k (Ci P R ops env h)
def Jl (f:Operand) (ps:Array Tmp) (assign body:Code):Fs:=
   match aAx h ds ro with
   |some (d,h1,ds1)=>
    match bX P env f with
    |.func (.func g) first captured=>
     if fN P g then
      match R (.call g (first.toList++[.func (.yield h1.next) #[] #[]]++captured.toList)) (h1.alloc (.loop .ready none fn env.vN ps assign body d)) with
      |some (_,h3)=>
       match h3.get h1.next with
       |some (.loop st p _ _ _ _ _ _)=>
        if st= .busy then none else
        match cS h3 h1.next .exhausted none with
        |some h4=>R (.todo fn ro ds1 env ((p.map Item.code).toList++k)) h4
        |none=>none
       |_=>none
      |none=>none
     else none
    |_=>none
   |none=>none
def Ja:Fs:=
  match ro with
  |some l=>match h.get l with
   |some (.loop .ready _ _ _ _ _ _ _)=>match cS h l .busy none with
    |some h'=>R (.todo fn ro ds env k) h'
    |none=>none
   |_=>none
  |none=>none
def xk:Code→Fs
  |.skip=>Xl R fn ro ds env k h
  |.label _=>Xl R fn ro ds env k h
  |.seq a b=>aC1 R fn ro ds env k h a b
  |.cond c t e=>N8 P R fn ro ds env k h c t e
  |.block id b=>X1 R fn ro ds env k h b (.inBlock id)
  |.loop b=>X1 R fn ro ds env k h b (.inLoop b)
  |.scope b=>X1 R fn ro ds env k h b (.inScope b)
  |.exit id=>Ox R fn ro ds env k h id
  |.ret=>aAz ds env h
  |.region _ ops d=>Bool.rec (motive:=fun _=>Fs) (V3 R fn ro ds env k h ops) (O1 P R fn ro ds env k h ops) d
  |.rangeFunc f ps assign body=>Jl P R fn ro ds env k h f ps assign body
  |_=>none
def tk:Item→Fs
  |.code c=>xk P R fn ro ds env k h c
  |.inBlock _=>Xl R fn ro ds env k h
  |.inScope _=>Xl R fn ro ds env k h
  |.inLoop b=>X1 R fn ro ds env k h b (.inLoop b)
  |.beginRound=>Ja R fn ro ds env k h
  |_=>none
end td
def S1 (P:Program) (R:pB) (fn:FuncId) (ro:Option Nat) (ds:List Nat) (env:En) (k:List Item) (h:AH):Option (Km×AH):=
 List.rec (motive:=fun _=>Fs) (vg ds env h) (fun x k _=>tk P R fn ro ds env k h x) k
section op
variable (P:Program) (R:pB) (all:Array Oper) (rest:List Oper) (env:En) (h:AH) (o:Oper)
def aDb (x:Value×AH):Fs:=R (.ops all rest (wO env o.dst x.1)) x.2
def q8:Fs:=Option.rec (motive:=fun _=>Fs) none (aDb R all rest env o) (B6 P R env h o.op)
def aCu:Fs:=R (.ops all rest (wO env o.dst undef)) h
def aDa (w:Option Bool):Fs:=Option.rec (motive:=fun _=>Fs) none (fun b=>Bool.rec (motive:=fun _=>Fs) (aCu R all rest env h o) (q8 P R all rest env h o) b) w
end op
def Pq (P:Program) (R:pB) (all:Array Oper) (rest:List Oper) (env:En) (h:AH):Option (Km×AH):=
 match rest with
 |[]=>some (⟨.iI,[],env,undef⟩,h)
 |o::rest=>
  aDa P R all rest env h o (lT all env o)
def Ig (P:Program) (K:FuncId→List Value→Option hJ) (R:pB) (f:FuncId) (args:List Value) (h:AH):Option (Km×AH):=
 match K f args with
 |some (.val v)=>some (⟨.iI,[],W7,v⟩,h)
 |some (.fwd g bs)=>match R (.call g bs) h with
  |some (o,h1)=>if Jn o.v then some (⟨.iI,[],W7,o.v⟩,h1) else none
  |none=>none
 |some (.host F)=>(F h).map fun r=>(⟨.iI,[],W7,r.1⟩,r.2)
 |none=>
  match um P.funcs.toList f with
  |some fn=>
   match fn.body with
   |some body=>
    match R (.todo f none [] (En.of args (fn.ntmps - args.length)) [.code body]) h with
    |some (o,h1)=>
     match o.leave with
     |.exit _=>none
     |_=>match cC o.ds h1 with
      |some h2=>(qS P h2 o.env fn.results.toList).map fun vs=>(⟨.iI,[],W7,oneOf vs⟩,h2)
      |none=>none
    |none=>none
   |none=>none
  |none=>none
def Ds (R:pB) (l:Nat) (args:List Value) (h:AH):Option (Km×AH):=
 match h.get l with
 |some (.loop _ _ fn tmps ps assign body _)=>
  if args.length=ps.size then
   match R (.todo fn (some l) [] (En.of ((ps.toList.zip args).foldl (fun t (p,v)=>t.set p v) tmps) 0) [.code assign,.beginRound,.code body]) h with
   |some (o,h1)=>
    if o.ds.isEmpty then
     match o.leave with
     |.iI=>(cS h1 l .ready (some none)).map fun h2=>(⟨.iI,[],W7,.bool true⟩,h2)
     |.ret=>(cS h1 l .done (some (some .ret))).map fun h2=>(⟨.iI,[],W7,.bool false⟩,h2)
     |.exit id=>(cS h1 l .done (some (some (.exit id)))).map fun h2=>(⟨.iI,[],W7,.bool false⟩,h2)
    else none
   |none=>none
  else none
 |_=>none
def aDq (P:Program) (K:FuncId→List Value→Option hJ) (R:pB) (t:Tc) (h:AH):Option (Km×AH):=
 Tc.rec (motive:=fun _=>Fs) (fun fn ro ds env k=>S1 P R fn ro ds env k h) (fun all rest env=>Pq P R all rest env h) (fun f args=>Ig P K R f args h) (fun l args=>Ds R l args h) t
def T6 (P:Program) (K:FuncId→List Value→Option hJ) (n:Nat):pB:=
 Nat.rec (motive:=fun _=>pB) (fun _ _=>none) (fun _ R=>aDq P K R) n
section same
variable {P:Program} {K:FuncId→List Value→Option hJ} {R':pB} {R:iM}
theorem Eu.val (hR:Eu R' R) (t:Tc) (h:AH):(R' t h).map (fun r=>(r.1.v,r.2))=(R (x9 t) h).map fun r=>(r.1.v,r.2):=by
 rw[hR t h,Option.map_map];rfl
theorem Ac (hR:Eu R' R) (ev:Operand→Value) (h:AH) (op:Op):gS P R' ev h op=dS P R ev h op:=by
 have h1:∀g l,(R' (.call g l) h).map (fun r=>(r.1.v,r.2))=(R (.call g l) h).map fun r=>(r.1.v,r.2):=fun g l=>hR.val _ _
 have h2:∀g l,(R' (.round g l) h).map (fun r=>(r.1.v,r.2))=(R (.round g l) h).map fun r=>(r.1.v,r.2):=fun g l=>hR.val _ _
 unfold gS dS
 simp only[h1,h2]
 rfl
theorem Uc (hR:Eu R' R) (env:En) (h:AH) (op:Op):B6 P R' env h op=kG P R env.vN h op:=by
 rw[Rk]
 unfold kG
 simp only[tV,Il,Ac hR]
 rfl
theorem Ng (hR:Eu R' R) (all:List Oper) (r0 i:Nat) (env:En) (h:AH) (o:Oper):oE P R' all r0 i env h o=eT P R all r0 i env.vN h o:=by
 rw[Kf]
 unfold eT
 simp only[xC,tV,C4,Ac hR]
 rfl
theorem C2 (hR:Eu R' R) (all:List Oper) (r0:Nat):∀(os:List Oper) (i:Nat) (env:En) (h:AH),
    fT P R all r0 i os env.vN h=(kQ P R' all r0 i os env h).map fun r=>(r.1.map aB0,r.2.1.vN,r.2.2)
 |[],_,_,_=>rfl
 |o::os,i,env,h=>by
  rw[I8]
  simp only[fT,Ng hR]
  cases eT P R all r0 i env.vN h o with
  |none=>rfl
  |some r=>
   obtain⟨v,h'⟩:=r
   simp only[←Hu,C2 hR all r0 os]
   cases kQ P R' all r0 (i+1) os (wO env o.dst v) h' with
   |none=>rfl
   |some r=>rfl
theorem Tj (all:List Oper) (rs:List uf) (hEnd:AH) (x:Nat×Nat):C6 P all rs hEnd x=qL P all (rs.map aB0) hEnd x:=by
 unfold C6 qL
 simp only[List.getElem?_map]
 cases all[x.1]? with
 |none=>rfl
 |some o=>
  cases rs[x.1]? with
  |none=>rfl
  |some r=>
   simp only[Option.map_some,xC,tV,C4]
   cases rs[x.2]?<;>rfl
theorem P5 (hR:Eu R' R) (ops:Array Oper) (env:En) (h:AH):oV P R ops env.vN h=(Ci P R' ops env h).map fun r=>(r.1.vN,r.2):=by
 unfold Ci oV
 rw[C2 hR]
 split
 ·cases kQ P R' ops.toList h.next 0 ops.toList env {h with next:=h.next+ops.size} with
  |none=>rfl
  |some r=>
   obtain⟨rs,e,h'⟩:=r
   have:C6 P ops.toList rs h'=qL P ops.toList (rs.map aB0) h':=funext (Tj _ rs h')
   simp only[Option.map_some,this]
   split<;>rfl
 ·rfl
theorem vU (h:AH) (env:En):∀rs,qS P h env rs=eW P h env.vN rs
 |[]=>rfl
 |.tmp t::rs=>by simp only[qS,eW,En.get_eq,vU h env rs]
 |.cell a t::rs=>by simp only[qS,eW,En.get_eq,vU h env rs];rfl
theorem Rf (P:Program) (R:pB) (all:Array Oper) (rest:List Oper) (env:En) (h:AH):Pq P R all rest env h=
  match rest with
  |[]=>some (⟨.iI,[],env,undef⟩,h)
  |o::rest=>
   match lT all env o with
   |none=>none
   |some false=>R (.ops all rest (wO env o.dst undef)) h
   |some true=>match B6 P R env h o.op with
    |some (v,h')=>R (.ops all rest (wO env o.dst v)) h'
    |none=>none:=by
 cases rest with
 |nil=>rfl
 |cons o rest=>
  show aDa P R all rest env h o (lT all env o)=_
  simp only
  cases lT all env o with
  |none=>rfl
  |some b=>
   cases b with
   |false=>rfl
   |true=>
    show q8 P R all rest env h o=_
    unfold q8
    simp only
    cases B6 P R env h o.op<;>rfl
theorem Wm (hR:Eu R' R) (all:Array Oper) (rest:List Oper) (env:En) (h:AH):pY P R all rest env.vN h=(Pq P R' all rest env h).map tR:=by
 rw[Rf]
 unfold pY
 cases rest with
 |nil=>rfl
 |cons o rest=>
  simp only[xC,Uc hR]
  cases dU all env.vN o with
  |none=>rfl
  |some b=>
   cases b with
   |false=>simp only[←Hu];exact hR (.ops all rest (wO env o.dst undef)) h
   |true=>
    simp only
    cases kG P R env.vN h o.op with
    |none=>rfl
    |some r=>simp only[←Hu];exact hR (.ops all rest (wO env o.dst r.1)) r.2
theorem Rg (hR:Eu R' R) (fn:FuncId) (ro:Option Nat) (ds:List Nat) (env:En) (k:List Item) (h:AH):dO P R fn ro ds env.vN k h=(S1 P R' fn ro ds env k h).map tR:=by
 have hT:∀fn ro ds (env:En) k h,R (.todo fn ro ds env.vN k) h=(R' (.todo fn ro ds env k) h).map tR:=fun fn ro ds env k h=>hR (.todo fn ro ds env k) h
 unfold dO
 cases k with
 |nil=>rfl
 |cons x k=>
  cases x with
  |code c=>
   cases c with
   |skip=>exact hT ..
   |label _=>exact hT ..
   |seq a b=>exact hT ..
   |cond c t e=>
    show _=(N8 P R' fn ro ds env k h c t e).map tR
    unfold N8
    simp only[tV]
    cases cT P env.vN c<;>first|rfl|exact hT ..
   |block id b=>exact hT ..
   |loop b=>exact hT ..
   |scope b=>exact hT ..
   |exit id=>
    show _=(Ox R' fn ro ds env k h id).map tR
    unfold Ox
    simp only
    cases exitTo id k with
    |none=>simp only;split<;>rfl
    |some k'=>exact hT ..
   |ret=>rfl
   |region i ops d=>
    cases d with
    |false=>
     show _=(V3 R' fn ro ds env k h ops).map tR
     unfold V3 Yl
     simp only
     rw[show R (.ops ops ops.toList env.vN) h=(R' (.ops ops ops.toList env) h).map tR from hR (.ops ops ops.toList env) h]
     cases R' (.ops ops ops.toList env) h with
     |none=>rfl
     |some r=>exact hT ..
    |true=>
     show _=(O1 P R' fn ro ds env k h ops).map tR
     unfold O1 Sy
     simp only[P5 hR]
     cases Ci P R' ops env h with
     |none=>rfl
     |some r=>exact hT ..
   |rangeFunc f ps assign body=>
    show _=(Jl P R' fn ro ds env k h f ps assign body).map tR
    unfold Jl
    simp only[tV]
    split
    ·rename_i d h1 ds1 hd
     have hd':aAx h ds ro=some (d,h1,ds1):=hd
     simp only[hd']
     split
     ·rename_i g first captured hf
      simp only[hf]
      split
      ·rw[show R (.call g (first.toList++[.func (.yield h1.next) #[] #[]]++captured.toList)) (h1.alloc (.loop .ready none fn env.vN ps assign body d))=
        (R' (.call g (first.toList++[.func (.yield h1.next) #[] #[]]++captured.toList)) (h1.alloc (.loop .ready none fn env.vN ps assign body d))).map tR from hR (.call g _) _]
       cases R' (.call g (first.toList++[.func (.yield h1.next) #[] #[]]++captured.toList)) (h1.alloc (.loop .ready none fn env.vN ps assign body d)) with
       |none=>rfl
       |some r=>
        simp only[Option.map_some,tR]
        split
        ·rename_i st p _ _ _ _ _ _ hg
         simp only[hg]
         split
         ·rfl
         ·split
          ·rename_i h4 hs;simp only[hs];exact hT ..
          ·rename_i hs;simp only[hs];rfl
        ·rename_i hg
         split
         ·rename_i hg2;exact absurd hg2 (hg _ _ _ _ _ _ _ _)
         ·rfl
      ·rfl
     ·rename_i hf
      split
      ·rename_i hf2;exact absurd hf2 (hf _ _ _)
      ·rfl
    ·rename_i hd
     have hd':aAx h ds ro=none:=hd
     simp only[hd']
     rfl
   |_=>rfl
  |inBlock _=>exact hT ..
  |inScope _=>exact hT ..
  |inLoop b=>exact hT ..
  |beginRound=>
   show _=(Ja R' fn ro ds env k h).map tR
   unfold Ja
   cases ro with
   |none=>rfl
   |some l=>
    simp only
    split
    ·rename_i hg
     simp only[hg]
     split
     ·rename_i h' hs;simp only[hs];exact hT ..
     ·rename_i hs;simp only[hs];rfl
    ·rename_i hg
     split
     ·rename_i hg2;exact absurd hg2 (hg _ _ _ _ _ _ _)
     ·rfl
  |_=>rfl
theorem Qv (hR:Eu R' R) (f:FuncId) (args:List Value) (h:AH):iL P K R f args h=(Ig P K R' f args h).map tR:=by
 unfold Ig iL
 cases K f args with
 |some a=>
  cases a with
  |val v=>rfl
  |fwd g bs=>
   simp only
   rw[show R (.call g bs) h=(R' (.call g bs) h).map tR from hR (.call g bs) h]
   cases R' (.call g bs) h with
   |none=>rfl
   |some r=>simp only[Option.map_some,tR,uq];split<;>rfl
  |host F=>simp only;cases F h<;>rfl
 |none=>
  simp only
  rw[Oa,Array.getElem?_toList]
  cases P.funcs[f]? with
  |none=>rfl
  |some fn=>
   simp only
   cases fn.body with
   |none=>rfl
   |some body=>
    simp only
    rw[←En.of_eq,show R (.todo f none [] (En.of args (fn.ntmps - args.length)).vN [.code body]) h=(R' (.todo f none [] (En.of args (fn.ntmps - args.length)) [.code body]) h).map tR from hR (.todo f none [] (En.of args (fn.ntmps - args.length)) [.code body]) h]
    cases R' (.todo f none [] (En.of args (fn.ntmps - args.length)) [.code body]) h with
    |none=>rfl
    |some r=>
     obtain⟨⟨lv,ds,env,v⟩,h1⟩:=r
     simp only[Option.map_some,tR,uq,vU]
     cases lv with
     |exit id=>rfl
     |iI=>simp only;cases cC ds h1 with|none=>rfl|some h2=>simp only;cases eW P h2 env.vN fn.results.toList<;>rfl
     |ret=>simp only;cases cC ds h1 with|none=>rfl|some h2=>simp only;cases eW P h2 env.vN fn.results.toList<;>rfl
theorem Pk (hR:Eu R' R) (l:Nat) (args:List Value) (h:AH):lH R l args h=(Ds R' l args h).map tR:=by
 unfold Ds lH
 split
 ·rename_i fn tmps ps as bd d hg
  simp only[hg]
  split
  ·have hof:∀t:List Value,(En.of t 0).vN=t:=fun t=>by rw[En.of_eq];simp
   have:=hR (.todo fn (some l) [] (En.of ((ps.toList.zip args).foldl (fun t (p,v)=>t.set p v) tmps) 0) [.code as,.beginRound,.code bd]) h
   simp only[x9,hof] at this
   rw[this]
   cases R' (.todo fn (some l) [] (En.of ((ps.toList.zip args).foldl (fun t (p,v)=>t.set p v) tmps) 0) [.code as,.beginRound,.code bd]) h with
   |none=>rfl
   |some r=>
    obtain⟨⟨lv,ds,env,v⟩,h1⟩:=r
    simp only[Option.map_some,tR,uq]
    split
    ·cases lv with
     |iI=>simp only;cases cS h1 l .ready (some none)<;>rfl
     |ret=>simp only;cases cS h1 l .done (some (some .ret))<;>rfl
     |exit id=>simp only;cases cS h1 l .done (some (some (.exit id)))<;>rfl
    ·rfl
  ·rfl
 ·rename_i hg
  split
  ·rename_i hg2;exact absurd hg2 (hg _ _ _ _ _ _ _ _)
  ·rfl
theorem Xw:∀n,Eu (T6 P K n) (run P K n)
 |0=>fun t h=>by cases t<;>rfl
 |n+1=>fun t h=>by
  have ih:Eu (T6 P K n) fun t h=>run P K n t h:=Xw n
  cases t with
  |todo fn ro ds env k=>exact Rg ih ..
  |ops all rest env=>exact Wm ih ..
  |call f args=>exact Qv ih ..
  |round l args=>exact Pk ih ..
end same
theorem E3 {P:Program} {K:FuncId→List Value→Option hJ} {n:Nat} {f:FuncId} {args:List Value} {h:AH} {v:Value} (hr:((T6 P K n (.call f args) h).any fun r=>mS r.1.v v)=true):
  ((run P K n (.call f args) h).any fun r=>mS r.1.v v)=true:=by
 have:=Xw (P:=P) (K:=K) n (.call f args) h
 simp only[x9] at this
 rw[this]
 revert hr
 cases T6 P K n (.call f args) h<;>exact id
end
end Go.Ab
end
section
namespace Go.Ab
noncomputable section
variable {P:Program} {K:FuncId→List Value→Option hJ}
def sub:Code→List Nat→Code
 |c,[]=>c
 |.seq a _,0::p=>sub a p
 |.seq _ b,1::p=>sub b p
 |.cond _ t _,0::p=>sub t p
 |.cond _ _ e,1::p=>sub e p
 |.block _ b,0::p=>sub b p
 |.loop b,0::p=>sub b p
 |.scope b,0::p=>sub b p
 |.rangeFunc _ _ a _,0::p=>sub a p
 |.rangeFunc _ _ _ b,1::p=>sub b p
 |_,_=> .skip
def G1 (P:Program) (f:FuncId):Option Code:=(P.funcs[f]?).bind (·.body)
def ntm (P:Program) (f:FuncId):Nat:=(P.funcs[f]?).elim 0 (·.ntmps)
def cd (P:Program) (f:FuncId) (p:List Nat):Code:=sub ((G1 P f).getD .skip) p
def Cl (P:Program) (K:FuncId→List Value→Option hJ) (f:FuncId) (args:List Value) (h:AH) (Q:Value→AH→Prop):Prop:=Ok P K (.call f args) h fun o h'=>Q o.v h'
theorem Cl.mono {f:FuncId} {args:List Value} {h:AH} {Q Q':Value→AH→Prop} (k:Cl P K f args h Q) (hq:∀v h',Q v h'→Q' v h'):Cl P K f args h Q':=Ok.mono k fun _ _=>hq _ _
def lpB (P:Program) (f:FuncId) (p:List Nat) (n:Nat) (e:Nat→Value) (d:Nat) (st:LoopState) (pd:Option Code):lG:=match cd P f p with
 |.rangeFunc _ ps a b=> .loop st pd f ((List.range n).map e) ps a b d
 |_=> .marks false
abbrev I (n:Int):Value:= .int .i64 n
def pt (b o j:Nat):Value:= .pointer (some ⟨b,o+j,none⟩)
def aDo:Nat→Nat→List Nat→List Nat
 |0,_,acc=>acc
 |f+1,n,acc=>if n≤1 then acc else aDo f (n/2) (n % 2::acc)
def kD (n:Nat):List Nat:=aDo 120 n []
def rgF:Code→Operand×Array Tmp×Code×Code
 |.rangeFunc f ps a b=>(f,ps,a,b)
 |_=>(.tmp 0, #[],.skip,.skip)
end
end Go.Ab
end
