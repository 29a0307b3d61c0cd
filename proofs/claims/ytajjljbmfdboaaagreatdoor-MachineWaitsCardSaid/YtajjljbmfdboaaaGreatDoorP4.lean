/- A part of the proof. -/
import Derived.Test.YtajjljbmfdboaaaGreatDoorP3
section
namespace Go.Ab
open Go.RowKit
variable {P:Program} {B:Nat} {K:FuncId→List Value→Option gX}
theorem O0 {α:Type} {l:List α} {f:α×Nat→Bool} (h:l.zipIdx.all f=true) {k:Nat} {o:α} (ho:l[k]?=some o):f (o,k)=true:=by
 grind
theorem Sg {l:List Nat} (hs:l.Pairwise (·<·)) {i p:Nat} (hf:l.find? (fun x=>decide (i<x))=some p):i<p∧p∈l∧∀j∈l,i<j→p≤j:=by
 obtain⟨h1,as,bs,rfl,h2⟩:=List.find?_eq_some_iff_append.1 hf
 refine⟨by simpa using h1,by simp,?_⟩
 intro j hj hij
 rcases List.mem_append.1 hj with h|h
 ·grind
 ·rw[List.pairwise_append] at hs
  rcases List.mem_cons.1 h with h|h
  ·omega
  ·have:=(List.pairwise_cons.1 hs.2.1).1 j h;omega
structure Fit (all:List Oper):Prop where
 dir:∀(k:Nat) o,all[k]?=some o→∀j∈eP o,j<k
 kind:∀(k:Nat) o,all[k]?=some o→kindOf o.op≠.other
 mZ:∀i j:Nat,∀t,(all[i]?).bind (·.dst)=some t→(all[j]?).bind (·.dst)=some t→i=j
 tmps:∀i j:Nat,∀o p d,all[i]?=some o→all[j]?=some p→i≠j→p.dst=some d→d∈Ad all o→(j<i→ahead (eM all []) j i=true)∧(i<j→ahead (eM all []) i j=true)
 tF:∀i j:Nat,∀o p,all[i]?=some o→all[j]?=some p→dD o.op=true→dD p.op=true→j<i→ahead (eM all []) j i=true
theorem Wn {all:List Oper} (h:Ec all=true):Fit all:=by
 unfold Ec at h
 simp only[Bool.and_eq_true] at h
 obtain⟨⟨⟨h1,h2⟩,h3⟩,_⟩:=h
 have pair:∀i j:Nat,∀o p,all[i]?=some o→all[j]?=some p→i≠j→
   (o.dst.isNone||o.dst !=p.dst)=true∧
   (match p.dst with|some d=> !(Ad all o).contains d||(if j<i then ahead (eM all []) j i else ahead (eM all []) i j)|none=>true)=true∧
   (!(dD o.op&&dD p.op&&decide (j<i))||ahead (eM all []) j i)=true:=by
  intro i j o p ho hp hij
  have:=O0 (O0 h3 ho) hp
  grind
 refine {dir:=?_,kind:=?_,mZ:=?_,tmps:=?_,tF:=?_}
 ·intro k o ho j hj
  have:=O0 h1 ho
  grind
 ·grind
 ·grind
 ·grind
 grind
theorem aAo {all:List Oper} {i s n:Nat} (hn:n=all.length) (hi:i<n):
  let tF:=(List.range n).filter fun i=>(all[i]?).any fun o=>dD o.op
  ((tF++[n]).find? fun x=>decide (i<x)).getD n=s→i<s∧∀j p,i<j→j<s→all[j]?=some p→dD p.op=false:=by
 intro tF hs
 have hsorted:(tF++[n]).Pairwise (·<·):=by
  rw[List.pairwise_append]
  refine⟨(List.pairwise_lt_range).filter _,by simp,?_⟩
  grind
 cases hf:(tF++[n]).find? fun x=>decide (i<x) with
 |none=>
  grind
 |some p=>
  rw[hf] at hs
  simp only[Option.getD_some] at hs
  subst hs
  obtain⟨h1,_,h3⟩:=Sg hsorted hf
  grind
theorem U6 {all:List Oper} {i s:Nat} {o:Oper} (ho:all[i]?=some o) (hl:fM o.op=true) (hph:s=all.length∨∃p,all[s]?=some p∧dD p.op=true)
  (hah:∀j p,all[j]?=some p→dD p.op=true→(j<s→ahead (eM all []) i j=false)∧(s≤j→ahead (eM all []) j i=false))
  (hown:¬(i<s∧∀j p,i<j→j<s→all[j]?=some p→dD p.op=false)):(i,s)∈Ap all:=by
 have hil:i<all.length:=(List.getElem?_eq_some_iff.1 ho).1
 unfold Ap
 simp only
 rw[List.mem_flatMap]
 refine⟨i,List.mem_range.2 hil,?_⟩
 rw[if_pos (by simp[ho,hl])]
 rw[List.mem_map]
 refine⟨s,?_,rfl⟩
 rw[List.mem_filter]
 constructor
 ·grind
 ·rw[Bool.and_eq_true]
  constructor
  ·simp only[bne_iff_ne,ne_eq]
   intro he
   exact hown (aAo rfl hil he.symm)
  ·rw[List.all_eq_true]
   intro j hj
   rw[List.mem_filter] at hj
   obtain⟨hj1,hj2⟩:=hj
   cases hp:all[j]? with
   |none=>simp[hp] at hj2
   |some p=>
    simp[hp] at hj2
    obtain⟨h1,h2⟩:=hah j p hp hj2
    split
    ·rename_i h;simp[h1 h]
    ·rename_i h;simp[h2 (by omega)]
theorem S1 {R:iG} {all:List Oper} {r0:Nat}:∀(os:List Oper) (i:Nat) (env:List Value) (h:AH) (rs:List Rec) (e:List Value) (hN:AH),fO P R all r0 i os env h=some (rs,e,hN)→rs.length=os.length
 |[],i,env,h,rs,e,hN,ht=>by
  simp only[fO,Option.some.injEq,Prod.mk.injEq] at ht
  rw[←ht.1];rfl
 |o::os,i,env,h,rs,e,hN,ht=>by
  simp only[fO] at ht
  split at ht
  ·split at ht
   ·rename_i hs
    simp only[Option.some.injEq,Prod.mk.injEq] at ht
    rw[←ht.1,List.length_cons,List.length_cons,S1 os _ _ _ _ _ _ hs]
   ·cases ht
  ·cases ht
theorem vu (C:Ctx P B K) (R:iG) (hR:zK C R):m6 C R:=by
 intro ops env h env' h' hrun ρ w b a cs k t hi hg he
 unfold oK at hrun
 split at hrun
 ·rename_i hok
  rw[Bool.and_eq_true] at hok
  obtain⟨hok,hmode⟩:=hok
  split at hrun
  ·rename_i rs e hN htext
   split at hrun
   ·rename_i hfl
    simp only[Option.some.injEq,Prod.mk.injEq] at hrun
    obtain⟨rfl,rfl⟩:=hrun
    have fit:=Wn hok
    generalize hall:ops.toList=all at fit htext hfl hok
    have hsz:ops.size=all.length:=by rw[←hall];simp
    obtain⟨E,H,V,hE0,hH0,hstep,hEn,hHn,hrs⟩:=Hb all 0 env _ rs e hN htext
    have d:Dr P R all h.next E H V:={
     step:=fun j o ho=>by have:=(hstep j o ho).1;rwa [Nat.zero_add] at this
     env:=fun j o ho=>(hstep j o ho).2
     dir:=fit.dir,kind:=fit.kind,mZ:=fit.mZ,tmps:=fit.tmps,tF:=fit.tF
     flt:=fun i s o ho hl hs hph hah hown hw=>by
      rw[List.all_eq_true] at hfl
      have:=hfl (i,s) (U6 ho hl hph hah hown)
      have hil:i<all.length:=(List.getElem?_eq_some_iff.1 ho).1
      unfold pY at this
      simp only[ho,hrs i hil,hw] at this
      have hh:eD P (cK P (E i)) (H s) o.op=some (V i):=by
       rcases Nat.lt_or_ge s all.length with h1|h1
       ·rw[hrs s h1] at this
        simp only at this
        split at this
        ·rename_i v hv
         rw[hv,D7 _ _ this]
        ·cases this
       ·have hse:s=all.length:=by omega
        rw[List.getElem?_eq_none (by rw[S1 _ _ _ _ _ _ _ htext];omega)] at this
        simp only at this
        rw[hse,hHn]
        split at this
        ·rename_i v hv
         rw[hv,D7 _ _ this]
        ·cases this
      exact hh}
    have hB:B≤w.heap.size:=hi.size
    have hi':Inv P B ρ (H 0) w:=by
     rw[hH0]
     exact {pC:=hi.pC,inj:=hi.inj,low:=hi.low,old:=hi.old,fresh:=fun i h1=>hi.fresh i (by simp at h1;omega),gJ:=fun i h1=>hi.gJ i (by simp at h1;omega),nI:=hi.nI,size:=hi.size,bn:=by have:=hi.bn;grind}
    have hget0:∀i,(H 0).get i=h.get i:=fun i=>by rw[hH0];rfl
    have r6:St P B all h.next E H V ρ h w [] 0 ρ w a.tmps.toList:={
     Bj:={ext:=Ext.refl _,inv:=hi',un:=fun _ _ h=>h,lG:=fun i _ _=>hget0 i,stay:=fun i _ h1=>by rw[hget0];exact h1,frame:=fun _ _ _=>rfl,
                   range:=fun i b s h1 h2 h3 _=>⟨i,s,h1,by grind,h3⟩,base:=by rw[hH0],tC:=fun i _=>hget0 i,size:=Nat.le_refl _,os:=rfl,out:=rfl,tape:=rfl}
     gh:=fun i h1=>by cases h1
     closed:=fun i h1=>by cases h1
     s1:=fun j o h1=>by omega
     s3:=fun j o _ _ h1=>by cases h1
     sle:=Nat.zero_le _
     env:=by rw[hE0];exact he
     nx:=by grind
     A6:=fun i o b f _ h1=>by cases h1
     tA:=fun i n t h1 h2=>by rw[hi.fresh _ (by omega)] at h2;cases h2
     lone:=fun i n t _ h1 h2=>by rw[hi.fresh _ (by omega)] at h2;cases h2
     Fo:=fun i i' n t t' _ _ h2=>by rw[hi.fresh _ (by omega)] at h2;cases h2
     Yp:=fun i _ _=>hi.fresh _ (by omega)
     rf:=fun i o _ _=>hi.fresh _ (by omega)
     rev:=fun i o b f h1=>by omega
     Xr:=fun j _ _=>by rw[hget0];exact hi.gJ _ (by omega)
     gr:=fun m hm _=>(have:m=0:=(by omega);this▸mR.refl _)}
    obtain⟨s,st1,hf1⟩:=r6.advance d hi.bn hB _ _ rfl
    have hsched:Region.schedule (P.follows .mixedOrders) ops t=Region.linearise.go .any ops ops.size t (Array.replicate ops.size false) []:=by
     unfold Region.schedule
     rw[if_pos hmode]
     rfl
    have hord:uP all [] (Region.schedule (P.follows .mixedOrders) ops t):=by
     rw[hsched,←hall]
     refine zX (by rw[hall];exact fit.dir) ops.size t _ [] (by simp) (fun i hi=>by simp[hi]) ?_
     grind
    obtain⟨D',ρ',w',a',st2,hin,hdef,hst⟩:=Gt C hR hall d hi.bn hB hi hg (b:=b) (cs:=cs) (k:=k) _ [] s ρ w a hord hf1 st1
    have hevoN:=st2.Bj
    rw[hHn] at hevoN
    have hnx:=st2.nx
    rw[hHn] at hnx
    refine⟨ρ',w',a',hevoN.Bj (by omega),?_,hdef,hst⟩
    have henv:e=vW all V (E 0) D':=by
     rw[←hEn,d.y9 _ (Nat.le_refl _)]
     refine List.ext_getElem? fun t=>K8 (fun i j h1 h2=>fit.mZ i j t h1 h2) fun j hj=>?_
     have hjl:j<all.length:=by
      cases hp:all[j]? with
      |none=>rw[hp] at hj;cases hj
      |some p=>grind
     simp[hjl,hin j hjl]
    rw[henv]
    exact st2.env
   ·cases hrun
  ·cases hrun
 ·cases hrun
theorem cr (C:Ctx P B K) (n:Nat):zK C (run P K n):=yy C (vu C) n
end Go.Ab
end
section
namespace Go.Ab
variable {P:Program} {K:FuncId→List Value→Option gX}
def iG.le (R R':iG):Prop:=∀t h r,R t h=some r→R' t h=some r
theorem uK {R R':iG} (hl:R.le R') {ev:Operand→Value} {h:AH} {op:Op} {r:Value×AH} (hr:dR P R ev h op=some r):dR P R' ev h op=some r:=by
 unfold dR at hr ⊢
 split
 ·exact hr
 ·exact hr
 ·simp only at hr ⊢
  split
  ·grind
  ·rename_i he
   simp only[he] at hr
   split
   ·rename_i hf
    simp only[hf] at hr
    split
    ·rename_i hc
     rw[if_pos hc] at hr
     simp only[Option.map_eq_some_iff] at hr ⊢
     obtain⟨x,hx,rfl⟩:=hr
     exact⟨x,hl _ _ _ hx,rfl⟩
    grind
   ·rename_i hf
    simp only[hf] at hr
    simp only[Option.map_eq_some_iff] at hr ⊢
    obtain⟨x,hx,rfl⟩:=hr
    exact⟨x,hl _ _ _ hx,rfl⟩
   grind
  grind
 grind
theorem Mp {R R':iG} (hl:R.le R') {env:List Value} {h:AH} {op:Op} {r:Value×AH} (hr:kC P R env h op=some r):kC P R' env h op=some r:=by
 unfold kC at hr ⊢
 cases hk:kindOf op<;>simp only[hk] at hr ⊢
 ·exact hr
 ·exact hr
 ·exact uK hl hr
 ·exact uK hl hr
 ·exact hr
theorem Fh {R R':iG} (hl:R.le R') {all:List Oper} {r0 i:Nat} {env:List Value} {h:AH} {o:Oper} {r:Value×AH} (hr:eQ P R all r0 i env h o=some r):eQ P R' all r0 i env h o=some r:=by
 unfold eQ at hr ⊢
 cases hw:dT ⟨all⟩ env o with
 |none=>grind
 |some b=>
  rw[hw] at hr
  cases b with
  |false=>exact hr
  |true=>
   simp only at hr ⊢
   split
   ·grind
   ·rename_i hc
    rw[if_neg hc] at hr
    split
    ·grind
    ·rename_i hc2;rw[if_neg hc2] at hr;exact uK hl hr
theorem wQ {R R':iG} (hl:R.le R') {all:List Oper} {r0:Nat}:∀(os:List Oper) {i:Nat} {env:List Value} {h:AH} {r:List Rec×List Value×AH},fO P R all r0 i os env h=some r→fO P R' all r0 i os env h=some r
 |[],_,_,_,_,hr=>hr
 |o::os,i,env,h,r,hr=>by
  simp only[fO] at hr ⊢
  split at hr
  ·rename_i v h' hs
   rw[Fh hl hs]
   simp only
   split at hr
   ·rename_i rs e ht
    rw[wQ hl os ht]
    exact hr
   ·cases hr
  ·cases hr
theorem Hp {R R':iG} (hl:R.le R') {ops:Array Oper} {env:List Value} {h:AH} {r:List Value×AH} (hr:oK P R ops env h=some r):oK P R' ops env h=some r:=by
 unfold oK at hr ⊢
 split
 ·rename_i hc
  rw[if_pos hc] at hr
  split at hr
  ·rename_i ht
   rw[wQ hl _ ht]
   exact hr
  ·cases hr
 grind
theorem dz {R R':iG} (hl:R.le R') {all:Array Oper} {rest:List Oper} {env:List Value} {h:AH} {r:Out×AH} (hr:pH P R all rest env h=some r):pH P R' all rest env h=some r:=by
 unfold pH at hr ⊢
 cases rest with
 |nil=>exact hr
 |cons o rest=>
  simp only at hr ⊢
  cases hw:dT all env o with
  |none=>grind
  |some b=>
   rw[hw] at hr
   cases b with
   |false=>exact hl _ _ _ hr
   |true=>
    simp only at hr ⊢
    split at hr
    ·rename_i v h' hs
     rw[Mp hl hs]
     exact hl _ _ _ hr
    ·cases hr
theorem Vc {R R':iG} (hl:R.le R') {f:FuncId} {args:List Value} {h:AH} {r:Out×AH} (hr:iH P K R f args h=some r):iH P K R' f args h=some r:=by
 unfold iH at hr ⊢
 split
 ·grind
 ·rename_i hk
  rw[hk] at hr
  simp only at hr
  split at hr
  ·rename_i hs
   rw[hl _ _ _ hs]
   exact hr
  ·cases hr
 ·grind
 ·rename_i hk
  rw[hk] at hr
  simp only at hr
  split at hr
  ·split at hr
   ·split at hr
    ·rename_i hs
     rw[hl _ _ _ hs]
     exact hr
    ·cases hr
   ·cases hr
  ·cases hr
theorem Q3 {R R':iG} (hl:R.le R') {l:Nat} {args:List Value} {h:AH} {r:Out×AH} (hr:lA R l args h=some r):lA R' l args h=some r:=by
 unfold lA at hr ⊢
 split at hr
 ·split at hr
  ·rename_i hc
   rw[if_pos hc]
   split at hr
   ·rename_i hs
    rw[hl _ _ _ hs]
    exact hr
   ·cases hr
  ·cases hr
 ·cases hr
theorem U2 {R R':iG} (hl:R.le R') {fn:FuncId} {ro:Option Nat} {ds:List Nat} {env:List Value} {k:List Item} {h:AH} {r:Out×AH} (hr:dO P R fn ro ds env k h=some r):dO P R' fn ro ds env k h=some r:=by
 unfold dO at hr ⊢
 split at hr
 ·exact hr
 ·rename_i c k
  split at hr
  ·exact hl _ _ _ hr
  ·exact hl _ _ _ hr
  ·exact hl _ _ _ hr
  ·split at hr
   ·exact hl _ _ _ hr
   ·cases hr
  ·exact hl _ _ _ hr
  ·exact hl _ _ _ hr
  ·exact hl _ _ _ hr
  ·split at hr
   ·exact hl _ _ _ hr
   ·exact hr
  ·exact hr
  ·split at hr
   ·rename_i hs
    rw[hl _ _ _ hs]
    exact hl _ _ _ hr
   ·cases hr
  ·split at hr
   ·rename_i hs
    rw[Hp hl hs]
    exact hl _ _ _ hr
   ·cases hr
  ·split at hr
   ·rename_i d h1 ds1 hdd
    split at hr
    ·rename_i g first captured hf
     split at hr
     ·rename_i hcal
      rw[if_pos hcal]
      split at hr
      ·rename_i hs
       rw[hl _ _ _ hs]
       simp only
       split at hr
       ·split at hr
        ·cases hr
        ·rename_i hb
         rw[if_neg hb]
         split at hr
         ·exact hl _ _ _ hr
         ·cases hr
       ·cases hr
      ·cases hr
     ·cases hr
    ·cases hr
   ·cases hr
  ·cases hr
 ·exact hl _ _ _ hr
 ·exact hl _ _ _ hr
 ·exact hl _ _ _ hr
 ·split at hr
  ·split at hr
   ·split at hr
    ·exact hl _ _ _ hr
    ·cases hr
   ·cases hr
  ·cases hr
 ·cases hr
theorem ry:∀n,(run P K n).le (run P K (n+1))
 |0,t,h,r,hr=>by simp[run] at hr
 |n+1,t,h,r,hr=>by
  have ih:=ry n
  cases t with
  |todo fn ro ds env k=>exact U2 ih hr
  |ops all rest env=>exact dz ih hr
  |call f args=>exact Vc ih hr
  |round l args=>exact Q3 ih hr
theorem jA {n m:Nat} (h:n≤m):(run P K n).le (run P K m):=by
 induction h with
 |refl=>exact fun _ _ _ h=>h
 |step _ ih=>exact fun t g r hr=>ry _ _ _ _ (ih t g r hr)
end Go.Ab
end
section
namespace Go.Ab
noncomputable section
variable {P:Program} {K:FuncId→List Value→Option gX}
def Nh (k:Nat) (a b:Value):Option Bool:=match k,a,b with
 |0,.int k m,.int k' n=>if k=k' then some (m==n) else none
 |1,.bool m,.bool n=>some (m==n)
 |2,.string m,.string n=>some (m==n)
 |_,_,_=>none
def nC:List Nat→List Value→List Value→Option Bool
 |[],[],[]=>some true
 |k::ks,x::xs,y::ys=>match Nh k x y,nC ks xs ys with
  |some a,some b=>some (a&&b)
  |_,_=>none
 |_,_,_=>none
def Jy (P:Program) (fl:TypeId→Option (List Nat)):Nat→List Field→Option (List Nat)
 |_,[]=>some []
 |o,f::fs=>if f.name="_"∨f.offset≠o then none else
  match fl f.type,Jy P fl (o+P.cellsOf f.type) fs with
  |some a,some b=>if a.length=P.cellsOf f.type then some (a++b) else none
  |_,_=>none
def Mm (P:Program):Nat→TypeId→Option (List Nat)
 |0,_=>none
 |d+1,t=>match P.underlying t with
  |some .bool=>some [1]
  |some (.int _)=>some [0]
  |some .string=>some [2]
  |some (.array n e)=>if(P.info? e).isSome then
    (match Mm P d e with
    |some l=>if l.length=P.cellsOf e then some (List.replicate n l).flatten else none
    |none=>none) else none
  |some (.struct fs)=>if P.stoodInHeld t then none else Jy P (Mm P d) 0 fs.toList
  |_=>none
theorem oW:∀{ks:List Nat} {a b:List Value} {r:Bool},nC ks a b=some r→a.length=ks.length∧b.length=ks.length
 |[],[],[],_,_=>⟨rfl,rfl⟩
 |[],[],_::_,_,h=>by simp[nC] at h
 |[],_::_,_,_,h=>by simp[nC] at h
 |_::_,[],_,_,h=>by simp[nC] at h
 |_::_,_::_,[],_,h=>by simp[nC] at h
 |k::ks,x::xs,y::ys,r,h=>by
  simp only[nC] at h
  split at h
  ·rename_i h2;have:=oW h2;simp[this]
  ·cases h
theorem Bf:∀{k1 k2:List Nat} {a b:List Value} {r:Bool},nC (k1++k2) a b=some r→∃r1 r2,nC k1 (a.take k1.length) (b.take k1.length)=some r1∧nC k2 (a.drop k1.length) (b.drop k1.length)=some r2∧r=(r1&&r2)
 |[],k2,a,b,r,h=>⟨true,r,by simp[nC],by simpa using h,by simp⟩
 |k::ks,k2,[],_,r,h=>by simp[nC] at h
 |k::ks,k2,_::_,[],r,h=>by simp[nC] at h
 |k::ks,k2,x::xs,y::ys,r,h=>by
  simp only[List.cons_append,nC] at h
  split at h
  ·rename_i r1 r2 h1 h2
   cases h
   obtain⟨s1,s2,h3,h4,rfl⟩:=Bf h2
   exact⟨r1&&s1,s2,by simp[nC,h1,h3],by simpa using h4,by rw[Bool.and_assoc]⟩
  ·cases h
def valOf (P:Program) (t:TypeId) (a:List Value):Option Value:=match iC P t with
 |some true=>some (.agg ⟨a⟩)
 |some false=>a[0]?
 |none=>none
theorem yG {t:TypeId} {xs a:List Value} {off:Nat} {v:Value} (ha:(xs.drop off).take (P.cellsOf t)=a) (hl:a.length=P.cellsOf t) (h0:0<P.cellsOf t∨off≤xs.length) (hv:valOf P t a=some v):apart P t xs off=some v:=by
 unfold valOf at hv
 unfold apart
 grind
theorem Lz {eq:TypeId→Value→Value→Option Bool} {fl:TypeId→Option (List Nat)}
  (ih:∀t ks a b r,fl t=some ks→ks.length=P.cellsOf t→nC ks a b=some r→∃x y,valOf P t a=some x∧valOf P t b=some y∧eq t x y=some r)
  {xs ys:List Value}:∀(fs:List Field) (o:Nat) (ks:List Nat) (r:Bool),o≤xs.length→o≤ys.length→Jy P fl o fs=some ks→nC ks (xs.drop o) (ys.drop o)=some r→kM P eq xs ys fs=some r
 |[],o,ks,r,_,_,hf,hc=>by
  simp only[Jy,Option.some.injEq] at hf
  subst hf
  have:=oW hc
  have e1:xs.drop o=[]:=List.eq_nil_of_length_eq_zero this.1
  have e2:ys.drop o=[]:=List.eq_nil_of_length_eq_zero this.2
  rw[e1,e2] at hc
  simpa [nC,kM] using hc
 |f::fs,o,ks,r,hox,hoy,hf,hc=>by
  simp only[Jy] at hf
  split at hf
  ·cases hf
  ·rename_i hn
   simp only[not_or,Decidable.not_not,ne_eq] at hn
   split at hf
   ·rename_i a b h1 h2
    split at hf
    ·rename_i hl
     cases hf
     obtain⟨r1,r2,h3,h4,rfl⟩:=Bf hc
     obtain⟨x,y,hx,hy,he⟩:=ih _ _ _ _ _ h1 hl h3
     have l3:=oW h3
     have lc:=oW hc
     simp only[List.length_drop,List.length_append] at lc
     have ax:apart P f.type xs f.offset=some x:=yG (by rw[hn.2,←hl]) (by rw[l3.1,hl]) (.inr (by omega)) hx
     have ay:apart P f.type ys f.offset=some y:=yG (by rw[hn.2,←hl]) (by rw[l3.2,hl]) (.inr (by omega)) hy
     simp only[kM]
     rw[if_neg hn.1,ax,ay]
     simp only[he]
     rw[List.drop_drop,List.drop_drop] at h4
     have:=Lz (xs:=xs) (ys:=ys) ih fs (o+P.cellsOf f.type) b r2 (by omega) (by omega) h2 (by rw[←hl];exact h4)
     grind
    ·cases hf
   ·cases hf
theorem Tu {eq:TypeId→Value→Value→Option Bool} {e:TypeId} {l:List Nat}
  (ih:∀a b r,nC l a b=some r→∃x y,valOf P e a=some x∧valOf P e b=some y∧eq e x y=some r) (hl:l.length=P.cellsOf e)
  {xs ys:List Value}:∀(n j:Nat) (r:Bool),j*P.cellsOf e≤xs.length→j*P.cellsOf e≤ys.length→nC (List.replicate n l).flatten (xs.drop (j*P.cellsOf e)) (ys.drop (j*P.cellsOf e))=some r→oT P eq e xs ys (List.range' j n)=some r
 |0,j,r,_,_,hc=>by
  have:=oW hc
  simp only[List.replicate_zero,List.flatten_nil,List.length_nil] at this
  have e1:xs.drop (j*P.cellsOf e)=[]:=List.eq_nil_of_length_eq_zero this.1
  have e2:ys.drop (j*P.cellsOf e)=[]:=List.eq_nil_of_length_eq_zero this.2
  rw[e1,e2] at hc
  simpa [nC,oT] using hc
 |n+1,j,r,hx0,hy0,hc=>by
  rw[List.replicate_succ,List.flatten_cons] at hc
  obtain⟨r1,r2,h3,h4,rfl⟩:=Bf hc
  obtain⟨x,y,hx,hy,he⟩:=ih _ _ _ h3
  have l3:=oW h3
  have lc:=oW hc
  simp only[List.length_drop,List.length_append] at lc
  have ax:apart P e xs (j*P.cellsOf e)=some x:=yG (by rw[←hl]) (by rw[l3.1,hl]) (.inr (by omega)) hx
  have ay:apart P e ys (j*P.cellsOf e)=some y:=yG (by rw[←hl]) (by rw[l3.2,hl]) (.inr (by omega)) hy
  simp only[List.range'_succ,oT,ax,ay,he]
  rw[List.drop_drop,List.drop_drop] at h4
  have e1:(j+1)*P.cellsOf e=j*P.cellsOf e+P.cellsOf e:=Nat.succ_mul _ _
  have:=Tu (xs:=xs) (ys:=ys) ih hl n (j+1) r2 (by omega) (by omega) (by grind)
  grind
theorem uo (d:Nat):∀(t:TypeId) (ks:List Nat) (a b:List Value) (r:Bool),Mm P d t=some ks→ks.length=P.cellsOf t→nC ks a b=some r→
  ∃x y,valOf P t a=some x∧valOf P t b=some y∧vX P d t x y=some r:=by
 induction d with
 |zero=>intro t ks a b r h;simp[Mm] at h
 |succ d ih=>
  intro t ks a b r h hk hc
  have one:∀k,ks=[k]→∃x y,a=[x]∧b=[y]∧Nh k x y=some r:=fun k hk=>by
   subst hk
   have:=oW hc
   match a,b,this with
   |[x],[y],_=>
    refine⟨x,y,rfl,rfl,?_⟩
    simp only[nC] at hc
    grind
  unfold Mm at h
  split at h
  ·rename_i hu
   obtain⟨x,y,rfl,rfl,hx⟩:=one 1 (by simpa using h.symm)
   refine⟨x,y,by simp[valOf,iC,hu],by simp[valOf,iC,hu],?_⟩
   unfold Nh at hx
   split at hx
   ·rename_i he;cases he
   ·cases hx;unfold vX;simp[hu]
   ·rename_i he;cases he
   ·cases hx
  ·rename_i k hu
   obtain⟨x,y,rfl,rfl,hx⟩:=one 0 (by simpa using h.symm)
   refine⟨x,y,by simp[valOf,iC,hu],by simp[valOf,iC,hu],?_⟩
   unfold Nh at hx
   split at hx
   ·split at hx
    ·rename_i hkk;subst hkk;cases hx;unfold vX;simp[hu]
    ·cases hx
   ·rename_i he;cases he
   ·rename_i he;cases he
   ·cases hx
  ·rename_i hu
   obtain⟨x,y,rfl,rfl,hx⟩:=one 2 (by simpa using h.symm)
   refine⟨x,y,by simp[valOf,iC,hu],by simp[valOf,iC,hu],?_⟩
   unfold Nh at hx
   split at hx
   ·rename_i he;cases he
   ·rename_i he;cases he
   ·cases hx;unfold vX;simp[hu]
   ·cases hx
  ·rename_i n e hu
   split at h
   ·rename_i hi
    split at h
    ·rename_i l hl
     split at h
     ·rename_i hle
      cases h
      refine⟨.agg ⟨a⟩,.agg ⟨b⟩,by simp[valOf,iC,hu],by simp[valOf,iC,hu],?_⟩
      unfold vX
      simp only[hu,hi,if_true]
      rw[List.range_eq_range']
      exact Tu (fun a b r hc=>ih e l a b r hl hle hc) hle n 0 r (by simp) (by simp) (by simpa using hc)
     ·cases h
    ·cases h
   ·cases h
  ·rename_i fs hu
   split at h
   ·cases h
   ·rename_i hs
    refine⟨.agg ⟨a⟩,.agg ⟨b⟩,by simp[valOf,iC,hu],by simp[valOf,iC,hu],?_⟩
    unfold vX
    simp only[hu,hs,Bool.false_eq_true,if_false]
    exact Lz (fun t ks a b r h1 h2 h3=>ih t ks a b r h1 h2 h3) fs.toList 0 ks r (by simp) (by simp) h (by simpa using hc)
  ·cases h
def P8 (op:BinOp) (r:Bool):Option Value:=match op with
 |.eql=>some (.bool r)
 |.neq=>some (.bool !r)
 |_=>none
def tJ (op:BinOp) (a b:Value):Option Value:=match a,b with
 |.int k m,.int k' n=>if k=k' then Ki op k m n else J5 op k m n
 |_,_=>none
def W2 (op:BinOp) (a b:Value):Option Value:=match a,b with
 |.string m,.string n=>uq op m n
 |_,_=>none
def Ut (op:BinOp) (a b:Value):Option Value:=match a,b with
 |.bool m,.bool n=>P8 op (m==n)
 |_,_=>none
def Qa (op:BinOp) (a b:Value):Option Value:=match a,b with
 |.pointer none,.pointer b=>P8 op b.isNone
 |.pointer (some _),.pointer none=>P8 op false
 |_,_=>none
def Nn (op:BinOp) (a b:Value):Option Value:=match a,b with
 |.slice none _ _,.slice b _ _=>P8 op b.isNone
 |.slice (some _) _ _,.slice none _ _=>P8 op false
 |_,_=>none
def T3 (op:BinOp) (a b:Value):Option Value:=match a,b with
 |.nilFunc,.nilFunc=>P8 op true
 |.nilFunc,.func _ _ _=>P8 op false
 |.func _ _ _,.nilFunc=>P8 op false
 |_,_=>none
def P6 (c:Bool) (op:BinOp) (a b:Value):Option Value:=match a,b with
 |.nilIface,.nilIface=>if c then P8 op true else none
 |.nilIface,.iface _ _=>P8 op false
 |.iface _ _,.nilIface=>P8 op false
 |_,_=>none
def Km (ks:List Nat) (op:BinOp) (a b:Value):Option Value:=match a,b with
 |.agg xs,.agg ys=>(nC ks xs.toList ys.toList).bind (P8 op)
 |_,_=>none
def F5 (P:Program) (t:TypeId):Option (List Nat):=match Mm P 10000 t with
 |some ks=>if ks.length=P.cellsOf t∧iC P t=some true∧P.eqGuardType P.depth t=false then some ks else none
 |none=>none
def Sq (P:Program) (op:BinOp) (t:TypeId) (x y:Operand) (a b:Value) (q:Value→Prop) (aZ:Option Value→(Value→Prop)→Prop):Prop:=
 match P.underlying t with
 |some (.int _)=>aZ (tJ op a b) q
 |some .string=>aZ (W2 op a b) q
 |some .bool=>aZ (Ut op a b) q
 |some (.pointer _)=>aZ (Qa op a b) q
 |some (.slice _)=>aZ (Nn op a b) q
 |some (.func _ _ _)=>aZ (T3 op a b) q
 |some (.interface _)=>aZ (P6 (isConst x||isConst y) op a b) q
 |some (.struct _)=>(match F5 P t with
  |some ks=>aZ (Km ks op a b) q
  |none=>False)
 |some (.array _ _)=>(match F5 P t with
  |some ks=>aZ (Km ks op a b) q
  |none=>False)
 |_=>False
theorem iU {op:BinOp} {t:TypeId} {x y:Operand} {a b v:Value} {r:Bool} (hi:∀k m k' n,¬(a= .int k m∧b= .int k' n)) (hs:∀m n,¬(a= .string m∧b= .string n)) (he:P8 op r=some v) (hk:Fa P t x y a b=true) (hq:vX P 10000 t a b=some r):
  M9 P op t x y a b=some v:=by
 unfold M9
 split
 ·grind
 ·grind
 ·unfold P8 at he
  grind
theorem jW {t:TypeId} {a b:Value} {r:Bool} (h:vX P (9999+1) t a b=some r):vX P 10000 t a b=some r:=h
theorem R1 {op:BinOp} {t:TypeId} {x y:Operand} {a b:Value} {q:Value→Prop} (hw:Sq P op t x y a b q fun o p=>∃v,o=some v∧p v):∃v,M9 P op t x y a b=some v∧q v:=by
 unfold Sq at hw
 split at hw
 ·obtain⟨v,h1,h2⟩:=hw
  refine⟨v,?_,h2⟩
  unfold tJ at h1
  split at h1
  ·simp only[M9];exact h1
  ·cases h1
 ·obtain⟨v,h1,h2⟩:=hw
  refine⟨v,?_,h2⟩
  unfold W2 at h1
  split at h1
  ·simp only[M9];exact h1
  ·cases h1
 ·rename_i hu
  obtain⟨v,h1,h2⟩:=hw
  refine⟨v,?_,h2⟩
  unfold Ut at h1
  split at h1
  ·exact iU (fun _ _ _ _ h=>by cases h.1) (fun _ _ h=>by cases h.1) h1 rfl (jW (by unfold vX;simp[hu]))
  ·cases h1
 ·rename_i hu
  obtain⟨v,h1,h2⟩:=hw
  refine⟨v,?_,h2⟩
  unfold Qa at h1
  split at h1
  ·exact iU (fun _ _ _ _ h=>by cases h.1) (fun _ _ h=>by cases h.1) h1 rfl (jW (by unfold vX;simp[hu]))
  ·exact iU (fun _ _ _ _ h=>by cases h.1) (fun _ _ h=>by cases h.1) h1 rfl (jW (by unfold vX;simp[hu]))
  ·cases h1
 ·rename_i hu
  obtain⟨v,h1,h2⟩:=hw
  refine⟨v,?_,h2⟩
  unfold Nn at h1
  split at h1
  ·exact iU (fun _ _ _ _ h=>by cases h.1) (fun _ _ h=>by cases h.1) h1 rfl (jW (by unfold vX;simp[hu]))
  ·exact iU (fun _ _ _ _ h=>by cases h.1) (fun _ _ h=>by cases h.1) h1 rfl (jW (by unfold vX;simp[hu]))
  ·cases h1
 ·rename_i hu
  obtain⟨v,h1,h2⟩:=hw
  refine⟨v,?_,h2⟩
  unfold T3 at h1
  split at h1
  ·exact iU (fun _ _ _ _ h=>by cases h.1) (fun _ _ h=>by cases h.1) h1 rfl (jW (by unfold vX;simp[hu]))
  ·exact iU (fun _ _ _ _ h=>by cases h.1) (fun _ _ h=>by cases h.1) h1 rfl (jW (by unfold vX;simp[hu]))
  ·exact iU (fun _ _ _ _ h=>by cases h.1) (fun _ _ h=>by cases h.1) h1 rfl (jW (by unfold vX;simp[hu]))
  ·cases h1
 ·rename_i hu
  obtain⟨v,h1,h2⟩:=hw
  refine⟨v,?_,h2⟩
  unfold P6 at h1
  split at h1
  ·split at h1
   ·rename_i hc
    exact iU (fun _ _ _ _ h=>by cases h.1) (fun _ _ h=>by cases h.1) h1 (by simpa [Fa] using hc) (jW (by unfold vX;simp[hu]))
   ·cases h1
  ·exact iU (fun _ _ _ _ h=>by cases h.1) (fun _ _ h=>by cases h.1) h1 rfl (jW (by unfold vX;simp[hu]))
  ·exact iU (fun _ _ _ _ h=>by cases h.1) (fun _ _ h=>by cases h.1) h1 rfl (jW (by unfold vX;simp[hu]))
  ·cases h1
 all_goals
  first
   |cases hw
   |split at hw
    ·rename_i ks hks
     obtain⟨v,h1,h2⟩:=hw
     refine⟨v,?_,h2⟩
     unfold Km at h1
     split at h1
     ·rename_i xs ys
      simp only[Option.bind_eq_some_iff] at h1
      obtain⟨r,hr,he⟩:=h1
      unfold F5 at hks
      split at hks
      ·rename_i ks' hk'
       split at hks
       ·rename_i hc
        cases hks
        obtain⟨x',y',hx',hy',hq⟩:=uo 10000 t _ _ _ _ hk' hc.1 hr
        simp only[valOf,hc.2.1,Option.some.injEq] at hx' hy'
        have e1:x'= .agg xs:=hx'.symm
        have e2:y'= .agg ys:=hy'.symm
        subst e1;subst e2
        exact iU (fun _ _ _ _ h=>by cases h.1) (fun _ _ h=>by cases h.1) he (by simp[Fa,hc.2.2]) hq
       ·cases hks
      ·cases hks
     ·cases h1
    ·cases hw
end
end Go.Ab
end
section
namespace Go.Ab
noncomputable section
variable {P:Program} {K:FuncId→List Value→Option gX}
def Ok (P:Program) (K:FuncId→List Value→Option gX) (t:Task) (h:AH) (Q:Out→AH→Prop):Prop:=∃n r,run P K n t h=some r∧Q r.1 r.2
def aZ {α:Type} (o:Option α) (p:α→Prop):Prop:=∃v,o=some v∧p v
def Br (v:Value) (p q:Prop):Prop:=∃b,v= .bool b∧(b=true→p)∧(b=false→q)
theorem Ok.mono {t:Task} {h:AH} {Q Q':Out→AH→Prop} (k:Ok P K t h Q) (hq:∀o h',Q o h'→Q' o h'):Ok P K t h Q':=
 let⟨n,r,h1,h2⟩:=k;⟨n,r,h1,hq _ _ h2⟩
theorem Ok.of {t:Task} {h:AH} {Q:Out→AH→Prop} {n:Nat} {o:Out} {h':AH} (hr:run P K n t h=some (o,h')) (hq:Q o h'):Ok P K t h Q:=⟨n,(o,h'),hr,hq⟩
@[simp] theorem aBu {α:Type} {v:α} {p:α→Prop}:aZ (some v) p↔p v:=⟨fun⟨_,h,k⟩=>by cases h;exact k,fun k=>⟨v,rfl,k⟩⟩
@[simp] theorem aBl {α:Type} {p:α→Prop}:aZ none p↔False:=⟨fun⟨_,h,_⟩=>(nomatch h),False.elim⟩
@[congr] theorem aBa {α:Type} {o o':Option α} {p:α→Prop} (h:o=o'):aZ o p↔aZ o' p:=by rw[h]
theorem aZ.mono {α:Type} {o:Option α} {p p':α→Prop} (h:aZ o p) (k:∀v,p v→p' v):aZ o p':=let⟨v,a,b⟩:=h;⟨v,a,k v b⟩
@[simp] theorem s9 {p q:Prop}:Br (.bool true) p q↔p:=⟨fun⟨b,h,k,_⟩=>by cases h;exact k rfl,fun k=>⟨true,rfl,fun _=>k,by simp⟩⟩
@[simp] theorem je {p q:Prop}:Br (.bool false) p q↔q:=⟨fun⟨b,h,_,k⟩=>by cases h;exact k rfl,fun k=>⟨false,rfl,by simp,fun _=>k⟩⟩
theorem Qx {b:Bool} {p q:Prop} (hp:b=true→p) (hq:b=false→q):Br (.bool b) p q:=⟨b,rfl,hp,hq⟩
@[congr] theorem aDb {v v':Value} {p q:Prop} (h:v=v'):Br v p q↔Br v' p q:=by rw[h]
def rV (c a b:Value):Option Value:=match c with
 |.bool t=>some (if t then a else b)
 |_=>none
def oM (h:AH) (p:Value):Option Value:=match p with
 |.pointer (some a)=>if a.spot.isSome then none else
  (match h.get a.block with
  |some (.cells c _ _ _)=>c[a.off]?
  |_=>none)
 |_=>none
def rI (h:AH) (n:Nat) (p:Value):Option Value:=match p with
 |.pointer (some a)=>(cF h a n).map fun l=> .agg ⟨l⟩
 |_=>none
def lF (p:Value):Option Value:=match p with
 |.pointer (some a)=>some (.pointer (some a))
 |.func (.func f) a b=>some (.func (.func f) a b)
 |.func (.yield f) a b=>some (.func (.yield f) a b)
 |_=>none
def T2 (op:UnOp) (x:Value):Option Value:=match op,x with
 |.neg,.int k n=>some (.int k (k.wrap (0 - n)))
 |.not,.bool b=>some (.bool !b)
 |_,_=>none
def nF (k:IntKind) (x:Value):Option Value:=match x with
 |.int _ n=>some (.int k (k.wrap n))
 |_=>none
def rH (x:Value):Option Value:=match x with
 |.string z=>some (.string z)
 |_=>none
def gI (n:Nat) (p:Value):Option Value:=match p with
 |.pointer (some a)=>some (.pointer (some (a.add n)))
 |_=>none
def pW (off:Nat) (x:Value):Option Value:=match x with
 |.agg cs=>cs.toList[off]?
 |_=>none
def oR (off n:Nat) (x:Value):Option Value:=match x with
 |.agg cs=>if off+n≤cs.toList.length then some (.agg ⟨(cs.toList.drop off).take n⟩) else none
 |_=>none
def mX (n sz:Nat) (x i:Value):Option Value:=match x,i with
 |.pointer (some a),.int _ i=>if 0≤i∧i<n then some (.pointer (some (a.add (i.toNat*sz)))) else none
 |_,_=>none
def jR (sz:Nat) (x i:Value):Option Value:=match x,i with
 |.slice (some a) n _,.int _ i=>if 0≤i∧i<n∧a.spot=none then some (.pointer (some (a.add (i.toNat*sz)))) else none
 |_,_=>none
def Lu (n sz:Nat) (x i:Value):Option Value:=match x,i with
 |.agg cs,.int _ i=>if 0≤i∧i<n then cs.toList[i.toNat*sz]? else none
 |_,_=>none
def Sv (n sz:Nat) (x i:Value):Option Value:=match x,i with
 |.agg cs,.int _ i=>if 0≤i∧i<n∧i.toNat*sz+sz≤cs.toList.length then some (.agg ⟨(cs.toList.drop (i.toNat*sz)).take sz⟩) else none
 |_,_=>none
def Vn (x i:Value):Option Value:=match x,i with
 |.string s,.int _ i=>if 0≤i then(s[i.toNat]?).map fun b=> .int .u8 b.toNat else none
 |_,_=>none
def pD (i:Nat) (t:Value):Option Value:=match t with
 |.tuple vs=>vs.toList[i]?
 |_=>none
def sQ (h:AH) (n:Nat) (p v:Value):Option AH:=match p with
 |.pointer (some a)=>(match hQ v with
  |some vs=>if vs.length=n then dV h a vs else none
  |none=>none)
 |_=>none
def kB (e:TypeId) (v:Value):Option kY:=(hQ v).map fun l=> .cells l e (0,0) true
def Fm (bytes:Nat) (l c:Value):Option (Nat×Nat):=match l,c with
 |.int _ l,.int _ c=>if 0≤l∧l≤c∧c≤2^40∧bytes*c≤2^47 then some (l.toNat,c.toNat) else none
 |_,_=>none
def lD (cells:List Value):List (Nat×Nat×Value)→Option (List Value)
 |[]=>some cells
 |(off,size,v)::rest=>match hQ v with
  |some vs=>if vs.length=size∧off+vs.length≤cells.length then lD (bY cells off vs) rest else none
  |none=>none
def uY (place:Nat→Option (Nat×Nat)) (ev:Operand→Value):List (Nat×Operand)→Option (List (Nat×Nat×Value))
 |[]=>some []
 |(i,x)::rest=>match place i,uY place ev rest with
  |some (off,size),some l=>some ((off,size,ev x)::l)
  |_,_=>none
theorem Cg {place:Nat→Option (Nat×Nat)} {ev:Operand→Value}:∀{parts:List (Nat×Operand)} {l:List (Nat×Nat×Value)} {cells:List Value},uY place ev parts=some l→Bn place cells (parts.map fun p=>(p.1,ev p.2))=lD cells l
 |[],l,cells,h=>by simp only[uY,Option.some.injEq] at h;subst h;rfl
 |(i,x)::rest,l,cells,h=>by
  simp only[uY] at h
  split at h
  ·rename_i off size l' h1 h2
   cases h
   simp only[List.map_cons,Bn,lD,h1]
   cases hc:hQ (ev x) with
   |none=>rfl
   |some vs=>
    simp only
    split
    ·exact Cg h2
    ·rfl
  ·cases h
def vL (sz:Nat) (h:AH) (x:Value) (lo hi mx:Option Value):Option Value:=match x with
 |.slice none len cap=>
  match jM mx cap cap with
  |some m=>match(if hi.isNone&&mx.isSome then none else jM hi len m) with
   |some hh=>match jM lo 0 hh with
    |some l=>some (.slice none (hh - l) (m - l))
    |none=>none
   |none=>none
  |none=>none
 |.slice (some a) len cap=>
  match jM mx cap cap with
  |some m=>match(if hi.isNone&&mx.isSome then none else jM hi len m) with
   |some hh=>match jM lo 0 hh with
    |some l=>
     if a.spot.isSome then(if len=0∧cap=0 then some (if mx.isSome then rG else zr) else none) else
     if hh≤m then
      (if m=l then
       if mx.isSome then some rG else
       match oI h a.block with
       |some true=>some rG
       |some false=>some (wJ (a.add (l*sz)))
       |none=>none
      else some (.slice (some (a.add (l*sz))) (hh - l) (m - l)))
     else none
    |none=>none
   |none=>none
  |none=>none
 |_=>none
def Va (n sz:Nat) (x:Value) (lo hi mx:Option Value):Option Value:=match x with
 |.pointer (some a)=>
  match jM mx n n with
  |some m=>match(if hi.isNone&&mx.isSome then none else jM hi n m) with
   |some hh=>match jM lo 0 hh with
    |some l=>if a.spot=none then some (.slice (some (if m=l then a else a.add (l*sz))) (hh - l) (m - l)) else none
    |none=>none
   |none=>none
  |none=>none
 |_=>none
def Uo (x:Value) (lo hi:Option Value):Option Value:=match x with
 |.string s=>
  match jM hi s.size s.size with
  |some hh=>match jM lo 0 hh with
   |some l=>some (.string (s.extract l hh))
   |none=>none
  |none=>none
 |_=>none
def wX (P:Program) (K:FuncId→List Value→Option gX) (f:Value) (args:List Value) (h:AH) (Q:Value→AH→Prop):Prop:=match f with
 |.func (.func g) first captured=>fK P g=true∧Ok P K (.call g (first.toList++args++captured.toList)) h fun o h'=>Q o.v h'
 |.func (.yield l) first _=>Ok P K (.round l (first.toList++args)) h fun o h'=>Q o.v h'
 |_=>False
def lkV (z:Value) (h:AH) (x ix:Value) (ok:Bool):Option Value:=match Uw h x,ix with
 |some es,.int k n=>match sV k n es 0 with
  |some (some (_,v))=>some (if ok then .tuple ⟨[v,.bool true]⟩ else v)
  |some none=>some (if ok then .tuple ⟨[z,.bool false]⟩ else z)
  |none=>none
 |_,_=>none
def iE (P:Program) (ev:Operand→Value) (h:AH) (q:Value→Prop):Op→Prop
 |.move x=>q (ev x)
 |.assign x=>q (ev x)
 |.pick c a b=>aZ (rV (ev c) (ev a) (ev b)) q
 |.build t parts=>match zeroOf P t with
  |some z=>(match P.underlying t with
   |some (.struct fs)=>if fs.all (fun f=>(P.info? f.type).isSome) then(match uY (fun i=>(fs[i]?).map fun f=>(f.offset,P.cellsOf f.type)) ev parts.toList with
    |some l=>aZ (lD z l) fun c=>q (.agg ⟨c⟩)
    |none=>False) else False
   |some (.array _ e)=>if(P.info? e).isSome then(match uY (fun i=>some (i*P.cellsOf e,P.cellsOf e)) ev parts.toList with
    |some l=>aZ (lD z l) fun c=>q (.agg ⟨c⟩)
    |none=>False) else False
   |_=>False)
  |none=>False
 |.load t a=>match iC P t with
  |some true=>aZ (rI h (P.cellsOf t) (ev a)) q
  |some false=>aZ (oM h (ev a)) q
  |none=>False
 |.nilCheck x=>aZ (lF (ev x)) q
 |.binOp op t x y _=>Sq P op t x y (ev x) (ev y) q aZ
 |.unOp op _ x=>aZ (T2 op (ev x)) q
 |.convert s d x=>match P.underlying s with
  |some .string=>(match P.underlying d with
   |some (.int k)=>aZ (nF k (ev x)) q
   |some .string=>aZ (rH (ev x)) q
   |_=>False)
  |some (.slice e)=>(match P.underlying d with
   |some .string=>(match P.underlying e with
    |some (.int .u8)=>aZ (strOf h (ev x)) q
    |_=>False)
   |_=>False)
  |some _=>(match P.underlying d with
   |some (.int k)=>aZ (nF k (ev x)) q
   |_=>False)
  |none=>False
 |.makeInterface t x=>match P.underlying t with
  |some (.interface _)=>False
  |some _=>q (.iface t (ev x))
  |none=>False
 |.makeFunc fn first captured=>match fn with
  |.func f=>q (.func (.func f) (first.map ev) (captured.map ev))
  |_=>False
 |.slice t x lo hi mx=>match P.underlying t with
  |some (.slice e)=>if(P.info? e).isSome then aZ (vL (P.cellsOf e) h (ev x) (lo.map ev) (hi.map ev) (mx.map ev)) q else False
  |some (.array n e)=>if(P.info? e).isSome then aZ (Va n (P.cellsOf e) (ev x) (lo.map ev) (hi.map ev) (mx.map ev)) q else False
  |some .string=>(match mx with
   |none=>aZ (Uo (ev x) (lo.map ev) (hi.map ev)) q
   |some _=>False)
  |_=>False
 |.fieldAddr s x f=>match P.underlying s with
  |some (.struct fs)=>(match fs[f]? with
   |some fd=>if P.cellsOf fd.type=0 then False else aZ (gI fd.offset (ev x)) q
   |none=>False)
  |_=>False
 |.field t x f=>match P.underlying t with
  |some (.struct fs)=>(match fs[f]? with
   |some fd=>(match iC P fd.type with
    |some true=>aZ (oR fd.offset (P.cellsOf fd.type) (ev x)) q
    |some false=>aZ (pW fd.offset (ev x)) q
    |none=>False)
   |none=>False)
  |_=>False
 |.indexAddr t x i=>match P.underlying t with
  |some (.array n e)=>if(P.info? e).isSome then aZ (mX n (P.cellsOf e) (ev x) (ev i)) q else False
  |some (.slice e)=>if(P.info? e).isSome then aZ (jR (P.cellsOf e) (ev x) (ev i)) q else False
  |_=>False
 |.index t x i=>match P.underlying t with
  |some (.array n e)=>if(P.info? e).isSome then(match iC P e with
   |some true=>aZ (Sv n (P.cellsOf e) (ev x) (ev i)) q
   |some false=>aZ (Lu n (P.cellsOf e) (ev x) (ev i)) q
   |none=>False) else False
  |some .string=>aZ (Vn (ev x) (ev i)) q
  |_=>False
 |.extract t i=>aZ (pD i (ev t)) q
 |.lookup t x ix ok=>match El P t with
  |some e=>(match zeroV P e with
   |some z=>aZ (lkV z h (ev x) (ev ix) ok) q
   |none=>False)
  |none=>False
 |_=>False
theorem zQ {ev:Operand→Value} {h:AH} {q:Value→Prop} {op:Op} (hw:iE P ev h q op):kindOf op= .vJ∧∃v,bL P ev h op=some v∧q v:=by
 unfold iE at hw
 split at hw
 ·exact⟨rfl,_,rfl,hw⟩
 ·exact⟨rfl,_,rfl,hw⟩
 ·obtain⟨v,h1,h2⟩:=hw;exact⟨rfl,v,h1,h2⟩
 ·refine⟨rfl,?_⟩
  split at hw
  ·rename_i z hz
   split at hw
   ·rename_i fs hu
    split at hw
    ·rename_i hall
     split at hw
     ·rename_i l hl
      obtain⟨c,h1,h2⟩:=hw
      refine⟨_,?_,h2⟩
      simp only[bL,Eg,hz,hu,hall,if_true]
      rw[Cg hl,h1];rfl
     ·cases hw
    ·cases hw
   ·rename_i e hu
    split at hw
    ·rename_i hall
     split at hw
     ·rename_i l hl
      obtain⟨c,h1,h2⟩:=hw
      refine⟨_,?_,h2⟩
      simp only[bL,Eg,hz,hu,hall,if_true]
      rw[Cg hl,h1];rfl
     ·cases hw
    ·cases hw
   ·cases hw
  ·cases hw
 ·refine⟨rfl,?_⟩
  split at hw
  ·rename_i ha
   obtain⟨v,h1,h2⟩:=hw
   refine⟨v,?_,h2⟩
   unfold rI at h1
   simp only[bL]
   split at h1
   ·rename_i he;rw[he];simp only[qV,ha];exact h1
   ·cases h1
  ·rename_i ha
   obtain⟨v,h1,h2⟩:=hw
   refine⟨v,?_,h2⟩
   unfold oM at h1
   simp only[bL]
   split at h1
   ·rename_i he;rw[he];simp only[qV,ha];exact h1
   ·cases h1
  ·cases hw
 ·obtain⟨v,h1,h2⟩:=hw;exact⟨rfl,v,h1,h2⟩
 ·obtain⟨v,h1,h2⟩:=R1 hw;exact⟨rfl,v,h1,h2⟩
 ·obtain⟨v,h1,h2⟩:=hw;exact⟨rfl,v,h1,h2⟩
 ·refine⟨rfl,?_⟩
  split at hw
  ·rename_i hs
   split at hw
   ·rename_i hd
    obtain⟨v,h1,h2⟩:=hw
    refine⟨v,?_,h2⟩
    unfold nF at h1
    split at h1
    ·rename_i he;simp only[bL,hs,hd,he];exact h1
    ·cases h1
   ·rename_i hd
    obtain⟨v,h1,h2⟩:=hw
    refine⟨v,?_,h2⟩
    unfold rH at h1
    split at h1
    ·rename_i he;simp only[bL,hs,hd,he];exact h1
    ·cases h1
   ·cases hw
  ·rename_i hs
   split at hw
   ·rename_i hd
    split at hw
    ·rename_i he
     obtain⟨v,h1,h2⟩:=hw
     refine⟨v,?_,h2⟩
     simp only[bL,hs,hd,he]
     exact h1
    ·cases hw
   ·cases hw
  ·rename_i hs
   split at hw
   ·rename_i hd
    obtain⟨v,h1,h2⟩:=hw
    refine⟨v,?_,h2⟩
    unfold nF at h1
    split at h1
    ·rename_i he;simp only[bL,hs,hd,he];exact h1
    ·cases h1
   ·cases hw
  ·cases hw
 ·refine⟨rfl,?_⟩
  split at hw
  ·cases hw
  ·rename_i t x d hn hs
   refine⟨_,?_,hw⟩
   simp only[bL]
   grind
  ·cases hw
 ·split at hw
  ·exact⟨rfl,_,rfl,hw⟩
  ·cases hw
 ·refine⟨rfl,?_⟩
  split at hw
  ·rename_i hu
   split at hw
   ·rename_i hi
    obtain⟨v,h1,h2⟩:=hw
    refine⟨v,?_,h2⟩
    unfold vL at h1
    split at h1
    ·rename_i hx;simp only[bL,hx,qH,hu,hi,if_true];exact h1
    ·rename_i hx;simp only[bL,hx,qH,hu,hi,true_and];exact h1
    ·cases h1
   ·cases hw
  ·rename_i hu
   split at hw
   ·rename_i hi
    obtain⟨v,h1,h2⟩:=hw
    refine⟨v,?_,h2⟩
    unfold Va at h1
    split at h1
    ·rename_i hx;simp only[bL,hx,qH,hu,hi,true_and];exact h1
    ·cases h1
   ·cases hw
  ·rename_i hu
   split at hw
   ·obtain⟨v,h1,h2⟩:=hw
    refine⟨v,?_,h2⟩
    unfold Uo at h1
    split at h1
    ·rename_i hx;simp only[bL,hx,qH,hu,Option.map_none,Option.isSome_none,Bool.false_eq_true,if_false];exact h1
    ·cases h1
   ·cases hw
  ·cases hw
 ·refine⟨rfl,?_⟩
  split at hw
  ·rename_i hs
   split at hw
   ·rename_i hf
    split at hw
    ·cases hw
    ·rename_i hc
     obtain⟨v,h1,h2⟩:=hw
     refine⟨v,?_,h2⟩
     unfold gI at h1
     split at h1
     ·rename_i he;simp only[bL,hs,he,hf,hc,if_false];exact h1
     ·cases h1
   ·cases hw
  ·cases hw
 ·refine⟨rfl,?_⟩
  split at hw
  ·rename_i hs
   split at hw
   ·rename_i hf
    split at hw
    ·rename_i ha
     obtain⟨v,h1,h2⟩:=hw
     refine⟨v,?_,h2⟩
     unfold oR at h1
     split at h1
     ·rename_i he;simp only[bL,hs,he,hf,apart,ha];exact h1
     ·cases h1
    ·rename_i ha
     obtain⟨v,h1,h2⟩:=hw
     refine⟨v,?_,h2⟩
     unfold pW at h1
     split at h1
     ·rename_i he;simp only[bL,hs,he,hf,apart,ha];exact h1
     ·cases h1
    ·cases hw
   ·cases hw
  ·cases hw
 ·refine⟨rfl,?_⟩
  split at hw
  ·rename_i hs
   split at hw
   ·rename_i hinf
    obtain⟨v,h1,h2⟩:=hw
    refine⟨v,?_,h2⟩
    unfold mX at h1
    split at h1
    ·rename_i he he2
     split at h1
     ·rename_i hc
      simp only[bL,hs,he,he2,hc,hinf,and_self,if_true];exact h1
     ·cases h1
    ·cases h1
   ·cases hw
  ·rename_i hs
   split at hw
   ·rename_i hinf
    obtain⟨v,h1,h2⟩:=hw
    refine⟨v,?_,h2⟩
    unfold jR at h1
    split at h1
    ·rename_i he he2
     split at h1
     ·rename_i hc
      simp only[bL,hs,he,he2,hc,hinf,and_self,if_true];exact h1
     ·cases h1
    ·cases h1
   ·cases hw
  ·cases hw
 ·refine⟨rfl,?_⟩
  split at hw
  ·rename_i hs
   split at hw
   ·rename_i hinf
    split at hw
    ·rename_i ha
     obtain⟨v,h1,h2⟩:=hw
     refine⟨v,?_,h2⟩
     unfold Sv at h1
     split at h1
     ·rename_i he he2
      split at h1
      ·rename_i hc
       have hc1:=hc.1
       have hc2:=hc.2.1
       have hc3:=hc.2.2
       simp only[bL,hs,he,he2,hc1,hc2,hinf,and_self,if_true,apart,ha,hc3];exact h1
      ·cases h1
     ·cases h1
    ·rename_i ha
     obtain⟨v,h1,h2⟩:=hw
     refine⟨v,?_,h2⟩
     unfold Lu at h1
     split at h1
     ·rename_i he he2
      split at h1
      ·rename_i hc
       simp only[bL,hs,he,he2,hc,hinf,and_self,if_true,apart,ha];exact h1
      ·cases h1
     ·cases h1
    ·cases hw
   ·cases hw
  ·rename_i hs
   obtain⟨v,h1,h2⟩:=hw
   refine⟨v,?_,h2⟩
   unfold Vn at h1
   split at h1
   ·rename_i he he2;simp only[bL,hs,he,he2];exact h1
   ·cases h1
  ·cases hw
 ·obtain⟨v,h1,h2⟩:=hw;exact⟨rfl,v,h1,h2⟩
 ·refine⟨rfl,?_⟩
  split at hw
  ·rename_i e he
   split at hw
   ·rename_i z hz
    obtain⟨v,h1,h2⟩:=hw
    refine⟨v,?_,h2⟩
    unfold lkV at h1
    simp only[bL,rR,he]
    grind
   ·cases hw
  ·cases hw
 ·cases hw
end
end Go.Ab
end
section
namespace Go.Ab
noncomputable section
variable {P:Program} {K:FuncId→List Value→Option gX}
def zH (x:Value):Option Value:=match x with
 |.string s=>some (.int .i64 s.size)
 |_=>none
def kH (x:Value):Option Value:=match x with
 |.slice _ n _=>some (.int .i64 n)
 |_=>none
def dw (h:AH) (x:Value):Option Value:=(Uw h x).map fun es=> .int .i64 es.length
def wK (x y:Value):Option Value:=match x,y with
 |.int k x,.int _ y=>some (.int k (if y<x then y else x))
 |_,_=>none
def zB (x y:Value):Option Value:=match x,y with
 |.int k x,.int _ y=>some (.int k (if y>x then y else x))
 |_,_=>none
def iO (sz bytes:Nat) (e:TypeId) (h:AH) (s x:Value):Option (Value×AH):=
 match s,sM x with
 |.slice base sLen sCap,some n=>
  match fQ h sz n x with
  |some new=>
   if !new.all eE||new.length !=n*sz then none else
   if sLen+n≤sCap then
    match base with
    |none=>if n=0 then some (s,h) else none
    |some a=>if n=0 then some (s,h) else if a.spot.isSome then none else
     (dV h (a.add (sLen*sz)) new).map fun h'=>(.slice base (sLen+n) sCap,h')
   else if(sLen+n)*(bytes+1)≤2^46 then
    match base with
    |none=>if sLen=0 then some (.slice (some ⟨h.next,0,none⟩) n n,h.alloc (.cells new e (0,0) false)) else none
    |some a=>
     if a.spot=some 1 then(if sLen=0 then some (.slice (some ⟨h.next,0,none⟩) n n,h.alloc (.cells new e (0,0) false)) else none) else
     if a.spot=some 2 then
      (match h.get a.block with
      |some (.cells c e' fz _)=>
       if e'=e∧h.base≤a.block∧fz=(0,0)∧a.off≤c.length∧sLen=0∧sCap=0 then
        some (.slice (some ⟨h.next,0,none⟩) n n,(h.set a.block none).alloc (.cells new e (0,0) false))
       else none
      |_=>none) else
     match cF h a (sLen*sz),h.get a.block with
     |some old,some (.cells c e' fz x)=>
      if !old.all eE then none else
      if x then some (.slice (some ⟨h.next,0,none⟩) (sLen+n) (sLen+n),h.alloc (.cells (old++new) e (0,0) false))
      else if e'=e∧h.base≤a.block∧fz=(0,0)∧a.off+sCap*sz≤c.length then
       some (.slice (some ⟨h.next,0,none⟩) (sLen+n) (sLen+n),(h.set a.block none).alloc (.cells (old++new) e (0,0) false))
      else none
     |_,_=>none
   else none
  |_=>none
 |_,_=>none
def copyV (sz:Nat) (h:AH) (d x:Value):Option (Value×AH):=
 match d,sM x with
 |.slice base dLen _,some m=>
   match fQ h sz (Nat.min m dLen) x with
   |some new=>match base with
    |none=>some (.int .i64 (Nat.min m dLen:Nat),h)
    |some a=>if Nat.min m dLen=0 then some (.int .i64 0,h) else(dV h a new).map fun h'=>(.int .i64 (Nat.min m dLen:Nat),h')
   |none=>none
 |_,_=>none
def iB (z:List Value) (h:AH) (x:Value):Option (Value×AH):=
 match x with
 |.slice none _ _=>some (.tuple #[],h)
 |.slice (some a) n _=>
   if n=0 then some (.tuple #[],h) else(dV h a (eB z n)).map fun h'=>(.tuple #[],h')
 |_=>none
def Lp (h:AH) (m key v:Value):Option AH:=match m,key with
 |.map (some r),.int k n=>if r<h.base then none else match h.get r with
  |some (.map es clock)=>(ui k n v es clock).map fun o=>h.set r (some o)
  |_=>none
 |_,_=>none
def Mt (h:AH) (m key:Value):Option AH:=match m,key with
 |.map (some r),.int k n=>if r<h.base then none else match h.get r with
  |some (.map es clock)=>match sV k n es 0 with
   |some (some (i,_))=>some (h.set r (some (.map (es.eraseIdx i) clock)))
   |some none=>some (h.set r (some (.map es clock)))
   |none=>none
  |_=>none
 |_,_=>none
theorem ja {h:AH} {t e:TypeId} {m key v:Value} {h':AH} (ht:El P t=some e) (hm:Lp h m key v=some h'):yD P h t m key v=some h':=by
 unfold Lp at hm
 split at hm
 ·simp only[yD,ht];exact hm
 ·cases hm
theorem ld {h:AH} {t e:TypeId} {m key:Value} {h':AH} (ht:El P t=some e) (hm:Mt h m key=some h'):C6 P h t m key=some h':=by
 unfold Mt at hm
 split at hm
 ·simp only[C6,ht];exact hm
 ·cases hm
def tU (P:Program) (h:AH) (q:Value→AH→Prop) (argTypes:Array TypeId):Builtin→List Value→Prop
 |.len,[x]=>match(argTypes[0]?).bind P.underlying with
  |some .string=>aZ (zH x) fun v=>q v h
  |some (.slice _)=>aZ (kH x) fun v=>q v h
  |some (.array n _)=>q (.int .i64 n) h
  |some (.pointer e)=>(match P.underlying e with
   |some (.array n _)=>q (.int .i64 n) h
   |_=>False)
  |some (.map _ _)=>aZ (dw h x) fun v=>q v h
  |_=>False
 |.append,[s,x]=>match(argTypes[0]?).bind P.underlying with
  |some (.slice e)=>if Gd P argTypes∧(zeroOf P e).isSome then aZ (iO (P.cellsOf e) (P.bytesOf e) e h s x) fun r=>q r.1 r.2 else False
  |_=>False
 |.copy,[d,x]=>match(argTypes[0]?).bind P.underlying with
  |some (.slice e)=>if(P.info? e).isSome then aZ (copyV (P.cellsOf e) h d x) fun r=>q r.1 r.2 else False
  |_=>False
 |.clear,[x]=>match(argTypes[0]?).bind P.underlying with
  |some (.slice e)=>(match zeroOf P e with
   |some z=>aZ (iB z h x) fun r=>q r.1 r.2
   |none=>False)
  |_=>False
 |.min,[x,y]=>aZ (wK x y) fun v=>q v h
 |.max,[x,y]=>aZ (zB x y) fun v=>q v h
 |.delete,[m,k]=>(match argTypes[0]? with
  |some t=>(match El P t with
   |some _=>aZ (Mt h m k) fun h'=>q (.tuple #[]) h'
   |none=>False)
  |none=>False)
 |_,_=>False
theorem vG {h:AH} {q:Value→AH→Prop} {at_:Array TypeId} {b:Builtin} {args:List Value} (hw:tU P h q at_ b args):∃v h',eC P h b at_ args=some (v,h')∧q v h':=by
 unfold tU at hw
 split at hw
 ·split at hw
  ·rename_i ht
   obtain⟨v,h1,h2⟩:=hw
   refine⟨v,h,?_,h2⟩
   unfold zH at h1
   split at h1
   ·simp only[eC,ht];cases h1;rfl
   ·cases h1
  ·rename_i ht
   obtain⟨v,h1,h2⟩:=hw
   refine⟨v,h,?_,h2⟩
   unfold kH at h1
   split at h1
   ·simp only[eC,ht];cases h1;rfl
   ·cases h1
  ·rename_i ht
   refine⟨_,h,?_,hw⟩
   simp only[eC,ht]
  ·rename_i ht
   split at hw
   ·rename_i ht2
    refine⟨_,h,?_,hw⟩
    simp only[eC,ht,ht2]
   ·cases hw
  ·rename_i ht
   obtain⟨v,h1,h2⟩:=hw
   refine⟨v,h,?_,h2⟩
   unfold dw at h1
   cases hm:Uw h _ with
   |none=>rw[hm] at h1;cases h1
   |some es=>rw[hm] at h1;cases h1;simp only[eC,ht,hm];rfl
  ·cases hw
 ·split at hw
  ·rename_i e ht
   split at hw
   ·rename_i hc
    obtain⟨⟨v,h'⟩,h1,h2⟩:=hw
    refine⟨v,h',?_,h2⟩
    obtain⟨z,hz⟩:=Option.isSome_iff_exists.1 hc.2
    unfold iO at h1
    split at h1
    ·rename_i hl
     simp only[eC,Gh,ht,hl,hc.1,hz,Bool.not_true,Bool.false_eq_true,if_false]
     split at h1
     ·rename_i hs
      rw[hs];exact h1
     ·cases h1
    ·cases h1
   ·cases hw
  ·cases hw
 ·split at hw
  ·rename_i e ht
   split at hw
   ·rename_i hc
    obtain⟨⟨v,h'⟩,h1,h2⟩:=hw
    refine⟨v,h',?_,h2⟩
    unfold copyV at h1
    split at h1
    ·rename_i hl
     have hn:(P.info? e).isNone=false:=by simp_all
     simp only[eC,ht,hl,hn,Bool.false_eq_true,if_false]
     exact h1
    ·cases h1
   ·cases hw
  ·cases hw
 ·split at hw
  ·rename_i e ht
   split at hw
   ·rename_i z hz
    obtain⟨⟨v,h'⟩,h1,h2⟩:=hw
    refine⟨v,h',?_,h2⟩
    unfold iB at h1
    split at h1
    ·simp only[eC,ht];exact h1
    ·simp only[eC,ht,hz];exact h1
    ·cases h1
   ·cases hw
  ·cases hw
 ·obtain⟨v,h1,h2⟩:=hw
  refine⟨v,h,?_,h2⟩
  unfold wK at h1
  split at h1
  ·simp only[eC];cases h1;rfl
  ·cases h1
 ·obtain⟨v,h1,h2⟩:=hw
  refine⟨v,h,?_,h2⟩
  unfold zB at h1
  split at h1
  ·simp only[eC];cases h1;rfl
  ·cases h1
 ·split at hw
  ·rename_i t ht
   split at hw
   ·rename_i e he
    obtain⟨h',h1,h2⟩:=hw
    exact⟨_,h',by simp only[eC,ht,ld he h1];rfl,h2⟩
   ·cases hw
  ·cases hw
 ·cases hw
def yI (P:Program) (K:FuncId→List Value→Option gX) (ev:Operand→Value) (h:AH) (q:Value→AH→Prop):Op→Prop
 |.store t a x=>if(P.info? t).isSome then aZ (sQ h (P.cellsOf t) (ev a) (ev x)) fun h'=>q undef h' else False
 |.call c=>match c.callee with
  |.builtin b=>tU P h q c.argTypes b (c.args.toList.map ev)
  |.value (.func g)=>if fK P g then Ok P K (.call g (c.args.toList.map ev)) h fun o h'=>q o.v h' else False
  |.value f=>wX P K (ev f) (c.args.toList.map ev) h q
  |.invoke _ _=>False
 |.mapUpdate t m k x=>match El P t with
  |some _=>aZ (Lp h (ev m) (ev k) (ev x)) fun h'=>q undef h'
  |none=>False
 |_=>False
theorem dt {f:Value} {args:List Value} {h:AH} {q:Value→AH→Prop} (hw:wX P K f args h q):
  ∃n v h',(match f with
   |.func (.func g) first captured=>if fK P g then(run P K n (.call g (first.toList++args++captured.toList)) h).map fun r=>(r.1.v,r.2) else none
   |.func (.yield l) first _=>(run P K n (.round l (first.toList++args)) h).map fun r=>(r.1.v,r.2)
   |_=>none)=some (v,h')∧q v h':=by
 unfold wX at hw
 split at hw
 ·obtain⟨hc,n,r,h1,h2⟩:=hw
  grind
 ·obtain⟨n,r,h1,h2⟩:=hw
  grind
 ·cases hw
theorem sK {ev:Operand→Value} (hev:∀g,ev (.func g)= .func (.func g) #[] #[]) {h:AH} {q:Value→AH→Prop} {op:Op} (hw:yI P K ev h q op):
  (kindOf op= .store∨kindOf op= .call)∧∃n v h',dR P (run P K n) ev h op=some (v,h')∧q v h':=by
 unfold yI at hw
 split at hw
 ·refine⟨.inl rfl,?_⟩
  split at hw
  ·rename_i hinf
   obtain⟨h',h1,h2⟩:=hw
   refine⟨0,undef,h',?_,h2⟩
   unfold sQ at h1
   split at h1
   ·rename_i he
    split at h1
    ·rename_i hc
     split at h1
     ·rename_i hl
      simp only[dR,he,Jh,hc,hl,hinf,and_self,if_true,h1];rfl
     ·cases h1
    ·cases h1
   ·cases h1
  ·cases hw
 ·rename_i c
  refine⟨.inr rfl,?_⟩
  split at hw
  ·rename_i hcal
   obtain⟨v,h',h1,h2⟩:=vG hw
   refine⟨0,v,h',?_,h2⟩
   simp only[dR,hcal,h1]
  ·rename_i hcal
   split at hw
   ·rename_i hc
    obtain⟨n,r,h1,h2⟩:=hw
    refine⟨n,_,_,?_,h2⟩
    simp only[dR,hcal,hev,hc,if_true]
    grind
   ·cases hw
  ·rename_i f hf hcal
   obtain⟨n,v,h',h1,h2⟩:=dt hw
   refine⟨n,v,h',?_,h2⟩
   simp only[dR,hcal]
   exact h1
  ·cases hw
 ·refine⟨.inl rfl,?_⟩
  split at hw
  ·rename_i e he
   obtain⟨h',h1,h2⟩:=hw
   exact⟨0,undef,h',by simp only[dR,ja he h1];rfl,h2⟩
  ·cases hw
 ·cases hw
def ij (l c i:Nat):Value:= .slice (some ⟨i,0,none⟩) l c
def aAc (i:Nat):Value:= .pointer (some ⟨i,0,none⟩)
def fH (i:Nat):Value:= .map (some i)
def yC (P:Program) (ev:Operand→Value) (q:kY→(Nat→Value)→Prop):Op→Prop
 |.alloc e=>match zeroOf P e with
  |some z=>q (.cells z e (0,0) true) aAc
  |none=>False
 |.box e x=>aZ (kB e (ev x)) fun b=>q b aAc
 |.buildSlice t len parts=>match P.underlying t with
  |some (.slice e)=>(match zeroOf P e with
   |some z=>if len*P.cellsOf e≤2^24 then(match uY (fun i=>some (i*P.cellsOf e,P.cellsOf e)) ev parts.toList with
    |some ps=>aZ (lD (eB z len) ps) fun l=>q (.cells l e (0,0) true) (ij len len)
    |none=>False) else False
   |none=>False)
  |_=>False
 |.makeSlice t l c=>match P.underlying t with
  |some (.slice e)=>(match zeroOf P e with
   |some z=>aZ (Fm (P.bytesOf e) (ev l) (ev c)) fun n=>q (.cells (eB z n.2) e (0,0) true) (ij n.1 n.2)
   |none=>False)
  |_=>False
 |.makeMap _t none=>q (.map [] 0) fH
 |.makeMap t (some x)=>match P.underlying t with
  |some (.map _ _)=>∃k n,ev x= .int k n∧q (.map [] 0) fH
  |_=>False
 |_=>False
theorem zM {ev:Operand→Value} {q:kY→(Nat→Value)→Prop} {op:Op} (hw:yC P ev q op):kindOf op= .alloc∧∃b f,dW P ev op=some (b,f)∧q b f:=by
 unfold yC at hw
 split at hw
 ·refine⟨rfl,?_⟩
  split at hw
  ·rename_i hz
   exact⟨_,_,by simp only[dW,hz];rfl,hw⟩
  ·cases hw
 ·refine⟨rfl,?_⟩
  obtain⟨b,h1,h2⟩:=hw
  refine⟨b,aAc,?_,h2⟩
  unfold kB at h1
  simp only[Option.map_eq_some_iff] at h1
  obtain⟨l,h1,rfl⟩:=h1
  simp only[dW,h1];rfl
 ·refine⟨rfl,?_⟩
  split at hw
  ·rename_i ht
   split at hw
   ·rename_i hz
    split at hw
    ·rename_i hc
     split at hw
     ·rename_i ps hps
      obtain⟨l,h1,h2⟩:=hw
      refine⟨_,_,?_,h2⟩
      simp only[dW,ht,hz,hc,if_true]
      rw[Cg hps,h1];rfl
     ·cases hw
    ·cases hw
   ·cases hw
  ·cases hw
 ·refine⟨rfl,?_⟩
  split at hw
  ·rename_i ht
   split at hw
   ·rename_i hz
    obtain⟨n,h1,h2⟩:=hw
    refine⟨_,_,?_,h2⟩
    unfold Fm at h1
    split at h1
    ·rename_i e1 e2
     split at h1
     ·rename_i hc
      cases h1
      simp only[dW,ht,e1,e2,hz,hc,and_self,if_true]
      rfl
     ·cases h1
    ·cases h1
   ·cases hw
  ·cases hw
 ·exact⟨rfl,_,_,rfl,hw⟩
 ·refine⟨rfl,?_⟩
  split at hw
  ·rename_i ht
   obtain⟨k,n,h1,h2⟩:=hw
   exact⟨_,_,by simp only[dW,ht,h1];rfl,h2⟩
  ·cases hw
 ·cases hw
end
end Go.Ab
end
section
namespace Go.Ab
noncomputable section
variable {P:Program} {K:FuncId→List Value→Option gX}
abbrev Kr:=List (Tmp×Option Bool)
def aEb:Option Bool→Value
 |some b=> .bool b
 |none=>undef
def Kr.drop (d:Kr) (t:Option Tmp):Kr:=match t with
 |some t=>d.filter fun x=>x.1 !=t
 |none=>d
def Kr.ok (d:Kr) (env:List Value):Prop:=∀t b,(t,b)∈d→env[t]?=some (aEb b)
def Xj (mZ:Nat→Option Tmp) (env:List Value) (dec:Kr) (g:Option (Nat×Bool)) (p:Bool→List Value→Kr→Prop):Prop:=
 match g with
 |none=>p true env dec
 |some (j,want)=>match mZ j with
  |none=>False
  |some d=>match dec.lookup d with
   |some (some b)=>p (b==want) env dec
   |some none=>p false env dec
   |none=>Br (env.getD d undef) (p (true==want) (env.set d (.bool true)) ((d,some true)::dec)) (p (false==want) (env.set d (.bool false)) ((d,some false)::dec))
def Bi (h:AH) (b:kY) (p:Nat→AH→Prop):Prop:=p h.next (h.alloc b)
def lE (h:AH) (r:Nat) (b:kY) (p:Nat→AH→Prop):Prop:=p r (h.set r (some b))
def tA (h:AH) (n:Nat) (p:Nat→AH→Prop):Prop:=p h.next {h with next:=h.next+n}
def wpOp (P:Program) (K:FuncId→List Value→Option gX) (env:List Value) (h:AH) (q:Value→AH→Prop) (op:Op):Prop:=
 match kindOf op with
 |.vJ=>iE P (cK P env) h (fun v=>q v h) op
 |.alloc=>yC P (cK P env) (fun b f=>Bi h b fun i h'=>q (f i) h') op
 |.store|.call=>yI P K (cK P env) h q op
 |.other=>False
theorem W5 {env:List Value} {h:AH} {q:Value→AH→Prop} {op:Op} (hw:wpOp P K env h q op):∃n v h',kC P (run P K n) env h op=some (v,h')∧q v h':=by
 unfold wpOp at hw
 cases hk:kindOf op with
 |vJ=>
  simp only[hk] at hw
  obtain⟨_,v,h1,h2⟩:=zQ hw
  exact⟨0,v,h,by simp only[kC,hk,h1];rfl,h2⟩
 |alloc=>
  simp only[hk] at hw
  obtain⟨_,b,f,h1,h2⟩:=zM hw
  exact⟨0,_,_,by simp only[kC,hk,h1];rfl,h2⟩
 |store=>
  simp only[hk] at hw
  obtain⟨_,n,v,h',h1,h2⟩:=sK (fun g=>rfl) hw
  exact⟨n,v,h',by simp only[kC,hk,h1],h2⟩
 |call=>
  simp only[hk] at hw
  obtain⟨_,n,v,h',h1,h2⟩:=sK (fun g=>rfl) hw
  exact⟨n,v,h',by simp only[kC,hk,h1],h2⟩
 |other=>simp only[hk] at hw
def xp (env:List Value) (d:Option Tmp):Bool:=match d with
 |some d=>decide (d<env.length)
 |none=>true
def rz (dec:Kr) (op:Op):Option Operand:=match op with
 |.pick (.tmp c) a b=>(match dec.lookup c with
  |some (some true)=>some a
  |some (some false)=>some b
  |_=>none)
 |.move x=>some x
 |.assign x=>some x
 |_=>none
def mz (dec:Kr) (x:Operand):Option Bool:=match x with
 |.const (.bool y)=>some y
 |.tmp t=>(match dec.lookup t with
  |some (some y)=>some y
  |_=>none)
 |_=>none
def Kr.put (dec:Kr) (dst:Option Tmp) (x:Operand):Kr:=match dst,mz dec x with
 |some d,some y=>(d,some y)::dec.drop (some d)
 |d,_=>dec.drop d
def Kr.skip (dec:Kr) (env:List Value) (dst:Option Tmp):Kr:=match dst with
 |some d=>if d<env.length then(d,none)::dec.drop (some d) else dec.drop (some d)
 |none=>dec
def wpOps (P:Program) (K:FuncId→List Value→Option gX) (mZ:Nat→Option Tmp):List Oper→List Value→AH→Kr→(List Value→AH→Kr→Prop)→Prop
 |[],env,h,dec,q=>q env h dec
 |o::os,env,h,dec,q=>Xj mZ env dec o.guard fun b env dec=>
  match b with
  |true=>(match rz dec o.op with
   |some x=>wpOps P K mZ os (iA env o.dst (cK P env x)) h (if xp env o.dst then dec.put o.dst x else dec.drop o.dst) q
   |none=>wpOp P K env h (fun v h'=>wpOps P K mZ os (iA env o.dst v) h' (dec.drop o.dst) q) o.op)
  |false=>wpOps P K mZ os (iA env o.dst undef) h (dec.skip env o.dst) q
def aEw (P:Program) (h:AH) (q:Value→Prop) (argTypes:Array TypeId):Builtin→List Value→Prop
 |.len,[x]=>match(argTypes[0]?).bind P.underlying with
  |some .string=>aZ (zH x) q
  |some (.slice _)=>aZ (kH x) q
  |some (.array n _)=>q (.int .i64 n)
  |some (.pointer e)=>(match P.underlying e with
   |some (.array n _)=>q (.int .i64 n)
   |_=>False)
  |some (.map _ _)=>aZ (dw h x) q
  |_=>False
 |.min,[x,y]=>aZ (wK x y) q
 |.max,[x,y]=>aZ (zB x y) q
 |_,_=>False
def aCt (P:Program) (ev:Operand→Value) (h:AH) (q:Value→Prop):Op→Prop
 |.call c=>match c.callee with
  |.builtin b=>aEw P h q c.argTypes b (c.args.toList.map ev)
  |_=>False
 |op=>iE P ev h q op
structure DR where
 env:List Value
 h:AH
 v:Value
 ran:Bool
def aBx (P:Program) (K:FuncId→List Value→Option gX) (r:Nat) (env:List Value) (h:AH) (q:Value→AH→Prop) (op:Op):Prop:=
 match fM op with
 |true=>aCt P (cK P env) h (fun v=>q v h) op
 |false=>match kindOf op with
  |.alloc=>yC P (cK P env) (fun b f=>lE h r b fun i h'=>q (f i) h') op
  |_=>yI P K (cK P env) h q op
def F8 (P:Program) (K:FuncId→List Value→Option gX) (mZ:Nat→Option Tmp):Nat→List Oper→List Value→AH→Kr→List DR→(List DR→List Value→AH→Kr→Prop)→Prop
 |_,[],env,h,dec,rs,q=>q rs env h dec
 |r,o::os,env,h,dec,rs,q=>Xj mZ env dec o.guard fun b env dec=>
  match b with
  |true=>(match rz dec o.op with
   |some x=>F8 P K mZ (r+1) os (iA env o.dst (cK P env x)) h (if xp env o.dst then dec.put o.dst x else dec.drop o.dst) (rs++[⟨env,h,cK P env x,true⟩]) q
   |none=>aBx P K r env h (fun v h'=>F8 P K mZ (r+1) os (iA env o.dst v) h' (dec.drop o.dst) (rs++[⟨env,h,v,true⟩]) q) o.op)
  |false=>F8 P K mZ (r+1) os (iA env o.dst undef) h (dec.skip env o.dst) (rs++[⟨env,h,undef,false⟩]) q
def y3 (P:Program) (all:List Oper) (rs:List DR) (hEnd:AH):List (Nat×Nat)→Prop→Prop
 |[],p=>p
 |(i,s)::fs,p=>match all[i]? with
  |some o=>(match rs[i]? with
   |some r=>(match r.ran with
    |true=>aCt P (cK P r.env) (match rs[s]? with|some q=>q.h|none=>hEnd) (fun v=>mB v r.v=true) o.op∧y3 P all rs hEnd fs p
    |false=>y3 P all rs hEnd fs p)
   |none=>False)
  |none=>False
def y0 (P:Program) (K:FuncId→List Value→Option gX) (ops:Array Oper) (env:List Value) (h:AH) (q:List Value→AH→Kr→Prop):Prop:=
 if Ec ops.toList&&(P.follows .mixedOrders|| !Region.departs ops) then
  tA h ops.size fun r h1=>F8 P K (fun j=>(ops[j]?).bind (·.dst)) r ops.toList env h1 [] [] fun rs env' h' dec=>y3 P ops.toList rs h' (Ap ops.toList) (q env' h' dec)
 else False
end
end Go.Ab
end
section
namespace Go.Ab
noncomputable section
variable {P:Program} {K:FuncId→List Value→Option gX}
section
variable {fn:FuncId} {ro:Option Nat} {ds:List Nat} {env:List Value} {k:List Item} {h:AH} {Q:Out→AH→Prop}
theorem Cz {t t':Task} {h':AH} (hs:∀n,run P K (n+1) t h=run P K n t' h') (hw:Ok P K t' h' Q):Ok P K t h Q:=by
 obtain⟨n,r,h1,h2⟩:=hw
 exact⟨n+1,r,by rw[hs];exact h1,h2⟩
theorem Nz {c:Operand} {t e:Code} (hw:Br (cK P env c) (Ok P K (.todo fn ro ds env (.code t::k)) h Q) (Ok P K (.todo fn ro ds env (.code e::k)) h Q)):
  Ok P K (.todo fn ro ds env (.code (.cond c t e)::k)) h Q:=by
 obtain⟨b,hb,ht,hf⟩:=hw
 cases b with
 |true=>exact Cz (t':= .todo fn ro ds env (.code t::k)) (fun n=>by show dO _ _ _ _ _ _ _ _=_;simp only[dO,hb,if_true]) (ht rfl)
 |false=>exact Cz (t':= .todo fn ro ds env (.code e::k)) (fun n=>by show dO _ _ _ _ _ _ _ _=_;simp[dO,hb]) (hf rfl)
end
def jI (h:AH) (l:Nat):Option AH:=match h.get l with
 |some (.loop .ready _ _ _ _ _ _ _)=>cI h l .busy none
 |_=>none
def qX (h:AH) (l:Nat):Option (Option Code×AH):=match h.get l with
 |some (.loop st p _ _ _ _ _ _)=>if st= .busy then none else(cI h l .exhausted none).map fun h'=>(p,h')
 |_=>none
def gS (h:AH) (l:Nat):Option Nat:=match h.get l with
 |some (.loop _ _ _ _ _ _ _ d)=>some d
 |_=>none
def T1 (P:Program) (K:FuncId→List Value→Option gX) (f:Value) (l:Nat) (h:AH) (q:Value→AH→Prop):Prop:=match f with
 |.func (.func g) first captured=>fK P g=true∧Ok P K (.call g (first.toList++[.func (.yield l) #[] #[]]++captured.toList)) h fun o h'=>q o.v h'
 |_=>False
def nP:Code→Option Nat
 |.region id _ _=>some id
 |.seq a b=>(match nP a with
  |some r=>some r
  |none=>nP b)
 |.block _ b=>nP b
 |.loop b=>nP b
 |.scope b=>nP b
 |_=>none
def keyOf:List Item→Option Nat
 |.code c::k=>(match nP c with
  |some r=>some r
  |none=>keyOf k)
 |.inLoop c::k=>(match nP c with
  |some r=>some r
  |none=>keyOf k)
 |_::k=>keyOf k
 |[]=>none
def gY:Code→List Nat
 |.exit id=>[id]
 |.seq a b=>gY a++gY b
 |.cond _ t e=>gY t++gY e
 |.block id b=>(gY b).filter (·!=id)
 |.loop b=>gY b
 |.scope b=>gY b
 |.rangeFunc _ _ a b=>gY a++gY b
 |_=>[]
def rM (p:Option Code) (a b:Prop) (c:List (Nat×Prop)):Prop:=match p with
 |none=>a
 |some .ret=>b
 |some (.exit id)=>(match c.lookup id with
  |some q=>q
  |none=>False)
 |_=>False
def Jv (P:Program) (K:FuncId→List Value→Option gX) (fn:FuncId) (f:Value) (n:Nat) (lv:List Nat) (vs:List Value) (ps:Array Tmp) (assign body:Code) (d:Nat) (h:AH) (q:Option Code→AH→Prop):Prop:=
 ∀e:Nat→Value,lv.map e=vs→Bi h (.loop .ready none fn ((List.range n).map e) ps assign body d) fun l h2=>T1 P K f l h2 fun _ h3=>aZ (qX h3 l) fun r=>q r.1 r.2
def Ni (L:List (Option Nat×List Nat)) (k:List Item):List Nat:=(L.lookup (keyOf k)).getD []
def kZ:Nat→List Item→List Item
 |0,k=>k
 |n+1,k=>match k with
  |.code c::k'=>(match c with
   |.skip=>kZ n k'
   |.label _=>kZ n k'
   |.seq a b=>kZ n (.code a:: .code b::k')
   |.block id b=>kZ n (.code b:: .inBlock id::k')
   |.scope b=>kZ n (.code b:: .inScope b::k')
   |.loop b=>kZ n (.code b:: .inLoop b::k')
   |.exit id=>(match exitTo id k' with
    |some k2=>kZ n k2
    |none=>k)
   |_=>k)
  |.inBlock _::k'=>kZ n k'
  |.inScope _::k'=>kZ n k'
  |.inLoop b::k'=>kZ n (.code b:: .inLoop b::k')
  |_=>k
def ye:List Item→Bool
 |[]=>true
 |.code .ret::_=>true
 |.code (.exit _)::_=>true
 |_=>false
def short (k:List Item):Bool:=match kZ 60 k with
 |.code (.region _ _ _)::k'=>ye (kZ 60 k')
 |k'=>ye k'
def Kl (P:Program) (K:FuncId→List Value→Option gX) (E:List Nat→List Value→List Item→AH→Prop) (F:tB→List Nat→List Value→AH→Prop) (L:List (Option Nat×List Nat)) (fn:FuncId) (ro:Option Nat):
  Nat→Kr→List Nat→List Value→List Item→AH→Prop
 |0,_,ds,env,k,h=>E ds env k h
 |n+1,dec,ds,env,k,h=>
  match k with
  |[]=>F .iD ds env h
  |.code c::k=>
   (match c with
   |.skip=>Kl P K E F L fn ro n dec ds env k h
   |.label _=>Kl P K E F L fn ro n dec ds env k h
   |.seq a b=>Kl P K E F L fn ro n dec ds env (.code a:: .code b::k) h
   |.cond c t e=>(match mz dec c with
    |some true=>Kl P K E F L fn ro n dec ds env (.code t::k) h
    |some false=>Kl P K E F L fn ro n dec ds env (.code e::k) h
    |none=>Br (cK P env c)
     (match short (.code t::k) with
     |true=>Kl P K E F L fn ro n dec ds env (.code t::k) h
     |false=>E ds env (kZ 60 (.code t::k)) h)
     (match short (.code e::k) with
     |true=>Kl P K E F L fn ro n dec ds env (.code e::k) h
     |false=>E ds env (kZ 60 (.code e::k)) h))
   |.block id b=>Kl P K E F L fn ro n dec ds env (.code b:: .inBlock id::k) h
   |.loop b=>E ds env (kZ 60 (.code b:: .inLoop b::k)) h
   |.scope b=>Kl P K E F L fn ro n dec ds env (.code b:: .inScope b::k) h
   |.exit id=>(match exitTo id k with
    |some k'=>Kl P K E F L fn ro n dec ds env k' h
    |none=>if ro.isSome then F (.exit id) ds env h else False)
   |.ret=>F .ret ds env h
   |.region _ ops false=>wpOps P K (fun j=>(ops[j]?).bind (·.dst)) ops.toList env h dec fun env' h' dec'=>Kl P K E F L fn ro n dec' ds env' k h'
   |.region _ ops true=>y0 P K ops env h fun env' h' dec'=>Kl P K E F L fn ro n dec' ds env' k h'
   |.rangeFunc f ps assign body=>
    (match ro with
    |none=>Bi h (.marks true) fun d h1=>Jv P K fn (cK P env f) env.length (Ni L [.code assign,.beginRound,.code body]) ((Ni L [.code assign,.beginRound,.code body]).map fun t=>env.getD t undef) ps assign body d h1 fun p h'=>
      rM p (Kl P K E F L fn ro n dec (d::ds) env k h') (Kl P K E F L fn ro n dec (d::ds) env (.code .ret::k) h') ((gY body).map fun id=>(id,Kl P K E F L fn ro n dec (d::ds) env (.code (.exit id)::k) h'))
    |some l=>aZ (gS h l) fun d=>Jv P K fn (cK P env f) env.length (Ni L [.code assign,.beginRound,.code body]) ((Ni L [.code assign,.beginRound,.code body]).map fun t=>env.getD t undef) ps assign body d h fun p h'=>
      rM p (Kl P K E F L fn ro n dec ds env k h') (Kl P K E F L fn ro n dec ds env (.code .ret::k) h') ((gY body).map fun id=>(id,Kl P K E F L fn ro n dec ds env (.code (.exit id)::k) h')))
   |_=>False)
  |.inBlock _::k=>Kl P K E F L fn ro n dec ds env k h
  |.inScope _::k=>Kl P K E F L fn ro n dec ds env k h
  |.inLoop b::k=>E ds env (kZ 60 (.code b:: .inLoop b::k)) h
  |.beginRound::k=>
   (match ro with
   |some l=>aZ (jI h l) fun h'=>Kl P K E F L fn ro n dec ds env k h'
   |none=>False)
  |_=>False
theorem Ls {env:List Value} {n:Nat} (h:env.length=n):(List.range n).map (fun t=>env.getD t undef)=env:=by
 refine List.ext_getElem? fun i=>?_
 grind
theorem Up {l:List Nat} {f:Nat→Prop} {id:Nat} {q:Prop} (h:(l.map fun i=>(i,f i)).lookup id=some q):q=f id:=by
 induction l with
 |nil=>simp at h
 |cons i l ih=>
  grind
theorem Jw {fn:FuncId} {f:Value} {env:List Value} {lv:List Nat} {ps:Array Tmp} {assign body:Code} {d:Nat} {h:AH} {q:Option Code→AH→Prop}
  (hw:Jv P K fn f env.length lv (lv.map fun t=>env.getD t undef) ps assign body d h q):
  ∃n g first captured o h3 p h4,f= .func (.func g) first captured∧fK P g=true∧run P K n (.call g (first.toList++[.func (.yield h.next) #[] #[]]++captured.toList)) (h.alloc (.loop .ready none fn env ps assign body d))=some (o,h3)∧
   qX h3 h.next=some (p,h4)∧q p h4:=by
 have:=hw (fun t=>env.getD t undef) rfl
 rw[Ls rfl] at this
 unfold Bi T1 at this
 split at this
 ·rename_i g first captured
  obtain⟨hc,n,r,h1,⟨p,h4⟩,h2,h3⟩:=this
  grind
 ·cases this
theorem Hj {fn:FuncId} {ro:Option Nat} {ds:List Nat} {env:List Value} {h:AH} {Q:Out→AH→Prop}:∀(n:Nat) {k:List Item},Ok P K (.todo fn ro ds env (kZ n k)) h Q→Ok P K (.todo fn ro ds env k) h Q
 |0,_,hw=>hw
 |n+1,k,hw=>by
  have st:∀{k':List Item},Ok P K (.todo fn ro ds env (kZ n k')) h Q→(∀m,run P K (m+1) (.todo fn ro ds env k) h=run P K m (.todo fn ro ds env k') h)→Ok P K (.todo fn ro ds env k) h Q:=
   fun hw hs=>Cz hs (Hj n hw)
  unfold kZ at hw
  split at hw
  ·split at hw
   ·exact st hw fun _=>rfl
   ·exact st hw fun _=>rfl
   ·exact st hw fun _=>rfl
   ·exact st hw fun _=>rfl
   ·exact st hw fun _=>rfl
   ·exact st hw fun _=>rfl
   ·split at hw
    ·rename_i hx
     refine st hw fun m=>?_
     show dO P (run P K m) _ _ _ _ _ _=_
     simp only[dO,hx]
    ·exact hw
   ·exact hw
  ·exact st hw fun _=>rfl
  ·exact st hw fun _=>rfl
  ·exact st hw fun _=>rfl
  ·exact hw
def V6 (P:Program) (f:FuncId) (Q:Value→AH→Prop):Out→AH→Prop:=fun o h1=>
 match o.leave with
 |.exit _=>False
 |_=>aZ (cA o.ds h1) fun h2=>aZ (eY P h2 o.env ((P.funcs[f]?).elim [] fun fn=>fn.results.toList)) fun vs=>Q (oneOf vs) h2
theorem u6 {f:FuncId} {fn:Func} {body:Code} {args:List Value} {h:AH} {Q:Value→AH→Prop} (hf:P.funcs[f]?=some fn) (hb:fn.body=some body) (hK:K f args=none)
  (hw:Ok P K (.todo f none [] (args++List.replicate (fn.ntmps - args.length) undef) [.code body]) h (V6 P f Q)):Ok P K (.call f args) h fun o h'=>Q o.v h':=by
 obtain⟨n,⟨o,g⟩,h1,h2⟩:=hw
 simp only at h2
 have key:(∀id,o.leave≠.exit id)→(aZ (cA o.ds g) fun h2=>aZ (eY P h2 o.env ((P.funcs[f]?).elim [] fun fn=>fn.results.toList)) fun vs=>Q (oneOf vs) h2)→Ok P K (.call f args) h fun o h'=>Q o.v h':=by
  intro hne ⟨h3,hc,vs,hv,hq⟩
  rw[hf] at hv
  simp only[Option.elim_some] at hv
  refine⟨n+1,(⟨.iD,[],[],oneOf vs⟩,h3),?_,hq⟩
  show iH P K (run P K n) f args h=_
  simp only[iH,hK,hf,hb]
  rw[h1]
  cases hlv:o.leave with
  |exit id=>exact absurd hlv (hne id)
  |iD=>grind
  |ret=>grind
 unfold V6 at h2
 grind
def Pt (P:Program) (K:FuncId→List Value→Option gX) (fn:FuncId) (ro:Option Nat) (Q:Out→AH→Prop) (n:Nat) (lv:List Nat) (k:List Item) (ds:List Nat) (vs:List Value) (h:AH):Prop:=
 ∀e:Nat→Value,lv.map e=vs→Ok P K (.todo fn ro ds ((List.range n).map e) k) h Q
def Oa (P:Program) (h:AH) (env:List Value):List ResultVar→(List Value→Prop)→Prop
 |[],p=>p []
 |.tmp t::rs,p=>Oa P h env rs fun l=>p (env.getD t undef::l)
 |.cell a t::rs,p=>match iC P t with
  |some true=>aZ (rI h (P.cellsOf t) (env.getD a undef)) fun v=>Oa P h env rs fun l=>p (v::l)
  |some false=>aZ (oM h (env.getD a undef)) fun v=>Oa P h env rs fun l=>p (v::l)
  |none=>False
theorem qZ {h:AH} {env:List Value}:∀{rs:List ResultVar} {p:List Value→Prop},Oa P h env rs p→∃l,eY P h env rs=some l∧p l
 |[],p,hw=>⟨[],rfl,hw⟩
 |.tmp t::rs,p,hw=>by
  obtain⟨l,h1,h2⟩:=qZ (rs:=rs) hw
  exact⟨_,by simp only[eY,h1];rfl,h2⟩
 |.cell a t::rs,p,hw=>by
  simp only[Oa] at hw
  split at hw
  ·rename_i ha
   obtain⟨v,h1,hw⟩:=hw
   obtain⟨l,h2,h3⟩:=qZ (rs:=rs) hw
   refine⟨v::l,?_,h3⟩
   unfold rI at h1
   split at h1
   ·rename_i x he
    have hl:qV P h t x=some v:=by unfold qV;rw[ha];exact h1
    simp only[eY,he,hl,h2]
   ·cases h1
  ·rename_i ha
   obtain⟨v,h1,hw⟩:=hw
   obtain⟨l,h2,h3⟩:=qZ (rs:=rs) hw
   refine⟨v::l,?_,h3⟩
   unfold oM at h1
   split at h1
   ·rename_i x he
    have hl:qV P h t x=some v:=by unfold qV;rw[ha];exact h1
    simp only[eY,he,hl,h2]
   ·cases h1
  ·cases hw
def ze (P:Program) (f:FuncId) (Q:Value→AH→Prop) (lv:tB) (ds:List Nat) (env:List Value) (h:AH):Prop:=match lv with
 |.exit _=>False
 |_=>aZ (cA ds h) fun h2=>Oa P h2 env ((P.funcs[f]?).elim [] fun fn=>fn.results.toList) fun l=>Q (oneOf l) h2
theorem U8 {f:FuncId} {Q:Value→AH→Prop} {lv:tB} {ds:List Nat} {env:List Value} {h:AH} (hw:ze P f Q lv ds env h):V6 P f Q ⟨lv,ds,env,undef⟩ h:=by
 unfold ze at hw
 unfold V6
 cases lv with
 |exit id=>exact hw
 |iD=>obtain⟨h2,hc,hw⟩:=hw;obtain⟨l,h3,h4⟩:=qZ hw;simp_all
 |ret=>obtain⟨h2,hc,hw⟩:=hw;obtain⟨l,h3,h4⟩:=qZ hw;simp_all
theorem rh {f:FuncId} {args:List Value} {v:Value} {h:AH} {Q:Value→AH→Prop} (hK:K f args=some (.val v)) (hw:Q v h):Ok P K (.call f args) h fun o h'=>Q o.v h':=
 ⟨1,(⟨.iD,[],[],v⟩,h),by show iH _ _ _ _ _ _=_;simp only[iH,hK],hw⟩
def Co (l:Nat) (Q:Value→AH→Prop):Out→AH→Prop:=fun o h1=>
 o.ds=[]∧match o.leave with
 |.iD=>aZ (cI h1 l .ready (some none)) fun h2=>Q (.bool true) h2
 |.ret=>aZ (cI h1 l .done (some (some .ret))) fun h2=>Q (.bool false) h2
 |.exit id=>aZ (cI h1 l .done (some (some (.exit id)))) fun h2=>Q (.bool false) h2
theorem nb {l:Nat} {args:List Value} {h:AH} {st:LoopState} {p:Option Code} {fn:FuncId} {tmps:List Value} {ps:Array Tmp} {assign body:Code} {d:Nat} {Q:Value→AH→Prop}
  (hg:h.get l=some (.loop st p fn tmps ps assign body d)) (hl:args.length=ps.size)
  (hw:Ok P K (.todo fn (some l) [] ((ps.toList.zip args).foldl (fun t (p,v)=>t.set p v) tmps) [.code assign,.beginRound,.code body]) h (Co l Q)):Ok P K (.round l args) h fun o h'=>Q o.v h':=by
 obtain⟨n,r,h1,h2,h3⟩:=hw
 obtain⟨o,h4⟩:=r
 simp only at h2 h3
 have key:∀o' h5,(match o.leave with
     |.iD=>(cI h4 l .ready (some none)).map fun h2=>((⟨.iD,[],[],.bool true⟩:Out),h2)
     |.ret=>(cI h4 l .done (some (some .ret))).map fun h2=>(⟨.iD,[],[],.bool false⟩,h2)
     |.exit id=>(cI h4 l .done (some (some (.exit id)))).map fun h2=>(⟨.iD,[],[],.bool false⟩,h2))=some (o',h5)→Q o'.v h5→Ok P K (.round l args) h fun o h'=>Q o.v h':=by
  intro o' h5 he hq
  refine⟨n+1,(o',h5),?_,hq⟩
  show lA (run P K n) l args h=_
  simp only[lA,hg,hl,if_true]
  grind
 split at h3
 ·rename_i hlv
  obtain⟨h5,h6,h7⟩:=h3
  grind
 ·rename_i hlv
  obtain⟨h5,h6,h7⟩:=h3
  grind
 ·rename_i hlv
  obtain⟨h5,h6,h7⟩:=h3
  grind
def Od (l:Nat) (Q:Value→AH→Prop) (lv:tB) (ds:List Nat) (_env:List Value) (h:AH):Prop:=match ds with
 |[]=>(match lv with
  |.iD=>aZ (cI h l .ready (some none)) fun h2=>Q (.bool true) h2
  |.ret=>aZ (cI h l .done (some (some .ret))) fun h2=>Q (.bool false) h2
  |.exit id=>aZ (cI h l .done (some (some (.exit id)))) fun h2=>Q (.bool false) h2)
 |_=>False
theorem Nv {l:Nat} {Q:Value→AH→Prop} {lv:tB} {ds:List Nat} {env:List Value} {h:AH} (hw:Od l Q lv ds env h):Co l Q ⟨lv,ds,env,undef⟩ h:=by
 unfold Od at hw
 cases ds with
 |nil=>refine⟨rfl,?_⟩;cases lv<;>exact hw
 |cons d ds=>exact hw.elim
end
end Go.Ab
end
section
namespace Go.Ab
noncomputable section
open Go.RowKit
variable {P:Program} {K:FuncId→List Value→Option gX}
def start (base:Nat) (old:Nat→Option kY):AH:={base:=base,next:=base,old:=old,new:= .lf}
theorem tT {base:Nat} {old:Nat→Option kY} (i:Nat):(start base old).get i=if i<base then old i else none:=by
 rw[AH.get_eq];unfold start
 split
 ·rfl
 ·cases i - base<;>rfl
structure Reads (P:Program) (base:Nat) (old:Nat→Option kY) (ρ:gP) (w:World):Prop where
 pC:∀i o,i<base→old i=some o→∀b s,ρ i=some (b,s)→∃o',w.heap[b]?=some o'∧rN P ρ s o o'
 low:∀i b s,i<base→ρ i=some (b,s)→b<w.heap.size
 none:∀i,base≤i→ρ i=none
 nI:∀g,g<P.globals.size→ρ g=some (g,(0,0))
theorem Reads.inv {base:Nat} {old:Nat→Option kY} {ρ:gP} {w:World} (r:Reads P base old ρ w):Inv P w.heap.size ρ (start base old) w where
 pC:=fun i o hg b s hr=>by
  rw[tT] at hg
  split at hg
  ·rename_i hi;exact r.pC i o hi hg b s hr
  ·cases hg
 inj:=fun i j b si sj hi _ gi=>by
  rw[tT,if_neg (Nat.not_lt.2 (show base≤_ from hi))] at gi;cases gi
 low:=fun i b s hi gi=>by
  rw[tT,if_neg (Nat.not_lt.2 (show base≤_ from hi))] at gi;cases gi
 old:=fun i b s hi hr=>r.low i b s hi hr
 fresh:=fun i hi=>r.none i hi
 gJ:=fun i hi=>by rw[tT,if_neg (Nat.not_lt.2 (show base≤_ from hi))]
 nI:=r.nI
 size:=Nat.le_refl _
 bn:=Nat.le_refl _
theorem Hk {w:World} (C:Ctx P w.heap.size K) (hg:C.G w) {base:Nat} {old:Nat→Option kY} {ρ:gP} (r:Reads P base old ρ w) {f:FuncId} {args args':List Value} (ha:aT ρ args args') {Q:Out→AH→Prop}
  (hok:Ok P K (.call f args) (start base old) Q):
  Calls P f ⟨args'⟩ w fun e w'=>∃ρ' o h' v',e= .returned v'∧aD ρ' o.v v'∧Q o h'∧Inv P w.heap.size ρ' h' w'∧Below w.heap.size w w':=by
 obtain⟨n,⟨o,h'⟩,hr,hq⟩:=hok
 intro cs
 obtain⟨e,w',fr,⟨ρ',v',he,hv,hevo⟩,h1,h2,h3⟩:=cr C n (.call f args) _ o h' hr ρ w args' r.inv hg ha cs
 exact⟨e,w',fr,⟨ρ',o,h',v',he,hv,hq,hevo.inv,hevo.below r.inv⟩,h1,h2,h3⟩
def Ctx.empty (P:Program) (B:Nat):Ctx P B (fun _ _=>none) where
 G:=fun _=>True
 Dj:=fun _ _ _ _=>trivial
 call:=fun _ _ _ _ h=>by cases h
 fwd:=fun _ _ _ _ h=>by cases h
 host:=fun _ _ _ h=>by cases h
def fc (K:FuncId→List Value→Option gX) (f0:FuncId) (v0:Value):FuncId→List Value→Option gX:=fun f args=>if f=f0∧args.isEmpty=true then some (.val v0) else K f args
def Ctx.add {B:Nat} (C:Ctx P B K) (f0:FuncId) (v0:Value) (hp:dE v0=true) (h:∀w,C.G w→Calls P f0 #[] w fun e w'=>e= .returned v0∧Below w.heap.size w w'):Ctx P B (fc K f0 v0) where
 G:=C.G
 Dj:=C.Dj
 call:=fun f args v w hk hg=>by
  unfold fc at hk
  split at hk
  ·rename_i hc
   cases hk
   obtain⟨rfl,ha⟩:=hc
   have:args=[]:=by grind
   subst this
   exact⟨rfl,(h w hg).mono fun e w' ⟨he,hb⟩=>⟨⟨v0,he,fun ρ=>gA v0 hp⟩,hb⟩⟩
  ·exact C.call f args v w hk hg
 fwd:=fun f args g bs hk=>by
  unfold fc at hk
  split at hk
  ·cases hk
  ·exact C.fwd f args g bs hk
 host:=fun f args F hk=>by
  unfold fc at hk
  split at hk
  ·cases hk
  ·exact C.host f args F hk
theorem Ua {P:Program} {f:FuncId} {args:Array Value} {v:Value} {w:World} (hp:dE v=true) (h:Calls P f args w fun e w'=>e= .returned v∧Below w.heap.size w w'):
  Calls P f args w fun e w'=>(∃v',e= .returned v'∧∀ρ,aD ρ v v')∧Below w.heap.size w w':=
 h.mono fun _ _ ⟨he,hb⟩=>⟨⟨v,he,fun _=>gA v hp⟩,hb⟩
theorem Qn {f:FuncId} {n:Nat} {v:Value} {base:Nat} {old:Nat→Option kY} (hv:dE v=true)
  (hr:((run P K n (.call f []) (start base old)).any fun r=>mB r.1.v v)=true) {w:World} (C:Ctx P w.heap.size K) (hg:C.G w) {ρ:gP} (r:Reads P base old ρ w):
  Calls P f #[] w fun e w'=>e= .returned v∧Below w.heap.size w w':=by
 rw[Option.any_eq_true] at hr
 obtain⟨⟨o,h'⟩,hr,he⟩:=hr
 have he:=D7 _ _ he
 have:=Hk (Q:=fun o _=>o.v=v) C hg r (args:=[]) (args':=[]) rfl ⟨n,_,hr,he⟩
 intro cs
 obtain⟨e,w',fr,⟨ρ',o',h2,v',h3,h4,h5,_,h6⟩,h7⟩:=this cs
 rw[h5] at h4
 have:=sU v v' hv h4
 grind
end
end Go.Ab
end
section
namespace Go.Ab
noncomputable section
structure En where
 n:Nat
 t:Tr Value
def En.get (e:En) (i:Nat):Value:=En.rec (motive:=fun _=>Value) (fun n t=>Bool.rec (motive:=fun _=>Value) undef (t.get undef i) (Nat.blt i n)) e
def En.opt (e:En) (i:Nat):Option Value:=En.rec (motive:=fun _=>Option Value) (fun n t=>Bool.rec (motive:=fun _=>Option Value) none (some (t.get undef i)) (Nat.blt i n)) e
def En.set (e:En) (i:Nat) (v:Value):En:=En.rec (motive:=fun _=>En) (fun n t=>Bool.rec (motive:=fun _=>En) (En.mk n t) (En.mk n (t.set undef i v)) (Nat.blt i n)) e
def En.uD (e:En):List Value:=(List.range e.n).map fun i=>e.t.get undef i
def Pn:List Value→Nat→Tr Value→Tr Value
 |[],_,t=>t
 |v::l,i,t=>Pn l (i+1) (t.set undef i v)
def En.of (l:List Value) (k:Nat):En:=⟨l.length+k,Pn l 0 .lf⟩
theorem En.H8 (e:En) (i:Nat):e.opt i=e.uD[i]?:=by
 obtain⟨n,t⟩:=e
 simp only[En.opt,En.uD]
 cases h:Nat.blt i n with
 |true=>
  have:i<n:=by simpa [Nat.blt_eq] using h
  simp[this]
 |false=>
  have:¬i<n:=by rw[←Nat.blt_eq,h];simp
  simp[this]
theorem En.get_eq (e:En) (i:Nat):e.get i=e.uD.getD i undef:=by
 rw[List.getD_eq_getElem?_getD,←En.H8]
 obtain⟨n,t⟩:=e
 simp only[En.get,En.opt]
 cases Nat.blt i n<;>rfl
theorem En.D9 (e:En) (i:Nat) (v:Value):(e.set i v).uD=e.uD.set i v:=by
 apply List.ext_getElem?
 intro j
 rw[List.getElem?_set,←En.H8,←En.H8]
 obtain⟨n,t⟩:=e
 have hl:(En.uD ⟨n,t⟩).length=n:=by simp[En.uD]
 rw[hl]
 simp only[En.set]
 cases h:Nat.blt i n with
 |true=>
  have hi:i<n:=by simpa [Nat.blt_eq] using h
  simp only[En.opt,Tr.gU]
  by_cases e1:i=j
  ·subst e1;simp[h,hi]
  ·simp[e1,Ne.symm e1]
 |false=>
  have hi:¬i<n:=by rw[←Nat.blt_eq,h];simp
  by_cases e1:i=j
  ·subst e1;simp[En.opt,h,hi]
  ·simp[e1]
theorem Ic:∀(l:List Value) (i:Nat) (t:Tr Value) (m:Nat),(Pn l i t).get undef m=if i≤m∧m<i+l.length then l.getD (m - i) undef else t.get undef m
 |[],i,t,m=>by
  rw[if_neg (by simp)];rfl
 |v::l,i,t,m=>by
  simp only[Pn]
  rw[Ic l (i+1) _ m,Tr.gU]
  simp only[List.length_cons]
  by_cases h1:m=i
  ·subst h1
   rw[if_neg (by omega),if_pos rfl,if_pos (by omega)]
   simp
  ·rw[if_neg h1]
   by_cases h2:i+1≤m∧m<i+1+l.length
   ·rw[if_pos h2,if_pos (by omega),show m - i=(m - (i+1))+1 by omega]
    simp
   ·rw[if_neg h2,if_neg (by omega)]
theorem En.of_eq (l:List Value) (k:Nat):(En.of l k).uD=l++List.replicate k undef:=by
 apply List.ext_getElem?
 intro j
 rw[←En.H8]
 unfold En.of En.opt
 simp only[Ic,Tr.H6]
 cases h:Nat.blt j (l.length+k) with
 |true=>
  have hj:j<l.length+k:=by simpa [Nat.blt_eq] using h
  by_cases h1:j<l.length
  ·rw[if_pos (by omega),List.getElem?_append_left h1];simp[h1]
  ·rw[if_neg (by omega),List.getElem?_append_right (by omega),List.getElem?_replicate,if_pos (by omega)]
 |false=>
  have hj:¬j<l.length+k:=by rw[←Nat.blt_eq,h];simp
  rw[List.getElem?_eq_none (by simp;omega)]
inductive Q2 where
 |todo (fn:FuncId) (ro:Option Nat) (ds:List Nat) (env:En) (k:List Item)
 |ops (all:Array Oper) (rest:List Oper) (env:En)
 |call (f:FuncId) (args:List Value)
 |round (l:Nat) (args:List Value)
structure Kt where
 leave:tB
 ds:List Nat
 env:En
 v:Value
def W0:En:=⟨0,.lf⟩
abbrev pB:=Q2→AH→Option (Kt×AH)
def vz:Q2→Task
 |.todo fn ro ds env k=> .todo fn ro ds env.uD k
 |.ops all rest env=> .ops all rest env.uD
 |.call f args=> .call f args
 |.round l args=> .round l args
def uv (o:Kt):Out:=⟨o.leave,o.ds,o.env.uD,o.v⟩
def tN (r:Kt×AH):Out×AH:=(uv r.1,r.2)
def Dp (R':pB) (R:iG):Prop:=∀t h,R (vz t) h=(R' t h).map tN
def aEy (v:Value):Value:=if dE v then v else top
def aE2 (P:Program) (g:Nat):Value:=if g<P.globals.size then .pointer (some ⟨g,0,none⟩) else top
def aE8 (f:Nat):Value:= .func (.func f) #[] #[]
def bX (P:Program) (env:En) (x:Operand):Value:=Operand.rec (motive:=fun _=>Value) (En.get env) aEy (aE2 P) aE8 x
theorem tP (P:Program) (env:En):bX P env=cK P env.uD:=by
 funext x
 cases x<;>first|rfl|exact En.get_eq _ _
def vM (env:En) (d:Option Tmp) (v:Value):En:=Option.rec (motive:=fun _=>En) env (fun d=>env.set d v) d
theorem Io (env:En) (d:Option Tmp) (v:Value):(vM env d v).uD=iA env.uD d v:=by
 cases d
 ·rfl
 ·exact En.D9 _ _ _
def aBq (want:Bool) (x:Option Value):Option Bool:=
  match x with
  |some (.bool b)=>some (b==want)
  |some (.chan _)=>none
  |_=>some false
def tq {α:Type} (l:List α):Nat→Option α:=List.rec (motive:=fun _=>Nat→Option α) (fun _=>none) (fun a _ ih n=>Nat.rec (motive:=fun _=>Option α) (some a) (fun n _=>ih n) n) l
theorem Oq {α:Type}:∀(l:List α) (n:Nat),tq l n=l[n]?
 |[],_=>rfl
 |_::_,0=>rfl
 |a::l,n+1=>by
  show tq l n=_
  rw[Oq l n];rfl
def aA3 (all:Array Oper) (env:En) (g:Nat×Bool):Option Bool:=aBq g.2 (((tq all.toList g.1).bind (·.dst)).bind (fun d=>env.opt d))
def lI (all:Array Oper) (env:En) (o:Oper):Option Bool:=Option.rec (motive:=fun _=>Option Bool) (some true) (aA3 all env) o.guard
theorem vY (all:Array Oper) (env:En) (o:Oper):lI all env o=dT all env.uD o:=by
 unfold lI dT
 cases o.guard with
 |none=>rfl
 |some g=>
  obtain⟨j,want⟩:=g
  show aA3 all env (j,want)=_
  unfold aA3 aBq
  simp only[En.H8,Oq,Array.getElem?_toList]
  rfl
def N0 (_:Program) (ev:Operand→Value) (_:AH) (x:Operand):Option Value:=some (ev x)
def Ej (_:Program) (ev:Operand→Value) (_:AH) (x:Operand):Option Value:=some (ev x)
def Og (_:Program) (ev:Operand→Value) (_:AH) (c a b:Operand):Option Value:=match ev c with
  |.bool t=>some (if t then ev a else ev b)
  |_=>none
def Ia (P:Program) (ev:Operand→Value) (_:AH) (t:TypeId) (parts:Array (Nat×Operand)):Option Value:=Eg P t (parts.toList.map fun p=>(p.1,ev p.2))
def O9 (P:Program) (ev:Operand→Value) (h:AH) (t:TypeId) (a:Operand):Option Value:=match ev a with
  |.pointer (some a)=>qV P h t a
  |_=>none
def xZ (_:Program) (ev:Operand→Value) (_:AH) (x:Operand):Option Value:=match ev x with
  |.pointer (some a)=>some (.pointer (some a))
  |.func (.func f) a b=>some (.func (.func f) a b)
  |.func (.yield f) a b=>some (.func (.yield f) a b)
  |_=>none
def Iv (P:Program) (ev:Operand→Value) (_:AH) (op:BinOp) (t:TypeId) (x y:Operand):Option Value:=M9 P op t x y (ev x) (ev y)
def Nf (_:Program) (ev:Operand→Value) (_:AH) (op:UnOp) (x:Operand):Option Value:=match op,ev x with
  |.neg,.int k n=>some (.int k (k.wrap (0 - n)))
  |.not,.bool b=>some (.bool !b)
  |_,_=>none
def Ae (P:Program) (ev:Operand→Value) (h:AH) (s d:TypeId) (x:Operand):Option Value:=match P.underlying s,P.underlying d,ev x with
  |some _,some (.int k),.int _ n=>some (.int k (k.wrap n))
  |some .string,some .string,.string z=>some (.string z)
  |some (.slice e),some .string,v=>(match P.underlying e with
   |some (.int .u8)=>strOf h v
   |_=>none)
  |_,_,_=>none
def oB (P:Program) (ev:Operand→Value) (_:AH) (t:TypeId) (x:Operand):Option Value:=match P.underlying t with
  |some (.interface _)=>none
  |some _=>some (.iface t (ev x))
  |none=>none
def xX (_:Program) (ev:Operand→Value) (_:AH) (fn:Fn) (first captured:Array Operand):Option Value:=match fn with
  |.func f=>some (.func (.func f) (first.map ev) (captured.map ev))
  |_=>none
def H9 (P:Program) (ev:Operand→Value) (h:AH) (t:TypeId) (x:Operand) (lo hi mx:Option Operand):Option Value:=qH P h t (ev x) (lo.map ev) (hi.map ev) (mx.map ev)
def uW (P:Program) (ev:Operand→Value) (_:AH) (s:TypeId) (x:Operand) (f:Nat):Option Value:=match P.underlying s,ev x with
  |some (.struct fs),.pointer (some a)=>match fs[f]? with
   |some fd=>if P.cellsOf fd.type=0 then none else some (.pointer (some (a.add fd.offset)))
   |none=>none
  |_,_=>none
def Gu (P:Program) (ev:Operand→Value) (_:AH) (t:TypeId) (x:Operand) (f:Nat):Option Value:=match P.underlying t,ev x with
  |some (.struct fs),.agg cs=>match fs[f]? with
   |some fd=>apart P fd.type cs.toList fd.offset
   |none=>none
  |_,_=>none
def uO (P:Program) (ev:Operand→Value) (_:AH) (t:TypeId) (x i:Operand):Option Value:=match P.underlying t,ev x,ev i with
  |some (.array n e),.pointer (some a),.int _ i=>if 0≤i∧i<n∧(P.info? e).isSome then some (.pointer (some (a.add (i.toNat*P.cellsOf e)))) else none
  |some (.slice e),.slice (some a) n _,.int _ i=>if 0≤i∧i<n∧(P.info? e).isSome∧a.spot=none then some (.pointer (some (a.add (i.toNat*P.cellsOf e)))) else none
  |_,_,_=>none
def Hz (P:Program) (ev:Operand→Value) (_:AH) (t:TypeId) (x i:Operand):Option Value:=match P.underlying t,ev x,ev i with
  |some (.array n e),.agg cs,.int _ i=>if 0≤i∧i<n∧(P.info? e).isSome then apart P e cs.toList (i.toNat*P.cellsOf e) else none
  |some .string,.string s,.int _ i=>if 0≤i then(s[i.toNat]?).map fun b=> .int .u8 b.toNat else none
  |_,_,_=>none
def Ax (_:Program) (ev:Operand→Value) (_:AH) (t:Operand) (i:Nat):Option Value:=match ev t with
  |.tuple vs=>vs.toList[i]?
  |_=>none
def Ed (P:Program) (ev:Operand→Value) (h:AH) (t:TypeId) (x ix:Operand) (ok:Bool):Option Value:=rR P h t (ev x) (ev ix) ok
def Oy (P:Program) (ev:Operand→Value) (h:AH):Op→Option Value
 |.move x=>N0 P ev h x
 |.assign x=>Ej P ev h x
 |.pick c a b=>Og P ev h c a b
 |.build t parts=>Ia P ev h t parts
 |.load t a=>O9 P ev h t a
 |.nilCheck x=>xZ P ev h x
 |.binOp op t x y _=>Iv P ev h op t x y
 |.unOp op _ x=>Nf P ev h op x
 |.convert s d x=>Ae P ev h s d x
 |.makeInterface t x=>oB P ev h t x
 |.makeFunc fn first captured=>xX P ev h fn first captured
 |.slice t x lo hi mx=>H9 P ev h t x lo hi mx
 |.fieldAddr s x f=>uW P ev h s x f
 |.field t x f=>Gu P ev h t x f
 |.indexAddr t x i=>uO P ev h t x i
 |.index t x i=>Hz P ev h t x i
 |.extract t i=>Ax P ev h t i
 |.lookup t x ix ok=>Ed P ev h t x ix ok
 |_=>none
theorem G8 (P:Program) (ev:Operand→Value) (h:AH) (op:Op):Oy P ev h op=bL P ev h op:=by cases op<;>rfl
def zy (h:AH) (ds:List Nat) (ro:Option Nat):Option (Nat×AH×List Nat):=
 match ro with
 |none=>some (h.next,h.alloc (.marks true),h.next::ds)
 |some l=>match h.get l with
  |some (.loop _ _ _ _ _ _ _ d)=>some (d,h,ds)
  |_=>none
structure sy where
 env:En
 h:AH
 v:Value
def aAq (r:sy):Rec:=⟨r.env.uD,r.h,r.v⟩
def tR (P:Program) (ev:Operand→Value) (h:AH) (op:Op):Option Value:=
 match op with
 |.call c=>(match c.callee with|.builtin b=>if gR b then(eC P h b c.argTypes (c.args.toList.map ev)).map (·.1) else none|_=>none)
 |op=>Oy P ev h op
theorem Dh (P:Program) (ev:Operand→Value) (h:AH) (op:Op):tR P ev h op=eD P ev h op:=by
 cases op<;>first|exact G8 P ev h _|rfl
def gN (P:Program) (R:pB) (ev:Operand→Value) (h:AH) (op:Op):Option (Value×AH):=
 match op with
 |.store t a x=>match ev a with
  |.pointer (some a)=>(Jh P h t a (ev x)).map fun h'=>(undef,h')
  |_=>none
 |.mapUpdate t m k x=>(yD P h t (ev m) (ev k) (ev x)).map fun h'=>(undef,h')
 |.call c=>
  match c.callee with
  |.builtin b=>eC P h b c.argTypes (c.args.toList.map ev)
  |.value f=>match ev f with
   |.func (.func g) first captured=>
    if fK P g then(R (.call g (first.toList++c.args.toList.map ev++captured.toList)) h).map fun r=>(r.1.v,r.2) else none
   |.func (.yield l) first _=>(R (.round l (first.toList++c.args.toList.map ev)) h).map fun r=>(r.1.v,r.2)
   |_=>none
  |.invoke _ _=>none
 |_=>none
def jC (v:Option Value) (h:AH):Option (Value×AH):=Option.rec (motive:=fun _=>Option (Value×AH)) none (fun v=>some (v,h)) v
def jk (b:Option (kY×(Nat→Value))) (h:AH):Option (Value×AH):=b.map fun r=>(r.2 h.next,h.alloc r.1)
def rq (b:Option (kY×(Nat→Value))) (r:Nat) (h:AH):Option (Value×AH):=b.map fun x=>(x.2 r,h.set r (some x.1))
def zz (P:Program) (R:pB) (c:Call) (env:En) (h:AH):Option (Value×AH):=if fM (.call c) then jC (tR P (bX P env) h (.call c)) h else gN P R (bX P env) h (.call c)
abbrev OsF:=Program→pB→En→AH→Option (Value×AH)
abbrev DsF:=Program→pB→Nat→En→AH→Option (Value×AH)
def Bp (P:Program) (R:pB) (env:En) (h:AH) (op:Op):Option (Value×AH):=Op.rec (motive:=fun _=>OsF)
 (fun x_ P _ env h=>jC (N0 P (bX P env) h x_) h)
 (fun x_ P _ env h=>jC (Ej P (bX P env) h x_) h)
 (fun c_ a_ b_ P _ env h=>jC (Og P (bX P env) h c_ a_ b_) h)
 (fun e_ P _ env h=>jk (dW P (bX P env) (Op.alloc e_)) h)
 (fun e_ v_ P _ env h=>jk (dW P (bX P env) (Op.box e_ v_)) h)
 (fun t_ parts_ P _ env h=>jC (Ia P (bX P env) h t_ parts_) h)
 (fun t_ n_ parts_ P _ env h=>jk (dW P (bX P env) (Op.buildSlice t_ n_ parts_)) h)
 (fun _ _ _ _ _ _ _ _=>none)
 (fun t_ a_ P _ env h=>jC (O9 P (bX P env) h t_ a_) h)
 (fun t_ a_ v_ P R env h=>gN P R (bX P env) h (Op.store t_ a_ v_))
 (fun _ _ _ _ _=>none)
 (fun _ _ _ _ _=>none)
 (fun x_ P _ env h=>jC (xZ P (bX P env) h x_) h)
 (fun o_ t_ x_ y_ _ P _ env h=>jC (Iv P (bX P env) h o_ t_ x_ y_) h)
 (fun o_ _ x_ P _ env h=>jC (Nf P (bX P env) h o_ x_) h)
 (fun a_ b_ x_ P _ env h=>jC (Ae P (bX P env) h a_ b_ x_) h)
 (fun _ _ _ _ _ _=>none)
 (fun t_ x_ P _ env h=>jC (oB P (bX P env) h t_ x_) h)
 (fun f_ a_ b_ P _ env h=>jC (xX P (bX P env) h f_ a_ b_) h)
 (fun t_ r_ P _ env h=>jk (dW P (bX P env) (Op.makeMap t_ r_)) h)
 (fun _ _ _ _ _ _=>none)
 (fun t_ l_ c_ P _ env h=>jk (dW P (bX P env) (Op.makeSlice t_ l_ c_)) h)
 (fun t_ x_ l_ h_ m_ P _ env h=>jC (H9 P (bX P env) h t_ x_ l_ h_ m_) h)
 (fun t_ x_ f_ P _ env h=>jC (uW P (bX P env) h t_ x_ f_) h)
 (fun t_ x_ f_ P _ env h=>jC (Gu P (bX P env) h t_ x_ f_) h)
 (fun t_ x_ i_ P _ env h=>jC (uO P (bX P env) h t_ x_ i_) h)
 (fun t_ x_ i_ P _ env h=>jC (Hz P (bX P env) h t_ x_ i_) h)
 (fun t_ x_ i_ o_ P _ env h=>jC (Ed P (bX P env) h t_ x_ i_ o_) h)
 (fun t_ m_ k_ v_ P R env h=>gN P R (bX P env) h (Op.mapUpdate t_ m_ k_ v_))
 (fun _ _ _ _ _ _ _=>none)
 (fun _ _ _ _ _ _ _ _=>none)
 (fun _ _ _ _ _ _=>none)
 (fun _ _ _ _ _ _=>none)
 (fun _ _ _ _ _=>none)
 (fun _ _ _ _ _ _ _ _=>none)
 (fun t_ i_ P _ env h=>jC (Ax P (bX P env) h t_ i_) h)
 (fun c_ P R env h=>gN P R (bX P env) h (Op.call c_))
 (fun _ _ _ _ _=>none)
 (fun _ _ _ _ _=>none)
 (fun _ _ _ _ _=>none)
 (fun _ _ _ _ _ _=>none)
 (fun _ _ _ _ _ _ _=>none)
 (fun _ _ _ _ _ _=>none) op P R env h
def Yf (P:Program) (R:pB) (r:Nat) (env:En) (h:AH) (op:Op):Option (Value×AH):=Op.rec (motive:=fun _=>DsF)
 (fun x_ P _ _ env h=>jC (N0 P (bX P env) h x_) h)
 (fun x_ P _ _ env h=>jC (Ej P (bX P env) h x_) h)
 (fun c_ a_ b_ P _ _ env h=>jC (Og P (bX P env) h c_ a_ b_) h)
 (fun e_ P _ r env h=>rq (dW P (bX P env) (Op.alloc e_)) r h)
 (fun e_ v_ P _ r env h=>rq (dW P (bX P env) (Op.box e_ v_)) r h)
 (fun t_ parts_ P _ _ env h=>jC (Ia P (bX P env) h t_ parts_) h)
 (fun t_ n_ parts_ P _ r env h=>rq (dW P (bX P env) (Op.buildSlice t_ n_ parts_)) r h)
 (fun _ _ _ _ _ _ _ _ _=>none)
 (fun t_ a_ P _ _ env h=>jC (O9 P (bX P env) h t_ a_) h)
 (fun t_ a_ v_ P R _ env h=>gN P R (bX P env) h (Op.store t_ a_ v_))
 (fun _ _ _ _ _ _=>none)
 (fun _ _ _ _ _ _=>none)
 (fun x_ P _ _ env h=>jC (xZ P (bX P env) h x_) h)
 (fun o_ t_ x_ y_ _ P _ _ env h=>jC (Iv P (bX P env) h o_ t_ x_ y_) h)
 (fun o_ _ x_ P _ _ env h=>jC (Nf P (bX P env) h o_ x_) h)
 (fun a_ b_ x_ P _ _ env h=>jC (Ae P (bX P env) h a_ b_ x_) h)
 (fun _ _ _ _ _ _ _=>none)
 (fun t_ x_ P _ _ env h=>jC (oB P (bX P env) h t_ x_) h)
 (fun f_ a_ b_ P _ _ env h=>jC (xX P (bX P env) h f_ a_ b_) h)
 (fun t_ r_ P _ r env h=>rq (dW P (bX P env) (Op.makeMap t_ r_)) r h)
 (fun _ _ _ _ _ _ _=>none)
 (fun t_ l_ c_ P _ r env h=>rq (dW P (bX P env) (Op.makeSlice t_ l_ c_)) r h)
 (fun t_ x_ l_ h_ m_ P _ _ env h=>jC (H9 P (bX P env) h t_ x_ l_ h_ m_) h)
 (fun t_ x_ f_ P _ _ env h=>jC (uW P (bX P env) h t_ x_ f_) h)
 (fun t_ x_ f_ P _ _ env h=>jC (Gu P (bX P env) h t_ x_ f_) h)
 (fun t_ x_ i_ P _ _ env h=>jC (uO P (bX P env) h t_ x_ i_) h)
 (fun t_ x_ i_ P _ _ env h=>jC (Hz P (bX P env) h t_ x_ i_) h)
 (fun t_ x_ i_ o_ P _ _ env h=>jC (Ed P (bX P env) h t_ x_ i_ o_) h)
 (fun t_ m_ k_ v_ P R _ env h=>gN P R (bX P env) h (Op.mapUpdate t_ m_ k_ v_))
 (fun _ _ _ _ _ _ _ _=>none)
 (fun _ _ _ _ _ _ _ _ _=>none)
 (fun _ _ _ _ _ _ _=>none)
 (fun _ _ _ _ _ _ _=>none)
 (fun _ _ _ _ _ _=>none)
 (fun _ _ _ _ _ _ _ _ _=>none)
 (fun t_ i_ P _ _ env h=>jC (Ax P (bX P env) h t_ i_) h)
 (fun c_ P R _ env h=>zz P R c_ env h)
 (fun _ _ _ _ _ _=>none)
 (fun _ _ _ _ _ _=>none)
 (fun _ _ _ _ _ _=>none)
 (fun _ _ _ _ _ _ _=>none)
 (fun _ _ _ _ _ _ _ _=>none)
 (fun _ _ _ _ _ _ _=>none) op P R r env h
theorem Nw (v:Option Value) (h:AH):jC v h=v.map fun v=>(v,h):=by cases v<;>rfl
theorem Sm (P:Program) (R:pB) (env:En) (h:AH) (op:Op):Bp P R env h op=
  match kindOf op with
  |.vJ=>(Oy P (bX P env) h op).map fun v=>(v,h)
  |.alloc=>(dW P (bX P env) op).map fun r=>(r.2 h.next,h.alloc r.1)
  |.store|.call=>gN P R (bX P env) h op
  |.other=>none:=by
 cases op<;>first|rfl|exact Nw _ _
theorem Sa (P:Program) (R:pB) (r:Nat) (env:En) (h:AH) (op:Op):Yf P R r env h op=
  if fM op then(tR P (bX P env) h op).map fun v=>(v,h)
  else if kindOf op== .alloc then(dW P (bX P env) op).map fun x=>(x.2 r,h.set r (some x.1))
  else gN P R (bX P env) h op:=by
 cases op<;>first|rfl|exact Nw _ _|skip
 rename_i c
 show zz P R c env h=_
 unfold zz
 rw[Nw]
 rfl
def aF1 (P:Program) (R:pB) (r:Nat) (env:En) (h:AH) (op:Op) (w:Option Bool):Option (Value×AH):=
 Option.rec (motive:=fun _=>Option (Value×AH)) none (fun b=>Bool.rec (motive:=fun _=>Option (Value×AH)) (some (undef,h)) (Yf P R r env h op) b) w
def nQ (P:Program) (R:pB) (all:List Oper) (r0 i:Nat) (env:En) (h:AH) (o:Oper):Option (Value×AH):=aF1 P R (r0+i) env h o.op (lI ⟨all⟩ env o)
theorem Kd (P:Program) (R:pB) (all:List Oper) (r0 i:Nat) (env:En) (h:AH) (o:Oper):nQ P R all r0 i env h o=
 match lI ⟨all⟩ env o with
 |none=>none
 |some false=>some (undef,h)
 |some true=>
  if fM o.op then(tR P (bX P env) h o.op).map fun v=>(v,h)
  else if kindOf o.op== .alloc then(dW P (bX P env) o.op).map fun r=>(r.2 (r0+i),h.set (r0+i) (some r.1))
  else gN P R (bX P env) h o.op:=by
 unfold nQ
 cases lI ⟨all⟩ env o with
 |none=>rfl
 |some b=>
  cases b with
  |false=>rfl
  |true=>exact Sa ..
abbrev xv:=Option (List sy×En×AH)
def aBm (env:En) (h:AH) (v:Value) (x:xv):xv:=Option.rec (motive:=fun _=>xv) none (fun r=>some (⟨env,h,v⟩::r.1,r.2)) x
def aD9 (ih:Nat→En→AH→xv) (i:Nat) (o:Oper) (env:En) (h:AH) (x:Option (Value×AH)):xv:=Option.rec (motive:=fun _=>xv) none (fun r=>aBm env h r.1 (ih (i+1) (vM env o.dst r.1) r.2)) x
def kK (P:Program) (R:pB) (all:List Oper) (r0 i:Nat) (os:List Oper) (env:En) (h:AH):xv:=
 List.rec (motive:=fun _=>Nat→En→AH→xv) (fun _ env h=>some ([],env,h)) (fun o _ ih i env h=>aD9 ih i o env h (nQ P R all r0 i env h o)) os i env h
theorem Hv (P:Program) (R:pB) (all:List Oper) (r0 i:Nat) (o:Oper) (os:List Oper) (env:En) (h:AH):kK P R all r0 i (o::os) env h=
  match nQ P R all r0 i env h o with
  |some (v,h')=>match kK P R all r0 (i+1) os (vM env o.dst v) h' with
   |some (rs,e)=>some (⟨env,h,v⟩::rs,e)
   |none=>none
  |none=>none:=by
 show aD9 (fun i env h=>kK P R all r0 i os env h) i o env h (nQ P R all r0 i env h o)=_
 cases nQ P R all r0 i env h o with
 |none=>rfl
 |some r=>
  show aBm env h r.1 (kK P R all r0 (i+1) os (vM env o.dst r.1) r.2)=_
  cases hd:kK P R all r0 (i+1) os (vM env o.dst r.1) r.2 with
  |none=>simp only[hd];rfl
  |some q=>simp only[hd];rfl
def Ch (P:Program) (all:List Oper) (rs:List sy) (hEnd:AH) (x:Nat×Nat):Bool:=
 match all[x.1]?,rs[x.1]? with
 |some o,some r=>
  match lI ⟨all⟩ r.env o with
  |some true=>(match tR P (bX P r.env) (match rs[x.2]? with|some q=>q.h|none=>hEnd) o.op with|some v=>mB v r.v|none=>false)
  |_=>true
 |_,_=>false
def Di (P:Program) (R:pB) (ops:Array Oper) (env:En) (h:AH):Option (En×AH):=
 if Ec ops.toList&&(P.follows .mixedOrders|| !Region.departs ops) then
  match kK P R ops.toList h.next 0 ops.toList env {h with next:=h.next+ops.size} with
  |some (rs,env',h')=>if(Ap ops.toList).all (Ch P ops.toList rs h') then some (env',h') else none
  |none=>none
 else none
def qD (P:Program) (h:AH) (env:En):List ResultVar→Option (List Value)
 |[]=>some []
 |.tmp t::rs=>(qD P h env rs).map fun l=>env.get t::l
 |.cell a t::rs=>match env.get a with
  |.pointer (some a)=>match qV P h t a,qD P h env rs with
   |some v,some l=>some (v::l)
   |_,_=>none
  |_=>none
section td
variable (P:Program) (R:pB) (fn:FuncId) (ro:Option Nat) (ds:List Nat) (env:En) (k:List Item) (h:AH)
abbrev Fs:=Option (Kt×AH)
def Yo:Fs:=R (.todo fn ro ds env k) h
def aB4 (a b:Code):Fs:=R (.todo fn ro ds env (.code a:: .code b::k)) h
def Nj (c:Operand) (t e:Code):Fs:=match bX P env c with
   |.bool b=>R (.todo fn ro ds env (.code (if b then t else e)::k)) h
   |_=>none
def Yu (b:Code) (x:Item):Fs:=R (.todo fn ro ds env (.code b::x::k)) h
def Nd (id:Nat):Fs:=match exitTo id k with
   |some k'=>R (.todo fn ro ds env k') h
   |none=>if ro.isSome then some (⟨.exit id,ds,env,undef⟩,h) else none
def aAt:Fs:=some (⟨.ret,ds,env,undef⟩,h)
def s0:Fs:=some (⟨.iD,ds,env,undef⟩,h)
def Ym (x:Option (Kt×AH)):Fs:=match x with
   |some (o,h')=>R (.todo fn ro ds o.env k) h'
   |none=>none
def Uu (ops:Array Oper):Fs:=Ym R fn ro ds k (R (.ops ops ops.toList env) h)
def Qw (x:Option (En×AH)):Fs:=match x with
   |some (env',h')=>R (.todo fn ro ds env' k) h'
   |none=>none
def Px (ops:Array Oper):Fs:=Qw R fn ro ds k (Di P R ops env h)
def Hl (f:Operand) (ps:Array Tmp) (assign body:Code):Fs:=
   match zy h ds ro with
   |some (d,h1,ds1)=>
    match bX P env f with
    |.func (.func g) first captured=>
     if fK P g then
      match R (.call g (first.toList++[.func (.yield h1.next) #[] #[]]++captured.toList)) (h1.alloc (.loop .ready none fn env.uD ps assign body d)) with
      |some (_,h3)=>
       match h3.get h1.next with
       |some (.loop st p _ _ _ _ _ _)=>
        if st= .busy then none else
        match cI h3 h1.next .exhausted none with
        |some h4=>R (.todo fn ro ds1 env ((p.map Item.code).toList++k)) h4
        |none=>none
       |_=>none
      |none=>none
     else none
    |_=>none
   |none=>none
def Gy:Fs:=
  match ro with
  |some l=>match h.get l with
   |some (.loop .ready _ _ _ _ _ _ _)=>match cI h l .busy none with
    |some h'=>R (.todo fn ro ds env k) h'
    |none=>none
   |_=>none
  |none=>none
def vy:Code→Fs
  |.skip=>Yo R fn ro ds env k h
  |.label _=>Yo R fn ro ds env k h
  |.seq a b=>aB4 R fn ro ds env k h a b
  |.cond c t e=>Nj P R fn ro ds env k h c t e
  |.block id b=>Yu R fn ro ds env k h b (.inBlock id)
  |.loop b=>Yu R fn ro ds env k h b (.inLoop b)
  |.scope b=>Yu R fn ro ds env k h b (.inScope b)
  |.exit id=>Nd R fn ro ds env k h id
  |.ret=>aAt ds env h
  |.region _ ops d=>Bool.rec (motive:=fun _=>Fs) (Uu R fn ro ds env k h ops) (Px P R fn ro ds env k h ops) d
  |.rangeFunc f ps assign body=>Hl P R fn ro ds env k h f ps assign body
  |_=>none
def s5:Item→Fs
  |.code c=>vy P R fn ro ds env k h c
  |.inBlock _=>Yo R fn ro ds env k h
  |.inScope _=>Yo R fn ro ds env k h
  |.inLoop b=>Yu R fn ro ds env k h b (.inLoop b)
  |.beginRound=>Gy R fn ro ds env k h
  |_=>none
end td
def S7 (P:Program) (R:pB) (fn:FuncId) (ro:Option Nat) (ds:List Nat) (env:En) (k:List Item) (h:AH):Option (Kt×AH):=
 List.rec (motive:=fun _=>Fs) (s0 ds env h) (fun x k _=>s5 P R fn ro ds env k h x) k
section op
variable (P:Program) (R:pB) (all:Array Oper) (rest:List Oper) (env:En) (h:AH) (o:Oper)
def aBt (x:Value×AH):Fs:=R (.ops all rest (vM env o.dst x.1)) x.2
def qq:Fs:=Option.rec (motive:=fun _=>Fs) none (aBt R all rest env o) (Bp P R env h o.op)
def aD2:Fs:=R (.ops all rest (vM env o.dst undef)) h
def aDa (w:Option Bool):Fs:=Option.rec (motive:=fun _=>Fs) none (fun b=>Bool.rec (motive:=fun _=>Fs) (aD2 R all rest env h o) (qq P R all rest env h o) b) w
end op
def Ow (P:Program) (R:pB) (all:Array Oper) (rest:List Oper) (env:En) (h:AH):Option (Kt×AH):=
 match rest with
 |[]=>some (⟨.iD,[],env,undef⟩,h)
 |o::rest=>
  aDa P R all rest env h o (lI all env o)
def I4 (P:Program) (K:FuncId→List Value→Option gX) (R:pB) (f:FuncId) (args:List Value) (h:AH):Option (Kt×AH):=
 match K f args with
 |some (.val v)=>some (⟨.iD,[],W0,v⟩,h)
 |some (.fwd g bs)=>match R (.call g bs) h with
  |some (o,h1)=>if Iw o.v then some (⟨.iD,[],W0,o.v⟩,h1) else none
  |none=>none
 |some (.host F)=>(F h).map fun r=>(⟨.iD,[],W0,r.1⟩,r.2)
 |none=>
  match tq P.funcs.toList f with
  |some fn=>
   match fn.body with
   |some body=>
    match R (.todo f none [] (En.of args (fn.ntmps - args.length)) [.code body]) h with
    |some (o,h1)=>
     match o.leave with
     |.exit _=>none
     |_=>match cA o.ds h1 with
      |some h2=>(qD P h2 o.env fn.results.toList).map fun vs=>(⟨.iD,[],W0,oneOf vs⟩,h2)
      |none=>none
    |none=>none
   |none=>none
  |none=>none
def Eh (R:pB) (l:Nat) (args:List Value) (h:AH):Option (Kt×AH):=
 match h.get l with
 |some (.loop _ _ fn tmps ps assign body _)=>
  if args.length=ps.size then
   match R (.todo fn (some l) [] (En.of ((ps.toList.zip args).foldl (fun t (p,v)=>t.set p v) tmps) 0) [.code assign,.beginRound,.code body]) h with
   |some (o,h1)=>
    if o.ds.isEmpty then
     match o.leave with
     |.iD=>(cI h1 l .ready (some none)).map fun h2=>(⟨.iD,[],W0,.bool true⟩,h2)
     |.ret=>(cI h1 l .done (some (some .ret))).map fun h2=>(⟨.iD,[],W0,.bool false⟩,h2)
     |.exit id=>(cI h1 l .done (some (some (.exit id)))).map fun h2=>(⟨.iD,[],W0,.bool false⟩,h2)
    else none
   |none=>none
  else none
 |_=>none
def aCq (P:Program) (K:FuncId→List Value→Option gX) (R:pB) (t:Q2) (h:AH):Option (Kt×AH):=
 Q2.rec (motive:=fun _=>Fs) (fun fn ro ds env k=>S7 P R fn ro ds env k h) (fun all rest env=>Ow P R all rest env h) (fun f args=>I4 P K R f args h) (fun l args=>Eh R l args h) t
def Vf (P:Program) (K:FuncId→List Value→Option gX) (n:Nat):pB:=
 Nat.rec (motive:=fun _=>pB) (fun _ _=>none) (fun _ R=>aCq P K R) n
section same
variable {P:Program} {K:FuncId→List Value→Option gX} {R':pB} {R:iG}
theorem Dp.val (hR:Dp R' R) (t:Q2) (h:AH):(R' t h).map (fun r=>(r.1.v,r.2))=(R (vz t) h).map fun r=>(r.1.v,r.2):=by
 rw[hR t h,Option.map_map];rfl
theorem zN (hR:Dp R' R) (ev:Operand→Value) (h:AH) (op:Op):gN P R' ev h op=dR P R ev h op:=by
 have h1:∀g l,(R' (.call g l) h).map (fun r=>(r.1.v,r.2))=(R (.call g l) h).map fun r=>(r.1.v,r.2):=fun g l=>hR.val _ _
 have h2:∀g l,(R' (.round g l) h).map (fun r=>(r.1.v,r.2))=(R (.round g l) h).map fun r=>(r.1.v,r.2):=fun g l=>hR.val _ _
 unfold gN dR
 simp only[h1,h2]
 rfl
theorem U0 (hR:Dp R' R) (env:En) (h:AH) (op:Op):Bp P R' env h op=kC P R env.uD h op:=by
 rw[Sm]
 unfold kC
 simp only[tP,G8,zN hR]
 rfl
theorem Pp (hR:Dp R' R) (all:List Oper) (r0 i:Nat) (env:En) (h:AH) (o:Oper):nQ P R' all r0 i env h o=eQ P R all r0 i env.uD h o:=by
 rw[Kd]
 unfold eQ
 simp only[vY,tP,Dh,zN hR]
 rfl
theorem Bl (hR:Dp R' R) (all:List Oper) (r0:Nat):∀(os:List Oper) (i:Nat) (env:En) (h:AH),
    fO P R all r0 i os env.uD h=(kK P R' all r0 i os env h).map fun r=>(r.1.map aAq,r.2.1.uD,r.2.2)
 |[],_,_,_=>rfl
 |o::os,i,env,h=>by
  rw[Hv]
  simp only[fO,Pp hR]
  cases eQ P R all r0 i env.uD h o with
  |none=>rfl
  |some r=>
   obtain⟨v,h'⟩:=r
   simp only[←Io,Bl hR all r0 os]
   cases kK P R' all r0 (i+1) os (vM env o.dst v) h' with
   |none=>rfl
   |some r=>rfl
theorem Qe (all:List Oper) (rs:List sy) (hEnd:AH) (x:Nat×Nat):Ch P all rs hEnd x=pY P all (rs.map aAq) hEnd x:=by
 unfold Ch pY
 simp only[List.getElem?_map]
 cases all[x.1]? with
 |none=>rfl
 |some o=>
  cases rs[x.1]? with
  |none=>rfl
  |some r=>
   simp only[Option.map_some,vY,tP,Dh]
   cases rs[x.2]?<;>rfl
theorem R7 (hR:Dp R' R) (ops:Array Oper) (env:En) (h:AH):oK P R ops env.uD h=(Di P R' ops env h).map fun r=>(r.1.uD,r.2):=by
 unfold Di oK
 rw[Bl hR]
 split
 ·cases kK P R' ops.toList h.next 0 ops.toList env {h with next:=h.next+ops.size} with
  |none=>rfl
  |some r=>
   obtain⟨rs,e,h'⟩:=r
   have:Ch P ops.toList rs h'=pY P ops.toList (rs.map aAq) h':=funext (Qe _ rs h')
   simp only[Option.map_some,this]
   split<;>rfl
 ·rfl
theorem uS (h:AH) (env:En):∀rs,qD P h env rs=eY P h env.uD rs
 |[]=>rfl
 |.tmp t::rs=>by simp only[qD,eY,En.get_eq,uS h env rs]
 |.cell a t::rs=>by simp only[qD,eY,En.get_eq,uS h env rs];rfl
theorem Su (P:Program) (R:pB) (all:Array Oper) (rest:List Oper) (env:En) (h:AH):Ow P R all rest env h=
  match rest with
  |[]=>some (⟨.iD,[],env,undef⟩,h)
  |o::rest=>
   match lI all env o with
   |none=>none
   |some false=>R (.ops all rest (vM env o.dst undef)) h
   |some true=>match Bp P R env h o.op with
    |some (v,h')=>R (.ops all rest (vM env o.dst v)) h'
    |none=>none:=by
 cases rest with
 |nil=>rfl
 |cons o rest=>
  show aDa P R all rest env h o (lI all env o)=_
  simp only
  cases lI all env o with
  |none=>rfl
  |some b=>
   cases b with
   |false=>rfl
   |true=>
    show qq P R all rest env h o=_
    unfold qq
    simp only
    cases Bp P R env h o.op<;>rfl
theorem Vr (hR:Dp R' R) (all:Array Oper) (rest:List Oper) (env:En) (h:AH):pH P R all rest env.uD h=(Ow P R' all rest env h).map tN:=by
 rw[Su]
 unfold pH
 cases rest with
 |nil=>rfl
 |cons o rest=>
  simp only[vY,U0 hR]
  cases dT all env.uD o with
  |none=>rfl
  |some b=>
   cases b with
   |false=>simp only[←Io];exact hR (.ops all rest (vM env o.dst undef)) h
   |true=>
    simp only
    cases kC P R env.uD h o.op with
    |none=>rfl
    |some r=>simp only[←Io];exact hR (.ops all rest (vM env o.dst r.1)) r.2
theorem Sk (hR:Dp R' R) (fn:FuncId) (ro:Option Nat) (ds:List Nat) (env:En) (k:List Item) (h:AH):dO P R fn ro ds env.uD k h=(S7 P R' fn ro ds env k h).map tN:=by
 have hT:∀fn ro ds (env:En) k h,R (.todo fn ro ds env.uD k) h=(R' (.todo fn ro ds env k) h).map tN:=fun fn ro ds env k h=>hR (.todo fn ro ds env k) h
 unfold dO
 cases k with
 |nil=>rfl
 |cons x k=>
  cases x with
  |code c=>
   cases c with
   |skip=>exact hT ..
   |label _=>exact hT ..
   |seq a b=>exact hT ..
   |cond c t e=>
    show _=(Nj P R' fn ro ds env k h c t e).map tN
    unfold Nj
    simp only[tP]
    cases cK P env.uD c<;>first|rfl|exact hT ..
   |block id b=>exact hT ..
   |loop b=>exact hT ..
   |scope b=>exact hT ..
   |exit id=>
    show _=(Nd R' fn ro ds env k h id).map tN
    unfold Nd
    simp only
    cases exitTo id k with
    |none=>simp only;split<;>rfl
    |some k'=>exact hT ..
   |ret=>rfl
   |region i ops d=>
    cases d with
    |false=>
     show _=(Uu R' fn ro ds env k h ops).map tN
     unfold Uu Ym
     simp only
     rw[show R (.ops ops ops.toList env.uD) h=(R' (.ops ops ops.toList env) h).map tN from hR (.ops ops ops.toList env) h]
     cases R' (.ops ops ops.toList env) h with
     |none=>rfl
     |some r=>exact hT ..
    |true=>
     show _=(Px P R' fn ro ds env k h ops).map tN
     unfold Px Qw
     simp only[R7 hR]
     cases Di P R' ops env h with
     |none=>rfl
     |some r=>exact hT ..
   |rangeFunc f ps assign body=>
    show _=(Hl P R' fn ro ds env k h f ps assign body).map tN
    unfold Hl
    simp only[tP]
    split
    ·rename_i d h1 ds1 hd
     have hd':zy h ds ro=some (d,h1,ds1):=hd
     simp only[hd']
     split
     ·rename_i g first captured hf
      simp only[hf]
      split
      ·rw[show R (.call g (first.toList++[.func (.yield h1.next) #[] #[]]++captured.toList)) (h1.alloc (.loop .ready none fn env.uD ps assign body d))=
        (R' (.call g (first.toList++[.func (.yield h1.next) #[] #[]]++captured.toList)) (h1.alloc (.loop .ready none fn env.uD ps assign body d))).map tN from hR (.call g _) _]
       cases R' (.call g (first.toList++[.func (.yield h1.next) #[] #[]]++captured.toList)) (h1.alloc (.loop .ready none fn env.uD ps assign body d)) with
       |none=>rfl
       |some r=>
        simp only[Option.map_some,tN]
        split
        ·rename_i st p _ _ _ _ _ _ hg
         simp only[hg]
         split
         ·rfl
         ·split
          ·rename_i h4 hs;simp only[hs];exact hT ..
          ·rename_i hs;simp only[hs];rfl
        ·rename_i hg
         split
         ·rename_i hg2;exact absurd hg2 (hg _ _ _ _ _ _ _ _)
         ·rfl
      ·rfl
     ·rename_i hf
      split
      ·rename_i hf2;exact absurd hf2 (hf _ _ _)
      ·rfl
    ·rename_i hd
     have hd':zy h ds ro=none:=hd
     simp only[hd']
     rfl
   |_=>rfl
  |inBlock _=>exact hT ..
  |inScope _=>exact hT ..
  |inLoop b=>exact hT ..
  |beginRound=>
   show _=(Gy R' fn ro ds env k h).map tN
   unfold Gy
   cases ro with
   |none=>rfl
   |some l=>
    simp only
    split
    ·rename_i hg
     simp only[hg]
     split
     ·rename_i h' hs;simp only[hs];exact hT ..
     ·rename_i hs;simp only[hs];rfl
    ·rename_i hg
     split
     ·rename_i hg2;exact absurd hg2 (hg _ _ _ _ _ _ _)
     ·rfl
  |_=>rfl
theorem Tn (hR:Dp R' R) (f:FuncId) (args:List Value) (h:AH):iH P K R f args h=(I4 P K R' f args h).map tN:=by
 unfold I4 iH
 cases K f args with
 |some a=>
  cases a with
  |val v=>rfl
  |fwd g bs=>
   simp only
   rw[show R (.call g bs) h=(R' (.call g bs) h).map tN from hR (.call g bs) h]
   cases R' (.call g bs) h with
   |none=>rfl
   |some r=>simp only[Option.map_some,tN,uv];split<;>rfl
  |host F=>simp only;cases F h<;>rfl
 |none=>
  simp only
  rw[Oq,Array.getElem?_toList]
  cases P.funcs[f]? with
  |none=>rfl
  |some fn=>
   simp only
   cases fn.body with
   |none=>rfl
   |some body=>
    simp only
    rw[←En.of_eq,show R (.todo f none [] (En.of args (fn.ntmps - args.length)).uD [.code body]) h=(R' (.todo f none [] (En.of args (fn.ntmps - args.length)) [.code body]) h).map tN from hR (.todo f none [] (En.of args (fn.ntmps - args.length)) [.code body]) h]
    cases R' (.todo f none [] (En.of args (fn.ntmps - args.length)) [.code body]) h with
    |none=>rfl
    |some r=>
     obtain⟨⟨lv,ds,env,v⟩,h1⟩:=r
     simp only[Option.map_some,tN,uv,uS]
     cases lv with
     |exit id=>rfl
     |iD=>simp only;cases cA ds h1 with|none=>rfl|some h2=>simp only;cases eY P h2 env.uD fn.results.toList<;>rfl
     |ret=>simp only;cases cA ds h1 with|none=>rfl|some h2=>simp only;cases eY P h2 env.uD fn.results.toList<;>rfl
theorem Ph (hR:Dp R' R) (l:Nat) (args:List Value) (h:AH):lA R l args h=(Eh R' l args h).map tN:=by
 unfold Eh lA
 split
 ·rename_i fn tmps ps as bd d hg
  simp only[hg]
  split
  ·have hof:∀t:List Value,(En.of t 0).uD=t:=fun t=>by rw[En.of_eq];simp
   have:=hR (.todo fn (some l) [] (En.of ((ps.toList.zip args).foldl (fun t (p,v)=>t.set p v) tmps) 0) [.code as,.beginRound,.code bd]) h
   simp only[vz,hof] at this
   rw[this]
   cases R' (.todo fn (some l) [] (En.of ((ps.toList.zip args).foldl (fun t (p,v)=>t.set p v) tmps) 0) [.code as,.beginRound,.code bd]) h with
   |none=>rfl
   |some r=>
    obtain⟨⟨lv,ds,env,v⟩,h1⟩:=r
    simp only[Option.map_some,tN,uv]
    split
    ·cases lv with
     |iD=>simp only;cases cI h1 l .ready (some none)<;>rfl
     |ret=>simp only;cases cI h1 l .done (some (some .ret))<;>rfl
     |exit id=>simp only;cases cI h1 l .done (some (some (.exit id)))<;>rfl
    ·rfl
  ·rfl
 ·rename_i hg
  split
  ·rename_i hg2;exact absurd hg2 (hg _ _ _ _ _ _ _ _)
  ·rfl
theorem Ys:∀n,Dp (Vf P K n) (run P K n)
 |0=>fun t h=>by cases t<;>rfl
 |n+1=>fun t h=>by
  have ih:Dp (Vf P K n) fun t h=>run P K n t h:=Ys n
  cases t with
  |todo fn ro ds env k=>exact Sk ih ..
  |ops all rest env=>exact Vr ih ..
  |call f args=>exact Tn ih ..
  |round l args=>exact Ph ih ..
end same
theorem Eu {P:Program} {K:FuncId→List Value→Option gX} {n:Nat} {f:FuncId} {args:List Value} {h:AH} {v:Value} (hr:((Vf P K n (.call f args) h).any fun r=>mB r.1.v v)=true):
  ((run P K n (.call f args) h).any fun r=>mB r.1.v v)=true:=by
 have:=Ys (P:=P) (K:=K) n (.call f args) h
 simp only[vz] at this
 rw[this]
 revert hr
 cases Vf P K n (.call f args) h<;>exact id
end
end Go.Ab
end
section
namespace Go.Ab
noncomputable section
variable {P:Program} {K:FuncId→List Value→Option gX}
def sub:Code→List Nat→Code
 |c,[]=>c
 |.seq a _,0::p=>sub a p
 |.seq _ b,1::p=>sub b p
 |.cond _ t _,0::p=>sub t p
 |.cond _ _ e,1::p=>sub e p
 |.block _ b,0::p=>sub b p
 |.loop b,0::p=>sub b p
 |.scope b,0::p=>sub b p
 |.rangeFunc _ _ a _,0::p=>sub a p
 |.rangeFunc _ _ _ b,1::p=>sub b p
 |_,_=> .skip
def Gr (P:Program) (f:FuncId):Option Code:=(P.funcs[f]?).bind (·.body)
def ntm (P:Program) (f:FuncId):Nat:=(P.funcs[f]?).elim 0 (·.ntmps)
def cd (P:Program) (f:FuncId) (p:List Nat):Code:=sub ((Gr P f).getD .skip) p
def Cl (P:Program) (K:FuncId→List Value→Option gX) (f:FuncId) (args:List Value) (h:AH) (Q:Value→AH→Prop):Prop:=Ok P K (.call f args) h fun o h'=>Q o.v h'
theorem Cl.mono {f:FuncId} {args:List Value} {h:AH} {Q Q':Value→AH→Prop} (k:Cl P K f args h Q) (hq:∀v h',Q v h'→Q' v h'):Cl P K f args h Q':=Ok.mono k fun _ _=>hq _ _
def lpB (P:Program) (f:FuncId) (p:List Nat) (n:Nat) (e:Nat→Value) (d:Nat) (st:LoopState) (pd:Option Code):kY:=match cd P f p with
 |.rangeFunc _ ps a b=> .loop st pd f ((List.range n).map e) ps a b d
 |_=> .marks false
abbrev I (n:Int):Value:= .int .i64 n
def pt (b o j:Nat):Value:= .pointer (some ⟨b,o+j,none⟩)
def aD5:Nat→Nat→List Nat→List Nat
 |0,_,acc=>acc
 |f+1,n,acc=>if n≤1 then acc else aD5 f (n/2) (n % 2::acc)
def nB (n:Nat):List Nat:=aD5 120 n []
def rgF:Code→Operand×Array Tmp×Code×Code
 |.rangeFunc f ps a b=>(f,ps,a,b)
 |_=>(.tmp 0, #[],.skip,.skip)
end
end Go.Ab
end
