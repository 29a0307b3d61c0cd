/- A part of the proof. -/
import Derived.Test.YthgemaaghgpncaaDoorB3
section
namespace Go.Ab
open Go.RowKit
variable {P:Program} {B:Nat} {K:FuncId→List Value→Option fM}
theorem F3 {α:Type} {l:List α} {f:α×Nat→Bool} (h:l.zipIdx.all f=true) {k:Nat} {o:α} (ho:l[k]?=some o):f (o,k)=true:=by
 grind
theorem Hr {l:List Nat} (hs:l.Pairwise (·<·)) {i p:Nat} (hf:l.find? (fun x=>decide (i<x))=some p):i<p∧p∈l∧∀j∈l,i<j→p≤j:=by
 obtain⟨h1,as,bs,rfl,h2⟩:=List.find?_eq_some_iff_append.1 hf
 refine⟨by simpa using h1,by simp,?_⟩
 intro j hj hij
 rcases List.mem_append.1 hj with h|h
 ·grind
 ·rw[List.pairwise_append] at hs
  rcases List.mem_cons.1 h with h|h
  ·omega
  ·have:=(List.pairwise_cons.1 hs.2.1).1 j h;omega
structure Fit (all:List Oper):Prop where
 dir:∀(k:Nat) o,all[k]?=some o→∀j∈cX o,j<k
 kind:∀(k:Nat) o,all[k]?=some o→kindOf o.op≠.other
 jV:∀i j:Nat,∀t,(all[i]?).bind (·.dst)=some t→(all[j]?).bind (·.dst)=some t→i=j
 tmps:∀i j:Nat,∀o p d,all[i]?=some o→all[j]?=some p→i≠j→p.dst=some d→d∈tI all o→(j<i→ahead (cR all []) j i=true)∧(i<j→ahead (cR all []) i j=true)
 nS:∀i j:Nat,∀o p,all[i]?=some o→all[j]?=some p→bS o.op=true→bS p.op=true→j<i→ahead (cR all []) j i=true
theorem Kc {all:List Oper} (h:xG all=true):Fit all:=by
 unfold xG at h
 simp only[Bool.and_eq_true] at h
 obtain⟨⟨⟨h1,h2⟩,h3⟩,_⟩:=h
 have pair:∀i j:Nat,∀o p,all[i]?=some o→all[j]?=some p→i≠j→
   (o.dst.isNone||o.dst !=p.dst)=true∧
   (match p.dst with|some d=> !(tI all o).contains d||(if j<i then ahead (cR all []) j i else ahead (cR all []) i j)|none=>true)=true∧
   (!(bS o.op&&bS p.op&&decide (j<i))||ahead (cR all []) j i)=true:=by
  intro i j o p ho hp hij
  have:=F3 (F3 h3 ho) hp
  grind
 refine {dir:=?_,kind:=?_,jV:=?_,tmps:=?_,nS:=?_}
 ·intro k o ho j hj
  have:=F3 h1 ho
  grind
 ·grind
 ·grind
 ·grind
 grind
theorem Yc {all:List Oper} {i s n:Nat} (hn:n=all.length) (hi:i<n):
  let nS:=(List.range n).filter fun i=>(all[i]?).any fun o=>bS o.op
  ((nS++[n]).find? fun x=>decide (i<x)).getD n=s→i<s∧∀j p,i<j→j<s→all[j]?=some p→bS p.op=false:=by
 intro nS hs
 have hsorted:(nS++[n]).Pairwise (·<·):=by
  rw[List.pairwise_append]
  refine⟨(List.pairwise_lt_range).filter _,by simp,?_⟩
  grind
 cases hf:(nS++[n]).find? fun x=>decide (i<x) with
 |none=>
  grind
 |some p=>
  rw[hf] at hs
  simp only[Option.getD_some] at hs
  subst hs
  obtain⟨h1,_,h3⟩:=Hr hsorted hf
  grind
theorem Jp {all:List Oper} {i s:Nat} {o:Oper} (ho:all[i]?=some o) (hl:eB o.op=true) (hph:s=all.length∨∃p,all[s]?=some p∧bS p.op=true)
  (hah:∀j p,all[j]?=some p→bS p.op=true→(j<s→ahead (cR all []) i j=false)∧(s≤j→ahead (cR all []) j i=false))
  (hown:¬(i<s∧∀j p,i<j→j<s→all[j]?=some p→bS p.op=false)):(i,s)∈tS all:=by
 have hil:i<all.length:=(List.getElem?_eq_some_iff.1 ho).1
 unfold tS
 simp only
 rw[List.mem_flatMap]
 refine⟨i,List.mem_range.2 hil,?_⟩
 rw[if_pos (by simp[ho,hl])]
 rw[List.mem_map]
 refine⟨s,?_,rfl⟩
 rw[List.mem_filter]
 constructor
 ·grind
 ·rw[Bool.and_eq_true]
  constructor
  ·simp only[bne_iff_ne,ne_eq]
   intro he
   exact hown (Yc rfl hil he.symm)
  ·rw[List.all_eq_true]
   intro j hj
   rw[List.mem_filter] at hj
   obtain⟨hj1,hj2⟩:=hj
   cases hp:all[j]? with
   |none=>simp[hp] at hj2
   |some p=>
    simp[hp] at hj2
    obtain⟨h1,h2⟩:=hah j p hp hj2
    split
    ·rename_i h;simp[h1 h]
    ·rename_i h;simp[h2 (by omega)]
theorem Gp {R:kT} {all:List Oper} {r0:Nat}:∀(os:List Oper) (i:Nat) (env:List Value) (h:AH) (rs:List Rec) (e:List Value) (hN:AH),eC P R all r0 i os env h=some (rs,e,hN)→rs.length=os.length
 |[],i,env,h,rs,e,hN,ht=>by
  simp only[eC,Option.some.injEq,Prod.mk.injEq] at ht
  rw[←ht.1];rfl
 |o::os,i,env,h,rs,e,hN,ht=>by
  simp only[eC] at ht
  split at ht
  ·split at ht
   ·rename_i hs
    simp only[Option.some.injEq,Prod.mk.injEq] at ht
    rw[←ht.1,List.length_cons,List.length_cons,Gp os _ _ _ _ _ _ hs]
   ·cases ht
  ·cases ht
theorem Ur (C:Ctx P B K) (R:kT) (hR:sM C R):Sj C R:=by
 intro ops env h env' h' hrun ρ w b a cs k t hi hg he
 unfold kJ at hrun
 split at hrun
 ·rename_i hok
  rw[Bool.and_eq_true] at hok
  obtain⟨hok,hmode⟩:=hok
  split at hrun
  ·rename_i rs e hN htext
   split at hrun
   ·rename_i hfl
    simp only[Option.some.injEq,Prod.mk.injEq] at hrun
    obtain⟨rfl,rfl⟩:=hrun
    have fit:=Kc hok
    generalize hall:ops.toList=all at fit htext hfl hok
    have hsz:ops.size=all.length:=by rw[←hall];simp
    obtain⟨E,H,V,hE0,hH0,hstep,hEn,hHn,hrs⟩:=Bm all 0 env _ rs e hN htext
    have d:Dr P R all h.next E H V:={
     step:=fun j o ho=>by have:=(hstep j o ho).1;rwa [Nat.zero_add] at this
     env:=fun j o ho=>(hstep j o ho).2
     dir:=fit.dir,kind:=fit.kind,jV:=fit.jV,tmps:=fit.tmps,nS:=fit.nS
     ik:=fun i s o ho hl hs hph hah hown hw=>by
      rw[List.all_eq_true] at hfl
      have:=hfl (i,s) (Jp ho hl hph hah hown)
      have hil:i<all.length:=(List.getElem?_eq_some_iff.1 ho).1
      unfold lL at this
      simp only[ho,hrs i hil,hw] at this
      have hh:cH P (bB P (E i)) (H s) o.op=some (V i):=by
       rcases Nat.lt_or_ge s all.length with h1|h1
       ·rw[hrs s h1] at this
        simp only at this
        split at this
        ·rename_i v hv
         rw[hv,Af _ _ this]
        ·cases this
       ·have hse:s=all.length:=by omega
        rw[List.getElem?_eq_none (by rw[Gp _ _ _ _ _ _ _ htext];omega)] at this
        simp only at this
        rw[hse,hHn]
        split at this
        ·rename_i v hv
         rw[hv,Af _ _ this]
        ·cases this
      exact hh}
    have hB:B≤w.heap.size:=hi.size
    have hi':Inv P B ρ (H 0) w:=by
     rw[hH0]
     exact {nJ:=hi.nJ,inj:=hi.inj,low:=hi.low,old:=hi.old,fresh:=fun i h1=>hi.fresh i (by simp at h1;omega),fD:=fun i h1=>hi.fD i (by simp at h1;omega),lM:=hi.lM,size:=hi.size,bn:=by have:=hi.bn;grind}
    have hget0:∀i,(H 0).get i=h.get i:=fun i=>by rw[hH0];rfl
    have st0:St P B all h.next E H V ρ h w [] 0 ρ w a.tmps.toList:={
     uB:={ext:=Ext.refl _,inv:=hi',un:=fun _ _ h=>h,jB:=fun i _ _=>hget0 i,stay:=fun i _ h1=>by rw[hget0];exact h1,frame:=fun _ _ _=>rfl,
                   range:=fun i b s h1 h2 h3 _=>⟨i,s,h1,by grind,h3⟩,base:=by rw[hH0],oR:=fun i _=>hget0 i,size:=Nat.le_refl _,os:=rfl,out:=rfl,tape:=rfl}
     Pg:=fun i h1=>by cases h1
     closed:=fun i h1=>by cases h1
     s1:=fun j o h1=>by omega
     s3:=fun j o _ _ h1=>by cases h1
     sle:=Nat.zero_le _
     env:=by rw[hE0];exact he
     nx:=by grind
     tR:=fun i o b f _ h1=>by cases h1
     oC:=fun i n t h1 h2=>by rw[hi.fresh _ (by omega)] at h2;cases h2
     lone:=fun i n t _ h1 h2=>by rw[hi.fresh _ (by omega)] at h2;cases h2
     yI:=fun i i' n t t' _ _ h2=>by rw[hi.fresh _ (by omega)] at h2;cases h2
     Nf:=fun i _ _=>hi.fresh _ (by omega)
     Rf:=fun i o _ _=>hi.fresh _ (by omega)
     rev:=fun i o b f h1=>by omega
     Nd:=fun j _ _=>by rw[hget0];exact hi.fD _ (by omega)
     gr:=fun m hm _=>(have:m=0:=(by omega);this▸jS.refl _)}
    obtain⟨s,st1,hf1⟩:=st0.advance d hi.bn hB _ _ rfl
    have hsched:Region.schedule (P.follows .mixedOrders) ops t=Region.linearise.go .any ops ops.size t (Array.replicate ops.size false) []:=by
     unfold Region.schedule
     rw[if_pos hmode]
     rfl
    have hord:pF all [] (Region.schedule (P.follows .mixedOrders) ops t):=by
     rw[hsched,←hall]
     refine sY (by rw[hall];exact fit.dir) ops.size t _ [] (by simp) (fun i hi=>by simp[hi]) ?_
     grind
    obtain⟨D',ρ',w',a',st2,hin,hdef,hst⟩:=A1 C hR hall d hi.bn hB hi hg (b:=b) (cs:=cs) (k:=k) _ [] s ρ w a hord hf1 st1
    have hevoN:=st2.uB
    rw[hHn] at hevoN
    have hnx:=st2.nx
    rw[hHn] at hnx
    refine⟨ρ',w',a',hevoN.uB (by omega),?_,hdef,hst⟩
    have henv:e=qI all V (E 0) D':=by
     rw[←hEn,d.Yt _ (Nat.le_refl _)]
     refine List.ext_getElem? fun t=>De (fun i j h1 h2=>fit.jV i j t h1 h2) fun j hj=>?_
     have hjl:j<all.length:=by
      cases hp:all[j]? with
      |none=>rw[hp] at hj;cases hj
      |some p=>grind
     simp[hjl,hin j hjl]
    rw[henv]
    exact st2.env
   ·cases hrun
  ·cases hrun
 ·cases hrun
theorem Nq (C:Ctx P B K) (n:Nat):sM C (run P K n):=Ya C (Ur C) n
end Go.Ab
end
section
namespace Go.Ab
variable {P:Program} {K:FuncId→List Value→Option fM}
def kT.le (R R':kT):Prop:=∀t h r,R t h=some r→R' t h=some r
theorem pV {R R':kT} (hl:R.le R') {ev:Operand→Value} {h:AH} {op:Op} {r:Value×AH} (hr:bZ P R ev h op=some r):bZ P R' ev h op=some r:=by
 unfold bZ at hr ⊢
 split
 ·exact hr
 ·exact hr
 ·simp only at hr ⊢
  split
  ·grind
  ·rename_i he
   simp only[he] at hr
   split
   ·rename_i hf
    simp only[hf] at hr
    split
    ·rename_i hc
     rw[if_pos hc] at hr
     simp only[Option.map_eq_some_iff] at hr ⊢
     obtain⟨x,hx,rfl⟩:=hr
     exact⟨x,hl _ _ _ hx,rfl⟩
    grind
   ·rename_i hf
    simp only[hf] at hr
    simp only[Option.map_eq_some_iff] at hr ⊢
    obtain⟨x,hx,rfl⟩:=hr
    exact⟨x,hl _ _ _ hx,rfl⟩
   grind
  grind
 grind
theorem D3 {R R':kT} (hl:R.le R') {env:List Value} {h:AH} {op:Op} {r:Value×AH} (hr:gW P R env h op=some r):gW P R' env h op=some r:=by
 unfold gW at hr ⊢
 cases hk:kindOf op<;>simp only[hk] at hr ⊢
 ·exact hr
 ·exact hr
 ·exact pV hl hr
 ·exact pV hl hr
 ·exact hr
theorem yE {R R':kT} (hl:R.le R') {all:List Oper} {r0 i:Nat} {env:List Value} {h:AH} {o:Oper} {r:Value×AH} (hr:dA P R all r0 i env h o=some r):dA P R' all r0 i env h o=some r:=by
 unfold dA at hr ⊢
 cases hw:cB ⟨all⟩ env o with
 |none=>grind
 |some b=>
  rw[hw] at hr
  cases b with
  |false=>exact hr
  |true=>
   simp only at hr ⊢
   split
   ·grind
   ·rename_i hc
    rw[if_neg hc] at hr
    split
    ·grind
    ·rename_i hc2;rw[if_neg hc2] at hr;exact pV hl hr
theorem rB {R R':kT} (hl:R.le R') {all:List Oper} {r0:Nat}:∀(os:List Oper) {i:Nat} {env:List Value} {h:AH} {r:List Rec×List Value×AH},eC P R all r0 i os env h=some r→eC P R' all r0 i os env h=some r
 |[],_,_,_,_,hr=>hr
 |o::os,i,env,h,r,hr=>by
  simp only[eC] at hr ⊢
  split at hr
  ·rename_i v h' hs
   rw[yE hl hs]
   simp only
   split at hr
   ·rename_i rs e ht
    rw[rB hl os ht]
    exact hr
   ·cases hr
  ·cases hr
theorem zS {R R':kT} (hl:R.le R') {ops:Array Oper} {env:List Value} {h:AH} {r:List Value×AH} (hr:kJ P R ops env h=some r):kJ P R' ops env h=some r:=by
 unfold kJ at hr ⊢
 split
 ·rename_i hc
  rw[if_pos hc] at hr
  split at hr
  ·rename_i ht
   rw[rB hl _ ht]
   exact hr
  ·cases hr
 grind
theorem Oh {R R':kT} (hl:R.le R') {all:Array Oper} {rest:List Oper} {env:List Value} {h:AH} {r:Out×AH} (hr:lH P R all rest env h=some r):lH P R' all rest env h=some r:=by
 unfold lH at hr ⊢
 cases rest with
 |nil=>exact hr
 |cons o rest=>
  simp only at hr ⊢
  cases hw:cB all env o with
  |none=>grind
  |some b=>
   rw[hw] at hr
   cases b with
   |false=>exact hl _ _ _ hr
   |true=>
    simp only at hr ⊢
    split at hr
    ·rename_i v h' hs
     rw[D3 hl hs]
     exact hl _ _ _ hr
    ·cases hr
theorem Jw {R R':kT} (hl:R.le R') {f:FuncId} {args:List Value} {h:AH} {r:Out×AH} (hr:gV P K R f args h=some r):gV P K R' f args h=some r:=by
 unfold gV at hr ⊢
 split
 ·grind
 ·rename_i hk
  rw[hk] at hr
  simp only at hr
  split at hr
  ·rename_i hs
   rw[hl _ _ _ hs]
   exact hr
  ·cases hr
 ·grind
 ·rename_i hk
  rw[hk] at hr
  simp only at hr
  split at hr
  ·split at hr
   ·split at hr
    ·rename_i hs
     rw[hl _ _ _ hs]
     exact hr
    ·cases hr
   ·cases hr
  ·cases hr
theorem Hq {R R':kT} (hl:R.le R') {l:Nat} {args:List Value} {h:AH} {r:Out×AH} (hr:iP R l args h=some r):iP R' l args h=some r:=by
 unfold iP at hr ⊢
 split at hr
 ·split at hr
  ·rename_i hc
   rw[if_pos hc]
   split at hr
   ·rename_i hs
    rw[hl _ _ _ hs]
    exact hr
   ·cases hr
  ·cases hr
 ·cases hr
theorem Lc {R R':kT} (hl:R.le R') {fn:FuncId} {ro:Option Nat} {ds:List Nat} {env:List Value} {k:List Item} {h:AH} {r:Out×AH} (hr:bX P R fn ro ds env k h=some r):bX P R' fn ro ds env k h=some r:=by
 unfold bX at hr ⊢
 split at hr
 ·exact hr
 ·rename_i c k
  split at hr
  ·exact hl _ _ _ hr
  ·exact hl _ _ _ hr
  ·exact hl _ _ _ hr
  ·split at hr
   ·exact hl _ _ _ hr
   ·cases hr
  ·exact hl _ _ _ hr
  ·exact hl _ _ _ hr
  ·exact hl _ _ _ hr
  ·split at hr
   ·exact hl _ _ _ hr
   ·exact hr
  ·exact hr
  ·split at hr
   ·rename_i hs
    rw[hl _ _ _ hs]
    exact hl _ _ _ hr
   ·cases hr
  ·split at hr
   ·rename_i hs
    rw[zS hl hs]
    exact hl _ _ _ hr
   ·cases hr
  ·split at hr
   ·rename_i d h1 ds1 hdd
    split at hr
    ·rename_i g first captured hf
     split at hr
     ·rename_i hcal
      rw[if_pos hcal]
      split at hr
      ·rename_i hs
       rw[hl _ _ _ hs]
       simp only
       split at hr
       ·split at hr
        ·cases hr
        ·rename_i hb
         rw[if_neg hb]
         split at hr
         ·exact hl _ _ _ hr
         ·cases hr
       ·cases hr
      ·cases hr
     ·cases hr
    ·cases hr
   ·cases hr
  ·cases hr
 ·exact hl _ _ _ hr
 ·exact hl _ _ _ hr
 ·exact hl _ _ _ hr
 ·split at hr
  ·split at hr
   ·split at hr
    ·exact hl _ _ _ hr
    ·cases hr
   ·cases hr
  ·cases hr
 ·cases hr
theorem Si:∀n,(run P K n).le (run P K (n+1))
 |0,t,h,r,hr=>by simp[run] at hr
 |n+1,t,h,r,hr=>by
  have ih:=Si n
  cases t with
  |todo fn ro ds env k=>exact Lc ih hr
  |ops all rest env=>exact Oh ih hr
  |call f args=>exact Jw ih hr
  |round l args=>exact Hq ih hr
theorem gM {n m:Nat} (h:n≤m):(run P K n).le (run P K m):=by
 induction h with
 |refl=>exact fun _ _ _ h=>h
 |step _ ih=>exact fun t g r hr=>Si _ _ _ _ (ih t g r hr)
end Go.Ab
end
section
namespace Go.Ab
noncomputable section
variable {P:Program} {K:FuncId→List Value→Option fM}
def Li (k:Nat) (a b:Value):Option Bool:=match k,a,b with
 |0,.int k m,.int k' n=>if k=k' then some (m==n) else none
 |1,.bool m,.bool n=>some (m==n)
 |2,.string m,.string n=>some (m==n)
 |_,_,_=>none
def kW:List Nat→List Value→List Value→Option Bool
 |[],[],[]=>some true
 |k::ks,x::xs,y::ys=>match Li k x y,kW ks xs ys with
  |some a,some b=>some (a&&b)
  |_,_=>none
 |_,_,_=>none
def Bo (P:Program) (fl:TypeId→Option (List Nat)):Nat→List Field→Option (List Nat)
 |_,[]=>some []
 |o,f::fs=>if f.name= "_"∨f.offset≠o then none else
  match fl f.type,Bo P fl (o+P.cellsOf f.type) fs with
  |some a,some b=>if a.length=P.cellsOf f.type then some (a++b) else none
  |_,_=>none
def Dc (P:Program):Nat→TypeId→Option (List Nat)
 |0,_=>none
 |d+1,t=>match P.underlying t with
  |some .bool=>some [1]
  |some (.int _)=>some [0]
  |some .string=>some [2]
  |some (.array n e)=>if(P.info? e).isSome then
    (match Dc P d e with
    |some l=>if l.length=P.cellsOf e then some (List.replicate n l).flatten else none
    |none=>none) else none
  |some (.struct fs)=>if P.stoodInHeld t then none else Bo P (Dc P d) 0 fs.toList
  |_=>none
theorem kX:∀{ks:List Nat} {a b:List Value} {r:Bool},kW ks a b=some r→a.length=ks.length∧b.length=ks.length
 |[],[],[],_,_=>⟨rfl,rfl⟩
 |[],[],_::_,_,h=>by simp[kW] at h
 |[],_::_,_,_,h=>by simp[kW] at h
 |_::_,[],_,_,h=>by simp[kW] at h
 |_::_,_::_,[],_,h=>by simp[kW] at h
 |k::ks,x::xs,y::ys,r,h=>by
  simp only[kW] at h
  split at h
  ·rename_i h2;have:=kX h2;simp[this]
  ·cases h
theorem sZ:∀{k1 k2:List Nat} {a b:List Value} {r:Bool},kW (k1++k2) a b=some r→∃r1 r2,kW k1 (a.take k1.length) (b.take k1.length)=some r1∧kW k2 (a.drop k1.length) (b.drop k1.length)=some r2∧r=(r1&&r2)
 |[],k2,a,b,r,h=>⟨true,r,by simp[kW],by simpa using h,by simp⟩
 |k::ks,k2,[],_,r,h=>by simp[kW] at h
 |k::ks,k2,_::_,[],r,h=>by simp[kW] at h
 |k::ks,k2,x::xs,y::ys,r,h=>by
  simp only[List.cons_append,kW] at h
  split at h
  ·rename_i r1 r2 h1 h2
   cases h
   obtain⟨s1,s2,h3,h4,rfl⟩:=sZ h2
   exact⟨r1&&s1,s2,by simp[kW,h1,h3],by simpa using h4,by rw[Bool.and_assoc]⟩
  ·cases h
def valOf (P:Program) (t:TypeId) (a:List Value):Option Value:=match fR P t with
 |some true=>some (.agg ⟨a⟩)
 |some false=>a[0]?
 |none=>none
theorem sC {t:TypeId} {xs a:List Value} {off:Nat} {v:Value} (ha:(xs.drop off).take (P.cellsOf t)=a) (hl:a.length=P.cellsOf t) (h0:0<P.cellsOf t∨off≤xs.length) (hv:valOf P t a=some v):apart P t xs off=some v:=by
 unfold valOf at hv
 unfold apart
 grind
theorem Dh {eq:TypeId→Value→Value→Option Bool} {fl:TypeId→Option (List Nat)}
  (ih:∀t ks a b r,fl t=some ks→ks.length=P.cellsOf t→kW ks a b=some r→∃x y,valOf P t a=some x∧valOf P t b=some y∧eq t x y=some r)
  {xs ys:List Value}:∀(fs:List Field) (o:Nat) (ks:List Nat) (r:Bool),o≤xs.length→o≤ys.length→Bo P fl o fs=some ks→kW ks (xs.drop o) (ys.drop o)=some r→iB P eq xs ys fs=some r
 |[],o,ks,r,_,_,hf,hc=>by
  simp only[Bo,Option.some.injEq] at hf
  subst hf
  have:=kX hc
  have e1:xs.drop o=[]:=List.eq_nil_of_length_eq_zero this.1
  have e2:ys.drop o=[]:=List.eq_nil_of_length_eq_zero this.2
  rw[e1,e2] at hc
  simpa [kW,iB] using hc
 |f::fs,o,ks,r,hox,hoy,hf,hc=>by
  simp only[Bo] at hf
  split at hf
  ·cases hf
  ·rename_i hn
   simp only[not_or,Decidable.not_not,ne_eq] at hn
   split at hf
   ·rename_i a b h1 h2
    split at hf
    ·rename_i hl
     cases hf
     obtain⟨r1,r2,h3,h4,rfl⟩:=sZ hc
     obtain⟨x,y,hx,hy,he⟩:=ih _ _ _ _ _ h1 hl h3
     have l3:=kX h3
     have lc:=kX hc
     simp only[List.length_drop,List.length_append] at lc
     have ax:apart P f.type xs f.offset=some x:=sC (by rw[hn.2,←hl]) (by rw[l3.1,hl]) (.inr (by omega)) hx
     have ay:apart P f.type ys f.offset=some y:=sC (by rw[hn.2,←hl]) (by rw[l3.2,hl]) (.inr (by omega)) hy
     simp only[iB]
     rw[if_neg hn.1,ax,ay]
     simp only[he]
     rw[List.drop_drop,List.drop_drop] at h4
     have:=Dh (xs:=xs) (ys:=ys) ih fs (o+P.cellsOf f.type) b r2 (by omega) (by omega) h2 (by rw[←hl];exact h4)
     grind
    ·cases hf
   ·cases hf
theorem Gr {eq:TypeId→Value→Value→Option Bool} {e:TypeId} {l:List Nat}
  (ih:∀a b r,kW l a b=some r→∃x y,valOf P e a=some x∧valOf P e b=some y∧eq e x y=some r) (hl:l.length=P.cellsOf e)
  {xs ys:List Value}:∀(n j:Nat) (r:Bool),j*P.cellsOf e≤xs.length→j*P.cellsOf e≤ys.length→kW (List.replicate n l).flatten (xs.drop (j*P.cellsOf e)) (ys.drop (j*P.cellsOf e))=some r→kN P eq e xs ys (List.range' j n)=some r
 |0,j,r,_,_,hc=>by
  have:=kX hc
  simp only[List.replicate_zero,List.flatten_nil,List.length_nil] at this
  have e1:xs.drop (j*P.cellsOf e)=[]:=List.eq_nil_of_length_eq_zero this.1
  have e2:ys.drop (j*P.cellsOf e)=[]:=List.eq_nil_of_length_eq_zero this.2
  rw[e1,e2] at hc
  simpa [kW,kN] using hc
 |n+1,j,r,hx0,hy0,hc=>by
  rw[List.replicate_succ,List.flatten_cons] at hc
  obtain⟨r1,r2,h3,h4,rfl⟩:=sZ hc
  obtain⟨x,y,hx,hy,he⟩:=ih _ _ _ h3
  have l3:=kX h3
  have lc:=kX hc
  simp only[List.length_drop,List.length_append] at lc
  have ax:apart P e xs (j*P.cellsOf e)=some x:=sC (by rw[←hl]) (by rw[l3.1,hl]) (.inr (by omega)) hx
  have ay:apart P e ys (j*P.cellsOf e)=some y:=sC (by rw[←hl]) (by rw[l3.2,hl]) (.inr (by omega)) hy
  simp only[List.range'_succ,kN,ax,ay,he]
  rw[List.drop_drop,List.drop_drop] at h4
  have e1:(j+1)*P.cellsOf e=j*P.cellsOf e+P.cellsOf e:=Nat.succ_mul _ _
  have:=Gr (xs:=xs) (ys:=ys) ih hl n (j+1) r2 (by omega) (by omega) (by grind)
  grind
theorem Vf (d:Nat):∀(t:TypeId) (ks:List Nat) (a b:List Value) (r:Bool),Dc P d t=some ks→ks.length=P.cellsOf t→kW ks a b=some r→
  ∃x y,valOf P t a=some x∧valOf P t b=some y∧qM P d t x y=some r:=by
 induction d with
 |zero=>intro t ks a b r h;simp[Dc] at h
 |succ d ih=>
  intro t ks a b r h hk hc
  have one:∀k,ks=[k]→∃x y,a=[x]∧b=[y]∧Li k x y=some r:=fun k hk=>by
   subst hk
   have:=kX hc
   match a,b,this with
   |[x],[y],_=>
    refine⟨x,y,rfl,rfl,?_⟩
    simp only[kW] at hc
    grind
  unfold Dc at h
  split at h
  ·rename_i hu
   obtain⟨x,y,rfl,rfl,hx⟩:=one 1 (by simpa using h.symm)
   refine⟨x,y,by simp[valOf,fR,hu],by simp[valOf,fR,hu],?_⟩
   unfold Li at hx
   split at hx
   ·rename_i he;cases he
   ·cases hx;unfold qM;simp[hu]
   ·rename_i he;cases he
   ·cases hx
  ·rename_i k hu
   obtain⟨x,y,rfl,rfl,hx⟩:=one 0 (by simpa using h.symm)
   refine⟨x,y,by simp[valOf,fR,hu],by simp[valOf,fR,hu],?_⟩
   unfold Li at hx
   split at hx
   ·split at hx
    ·rename_i hkk;subst hkk;cases hx;unfold qM;simp[hu]
    ·cases hx
   ·rename_i he;cases he
   ·rename_i he;cases he
   ·cases hx
  ·rename_i hu
   obtain⟨x,y,rfl,rfl,hx⟩:=one 2 (by simpa using h.symm)
   refine⟨x,y,by simp[valOf,fR,hu],by simp[valOf,fR,hu],?_⟩
   unfold Li at hx
   split at hx
   ·rename_i he;cases he
   ·rename_i he;cases he
   ·cases hx;unfold qM;simp[hu]
   ·cases hx
  ·rename_i n e hu
   split at h
   ·rename_i hi
    split at h
    ·rename_i l hl
     split at h
     ·rename_i hle
      cases h
      refine⟨.agg ⟨a⟩,.agg ⟨b⟩,by simp[valOf,fR,hu],by simp[valOf,fR,hu],?_⟩
      unfold qM
      simp only[hu,hi,if_true]
      rw[List.range_eq_range']
      exact Gr (fun a b r hc=>ih e l a b r hl hle hc) hle n 0 r (by simp) (by simp) (by simpa using hc)
     ·cases h
    ·cases h
   ·cases h
  ·rename_i fs hu
   split at h
   ·cases h
   ·rename_i hs
    refine⟨.agg ⟨a⟩,.agg ⟨b⟩,by simp[valOf,fR,hu],by simp[valOf,fR,hu],?_⟩
    unfold qM
    simp only[hu,hs,Bool.false_eq_true,if_false]
    exact Dh (fun t ks a b r h1 h2 h3=>ih t ks a b r h1 h2 h3) fs.toList 0 ks r (by simp) (by simp) h (by simpa using hc)
  ·cases h
def Jl (op:BinOp) (r:Bool):Option Value:=match op with
 |.eql=>some (.bool r)
 |.neq=>some (.bool !r)
 |_=>none
def xJ (op:BinOp) (a b:Value):Option Value:=match a,b with
 |.int k m,.int k' n=>if k=k' then yJ op k m n else xI op k m n
 |_,_=>none
def Wu (op:BinOp) (a b:Value):Option Value:=match a,b with
 |.string m,.string n=>Uf op m n
 |_,_=>none
def Y3 (op:BinOp) (a b:Value):Option Value:=match a,b with
 |.bool m,.bool n=>Jl op (m==n)
 |_,_=>none
def Ta (op:BinOp) (a b:Value):Option Value:=match a,b with
 |.pointer none,.pointer b=>Jl op b.isNone
 |.pointer (some _),.pointer none=>Jl op false
 |_,_=>none
def X6 (op:BinOp) (a b:Value):Option Value:=match a,b with
 |.slice none _ _,.slice b _ _=>Jl op b.isNone
 |.slice (some _) _ _,.slice none _ _=>Jl op false
 |_,_=>none
def Xa (op:BinOp) (a b:Value):Option Value:=match a,b with
 |.nilFunc,.nilFunc=>Jl op true
 |.nilFunc,.func _ _ _=>Jl op false
 |.func _ _ _,.nilFunc=>Jl op false
 |_,_=>none
def S7 (c:Bool) (op:BinOp) (a b:Value):Option Value:=match a,b with
 |.nilIface,.nilIface=>if c then Jl op true else none
 |.nilIface,.iface _ _=>Jl op false
 |.iface _ _,.nilIface=>Jl op false
 |_,_=>none
def S8 (ks:List Nat) (op:BinOp) (a b:Value):Option Value:=match a,b with
 |.agg xs,.agg ys=>(kW ks xs.toList ys.toList).bind (Jl op)
 |_,_=>none
def yU (P:Program) (t:TypeId):Option (List Nat):=match Dc P 10000 t with
 |some ks=>if ks.length=P.cellsOf t∧fR P t=some true∧P.eqGuardType P.depth t=false then some ks else none
 |none=>none
def G4 (P:Program) (op:BinOp) (t:TypeId) (x y:Operand) (a b:Value) (q:Value→Prop) (aN:Option Value→(Value→Prop)→Prop):Prop:=
 match P.underlying t with
 |some (.int _)=>aN (xJ op a b) q
 |some .string=>aN (Wu op a b) q
 |some .bool=>aN (Y3 op a b) q
 |some (.pointer _)=>aN (Ta op a b) q
 |some (.slice _)=>aN (X6 op a b) q
 |some (.func _ _ _)=>aN (Xa op a b) q
 |some (.interface _)=>aN (S7 (isConst x||isConst y) op a b) q
 |some (.struct _)=>(match yU P t with
  |some ks=>aN (S8 ks op a b) q
  |none=>False)
 |some (.array _ _)=>(match yU P t with
  |some ks=>aN (S8 ks op a b) q
  |none=>False)
 |_=>False
theorem gQ {op:BinOp} {t:TypeId} {x y:Operand} {a b v:Value} {r:Bool} (hi:∀k m k' n,¬(a= .int k m∧b= .int k' n)) (hs:∀m n,¬(a= .string m∧b= .string n)) (he:Jl op r=some v) (hk:xL P t x y a b=true) (hq:qM P 10000 t a b=some r):
  El P op t x y a b=some v:=by
 unfold El
 split
 ·grind
 ·grind
 ·unfold Jl at he
  grind
theorem hJ {t:TypeId} {a b:Value} {r:Bool} (h:qM P (9999+1) t a b=some r):qM P 10000 t a b=some r:=h
theorem Gi {op:BinOp} {t:TypeId} {x y:Operand} {a b:Value} {q:Value→Prop} (hw:G4 P op t x y a b q fun o p=>∃v,o=some v∧p v):∃v,El P op t x y a b=some v∧q v:=by
 unfold G4 at hw
 split at hw
 ·obtain⟨v,h1,h2⟩:=hw
  refine⟨v,?_,h2⟩
  unfold xJ at h1
  split at h1
  ·simp only[El];exact h1
  ·cases h1
 ·obtain⟨v,h1,h2⟩:=hw
  refine⟨v,?_,h2⟩
  unfold Wu at h1
  split at h1
  ·simp only[El];exact h1
  ·cases h1
 ·rename_i hu
  obtain⟨v,h1,h2⟩:=hw
  refine⟨v,?_,h2⟩
  unfold Y3 at h1
  split at h1
  ·exact gQ (fun _ _ _ _ h=>by cases h.1) (fun _ _ h=>by cases h.1) h1 rfl (hJ (by unfold qM;simp[hu]))
  ·cases h1
 ·rename_i hu
  obtain⟨v,h1,h2⟩:=hw
  refine⟨v,?_,h2⟩
  unfold Ta at h1
  split at h1
  ·exact gQ (fun _ _ _ _ h=>by cases h.1) (fun _ _ h=>by cases h.1) h1 rfl (hJ (by unfold qM;simp[hu]))
  ·exact gQ (fun _ _ _ _ h=>by cases h.1) (fun _ _ h=>by cases h.1) h1 rfl (hJ (by unfold qM;simp[hu]))
  ·cases h1
 ·rename_i hu
  obtain⟨v,h1,h2⟩:=hw
  refine⟨v,?_,h2⟩
  unfold X6 at h1
  split at h1
  ·exact gQ (fun _ _ _ _ h=>by cases h.1) (fun _ _ h=>by cases h.1) h1 rfl (hJ (by unfold qM;simp[hu]))
  ·exact gQ (fun _ _ _ _ h=>by cases h.1) (fun _ _ h=>by cases h.1) h1 rfl (hJ (by unfold qM;simp[hu]))
  ·cases h1
 ·rename_i hu
  obtain⟨v,h1,h2⟩:=hw
  refine⟨v,?_,h2⟩
  unfold Xa at h1
  split at h1
  ·exact gQ (fun _ _ _ _ h=>by cases h.1) (fun _ _ h=>by cases h.1) h1 rfl (hJ (by unfold qM;simp[hu]))
  ·exact gQ (fun _ _ _ _ h=>by cases h.1) (fun _ _ h=>by cases h.1) h1 rfl (hJ (by unfold qM;simp[hu]))
  ·exact gQ (fun _ _ _ _ h=>by cases h.1) (fun _ _ h=>by cases h.1) h1 rfl (hJ (by unfold qM;simp[hu]))
  ·cases h1
 ·rename_i hu
  obtain⟨v,h1,h2⟩:=hw
  refine⟨v,?_,h2⟩
  unfold S7 at h1
  split at h1
  ·split at h1
   ·rename_i hc
    exact gQ (fun _ _ _ _ h=>by cases h.1) (fun _ _ h=>by cases h.1) h1 (by simpa [xL] using hc) (hJ (by unfold qM;simp[hu]))
   ·cases h1
  ·exact gQ (fun _ _ _ _ h=>by cases h.1) (fun _ _ h=>by cases h.1) h1 rfl (hJ (by unfold qM;simp[hu]))
  ·exact gQ (fun _ _ _ _ h=>by cases h.1) (fun _ _ h=>by cases h.1) h1 rfl (hJ (by unfold qM;simp[hu]))
  ·cases h1
 all_goals
  first
   |cases hw
   |split at hw
    ·rename_i ks hks
     obtain⟨v,h1,h2⟩:=hw
     refine⟨v,?_,h2⟩
     unfold S8 at h1
     split at h1
     ·rename_i xs ys
      simp only[Option.bind_eq_some_iff] at h1
      obtain⟨r,hr,he⟩:=h1
      unfold yU at hks
      split at hks
      ·rename_i ks' hk'
       split at hks
       ·rename_i hc
        cases hks
        obtain⟨x',y',hx',hy',hq⟩:=Vf 10000 t _ _ _ _ hk' hc.1 hr
        simp only[valOf,hc.2.1,Option.some.injEq] at hx' hy'
        have e1:x'= .agg xs:=hx'.symm
        have e2:y'= .agg ys:=hy'.symm
        subst e1;subst e2
        exact gQ (fun _ _ _ _ h=>by cases h.1) (fun _ _ h=>by cases h.1) he (by simp[xL,hc.2.2]) hq
       ·cases hks
      ·cases hks
     ·cases h1
    ·cases hw
end
end Go.Ab
end
section
namespace Go.Ab
noncomputable section
variable {P:Program} {K:FuncId→List Value→Option fM}
def Ok (P:Program) (K:FuncId→List Value→Option fM) (t:Task) (h:AH) (Q:Out→AH→Prop):Prop:=∃n r,run P K n t h=some r∧Q r.1 r.2
def aN {α:Type} (o:Option α) (p:α→Prop):Prop:=∃v,o=some v∧p v
def Br (v:Value) (p q:Prop):Prop:=∃b,v= .bool b∧(b=true→p)∧(b=false→q)
theorem Ok.mono {t:Task} {h:AH} {Q Q':Out→AH→Prop} (k:Ok P K t h Q) (hq:∀o h',Q o h'→Q' o h'):Ok P K t h Q':=
 let⟨n,r,h1,h2⟩:=k;⟨n,r,h1,hq _ _ h2⟩
theorem Ok.of {t:Task} {h:AH} {Q:Out→AH→Prop} {n:Nat} {o:Out} {h':AH} (hr:run P K n t h=some (o,h')) (hq:Q o h'):Ok P K t h Q:=⟨n,(o,h'),hr,hq⟩
@[simp] theorem Zy {α:Type} {v:α} {p:α→Prop}:aN (some v) p↔p v:=⟨fun⟨_,h,k⟩=>by cases h;exact k,fun k=>⟨v,rfl,k⟩⟩
@[simp] theorem dm {α:Type} {p:α→Prop}:aN none p↔False:=⟨fun⟨_,h,_⟩=>(nomatch h),False.elim⟩
@[congr] theorem Y9 {α:Type} {o o':Option α} {p:α→Prop} (h:o=o'):aN o p↔aN o' p:=by rw[h]
theorem aN.mono {α:Type} {o:Option α} {p p':α→Prop} (h:aN o p) (k:∀v,p v→p' v):aN o p':=let⟨v,a,b⟩:=h;⟨v,a,k v b⟩
@[simp] theorem Uu {p q:Prop}:Br (.bool true) p q↔p:=⟨fun⟨b,h,k,_⟩=>by cases h;exact k rfl,fun k=>⟨true,rfl,fun _=>k,by simp⟩⟩
@[simp] theorem Po {p q:Prop}:Br (.bool false) p q↔q:=⟨fun⟨b,h,_,k⟩=>by cases h;exact k rfl,fun k=>⟨false,rfl,by simp,fun _=>k⟩⟩
theorem Jc {b:Bool} {p q:Prop} (hp:b=true→p) (hq:b=false→q):Br (.bool b) p q:=⟨b,rfl,hp,hq⟩
@[congr] theorem di {v v':Value} {p q:Prop} (h:v=v'):Br v p q↔Br v' p q:=by rw[h]
def C4 (c a b:Value):Option Value:=match c with
 |.bool t=>some (if t then a else b)
 |_=>none
def wO (h:AH) (p:Value):Option Value:=match p with
 |.pointer (some a)=>if a.spot.isSome then none else
  (match h.get a.block with
  |some (.cells c _ _ _)=>c[a.off]?
  |_=>none)
 |_=>none
def yS (h:AH) (n:Nat) (p:Value):Option Value:=match p with
 |.pointer (some a)=>(aW h a n).map fun l=> .agg ⟨l⟩
 |_=>none
def sH (p:Value):Option Value:=match p with
 |.pointer (some a)=>some (.pointer (some a))
 |.func (.func f) a b=>some (.func (.func f) a b)
 |.func (.yield f) a b=>some (.func (.yield f) a b)
 |_=>none
def Wo (op:UnOp) (x:Value):Option Value:=match op,x with
 |.neg,.int k n=>some (.int k (k.wrap (0 - n)))
 |.not,.bool b=>some (.bool !b)
 |_,_=>none
def sU (k:IntKind) (x:Value):Option Value:=match x with
 |.int _ n=>some (.int k (k.wrap n))
 |_=>none
def Ai (x:Value):Option Value:=match x with
 |.string z=>some (.string z)
 |_=>none
def qH (n:Nat) (p:Value):Option Value:=match p with
 |.pointer (some a)=>some (.pointer (some (a.add n)))
 |_=>none
def Aa (off:Nat) (x:Value):Option Value:=match x with
 |.agg cs=>cs.toList[off]?
 |_=>none
def Ax (off n:Nat) (x:Value):Option Value:=match x with
 |.agg cs=>if off+n≤cs.toList.length then some (.agg ⟨(cs.toList.drop off).take n⟩) else none
 |_=>none
def sI (n sz:Nat) (x i:Value):Option Value:=match x,i with
 |.pointer (some a),.int _ i=>if 0≤i∧i<n then some (.pointer (some (a.add (i.toNat*sz)))) else none
 |_,_=>none
def vA (sz:Nat) (x i:Value):Option Value:=match x,i with
 |.slice (some a) n _,.int _ i=>if 0≤i∧i<n∧a.spot=none then some (.pointer (some (a.add (i.toNat*sz)))) else none
 |_,_=>none
def P6 (n sz:Nat) (x i:Value):Option Value:=match x,i with
 |.agg cs,.int _ i=>if 0≤i∧i<n then cs.toList[i.toNat*sz]? else none
 |_,_=>none
def Yr (n sz:Nat) (x i:Value):Option Value:=match x,i with
 |.agg cs,.int _ i=>if 0≤i∧i<n∧i.toNat*sz+sz≤cs.toList.length then some (.agg ⟨(cs.toList.drop (i.toNat*sz)).take sz⟩) else none
 |_,_=>none
def Ys (x i:Value):Option Value:=match x,i with
 |.string s,.int _ i=>if 0≤i then(s[i.toNat]?).map fun b=> .int .u8 b.toNat else none
 |_,_=>none
def tP (i:Nat) (t:Value):Option Value:=match t with
 |.tuple vs=>vs.toList[i]?
 |_=>none
def Jx (h:AH) (n:Nat) (p v:Value):Option AH:=match p with
 |.pointer (some a)=>(match fF v with
  |some vs=>if vs.length=n then cA h a vs else none
  |none=>none)
 |_=>none
def oB (e:TypeId) (v:Value):Option jN:=(fF v).map fun l=> .cells l e (0,0) true
def He (bytes:Nat) (l c:Value):Option (Nat×Nat):=match l,c with
 |.int _ l,.int _ c=>if 0≤l∧l≤c∧c≤2^40∧bytes*c≤2^47 then some (l.toNat,c.toNat) else none
 |_,_=>none
def mR (cells:List Value):List (Nat×Nat×Value)→Option (List Value)
 |[]=>some cells
 |(off,size,v)::rest=>match fF v with
  |some vs=>if vs.length=size∧off+vs.length≤cells.length then mR (aT cells off vs) rest else none
  |none=>none
def pL (place:Nat→Option (Nat×Nat)) (ev:Operand→Value):List (Nat×Operand)→Option (List (Nat×Nat×Value))
 |[]=>some []
 |(i,x)::rest=>match place i,pL place ev rest with
  |some (off,size),some l=>some ((off,size,ev x)::l)
  |_,_=>none
theorem vP {place:Nat→Option (Nat×Nat)} {ev:Operand→Value}:∀{parts:List (Nat×Operand)} {l:List (Nat×Nat×Value)} {cells:List Value},pL place ev parts=some l→vR place cells (parts.map fun p=>(p.1,ev p.2))=mR cells l
 |[],l,cells,h=>by simp only[pL,Option.some.injEq] at h;subst h;rfl
 |(i,x)::rest,l,cells,h=>by
  simp only[pL] at h
  split at h
  ·rename_i off size l' h1 h2
   cases h
   simp only[List.map_cons,vR,mR,h1]
   cases hc:fF (ev x) with
   |none=>rfl
   |some vs=>
    simp only
    split
    ·exact vP h2
    ·rfl
  ·cases h
def uA (sz:Nat) (h:AH) (x:Value) (lo hi mx:Option Value):Option Value:=match x with
 |.slice none len cap=>
  match iX mx cap cap with
  |some m=>match(if hi.isNone&&mx.isSome then none else iX hi len m) with
   |some hh=>match iX lo 0 hh with
    |some l=>some (.slice none (hh - l) (m - l))
    |none=>none
   |none=>none
  |none=>none
 |.slice (some a) len cap=>
  match iX mx cap cap with
  |some m=>match(if hi.isNone&&mx.isSome then none else iX hi len m) with
   |some hh=>match iX lo 0 hh with
    |some l=>
     if a.spot.isSome then(if len=0∧cap=0 then some (if mx.isSome then lF else Xq) else none) else
     if hh≤m then
      (if m=l then
       if mx.isSome then some lF else
       match iS h a.block with
       |some true=>some lF
       |some false=>some (nW (a.add (l*sz)))
       |none=>none
      else some (.slice (some (a.add (l*sz))) (hh - l) (m - l)))
     else none
    |none=>none
   |none=>none
  |none=>none
 |_=>none
def Yn (n sz:Nat) (x:Value) (lo hi mx:Option Value):Option Value:=match x with
 |.pointer (some a)=>
  match iX mx n n with
  |some m=>match(if hi.isNone&&mx.isSome then none else iX hi n m) with
   |some hh=>match iX lo 0 hh with
    |some l=>if a.spot=none then some (.slice (some (if m=l then a else a.add (l*sz))) (hh - l) (m - l)) else none
    |none=>none
   |none=>none
  |none=>none
 |_=>none
def Xd (x:Value) (lo hi:Option Value):Option Value:=match x with
 |.string s=>
  match iX hi s.size s.size with
  |some hh=>match iX lo 0 hh with
   |some l=>some (.string (s.extract l hh))
   |none=>none
  |none=>none
 |_=>none
def Dm (P:Program) (K:FuncId→List Value→Option fM) (f:Value) (args:List Value) (h:AH) (Q:Value→AH→Prop):Prop:=match f with
 |.func (.func g) first captured=>dS P g=true∧Ok P K (.call g (first.toList++args++captured.toList)) h fun o h'=>Q o.v h'
 |.func (.yield l) first _=>Ok P K (.round l (first.toList++args)) h fun o h'=>Q o.v h'
 |_=>False
def fo (z:Value) (h:AH) (x ix:Value) (ok:Bool):Option Value:=match Pa h x,ix with
 |some es,.int k n=>match rI k n es 0 with
  |some (some (_,v))=>some (if ok then .tuple ⟨[v,.bool true]⟩ else v)
  |some none=>some (if ok then .tuple ⟨[z,.bool false]⟩ else z)
  |none=>none
 |_,_=>none
def fS (P:Program) (ev:Operand→Value) (h:AH) (q:Value→Prop):Op→Prop
 |.move x=>q (ev x)
 |.assign x=>q (ev x)
 |.pick c a b=>aN (C4 (ev c) (ev a) (ev b)) q
 |.build t parts=>match zeroOf P t with
  |some z=>(match P.underlying t with
   |some (.struct fs)=>if fs.all (fun f=>(P.info? f.type).isSome) then(match pL (fun i=>(fs[i]?).map fun f=>(f.offset,P.cellsOf f.type)) ev parts.toList with
    |some l=>aN (mR z l) fun c=>q (.agg ⟨c⟩)
    |none=>False) else False
   |some (.array _ e)=>if(P.info? e).isSome then(match pL (fun i=>some (i*P.cellsOf e,P.cellsOf e)) ev parts.toList with
    |some l=>aN (mR z l) fun c=>q (.agg ⟨c⟩)
    |none=>False) else False
   |_=>False)
  |none=>False
 |.load t a=>match fR P t with
  |some true=>aN (yS h (P.cellsOf t) (ev a)) q
  |some false=>aN (wO h (ev a)) q
  |none=>False
 |.nilCheck x=>aN (sH (ev x)) q
 |.binOp op t x y _=>G4 P op t x y (ev x) (ev y) q aN
 |.unOp op _ x=>aN (Wo op (ev x)) q
 |.convert s d x=>match P.underlying s with
  |some .string=>(match P.underlying d with
   |some (.int k)=>aN (sU k (ev x)) q
   |some .string=>aN (Ai (ev x)) q
   |_=>False)
  |some (.slice e)=>(match P.underlying d with
   |some .string=>(match P.underlying e with
    |some (.int .u8)=>aN (strOf h (ev x)) q
    |_=>False)
   |_=>False)
  |some _=>(match P.underlying d with
   |some (.int k)=>aN (sU k (ev x)) q
   |_=>False)
  |none=>False
 |.makeInterface t x=>match P.underlying t with
  |some (.interface _)=>False
  |some _=>q (.iface t (ev x))
  |none=>False
 |.makeFunc fn first captured=>match fn with
  |.func f=>q (.func (.func f) (first.map ev) (captured.map ev))
  |_=>False
 |.slice t x lo hi mx=>match P.underlying t with
  |some (.slice e)=>if(P.info? e).isSome then aN (uA (P.cellsOf e) h (ev x) (lo.map ev) (hi.map ev) (mx.map ev)) q else False
  |some (.array n e)=>if(P.info? e).isSome then aN (Yn n (P.cellsOf e) (ev x) (lo.map ev) (hi.map ev) (mx.map ev)) q else False
  |some .string=>(match mx with
   |none=>aN (Xd (ev x) (lo.map ev) (hi.map ev)) q
   |some _=>False)
  |_=>False
 |.fieldAddr s x f=>match P.underlying s with
  |some (.struct fs)=>(match fs[f]? with
   |some fd=>if P.cellsOf fd.type=0 then False else aN (qH fd.offset (ev x)) q
   |none=>False)
  |_=>False
 |.field t x f=>match P.underlying t with
  |some (.struct fs)=>(match fs[f]? with
   |some fd=>(match fR P fd.type with
    |some true=>aN (Ax fd.offset (P.cellsOf fd.type) (ev x)) q
    |some false=>aN (Aa fd.offset (ev x)) q
    |none=>False)
   |none=>False)
  |_=>False
 |.indexAddr t x i=>match P.underlying t with
  |some (.array n e)=>if(P.info? e).isSome then aN (sI n (P.cellsOf e) (ev x) (ev i)) q else False
  |some (.slice e)=>if(P.info? e).isSome then aN (vA (P.cellsOf e) (ev x) (ev i)) q else False
  |_=>False
 |.index t x i=>match P.underlying t with
  |some (.array n e)=>if(P.info? e).isSome then(match fR P e with
   |some true=>aN (Yr n (P.cellsOf e) (ev x) (ev i)) q
   |some false=>aN (P6 n (P.cellsOf e) (ev x) (ev i)) q
   |none=>False) else False
  |some .string=>aN (Ys (ev x) (ev i)) q
  |_=>False
 |.extract t i=>aN (tP i (ev t)) q
 |.lookup t x ix ok=>match wI P t with
  |some e=>(match zeroV P e with
   |some z=>aN (fo z h (ev x) (ev ix) ok) q
   |none=>False)
  |none=>False
 |_=>False
theorem sX {ev:Operand→Value} {h:AH} {q:Value→Prop} {op:Op} (hw:fS P ev h q op):kindOf op= .qG∧∃v,aM P ev h op=some v∧q v:=by
 unfold fS at hw
 split at hw
 ·exact⟨rfl,_,rfl,hw⟩
 ·exact⟨rfl,_,rfl,hw⟩
 ·obtain⟨v,h1,h2⟩:=hw;exact⟨rfl,v,h1,h2⟩
 ·refine⟨rfl,?_⟩
  split at hw
  ·rename_i z hz
   split at hw
   ·rename_i fs hu
    split at hw
    ·rename_i hall
     split at hw
     ·rename_i l hl
      obtain⟨c,h1,h2⟩:=hw
      refine⟨_,?_,h2⟩
      simp only[aM,wJ,hz,hu,hall,if_true]
      rw[vP hl,h1];rfl
     ·cases hw
    ·cases hw
   ·rename_i e hu
    split at hw
    ·rename_i hall
     split at hw
     ·rename_i l hl
      obtain⟨c,h1,h2⟩:=hw
      refine⟨_,?_,h2⟩
      simp only[aM,wJ,hz,hu,hall,if_true]
      rw[vP hl,h1];rfl
     ·cases hw
    ·cases hw
   ·cases hw
  ·cases hw
 ·refine⟨rfl,?_⟩
  split at hw
  ·rename_i ha
   obtain⟨v,h1,h2⟩:=hw
   refine⟨v,?_,h2⟩
   unfold yS at h1
   simp only[aM]
   split at h1
   ·rename_i he;rw[he];simp only[lW,ha];exact h1
   ·cases h1
  ·rename_i ha
   obtain⟨v,h1,h2⟩:=hw
   refine⟨v,?_,h2⟩
   unfold wO at h1
   simp only[aM]
   split at h1
   ·rename_i he;rw[he];simp only[lW,ha];exact h1
   ·cases h1
  ·cases hw
 ·obtain⟨v,h1,h2⟩:=hw;exact⟨rfl,v,h1,h2⟩
 ·obtain⟨v,h1,h2⟩:=Gi hw;exact⟨rfl,v,h1,h2⟩
 ·obtain⟨v,h1,h2⟩:=hw;exact⟨rfl,v,h1,h2⟩
 ·refine⟨rfl,?_⟩
  split at hw
  ·rename_i hs
   split at hw
   ·rename_i hd
    obtain⟨v,h1,h2⟩:=hw
    refine⟨v,?_,h2⟩
    unfold sU at h1
    split at h1
    ·rename_i he;simp only[aM,hs,hd,he];exact h1
    ·cases h1
   ·rename_i hd
    obtain⟨v,h1,h2⟩:=hw
    refine⟨v,?_,h2⟩
    unfold Ai at h1
    split at h1
    ·rename_i he;simp only[aM,hs,hd,he];exact h1
    ·cases h1
   ·cases hw
  ·rename_i hs
   split at hw
   ·rename_i hd
    split at hw
    ·rename_i he
     obtain⟨v,h1,h2⟩:=hw
     refine⟨v,?_,h2⟩
     simp only[aM,hs,hd,he]
     exact h1
    ·cases hw
   ·cases hw
  ·rename_i hs
   split at hw
   ·rename_i hd
    obtain⟨v,h1,h2⟩:=hw
    refine⟨v,?_,h2⟩
    unfold sU at h1
    split at h1
    ·rename_i he;simp only[aM,hs,hd,he];exact h1
    ·cases h1
   ·cases hw
  ·cases hw
 ·refine⟨rfl,?_⟩
  split at hw
  ·cases hw
  ·rename_i t x d hn hs
   refine⟨_,?_,hw⟩
   simp only[aM]
   grind
  ·cases hw
 ·split at hw
  ·exact⟨rfl,_,rfl,hw⟩
  ·cases hw
 ·refine⟨rfl,?_⟩
  split at hw
  ·rename_i hu
   split at hw
   ·rename_i hi
    obtain⟨v,h1,h2⟩:=hw
    refine⟨v,?_,h2⟩
    unfold uA at h1
    split at h1
    ·rename_i hx;simp only[aM,hx,lT,hu,hi,if_true];exact h1
    ·rename_i hx;simp only[aM,hx,lT,hu,hi,true_and];exact h1
    ·cases h1
   ·cases hw
  ·rename_i hu
   split at hw
   ·rename_i hi
    obtain⟨v,h1,h2⟩:=hw
    refine⟨v,?_,h2⟩
    unfold Yn at h1
    split at h1
    ·rename_i hx;simp only[aM,hx,lT,hu,hi,true_and];exact h1
    ·cases h1
   ·cases hw
  ·rename_i hu
   split at hw
   ·obtain⟨v,h1,h2⟩:=hw
    refine⟨v,?_,h2⟩
    unfold Xd at h1
    split at h1
    ·rename_i hx;simp only[aM,hx,lT,hu,Option.map_none,Option.isSome_none,Bool.false_eq_true,if_false];exact h1
    ·cases h1
   ·cases hw
  ·cases hw
 ·refine⟨rfl,?_⟩
  split at hw
  ·rename_i hs
   split at hw
   ·rename_i hf
    split at hw
    ·cases hw
    ·rename_i hc
     obtain⟨v,h1,h2⟩:=hw
     refine⟨v,?_,h2⟩
     unfold qH at h1
     split at h1
     ·rename_i he;simp only[aM,hs,he,hf,hc,if_false];exact h1
     ·cases h1
   ·cases hw
  ·cases hw
 ·refine⟨rfl,?_⟩
  split at hw
  ·rename_i hs
   split at hw
   ·rename_i hf
    split at hw
    ·rename_i ha
     obtain⟨v,h1,h2⟩:=hw
     refine⟨v,?_,h2⟩
     unfold Ax at h1
     split at h1
     ·rename_i he;simp only[aM,hs,he,hf,apart,ha];exact h1
     ·cases h1
    ·rename_i ha
     obtain⟨v,h1,h2⟩:=hw
     refine⟨v,?_,h2⟩
     unfold Aa at h1
     split at h1
     ·rename_i he;simp only[aM,hs,he,hf,apart,ha];exact h1
     ·cases h1
    ·cases hw
   ·cases hw
  ·cases hw
 ·refine⟨rfl,?_⟩
  split at hw
  ·rename_i hs
   split at hw
   ·rename_i hinf
    obtain⟨v,h1,h2⟩:=hw
    refine⟨v,?_,h2⟩
    unfold sI at h1
    split at h1
    ·rename_i he he2
     split at h1
     ·rename_i hc
      simp only[aM,hs,he,he2,hc,hinf,and_self,if_true];exact h1
     ·cases h1
    ·cases h1
   ·cases hw
  ·rename_i hs
   split at hw
   ·rename_i hinf
    obtain⟨v,h1,h2⟩:=hw
    refine⟨v,?_,h2⟩
    unfold vA at h1
    split at h1
    ·rename_i he he2
     split at h1
     ·rename_i hc
      simp only[aM,hs,he,he2,hc,hinf,and_self,if_true];exact h1
     ·cases h1
    ·cases h1
   ·cases hw
  ·cases hw
 ·refine⟨rfl,?_⟩
  split at hw
  ·rename_i hs
   split at hw
   ·rename_i hinf
    split at hw
    ·rename_i ha
     obtain⟨v,h1,h2⟩:=hw
     refine⟨v,?_,h2⟩
     unfold Yr at h1
     split at h1
     ·rename_i he he2
      split at h1
      ·rename_i hc
       have hc1:=hc.1
       have hc2:=hc.2.1
       have hc3:=hc.2.2
       simp only[aM,hs,he,he2,hc1,hc2,hinf,and_self,if_true,apart,ha,hc3];exact h1
      ·cases h1
     ·cases h1
    ·rename_i ha
     obtain⟨v,h1,h2⟩:=hw
     refine⟨v,?_,h2⟩
     unfold P6 at h1
     split at h1
     ·rename_i he he2
      split at h1
      ·rename_i hc
       simp only[aM,hs,he,he2,hc,hinf,and_self,if_true,apart,ha];exact h1
      ·cases h1
     ·cases h1
    ·cases hw
   ·cases hw
  ·rename_i hs
   obtain⟨v,h1,h2⟩:=hw
   refine⟨v,?_,h2⟩
   unfold Ys at h1
   split at h1
   ·rename_i he he2;simp only[aM,hs,he,he2];exact h1
   ·cases h1
  ·cases hw
 ·obtain⟨v,h1,h2⟩:=hw;exact⟨rfl,v,h1,h2⟩
 ·refine⟨rfl,?_⟩
  split at hw
  ·rename_i e he
   split at hw
   ·rename_i z hz
    obtain⟨v,h1,h2⟩:=hw
    refine⟨v,?_,h2⟩
    unfold fo at h1
    simp only[aM,mQ,he]
    grind
   ·cases hw
  ·cases hw
 ·cases hw
end
end Go.Ab
end
section
namespace Go.Ab
noncomputable section
variable {P:Program} {K:FuncId→List Value→Option fM}
def Hh (x:Value):Option Value:=match x with
 |.string s=>some (.int .i64 s.size)
 |_=>none
def vU (x:Value):Option Value:=match x with
 |.slice _ n _=>some (.int .i64 n)
 |_=>none
def Ug (h:AH) (x:Value):Option Value:=(Pa h x).map fun es=> .int .i64 es.length
def I5 (x y:Value):Option Value:=match x,y with
 |.int k x,.int _ y=>some (.int k (if y<x then y else x))
 |_,_=>none
def H3 (x y:Value):Option Value:=match x,y with
 |.int k x,.int _ y=>some (.int k (if y>x then y else x))
 |_,_=>none
def jK (sz bytes:Nat) (e:TypeId) (h:AH) (s x:Value):Option (Value×AH):=
 match s,mB x with
 |.slice base sLen sCap,some n=>
  match eM h sz n x with
  |some new=>
   if !new.all eE||new.length !=n*sz then none else
   if sLen+n≤sCap then
    match base with
    |none=>if n=0 then some (s,h) else none
    |some a=>if n=0 then some (s,h) else if a.spot.isSome then none else
     (cA h (a.add (sLen*sz)) new).map fun h'=>(.slice base (sLen+n) sCap,h')
   else if(sLen+n)*(bytes+1)≤2^46 then
    match base with
    |none=>if sLen=0 then some (.slice (some ⟨h.next,0,none⟩) n n,h.alloc (.cells new e (0,0) false)) else none
    |some a=>
     if a.spot=some 1 then(if sLen=0 then some (.slice (some ⟨h.next,0,none⟩) n n,h.alloc (.cells new e (0,0) false)) else none) else
     if a.spot=some 2 then
      (match h.get a.block with
      |some (.cells c e' fz _)=>
       if e'=e∧h.base≤a.block∧fz=(0,0)∧a.off≤c.length∧sLen=0∧sCap=0 then
        some (.slice (some ⟨h.next,0,none⟩) n n,(h.set a.block none).alloc (.cells new e (0,0) false))
       else none
      |_=>none) else
     match aW h a (sLen*sz),h.get a.block with
     |some old,some (.cells c e' fz x)=>
      if !old.all eE then none else
      if x then some (.slice (some ⟨h.next,0,none⟩) (sLen+n) (sLen+n),h.alloc (.cells (old++new) e (0,0) false))
      else if e'=e∧h.base≤a.block∧fz=(0,0)∧a.off+sCap*sz≤c.length then
       some (.slice (some ⟨h.next,0,none⟩) (sLen+n) (sLen+n),(h.set a.block none).alloc (.cells (old++new) e (0,0) false))
      else none
     |_,_=>none
   else none
  |_=>none
 |_,_=>none
def copyV (sz:Nat) (h:AH) (d x:Value):Option (Value×AH):=
 match d,mB x with
 |.slice base dLen _,some m=>
   match eM h sz (Nat.min m dLen) x with
   |some new=>match base with
    |none=>some (.int .i64 (Nat.min m dLen:Nat),h)
    |some a=>if Nat.min m dLen=0 then some (.int .i64 0,h) else(cA h a new).map fun h'=>(.int .i64 (Nat.min m dLen:Nat),h')
   |none=>none
 |_,_=>none
def mJ (z:List Value) (h:AH) (x:Value):Option (Value×AH):=
 match x with
 |.slice none _ _=>some (.tuple #[],h)
 |.slice (some a) n _=>
   if n=0 then some (.tuple #[],h) else(cA h a (dV z n)).map fun h'=>(.tuple #[],h')
 |_=>none
def Mw (h:AH) (m key v:Value):Option AH:=match m,key with
 |.map (some r),.int k n=>if r<h.base then none else match h.get r with
  |some (.map es clock)=>(Y5 k n v es clock).map fun o=>h.set r (some o)
  |_=>none
 |_,_=>none
def Na (h:AH) (m key:Value):Option AH:=match m,key with
 |.map (some r),.int k n=>if r<h.base then none else match h.get r with
  |some (.map es clock)=>match rI k n es 0 with
   |some (some (i,_))=>some (h.set r (some (.map (es.eraseIdx i) clock)))
   |some none=>some (h.set r (some (.map es clock)))
   |none=>none
  |_=>none
 |_,_=>none
theorem Sg {h:AH} {t e:TypeId} {m key v:Value} {h':AH} (ht:wI P t=some e) (hm:Mw h m key v=some h'):sA P h t m key v=some h':=by
 unfold Mw at hm
 split at hm
 ·simp only[sA,ht];exact hm
 ·cases hm
theorem Qt {h:AH} {t e:TypeId} {m key:Value} {h':AH} (ht:wI P t=some e) (hm:Na h m key=some h'):uC P h t m key=some h':=by
 unfold Na at hm
 split at hm
 ·simp only[uC,ht];exact hm
 ·cases hm
def oD (P:Program) (h:AH) (q:Value→AH→Prop) (argTypes:Array TypeId):Builtin→List Value→Prop
 |.len,[x]=>match(argTypes[0]?).bind P.underlying with
  |some .string=>aN (Hh x) fun v=>q v h
  |some (.slice _)=>aN (vU x) fun v=>q v h
  |some (.array n _)=>q (.int .i64 n) h
  |some (.pointer e)=>(match P.underlying e with
   |some (.array n _)=>q (.int .i64 n) h
   |_=>False)
  |some (.map _ _)=>aN (Ug h x) fun v=>q v h
  |_=>False
 |.append,[s,x]=>match(argTypes[0]?).bind P.underlying with
  |some (.slice e)=>if zE P argTypes∧(zeroOf P e).isSome then aN (jK (P.cellsOf e) (P.bytesOf e) e h s x) fun r=>q r.1 r.2 else False
  |_=>False
 |.copy,[d,x]=>match(argTypes[0]?).bind P.underlying with
  |some (.slice e)=>if(P.info? e).isSome then aN (copyV (P.cellsOf e) h d x) fun r=>q r.1 r.2 else False
  |_=>False
 |.clear,[x]=>match(argTypes[0]?).bind P.underlying with
  |some (.slice e)=>(match zeroOf P e with
   |some z=>aN (mJ z h x) fun r=>q r.1 r.2
   |none=>False)
  |_=>False
 |.min,[x,y]=>aN (I5 x y) fun v=>q v h
 |.max,[x,y]=>aN (H3 x y) fun v=>q v h
 |.delete,[m,k]=>(match argTypes[0]? with
  |some t=>(match wI P t with
   |some _=>aN (Na h m k) fun h'=>q (.tuple #[]) h'
   |none=>False)
  |none=>False)
 |_,_=>False
theorem qB {h:AH} {q:Value→AH→Prop} {at_:Array TypeId} {b:Builtin} {args:List Value} (hw:oD P h q at_ b args):∃v h',cJ P h b at_ args=some (v,h')∧q v h':=by
 unfold oD at hw
 split at hw
 ·split at hw
  ·rename_i ht
   obtain⟨v,h1,h2⟩:=hw
   refine⟨v,h,?_,h2⟩
   unfold Hh at h1
   split at h1
   ·simp only[cJ,ht];cases h1;rfl
   ·cases h1
  ·rename_i ht
   obtain⟨v,h1,h2⟩:=hw
   refine⟨v,h,?_,h2⟩
   unfold vU at h1
   split at h1
   ·simp only[cJ,ht];cases h1;rfl
   ·cases h1
  ·rename_i ht
   refine⟨_,h,?_,hw⟩
   simp only[cJ,ht]
  ·rename_i ht
   split at hw
   ·rename_i ht2
    refine⟨_,h,?_,hw⟩
    simp only[cJ,ht,ht2]
   ·cases hw
  ·rename_i ht
   obtain⟨v,h1,h2⟩:=hw
   refine⟨v,h,?_,h2⟩
   unfold Ug at h1
   cases hm:Pa h _ with
   |none=>rw[hm] at h1;cases h1
   |some es=>rw[hm] at h1;cases h1;simp only[cJ,ht,hm];rfl
  ·cases hw
 ·split at hw
  ·rename_i e ht
   split at hw
   ·rename_i hc
    obtain⟨⟨v,h'⟩,h1,h2⟩:=hw
    refine⟨v,h',?_,h2⟩
    obtain⟨z,hz⟩:=Option.isSome_iff_exists.1 hc.2
    unfold jK at h1
    split at h1
    ·rename_i hl
     simp only[cJ,zB,ht,hl,hc.1,hz,Bool.not_true,Bool.false_eq_true,if_false]
     split at h1
     ·rename_i hs
      rw[hs];exact h1
     ·cases h1
    ·cases h1
   ·cases hw
  ·cases hw
 ·split at hw
  ·rename_i e ht
   split at hw
   ·rename_i hc
    obtain⟨⟨v,h'⟩,h1,h2⟩:=hw
    refine⟨v,h',?_,h2⟩
    unfold copyV at h1
    split at h1
    ·rename_i hl
     have hn:(P.info? e).isNone=false:=by simp_all
     simp only[cJ,ht,hl,hn,Bool.false_eq_true,if_false]
     exact h1
    ·cases h1
   ·cases hw
  ·cases hw
 ·split at hw
  ·rename_i e ht
   split at hw
   ·rename_i z hz
    obtain⟨⟨v,h'⟩,h1,h2⟩:=hw
    refine⟨v,h',?_,h2⟩
    unfold mJ at h1
    split at h1
    ·simp only[cJ,ht];exact h1
    ·simp only[cJ,ht,hz];exact h1
    ·cases h1
   ·cases hw
  ·cases hw
 ·obtain⟨v,h1,h2⟩:=hw
  refine⟨v,h,?_,h2⟩
  unfold I5 at h1
  split at h1
  ·simp only[cJ];cases h1;rfl
  ·cases h1
 ·obtain⟨v,h1,h2⟩:=hw
  refine⟨v,h,?_,h2⟩
  unfold H3 at h1
  split at h1
  ·simp only[cJ];cases h1;rfl
  ·cases h1
 ·split at hw
  ·rename_i t ht
   split at hw
   ·rename_i e he
    obtain⟨h',h1,h2⟩:=hw
    exact⟨_,h',by simp only[cJ,ht,Qt he h1];rfl,h2⟩
   ·cases hw
  ·cases hw
 ·cases hw
def rV (P:Program) (K:FuncId→List Value→Option fM) (ev:Operand→Value) (h:AH) (q:Value→AH→Prop):Op→Prop
 |.store t a x=>if(P.info? t).isSome then aN (Jx h (P.cellsOf t) (ev a) (ev x)) fun h'=>q undef h' else False
 |.call c=>match c.callee with
  |.builtin b=>oD P h q c.argTypes b (c.args.toList.map ev)
  |.value (.func g)=>if dS P g then Ok P K (.call g (c.args.toList.map ev)) h fun o h'=>q o.v h' else False
  |.value f=>Dm P K (ev f) (c.args.toList.map ev) h q
  |.invoke _ _=>False
 |.mapUpdate t m k x=>match wI P t with
  |some _=>aN (Mw h (ev m) (ev k) (ev x)) fun h'=>q undef h'
  |none=>False
 |_=>False
theorem O6 {f:Value} {args:List Value} {h:AH} {q:Value→AH→Prop} (hw:Dm P K f args h q):
  ∃n v h',(match f with
   |.func (.func g) first captured=>if dS P g then(run P K n (.call g (first.toList++args++captured.toList)) h).map fun r=>(r.1.v,r.2) else none
   |.func (.yield l) first _=>(run P K n (.round l (first.toList++args)) h).map fun r=>(r.1.v,r.2)
   |_=>none)=some (v,h')∧q v h':=by
 unfold Dm at hw
 split at hw
 ·obtain⟨hc,n,r,h1,h2⟩:=hw
  grind
 ·obtain⟨n,r,h1,h2⟩:=hw
  grind
 ·cases hw
theorem nF {ev:Operand→Value} (hev:∀g,ev (.func g)= .func (.func g) #[] #[]) {h:AH} {q:Value→AH→Prop} {op:Op} (hw:rV P K ev h q op):
  (kindOf op= .store∨kindOf op= .call)∧∃n v h',bZ P (run P K n) ev h op=some (v,h')∧q v h':=by
 unfold rV at hw
 split at hw
 ·refine⟨.inl rfl,?_⟩
  split at hw
  ·rename_i hinf
   obtain⟨h',h1,h2⟩:=hw
   refine⟨0,undef,h',?_,h2⟩
   unfold Jx at h1
   split at h1
   ·rename_i he
    split at h1
    ·rename_i hc
     split at h1
     ·rename_i hl
      simp only[bZ,he,zV,hc,hl,hinf,and_self,if_true,h1];rfl
     ·cases h1
    ·cases h1
   ·cases h1
  ·cases hw
 ·rename_i c
  refine⟨.inr rfl,?_⟩
  split at hw
  ·rename_i hcal
   obtain⟨v,h',h1,h2⟩:=qB hw
   refine⟨0,v,h',?_,h2⟩
   simp only[bZ,hcal,h1]
  ·rename_i hcal
   split at hw
   ·rename_i hc
    obtain⟨n,r,h1,h2⟩:=hw
    refine⟨n,_,_,?_,h2⟩
    simp only[bZ,hcal,hev,hc,if_true]
    grind
   ·cases hw
  ·rename_i f hf hcal
   obtain⟨n,v,h',h1,h2⟩:=O6 hw
   refine⟨n,v,h',?_,h2⟩
   simp only[bZ,hcal]
   exact h1
  ·cases hw
 ·refine⟨.inl rfl,?_⟩
  split at hw
  ·rename_i e he
   obtain⟨h',h1,h2⟩:=hw
   exact⟨0,undef,h',by simp only[bZ,Sg he h1];rfl,h2⟩
  ·cases hw
 ·cases hw
def Q1 (l c i:Nat):Value:= .slice (some ⟨i,0,none⟩) l c
def Xz (i:Nat):Value:= .pointer (some ⟨i,0,none⟩)
def Ty (i:Nat):Value:= .map (some i)
def sF (P:Program) (ev:Operand→Value) (q:jN→(Nat→Value)→Prop):Op→Prop
 |.alloc e=>match zeroOf P e with
  |some z=>q (.cells z e (0,0) true) Xz
  |none=>False
 |.box e x=>aN (oB e (ev x)) fun b=>q b Xz
 |.buildSlice t len parts=>match P.underlying t with
  |some (.slice e)=>(match zeroOf P e with
   |some z=>if len*P.cellsOf e≤2^24 then(match pL (fun i=>some (i*P.cellsOf e,P.cellsOf e)) ev parts.toList with
    |some ps=>aN (mR (dV z len) ps) fun l=>q (.cells l e (0,0) true) (Q1 len len)
    |none=>False) else False
   |none=>False)
  |_=>False
 |.makeSlice t l c=>match P.underlying t with
  |some (.slice e)=>(match zeroOf P e with
   |some z=>aN (He (P.bytesOf e) (ev l) (ev c)) fun n=>q (.cells (dV z n.2) e (0,0) true) (Q1 n.1 n.2)
   |none=>False)
  |_=>False
 |.makeMap _ none=>q (.map [] 0) Ty
 |.makeMap t (some x)=>match P.underlying t with
  |some (.map _ _)=>∃k n,ev x= .int k n∧q (.map [] 0) Ty
  |_=>False
 |_=>False
theorem sO {ev:Operand→Value} {q:jN→(Nat→Value)→Prop} {op:Op} (hw:sF P ev q op):kindOf op= .alloc∧∃b f,cC P ev op=some (b,f)∧q b f:=by
 unfold sF at hw
 split at hw
 ·refine⟨rfl,?_⟩
  split at hw
  ·rename_i hz
   exact⟨_,_,by simp only[cC,hz];rfl,hw⟩
  ·cases hw
 ·refine⟨rfl,?_⟩
  obtain⟨b,h1,h2⟩:=hw
  refine⟨b,Xz,?_,h2⟩
  unfold oB at h1
  simp only[Option.map_eq_some_iff] at h1
  obtain⟨l,h1,rfl⟩:=h1
  simp only[cC,h1];rfl
 ·refine⟨rfl,?_⟩
  split at hw
  ·rename_i ht
   split at hw
   ·rename_i hz
    split at hw
    ·rename_i hc
     split at hw
     ·rename_i ps hps
      obtain⟨l,h1,h2⟩:=hw
      refine⟨_,_,?_,h2⟩
      simp only[cC,ht,hz,hc,if_true]
      rw[vP hps,h1];rfl
     ·cases hw
    ·cases hw
   ·cases hw
  ·cases hw
 ·refine⟨rfl,?_⟩
  split at hw
  ·rename_i ht
   split at hw
   ·rename_i hz
    obtain⟨n,h1,h2⟩:=hw
    refine⟨_,_,?_,h2⟩
    unfold He at h1
    split at h1
    ·rename_i e1 e2
     split at h1
     ·rename_i hc
      cases h1
      simp only[cC,ht,e1,e2,hz,hc,and_self,if_true]
      rfl
     ·cases h1
    ·cases h1
   ·cases hw
  ·cases hw
 ·exact⟨rfl,_,_,rfl,hw⟩
 ·refine⟨rfl,?_⟩
  split at hw
  ·rename_i ht
   obtain⟨k,n,h1,h2⟩:=hw
   exact⟨_,_,by simp only[cC,ht,h1];rfl,h2⟩
  ·cases hw
 ·cases hw
end
end Go.Ab
end
section
namespace Go.Ab
noncomputable section
variable {P:Program} {K:FuncId→List Value→Option fM}
abbrev Ci:=List (Tmp×Option Bool)
def fa:Option Bool→Value
 |some b=> .bool b
 |none=>undef
def Ci.drop (d:Ci) (t:Option Tmp):Ci:=match t with
 |some t=>d.filter fun x=>x.1 !=t
 |none=>d
def Ci.ok (d:Ci) (env:List Value):Prop:=∀t b,(t,b)∈d→env[t]?=some (fa b)
def L0 (jV:Nat→Option Tmp) (env:List Value) (dec:Ci) (g:Option (Nat×Bool)) (p:Bool→List Value→Ci→Prop):Prop:=
 match g with
 |none=>p true env dec
 |some (j,want)=>match jV j with
  |none=>False
  |some d=>match dec.lookup d with
   |some (some b)=>p (b==want) env dec
   |some none=>p false env dec
   |none=>Br (env.getD d undef) (p (true==want) (env.set d (.bool true)) ((d,some true)::dec)) (p (false==want) (env.set d (.bool false)) ((d,some false)::dec))
def F5 (h:AH) (b:jN) (p:Nat→AH→Prop):Prop:=p h.next (h.alloc b)
def qD (h:AH) (r:Nat) (b:jN) (p:Nat→AH→Prop):Prop:=p r (h.set r (some b))
def oC (h:AH) (n:Nat) (p:Nat→AH→Prop):Prop:=p h.next {h with next:=h.next+n}
def wpOp (P:Program) (K:FuncId→List Value→Option fM) (env:List Value) (h:AH) (q:Value→AH→Prop) (op:Op):Prop:=
 match kindOf op with
 |.qG=>fS P (bB P env) h (fun v=>q v h) op
 |.alloc=>sF P (bB P env) (fun b f=>F5 h b fun i h'=>q (f i) h') op
 |.store|.call=>rV P K (bB P env) h q op
 |.other=>False
theorem Kf {env:List Value} {h:AH} {q:Value→AH→Prop} {op:Op} (hw:wpOp P K env h q op):∃n v h',gW P (run P K n) env h op=some (v,h')∧q v h':=by
 unfold wpOp at hw
 cases hk:kindOf op with
 |qG=>
  simp only[hk] at hw
  obtain⟨_,v,h1,h2⟩:=sX hw
  exact⟨0,v,h,by simp only[gW,hk,h1];rfl,h2⟩
 |alloc=>
  simp only[hk] at hw
  obtain⟨_,b,f,h1,h2⟩:=sO hw
  exact⟨0,_,_,by simp only[gW,hk,h1];rfl,h2⟩
 |store=>
  simp only[hk] at hw
  obtain⟨_,n,v,h',h1,h2⟩:=nF (fun g=>rfl) hw
  exact⟨n,v,h',by simp only[gW,hk,h1],h2⟩
 |call=>
  simp only[hk] at hw
  obtain⟨_,n,v,h',h1,h2⟩:=nF (fun g=>rfl) hw
  exact⟨n,v,h',by simp only[gW,hk,h1],h2⟩
 |other=>simp only[hk] at hw
def V7 (env:List Value) (d:Option Tmp):Bool:=match d with
 |some d=>decide (d<env.length)
 |none=>true
def Pw (dec:Ci) (op:Op):Option Operand:=match op with
 |.pick (.tmp c) a b=>(match dec.lookup c with
  |some (some true)=>some a
  |some (some false)=>some b
  |_=>none)
 |.move x=>some x
 |.assign x=>some x
 |_=>none
def P2 (dec:Ci) (x:Operand):Option Bool:=match x with
 |.const (.bool y)=>some y
 |.tmp t=>(match dec.lookup t with
  |some (some y)=>some y
  |_=>none)
 |_=>none
def Ci.put (dec:Ci) (dst:Option Tmp) (x:Operand):Ci:=match dst,P2 dec x with
 |some d,some y=>(d,some y)::dec.drop (some d)
 |d,_=>dec.drop d
def Ci.skip (dec:Ci) (env:List Value) (dst:Option Tmp):Ci:=match dst with
 |some d=>if d<env.length then(d,none)::dec.drop (some d) else dec.drop (some d)
 |none=>dec
def wpOps (P:Program) (K:FuncId→List Value→Option fM) (jV:Nat→Option Tmp):List Oper→List Value→AH→Ci→(List Value→AH→Ci→Prop)→Prop
 |[],env,h,dec,q=>q env h dec
 |o::os,env,h,dec,q=>L0 jV env dec o.guard fun b env dec=>
  match b with
  |true=>(match Pw dec o.op with
   |some x=>wpOps P K jV os (fP env o.dst (bB P env x)) h (if V7 env o.dst then dec.put o.dst x else dec.drop o.dst) q
   |none=>wpOp P K env h (fun v h'=>wpOps P K jV os (fP env o.dst v) h' (dec.drop o.dst) q) o.op)
  |false=>wpOps P K jV os (fP env o.dst undef) h (dec.skip env o.dst) q
def fh (P:Program) (h:AH) (q:Value→Prop) (argTypes:Array TypeId):Builtin→List Value→Prop
 |.len,[x]=>match(argTypes[0]?).bind P.underlying with
  |some .string=>aN (Hh x) q
  |some (.slice _)=>aN (vU x) q
  |some (.array n _)=>q (.int .i64 n)
  |some (.pointer e)=>(match P.underlying e with
   |some (.array n _)=>q (.int .i64 n)
   |_=>False)
  |some (.map _ _)=>aN (Ug h x) q
  |_=>False
 |.min,[x,y]=>aN (I5 x y) q
 |.max,[x,y]=>aN (H3 x y) q
 |_,_=>False
def cn (P:Program) (ev:Operand→Value) (h:AH) (q:Value→Prop):Op→Prop
 |.call c=>match c.callee with
  |.builtin b=>fh P h q c.argTypes b (c.args.toList.map ev)
  |_=>False
 |op=>fS P ev h q op
structure DR where
 env:List Value
 h:AH
 v:Value
 dq:Bool
def cx (P:Program) (K:FuncId→List Value→Option fM) (r:Nat) (env:List Value) (h:AH) (q:Value→AH→Prop) (op:Op):Prop:=
 match eB op with
 |true=>cn P (bB P env) h (fun v=>q v h) op
 |false=>match kindOf op with
  |.alloc=>sF P (bB P env) (fun b f=>qD h r b fun i h'=>q (f i) h') op
  |_=>rV P K (bB P env) h q op
def yX (P:Program) (K:FuncId→List Value→Option fM) (jV:Nat→Option Tmp):Nat→List Oper→List Value→AH→Ci→List DR→(List DR→List Value→AH→Ci→Prop)→Prop
 |_,[],env,h,dec,rs,q=>q rs env h dec
 |r,o::os,env,h,dec,rs,q=>L0 jV env dec o.guard fun b env dec=>
  match b with
  |true=>(match Pw dec o.op with
   |some x=>yX P K jV (r+1) os (fP env o.dst (bB P env x)) h (if V7 env o.dst then dec.put o.dst x else dec.drop o.dst) (rs++[⟨env,h,bB P env x,true⟩]) q
   |none=>cx P K r env h (fun v h'=>yX P K jV (r+1) os (fP env o.dst v) h' (dec.drop o.dst) (rs++[⟨env,h,v,true⟩]) q) o.op)
  |false=>yX P K jV (r+1) os (fP env o.dst undef) h (dec.skip env o.dst) (rs++[⟨env,h,undef,false⟩]) q
def Yg (P:Program) (all:List Oper) (rs:List DR) (hEnd:AH):List (Nat×Nat)→Prop→Prop
 |[],p=>p
 |(i,s)::fs,p=>match all[i]? with
  |some o=>(match rs[i]? with
   |some r=>(match r.dq with
    |true=>cn P (bB P r.env) (match rs[s]? with|some q=>q.h|none=>hEnd) (fun v=>mL v r.v=true) o.op∧Yg P all rs hEnd fs p
    |false=>Yg P all rs hEnd fs p)
   |none=>False)
  |none=>False
def W9 (P:Program) (K:FuncId→List Value→Option fM) (ops:Array Oper) (env:List Value) (h:AH) (q:List Value→AH→Ci→Prop):Prop:=
 if xG ops.toList&&(P.follows .mixedOrders|| !Region.departs ops) then
  oC h ops.size fun r h1=>yX P K (fun j=>(ops[j]?).bind (·.dst)) r ops.toList env h1 [] [] fun rs env' h' dec=>Yg P ops.toList rs h' (tS ops.toList) (q env' h' dec)
 else False
end
end Go.Ab
end
section
namespace Go.Ab
noncomputable section
variable {P:Program} {K:FuncId→List Value→Option fM}
section
variable {fn:FuncId} {ro:Option Nat} {ds:List Nat} {env:List Value} {k:List Item} {h:AH} {Q:Out→AH→Prop}
theorem vD {t t':Task} {h':AH} (hs:∀n,run P K (n+1) t h=run P K n t' h') (hw:Ok P K t' h' Q):Ok P K t h Q:=by
 obtain⟨n,r,h1,h2⟩:=hw
 exact⟨n+1,r,by rw[hs];exact h1,h2⟩
theorem Fe {c:Operand} {t e:Code} (hw:Br (bB P env c) (Ok P K (.todo fn ro ds env (.code t::k)) h Q) (Ok P K (.todo fn ro ds env (.code e::k)) h Q)):
  Ok P K (.todo fn ro ds env (.code (.cond c t e)::k)) h Q:=by
 obtain⟨b,hb,ht,hf⟩:=hw
 cases b with
 |true=>exact vD (t':= .todo fn ro ds env (.code t::k)) (fun n=>by show bX _ _ _ _ _ _ _ _=_;simp only[bX,hb,if_true]) (ht rfl)
 |false=>exact vD (t':= .todo fn ro ds env (.code e::k)) (fun n=>by show bX _ _ _ _ _ _ _ _=_;simp[bX,hb]) (hf rfl)
end
def nL (h:AH) (l:Nat):Option AH:=match h.get l with
 |some (.loop .ready _ _ _ _ _ _ _)=>bP h l .busy none
 |_=>none
def vZ (h:AH) (l:Nat):Option (Option Code×AH):=match h.get l with
 |some (.loop st p _ _ _ _ _ _)=>if st= .busy then none else(bP h l .exhausted none).map fun h'=>(p,h')
 |_=>none
def mE (h:AH) (l:Nat):Option Nat:=match h.get l with
 |some (.loop _ _ _ _ _ _ _ d)=>some d
 |_=>none
def V2 (P:Program) (K:FuncId→List Value→Option fM) (f:Value) (l:Nat) (h:AH) (q:Value→AH→Prop):Prop:=match f with
 |.func (.func g) first captured=>dS P g=true∧Ok P K (.call g (first.toList++[.func (.yield l) #[] #[]]++captured.toList)) h fun o h'=>q o.v h'
 |_=>False
def kE:Code→Option Nat
 |.region id _ _=>some id
 |.seq a b=>(match kE a with
  |some r=>some r
  |none=>kE b)
 |.block _ b=>kE b
 |.loop b=>kE b
 |.scope b=>kE b
 |_=>none
def keyOf:List Item→Option Nat
 |.code c::k=>(match kE c with
  |some r=>some r
  |none=>keyOf k)
 |.inLoop c::k=>(match kE c with
  |some r=>some r
  |none=>keyOf k)
 |_::k=>keyOf k
 |[]=>none
def fL:Code→List Nat
 |.exit id=>[id]
 |.seq a b=>fL a++fL b
 |.cond _ t e=>fL t++fL e
 |.block id b=>(fL b).filter (·!=id)
 |.loop b=>fL b
 |.scope b=>fL b
 |.rangeFunc _ _ a b=>fL a++fL b
 |_=>[]
def Ak (p:Option Code) (a b:Prop) (c:List (Nat×Prop)):Prop:=match p with
 |none=>a
 |some .ret=>b
 |some (.exit id)=>(match c.lookup id with
  |some q=>q
  |none=>False)
 |_=>False
def A9 (P:Program) (K:FuncId→List Value→Option fM) (fn:FuncId) (f:Value) (n:Nat) (lv:List Nat) (vs:List Value) (ps:Array Tmp) (assign body:Code) (d:Nat) (h:AH) (q:Option Code→AH→Prop):Prop:=
 ∀e:Nat→Value,lv.map e=vs→F5 h (.loop .ready none fn ((List.range n).map e) ps assign body d) fun l h2=>V2 P K f l h2 fun _ h3=>aN (vZ h3 l) fun r=>q r.1 r.2
def Ex (L:List (Option Nat×List Nat)) (k:List Item):List Nat:=(L.lookup (keyOf k)).getD []
def iO:Nat→List Item→List Item
 |0,k=>k
 |n+1,k=>match k with
  |.code c::k'=>(match c with
   |.skip=>iO n k'
   |.label _=>iO n k'
   |.seq a b=>iO n (.code a:: .code b::k')
   |.block id b=>iO n (.code b:: .inBlock id::k')
   |.scope b=>iO n (.code b:: .inScope b::k')
   |.loop b=>iO n (.code b:: .inLoop b::k')
   |.exit id=>(match exitTo id k' with
    |some k2=>iO n k2
    |none=>k)
   |_=>k)
  |.inBlock _::k'=>iO n k'
  |.inScope _::k'=>iO n k'
  |.inLoop b::k'=>iO n (.code b:: .inLoop b::k')
  |_=>k
def Vy:List Item→Bool
 |[]=>true
 |.code .ret::_=>true
 |.code (.exit _)::_=>true
 |_=>false
def short (k:List Item):Bool:=match iO 60 k with
 |.code (.region _ _ _)::k'=>Vy (iO 60 k')
 |k'=>Vy k'
def Cn (P:Program) (K:FuncId→List Value→Option fM) (E:List Nat→List Value→List Item→AH→Prop) (F:oG→List Nat→List Value→AH→Prop) (L:List (Option Nat×List Nat)) (fn:FuncId) (ro:Option Nat):
  Nat→Ci→List Nat→List Value→List Item→AH→Prop
 |0,_,ds,env,k,h=>E ds env k h
 |n+1,dec,ds,env,k,h=>
  match k with
  |[]=>F .fU ds env h
  |.code c::k=>
   (match c with
   |.skip=>Cn P K E F L fn ro n dec ds env k h
   |.label _=>Cn P K E F L fn ro n dec ds env k h
   |.seq a b=>Cn P K E F L fn ro n dec ds env (.code a:: .code b::k) h
   |.cond c t e=>(match P2 dec c with
    |some true=>Cn P K E F L fn ro n dec ds env (.code t::k) h
    |some false=>Cn P K E F L fn ro n dec ds env (.code e::k) h
    |none=>Br (bB P env c)
     (match short (.code t::k) with
     |true=>Cn P K E F L fn ro n dec ds env (.code t::k) h
     |false=>E ds env (iO 60 (.code t::k)) h)
     (match short (.code e::k) with
     |true=>Cn P K E F L fn ro n dec ds env (.code e::k) h
     |false=>E ds env (iO 60 (.code e::k)) h))
   |.block id b=>Cn P K E F L fn ro n dec ds env (.code b:: .inBlock id::k) h
   |.loop b=>E ds env (iO 60 (.code b:: .inLoop b::k)) h
   |.scope b=>Cn P K E F L fn ro n dec ds env (.code b:: .inScope b::k) h
   |.exit id=>(match exitTo id k with
    |some k'=>Cn P K E F L fn ro n dec ds env k' h
    |none=>if ro.isSome then F (.exit id) ds env h else False)
   |.ret=>F .ret ds env h
   |.region _ ops false=>wpOps P K (fun j=>(ops[j]?).bind (·.dst)) ops.toList env h dec fun env' h' dec'=>Cn P K E F L fn ro n dec' ds env' k h'
   |.region _ ops true=>W9 P K ops env h fun env' h' dec'=>Cn P K E F L fn ro n dec' ds env' k h'
   |.rangeFunc f ps assign body=>
    (match ro with
    |none=>F5 h (.marks true) fun d h1=>A9 P K fn (bB P env f) env.length (Ex L [.code assign,.beginRound,.code body]) ((Ex L [.code assign,.beginRound,.code body]).map fun t=>env.getD t undef) ps assign body d h1 fun p h'=>
      Ak p (Cn P K E F L fn ro n dec (d::ds) env k h') (Cn P K E F L fn ro n dec (d::ds) env (.code .ret::k) h') ((fL body).map fun id=>(id,Cn P K E F L fn ro n dec (d::ds) env (.code (.exit id)::k) h'))
    |some l=>aN (mE h l) fun d=>A9 P K fn (bB P env f) env.length (Ex L [.code assign,.beginRound,.code body]) ((Ex L [.code assign,.beginRound,.code body]).map fun t=>env.getD t undef) ps assign body d h fun p h'=>
      Ak p (Cn P K E F L fn ro n dec ds env k h') (Cn P K E F L fn ro n dec ds env (.code .ret::k) h') ((fL body).map fun id=>(id,Cn P K E F L fn ro n dec ds env (.code (.exit id)::k) h')))
   |_=>False)
  |.inBlock _::k=>Cn P K E F L fn ro n dec ds env k h
  |.inScope _::k=>Cn P K E F L fn ro n dec ds env k h
  |.inLoop b::k=>E ds env (iO 60 (.code b:: .inLoop b::k)) h
  |.beginRound::k=>
   (match ro with
   |some l=>aN (nL h l) fun h'=>Cn P K E F L fn ro n dec ds env k h'
   |none=>False)
  |_=>False
theorem Di {env:List Value} {n:Nat} (h:env.length=n):(List.range n).map (fun t=>env.getD t undef)=env:=by
 refine List.ext_getElem? fun i=>?_
 grind
theorem Ku {l:List Nat} {f:Nat→Prop} {id:Nat} {q:Prop} (h:(l.map fun i=>(i,f i)).lookup id=some q):q=f id:=by
 induction l with
 |nil=>simp at h
 |cons i l ih=>
  grind
theorem A4 {fn:FuncId} {f:Value} {env:List Value} {lv:List Nat} {ps:Array Tmp} {assign body:Code} {d:Nat} {h:AH} {q:Option Code→AH→Prop}
  (hw:A9 P K fn f env.length lv (lv.map fun t=>env.getD t undef) ps assign body d h q):
  ∃n g first captured o h3 p h4,f= .func (.func g) first captured∧dS P g=true∧run P K n (.call g (first.toList++[.func (.yield h.next) #[] #[]]++captured.toList)) (h.alloc (.loop .ready none fn env ps assign body d))=some (o,h3)∧
   vZ h3 h.next=some (p,h4)∧q p h4:=by
 have:=hw (fun t=>env.getD t undef) rfl
 rw[Di rfl] at this
 unfold F5 V2 at this
 split at this
 ·rename_i g first captured
  obtain⟨hc,n,r,h1,⟨p,h4⟩,h2,h3⟩:=this
  grind
 ·cases this
theorem Bb {fn:FuncId} {ro:Option Nat} {ds:List Nat} {env:List Value} {h:AH} {Q:Out→AH→Prop}:∀(n:Nat) {k:List Item},Ok P K (.todo fn ro ds env (iO n k)) h Q→Ok P K (.todo fn ro ds env k) h Q
 |0,_,hw=>hw
 |n+1,k,hw=>by
  have st:∀{k':List Item},Ok P K (.todo fn ro ds env (iO n k')) h Q→(∀m,run P K (m+1) (.todo fn ro ds env k) h=run P K m (.todo fn ro ds env k') h)→Ok P K (.todo fn ro ds env k) h Q:=
   fun hw hs=>vD hs (Bb n hw)
  unfold iO at hw
  split at hw
  ·split at hw
   ·exact st hw fun _=>rfl
   ·exact st hw fun _=>rfl
   ·exact st hw fun _=>rfl
   ·exact st hw fun _=>rfl
   ·exact st hw fun _=>rfl
   ·exact st hw fun _=>rfl
   ·split at hw
    ·rename_i hx
     refine st hw fun m=>?_
     show bX P (run P K m) _ _ _ _ _ _=_
     simp only[bX,hx]
    ·exact hw
   ·exact hw
  ·exact st hw fun _=>rfl
  ·exact st hw fun _=>rfl
  ·exact st hw fun _=>rfl
  ·exact hw
def Js (P:Program) (f:FuncId) (Q:Value→AH→Prop):Out→AH→Prop:=fun o h1=>
 match o.leave with
 |.exit _=>False
 |_=>aN (bQ o.ds h1) fun h2=>aN (dE P h2 o.env ((P.funcs[f]?).elim [] fun fn=>fn.results.toList)) fun vs=>Q (oneOf vs) h2
theorem U0 {f:FuncId} {fn:Func} {body:Code} {args:List Value} {h:AH} {Q:Value→AH→Prop} (hf:P.funcs[f]?=some fn) (hb:fn.body=some body) (hK:K f args=none)
  (hw:Ok P K (.todo f none [] (args++List.replicate (fn.ntmps - args.length) undef) [.code body]) h (Js P f Q)):Ok P K (.call f args) h fun o h'=>Q o.v h':=by
 obtain⟨n,⟨o,g⟩,h1,h2⟩:=hw
 simp only at h2
 have key:(∀id,o.leave≠.exit id)→(aN (bQ o.ds g) fun h2=>aN (dE P h2 o.env ((P.funcs[f]?).elim [] fun fn=>fn.results.toList)) fun vs=>Q (oneOf vs) h2)→Ok P K (.call f args) h fun o h'=>Q o.v h':=by
  intro hne ⟨h3,hc,vs,hv,hq⟩
  rw[hf] at hv
  simp only[Option.elim_some] at hv
  refine⟨n+1,(⟨.fU,[],[],oneOf vs⟩,h3),?_,hq⟩
  show gV P K (run P K n) f args h=_
  simp only[gV,hK,hf,hb]
  rw[h1]
  cases hlv:o.leave with
  |exit id=>exact absurd hlv (hne id)
  |fU=>grind
  |ret=>grind
 unfold Js at h2
 grind
def Pt (P:Program) (K:FuncId→List Value→Option fM) (fn:FuncId) (ro:Option Nat) (Q:Out→AH→Prop) (n:Nat) (lv:List Nat) (k:List Item) (ds:List Nat) (vs:List Value) (h:AH):Prop:=
 ∀e:Nat→Value,lv.map e=vs→Ok P K (.todo fn ro ds ((List.range n).map e) k) h Q
def Fs (P:Program) (h:AH) (env:List Value):List ResultVar→(List Value→Prop)→Prop
 |[],p=>p []
 |.tmp t::rs,p=>Fs P h env rs fun l=>p (env.getD t undef::l)
 |.cell a t::rs,p=>match fR P t with
  |some true=>aN (yS h (P.cellsOf t) (env.getD a undef)) fun v=>Fs P h env rs fun l=>p (v::l)
  |some false=>aN (wO h (env.getD a undef)) fun v=>Fs P h env rs fun l=>p (v::l)
  |none=>False
theorem lU {h:AH} {env:List Value}:∀{rs:List ResultVar} {p:List Value→Prop},Fs P h env rs p→∃l,dE P h env rs=some l∧p l
 |[],p,hw=>⟨[],rfl,hw⟩
 |.tmp t::rs,p,hw=>by
  obtain⟨l,h1,h2⟩:=lU (rs:=rs) hw
  exact⟨_,by simp only[dE,h1];rfl,h2⟩
 |.cell a t::rs,p,hw=>by
  simp only[Fs] at hw
  split at hw
  ·rename_i ha
   obtain⟨v,h1,hw⟩:=hw
   obtain⟨l,h2,h3⟩:=lU (rs:=rs) hw
   refine⟨v::l,?_,h3⟩
   unfold yS at h1
   split at h1
   ·rename_i x he
    have hl:lW P h t x=some v:=by unfold lW;rw[ha];exact h1
    simp only[dE,he,hl,h2]
   ·cases h1
  ·rename_i ha
   obtain⟨v,h1,hw⟩:=hw
   obtain⟨l,h2,h3⟩:=lU (rs:=rs) hw
   refine⟨v::l,?_,h3⟩
   unfold wO at h1
   split at h1
   ·rename_i x he
    have hl:lW P h t x=some v:=by unfold lW;rw[ha];exact h1
    simp only[dE,he,hl,h2]
   ·cases h1
  ·cases hw
def X3 (P:Program) (f:FuncId) (Q:Value→AH→Prop) (lv:oG) (ds:List Nat) (env:List Value) (h:AH):Prop:=match lv with
 |.exit _=>False
 |_=>aN (bQ ds h) fun h2=>Fs P h2 env ((P.funcs[f]?).elim [] fun fn=>fn.results.toList) fun l=>Q (oneOf l) h2
theorem Kp {f:FuncId} {Q:Value→AH→Prop} {lv:oG} {ds:List Nat} {env:List Value} {h:AH} (hw:X3 P f Q lv ds env h):Js P f Q ⟨lv,ds,env,undef⟩ h:=by
 unfold X3 at hw
 unfold Js
 cases lv with
 |exit id=>exact hw
 |fU=>obtain⟨h2,hc,hw⟩:=hw;obtain⟨l,h3,h4⟩:=lU hw;simp_all
 |ret=>obtain⟨h2,hc,hw⟩:=hw;obtain⟨l,h3,h4⟩:=lU hw;simp_all
theorem Qr {f:FuncId} {args:List Value} {v:Value} {h:AH} {Q:Value→AH→Prop} (hK:K f args=some (.val v)) (hw:Q v h):Ok P K (.call f args) h fun o h'=>Q o.v h':=
 ⟨1,(⟨.fU,[],[],v⟩,h),by show gV _ _ _ _ _ _=_;simp only[gV,hK],hw⟩
def uJ (l:Nat) (Q:Value→AH→Prop):Out→AH→Prop:=fun o h1=>
 o.ds=[]∧match o.leave with
 |.fU=>aN (bP h1 l .ready (some none)) fun h2=>Q (.bool true) h2
 |.ret=>aN (bP h1 l .done (some (some .ret))) fun h2=>Q (.bool false) h2
 |.exit id=>aN (bP h1 l .done (some (some (.exit id)))) fun h2=>Q (.bool false) h2
theorem R8 {l:Nat} {args:List Value} {h:AH} {st:LoopState} {p:Option Code} {fn:FuncId} {tmps:List Value} {ps:Array Tmp} {assign body:Code} {d:Nat} {Q:Value→AH→Prop}
  (hg:h.get l=some (.loop st p fn tmps ps assign body d)) (hl:args.length=ps.size)
  (hw:Ok P K (.todo fn (some l) [] ((ps.toList.zip args).foldl (fun t (p,v)=>t.set p v) tmps) [.code assign,.beginRound,.code body]) h (uJ l Q)):Ok P K (.round l args) h fun o h'=>Q o.v h':=by
 obtain⟨n,r,h1,h2,h3⟩:=hw
 obtain⟨o,h4⟩:=r
 simp only at h2 h3
 have key:∀o' h5,(match o.leave with
     |.fU=>(bP h4 l .ready (some none)).map fun h2=>((⟨.fU,[],[],.bool true⟩:Out),h2)
     |.ret=>(bP h4 l .done (some (some .ret))).map fun h2=>(⟨.fU,[],[],.bool false⟩,h2)
     |.exit id=>(bP h4 l .done (some (some (.exit id)))).map fun h2=>(⟨.fU,[],[],.bool false⟩,h2))=some (o',h5)→Q o'.v h5→Ok P K (.round l args) h fun o h'=>Q o.v h':=by
  intro o' h5 he hq
  refine⟨n+1,(o',h5),?_,hq⟩
  show iP (run P K n) l args h=_
  simp only[iP,hg,hl,if_true]
  grind
 split at h3
 ·rename_i hlv
  obtain⟨h5,h6,h7⟩:=h3
  grind
 ·rename_i hlv
  obtain⟨h5,h6,h7⟩:=h3
  grind
 ·rename_i hlv
  obtain⟨h5,h6,h7⟩:=h3
  grind
def Fo (l:Nat) (Q:Value→AH→Prop) (lv:oG) (ds:List Nat) (_env:List Value) (h:AH):Prop:=match ds with
 |[]=>(match lv with
  |.fU=>aN (bP h l .ready (some none)) fun h2=>Q (.bool true) h2
  |.ret=>aN (bP h l .done (some (some .ret))) fun h2=>Q (.bool false) h2
  |.exit id=>aN (bP h l .done (some (some (.exit id)))) fun h2=>Q (.bool false) h2)
 |_=>False
theorem Fm {l:Nat} {Q:Value→AH→Prop} {lv:oG} {ds:List Nat} {env:List Value} {h:AH} (hw:Fo l Q lv ds env h):uJ l Q ⟨lv,ds,env,undef⟩ h:=by
 unfold Fo at hw
 cases ds with
 |nil=>refine⟨rfl,?_⟩;cases lv<;>exact hw
 |cons d ds=>exact hw.elim
end
end Go.Ab
end
section
namespace Go.Ab
noncomputable section
open Go.RowKit
variable {P:Program} {K:FuncId→List Value→Option fM}
def start (base:Nat) (old:Nat→Option jN):AH:={base:=base,next:=base,old:=old,new:= .lf}
theorem nU {base:Nat} {old:Nat→Option jN} (i:Nat):(start base old).get i=if i<base then old i else none:=by
 rw[AH.get_eq];unfold start
 split
 ·rfl
 ·cases i - base<;>rfl
structure Reads (P:Program) (base:Nat) (old:Nat→Option jN) (ρ:fN) (w:World):Prop where
 nJ:∀i o,i<base→old i=some o→∀b s,ρ i=some (b,s)→∃o',w.heap[b]?=some o'∧pA P ρ s o o'
 low:∀i b s,i<base→ρ i=some (b,s)→b<w.heap.size
 none:∀i,base≤i→ρ i=none
 lM:∀g,g<P.globals.size→ρ g=some (g,(0,0))
theorem Reads.inv {base:Nat} {old:Nat→Option jN} {ρ:fN} {w:World} (r:Reads P base old ρ w):Inv P w.heap.size ρ (start base old) w where
 nJ:=fun i o hg b s hr=>by
  rw[nU] at hg
  split at hg
  ·rename_i hi;exact r.nJ i o hi hg b s hr
  ·cases hg
 inj:=fun i j b si sj hi _ gi=>by
  rw[nU,if_neg (Nat.not_lt.2 (show base≤_ from hi))] at gi;cases gi
 low:=fun i b s hi gi=>by
  rw[nU,if_neg (Nat.not_lt.2 (show base≤_ from hi))] at gi;cases gi
 old:=fun i b s hi hr=>r.low i b s hi hr
 fresh:=fun i hi=>r.none i hi
 fD:=fun i hi=>by rw[nU,if_neg (Nat.not_lt.2 (show base≤_ from hi))]
 lM:=r.lM
 size:=Nat.le_refl _
 bn:=Nat.le_refl _
theorem Iw {w:World} (C:Ctx P w.heap.size K) (hg:C.G w) {base:Nat} {old:Nat→Option jN} {ρ:fN} (r:Reads P base old ρ w) {f:FuncId} {args args':List Value} (ha:aH ρ args args') {Q:Out→AH→Prop}
  (hok:Ok P K (.call f args) (start base old) Q):
  Calls P f ⟨args'⟩ w fun e w'=>∃ρ' o h' v',e= .returned v'∧aB ρ' o.v v'∧Q o h'∧Inv P w.heap.size ρ' h' w'∧Below w.heap.size w w':=by
 obtain⟨n,⟨o,h'⟩,hr,hq⟩:=hok
 intro cs
 obtain⟨e,w',fr,⟨ρ',v',he,hv,hevo⟩,h1,h2,h3⟩:=Nq C n (.call f args) _ o h' hr ρ w args' r.inv hg ha cs
 exact⟨e,w',fr,⟨ρ',o,h',v',he,hv,hq,hevo.inv,hevo.below r.inv⟩,h1,h2,h3⟩
def Ctx.empty (P:Program) (B:Nat):Ctx P B (fun _ _=>none) where
 G:=fun _=>True
 yO:=fun _ _ _ _=>trivial
 call:=fun _ _ _ _ h=>by cases h
 fwd:=fun _ _ _ _ h=>by cases h
 host:=fun _ _ _ h=>by cases h
def Jn (K:FuncId→List Value→Option fM) (f0:FuncId) (v0:Value):FuncId→List Value→Option fM:=fun f args=>if f=f0∧args.isEmpty=true then some (.val v0) else K f args
def Ctx.add {B:Nat} (C:Ctx P B K) (f0:FuncId) (v0:Value) (hp:cG v0=true) (h:∀w,C.G w→Calls P f0 #[] w fun e w'=>e= .returned v0∧Below w.heap.size w w'):Ctx P B (Jn K f0 v0) where
 G:=C.G
 yO:=C.yO
 call:=fun f args v w hk hg=>by
  unfold Jn at hk
  split at hk
  ·rename_i hc
   cases hk
   obtain⟨rfl,ha⟩:=hc
   have:args=[]:=by grind
   subst this
   exact⟨rfl,(h w hg).mono fun e w' ⟨he,hb⟩=>⟨⟨v0,he,fun ρ=>eI v0 hp⟩,hb⟩⟩
  ·exact C.call f args v w hk hg
 fwd:=fun f args g bs hk=>by
  unfold Jn at hk
  split at hk
  ·cases hk
  ·exact C.fwd f args g bs hk
 host:=fun f args F hk=>by
  unfold Jn at hk
  split at hk
  ·cases hk
  ·exact C.host f args F hk
theorem Ha {f:FuncId} {n:Nat} {v:Value} {base:Nat} {old:Nat→Option jN} (hv:cG v=true)
  (hr:((run P K n (.call f []) (start base old)).any fun r=>mL r.1.v v)=true) {w:World} (C:Ctx P w.heap.size K) (hg:C.G w) {ρ:fN} (r:Reads P base old ρ w):
  Calls P f #[] w fun e w'=>e= .returned v∧Below w.heap.size w w':=by
 rw[Option.any_eq_true] at hr
 obtain⟨⟨o,h'⟩,hr,he⟩:=hr
 have he:=Af _ _ he
 have:=Iw (Q:=fun o _=>o.v=v) C hg r (args:=[]) (args':=[]) rfl ⟨n,_,hr,he⟩
 intro cs
 obtain⟨e,w',fr,⟨ρ',o',h2,v',h3,h4,h5,_,h6⟩,h7⟩:=this cs
 rw[h5] at h4
 have:=rZ v v' hv h4
 grind
end
end Go.Ab
end
section
namespace Go.Ab
noncomputable section
structure En where
 n:Nat
 t:Tr Value
def En.get (e:En) (i:Nat):Value:=En.rec (motive:=fun _=>Value) (fun n t=>Bool.rec (motive:=fun _=>Value) undef (t.get undef i) (Nat.blt i n)) e
def En.opt (e:En) (i:Nat):Option Value:=En.rec (motive:=fun _=>Option Value) (fun n t=>Bool.rec (motive:=fun _=>Option Value) none (some (t.get undef i)) (Nat.blt i n)) e
def En.set (e:En) (i:Nat) (v:Value):En:=En.rec (motive:=fun _=>En) (fun n t=>Bool.rec (motive:=fun _=>En) (En.mk n t) (En.mk n (t.set undef i v)) (Nat.blt i n)) e
def En.oS (e:En):List Value:=(List.range e.n).map fun i=>e.t.get undef i
def Fz:List Value→Nat→Tr Value→Tr Value
 |[],_,t=>t
 |v::l,i,t=>Fz l (i+1) (t.set undef i v)
def En.of (l:List Value) (k:Nat):En:=⟨l.length+k,Fz l 0 .lf⟩
theorem En.Av (e:En) (i:Nat):e.opt i=e.oS[i]?:=by
 obtain⟨n,t⟩:=e
 simp only[En.opt,En.oS]
 cases h:Nat.blt i n with
 |true=>
  have:i<n:=by simpa [Nat.blt_eq] using h
  simp[this]
 |false=>
  have:¬i<n:=by rw[←Nat.blt_eq,h];simp
  simp[this]
theorem En.get_eq (e:En) (i:Nat):e.get i=e.oS.getD i undef:=by
 rw[List.getD_eq_getElem?_getD,←En.Av]
 obtain⟨n,t⟩:=e
 simp only[En.get,En.opt]
 cases Nat.blt i n<;>rfl
theorem En.vX (e:En) (i:Nat) (v:Value):(e.set i v).oS=e.oS.set i v:=by
 apply List.ext_getElem?
 intro j
 rw[List.getElem?_set,←En.Av,←En.Av]
 obtain⟨n,t⟩:=e
 have hl:(En.oS ⟨n,t⟩).length=n:=by simp[En.oS]
 rw[hl]
 simp only[En.set]
 cases h:Nat.blt i n with
 |true=>
  have hi:i<n:=by simpa [Nat.blt_eq] using h
  simp only[En.opt,Tr.fJ]
  by_cases e1:i=j
  ·subst e1;simp[h,hi]
  ·simp[e1,Ne.symm e1]
 |false=>
  have hi:¬i<n:=by rw[←Nat.blt_eq,h];simp
  by_cases e1:i=j
  ·subst e1;simp[En.opt,h,hi]
  ·simp[e1]
theorem Bk:∀(l:List Value) (i:Nat) (t:Tr Value) (m:Nat),(Fz l i t).get undef m=if i≤m∧m<i+l.length then l.getD (m - i) undef else t.get undef m
 |[],i,t,m=>by
  rw[if_neg (by simp)];rfl
 |v::l,i,t,m=>by
  simp only[Fz]
  rw[Bk l (i+1) _ m,Tr.fJ]
  simp only[List.length_cons]
  by_cases h1:m=i
  ·subst h1
   rw[if_neg (by omega),if_pos rfl,if_pos (by omega)]
   simp
  ·rw[if_neg h1]
   by_cases h2:i+1≤m∧m<i+1+l.length
   ·rw[if_pos h2,if_pos (by omega),show m - i=(m - (i+1))+1 by omega]
    simp
   ·rw[if_neg h2,if_neg (by omega)]
theorem En.of_eq (l:List Value) (k:Nat):(En.of l k).oS=l++List.replicate k undef:=by
 apply List.ext_getElem?
 intro j
 rw[←En.Av]
 unfold En.of En.opt
 simp only[Bk,Tr.Bl]
 cases h:Nat.blt j (l.length+k) with
 |true=>
  have hj:j<l.length+k:=by simpa [Nat.blt_eq] using h
  by_cases h1:j<l.length
  ·rw[if_pos (by omega),List.getElem?_append_left h1];simp[h1]
  ·rw[if_neg (by omega),List.getElem?_append_right (by omega),List.getElem?_replicate,if_pos (by omega)]
 |false=>
  have hj:¬j<l.length+k:=by rw[←Nat.blt_eq,h];simp
  rw[List.getElem?_eq_none (by simp;omega)]
inductive Hz where
 |todo (fn:FuncId) (ro:Option Nat) (ds:List Nat) (env:En) (k:List Item)
 |ops (all:Array Oper) (rest:List Oper) (env:En)
 |call (f:FuncId) (args:List Value)
 |round (l:Nat) (args:List Value)
structure Ck where
 leave:oG
 ds:List Nat
 env:En
 v:Value
def Kw:En:=⟨0,.lf⟩
abbrev kQ:=Hz→AH→Option (Ck×AH)
def Tq:Hz→Task
 |.todo fn ro ds env k=> .todo fn ro ds env.oS k
 |.ops all rest env=> .ops all rest env.oS
 |.call f args=> .call f args
 |.round l args=> .round l args
def Vn (o:Ck):Out:=⟨o.leave,o.ds,o.env.oS,o.v⟩
def oK (r:Ck×AH):Out×AH:=(Vn r.1,r.2)
def wX (R':kQ) (R:kT):Prop:=∀t h,R (Tq t) h=(R' t h).map oK
def gn (v:Value):Value:=if cG v then v else top
def gw (P:Program) (g:Nat):Value:=if g<P.globals.size then .pointer (some ⟨g,0,none⟩) else top
def ft (f:Nat):Value:= .func (.func f) #[] #[]
def aQ (P:Program) (env:En) (x:Operand):Value:=Operand.rec (motive:=fun _=>Value) (En.get env) gn (gw P) ft x
theorem nQ (P:Program) (env:En):aQ P env=bB P env.oS:=by
 funext x
 cases x<;>first|rfl|exact En.get_eq _ _
def qC (env:En) (d:Option Tmp) (v:Value):En:=Option.rec (motive:=fun _=>En) env (fun d=>env.set d v) d
theorem Cd (env:En) (d:Option Tmp) (v:Value):(qC env d v).oS=fP env.oS d v:=by
 cases d
 ·rfl
 ·exact En.vX _ _ _
def Zv (want:Bool) (x:Option Value):Option Bool:=
  match x with
  |some (.bool b)=>some (b==want)
  |some (.chan _)=>none
  |_=>some false
def Tn {α:Type} (l:List α):Nat→Option α:=List.rec (motive:=fun _=>Nat→Option α) (fun _=>none) (fun a _ ih n=>Nat.rec (motive:=fun _=>Option α) (some a) (fun n _=>ih n) n) l
theorem Ei {α:Type}:∀(l:List α) (n:Nat),Tn l n=l[n]?
 |[],_=>rfl
 |_::_,0=>rfl
 |a::l,n+1=>by
  show Tn l n=_
  rw[Ei l n];rfl
def Xm (all:Array Oper) (env:En) (g:Nat×Bool):Option Bool:=Zv g.2 (((Tn all.toList g.1).bind (·.dst)).bind (fun d=>env.opt d))
def iM (all:Array Oper) (env:En) (o:Oper):Option Bool:=Option.rec (motive:=fun _=>Option Bool) (some true) (Xm all env) o.guard
theorem rD (all:Array Oper) (env:En) (o:Oper):iM all env o=cB all env.oS o:=by
 unfold iM cB
 cases o.guard with
 |none=>rfl
 |some g=>
  obtain⟨j,want⟩:=g
  show Xm all env (j,want)=_
  unfold Xm Zv
  simp only[En.Av,Ei,Array.getElem?_toList]
  rfl
def Fh (_:Program) (ev:Operand→Value) (_:AH) (x:Operand):Option Value:=some (ev x)
def xF (_:Program) (ev:Operand→Value) (_:AH) (x:Operand):Option Value:=some (ev x)
def Ge (_:Program) (ev:Operand→Value) (_:AH) (c a b:Operand):Option Value:=match ev c with
  |.bool t=>some (if t then ev a else ev b)
  |_=>none
def A5 (P:Program) (ev:Operand→Value) (_:AH) (t:TypeId) (parts:Array (Nat×Operand)):Option Value:=wJ P t (parts.toList.map fun p=>(p.1,ev p.2))
def Eu (P:Program) (ev:Operand→Value) (h:AH) (t:TypeId) (a:Operand):Option Value:=match ev a with
  |.pointer (some a)=>lW P h t a
  |_=>none
def qS (_:Program) (ev:Operand→Value) (_:AH) (x:Operand):Option Value:=match ev x with
  |.pointer (some a)=>some (.pointer (some a))
  |.func (.func f) a b=>some (.func (.func f) a b)
  |.func (.yield f) a b=>some (.func (.yield f) a b)
  |_=>none
def A6 (P:Program) (ev:Operand→Value) (_:AH) (op:BinOp) (t:TypeId) (x y:Operand):Option Value:=El P op t x y (ev x) (ev y)
def Ep (_:Program) (ev:Operand→Value) (_:AH) (op:UnOp) (x:Operand):Option Value:=match op,ev x with
  |.neg,.int k n=>some (.int k (k.wrap (0 - n)))
  |.not,.bool b=>some (.bool !b)
  |_,_=>none
def tZ (P:Program) (ev:Operand→Value) (h:AH) (s d:TypeId) (x:Operand):Option Value:=match P.underlying s,P.underlying d,ev x with
  |some _,some (.int k),.int _ n=>some (.int k (k.wrap n))
  |some .string,some .string,.string z=>some (.string z)
  |some (.slice e),some .string,v=>(match P.underlying e with
   |some (.int .u8)=>strOf h v
   |_=>none)
  |_,_,_=>none
def kB (P:Program) (ev:Operand→Value) (_:AH) (t:TypeId) (x:Operand):Option Value:=match P.underlying t with
  |some (.interface _)=>none
  |some _=>some (.iface t (ev x))
  |none=>none
def rL (_:Program) (ev:Operand→Value) (_:AH) (fn:Fn) (first captured:Array Operand):Option Value:=match fn with
  |.func f=>some (.func (.func f) (first.map ev) (captured.map ev))
  |_=>none
def zK (P:Program) (ev:Operand→Value) (h:AH) (t:TypeId) (x:Operand) (lo hi mx:Option Operand):Option Value:=lT P h t (ev x) (lo.map ev) (hi.map ev) (mx.map ev)
def pI (P:Program) (ev:Operand→Value) (_:AH) (s:TypeId) (x:Operand) (f:Nat):Option Value:=match P.underlying s,ev x with
  |some (.struct fs),.pointer (some a)=>match fs[f]? with
   |some fd=>if P.cellsOf fd.type=0 then none else some (.pointer (some (a.add fd.offset)))
   |none=>none
  |_,_=>none
def zP (P:Program) (ev:Operand→Value) (_:AH) (t:TypeId) (x:Operand) (f:Nat):Option Value:=match P.underlying t,ev x with
  |some (.struct fs),.agg cs=>match fs[f]? with
   |some fd=>apart P fd.type cs.toList fd.offset
   |none=>none
  |_,_=>none
def pM (P:Program) (ev:Operand→Value) (_:AH) (t:TypeId) (x i:Operand):Option Value:=match P.underlying t,ev x,ev i with
  |some (.array n e),.pointer (some a),.int _ i=>if 0≤i∧i<n∧(P.info? e).isSome then some (.pointer (some (a.add (i.toNat*P.cellsOf e)))) else none
  |some (.slice e),.slice (some a) n _,.int _ i=>if 0≤i∧i<n∧(P.info? e).isSome∧a.spot=none then some (.pointer (some (a.add (i.toNat*P.cellsOf e)))) else none
  |_,_,_=>none
def zU (P:Program) (ev:Operand→Value) (_:AH) (t:TypeId) (x i:Operand):Option Value:=match P.underlying t,ev x,ev i with
  |some (.array n e),.agg cs,.int _ i=>if 0≤i∧i<n∧(P.info? e).isSome then apart P e cs.toList (i.toNat*P.cellsOf e) else none
  |some .string,.string s,.int _ i=>if 0≤i then(s[i.toNat]?).map fun b=> .int .u8 b.toNat else none
  |_,_,_=>none
def tY (_:Program) (ev:Operand→Value) (_:AH) (t:Operand) (i:Nat):Option Value:=match ev t with
  |.tuple vs=>vs.toList[i]?
  |_=>none
def wQ (P:Program) (ev:Operand→Value) (h:AH) (t:TypeId) (x ix:Operand) (ok:Bool):Option Value:=mQ P h t (ev x) (ev ix) ok
def Gd (P:Program) (ev:Operand→Value) (h:AH):Op→Option Value
 |.move x=>Fh P ev h x
 |.assign x=>xF P ev h x
 |.pick c a b=>Ge P ev h c a b
 |.build t parts=>A5 P ev h t parts
 |.load t a=>Eu P ev h t a
 |.nilCheck x=>qS P ev h x
 |.binOp op t x y _=>A6 P ev h op t x y
 |.unOp op _ x=>Ep P ev h op x
 |.convert s d x=>tZ P ev h s d x
 |.makeInterface t x=>kB P ev h t x
 |.makeFunc fn first captured=>rL P ev h fn first captured
 |.slice t x lo hi mx=>zK P ev h t x lo hi mx
 |.fieldAddr s x f=>pI P ev h s x f
 |.field t x f=>zP P ev h t x f
 |.indexAddr t x i=>pM P ev h t x i
 |.index t x i=>zU P ev h t x i
 |.extract t i=>tY P ev h t i
 |.lookup t x ix ok=>wQ P ev h t x ix ok
 |_=>none
theorem A3 (P:Program) (ev:Operand→Value) (h:AH) (op:Op):Gd P ev h op=aM P ev h op:=by cases op<;>rfl
def Xf (h:AH) (ds:List Nat) (ro:Option Nat):Option (Nat×AH×List Nat):=
 match ro with
 |none=>some (h.next,h.alloc (.marks true),h.next::ds)
 |some l=>match h.get l with
  |some (.loop _ _ _ _ _ _ _ d)=>some (d,h,ds)
  |_=>none
structure U9 where
 env:En
 h:AH
 v:Value
def Wp (r:U9):Rec:=⟨r.env.oS,r.h,r.v⟩
def oE (P:Program) (ev:Operand→Value) (h:AH) (op:Op):Option Value:=
 match op with
 |.call c=>(match c.callee with|.builtin b=>if eY b then(cJ P h b c.argTypes (c.args.toList.map ev)).map (·.1) else none|_=>none)
 |op=>Gd P ev h op
theorem uO (P:Program) (ev:Operand→Value) (h:AH) (op:Op):oE P ev h op=cH P ev h op:=by
 cases op<;>first|exact A3 P ev h _|rfl
def eX (P:Program) (R:kQ) (ev:Operand→Value) (h:AH) (op:Op):Option (Value×AH):=
 match op with
 |.store t a x=>match ev a with
  |.pointer (some a)=>(zV P h t a (ev x)).map fun h'=>(undef,h')
  |_=>none
 |.mapUpdate t m k x=>(sA P h t (ev m) (ev k) (ev x)).map fun h'=>(undef,h')
 |.call c=>
  match c.callee with
  |.builtin b=>cJ P h b c.argTypes (c.args.toList.map ev)
  |.value f=>match ev f with
   |.func (.func g) first captured=>
    if dS P g then(R (.call g (first.toList++c.args.toList.map ev++captured.toList)) h).map fun r=>(r.1.v,r.2) else none
   |.func (.yield l) first _=>(R (.round l (first.toList++c.args.toList.map ev)) h).map fun r=>(r.1.v,r.2)
   |_=>none
  |.invoke _ _=>none
 |_=>none
def gL (v:Option Value) (h:AH):Option (Value×AH):=Option.rec (motive:=fun _=>Option (Value×AH)) none (fun v=>some (v,h)) v
def Qp (b:Option (jN×(Nat→Value))) (h:AH):Option (Value×AH):=b.map fun r=>(r.2 h.next,h.alloc r.1)
def Qc (b:Option (jN×(Nat→Value))) (r:Nat) (h:AH):Option (Value×AH):=b.map fun x=>(x.2 r,h.set r (some x.1))
def Y2 (P:Program) (R:kQ) (c:Call) (env:En) (h:AH):Option (Value×AH):=if eB (.call c) then gL (oE P (aQ P env) h (.call c)) h else eX P R (aQ P env) h (.call c)
abbrev iw:=Program→kQ→En→AH→Option (Value×AH)
abbrev ja:=Program→kQ→Nat→En→AH→Option (Value×AH)
def uZ (P:Program) (R:kQ) (env:En) (h:AH) (op:Op):Option (Value×AH):=Op.rec (motive:=fun _=>iw)
 (fun x_ P _ env h=>gL (Fh P (aQ P env) h x_) h)
 (fun x_ P _ env h=>gL (xF P (aQ P env) h x_) h)
 (fun c_ a_ b_ P _ env h=>gL (Ge P (aQ P env) h c_ a_ b_) h)
 (fun e_ P _ env h=>Qp (cC P (aQ P env) (Op.alloc e_)) h)
 (fun e_ v_ P _ env h=>Qp (cC P (aQ P env) (Op.box e_ v_)) h)
 (fun t_ parts_ P _ env h=>gL (A5 P (aQ P env) h t_ parts_) h)
 (fun t_ n_ parts_ P _ env h=>Qp (cC P (aQ P env) (Op.buildSlice t_ n_ parts_)) h)
 (fun _ _ _ _ _ _ _ _=>none)
 (fun t_ a_ P _ env h=>gL (Eu P (aQ P env) h t_ a_) h)
 (fun t_ a_ v_ P R env h=>eX P R (aQ P env) h (Op.store t_ a_ v_))
 (fun _ _ _ _ _=>none)
 (fun _ _ _ _ _=>none)
 (fun x_ P _ env h=>gL (qS P (aQ P env) h x_) h)
 (fun o_ t_ x_ y_ _ P _ env h=>gL (A6 P (aQ P env) h o_ t_ x_ y_) h)
 (fun o_ _ x_ P _ env h=>gL (Ep P (aQ P env) h o_ x_) h)
 (fun a_ b_ x_ P _ env h=>gL (tZ P (aQ P env) h a_ b_ x_) h)
 (fun _ _ _ _ _ _=>none)
 (fun t_ x_ P _ env h=>gL (kB P (aQ P env) h t_ x_) h)
 (fun f_ a_ b_ P _ env h=>gL (rL P (aQ P env) h f_ a_ b_) h)
 (fun t_ r_ P _ env h=>Qp (cC P (aQ P env) (Op.makeMap t_ r_)) h)
 (fun _ _ _ _ _ _=>none)
 (fun t_ l_ c_ P _ env h=>Qp (cC P (aQ P env) (Op.makeSlice t_ l_ c_)) h)
 (fun t_ x_ l_ h_ m_ P _ env h=>gL (zK P (aQ P env) h t_ x_ l_ h_ m_) h)
 (fun t_ x_ f_ P _ env h=>gL (pI P (aQ P env) h t_ x_ f_) h)
 (fun t_ x_ f_ P _ env h=>gL (zP P (aQ P env) h t_ x_ f_) h)
 (fun t_ x_ i_ P _ env h=>gL (pM P (aQ P env) h t_ x_ i_) h)
 (fun t_ x_ i_ P _ env h=>gL (zU P (aQ P env) h t_ x_ i_) h)
 (fun t_ x_ i_ o_ P _ env h=>gL (wQ P (aQ P env) h t_ x_ i_ o_) h)
 (fun t_ m_ k_ v_ P R env h=>eX P R (aQ P env) h (Op.mapUpdate t_ m_ k_ v_))
 (fun _ _ _ _ _ _ _=>none)
 (fun _ _ _ _ _ _ _ _=>none)
 (fun _ _ _ _ _ _=>none)
 (fun _ _ _ _ _ _=>none)
 (fun _ _ _ _ _=>none)
 (fun _ _ _ _ _ _ _ _=>none)
 (fun t_ i_ P _ env h=>gL (tY P (aQ P env) h t_ i_) h)
 (fun c_ P R env h=>eX P R (aQ P env) h (Op.call c_))
 (fun _ _ _ _ _=>none)
 (fun _ _ _ _ _=>none)
 (fun _ _ _ _ _=>none)
 (fun _ _ _ _ _ _=>none)
 (fun _ _ _ _ _ _ _=>none)
 (fun _ _ _ _ _ _=>none) op P R env h
def Mr (P:Program) (R:kQ) (r:Nat) (env:En) (h:AH) (op:Op):Option (Value×AH):=Op.rec (motive:=fun _=>ja)
 (fun x_ P _ _ env h=>gL (Fh P (aQ P env) h x_) h)
 (fun x_ P _ _ env h=>gL (xF P (aQ P env) h x_) h)
 (fun c_ a_ b_ P _ _ env h=>gL (Ge P (aQ P env) h c_ a_ b_) h)
 (fun e_ P _ r env h=>Qc (cC P (aQ P env) (Op.alloc e_)) r h)
 (fun e_ v_ P _ r env h=>Qc (cC P (aQ P env) (Op.box e_ v_)) r h)
 (fun t_ parts_ P _ _ env h=>gL (A5 P (aQ P env) h t_ parts_) h)
 (fun t_ n_ parts_ P _ r env h=>Qc (cC P (aQ P env) (Op.buildSlice t_ n_ parts_)) r h)
 (fun _ _ _ _ _ _ _ _ _=>none)
 (fun t_ a_ P _ _ env h=>gL (Eu P (aQ P env) h t_ a_) h)
 (fun t_ a_ v_ P R _ env h=>eX P R (aQ P env) h (Op.store t_ a_ v_))
 (fun _ _ _ _ _ _=>none)
 (fun _ _ _ _ _ _=>none)
 (fun x_ P _ _ env h=>gL (qS P (aQ P env) h x_) h)
 (fun o_ t_ x_ y_ _ P _ _ env h=>gL (A6 P (aQ P env) h o_ t_ x_ y_) h)
 (fun o_ _ x_ P _ _ env h=>gL (Ep P (aQ P env) h o_ x_) h)
 (fun a_ b_ x_ P _ _ env h=>gL (tZ P (aQ P env) h a_ b_ x_) h)
 (fun _ _ _ _ _ _ _=>none)
 (fun t_ x_ P _ _ env h=>gL (kB P (aQ P env) h t_ x_) h)
 (fun f_ a_ b_ P _ _ env h=>gL (rL P (aQ P env) h f_ a_ b_) h)
 (fun t_ r_ P _ r env h=>Qc (cC P (aQ P env) (Op.makeMap t_ r_)) r h)
 (fun _ _ _ _ _ _ _=>none)
 (fun t_ l_ c_ P _ r env h=>Qc (cC P (aQ P env) (Op.makeSlice t_ l_ c_)) r h)
 (fun t_ x_ l_ h_ m_ P _ _ env h=>gL (zK P (aQ P env) h t_ x_ l_ h_ m_) h)
 (fun t_ x_ f_ P _ _ env h=>gL (pI P (aQ P env) h t_ x_ f_) h)
 (fun t_ x_ f_ P _ _ env h=>gL (zP P (aQ P env) h t_ x_ f_) h)
 (fun t_ x_ i_ P _ _ env h=>gL (pM P (aQ P env) h t_ x_ i_) h)
 (fun t_ x_ i_ P _ _ env h=>gL (zU P (aQ P env) h t_ x_ i_) h)
 (fun t_ x_ i_ o_ P _ _ env h=>gL (wQ P (aQ P env) h t_ x_ i_ o_) h)
 (fun t_ m_ k_ v_ P R _ env h=>eX P R (aQ P env) h (Op.mapUpdate t_ m_ k_ v_))
 (fun _ _ _ _ _ _ _ _=>none)
 (fun _ _ _ _ _ _ _ _ _=>none)
 (fun _ _ _ _ _ _ _=>none)
 (fun _ _ _ _ _ _ _=>none)
 (fun _ _ _ _ _ _=>none)
 (fun _ _ _ _ _ _ _ _ _=>none)
 (fun t_ i_ P _ _ env h=>gL (tY P (aQ P env) h t_ i_) h)
 (fun c_ P R _ env h=>Y2 P R c_ env h)
 (fun _ _ _ _ _ _=>none)
 (fun _ _ _ _ _ _=>none)
 (fun _ _ _ _ _ _=>none)
 (fun _ _ _ _ _ _ _=>none)
 (fun _ _ _ _ _ _ _ _=>none)
 (fun _ _ _ _ _ _ _=>none) op P R r env h
theorem Fa (v:Option Value) (h:AH):gL v h=v.map fun v=>(v,h):=by cases v<;>rfl
theorem Gj (P:Program) (R:kQ) (env:En) (h:AH) (op:Op):uZ P R env h op=
  match kindOf op with
  |.qG=>(Gd P (aQ P env) h op).map fun v=>(v,h)
  |.alloc=>(cC P (aQ P env) op).map fun r=>(r.2 h.next,h.alloc r.1)
  |.store|.call=>eX P R (aQ P env) h op
  |.other=>none:=by
 cases op<;>first|rfl|exact Fa _ _
theorem H5 (P:Program) (R:kQ) (r:Nat) (env:En) (h:AH) (op:Op):Mr P R r env h op=
  if eB op then(oE P (aQ P env) h op).map fun v=>(v,h)
  else if kindOf op== .alloc then(cC P (aQ P env) op).map fun x=>(x.2 r,h.set r (some x.1))
  else eX P R (aQ P env) h op:=by
 cases op<;>first|rfl|exact Fa _ _|skip
 rename_i c
 show Y2 P R c env h=_
 unfold Y2
 rw[Fa]
 rfl
def fm (P:Program) (R:kQ) (r:Nat) (env:En) (h:AH) (op:Op) (w:Option Bool):Option (Value×AH):=
 Option.rec (motive:=fun _=>Option (Value×AH)) none (fun b=>Bool.rec (motive:=fun _=>Option (Value×AH)) (some (undef,h)) (Mr P R r env h op) b) w
def jZ (P:Program) (R:kQ) (all:List Oper) (r0 i:Nat) (env:En) (h:AH) (o:Oper):Option (Value×AH):=fm P R (r0+i) env h o.op (iM ⟨all⟩ env o)
theorem Cj (P:Program) (R:kQ) (all:List Oper) (r0 i:Nat) (env:En) (h:AH) (o:Oper):jZ P R all r0 i env h o=
 match iM ⟨all⟩ env o with
 |none=>none
 |some false=>some (undef,h)
 |some true=>
  if eB o.op then(oE P (aQ P env) h o.op).map fun v=>(v,h)
  else if kindOf o.op== .alloc then(cC P (aQ P env) o.op).map fun r=>(r.2 (r0+i),h.set (r0+i) (some r.1))
  else eX P R (aQ P env) h o.op:=by
 unfold jZ
 cases iM ⟨all⟩ env o with
 |none=>rfl
 |some b=>
  cases b with
  |false=>rfl
  |true=>exact H5 ..
abbrev Wk:=Option (List U9×En×AH)
def ch (env:En) (h:AH) (v:Value) (x:Wk):Wk:=Option.rec (motive:=fun _=>Wk) none (fun r=>some (⟨env,h,v⟩::r.1,r.2)) x
def Zl (ih:Nat→En→AH→Wk) (i:Nat) (o:Oper) (env:En) (h:AH) (x:Option (Value×AH)):Wk:=Option.rec (motive:=fun _=>Wk) none (fun r=>ch env h r.1 (ih (i+1) (qC env o.dst r.1) r.2)) x
def iD (P:Program) (R:kQ) (all:List Oper) (r0 i:Nat) (os:List Oper) (env:En) (h:AH):Wk:=
 List.rec (motive:=fun _=>Nat→En→AH→Wk) (fun _ env h=>some ([],env,h)) (fun o _ ih i env h=>Zl ih i o env h (jZ P R all r0 i env h o)) os i env h
theorem zZ (P:Program) (R:kQ) (all:List Oper) (r0 i:Nat) (o:Oper) (os:List Oper) (env:En) (h:AH):iD P R all r0 i (o::os) env h=
  match jZ P R all r0 i env h o with
  |some (v,h')=>match iD P R all r0 (i+1) os (qC env o.dst v) h' with
   |some (rs,e)=>some (⟨env,h,v⟩::rs,e)
   |none=>none
  |none=>none:=by
 show Zl (fun i env h=>iD P R all r0 i os env h) i o env h (jZ P R all r0 i env h o)=_
 cases jZ P R all r0 i env h o with
 |none=>rfl
 |some r=>
  show ch env h r.1 (iD P R all r0 (i+1) os (qC env o.dst r.1) r.2)=_
  cases hd:iD P R all r0 (i+1) os (qC env o.dst r.1) r.2 with
  |none=>simp only[hd];rfl
  |some q=>simp only[hd];rfl
def uE (P:Program) (all:List Oper) (rs:List U9) (hEnd:AH) (x:Nat×Nat):Bool:=
 match all[x.1]?,rs[x.1]? with
 |some o,some r=>
  match iM ⟨all⟩ r.env o with
  |some true=>(match oE P (aQ P r.env) (match rs[x.2]? with|some q=>q.h|none=>hEnd) o.op with|some v=>mL v r.v|none=>false)
  |_=>true
 |_,_=>false
def uK (P:Program) (R:kQ) (ops:Array Oper) (env:En) (h:AH):Option (En×AH):=
 if xG ops.toList&&(P.follows .mixedOrders|| !Region.departs ops) then
  match iD P R ops.toList h.next 0 ops.toList env {h with next:=h.next+ops.size} with
  |some (rs,env',h')=>if(tS ops.toList).all (uE P ops.toList rs h') then some (env',h') else none
  |none=>none
 else none
def lP (P:Program) (h:AH) (env:En):List ResultVar→Option (List Value)
 |[]=>some []
 |.tmp t::rs=>(lP P h env rs).map fun l=>env.get t::l
 |.cell a t::rs=>match env.get a with
  |.pointer (some a)=>match lW P h t a,lP P h env rs with
   |some v,some l=>some (v::l)
   |_,_=>none
  |_=>none
section td
variable (P:Program) (R:kQ) (fn:FuncId) (ro:Option Nat) (ds:List Nat) (env:En) (k:List Item) (h:AH)
abbrev yP:=Option (Ck×AH)
def Me:yP:=R (.todo fn ro ds env k) h
def X2 (a b:Code):yP:=R (.todo fn ro ds env (.code a:: .code b::k)) h
def F0 (c:Operand) (t e:Code):yP:=match aQ P env c with
   |.bool b=>R (.todo fn ro ds env (.code (if b then t else e)::k)) h
   |_=>none
def Mz (b:Code) (x:Item):yP:=R (.todo fn ro ds env (.code b::x::k)) h
def Fl (id:Nat):yP:=match exitTo id k with
   |some k'=>R (.todo fn ro ds env k') h
   |none=>if ro.isSome then some (⟨.exit id,ds,env,undef⟩,h) else none
def Yf:yP:=some (⟨.ret,ds,env,undef⟩,h)
def Tf:yP:=some (⟨.fU,ds,env,undef⟩,h)
def Mj (x:Option (Ck×AH)):yP:=match x with
   |some (o,h')=>R (.todo fn ro ds o.env k) h'
   |none=>none
def J4 (ops:Array Oper):yP:=Mj R fn ro ds k (R (.ops ops ops.toList env) h)
def I1 (x:Option (En×AH)):yP:=match x with
   |some (env',h')=>R (.todo fn ro ds env' k) h'
   |none=>none
def Et (ops:Array Oper):yP:=I1 R fn ro ds k (uK P R ops env h)
def Bx (f:Operand) (ps:Array Tmp) (assign body:Code):yP:=
   match Xf h ds ro with
   |some (d,h1,ds1)=>
    match aQ P env f with
    |.func (.func g) first captured=>
     if dS P g then
      match R (.call g (first.toList++[.func (.yield h1.next) #[] #[]]++captured.toList)) (h1.alloc (.loop .ready none fn env.oS ps assign body d)) with
      |some (_,h3)=>
       match h3.get h1.next with
       |some (.loop st p _ _ _ _ _ _)=>
        if st= .busy then none else
        match bP h3 h1.next .exhausted none with
        |some h4=>R (.todo fn ro ds1 env ((p.map Item.code).toList++k)) h4
        |none=>none
       |_=>none
      |none=>none
     else none
    |_=>none
   |none=>none
def Ae:yP:=
  match ro with
  |some l=>match h.get l with
   |some (.loop .ready _ _ _ _ _ _ _)=>match bP h l .busy none with
    |some h'=>R (.todo fn ro ds env k) h'
    |none=>none
   |_=>none
  |none=>none
def T3:Code→yP
  |.skip=>Me R fn ro ds env k h
  |.label _=>Me R fn ro ds env k h
  |.seq a b=>X2 R fn ro ds env k h a b
  |.cond c t e=>F0 P R fn ro ds env k h c t e
  |.block id b=>Mz R fn ro ds env k h b (.inBlock id)
  |.loop b=>Mz R fn ro ds env k h b (.inLoop b)
  |.scope b=>Mz R fn ro ds env k h b (.inScope b)
  |.exit id=>Fl R fn ro ds env k h id
  |.ret=>Yf ds env h
  |.region _ ops d=>Bool.rec (motive:=fun _=>yP) (J4 R fn ro ds env k h ops) (Et P R fn ro ds env k h ops) d
  |.rangeFunc f ps assign body=>Bx P R fn ro ds env k h f ps assign body
  |_=>none
def Ux:Item→yP
  |.code c=>T3 P R fn ro ds env k h c
  |.inBlock _=>Me R fn ro ds env k h
  |.inScope _=>Me R fn ro ds env k h
  |.inLoop b=>Mz R fn ro ds env k h b (.inLoop b)
  |.beginRound=>Ae R fn ro ds env k h
  |_=>none
end td
def Hi (P:Program) (R:kQ) (fn:FuncId) (ro:Option Nat) (ds:List Nat) (env:En) (k:List Item) (h:AH):Option (Ck×AH):=
 List.rec (motive:=fun _=>yP) (Tf ds env h) (fun x k _=>Ux P R fn ro ds env k h x) k
section op
variable (P:Program) (R:kQ) (all:Array Oper) (rest:List Oper) (env:En) (h:AH) (o:Oper)
def bg (x:Value×AH):yP:=R (.ops all rest (qC env o.dst x.1)) x.2
def Py:yP:=Option.rec (motive:=fun _=>yP) none (bg R all rest env o) (uZ P R env h o.op)
def a8:yP:=R (.ops all rest (qC env o.dst undef)) h
def ct (w:Option Bool):yP:=Option.rec (motive:=fun _=>yP) none (fun b=>Bool.rec (motive:=fun _=>yP) (a8 R all rest env h o) (Py P R all rest env h o) b) w
end op
def E7 (P:Program) (R:kQ) (all:Array Oper) (rest:List Oper) (env:En) (h:AH):Option (Ck×AH):=
 match rest with
 |[]=>some (⟨.fU,[],env,undef⟩,h)
 |o::rest=>
  ct P R all rest env h o (iM all env o)
def zQ (P:Program) (K:FuncId→List Value→Option fM) (R:kQ) (f:FuncId) (args:List Value) (h:AH):Option (Ck×AH):=
 match K f args with
 |some (.val v)=>some (⟨.fU,[],Kw,v⟩,h)
 |some (.fwd g bs)=>match R (.call g bs) h with
  |some (o,h1)=>if Bn o.v then some (⟨.fU,[],Kw,o.v⟩,h1) else none
  |none=>none
 |some (.host F)=>(F h).map fun r=>(⟨.fU,[],Kw,r.1⟩,r.2)
 |none=>
  match Tn P.funcs.toList f with
  |some fn=>
   match fn.body with
   |some body=>
    match R (.todo f none [] (En.of args (fn.ntmps - args.length)) [.code body]) h with
    |some (o,h1)=>
     match o.leave with
     |.exit _=>none
     |_=>match bQ o.ds h1 with
      |some h2=>(lP P h2 o.env fn.results.toList).map fun vs=>(⟨.fU,[],Kw,oneOf vs⟩,h2)
      |none=>none
    |none=>none
   |none=>none
  |none=>none
def xE (R:kQ) (l:Nat) (args:List Value) (h:AH):Option (Ck×AH):=
 match h.get l with
 |some (.loop _ _ fn tmps ps assign body _)=>
  if args.length=ps.size then
   match R (.todo fn (some l) [] (En.of ((ps.toList.zip args).foldl (fun t (p,v)=>t.set p v) tmps) 0) [.code assign,.beginRound,.code body]) h with
   |some (o,h1)=>
    if o.ds.isEmpty then
     match o.leave with
     |.fU=>(bP h1 l .ready (some none)).map fun h2=>(⟨.fU,[],Kw,.bool true⟩,h2)
     |.ret=>(bP h1 l .done (some (some .ret))).map fun h2=>(⟨.fU,[],Kw,.bool false⟩,h2)
     |.exit id=>(bP h1 l .done (some (some (.exit id)))).map fun h2=>(⟨.fU,[],Kw,.bool false⟩,h2)
    else none
   |none=>none
  else none
 |_=>none
def Zs (P:Program) (K:FuncId→List Value→Option fM) (R:kQ) (t:Hz) (h:AH):Option (Ck×AH):=
 Hz.rec (motive:=fun _=>yP) (fun fn ro ds env k=>Hi P R fn ro ds env k h) (fun all rest env=>E7 P R all rest env h) (fun f args=>zQ P K R f args h) (fun l args=>xE R l args h) t
def R2 (P:Program) (K:FuncId→List Value→Option fM) (n:Nat):kQ:=
 Nat.rec (motive:=fun _=>kQ) (fun _ _=>none) (fun _ R=>Zs P K R) n
section same
variable {P:Program} {K:FuncId→List Value→Option fM} {R':kQ} {R:kT}
theorem wX.val (hR:wX R' R) (t:Hz) (h:AH):(R' t h).map (fun r=>(r.1.v,r.2))=(R (Tq t) h).map fun r=>(r.1.v,r.2):=by
 rw[hR t h,Option.map_map];rfl
theorem sN (hR:wX R' R) (ev:Operand→Value) (h:AH) (op:Op):eX P R' ev h op=bZ P R ev h op:=by
 have h1:∀g l,(R' (.call g l) h).map (fun r=>(r.1.v,r.2))=(R (.call g l) h).map fun r=>(r.1.v,r.2):=fun g l=>hR.val _ _
 have h2:∀g l,(R' (.round g l) h).map (fun r=>(r.1.v,r.2))=(R (.round g l) h).map fun r=>(r.1.v,r.2):=fun g l=>hR.val _ _
 unfold eX bZ
 simp only[h1,h2]
 rfl
theorem Ki (hR:wX R' R) (env:En) (h:AH) (op:Op):uZ P R' env h op=gW P R env.oS h op:=by
 rw[Gj]
 unfold gW
 simp only[nQ,A3,sN hR]
 rfl
theorem Fp (hR:wX R' R) (all:List Oper) (r0 i:Nat) (env:En) (h:AH) (o:Oper):jZ P R' all r0 i env h o=dA P R all r0 i env.oS h o:=by
 rw[Cj]
 unfold dA
 simp only[rD,nQ,uO,sN hR]
 rfl
theorem vK (hR:wX R' R) (all:List Oper) (r0:Nat):∀(os:List Oper) (i:Nat) (env:En) (h:AH),
    eC P R all r0 i os env.oS h=(iD P R' all r0 i os env h).map fun r=>(r.1.map Wp,r.2.1.oS,r.2.2)
 |[],_,_,_=>rfl
 |o::os,i,env,h=>by
  rw[zZ]
  simp only[eC,Fp hR]
  cases dA P R all r0 i env.oS h o with
  |none=>rfl
  |some r=>
   obtain⟨v,h'⟩:=r
   simp only[←Cd,vK hR all r0 os]
   cases iD P R' all r0 (i+1) os (qC env o.dst v) h' with
   |none=>rfl
   |some r=>rfl
theorem Gx (all:List Oper) (rs:List U9) (hEnd:AH) (x:Nat×Nat):uE P all rs hEnd x=lL P all (rs.map Wp) hEnd x:=by
 unfold uE lL
 simp only[List.getElem?_map]
 cases all[x.1]? with
 |none=>rfl
 |some o=>
  cases rs[x.1]? with
  |none=>rfl
  |some r=>
   simp only[Option.map_some,rD,nQ,uO]
   cases rs[x.2]?<;>rfl
theorem Gv (hR:wX R' R) (ops:Array Oper) (env:En) (h:AH):kJ P R ops env.oS h=(uK P R' ops env h).map fun r=>(r.1.oS,r.2):=by
 unfold uK kJ
 rw[vK hR]
 split
 ·cases iD P R' ops.toList h.next 0 ops.toList env {h with next:=h.next+ops.size} with
  |none=>rfl
  |some r=>
   obtain⟨rs,e,h'⟩:=r
   have:uE P ops.toList rs h'=lL P ops.toList (rs.map Wp) h':=funext (Gx _ rs h')
   simp only[Option.map_some,this]
   split<;>rfl
 ·rfl
theorem oY (h:AH) (env:En):∀rs,lP P h env rs=dE P h env.oS rs
 |[]=>rfl
 |.tmp t::rs=>by simp only[lP,dE,En.get_eq,oY h env rs]
 |.cell a t::rs=>by simp only[lP,dE,En.get_eq,oY h env rs];rfl
theorem Ho (P:Program) (R:kQ) (all:Array Oper) (rest:List Oper) (env:En) (h:AH):E7 P R all rest env h=
  match rest with
  |[]=>some (⟨.fU,[],env,undef⟩,h)
  |o::rest=>
   match iM all env o with
   |none=>none
   |some false=>R (.ops all rest (qC env o.dst undef)) h
   |some true=>match uZ P R env h o.op with
    |some (v,h')=>R (.ops all rest (qC env o.dst v)) h'
    |none=>none:=by
 cases rest with
 |nil=>rfl
 |cons o rest=>
  show ct P R all rest env h o (iM all env o)=_
  simp only
  cases iM all env o with
  |none=>rfl
  |some b=>
   cases b with
   |false=>rfl
   |true=>
    show Py P R all rest env h o=_
    unfold Py
    simp only
    cases uZ P R env h o.op<;>rfl
theorem Jr (hR:wX R' R) (all:Array Oper) (rest:List Oper) (env:En) (h:AH):lH P R all rest env.oS h=(E7 P R' all rest env h).map oK:=by
 rw[Ho]
 unfold lH
 cases rest with
 |nil=>rfl
 |cons o rest=>
  simp only[rD,Ki hR]
  cases cB all env.oS o with
  |none=>rfl
  |some b=>
   cases b with
   |false=>simp only[←Cd];exact hR (.ops all rest (qC env o.dst undef)) h
   |true=>
    simp only
    cases gW P R env.oS h o.op with
    |none=>rfl
    |some r=>simp only[←Cd];exact hR (.ops all rest (qC env o.dst r.1)) r.2
theorem Ig (hR:wX R' R) (fn:FuncId) (ro:Option Nat) (ds:List Nat) (env:En) (k:List Item) (h:AH):bX P R fn ro ds env.oS k h=(Hi P R' fn ro ds env k h).map oK:=by
 have hT:∀fn ro ds (env:En) k h,R (.todo fn ro ds env.oS k) h=(R' (.todo fn ro ds env k) h).map oK:=fun fn ro ds env k h=>hR (.todo fn ro ds env k) h
 unfold bX
 cases k with
 |nil=>rfl
 |cons x k=>
  cases x with
  |code c=>
   cases c with
   |skip=>exact hT ..
   |label _=>exact hT ..
   |seq a b=>exact hT ..
   |cond c t e=>
    show _=(F0 P R' fn ro ds env k h c t e).map oK
    unfold F0
    simp only[nQ]
    cases bB P env.oS c<;>first|rfl|exact hT ..
   |block id b=>exact hT ..
   |loop b=>exact hT ..
   |scope b=>exact hT ..
   |exit id=>
    show _=(Fl R' fn ro ds env k h id).map oK
    unfold Fl
    simp only
    cases exitTo id k with
    |none=>simp only;split<;>rfl
    |some k'=>exact hT ..
   |ret=>rfl
   |region i ops d=>
    cases d with
    |false=>
     show _=(J4 R' fn ro ds env k h ops).map oK
     unfold J4 Mj
     simp only
     rw[show R (.ops ops ops.toList env.oS) h=(R' (.ops ops ops.toList env) h).map oK from hR (.ops ops ops.toList env) h]
     cases R' (.ops ops ops.toList env) h with
     |none=>rfl
     |some r=>exact hT ..
    |true=>
     show _=(Et P R' fn ro ds env k h ops).map oK
     unfold Et I1
     simp only[Gv hR]
     cases uK P R' ops env h with
     |none=>rfl
     |some r=>exact hT ..
   |rangeFunc f ps assign body=>
    show _=(Bx P R' fn ro ds env k h f ps assign body).map oK
    unfold Bx
    simp only[nQ]
    split
    ·rename_i d h1 ds1 hd
     have hd':Xf h ds ro=some (d,h1,ds1):=hd
     simp only[hd']
     split
     ·rename_i g first captured hf
      simp only[hf]
      split
      ·rw[show R (.call g (first.toList++[.func (.yield h1.next) #[] #[]]++captured.toList)) (h1.alloc (.loop .ready none fn env.oS ps assign body d))=
        (R' (.call g (first.toList++[.func (.yield h1.next) #[] #[]]++captured.toList)) (h1.alloc (.loop .ready none fn env.oS ps assign body d))).map oK from hR (.call g _) _]
       cases R' (.call g (first.toList++[.func (.yield h1.next) #[] #[]]++captured.toList)) (h1.alloc (.loop .ready none fn env.oS ps assign body d)) with
       |none=>rfl
       |some r=>
        simp only[Option.map_some,oK]
        split
        ·rename_i st p _ _ _ _ _ _ hg
         simp only[hg]
         split
         ·rfl
         ·split
          ·rename_i h4 hs;simp only[hs];exact hT ..
          ·rename_i hs;simp only[hs];rfl
        ·rename_i hg
         split
         ·rename_i hg2;exact absurd hg2 (hg _ _ _ _ _ _ _ _)
         ·rfl
      ·rfl
     ·rename_i hf
      split
      ·rename_i hf2;exact absurd hf2 (hf _ _ _)
      ·rfl
    ·rename_i hd
     have hd':Xf h ds ro=none:=hd
     simp only[hd']
     rfl
   |_=>rfl
  |inBlock _=>exact hT ..
  |inScope _=>exact hT ..
  |inLoop b=>exact hT ..
  |beginRound=>
   show _=(Ae R' fn ro ds env k h).map oK
   unfold Ae
   cases ro with
   |none=>rfl
   |some l=>
    simp only
    split
    ·rename_i hg
     simp only[hg]
     split
     ·rename_i h' hs;simp only[hs];exact hT ..
     ·rename_i hs;simp only[hs];rfl
    ·rename_i hg
     split
     ·rename_i hg2;exact absurd hg2 (hg _ _ _ _ _ _ _)
     ·rfl
  |_=>rfl
theorem G8 (hR:wX R' R) (f:FuncId) (args:List Value) (h:AH):gV P K R f args h=(zQ P K R' f args h).map oK:=by
 unfold zQ gV
 cases K f args with
 |some a=>
  cases a with
  |val v=>rfl
  |fwd g bs=>
   simp only
   rw[show R (.call g bs) h=(R' (.call g bs) h).map oK from hR (.call g bs) h]
   cases R' (.call g bs) h with
   |none=>rfl
   |some r=>simp only[Option.map_some,oK,Vn];split<;>rfl
  |host F=>simp only;cases F h<;>rfl
 |none=>
  simp only
  rw[Ei,Array.getElem?_toList]
  cases P.funcs[f]? with
  |none=>rfl
  |some fn=>
   simp only
   cases fn.body with
   |none=>rfl
   |some body=>
    simp only
    rw[←En.of_eq,show R (.todo f none [] (En.of args (fn.ntmps - args.length)).oS [.code body]) h=(R' (.todo f none [] (En.of args (fn.ntmps - args.length)) [.code body]) h).map oK from hR (.todo f none [] (En.of args (fn.ntmps - args.length)) [.code body]) h]
    cases R' (.todo f none [] (En.of args (fn.ntmps - args.length)) [.code body]) h with
    |none=>rfl
    |some r=>
     obtain⟨⟨lv,ds,env,v⟩,h1⟩:=r
     simp only[Option.map_some,oK,Vn,oY]
     cases lv with
     |exit id=>rfl
     |fU=>simp only;cases bQ ds h1 with|none=>rfl|some h2=>simp only;cases dE P h2 env.oS fn.results.toList<;>rfl
     |ret=>simp only;cases bQ ds h1 with|none=>rfl|some h2=>simp only;cases dE P h2 env.oS fn.results.toList<;>rfl
theorem Fq (hR:wX R' R) (l:Nat) (args:List Value) (h:AH):iP R l args h=(xE R' l args h).map oK:=by
 unfold xE iP
 split
 ·rename_i fn tmps ps as bd d hg
  simp only[hg]
  split
  ·have hof:∀t:List Value,(En.of t 0).oS=t:=fun t=>by rw[En.of_eq];simp
   have:=hR (.todo fn (some l) [] (En.of ((ps.toList.zip args).foldl (fun t (p,v)=>t.set p v) tmps) 0) [.code as,.beginRound,.code bd]) h
   simp only[Tq,hof] at this
   rw[this]
   cases R' (.todo fn (some l) [] (En.of ((ps.toList.zip args).foldl (fun t (p,v)=>t.set p v) tmps) 0) [.code as,.beginRound,.code bd]) h with
   |none=>rfl
   |some r=>
    obtain⟨⟨lv,ds,env,v⟩,h1⟩:=r
    simp only[Option.map_some,oK,Vn]
    split
    ·cases lv with
     |fU=>simp only;cases bP h1 l .ready (some none)<;>rfl
     |ret=>simp only;cases bP h1 l .done (some (some .ret))<;>rfl
     |exit id=>simp only;cases bP h1 l .done (some (some (.exit id)))<;>rfl
    ·rfl
  ·rfl
 ·rename_i hg
  split
  ·rename_i hg2;exact absurd hg2 (hg _ _ _ _ _ _ _ _)
  ·rfl
theorem Mm:∀n,wX (R2 P K n) (run P K n)
 |0=>fun t h=>by cases t<;>rfl
 |n+1=>fun t h=>by
  have ih:wX (R2 P K n) fun t h=>run P K n t h:=Mm n
  cases t with
  |todo fn ro ds env k=>exact Ig ih ..
  |ops all rest env=>exact Jr ih ..
  |call f args=>exact G8 ih ..
  |round l args=>exact Fq ih ..
end same
theorem Ia {P:Program} {K:FuncId→List Value→Option fM} {n:Nat} {f:FuncId} {args:List Value} {h:AH} {v:Value} (hr:((R2 P K n (.call f args) h).any fun r=>mL r.1.v v)=true):
  ((run P K n (.call f args) h).any fun r=>mL r.1.v v)=true:=by
 have:=Mm (P:=P) (K:=K) n (.call f args) h
 simp only[Tq] at this
 rw[this]
 revert hr
 cases R2 P K n (.call f args) h<;>exact id
end
end Go.Ab
end
section
namespace Go.Ab
noncomputable section
variable {P:Program} {K:FuncId→List Value→Option fM}
def sub:Code→List Nat→Code
 |c,[]=>c
 |.seq a _,0::p=>sub a p
 |.seq _ b,1::p=>sub b p
 |.cond _ t _,0::p=>sub t p
 |.cond _ _ e,1::p=>sub e p
 |.block _ b,0::p=>sub b p
 |.loop b,0::p=>sub b p
 |.scope b,0::p=>sub b p
 |.rangeFunc _ _ a _,0::p=>sub a p
 |.rangeFunc _ _ _ b,1::p=>sub b p
 |_,_=> .skip
def A8 (P:Program) (f:FuncId):Option Code:=(P.funcs[f]?).bind (·.body)
def Z7 (P:Program) (f:FuncId):Nat:=(P.funcs[f]?).elim 0 (·.ntmps)
def cd (P:Program) (f:FuncId) (p:List Nat):Code:=sub ((A8 P f).getD .skip) p
def Cl (P:Program) (K:FuncId→List Value→Option fM) (f:FuncId) (args:List Value) (h:AH) (Q:Value→AH→Prop):Prop:=Ok P K (.call f args) h fun o h'=>Q o.v h'
theorem Cl.mono {f:FuncId} {args:List Value} {h:AH} {Q Q':Value→AH→Prop} (k:Cl P K f args h Q) (hq:∀v h',Q v h'→Q' v h'):Cl P K f args h Q':=Ok.mono k fun _ _=>hq _ _
def jk (P:Program) (f:FuncId) (p:List Nat) (n:Nat) (e:Nat→Value) (d:Nat) (st:LoopState) (pd:Option Code):jN:=match cd P f p with
 |.rangeFunc _ ps a b=> .loop st pd f ((List.range n).map e) ps a b d
 |_=> .marks false
abbrev I (n:Int):Value:= .int .i64 n
def pt (b o j:Nat):Value:= .pointer (some ⟨b,o+j,none⟩)
def Z9:Nat→Nat→List Nat→List Nat
 |0,_,acc=>acc
 |f+1,n,acc=>if n≤1 then acc else Z9 f (n/2) (n % 2::acc)
def Cp (n:Nat):List Nat:=Z9 120 n []
def dn:Code→Operand×Array Tmp×Code×Code
 |.rangeFunc f ps a b=>(f,ps,a,b)
 |_=>(.tmp 0, #[],.skip,.skip)
end
end Go.Ab
end
