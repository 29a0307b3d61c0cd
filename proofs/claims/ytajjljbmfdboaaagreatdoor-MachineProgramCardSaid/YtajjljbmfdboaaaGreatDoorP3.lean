/- A part of the proof. -/
import Derived.Test.YtajjljbmfdboaaaGreatDoorP2
section
namespace Go.Ab
open Go.RowKit
variable {P:Program} {B:Nat} {K:FuncId→List Value→Option gX}
variable {R:iG} {all:List Oper} {r0:Nat} {E:Nat→List Value} {H:Nat→AH} {V:Nat→Value} {ρ0 ρ:gP} {h:AH} {w0 w:World} {D:List Nat} {s:Nat} {tmps:List Value}
theorem mR.refl (g:AH):mR g g:=fun _ _ h=>h
theorem mR.trans {a b c:AH} (h:mR a b) (k:mR b c):mR a c:=fun i o x=>k i o (h i o x)
theorem St.zx (d:Dr P R all r0 E H V) (hr0:h.base≤r0) (hB:B≤w0.heap.size) (st:St P B all r0 E H V ρ0 h w0 D s ρ w tmps) {o:Oper} (ho:all[s]?=some o) (hh:dD o.op=false):
  St P B all r0 E H V ρ0 h w0 D (s+1) ρ w tmps:=by
 have hs:s<all.length:=(List.getElem?_eq_some_iff.1 ho).1
 have hs1:∀(j:Nat) p,j<s+1→all[j]?=some p→dD p.op=true→j∈D:=fun j p hj hp hph=>by
  by_cases e:j=s
  ·grind
  ·exact st.s1 j p (by omega) hp hph
 have same:H (s+1)=H s→¬(kindOf o.op= .alloc∧dT ⟨all⟩ (E s) o=some true)→St P B all r0 E H V ρ0 h w0 D (s+1) ρ w tmps:=fun he hnA=>
  {Bj:=by rw[he];exact st.Bj,gh:=st.gh,closed:=st.closed,s1:=hs1,s3:=fun j p hp hph hj=>Nat.lt_succ_of_lt (st.s3 j p hp hph hj),sle:=hs,env:=st.env,nx:=by rw[he];exact st.nx
   A6:=fun i p b f hi=>st.A6 i p b f (by omega),tA:=st.tA,lone:=fun i n t hi=>by rw[he];exact st.lone i n t (by omega),Fo:=st.Fo,Yp:=st.Yp,rf:=st.rf
   rev:=fun i p b f hi hD hp hw ha hk=>by
    rw[he]
    by_cases e:i=s
    ·grind
    ·exact st.rev i p b f (by omega) hD hp hw ha hk
   Xr:=fun j hj=>by rw[he];exact st.Xr j (by omega)
   gr:=fun m hm hno=>by
    by_cases e:m=s+1
    ·subst e;exact mR.refl _
    ·rw[he];exact st.gr m (by omega) fun j p h1 h2=>hno j p h1 (by omega)}
 rcases d.cases ho with⟨hw,_,he⟩|⟨hw,hl,_,he⟩|⟨hw,hk,b,f,ha,_,he⟩|⟨_,hk,_⟩
 ·grind
 ·exact same he fun hx=>(tG hl).2 hx.1
 ·have hbase:(H s).base≤r0+s:=by rw[st.Bj.base];omega
  have hget:∀j,(H (s+1)).get j=if j=r0+s then some b else(H s).get j:=fun j=>by rw[he];exact AH.gU hbase
  have hcase:∀j,((H (s+1)).get j).isSome→j=r0+s∨((H s).get j).isSome:=fun j hj=>by
   grind
  refine {Bj:=?_,gh:=st.gh,closed:=st.closed,s1:=hs1,s3:=fun j p hp hph hj=>Nat.lt_succ_of_lt (st.s3 j p hp hph hj),sle:=hs,env:=st.env,nx:=by rw[he];simp;exact st.nx,
             A6:=fun i p b f hi=>st.A6 i p b f (by omega),tA:=st.tA,lone:=?_,Fo:=st.Fo,Yp:=st.Yp,rf:=st.rf,rev:=?_,Xr:=?_,gr:=?_}
  ·rw[he]
   refine Rj st.Bj (by omega) (by have:=st.nx;omega) (by omega) hB ?_ ?_
   ·intro n t hr
    by_cases hD:s∈D
    ·obtain⟨n',o',h1,h2,h3⟩:=st.A6 s o b f (Nat.le_refl _) hD ho hw ha hk
     grind
    ·rw[st.Yp s hs hD] at hr;cases hr
   ·intro n t hr
    exact⟨(st.tA s n t hs hr).1,fun j s' hj gj rj=>absurd rj (st.lone s n t (Nat.le_refl _) hs hr j s' hj gj)⟩
  ·intro i n t hi hil hr j s' hj gj
   rcases hcase j gj with ej|gj'
   ·subst ej
    intro rj
    have:=st.Fo i s n t s' hil hs hr rj
    omega
   ·exact st.lone i n t (by omega) hil hr j s' hj gj'
  ·intro i p b' f' hi hD hp hw' ha' hk'
   rw[hget]
   by_cases e:i=s
   ·grind
   ·rw[if_neg (by omega)]
    exact st.rev i p b' f' (by omega) hD hp hw' ha' hk'
  ·intro j hj hjl
   rw[hget,if_neg (by omega)]
   exact st.Xr j (by omega) hjl
  ·intro m hm hno
   by_cases e:m=s+1
   ·subst e;exact mR.refl _
   ·refine(st.gr m (by omega) fun j p h1 h2=>hno j p h1 (by omega)).trans ?_
    intro j x hx
    rw[hget,if_neg]
    ·exact hx
    ·intro ej;subst ej
     rw[st.Xr s (Nat.le_refl _) hs] at hx;cases hx
 grind
theorem St.advance (d:Dr P R all r0 E H V) (hr0:h.base≤r0) (hB:B≤w0.heap.size):∀(n s:Nat),all.length - s=n→St P B all r0 E H V ρ0 h w0 D s ρ w tmps→∃s',St P B all r0 E H V ρ0 h w0 D s' ρ w tmps∧m7 all D s'
 |0,s,hn,st=>⟨s,st,.inl (by have:=st.sle;omega)⟩
 |n+1,s,hn,st=>by
  have ho:all[s]?=some all[s]:=List.getElem?_eq_getElem (by omega)
  cases hh:dD all[s].op with
  |true=>exact⟨s,st,.inr ⟨_,ho,hh,fun hD=>by have:=st.s3 s _ ho hh hD;omega⟩⟩
  |false=>exact St.advance d hr0 hB n (s+1) (by omega) (st.zx d hr0 hB ho hh)
theorem xK {i:Nat} {o:Oper} (hc:∀i∈D,∀o,all[i]?=some o→∀j∈eP o,j∈D) (ho:all[i]?=some o) (hdir:∀j∈eP o,j∈D):
  ∀k∈D++[i],∀p,all[k]?=some p→∀j∈eP p,j∈D++[i]:=by
 grind
theorem Gx {i:Nat} {o:Oper} (ho:all[i]?=some o) {v':Value} (he:aT ρ (vW all V (E 0) D) tmps) (hv:aD ρ (V i) v'):aT ρ (vW all V (E 0) (D++[i])) (iA tmps o.dst v'):=by
 rw[Ll,ho]
 simp only[Option.bind_some]
 cases o.dst with
 |none=>exact he
 |some dd=>exact he.set dd hv
theorem St.value (st:St P B all r0 E H V ρ0 h w0 D s ρ w tmps) {i:Nat} {o:Oper} (ho:all[i]?=some o) (hdir:∀j∈eP o,j∈D) (hh:dD o.op=false) (hnA:¬(kindOf o.op= .alloc∧dT ⟨all⟩ (E i) o=some true))
  {v':Value} (hv:aD ρ (V i) v'):St P B all r0 E H V ρ0 h w0 (D++[i]) s ρ w (iA tmps o.dst v') where
 Bj:=st.Bj
 gh:=fun k hk=>by
  rcases List.mem_append.1 hk with h1|h1
  ·exact st.gh k h1
  grind
 closed:=xK st.closed ho hdir
 s1:=fun j p hj hp hph=>List.mem_append_left _ (st.s1 j p hj hp hph)
 s3:=fun j p hp hph hj=>by
  rcases List.mem_append.1 hj with h1|h1
  ·exact st.s3 j p hp hph h1
  grind
 sle:=st.sle
 env:=Gx ho st.env hv
 nx:=st.nx
 A6:=fun k p b f hk hkD hp hw ha hkk=>by
  rcases List.mem_append.1 hkD with h1|h1
  ·exact st.A6 k p b f hk h1 hp hw ha hkk
  grind
 tA:=st.tA
 lone:=st.lone
 Fo:=st.Fo
 Yp:=fun k hk hD=>st.Yp k hk fun hh'=>hD (List.mem_append_left _ hh')
 rf:=st.rf
 rev:=fun k p b f hk hD=>st.rev k p b f hk fun hh'=>hD (List.mem_append_left _ hh')
 Xr:=st.Xr
 gr:=st.gr
theorem St.block (st:St P B all r0 E H V ρ0 h w0 D s ρ w tmps) (hr0:h.base≤r0) (hB:B≤w0.heap.size) {i:Nat} {o:Oper} (ho:all[i]?=some o) (hD:i∉D) (hdir:∀j∈eP o,j∈D) (hk:kindOf o.op= .alloc) (hw:dT ⟨all⟩ (E i) o=some true)
  {b:kY} {f:Nat→Value} (ha:dW P (cK P (E i)) o.op=some (b,f)) {o':Obj} (hb:rN P ρ (0,0) b o') {v':Value} (hv:aD (sA ρ (r0+i) (w.heap.size,(0,0))) (V i) v'):
  St P B all r0 E H V ρ0 h w0 (D++[i]) s (sA ρ (r0+i) (w.heap.size,(0,0))) (w.alloc o') (iA tmps o.dst v'):=by
 have hil:i<all.length:=(List.getElem?_eq_some_iff.1 ho).1
 have hn:=st.Yp i hil hD
 have hext:Ext ρ (sA ρ (r0+i) (w.heap.size,(0,0))):=Ext.sA hn
 have hother:∀k,k≠i→sA ρ (r0+i) (w.heap.size,(0,0)) (r0+k)=ρ (r0+k):=fun k hk=>bN (by omega)
 have hlive:∀j n t,((H s).get j).isSome→ρ j=some (n,t)→n<w.heap.size:=fun j n t hj hr=>by
  obtain⟨x,hx⟩:=Option.isSome_iff_exists.1 hj
  obtain⟨o2,h2,_⟩:=st.Bj.inv.pC j x hx n t hr
  exact(Array.getElem?_eq_some_iff.1 h2).1
 have hheavy:dD o.op=false:=by simp[dD,hk]
 refine {Bj:=?_,gh:=?_,closed:=xK st.closed ho hdir,s1:=fun j p hj hp hph=>List.mem_append_left _ (st.s1 j p hj hp hph),s3:=?_,sle:=st.sle,env:=Gx ho (aT.mono hext _ _ st.env) hv,nx:=st.nx,
           A6:=?_,tA:=?_,lone:=?_,Fo:=?_,Yp:=?_,rf:=?_,rev:=?_,Xr:=st.Xr,gr:=st.gr}
 ·refine qk st.Bj (by omega) (by have:=st.nx;omega) (by omega) hB hn rfl rfl rfl rfl ?_
  intro x hx
  rcases Nat.lt_or_ge i s with h1|h1
  ·have:=st.rev i o b f h1 hD ho hw ha hk
   rw[this] at hx;cases hx
   exact hb.mono hext
  ·rw[st.Xr i h1 hil] at hx;cases hx
 ·intro k hk'
  rcases List.mem_append.1 hk' with h1|h1
  ·exact st.gh k h1
  grind
 ·intro j p hp hph hj
  rcases List.mem_append.1 hj with h1|h1
  ·exact st.s3 j p hp hph h1
  grind
 ·intro k p b' f' hks hkD hp hw' ha' hk'
  by_cases e:k=i
  ·subst e
   rw[ho] at hp;cases hp
   rw[ha] at ha';cases ha'
   exact⟨w.heap.size,o',bJ,by show(w.heap.push o')[w.heap.size]?=some o';simp,hb.mono hext⟩
  ·have hkD':k∈D:=by
    rcases List.mem_append.1 hkD with h1|h1
    ·exact h1
    ·exact absurd (by simpa using h1) e
   obtain⟨n,o2,h1,h2,h3⟩:=st.A6 k p b' f' hks hkD' hp hw' ha' hk'
   refine⟨n,o2,by grind,?_,h3.mono hext⟩
   have:=(Array.getElem?_eq_some_iff.1 h2).1
   simp only[World.alloc,Array.getElem?_push]
   grind
 ·intro k n t hkl hr
  by_cases e:k=i
  ·subst e;rw[bJ] at hr;cases hr
   exact⟨st.Bj.size,by simp⟩
  ·rw[hother k e] at hr
   have:=st.tA k n t hkl hr
   exact⟨this.1,by simp;omega⟩
 ·intro k n t hks hkl hr j s' hj gj
  by_cases e:k=i
  ·subst e;rw[bJ] at hr;cases hr
   by_cases ej:j=r0+k
   ·subst ej;rw[st.Xr k hks hkl] at gj;cases gj
   ·rw[bN ej]
    grind
  ·rw[hother k e] at hr
   by_cases ej:j=r0+i
   ·subst ej;rw[bJ]
    intro hx;cases hx
    have:=(st.tA k w.heap.size t hkl hr).2
    omega
   ·rw[bN ej];exact st.lone k n t hks hkl hr j s' hj gj
 ·intro k k' n t t' hkl hkl' hr hr'
  by_cases e:k=i
  ·by_cases e':k'=i
   ·rw[e,e']
   ·subst e;rw[bJ] at hr;cases hr
    rw[hother k' e'] at hr'
    have:=(st.tA k' w.heap.size t' hkl' hr').2
    omega
  ·rw[hother k e] at hr
   by_cases e':k'=i
   ·subst e';rw[bJ] at hr';cases hr'
    have:=(st.tA k w.heap.size t hkl hr).2
    omega
   ·rw[hother k' e'] at hr'
    exact st.Fo k k' n t t' hkl hkl' hr hr'
 ·intro k hkl hkD
  have e:k≠i:=fun e=>hkD (by simp[e])
  rw[hother k e]
  exact st.Yp k hkl fun hh'=>hkD (List.mem_append_left _ hh')
 ·intro k p hp hnA
  have e:k≠i:=fun e=>by grind
  rw[hother k e]
  exact st.rf k p hp hnA
 ·intro k p b' f' hks hkD
  exact st.rev k p b' f' hks fun hh'=>hkD (List.mem_append_left _ hh')
theorem St.aDj (st:St P B all r0 E H V ρ0 h w0 D s ρ w tmps) {o:Oper} (ho:all[s]?=some o) (_:s∉D) (hh:dD o.op=true) (hdir:∀j∈eP o,j∈D) {ρ1:gP} {w1:World} (ev:jT P B ρ (H s) w ρ1 (H (s+1)) w1) {v':Value} (hv:aD ρ1 (V s) v'):
  St P B all r0 E H V ρ0 h w0 (D++[s]) (s+1) ρ1 w1 (iA tmps o.dst v'):=by
 have hsl:s<all.length:=(List.getElem?_eq_some_iff.1 ho).1
 have hback:∀k x,k<all.length→ρ1 (r0+k)=some x→ρ (r0+k)=some x:=fun k x hk hr=>by
  cases hx:ρ (r0+k) with
  |none=>
   have:=ev.un (r0+k) (by have:=st.nx;omega) hx
   rw[hr] at this;cases this
  |some y=>have:=ev.ext _ _ hx;grind
 refine {Bj:=st.Bj.then ev (by have:=st.nx;omega),gh:=?_,closed:=xK st.closed ho hdir,s1:=?_,s3:=?_,sle:=hsl,env:=Gx ho (aT.mono ev.ext _ _ st.env) hv,nx:=Nat.le_trans st.nx ev.next,
           A6:=?_,tA:=?_,lone:=?_,Fo:=?_,Yp:=?_,rf:=?_,rev:=?_,Xr:=?_,gr:=?_}
 ·intro k hk
  rcases List.mem_append.1 hk with h1|h1
  ·exact st.gh k h1
  grind
 ·intro j p hj hp hph
  by_cases e:j=s
  ·simp[e]
  ·exact List.mem_append_left _ (st.s1 j p (by omega) hp hph)
 ·intro j p hp hph hj
  rcases List.mem_append.1 hj with h1|h1
  ·exact Nat.lt_succ_of_lt (st.s3 j p hp hph h1)
  ·have:j=s:=by simpa using h1
   omega
 ·intro k p b f hk hkD hp hw ha hkk
  have hkD':k∈D:=by
   rcases List.mem_append.1 hkD with h1|h1
   ·exact h1
   ·have:k=s:=by simpa using h1
    omega
  obtain⟨n,o',h1,h2,h3⟩:=st.A6 k p b f (by omega) hkD' hp hw ha hkk
  refine⟨n,o',ev.ext _ _ h1,?_,h3.mono ev.ext⟩
  rw[ev.frame n (Array.getElem?_eq_some_iff.1 h2).1 fun j t hj gj=>st.lone k n (0,0) (by omega) (st.gh k hkD') h1 j t (by rw[←st.Bj.base];exact hj) gj]
  exact h2
 ·intro k n t hk hr
  have:=st.tA k n t hk (hback k _ hk hr)
  exact⟨this.1,Nat.lt_of_lt_of_le this.2 ev.size⟩
 ·intro k n t hks hk hr j t' hj gj rj
  have hr':=hback k _ hk hr
  have hn:=(st.tA k n t hk hr').2
  obtain⟨j',t2,h1,h2,h3⟩:=ev.range j n t' (by rw[st.Bj.base];exact hj) gj rj hn
  exact st.lone k n t (by omega) hk hr' j' t2 (by rw[←st.Bj.base];exact h1) h2 h3
 ·intro k k' n t t' hk hk' hr hr'
  exact st.Fo k k' n t t' hk hk' (hback k _ hk hr) (hback k' _ hk' hr')
 ·intro k hk hkD
  exact ev.un _ (by have:=st.nx;omega) (st.Yp k hk fun hh'=>hkD (List.mem_append_left _ hh'))
 ·intro k p hp hnA
  exact ev.un _ (by have:=st.nx;grind) (st.rf k p hp hnA)
 ·intro k p b f hk hkD hp hw ha hkk
  have hks:k≠s:=fun e=>hkD (by simp[e])
  have hkD':k∉D:=fun hh'=>hkD (List.mem_append_left _ hh')
  have hkl:=(List.getElem?_eq_some_iff.1 hp).1
  rw[ev.lG (r0+k) (by have:=st.nx;omega) (st.Yp k hkl hkD')]
  exact st.rev k p b f (by omega) hkD' hp hw ha hkk
 ·intro j hj hjl
  exact ev.stay _ (by have:=st.nx;omega) (st.Xr j (by omega) hjl)
 ·intro m hm hno
  by_cases e:m=s+1
  ·subst e;exact mR.refl _
  grind
theorem xN {a:Act} {d:Option Tmp} {v:Value}:(a.put d v).tmps.toList=iA a.tmps.toList d v:=by cases d<;>simp[Act.put,iA]
theorem dc {h:AH} {w:World} {ρ:gP} (hi:Inv P B ρ h w) {args args':List Value} {b:Builtin} {argTypes:Array TypeId} {ty:TypeId} {consts:Array Bool} {v:Value} {h':AH} (hb:gR b=true) (ha:aT ρ args args') (hv:eC P h b argTypes args=some (v,h')):
  ∃v',aD ρ v v'∧(builtin b argTypes ty consts ⟨args'⟩).run P w= .ok (.value v') w:=by
 unfold eC at hv
 split at hv
 ·
  rename_i x
  simp only[aT] at ha
  obtain⟨x',t,hx,rfl,rfl⟩:=ha
  have key:∀(t:TypeId) (n:Nat),argTypes[0]?=some t→(Builtin.len_ argTypes ty #[x']).run P w= .ok (goInt n) w→∃v',aD ρ (.int .i64 n) v'∧(builtin .len argTypes ty consts ⟨[x']⟩).run P w= .ok (.value v') w:=
   fun t n _ hr=>⟨.int .i64 n,by simp only[aD],by
    show(do pure (Next.value (←Builtin.len_ argTypes ty #[x'])):Sem Next).run P w=_
    simp only[Sem.run_bind,hr,Result.andThen_ok];rfl⟩
  cases h0:argTypes[0]? with
  |none=>grind
  |some t=>
   rw[h0] at hv
   simp only[Option.bind_some] at hv
   split at hv
   ·rename_i s hd
    simp only[Option.some.injEq,Prod.mk.injEq] at hv
    obtain⟨rfl,rfl⟩:=hv
    simp only[aD] at hx;subst hx
    exact key t _ h0 (by simp[Builtin.len_,h0,run_underlying hd])
   ·rename_i n e hd
    simp only[Option.some.injEq,Prod.mk.injEq] at hv
    obtain⟨rfl,rfl⟩:=hv
    exact key t _ h0 (by simp[Builtin.len_,h0,run_underlying hd])
   ·rename_i e hd
    split at hv
    ·rename_i n e2 hd2
     simp only[Option.some.injEq,Prod.mk.injEq] at hv
     obtain⟨rfl,rfl⟩:=hv
     exact key t _ h0 (by simp[Builtin.len_,h0,run_underlying hd,run_underlying hd2])
    ·cases hv
   ·rename_i e a n c hd
    simp only[Option.some.injEq,Prod.mk.injEq] at hv
    obtain⟨rfl,rfl⟩:=hv
    cases a with
    |none=>simp only[aD] at hx;subst hx;exact key t _ h0 (by simp[Builtin.len_,h0,run_underlying hd])
    |some a=>
     obtain⟨_,_,sp⟩:=a
     cases sp with
     |none=>simp only[aD] at hx;obtain⟨_,_,_,_,_,_,rfl⟩:=hx;exact key t _ h0 (by simp[Builtin.len_,h0,run_underlying hd])
     |some _=>simp only[aD] at hx;obtain⟨rfl,_,_,_,_,_,rfl⟩:=hx;exact key t _ h0 (by simp[Builtin.len_,h0,run_underlying hd])
   ·rename_i hd
    simp only[Option.map_eq_some_iff] at hv
    obtain⟨es,hes,hv⟩:=hv
    cases hv
    exact key t _ h0 (H2 hi h0 hd hx hes)
   ·cases hv
 ·simp[gR] at hb
 ·simp[gR] at hb
 ·simp[gR] at hb
 ·simp[gR] at hb
 ·
  rename_i k x k' y
  simp only[aT] at ha
  obtain⟨x',_,hx,⟨y',_,hy,rfl,rfl⟩,rfl⟩:=ha
  simp only[aD] at hx hy;subst hx;subst hy
  simp only[Option.some.injEq,Prod.mk.injEq] at hv
  obtain⟨rfl,rfl⟩:=hv
  exact⟨_,by simp only[aD];rfl,by simp[builtin,Builtin.min_,Builtin.min2]⟩
 ·
  rename_i k x k' y
  simp only[aT] at ha
  obtain⟨x',_,hx,⟨y',_,hy,rfl,rfl⟩,rfl⟩:=ha
  simp only[aD] at hx hy;subst hx;subst hy
  simp only[Option.some.injEq,Prod.mk.injEq] at hv
  obtain⟨rfl,rfl⟩:=hv
  exact⟨_,by simp only[aD];rfl,by simp[builtin,Builtin.max_,Builtin.max2]⟩
 ·cases hv
theorem Gt (C:Ctx P B K) (hR:zK C R) {ops:Array Oper} (hall:ops.toList=all) (d:Dr P R all r0 E H V) (hr0:h.base≤r0) (hB:B≤w0.heap.size) (hi0:Inv P B ρ0 h w0) (hg0:C.G w0) {b:Frame} {cs:List Frame} {k:List Item}:
  ∀(l:List Nat) (D:List Nat) (s:Nat) (ρ:gP) (w:World) (a:Act),uP all D l→m7 all D s→St P B all r0 E H V ρ0 h w0 D s ρ w a.tmps.toList→
   ∃D' ρ' w' a',St P B all r0 E H V ρ0 h w0 D' all.length ρ' w' a'.tmps.toList∧(∀i,i<all.length→i∈D')∧a'.defers=a.defers∧Steps P (lone (b.atR a (.inRegion ops l::k)) cs w) (lone (b.atR a' (.inRegion ops []::k)) cs w')
 |[],D,s,ρ,w,a,hord,hf,st=>by
  have:s=all.length:=by
   rcases hf with h1|⟨o,ho,_,hD⟩
   ·exact h1
   ·exact absurd (hord s (List.getElem?_eq_some_iff.1 ho).1) hD
  subst this
  exact⟨D,ρ,w,a,st,hord,rfl,Steps.refl _ _⟩
 |i::l,D,s,ρ,w,a,hord,hf,st=>by
  obtain⟨hil,hD,hdirs,hord'⟩:=hord
  have ho:all[i]?=some all[i]:=List.getElem?_eq_getElem hil
  have ho':ops[i]?=some all[i]:=by grind
  have hopsA:ops=⟨all⟩:=by rw[←hall]
  have hdir:=hdirs _ ho
  generalize all[i]=o at ho ho' hdir
  have hwsame:=st.wanted d ho hD hdir
  have hevsame:=st.ev d ho hD hdir
  have hG:C.G w:=by
   have hbelow:Below B w0 w:=⟨st.Bj.os,st.Bj.tape,st.Bj.out,st.Bj.size,fun x hx=>st.Bj.frame x (Nat.lt_of_lt_of_le hx hB) fun j t hj gj hr=>absurd (hi0.low j x t hj gj hr) (Nat.not_le.2 hx)⟩
   exact C.Dj _ _ hbelow hg0
  have hev:=yT st.Bj.inv st.env
  have go:∀(s1:Nat) (ρ1:gP) (w1:World) (a1:Act),St P B all r0 E H V ρ0 h w0 (D++[i]) s1 ρ1 w1 a1.tmps.toList→a1.defers=a.defers→Steps P (lone (b.atR a (.inRegion ops (i::l)::k)) cs w) (lone (b.atR a1 (.inRegion ops l::k)) cs w1)→
    ∃D' ρ' w' a',St P B all r0 E H V ρ0 h w0 D' all.length ρ' w' a'.tmps.toList∧(∀i,i<all.length→i∈D')∧a'.defers=a.defers∧Steps P (lone (b.atR a (.inRegion ops (i::l)::k)) cs w) (lone (b.atR a' (.inRegion ops []::k)) cs w'):=by
   intro s1 ρ1 w1 a1 st1 hd1 hs1
   obtain⟨s2,st2,hf2⟩:=st1.advance d hr0 hB _ _ rfl
   obtain⟨D',ρ',w',a',g1,g2,g3,g4⟩:=Gt C hR hall d hr0 hB hi0 hg0 l (D++[i]) s2 ρ1 w1 a1 hord' hf2 st2
   exact⟨D',ρ',w',a',g1,g2,g3.trans hd1,hs1.trans g4⟩
  have heavyAt:dD o.op=true→i=s:=by
   intro hh
   rcases Nat.lt_or_ge i s with h1|h1
   ·exact absurd (st.s1 i o h1 ho hh) hD
   ·by_cases e:i=s
    ·exact e
    ·exfalso
     rcases hf with h2|⟨p,hp,hph,hsD⟩
     ·omega
     ·exact hsD (st.Ij d ho hdir (d.tF i s o p ho hp hh hph (by omega)))
  rcases d.cases ho with⟨hw,hvu,he⟩|⟨hw,hl,hv,he⟩|⟨hw,hk,bl,f,ha,hvf,he⟩|⟨hw,hh,hv⟩
  ·
   have hw':Region.wanted o (yielded ops a.tmps)=false:=by
    rw[hopsA];exact oD st.env (by rw[hwsame];exact hw)
   have hstep:step P (lone (b.atR a (.inRegion ops (i::l)::k)) cs w)= .next (lone (b.atR (a.put o.dst undef) (.inRegion ops l::k)) cs w):=by
    have:=stepR_op_skip (P:=P) (b:=b) (a:=a) (k:=k) (cs:=cs) (w:=w) (ops:=ops) (i:=i) (rest:=l) (by grind)
    grind
   have hvr:aD ρ (V i) undef:=by rw[hvu];exact tK
   cases hh:dD o.op with
   |true=>
    have his:=heavyAt hh
    subst his
    refine go (i+1) ρ w (a.put o.dst undef) ?_ put_defers (.one hstep)
    rw[xN]
    exact st.aDj ho hD hh hdir (by rw[he];exact jT.refl st.Bj.inv) hvr
   |false=>
    refine go s ρ w (a.put o.dst undef) ?_ put_defers (.one hstep)
    rw[xN]
    exact st.value ho hdir hh (fun hx=>by grind) hvr
  ·
   have hw':Region.wanted o (yielded ops a.tmps)=true:=by
    rw[hopsA];exact oD st.env (by rw[hwsame];exact hw)
   have hval:=st.dm d hf ho hD hdir hl hw
   rw[←To o.op hevsame] at hval
   have hone:∃v',aD ρ (V i) v'∧Steps P (lone (b.atR a (.inRegion ops (i::l)::k)) cs w) (lone (b.atR (a.put o.dst v') (.inRegion ops l::k)) cs w):=by
    obtain⟨dst,op,ty,pos,after,guard⟩:=o
    simp only at hval hl
    rcases J0 hl with hk|hk
    ·have hal:bL P (cK P (vW all V (E 0) D)) (H s) op=some (V i):=by
      cases op<;>first|exact hval|(simp[kindOf] at hk)
     obtain⟨v',hr,hrel⟩:=Fg st.Bj.inv hev {dst:=dst,op:=op,type:=ty,pos:=pos,after:=after,guard:=guard} hal
     exact⟨v',hrel,.one (Mz ho' hw' (mL (by rw[hk];simp)) hr)⟩
    ·cases op with
     |call c=>
      obtain⟨callee,args,argTypes⟩:=c
      cases callee with
      |builtin bi=>
       simp only[eD] at hval
       split at hval
       ·rename_i hbi
        simp only[Option.map_eq_some_iff] at hval
        obtain⟨⟨u,g1⟩,hbv,hu⟩:=hval
        simp only at hu;subst hu
        obtain⟨v',hrel,hr⟩:=dc st.Bj.inv (ty:=ty) (consts:=args.map fun|.const _=>true|_=>false) (args':=args.toList.map a.eval) (w:=w) hbi (aT.Az hev _) hbv
        refine⟨v',hrel,.one (Mz ho' hw' (fun c hc=>by cases hc) ?_)⟩
        have:args.map a.eval=⟨args.toList.map a.eval⟩:=Array.ext' (by simp)
        simp only[execOp,resolve,Sem.run_bind,Sem.run_pure,Result.andThen_ok,invoke]
        grind
       ·cases hval
      |_=>simp[eD] at hval
     |_=>simp[kindOf] at hk
   obtain⟨v',hrel,hs⟩:=hone
   refine go s ρ w (a.put o.dst v') ?_ put_defers hs
   rw[xN]
   exact st.value ho hdir (tG hl).1 (fun hx=>(tG hl).2 hx.1) hrel
  ·
   have hw':Region.wanted o (yielded ops a.tmps)=true:=by
    rw[hopsA];exact oD st.env (by rw[hwsame];exact hw)
   have ha':=ha
   rw[←N3 o.op hevsame] at ha'
   obtain⟨o',g,hb,hr,hval⟩:=Fc (P:=P) (w:=w) hev o ha'
   refine go s (sA ρ (r0+i) (w.heap.size,(0,0))) (w.alloc o') (a.put o.dst (g w.heap.size)) ?_ put_defers (.one (Mz ho' hw' (mL (by rw[hk];simp)) hr))
   rw[xN]
   exact st.block hr0 hB ho hD hdir hk hw ha hb (by rw[hvf];exact hval _ _ (0,0) rfl bJ)
  ·
   have hw':Region.wanted o (yielded ops a.tmps)=true:=by
    rw[hopsA];exact oD st.env (by rw[hwsame];exact hw)
   have his:=heavyAt hh
   subst his
   rw[←Rk o.op hevsame] at hv
   obtain⟨ρ1,w1,v1,e1,r1,s1⟩:=wV C hR st.Bj.inv hG hev k cs ho' hw' (b:=b) (is:=l) hv
   refine go (i+1) ρ1 w1 (a.put o.dst v1) ?_ put_defers s1
   rw[xN]
   exact st.aDj ho hD hh hdir e1 r1
end Go.Ab
end
