/- A part of the proof. -/
import Derived.Test.YtajjljbmfdboaaaGreatDoorF2
section
namespace Go.Ab
open Go.RowKit
variable {P:Program} {B:Nat} {K:FuncId→List Value→Option hJ}
variable {R:iM} {all:List Oper} {r0:Nat} {E:Nat→List Value} {H:Nat→AH} {V:Nat→Value} {ρ0 ρ:gQ} {h:AH} {w0 w:World} {D:List Nat} {s:Nat} {tmps:List Value}
theorem nO.refl (g:AH):nO g g:=fun _ _ h=>h
theorem nO.trans {a b c:AH} (h:nO a b) (k:nO b c):nO a c:=fun i o x=>k i o (h i o x)
theorem St.aC7 (d:Dr P R all r0 E H V) (hr0:h.base≤r0) (hB:B≤w0.heap.size) (st:St P B all r0 E H V ρ0 h w0 D s ρ w tmps) {o:Oper} (ho:all[s]?=some o) (hh:dF o.op=false):
  St P B all r0 E H V ρ0 h w0 D (s+1) ρ w tmps:=by
 have hs:s<all.length:=(List.getElem?_eq_some_iff.1 ho).1
 have hs1:∀(j:Nat) p,j<s+1→all[j]?=some p→dF p.op=true→j∈D:=fun j p hj hp hph=>by
  by_cases e:j=s
  ·grind
  ·exact st.s1 j p (by omega) hp hph
 have same:H (s+1)=H s→¬(kindOf o.op= .alloc∧dU ⟨all⟩ (E s) o=some true)→St P B all r0 E H V ρ0 h w0 D (s+1) ρ w tmps:=fun he hnA=>
  {Bo:=by rw[he];exact st.Bo,ic:=st.ic,closed:=st.closed,s1:=hs1,s3:=fun j p hp hph hj=>Nat.lt_succ_of_lt (st.s3 j p hp hph hj),sle:=hs,env:=st.env,nx:=by rw[he];exact st.nx
   Bl:=fun i p b f hi=>st.Bl i p b f (by omega),tF:=st.tF,lone:=fun i n t hi=>by rw[he];exact st.lone i n t (by omega),Fy:=st.Fy,Yg:=st.Yg,qh:=st.qh
   rev:=fun i p b f hi hD hp hw ha hk=>by
    rw[he]
    by_cases e:i=s
    ·grind
    ·exact st.rev i p b f (by omega) hD hp hw ha hk
   Ys:=fun j hj=>by rw[he];exact st.Ys j (by omega)
   gr:=fun m hm hno=>by
    by_cases e:m=s+1
    ·subst e;exact nO.refl _
    ·rw[he];exact st.gr m (by omega) fun j p h1 h2=>hno j p h1 (by omega)}
 rcases d.cases ho with⟨hw,_,he⟩|⟨hw,hl,_,he⟩|⟨hw,hk,b,f,ha,_,he⟩|⟨_,hk,_⟩
 ·grind
 ·exact same he fun hx=>(uD hl).2 hx.1
 ·have hbase:(H s).base≤r0+s:=by rw[st.Bo.base];omega
  have hget:∀j,(H (s+1)).get j=if j=r0+s then some b else(H s).get j:=fun j=>by rw[he];exact AH.gY hbase
  have hcase:∀j,((H (s+1)).get j).isSome→j=r0+s∨((H s).get j).isSome:=fun j hj=>by
   grind
  refine {Bo:=?_,ic:=st.ic,closed:=st.closed,s1:=hs1,s3:=fun j p hp hph hj=>Nat.lt_succ_of_lt (st.s3 j p hp hph hj),sle:=hs,env:=st.env,nx:=by rw[he];simp;exact st.nx,
             Bl:=fun i p b f hi=>st.Bl i p b f (by omega),tF:=st.tF,lone:=?_,Fy:=st.Fy,Yg:=st.Yg,qh:=st.qh,rev:=?_,Ys:=?_,gr:=?_}
  ·rw[he]
   refine Su st.Bo (by omega) (by have:=st.nx;omega) (by omega) hB ?_ ?_
   ·intro n t hr
    by_cases hD:s∈D
    ·obtain⟨n',o',h1,h2,h3⟩:=st.Bl s o b f (Nat.le_refl _) hD ho hw ha hk
     grind
    ·rw[st.Yg s hs hD] at hr;cases hr
   ·intro n t hr
    exact⟨(st.tF s n t hs hr).1,fun j s' hj gj rj=>absurd rj (st.lone s n t (Nat.le_refl _) hs hr j s' hj gj)⟩
  ·intro i n t hi hil hr j s' hj gj
   rcases hcase j gj with ej|gj'
   ·subst ej
    intro rj
    have:=st.Fy i s n t s' hil hs hr rj
    omega
   ·exact st.lone i n t (by omega) hil hr j s' hj gj'
  ·intro i p b' f' hi hD hp hw' ha' hk'
   rw[hget]
   by_cases e:i=s
   ·grind
   ·rw[if_neg (by omega)]
    exact st.rev i p b' f' (by omega) hD hp hw' ha' hk'
  ·intro j hj hjl
   rw[hget,if_neg (by omega)]
   exact st.Ys j (by omega) hjl
  ·intro m hm hno
   by_cases e:m=s+1
   ·subst e;exact nO.refl _
   ·refine(st.gr m (by omega) fun j p h1 h2=>hno j p h1 (by omega)).trans ?_
    intro j x hx
    rw[hget,if_neg]
    ·exact hx
    ·intro ej;subst ej
     rw[st.Ys s (Nat.le_refl _) hs] at hx;cases hx
 grind
theorem St.advance (d:Dr P R all r0 E H V) (hr0:h.base≤r0) (hB:B≤w0.heap.size):∀(n s:Nat),all.length - s=n→St P B all r0 E H V ρ0 h w0 D s ρ w tmps→∃s',St P B all r0 E H V ρ0 h w0 D s' ρ w tmps∧nr all D s'
 |0,s,hn,st=>⟨s,st,.inl (by have:=st.sle;omega)⟩
 |n+1,s,hn,st=>by
  have ho:all[s]?=some all[s]:=List.getElem?_eq_getElem (by omega)
  cases hh:dF all[s].op with
  |true=>exact⟨s,st,.inr ⟨_,ho,hh,fun hD=>by have:=st.s3 s _ ho hh hD;omega⟩⟩
  |false=>exact St.advance d hr0 hB n (s+1) (by omega) (st.aC7 d hr0 hB ho hh)
theorem xG {i:Nat} {o:Oper} (hc:∀i∈D,∀o,all[i]?=some o→∀j∈eO o,j∈D) (ho:all[i]?=some o) (hdir:∀j∈eO o,j∈D):
  ∀k∈D++[i],∀p,all[k]?=some p→∀j∈eO p,j∈D++[i]:=by
 grind
theorem J1 {i:Nat} {o:Oper} (ho:all[i]?=some o) {v':Value} (he:aT ρ (wW all V (E 0) D) tmps) (hv:aD ρ (V i) v'):aT ρ (wW all V (E 0) (D++[i])) (iD tmps o.dst v'):=by
 rw[Mg,ho]
 simp only[Option.bind_some]
 cases o.dst with
 |none=>exact he
 |some dd=>exact he.set dd hv
theorem St.value (st:St P B all r0 E H V ρ0 h w0 D s ρ w tmps) {i:Nat} {o:Oper} (ho:all[i]?=some o) (hdir:∀j∈eO o,j∈D) (hh:dF o.op=false) (hnA:¬(kindOf o.op= .alloc∧dU ⟨all⟩ (E i) o=some true))
  {v':Value} (hv:aD ρ (V i) v'):St P B all r0 E H V ρ0 h w0 (D++[i]) s ρ w (iD tmps o.dst v') where
 Bo:=st.Bo
 ic:=fun k hk=>by
  rcases List.mem_append.1 hk with h1|h1
  ·exact st.ic k h1
  grind
 closed:=xG st.closed ho hdir
 s1:=fun j p hj hp hph=>List.mem_append_left _ (st.s1 j p hj hp hph)
 s3:=fun j p hp hph hj=>by
  rcases List.mem_append.1 hj with h1|h1
  ·exact st.s3 j p hp hph h1
  grind
 sle:=st.sle
 env:=J1 ho st.env hv
 nx:=st.nx
 Bl:=fun k p b f hk hkD hp hw ha hkk=>by
  rcases List.mem_append.1 hkD with h1|h1
  ·exact st.Bl k p b f hk h1 hp hw ha hkk
  grind
 tF:=st.tF
 lone:=st.lone
 Fy:=st.Fy
 Yg:=fun k hk hD=>st.Yg k hk fun hh'=>hD (List.mem_append_left _ hh')
 qh:=st.qh
 rev:=fun k p b f hk hD=>st.rev k p b f hk fun hh'=>hD (List.mem_append_left _ hh')
 Ys:=st.Ys
 gr:=st.gr
theorem St.block (st:St P B all r0 E H V ρ0 h w0 D s ρ w tmps) (hr0:h.base≤r0) (hB:B≤w0.heap.size) {i:Nat} {o:Oper} (ho:all[i]?=some o) (hD:i∉D) (hdir:∀j∈eO o,j∈D) (hk:kindOf o.op= .alloc) (hw:dU ⟨all⟩ (E i) o=some true)
  {b:lG} {f:Nat→Value} (ha:dW P (cT P (E i)) o.op=some (b,f)) {o':Obj} (hb:rZ P ρ (0,0) b o') {v':Value} (hv:aD (sL ρ (r0+i) (w.heap.size,(0,0))) (V i) v'):
  St P B all r0 E H V ρ0 h w0 (D++[i]) s (sL ρ (r0+i) (w.heap.size,(0,0))) (w.alloc o') (iD tmps o.dst v'):=by
 have hil:i<all.length:=(List.getElem?_eq_some_iff.1 ho).1
 have hn:=st.Yg i hil hD
 have hext:Ext ρ (sL ρ (r0+i) (w.heap.size,(0,0))):=Ext.sL hn
 have hother:∀k,k≠i→sL ρ (r0+i) (w.heap.size,(0,0)) (r0+k)=ρ (r0+k):=fun k hk=>bQ (by omega)
 have hlive:∀j n t,((H s).get j).isSome→ρ j=some (n,t)→n<w.heap.size:=fun j n t hj hr=>by
  obtain⟨x,hx⟩:=Option.isSome_iff_exists.1 hj
  obtain⟨o2,h2,_⟩:=st.Bo.inv.pM j x hx n t hr
  exact(Array.getElem?_eq_some_iff.1 h2).1
 have hheavy:dF o.op=false:=by simp[dF,hk]
 refine {Bo:=?_,ic:=?_,closed:=xG st.closed ho hdir,s1:=fun j p hj hp hph=>List.mem_append_left _ (st.s1 j p hj hp hph),s3:=?_,sle:=st.sle,env:=J1 ho (aT.mono hext _ _ st.env) hv,nx:=st.nx,
           Bl:=?_,tF:=?_,lone:=?_,Fy:=?_,Yg:=?_,qh:=?_,rev:=?_,Ys:=st.Ys,gr:=st.gr}
 ·refine mz st.Bo (by omega) (by have:=st.nx;omega) (by omega) hB hn rfl rfl rfl rfl ?_
  intro x hx
  rcases Nat.lt_or_ge i s with h1|h1
  ·have:=st.rev i o b f h1 hD ho hw ha hk
   rw[this] at hx;cases hx
   exact hb.mono hext
  ·rw[st.Ys i h1 hil] at hx;cases hx
 ·intro k hk'
  rcases List.mem_append.1 hk' with h1|h1
  ·exact st.ic k h1
  grind
 ·intro j p hp hph hj
  rcases List.mem_append.1 hj with h1|h1
  ·exact st.s3 j p hp hph h1
  grind
 ·intro k p b' f' hks hkD hp hw' ha' hk'
  by_cases e:k=i
  ·subst e
   rw[ho] at hp;cases hp
   rw[ha] at ha';cases ha'
   exact⟨w.heap.size,o',bK,by show(w.heap.push o')[w.heap.size]?=some o';simp,hb.mono hext⟩
  ·have hkD':k∈D:=by
    rcases List.mem_append.1 hkD with h1|h1
    ·exact h1
    ·exact absurd (by simpa using h1) e
   obtain⟨n,o2,h1,h2,h3⟩:=st.Bl k p b' f' hks hkD' hp hw' ha' hk'
   refine⟨n,o2,by grind,?_,h3.mono hext⟩
   have:=(Array.getElem?_eq_some_iff.1 h2).1
   simp only[World.alloc,Array.getElem?_push]
   grind
 ·intro k n t hkl hr
  by_cases e:k=i
  ·subst e;rw[bK] at hr;cases hr
   exact⟨st.Bo.size,by simp⟩
  ·rw[hother k e] at hr
   have:=st.tF k n t hkl hr
   exact⟨this.1,by simp;omega⟩
 ·intro k n t hks hkl hr j s' hj gj
  by_cases e:k=i
  ·subst e;rw[bK] at hr;cases hr
   by_cases ej:j=r0+k
   ·subst ej;rw[st.Ys k hks hkl] at gj;cases gj
   ·rw[bQ ej]
    grind
  ·rw[hother k e] at hr
   by_cases ej:j=r0+i
   ·subst ej;rw[bK]
    intro hx;cases hx
    have:=(st.tF k w.heap.size t hkl hr).2
    omega
   ·rw[bQ ej];exact st.lone k n t hks hkl hr j s' hj gj
 ·intro k k' n t t' hkl hkl' hr hr'
  by_cases e:k=i
  ·by_cases e':k'=i
   ·rw[e,e']
   ·subst e;rw[bK] at hr;cases hr
    rw[hother k' e'] at hr'
    have:=(st.tF k' w.heap.size t' hkl' hr').2
    omega
  ·rw[hother k e] at hr
   by_cases e':k'=i
   ·subst e';rw[bK] at hr';cases hr'
    have:=(st.tF k w.heap.size t hkl hr).2
    omega
   ·rw[hother k' e'] at hr'
    exact st.Fy k k' n t t' hkl hkl' hr hr'
 ·intro k hkl hkD
  have e:k≠i:=fun e=>hkD (by simp[e])
  rw[hother k e]
  exact st.Yg k hkl fun hh'=>hkD (List.mem_append_left _ hh')
 ·intro k p hp hnA
  have e:k≠i:=fun e=>by grind
  rw[hother k e]
  exact st.qh k p hp hnA
 ·intro k p b' f' hks hkD
  exact st.rev k p b' f' hks fun hh'=>hkD (List.mem_append_left _ hh')
theorem St.aE5 (st:St P B all r0 E H V ρ0 h w0 D s ρ w tmps) {o:Oper} (ho:all[s]?=some o) (_:s∉D) (hh:dF o.op=true) (hdir:∀j∈eO o,j∈D) {ρ1:gQ} {w1:World} (ev:kM P B ρ (H s) w ρ1 (H (s+1)) w1) {v':Value} (hv:aD ρ1 (V s) v'):
  St P B all r0 E H V ρ0 h w0 (D++[s]) (s+1) ρ1 w1 (iD tmps o.dst v'):=by
 have hsl:s<all.length:=(List.getElem?_eq_some_iff.1 ho).1
 have hback:∀k x,k<all.length→ρ1 (r0+k)=some x→ρ (r0+k)=some x:=fun k x hk hr=>by
  cases hx:ρ (r0+k) with
  |none=>
   have:=ev.un (r0+k) (by have:=st.nx;omega) hx
   rw[hr] at this;cases this
  |some y=>have:=ev.ext _ _ hx;grind
 refine {Bo:=st.Bo.then ev (by have:=st.nx;omega),ic:=?_,closed:=xG st.closed ho hdir,s1:=?_,s3:=?_,sle:=hsl,env:=J1 ho (aT.mono ev.ext _ _ st.env) hv,nx:=Nat.le_trans st.nx ev.next,
           Bl:=?_,tF:=?_,lone:=?_,Fy:=?_,Yg:=?_,qh:=?_,rev:=?_,Ys:=?_,gr:=?_}
 ·intro k hk
  rcases List.mem_append.1 hk with h1|h1
  ·exact st.ic k h1
  grind
 ·intro j p hj hp hph
  by_cases e:j=s
  ·simp[e]
  ·exact List.mem_append_left _ (st.s1 j p (by omega) hp hph)
 ·intro j p hp hph hj
  rcases List.mem_append.1 hj with h1|h1
  ·exact Nat.lt_succ_of_lt (st.s3 j p hp hph h1)
  ·have:j=s:=by simpa using h1
   omega
 ·intro k p b f hk hkD hp hw ha hkk
  have hkD':k∈D:=by
   rcases List.mem_append.1 hkD with h1|h1
   ·exact h1
   ·have:k=s:=by simpa using h1
    omega
  obtain⟨n,o',h1,h2,h3⟩:=st.Bl k p b f (by omega) hkD' hp hw ha hkk
  refine⟨n,o',ev.ext _ _ h1,?_,h3.mono ev.ext⟩
  rw[ev.frame n (Array.getElem?_eq_some_iff.1 h2).1 fun j t hj gj=>st.lone k n (0,0) (by omega) (st.ic k hkD') h1 j t (by rw[←st.Bo.base];exact hj) gj]
  exact h2
 ·intro k n t hk hr
  have:=st.tF k n t hk (hback k _ hk hr)
  exact⟨this.1,Nat.lt_of_lt_of_le this.2 ev.size⟩
 ·intro k n t hks hk hr j t' hj gj rj
  have hr':=hback k _ hk hr
  have hn:=(st.tF k n t hk hr').2
  obtain⟨j',t2,h1,h2,h3⟩:=ev.range j n t' (by rw[st.Bo.base];exact hj) gj rj hn
  exact st.lone k n t (by omega) hk hr' j' t2 (by rw[←st.Bo.base];exact h1) h2 h3
 ·intro k k' n t t' hk hk' hr hr'
  exact st.Fy k k' n t t' hk hk' (hback k _ hk hr) (hback k' _ hk' hr')
 ·intro k hk hkD
  exact ev.un _ (by have:=st.nx;omega) (st.Yg k hk fun hh'=>hkD (List.mem_append_left _ hh'))
 ·intro k p hp hnA
  exact ev.un _ (by have:=st.nx;grind) (st.qh k p hp hnA)
 ·intro k p b f hk hkD hp hw ha hkk
  have hks:k≠s:=fun e=>hkD (by simp[e])
  have hkD':k∉D:=fun hh'=>hkD (List.mem_append_left _ hh')
  have hkl:=(List.getElem?_eq_some_iff.1 hp).1
  rw[ev.lQ (r0+k) (by have:=st.nx;omega) (st.Yg k hkl hkD')]
  exact st.rev k p b f (by omega) hkD' hp hw ha hkk
 ·intro j hj hjl
  exact ev.stay _ (by have:=st.nx;omega) (st.Ys j (by omega) hjl)
 ·intro m hm hno
  by_cases e:m=s+1
  ·subst e;exact nO.refl _
  grind
theorem xO {a:Act} {d:Option Tmp} {v:Value}:(a.put d v).tmps.toList=iD a.tmps.toList d v:=by cases d<;>simp[Act.put,iD]
theorem Z2 {h:AH} {w:World} {ρ:gQ} (hi:Inv P B ρ h w) {args args':List Value} {b:Builtin} {argTypes:Array TypeId} {ty:TypeId} {consts:Array Bool} {v:Value} {h':AH} (hb:gR b=true) (ha:aT ρ args args') (hv:eE P h b argTypes args=some (v,h')):
  ∃v',aD ρ v v'∧(builtin b argTypes ty consts ⟨args'⟩).run P w= .ok (.value v') w:=by
 unfold eE at hv
 split at hv
 ·
  rename_i x
  simp only[aT] at ha
  obtain⟨x',t,hx,rfl,rfl⟩:=ha
  have key:∀(t:TypeId) (n:Nat),argTypes[0]?=some t→(Builtin.len_ argTypes ty #[x']).run P w= .ok (goInt n) w→∃v',aD ρ (.int .i64 n) v'∧(builtin .len argTypes ty consts ⟨[x']⟩).run P w= .ok (.value v') w:=
   fun t n _ hr=>⟨.int .i64 n,by simp only[aD],by
    show(do pure (Next.value (←Builtin.len_ argTypes ty #[x'])):Sem Next).run P w=_
    simp only[Sem.run_bind,hr,Result.andThen_ok];rfl⟩
  cases h0:argTypes[0]? with
  |none=>grind
  |some t=>
   rw[h0] at hv
   simp only[Option.bind_some] at hv
   split at hv
   ·rename_i s hd
    simp only[Option.some.injEq,Prod.mk.injEq] at hv
    obtain⟨rfl,rfl⟩:=hv
    simp only[aD] at hx;subst hx
    exact key t _ h0 (by simp[Builtin.len_,h0,run_underlying hd])
   ·rename_i n e hd
    simp only[Option.some.injEq,Prod.mk.injEq] at hv
    obtain⟨rfl,rfl⟩:=hv
    exact key t _ h0 (by simp[Builtin.len_,h0,run_underlying hd])
   ·rename_i e hd
    split at hv
    ·rename_i n e2 hd2
     simp only[Option.some.injEq,Prod.mk.injEq] at hv
     obtain⟨rfl,rfl⟩:=hv
     exact key t _ h0 (by simp[Builtin.len_,h0,run_underlying hd,run_underlying hd2])
    ·cases hv
   ·rename_i e a n c hd
    simp only[Option.some.injEq,Prod.mk.injEq] at hv
    obtain⟨rfl,rfl⟩:=hv
    cases a with
    |none=>simp only[aD] at hx;subst hx;exact key t _ h0 (by simp[Builtin.len_,h0,run_underlying hd])
    |some a=>
     obtain⟨_,_,sp⟩:=a
     cases sp with
     |none=>simp only[aD] at hx;obtain⟨_,_,_,_,_,_,rfl⟩:=hx;exact key t _ h0 (by simp[Builtin.len_,h0,run_underlying hd])
     |some _=>simp only[aD] at hx;obtain⟨rfl,_,_,_,_,_,rfl⟩:=hx;exact key t _ h0 (by simp[Builtin.len_,h0,run_underlying hd])
   ·rename_i hd
    simp only[Option.map_eq_some_iff] at hv
    obtain⟨es,hes,hv⟩:=hv
    cases hv
    exact key t _ h0 (Io hi h0 hd hx hes)
   ·cases hv
 ·simp[gR] at hb
 ·simp[gR] at hb
 ·simp[gR] at hb
 ·simp[gR] at hb
 ·
  rename_i k x k' y
  simp only[aT] at ha
  obtain⟨x',_,hx,⟨y',_,hy,rfl,rfl⟩,rfl⟩:=ha
  simp only[aD] at hx hy;subst hx;subst hy
  simp only[Option.some.injEq,Prod.mk.injEq] at hv
  obtain⟨rfl,rfl⟩:=hv
  exact⟨_,by simp only[aD];rfl,by simp[builtin,Builtin.min_,Builtin.min2]⟩
 ·
  rename_i k x k' y
  simp only[aT] at ha
  obtain⟨x',_,hx,⟨y',_,hy,rfl,rfl⟩,rfl⟩:=ha
  simp only[aD] at hx hy;subst hx;subst hy
  simp only[Option.some.injEq,Prod.mk.injEq] at hv
  obtain⟨rfl,rfl⟩:=hv
  exact⟨_,by simp only[aD];rfl,by simp[builtin,Builtin.max_,Builtin.max2]⟩
 ·cases hv
theorem Hy (C:Ctx P B K) (hR:zX C R) {ops:Array Oper} (hall:ops.toList=all) (d:Dr P R all r0 E H V) (hr0:h.base≤r0) (hB:B≤w0.heap.size) (hi0:Inv P B ρ0 h w0) (hg0:C.G w0) {b:Frame} {cs:List Frame} {k:List Item}:
  ∀(l:List Nat) (D:List Nat) (s:Nat) (ρ:gQ) (w:World) (a:Act),vB all D l→nr all D s→St P B all r0 E H V ρ0 h w0 D s ρ w a.tmps.toList→
   ∃D' ρ' w' a',St P B all r0 E H V ρ0 h w0 D' all.length ρ' w' a'.tmps.toList∧(∀i,i<all.length→i∈D')∧a'.defers=a.defers∧Steps P (lone (b.atR a (.inRegion ops l::k)) cs w) (lone (b.atR a' (.inRegion ops []::k)) cs w')
 |[],D,s,ρ,w,a,hord,hf,st=>by
  have:s=all.length:=by
   rcases hf with h1|⟨o,ho,_,hD⟩
   ·exact h1
   ·exact absurd (hord s (List.getElem?_eq_some_iff.1 ho).1) hD
  subst this
  exact⟨D,ρ,w,a,st,hord,rfl,Steps.refl _ _⟩
 |i::l,D,s,ρ,w,a,hord,hf,st=>by
  obtain⟨hil,hD,hdirs,hord'⟩:=hord
  have ho:all[i]?=some all[i]:=List.getElem?_eq_getElem hil
  have ho':ops[i]?=some all[i]:=by grind
  have hopsA:ops=⟨all⟩:=by rw[←hall]
  have hdir:=hdirs _ ho
  generalize all[i]=o at ho ho' hdir
  have hwsame:=st.wanted d ho hD hdir
  have hevsame:=st.ev d ho hD hdir
  have hG:C.G w:=by
   have hbelow:Below B w0 w:=⟨st.Bo.os,st.Bo.tape,st.Bo.out,st.Bo.size,fun x hx=>st.Bo.frame x (Nat.lt_of_lt_of_le hx hB) fun j t hj gj hr=>absurd (hi0.low j x t hj gj hr) (Nat.not_le.2 hx)⟩
   exact C.B7 _ _ hbelow hg0
  have hev:=zF st.Bo.inv st.env
  have go:∀(s1:Nat) (ρ1:gQ) (w1:World) (a1:Act),St P B all r0 E H V ρ0 h w0 (D++[i]) s1 ρ1 w1 a1.tmps.toList→a1.defers=a.defers→Steps P (lone (b.atR a (.inRegion ops (i::l)::k)) cs w) (lone (b.atR a1 (.inRegion ops l::k)) cs w1)→
    ∃D' ρ' w' a',St P B all r0 E H V ρ0 h w0 D' all.length ρ' w' a'.tmps.toList∧(∀i,i<all.length→i∈D')∧a'.defers=a.defers∧Steps P (lone (b.atR a (.inRegion ops (i::l)::k)) cs w) (lone (b.atR a' (.inRegion ops []::k)) cs w'):=by
   intro s1 ρ1 w1 a1 st1 hd1 hs1
   obtain⟨s2,st2,hf2⟩:=st1.advance d hr0 hB _ _ rfl
   obtain⟨D',ρ',w',a',g1,g2,g3,g4⟩:=Hy C hR hall d hr0 hB hi0 hg0 l (D++[i]) s2 ρ1 w1 a1 hord' hf2 st2
   exact⟨D',ρ',w',a',g1,g2,g3.trans hd1,hs1.trans g4⟩
  have heavyAt:dF o.op=true→i=s:=by
   intro hh
   rcases Nat.lt_or_ge i s with h1|h1
   ·exact absurd (st.s1 i o h1 ho hh) hD
   ·by_cases e:i=s
    ·exact e
    ·exfalso
     rcases hf with h2|⟨p,hp,hph,hsD⟩
     ·omega
     ·exact hsD (st.Jh d ho hdir (d.tP i s o p ho hp hh hph (by omega)))
  rcases d.cases ho with⟨hw,hvu,he⟩|⟨hw,hl,hv,he⟩|⟨hw,hk,bl,f,ha,hvf,he⟩|⟨hw,hh,hv⟩
  ·
   have hw':Region.wanted o (yielded ops a.tmps)=false:=by
    rw[hopsA];exact oA st.env (by rw[hwsame];exact hw)
   have hstep:step P (lone (b.atR a (.inRegion ops (i::l)::k)) cs w)= .next (lone (b.atR (a.put o.dst undef) (.inRegion ops l::k)) cs w):=by
    have:=stepR_op_skip (P:=P) (b:=b) (a:=a) (k:=k) (cs:=cs) (w:=w) (ops:=ops) (i:=i) (rest:=l) (by grind)
    grind
   have hvr:aD ρ (V i) undef:=by rw[hvu];exact tS
   cases hh:dF o.op with
   |true=>
    have his:=heavyAt hh
    subst his
    refine go (i+1) ρ w (a.put o.dst undef) ?_ put_defers (.one hstep)
    rw[xO]
    exact st.aE5 ho hD hh hdir (by rw[he];exact kM.refl st.Bo.inv) hvr
   |false=>
    refine go s ρ w (a.put o.dst undef) ?_ put_defers (.one hstep)
    rw[xO]
    exact st.value ho hdir hh (fun hx=>by grind) hvr
  ·
   have hw':Region.wanted o (yielded ops a.tmps)=true:=by
    rw[hopsA];exact oA st.env (by rw[hwsame];exact hw)
   have hval:=st.Zk d hf ho hD hdir hl hw
   rw[←Tf o.op hevsame] at hval
   have hone:∃v',aD ρ (V i) v'∧Steps P (lone (b.atR a (.inRegion ops (i::l)::k)) cs w) (lone (b.atR (a.put o.dst v') (.inRegion ops l::k)) cs w):=by
    obtain⟨dst,op,ty,pos,after,guard⟩:=o
    simp only at hval hl
    rcases Jw hl with hk|hk
    ·have hal:bM P (cT P (wW all V (E 0) D)) (H s) op=some (V i):=by
      cases op<;>first|exact hval|(simp[kindOf] at hk)
     obtain⟨v',hr,hrel⟩:=E8 st.Bo.inv hev {dst:=dst,op:=op,type:=ty,pos:=pos,after:=after,guard:=guard} hal
     exact⟨v',hrel,.one (Lz ho' hw' (mX (by rw[hk];simp)) hr)⟩
    ·cases op with
     |call c=>
      obtain⟨callee,args,argTypes⟩:=c
      cases callee with
      |builtin bi=>
       simp only[eD] at hval
       split at hval
       ·rename_i hbi
        simp only[Option.map_eq_some_iff] at hval
        obtain⟨⟨u,g1⟩,hbv,hu⟩:=hval
        simp only at hu;subst hu
        obtain⟨v',hrel,hr⟩:=Z2 st.Bo.inv (ty:=ty) (consts:=args.map fun|.const _=>true|_=>false) (args':=args.toList.map a.eval) (w:=w) hbi (aT.Ar hev _) hbv
        refine⟨v',hrel,.one (Lz ho' hw' (fun c hc=>by cases hc) ?_)⟩
        have:args.map a.eval=⟨args.toList.map a.eval⟩:=Array.ext' (by simp)
        simp only[execOp,resolve,Sem.run_bind,Sem.run_pure,Result.andThen_ok,invoke]
        grind
       ·cases hval
      |_=>simp[eD] at hval
     |_=>simp[kindOf] at hk
   obtain⟨v',hrel,hs⟩:=hone
   refine go s ρ w (a.put o.dst v') ?_ put_defers hs
   rw[xO]
   exact st.value ho hdir (uD hl).1 (fun hx=>(uD hl).2 hx.1) hrel
  ·
   have hw':Region.wanted o (yielded ops a.tmps)=true:=by
    rw[hopsA];exact oA st.env (by rw[hwsame];exact hw)
   have ha':=ha
   rw[←Ny o.op hevsame] at ha'
   obtain⟨o',g,hb,hr,hval⟩:=Fg (P:=P) (w:=w) hev o ha'
   refine go s (sL ρ (r0+i) (w.heap.size,(0,0))) (w.alloc o') (a.put o.dst (g w.heap.size)) ?_ put_defers (.one (Lz ho' hw' (mX (by rw[hk];simp)) hr))
   rw[xO]
   exact st.block hr0 hB ho hD hdir hk hw ha hb (by rw[hvf];exact hval _ _ (0,0) rfl bK)
  ·
   have hw':Region.wanted o (yielded ops a.tmps)=true:=by
    rw[hopsA];exact oA st.env (by rw[hwsame];exact hw)
   have his:=heavyAt hh
   subst his
   rw[←Sj o.op hevsame] at hv
   obtain⟨ρ1,w1,v1,e1,r1,s1⟩:=yJ C hR st.Bo.inv hG hev k cs ho' hw' (b:=b) (is:=l) hv
   refine go (i+1) ρ1 w1 (a.put o.dst v1) ?_ put_defers s1
   rw[xO]
   exact st.aE5 ho hD hh hdir e1 r1
end Go.Ab
end
