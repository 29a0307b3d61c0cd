/- A part of the proof. -/
import Derived.Test.YtajjljbmfdboaaaGreatDoorR2
namespace Go.Ab
open Go.RowKit
section
variable {P:Program} {B:Nat} {K:FuncId->List Value->Option jI}
variable {R:jE} {all:List Oper} {r0:Nat} {E:Nat->List Value} {H:Nat->AH} {V:Nat->Value} {ρ0 ρ:iH} {h:AH} {w0 w:World} {D:List Nat} {s:Nat} {tmps:List Value}
theorem oD.refl (g:AH):oD g g:=fun _ _ h=>h
theorem oD.trans {a b c:AH} (h:oD a b) (k:oD b c):oD a c:=fun i o x=>k i o (h i o x)
theorem St.aC2 (d:Dr P R all r0 E H V) (β:h.base<=r0) (hB:B<=w0.heap.size) (st:St P B all r0 E H V ρ0 h w0 D s ρ w tmps) {o:Oper} (W:all[s]?=some o) (hh:dO o.op=false):
  St P B all r0 E H V ρ0 h w0 D (s+1) ρ w tmps:=by
 have y:s<all.length:=(List.getElem?_eq_some_iff.1 W).1
 have C:∀(j:Nat) p,j<s+1->all[j]?=some p->dO p.op=true->j∈D:=fun j p g l k=>by
  by_cases e:j=s;grind;exact st.s1 j p (by omega) l k
 have same:H (s+1)=H s->¬(kindOf o.op= .alloc/\aWanted ⟨all⟩ (E s) o=some true)->St P B all r0 E H V ρ0 h w0 D (s+1) ρ w tmps:=fun a α=>
  {D3:=by rw[a];exact st.D3,mw:=st.mw,closed:=st.closed,s1:=C,s3:=fun j p l k g=>Nat.lt_succ_of_lt (st.s3 j p l k g),sle:=y,env:=st.env,nx:=by rw[a];exact st.nx
   iS:=fun i p b f z=>st.iS i p b f (by omega),wR:=st.wR,lone:=fun i n t z=>by rw[a];exact st.lone i n t (by omega),H8:=st.H8,db:=st.db,m8:=st.m8
   rev:=fun i p b f z hD l F Q J=>by
    rw[a];by_cases e:i=s;grind;exact st.rev i p b f (by omega) hD l F Q J
   az:=fun j g=>by rw[a];exact st.az j (by omega)
   gr:=fun m hm v=>by
    by_cases e:m=s+1;subst e;exact oD.refl _;rw[a];exact st.gr m (by omega) fun j p I Z=>v j p I (by omega)}
 rcases d.cases W with⟨F,_,a⟩|⟨F,hl,_,a⟩|⟨F,J,b,f,Q,_,a⟩|⟨_,J,_⟩
 .grind
 .exact same a fun G=>(wP hl).2 G.1
 .have r:(H s).base<=r0+s:=by rw[st.D3.base];omega
  have c:∀j,(H (s+1)).get j=if j=r0+s then some b else(H s).get j:=fun j=>by rw[a];exact AH.jO r
  have u:∀j,((H (s+1)).get j).isSome->j=r0+s\/((H s).get j).isSome:=fun j g=>by
   grind
  refine {D3:=?_,mw:=st.mw,closed:=st.closed,s1:=C,s3:=fun j p l k g=>Nat.lt_succ_of_lt (st.s3 j p l k g),sle:=y,env:=st.env,nx:=by rw[a];simp;exact st.nx,
             iS:=fun i p b f z=>st.iS i p b f (by omega),wR:=st.wR,lone:=?_,H8:=st.H8,db:=st.db,m8:=st.m8,rev:=?_,az:=?_,gr:=?_}
  .rw[a];refine Tg st.D3 (by omega) (by have:=st.nx;omega) (by omega) hB ?_ ?_
   .intro n t q;by_cases hD:s∈D
    .obtain⟨n',o',I,Z,h3⟩:=st.iS s o b f (Nat.le_refl _) hD W F Q J;grind
    .rw[st.db s y hD] at q;cases q
   .intro n t q;exact⟨(st.wR s n t y q).1,fun j L g N Y=>absurd Y (st.lone s n t (Nat.le_refl _) y q j L g N)⟩
  .intro i n t z A q j L g N;rcases u j N with M|O
   .subst M;intro Y;have:=st.H8 i s n t L A y q Y;omega
   .exact st.lone i n t (by omega) A q j L g O
  .intro i p b' f' z hD l X S U;rw[c];by_cases e:i=s
   .grind
   .rw[aaa];exact st.rev i p b' f' (by omega) hD l X S U
  .intro j g T;rw[c,aaa];exact st.az j (by omega) T
  .intro m hm v;by_cases e:m=s+1
   .subst e;exact oD.refl _
   .refine(st.gr m (by omega) fun j p I Z=>v j p I (by omega)).trans ?_;intro j x G;rw[c,aJ6]
    .exact G
    .intro M;subst M;rw[st.az s (Nat.le_refl _) y] at G;cases G
 grind
theorem St.advance (d:Dr P R all r0 E H V) (a:h.base<=r0) (hB:B<=w0.heap.size):∀(n s:Nat),all.length - s=n->St P B all r0 E H V ρ0 h w0 D s ρ w tmps->∃c,St P B all r0 E H V ρ0 h w0 D c ρ w tmps/\pq all D c
 |0,s,e,st=>⟨s,st,.inl (by have:=st.sle;omega)⟩
 |n+1,s,e,st=>by
  have b:all[s]?=some all[s]:=List.getElem?_eq_getElem (by omega);cases hh:dO all[s].op with
  |true=>exact⟨s,st,.inr ⟨_,b,hh,fun hD=>by have:=st.s3 s _ b hh hD;omega⟩⟩
  |false=>exact St.advance d a hB n (s+1) (by omega) (st.aC2 d a hB b hh)
theorem zI {i:Nat} {o:Oper} (hc:∀i∈D,∀o,all[i]?=some o->∀j∈fF o,j∈D) (b:all[i]?=some o) (a:∀j∈fF o,j∈D):
  ∀k∈D++[i],∀p,all[k]?=some p->∀j∈fF p,j∈D++[i]:=by
 grind
theorem Ku {i:Nat} {o:Oper} (c:all[i]?=some o) {v':Value} (a:aZ ρ (yY all V (E 0) D) tmps) (d:aF ρ (V i) v'):aZ ρ (yY all V (E 0) (D++[i])) (jJ tmps o.dst v'):=by
 rw[O0,c];simp only[Option.bind_some];cases o.dst with
 |none=>exact a
 |some b=>exact a.set b d
theorem St.value (st:St P B all r0 E H V ρ0 h w0 D s ρ w tmps) {i:Nat} {o:Oper} (r:all[i]?=some o) (g:∀j∈fF o,j∈D) (y:dO o.op=false) (u:¬(kindOf o.op= .alloc/\aWanted ⟨all⟩ (E i) o=some true))
  {v':Value} (v:aF ρ (V i) v'):St P B all r0 E H V ρ0 h w0 (D++[i]) s ρ w (jJ tmps o.dst v') where
 D3:=st.D3
 mw:=fun k d=>by
  rcases List.mem_append.1 d with a|a;exact st.mw k a;grind
 closed:=zI st.closed r g
 s1:=fun j p m l e=>List.mem_append_left _ (st.s1 j p m l e)
 s3:=fun j p l e m=>by
  rcases List.mem_append.1 m with a|a;exact st.s3 j p l e a;grind
 sle:=st.sle
 env:=Ku r st.env v
 nx:=st.nx
 iS:=fun k p b f d n l x t q=>by
  rcases List.mem_append.1 n with a|a;exact st.iS k p b f d a l x t q;grind
 wR:=st.wR
 lone:=st.lone
 H8:=st.H8
 db:=fun k d hD=>st.db k d fun c=>hD (List.mem_append_left _ c)
 m8:=st.m8
 rev:=fun k p b f d hD=>st.rev k p b f d fun c=>hD (List.mem_append_left _ c)
 az:=st.az
 gr:=st.gr
theorem St.block (st:St P B all r0 E H V ρ0 h w0 D s ρ w tmps) (γ:h.base<=r0) (hB:B<=w0.heap.size) {i:Nat} {o:Oper} (Q:all[i]?=some o) (hD:i∉D) (M:∀j∈fF o,j∈D) (Y:kindOf o.op= .alloc) (hw:aWanted ⟨all⟩ (E i) o=some true)
  {b:nI} {f:Nat->Value} (ha:gQ P (dH P (E i)) o.op=some (b,f)) {o':Obj} (hb:uF P ρ (0,0) b o') {v':Value} (hv:aF (uL ρ (r0+i) (w.heap.size,(0,0))) (V i) v'):
  St P B all r0 E H V ρ0 h w0 (D++[i]) s (uL ρ (r0+i) (w.heap.size,(0,0))) (w.alloc o') (jJ tmps o.dst v'):=by
 have N:i<all.length:=(List.getElem?_eq_some_iff.1 Q).1
 have hn:=st.db i N hD
 have l:Ext ρ (uL ρ (r0+i) (w.heap.size,(0,0))):=Ext.uL hn
 have a:∀k,k≠i->uL ρ (r0+i) (w.heap.size,(0,0)) (r0+k)=ρ (r0+k):=fun k Y=>cA (by omega)
 have Z:∀j n t,((H s).get j).isSome->ρ j=some (n,t)->n<w.heap.size:=fun j n t C d=>by
  obtain⟨x,y⟩:=Option.isSome_iff_exists.1 C;obtain⟨o2,X,_⟩:=st.D3.inv.rI j x y n t d;exact(Array.getElem?_eq_some_iff.1 X).1
 have S:dO o.op=false:=by simp[dO,Y]
 refine {D3:=?_,mw:=?_,closed:=zI st.closed Q M,s1:=fun j p C u G=>List.mem_append_left _ (st.s1 j p C u G),s3:=?_,sle:=st.sle,env:=Ku Q (aZ.mono l _ _ st.env) hv,nx:=st.nx,
           iS:=?_,wR:=?_,lone:=?_,H8:=?_,db:=?_,m8:=?_,rev:=?_,az:=st.az,gr:=st.gr}
 .refine xa st.D3 (by omega) (by have:=st.nx;omega) (by omega) hB hn rfl rfl rfl rfl ?_;intro x y;rcases Nat.lt_or_ge i s with g|g
  .have:=st.rev i o b f g hD Q hw ha Y;rw[this] at y;cases y;exact hb.mono l
  .rw[st.az i g N] at y;cases y
 .intro k F;rcases List.mem_append.1 F with g|g
  .exact st.mw k g
  grind
 .intro j p u G C;rcases List.mem_append.1 C with g|g
  .exact st.s3 j p u G g
  grind
 .intro k p T U q m u β z F;by_cases e:k=i
  .subst e;rw[Q] at u;cases u;rw[ha] at z;cases z;exact⟨w.heap.size,o',bV,by show(w.heap.push o')[w.heap.size]?=some o';simp,hb.mono l⟩
  .have O:k∈D:=by
    rcases List.mem_append.1 m with g|g;exact g;exact absurd (by simpa using g) e
   obtain⟨n,o2,g,X,h3⟩:=st.iS k p T U q O u β z F
   refine⟨n,o2,by grind,?_,h3.mono l⟩
   have:=(Array.getElem?_eq_some_iff.1 X).1
   simp only[World.alloc,Array.getElem?_push]
   grind
 .intro k n t c d;by_cases e:k=i
  .subst e;rw[bV] at d;cases d;exact⟨st.D3.size,by simp⟩
  .rw[a k e] at d;have:=st.wR k n t c d;exact⟨this.1,by simp;omega⟩
 .intro k n t q c d j s' C W;by_cases e:k=i
  .subst e;rw[bV] at d;cases d;by_cases L:j=r0+k
   .subst L;rw[st.az k q c] at W;cases W
   .rw[cA L];grind
  .rw[a k e] at d;by_cases L:j=r0+i
   .subst L;rw[bV];intro y;cases y;have:=(st.wR k w.heap.size t c d).2;omega
   .rw[cA L];exact st.lone k n t q c d j s' C W
 .intro k I n t t' c v d r;by_cases e:k=i
  .by_cases J:I=i
   .rw[e,J]
   .subst e;rw[bV] at d;cases d;rw[a I J] at r;have:=(st.wR I w.heap.size t' v r).2;omega
  .rw[a k e] at d;by_cases J:I=i
   .subst J;rw[bV] at r;cases r;have:=(st.wR k w.heap.size t c d).2;omega
   .rw[a I J] at r;exact st.H8 k I n t t' c v d r
 .intro k c m;have e:k≠i:=fun e=>m (by simp[e]);rw[a k e];exact st.db k c fun A=>m (List.mem_append_left _ A)
 .intro k p u α;have e:k≠i:=fun e=>by grind
  rw[a k e]
  exact st.m8 k p u α
 .intro k p T U q m;exact st.rev k p T U q fun A=>m (List.mem_append_left _ A)
theorem St.aFo (st:St P B all r0 E H V ρ0 h w0 D s ρ w tmps) {o:Oper} (S:all[s]?=some o) (_:s∉D) (hh:dO o.op=true) (C:∀j∈fF o,j∈D) {ρ1:iH} {Y:World} (ev:lN P B ρ (H s) w ρ1 (H (s+1)) Y) {v':Value} (hv:aF ρ1 (V s) v'):
  St P B all r0 E H V ρ0 h w0 (D++[s]) (s+1) ρ1 Y (jJ tmps o.dst v'):=by
 have T:s<all.length:=(List.getElem?_eq_some_iff.1 S).1
 have a:∀k x,k<all.length->ρ1 (r0+k)=some x->ρ (r0+k)=some x:=fun k x d A=>by
  cases hx:ρ (r0+k) with
  |none=>
   have:=ev.un (r0+k) (by have:=st.nx;omega) hx;rw[A] at this;cases this
  |some y=>have:=ev.ext _ _ hx;grind
 refine {D3:=st.D3.then ev (by have:=st.nx;omega),mw:=?_,closed:=zI st.closed S C,s1:=?_,s3:=?_,sle:=T,env:=Ku S (aZ.mono ev.ext _ _ st.env) hv,nx:=Nat.le_trans st.nx ev.next,
           iS:=?_,wR:=?_,lone:=?_,H8:=?_,db:=?_,m8:=?_,rev:=?_,az:=?_,gr:=?_}
 .intro k d;rcases List.mem_append.1 d with g|g
  .exact st.mw k g
  grind
 .intro j p u l z;by_cases e:j=s
  .simp[e]
  .exact List.mem_append_left _ (st.s1 j p (by omega) l z)
 .intro j p l z u;rcases List.mem_append.1 u with g|g
  .exact Nat.lt_succ_of_lt (st.s3 j p l z g)
  .have:j=s:=by simpa using g
   omega
 .intro k p b f d i l U L v;have c:k∈D:=by
   rcases List.mem_append.1 i with g|g;exact g;have:k=s:=by simpa using g
   omega
  obtain⟨n,o',g,G,J⟩:=st.iS k p b f (by omega) c l U L v
  refine⟨n,o',ev.ext _ _ g,?_,J.mono ev.ext⟩
  rw[ev.frame n (Array.getElem?_eq_some_iff.1 G).1 fun j t u I=>st.lone k n (0,0) (by omega) (st.mw k c) g j t (by rw[<-st.D3.base];exact u) I]
  exact G
 .intro k n t d A;have:=st.wR k n t d (a k _ d A);exact⟨this.1,Nat.lt_of_lt_of_le this.2 ev.size⟩
 .intro k n t O d A j W u I rj;have q:=a k _ d A;have Z:=(st.wR k n t d q).2;obtain⟨j',t2,g,G,J⟩:=ev.range j n W (by rw[st.D3.base];exact u) I rj Z;exact st.lone k n t (by omega) d q j' t2 (by rw[<-st.D3.base];exact g) G J
 .intro k X n t W d F A q;exact st.H8 k X n t W d F (a k _ d A) (a X _ F q)
 .intro k d i;exact ev.un _ (by have:=st.nx;omega) (st.db k d fun r=>i (List.mem_append_left _ r))
 .intro k p l Q;exact ev.un _ (by have:=st.nx;grind) (st.m8 k p l Q)
 .intro k p b f d i l U L v;have O:k≠s:=fun e=>i (by simp[e]);have c:k∉D:=fun r=>i (List.mem_append_left _ r);have N:=(List.getElem?_eq_some_iff.1 l).1;rw[ev.nC (r0+k) (by have:=st.nx;omega) (st.db k N c)];exact st.rev k p b f (by omega) c l U L v
 .intro j u M;exact ev.stay _ (by have:=st.nx;omega) (st.az j (by omega) M)
 .intro m hm α;by_cases e:m=s+1
  .subst e;exact oD.refl _
  grind
theorem Av {a:Act} {d:Option Tmp} {v:Value}:(a.put d v).tmps.toList=jJ a.tmps.toList d v:=by cases d<;>simp[Act.put,jJ]
theorem ku {h:AH} {w:World} {ρ:iH} (u:Inv P B ρ h w) {args args':List Value} {b:Builtin} {d:Array TypeId} {ty:TypeId} {consts:Array Bool} {v:Value} {h':AH} (hb:jG b=true) (l:aZ ρ args args') (f:fC P h b d args=some (v,h')):
  ∃o,aF ρ v o/\(builtin b d ty consts ⟨args'⟩).run P w= .ok (.value o) w:=by
 unfold fC at f
 split at f
 .rename_i x;simp only[aZ] at l;obtain⟨p,t,g,rfl,rfl⟩:=l;have i:∀(t:TypeId) (n:Nat),d[0]?=some t->(Builtin.len_ d ty #[p]).run P w= .ok (goInt n) w->∃o,aF ρ (.int .i64 n) o/\(builtin .len d ty consts ⟨[p]⟩).run P w= .ok (.value o) w:=
   fun t n _ z=>⟨.int .i64 n,by simp only[aF],by
    show(do pure (Next.value (<-Builtin.len_ d ty #[p])):Sem Next).run P w=_;simp only[Sem.run_bind,z,Result.andThen_ok];rfl⟩
  cases h0:d[0]? with
  |none=>grind
  |some t=>
   rw[h0] at f
   simp only[Option.bind_some] at f
   split at f
   .rename_i s j;simp only[Option.some.injEq,Prod.mk.injEq] at f;obtain⟨rfl,rfl⟩:=f;simp only[aF] at g;subst g;exact i t _ h0 (by simp[Builtin.len_,h0,run_underlying j])
   .rename_i n e j;simp only[Option.some.injEq,Prod.mk.injEq] at f;obtain⟨rfl,rfl⟩:=f;exact i t _ h0 (by simp[Builtin.len_,h0,run_underlying j])
   .rename_i e j;split at f
    .rename_i n F q;simp only[Option.some.injEq,Prod.mk.injEq] at f;obtain⟨rfl,rfl⟩:=f;exact i t _ h0 (by simp[Builtin.len_,h0,run_underlying j,run_underlying q])
    .cases f
   .rename_i e a n c j;simp only[Option.some.injEq,Prod.mk.injEq] at f;obtain⟨rfl,rfl⟩:=f;cases a with
    |none=>simp only[aF] at g;subst g;exact i t _ h0 (by simp[Builtin.len_,h0,run_underlying j])
    |some a=>
     obtain⟨_,_,sp⟩:=a
     cases sp with
     |none=>simp only[aF] at g;obtain⟨_,_,_,_,_,_,rfl⟩:=g;exact i t _ h0 (by simp[Builtin.len_,h0,run_underlying j])
     |some _=>simp only[aF] at g;obtain⟨rfl,_,_,_,_,_,rfl⟩:=g;exact i t _ h0 (by simp[Builtin.len_,h0,run_underlying j])
   .rename_i j;simp only[Option.map_eq_some_iff] at f;obtain⟨G,r,f⟩:=f;cases f;exact i t _ h0 (I5 u h0 j g r)
   .cases f
 .simp[jG] at hb
 .simp[jG] at hb
 .simp[jG] at hb
 .simp[jG] at hb
 .rename_i k x A y;simp only[aZ] at l;obtain⟨p,_,g,⟨C,_,m,rfl,rfl⟩,rfl⟩:=l;simp only[aF] at g m;subst g;subst m;simp only[Option.some.injEq,Prod.mk.injEq] at f;obtain⟨rfl,rfl⟩:=f;exact⟨_,by simp only[aF];rfl,by simp[builtin,Builtin.min_,Builtin.min2]⟩
 .rename_i k x A y;simp only[aZ] at l;obtain⟨p,_,g,⟨C,_,m,rfl,rfl⟩,rfl⟩:=l;simp only[aF] at g m;subst g;subst m;simp only[Option.some.injEq,Prod.mk.injEq] at f;obtain⟨rfl,rfl⟩:=f;exact⟨_,by simp only[aF];rfl,by simp[builtin,Builtin.max_,Builtin.max2]⟩
 .cases f
theorem Lj (C:Ctx P B K) (hR:Ck C R) {ops:Array Oper} (T:ops.toList=all) (d:Dr P R all r0 E H V) (β:h.base<=r0) (hB:B<=w0.heap.size) (ζ:Inv P B ρ0 h w0) (ε:C.G w0) {b:Frame} {cs:List Frame} {k:List Item}:
  ∀(l:List Nat) (D:List Nat) (s:Nat) (ρ:iH) (w:World) (a:Act),xI all D l->pq all D s->St P B all r0 E H V ρ0 h w0 D s ρ w a.tmps.toList->
   ∃W ρ' w' M,St P B all r0 E H V ρ0 h w0 W all.length ρ' w' M.tmps.toList/\(∀i,i<all.length->i∈W)/\M.defers=a.defers/\Steps P (lone (b.atR a (.inRegion ops l::k)) cs w) (lone (b.atR M (.inRegion ops []::k)) cs w')
 |[],D,s,ρ,w,a,I,hf,st=>by
  have:s=all.length:=by
   rcases hf with h1|⟨o,A,_,hD⟩;exact h1;exact absurd (I s (List.getElem?_eq_some_iff.1 A).1) hD
  subst this;exact⟨D,ρ,w,a,st,I,rfl,Steps.refl _ _⟩
 |i::l,D,s,ρ,w,a,I,hf,st=>by
  obtain⟨ο,hD,X,α⟩:=I;have A:all[i]?=some all[i]:=List.getElem?_eq_getElem ο;have J:ops[i]?=some all[i]:=by grind
  have v:ops=⟨all⟩:=by rw[<-T]
  have n:=X _ A;generalize all[i]=o at A J n;have q:=st.wanted d A hD n;have r:=st.ev d A hD n;have hG:C.G w:=by
   have N:Below B w0 w:=⟨st.D3.os,st.D3.tape,st.D3.out,st.D3.size,fun x hx=>st.D3.frame x (Nat.lt_of_lt_of_le hx hB) fun j t hj gj hr=>absurd (ζ.low j x t hj gj hr) (Nat.not_le.2 hx)⟩;exact C.E4 _ _ N ε
  have O:=Bk st.D3.inv st.env;have go:∀(s1:Nat) (ρ1:iH) (w1:World) (a1:Act),St P B all r0 E H V ρ0 h w0 (D++[i]) s1 ρ1 w1 a1.tmps.toList->a1.defers=a.defers->Steps P (lone (b.atR a (.inRegion ops (i::l)::k)) cs w) (lone (b.atR a1 (.inRegion ops l::k)) cs w1)->
    ∃W ρ' w' M,St P B all r0 E H V ρ0 h w0 W all.length ρ' w' M.tmps.toList/\(∀i,i<all.length->i∈W)/\M.defers=a.defers/\Steps P (lone (b.atR a (.inRegion ops (i::l)::k)) cs w) (lone (b.atR M (.inRegion ops []::k)) cs w'):=by
   intro s1 ρ1 w1 a1 χ ν σ
   obtain⟨s2,ψ,ξ⟩:=χ.advance d β hB _ _ rfl
   obtain⟨W,ρ',w',M,g1,g2,g3,g4⟩:=Lj C hR T d β hB ζ ε l (D++[i]) s2 ρ1 w1 a1 α ξ ψ
   exact⟨W,ρ',w',M,g1,g2,g3.trans ν,σ.trans g4⟩
  have y:dO o.op=true->i=s:=by
   intro Q;rcases Nat.lt_or_ge i s with h1|h1;exact absurd (st.s1 i o h1 A Q) hD;by_cases e:i=s;exact e;exfalso;rcases hf with h2|⟨p,hp,π,τ⟩;omega;exact τ (st.J7 d A n (d.wU i s o p A hp Q π (by omega)))
  rcases d.cases A with⟨S,φ,he⟩|⟨S,hl,hv,he⟩|⟨S,Z,bl,f,ha,υ,he⟩|⟨S,Q,hv⟩;have F:Region.wanted o (yielded ops a.tmps)=false:=by
   rw[v];exact pY st.env (by rw[q];exact S)
  have L:step P (lone (b.atR a (.inRegion ops (i::l)::k)) cs w)= .next (lone (b.atR (a.put o.dst undef) (.inRegion ops l::k)) cs w):=by
   have:=stepR_op_skip (P:=P) (b:=b) (a:=a) (k:=k) (cs:=cs) (w:=w) (ops:=ops) (i:=i) (rest:=l) (by grind);grind
  have θ:aF ρ (V i) undef:=by rw[φ];exact wS
  cases Q:dO o.op with
  |true=>
   have Y:=y Q;subst Y;refine go (i+1) ρ w (a.put o.dst undef) ?_ put_defers (.one L);rw[Av];exact st.aFo A hD Q n (by rw[he];exact lN.refl st.D3.inv) θ
  |false=>
   refine go s ρ w (a.put o.dst undef) ?_ put_defers (.one L);rw[Av];exact st.value A n Q (fun hx=>by grind) θ
  have F:Region.wanted o (yielded ops a.tmps)=true:=by
   rw[v];exact pY st.env (by rw[q];exact S)
  have m:=st.dk d hf A hD n hl S;rw[<-S8 o.op r] at m;have η:∃U,aF ρ (V i) U/\Steps P (lone (b.atR a (.inRegion ops (i::l)::k)) cs w) (lone (b.atR (a.put o.dst U) (.inRegion ops l::k)) cs w):=by
   obtain⟨dst,op,ty,pos,after,guard⟩:=o;simp only at m hl;rcases Mx hl with Z|Z;have ι:bY P (dH P (yY all V (E 0) D)) (H s) op=some (V i):=by
    cases op<;>first|exact m|(simp[kindOf] at Z)
   obtain⟨U,hr,z⟩:=H0 st.D3.inv O {dst:=dst,op:=op,type:=ty,pos:=pos,after:=after,guard:=guard} ι;exact⟨U,z,.one (N0 J F (nW (by rw[Z];simp)) hr)⟩;cases op with
   |call c=>
    obtain⟨callee,G,γ⟩:=c;cases callee with
    |builtin bi=>
     simp only[eR] at m;split at m;rename_i κ;simp only[Option.map_eq_some_iff] at m;obtain⟨⟨u,g1⟩,μ,hu⟩:=m;simp only at hu;subst hu;obtain⟨U,z,hr⟩:=ku st.D3.inv (ty:=ty) (consts:=G.map fun|.const _=>true|_=>false) (args':=G.toList.map a.eval) (w:=w) κ (aZ.Dq O _) μ;refine⟨U,z,.one (N0 J F (fun c hc=>by cases hc) ?_)⟩;have:G.map a.eval=⟨G.toList.map a.eval⟩:=Array.ext' (by simp);simp only[execOp,resolve,Sem.run_bind,Sem.run_pure,Result.andThen_ok,invoke];grind;cases m
    |_=>simp[eR] at m
   |_=>simp[kindOf] at Z
  obtain⟨U,z,hs⟩:=η;refine go s ρ w (a.put o.dst U) ?_ put_defers hs;rw[Av];exact st.value A n (wP hl).1 (fun hx=>(wP hl).2 hx.1) z;have F:Region.wanted o (yielded ops a.tmps)=true:=by
   rw[v];exact pY st.env (by rw[q];exact S)
  have δ:=ha;rw[<-Qf o.op r] at δ;obtain⟨o',g,hb,hr,m⟩:=Hx (P:=P) (w:=w) O o δ;refine go s (uL ρ (r0+i) (w.heap.size,(0,0))) (w.alloc o') (a.put o.dst (g w.heap.size)) ?_ put_defers (.one (N0 J F (nW (by rw[Z];simp)) hr));rw[Av];exact st.block β hB A hD n Z S ha hb (by rw[υ];exact m _ _ (0,0) rfl bV);have F:Region.wanted o (yielded ops a.tmps)=true:=by
   rw[v];exact pY st.env (by rw[q];exact S)
  have Y:=y Q;subst Y;rw[<-Uq o.op r] at hv;obtain⟨ρ1,w1,v1,e1,r1,s1⟩:=Ag C hR st.D3.inv hG O k cs J F (b:=b) (is:=l) hv;refine go (i+1) ρ1 w1 (a.put o.dst v1) ?_ put_defers s1;rw[Av];exact st.aFo A hD Q n e1 r1
end
end Go.Ab
