/- A part of the proof. -/
import Derived.Test.YtmhapehobfnoiaaGreatDoorS2
namespace Go.Ab
open Go.RowKit
section
variable {P:Program} {B:Nat} {K:FuncId->List Value->Option kA}
variable {R:jG} {all:List Oper} {r0:Nat} {E:Nat->List Value} {H:Nat->AH} {V:Nat->Value} {ρ0 ρ:iP} {h:AH} {w0 w:World} {D:List Nat} {s:Nat} {tmps:List Value}
theorem pH.refl (g:AH):pH g g:=fun _ _ h=>h
theorem pH.trans {a b c:AH} (h:pH a b) (k:pH b c):pH a c:=fun i o x=>k i o (h i o x)
theorem St.aCi (d:Dr P R all r0 E H V) (β:h.base<=r0) (hB:B<=w0.heap.size) (st:St P B all r0 E H V ρ0 h w0 D s ρ w tmps) {o:Oper} (W:all[s]?=some o) (hh:dL o.op=false):
  St P B all r0 E H V ρ0 h w0 D (s+1) ρ w tmps:=by
 have y:s<all.length:=(List.getElem?_eq_some_iff.1 W).1
 have C:∀(j:Nat) p,j<s+1->all[j]?=some p->dL p.op=true->j∈D:=fun j p g l k=>by
  by_cases e:j=s;grind;exact st.s1 j p (by omega) l k
 have same:H (s+1)=H s->¬(kindOf o.op= .alloc/\aWanted ⟨all⟩ (E s) o=some true)->St P B all r0 E H V ρ0 h w0 D (s+1) ρ w tmps:=fun a α=>
  {Dq:=by rw[a];exact st.Dq,lg:=st.lg,closed:=st.closed,s1:=C,s3:=fun j p l k g=>Nat.lt_succ_of_lt (st.s3 j p l k g),sle:=y,env:=st.env,nx:=by rw[a];exact st.nx
   iX:=fun i p b f z=>st.iX i p b f (by omega),vT:=st.vT,lone:=fun i n t z=>by rw[a];exact st.lone i n t (by omega),Hj:=st.Hj,Z7:=st.Z7,l8:=st.l8
   rev:=fun i p b f z hD l F Q J=>by
    rw[a];by_cases e:i=s;grind;exact st.rev i p b f (by omega) hD l F Q J
   Zf:=fun j g=>by rw[a];exact st.Zf j (by omega)
   gr:=fun m hm v=>by
    by_cases e:m=s+1;subst e;exact pH.refl _;rw[a];exact st.gr m (by omega) fun j p I Z=>v j p I (by omega)}
 rcases d.cases W with⟨F,_,a⟩|⟨F,hl,_,a⟩|⟨F,J,b,f,Q,_,a⟩|⟨_,J,_⟩
 .grind
 .exact same a fun G=>(wS hl).2 G.1
 .have r:(H s).base<=r0+s:=by rw[st.Dq.base];omega
  have c:∀j,(H (s+1)).get j=if j=r0+s then some b else(H s).get j:=fun j=>by rw[a];exact AH.jR r
  have u:∀j,((H (s+1)).get j).isSome->j=r0+s\/((H s).get j).isSome:=fun j g=>by
   grind
  refine {Dq:=?_,lg:=st.lg,closed:=st.closed,s1:=C,s3:=fun j p l k g=>Nat.lt_succ_of_lt (st.s3 j p l k g),sle:=y,env:=st.env,nx:=by rw[a];simp;exact st.nx,
             iX:=fun i p b f z=>st.iX i p b f (by omega),vT:=st.vT,lone:=?_,Hj:=st.Hj,Z7:=st.Z7,l8:=st.l8,rev:=?_,Zf:=?_,gr:=?_}
  .rw[a];refine R8 st.Dq (by omega) (by have:=st.nx;omega) (by omega) hB ?_ ?_
   .intro n t q;by_cases hD:s∈D
    .obtain⟨n',o',I,Z,h3⟩:=st.iX s o b f (Nat.le_refl _) hD W F Q J;grind
    .rw[st.Z7 s y hD] at q;cases q
   .intro n t q;exact⟨(st.vT s n t y q).1,fun j L g N Y=>absurd Y (st.lone s n t (Nat.le_refl _) y q j L g N)⟩
  .intro i n t z A q j L g N;rcases u j N with M|O
   .subst M;intro Y;have:=st.Hj i s n t L A y q Y;omega
   .exact st.lone i n t (by omega) A q j L g O
  .intro i p b' f' z hD l X S U;rw[c];by_cases e:i=s
   .grind
   .rw[aab];exact st.rev i p b' f' (by omega) hD l X S U
  .intro j g T;rw[c,aab];exact st.Zf j (by omega) T
  .intro m hm v;by_cases e:m=s+1
   .subst e;exact pH.refl _
   .refine(st.gr m (by omega) fun j p I Z=>v j p I (by omega)).trans ?_;intro j x G;rw[c,aKi]
    .exact G
    .intro M;subst M;rw[st.Zf s (Nat.le_refl _) y] at G;cases G
 grind
theorem St.advance (d:Dr P R all r0 E H V) (a:h.base<=r0) (hB:B<=w0.heap.size):∀(n s:Nat),all.length - s=n->St P B all r0 E H V ρ0 h w0 D s ρ w tmps->∃c,St P B all r0 E H V ρ0 h w0 D c ρ w tmps/\w9 all D c
 |0,s,e,st=>⟨s,st,.inl (by have:=st.sle;omega)⟩
 |n+1,s,e,st=>by
  have b:all[s]?=some all[s]:=List.getElem?_eq_getElem (by omega);cases hh:dL all[s].op with
  |true=>exact⟨s,st,.inr ⟨_,b,hh,fun hD=>by have:=st.s3 s _ b hh hD;omega⟩⟩
  |false=>exact St.advance d a hB n (s+1) (by omega) (st.aCi d a hB b hh)
theorem Am {i:Nat} {o:Oper} (hc:∀i∈D,∀o,all[i]?=some o->∀j∈eY o,j∈D) (b:all[i]?=some o) (a:∀j∈eY o,j∈D):
  ∀k∈D++[i],∀p,all[k]?=some p->∀j∈eY p,j∈D++[i]:=by
 grind
theorem Kj {i:Nat} {o:Oper} (c:all[i]?=some o) {v':Value} (a:aU ρ (yY all V (E 0) D) tmps) (d:aF ρ (V i) v'):aU ρ (yY all V (E 0) (D++[i])) (jN tmps o.dst v'):=by
 rw[M4,c];simp only[Option.bind_some];cases o.dst with
 |none=>exact a
 |some b=>exact a.set b d
theorem St.value (st:St P B all r0 E H V ρ0 h w0 D s ρ w tmps) {i:Nat} {o:Oper} (q:all[i]?=some o) (e:∀j∈eY o,j∈D) (x:dL o.op=false) (t:¬(kindOf o.op= .alloc/\aWanted ⟨all⟩ (E i) o=some true))
  {v':Value} (u:aF ρ (V i) v'):St P B all r0 E H V ρ0 h w0 (D++[i]) s ρ w (jN tmps o.dst v') where
 Dq:=st.Dq
 lg:=fun k c=>by
  rcases List.mem_append.1 c with h1|h1;exact st.lg k h1;grind
 closed:=Am st.closed q e
 s1:=fun j p l g d=>List.mem_append_left _ (st.s1 j p l g d)
 s3:=fun j p g d l=>by
  rcases List.mem_append.1 l with h1|h1;exact st.s3 j p g d h1;grind
 sle:=st.sle
 env:=Kj q st.env u
 nx:=st.nx
 iX:=fun k p b f c m g v r n=>by
  rcases List.mem_append.1 m with h1|h1;exact st.iX k p b f c h1 g v r n;grind
 vT:=st.vT
 lone:=st.lone
 Hj:=st.Hj
 Z7:=fun k c hD=>st.Z7 k c fun a=>hD (List.mem_append_left _ a)
 l8:=st.l8
 rev:=fun k p b f c hD=>st.rev k p b f c fun a=>hD (List.mem_append_left _ a)
 Zf:=st.Zf
 gr:=st.gr
theorem St.block (st:St P B all r0 E H V ρ0 h w0 D s ρ w tmps) (β:h.base<=r0) (hB:B<=w0.heap.size) {i:Nat} {o:Oper} (O:all[i]?=some o) (hD:i∉D) (L:∀j∈eY o,j∈D) (X:kindOf o.op= .alloc) (hw:aWanted ⟨all⟩ (E i) o=some true)
  {b:oS} {f:Nat->Value} (ha:gO P (dC P (E i)) o.op=some (b,f)) {o':Obj} (hb:tZ P ρ (0,0) b o') {v':Value} (hv:aF (vH ρ (r0+i) (w.heap.size,(0,0))) (V i) v'):
  St P B all r0 E H V ρ0 h w0 (D++[i]) s (vH ρ (r0+i) (w.heap.size,(0,0))) (w.alloc o') (jN tmps o.dst v'):=by
 have M:i<all.length:=(List.getElem?_eq_some_iff.1 O).1
 have hn:=st.Z7 i M hD
 have g:Ext ρ (vH ρ (r0+i) (w.heap.size,(0,0))):=Ext.vH hn
 have a:∀k,k≠i->vH ρ (r0+i) (w.heap.size,(0,0)) (r0+k)=ρ (r0+k):=fun k X=>cB (by omega)
 have Y:∀j n t,((H s).get j).isSome->ρ j=some (n,t)->n<w.heap.size:=fun j n t A d=>by
  obtain⟨x,v⟩:=Option.isSome_iff_exists.1 A;obtain⟨o2,W,_⟩:=st.Dq.inv.nD j x v n t d;exact(Array.getElem?_eq_some_iff.1 W).1
 have Q:dL o.op=false:=by simp[dL,X]
 refine {Dq:=?_,lg:=?_,closed:=Am st.closed O L,s1:=fun j p A r F=>List.mem_append_left _ (st.s1 j p A r F),s3:=?_,sle:=st.sle,env:=Kj O (aU.mono g _ _ st.env) hv,nx:=st.nx,
           iX:=?_,vT:=?_,lone:=?_,Hj:=?_,Z7:=?_,l8:=?_,rev:=?_,Zf:=st.Zf,gr:=st.gr}
 .refine tg st.Dq (by omega) (by have:=st.nx;omega) (by omega) hB hn rfl rfl rfl rfl ?_;intro x v;rcases Nat.lt_or_ge i s with h1|h1
  .have:=st.rev i o b f h1 hD O hw ha X;rw[this] at v;cases v;exact hb.mono g
  .rw[st.Zf i h1 M] at v;cases v
 .intro k C;rcases List.mem_append.1 C with h1|h1
  .exact st.lg k h1
  grind
 .intro j p r F A;rcases List.mem_append.1 A with h1|h1
  .exact st.s3 j p r F h1
  grind
 .intro k p S T m l r α y C;by_cases e:k=i
  .subst e;rw[O] at r;cases r;rw[ha] at y;cases y;exact⟨w.heap.size,o',bT,by show(w.heap.push o')[w.heap.size]?=some o';simp,hb.mono g⟩
  .have N:k∈D:=by
    rcases List.mem_append.1 l with h1|h1;exact h1;exact absurd (by simpa using h1) e
   obtain⟨n,o2,h1,W,h3⟩:=st.iX k p S T m N r α y C
   refine⟨n,o2,by grind,?_,h3.mono g⟩
   have:=(Array.getElem?_eq_some_iff.1 W).1
   simp only[World.alloc,Array.getElem?_push]
   grind
 .intro k n t c d;by_cases e:k=i
  .subst e;rw[bT] at d;cases d;exact⟨st.Dq.size,by simp⟩
  .rw[a k e] at d;have:=st.vT k n t c d;exact⟨this.1,by simp;omega⟩
 .intro k n t m c d j s' A U;by_cases e:k=i
  .subst e;rw[bT] at d;cases d;by_cases J:j=r0+k
   .subst J;rw[st.Zf k m c] at U;cases U
   .rw[cB J];grind
  .rw[a k e] at d;by_cases J:j=r0+i
   .subst J;rw[bT];intro v;cases v;have:=(st.vT k w.heap.size t c d).2;omega
   .rw[cB J];exact st.lone k n t m c d j s' A U
 .intro k G n t t' c u d q;by_cases e:k=i
  .by_cases I:G=i
   .rw[e,I]
   .subst e;rw[bT] at d;cases d;rw[a G I] at q;have:=(st.vT G w.heap.size t' u q).2;omega
  .rw[a k e] at d;by_cases I:G=i
   .subst I;rw[bT] at q;cases q;have:=(st.vT k w.heap.size t c d).2;omega
   .rw[a G I] at q;exact st.Hj k G n t t' c u d q
 .intro k c l;have e:k≠i:=fun e=>l (by simp[e]);rw[a k e];exact st.Z7 k c fun z=>l (List.mem_append_left _ z)
 .intro k p r Z;have e:k≠i:=fun e=>by grind
  rw[a k e]
  exact st.l8 k p r Z
 .intro k p S T m l;exact st.rev k p S T m fun z=>l (List.mem_append_left _ z)
theorem St.aGe (st:St P B all r0 E H V ρ0 h w0 D s ρ w tmps) {o:Oper} (S:all[s]?=some o) (_α:s∉D) (hh:dL o.op=true) (C:∀j∈eY o,j∈D) {ρ1:iP} {w1:World} (g:lJ P B ρ (H s) w ρ1 (H (s+1)) w1) {v':Value} (hv:aF ρ1 (V s) v'):
  St P B all r0 E H V ρ0 h w0 (D++[s]) (s+1) ρ1 w1 (jN tmps o.dst v'):=by
 have T:s<all.length:=(List.getElem?_eq_some_iff.1 S).1
 have a:∀k x,k<all.length->ρ1 (r0+k)=some x->ρ (r0+k)=some x:=fun k x d A=>by
  cases hx:ρ (r0+k) with
  |none=>
   have:=g.un (r0+k) (by have:=st.nx;omega) hx;rw[A] at this;cases this
  |some y=>have:=g.ext _ _ hx;grind
 refine {Dq:=st.Dq.then g (by have:=st.nx;omega),lg:=?_,closed:=Am st.closed S C,s1:=?_,s3:=?_,sle:=T,env:=Kj S (aU.mono g.ext _ _ st.env) hv,nx:=Nat.le_trans st.nx g.next,
           iX:=?_,vT:=?_,lone:=?_,Hj:=?_,Z7:=?_,l8:=?_,rev:=?_,Zf:=?_,gr:=?_}
 .intro k d;rcases List.mem_append.1 d with h1|h1
  .exact st.lg k h1
  grind
 .intro j p u l z;by_cases e:j=s
  .simp[e]
  .exact List.mem_append_left _ (st.s1 j p (by omega) l z)
 .intro j p l z u;rcases List.mem_append.1 u with h1|h1
  .exact Nat.lt_succ_of_lt (st.s3 j p l z h1)
  .have:j=s:=by simpa using h1
   omega
 .intro k p b f d i l U L v;have c:k∈D:=by
   rcases List.mem_append.1 i with h1|h1;exact h1;have:k=s:=by simpa using h1
   omega
  obtain⟨n,o',h1,G,J⟩:=st.iX k p b f (by omega) c l U L v
  refine⟨n,o',g.ext _ _ h1,?_,J.mono g.ext⟩
  rw[g.frame n (Array.getElem?_eq_some_iff.1 G).1 fun j t u I=>st.lone k n (0,0) (by omega) (st.lg k c) h1 j t (by rw[<-st.Dq.base];exact u) I]
  exact G
 .intro k n t d A;have:=st.vT k n t d (a k _ d A);exact⟨this.1,Nat.lt_of_lt_of_le this.2 g.size⟩
 .intro k n t O d A j W u I rj;have q:=a k _ d A;have Y:=(st.vT k n t d q).2;obtain⟨j',t2,h1,G,J⟩:=g.range j n W (by rw[st.Dq.base];exact u) I rj Y;exact st.lone k n t (by omega) d q j' t2 (by rw[<-st.Dq.base];exact h1) G J
 .intro k X n t W d F A q;exact st.Hj k X n t W d F (a k _ d A) (a X _ F q)
 .intro k d i;exact g.un _ (by have:=st.nx;omega) (st.Z7 k d fun r=>i (List.mem_append_left _ r))
 .intro k p l Q;exact g.un _ (by have:=st.nx;grind) (st.l8 k p l Q)
 .intro k p b f d i l U L v;have O:k≠s:=fun e=>i (by simp[e]);have c:k∉D:=fun r=>i (List.mem_append_left _ r);have N:=(List.getElem?_eq_some_iff.1 l).1;rw[g.nQ (r0+k) (by have:=st.nx;omega) (st.Z7 k N c)];exact st.rev k p b f (by omega) c l U L v
 .intro j u M;exact g.stay _ (by have:=st.nx;omega) (st.Zf j (by omega) M)
 .intro m hm Z;by_cases e:m=s+1
  .subst e;exact pH.refl _
  grind
theorem Ae {a:Act} {d:Option Tmp} {v:Value}:(a.put d v).tmps.toList=jN a.tmps.toList d v:=by cases d<;>simp[Act.put,jN]
theorem cx {h:AH} {w:World} {ρ:iP} (u:Inv P B ρ h w) {args args':List Value} {b:Builtin} {d:Array TypeId} {ty:TypeId} {consts:Array Bool} {v:Value} {h':AH} (hb:iN b=true) (l:aU ρ args args') (f:eP P h b d args=some (v,h')):
  ∃o,aF ρ v o/\(builtin b d ty consts ⟨args'⟩).run P w= .ok (.value o) w:=by
 unfold eP at f
 split at f
 .rename_i x;simp only[aU] at l;obtain⟨p,t,g,rfl,rfl⟩:=l;have i:∀(t:TypeId) (n:Nat),d[0]?=some t->(Builtin.len_ d ty #[p]).run P w= .ok (goInt n) w->∃o,aF ρ (.int .i64 n) o/\(builtin .len d ty consts ⟨[p]⟩).run P w= .ok (.value o) w:=
   fun t n _ z=>⟨.int .i64 n,by simp only[aF],by
    show(do pure (Next.value (<-Builtin.len_ d ty #[p])):Sem Next).run P w=_;simp only[Sem.run_bind,z,Result.andThen_ok];rfl⟩
  cases h0:d[0]? with
  |none=>grind
  |some t=>
   rw[h0] at f
   simp only[Option.bind_some] at f
   split at f
   .rename_i s j;simp only[Option.some.injEq,Prod.mk.injEq] at f;obtain⟨rfl,rfl⟩:=f;simp only[aF] at g;subst g;exact i t _ h0 (by simp[Builtin.len_,h0,run_underlying j])
   .rename_i n e j;simp only[Option.some.injEq,Prod.mk.injEq] at f;obtain⟨rfl,rfl⟩:=f;exact i t _ h0 (by simp[Builtin.len_,h0,run_underlying j])
   .rename_i e j;split at f
    .rename_i n F q;simp only[Option.some.injEq,Prod.mk.injEq] at f;obtain⟨rfl,rfl⟩:=f;exact i t _ h0 (by simp[Builtin.len_,h0,run_underlying j,run_underlying q])
    .cases f
   .rename_i e a n c j;simp only[Option.some.injEq,Prod.mk.injEq] at f;obtain⟨rfl,rfl⟩:=f;cases a with
    |none=>simp only[aF] at g;subst g;exact i t _ h0 (by simp[Builtin.len_,h0,run_underlying j])
    |some a=>
     obtain⟨_,_,sp⟩:=a
     cases sp with
     |none=>simp only[aF] at g;obtain⟨_,_,_,_,_,_,rfl⟩:=g;exact i t _ h0 (by simp[Builtin.len_,h0,run_underlying j])
     |some _=>simp only[aF] at g;obtain⟨rfl,_,_,_,_,_,rfl⟩:=g;exact i t _ h0 (by simp[Builtin.len_,h0,run_underlying j])
   .rename_i j;simp only[Option.map_eq_some_iff] at f;obtain⟨G,r,f⟩:=f;cases f;exact i t _ h0 (Ky u h0 j g r)
   .cases f
 .simp[iN] at hb
 .simp[iN] at hb
 .simp[iN] at hb
 .simp[iN] at hb
 .rename_i k x A y;simp only[aU] at l;obtain⟨p,_,g,⟨C,_,m,rfl,rfl⟩,rfl⟩:=l;simp only[aF] at g m;subst g;subst m;simp only[Option.some.injEq,Prod.mk.injEq] at f;obtain⟨rfl,rfl⟩:=f;exact⟨_,by simp only[aF];rfl,by simp[builtin,Builtin.min_,Builtin.min2]⟩
 .rename_i k x A y;simp only[aU] at l;obtain⟨p,_,g,⟨C,_,m,rfl,rfl⟩,rfl⟩:=l;simp only[aF] at g m;subst g;subst m;simp only[Option.some.injEq,Prod.mk.injEq] at f;obtain⟨rfl,rfl⟩:=f;exact⟨_,by simp only[aF];rfl,by simp[builtin,Builtin.max_,Builtin.max2]⟩
 .simp[iN] at hb
 .cases f
theorem Lv (C:Ctx P B K) (hR:B9 C R) {ops:Array Oper} (T:ops.toList=all) (d:Dr P R all r0 E H V) (α:h.base<=r0) (hB:B<=w0.heap.size) (ε:Inv P B ρ0 h w0) (δ:C.G w0) {b:Frame} {cs:List Frame} {k:List Item}:
  ∀(l:List Nat) (D:List Nat) (s:Nat) (ρ:iP) (w:World) (a:Act),xZ all D l->w9 all D s->St P B all r0 E H V ρ0 h w0 D s ρ w a.tmps.toList->
   ∃W ρ' w' M,St P B all r0 E H V ρ0 h w0 W all.length ρ' w' M.tmps.toList/\(∀i,i<all.length->i∈W)/\M.defers=a.defers/\Steps P (lone (b.atR a (.inRegion ops l::k)) cs w) (lone (b.atR M (.inRegion ops []::k)) cs w')
 |[],D,s,ρ,w,a,I,hf,st=>by
  have:s=all.length:=by
   rcases hf with h1|⟨o,A,_,hD⟩;exact h1;exact absurd (I s (List.getElem?_eq_some_iff.1 A).1) hD
  subst this;exact⟨D,ρ,w,a,st,I,rfl,Steps.refl _ _⟩
 |i::l,D,s,ρ,w,a,I,hf,st=>by
  obtain⟨ξ,hD,X,Z⟩:=I;have A:all[i]?=some all[i]:=List.getElem?_eq_getElem ξ;have J:ops[i]?=some all[i]:=by grind
  have v:ops=⟨all⟩:=by rw[<-T]
  have n:=X _ A;generalize all[i]=o at A J n;have q:=st.wanted d A hD n;have r:=st.ev d A hD n;have hG:C.G w:=by
   have N:Below B w0 w:=⟨st.Dq.os,st.Dq.tape,st.Dq.out,st.Dq.size,fun x hx=>st.Dq.frame x (Nat.lt_of_lt_of_le hx hB) fun j t hj gj hr=>absurd (ε.low j x t hj gj hr) (Nat.not_le.2 hx)⟩;exact C.Lu _ _ N δ
  have O:=Bf st.Dq.inv st.env;have go:∀(s1:Nat) (ρ1:iP) (w1:World) (a1:Act),St P B all r0 E H V ρ0 h w0 (D++[i]) s1 ρ1 w1 a1.tmps.toList->a1.defers=a.defers->Steps P (lone (b.atR a (.inRegion ops (i::l)::k)) cs w) (lone (b.atR a1 (.inRegion ops l::k)) cs w1)->
    ∃W ρ' w' M,St P B all r0 E H V ρ0 h w0 W all.length ρ' w' M.tmps.toList/\(∀i,i<all.length->i∈W)/\M.defers=a.defers/\Steps P (lone (b.atR a (.inRegion ops (i::l)::k)) cs w) (lone (b.atR M (.inRegion ops []::k)) cs w'):=by
   intro s1 ρ1 w1 a1 st1 μ π
   obtain⟨s2,st2,ν⟩:=st1.advance d α hB _ _ rfl
   obtain⟨W,ρ',w',M,g1,g2,g3,g4⟩:=Lv C hR T d α hB ε δ l (D++[i]) s2 ρ1 w1 a1 Z ν st2
   exact⟨W,ρ',w',M,g1,g2,g3.trans μ,π.trans g4⟩
  have y:dL o.op=true->i=s:=by
   intro Q;rcases Nat.lt_or_ge i s with h1|h1;exact absurd (st.s1 i o h1 A Q) hD;by_cases e:i=s;exact e;exfalso;rcases hf with h2|⟨p,hp,ο,σ⟩;omega;exact σ (st.I9 d A n (d.wQ i s o p A hp Q ο (by omega)))
  rcases d.cases A with⟨S,υ,he⟩|⟨S,hl,hv,he⟩|⟨S,hk,bl,f,ha,τ,he⟩|⟨S,Q,hv⟩;have F:Region.wanted o (yielded ops a.tmps)=false:=by
   rw[v];exact qM st.env (by rw[q];exact S)
  have L:step P (lone (b.atR a (.inRegion ops (i::l)::k)) cs w)= .next (lone (b.atR (a.put o.dst undef) (.inRegion ops l::k)) cs w):=by
   have:=stepR_op_skip (P:=P) (b:=b) (a:=a) (k:=k) (cs:=cs) (w:=w) (ops:=ops) (i:=i) (rest:=l) (by grind);grind
  have η:aF ρ (V i) undef:=by rw[υ];exact vP
  cases Q:dL o.op with
  |true=>
   have Y:=y Q;subst Y;refine go (i+1) ρ w (a.put o.dst undef) ?_ put_defers (.one L);rw[Ae];exact st.aGe A hD Q n (by rw[he];exact lJ.refl st.Dq.inv) η
  |false=>
   refine go s ρ w (a.put o.dst undef) ?_ put_defers (.one L);rw[Ae];exact st.value A n Q (fun hx=>by grind) η
  have F:Region.wanted o (yielded ops a.tmps)=true:=by
   rw[v];exact qM st.env (by rw[q];exact S)
  have m:=st.iv d hf A hD n hl S;rw[<-Ul o.op r] at m;have ζ:∃U,aF ρ (V i) U/\Steps P (lone (b.atR a (.inRegion ops (i::l)::k)) cs w) (lone (b.atR (a.put o.dst U) (.inRegion ops l::k)) cs w):=by
   obtain⟨dst,op,ty,pos,after,guard⟩:=o;simp only at m hl;rcases K4 hl with hk|hk;have θ:bY P (dC P (yY all V (E 0) D)) (H s) op=some (V i):=by
    cases op<;>first|exact m|(simp[kindOf] at hk)
   obtain⟨U,hr,z⟩:=Ha st.Dq.inv O {dst:=dst,op:=op,type:=ty,pos:=pos,after:=after,guard:=guard} θ;exact⟨U,z,.one (M8 J F (pC (by rw[hk];simp)) hr)⟩;cases op with
   |call c=>
    obtain⟨callee,G,β⟩:=c;cases callee with
    |builtin bi=>
     simp only[eK] at m;split at m;rename_i ι;simp only[Option.map_eq_some_iff] at m;obtain⟨⟨u,g1⟩,κ,hu⟩:=m;simp only at hu;subst hu;obtain⟨U,z,hr⟩:=cx st.Dq.inv (ty:=ty) (consts:=G.map fun|.const _=>true|_=>false) (args':=G.toList.map a.eval) (w:=w) ι (aU.Cp O _) κ;refine⟨U,z,.one (M8 J F (fun c hc=>by cases hc) ?_)⟩;have:G.map a.eval=⟨G.toList.map a.eval⟩:=Array.ext' (by simp);simp only[execOp,resolve,Sem.run_bind,Sem.run_pure,Result.andThen_ok,invoke];grind;cases m
    |_=>simp[eK] at m
   |_=>simp[kindOf] at hk
  obtain⟨U,z,hs⟩:=ζ;refine go s ρ w (a.put o.dst U) ?_ put_defers hs;rw[Ae];exact st.value A n (wS hl).1 (fun hx=>(wS hl).2 hx.1) z;have F:Region.wanted o (yielded ops a.tmps)=true:=by
   rw[v];exact qM st.env (by rw[q];exact S)
  have γ:=ha;rw[<-Ps o.op r] at γ;obtain⟨o',g,hb,hr,m⟩:=Gx (P:=P) (w:=w) O o γ;refine go s (vH ρ (r0+i) (w.heap.size,(0,0))) (w.alloc o') (a.put o.dst (g w.heap.size)) ?_ put_defers (.one (M8 J F (pC (by rw[hk];simp)) hr));rw[Ae];exact st.block α hB A hD n hk S ha hb (by rw[τ];exact m _ _ (0,0) rfl bT);have F:Region.wanted o (yielded ops a.tmps)=true:=by
   rw[v];exact qM st.env (by rw[q];exact S)
  have Y:=y Q;subst Y;rw[<-Ry o.op r] at hv;obtain⟨ρ1,w1,v1,e1,r1,s1⟩:=A1 C hR st.Dq.inv hG O k cs J F (b:=b) (is:=l) hv;refine go (i+1) ρ1 w1 (a.put o.dst v1) ?_ put_defers s1;rw[Ae];exact st.aGe A hD Q n e1 r1
end
end Go.Ab
