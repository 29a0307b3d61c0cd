/- A part of the proof. -/
import Derived.Test.YtcjlkjeeifemhaaGreatDoorB2
namespace Go.Ab
open Go.RowKit
section
variable {P:Program} {B:Nat} {K:FuncId->List Value->Option dU}
variable {R:mT} {all:List Oper} {r0:Nat} {E:Nat->List Value} {H:Nat->AH} {V:Nat->Value} {ρ0 ρ:dR} {h:AH} {w0 w:World} {D:List Nat} {s:Nat} {tmps:List Value}
theorem iE.refl (g:AH):iE g g:=fun _ _ h=>h
theorem iE.trans {a b c:AH} (h:iE a b) (k:iE b c):iE a c:=fun i o x=>k i o (h i o x)
theorem St.fa (d:Dr P R all r0 E H V) (β:h.base<=r0) (hB:B<=w0.heap.size) (st:St P B all r0 E H V ρ0 h w0 D s ρ w tmps) {o:Oper} (W:all[s]?=some o) (hh:bH o.op=false):
  St P B all r0 E H V ρ0 h w0 D (s+1) ρ w tmps:=by
 have y:s<all.length:=(List.getElem?_eq_some_iff.1 W).1
 have C:∀(j:Nat) p,j<s+1->all[j]?=some p->bH p.op=true->j∈D:=fun j p g l k=>by
  by_cases e:j=s;grind;exact st.s1 j p (by omega) l k
 have same:H (s+1)=H s->¬(kindOf o.op= .alloc/\bS ⟨all⟩ (E s) o=some true)->St P B all r0 E H V ρ0 h w0 D (s+1) ρ w tmps:=fun a α=>
  {tN:=by rw[a];exact st.tN,Sh:=st.Sh,closed:=st.closed,s1:=C,s3:=fun j p l k g=>Nat.lt_succ_of_lt (st.s3 j p l k g),sle:=y,env:=st.env,nx:=by rw[a];exact st.nx
   tD:=fun i p b f z=>st.tD i p b f (by omega),oB:=st.oB,lone:=fun i n t z=>by rw[a];exact st.lone i n t (by omega),yA:=st.yA,Pc:=st.Pc,Su:=st.Su
   rev:=fun i p b f z hD l F Q J=>by
    rw[a];by_cases e:i=s;grind;exact st.rev i p b f (by omega) hD l F Q J
   Pf:=fun j g=>by rw[a];exact st.Pf j (by omega)
   gr:=fun m hm v=>by
    by_cases e:m=s+1;subst e;exact iE.refl _;rw[a];exact st.gr m (by omega) fun j p I Z=>v j p I (by omega)}
 rcases d.cases W with⟨F,_,a⟩|⟨F,hl,_,a⟩|⟨F,J,b,f,Q,_,a⟩|⟨_,J,_⟩
 .grind
 .exact same a fun G=>(oC hl).2 G.1
 .have r:(H s).base<=r0+s:=by rw[st.tN.base];omega
  have c:∀j,(H (s+1)).get j=if j=r0+s then some b else(H s).get j:=fun j=>by rw[a];exact AH.dO r
  have u:∀j,((H (s+1)).get j).isSome->j=r0+s\/((H s).get j).isSome:=fun j g=>by
   grind
  refine {tN:=?_,Sh:=st.Sh,closed:=st.closed,s1:=C,s3:=fun j p l k g=>Nat.lt_succ_of_lt (st.s3 j p l k g),sle:=y,env:=st.env,nx:=by rw[a];simp;exact st.nx,
             tD:=fun i p b f z=>st.tD i p b f (by omega),oB:=st.oB,lone:=?_,yA:=st.yA,Pc:=st.Pc,Su:=st.Su,rev:=?_,Pf:=?_,gr:=?_}
  .rw[a];refine J7 st.tN (by omega) (by have:=st.nx;omega) (by omega) hB ?_ ?_
   .intro n t q;by_cases hD:s∈D
    .obtain⟨n',o',I,Z,h3⟩:=st.tD s o b f (Nat.le_refl _) hD W F Q J;grind
    .rw[st.Pc s y hD] at q;cases q
   .intro n t q;exact⟨(st.oB s n t y q).1,fun j L g N Y=>absurd Y (st.lone s n t (Nat.le_refl _) y q j L g N)⟩
  .intro i n t z A q j L g N;rcases u j N with M|O
   .subst M;intro Y;have:=st.yA i s n t L A y q Y;omega
   .exact st.lone i n t (by omega) A q j L g O
  .intro i p b' f' z hD l X S U;rw[c];by_cases e:i=s
   .grind
   .rw[aab];exact st.rev i p b' f' (by omega) hD l X S U
  .intro j g T;rw[c,aab];exact st.Pf j (by omega) T
  .intro m hm v;by_cases e:m=s+1
   .subst e;exact iE.refl _
   .refine(st.gr m (by omega) fun j p I Z=>v j p I (by omega)).trans ?_;intro j x G;rw[c,tt]
    .exact G
    .intro M;subst M;rw[st.Pf s (Nat.le_refl _) y] at G;cases G
 grind
theorem St.advance (d:Dr P R all r0 E H V) (a:h.base<=r0) (hB:B<=w0.heap.size):∀(n s:Nat),all.length - s=n->St P B all r0 E H V ρ0 h w0 D s ρ w tmps->∃c,St P B all r0 E H V ρ0 h w0 D c ρ w tmps/\V5 all D c
 |0,s,e,st=>⟨s,st,.inl (by have:=st.sle;omega)⟩
 |n+1,s,e,st=>by
  have b:all[s]?=some all[s]:=List.getElem?_eq_getElem (by omega);cases hh:bH all[s].op with
  |true=>exact⟨s,st,.inr ⟨_,b,hh,fun hD=>by have:=st.s3 s _ b hh hD;omega⟩⟩
  |false=>exact St.advance d a hB n (s+1) (by omega) (st.fa d a hB b hh)
theorem rH {i:Nat} {o:Oper} (b:∀i∈D,∀o,all[i]?=some o->∀j∈cG o,j∈D) (c:all[i]?=some o) (a:∀j∈cG o,j∈D):
  ∀k∈D++[i],∀p,all[k]?=some p->∀j∈cG p,j∈D++[i]:=by
 grind
theorem A8 {i:Nat} {o:Oper} (c:all[i]?=some o) {v':Value} (a:aC ρ (qD all V (E 0) D) tmps) (d:aA ρ (V i) v'):aC ρ (qD all V (E 0) (D++[i])) (eE tmps o.dst v'):=by
 rw[Dj,c];simp only[Option.bind_some];cases o.dst with
 |none=>exact a
 |some b=>exact a.set b d
theorem St.value (st:St P B all r0 E H V ρ0 h w0 D s ρ w tmps) {i:Nat} {o:Oper} (r:all[i]?=some o) (g:∀j∈cG o,j∈D) (y:bH o.op=false) (u:¬(kindOf o.op= .alloc/\bS ⟨all⟩ (E i) o=some true))
  {v':Value} (v:aA ρ (V i) v'):St P B all r0 E H V ρ0 h w0 (D++[i]) s ρ w (eE tmps o.dst v') where
 tN:=st.tN
 Sh:=fun k d=>by
  rcases List.mem_append.1 d with a|a;exact st.Sh k a;grind
 closed:=rH st.closed r g
 s1:=fun j p m l e=>List.mem_append_left _ (st.s1 j p m l e)
 s3:=fun j p l e m=>by
  rcases List.mem_append.1 m with a|a;exact st.s3 j p l e a;grind
 sle:=st.sle
 env:=A8 r st.env v
 nx:=st.nx
 tD:=fun k p b f d n l x t q=>by
  rcases List.mem_append.1 n with a|a;exact st.tD k p b f d a l x t q;grind
 oB:=st.oB
 lone:=st.lone
 yA:=st.yA
 Pc:=fun k d hD=>st.Pc k d fun c=>hD (List.mem_append_left _ c)
 Su:=st.Su
 rev:=fun k p b f d hD=>st.rev k p b f d fun c=>hD (List.mem_append_left _ c)
 Pf:=st.Pf
 gr:=st.gr
theorem St.block (st:St P B all r0 E H V ρ0 h w0 D s ρ w tmps) (γ:h.base<=r0) (hB:B<=w0.heap.size) {i:Nat} {o:Oper} (Q:all[i]?=some o) (hD:i∉D) (M:∀j∈cG o,j∈D) (Y:kindOf o.op= .alloc) (hw:bS ⟨all⟩ (E i) o=some true)
  {b:hZ} {f:Nat->Value} (ha:bT P (bA P (E i)) o.op=some (b,f)) {o':Obj} (hb:mB P ρ (0,0) b o') {v':Value} (hv:aA (qH ρ (r0+i) (w.heap.size,(0,0))) (V i) v'):
  St P B all r0 E H V ρ0 h w0 (D++[i]) s (qH ρ (r0+i) (w.heap.size,(0,0))) (w.alloc o') (eE tmps o.dst v'):=by
 have N:i<all.length:=(List.getElem?_eq_some_iff.1 Q).1
 have hn:=st.Pc i N hD
 have l:Ext ρ (qH ρ (r0+i) (w.heap.size,(0,0))):=Ext.qH hn
 have a:∀k,k≠i->qH ρ (r0+i) (w.heap.size,(0,0)) (r0+k)=ρ (r0+k):=fun k Y=>aJ (by omega)
 have Z:∀j n t,((H s).get j).isSome->ρ j=some (n,t)->n<w.heap.size:=fun j n t C d=>by
  obtain⟨x,y⟩:=Option.isSome_iff_exists.1 C;obtain⟨o2,X,_⟩:=st.tN.inv.gH j x y n t d;exact(Array.getElem?_eq_some_iff.1 X).1
 have S:bH o.op=false:=by simp[bH,Y]
 refine {tN:=?_,Sh:=?_,closed:=rH st.closed Q M,s1:=fun j p C u G=>List.mem_append_left _ (st.s1 j p C u G),s3:=?_,sle:=st.sle,env:=A8 Q (aC.mono l _ _ st.env) hv,nx:=st.nx,
           tD:=?_,oB:=?_,lone:=?_,yA:=?_,Pc:=?_,Su:=?_,rev:=?_,Pf:=st.Pf,gr:=st.gr}
 .refine Ud st.tN (by omega) (by have:=st.nx;omega) (by omega) hB hn rfl rfl rfl rfl ?_;intro x y;rcases Nat.lt_or_ge i s with g|g
  .have:=st.rev i o b f g hD Q hw ha Y;rw[this] at y;cases y;exact hb.mono l
  .rw[st.Pf i g N] at y;cases y
 .intro k F;rcases List.mem_append.1 F with g|g
  .exact st.Sh k g
  grind
 .intro j p u G C;rcases List.mem_append.1 C with g|g
  .exact st.s3 j p u G g
  grind
 .intro k p T U q m u β z F;by_cases e:k=i
  .subst e;rw[Q] at u;cases u;rw[ha] at z;cases z;exact⟨w.heap.size,o',aX,by show(w.heap.push o')[w.heap.size]?=some o';simp,hb.mono l⟩
  .have O:k∈D:=by
    rcases List.mem_append.1 m with g|g;exact g;exact absurd (by simpa using g) e
   obtain⟨n,o2,g,X,h3⟩:=st.tD k p T U q O u β z F
   refine⟨n,o2,by grind,?_,h3.mono l⟩
   have:=(Array.getElem?_eq_some_iff.1 X).1
   simp only[World.alloc,Array.getElem?_push]
   grind
 .intro k n t c d;by_cases e:k=i
  .subst e;rw[aX] at d;cases d;exact⟨st.tN.size,by simp⟩
  .rw[a k e] at d;have:=st.oB k n t c d;exact⟨this.1,by simp;omega⟩
 .intro k n t q c d j s' C W;by_cases e:k=i
  .subst e;rw[aX] at d;cases d;by_cases L:j=r0+k
   .subst L;rw[st.Pf k q c] at W;cases W
   .rw[aJ L];grind
  .rw[a k e] at d;by_cases L:j=r0+i
   .subst L;rw[aX];intro y;cases y;have:=(st.oB k w.heap.size t c d).2;omega
   .rw[aJ L];exact st.lone k n t q c d j s' C W
 .intro k I n t t' c v d r;by_cases e:k=i
  .by_cases J:I=i
   .rw[e,J]
   .subst e;rw[aX] at d;cases d;rw[a I J] at r;have:=(st.oB I w.heap.size t' v r).2;omega
  .rw[a k e] at d;by_cases J:I=i
   .subst J;rw[aX] at r;cases r;have:=(st.oB k w.heap.size t c d).2;omega
   .rw[a I J] at r;exact st.yA k I n t t' c v d r
 .intro k c m;have e:k≠i:=fun e=>m (by simp[e]);rw[a k e];exact st.Pc k c fun A=>m (List.mem_append_left _ A)
 .intro k p u α;have e:k≠i:=fun e=>by grind
  rw[a k e]
  exact st.Su k p u α
 .intro k p T U q m;exact st.rev k p T U q fun A=>m (List.mem_append_left _ A)
theorem St.jy (st:St P B all r0 E H V ρ0 h w0 D s ρ w tmps) {o:Oper} (T:all[s]?=some o) (_:s∉D) (hh:bH o.op=true) (F:∀j∈cG o,j∈D) {ρ1:dR} {Z:World} (i:fA P B ρ (H s) w ρ1 (H (s+1)) Z) {v':Value} (hv:aA ρ1 (V s) v'):
  St P B all r0 E H V ρ0 h w0 (D++[s]) (s+1) ρ1 Z (eE tmps o.dst v'):=by
 have U:s<all.length:=(List.getElem?_eq_some_iff.1 T).1
 have a:∀k x,k<all.length->ρ1 (r0+k)=some x->ρ (r0+k)=some x:=fun k x d C=>by
  cases hx:ρ (r0+k) with
  |none=>
   have:=i.un (r0+k) (by have:=st.nx;omega) hx;rw[C] at this;cases this
  |some y=>have:=i.ext _ _ hx;grind
 refine {tN:=st.tN.then i (by have:=st.nx;omega),Sh:=?_,closed:=rH st.closed T F,s1:=?_,s3:=?_,sle:=U,env:=A8 T (aC.mono i.ext _ _ st.env) hv,nx:=Nat.le_trans st.nx i.next,
           tD:=?_,oB:=?_,lone:=?_,yA:=?_,Pc:=?_,Su:=?_,rev:=?_,Pf:=?_,gr:=?_}
 .intro k d;rcases List.mem_append.1 d with g|g
  .exact st.Sh k g
  grind
 .intro j p v q A;by_cases e:j=s
  .simp[e]
  .exact List.mem_append_left _ (st.s1 j p (by omega) q A)
 .intro j p q A v;rcases List.mem_append.1 v with g|g
  .exact Nat.lt_succ_of_lt (st.s3 j p q A g)
  .have:j=s:=by simpa using g
   omega
 .intro k p b f d l q W M z;have c:k∈D:=by
   rcases List.mem_append.1 l with g|g;exact g;have:k=s:=by simpa using g
   omega
  obtain⟨n,o',g,I,L⟩:=st.tD k p b f (by omega) c q W M z
  refine⟨n,o',i.ext _ _ g,?_,L.mono i.ext⟩
  rw[i.frame n (Array.getElem?_eq_some_iff.1 I).1 fun j t v J=>st.lone k n (0,0) (by omega) (st.Sh k c) g j t (by rw[<-st.tN.base];exact v) J]
  exact I
 .intro k n t d C;have:=st.oB k n t d (a k _ d C);exact⟨this.1,Nat.lt_of_lt_of_le this.2 i.size⟩
 .intro k n t Q d C j X v J rj;have r:=a k _ d C;have hn:=(st.oB k n t d r).2;obtain⟨j',t2,g,I,L⟩:=i.range j n X (by rw[st.tN.base];exact v) J rj hn;exact st.lone k n t (by omega) d r j' t2 (by rw[<-st.tN.base];exact g) I L
 .intro k Y n t X d G C r;exact st.yA k Y n t X d G (a k _ d C) (a Y _ G r)
 .intro k d l;exact i.un _ (by have:=st.nx;omega) (st.Pc k d fun u=>l (List.mem_append_left _ u))
 .intro k p q S;exact i.un _ (by have:=st.nx;grind) (st.Su k p q S)
 .intro k p b f d l q W M z;have Q:k≠s:=fun e=>l (by simp[e]);have c:k∉D:=fun u=>l (List.mem_append_left _ u);have O:=(List.getElem?_eq_some_iff.1 q).1;rw[i.gA (r0+k) (by have:=st.nx;omega) (st.Pc k O c)];exact st.rev k p b f (by omega) c q W M z
 .intro j v N;exact i.stay _ (by have:=st.nx;omega) (st.Pf j (by omega) N)
 .intro m hm α;by_cases e:m=s+1
  .subst e;exact iE.refl _
  grind
theorem rA {a:Act} {d:Option Tmp} {v:Value}:(a.put d v).tmps.toList=eE a.tmps.toList d v:=by cases d<;>simp[Act.put,eE]
theorem Qq {h:AH} {w:World} {ρ:dR} (u:Inv P B ρ h w) {args args':List Value} {b:Builtin} {d:Array TypeId} {ty:TypeId} {consts:Array Bool} {v:Value} {h':AH} (hb:dI b=true) (l:aC ρ args args') (f:bY P h b d args=some (v,h')):
  ∃o,aA ρ v o/\(builtin b d ty consts ⟨args'⟩).run P w= .ok (.value o) w:=by
 unfold bY at f
 split at f
 .rename_i x;simp only[aC] at l;obtain⟨p,t,g,rfl,rfl⟩:=l;have i:∀(t:TypeId) (n:Nat),d[0]?=some t->(Builtin.len_ d ty #[p]).run P w= .ok (goInt n) w->∃o,aA ρ (.int .i64 n) o/\(builtin .len d ty consts ⟨[p]⟩).run P w= .ok (.value o) w:=
   fun t n _ z=>⟨.int .i64 n,by simp only[aA],by
    show(do pure (Next.value (<-Builtin.len_ d ty #[p])):Sem Next).run P w=_;simp only[Sem.run_bind,z,Result.andThen_ok];rfl⟩
  cases h0:d[0]? with
  |none=>grind
  |some t=>
   rw[h0] at f
   simp only[Option.bind_some] at f
   split at f
   .rename_i s j;simp only[Option.some.injEq,Prod.mk.injEq] at f;obtain⟨rfl,rfl⟩:=f;simp only[aA] at g;subst g;exact i t _ h0 (by simp[Builtin.len_,h0,run_underlying j])
   .rename_i n e j;simp only[Option.some.injEq,Prod.mk.injEq] at f;obtain⟨rfl,rfl⟩:=f;exact i t _ h0 (by simp[Builtin.len_,h0,run_underlying j])
   .rename_i e j;split at f
    .rename_i n F q;simp only[Option.some.injEq,Prod.mk.injEq] at f;obtain⟨rfl,rfl⟩:=f;exact i t _ h0 (by simp[Builtin.len_,h0,run_underlying j,run_underlying q])
    .cases f
   .rename_i e a n c j;simp only[Option.some.injEq,Prod.mk.injEq] at f;obtain⟨rfl,rfl⟩:=f;cases a with
    |none=>simp only[aA] at g;subst g;exact i t _ h0 (by simp[Builtin.len_,h0,run_underlying j])
    |some a=>
     obtain⟨_,_,sp⟩:=a
     cases sp with
     |none=>simp only[aA] at g;obtain⟨_,_,_,_,_,_,rfl⟩:=g;exact i t _ h0 (by simp[Builtin.len_,h0,run_underlying j])
     |some _=>simp only[aA] at g;obtain⟨rfl,_,_,_,_,_,rfl⟩:=g;exact i t _ h0 (by simp[Builtin.len_,h0,run_underlying j])
   .rename_i j;simp only[Option.map_eq_some_iff] at f;obtain⟨G,r,f⟩:=f;cases f;exact i t _ h0 (Bw u h0 j g r)
   .cases f
 .simp[dI] at hb
 .simp[dI] at hb
 .simp[dI] at hb
 .simp[dI] at hb
 .rename_i k x A y;simp only[aC] at l;obtain⟨p,_,g,⟨C,_,m,rfl,rfl⟩,rfl⟩:=l;simp only[aA] at g m;subst g;subst m;simp only[Option.some.injEq,Prod.mk.injEq] at f;obtain⟨rfl,rfl⟩:=f;exact⟨_,by simp only[aA];rfl,by simp[builtin,Builtin.min_,Builtin.min2]⟩
 .rename_i k x A y;simp only[aC] at l;obtain⟨p,_,g,⟨C,_,m,rfl,rfl⟩,rfl⟩:=l;simp only[aA] at g m;subst g;subst m;simp only[Option.some.injEq,Prod.mk.injEq] at f;obtain⟨rfl,rfl⟩:=f;exact⟨_,by simp only[aA];rfl,by simp[builtin,Builtin.max_,Builtin.max2]⟩
 .simp[dI] at hb
 .cases f
theorem Bm (C:Ctx P B K) (hR:sK C R) {ops:Array Oper} (T:ops.toList=all) (d:Dr P R all r0 E H V) (β:h.base<=r0) (hB:B<=w0.heap.size) (ζ:Inv P B ρ0 h w0) (ε:C.G w0) {b:Frame} {cs:List Frame} {k:List Item}:
  ∀(l:List Nat) (D:List Nat) (s:Nat) (ρ:dR) (w:World) (a:Act),oZ all D l->V5 all D s->St P B all r0 E H V ρ0 h w0 D s ρ w a.tmps.toList->
   ∃W ρ' w' M,St P B all r0 E H V ρ0 h w0 W all.length ρ' w' M.tmps.toList/\(∀i,i<all.length->i∈W)/\M.defers=a.defers/\Steps P (lone (b.atR a (.inRegion ops l::k)) cs w) (lone (b.atR M (.inRegion ops []::k)) cs w')
 |[],D,s,ρ,w,a,I,hf,st=>by
  have:s=all.length:=by
   rcases hf with h1|⟨o,A,_,hD⟩;exact h1;exact absurd (I s (List.getElem?_eq_some_iff.1 A).1) hD
  subst this;exact⟨D,ρ,w,a,st,I,rfl,Steps.refl _ _⟩
 |i::l,D,s,ρ,w,a,I,hf,st=>by
  obtain⟨ο,hD,X,α⟩:=I;have A:all[i]?=some all[i]:=List.getElem?_eq_getElem ο;have J:ops[i]?=some all[i]:=by grind
  have v:ops=⟨all⟩:=by rw[<-T]
  have n:=X _ A;generalize all[i]=o at A J n;have q:=st.wanted d A hD n;have r:=st.ev d A hD n;have hG:C.G w:=by
   have N:Below B w0 w:=⟨st.tN.os,st.tN.tape,st.tN.out,st.tN.size,fun x hx=>st.tN.frame x (Nat.lt_of_lt_of_le hx hB) fun j t hj gj hr=>absurd (ζ.low j x t hj gj hr) (Nat.not_le.2 hx)⟩;exact C.A0 _ _ N ε
  have O:=rU st.tN.inv st.env;have go:∀(s1:Nat) (ρ1:dR) (w1:World) (a1:Act),St P B all r0 E H V ρ0 h w0 (D++[i]) s1 ρ1 w1 a1.tmps.toList->a1.defers=a.defers->Steps P (lone (b.atR a (.inRegion ops (i::l)::k)) cs w) (lone (b.atR a1 (.inRegion ops l::k)) cs w1)->
    ∃W ρ' w' M,St P B all r0 E H V ρ0 h w0 W all.length ρ' w' M.tmps.toList/\(∀i,i<all.length->i∈W)/\M.defers=a.defers/\Steps P (lone (b.atR a (.inRegion ops (i::l)::k)) cs w) (lone (b.atR M (.inRegion ops []::k)) cs w'):=by
   intro s1 ρ1 w1 a1 χ ν σ
   obtain⟨s2,ψ,ξ⟩:=χ.advance d β hB _ _ rfl
   obtain⟨W,ρ',w',M,g1,g2,g3,g4⟩:=Bm C hR T d β hB ζ ε l (D++[i]) s2 ρ1 w1 a1 α ξ ψ
   exact⟨W,ρ',w',M,g1,g2,g3.trans ν,σ.trans g4⟩
  have y:bH o.op=true->i=s:=by
   intro Q;rcases Nat.lt_or_ge i s with h1|h1;exact absurd (st.s1 i o h1 A Q) hD;by_cases e:i=s;exact e;exfalso;rcases hf with h2|⟨p,hp,π,τ⟩;omega;exact τ (st.As d A n (d.nT i s o p A hp Q π (by omega)))
  rcases d.cases A with⟨S,φ,he⟩|⟨S,hl,hv,he⟩|⟨S,Z,bl,f,ha,υ,he⟩|⟨S,Q,hv⟩;have F:Region.wanted o (yielded ops a.tmps)=false:=by
   rw[v];exact jA st.env (by rw[q];exact S)
  have L:step P (lone (b.atR a (.inRegion ops (i::l)::k)) cs w)= .next (lone (b.atR (a.put o.dst undef) (.inRegion ops l::k)) cs w):=by
   have:=stepR_op_skip (P:=P) (b:=b) (a:=a) (k:=k) (cs:=cs) (w:=w) (ops:=ops) (i:=i) (rest:=l) (by grind);grind
  have θ:aA ρ (V i) undef:=by rw[φ];exact nU
  cases Q:bH o.op with
  |true=>
   have Y:=y Q;subst Y;refine go (i+1) ρ w (a.put o.dst undef) ?_ put_defers (.one L);rw[rA];exact st.jy A hD Q n (by rw[he];exact fA.refl st.tN.inv) θ
  |false=>
   refine go s ρ w (a.put o.dst undef) ?_ put_defers (.one L);rw[rA];exact st.value A n Q (fun hx=>by grind) θ
  have F:Region.wanted o (yielded ops a.tmps)=true:=by
   rw[v];exact jA st.env (by rw[q];exact S)
  have m:=st.Qa d hf A hD n hl S;rw[<-Jt o.op r] at m;have η:∃U,aA ρ (V i) U/\Steps P (lone (b.atR a (.inRegion ops (i::l)::k)) cs w) (lone (b.atR (a.put o.dst U) (.inRegion ops l::k)) cs w):=by
   obtain⟨dst,op,ty,pos,after,guard⟩:=o;simp only at m hl;rcases zU hl with Z|Z;have ι:aH P (bA P (qD all V (E 0) D)) (H s) op=some (V i):=by
    cases op<;>first|exact m|(simp[kindOf] at Z)
   obtain⟨U,hr,z⟩:=wY st.tN.inv O {dst:=dst,op:=op,type:=ty,pos:=pos,after:=after,guard:=guard} ι;exact⟨U,z,.one (Es J F (iH (by rw[Z];simp)) hr)⟩;cases op with
   |call c=>
    obtain⟨callee,G,γ⟩:=c;cases callee with
    |builtin bi=>
     simp only[bZ] at m;split at m;rename_i κ;simp only[Option.map_eq_some_iff] at m;obtain⟨⟨u,g1⟩,μ,hu⟩:=m;simp only at hu;subst hu;obtain⟨U,z,hr⟩:=Qq st.tN.inv (ty:=ty) (consts:=G.map fun|.const _=>true|_=>false) (args':=G.toList.map a.eval) (w:=w) κ (aC.sS O _) μ;refine⟨U,z,.one (Es J F (fun c hc=>by cases hc) ?_)⟩;have:G.map a.eval=⟨G.toList.map a.eval⟩:=Array.ext' (by simp);simp only[execOp,resolve,Sem.run_bind,Sem.run_pure,Result.andThen_ok,invoke];grind;cases m
    |_=>simp[bZ] at m
   |_=>simp[kindOf] at Z
  obtain⟨U,z,hs⟩:=η;refine go s ρ w (a.put o.dst U) ?_ put_defers hs;rw[rA];exact st.value A n (oC hl).1 (fun hx=>(oC hl).2 hx.1) z;have F:Region.wanted o (yielded ops a.tmps)=true:=by
   rw[v];exact jA st.env (by rw[q];exact S)
  have δ:=ha;rw[<-E4 o.op r] at δ;obtain⟨o',g,hb,hr,m⟩:=xQ (P:=P) (w:=w) O o δ;refine go s (qH ρ (r0+i) (w.heap.size,(0,0))) (w.alloc o') (a.put o.dst (g w.heap.size)) ?_ put_defers (.one (Es J F (iH (by rw[Z];simp)) hr));rw[rA];exact st.block β hB A hD n Z S ha hb (by rw[υ];exact m _ _ (0,0) rfl aX);have F:Region.wanted o (yielded ops a.tmps)=true:=by
   rw[v];exact jA st.env (by rw[q];exact S)
  have Y:=y Q;subst Y;rw[<-J9 o.op r] at hv;obtain⟨ρ1,w1,v1,e1,r1,s1⟩:=qO C hR st.tN.inv hG O k cs J F (b:=b) (is:=l) hv;refine go (i+1) ρ1 w1 (a.put o.dst v1) ?_ put_defers s1;rw[rA];exact st.jy A hD Q n e1 r1
end
end Go.Ab
