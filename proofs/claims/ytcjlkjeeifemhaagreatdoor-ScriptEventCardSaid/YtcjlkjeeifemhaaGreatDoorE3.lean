/- A part of the proof. -/
import Derived.Test.YtcjlkjeeifemhaaGreatDoorE2
namespace Go.Ab
open Go.RowKit
section
variable {P:Program} {B:Nat} {K:FuncId->List Value->Option bZ}
variable {R:hQ} {all:List Oper} {r0:Nat} {E:Nat->List Value} {H:Nat->AH} {V:Nat->Value} {ρ0 ρ:bQ} {h:AH} {w0 w:World} {D:List Nat} {s:Nat} {tmps:List Value}
theorem dL.refl (g:AH):dL g g:=fun _ _ h=>h
theorem dL.trans {a b c:AH} (h:dL a b) (k:dL b c):dL a c:=fun i o x=>k i o (h i o x)
theorem St.E6 (d:Dr P R all r0 E H V) (β:h.base<=r0) (hB:B<=w0.heap.size) (st:St P B all r0 E H V ρ0 h w0 D s ρ w tmps) {o:Oper} (W:all[s]?=some o) (hh:aK o.op=false):
  St P B all r0 E H V ρ0 h w0 D (s+1) ρ w tmps:=by
 have y:s<all.length:=(List.getElem?_eq_some_iff.1 W).1
 have C:∀(j:Nat) p,j<s+1->all[j]?=some p->aK p.op=true->j∈D:=fun j p g l k=>by
  by_cases e:j=s;grind;exact st.s1 j p (by omega) l k
 have same:H (s+1)=H s->¬(kindOf o.op= .alloc/\aP ⟨all⟩ (E s) o=some true)->St P B all r0 E H V ρ0 h w0 D (s+1) ρ w tmps:=fun a α=>
  {kE:=by rw[a];exact st.kE,zY:=st.zY,closed:=st.closed,s1:=C,s3:=fun j p l k g=>Nat.lt_succ_of_lt (st.s3 j p l k g),sle:=y,env:=st.env,nx:=by rw[a];exact st.nx
   jT:=fun i p b f z=>st.jT i p b f (by omega),fR:=st.fR,lone:=fun i n t z=>by rw[a];exact st.lone i n t (by omega),mU:=st.mU,xP:=st.xP,Bd:=st.Bd
   rev:=fun i p b f z hD l F Q J=>by
    rw[a];by_cases e:i=s;grind;exact st.rev i p b f (by omega) hD l F Q J
   xZ:=fun j g=>by rw[a];exact st.xZ j (by omega)
   gr:=fun m hm v=>by
    by_cases e:m=s+1;subst e;exact dL.refl _;rw[a];exact st.gr m (by omega) fun j p I Z=>v j p I (by omega)}
 rcases d.cases W with⟨F,_,a⟩|⟨F,hl,_,a⟩|⟨F,J,b,f,Q,_,a⟩|⟨_,J,_⟩
 .grind
 .exact same a fun G=>(fT hl).2 G.1
 .have r:(H s).base<=r0+s:=by rw[st.kE.base];omega
  have c:∀j,(H (s+1)).get j=if j=r0+s then some b else(H s).get j:=fun j=>by rw[a];exact AH.bU r
  have u:∀j,((H (s+1)).get j).isSome->j=r0+s\/((H s).get j).isSome:=fun j g=>by
   grind
  refine {kE:=?_,zY:=st.zY,closed:=st.closed,s1:=C,s3:=fun j p l k g=>Nat.lt_succ_of_lt (st.s3 j p l k g),sle:=y,env:=st.env,nx:=by rw[a];simp;exact st.nx,
             jT:=fun i p b f z=>st.jT i p b f (by omega),fR:=st.fR,lone:=?_,mU:=st.mU,xP:=st.xP,Bd:=st.Bd,rev:=?_,xZ:=?_,gr:=?_}
  .rw[a];refine uA st.kE (by omega) (by have:=st.nx;omega) (by omega) hB ?_ ?_
   .intro n t q;by_cases hD:s∈D
    .obtain⟨n',o',I,Z,h3⟩:=st.jT s o b f (Nat.le_refl _) hD W F Q J;grind
    .rw[st.xP s y hD] at q;cases q
   .intro n t q;exact⟨(st.fR s n t y q).1,fun j L g N Y=>absurd Y (st.lone s n t (Nat.le_refl _) y q j L g N)⟩
  .intro i n t z A q j L g N;rcases u j N with M|O
   .subst M;intro Y;have:=st.mU i s n t L A y q Y;omega
   .exact st.lone i n t (by omega) A q j L g O
  .intro i p b' f' z hD l X S U;rw[c];by_cases e:i=s
   .grind
   .rw[aaa];exact st.rev i p b' f' (by omega) hD l X S U
  .intro j g T;rw[c,aaa];exact st.xZ j (by omega) T
  .intro m hm v;by_cases e:m=s+1
   .subst e;exact dL.refl _
   .refine(st.gr m (by omega) fun j p I Z=>v j p I (by omega)).trans ?_;intro j x G;rw[c,Kw]
    .exact G
    .intro M;subst M;rw[st.xZ s (Nat.le_refl _) y] at G;cases G
 grind
theorem St.advance (d:Dr P R all r0 E H V) (a:h.base<=r0) (hB:B<=w0.heap.size):∀(n s:Nat),all.length - s=n->St P B all r0 E H V ρ0 h w0 D s ρ w tmps->∃c,St P B all r0 E H V ρ0 h w0 D c ρ w tmps/\A0 all D c
 |0,s,e,st=>⟨s,st,.inl (by have:=st.sle;omega)⟩
 |n+1,s,e,st=>by
  have b:all[s]?=some all[s]:=List.getElem?_eq_getElem (by omega);cases hh:aK all[s].op with
  |true=>exact⟨s,st,.inr ⟨_,b,hh,fun hD=>by have:=st.s3 s _ b hh hD;omega⟩⟩
  |false=>exact St.advance d a hB n (s+1) (by omega) (st.E6 d a hB b hh)
theorem iL {i:Nat} {o:Oper} (b:∀i∈D,∀o,all[i]?=some o->∀j∈aW o,j∈D) (c:all[i]?=some o) (a:∀j∈aW o,j∈D):
  ∀k∈D++[i],∀p,all[k]?=some p->∀j∈aW p,j∈D++[i]:=by
 grind
theorem nG {i:Nat} {o:Oper} (c:all[i]?=some o) {v':Value} (a:aB ρ (hO all V (E 0) D) tmps) (d:aA ρ (V i) v'):aB ρ (hO all V (E 0) (D++[i])) (bX tmps o.dst v'):=by
 rw[qA,c];simp only[Option.bind_some];cases o.dst with
 |none=>exact a
 |some b=>exact a.set b d
theorem St.value (st:St P B all r0 E H V ρ0 h w0 D s ρ w tmps) {i:Nat} {o:Oper} (r:all[i]?=some o) (g:∀j∈aW o,j∈D) (y:aK o.op=false) (u:¬(kindOf o.op= .alloc/\aP ⟨all⟩ (E i) o=some true))
  {v':Value} (v:aA ρ (V i) v'):St P B all r0 E H V ρ0 h w0 (D++[i]) s ρ w (bX tmps o.dst v') where
 kE:=st.kE
 zY:=fun k d=>by
  rcases List.mem_append.1 d with a|a;exact st.zY k a;grind
 closed:=iL st.closed r g
 s1:=fun j p m l e=>List.mem_append_left _ (st.s1 j p m l e)
 s3:=fun j p l e m=>by
  rcases List.mem_append.1 m with a|a;exact st.s3 j p l e a;grind
 sle:=st.sle
 env:=nG r st.env v
 nx:=st.nx
 jT:=fun k p b f d n l x t q=>by
  rcases List.mem_append.1 n with a|a;exact st.jT k p b f d a l x t q;grind
 fR:=st.fR
 lone:=st.lone
 mU:=st.mU
 xP:=fun k d hD=>st.xP k d fun c=>hD (List.mem_append_left _ c)
 Bd:=st.Bd
 rev:=fun k p b f d hD=>st.rev k p b f d fun c=>hD (List.mem_append_left _ c)
 xZ:=st.xZ
 gr:=st.gr
theorem St.block (st:St P B all r0 E H V ρ0 h w0 D s ρ w tmps) (γ:h.base<=r0) (hB:B<=w0.heap.size) {i:Nat} {o:Oper} (Q:all[i]?=some o) (hD:i∉D) (M:∀j∈aW o,j∈D) (Y:kindOf o.op= .alloc) (hw:aP ⟨all⟩ (E i) o=some true)
  {b:dQ} {f:Nat->Value} (ha:aN P (aH P (E i)) o.op=some (b,f)) {o':Obj} (hb:gD P ρ (0,0) b o') {v':Value} (hv:aA (kB ρ (r0+i) (w.heap.size,(0,0))) (V i) v'):
  St P B all r0 E H V ρ0 h w0 (D++[i]) s (kB ρ (r0+i) (w.heap.size,(0,0))) (w.alloc o') (bX tmps o.dst v'):=by
 have N:i<all.length:=(List.getElem?_eq_some_iff.1 Q).1
 have hn:=st.xP i N hD
 have l:Ext ρ (kB ρ (r0+i) (w.heap.size,(0,0))):=Ext.kB hn
 have a:∀k,k≠i->kB ρ (r0+i) (w.heap.size,(0,0)) (r0+k)=ρ (r0+k):=fun k Y=>aE (by omega)
 have Z:∀j n t,((H s).get j).isSome->ρ j=some (n,t)->n<w.heap.size:=fun j n t C d=>by
  obtain⟨x,y⟩:=Option.isSome_iff_exists.1 C;obtain⟨o2,X,_⟩:=st.kE.inv.eJ j x y n t d;exact(Array.getElem?_eq_some_iff.1 X).1
 have S:aK o.op=false:=by simp[aK,Y]
 refine {kE:=?_,zY:=?_,closed:=iL st.closed Q M,s1:=fun j p C u G=>List.mem_append_left _ (st.s1 j p C u G),s3:=?_,sle:=st.sle,env:=nG Q (aB.mono l _ _ st.env) hv,nx:=st.nx,
           jT:=?_,fR:=?_,lone:=?_,mU:=?_,xP:=?_,Bd:=?_,rev:=?_,xZ:=st.xZ,gr:=st.gr}
 .refine Ad st.kE (by omega) (by have:=st.nx;omega) (by omega) hB hn rfl rfl rfl rfl ?_;intro x y;rcases Nat.lt_or_ge i s with g|g
  .have:=st.rev i o b f g hD Q hw ha Y;rw[this] at y;cases y;exact hb.mono l
  .rw[st.xZ i g N] at y;cases y
 .intro k F;rcases List.mem_append.1 F with g|g
  .exact st.zY k g
  grind
 .intro j p u G C;rcases List.mem_append.1 C with g|g
  .exact st.s3 j p u G g
  grind
 .intro k p T U q m u β z F;by_cases e:k=i
  .subst e;rw[Q] at u;cases u;rw[ha] at z;cases z;exact⟨w.heap.size,o',aJ,by show(w.heap.push o')[w.heap.size]?=some o';simp,hb.mono l⟩
  .have O:k∈D:=by
    rcases List.mem_append.1 m with g|g;exact g;exact absurd (by simpa using g) e
   obtain⟨n,o2,g,X,h3⟩:=st.jT k p T U q O u β z F
   refine⟨n,o2,by grind,?_,h3.mono l⟩
   have:=(Array.getElem?_eq_some_iff.1 X).1
   simp only[World.alloc,Array.getElem?_push]
   grind
 .intro k n t c d;by_cases e:k=i
  .subst e;rw[aJ] at d;cases d;exact⟨st.kE.size,by simp⟩
  .rw[a k e] at d;have:=st.fR k n t c d;exact⟨this.1,by simp;omega⟩
 .intro k n t q c d j s' C W;by_cases e:k=i
  .subst e;rw[aJ] at d;cases d;by_cases L:j=r0+k
   .subst L;rw[st.xZ k q c] at W;cases W
   .rw[aE L];grind
  .rw[a k e] at d;by_cases L:j=r0+i
   .subst L;rw[aJ];intro y;cases y;have:=(st.fR k w.heap.size t c d).2;omega
   .rw[aE L];exact st.lone k n t q c d j s' C W
 .intro k I n t t' c v d r;by_cases e:k=i
  .by_cases J:I=i
   .rw[e,J]
   .subst e;rw[aJ] at d;cases d;rw[a I J] at r;have:=(st.fR I w.heap.size t' v r).2;omega
  .rw[a k e] at d;by_cases J:I=i
   .subst J;rw[aJ] at r;cases r;have:=(st.fR k w.heap.size t c d).2;omega
   .rw[a I J] at r;exact st.mU k I n t t' c v d r
 .intro k c m;have e:k≠i:=fun e=>m (by simp[e]);rw[a k e];exact st.xP k c fun A=>m (List.mem_append_left _ A)
 .intro k p u α;have e:k≠i:=fun e=>by grind
  rw[a k e]
  exact st.Bd k p u α
 .intro k p T U q m;exact st.rev k p T U q fun A=>m (List.mem_append_left _ A)
theorem St.Hj (st:St P B all r0 E H V ρ0 h w0 D s ρ w tmps) {o:Oper} (T:all[s]?=some o) (_:s∉D) (hh:aK o.op=true) (F:∀j∈aW o,j∈D) {ρ1:bQ} {Z:World} (i:cM P B ρ (H s) w ρ1 (H (s+1)) Z) {v':Value} (hv:aA ρ1 (V s) v'):
  St P B all r0 E H V ρ0 h w0 (D++[s]) (s+1) ρ1 Z (bX tmps o.dst v'):=by
 have U:s<all.length:=(List.getElem?_eq_some_iff.1 T).1
 have a:∀k x,k<all.length->ρ1 (r0+k)=some x->ρ (r0+k)=some x:=fun k x d C=>by
  cases hx:ρ (r0+k) with
  |none=>
   have:=i.un (r0+k) (by have:=st.nx;omega) hx;rw[C] at this;cases this
  |some y=>have:=i.ext _ _ hx;grind
 refine {kE:=st.kE.then i (by have:=st.nx;omega),zY:=?_,closed:=iL st.closed T F,s1:=?_,s3:=?_,sle:=U,env:=nG T (aB.mono i.ext _ _ st.env) hv,nx:=Nat.le_trans st.nx i.next,
           jT:=?_,fR:=?_,lone:=?_,mU:=?_,xP:=?_,Bd:=?_,rev:=?_,xZ:=?_,gr:=?_}
 .intro k d;rcases List.mem_append.1 d with g|g
  .exact st.zY k g
  grind
 .intro j p v q A;by_cases e:j=s
  .simp[e]
  .exact List.mem_append_left _ (st.s1 j p (by omega) q A)
 .intro j p q A v;rcases List.mem_append.1 v with g|g
  .exact Nat.lt_succ_of_lt (st.s3 j p q A g)
  .have:j=s:=by simpa using g
   omega
 .intro k p b f d l q W M z;have c:k∈D:=by
   rcases List.mem_append.1 l with g|g;exact g;have:k=s:=by simpa using g
   omega
  obtain⟨n,o',g,I,L⟩:=st.jT k p b f (by omega) c q W M z
  refine⟨n,o',i.ext _ _ g,?_,L.mono i.ext⟩
  rw[i.frame n (Array.getElem?_eq_some_iff.1 I).1 fun j t v J=>st.lone k n (0,0) (by omega) (st.zY k c) g j t (by rw[<-st.kE.base];exact v) J]
  exact I
 .intro k n t d C;have:=st.fR k n t d (a k _ d C);exact⟨this.1,Nat.lt_of_lt_of_le this.2 i.size⟩
 .intro k n t Q d C j X v J rj;have r:=a k _ d C;have hn:=(st.fR k n t d r).2;obtain⟨j',t2,g,I,L⟩:=i.range j n X (by rw[st.kE.base];exact v) J rj hn;exact st.lone k n t (by omega) d r j' t2 (by rw[<-st.kE.base];exact g) I L
 .intro k Y n t X d G C r;exact st.mU k Y n t X d G (a k _ d C) (a Y _ G r)
 .intro k d l;exact i.un _ (by have:=st.nx;omega) (st.xP k d fun u=>l (List.mem_append_left _ u))
 .intro k p q S;exact i.un _ (by have:=st.nx;grind) (st.Bd k p q S)
 .intro k p b f d l q W M z;have Q:k≠s:=fun e=>l (by simp[e]);have c:k∉D:=fun u=>l (List.mem_append_left _ u);have O:=(List.getElem?_eq_some_iff.1 q).1;rw[i.dA (r0+k) (by have:=st.nx;omega) (st.xP k O c)];exact st.rev k p b f (by omega) c q W M z
 .intro j v N;exact i.stay _ (by have:=st.nx;omega) (st.xZ j (by omega) N)
 .intro m hm α;by_cases e:m=s+1
  .subst e;exact dL.refl _
  grind
theorem iB {a:Act} {d:Option Tmp} {v:Value}:(a.put d v).tmps.toList=bX a.tmps.toList d v:=by cases d<;>simp[Act.put,bX]
theorem zL {h:AH} {w:World} {ρ:bQ} (z:Inv P B ρ h w) {args args':List Value} {b:Builtin} {d:Array TypeId} {ty:TypeId} {consts:Array Bool} {v:Value} {h':AH} (m:bK b=true) (l:aB ρ args args') (f:aS P h b d args=some (v,h')):
  ∃p,aA ρ v p/\(builtin b d ty consts ⟨args'⟩).run P w= .ok (.value p) w:=by
 unfold aS at f
 split at f
 .rename_i x;simp only[aB] at l;obtain⟨q,t,g,rfl,rfl⟩:=l;have i:∀(t:TypeId) (n:Nat),d[0]?=some t->(Builtin.len_ d ty #[q]).run P w= .ok (goInt n) w->∃p,aA ρ (.int .i64 n) p/\(builtin .len d ty consts ⟨[q]⟩).run P w= .ok (.value p) w:=
   fun t n _ A=>⟨.int .i64 n,by simp only[aA],by
    show(do pure (Next.value (<-Builtin.len_ d ty #[q])):Sem Next).run P w=_;simp only[Sem.run_bind,A,Result.andThen_ok];rfl⟩
  cases h0:d[0]? with
  |none=>grind
  |some t=>
   rw[h0] at f
   simp only[Option.bind_some] at f
   split at f
   .rename_i s j;simp only[Option.some.injEq,Prod.mk.injEq] at f;obtain⟨rfl,rfl⟩:=f;simp only[aA] at g;subst g;exact i t _ h0 (by simp[Builtin.len_,h0,run_underlying j])
   .rename_i n e j;simp only[Option.some.injEq,Prod.mk.injEq] at f;obtain⟨rfl,rfl⟩:=f;exact i t _ h0 (by simp[Builtin.len_,h0,run_underlying j])
   .rename_i e j;split at f
    .rename_i n G r;simp only[Option.some.injEq,Prod.mk.injEq] at f;obtain⟨rfl,rfl⟩:=f;exact i t _ h0 (by simp[Builtin.len_,h0,run_underlying j,run_underlying r])
    .cases f
   .rename_i e a n c j;simp only[Option.some.injEq,Prod.mk.injEq] at f;obtain⟨rfl,rfl⟩:=f;cases a with
    |none=>simp only[aA] at g;subst g;exact i t _ h0 (by simp[Builtin.len_,h0,run_underlying j])
    |some a=>
     obtain⟨_,_,sp⟩:=a
     cases sp with
     |none=>simp only[aA] at g;obtain⟨_,_,_,_,_,_,rfl⟩:=g;exact i t _ h0 (by simp[Builtin.len_,h0,run_underlying j])
     |some _=>simp only[aA] at g;obtain⟨rfl,_,_,_,_,_,rfl⟩:=g;exact i t _ h0 (by simp[Builtin.len_,h0,run_underlying j])
   .rename_i j;simp only[Option.map_eq_some_iff] at f;obtain⟨I,u,f⟩:=f;cases f;exact i t _ h0 (pF z h0 j g u)
   .cases f
 .simp[bK] at m
 .simp[bK] at m
 .simp[bK] at m
 .simp[bK] at m
 .rename_i k x C y;simp only[aB] at l;obtain⟨q,_,g,⟨F,_,o,rfl,rfl⟩,rfl⟩:=l;simp only[aA] at g o;subst g;subst o;simp only[Option.some.injEq,Prod.mk.injEq] at f;obtain⟨rfl,rfl⟩:=f;exact⟨_,by simp only[aA];rfl,by simp[builtin,Builtin.min_,Builtin.min2]⟩
 .rename_i k x C y;simp only[aB] at l;obtain⟨q,_,g,⟨F,_,o,rfl,rfl⟩,rfl⟩:=l;simp only[aA] at g o;subst g;subst o;simp only[Option.some.injEq,Prod.mk.injEq] at f;obtain⟨rfl,rfl⟩:=f;exact⟨_,by simp only[aA];rfl,by simp[builtin,Builtin.max_,Builtin.max2]⟩
 .simp[bK] at m
 .cases f
theorem oZ (C:Ctx P B K) (hR:jG C R) {ops:Array Oper} (T:ops.toList=all) (d:Dr P R all r0 E H V) (β:h.base<=r0) (hB:B<=w0.heap.size) (ζ:Inv P B ρ0 h w0) (ε:C.G w0) {b:Frame} {cs:List Frame} {k:List Item}:
  ∀(l:List Nat) (D:List Nat) (s:Nat) (ρ:bQ) (w:World) (a:Act),gI all D l->A0 all D s->St P B all r0 E H V ρ0 h w0 D s ρ w a.tmps.toList->
   ∃W ρ' w' M,St P B all r0 E H V ρ0 h w0 W all.length ρ' w' M.tmps.toList/\(∀i,i<all.length->i∈W)/\M.defers=a.defers/\Steps P (lone (b.atR a (.inRegion ops l::k)) cs w) (lone (b.atR M (.inRegion ops []::k)) cs w')
 |[],D,s,ρ,w,a,I,hf,st=>by
  have:s=all.length:=by
   rcases hf with h1|⟨o,A,_,hD⟩;exact h1;exact absurd (I s (List.getElem?_eq_some_iff.1 A).1) hD
  subst this;exact⟨D,ρ,w,a,st,I,rfl,Steps.refl _ _⟩
 |i::l,D,s,ρ,w,a,I,hf,st=>by
  obtain⟨ο,hD,X,α⟩:=I;have A:all[i]?=some all[i]:=List.getElem?_eq_getElem ο;have J:ops[i]?=some all[i]:=by grind
  have v:ops=⟨all⟩:=by rw[<-T]
  have n:=X _ A;generalize all[i]=o at A J n;have q:=st.wanted d A hD n;have r:=st.ev d A hD n;have hG:C.G w:=by
   have N:Below B w0 w:=⟨st.kE.os,st.kE.tape,st.kE.out,st.kE.size,fun x hx=>st.kE.frame x (Nat.lt_of_lt_of_le hx hB) fun j t hj gj hr=>absurd (ζ.low j x t hj gj hr) (Nat.not_le.2 hx)⟩;exact C.rJ _ _ N ε
  have O:=iT st.kE.inv st.env;have go:∀(s1:Nat) (ρ1:bQ) (w1:World) (a1:Act),St P B all r0 E H V ρ0 h w0 (D++[i]) s1 ρ1 w1 a1.tmps.toList->a1.defers=a.defers->Steps P (lone (b.atR a (.inRegion ops (i::l)::k)) cs w) (lone (b.atR a1 (.inRegion ops l::k)) cs w1)->
    ∃W ρ' w' M,St P B all r0 E H V ρ0 h w0 W all.length ρ' w' M.tmps.toList/\(∀i,i<all.length->i∈W)/\M.defers=a.defers/\Steps P (lone (b.atR a (.inRegion ops (i::l)::k)) cs w) (lone (b.atR M (.inRegion ops []::k)) cs w'):=by
   intro s1 ρ1 w1 a1 χ ν σ
   obtain⟨s2,Fq,ξ⟩:=χ.advance d β hB _ _ rfl
   obtain⟨W,ρ',w',M,g1,g2,g3,g4⟩:=oZ C hR T d β hB ζ ε l (D++[i]) s2 ρ1 w1 a1 α ξ Fq
   exact⟨W,ρ',w',M,g1,g2,g3.trans ν,σ.trans g4⟩
  have y:aK o.op=true->i=s:=by
   intro Q;rcases Nat.lt_or_ge i s with h1|h1;exact absurd (st.s1 i o h1 A Q) hD;by_cases e:i=s;exact e;exfalso;rcases hf with h2|⟨p,hp,π,τ⟩;omega;exact τ (st.pD d A n (d.gF i s o p A hp Q π (by omega)))
  rcases d.cases A with⟨S,φ,he⟩|⟨S,hl,hv,he⟩|⟨S,Z,bl,f,ha,υ,he⟩|⟨S,Q,hv⟩;have F:Region.wanted o (yielded ops a.tmps)=false:=by
   rw[v];exact dT st.env (by rw[q];exact S)
  have L:step P (lone (b.atR a (.inRegion ops (i::l)::k)) cs w)= .next (lone (b.atR (a.put o.dst undef) (.inRegion ops l::k)) cs w):=by
   have:=stepR_op_skip (P:=P) (b:=b) (a:=a) (k:=k) (cs:=cs) (w:=w) (ops:=ops) (i:=i) (rest:=l) (by grind);grind
  have θ:aA ρ (V i) undef:=by rw[φ];exact fX
  cases Q:aK o.op with
  |true=>
   have Y:=y Q;subst Y;refine go (i+1) ρ w (a.put o.dst undef) ?_ put_defers (.one L);rw[iB];exact st.Hj A hD Q n (by rw[he];exact cM.refl st.kE.inv) θ
  |false=>
   refine go s ρ w (a.put o.dst undef) ?_ put_defers (.one L);rw[iB];exact st.value A n Q (fun hx=>by grind) θ
  have F:Region.wanted o (yielded ops a.tmps)=true:=by
   rw[v];exact dT st.env (by rw[q];exact S)
  have m:=st.yS d hf A hD n hl S;rw[<-uQ o.op r] at m;have η:∃U,aA ρ (V i) U/\Steps P (lone (b.atR a (.inRegion ops (i::l)::k)) cs w) (lone (b.atR (a.put o.dst U) (.inRegion ops l::k)) cs w):=by
   obtain⟨dst,op,ty,pos,after,guard⟩:=o;simp only at m hl;rcases pN hl with Z|Z;have ι:aC P (aH P (hO all V (E 0) D)) (H s) op=some (V i):=by
    cases op<;>first|exact m|(simp[kindOf] at Z)
   obtain⟨U,hr,z⟩:=mI st.kE.inv O {dst:=dst,op:=op,type:=ty,pos:=pos,after:=after,guard:=guard} ι;exact⟨U,z,.one (qF J F (dJ (by rw[Z];simp)) hr)⟩;cases op with
   |call c=>
    obtain⟨callee,G,γ⟩:=c;cases callee with
    |builtin bi=>
     simp only[aT] at m;split at m;rename_i κ;simp only[Option.map_eq_some_iff] at m;obtain⟨⟨u,g1⟩,μ,hu⟩:=m;simp only at hu;subst hu;obtain⟨U,z,hr⟩:=zL st.kE.inv (ty:=ty) (consts:=G.map fun|.const _=>true|_=>false) (args':=G.toList.map a.eval) (w:=w) κ (aB.jS O _) μ;refine⟨U,z,.one (qF J F (fun c hc=>by cases hc) ?_)⟩;have:G.map a.eval=⟨G.toList.map a.eval⟩:=Array.ext' (by simp);simp only[execOp,resolve,Sem.run_bind,Sem.run_pure,Result.andThen_ok,invoke];grind;cases m
    |_=>simp[aT] at m
   |_=>simp[kindOf] at Z
  obtain⟨U,z,hs⟩:=η;refine go s ρ w (a.put o.dst U) ?_ put_defers hs;rw[iB];exact st.value A n (fT hl).1 (fun hx=>(fT hl).2 hx.1) z;have F:Region.wanted o (yielded ops a.tmps)=true:=by
   rw[v];exact dT st.env (by rw[q];exact S)
  have δ:=ha;rw[<-sQ o.op r] at δ;obtain⟨o',g,hb,hr,m⟩:=mP (P:=P) (w:=w) O o δ;refine go s (kB ρ (r0+i) (w.heap.size,(0,0))) (w.alloc o') (a.put o.dst (g w.heap.size)) ?_ put_defers (.one (qF J F (dJ (by rw[Z];simp)) hr));rw[iB];exact st.block β hB A hD n Z S ha hb (by rw[υ];exact m _ _ (0,0) rfl aJ);have F:Region.wanted o (yielded ops a.tmps)=true:=by
   rw[v];exact dT st.env (by rw[q];exact S)
  have Y:=y Q;subst Y;rw[<-tE o.op r] at hv;obtain⟨ρ1,w1,v1,e1,r1,s1⟩:=iD C hR st.kE.inv hG O k cs J F (b:=b) (is:=l) hv;refine go (i+1) ρ1 w1 (a.put o.dst v1) ?_ put_defers s1;rw[iB];exact st.Hj A hD Q n e1 r1
end
end Go.Ab
