/- A part of the proof. -/
import Derived.Test.YtmhapehobfnoiaaGreatDoorN9
import Derived.Test.YtmhapehobfnoiaaGreatDoorN11
import Derived.Test.YtmhapehobfnoiaaGreatDoorN10
namespace Go.Ab
open Go Go.RowKit Go.ChangeShapes Go.WideShapes Go.ChangeAt
section
variable {P:Program} {H:Type} {enc:TypeId×Value->H} {w:World} {base:Nat} {spare:Nat->Bool} {held:Bool}
theorem nz {ρ:eN} {v:Value}:aA ρ top v:=by simp[top,aA]
theorem Tv {ρ:eN}:∀{l l':List Value},l.length=l'.length->(∀(j:Nat) (u v:Value),l[j]?=some u->l'[j]?=some v->aA ρ u v)->aE ρ l l'
 |[],[],_,_=>aE.nil
 |u::l,v::l',h,k=>aE.cons (k 0 u v rfl rfl) (Tv (by simpa using h) fun j a b d e=>k (j+1) a b (by simpa using d) (by simpa using e))
 |[],_::_,h,_=>by simp at h
 |_::_,[],h,_=>by simp at h
def va (P:Program) (w:World) (ρ:eN) (r:OB):Prop:=
 (∀o,r.1=some o->∀b s,r.2=some (b,s)->∃a,w.heap[b]?=some a/\oT P ρ s o a)/\(∀b s,r.2=some (b,s)->b<w.heap.size)
theorem Sm.at' {r:OB} (h:Sm P w r) (ρ:eN):va P w ρ r:=⟨fun o f b s e=>let⟨g,a,d⟩:=h.1 o f b s e;⟨g,a,d ρ⟩,h.2⟩
theorem Vz {g:Nat} {gl:Nat->Option jD} {rs:List OB} (v:P.globals.size<=g) (t:g<=w.heap.size) (e:kz P g gl w) (j:∀r∈rs,va P w (mT g rs) r):Reads P (g+rs.length) (tN g gl rs) (mT g rs) w where
 iQ:=fun i o f d b s a=>by
  have q:=a;unfold tN at d;unfold mT at a;split at d;rename_i h;rw[aCx h] at a;cases a;obtain⟨u,k,p⟩:=e i o h d;exact⟨u,k,p _⟩;rename_i h;rw[aCw h] at a;rw[List.getElem?_eq_getElem (by omega)] at d a;exact(j _ (List.getElem_mem (by omega))).1 o d b s a
 low:=fun i b s f a=>by
  unfold mT at a;split at a;cases a;omega;rw[List.getElem?_eq_getElem (by omega)] at a;exact(j _ (List.getElem_mem (by omega))).2 b s a
 none:=fun i f=>by unfold mT;rw[aaa,List.getElem?_eq_none (by omega)];rfl
 lH:=fun i f=>by unfold mT;rw[aac]
def zO (j:List (Option IntKind)) (w:World) (a:Option Addr) (len cap:Nat):Prop:=
 (a=none/\len=0/\cap=0)\/(∃x,a=some x/\len=0)\/
 ∃x cc e g,a=some x/\0<len/\x.spot=none/\len<=cap/\w.heap[x.block]?=some (.cells cc e g)/\x.off+len<=cc.size/\
  ∀i,i<len->∃b f d,cc.toList[x.off+i]?=some (.slice b f d)/\gI j w b f d
theorem W5 {t e e2:TypeId} {n fuel:Nat} {s:List (Option IntKind)} {cs:List Value} {x:DataW H×List MemPlace} (ht:P.underlying t=some (.slice e)) (U:P.underlying e=some (.slice e2)) (W:pQ P n e2=some s) (B:P.cellsOf e2=s.length) (T:P.cellsOf e=1) (R:0<s.length)
  (h:DataW.trod enc P w base spare held fuel t cs=some x):∃a len j,cs=[.slice a len j]/\len<=maxLen/\zO s w a len j:=by
 rcases DataW.trod_slice ht h with⟨rfl,_⟩|⟨a,len,j,elems,rest,m,_,rfl,_,y,X,hm,J,E,_,_⟩
 .exact⟨none,0,0,rfl,Nat.zero_le _,.inl ⟨rfl,rfl,rfl⟩⟩
 refine⟨some a,len,j,rfl,by omega,?_⟩
 rcases Nat.eq_zero_or_pos len with A|A
 .exact .inr (.inl ⟨a,rfl,A⟩)
 refine .inr (.inr ?_)
 have each:∀i,i<len->∃d g f,w.cell? (a.add i)=some (.slice d g f)/\gI s w d g f:=by
  intro i F;have p:=E i F;rw[List.getElem?_eq_getElem (by omega),T,Option.bind_eq_some_iff] at p;obtain⟨c,k,hy⟩:=p;obtain⟨d,g,f,D,Y⟩:=Ir U W B R hy;subst D;refine⟨d,g,f,?_,Y⟩;unfold World.cells? at k;split at k;have:=mapM_some_get k 0 0 (by simp);rw[Nat.mul_one] at this;have O:(a.add i).add 0=a.add i:=rfl;rw[O] at this;simpa using this;cases k
 obtain⟨a0,l0,c0,b,Z⟩:=each 0 A
 obtain⟨cc,K,u,y,z⟩:∃cc e u,w.heap[a.block]?=some (.cells cc e u)/\a.spot=none:=by
  have I:a.add 0=a:=rfl;rw[I] at b;unfold World.cell? at b;split at b;rename_i c e u y;split at b;cases b;rename_i z;exact⟨c,e,u,y,by simpa using z⟩;cases b
 have q:∀o,w.cell? ⟨a.block,o,none⟩=cc[o]?:=by
  intro o;unfold World.cell?;rw[y];simp
 have v:∀i,i<len->∃d g f,cc.toList[a.off+i]?=some (.slice d g f)/\gI s w d g f:=by
  intro i F;obtain⟨d,g,f,p,S⟩:=each i F;rw[Q4 z,q] at p;exact⟨d,g,f,by rw[Array.getElem?_toList];exact p,S⟩
 refine⟨a,cc,K,u,rfl,A,z,X,y,?_,v⟩
 obtain⟨d,g,f,p,_⟩:=v (len - 1) (by omega)
 have:=(List.getElem?_eq_some_iff.1 p).1
 simp at this
 omega
theorem Fl {W:World} {t:TypeId} {fs:Array Field} {i:Nat} {f:Field} {l:List Value} {d:DataW H} {p:List MemPlace} {n:Nat} {k:List (Option IntKind)} (q:P.underlying t=some (.struct fs)) (g:fs[i]?=some f) (o:pQ P n f.type=some k)
  (h:DataW.Trod enc P W 0 (fun _=>true) true t (.agg ⟨l⟩) d p):Flat k ((l.drop f.offset).take (P.cellsOf f.type)):=by
 obtain⟨fuel,b⟩:=h
 obtain⟨u,m,_,_,v,s,a⟩:=DataW.trod_struct q b
 have j:=a i f g
 have e:i<u.length:=by rw[s];exact(Array.getElem?_eq_some_iff.1 g).1
 rw[List.getElem?_eq_getElem e] at j
 have:=Io n o j
 simpa [Value.cells] using this
theorem Ey {W:World} {t e e2:TypeId} {fs:Array Field} {i:Nat} {f:Field} {l:List Value} {d:DataW H} {p:List MemPlace} {n:Nat} {k:List (Option IntKind)} (I:P.underlying t=some (.struct fs)) (u:fs[i]?=some f)
  (J:P.underlying f.type=some (.slice e)) (s:P.underlying e=some (.slice e2)) (y:P.cellsOf f.type=1) (A:P.cellsOf e=1) (D:pQ P n e2=some k) (B:P.cellsOf e2=k.length) (x:0<k.length)
  (h:DataW.Trod enc P W 0 (fun _=>true) true t (.agg ⟨l⟩) d p):∃a len b,l[f.offset]?=some (.slice a len b)/\len<=maxLen/\zO k W a len b:=by
 obtain⟨fuel,o⟩:=h
 obtain⟨O,m,_,_,S,K,g⟩:=DataW.trod_struct I o
 have v:=g i f u
 have q:i<O.length:=by rw[K];exact(Array.getElem?_eq_some_iff.1 u).1
 rw[List.getElem?_eq_getElem q] at v
 obtain⟨a,len,b,j,E,F⟩:=W5 J s D B A x v
 refine⟨a,len,b,?_,E,F⟩
 rw[y] at j
 have R:(Value.cells (.agg ⟨l⟩)).toList=l:=by simp[Value.cells]
 have:=congrArg (fun z=>z[0]?) j
 simpa [Value.cells] using this
structure zd (P:Program) (w:World) (ks:List (Option IntKind)) (k0:Nat) (a:Option Addr) (len cap:Nat) (r:OB) (rs:List OB) (t:Nat->Value) (vs:List Value) (ns:List Nat) (at':Nat->Nat->List Value):Prop where
 ok:∀x∈rs,Sm P w x
 out:∀ρ:eN,(∀i x,rs[i]?=some x->ρ (k0+i)=x.2)->va P w ρ r
 rel:∀ρ k,ρ k=r.2->aA ρ (t k) (.slice a len cap)
 xv:vs.length=len
 jS:ns.length=len
 flat:∀i n,ns[i]?=some n->∀j,j<n->Flat ks (at' i j)
 old:∀(G:Bg) k,k<G.base->G.old k=r.1->(∀i x,rs[i]?=some x->k0+i<G.base/\G.old (k0+i)=x.1)->
  oY G 1 (t k) len (fun i=>[vs.getD i undef])/\Z4 G (t k) len/\∀i v n,vs[i]?=some v->ns[i]?=some n->oY G ks.length v n (at' i)/\Z4 G v n
theorem Yi (P:Program) {D:List (Option IntKind)} {a:Option Addr} {len cap:Nat} (p:Nat) (h:zO D w a len cap):∃r rs t vs ns at',zd P w D p a len cap r rs t vs ns at':=by
 rcases h with⟨rfl,rfl,rfl⟩|⟨x,rfl,rfl⟩|⟨x,cc,e,R,rfl,h0,hs,hl,Z,β,hf⟩;exact⟨(none,none),[],fun _=> .slice none 0 0,[],[],fun _ _=>[],⟨fun x X=>(by cases X),fun ρ _=>⟨fun o h=>(by cases h),fun b s h=>(by cases h)⟩,fun ρ k _=>(by simp only[aA]),rfl,rfl,fun i n A=>(by simp at A),fun G k _ _ _=>⟨⟨none,0,rfl,fun i d=>(by omega)⟩,.inl ⟨rfl,rfl⟩,fun i v n f=>(by simp at f)⟩⟩⟩;refine⟨(none,none),[],fun _=> .slice (some ⟨0,0,some 0⟩) 0 0,[],[],fun _ _=>[],⟨fun x X=>(by cases X),fun ρ _=>⟨fun o h=>(by cases h),fun b s h=>(by cases h)⟩,fun ρ k _=>?_,rfl,rfl,fun i n A=>(by simp at A),fun G k _ _ _=>⟨⟨some ⟨0,0,some 0⟩,0,rfl,fun i d=>(by omega)⟩,.inr (.inl ⟨rfl,rfl⟩),fun i v n f=>(by simp at f)⟩⟩⟩;simp only[aA];exact⟨trivial,trivial,x,cap,fun h=>by omega,fun h=>by omega,rfl⟩;have F:∀i,∃(y:OB×(Nat->Value)×(Nat->List Value)×Nat×Value),i<len->cc.toList[x.off+i]?=some y.2.2.2.2/\Sm P w y.1/\(∀ρ k,ρ k=y.1.2->aA ρ (y.2.1 k) y.2.2.2.2)/\(∀j,j<y.2.2.2.1->Flat D (y.2.2.1 j))/\
   ∀(G:Bg) k,k<G.base->G.old k=y.1.1->oY G D.length (y.2.1 k) y.2.2.2.1 y.2.2.1/\Z4 G (y.2.1 k) y.2.2.2.1:=by
  intro i
  by_cases d:i<len
  .obtain⟨a',l',c',q,S⟩:=hf i d;obtain⟨r,t,T,h4,at',h5,h6⟩:=qN P S;exact⟨(r,t,at',l',.slice a' l' c'),fun _=>⟨q,T,h4,h5,h6⟩⟩
  .exact⟨((none,none),fun _=>undef,fun _=>[],0,undef),fun h=>absurd h d⟩
 obtain⟨Y,J⟩:∃Y:Nat->OB×(Nat->Value)×(Nat->List Value)×Nat×Value,∀i,i<len->cc.toList[x.off+i]?=some (Y i).2.2.2.2/\Sm P w (Y i).1/\(∀ρ k,ρ k=(Y i).1.2->aA ρ ((Y i).2.1 k) (Y i).2.2.2.2)/\(∀j,j<(Y i).2.2.2.1->Flat D ((Y i).2.2.1 j))/\
   ∀(G:Bg) k,k<G.base->G.old k=(Y i).1.1->oY G D.length ((Y i).2.1 k) (Y i).2.2.2.1 (Y i).2.2.1/\Z4 G ((Y i).2.1 k) (Y i).2.2.2.1:=
  ⟨fun i=>(F i).choose,fun i d=>(F i).choose_spec d⟩
 have B:∀{α:Type} (g:Nat->α) (i:Nat) (z:α),((List.range len).map g)[i]?=some z->i<len/\z=g i:=by
  intro α g i z O;have d:i<len:=by have:=(List.getElem?_eq_some_iff.1 O).1;simpa using this
  rw[List.getElem?_map,List.getElem?_range d] at O;simp only[Option.map_some,Option.some.injEq] at O;exact⟨d,O.symm⟩
 refine⟨(some (.cells ((List.range cc.size).map fun j=>if x.off<=j/\j<x.off+len then(Y (j - x.off)).2.1 (p+(j - x.off)) else top) e R false),some (x.block,(0,0))),(List.range len).map fun i=>(Y i).1,fun k=> .slice (some ⟨k,x.off,none⟩) len cap,
     (List.range len).map fun i=>(Y i).2.1 (p+i),(List.range len).map fun i=>(Y i).2.2.2.1,fun i=>(Y i).2.2.1,⟨?_,?_,?_,by simp,by simp,?_,?_⟩⟩
 intro y hy;obtain⟨i,d,rfl⟩:=List.mem_map.1 hy;exact(J i (List.mem_range.1 d)).2.1;intro ρ hρ;refine⟨fun o ho b s I=>?_,fun b s I=>?_⟩;cases ho;cases I;refine⟨_,Z,cc,rfl,?_,by simp,fun h=>by cases h⟩;rw[List.drop_zero,List.take_of_length_le (by simp)];refine Tv (by simp) fun j u v K f=>?_;rw[List.getElem?_map] at K;have U:j<cc.size:=by have:=(List.getElem?_eq_some_iff.1 f).1;simpa using this
 rw[List.getElem?_range U] at K;simp only[Option.map_some,Option.some.injEq] at K;subst K;split;rename_i hc;obtain⟨q,_,T,_,_⟩:=J (j - x.off) (by omega);rw[show x.off+(j - x.off)=j by omega,f] at q;simp only[Option.some.injEq] at q;rw[q];refine T ρ _ (hρ (j - x.off) _ ?_);rw[List.getElem?_map,List.getElem?_range (by omega)];rfl;exact nz;cases I;exact(Array.getElem?_eq_some_iff.1 Z).1;intro ρ k I;simp only[aA];exact⟨x.block,(0,0),cap,I,Nat.le_refl _,by simp,by cases x;simp at hs;subst hs;rfl⟩;intro i n A j U;obtain⟨d,rfl⟩:=B _ i n A;exact(J i d).2.2.2.1 j U;intro G k hk hg E;refine⟨⟨_,_,rfl,fun i d=>⟨k,x.off,_,rfl,⟨hk,e,R,false,hg⟩,?_,by simp;omega⟩⟩,.inr (.inr ⟨k,x.off,cap,_,e,R,rfl,h0,hl,hk,hg⟩),fun i v n f A=>?_⟩;have α:x.off+i*1<cc.size:=by omega
 have W:x.off+i*1<((List.range cc.size).map fun j=>if x.off<=j/\j<x.off+len then(Y (j - x.off)).2.1 (p+(j - x.off)) else top).length:=by simp;omega
 rw[List.drop_eq_getElem_cons W,List.take_succ_cons,List.take_zero];have e1:((List.range len).map fun i=>(Y i).2.1 (p+i)).getD i undef=(Y i).2.1 (p+i):=by
  rw[List.getD_eq_getElem?_getD,List.getElem?_map,List.getElem?_range d];rfl
 show[_]=[((List.range len).map fun i=>(Y i).2.1 (p+i)).getD i undef];rw[e1];simp only[List.getElem_map,List.getElem_range];rw[aac,show x.off+i*1 - x.off=i by omega];obtain⟨d,rfl⟩:=B _ i v f;obtain⟨_,rfl⟩:=B _ i n A;obtain⟨q,S⟩:=E i (Y i).1 (by rw[List.getElem?_map,List.getElem?_range d];rfl);exact(J i d).2.2.2.2 G (p+i) q S
end
end Go.Ab
namespace Go.Proofs.YtmhapehobfnoiaaGreatDoor
open Go Go.Ab Go.Hm Go.At Go.Mc Go.Ct Go.Nt Go.Is
section
theorem mr {x:dT} {k:Value->Prop} (d:k (.bool false)) {a:Bool} (b:a=true:=by kernel_rfl):Tc a [0,1] .neq (.agg ⟨x.enc⟩) (.agg ⟨x.enc⟩) k:=⟨b,_,by simp[Mx,lE,Nn,N8,dT.enc],d⟩
instance:Fx gU 2:=⟨fun _=>rfl,fun _=>rfl⟩
theorem s6 {x:Ln} {k:Value->Prop} (d:k (.bool false)) {a:Bool} (b:a=true:=by kernel_rfl):Tc a [0,0] .neq (.agg ⟨gU x⟩) (.agg ⟨gU x⟩) k:=⟨b,_,by simp[Mx,lE,Nn,N8,gU],d⟩
set_option maxRecDepth 100000
attribute [local irreducible] bB Br ld1 A5 I7 Cd kT yC kI Xx qS zP Bo pT nL mH yV A1 Xb T1 P6 P5 Tb Uj Mx Tc W6 kQ tQ tE iB copyV kV V5 Vo W0 Ed iZ Rp Vn Uz lZ rG Ay yZ Cl C9 Ui qR qH iO eI bS bG
variable {G:Bg} {h:AH} {L L':List HP} {Q:Value->AH->Prop}
theorem Sx {a a2:Option Addr} {c c2:Nat} (b:Q (.bool true) h):Cl Pr K 65 [.slice a 0 c,.slice a2 0 c2] h Q:=
 cW (bU (bU (cZ (aU (by simp) (bW (bW (bU (aT (aU (by decide) b)))))))))
theorem U4 {a a2:Option Addr} {c c2:Nat} (b:Q (.bool true) h):Cl Pr K 66 [.slice a 0 c,.slice a2 0 c2] h Q:=
 cW (bU (bU (cZ (aU (by simp) (bW (bW (bU (aT (aU (by decide) b)))))))))
theorem Vl {a a2:Option Addr} {c c2:Nat} (b:Q (.bool true) h):Cl Pr K 68 [.slice a 0 c,.slice a2 0 c2] h Q:=
 cW (bU (bU (cZ (aU (by simp) (bW (bW (bU (aT (aU (by decide) b)))))))))
theorem Lu {a a2:Option Addr} {c c2:Nat} {l:List dT} (p:l.length<=1000) (b:Hs G h (ls dT.enc 2 52 a c l::ls dT.enc 2 52 a2 c2 l::L))
  (k:∀g,Hs G g L->Q (.bool true) g):Cl Pr K 67 [.slice a l.length c,.slice a2 l.length c2] h Q:=by
 have loop:∀(f i:Nat) (h:AH),i+f=l.length->Hs G h (ls dT.enc 2 52 a c l::ls dT.enc 2 52 a2 c2 l::L)->Dd 67 2 [] Q [.slice a l.length c,.slice a2 l.length c2,I i] h:=by
  intro f;induction f with
  |zero=>intro i h j b;exact bW (bU (aT (aab (k _ b.to))))
  |succ f o=>
   intro i h j b;obtain⟨x,d,_⟩:=jI (l:=l) (i:=i) (by omega);have d:l[((i:Nat):Int).toNat]?=some x:=by rw[Int.toNat_natCast];exact d
   refine bW (bU (aT (aae (bW (iN b fun q h b=>Ac (l:=l) (a:=a) (c:=c) (enc:=dT.enc) (e:=52) b (by decide) (by omega) d (Ac (l:=l) (a:=a2) (c:=c2) (enc:=dT.enc) (e:=52) b (by decide) (by omega) d (mr (dO (bW ?_)))))))));exact aad (o (i+1) h (by omega) b.to)
 exact cW (bU (bU (cZ (aU (by simp) (bW (loop l.length 0 h (by omega) b))))))
theorem Qm {a a2:Option Addr} {c c2:Nat} {l:List Ln} (p:l.length<=1000) (b:Hs G h (ls gU 2 68 a c l::ls gU 2 68 a2 c2 l::L))
  (k:∀g,Hs G g L->Q (.bool true) g):Cl Pr K 69 [.slice a l.length c,.slice a2 l.length c2] h Q:=by
 have loop:∀(f i:Nat) (h:AH),i+f=l.length->Hs G h (ls gU 2 68 a c l::ls gU 2 68 a2 c2 l::L)->Dd 69 2 [] Q [.slice a l.length c,.slice a2 l.length c2,I i] h:=by
  intro f;induction f with
  |zero=>intro i h j b;exact bW (bU (aT (aab (k _ b.to))))
  |succ f o=>
   intro i h j b;obtain⟨x,d,_⟩:=jI (l:=l) (i:=i) (by omega);have d:l[((i:Nat):Int).toNat]?=some x:=by rw[Int.toNat_natCast];exact d
   refine bW (bU (aT (aae (bW (iN b fun q h b=>Ac (l:=l) (a:=a) (c:=c) (enc:=gU) (e:=68) b (by decide) (by omega) d (Ac (l:=l) (a:=a2) (c:=c2) (enc:=gU) (e:=68) b (by decide) (by omega) d (s6 (dO (bW ?_)))))))));exact aad (o (i+1) h (by omega) b.to)
 exact cW (bU (bU (cZ (aU (by simp) (bW (loop l.length 0 h (by omega) b))))))
abbrev Ef (a1 a2 a3 a4 a5:Option Addr) (a c2 c3 b c5 d n5:Nat):List Value:=[.slice a1 0 a,.slice a2 0 c2,.slice a3 d c3,.slice a4 0 b,.slice a5 n5 c5]
theorem W4 {a1 a2 a3 a4 a5 f g d i e:Option Addr} {j c2 c3 k c5 d1 d2 d3 d4 d5:Nat} {es:List dT} {ws:List Ln} (t:es.length<=1000) (v:ws.length<=1000)
  (a:Hs G h (ls dT.enc 2 52 a3 c3 es::ls dT.enc 2 52 d d3 es::ls gU 2 68 a5 c5 ws::ls gU 2 68 e d5 ws::L)) (u:∀s,Hs G s L->Q (.bool true) s):
  Cl Pr K 20 [.agg ⟨Ef a1 a2 a3 a4 a5 j c2 c3 k c5 es.length ws.length⟩,.agg ⟨Ef f g d i e d1 d2 d3 d4 d5 es.length ws.length⟩] h Q:=by
 refine cW (fZ (cs:=Ef a1 a2 a3 a4 a5 j c2 c3 k c5 es.length ws.length) a fun p h a=>fZ (cs:=Ef f g d i e d1 d2 d3 d4 d5 es.length ws.length) a fun q h a=>?_)
 refine aC (ae p a rfl (aC (ae q a rfl (Sx (iM ?_)))))
 refine aC (ae p a rfl (aC (ae q a rfl (U4 (iM ?_)))))
 refine aC (ae p a rfl (aC (ae q a rfl ?_)))
 refine Lu t (a.cY (ls dT.enc 2 52 a3 c3 es) (ls dT.enc 2 52 d d3 es)) fun h a=>iM ?_
 refine aC (ae p a rfl (aC (ae q a rfl (Vl (iM ?_)))))
 refine aC (ae p a rfl (aC (ae q a rfl ?_)))
 exact Qm v (a.cY (ls gU 2 68 a5 c5 ws) (ls gU 2 68 e d5 ws)) fun h a=>u _ a.to
end
end Go.Proofs.YtmhapehobfnoiaaGreatDoor
section
open Go Go.Ab
attribute [local irreducible] bB Br ld1 A5 I7 Cd kT yC kI Xx qS zP Bo pT nL mH yV A1 Xb T1 P6 P5 Tb Uj Mx Tc W6 kQ tQ tE iB copyV kV V5 Vo W0 Ed iZ Rp Vn Uz lZ rG Ay yZ Cl C9 Ui qR qH iO eI bS bG
namespace Go.Proofs.YtmhapehobfnoiaaGreatDoor
open Go Go.Ab Go.Hm Go.At Go.Mc Go.Ct Go.Nt Go.Is
section
def Ts (vs:List Int) (n:Nat):List Ln:=(List.range n).map fun i=>(vs.getD (2*i) 0,vs.getD (2*i+1) 0)
theorem pq {vs:List Int} {n:Nat}:(Ts vs n).length=n:=by simp[Ts]
theorem af {vs:List Int} {n:Nat}:Ts vs n++[(vs.getD (2*n) 0,vs.getD (2*n+1) 0)]=Ts vs (n+1):=by simp[Ts,List.range_succ]
set_option maxRecDepth 100000
variable {G:Bg} {h:AH} {L L':List HP} {Q:Value->AH->Prop}
theorem dz {vv:Value} {vs:List Int} (p:A.wO G vv vs) (E:vs.length<=1000) (b:Hs G h L)
  (B:∀a c g,Hs G g (ls gU 2 68 a c (Ts vs (vs.length/2))::L)->Q (.slice a (vs.length/2) c) g):Cl Pr K 21 [vv] h Q:=by
 have loop:∀(f k:Nat) (a:Option Addr) (c:Nat) (h:AH),k+f=vs.length/2->Hs G h (ls gU 2 68 a c (Ts vs k)::L)->Dd 21 1 [] Q [vv,.slice a k c,I ((2*k:Nat):Int)] h:=by
  intro f;induction f with
  |zero=>
   intro k a c h o b;obtain rfl:k=vs.length/2:=by omega
   exact bW (aad (B0 p (aT (aab (B a c h b)))))
  |succ f D=>
   intro k a c h o b;obtain⟨x,s,_⟩:=jI (l:=vs) (i:=2*k) (by omega);obtain⟨y,t,_⟩:=jI (l:=vs) (i:=2*k+1) (by omega);refine bW (aad (B0 p (aT (aae (bW (iN b fun r h b=>?_))))));have b:=A.kN p b;refine pS b (x:=[I x]) (by simp[A.tV,s]) rfl (aad ?_);rw[show((2*k:Nat):Int)+1=((2*k+1:Nat):Int) by omega];refine pS b (x:=[I y]) (by simp[A.tV,t]) rfl ?_;have b:=b.tail;refine cQ (c:=gU (x,y)) rfl (cQ (c:=gU (x,y)) rfl (zK (i:=11) (W:=2) (n:=1) (c:=1) b rfl rfl rfl rfl rfl fun j h b=>?_));have b:=xO (enc:=gU) (x:=(x,y)) b;have e:(Ts vs k).length=k:=pq;have:=tB (bytes:=16) (e:=68) (enc:=gU) (l:=Ts vs k) (l2:=[(x,y)]) (a:=a) (c:=c) (a2:=some j) (c2:=1) (h:=h) (k:=fun r=>bB (A1 .add (I ((2*k:Nat):Int)) (I 2)) fun q=>Dd 21 1 [] Q [vv,r.1,q] r.2) (b.cY (ls gU 2 68 a c (Ts vs k)) (ls gU 2 68 (some j) 1 [(x,y)])) (by simp;omega) fun u v g d=>?_;rw[e] at this;exact this;rw[List.length_append,e];refine aad ?_;rw[show((2*k:Nat):Int)+2=((2*(k+1):Nat):Int) by omega];refine D (k+1) u v g (by omega) ?_;have z:Ts vs k++[(x,y)]=Ts vs (k+1):=by rw[<-af,List.getD_eq_getElem?_getD,List.getD_eq_getElem?_getD,s,t];rfl
   rw[z] at d;exact d.to
 have b:=mR (enc:=gU) (e:=68) b
 exact cW (loop (vs.length/2) 0 none 0 h (by omega) b)
end
section
set_option maxRecDepth 100000
variable {G:Bg} {h:AH} {L L':List HP} {Q:Value->AH->Prop} {C:bA}
def j1 (p:Nat) (l:List Ln):HP:=Bb fun x:Option Addr×Nat=>sp [aR p 0 [.slice x.1 l.length x.2],ls gU 2 68 x.1 x.2 l]
theorem aB9 {p:Nat} {l:List Ln} (hb:l.length<=1000):nw Pr K G 161 [] [pt p 0 0] (j1 p l) ((l.zipIdx).map fun x=>[I x.2,.agg ⟨gU x.1⟩]):=by
 intro k J y L h Q d F t u;obtain⟨⟨a,c⟩,d⟩:=d.yS;have d:=d.Z0;have g:∀{h:AH} {M:List HP},Hs G h (aR p 0 [.slice a l.length c]::ls gU 2 68 a c l::M)->Hs G h (j1 p l::M):=fun d=>Hs.vK (A:=fun x:Option Addr×Nat=>sp [aR p 0 [.slice x.1 l.length x.2],ls gU 2 68 x.1 x.2 l]) (a,c) d.Ve;refine cW (ae p d rfl (bU ?_));have loop:∀(f i:Nat) (h:AH),i+f=l.length->Hs G h (aR p 0 [.slice a l.length c]::ls gU 2 68 a c l::k (((l.drop i).zipIdx i).map fun x=>[I x.2,.agg ⟨gU x.1⟩])::L)->Dd 161 1 [] Q [y,(.slice a l.length c),(I l.length),(I i)] h:=by
  intro f;induction f with
  |zero=>
   intro i h B d;rw[List.drop_of_length_le (by omega)] at d;exact bW (aT (aab (t _ _ (g d))))
  |succ f O=>
   intro i h B d;obtain⟨x,E,z⟩:=tM (l:=l) (i:=i) (by omega);rw[z,List.zipIdx_cons,List.map_cons] at d;refine bW (aT (aae (bW (Ac (l:=l) (a:=a) (c:=c) (enc:=gU) (e:=68) d (by decide) (by omega) (by rw[Int.toNat_natCast];exact E) (fA d fun q h d=>ap (b:=q) d fun h d=>an q d (l:=gU x) rfl rfl ?_)))));refine(F _ _ h _ (d.front (k ([I i,.agg ⟨gU x⟩]::(((l.drop (i+1)).zipIdx (i+1)).map fun x=>[I x.2,.agg ⟨gU x.1⟩]))))).mono fun v s D=>?_;rcases D with⟨rfl,j⟩|⟨rfl,j⟩;exact gM (dO (bW (aad (O (i+1) s (by omega) j.to))));exact gM (iM (u _ _ (g j.to)))
 exact loop l.length 0 h (by omega) (by rw[List.drop_zero];exact d)
end
section
def Vk (n k:Nat) (mem:Nat->Ln):List Ln:=(List.range n).map fun j=>if j<k then mem j else(0,0)
theorem K5 {n k:Nat} {mem:Nat->Ln}:(Vk n k mem).length=n:=by simp[Vk]
theorem j6 {n k:Nat} {mem:Nat->Ln}:(Vk n k mem).set k (mem k)=Vk n (k+1) mem:=by
 apply List.ext_getElem?;intro i;simp only[Vk,List.getElem?_set,List.length_map,List.length_range,List.getElem?_map];grind
theorem j7 {n:Nat} {mem:Nat->Ln}:Vk n n mem=(List.range n).map mem:=by
 apply List.map_congr_left;intro j a;rw[aCx (by simpa using a)]
theorem Xu (n:Nat):dS [I 0,I 0] n=eL gU (List.replicate n (0,0)):=by
 induction n with
 |zero=>rfl
 |succ n a=>rw[List.replicate_succ,lJ,<-a];rfl
theorem bx {n:Nat} {mem:Nat->Ln}:dS [I 0,I 0] n=eL gU (Vk n 0 mem):=by
 rw[Xu];congr 1;apply List.ext_getElem?;intro i;simp only[Vk,List.getElem?_map,List.getElem?_replicate];grind
set_option maxRecDepth 100000
variable {G:Bg} {h:AH} {L L':List HP} {Q:Value->AH->Prop} {C:bA}
theorem R4 {mb:Nat} {mem:Nat->Ln} (hC:C.Ok) (A:Ob G 0 jK) (d:Hs G h L) [m:Has (fY G C.lines mb C) L mem L']
  (O:∀a c p,Hs G p (ls gU 2 68 a c ((List.range C.lines).map mem)::fY G C.lines mb C mem::L')->Q (.slice a C.lines c) p):Cl Pr K 114 [pt mb 0 0] h Q:=by
 have s:=bA.bk hC
 have R:=bA.eO hC
 have F:=hC.2.1
 have loop:∀(f i:Nat) (a:Option Addr) (c:Nat) (h:AH),i+f=C.lines->Hs G h (ls gU 2 68 a c (Vk C.lines i mem)::fY G C.lines mb C mem::L')->Dd 114 2 [] Q [pt mb 0 0,.slice a C.lines c,I C.lines,I i] h:=by
  intro f;induction f with
  |zero=>
   intro i a c h J d;obtain rfl:i=C.lines:=by omega
   rw[j7] at d;exact bW (aT (aab (O a c h d)))
  |succ f S=>
   intro i a c h J d;have z:i<C.lines:=by omega
   obtain⟨b,o,g,d⟩:=zI (d.front (fY G C.lines mb C mem));refine bW (aT (aae (bW (J6 hC A d z fun h d=>bV rfl (bV rfl (bV rfl (mW (cR rfl (bW ?_)))))))));have d:=(d.front (hJ C.aK.toNat fun i=>iS C.lines C.aK.toNat b (o+i*3) i mem)).pW (i % C.aK.toNat) (Nat.mod_lt _ s.2.1);obtain⟨r,w,E,x,d⟩:=Bv d;refine aN (aC (aS d rfl ?_));have q:=J1 s.2.1 z;obtain⟨u,D,rfl,H,d,j⟩:=Hs.so (T6 (B:=C.aK.toNat) (i:=i % C.aK.toNat) (mem:=mem)) q (d.front (fT 2 68 E x (hM C.lines C.aK.toNat (i % C.aK.toNat),(List.range (hM C.lines C.aK.toNat (i % C.aK.toNat))).flatMap (O0 C.aK.toNat (i % C.aK.toNat) mem))));rw[az s.2.1] at d;refine fN q (cA d (by decide) (l:=gU (mem i)) rfl rfl ?_);have d:=j _ _ _ rfl rfl (d.cY (aR u (D+i/C.aK.toNat*2) (gU (mem i))) H);rw[Tj s.2.1,qP] at d;have d:=sS (d.sg (b:=b) (o:=o+i % C.aK.toNat*3) (c:=[I r,I w,.slice (some ⟨u,D,none⟩) (hM C.lines C.aK.toNat (i % C.aK.toNat)) x]) rfl);have d:Hs _ _ (fY G C.lines mb C mem::ls gU 2 68 a c (Vk C.lines i mem)::L'):=wI (b:=b) (o:=o) (cap:=g) ((d.Bz (n:=C.aK.toNat) (i:=i % C.aK.toNat) (fun i=>iS C.lines C.aK.toNat b (o+i*3) i mem) (fun i=>iS C.lines C.aK.toNat b (o+i*3) i mem) (Nat.mod_lt _ s.2.1) (fun _ _ _=>rfl)).to);have e:(Vk C.lines i mem).length=C.lines:=K5;have:=Tw (l:=Vk C.lines i mem) (a:=a) (c:=c) (enc:=gU) (e:=68) (i:=(i:Int)) (y:=mem i) (h:=_) (k:=fun p=>bB (A1 .add (I i) (I 1)) fun v=>Dd 114 2 [] Q [pt mb 0 0,.slice a C.lines c,I C.lines,v] p) (d.front (ls gU 2 68 a c (Vk C.lines i mem))) (by decide) (by omega) (by rw[e];omega) fun p t=>?_;rw[e] at this;exact this;rw[Int.toNat_natCast,j6] at t;exact aad (S (i+1) a c p (by omega) t.to)
 obtain⟨b,o,g,d⟩:=zI (show Hs G h (fY G C.lines mb C mem::L') from m.of d)
 refine cW (fM (dO (bW (aN (aC (cA d (by decide) (l:=C.enc) rfl rfl (nM hC A d fun h d=>rb (by omega) (by omega) ?_)))))))
 have d:=wI d
 refine jG (W:=2) (n:=C.lines) (c:=C.lines) d (by rw[bx (mem:=mem),Gu,K5]) rfl (by rw[bx (mem:=mem)];exact Jv) fun a h d=>?_
 rw[bx (mem:=mem)] at d
 refine bU (loop C.lines 0 (some a) C.lines h (by omega) ?_)
 unfold ls
 rw[K5]
 exact d
end
end Go.Proofs.YtmhapehobfnoiaaGreatDoor
namespace Go.Proofs.YtmhapehobfnoiaaGreatDoor
open Go Go.Ab Go.Hm Go.At Go.Mc Go.Nt
section
def fE (q:Nat):List Value:=[.func (.func 248) #[] #[pt q 0 0]]
instance:Fx fE 1:=⟨fun _=>rfl,fun _=>rfl⟩
abbrev fns (a:Option Addr) (c:Nat) (l:List Nat):HP:=ls fE 1 164 a c l
def bN (F:gJ):Nat->List aH:=fun k=>F (k/4) (k % 4)
def sE (F:gJ):Nat->Nat
 |0=>0
 |n+1=>sE F n+(bN F n).length
theorem Kp {F:gJ} (a:∀c w,(F c w).length<=500):∀n,sE F n<=500*n
 |0=>Nat.le_refl _
 |n+1=>by
  have b:=Kp a n;have d:=a (n/4) (n % 4);show sE F n+(F (n/4) (n % 4)).length<=_;omega
theorem Nk {l done:List Nat} {y:Nat} (h:done++[y]<+:l):done.length<l.length/\l.getD done.length 0=y:=by
 obtain⟨t,rfl⟩:=h;refine⟨by simp,?_⟩;simp[List.getD_eq_getElem?_getD]
set_option maxRecDepth 100000
variable {G:Bg} {h:AH} {L L' M:List HP} {Q:Value->AH->Prop} {C:bA}
abbrev wP:Nat->Nat->List aH->HP:=fun _ q l=>gq q l
theorem zm {a:Option Addr} {c i:Nat} {l:List Nat} {k:Value->Prop} (d:Hs G h L) [m:Has (fns a c) L l L'] (f:i<l.length) (q:k (.func (.func 248) #[] #[pt (l.getD i 0) 0 0])):bB (kQ 1 (.slice a l.length c) (I i)) fun p=>bB (ld1 h p) k:=by
 have s:l[i]?=some (l.getD i 0):=by rw[List.getD_eq_getElem?_getD,List.getElem?_eq_getElem f];rfl
 have d:Hs G h (fT 1 164 a c (l.length,eL fE l)::L'):=m.of d;obtain⟨b,o,rfl,e⟩:=d.iY (by omega);refine fN f ?_;rw[show pt b (o+i*1) 0=pt b o (i*1) by simp[pt]];have g:(eL fE l)[i*1]?=some (.func (.func 248) #[] #[pt (l.getD i 0) 0 0]):=Dq (enc:=fE) (W:=1) (j:=0) s rfl;exact aS (b:=b) (o:=o) (j:=i*1) e g q
def xE (z:Nat) (l:List Nat):HP:=Bb fun x:Option Addr×Nat=>sp [aR z 0 [.slice x.1 l.length x.2],fns x.1 x.2 l]
theorem nu {f i:Nat} {F:gJ} {t:Value} (hC:C.Ok) (v:∀c w,(F c w).length<=500) (z:(i:Int)<C.aD)
  (A:∀ql a c j,ql.length=4*i+4->Hs G j (fns a c ql::jT wP ql (bN F)::nJ C f F::L)->Dd 111 6 [] Q [(pt f 0 0),(.slice a ql.length c),t,(I i)] j):
  ∀(g w:Nat) (ql:List Nat) (a:Option Addr) (c:Nat) (h:AH),w+g=4->ql.length=4*i+w->Hs G h (fns a c ql::jT wP ql (bN F)::nJ C f F::L)->Dd 111 4 [] Q [(pt f 0 0),(.slice a ql.length c),(I i),t,(I i),(I w)] h:=by
 have E:=hC.1
 intro g
 induction g with
 |zero=>
  intro w ql a c h B k b
  exact bW (aT (aab (A ql a c h (by omega) b)))
 |succ g D=>
  intro w ql a c h B k b
  refine bW (aT (aae (bW (X2 (C:=C) (F:=F) (x:=i) (y:=w) hC v z (by omega) b fun q h b=>?_))))
  have u:bN F ql.length=F i w:=by
   unfold bN;rw[k,show(4*i+w)/4=i by omega,show(4*i+w) % 4=w by omega]
  have b:Hs G h (wP ql.length q (bN F ql.length)::nJ C f F::fns a c ql::jT wP ql (bN F)::L):=by rw[u];exact b.to
  refine cQ (c:=fE q) rfl (jG (W:=1) (n:=1) (c:=1) b rfl rfl rfl fun d h b=>?_)
  have b:=xO (enc:=fE) (W:=1) (e:=164) (x:=q) b
  refine tB (enc:=fE) (W:=1) (e:=164) (l:=ql) (l2:=[q]) (a:=a) (c:=c) (a2:=some d) (c2:=1) b (by simp;omega) fun o p h b=>?_
  have b:=De (R:=wP) (l:=ql) (q:=q) (s:=bN F) (b.cY (wP ql.length q (bN F ql.length)) (jT wP ql (bN F)))
  exact aad (D (w+1) (ql++[q]) o p h (by omega) (by simp;omega) b.to)
theorem Tf {f:Nat} {F:gJ} (hC:C.Ok) (p:∀c w,(F c w).length<=500) (d:Hs G h L) [m:Has (nJ C f) L F L']
  (u:∀z ql j,ql.length=4*C.aD.toNat->Hs G j (xE z ql::jT wP ql (bN F)::nJ C f F::L')->Q (.func (.func 201) #[] #[pt z 0 0]) j):Cl Pr K 111 [pt f 0 0] h Q:=by
 have B:=hC.1
 have loop:∀(g i:Nat) (ql:List Nat) (a:Option Addr) (c:Nat) (h:AH),i+g=C.aD.toNat->ql.length=4*i->Hs G h (fns a c ql::jT wP ql (bN F)::nJ C f F::L')->Dd 111 2 [] Q [(pt f 0 0),(.slice a ql.length c),(I C.aD),(I i)] h:=by
  intro g;induction g with
  |zero=>
   intro i ql a c h q k d;refine bW (aT (aab (cW (fZ d fun z h d=>u z ql h (by omega) ?_))));exact Hs.vK (A:=fun x:Option Addr×Nat=>sp [aR z 0 [.slice x.1 ql.length x.2],fns x.1 x.2 ql]) (a,c) d.Ve
  |succ g y=>
   intro i ql a c h q k d;refine bW (aT (aae (bW ?_)));refine nu (f:=f) (i:=i) (t:=I C.aD) hC p (by omega) (fun ql a c h k d=>?_) 4 0 ql a c h rfl (by omega) d;exact bW (aad (y (i+1) ql a c h (by omega) (by omega) d))
 obtain⟨pl,d⟩:=Pj (m.of d)
 refine cW (Ls (iM (bW (aN (aC (aC (ae f d (v:=I C.aD) rfl ?_)))))))
 have d:=mR (enc:=fE) (W:=1) (e:=164) (Di (R:=wP) (s:=bN F) (Bt d))
 exact loop C.aD.toNat 0 [] none 0 h (by omega) rfl d
theorem Yk {z:Nat} {l:List Nat} (hb:l.length<=1000):nw Pr K G 201 [] [pt z 0 0] (xE z l) (l.map fE):=by
 intro k J y L h Q d D q s;obtain⟨⟨a,c⟩,d⟩:=d.yS;have d:=d.Z0;have e:∀{h:AH} {M:List HP},Hs G h (aR z 0 [.slice a l.length c]::fns a c l::M)->Hs G h (xE z l::M):=fun d=>Hs.vK (A:=fun x:Option Addr×Nat=>sp [aR z 0 [.slice x.1 l.length x.2],fns x.1 x.2 l]) (a,c) d.Ve;refine cW (ae z d rfl (bU ?_));have loop:∀(f i:Nat) (h:AH),i+f=l.length->Hs G h (aR z 0 [.slice a l.length c]::fns a c l::k ((l.drop i).map fE)::L)->Dd 201 1 [] Q [y,(.slice a l.length c),(I l.length),(I i)] h:=by
  intro f;induction f with
  |zero=>
   intro i h u d;rw[List.drop_of_length_le (by omega)] at d;exact bW (aT (aab (q _ _ (e d))))
  |succ f E=>
   intro i h u d;have g:i<l.length:=by omega
   have t:l.drop i=l.getD i 0::l.drop (i+1):=by rw[List.drop_eq_getElem_cons g,List.getD_eq_getElem?_getD,List.getElem?_eq_getElem g];rfl
   rw[t,List.map_cons] at d;refine bW (aT (aae (bW (zm (l:=l) (a:=a) (c:=c) d g ?_))));refine(D _ _ h _ (d.front (k (fE (l.getD i 0)::((l.drop (i+1)).map fE))))).mono fun v p B=>?_;rcases B with⟨rfl,j⟩|⟨rfl,j⟩;exact gM (dO (bW (aad (E (i+1) p (by omega) j.to))));exact gM (iM (s _ _ (e j.to)))
 exact loop l.length 0 h (by omega) (by rw[List.drop_zero];exact d)
abbrev flX (p:Nat) (e:Nat->Value) (d l:Nat) (ql:List Nat) (F:gJ) (done:List Nat):HP:=sp [mD Pr 59 (mJ 58) 13 e d l (.ready,none),aR p 0 [I (sE F done.length)],jT wP ql (bN F)]
abbrev flY (p n:Nat) (e e2:Nat->Value) (d l l2:Nat) (done:List aH):HP:=sp [mD Pr 59 (mJ 938) 13 e2 d l2 (.ready,none),mD Pr 59 (mJ 58) 13 e d l (.busy,none),aR p 0 [I (n+done.length:Nat)]]
theorem V3 {f:Nat} {F:gJ} (hC:C.Ok) (E:∀c w,(F c w).length<=500) (a:Hs G h L) [m:Has (nJ C f) L F L']
  (hk:∀T,Hs G T (nJ C f F::L')->Q (I (sE F (4*C.aD.toNat))) T):Cl Pr K 59 [pt f 0 0] h Q:=by
 have hc:=hC.1
 refine cW (fA (m.of a) fun p h a=>ap (b:=p) a fun h a=>Tf (C:=C) (F:=F) hC E a fun z g h S a=>?_)
 refine nB a fun d h a=>?_
 intro e he
 refine nI a fun l h a=>uA rfl ?_
 have a:Hs G h (xE z g::flX p e d l g F []::mk d ()::nJ C f F::L'):=by
  have a:=(a.eW (mD Pr 59 (mJ 58) 13 e d l (.ready,none)) (aR p 0 [I 0]) (jT wP g (bN F))).Mk;have a:Hs G h (flX p e d l g F []::_):=a;exact a.to
 refine(Yk (z:=z) (l:=g) (by omega)).fold (X:=flX p e d l g F) (Z:=fun _ _=>Ck False) a ?_ ?_ ?_
 .intro done y h N W a;have a:=a.Gq;obtain⟨u,hy⟩:=Nk W;have a:=pO (R:=wP) (l:=g) (s:=bN F) u a;rw[hy] at a;refine rW (F4 a) he (nO a fun h a=>Iq a ?_);intro t J;refine nI a fun B h a=>uA rfl ?_;have a:Hs G h (gq y (bN F done.length)::flY p (sE F done.length) e t d l B []::Aw wP g (bN F) done.length::N):=by
   have a:=(a.eW (mD Pr 59 (mJ 938) 13 t d B (.ready,none)) (mD Pr 59 (mJ 58) 13 e d l (.busy,none)) (aR p 0 [I (sE F done.length)])).Mk;exact a.to
  have U:(bN F done.length).length<=500:=E _ _
  have Y:=Kp E done.length
  refine(zp (q:=y) (l:=bN F done.length) (by omega)).fold (X:=flY p (sE F done.length) e t d l B) (Z:=fun _ _=>Ck False) a ?_ ?_ ?_
  .intro k x h N A a;have a:=a.Gq;have α:k.length<=500:=by have:=A.length_le;simp at this;omega
   refine rW (F4 a) J (nO a fun h a=>ae p a rfl (aad (ap (b:=p) a fun h a=>tC a fun h a=> .inl ⟨rfl,?_⟩)))
   have D:((sE F done.length+k.length:Nat):Int)+1=((sE F done.length+(k++[x]).length:Nat):Int):=by simp;omega
   rw[D] at a
   exact((a.eW (mD Pr 59 (mJ 938) 13 t d B (.ready,none)) (mD Pr 59 (mJ 58) 13 e d l (.busy,none)) (aR p 0 [I (sE F done.length+(k++[x]).length:Nat)])).Mk).to
  .intro v h a;have a:=(a.front (flY p (sE F done.length) e t d l B (bN F done.length))).Gq;refine oJ a fun h a=>oM (tC a fun h a=> .inl ⟨rfl,?_⟩);have D:sE F done.length+(bN F done.length).length=sE F (done++[y]).length:=by rw[List.length_append];rfl
   rw[D] at a
   have e5:gq y (bN F done.length)=wP done.length (g.getD done.length 0) (bN F done.length):=by rw[hy]
   rw[e5] at a
   have a:=qM (R:=wP) (l:=g) (s:=bN F) (i:=done.length) (x:=bN F done.length) u (a.cY (wP done.length (g.getD done.length 0) (bN F done.length)) (Aw wP g (bN F) done.length))
   have e4:(fun j=>if j=done.length then bN F done.length else bN F j)=bN F:=by funext j;split<;>simp_all
   rw[e4] at a
   exact((a.eW (mD Pr 59 (mJ 58) 13 e d l (.ready,none)) (aR p 0 [I (sE F (done++[y]).length)]) (jT wP g (bN F))).Mk).to
  .intro k x v h A a;obtain⟨O,a⟩:=(a.front (Ck False)).bc;exact O.elim
 .intro v h a;have a:=(a.front (flX p e d l g F g)).Gq;rw[S] at a;exact oJ a fun h a=>oM (ae p a rfl (tY a fun h a=>uU (hk _ a.to)))
 .intro done y v h W a;obtain⟨O,a⟩:=(a.front (Ck False)).bc;exact O.elim
end
end Go.Proofs.YtmhapehobfnoiaaGreatDoor
namespace Go.Proofs.YtmhapehobfnoiaaGreatDoor
open Go Go.Ab Go.Hm Go.At Go.Mc Go.Ct Go.Nt Go.Is
section
set_option maxRecDepth 100000
variable {G:Bg} {h:AH} {L L':List HP} {Q:Value->AH->Prop} {C:bA}
abbrev yF (l:Nat):Value:= .func (.yield l) #[] #[]
abbrev y2 (z:Nat):Value:= .func (.func 201) #[] #[pt z 0 0]
abbrev f0X (p2 l0:Nat) (e:Nat->Value) (d l:Nat) (ql:List Nat) (F:gJ):HP:=sp [mD Pr 112 (mJ 54) 13 e d l (.ready,none),aR p2 0 [yF l0],jT wP ql (bN F)]
abbrev f0Y (p2 l0:Nat) (e e2:Nat->Value) (d l l2:Nat):HP:=sp [mD Pr 112 (mJ 874) 13 e2 d l2 (.ready,none),mD Pr 112 (mJ 54) 13 e d l (.busy,none),aR p2 0 [yF l0]]
theorem lr {z p l0:Nat} {ql:List Nat} {F:gJ} (D:ql.length<=1000) (hF:∀k,bN F k=[]) (a:Hs G h (aR p 0 [y2 z]::xE z ql::jT wP ql (bN F)::L)) (Y:∀E,Hs G E L->Q (.tuple ⟨[]⟩) E):Cl Pr K 112 [yF l0,pt p 0 0] h Q:=by
 refine cW (fZ (cs:=[yF l0]) a fun f h a=>ae p a rfl (nB a fun d h a=>?_));intro e U;refine nI a fun l h a=>uA rfl ?_;have a:Hs G h (xE z ql::f0X f l0 e d l ql F::mk d ()::L):=by
  have a:=(a.eW (mD Pr 112 (mJ 54) 13 e d l (.ready,none)) (aR f 0 [yF l0]) (jT wP ql (bN F))).Mk;have a:Hs G h (f0X f l0 e d l ql F::_):=a;exact a.to
 refine(Yk (z:=z) (l:=ql) D).fold (X:=fun _=>f0X f l0 e d l ql F) (Z:=fun _ _=>Ck False) a ?_ ?_ ?_
 .intro done y h N I a;have a:=a.Gq;obtain⟨t,J⟩:=Nk I;have a:=pO (R:=wP) (l:=ql) (s:=bN F) t a;rw[J] at a;refine rW (F4 a) U (nO a fun h a=>Iq a ?_);intro u W;refine nI a fun A h a=>uA rfl ?_;have a:Hs G h (gq y (bN F done.length)::f0Y f l0 e u d l A::Aw wP ql (bN F) done.length::N):=by
   have a:=(a.eW (mD Pr 112 (mJ 874) 13 u d A (.ready,none)) (mD Pr 112 (mJ 54) 13 e d l (.busy,none)) (aR f 0 [yF l0])).Mk;exact a.to
  refine(zp (q:=y) (l:=bN F done.length) (by rw[hF];exact Nat.zero_le _)).fold (X:=fun _=>f0Y f l0 e u d l A) (Z:=fun _ _=>Ck False) a ?_ ?_ ?_;intro O x h N g a;rw[hF] at g;have:=g.length_le;simp at this
  .intro v h a;have a:=(a.front (f0Y f l0 e u d l A)).Gq;refine oJ a fun h a=>oM (tC a fun h a=> .inl ⟨rfl,?_⟩);have T:gq y (bN F done.length)=wP done.length (ql.getD done.length 0) (bN F done.length):=by rw[J]
   rw[T] at a;have a:=qM (R:=wP) (l:=ql) (s:=bN F) (i:=done.length) (x:=bN F done.length) t (a.cY (wP done.length (ql.getD done.length 0) (bN F done.length)) (Aw wP ql (bN F) done.length));have S:(fun j=>if j=done.length then bN F done.length else bN F j)=bN F:=by funext j;split<;>simp_all
   rw[S] at a;exact((a.eW (mD Pr 112 (mJ 54) 13 e d l (.ready,none)) (aR f 0 [yF l0]) (jT wP ql (bN F))).Mk).to
  intro O x v h g a;obtain⟨B,a⟩:=(a.front (Ck False)).bc;exact B.elim
 intro v h a;have a:=(a.front (f0X f l0 e d l ql F)).Gq;exact oJ a fun h a=>oM (tY a fun h a=>uU (Y _ a.to))
 .intro done y v h I a;obtain⟨B,a⟩:=(a.front (Ck False)).bc;exact B.elim
theorem Xa {f:Nat} {F:gJ} (hC:C.Ok) (i:∀c w,(F c w).length<=500) (a:Hs G h L) [m:Has (nJ C f) L F L']
  (j:∀z d p g,d.length=4*C.aD.toNat->Hs G g (aR p 0 [y2 z]::xE z d::jT wP d (bN F)::nJ C f F::L')->Q (.func (.func 112) #[] #[pt p 0 0]) g):Cl Pr K 57 [pt f 0 0] h Q:=
 cW (Tf (C:=C) (F:=F) hC i (m.of a) fun z d h e a=>fA a fun p h a=>ap (b:=p) a fun h a=>j z d p h e a)
theorem Zk {z p:Nat} {ql:List Nat} {F:gJ} (f:ql.length<=1000) (hF:∀k,bN F k=[]) (a:Hs G h (aR p 0 [y2 z]::xE z ql::jT wP ql (bN F)::L)) (i:∀g,Hs G g L->Q (.slice none 0 0) g):Cl Pr K 56 [.func (.func 112) #[] #[pt p 0 0]] h Q:=by
 refine cW (cW (fZ (cs:=[.slice none 0 0]) a fun q h a=>nB a fun d h a=>?_));intro e j;refine nI a fun l h a=>uA rfl (lr (l0:=l) (z:=z) (p:=p) (ql:=ql) (F:=F) f hF (a.eW (aR p 0 [y2 z]) (xE z ql) (jT wP ql (bN F))) fun h a=>?_);exact oJ a fun h a=>oM (ae q a rfl (tY a fun h a=>uU (i _ a.to)))
end
end Go.Proofs.YtmhapehobfnoiaaGreatDoor
end
namespace Go.Proofs.YtmhapehobfnoiaaGreatDoor.C
open Go Go.Ab Go.Hm Go.Ct
section
theorem ug {h:AH} {W bytes:Nat} {e:TypeId} {a:Option Addr} {c:Nat} {k:Value×AH->Prop} (b:k (.slice none 0 0,h)):bB (iB W bytes e h (.slice none 0 0) (.slice a 0 c)) k:=
 ⟨_,by cases a<;>simp[iB,tD,eR],b⟩
theorem yy {k:Value->Prop} (a:k (.int .u64 0)):bB (lZ .u64 (I (0:Nat))) k:=⟨_,rfl,a⟩
set_option maxRecDepth 100000
attribute [local irreducible] bB Br ld1 A5 I7 Cd kT yC kI Xx qS zP Bo pT nL mH yV A1 Xb T1 P6 P5 Tb Uj Mx Tc W6 kQ tQ tE iB copyV kV V5 Vo W0 Ed iZ Rp Vn Uz lZ rG Ay yZ Cl C9 Ui qR qH iO eI bS bG
variable {G:Bg} {h:AH} {L L' M:List HP} {Q:Value->AH->Prop}
theorem Ta {b o cap n i:Nat} {S:Nat->List Th} {k:Value->Prop} (e:i<n) (d:Hs G h L) [m:cT (hJ n fun i=>dE b (o+i*1) (S i)) L L'] (f:∀a c,k (.slice a (S i).length c)):bB (kQ 1 (.slice (some ⟨b,o,none⟩) n cap) (I i)) fun p=>bB (ld1 h p) k:=by
 have d:=(d.perm m.perm).pW i e;obtain⟨a,c,d⟩:=Of d;exact fN e (aS d rfl (f a c))
theorem gh (a:Q (.slice none 0 0) h):Cl Pr K 156 [.slice none 0 0,I 0] h Q:=
 Kv (F:=Pa 256 0) rfl (by unfold Pa;rw[aCx rfl]) a
theorem Sf {b o cap n:Nat} {S:Nat->List Th} (p:n<=1000) (g:∀i,i<n->S i=[]) (j:Hs G h L) [m:cT (hJ n fun i=>dE b (o+i*1) (S i)) L L'] (k:Q (.slice none 0 0) h):
  Cl Pr K 103 [.slice (some ⟨b,o,none⟩) n cap] h Q:=by
 have two:∀(f i:Nat),i+f=n->Dd 103 6 [] Q [.slice none 0 0,.slice (some ⟨b,o,none⟩) n cap,I n,I i] h:=by
  intro f;induction f with
  |zero=>intro i d;exact bW (aT (aab k))
  |succ f e=>
   intro i d;refine bW (aT (aae (bW (Ta (S:=S) (by omega) j fun a c=>?_))));rw[g i (by omega)];exact ug (aad (e (i+1) (by omega)))
 have one:∀(f i:Nat),i+f=n->Dd 103 1 [] Q [.slice (some ⟨b,o,none⟩) n cap,I 0,.slice (some ⟨b,o,none⟩) n cap,I n,I i] h:=by
  intro f;induction f with
  |zero=>intro i d;exact bW (aT (aab (bW (gh (bU (two n 0 (by omega)))))))
  |succ f e=>
   intro i d;refine bW (aT (aae (bW (Ta (S:=S) (by omega) j fun a c=>?_))));rw[g i (by omega)];exact bU (bZ (by decide) (aT (aU (by decide) (bW (aad (e (i+1) (by omega)))))))
 exact cW (bU (one n 0 (by omega)))
theorem fj (d:Q (I 0) h):Cl Pr K 200 [.int .u64 0] h Q:=by
 refine cW (B3 (v:=Value.bool false) (by kernel_rfl) (dO (bW ?_)));refine B3 (v:=Value.bool false) (by kernel_rfl) (dO (bW ?_));refine B3 (v:=Value.bool false) (by kernel_rfl) (dO ?_);refine B3 (v:=Value.int .u8 0) (by kernel_rfl) (B3 (v:=Value.int .u8 0) (by kernel_rfl) (B3 (v:=I 0) (by kernel_rfl) ?_));exact bZ (a:=0) (b:=0) (by decide) d
theorem Yl (a:Q (.tuple ⟨[]⟩) h):Cl Pr K 104 [.slice none 0 0,.func (.func 105) #[] #[]] h Q:=by
 refine cW (bU (yy (cW (fj ?_))));refine cW (bW (ja (by decide) (As (cR (by decide) ?_))));exact cW (bZ (by decide) (bW (aT (aU (by decide) a))))
theorem j4 {t ways n:Nat} {S:Nat->List Th} (j:n<=1000) (f:∀i,i<n->S i=[]) (a:Hs G h L) [m:Has (Hg G t ways n) L S L']
  (g:∀p e,Hs G e (aR p 0 [.slice none 0 0]::Hg G t ways n S::L')->Q (.func (.func 107) #[] #[pt p 0 0]) e):Cl Pr K 53 [pt t 0 0] h Q:=by
 obtain⟨b,o,d,a⟩:=Yy (show Hs G h (Hg G t ways n S::L') from m.of a)
 refine cW (fA a fun p h a=>Ls (iM (bW (aN (aC (ae t a rfl (Sf (S:=S) j f a ?_)))))))
 refine ap (b:=p) (o:=0) a fun h a=>ae p a rfl (Yl (g _ _ ?_))
 have a:=a.eW (aR t 0 (Bk ways n b o d)) (hole G 1 253 (some ⟨b,o,none⟩) d n b o) (hJ n fun i=>dE b (o+i*1) (S i))
 exact(Ie a).to
theorem j9 {p:Nat} {y:Value} (d:Hs G h L) [m:cT (aR p 0 [.slice none 0 0]) L L'] (a:Q (.tuple ⟨[]⟩) h):Cl Pr K 107 [y,pt p 0 0] h Q:=
 cW (ae p (d.perm m.perm) rfl (bU (bW (aT (aU (by decide) a)))))
end
end Go.Proofs.YtmhapehobfnoiaaGreatDoor.C
section
open Go Go.Ab
attribute [local irreducible] bB Br ld1 A5 I7 Cd kT yC kI Xx qS zP Bo pT nL mH yV A1 Xb T1 P6 P5 Tb Uj Mx Tc W6 kQ tQ tE iB copyV kV V5 Vo W0 Ed iZ Rp Vn Uz lZ rG Ay yZ Cl C9 Ui qR qH iO eI bS bG
namespace Go.Proofs.YtmhapehobfnoiaaGreatDoor
open Go Go.Ab Go.Hm Go.At Go.Mc Go.Ct Go.Nt Go.Is
section
set_option maxRecDepth 100000
variable {G:Bg} {h:AH} {L L':List HP} {Q:Value->AH->Prop} {Cf:bA} {m:Nat} {M:bY}
def Rh (a:List Nat):HP:=sp (a.map fun d=>mk d ())
theorem Y3:∀{b:List Nat} {h:AH} {k:AH->Prop},Hs G h (Rh b::L)->(∀f,Hs G f L->k f)->bB (bG b h) k
 |[],h,k,a,e=>uU (e h a.unpack)
 |d::b,h,k,a,e=>by
  have a:Hs G h (mk d ()::(b.map (fun d=>mk d ())++L)):=a.unpack;exact tY a fun h a=>Y3 (Hs.pack (A:=b.map fun d=>mk d ()) a) e
theorem oe {d1 d2:Nat} {a:List Nat} (b:Hs G h (mk d2 ()::mk d1 ()::Rh a::L)):Hs G h (Rh (d2::d1::a)::L):=by
 have b:Hs G h (Rh a::mk d2 ()::mk d1 ()::L):=b.to;have b:=b.unpack;refine Hs.pack (A:=mk d2 ()::mk d1 ()::a.map fun d=>mk d ()) ?_;refine b.perm ?_;have e:= @List.perm_middle _ (mk d2 ()) (a.map fun d=>mk d ()) (mk d1 ()::L);have f:= @List.perm_middle _ (mk d1 ()) (a.map fun d=>mk d ()) L;exact e.trans (f.cons _)
abbrev X1:List Value:=[.slice none 0 0,.slice none 0 0,.slice none 0 0,.slice none 0 0,.slice none 0 0]
theorem Zx {α:Type} {f:Nat->α} {i:Nat}:aI f i (f i)=f:=by
 funext j;unfold aI;split;rename_i e;rw[e];rfl
theorem W1 {x:MN} {p1 A:Nat} {t36 t37 t60 t61 t115:Value} (hC:Cf.Ok) (z:∀i k,(M.dB i).S k=[]) (d:∀i,(M.dN i).known=[])
  (W:∀g J,Hs G J (Rh g::fF G Cf m x M::aR p1 0 X1::aR A 0 X1::L)->Dd 16 4 g Q [pt m 0 0,pt p1 0 0,pt A 0 0,t115] J):
  ∀(f i:Nat) (g:List Nat) (h:AH),i+f=Cf.aD.toNat->Hs G h (Rh g::fF G Cf m x M::aR p1 0 X1::aR A 0 X1::L)->Dd 16 2 g Q [pt m 0 0,pt p1 0 0,pt A 0 0,I Cf.aD.toNat,I i,t36,t37,t60,t61,t115] h:=by
 have hc:=hC.1
 intro f
 induction f with
 |zero=>
  intro i g h U a
  exact bW (aT (aab (W g h a)))
 |succ f Y=>
  intro i g h U a
  obtain⟨B,a⟩:=fQ (a.front (fF G Cf m x M))
  have j:i<x.lk.length:=by have:=B.2.1;omega
  have u:i<x.lq.length:=by have:=B.2.2;omega
  refine bW (aT (aae (bW (fA a fun E h a=>ap (b:=E) a fun h a=>iN a fun rr h a=>?_))))
  refine aN (aC (ae m a rfl (ae E a rfl (Yr a j ?_))))
  have a:=pO (R:=rE G Cf) (l:=x.lk) (s:=M.dB) j (a.front (jT (rE G Cf) x.lk M.dB))
  obtain⟨t,a⟩:=C.D6 a
  refine aN (aC (aS (b:=x.lk.getD i 0) (o:=0) a rfl ?_))
  refine C.j4 (t:=t) (ways:=Cf.ways.toNat) (n:=Cf.aF.toNat) (S:=(M.dB i).S) (by have:=hC;unfold bA.Ok at this;omega) (fun k _=>z i k) a fun pa h a=>?_
  refine nB a fun d1 h a=>?_
  intro e he
  refine nI a fun l1 h a=>uA rfl (C.j9 (p:=pa) a ?_)
  refine oJ a fun h a=>oM ?_
  have a:=C.rK (x.lk.getD i 0) t Cf i (M.dB i) a rfl rfl
  have a:=qg (G:=G) (Cf:=Cf) (l:=x.lk) (s:=M.dB) (i:=i) (t:=M.dB i) j a
  rw[Zx] at a
  refine iN a fun r2 h a=>aN (aC (ae m a rfl (ae E a rfl (Yx a u ?_))))
  have a:=pO (R:=tS Cf) (l:=x.lq) (s:=M.dN) u (a.front (jT (tS Cf) x.lq M.dN))
  refine Vd (C:=Cf) (p:=x.lq.getD i 0) (s:=M.dN i) (by rw[d];exact Nat.zero_le _) a fun q h a=>nB a fun d2 h a=>?_
  intro F O
  refine nI a fun K h a=>uA rfl ?_
  have a:=a.cY (Ma q (M.dN i).known) (mD Pr 16 (mJ 62670) 123 F d2 K (.ready,none))
  refine(qb (q:=q) (l:=(M.dN i).known) (by rw[d];exact Nat.zero_le _)).fold (X:=fun _=>mD Pr 16 (mJ 62670) 123 F d2 K (.ready,none)) (Z:=fun _ _=>Ck False) a ?_ ?_ ?_
  .intro done y h N D a;rw[d] at D;have:=D.length_le;simp at this
  .intro v h a;refine oJ a fun h a=>oM (aad ?_);have a:=T5 (G:=G) (Cf:=Cf) (l:=x.lq) (s:=M.dN) (i:=i) (t:=M.dN i) u a;rw[Zx] at a;have a:=gG (G:=G) (Cf:=Cf) (m:=m) (x:=x) M B a;exact Y (i+1) (d2::d1::g) h (by omega) (oe a.to)
  .intro done y v h D a;obtain⟨T,a⟩:=(a.front (Ck False)).bc;exact T.elim
end
section
set_option maxRecDepth 100000
variable {G:Bg} {h:AH} {L L':List HP} {Q:Value->AH->Prop} {Cf:bA} {m:Nat} {M:bY}
abbrev x0 (a:Option Addr) (c n:Nat):List Value:=[.slice none 0 0,.slice none 0 0,.slice a n c,.slice none 0 0,.slice none 0 0]
theorem Wl {x:MN} {p1 s:Nat} {u:List Nat} {t115:Value} (hC:Cf.Ok) (Y:M.bC.bX.length=Cf.aG.toNat)
  (T:∀a c A,Hs G A (ls dT.enc 2 52 a c M.bC.bX::Rh u::fF G Cf m x M::aR p1 0 X1::aR s 0 (x0 a c M.bC.bX.length)::L)->Dd 16 9 u Q [pt m 0 0,pt p1 0 0,pt s 0 0,t115] A):
  ∀(f i:Nat) (a:Option Addr) (c:Nat) (h:AH),i+f=Cf.aG.toNat->Hs G h (ls dT.enc 2 52 a c (M.bC.bX.take i)::Rh u::fF G Cf m x M::aR p1 0 X1::aR s 0 (x0 a c i)::L)->Dd 16 7 u Q [pt m 0 0,pt p1 0 0,pt s 0 0,I Cf.aG,I i,t115] h:=by
 have Z:=hC.2.1
 intro f
 induction f with
 |zero=>
  intro i a c h S d
  obtain rfl:i=M.bC.bX.length:=by omega
  rw[List.take_length] at d
  exact bW (aT (aab (T a c h d)))
 |succ f X=>
  intro i a c h S d
  have D:i<M.bC.bX.length:=by omega
  obtain⟨y,O,_⟩:=jI (l:=M.bC.bX) (i:=i) D
  obtain⟨U,d⟩:=fQ (d.front (fF G Cf m x M))
  refine bW (aT (aae (bW (aN (aC (ae m d rfl ?_))))))
  obtain⟨t,b,d⟩:=Ag (d.front (uO Cf x.mb M.bC))
  refine aN (aC (aS (b:=x.mb) (o:=0) d rfl (U9 (t:=t) (es:=M.bC.bX) (g:=i) d fun h d=>?_)))
  rw[aac,Int.toNat_natCast,show M.bC.bX.getD i gA=y by rw[List.getD_eq_getElem?_getD,O];rfl]
  have d:=rI (C:=Cf) (p:=x.mb) (m:=M.bC) (t:=t) (b:=b) (d.eW (aR x.mb 0 [pt t 0 0,I Cf.aD,mP b]) (wQ t M.bC.bX) (uS b (tI M.bC.runs)))
  have d:=gG (G:=G) (Cf:=Cf) (m:=m) (x:=x) M U d
  have e:(M.bC.bX.take i).length=i:=by rw[List.length_take];omega
  refine bV rfl (bV rfl (fA d fun p h d=>ap (b:=p) d fun h d=>aC (ae s d rfl (an p d (l:=y.enc) rfl rfl (cQ (c:=y.enc) rfl (jG (W:=2) (n:=1) (c:=1) d rfl rfl rfl fun z h d=>?_))))))
  have d:=xO (enc:=dT.enc) (x:=y) d
  have:=tB (bytes:=16) (e:=52) (enc:=dT.enc) (l:=M.bC.bX.take i) (l2:=[y]) (a:=a) (c:=c) (a2:=some z) (c2:=1) (h:=h) (k:=fun r=>bB (qS 2 (pt s 0 0)) fun q=>bB (I7 r.2 1 q r.1) fun B=>bB (A1 .add (I i) (I 1)) fun v=>Dd 16 7 u Q [pt m 0 0,pt p1 0 0,pt s 0 0,I Cf.aG,v,t115] B) (d.cY (ls dT.enc 2 52 a c (M.bC.bX.take i)) (ls dT.enc 2 52 (some z) 1 [y])) (by rw[e];simp;omega) fun F J A E=>?_
  .rw[e] at this;exact this
  .rw[List.length_append,e];refine aC (ax (b:=s) (o:=0) E fun K j=>aad ?_);have j:Hs G K (aR s 0 (x0 F J (i+1))::_):=j;have R:M.bC.bX.take i++[y]=M.bC.bX.take (i+1):=by rw[List.take_add_one,O];rfl
   rw[R] at j
   exact X (i+1) F J K (by omega) j.to
end
section
def xT (l:List (Ln×Nat)):List Ln:=l.map Prod.fst
theorem Yp {l:List (Ln×Nat)} {y:Ln×Nat}:xT l++[y.1]=xT (l++[y]):=by simp[xT]
theorem Yj {l:List (Ln×Nat)}:(xT l).length=l.length:=by simp[xT]
theorem ag {l:List Ln}:xT l.zipIdx=l:=by simp[xT]
set_option maxRecDepth 100000
variable {G:Bg} {h:AH} {L L':List HP} {Q:Value->AH->Prop} {Cf:bA} {m:Nat} {M:bY}
theorem dk {mb:Nat} {mem:Nat->Ln} (hC:Cf.Ok) (g:Ob G 0 jK) (b:Hs G h L) [i:Has (fY G Cf.lines mb Cf) L mem L']
  (f:∀p d,Hs G d (j1 p ((List.range Cf.lines).map mem)::fY G Cf.lines mb Cf mem::L')->Q (.func (.func 161) #[] #[pt p 0 0]) d):Cl Pr K 58 [pt mb 0 0] h Q:=by
 refine cW (R4 hC g b fun a c h b=>cW (fZ (cs:=[.slice a Cf.lines c]) b fun p h b=>f p h ?_))
 have e:((List.range Cf.lines).map mem).length=Cf.lines:=by simp
 have b:=Hs.vK (A:=fun x:Option Addr×Nat=>sp [aR p 0 [.slice x.1 ((List.range Cf.lines).map mem).length x.2],ls gU 2 68 x.1 x.2 ((List.range Cf.lines).map mem)]) (a,c) (Hs.Ve (by rw[e];exact b))
 exact b
abbrev shX (b:Nat) (e:Nat->Value) (d l:Nat) (a3:Option Addr) (c3 a:Nat) (done:List Ln):HP:=Bb fun x:Option Addr×Nat=>sp [mD Pr 16 (mJ 1018) 123 e d l (.ready,none),aR b 0 (Ef none none a3 none x.1 0 0 c3 0 x.2 a done.length),ls gU 2 68 x.1 x.2 done]
theorem au {x:MN} {p1 g c3:Nat} {a3:Option Addr} {D:List Nat} {t115:Value} (hC:Cf.Ok) (s:Ob G 0 jK) (hF:∀c w,M.jS c w=[])
  (f:Hs G h (ls dT.enc 2 52 a3 c3 M.bC.bX::Rh D::fF G Cf m x M::aR p1 0 X1::aR g 0 (x0 a3 c3 M.bC.bX.length)::L))
  (hk:∀a5 c5 K,Hs G K (ls dT.enc 2 52 a3 c3 M.bC.bX::ls gU 2 68 a5 c5 ((List.range Cf.lines).map fun i=>(M.home i).2)::fF G Cf m x M::L)->Q (.agg ⟨Ef none none a3 none a5 0 0 c3 0 c5 M.bC.bX.length Cf.lines⟩) K):
  Dd 16 9 D Q [pt m 0 0,pt p1 0 0,pt g 0 0,t115] h:=by
 have hc:=hC.1
 have β:=bA.eO hC
 have α:=hC.2.1
 obtain⟨hl,f⟩:=fQ (f.front (fF G Cf m x M))
 refine bW (aN (aC (ae m f rfl ?_)))
 refine Xa (C:=Cf) (F:=M.jS) hC (fun c w=>by rw[hF];exact Nat.zero_le _) f fun z I p h γ f=>?_
 refine Zk (z:=z) (p:=p) (ql:=I) (F:=M.jS) (by omega) (fun k=>hF _ _) (f.eW (aR p 0 [y2 z]) (xE z I) (jT wP I (bN M.jS))) fun h f=>?_
 refine aC (ax (b:=g) (o:=0) f fun h f=>?_)
 have f:Hs G h (aR g 0 (x0 a3 c3 M.bC.bX.length)::_):=f
 refine aN (aC (ae m f rfl ?_))
 obtain⟨E,b,o,j,f⟩:=H.yX (f.front (H.sF G x.hb Cf M.home))
 refine aN (aC (aS (b:=x.hb) (o:=0) f rfl ?_))
 refine dk (mb:=E) (mem:=fun i=>(M.home i).2) hC s f fun R h f=>?_
 have f:=f.cY (hole G 25 222 (some ⟨b,o,none⟩) j Cf.lines b o) (hJ Cf.lines fun i=>H.oA b (o+i*25) (M.home i).1)
 have f:=f.cY (aR x.hb 0 (H.Bh E Cf b o j)) (fY G Cf.lines E Cf fun i=>(M.home i).2)
 have f:=H.vN (H:=M.home) f
 have f:=gG (G:=G) (Cf:=Cf) (m:=m) (x:=x) M hl f
 refine nB f fun d h f=>?_
 intro e U
 refine nI f fun l h f=>uA rfl ?_
 have f:=mR (enc:=gU) (e:=68) f
 have f:Hs G h (j1 R ((List.range Cf.lines).map fun i=>(M.home i).2)::shX g e d l a3 c3 M.bC.bX.length []::mk d ()::ls dT.enc 2 52 a3 c3 M.bC.bX::Rh D::fF G Cf m x M::aR p1 0 X1::L):=by
  have f:=(f.eW (mD Pr 16 (mJ 1018) 123 e d l (.ready,none)) (aR g 0 (x0 a3 c3 M.bC.bX.length)) (ls gU 2 68 none 0 [])).Mk;have f:=Hs.vK (A:=fun x:Option Addr×Nat=>sp [mD Pr 16 (mJ 1018) 123 e d l (.ready,none),aR g 0 (Ef none none a3 none x.1 0 0 c3 0 x.2 M.bC.bX.length ([]:List Ln).length),ls gU 2 68 x.1 x.2 []]) (none,0) f;exact f.to
 have t:((List.range Cf.lines).map fun i=>(M.home i).2).length=Cf.lines:=by simp
 refine(aB9 (p:=R) (l:=(List.range Cf.lines).map fun i=>(M.home i).2) (by rw[t];omega)).fold (X:=fun done:List (Ln×Nat)=>shX g e d l a3 c3 M.bC.bX.length (xT done)) (Z:=fun _ _=>Ck False) f ?_ ?_ ?_
 .intro done y h T O f;have S:done.length<Cf.lines:=by have:=O.length_le;simp at this;omega
  obtain⟨⟨a,c⟩,f⟩:=f.yS
  have f:=f.Gq
  refine rW (F4 f) U (fA f fun q h f=>ap (b:=q) f fun h f=>nO f fun h f=>aC (ae g f rfl (an q f (l:=gU y.1) rfl rfl (cQ (c:=gU y.1) rfl (jG (W:=2) (n:=1) (c:=1) f rfl rfl rfl fun J h f=>?_)))))
  have f:=xO (enc:=gU) (x:=y.1) f
  refine tB (bytes:=16) (e:=68) (enc:=gU) (l:=xT done) (l2:=[y.1]) (a:=a) (c:=c) (a2:=some J) (c2:=1) (f.cY (ls gU 2 68 a c (xT done)) (ls gU 2 68 (some J) 1 [y.1])) (by rw[Yj];simp;omega) fun u B h f=>?_
  refine aC (ax (b:=g) (o:=0) f fun h f=>?_)
  have f:Hs G h (aR g 0 (Ef none none a3 none u 0 0 c3 0 B M.bC.bX.length (xT done++[y.1]).length)::_):=f
  refine tC f fun h f=> .inl ⟨rfl,?_⟩
  have f:=(f.eW (mD Pr 16 (mJ 1018) 123 e d l (.ready,none)) (aR g 0 (Ef none none a3 none u 0 0 c3 0 B M.bC.bX.length (xT done++[y.1]).length)) (ls gU 2 68 u B (xT done++[y.1]))).Mk
  rw[Yp] at f
  exact(Hs.vK (A:=fun x:Option Addr×Nat=>sp [mD Pr 16 (mJ 1018) 123 e d l (.ready,none),aR g 0 (Ef none none a3 none x.1 0 0 c3 0 x.2 M.bC.bX.length (xT (done++[y])).length),ls gU 2 68 x.1 x.2 (xT (done++[y]))]) (u,B) f).to
 .intro v h f;rw[ag] at f;obtain⟨⟨a,c⟩,f⟩:=(f.front (shX g e d l a3 c3 M.bC.bX.length ((List.range Cf.lines).map fun i=>(M.home i).2))).yS;have f:=f.Gq;refine oJ f fun h f=>oM (an g f (l:=Ef none none a3 none a 0 0 c3 0 c M.bC.bX.length ((List.range Cf.lines).map fun i=>(M.home i).2).length) rfl rfl (ap (b:=p1) f fun h f=>tY f fun h f=>Y3 (f.front (Rh D)) fun h f=>an p1 f (l:=Ef none none a3 none a 0 0 c3 0 c M.bC.bX.length ((List.range Cf.lines).map fun i=>(M.home i).2).length) rfl rfl ?_));have:=hk a c h f.to;rw[<-t] at this;exact this
 .intro done y v h O f;obtain⟨Y,f⟩:=(f.front (Ck False)).bc;exact Y.elim
end
section
set_option maxRecDepth 100000
variable {G:Bg} {h:AH} {L L':List HP} {Q:Value->AH->Prop} {Cf:bA} {m:Nat} {M:bY}
theorem a8 (hC:Cf.Ok) (j:Ob G 0 jK) (f:∀i k,(M.dB i).S k=[]) (g:∀i,(M.dN i).known=[]) (hF:∀c w,M.jS c w=[]) (u:M.bC.bX.length=Cf.aG.toNat) (d:Hs G h L) [z:Has (eJ G Cf m) L M L']
  (y:∀a3 c3 a5 c5 q,Hs G q (ls dT.enc 2 52 a3 c3 M.bC.bX::ls gU 2 68 a5 c5 ((List.range Cf.lines).map fun i=>(M.home i).2)::eJ G Cf m M::L')->Q (.agg ⟨Ef none none a3 none a5 0 0 c3 0 c5 M.bC.bX.length Cf.lines⟩) q):Cl Pr K 16 [pt m 0 0] h Q:=by
 have B:=hC.2.1
 obtain⟨x,d⟩:=Hs.yS (show Hs G h (eJ G Cf m M::L') from z.of d)
 have d:Hs G h (fF G Cf m x M::L'):=d
 refine cW (fA d fun p1 h d=>fA d fun s h d=>fM (dO (bW ?_)))
 obtain⟨p,d⟩:=fQ (d.front (fF G Cf m x M))
 refine aN (aC (ae m d rfl (bU ?_)))
 rw[p.1]
 have d:=gG (G:=G) (Cf:=Cf) (m:=m) (x:=x) M p d
 have d:Hs G h (Rh []::fF G Cf m x M::aR p1 0 X1::aR s 0 X1::L'):=Hs.pack (A:=[]) d.to
 refine W1 (x:=x) hC f g (fun t h d=>?_) Cf.aD.toNat 0 [] h (by omega) d
 obtain⟨p,d⟩:=fQ (d.front (fF G Cf m x M))
 refine bW (aN (aC (aC (ae m d (v:=I Cf.aG) rfl ?_))))
 have d:=gG (G:=G) (Cf:=Cf) (m:=m) (x:=x) M p d
 have d:=mR (enc:=dT.enc) (e:=52) d
 have d:Hs G h (ls dT.enc 2 52 none 0 []::Rh t::fF G Cf m x M::aR p1 0 X1::aR s 0 X1::L'):=d.to
 refine Wl (x:=x) (L:=L') hC u (fun a c h d=>?_) Cf.aG.toNat 0 none 0 h (by omega) (by rw[List.take_zero];exact d)
 refine au (x:=x) hC j hF d fun a5 c5 h d=>y a c a5 c5 h ?_
 have d:=d.front (fF G Cf m x M)
 have d:Hs G h (eJ G Cf m M::_):=Hs.vK (A:=fun x:MN=>sp (Fy G Cf m M x)) x d
 exact d.to
end
end Go.Proofs.YtmhapehobfnoiaaGreatDoor
namespace Go.Proofs.YtmhapehobfnoiaaGreatDoor.A
open Go Go.Ab Go.Hm Go.At Go.Is
section
set_option maxRecDepth 100000
variable {G:Bg} {h:AH} {L L':List HP} {Q:Value->AH->Prop}
theorem lx {C:bA} {ps:List (List Ins)} {ws os vs:List Int} (h:wM C ps ws os vs=0):(Qf C ps ws os vs).Ok:=by
 unfold wM at h;split at h;cases h;rename_i hC;split at h;cases h;rename_i k;split at h;rename_i d;exact absurd h d;rename_i d;refine⟨show C.Ok by simpa using hC,fun i e=>?_,?_⟩;have b:i<ps.length:=by have:(i:Int)<C.aD:=e;omega
 have g:ps.getD i []∈ps:=by rw[List.getD_eq_getElem?_getD,List.getElem?_eq_getElem b];exact List.getElem_mem _
 have a:=uF (by simpa using d) _ g;have f:=A9 a;refine⟨show(0:Int)<=0 by decide,show(0:Int)<=32 by decide,rfl,f,fun x j=>?_⟩;unfold gF at a;rw[aaa] at a;exact J4 _ _ a x j;show(os.length:Int)=C.aG;omega
theorem jx {m:AM} (k:m.Ok) {pm i:Nat} (y:(i:Int)<m.cfg.aD) (d:Hs G h L) [v:Has (O3 G pm) L m L']
  (u:∀g,Hs G g (O3 G pm m::L')->Q (.tuple ⟨[.agg ⟨(m.aB i).core⟩,I 0]⟩) g):Cl Pr K 14 [pt pm 0 0,I i] h Q:=by
 have t:m.cfg.aD<=4/\1<=m.cfg.aD:=⟨k.cfg.1.2,k.cfg.1.1⟩
 have e:i<m.cfg.aD.toNat:=by omega
 obtain⟨b,o,f,a,c,p,d⟩:=Zq (v.of d)
 refine cW (fA d fun p1 h d=>fM (dO (bW ?_)))
 refine aN (aC (ae pm d rfl (bU (ja (by omega) (cQ (c:=[I i]) rfl (jG d rfl rfl rfl fun x h d=>Qq d fun h d=>gM (uK (aae ?_))))))))
 refine aN (aC (ae pm d rfl ?_))
 have d:=(d.front (hJ m.cfg.aD.toNat fun i=>mB b (o+i*8) (m.aB i))).pW i e
 obtain⟨q,s,d⟩:=Vb d
 refine fN e (aC (cA (b:=b) (o:=o+i*8) d (by decide) (l:=(m.aB i).core) rfl rfl (ap (b:=p1) (o:=0) d fun h d=>an p1 d (l:=(m.aB i).core) rfl rfl (u _ ?_))))
 have d:=Ej (d.cY (aR b (o+i*8) ((m.aB i).core++[.slice q (m.aB i).prog.length s])) (fT 4 76 q s ((m.aB i).prog.length,sM (m.aB i).prog)))
 have d:=d.Bz (n:=m.cfg.aD.toNat) (i:=i) (fun j=>mB b (o+j*8) (m.aB j)) (fun j=>mB b (o+j*8) (m.aB j)) e (fun _ _ _=>rfl)
 exact I8 (b:=b) (o:=o) (cap:=f) (a:=a) (c:=c) (mb:=p) d.to
end
end Go.Proofs.YtmhapehobfnoiaaGreatDoor.A
namespace Go.Proofs.YtmhapehobfnoiaaGreatDoor
open Go Go.Ab Go.Hm Go.At Go.Mc Go.Ct Go.Nt
section
theorem H9 {F:gJ}:∀n,((List.range n).flatMap fun c=>(List.range 4).flatMap fun w=>F c w).length=sE F (4*n)
 |0=>rfl
 |n+1=>by
  rw[List.range_succ (n:=n),List.flatMap_append,List.length_append,H9 n];have e:sE F (4*(n+1))=sE F (4*n)+(F n 0).length+(F n 1).length+(F n 2).length+(F n 3).length:=by
   show sE F (4*n)+(F ((4*n)/4) ((4*n) % 4)).length+(F ((4*n+1)/4) ((4*n+1) % 4)).length+(F ((4*n+2)/4) ((4*n+2) % 4)).length+(F ((4*n+3)/4) ((4*n+3) % 4)).length=_;rw[show(4*n)/4=n by omega,show(4*n) % 4=0 by omega,show(4*n+1)/4=n by omega,show(4*n+1) % 4=1 by omega,show(4*n+2)/4=n by omega,show(4*n+2) % 4=2 by omega,show(4*n+3)/4=n by omega,show(4*n+3) % 4=3 by omega]
  have a:(([n]:List Nat).flatMap fun c=>(List.range 4).flatMap fun w=>F c w).length=(F n 0).length+(F n 1).length+(F n 2).length+(F n 3).length:=by
   simp[List.range_succ];omega
  rw[e,a];omega
theorem Ye {n i:Nat} {p:Nat->Bool} (a:i<n) (h:p i=false):(List.range n).all p=false:=by
 rw[List.all_eq_false];exact⟨i,List.mem_range.2 a,by rw[h];decide⟩
theorem S6 {n:Nat} {p:Nat->Bool} (h:∀i,i<n->p i=true):(List.range n).all p=true:=List.all_eq_true.2 fun i a=>h i (List.mem_range.1 a)
set_option maxRecDepth 100000
variable {G:Bg} {h:AH} {L L':List HP} {Q:Value->AH->Prop} {Cf:bA} {m N:Nat} {M:bY}
theorem jc (hC:Cf.Ok) (hG:Gb G) (hL:xw Cf M.jS) (_:Za Cf M.home (2^30)) (d:Hs G h L) [mm:Has (eJ G Cf m) L M L'] (q:∀X,Hs G X (eJ G Cf m M::L')->Q (.bool (M.over Cf)) X):Cl Pr K 17 [pt m 0 0] h Q:=by
 have hc:=hC.1;have β:=bA.eO hC;have v:=hL.aAs hC;have D:=H9 (F:=M.jS) Cf.aD.toNat;have Y:=Kp v (4*Cf.aD.toNat);obtain⟨x,k,d⟩:=qY (mm.of d);refine cW (fM (dO (aN (aC (ae m d rfl (V3 (C:=Cf) (F:=M.jS) hC v d fun h d=>?_))))));have d:=iE (m:=m) (x:=x) M k d;unfold bY.over bY.notes at q;refine mY (eE (fun h1=>?_) (fun h1=>bW ?_));rw[decide_eq_false (fun e=>by rw[e] at D;simp at D;omega),Bool.false_and,Bool.false_and] at q;exact q _ d;rw[decide_eq_true (List.eq_nil_of_length_eq_zero (by omega)),Bool.true_and] at q;have lines:∀(f l:Nat) (h:AH),(List.range Cf.aD.toNat).all (fun i=>(M.aB i).over&& !(M.dB i).xF&& !(M.dN i).gS)=true->l+f=Cf.lines->(∀j,j<l->(M.home j).1.waits=[])->Hs G h (eJ G Cf m M::L')->Dd 17 6 [] Q [(pt m 0 0),(I Cf.lines),(I l)] h:=by
  intro f;induction f with
  |zero=>
   intro l h E U y d;rw[E,Bool.true_and,S6 (fun j u=>decide_eq_true (y j (by omega)))] at q;exact bW (aT (aab (q _ d)))
  |succ f W=>
   intro l h E U y d;obtain⟨x,k,d⟩:=qY d;refine bW (aT (aae (bW (aN (aC (ae m d rfl (H.Zj (C:=Cf) (H:=M.home) (x:=l) d fun d=>?_)))))));have d:=iE (m:=m) (x:=x) M k d;have e:zB Cf M.home l=(M.home l).1.waits.length:=by unfold zB;rw[aCx (by unfold bA.has;omega),Int.toNat_natCast]
   rw[e];refine mY (eE (fun O=>?_) (fun O=>bW (aad (W (l+1) h E (by omega) (fun j u=>?_) d))));rw[E,Bool.true_and,Ye (i:=l) (by omega) (decide_eq_false (fun e=>by rw[e] at O;simp at O))] at q;exact q _ d;by_cases e:j=l;subst e;exact List.eq_nil_of_length_eq_zero (by omega);exact y j (by omega)
 have aD:∀(f i:Nat) (x:MN) (h:AH),Rt Cf x->i+f=Cf.aD.toNat->(∀j,j<i->((M.aB j).over&& !(M.dB j).xF&& !(M.dN j).gS)=true)->Hs G h (fF G Cf m x M::L')->Dd 17 2 [] Q [(pt m 0 0),(.slice x.ac x.lc.length x.cc),(I x.lc.length),(I i)] h:=by
  intro f;induction f with
  |zero=>
   intro i x h k T y d;have α:=k.1;refine bW (aT (aab (bW ?_)));obtain⟨k,d⟩:=fQ d;refine aN (aC (sH (b:=m) (o:=0) d (by decide) (l:=Cf.enc) rfl rfl (nM (C:=Cf) hC hG.lim d fun h d=>?_)));have d:=iE (m:=m) (x:=x) M k d;exact lines Cf.lines 0 h (S6 fun j u=>y j (by omega)) (by omega) (fun j u=>by omega) d
  |succ f W=>
   intro i x h k T y d;obtain⟨_,d⟩:=fQ d;obtain⟨Z,l2,l3⟩:=k;have B:i<x.lc.length:=by omega
   have z:i<x.lk.length:=by omega
   have A:i<x.lq.length:=by omega
   refine bW (aT (aae (bW (Zg d B (aN (aC (ae m d rfl (Yr d z ?_))))))));have d:=pO (R:=rE G Cf) (l:=x.lk) (s:=M.dB) z d;refine C.Yv (C:=Cf) (core:=i) (c:=x.lk.getD i 0) (s:=M.dB i) d fun h d=>bV rfl (bV rfl (bV rfl ?_));have d:=qM (R:=rE G Cf) (l:=x.lk) (s:=M.dB) (i:=i) (x:=M.dB i) z (d.cY (C.C7 G (x.lk.getD i 0) Cf i (M.dB i)) (Aw (rE G Cf) x.lk M.dB i));have e4:(fun j=>if j=i then M.dB i else M.dB j)=M.dB:=by funext j;split<;>simp_all
   rw[e4] at d;refine aN (aC (ae m d rfl (Yx d A ?_)));have d:=pO (R:=tS Cf) (l:=x.lq) (s:=M.dN) A d;refine Ra (C:=Cf) (p:=x.lq.getD i 0) (s:=M.dN i) d fun g a h d=>bV rfl (bV rfl (bV rfl ?_));have d:=T5 (Cf:=Cf) (l:=x.lq) (s:=M.dN) (i:=i) (t:=M.dN i) A d;rw[bH] at d;refine j5 (l:=x.lc) (S:=M.aB) B d ?_;have d:=gG (m:=m) (x:=x) M ⟨Z,l2,l3⟩ d;have no:((M.aB i).over&& !(M.dB i).xF&& !(M.dN i).gS)=false->Q (.bool false) h:=fun e=>by
    rw[Ye (i:=i) (by omega) e,Bool.false_and] at q;exact q _ (Zs d)
   refine gM (uK (zW (fun a1=>zW (fun J=>no (by rw[J];simp)) (fun J=>zW (fun a3=>no (by rw[a3];simp)) (fun a3=>bW (aad ?_)))) (fun a1=>no (by rw[a1];rfl))));refine W (i+1) x h ⟨Z,l2,l3⟩ (by omega) (fun j u=>?_) d;by_cases e:j=i;subst e;rw[a1,J,a3];rfl;exact y j (by omega)
 obtain⟨x,d⟩:=jd d;obtain⟨k,d⟩:=fQ d;refine aN (aC (ae m d rfl (bU ?_)));have d:=gG (m:=m) (x:=x) M k d;exact aD Cf.aD.toNat 0 x h k (by omega) (fun j y=>by omega) d
end
end Go.Proofs.YtmhapehobfnoiaaGreatDoor
end
namespace Go.Pc
open Go Go.Ab Go.Hm Go.Ct
section
structure CL where
 st:Int
 d:Ln
 kC:Bool
 aw:Bool
 gi:Bool
 gs:Int
 gd:Ln
abbrev bg:=Nat->CL
def isN (k:Int) (i l:Nat) (n:aH):Bool:=decide (n.kind=k/\n.core=(i:Int)/\n.line=(l:Int))
def cU (k:Int) (i l:Nat) (N:List aH):Nat:=N.countP (isN k i l)
theorem bK {k:Int} {i l:Nat} {n:aH} {N:List aH}:cU k i l (n::N)=cU k i l N+if n.kind=k/\n.core=(i:Int)/\n.line=(l:Int) then 1 else 0:=by
 unfold cU isN;rw[List.countP_cons];simp only[decide_eq_true_eq]
theorem xR {k:Int} {i l:Nat} {M N:List aH}:cU k i l (M++N)=cU k i l M+cU k i l N:=List.countP_append
theorem Tt {k:Int} {i l:Nat}:cU k i l []=0:=rfl
theorem ig {k:Int} {i l:Nat} {M N:List aH} (h:M.Perm N):cU k i l M=cU k i l N:=h.countP_eq _
theorem Dl {k:Int} {i l:Nat} {N:List aH} (h:0<cU k i l N):∃n∈N,n.kind=k/\n.core=(i:Int)/\n.line=(l:Int):=by
 unfold cU at h;obtain⟨n,b,a⟩:=List.countP_pos_iff.1 h;exact⟨n,b,of_decide_eq_true a⟩
theorem dM {k:Int} {i l:Nat} {N:List aH} {n:aH} (h:n∈N) (a:n.kind=k) (b:n.core=(i:Int)) (d:n.line=(l:Int)):0<cU k i l N:=
 List.countP_pos_iff.2 ⟨n,h,decide_eq_true ⟨a,b,d⟩⟩
def oZ (c:CL) (p:Nat):Int:=if c.st≠0 then c.st else if c.gi=true/\0<p then c.gs else 0
def tG (c:CL):Ln:=if c.st≠0 then c.d else c.gd
def pd (l:Nat) (r:Row) (N:List aH) (i:Nat):Nat:=cU 3 i l N+cU 3 i l r.waits
def HH (l:Nat) (r:Row) (c:bg) (N:List aH) (i:Nat):Int:=oZ (c i) (pd l r N i)
def uI (r:Row) (i:Nat):Nat:=if r.busy=true/\r.granted=false/\r.served.kind≠0/\r.served.core=(i:Int) then 1 else 0
def qJ (r:Row) (i:Nat):Nat:=if r.granted=true/\r.served.core=(i:Int) then 1 else 0
structure Inv (l:Nat) (r:Row) (m V:Ln) (c:bg) (N:List aH):Prop where
 row:kH l r
 ks:r.busy=true->r.served.kind=0\/r.served.kind=1\/r.served.kind=2
 kg:r.granted=true->r.served.kind≠0
 told:r.told=true->r.granted=true
 nc:∀n∈N,n.line=l/\0<=n.core/\n.core<4
 ex:∀i,i<4->(c i).st≠0\/(c i).kC=true->(c i).gi=false
 pA:∀i,i<4->(0<=(c i).st/\(c i).st<=4)/\(0<=(c i).gs/\(c i).gs<=4)
 t1:∀i,i<4->cU 1 i l N+cU 2 i l N+cU 1 i l r.waits+cU 2 i l r.waits+uI r i+cU 8 i l N+cU 9 i l N=(c i).kC.toNat
 t2:∀i,i<4->cU 3 i l N+cU 3 i l r.waits+cU 10 i l N=(c i).gi.toNat
 t3:∀i,i<4->cU 11 i l N+cU 5 i l N=(r.asked i).toNat
 t4:∀i,i<4->cU 8 i l N+cU 4 i l N=qJ r i
 a1:∀i,i<4->(c i).kC=true->HH l r c N i≠2/\HH l r c N i≠4
 a2:∀i,i<4->(c i).kC=true->(c i).aw=false->HH l r c N i=0
 rq:∀n,n∈N\/n∈r.waits->n.kind=1\/n.kind=2->(n.kind=2↔(c n.core.toNat).aw=true)
 rs:r.busy=true->r.granted=false->r.served.kind≠0->(r.served.kind=2↔(c r.served.core.toNat).aw=true)
 c1:∀i,i<4->cU 5 i l N=0->cU 8 i l N=0->(HH l r c N i=1↔r.sh i=true)/\(2<=HH l r c N i↔r.owner=(i:Int))
 c2:∀i,i<4->HH l r c N i=2\/HH l r c N i=4->∀j,j<4->j≠i->HH l r c N j=0
 uW:∀i,i<4->HH l r c N i=2\/HH l r c N i=4->∀n∈N,n.kind=5->n.gC=false
 gN:∀n∈N,n.kind=8->(n.state=1\/n.state=2\/n.state=4)/\(n.state=4↔(c n.core.toNat).aw=true)/\
  (n.state=1->r.sh n.core.toNat=true/\HH l r c N n.core.toNat=0/\∀j,j<4->HH l r c N j≠2/\HH l r c N j≠4)/\
  (n.state≠1->r.owner=n.core/\∀j:Nat,j<4->r.sh j=false/\((j:Int)≠n.core->HH l r c N j=0))/\
  (n.state=2->HH l r c N n.core.toNat=0)/\(HH l r c N n.core.toNat=0->(n.d0,n.d1)=V)
 pN:∀n∈N,n.kind=11->n.state=(if r.served.kind=1 then 1 else 0)/\(r.sh n.core.toNat=true\/r.owner=n.core)/\(r.served.kind=1->r.owner=n.core)
 rN:∀n∈N,n.kind=5->(r.served.kind≠1->HH l r c N n.core.toNat=0)/\
  (r.served.kind=1->r.owner=n.core/\n.state=HH l r c N n.core.toNat/\((n.state=1/\n.gC=false)\/(n.state=3/\n.gC=true)))/\(n.gC=true->(n.d0,n.d1)=V)
 uN:∀n,n∈N\/n∈r.waits->n.kind=3->(n.d0,n.d1)=(c n.core.toNat).gd/\((c n.core.toNat).gs=3\/(c n.core.toNat).gs=4->n.gC=true)
 c3:∀i,i<4->HH l r c N i≠0->tG (c i)=V
 c5:(∀i,i<4->HH l r c N i≠3/\HH l r c N i≠4)->(∀n∈N,n.kind=5->n.gC=false)->m=V
 k2:r.busy=true->r.granted=false->r.served.kind≠1->∀j:Nat,j<4->(r.served.kind=2->(j:Int)≠r.served.core)->r.sh j=true\/r.owner=(j:Int)->r.asked j=true
variable {l:Nat} {r:Row} {m V:Ln} {c:bg} {N N':List aH}
theorem Inv.perm (h:Inv l r m V c N) (p:N.Perm N'):Inv l r m V c N':=by
 have e:∀k i,cU k i l N'=cU k i l N:=fun k i=>(ig p).symm;have a:∀i,HH l r c N' i=HH l r c N i:=fun i=>by unfold HH pd;rw[e]
 have em:∀n,n∈N'↔n∈N:=fun n=>p.symm.mem_iff;constructor;exact h.row;exact h.ks;exact h.kg;exact h.told;intro n d;exact h.nc n ((em n).1 d);exact h.ex;exact h.pA;intro i b;simp only[e];exact h.t1 i b;intro i b;simp only[e];exact h.t2 i b;intro i b;simp only[e];exact h.t3 i b;intro i b;simp only[e];exact h.t4 i b;simp only[a];exact h.a1;simp only[a];exact h.a2;simp only[em];exact h.rq;exact h.rs;simp only[e,a];exact h.c1;simp only[a];exact h.c2;simp only[a,em];exact h.uW;simp only[a,em];exact h.gN;simp only[em];exact h.pN;simp only[a,em];exact h.rN;simp only[em];exact h.uN;simp only[a];exact h.c3;simp only[a,em];exact h.c5;exact h.k2
end
section
variable {l:Nat} {r:Row} {m V:Ln} {c:bg} {N:List aH} {n:aH}
theorem dI (h:0<=n.core/\n.core<4):∃i:Nat,i<4/\n.core=(i:Int)/\n.core.toNat=i:=⟨n.core.toNat,by omega,by omega,rfl⟩
theorem Inv.vh (h:Inv l r m V c (n::N)) (y:n.kind=1\/n.kind=2\/n.kind=3):Inv l (r.wait n) m V c N:=by
 have o:=h.nc n (by simp);have j:∀k i,cU k i l (r.wait n).waits=cU k i l r.waits+if n.kind=k/\n.core=(i:Int)/\n.line=(l:Int) then 1 else 0:=fun k i=>by
  show cU k i l (r.waits++[n])=_;rw[xR,bK,Tt];omega
 have d:∀i,HH l (r.wait n) c N i=HH l r c (n::N) i:=fun i=>by
  unfold HH pd;rw[j,bK];congr 1;omega
 have e:∀k i,(k=4\/k=5\/k=8\/k=9\/k=10\/k=11)->cU k i l (n::N)=cU k i l N:=fun k i q=>by
  rw[bK,aaa];omega
 have em:∀x,x∈N->x∈n::N:=fun x a=>List.mem_cons_of_mem _ a;have f:∀x,x∈(r.wait n).waits↔x∈r.waits\/x=n:=fun x=>by
  show x∈r.waits++[n]↔_;simp
 have s:∀i,uI (r.wait n) i=uI r i:=fun _=>rfl;have t:∀i,qJ (r.wait n) i=qJ r i:=fun _=>rfl;constructor;exact wF h.row o.1 o.2 (by omega);exact h.ks;exact h.kg;exact h.told;intro x a;exact h.nc x (em x a);exact h.ex;exact h.pA;intro i b;have:=h.t1 i b;rw[e 8 i (by omega),e 9 i (by omega),bK (k:=1),bK (k:=2)] at this;grind;intro i b;have:=h.t2 i b;rw[e 10 i (by omega),bK (k:=3)] at this;rw[j];omega;intro i b;have:=h.t3 i b;rw[e 11 i (by omega),e 5 i (by omega)] at this;exact this;intro i b;have:=h.t4 i b;grind;simp only[d];exact h.a1;simp only[d];exact h.a2;intro x a;refine h.rq x ?_;rw[f] at a;grind;exact h.rs;intro i b v p;rw[d];exact h.c1 i b (by grind) (by rw[e 8 i (by omega)];exact p);simp only[d];exact h.c2;simp only[d];exact fun i b g x a=>h.uW i b g x (em x a);simp only[d];exact fun x a=>h.gN x (em x a);exact fun x a=>h.pN x (em x a);simp only[d];exact fun x a=>h.rN x (em x a);intro x a;refine h.uN x ?_;rw[f] at a;grind;simp only[d];exact h.c3;simp only[d];exact fun g u=>h.c5 g (fun x a=>by grind);exact h.k2
theorem Inv.Zp (h:Inv l r m V c (n::N)) (K:n.kind=4):r.granted=true/\r.served.core=n.core/\Inv l r.free m V c N:=by
 have y:=h.nc n (by simp);obtain⟨i0,u,t,J⟩:=dI y.2;have z:qJ r i0=1:=by
  have:=h.t4 i0 u;rw[bK (k:=4),aCx ⟨K,t,y.1⟩] at this;have:qJ r i0<=1:=by unfold qJ;split<;>omega
  omega
 have o:r.granted=true/\r.served.core=n.core:=by unfold qJ at z;split at z<;>grind
 refine⟨o.1,o.2,?_⟩;have A:=h.row.still (.inl o.1);have I:∀i,i<4->r.asked i=false:=fun i f=>by
  unfold Row.quiet at A;grind
 have d:∀k i,k≠4->cU k i l (n::N)=cU k i l N:=fun k i O=>by
  rw[bK,aaa];omega
 have p:∀i,HH l r.free c N i=HH l r c (n::N) i:=fun i=>by
  unfold HH pd;rw[d 3 i (by omega)];rfl
 have em:∀x,x∈N->x∈n::N:=fun x a=>List.mem_cons_of_mem _ a;have B:∀x∈N,x.kind≠5/\x.kind≠11:=fun x a=>by
  have b:=h.nc x (em x a);obtain⟨j,v,g,_⟩:=dI b.2;have s:=h.t3 j v;rw[I j v,d 11 j (by omega),d 5 j (by omega)] at s;refine⟨fun e=>?_,fun e=>?_⟩;have:=dM a e g b.1;simp at s;omega;have:=dM a e g b.1;simp at s;omega
 have D:∀i,i<4->cU 8 i l N=0/\cU 4 i l N=0:=fun i f=>by
  have:=h.t4 i f;rw[d 8 i (by omega),bK (k:=4)] at this;unfold qJ at this;grind
 have E:∀x∈N,x.kind≠8:=fun x a e=>by
  have b:=h.nc x (em x a);obtain⟨j,v,g,_⟩:=dI b.2;have:=dM a e g b.1;grind
 constructor;exact vX h.row A;intro e;cases e;intro e;cases e;intro e;cases e;intro x a;exact h.nc x (em x a);exact h.ex;exact h.pA;intro i f;have:=h.t1 i f;rw[d 1 i (by omega),d 2 i (by omega),d 8 i (by omega),d 9 i (by omega)] at this;have F:uI r i=0:=by unfold uI;rw[aCw (by rw[o.1];simp)]
 have q:uI r.free i=0:=by unfold uI Row.free;simp
 rw[F] at this;rw[q];exact this;intro i f;have:=h.t2 i f;rw[d 3 i (by omega),d 10 i (by omega)] at this;exact this;intro i f;have:=h.t3 i f;rw[d 11 i (by omega),d 5 i (by omega)] at this;exact this;intro i f;have:=D i f;unfold qJ Row.free;simp;omega;simp only[p];exact h.a1;simp only[p];exact h.a2;intro x a;exact h.rq x (a.imp (em x) id);intro e;cases e;intro i f S T;rw[p];exact h.c1 i f (by grind) (by grind);simp only[p];exact h.c2;grind;grind;grind;exact fun x a e=>absurd e (B x a).1;intro x a;exact h.uN x (a.imp (em x) id);simp only[p];exact h.c3;simp only[p];exact fun q R=>h.c5 q (fun x a=>by grind);intro e;cases e
theorem Inv.aB4 {i:Nat} (h:Inv l r m V c (n::N)) (K:n.kind=9) (y:i<4) (v:n.core=(i:Int)):(c i).kC=true/\Inv l r m V (aI c i {c i with kC:=false,aw:=false}) N:=by
 have J:=h.nc n (by simp);have has:(c i).kC=true:=by
  have:=h.t1 i y;rw[bK (k:=9),aCx ⟨K,v,J.1⟩] at this;cases B:(c i).kC with
  |true=>rfl
  |false=>grind
 refine⟨has,?_⟩;have em:∀x,x∈N->x∈n::N:=fun x a=>List.mem_cons_of_mem _ a;have q:∀k j,k≠9->cU k j l (n::N)=cU k j l N:=fun k j R=>by
  rw[bK,aaa];omega
 have S:cU 1 i l N=0/\cU 2 i l N=0/\cU 1 i l r.waits=0/\cU 2 i l r.waits=0/\uI r i=0/\cU 8 i l N=0/\cU 9 i l N=0:=by
  have:=h.t1 i y;rw[q 1 i (by omega),q 2 i (by omega),q 8 i (by omega),bK (k:=9),aCx ⟨K,v,J.1⟩,has] at this;grind
 have o:∀j,HH l r (aI c i {c i with kC:=false,aw:=false}) N j=HH l r c (n::N) j:=fun j=>by
  unfold HH pd;rw[q 3 j (by omega)];unfold aI;split;rename_i e;subst e;rfl;rfl
 have s:∀j,(aI c i {c i with kC:=false,aw:=false}) j=if j=i then {c i with kC:=false,aw:=false} else c j:=fun j=>rfl
 have O:∀j,tG ((aI c i {c i with kC:=false,aw:=false}) j)=tG (c j):=fun j=>by rw[s];split<;>simp_all [tG]
 have f:∀j,((aI c i {c i with kC:=false,aw:=false}) j).gd=(c j).gd/\((aI c i {c i with kC:=false,aw:=false}) j).gs=(c j).gs/\((aI c i {c i with kC:=false,aw:=false}) j).gi=(c j).gi/\((aI c i {c i with kC:=false,aw:=false}) j).st=(c j).st:=fun j=>by grind
 have z:∀x,x∈N\/x∈r.waits->x.kind=1\/x.kind=2\/x.kind=8->x.core.toNat≠i:=by
  intro x a A e;have u:x.line=l/\0<=x.core/\x.core<4:=by
   rcases a with a|a;exact h.nc x (em x a);have:=h.row.waits x a;grind
  have t:x.core=(i:Int):=by omega
  rcases a with a|a;rcases A with p|p|p<;>(have:=dM a p t u.1;omega);have Y:=(h.row.waits x a).2.2;rcases A with p|p|p;have:=dM a p t u.1;omega;have:=dM a p t u.1;omega;omega
 constructor;exact h.row;exact h.ks;exact h.kg;exact h.told;intro x a;exact h.nc x (em x a);intro j d a;rw[(f j).2.2.1];rw[(f j).2.2.2,s] at a;refine h.ex j d ?_;grind;intro j d;rw[(f j).2.2.2,(f j).2.1];exact h.pA j d;intro j d;have:=h.t1 j d;rw[q 1 j (by omega),q 2 j (by omega),q 8 j (by omega),bK (k:=9)] at this;grind;intro j d;have:=h.t2 j d;grind;intro j d;have:=h.t3 j d;grind;intro j d;have:=h.t4 j d;grind;intro j d B;rw[o];refine h.a1 j d ?_;rw[s] at B;grind;intro j d B u;rw[o];rw[s] at B u;refine h.a2 j d ?_ ?_<;>grind;intro x a E;rw[s,aCw (z x a (by omega))];exact h.rq x (a.imp (em x) id) E;intro b g T;have:=S.2.2.2.2.1;unfold uI at this;rw[s,aCw (fun e=>by have:=h.row.core;grind)];exact h.rs b g T;intro j d W X;rw[o];exact h.c1 j d (by grind) (by grind);simp only[o];exact h.c2;simp only[o];exact fun j d D x a=>h.uW j d D x (em x a);intro x a I;simp only[o];rw[s,aCw (z x (.inl a) (by omega))];exact h.gN x (em x a) I;exact fun x a=>h.pN x (em x a);simp only[o];exact fun x a=>h.rN x (em x a);intro x a F;rw[(f _).1,(f _).2.1];exact h.uN x (a.imp (em x) id) F;intro j d;rw[o,O];exact h.c3 j d;simp only[o];exact fun D U=>h.c5 D (fun x a=>by grind);exact h.k2
end
section
variable {l:Nat} {r:Row} {m V:Ln} {c:bg} {N:List aH} {n:aH}
theorem dD {α:Type} {f:Nat->α} {i:Nat} {x:α}:aI f i x i=x:=by unfold aI;rw[aCx rfl]
theorem bQ {α:Type} {f:Nat->α} {i j:Nat} {x:α} (h:j≠i):aI f i x j=f j:=by unfold aI;rw[aCw h]
theorem Inv.sx {i:Nat} (h:Inv l r m V c (n::N)) (E:n.kind=10) (b:i<4) (s:n.core=(i:Int)) {gd':Ln} {gs':Int} (D:gs'=0):(c i).gi=true/\Inv l r m V (aI c i {c i with gi:=false,gs:=gs',gd:=gd'}) N:=by
 have B:=h.nc n (by simp);have o:∀k j,cU k j l (n::N)=cU k j l N+if k=10/\j=i then 1 else 0:=fun k j=>by
  rw[bK];grind
 have f:(c i).gi=true:=by have:=h.t2 i b;grind
 refine⟨f,?_⟩;have g:cU 3 i l N=0/\cU 3 i l r.waits=0:=by have:=h.t2 i b;grind
 have em:∀x,x∈N->x∈n::N:=fun x a=>List.mem_cons_of_mem _ a;have u:=h.ex i b;have d:∀j,HH l r (aI c i {c i with gi:=false,gs:=gs',gd:=gd'}) N j=HH l r c (n::N) j:=fun j=>by
  unfold HH pd;rw[o 3 j,aaa];by_cases e:j=i;subst e;rw[dD,g.1,g.2];simp[oZ];rw[bQ e];rfl
 have y:∀j,HH l r c (n::N) j≠0->tG ((aI c i {c i with gi:=false,gs:=gs',gd:=gd'}) j)=tG (c j):=fun j t=>by
  by_cases e:j=i;subst e;rw[dD];unfold tG;simp only;split<;>try rfl
  rename_i p;exfalso;apply t;rw[<-d,HH,dD];simp[oZ,p];rw[bQ e]
 have A:∀x,x∈N\/x∈r.waits->x.kind=3->x.core.toNat≠i:=fun x a k e=>by
  rcases a with a|a;have:=h.nc x (em x a);have:=dM a k (i:=i) (by omega) this.1;omega;have:=h.row.waits x a;have:=dM a k (i:=i) (by omega) this.1;omega
 constructor;exact h.row;exact h.ks;exact h.kg;exact h.told;grind [h.nc];have:=h.ex;grind [aI];have:=h.pA;grind [aI];have:=h.t1;grind [aI];have:=h.t2;grind [aI];have:=h.t3;grind [aI];have:=h.t4;grind [aI];have:=h.a1;grind [aI];have:=h.a2;grind [aI];have:=h.rq;grind [aI];have:=h.rs;grind [aI];have:=h.c1;grind [aI];have:=h.c2;grind [aI];have:=h.uW;grind [aI];intro x a v;simp only[d];have:=h.gN x (em x a) v;grind [aI];have:=h.pN;grind [aI];have:=h.rN;grind [aI];have:=h.uN;grind [aI];have:=h.c3;grind;simp only[d];exact fun q z=>h.c5 q (by grind);have:=h.k2;grind [aI]
theorem dQ (h:r.quiet=true) {i:Nat} (a:i<4):r.asked i=false:=by
 unfold Row.quiet at h;grind
theorem Inv.bd (h:Inv l r m V c N) {x:aH} (a:x∈N\/x∈r.waits):x.line=l/\0<=x.core/\x.core<4:=by
 rcases a with a|a;exact h.nc x a;have:=h.row.waits x a;grind
theorem Inv.none (h:Inv l r m V c N) {k:Int} {i:Nat} (d:cU k i l N=0) {x:aH} (a:x∈N) (b:x.kind=k):x.core≠(i:Int):=fun e=>by
 have:=dM a b e (h.nc x a).1;omega
theorem Inv.calm (h:Inv l r m V c N) (i:r.quiet=true) {x:aH} (f:x∈N):x.kind≠5/\x.kind≠11:=by
 have d:=h.nc x f;obtain⟨j,g,a,_⟩:=dI d.2;have b:=h.t3 j g;rw[dQ i g] at b;refine⟨fun e=>?_,fun e=>?_⟩;have:=dM f e a d.1;simp at b;omega;have:=dM f e a d.1;simp at b;omega
theorem Inv.xn (h:Inv l r m V c N) {i:Nat} (a:i<4) (e:qJ r i=0) {x:aH} (d:x∈N) (b:x.kind=8):x.core≠(i:Int):=
 h.none (by have:=h.t4 i a;omega) d b
theorem Inv.own (h:Inv l r m V c N) {i:Nat} (g:i<4) (f:2<=HH l r c N i):r.owner=(i:Int):=by
 by_cases b:cU 5 i l N=0;by_cases d:cU 8 i l N=0;exact((h.c1 i g b d).2).1 f;obtain⟨x,a,k,e,_⟩:=Dl (Nat.pos_of_ne_zero d);have:=h.gN x a k;grind;obtain⟨x,a,k,e,_⟩:=Dl (Nat.pos_of_ne_zero b);have:=h.rN x a k;grind
def tP (i:Int) (l:Nat):aH:=⟨4,i,l,0,0,0,0,false,0⟩
theorem Inv.granted {i:Nat} (h:Inv l r m V c (n::N)) (J:n.kind=8) (b:i<4) (B:n.core=(i:Int)) {d':Ln} (T:d'=if(c i).st≠0 then(c i).d else(n.d0,n.d1)):
  ((c i).kC=true/\(c i).gi=false/\(n.state=1\/n.state=2\/n.state=4))/\Inv l r m V (aI c i {c i with st:=n.state,d:=d',kC:=false,aw:=false}) (tP i l::N):=by
 have S:=h.nc n (by simp)
 have o:∀k j,cU k j l (n::N)=cU k j l N+if k=8/\j=i then 1 else 0:=fun k j=>by
  rw[bK];congr 1;simp only[J,B,S.1];grind
 have v:∀k j,cU k j l (tP i l::N)=cU k j l N+if k=4/\j=i then 1 else 0:=fun k j=>by
  rw[bK];congr 1;simp only[tP];grind
 have U:r.granted=true/\r.served.core=(i:Int):=by
  have:=h.t4 i b;rw[o,o] at this;simp at this;unfold qJ at this;grind
 have has:(c i).kC=true:=by have:=h.t1 i b;rw[o 8] at this;cases a:(c i).kC<;>simp_all
 have p:=h.ex i b (.inr has)
 have F:=h.gN n (by simp) J
 refine⟨⟨has,p,F.1⟩,?_⟩
 have X:=h.row.still (.inl U.1)
 have A:=fun x a=>h.calm X (x:=x) a
 have hz:cU 1 i l N=0/\cU 2 i l N=0/\cU 1 i l r.waits=0/\cU 2 i l r.waits=0/\cU 8 i l N=0/\cU 4 i l N=0/\cU 9 i l N=0:=by
  have:=h.t1 i b;have q:=h.t4 i b;simp only[o,has] at this q;unfold qJ at q;simp at this q;split at q<;>omega
 have h3:cU 3 i l N=0/\cU 3 i l r.waits=0:=by have:=h.t2 i b;simp only[o,p] at this;simp at this;omega
 have em:∀x,x∈N->x∈n::N:=fun x a=>List.mem_cons_of_mem _ a
 have e8:∀x∈N,x.kind≠8:=fun x a k=>by
  have t:=h.nc x (em x a);obtain⟨j,g,D,_⟩:=dI t.2;have q:=h.t4 j g;have:=dM a k D t.1;simp only[o] at q;by_cases e:j=i;subst e;omega;have:qJ r j=0:=by unfold qJ;rw[aCw (fun e2=>e (by omega))]
  omega
 generalize hC:aI c i {c i with st:=n.state,d:=d',kC:=false,aw:=false}=c'
 have ci:c' i={c i with st:=n.state,d:=d',kC:=false,aw:=false}:=by rw[<-hC,dD]
 have u:∀j,j≠i->c' j=c j:=fun j e=>by rw[<-hC,bQ e]
 have I:∀j,(c' j).gi=(c j).gi/\(c' j).gs=(c j).gs/\(c' j).gd=(c j).gd:=fun j=>by by_cases e:j=i<;>grind
 have y:HH l r c' (tP i l::N) i=n.state:=by
  unfold HH;rw[ci];unfold oZ;rw[aCx (by simp only;omega)]
 have z:HH l r c (n::N) i=(c i).st:=by unfold HH oZ;rw[p];simp;omega
 have K:∀j,j≠i->HH l r c' (tP i l::N) j=HH l r c (n::N) j:=fun j e=>by
  unfold HH pd;rw[o 3 j,v 3 j,aaa,aaa,u j e]
 have E:tG (c' i)=V:=by
  rw[ci];unfold tG;rw[aCx (by simp only;omega)];simp only[T];split;rename_i e;have:=h.c3 i b (by rw[z];exact e);unfold tG at this;grind;grind
 constructor
 case row=>exact h.row
 case ks=>exact h.ks
 case kg=>exact h.kg
 case told=>exact h.told
 case nc=>intro x a;rcases List.mem_cons.1 a with rfl|a;exact⟨rfl,by simp only[tP];omega⟩;exact h.nc x (em x a)
 case ex=>have:=h.ex;grind
 case pA=>have:=h.pA;grind
 case t1=>
  intro j g
  have O:=h.t1 j g
  grind
 case t2=>have:=h.t2;grind
 case t3=>have:=h.t3;grind
 case t4=>have:=h.t4;grind
 case a1=>have:=h.a1;grind
 case a2=>have:=h.a2;grind
 case rq=>
  intro x a s
  have f:x∈N\/x∈r.waits:=a.imp (fun h=>by rcases List.mem_cons.1 h with rfl|h;simp[tP] at s;exact h) id
  have t:=h.bd (f.imp (em x) id)
  have W:x.core≠(i:Int):=by
   rcases f with a|a<;>rcases s with s|s<;>(intro e;have:=dM a s e t.1;omega)
  rw[u _ (by omega)];exact h.rq x (f.imp (em x) id) s
 case rs=>grind
 case c1=>
  intro j g h5 h8
  by_cases e:j=i
  .subst e;rw[y];have:=h.row.apart j g;grind
  .rw[K j e];exact h.c1 j g (by grind) (by grind)
 case c2=>
  grind
 case uW=>intro j g R x a Y;rcases List.mem_cons.1 a with rfl|a;simp[tP] at Y;grind
 case gN=>intro x a Z;rcases List.mem_cons.1 a with rfl|a;simp[tP] at Z;grind
 case pN=>intro x a k;rcases List.mem_cons.1 a with rfl|a;simp[tP] at k;grind
 case rN=>intro x a k;rcases List.mem_cons.1 a with rfl|a;simp[tP] at k;grind
 case uN=>
  intro x a k
  have f:x∈N\/x∈r.waits:=a.imp (fun h=>by rcases List.mem_cons.1 h with rfl|h;simp[tP] at k;exact h) id
  rw[(I _).2.1,(I _).2.2];exact h.uN x (f.imp (em x) id) k
 case c3=>
  intro j g h0
  by_cases e:j=i
  .subst e;exact E
  .rw[u j e];exact h.c3 j g (by grind)
 case c5=>
  intro O R
  refine h.c5 (fun j g=>?_) (fun x a=>?_)
  .grind
  grind
 grind
end
section
variable {l:Nat} {r:Row} {m V:Ln} {c:bg} {N:List aH} {n:aH}
theorem Ii {c:CL} {p:Nat} (h:oZ c p≠0) (a:c.st=0):c.gi=true/\0<p/\oZ c p=c.gs:=by
 unfold oZ at h ⊢;rw[aCw (by simpa using a)] at h ⊢;split at h;rename_i e;rw[aCx e];exact⟨e.1,e.2,rfl⟩;exact absurd rfl h
theorem Inv.found {i:Nat} (h:Inv l r m V c (n::N)) (j:n.kind=11) (a:i<4) (b:n.core=(i:Int)):
  r.asked i=true/\r.granted=false/\r.busy=true/\HH l r c (n::N) i≠0/\(n.state=0\/n.state=1)/\((c i).st≠0\/((c i).st=0/\(c i).gi=true)):=by
 have t:=h.nc n (by simp)
 have o:0<cU 11 i l (n::N):=dM (by simp) j b t.1
 have s:r.asked i=true:=by have:=h.t3 i a;grind
 have g:r.granted=false:=by
  cases g:r.granted with
  |false=>rfl
  |true=>have:=dQ (h.row.still (.inl g)) a;grind
 have f:r.busy=true:=by
  cases f:r.busy with
  |true=>rfl
  |false=>have:=dQ (h.row.still (.inr f)) a;grind
 have k:HH l r c (n::N) i≠0:=by
  have p:cU 5 i l (n::N)=0:=by have:=h.t3 i a;grind
  have q:cU 8 i l (n::N)=0:=by have:=h.t4 i a;unfold qJ at this;grind
  have:=h.c1 i a p q;have d:=(h.pN n (by simp) j).2.1;rw[b,Int.toNat_natCast] at d;rcases d with d|d;grind;grind
 refine⟨s,g,f,k,?_,?_⟩
 .have:=(h.pN n (by simp) j).1;grind
 .by_cases e:(c i).st=0
  .exact .inr ⟨e,(Ii k e).1⟩
  .exact .inl e
theorem Tp {x to:Int} (b:1<=x/\x<=4) (a:to=0\/to=1):(to=0->gK x to=0)/\(to=1->gK x to=1\/gK x to=3)/\(to=1->2<=x->x=2/\gK x to=1\/(x=3\/x=4)/\gK x to=3)/\(gK x to=3->x=3\/x=4):=by
 unfold gK Ky;grind
theorem Inv.uh {i:Nat} {a:CL} {y:aH} (h:Inv l r m V c (n::N)) (W:n.kind=11) (o:i<4) (I:n.core=(i:Int))
  (K:a.kC=(c i).kC/\a.aw=(c i).aw/\a.gi=(c i).gi/\a.gd=(c i).gd)
  (A:(c i).st≠0->a.st=gK (c i).st n.state/\(a.st≠0->a.d=(c i).d)/\a.gs=(c i).gs)
  (z:(c i).st=0->a.st=0/\a.gs=gK (c i).gs n.state)
  (R:y.kind=5/\y.core=(i:Int)/\y.line=l/\y.state=gK (HH l r c (n::N) i) n.state/\(y.gC=true↔HH l r c (n::N) i=3\/HH l r c (n::N) i=4)/\(y.gC=true->(y.d0,y.d1)=tG (c i))):
  Inv l r m V (aI c i a) (y::N):=by
 have hc:=h.nc n (by simp)
 obtain⟨ha,hg,F,s,B,hw⟩:=h.found W o I
 have Y:∀k j,cU k j l (n::N)=cU k j l N+if k=11/\j=i then 1 else 0:=fun k j=>by
  rw[bK];grind
 have E:∀k j,cU k j l (y::N)=cU k j l N+if k=5/\j=i then 1 else 0:=fun k j=>by
  rw[bK];grind
 have em:∀x,x∈N->x∈n::N:=fun x b=>List.mem_cons_of_mem _ b
 have X:=h.pA i o
 have hex:=h.ex i o
 have β:tG (c i)=V:=h.c3 i o s
 have q:1<=HH l r c (n::N) i/\HH l r c (n::N) i<=4:=by
  unfold HH at s ⊢;by_cases e:(c i).st=0;have:=Ii s e;omega;unfold oZ;rw[aCx e];omega
 have ζ:=Tp q B
 have δ:=uC (x:=HH l r c (n::N) i) (to:=n.state) (by omega)
 have e5:cU 5 i l N=0:=by have:=h.t3 i o;grind
 have e8:∀x∈N,x.kind≠8:=fun x b k=>by
  have F:=h.nc x (em x b);obtain⟨j,d,J,_⟩:=dI F.2;exact h.xn d (by unfold qJ;rw[hg];simp) (em x b) k J
 generalize hC:aI c i a=c'
 have ci:c' i=a:=by rw[<-hC,dD]
 have S:∀j,j≠i->c' j=c j:=fun j e=>by rw[<-hC,bQ e]
 have D:∀j,(c' j).kC=(c j).kC/\(c' j).aw=(c j).aw/\(c' j).gi=(c j).gi/\(c' j).gd=(c j).gd:=fun j=>by grind
 have v:HH l r c' (y::N) i=gK (HH l r c (n::N) i) n.state:=by
  unfold HH at s ⊢;have Z:pd l r (y::N) i=pd l r (n::N) i:=by unfold pd;rw[Y,E];simp
  rw[Z];by_cases e:(c i).st=0;have g:=Ii s e;rw[g.2.2];unfold oZ;grind;have T:oZ (c i) (pd l r (n::N) i)=(c i).st:=by unfold oZ;rw[aCx e]
  rw[T,<-(A e).1,ci];unfold oZ;grind
 have U:∀j,j≠i->HH l r c' (y::N) j=HH l r c (n::N) j:=fun j e=>by
  unfold HH pd;grind
 have γ:HH l r c' (y::N) i≠0->tG (c' i)=tG (c i):=fun u=>by
  rw[ci];unfold tG;by_cases e:(c i).st=0;grind;by_cases T:a.st=0;exfalso;apply u;rw[v];have:HH l r c (n::N) i=(c i).st:=by unfold HH oZ;rw[aCx e]
  grind;grind
 have f:∀x,x∈y::N->x=y\/x∈n::N:=fun x b=>by grind
 constructor
 case row=>exact h.row
 case ks=>exact h.ks
 case kg=>exact h.kg
 case told=>exact h.told
 case nc=>intro x b;rcases f x b with rfl|b;exact⟨R.2.2.1,by omega⟩;exact h.nc x b
 case ex=>
  intro j d g
  rw[(D j).2.2.1]
  refine h.ex j d ?_
  grind
 case pA=>
  intro j d
  by_cases e:j=i
  .subst e;rw[ci];by_cases e:(c j).st=0
   .have:=uC (x:=(c j).gs) (to:=n.state) (by omega);have:=z e;omega
   .have:=uC (x:=(c j).st) (to:=n.state) (by omega);have:=A e;omega
  .rw[S j e];exact h.pA j d
 case t1=>intro j d;have g:=h.t1 j d;grind
 case t2=>intro j d;have g:=h.t2 j d;grind
 case t3=>intro j d;have g:=h.t3 j d;grind
 case t4=>intro j d;have g:=h.t4 j d;grind
 case a1=>intro j d g;have:=h.a1 j d;grind
 case a2=>intro j d g;have:=h.a2 j d;grind
 case rq=>intro x b k1;rw[(D _).2.1];exact h.rq x (b.imp (fun b=>(f x b).resolve_left (fun e=>by subst e;omega)) id) k1
 case rs=>rw[(D _).2.1];exact h.rs
 case c1=>
  intro j d h5 h8
  have e:j≠i:=fun e=>by grind
  rw[U j e];exact h.c1 j d (by grind) (by grind)
 case c2=>intro j d t;exfalso;have:=h.c2 j d;grind
 case uW=>intro j d t;exfalso;have:=h.c2 j d;grind
 case gN=>grind
 case pN=>intro x b k;rcases f x b with rfl|b;omega;exact h.pN x b k
 case rN=>
  intro x b k
  rcases List.mem_cons.1 b with rfl|b
  .rw[R.2.1,Int.toNat_natCast,v];have hp:=h.pN n (by simp) W;grind
  .have ε:x.core≠(i:Int):=fun e=>by have:=dM b k e (h.nc x (em x b)).1;omega
   have F:=h.nc x (em x b)
   rw[U _ (by omega)]
   exact h.rN x (em x b) k
 case uN=>
  intro x b k
  have O:x∈n::N\/x∈r.waits:=b.imp (fun b=>(f x b).resolve_left (fun e=>by subst e;omega)) id
  have g:=h.uN x O k
  rw[(D _).2.2.2]
  refine⟨g.1,fun t=>g.2 ?_⟩
  by_cases e:x.core.toNat=i
  .rw[e,ci] at t;rw[e];by_cases u:(c i).st=0
   .rw[(z u).2] at t;have:1<=(c i).gs/\(c i).gs<=4:=by
     have:=Ii (p:=pd l r (n::N) i) s u;unfold HH at q;omega
    have:=Tp this B
    grind
   grind
  grind
 case c3=>
  intro j d u
  by_cases e:j=i
  .grind
  .rw[S j e];exact h.c3 j d (by grind)
 case c5=>
  intro g t
  have η:=t y (by simp) R.1
  have α:¬(HH l r c (n::N) i=3\/HH l r c (n::N) i=4):=fun e=>by grind
  refine h.c5 (fun j d=>?_) (fun x b k=>?_)
  .grind
  grind
 case k2=>exact h.k2
theorem Inv.asks {i:Nat} {y:aH} {wr:Bool} (h:Inv l r m V c N) (z:i<4) (Y:(c i).kC=false) (v:(c i).gi=false) (S:if wr then(c i).st≠2/\(c i).st≠4 else(c i).st=0)
  (T:y.kind=(if wr then 2 else 1)/\y.core=(i:Int)/\y.line=l):
  Inv l r m V (aI c i {c i with kC:=true,aw:=wr}) (y::N):=by
 have t:∀k j,cU k j l (y::N)=cU k j l N+if k=(if wr then 2 else 1)/\j=i then 1 else 0:=fun k j=>by
  rw[bK];grind
 have F:y.kind=1\/y.kind=2:=by grind
 have U:cU 1 i l N=0/\cU 2 i l N=0/\cU 1 i l r.waits=0/\cU 2 i l r.waits=0/\uI r i=0/\cU 8 i l N=0/\cU 9 i l N=0:=by
  have:=h.t1 i z;grind
 generalize hC:aI c i {c i with kC:=true,aw:=wr}=c'
 have ci:c' i={c i with kC:=true,aw:=wr}:=by rw[<-hC,dD]
 have s:∀j,j≠i->c' j=c j:=fun j e=>by rw[<-hC,bQ e]
 have D:∀j,(c' j).st=(c j).st/\(c' j).d=(c j).d/\(c' j).gi=(c j).gi/\(c' j).gs=(c j).gs/\(c' j).gd=(c j).gd:=fun j=>by by_cases e:j=i<;>grind
 have p:∀j,HH l r c' (y::N) j=HH l r c N j:=fun j=>by
  have X:cU 3 j l (y::N)=cU 3 j l N:=by grind
  unfold HH pd oZ;grind
 have R:HH l r c N i=(c i).st:=by unfold HH oZ;rw[v];simp;omega
 have I:∀j,tG (c' j)=tG (c j):=fun j=>by unfold tG;grind
 have d:∀x,x∈y::N->x=y\/x∈N:=fun x a=>List.mem_cons.1 a
 constructor
 case row=>exact h.row
 case ks=>exact h.ks
 case kg=>exact h.kg
 case told=>exact h.told
 case nc=>intro x a;rcases d x a with rfl|a;exact⟨T.2.2,by omega⟩;exact h.nc x a
 case ex=>have:=h.ex;grind
 case pA=>have:=h.pA;grind
 case t1=>
  intro j f
  have o:=h.t1 j f
  grind
 case t2=>intro j f;have o:=h.t2 j f;grind
 case t3=>intro j f;have o:=h.t3 j f;grind
 case t4=>intro j f;have o:=h.t4 j f;grind
 case a1=>intro j f o;have:=h.a1 j f;grind
 case a2=>intro j f o E;have:=h.a2 j f;grind
 case rq=>
  intro x a q
  have J:x=y\/(x∈N\/x∈r.waits):=by grind
  rcases J with rfl|a
  .grind
  .have u:=h.bd a;have A:x.core≠(i:Int):=by
    rcases a with a|a<;>rcases q with q|q<;>(intro e;have:=dM a q e u.1;omega)
   rw[s _ (by omega)];exact h.rq x a q
 case rs=>intro b g W;have:=U.2.2.2.2.1;unfold uI at this;rw[s _ (fun e=>by have:=h.row.core;grind)];exact h.rs b g W
 case c1=>intro j f K O;rw[p];rw[t] at K O;exact h.c1 j f (by omega) (by omega)
 case c2=>simp only[p];exact h.c2
 case uW=>simp only[p];intro j f o x a k;rcases d x a with rfl|a;omega;exact h.uW j f o x a k
 case gN=>
  intro x a k
  rcases d x a with rfl|a
  .omega
  .have u:=h.nc x a;have A:x.core≠(i:Int):=fun e=>by have:=dM a k e u.1;omega
   simp only[p]
   rw[s _ (by omega)];exact h.gN x a k
 case pN=>intro x a k;rcases d x a with rfl|a;omega;exact h.pN x a k
 case rN=>intro x a k;simp only[p];rcases d x a with rfl|a;omega;exact h.rN x a k
 case uN=>
  intro x a k
  have B:x∈N\/x∈r.waits:=a.imp (fun a=>(d x a).resolve_left (fun e=>by subst e;omega)) id
  rw[(D _).2.2.2.1,(D _).2.2.2.2];exact h.uN x B k
 case c3=>intro j f;rw[p,I];exact h.c3 j f
 case c5=>simp only[p];exact fun o E=>h.c5 o (fun x a=>E x (List.mem_cons_of_mem _ a))
 case k2=>exact h.k2
theorem Inv.Hu {i:Nat} {y:aH} {d':Ln} (h:Inv l r m V c N) (s:i<4) (T:(c i).kC=false) (t:(c i).st≠0)
  (F:y.kind=3/\y.core=(i:Int)/\y.line=l/\(y.d0,y.d1)=(c i).d/\y.gC=xS (c i).st) {p:Bool} (U:p=(c i).aw\/True):
  Inv l r m V (aI c i ⟨0,d',false,p,true,(c i).st,(c i).d⟩) (y::N):=by
 have W:=h.ex i s (.inl t)
 have A:∀k j,cU k j l (y::N)=cU k j l N+if k=3/\j=i then 1 else 0:=fun k j=>by
  rw[bK];grind
 have Y:cU 1 i l N=0/\cU 2 i l N=0/\cU 1 i l r.waits=0/\cU 2 i l r.waits=0/\uI r i=0/\cU 8 i l N=0/\cU 9 i l N=0:=by
  have:=h.t1 i s;grind
 have Z:cU 3 i l N=0/\cU 3 i l r.waits=0/\cU 10 i l N=0:=by have:=h.t2 i s;grind
 generalize hC:aI c i ⟨0,d',false,p,true,(c i).st,(c i).d⟩=c'
 have ci:c' i=⟨0,d',false,p,true,(c i).st,(c i).d⟩:=by rw[<-hC,dD]
 have z:∀j,j≠i->c' j=c j:=fun j e=>by rw[<-hC,bQ e]
 have J:∀j,(c' j).kC=(c j).kC:=fun j=>by by_cases e:j=i<;>grind
 have I:HH l r c N i=(c i).st:=by unfold HH oZ;rw[aCx t]
 have q:∀j,HH l r c' (y::N) j=HH l r c N j:=fun j=>by
  by_cases e:j=i;subst e;rw[I];unfold HH pd;rw[A,ci];simp[oZ];unfold HH pd;grind
 have K:∀j,tG (c' j)=tG (c j):=fun j=>by
  by_cases e:j=i;subst e;rw[ci];unfold tG;rw[aCx t];simp;rw[z j e]
 have d:∀x,x∈y::N->x=y\/x∈N:=fun x a=>List.mem_cons.1 a
 have B:∀x,(x∈N\/x∈r.waits)->(x.kind=1\/x.kind=2\/x.kind=3)->x.core≠(i:Int):=fun x a v e=>by
  have D:=h.bd a;rcases a with a|a<;>rcases v with v|v|v<;>(have:=dM a v e D.1;omega)
 constructor
 case row=>exact h.row
 case ks=>exact h.ks
 case kg=>exact h.kg
 case told=>exact h.told
 case nc=>intro x a;rcases d x a with rfl|a;exact⟨F.2.2.1,by omega⟩;exact h.nc x a
 case ex=>have:=h.ex;grind
 case pA=>have:=h.pA;grind
 case t1=>intro j f;have o:=h.t1 j f;grind
 case t2=>
  intro j f
  have o:=h.t2 j f
  grind
 case t3=>intro j f;have o:=h.t3 j f;grind
 case t4=>intro j f;have o:=h.t4 j f;grind
 case a1=>intro j f;rw[q,J];exact h.a1 j f
 case a2=>intro j f o E;rw[J] at o;rw[q];by_cases e:j=i;(subst e;rw[T] at o;cases o);(rw[z j e] at E;exact h.a2 j f o E)
 case rq=>
  intro x a v
  have u:x∈N\/x∈r.waits:=a.imp (fun a=>(d x a).resolve_left (fun e=>by subst e;omega)) id
  have:=B x u (by omega)
  have D:=h.bd u
  rw[z _ (by omega)];exact h.rq x u v
 case rs=>intro b g k0;have:=Y.2.2.2.2.1;unfold uI at this;rw[z _ (fun e=>by have:=h.row.core;grind)];exact h.rs b g k0
 case c1=>intro j f R S;rw[q];rw[A] at R S;exact h.c1 j f (by omega) (by omega)
 case c2=>simp only[q];exact h.c2
 case uW=>simp only[q];intro j f o x a k;rcases d x a with rfl|a;omega;exact h.uW j f o x a k
 case gN=>
  intro x a k
  rcases d x a with rfl|a
  .omega
  .have D:=h.nc x a;have X:x.core≠(i:Int):=fun e=>by have:=dM a k e D.1;omega
   simp only[q]
   rw[z _ (by omega)];exact h.gN x a k
 case pN=>intro x a k;rcases d x a with rfl|a;omega;exact h.pN x a k
 case rN=>intro x a k;simp only[q];rcases d x a with rfl|a;omega;exact h.rN x a k
 case uN=>
  intro x a k
  have O:x=y\/(x∈N\/x∈r.waits):=by grind
  rcases O with rfl|a
  .rw[F.2.1,Int.toNat_natCast,ci];refine⟨F.2.2.2.1,fun o=>?_⟩;rw[F.2.2.2.2];unfold xS;simpa using o
  .have:=B x a (by omega);have D:=h.bd a;rw[z _ (by omega)];exact h.uN x a k
 case c3=>intro j f;rw[q,K];exact h.c3 j f
 case c5=>simp only[q];exact fun o E=>h.c5 o (fun x a=>E x (List.mem_cons_of_mem _ a))
 case k2=>exact h.k2
theorem Inv.wrote {i:Nat} {D:Ln} (h:Inv l r m V c N) (f:i<4) (v:(c i).st=2\/(c i).st=4):
  Inv l r m D (aI c i {c i with st:=4,d:=D}) N:=by
 have t:HH l r c N i=(c i).st:=by unfold HH oZ;rw[aac]
 have o:HH l r c N i=2\/HH l r c N i=4:=by rw[t];exact v
 have K:=h.c2 i f o
 have z:∀j,j<4->HH l r c N j≠0->j=i:=fun j b e=>Classical.byContradiction fun s=>e (K j b s)
 have I:=h.uW i f o
 have has:(c i).kC=false:=by cases e:(c i).kC with|false=>rfl|true=>have:=h.a1 i f e;omega
 have S:∀x∈N,x.kind≠8:=fun x a k=>by
  have p:=h.nc x a;obtain⟨j,b,q,u⟩:=dI p.2;have J:=h.gN x a k;by_cases e:x.state=1;grind;have B:=(J.2.2.2.1 e).2 i f;by_cases s:j=i;subst s;have:=h.t1 j b;rw[has] at this;have:=dM a k q p.1;simp at*;omega;grind
 have R:∀x∈N,x.kind=5->r.served.kind≠1:=fun x a k e=>by
  have p:=h.nc x a;obtain⟨j,b,q,u⟩:=dI p.2;have U:=((h.rN x a k).2.1 e);grind
 generalize hC:aI c i {c i with st:=4,d:=D}=c'
 have ci:c' i={c i with st:=4,d:=D}:=by rw[<-hC,dD]
 have A:∀j,j≠i->c' j=c j:=fun j e=>by rw[<-hC,bQ e]
 have g:∀j,(c' j).kC=(c j).kC/\(c' j).aw=(c j).aw/\(c' j).gi=(c j).gi/\(c' j).gs=(c j).gs/\(c' j).gd=(c j).gd:=fun j=>by grind
 have y:HH l r c' N i=4:=by unfold HH;rw[ci];simp[oZ]
 have T:∀j,j≠i->HH l r c' N j=HH l r c N j:=fun j e=>by unfold HH;rw[A j e]
 constructor
 case row=>exact h.row
 case ks=>exact h.ks
 case kg=>exact h.kg
 case told=>exact h.told
 case nc=>exact h.nc
 case ex=>have:=h.ex;grind
 case pA=>have:=h.pA;grind
 case t1=>intro j b;rw[(g j).1];exact h.t1 j b
 case t2=>intro j b;rw[(g j).2.2.1];exact h.t2 j b
 case t3=>exact h.t3
 case t4=>exact h.t4
 case a1=>grind
 case a2=>grind
 case rq=>intro x a k;rw[(g _).2.1];exact h.rq x a k
 case rs=>rw[(g _).2.1];exact h.rs
 case c1=>intro j b E F;have:=h.c1 j b E F;grind
 case c2=>
  grind
 case uW=>grind
 case gN=>grind
 case pN=>exact h.pN
 case rN=>
  intro x a k
  have p:=h.nc x a
  have B:=h.rN x a k
  grind
 case uN=>intro x a k;rw[(g _).2.2.2.1,(g _).2.2.2.2];exact h.uN x a k
 case c3=>
  intro j b O
  by_cases e:j=i
  .subst e;rw[ci];unfold tG;simp
  grind
 case c5=>grind
 case k2=>exact h.k2
end
section
variable {l:Nat} {r:Row} {m V:Ln} {c:bg} {N:List aH} {n:aH}
theorem rS {r:Row} {x:Int}:∀(f i:Nat),(∀c,c∈r.dZ x f i↔(i<=c/\c<i+f)/\r.holds x c=true)/\(r.dZ x f i).Nodup/\(r.yG x f i= -1↔∀c,i<=c->c<i+f->r.holds x c=false):=by
 intro f;induction f with
 |zero=>intro i;refine⟨fun c=>?_,by simp[Row.dZ],?_⟩;simp[Row.dZ];omega;simp[Row.yG];omega
 |succ f a=>
  intro i;obtain⟨b,d,e⟩:=a (i+1);unfold Row.dZ Row.yG;grind
theorem mL {r:Row} {x:Int} {c:Nat}:c∈r.iF x↔c<4/\r.holds x c=true:=by
 have:=(rS (r:=r) (x:=x) 4 0).1 c;unfold Row.iF;grind
theorem Gz {r:Row} {x:Int}:(r.iF x).Nodup:=(rS 4 0).2.1
theorem Bm {r:Row} {x:Int}:r.first x= -1↔∀c:Nat,c<4->(c:Int)≠x->r.sh c=false/\(c:Int)≠r.owner:=by
 have:=(rS (r:=r) (x:=x) 4 0).2.2;unfold Row.first
 rw[this];unfold Row.holds;grind
theorem Inv.Nx (h:Inv l r m V c N) (a:r.granted=false):r.told=false:=by
 cases e:r.told with
 |false=>rfl
 |true=>have:=h.told e;grind
def Row.say (r:Row) (b:Bool) (d:Ln):Row:={r with told:=b,d0:=d.1,d1:=d.2}
theorem Inv.say {b:Bool} {d:Ln} (h:Inv l r m V c N) (a:r.granted=true):Inv l (Row.say r b d) m V c N:=by
 constructor;exact⟨h.row.core,h.row.owner,h.row.waits,h.row.apart,h.row.want,h.row.still,h.row.gb⟩;exact h.ks;exact h.kg;intro _;exact a;exact h.nc;exact h.ex;exact h.pA;exact h.t1;exact h.t2;exact h.t3;exact h.t4;exact h.a1;exact h.a2;exact h.rq;exact h.rs;exact h.c1;exact h.c2;exact h.uW;exact h.gN;exact h.pN;exact h.rN;exact h.uN;exact h.c3;exact h.c5;exact h.k2
theorem Inv.yk (h:Inv l r m V c N) (_hb:r.busy=true) (o:r.granted=false) (j:r.quiet=true) (p:r.served.kind=0):Inv l r.free m V c N:=by
 have a:=fun x b=>h.calm j (x:=x) b;have f:∀i,uI r i=0/\uI r.free i=0:=fun i=>by unfold uI Row.free;simp[p]
 have g:∀i,qJ r i=0/\qJ r.free i=0:=fun i=>by unfold qJ Row.free;simp[o]
 constructor;exact vX h.row j;intro e;cases e;intro e;cases e;intro e;cases e;exact h.nc;exact h.ex;exact h.pA;intro i d;have:=h.t1 i d;rw[(f i).1] at this;rw[(f i).2];exact this;exact h.t2;exact h.t3;intro i d;have:=h.t4 i d;rw[(g i).1] at this;rw[(g i).2];exact this;exact h.a1;exact h.a2;exact h.rq;intro e;cases e;exact h.c1;exact h.c2;exact h.uW;exact h.gN;exact fun x b k=>absurd k (a x b).2;exact fun x b k=>absurd k (a x b).1;exact h.uN;exact h.c3;exact h.c5;intro e;cases e
theorem Inv.eA {d:Ln} (h:Inv l r m V c N) (hb:r.busy=true) (y:r.granted=false) (I:r.quiet=true) (hk:r.served.kind=1\/r.served.kind=2)
  (hd:HH l r c N r.served.core.toNat=0->d=V) (t:r.served.kind=1->∀j,j<4->HH l r c N j≠2/\HH l r c N j≠4):
  Inv l (r.eA l d).1 m V c ((r.eA l d).2++N)/\(r.eA l d).1.granted=true:=by
 have S:=fun x f=>h.calm I (x:=x) f
 obtain⟨i,F,p,E⟩:∃i:Nat,i<4/\r.served.core=(i:Int)/\r.served.core.toNat=i:=⟨r.served.core.toNat,by have:=h.row.core;omega,by have:=h.row.core;omega,rfl⟩
 have a:=rY (line:=l) (d:=d) (uV.mk h.row.core h.row.owner h.row.waits h.row.apart (h.row.want hb y) hb y) (by omega) I
 have z:uI r i=1:=by unfold uI;rw[aCx ⟨hb,y,by omega,p⟩]
 have has:(c i).kC=true:=by have:=h.t1 i F;cases f:(c i).kC<;>simp_all
 have hz:cU 8 i l N=0/\cU 9 i l N=0/\cU 4 i l N=0:=by
  have:=h.t1 i F;have O:=h.t4 i F;unfold qJ at O;rw[y] at O;rw[z,has] at this;simp at this O;omega
 have g0:∀j,qJ r j=0:=fun j=>by unfold qJ;simp[y]
 have J:=h.rs hb y (by omega)
 rw[E] at J
 have e8:∀x∈N,x.kind≠8:=fun x f k=>by
  have hb:=h.nc x f;obtain⟨j,b,T,_⟩:=dI hb.2;exact h.xn b (g0 j) f k T
 have R:∀j,j<4->(HH l r c N j=1↔r.sh j=true)/\(2<=HH l r c N j↔r.owner=(j:Int)):=fun j b=>h.c1 j b (by have:=h.t3 j b;rw[dQ I b] at this;simp at this;omega) (by have:=h.t4 j b;grind)
 have ζ:∀j,0<=HH l r c N j->HH l r c N j≠0->HH l r c N j=1\/2<=HH l r c N j:=fun j _ _=>by omega
 have ε:∀j,j<4->0<=HH l r c N j:=fun j b=>by have:=h.pA j b;unfold HH oZ;grind
 rw[E] at hd
 have main:∀(g:Row) (st:Int),g={r with owner:=g.owner,sh:=g.sh,granted:=true}->kH l g->(st=1\/st=2\/st=4)->(st=4↔(c i).aw=true)->
   (st=1->g.sh i=true/\HH l r c N i=0/\∀j,j<4->HH l r c N j≠2/\HH l r c N j≠4)->
   (st≠1->g.owner=(i:Int)/\∀j:Nat,j<4->g.sh j=false/\((j:Int)≠(i:Int)->HH l r c N j=0))->(st=2->HH l r c N i=0)->
   (∀j:Nat,j<4->j≠i->(g.sh j=r.sh j)/\(g.owner=(j:Int)↔r.owner=(j:Int)))->
   Inv l g m V c (r.mQ l st d::N):=by
  intro g st er a α q X Y Z γ
  have u:(r.mQ l st d).kind=8/\(r.mQ l st d).core=(i:Int)/\(r.mQ l st d).line=l:=⟨rfl,p,rfl⟩
  have A:∀k j,cU k j l (r.mQ l st d::N)=cU k j l N+if k=8/\j=i then 1 else 0:=fun k j=>by
   rw[bK];congr 1;simp only[u];grind
  have v:g.waits=r.waits/\g.busy=true/\g.granted=true/\g.asked=r.asked/\g.told=r.told/\g.served=r.served:=by grind
  have B:∀j,HH l g c (r.mQ l st d::N) j=HH l r c N j:=fun j=>by unfold HH pd;rw[A,aaa,v.1];rfl
  have es:∀j,uI g j=0:=fun j=>by unfold uI;rw[v.2.2.1];simp
  have o:∀x,x∈r.mQ l st d::N->x=r.mQ l st d\/x∈N:=fun x f=>List.mem_cons.1 f
  constructor
  case row=>exact a
  case ks=>grind
  case kg=>grind
  case told=>grind
  case nc=>intro x f;rcases o x f with rfl|f;exact⟨u.2.2,by rw[u.2.1];omega⟩;exact h.nc x f
  case ex=>exact h.ex
  case pA=>exact h.pA
  case t1=>
   intro j b
   have t:=h.t1 j b
   simp only[A,es,v.1]
   by_cases e:j=i
   .subst e;rw[z] at t;simp only[and_self,if_true,Int.reduceEq,false_and,if_false];simp;omega
   .have:uI r j=0:=by unfold uI;rw[aaa]
    simp[e];omega
  case t2=>intro j b;have t:=h.t2 j b;grind
  case t3=>intro j b;have t:=h.t3 j b;simp only[A,v.2.2.2.1];simp;exact t
  case t4=>
   intro j b
   have t:=h.t4 j b
   rw[g0] at t
   have η:qJ g j=if j=i then 1 else 0:=by
    unfold qJ;rw[v.2.2.1,v.2.2.2.2.2];by_cases e:j=i;grind;rw[aCw (fun K=>e (by omega)),aCw e]
   grind
  case a1=>simp only[B];exact h.a1
  case a2=>simp only[B];exact h.a2
  case rq=>rw[v.1];intro x f k1;exact h.rq x (f.imp (fun f=>(o x f).resolve_left (fun e=>by grind)) id) k1
  case rs=>grind
  case c1=>
   grind
  case c2=>grind
  case uW=>grind
  case gN=>
   intro x f k
   rcases o x f with rfl|f
   .simp only[B];rw[u.2.1,Int.toNat_natCast];exact⟨α,q,X,Y,Z,hd⟩
   grind
  case pN=>grind
  case rN=>grind
  case uN=>rw[v.1];intro x f k;exact h.uN x (f.imp (fun f=>(o x f).resolve_left (fun e=>by grind)) id) k
  case c3=>simp only[B];exact h.c3
  case c5=>simp only[B];exact fun t h2=>h.c5 t (fun x f=>h2 x (List.mem_cons_of_mem _ f))
  case k2=>grind
 unfold Row.eA at a ⊢
 by_cases k2:r.served.kind=2
 .rw[aCx k2] at a ⊢;refine⟨main _ 4 rfl a (by omega) (by grind) (by omega) ?_ (by omega) ?_,rfl⟩
  .intro _;refine⟨p,fun j b=>⟨rfl,fun e=>Classical.byContradiction fun e0=>?_⟩⟩;have s:=h.k2 hb y (by omega) j b (fun _=>by rw[p];exact e);rw[dQ I b] at s;grind
  .intro j b e;have s:=h.k2 hb y (by omega) j b (fun _=>by rw[p];omega);rw[dQ I b] at s;constructor
   .show false=r.sh j;cases f:r.sh j with
    |false=>rfl
    |true=>have:=s (.inl f);cases this
   .show r.served.core=(j:Int)↔r.owner=(j:Int);constructor
    .intro K;omega
    .intro K;have:=s (.inr K);cases this
 .rw[aCw k2] at a ⊢;have k1:r.served.kind=1:=by omega
  have q:(c i).aw=false:=by cases e:(c i).aw with|false=>rfl|true=>have:=J.2 e;omega
  have h0:=h.a2 i F has q
  have β:=R i F
  have δ:r.sh i=false:=by grind
  by_cases U:r.first r.served.core= -1
  .rw[aCx U] at a ⊢;have W:=Bm.1 U;have D:∀j,j<4->HH l r c N j=0:=fun j b=>by
    grind
   refine⟨main _ 2 rfl a (by omega) (by rw[q];simp) (by omega) ?_ (fun _=>h0) ?_,rfl⟩
   .intro _;refine⟨p,fun j b=>⟨?_,fun _=>D j b⟩⟩;show fO r.sh r.served.core false j=false;unfold fO;grind
   .intro j b e;have:=W j b (by omega);constructor
    .show fO r.sh r.served.core false j=r.sh j;unfold fO;grind
    grind
  .rw[aCw U] at a ⊢;refine⟨main _ 1 rfl a (by omega) (by rw[q];simp) ?_ (fun e=>absurd rfl e) (by omega) ?_,rfl⟩
   .intro _;refine⟨?_,h0,t k1⟩;show fO r.sh r.served.core true i=true;unfold fO;grind
   .intro j b e;constructor
    .show fO r.sh r.served.core true j=r.sh j;unfold fO;grind
    .exact Iff.rfl
end
section
variable {l:Nat} {r:Row} {m V:Ln} {c:bg} {N:List aH} {n:aH}
theorem Inv.S5 {i:Nat} (h:Inv l r m V c (n::N)) (g:n.kind=5) (b:i<4) (a:n.core=(i:Int)):
  r.asked i=true/\r.granted=false/\r.busy=true/\cU 5 i l N=0/\cU 11 i l N=0:=by
 have e:=h.nc n (by simp)
 have j:r.asked i=true:=by
  have:=h.t3 i b;rw[bK (k:=5),aCx ⟨g,a,e.1⟩] at this;grind
 have f:r.granted=false:=by
  cases f:r.granted with
  |false=>rfl
  |true=>have:=dQ (h.row.still (.inl f)) b;grind
 have d:r.busy=true:=by
  cases d:r.busy with
  |true=>rfl
  |false=>have:=dQ (h.row.still (.inr d)) b;grind
 have:=h.t3 i b
 rw[bK (k:=5),aCx ⟨g,a,e.1⟩,bK (k:=11),aaa,j] at this
 grind
theorem Inv.heard {r':Row} {F:Ln} {i:Nat} (h:Inv l r m V c (n::N)) (D:n.kind=5) (O:i<4) (t:n.core=(i:Int))
  (T:r'={r with owner:=r'.owner,sh:=r'.sh,asked:=fO r.asked n.core false}) (v:uV l r')
  (b:∀j:Nat,j<4->j≠i->(r'.sh j=r.sh j)/\(r'.owner=(j:Int)↔r.owner=(j:Int)))
  (g:(HH l r c (n::N) i=1↔r'.sh i=true)/\(2<=HH l r c (n::N) i↔r'.owner=(i:Int)))
  (R:(∀j,j<4->HH l r c (n::N) j≠3/\HH l r c (n::N) j≠4)->(∀x∈N,x.kind=5->x.gC=false)->F=V):Inv l r' F V c N:=by
 obtain⟨X,B,s,K,J⟩:=h.S5 D O t
 have Y:=h.nc n (by simp)
 have I:∀k j,cU k j l (n::N)=cU k j l N+if k=5/\j=i then 1 else 0:=fun k j=>by
  rw[bK];grind
 have em:∀x,x∈N->x∈n::N:=fun x a=>List.mem_cons_of_mem _ a
 have f:r'.waits=r.waits/\r'.busy=true/\r'.granted=false/\r'.asked=fO r.asked n.core false/\r'.told=r.told/\r'.served=r.served:=by grind
 have o:∀j,HH l r' c N j=HH l r c (n::N) j:=fun j=>by unfold HH pd;rw[I,aaa,f.1];rfl
 have z:∀j,r'.asked j=if j=i then false else r.asked j:=fun j=>by rw[f.2.2.2.1];unfold fO;grind
 have u:∀x∈N,x.kind=5\/x.kind=11->x.core≠(i:Int):=fun x a k e=>by
  rcases k with k|k<;>(have:=dM a k e (h.nc x (em x a)).1;omega)
 have g0:∀j,qJ r j=0/\qJ r' j=0:=fun j=>by unfold qJ;grind
 have S:∀x∈N,x.kind≠8:=fun x a k=>by
  have s:=h.nc x (em x a);obtain⟨j,d,A,_⟩:=dI s.2;exact h.xn d (g0 j).1 (em x a) k A
 have U:∀j,uI r' j=uI r j:=fun j=>by unfold uI;grind
 constructor
 case row=>exact v.Vc
 case ks=>rw[f.2.2.2.2.2];exact fun _=>h.ks s
 case kg=>grind
 case told=>rw[f.2.2.2.2.1,h.Nx B];intro e;cases e
 case nc=>exact fun x a=>h.nc x (em x a)
 case ex=>exact h.ex
 case pA=>exact h.pA
 case t1=>intro j d;have q:=h.t1 j d;grind
 case t2=>intro j d;have q:=h.t2 j d;grind
 case t3=>
  intro j d
  have q:=h.t3 j d
  grind
 case t4=>intro j d;have q:=h.t4 j d;grind
 case a1=>simp only[o];exact h.a1
 case a2=>simp only[o];exact h.a2
 case rq=>rw[f.1];exact fun x a=>h.rq x (a.imp (em x) id)
 case rs=>rw[f.2.2.2.2.2];exact fun _ _=>h.rs s B
 case c1=>
  intro j d K W
  rw[o]
  by_cases e:j=i
  .subst e;exact g
  .rw[(b j d e).1,(b j d e).2];exact h.c1 j d (by grind) (by grind)
 case c2=>simp only[o];exact h.c2
 case uW=>simp only[o];exact fun j d p x a=>h.uW j d p x (em x a)
 case gN=>grind
 case pN=>
  intro x a k
  have s:=h.nc x (em x a)
  have q:=h.pN x (em x a) k
  have p:=b x.core.toNat (by omega) (fun e=>u x a (.inr k) (by omega))
  rw[f.2.2.2.2.2,p.1]
  have y:((x.core.toNat:Nat):Int)=x.core:=by omega
  rw[y] at p
  rw[p.2];exact q
 case rN=>
  intro x a k
  have s:=h.nc x (em x a)
  have q:=h.rN x (em x a) k
  have p:=b x.core.toNat (by omega) (fun e=>u x a (.inl k) (by omega))
  have y:((x.core.toNat:Nat):Int)=x.core:=by omega
  rw[y] at p
  rw[f.2.2.2.2.2,o,p.2];exact q
 case uN=>rw[f.1];exact fun x a=>h.uN x (a.imp (em x) id)
 case c3=>simp only[o];exact h.c3
 case c5=>simp only[o];exact R
 case k2=>
  rw[f.2.2.2.2.2]
  intro _ _ k j d a oZ
  rw[z]
  by_cases e:j=i
  .subst e;exfalso;have E:=(h.rN n (by simp) D).1 k;rw[t,Int.toNat_natCast] at E;rw[E] at g;rcases oZ with oZ|oZ
   .have:=g.1.2 oZ;omega
   .have:=g.2.2 oZ;omega
  .rw[aCw e];refine h.k2 s B k j d a ?_;rw[(b j d e).1,(b j d e).2] at oZ;exact oZ
theorem Inv.mK (h:Inv l r m V c (n::N)) (R:n.kind=5):
  r.asked n.core.toNat=true/\Inv l (kJ.mK (r,m) l n).1.1 (kJ.mK (r,m) l n).1.2 V c ((kJ.mK (r,m) l n).2++N):=by
 have hc:=h.nc n (by simp)
 obtain⟨i,O,z,D⟩:=dI hc.2
 obtain⟨ha,I,F,h5,θ⟩:=h.S5 R O z
 refine⟨by rw[D];exact ha,?_⟩
 have S:=xI h.row hc.2 (by rw[D];exact ha)
 have ht:=h.Nx I
 have A:=h.rN n (by simp) R
 rw[D] at A
 have ι:∀j,j<4->0<=HH l r c (n::N) j:=fun j a=>by have:=h.pA j a;unfold HH oZ;split<;>(try split)<;>omega
 have μ:∀(s:Row) (m1:Ln),Inv l s m1 V c N->s.busy=true->s.granted=false->s.quiet=true->s.served=r.served->(∀j,HH l s c N j=HH l r c (n::N) j)->
   ∀j,j<4->(HH l r c (n::N) j=1↔s.sh j=true)/\(2<=HH l r c (n::N) j↔s.owner=(j:Int)):=fun s m1 E b1 g1 q1 _ X j a=>by
  rw[<-X]
  exact E.c1 j a (by have:=E.t3 j a;rw[dQ q1 a] at this;simp at this;omega) (by have:=E.t4 j a;unfold qJ at this;rw[g1] at this;simp at this;omega)
 unfold kJ.mK
 simp only
 by_cases B:r.served.kind=1
 .have hr:=A.2.1 B;have hq:∀s:Row,s.asked=fO r.asked n.core false->s.quiet=true:=fun s e=>by
   have U:∀j:Nat,j<4->s.asked j=false:=fun j a=>by
    rw[e];unfold fO;by_cases ej:(j:Int)=n.core;rw[aCx ej];rw[aCw ej];cases v:r.asked j with
    |false=>rfl
    |true=>
     have J:=h.t3 j a;rw[v] at J;simp at J;exfalso;by_cases hp:cU 11 j l (n::N)=0;obtain⟨x,v,k,ex,_⟩:=Dl (k:=5) (i:=j) (l:=l) (N:=n::N) (by omega);have:=((h.rN x v k).2.1 B).1;omega;obtain⟨x,v,k,ex,_⟩:=Dl (Nat.pos_of_ne_zero hp);have:=(h.pN x v k).2.2 B;omega
   unfold Row.quiet;rw[U 0 (by omega),U 1 (by omega),U 2 (by omega),U 3 (by omega)];rfl
  have δ:r.yO m n=m:=by unfold Row.yO;rw[aCw (fun e=>e.1 B)]
  rw[δ]
  rcases hr.2.2 with E|J
  .have f:r.heard n=(r.eF n).Lh n:=by unfold Row.heard;rw[aCw (fun e=>e B),aac,aCw (by rw[E.2];simp)]
   have p:HH l r c (n::N) i=1:=by grind
   have g:Inv l (r.heard n) m V c N:=by
    refine h.heard R O z (by rw[f];rfl) S (fun j a e=>?_) ?_ (fun y Z=>?_);rw[f];constructor;show fO r.sh n.core (valid n.state) j=r.sh j;unfold fO;grind;show(-1:Int)=(j:Int)↔r.owner=(j:Int);grind;rw[f,p];constructor;show _↔fO r.sh n.core (valid n.state) i=true;unfold fO;rw[aac,E.1];simp[valid];show _↔(-1:Int)=(i:Int);grind;exact h.c5 y (fun x v k=>by grind)
   have b:=hq (r.heard n) (by rw[f];rfl)
   have t:(r.heard n).busy=true:=by rw[f];exact F
   have q:(r.heard n).granted=false:=by rw[f];exact I
   have u:(r.heard n).served=r.served:=by rw[f];rfl
   have κ:(r.heard n).owner= -1:=by rw[f];rfl
   have ε:∀j,j<4->¬2<=HH l (r.heard n) c N j:=fun j a e=>by have:=g.own a e;grind
   unfold Row.rest
   rw[aCx b,u,aaa]
   have o:(r.heard n).tG m=m:=by unfold Row.tG;rw[aCw];rw[g.Nx q];simp
   rw[o]
   exact(g.eA t q b (by grind) (fun _=>g.c5 (fun j a=>by grind) (fun x v k=>absurd k (g.calm b v).1)) (fun _ j a=>by have:=ε j a;omega)).1
  .have f:r.heard n=(r.eF n).sG n:=by unfold Row.heard;rw[aCw (fun e=>e B),aaa,aCx J.2]
   have p:HH l r c (n::N) i=3:=by grind
   have ζ:r.owner=(i:Int):=by omega
   have γ:uV l (r.eF n):=⟨h.row.core,h.row.owner,h.row.waits,h.row.apart,h.row.want F I,F,I⟩
   have g:Inv l (r.eF n) m V c N:=by
    refine h.heard R O z rfl γ (fun j a e=>⟨rfl,Iff.rfl⟩) ?_ (fun y _=>by grind);rw[p];constructor;constructor;intro e;omega;intro e;have:=h.row.apart i O e;omega;exact⟨fun _=>ζ,fun _=>by omega⟩
   have b:=hq (r.eF n) rfl
   have T:=hq (r.heard n) (by rw[f];rfl)
   have K:=g.eA (d:=(n.d0,n.d1)) F I b (.inl B) (fun _=>A.2.2 J.2) (fun _ j a=>by
    by_cases e:j=i;rw[e];unfold HH pd at p ⊢;rw[bK,aaa] at p;show oZ (c i) (cU 3 i l N+cU 3 i l r.waits)≠2/\oZ (c i) (cU 3 i l N+cU 3 i l r.waits)≠4;grind;have:¬2<=HH l (r.eF n) c N j:=fun Y=>by have:=g.own a Y;have:r.owner=(j:Int):=this;omega
    omega)
   unfold Row.rest
   rw[aCx T,f,aCw (by show ¬r.served.kind=0;omega)]
   have o:((r.eF n).sG n).tG m=(n.d0,n.d1):=by rfl
   rw[o]
   have α:((r.eF n).sG n).eA l (n.d0,n.d1)=(Row.say ((r.eF n).eA l (n.d0,n.d1)).1 true (n.d0,n.d1),((r.eF n).eA l (n.d0,n.d1)).2):=by
    unfold Row.eA;have X:((r.eF n).sG n).served.kind=(r.eF n).served.kind:=rfl;have Y:((r.eF n).sG n).first ((r.eF n).sG n).served.core=(r.eF n).first (r.eF n).served.core:=rfl
    rw[X,Y];split;rfl;split<;>rfl
   rw[α]
   exact K.1.say K.2
 .have p:=A.1 B;have f:r.heard n=(r.eF n).leave n.core:=by unfold Row.heard;rw[aCx B]
  have g:Inv l (r.heard n) (r.yO m n) V c N:=by
   refine h.heard R O z (by rw[f];rfl) S (fun j a e=>?_) ?_ (fun y Z=>?_);rw[f];constructor;show fO r.sh n.core false j=r.sh j;unfold fO;grind;show(if r.owner=n.core then(-1:Int) else r.owner)=(j:Int)↔r.owner=(j:Int);grind;rw[f,p];constructor;show _↔fO r.sh n.core false i=true;unfold fO;grind;show _↔(if r.owner=n.core then(-1:Int) else r.owner)=(i:Int);grind;unfold Row.yO;by_cases hd:n.gC=true;grind;rw[aCw (fun e=>hd e.2)];exact h.c5 y (fun x v k=>by grind)
  have t:(r.heard n).busy=true:=by rw[f];exact F
  have q:(r.heard n).granted=false:=by rw[f];exact I
  have u:(r.heard n).served=r.served:=by rw[f];rfl
  have ν:=h.ks F
  unfold Row.rest
  by_cases b:(r.heard n).quiet=true
  .rw[aCx b];by_cases W:(r.heard n).served.kind=0
   .rw[aCx W];exact g.yk t q b W
   .rw[aCw W];rw[u] at W;have k2:r.served.kind=2:=by omega
    have o:(r.heard n).tG (r.yO m n)=r.yO m n:=by unfold Row.tG;rw[aCw];rw[g.Nx q];simp
    rw[o]
    have η:=fun j a=>g.c1 j a (by have:=g.t3 j a;rw[dQ b a] at this;simp at this;omega) (by have:=g.t4 j a;unfold qJ at this;grind)
    refine(g.eA t q b (by grind) (fun h0=>g.c5 (fun j a=>?_) (fun x v k=>absurd k (g.calm b v).1)) (fun e=>by rw[u] at e;omega)).1
    by_cases e:(j:Int)=(r.heard n).served.core
    .grind
    .have β:=g.k2 t q (by rw[u];omega) j a (fun _=>e);rw[dQ b a] at β;grind
  grind
end
end Go.Pc
