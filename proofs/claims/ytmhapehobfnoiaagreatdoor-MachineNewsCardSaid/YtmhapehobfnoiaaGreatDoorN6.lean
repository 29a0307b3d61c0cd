/- A part of the proof. -/
import Derived.Test.YtmhapehobfnoiaaGreatDoorN4
import Derived.IntWalk
import Derived.KernelRfl
namespace Go.Ab
open Go.RowKit
section
inductive Tok where
 |free
 |mt (e:TypeId) (x:Bool) (n:Nat)
 |Hf (b:jD)
structure bP where
 cell:Nat->Nat->Option Value
 tok:Nat->Option Tok
def Jd:jD->Bool
 |.cells ..=>false
 |_=>true
structure bP.In (r:bP) (h:AH):Prop where
 cell:∀b o v,r.cell b o=some v->h.base<=b/\∃c e x,h.get b=some (.cells c e (0,0) x)/\c[o]?=some v
 free:∀b,r.tok b=some .free->h.base<=b/\b<h.next/\h.get b=none
 mt:∀b e x n,r.tok b=some (.mt e x n)->h.base<=b/\∃c,h.get b=some (.cells c e (0,0) x)/\c.length=n
 Hf:∀b o,r.tok b=some (.Hf o)->h.base<=b/\h.get b=some o/\Jd o=true
structure bP.qE (r s:bP):Prop where
 cell:∀b o,r.cell b o=none\/s.cell b o=none
 tok:∀b,r.tok b=none\/s.tok b=none
def bP.add (r s:bP):bP:=⟨fun b o=>(r.cell b o).or (s.cell b o),fun b=>(r.tok b).or (s.tok b)⟩
def bP.emp:bP:=⟨fun _ _=>none,fun _=>none⟩
theorem bP.ext' {r s:bP} (c:∀b o,r.cell b o=s.cell b o) (g:∀b,r.tok b=s.tok b):r=s:=by
 cases r;cases s;simp only[bP.mk.injEq];grind
theorem E2 {α:Type} {a b:Option α} (h:a=none\/b=none):a.or b=b.or a:=by
 rcases h with h|h<;>subst h<;>simp
theorem or_none {α:Type} {a b:Option α} (h:a.or b=none):a=none/\b=none:=by cases a<;>simp_all
theorem bP.qE.symm {r s:bP} (d:r.qE s):s.qE r:=⟨fun b o=>(d.cell b o).symm,fun b=>(d.tok b).symm⟩
theorem bP.add_comm {r s:bP} (d:r.qE s):r.add s=s.add r:=bP.ext' (fun b o=>E2 (d.cell b o)) (fun b=>E2 (d.tok b))
theorem bP.add_assoc {r s t:bP}:(r.add s).add t=r.add (s.add t):=bP.ext' (fun b o=>by simp[bP.add,Option.or_assoc]) (fun b=>by simp[bP.add,Option.or_assoc])
theorem bP.fG {r s t:bP}:r.qE (s.add t)↔r.qE s/\r.qE t:=by
 constructor;intro d;refine⟨⟨fun b o=>?_,fun b=>?_⟩,⟨fun b o=>?_,fun b=>?_⟩⟩;rcases d.cell b o with h|h;exact .inl h;exact .inr (or_none h).1;rcases d.tok b with h|h;exact .inl h;exact .inr (or_none h).1;rcases d.cell b o with h|h;exact .inl h;exact .inr (or_none h).2;rcases d.tok b with h|h;exact .inl h;exact .inr (or_none h).2;intro⟨d1,d2⟩;refine⟨fun b o=>?_,fun b=>?_⟩;rcases d1.cell b o with h|h;exact .inl h;rcases d2.cell b o with c|c;exact .inl c;exact .inr (by simp[bP.add,h,c]);rcases d1.tok b with h|h;exact .inl h;rcases d2.tok b with c|c;exact .inl c;exact .inr (by simp[bP.add,h,c])
theorem bP.dV {r:bP}:bP.emp.add r=r:=bP.ext' (fun _ _=>by simp[bP.add,bP.emp]) (fun _=>by simp[bP.add,bP.emp])
theorem bP.cF {r:bP}:bP.emp.qE r:=⟨fun _ _=> .inl rfl,fun _=> .inl rfl⟩
theorem bP.eP {r s:bP} {h:AH} (d:r.qE s):(r.add s).In h↔r.In h/\s.In h:=by
 have g:∀b o v,r.cell b o=some v->(r.add s).cell b o=some v:=fun b o v c=>by simp[bP.add,c]
 have c2:∀b o v,s.cell b o=some v->(r.add s).cell b o=some v:=fun b o v c=>by
  rcases d.cell b o with h|h;simp[bP.add,h,c];grind
 have t1:∀b v,r.tok b=some v->(r.add s).tok b=some v:=fun b v c=>by simp[bP.add,c]
 have t2:∀b v,s.tok b=some v->(r.add s).tok b=some v:=fun b v c=>by
  rcases d.tok b with h|h;simp[bP.add,h,c];grind
 have c3:∀b o v,(r.add s).cell b o=some v->r.cell b o=some v\/s.cell b o=some v:=fun b o v c=>by
  simp only[bP.add] at c;cases hr:r.cell b o with
  |none=>grind
  |some u=>grind
 have t3:∀b v,(r.add s).tok b=some v->r.tok b=some v\/s.tok b=some v:=fun b v c=>by
  simp only[bP.add] at c;cases hr:r.tok b with
  |none=>grind
  |some u=>grind
 constructor;intro i;exact⟨⟨fun b o v c=>i.cell b o v (g _ _ _ c),fun b c=>i.free b (t1 _ _ c),fun b e x n c=>i.mt b e x n (t1 _ _ c),fun b o c=>i.Hf b o (t1 _ _ c)⟩,
     ⟨fun b o v c=>i.cell b o v (c2 _ _ _ c),fun b c=>i.free b (t2 _ _ c),fun b e x n c=>i.mt b e x n (t2 _ _ c),fun b o c=>i.Hf b o (t2 _ _ c)⟩⟩
 intro⟨i,j⟩;refine⟨fun b o v c=>?_,fun b c=>?_,fun b e x n c=>?_,fun b o c=>?_⟩;rcases c3 _ _ _ c with h|h;exact i.cell b o v h;exact j.cell b o v h;rcases t3 _ _ c with h|h;exact i.free b h;exact j.free b h;rcases t3 _ _ c with h|h;exact i.mt b e x n h;exact j.mt b e x n h;rcases t3 _ _ c with h|h;exact i.Hf b o h;exact j.Hf b o h
abbrev HP:=bP->Prop
def star:List HP->bP->Prop
 |[],r=>r=bP.emp
 |A::L,r=>∃c g,A c/\star L g/\c.qE g/\r=c.add g
theorem A7 {L L':List HP} (p:L.Perm L'):∀r,star L r->star L' r:=by
 induction p with
 |nil=>exact fun _ h=>h
 |cons A _ w=>exact fun r ⟨c,m,g,q,i,j⟩=>⟨c,m,g,w _ q,i,j⟩
 |swap A B L=>
  intro r ⟨c,m,g,⟨r3,o,s,t,u,v⟩,i,j⟩;subst v;subst j;obtain⟨d1,d2⟩:=bP.fG.1 i;refine⟨r3,c.add o,s,⟨c,o,g,t,d2,rfl⟩,bP.fG.2 ⟨d1.symm,u⟩,?_⟩;rw[<-bP.add_assoc,<-bP.add_assoc,bP.add_comm d1]
 |trans _ _ z C=>grind
theorem fD {L M:List HP}:∀{r},star (L++M) r↔∃c g,star L c/\star M g/\c.qE g/\r=c.add g:=by
 induction L with
 |nil=>intro r;exact⟨fun h=>⟨bP.emp,r,rfl,h,bP.cF,bP.dV.symm⟩,fun⟨c,g,j,m,o,i⟩=>by cases j;rw[bP.dV] at i;subst i;exact m⟩
 |cons A L v=>
  intro r;constructor;intro⟨c,g,j,m,o,i⟩;obtain⟨r3,q,s,t,u,w⟩:=v.1 m;subst w;obtain⟨d1,d2⟩:=bP.fG.1 o;exact⟨c.add r3,q,⟨c,r3,j,s,d1,rfl⟩,t,(bP.fG.2 ⟨d2.symm,u.symm⟩).symm,by rw[i,bP.add_assoc]⟩;intro⟨c,g,⟨r3,q,j,m,o,i⟩,s,t,u⟩;subst i;obtain⟨d1,d2⟩:=bP.fG.1 t.symm;exact⟨r3,q.add g,j,v.2 ⟨q,g,m,s,d2.symm,rfl⟩,bP.fG.2 ⟨o,d1.symm⟩,by rw[u,bP.add_assoc]⟩
structure Bg where
 base:Nat
 old:Nat->Option jD
structure Hs (G:Bg) (h:AH) (L:List HP):Prop where
 base:h.base=G.base
 old:h.old=G.old
 wf:h.base<=h.next
 fr:∀i,h.next<=i->h.get i=none
 res:∃r,star L r/\r.In h
variable {P:Program} {K:FuncId->List Value->Option fC} {G:Bg} {h:AH} {L L' M:List HP}
theorem Hs.perm (c:Hs G h L) (p:L.Perm L'):Hs G h L':=⟨c.base,c.old,c.wf,c.fr,let⟨r,g,i⟩:=c.res;⟨r,A7 p r g,i⟩⟩
theorem Hs.tail {A:HP} (c:Hs G h (A::L)):Hs G h L:=⟨c.base,c.old,c.wf,c.fr,let⟨_,⟨_,o,_,g,i,j⟩,m⟩:=c.res;⟨o,g,((bP.eP i).1 (j▸m)).2⟩⟩
theorem Hs.imp {A:HP} {B:List HP} (c:Hs G h (A::L)) (k:∀r,A r->star B r):Hs G h (B++L):=⟨c.base,c.old,c.wf,c.fr,let⟨r,⟨g,s,i,j,m,o⟩,q⟩:=c.res;⟨r,fD.2 ⟨g,s,k g i,j,m,o⟩,q⟩⟩
theorem Hs.join {A:List HP} {B:HP} (c:Hs G h (A++L)) (k:∀r,star A r->B r):Hs G h (B::L):=⟨c.base,c.old,c.wf,c.fr,let⟨r,g,q⟩:=c.res;let⟨i,s,g,j,m,o⟩:=fD.1 g;⟨r,⟨i,s,k i g,j,m,o⟩,q⟩⟩
class Has {α:Type} (R:α->HP) (L:List HP) (a:outParam α) (L':outParam (List HP)):Prop where
 perm:L.Perm (R a::L')
instance (priority:=low) Has.there {α:Type} {R:α->HP} {A:HP} {a:α} [k:Has R L a L']:Has R (A::L) a (A::L'):=⟨(k.perm.cons A).trans (List.Perm.swap _ _ _)⟩
instance (priority:=high) Has.here {α:Type} {R:α->HP} {a:α}:Has R (R a::L) a L:=⟨List.Perm.refl _⟩
instance (priority:=high) Has.app {α:Type} {R:α->HP} {A:HP} {c g:List HP} {a:α} [k:Has R (A::(c++g)) a L']:Has R ((A::c)++g) a L':=k
instance (priority:=high) Has.vf {α:Type} {R:α->HP} {c:List HP} {a:α} [k:Has R c a L']:Has R ([]++c) a L':=k
theorem Hs.get {α:Type} {R:α->HP} {a:α} (c:Hs G h L) [k:Has R L a L']:Hs G h (R a::L'):=c.perm k.perm
def zQ (b o:Nat) (c:List Value):bP:=⟨fun i g=>if i=b/\o<=g then c[g - o]? else none,fun _=>none⟩
def aR (b o:Nat) (c:List Value):HP:=fun r=>r=zQ b o c
def mt (b:Nat) (m:TypeId×Bool×Nat):HP:=fun r=>r=⟨fun _ _=>none,fun c=>if c=b then some (.mt m.1 m.2.1 m.2.2) else none⟩
def ot (b:Nat) (o:jD):HP:=fun r=>r=⟨fun _ _=>none,fun c=>if c=b then some (.Hf o) else none⟩
def xr (c n:Nat) (D:List Nat):HP:=fun r=>r=⟨fun _ _=>none,fun b=>if c<=b/\b<c+n/\(b - c)∉D then some .free else none⟩
theorem lA {b o:Nat} {c:List Value} {g o':Nat}:(zQ b o c).cell g o'=if g=b/\o<=o' then c[o' - o]? else none:=rfl
theorem Cs {b o:Nat} {c d:List Value}:zQ b o (c++d)=(zQ b o c).add (zQ b (o+c.length) d):=by
 refine bP.ext' (fun g i=>?_) (fun _=>rfl);simp only[bP.add,lA];grind
theorem Vm {b o:Nat} {c d:List Value}:(zQ b o c).qE (zQ b (o+c.length) d):=by
 refine⟨fun g i=>?_,fun _=> .inl rfl⟩;simp only[lA];grind
theorem vP {b o:Nat} {c d:List Value} (r:bP):aR b o (c++d) r↔star [aR b o c,aR b (o+c.length) d] r:=by
 constructor;intro t;cases t;exact⟨_,_,rfl,⟨_,bP.emp,rfl,rfl,bP.cF.symm,rfl⟩,by rw[bP.add_comm bP.cF.symm,bP.dV];exact Vm,by rw[bP.add_comm (s:=bP.emp) bP.cF.symm,bP.dV,Cs]⟩;intro⟨w,z,i,⟨r3,A,j,m,v,q⟩,u,g⟩;cases i;cases j;cases m;subst q;rw[bP.add_comm (s:=bP.emp) bP.cF.symm,bP.dV] at g;rw[<-Cs] at g;exact g
theorem Hs.split {b o:Nat} {c d:List Value} (g:Hs G h (aR b o (c++d)::L)):Hs G h (aR b o c::aR b (o+c.length) d::L):=g.imp (B:=[_,_]) fun r=>(vP r).1
theorem Hs.Tg {b o o':Nat} {c d:List Value} (i:Hs G h (aR b o c::aR b o' d::L)) (g:o'=o+c.length):Hs G h (aR b o (c++d)::L):=by
 subst g;exact Hs.join (A:=[_,_]) i fun r=>(vP r).2
theorem Hs.cellAt {b o j:Nat} {c:List Value} {v:Value} (i:Hs G h (aR b o c::L)) (u:c[j]?=some v):
  G.base<=b/\∃g e x,h.get b=some (.cells g e (0,0) x)/\g[o+j]?=some v:=by
 obtain⟨_,⟨w,z,m,t,q,r⟩,s⟩:=i.res
 cases m
 subst r
 have:=((bP.eP q).1 s).1.cell b (o+j) v (by rw[lA,aCx ⟨rfl,by omega⟩];grind)
 rw[i.base] at this
 exact this
theorem Hs.cells {b o:Nat} {c:List Value} (q:Hs G h (aR b o c::L)) (m:0<c.length):
  G.base<=b/\∃i e x,h.get b=some (.cells i e (0,0) x)/\o+c.length<=i.length/\∀j,j<c.length->i[o+j]?=c[j]?:=by
 obtain⟨r,i,e,x,s,w⟩:=q.cellAt (j:=0) (List.getElem?_eq_getElem m)
 have g:∀j,j<c.length->i[o+j]?=c[j]?:=fun j u=>by
  obtain⟨_,c2,v,B,t,A⟩:=q.cellAt (j:=j) (List.getElem?_eq_getElem u);grind
 refine⟨r,i,e,x,s,?_,g⟩
 have z:=g (c.length - 1) (by omega)
 grind
theorem bP.In.of {r:bP} {h h':AH} (i:r.In h) (hb:h'.base=h.base) (t:h.next<=h'.next) (s:∀b,(r.tok b≠none\/∃o,r.cell b o≠none)->h'.get b=h.get b):r.In h' where
 cell:=fun b o v g=>by
  obtain⟨j,c,e,x,m,q⟩:=i.cell b o v g;grind
 free:=fun b g=>by
  obtain⟨j,m,q⟩:=i.free b g;grind
 mt:=fun b e x n g=>by
  obtain⟨j,c,m,q⟩:=i.mt b e x n g;grind
 Hf:=fun b o g=>by
  obtain⟨j,m,q⟩:=i.Hf b o g;grind
theorem AH.zU {h:AH} {i:Nat} {o:Option jD}:(h.set i o).old=h.old:=by rw[AH.Bu];split<;>rfl
theorem Hs.write {b o j:Nat} {c vs:List Value} (u:Hs G h (aR b o c::L)) (hl:j+vs.length<=c.length) (hv:vs.all dR=true) (F:0<c.length):
  ∃N,cB h ⟨b,o+j,none⟩ vs=some N/\Hs G N (aR b o (bJ c j vs)::L):=by
 obtain⟨X,w,e,x,A,S,z⟩:=u.cells F
 have t:h.base<=b:=by rw[u.base];exact X
 refine⟨h.set b (some (.cells (bJ w (o+j) vs) e (0,0) x)),?_,?_⟩
 .simp only[cB,Option.isSome_none,Bool.false_or,hv,Bool.not_true,Bool.or_false,A];grind
 .obtain⟨_,⟨r1,J,h1,C,D,V⟩,W⟩:=u.res;cases h1;subst V;obtain⟨i1,i2⟩:=(bP.eP D).1 W;have r:∀i,(h.set b (some (.cells (bJ w (o+j) vs) e (0,0) x))).get i=if i=b then some (.cells (bJ w (o+j) vs) e (0,0) x) else h.get i:=fun i=>AH.fK t
  have I:∀k,(bJ w (o+j) vs)[k]?=if o+j<=k/\k<o+j+vs.length then vs[k - (o+j)]? else w[k]?:=fun k=>by
   unfold bJ;by_cases h1:k<o+j;grind;by_cases C:k<o+j+vs.length;grind;rw[aaa,List.getElem?_append_right (by simp;omega)];simp only[List.length_append,List.length_take,List.getElem?_drop];congr 1;omega
  have H:∀k,(bJ c j vs)[k]?=if j<=k/\k<j+vs.length then vs[k - j]? else c[k]?:=fun k=>by
   unfold bJ;by_cases h1:k<j;grind;by_cases C:k<j+vs.length;grind;rw[aaa,List.getElem?_append_right (by simp;omega)];simp only[List.length_append,List.length_take,List.getElem?_drop];congr 1;omega
  have T:(bJ c j vs).length=c.length:=by simp[bJ];omega
  have O:(zQ b o (bJ c j vs)).qE J:=by
   refine⟨fun m q=>?_,fun _=> .inl rfl⟩;rcases D.cell m q with h|h;left;rw[lA] at h ⊢;grind;exact .inr h
  have Y:b<h.next:=by
   rcases Nat.lt_or_ge b h.next with h1|h1
   exact h1;rw[u.fr b h1] at A;cases A
  refine⟨by simp;exact u.base,by rw[AH.zU];exact u.old,by simp;exact u.wf,fun i Q=>by simp at Q;rw[r,aaa];exact u.fr i Q,_,⟨_,J,rfl,C,O,rfl⟩,(bP.eP O).2 ⟨?_,?_⟩⟩
  .refine⟨fun m q v g=>?_,fun _ B=>by simp[zQ] at B,fun _ _ _ _ B=>by simp[zQ] at B,fun _ _ B=>by simp[zQ] at B⟩;rw[lA] at g;split at g
   .rename_i Z;obtain⟨rfl,ho⟩:=Z;refine⟨by simp;exact t,_,e,x,by rw[r,aCx rfl],?_⟩;rw[I];rw[H] at g;split at g
    .rename_i R;rw[aac,show q - (o+j)=q - o - j by omega];exact g
    .rename_i R;rw[aaa];have E:q - o<c.length:=(List.getElem?_eq_some_iff.1 g).1;have:=z (q - o) E;rw[show o+(q - o)=q by omega] at this;rw[this];exact g
   .cases g
  .have α:∀m q v,J.cell m q=some v->m=b->¬(o+j<=q/\q<o+j+vs.length):=by
    intro m q v g s R;subst s;rcases D.cell m q with h|h;rw[lA,aCx ⟨rfl,by omega⟩,List.getElem?_eq_none_iff] at h;omega;grind
   refine⟨fun m q v g=>?_,fun m g=>?_,fun m U x' n g=>?_,fun m ob g=>?_⟩
   .obtain⟨g1,c2,e2,x2,g2,g3⟩:=i2.cell m q v g;refine⟨by simp;exact g1,?_⟩;grind
   .obtain⟨g1,g2,g3⟩:=i2.free m g;refine⟨by simp;exact g1,by simp;exact g2,?_⟩;grind
   .obtain⟨g1,c2,g2,g3⟩:=i2.mt m U x' n g;refine⟨by simp;exact g1,?_⟩;rw[r];by_cases s:m=b
    .rw[aCx s];rw[s,A] at g2;cases g2;exact⟨_,rfl,by simp[bJ];omega⟩
    grind
   .obtain⟨g1,g2,g3⟩:=i2.Hf m ob g;refine⟨by simp;exact g1,?_,g3⟩;rw[r,aCw (by intro s;subst s;rw[A] at g2;cases g2;simp[Jd] at g3)];exact g2
theorem T7 {r:bP} {h:AH} {i:Nat} (q:r.In h) (m:h.get i=none) (s:r.tok i=none) {c:List Value} {t:Option Tok}:
  (⟨fun b o=>if b=i then c[o]? else none,fun b=>if b=i then t else none⟩:bP).qE r:=by
 refine⟨fun b o=>?_,fun b=>?_⟩
 .by_cases j:b=i
  .right;subst j;cases hc:r.cell b o with
   |none=>rfl
   |some v=>obtain⟨_,_,_,_,g,_⟩:=q.cell b o v hc;rw[m] at g;cases g
  .left;simp[j]
 grind
def jJ (i:Nat) (c:List Value) (t:Option Tok):bP:=⟨fun b o=>if b=i then c[o]? else none,fun b=>if b=i then t else none⟩
theorem lB {i:Nat} {c:List Value} {e:TypeId} {x:Bool}:star [aR i 0 c,mt i (e,x,c.length)] (jJ i c (some (.mt e x c.length))):=by
 refine⟨zQ i 0 c,_,rfl,⟨_,bP.emp,rfl,rfl,bP.cF.symm,rfl⟩,?_,?_⟩;rw[bP.add_comm (s:=bP.emp) bP.cF.symm,bP.dV];exact⟨fun _ _=> .inr rfl,fun _=> .inl rfl⟩;rw[bP.add_comm (s:=bP.emp) bP.cF.symm,bP.dV];refine bP.ext' (fun b o=>?_) (fun b=>?_);simp[jJ,bP.add,zQ];simp[jJ,bP.add,zQ]
theorem Hs.new {c:List Value} {e:TypeId} {x:Bool} (u:Hs G h L):Hs G (h.alloc (.cells c e (0,0) x)) (aR h.next 0 c::mt h.next (e,x,c.length)::L):=by
 obtain⟨r,E,z⟩:=u.res;have w:h.get h.next=none:=u.fr _ (Nat.le_refl _)
 have A:r.tok h.next=none:=by
  cases ht:r.tok h.next with
  |none=>rfl
  |some t=>
   cases t with
   |free=>have:=(z.free _ ht).2.1;omega
   |mt D H n=>obtain⟨_,_,g,_⟩:=z.mt _ _ _ _ ht;grind
   |Hf o=>obtain⟨_,g,_⟩:=z.Hf _ _ ht;grind
 have C:(jJ h.next c (some (.mt e x c.length))).qE r:=T7 z w A;have m:∀j,(h.alloc (.cells c e (0,0) x)).get j=if j=h.next then some (.cells c e (0,0) x) else h.get j:=fun j=>AH.qG u.wf
 refine⟨u.base,u.old,Nat.le_succ_of_le u.wf,fun i F=>by simp at F;rw[m,aaa];exact u.fr i (by omega),(jJ h.next c (some (.mt e x c.length))).add r,(fD (L:=[aR h.next 0 c,mt h.next (e,x,c.length)])).2 ⟨_,r,lB,E,C,rfl⟩,(bP.eP C).2 ⟨?_,?_⟩⟩;refine⟨fun b o v q=>?_,fun b q=>?_,fun b D H n q=>?_,fun b o q=>?_⟩;simp only[jJ] at q;split at q;rename_i s;subst s;exact⟨by simp;exact u.wf,c,e,x,by rw[m,aCx rfl],q⟩;cases q;simp only[jJ] at q;grind;simp only[jJ] at q;split at q;rename_i s;subst s;cases q;exact⟨by simp;exact u.wf,c,by rw[m,aCx rfl],rfl⟩;cases q;simp only[jJ] at q;grind;refine z.of rfl (by simp) fun b s=>?_;rw[m,aCw];intro B;subst B;rcases s with s|⟨o,s⟩;exact s A;apply s;cases hc:r.cell h.next o with
 |none=>rfl
 |some v=>obtain⟨_,_,_,_,g,_⟩:=z.cell _ o v hc;grind
end
end Go.Ab
section
namespace Go.Ab
variable {P:Program} {K:FuncId->List Value->Option fC} {G:Bg} {h:AH} {L L' M:List HP}
theorem Has.of {α:Type} {R:α->HP} {a:α} (m:Has R L a L') (c:Hs G h L):Hs G h (R a::L'):=c.perm m.perm
def yC (h:AH) (_i:Nat) (e:TypeId) (l:List Value) (n c:Nat) (k:Value->AH->Prop):Prop:=Cd h (.cells l e (0,0) true) fun p g=>k (.slice (some ⟨p,0,none⟩) n c) g
def kI (h:AH) (r:Nat) (_i:Nat) (e:TypeId) (l:List Value) (n c:Nat) (k:Value->AH->Prop):Prop:=kT h r (.cells l e (0,0) true) fun p g=>k (.slice (some ⟨p,0,none⟩) n c) g
def lp (P:Program) (f:FuncId) (p:List Nat) (n:Nat) (e:Nat->Value) (d:Nat) (st:LoopState) (pd:Option Code):jD:=
 .loop st pd f ((List.range n).map e) (zl (cd P f p)).2.1 (zl (cd P f p)).2.2.1 (zl (cd P f p)).2.2.2 d
theorem Hs.Rj (c:Hs G h L) {b:Nat} (hb:b<G.base):h.get b=G.old b:=by
 rw[AH.get_eq,c.base,aCx hb,c.old]
structure Ob (G:Bg) (b:Nat) (c:List Value):Prop where
 lt:b<G.base
 get:∃e fz x,G.old b=some (.cells c e fz x)
theorem aS {b o j:Nat} {c:List Value} {v:Value} {k:Value->Prop} (s:Hs G h L) [m:Has (aR b o) L c L'] (i:c[j]?=some v) (r:k v):bB (ld1 h (pt b o j)) k:=by
 obtain⟨_,t,e,x,q,g⟩:=(m.of s).cellAt i;exact⟨v,by simp[ld1,pt,q,g],r⟩
theorem ae (b:Nat) {j:Nat} {c:List Value} {v:Value} {k:Value->Prop} (s:Hs G h L) [m:Has (aR b 0) L c L'] (i:c[j]?=some v) (r:k v):bB (ld1 h (pt b 0 j)) k:=aS (b:=b) (o:=0) s i r
theorem qo {b o j:Nat} {c:List Value} {v:Value} {k:Value->Prop} (r:Hs G h L) (g:Ob G b c) (i:c[o+j]?=some v) (q:k v):bB (ld1 h (pt b o j)) k:=by
 obtain⟨e,s,x,m⟩:=g.get;exact⟨v,by simp[ld1,pt,r.Rj g.lt,m,i],q⟩
theorem cA {b o j n:Nat} {c l:List Value} {k:Value->Prop} (t:Hs G h L) [m:Has (aR b o) L c L'] (A:0<n) (q:(c.drop j).take n=l) (z:l.length=n) (s:k (.agg ⟨l⟩)):bB (A5 h n (pt b o j)) k:=by
 have g:j+n<=c.length:=by
  grind
 obtain⟨_,u,e,x,r,v,w⟩:=(m.of t).cells (by omega);refine⟨.agg ⟨l⟩,?_,s⟩;simp only[A5,pt,bM,Option.isSome_none,Bool.false_eq_true,if_false,r];rw[aac];simp only[Option.map_some,Option.some.injEq,Value.agg.injEq,Array.mk.injEq];rw[<-q];refine List.ext_getElem? fun i=>?_;grind
theorem an (b:Nat) {j n:Nat} {c l:List Value} {k:Value->Prop} (t:Hs G h L) [m:Has (aR b 0) L c L'] (q:(c.drop j).take n=l) (z:l.length=n) (s:k (.agg ⟨l⟩)) (A:0<n:=by decide):bB (A5 h n (pt b 0 j)) k:=cA (b:=b) (o:=0) t A q z s
theorem Ym {b o j n:Nat} {c l:List Value} {k:Value->Prop} (r:Hs G h L) (i:Ob G b c) (g:(c.drop (o+j)).take n=l) (t:l.length=n) (hb:o+j<=c.length) (q:k (.agg ⟨l⟩)):bB (A5 h n (pt b o j)) k:=by
 obtain⟨e,s,x,m⟩:=i.get;have:=congrArg List.length g;simp at this;exact⟨.agg ⟨l⟩,by simp[A5,pt,bM,r.Rj i.lt,m,g];omega,q⟩
def gZ:List Value->Nat->List Value->List Value
 |c,0,[]=>c
 |[],0,_::_=>[]
 |_::c,0,v::g=>v::gZ c 0 g
 |[],_+1,_=>[]
 |x::c,j+1,g=>x::gZ c j g
theorem lS:∀(c:List Value) (j:Nat) (vs:List Value),j+vs.length<=c.length->bJ c j vs=gZ c j vs
 |c,0,[],_=>by cases c<;>simp[bJ,gZ]
 |[],0,_::_,h=>by simp at h
 |x::c,0,v::vs,h=>by
  have:=lS c 0 vs (by simp at h ⊢;omega);simp only[gZ];rw[<-this];simp[bJ]
 |[],j+1,vs,h=>by simp at h
 |x::c,j+1,vs,h=>by
  have:=lS c j vs (by simp at h ⊢;omega);simp only[gZ];rw[<-this];simp only[bJ,List.take_succ_cons,List.cons_append];grind
theorem zo {b o j n:Nat} {c vs:List Value} {v:Value} {k:AH->Prop} (w:Hs G h L) [m:Has (aR b o) L c L'] (z:fI v=some vs) (u:vs.length=n) (q:Nat.ble (j+n) c.length=true) (hb:vs.all dR=true) (r:Nat.ble 1 c.length=true)
  (t:∀g,Hs G g (aR b o (gZ c j vs)::L')->k g):bB (I7 h n (pt b o j) v) k:=by
 have q:=Nat.le_of_ble_eq_true q
 obtain⟨g,s,i⟩:=(m.of w).write (j:=j) (vs:=vs) (by omega) hb (Nat.le_of_ble_eq_true r)
 rw[lS _ _ _ (by omega)] at i
 exact⟨g,by simp[I7,pt,z,u,s],t _ i⟩
theorem fA {cs:List Value} {e:TypeId} {k:Nat->AH->Prop} (j:Hs G h L) (i:∀p g,Hs G g (aR p 0 cs::L)->k p g):Cd h (.cells cs e (0,0) true) k:=
 i _ _ (let t:=j.new (c:=cs) (e:=e) (x:=true);(t.perm (List.Perm.swap _ _ _)).tail)
theorem y8 {cs:List Value} {e:TypeId} {v:Value} {k:Nat->AH->Prop} (i:Hs G h L) (j:fI v=some cs) (g:∀p c,Hs G c (aR p 0 cs::L)->k p c):bB (iZ e v) fun b=>Cd h b k:=
 ⟨.cells cs e (0,0) true,by simp[iZ,j],fA i g⟩
def Zv (r:Nat) (x:Nat×List Nat):HP:=xr r x.1 x.2
theorem ou {n:Nat} {k:Nat->AH->Prop} (c:Hs G h L) (C:∀r u,Hs G u (Zv r (n,[])::L)->k r u):qZ h n k:=by
 refine C _ _ ?_;obtain⟨r,A,j⟩:=c.res;have w:∀i,({h with next:=h.next+n}:AH).get i=h.get i:=fun i=>rfl;refine⟨c.base,c.old,Nat.le_trans c.wf (Nat.le_add_right _ _),fun i B=>by rw[w];exact c.fr i (Nat.le_trans (Nat.le_add_right _ _) B),_,⟨_,r,rfl,A,?_,rfl⟩,(bP.eP ?_).2 ⟨?_,?_⟩⟩;rotate_right;exact j.of rfl (Nat.le_add_right _ _) fun _ _=>rfl;have s:∀b,h.next<=b->r.tok b=none:=fun b q=>by
  cases ht:r.tok b with
  |none=>rfl
  |some t=>
   cases t with
   |free=>have:=(j.free _ ht).2.1;omega
   |mt z D n=>obtain⟨_,_,g,_⟩:=j.mt _ _ _ _ ht;rw[c.fr b q] at g;cases g
   |Hf o=>obtain⟨_,g,_⟩:=j.Hf _ _ ht;rw[c.fr b q] at g;cases g
 refine⟨fun _ _=> .inl rfl,fun b=>?_⟩;grind;have s:∀b,h.next<=b->r.tok b=none:=fun b q=>by
  cases ht:r.tok b with
  |none=>rfl
  |some t=>
   cases t with
   |free=>have:=(j.free _ ht).2.1;omega
   |mt z D n=>obtain⟨_,_,g,_⟩:=j.mt _ _ _ _ ht;rw[c.fr b q] at g;cases g
   |Hf o=>obtain⟨_,g,_⟩:=j.Hf _ _ ht;rw[c.fr b q] at g;cases g
 refine⟨fun _ _=> .inl rfl,fun b=>?_⟩;grind;refine⟨fun _ _ _ m=>(by cases m),fun b m=>?_,fun b e x n m=>?_,fun b o m=>?_⟩;simp only at m;split at m;rename_i v;have:=c.wf;exact⟨by grind,v.2.1,by rw[w];exact c.fr b v.1⟩;cases m;grind;grind
def Tc (c:Bool) (g:List Nat) (op:BinOp) (a b:Value) (q:Value->Prop):Prop:=c=true/\bB (Mx g op a b) q
def Xx (c:Bool) (h:AH) (n:Nat) (k:Nat->AH->Prop):Prop:=c=true/\qZ h n k
theorem iN {c:Bool} {n:Nat} {k:Nat->AH->Prop} (m:Hs G h L) (j:∀r g,Hs G g (Zv r (n,[])::L)->k r g) (i:c=true:=by kernel_rfl):Xx c h n k:=⟨i,ou m j⟩
theorem bh {r n i:Nat} {D:List Nat} (c:i<n) (hD:i∉D):star [fun q=>q=(⟨fun _ _=>none,fun b=>if b=r+i then some .free else none⟩:bP),xr r n (i::D)] ⟨fun _ _=>none,fun b=>if r<=b/\b<r+n/\(b - r)∉D then some .free else none⟩:=by
 refine⟨_,_,rfl,⟨_,bP.emp,rfl,rfl,bP.cF.symm,rfl⟩,?_,?_⟩;rw[bP.add_comm (s:=bP.emp) bP.cF.symm,bP.dV];refine⟨fun _ _=> .inl rfl,fun b=>?_⟩;grind;rw[bP.add_comm (s:=bP.emp) bP.cF.symm,bP.dV];refine bP.ext' (fun _ _=>rfl) (fun b=>?_);simp only[bP.add];grind
theorem Hs.newAt {r n i:Nat} {D:List Nat} {c:List Value} {e:TypeId} {x:Bool} (C:Hs G h (xr r n D::L)) (X:i<n) (hD:i∉D):
  Hs G (h.set (r+i) (some (.cells c e (0,0) x))) (aR (r+i) 0 c::mt (r+i) (e,x,c.length)::xr r n (i::D)::L):=by
 obtain⟨q,⟨r1,O,S,T,E,U⟩,V⟩:=C.res
 cases S
 subst U
 obtain⟨i1,i2⟩:=(bP.eP E).1 V
 obtain⟨q1,q2,H,⟨q3,q4,I,J,Y,B⟩,W,N⟩:=bh (r:=r) X hD
 cases H;cases J
 rw[bP.add_comm (s:=bP.emp) bP.cF.symm,bP.dV] at B
 subst B
 cases I
 rw[N] at i1 E
 obtain⟨i3,i4⟩:=(bP.eP W).1 i1
 obtain⟨fb,fn,Q⟩:=i3.free (r+i) (by simp)
 obtain⟨d1,d2⟩:=bP.fG.1 E.symm
 have t:∀j,(h.set (r+i) (some (.cells c e (0,0) x))).get j=if j=r+i then some (.cells c e (0,0) x) else h.get j:=fun j=>AH.fK fb
 have m:=(bP.eP d2.symm).2 ⟨i4,i2⟩
 have z:((⟨fun _ _=>none,fun b=>if r<=b/\b<r+n/\(b - r)∉(i::D) then some .free else none⟩:bP).add O).tok (r+i)=none:=by
  simp only[bP.add];rw[aCw (by grind)];rcases d1.tok (r+i) with h|h;simpa using h;simp at h
 have A:(jJ (r+i) c (some (.mt e x c.length))).qE ((⟨fun _ _=>none,fun b=>if r<=b/\b<r+n/\(b - r)∉(i::D) then some .free else none⟩:bP).add O):=T7 m Q z
 refine⟨by simp;exact C.base,by rw[AH.zU];exact C.old,by simp;exact C.wf,fun j R=>by simp at R;rw[t,aaa];exact C.fr j R,
    _,(fD (L:=[aR (r+i) 0 c,mt (r+i) (e,x,c.length)])).2 ⟨_,_,lB,⟨_,O,rfl,T,d2.symm,rfl⟩,A,rfl⟩,(bP.eP A).2 ⟨?_,?_⟩⟩
 .refine⟨fun b o v u=>?_,fun b u=>?_,fun b Z x' n u=>?_,fun b o u=>?_⟩
  .simp only[jJ] at u;simp_all
  .simp only[jJ] at u;grind
  .simp only[jJ] at u;simp_all
  .simp only[jJ] at u;grind
 .refine m.of (by simp) (by simp) fun b w=>?_;rw[t,aCw];intro F;subst F;rcases w with w|⟨o,w⟩
  .exact w z
  .apply w;cases hc:bP.cell _ (r+i) o with
   |none=>rfl
   |some v=>obtain⟨_,_,_,_,g,_⟩:=m.cell _ o v hc;rw[Q] at g;cases g
theorem zh {A B:HP} (c:Hs G h (A::B::L)):Hs G h (A::L):=(c.perm (List.Perm.swap _ _ _)).tail
theorem oz {r i n:Nat} {D:List Nat} {cs:List Value} {e:TypeId} {k:Nat->AH->Prop} (j:Hs G h L) [m:Has (Zv r) L (n,D) L'] (o:Nat.blt i n=true) (hD:D.contains i=false)
  (g:∀p c,Hs G c (aR p 0 cs::Zv r (n,i::D)::L')->k p c):kT h (r+i) (.cells cs e (0,0) true) k:=
 g _ _ (zh (Hs.newAt (show Hs G h (xr r n D::L') from m.of j) (by simp_all) (by simpa using hD)))
theorem j8 {r i n:Nat} {D:List Nat} {cs:List Value} {v:Value} {e:TypeId} {k:Nat->AH->Prop} (o:Hs G h L) [m:Has (Zv r) L (n,D) L'] (q:fI v=some cs) (g:Nat.blt i n=true) (hD:D.contains i=false)
  (j:∀p c,Hs G c (aR p 0 cs::Zv r (n,i::D)::L')->k p c):bB (iZ e v) fun b=>kT h (r+i) b k:=
 ⟨.cells cs e (0,0) true,by simp[iZ,q],oz o g hD j⟩
theorem Hs.uo {o:jD} (H:Jd o=true) (s:Hs G h L):Hs G (h.alloc o) (ot h.next o::L):=by
 obtain⟨r,E,w⟩:=s.res;have c:h.get h.next=none:=s.fr _ (Nat.le_refl _)
 have z:r.tok h.next=none:=by
  cases ht:r.tok h.next with
  |none=>rfl
  |some t=>
   cases t with
   |free=>have:=(w.free _ ht).2.1;omega
   |mt D I n=>obtain⟨_,_,g,_⟩:=w.mt _ _ _ _ ht;rw[c] at g;cases g
   |Hf o=>obtain⟨_,g,_⟩:=w.Hf _ _ ht;rw[c] at g;cases g
 have B:(⟨fun _ _=>none,fun C=>if C=h.next then some (.Hf o) else none⟩:bP).qE r:=by
  refine⟨fun _ _=> .inl rfl,fun b=>?_⟩;by_cases q:b=h.next
  right;rw[q];exact z;grind
 have m:∀j,(h.alloc o).get j=if j=h.next then some o else h.get j:=fun j=>AH.qG s.wf
 refine⟨s.base,s.old,Nat.le_succ_of_le s.wf,fun i F=>by simp at F;rw[m,aaa];exact s.fr i (by omega),_,⟨_,r,rfl,E,B,rfl⟩,(bP.eP B).2 ⟨?_,?_⟩⟩;refine⟨fun _ _ _ u=>(by cases u),fun b u=>?_,fun b D I n u=>?_,fun b J u=>?_⟩;grind;grind;simp only at u;split at u;rename_i q;subst q;cases u;exact⟨by simp;exact s.wf,by rw[m,aCx rfl],H⟩;cases u;refine w.of rfl (by simp) fun b q=>?_;rw[m,aCw];intro A;subst A;rcases q with q|⟨o,q⟩;exact q z;apply q;cases hc:r.cell h.next o with
 |none=>rfl
 |some v=>obtain⟨_,_,_,_,g,_⟩:=w.cell _ o v hc;rw[c] at g;cases g
theorem Hs.Gg {b:Nat} {o o':jD} (O:Jd o'=true) (c:Hs G h (ot b o::L)):h.get b=some o/\h.base<=b/\Hs G (h.set b (some o')) (ot b o'::L):=by
 obtain⟨q,⟨Q,t,h1,E,A,F⟩,H⟩:=c.res;cases h1;subst F;obtain⟨i1,i2⟩:=(bP.eP A).1 H;obtain⟨gb,u,m⟩:=i1.Hf b o (by simp);have r:∀j,(h.set b (some o')).get j=if j=b then some o' else h.get j:=fun j=>AH.fK gb
 have I:b<h.next:=by
  rcases Nat.lt_or_ge b h.next with h1|h1
  exact h1;rw[c.fr b h1] at u;cases u
 have z:t.tok b=none:=by rcases A.tok b with h|h;simp at h;exact h
 have J:∀s,t.cell b s=none:=fun s=>by
  cases hc:t.cell b s with
  |none=>rfl
  |some v=>
   obtain⟨_,_,_,_,g,_⟩:=i2.cell _ s v hc;rw[u] at g;cases g;simp[Jd] at m
 have C:(⟨fun _ _=>none,fun i=>if i=b then some (.Hf o') else none⟩:bP).qE t:=by
  refine⟨fun _ _=> .inl rfl,fun i=>?_⟩;by_cases B:i=b;right;rw[B];exact z;grind
 refine⟨u,gb,by simp;exact c.base,by rw[AH.zU];exact c.old,by simp;exact c.wf,fun j D=>by simp at D;rw[r,aaa];exact c.fr j D,_,⟨_,t,rfl,E,C,rfl⟩,(bP.eP C).2 ⟨?_,?_⟩⟩;refine⟨fun _ _ _ w=>(by cases w),fun b w=>?_,fun b N R n w=>?_,fun i s w=>?_⟩;grind;grind;simp_all;refine i2.of (by simp) (by simp) fun i B=>?_;grind
def mD (P:Program) (f:FuncId) (p:List Nat) (n:Nat) (e:Nat->Value) (d l:Nat) (x:LoopState×Option Code):HP:=ot l (lp P f p n e d x.1 x.2)
def mk (d:Nat) (_:Unit):HP:=ot d (.marks true)
theorem nB {k:Nat->AH->Prop} (i:Hs G h L) (g:∀d c,Hs G c (mk d ()::L)->k d c):Cd h (.marks true) k:=g _ _ (i.uo rfl)
theorem nI {f:FuncId} {p:List Nat} {n:Nat} {e:Nat->Value} {d:Nat} {st:LoopState} {pd:Option Code} {k:Nat->AH->Prop} (i:Hs G h L) (g:∀l c,Hs G c (mD P f p n e d l (st,pd)::L)->k l c):Cd h (lp P f p n e d st pd) k:=g _ _ (i.uo rfl)
theorem uU {k:AH->Prop} (c:k h):bB (bG [] h) k:=⟨h,rfl,c⟩
theorem tY {d:Nat} {g:List Nat} {k:AH->Prop} (t:Hs G h L) [m:Has (mk d) L () L'] (s:∀c,Hs G c L'->bB (bG g c) k):bB (bG (d::g) h) k:=by
 obtain⟨i,j,o⟩:=Hs.Gg (o':= .marks false) rfl (show Hs G h (ot d (.marks true)::L') from m.of t);obtain⟨c,q,r⟩:=s _ o.tail;exact⟨c,by simp only[bG,i,aCx j];exact q,r⟩
theorem zt {f:FuncId} {p:List Nat} {n:Nat} {e:Nat->Value} {d l:Nat} {st st':LoopState} {pd pd':Option Code} {k:AH->Prop} (q:Hs G h L) [m:Has (mD P f p n e d l) L (st,pd) L'] (o:∀c,Hs G c (mD P f p n e d l (st',pd')::L')->k c):
  bB (bS h l st' (some pd')) k:=by
 obtain⟨g,i,j⟩:=Hs.Gg (o':=lp P f p n e d st' pd') rfl (show Hs G h (ot l (lp P f p n e d st pd)::L') from m.of q)
 exact⟨_,by simp only[bS,g,lp];rw[aCx i];rfl,o _ j⟩
theorem ma {f:FuncId} {p:List Nat} {n:Nat} {e:Nat->Value} {d l:Nat} {pd:Option Code} {k:AH->Prop} (q:Hs G h L) [m:Has (mD P f p n e d l) L (.ready,pd) L'] (o:∀c,Hs G c (mD P f p n e d l (.busy,pd)::L')->k c):
  bB (iO h l) k:=by
 obtain⟨g,i,j⟩:=Hs.Gg (o':=lp P f p n e d .busy pd) rfl (show Hs G h (ot l (lp P f p n e d .ready pd)::L') from m.of q)
 exact⟨_,by simp only[iO,bS,g,lp];rw[aCx i];rfl,o _ j⟩
theorem qt {f:FuncId} {p:List Nat} {n:Nat} {e:Nat->Value} {d l:Nat} {st:LoopState} {pd:Option Code} {k:Option Code->AH->Prop} (s:Hs G h L) [m:Has (mD P f p n e d l) L (st,pd) L'] (c:st≠.busy) (q:∀g,Hs G g L'->k pd g):
  bB (qH h l) fun r=>k r.1 r.2:=by
 obtain⟨i,j,o⟩:=Hs.Gg (o':=lp P f p n e d .exhausted pd) rfl (show Hs G h (ot l (lp P f p n e d st pd)::L') from m.of s)
 refine⟨(pd,_),?_,q _ o.tail⟩
 simp only[qH,i,lp]
 rw[aCw c]
 simp only[bS,i,lp]
 rw[aCx j];rfl
theorem bf {f:FuncId} {p:List Nat} {n:Nat} {e:Nat->Value} {d l:Nat} {st:LoopState} {pd:Option Code} {k:Nat->Prop} (i:Hs G h L) [m:Has (mD P f p n e d l) L (st,pd) L'] (g:k d):bB (eI h l) k:=by
 obtain⟨c,_,_⟩:=Hs.Gg (o':= .marks true) rfl (show Hs G h (ot l (lp P f p n e d st pd)::L') from m.of i);exact⟨d,by simp only[eI,c,lp],g⟩
theorem aBa {f:FuncId} {p:List Nat} {n:Nat} {e:Nat->Value} {d l:Nat} {st:LoopState} {pd:Option Code} (c:Hs G h L) [m:Has (mD P f p n e d l) L (st,pd) L']:h.get l=some (lp P f p n e d st pd):=
 (Hs.Gg (o':= .marks true) rfl (show Hs G h (ot l (lp P f p n e d st pd)::L') from m.of c)).1
end Go.Ab
end
section
namespace Go.Ab
variable {P:Program} {K:FuncId->List Value->Option fC} {G:Bg} {h:AH} {L L' M:List HP}
def fT (W:Nat) (e:TypeId) (a:Option Addr) (cap:Nat) (x:Nat×List Value):HP:=fun r=>
 x.2.length=x.1*W/\x.2.all dR=true/\
 ((x.1=0/\r=bP.emp/\cap=0/\(a=none\/∃b o,a=some ⟨b,o,some 1⟩))\/
  (x.1=0/\cap=0/\∃b o i,a=some ⟨b,o,some 2⟩/\o<=i.length/\r=jJ b i (some (.mt e false i.length)))\/
  (x.1<=cap/\∃b g c ex,a=some ⟨b,g.length,none⟩/\g.length+cap*W<=(g++x.2++c).length/\r=jJ b (g++x.2++c) (some (.mt e ex (g++x.2++c).length))))
theorem sK {W:Nat} {e:TypeId} (g:Hs G h L):Hs G h (fT W e none 0 (0,[])::L):=by
 refine Hs.join (A:=[]) g fun r c=>?_;exact⟨by simp,rfl,.inl ⟨rfl,c,rfl,.inl rfl⟩⟩
theorem oI {b:Nat} {c:List Value} {e:TypeId} {x:Bool} {r:bP} (h:star [aR b 0 c,mt b (e,x,c.length)] r):r=jJ b c (some (.mt e x c.length)):=by
 obtain⟨A,B,g,⟨r3,C,j,m,s,t⟩,o,q⟩:=h;obtain⟨u,v,g1,⟨w,z,g5,g6,g7,g8⟩,g3,g4⟩:=lB (i:=b) (c:=c) (e:=e) (x:=x);cases g;cases j;cases m;cases g1;cases g5;cases g6;grind
theorem jG {W:Nat} {e:TypeId} {l:List Value} {n c:Nat} {k:Value->AH->Prop} (q:Hs G h L) (i:l.length=c*W) (m:n=c) (hb:l.all dR=true)
  (j:∀a g,Hs G g (fT W e (some a) c (n,l)::L)->k (.slice (some a) n c) g):yC h W e l n c k:=by
 subst m
 refine j _ _ ?_
 have:=q.new (c:=l) (e:=e) (x:=true)
 refine Hs.join (A:=[_,_]) this fun r o=>?_
 have:=oI o
 exact⟨i,hb,.inr (.inr ⟨Nat.le_refl _,h.next,[],[],true,rfl,by simp[i],by simpa using this⟩)⟩
theorem zK {W r i N:Nat} {D:List Nat} {e:TypeId} {l:List Value} {n c:Nat} {k:Value->AH->Prop} (u:Hs G h L) [m:Has (Zv r) L (N,D) L'] (v:Nat.blt i N=true) (hD:D.contains i=false) (j:l.length=c*W) (s:n=c) (hb:l.all dR=true)
  (o:∀a g,Hs G g (fT W e (some a) c (n,l)::Zv r (N,i::D)::L')->k (.slice (some a) n c) g):kI h (r+i) W e l n c k:=by
 subst s
 refine o _ _ ?_
 have:=Hs.newAt (i:=i) (c:=l) (e:=e) (x:=true) (show Hs G h (xr r N D::L') from m.of u) (by simp_all) (by simpa using hD)
 refine Hs.join (A:=[_,_]) this fun q t=>?_
 have:=oI t
 exact⟨j,hb,.inr (.inr ⟨Nat.le_refl _,r+i,[],[],true,rfl,by simp[j],by simpa using this⟩)⟩
theorem Hs.fst {A:HP} (m:Hs G h (A::L)):∃r c,A r/\star L c/\r.qE c/\r.In h/\c.In h:=by
 obtain⟨q,⟨t,c,o,s,g,i⟩,j⟩:=m.res;subst i;obtain⟨i1,i2⟩:=(bP.eP g).1 j;grind
theorem Hs.Ke {W:Nat} {e:TypeId} {a:Option Addr} {cap:Nat} {x:Nat×List Value} (g:Hs G h (fT W e a cap x::L)):x.2.length=x.1*W:=by
 obtain⟨r,_,c,_⟩:=g.fst;exact c.1
theorem Hs.Oo {W:Nat} {e:TypeId} {a:Option Addr} {cap:Nat} {x:Nat×List Value} (g:Hs G h (fT W e a cap x::L)):x.2.all dR=true:=by
 obtain⟨r,_,c,_⟩:=g.fst;exact c.2.1
theorem Hs.An {W:Nat} {e:TypeId} {a:Option Addr} {cap n:Nat} {cs:List Value} (I:Hs G h (fT W e a cap (n,cs)::L)) (h0:0<n):
  ∃b o,a=some ⟨b,o,none⟩/\∃H:HP,Hs G h (aR b o cs::H::L)/\∀Q m M,m.length=cs.length->m.all dR=true->Hs G Q (aR b o m::H::M)->Hs G Q (fT W e a cap (n,m)::M):=by
 have J:∀b (j g:List Value) ex,∀m:List Value,m.length=cs.length->∀r,star [aR b j.length m,fun r=>star [aR b 0 j,aR b (j.length+cs.length) g,mt b (e,ex,(j++cs++g).length)] r] r↔r=jJ b (j++m++g) (some (.mt e ex (j++m++g).length)):=by
  intro b j g ex m N r;have e1:(j++cs++g).length=(j++m++g).length:=by simp[N]
  have Z:∀q,star [aR b 0 (j++m++g),mt b (e,ex,(j++m++g).length)] q->star [aR b j.length m,fun r=>star [aR b 0 j,aR b (j.length+cs.length) g,mt b (e,ex,(j++cs++g).length)] r] q:=by
   intro q F;obtain⟨r1,z,R,h2,C,T⟩:=F;have S:=(vP r1).1 R;obtain⟨s1,s2,g1,⟨s3,s4,g2,g3,g4,g5⟩,g6,g7⟩:=S;have O:=(vP s1).1 g1;cases g3;rw[bP.add_comm (s:=bP.emp) bP.cF.symm,bP.dV] at g5;subst g5;have D:star ([aR b 0 j,aR b (0+j.length) m]++([aR b (0+(j++m).length) g]++[mt b (e,ex,(j++m++g).length)])) q:=by
    refine fD.2 ⟨s1,s2.add z,O,fD.2 ⟨s2,z,⟨s2,bP.emp,g2,rfl,bP.cF.symm,by rw[bP.add_comm (s:=bP.emp) bP.cF.symm,bP.dV]⟩,h2,?_,rfl⟩,?_,?_⟩;rw[g7] at C;exact(bP.fG.1 C.symm).2.symm;rw[g7] at C;exact bP.fG.2 ⟨g6,(bP.fG.1 C.symm).1.symm⟩;rw[T,g7,bP.add_assoc]
   have hp:star ([aR b (0+j.length) m]++[aR b 0 j,aR b (0+(j++m).length) g,mt b (e,ex,(j++m++g).length)]) q:=A7 (List.Perm.swap _ _ _) q D;obtain⟨u1,u2,w1,w2,w3,w4⟩:=fD.1 hp;rw[Nat.zero_add] at w1;obtain⟨v1,v2,x1,x2,x3,x4⟩:=w1;cases x2;rw[bP.add_comm (s:=bP.emp) bP.cF.symm,bP.dV] at x4;subst x4;refine⟨u1,u2,x1,⟨u2,bP.emp,?_,rfl,bP.cF.symm,by rw[bP.add_comm (s:=bP.emp) bP.cF.symm,bP.dV]⟩,w3,w4⟩;grind
  constructor;intro v;have hb:=Z _ (lB (i:=b) (c:=j++m++g) (e:=e) (x:=ex));obtain⟨r1,z,R,⟨r3,r4,h5,h6,h7,h8⟩,C,T⟩:=v;obtain⟨q1,q2,g1,⟨q3,q4,g5,g6,g7,g8⟩,g3,g4⟩:=hb;cases R;cases g1;cases h6;cases g6;rw[bP.add_comm (s:=bP.emp) bP.cF.symm,bP.dV] at h8 g8;subst h8;subst g8;have:z=q2:=by
   obtain⟨a1,a2,b1,⟨a3,a4,b2,⟨a5,a6,b3,b4,b5,b6⟩,b7,b8⟩,b9,α⟩:=h5;obtain⟨c1,c2,d1,⟨c3,c4,d2,⟨c5,c6,d3,d4,d5,d6⟩,d7,d8⟩,d9,d10⟩:=g5;cases b1;cases b2;cases b3;cases b4;cases d1;cases d2;cases d3;cases d4;grind
  rw[T,g4,this];intro v;subst v;exact Z _ lB
 obtain⟨r,z,v,V,hd,hi,U⟩:=I.fst
 obtain⟨N,hc,v⟩:=v
 simp only at N hc
 rcases v with⟨Y,_⟩|⟨Y,_⟩|⟨E,b,j,g,ex,rfl,hle,X⟩
 .simp at Y;omega
 .simp at Y;omega
 .refine⟨b,j.length,rfl,fun r=>star [aR b 0 j,aR b (j.length+cs.length) g,mt b (e,ex,(j++cs++g).length)] r,?_,?_⟩
  .have w:Hs G h ((fun r=>r=jJ b (j++cs++g) (some (.mt e ex (j++cs++g).length)))::L):=⟨I.base,I.old,I.wf,I.fr,_,⟨r,z,X,V,hd,rfl⟩,(bP.eP hd).2 ⟨hi,U⟩⟩;exact w.imp (B:=[_,_]) fun q F=>(J b j g ex cs rfl q).2 F
  .intro Q m M u t w;refine Hs.join (A:=[_,_]) w fun q F=>?_;have:=(J b j g ex m u q).1 F;refine⟨by rw[u];exact N,t,.inr (.inr ⟨E,b,j,g,ex,rfl,?_,this⟩)⟩;grind
theorem Mh {b:Nat} {c:List Value} {e:TypeId} {x:Bool} {r:bP} (i:(jJ b c (some (.mt e x c.length))).In h) (_g:r.In h):h.base<=b/\h.get b=some (.cells c e (0,0) x):=by
 obtain⟨o,s,q,u⟩:=i.mt b e x c.length (by simp[jJ]);refine⟨o,?_⟩;rw[q];congr 2;refine List.ext_getElem? fun j=>?_;rcases Nat.lt_or_ge j c.length with m|m;obtain⟨_,c2,t,v,g1,g2⟩:=i.cell b j c[j] (by simp[jJ,m]);grind;grind
theorem Hs.kill {b:Nat} {c c2:List Value} {e e2:TypeId} {x x2:Bool} (q:Hs G h ((fun r=>r=jJ b c (some (.mt e x c.length)))::L)):Hs G ((h.set b none).alloc (.cells c2 e2 (0,0) x2)) ((fun r=>r=jJ h.next c2 (some (.mt e2 x2 c2.length)))::L):=by
 obtain⟨r,u,z,B,D,t,g⟩:=q.fst;subst z;obtain⟨F,J⟩:=Mh t g;have m:∀j,(h.set b none).get j=if j=b then none else h.get j:=fun j=>AH.fK F
 have H:∀j,(u.tok j≠none\/∃o,u.cell j o≠none)->j≠b:=by
  intro j E w;subst w;rcases E with s|⟨o,s⟩;rcases D.tok j with h|h;simp[jJ] at h;exact s h;rcases D.cell j o with h|h;simp only[jJ,if_true] at h;cases hc:u.cell j o with
  |none=>exact s hc
  |some v=>
   obtain⟨_,I,_,_,g1,g2⟩:=g.cell j o v hc;grind
  exact s h
 have C:Hs G (h.set b none) L:=by
  refine⟨by simp;exact q.base,by rw[AH.zU];exact q.old,by simp;exact q.wf,fun i t=>by simp at t;rw[m];split;rfl;exact q.fr i t,u,B,?_⟩;exact g.of (by simp) (by simp) fun j E=>by grind
 have:=C.new (c:=c2) (e:=e2) (x:=x2);rw[AH.aa] at this;exact Hs.join (A:=[_,_]) this fun r z=>oI z
theorem kD {a:Option Addr} {n c:Nat}:tD (.slice a n c)=some n:=rfl
theorem ry {W bytes:Nat} {e:TypeId} {a:Option Addr} {c n m:Nat} {cs ns:List Value} {src:Value} {k:Value->AH->Prop} (C:Hs G h L) [mm:Has (fT W e a c) L (n,cs) L']
  (v:tD src=some m) (z:eR h W m src=some ns) (ζ:ns.all dR=true) (ν:ns.length=m*W) (R:(n+m)*(bytes+1)<=2^46)
  (hk:∀a' c' h',Hs G h' (fT W e a' c' (n+m,cs++ns)::L')->k (.slice a' (n+m) c') h'):bB (iB W bytes e h (.slice a n c) src) fun r=>k r.1 r.2:=by
 have β:=mm.of C
 obtain⟨r,r2,hr,U,X,S,E⟩:=β.fst
 obtain⟨hl,hc,hr⟩:=hr
 simp only at hl hc hr
 have w:(!ns.all dR||ns.length !=m*W)=false:=by simp[ζ,ν]
 have H:(cs++ns).all dR=true:=by grind
 have N:(cs++ns).length=(n+m)*W:=by grind
 have D:∀{h1:AH},Hs G h1 ((fun r=>r=jJ h.next (cs++ns) (some (.mt e false (cs++ns).length)))::L')->Hs G h1 (fT W e (some ⟨h.next,0,none⟩) (n+m) (n+m,cs++ns)::L'):=by
  intro h1 hh;refine Hs.join (A:=[_]) hh fun q O=>?_;obtain⟨q1,q2,e1,e2,e3,e4⟩:=O;cases e1;cases e2;rw[bP.add_comm (s:=bP.emp) bP.cF.symm,bP.dV] at e4;exact⟨N,H,.inr (.inr ⟨Nat.le_refl _,h.next,[],[],false,rfl,by grind,by simpa using e4⟩)⟩
 by_cases hm:m=0
 .subst hm;have:ns=[]:=List.eq_nil_of_length_eq_zero (by omega);subst this;have T:=hk a c h (by simpa using β);rcases hr with⟨rfl,ο,rfl,ha⟩|⟨rfl,rfl,b,o,Z,rfl,_⟩|⟨I,b,g,t,ex,rfl,hle,V⟩
  .rcases ha with rfl|⟨b,o,rfl⟩
   .exact⟨(.slice none 0 0,h),by simp[iB,v,z],by simpa using T⟩
   .exact⟨(.slice _ 0 0,h),by simp[iB,v,z];rfl,by simpa using T⟩
  .exact⟨(.slice _ 0 0,h),by simp[iB,v,z];rfl,by simpa using T⟩
  .exact⟨(.slice _ n c,h),by simp[iB,v,z,I];rfl,by simpa using T⟩
 .have Y:Hs G h L':=β.tail;rcases hr with⟨rfl,ο,rfl,ha⟩|⟨rfl,rfl,b,o,Z,rfl,ho,V⟩|⟨I,b,g,t,ex,rfl,hle,V⟩
  .have α:cs=[]:=List.eq_nil_of_length_eq_zero (by simpa using hl);subst α;have η:=Y.new (c:=ns) (e:=e) (x:=false);have F:=D (Hs.join (A:=[_,_]) η fun q O=>oI O);have u:¬(0+m<=0):=by omega
   rcases ha with rfl|⟨b,o,rfl⟩
   .refine⟨(.slice (some ⟨h.next,0,none⟩) m m,h.alloc (.cells ns e (0,0) false)),?_,by grind⟩;simp only[iB,v,z,w,Bool.false_eq_true,if_false,u,R,if_true]
   .refine⟨(.slice (some ⟨h.next,0,none⟩) m m,h.alloc (.cells ns e (0,0) false)),?_,by grind⟩;simp only[iB,v,z,w,Bool.false_eq_true,if_false,u,R,if_true]
  .have α:cs=[]:=List.eq_nil_of_length_eq_zero (by simpa using hl);subst α;subst V;obtain⟨hb,hg⟩:=Mh S E;have Q:Hs G h ((fun r=>r=jJ b Z (some (.mt e false Z.length)))::L'):=⟨C.base,C.old,C.wf,C.fr,_,⟨_,r2,rfl,U,X,rfl⟩,(bP.eP X).2 ⟨S,E⟩⟩;have F:=D (Q.kill (c2:=ns) (e2:=e) (x2:=false));have u:¬(0+m<=0):=by omega
   refine⟨(.slice (some ⟨h.next,0,none⟩) m m,(h.set b none).alloc (.cells ns e (0,0) false)),?_,by simpa using hk _ _ _ F⟩
   have κ:¬(some 2=some 1):=by simp
   simp only[iB,v,z,w,Bool.false_eq_true,if_false,u,R,if_true,κ,hg,hb,ho,and_self]
  .subst V;obtain⟨hb,hg⟩:=Mh S E;by_cases u:n+m<=c
   .have hW:(n+m)*W<=c*W:=Nat.mul_le_mul_right _ u;rw[Nat.add_mul] at hW;have Q:Hs G h ((fun r=>r=jJ b (g++cs++t) (some (.mt e ex (g++cs++t).length)))::L'):=⟨C.base,C.old,C.wf,C.fr,_,⟨_,r2,rfl,U,X,rfl⟩,(bP.eP X).2 ⟨S,E⟩⟩;have π:Hs G h (aR b 0 (g++cs++t)::mt b (e,ex,(g++cs++t).length)::L'):=Q.imp (B:=[_,_]) fun q O=>by subst O;exact lB
    have ξ:g.length+cs.length+ns.length<=(g++cs++t).length:=by grind
    by_cases μ:ns.length=0
    .have θ:ns=[]:=List.eq_nil_of_length_eq_zero μ;subst θ;refine⟨(.slice (some ⟨b,g.length,none⟩) (n+m) c,h.set b (some (.cells (bJ (g++cs++t) (g.length+n*W) []) e (0,0) ex))),?_,?_⟩
     .simp only[iB,v,z,w,Bool.false_eq_true,if_false,u,if_true,hm,Option.isSome_none,dL];simp only[cB,Option.isSome_none,Bool.false_or,List.all_nil,Bool.not_true,Bool.or_false,hg];grind
     .have δ:bJ (g++cs++t) (g.length+n*W) []=g++cs++t:=by simp only[bJ,List.append_nil,List.length_nil,Nat.add_zero,List.take_append_drop]
      rw[δ]
      refine hk _ _ _ ?_
      have:Hs G (h.set b (some (.cells (g++cs++t) e (0,0) ex))) ((fun r=>r=jJ b (g++cs++t) (some (.mt e ex (g++cs++t).length)))::L'):=by
       have J:∀j,(h.set b (some (.cells (g++cs++t) e (0,0) ex))).get j=h.get j:=fun j=>by
        rw[AH.fK hb];grind
       refine⟨by simp;exact C.base,by rw[AH.zU];exact C.old,by simp;exact C.wf,fun i S=>by simp at S;rw[J];exact C.fr i S,_,⟨_,r2,rfl,U,X,rfl⟩,(bP.eP X).2 ⟨?_,?_⟩⟩;exact S.of (by simp) (by simp) fun j _=>J j;exact E.of (by simp) (by simp) fun j _=>J j
      refine Hs.join (A:=[_]) this fun q O=>?_
      obtain⟨q1,q2,e1,e2,e3,e4⟩:=O
      cases e1;cases e2
      rw[bP.add_comm (s:=bP.emp) bP.cF.symm,bP.dV] at e4
      refine⟨N,H,.inr (.inr ⟨u,b,g,t,ex,rfl,?_,by simpa using e4⟩)⟩
      grind
    .obtain⟨h',ι,γ⟩:=π.write (j:=g.length+cs.length) (vs:=ns) ξ ζ (by omega);rw[Nat.zero_add] at ι;refine⟨(.slice (some ⟨b,g.length,none⟩) (n+m) c,h'),?_,?_⟩
     .simp only[iB,v,z,w,Bool.false_eq_true,if_false,u,if_true,hm,Option.isSome_none,dL];rw[<-hl,ι];rfl
     .refine hk _ _ _ ?_;have δ:bJ (g++cs++t) (g.length+cs.length) ns=g++(cs++ns)++t.drop ns.length:=by
       unfold bJ;rw[List.take_append_of_le_length (by simp),List.take_of_length_le (by simp),List.drop_append];have:(g++cs).drop (g.length+cs.length+ns.length)=[]:=List.drop_eq_nil_of_le (by simp);rw[this];simp only[List.length_append,List.nil_append,List.append_assoc];rw[show g.length+cs.length+ns.length - (g.length+cs.length)=ns.length by omega]
      rw[δ] at γ
      have ε:(g++cs++t).length=(g++(cs++ns)++t.drop ns.length).length:=by grind
      rw[ε] at γ
      refine Hs.join (A:=[_,_]) γ fun q O=>?_
      exact⟨N,H,.inr (.inr ⟨u,b,g,t.drop ns.length,ex,rfl,by rw[<-ε];exact hle,oI O⟩)⟩
   .have Q:Hs G h ((fun r=>r=jJ b (g++cs++t) (some (.mt e ex (g++cs++t).length)))::L'):=⟨C.base,C.old,C.wf,C.fr,_,⟨_,r2,rfl,U,X,rfl⟩,(bP.eP X).2 ⟨S,E⟩⟩;have ρ:n*W<=c*W:=Nat.mul_le_mul_right _ I;have hold:bM h ⟨b,g.length,none⟩ (n*W)=some cs:=by
     simp only[bM,Option.isSome_none,Bool.false_eq_true,if_false,hg];rw[aac];simp only[Option.some.injEq];grind
    have h1:¬((none:Option Nat)=some 1):=by simp
    have h2:¬((none:Option Nat)=some 2):=by simp
    cases ex with
    |true=>
     have F:=D (Hs.join (A:=[_,_]) (Y.new (c:=cs++ns) (e:=e) (x:=false)) fun q O=>oI O)
     refine⟨(.slice (some ⟨h.next,0,none⟩) (n+m) (n+m),h.alloc (.cells (cs++ns) e (0,0) false)),?_,hk _ _ _ F⟩
     simp only[iB,v,z,w,Bool.false_eq_true,if_false,u,R,if_true,h1,h2,hold,hg,hc,Bool.not_true]
    |false=>
     have F:=D (Q.kill (c2:=cs++ns) (e2:=e) (x2:=false))
     refine⟨(.slice (some ⟨h.next,0,none⟩) (n+m) (n+m),(h.set b none).alloc (.cells (cs++ns) e (0,0) false)),?_,hk _ _ _ F⟩
     simp only[iB,v,z,w,Bool.false_eq_true,if_false,u,R,if_true,h1,h2,hold,hg,hc,Bool.not_true,hb,hle,and_self]
end Go.Ab
end
section
namespace Go.Ab
variable {P:Program} {K:FuncId->List Value->Option fC} {G:Bg} {h:AH} {L L' M:List HP}
abbrev wr (x:Int):Int:=IntKind.i64.wrap x
theorem Uc {x:Int} (h: -9223372036854775808<=x/\x<=9223372036854775807):wr x=x:=IntWalk.i64_in _ (by omega)
section
variable {k:Value->Prop} {a b:Int} {x y:Value}
theorem B3 {α:Type} {o:Option α} {v:α} {k:α->Prop} (g:o=some v) (c:k v):bB o k:=⟨v,g,c⟩
theorem aC {b o j n:Nat} (c:k (pt b o (j+n))):bB (qS n (pt b o j)) k:=⟨_,by simp[qS,pt,dL,Nat.add_assoc],c⟩
theorem aN {b o j:Nat} (c:k (pt b o j)):bB (zP (pt b o j)) k:=⟨_,rfl,c⟩
theorem bV {i:Nat} {vs:List Value} {v:Value} (g:vs[i]?=some v) (c:k v):bB (Bo i (.tuple ⟨vs⟩)) k:=⟨v,g,c⟩
theorem o8 {j:Nat} {l:List Value} {v:Value} (g:l[j]?=some v) (c:k v):bB (pT j (.agg ⟨l⟩)) k:=⟨v,g,c⟩
theorem Tz {j n:Nat} {l m:List Value} (i:Nat.ble (j+n) l.length=true) (g:(l.drop j).take n=m) (c:k (.agg ⟨m⟩)):bB (nL j n (.agg ⟨l⟩)) k:=
 ⟨_,by have:=Nat.le_of_ble_eq_true i;simp[nL,this,g],c⟩
theorem bU {a:Option Addr} {n c:Nat} (g:k (I n)):bB (mH (.slice a n c)) k:=⟨_,rfl,g⟩
theorem bZ (h: -9223372036854775808<=a+b/\a+b<=9223372036854775807) (c:k (I (a+b))):bB (A1 .add (I a) (I b)) k:=⟨_,by show some (Value.int .i64 (wr (a+b)))=_;rw[Uc h],c⟩
theorem aad (c:k (I (a+b)))(h: -9223372036854775808<=a+b/\a+b<=9223372036854775807:=by omega):bB (A1 .add (I a) (I b)) k:=⟨_,by show some (Value.int .i64 (wr (a+b)))=_;rw[Uc h],c⟩
theorem ja (h: -9223372036854775808<=a - b/\a - b<=9223372036854775807) (c:k (I (a - b))):bB (A1 .sub (I a) (I b)) k:=⟨_,by show some (Value.int .i64 (wr (a - b)))=_;rw[Uc h],c⟩
theorem jm (h: -9223372036854775808<=a*b/\a*b<=9223372036854775807) (c:k (I (a*b))):bB (A1 .mul (I a) (I b)) k:=⟨_,by show some (Value.int .i64 (wr (a*b)))=_;rw[Uc h],c⟩
theorem r9 (c:0<=a) (hb:0<b) (h:a<=9223372036854775807) (g:k (I (a/b))):bB (A1 .quo (I a) (I b)) k:=by
 refine⟨_,?_,g⟩;show P2 .quo .i64 a b=_;simp only[P2];rw[aaa,Int.tdiv_eq_ediv_of_nonneg c];have i:0<=a/b:=Int.ediv_nonneg c (by omega);have j:a/b<=a:=Int.ediv_le_self b c;rw[show IntKind.i64.wrap (a/b)=a/b from Uc (by omega)]
theorem Uf (g:0<=a) (hb:0<b) (c:k (I (a % b))):bB (A1 .rem (I a) (I b)) k:=by
 refine⟨_,?_,c⟩;show P2 .rem .i64 a b=_;simp only[P2];grind
theorem mW (c:k (.bool (decide (a=b)))):bB (A1 .eql (I a) (I b)) k:=⟨_,by show some (Value.bool (a==b))=_;rfl,c⟩
theorem cZ (c:k (.bool (decide (a≠b)))):bB (A1 .neq (I a) (I b)) k:=⟨_,by show some (Value.bool (a !=b))=_;grind,c⟩
theorem aT (c:k (.bool (decide (a<b)))):bB (A1 .lss (I a) (I b)) k:=⟨_,rfl,c⟩
theorem As (c:k (.bool (decide (a<=b)))):bB (A1 .leq (I a) (I b)) k:=⟨_,rfl,c⟩
theorem mY (c:k (.bool (decide (b<a)))):bB (A1 .gtr (I a) (I b)) k:=⟨_,rfl,c⟩
theorem jM (c:k (.bool (decide (b<=a)))):bB (A1 .geq (I a) (I b)) k:=⟨_,rfl,c⟩
theorem Ls {b o j:Nat} (c:k (.bool true)):bB (P6 .neq (pt b o j) (.pointer none)) k:=⟨_,rfl,c⟩
theorem fM {b o j:Nat} (c:k (.bool false)):bB (P6 .eql (pt b o j) (.pointer none)) k:=⟨_,rfl,c⟩
theorem gM {b:Bool} (c:k (.bool !b)):bB (W6 .not (.bool b)) k:=⟨_,rfl,c⟩
theorem fN {b o n c g i:Nat} (j:i<n) (m:k (pt b (o+i*g) 0)):bB (kQ g (.slice (some ⟨b,o,none⟩) n c) (I i)) k:=⟨_,by simp[kQ,j,dL,pt],m⟩
theorem Sa {b o j n c:Nat} (g:0<=a) (i:a<n) (m:k (pt b o (j+a.toNat*c))):bB (tQ n c (pt b o j) (I a)) k:=⟨_,by simp[tQ,g,i,dL,pt,Nat.add_assoc],m⟩
theorem cR {c:Prop} [Decidable c] {p q:Prop} (h:c) (i:p):Br (.bool (decide c)) p q:=⟨_,rfl,fun _=>i,fun g=>absurd h (by simpa using g)⟩
theorem aae {c:Prop} [Decidable c] {p q:Prop} (i:p)(h:c:=by omega):Br (.bool (decide c)) p q:=⟨_,rfl,fun _=>i,fun g=>absurd h (by simpa using g)⟩
theorem aU {c:Prop} [Decidable c] {p q:Prop} (h:¬c) (i:q):Br (.bool (decide c)) p q:=⟨_,rfl,fun g=>absurd (by simpa using g) h,fun _=>i⟩
theorem aab {c:Prop} [Decidable c] {p q:Prop} (i:q)(h:¬c:=by omega):Br (.bool (decide c)) p q:=⟨_,rfl,fun g=>absurd (by simpa using g) h,fun _=>i⟩
theorem eE {c:Prop} [Decidable c] {p q:Prop} (i:c->p) (j:¬c->q):Br (.bool (decide c)) p q:=⟨_,rfl,fun g=>i (by simpa using g),fun g=>j (by simpa using g)⟩
theorem iM {p q:Prop} (c:p):Br (.bool true) p q:=oq.2 c
theorem dO {p q:Prop} (c:q):Br (.bool false) p q:=Yw.2 c
theorem zW {b:Bool} {p q:Prop} (c:b=true->p) (g:b=false->q):Br (.bool b) p q:=⟨_,rfl,c,g⟩
theorem uK {b:Bool} {p q:Prop} (h:Br (.bool b) q p):Br (.bool !b) p q:=by obtain⟨c,i,j,g⟩:=h;cases i;cases b;exact⟨_,rfl,fun _=>g rfl,fun h=>(by cases h)⟩;simp_all
end
theorem cQ {z c:List Value} {ps:List (Nat×Nat×Value)} {k:List Value->Prop} (i:oL z ps=some c) (g:k c):bB (oL z ps) k:=⟨c,i,g⟩
theorem Kg {p q:Prop} (c:p) (g:q):p/\q:=⟨c,g⟩
theorem q8 {a:Int}:oO (I a) (I a)=true:=by simp[oO]
theorem x8 {a:Bool}:oO (.bool a) (.bool a)=true:=by simp[oO]
theorem ib {b o j:Nat}:oO (pt b o j) (pt b o j)=true:=by simp[oO,pt]
theorem qv {a:Option Addr} {n c:Nat}:oO (.slice a n c) (.slice a n c)=true:=by simp[oO]
theorem uA {g:FuncId} {first captured:Array Value} {l:Nat} {q:Value->AH->Prop} (c:eU P g=true) (i:Cl P K g (first.toList++[.func (.yield l) #[] #[]]++captured.toList) h q):Ui P K (.func (.func g) first captured) l h q:=⟨c,i⟩
theorem z6 {g:FuncId} {first captured:Array Value} {args:List Value} {q:Value->AH->Prop} (c:eU P g=true) (i:Cl P K g (first.toList++args++captured.toList) h q):C9 P K (.func (.func g) first captured) args h q:=⟨c,i⟩
end Go.Ab
end
section
namespace Go.Ab
variable {P:Program} {K:FuncId->List Value->Option fC} {G:Bg} {h:AH} {L L' M:List HP}
def sp (A:List HP):HP:=fun r=>star A r
theorem Hs.pack {A:List HP} (c:Hs G h (A++L)):Hs G h (sp A::L):=c.join fun _ h=>h
theorem Hs.unpack {A:List HP} (c:Hs G h (sp A::L)):Hs G h (A++L):=c.imp fun _ h=>h
def Bb {α:Type} (A:α->HP):HP:=fun r=>∃x,A x r
theorem Hs.vK {α:Type} {A:α->HP} (x:α) (m:Hs G h (A x::L)):Hs G h (Bb A::L):=Hs.join (A:=[A x]) m fun r j=>by
 obtain⟨o,q,g,i,_,c⟩:=j;cases i;rw[bP.add_comm (s:=bP.emp) bP.cF.symm,bP.dV] at c;subst c;exact⟨x,g⟩
theorem ft {A:HP} {r:bP}:star [A] r↔A r:=by
 constructor;intro⟨m,o,g,i,_,c⟩;cases i;rw[bP.add_comm (s:=bP.emp) bP.cF.symm,bP.dV] at c;subst c;exact g;intro j;exact⟨r,bP.emp,j,rfl,bP.cF.symm,by rw[bP.add_comm (s:=bP.emp) bP.cF.symm,bP.dV]⟩
theorem Hs.yS {α:Type} {A:α->HP} (c:Hs G h (Bb A::L)):∃x,Hs G h (A x::L):=by
 obtain⟨r,q,⟨x,o⟩,i,g,j,m⟩:=c.fst;exact⟨x,c.base,c.old,c.wf,c.fr,_,⟨r,q,o,i,g,rfl⟩,(bP.eP g).2 ⟨j,m⟩⟩
def Ck (p:Prop):HP:=fun r=>p/\r=bP.emp
theorem Hs.vx {p:Prop} (c:p) (i:Hs G h L):Hs G h (Ck p::L):=Hs.join (A:=[]) i fun _ g=>⟨c,g⟩
theorem Hs.bc {p:Prop} (c:Hs G h (Ck p::L)):p/\Hs G h L:=by
 obtain⟨r,_,⟨g,_⟩,_⟩:=c.fst;exact⟨g,c.tail⟩
def hJ (n:Nat) (f:Nat->HP):HP:=sp ((List.range n).map f)
theorem Er {n i:Nat} {f:Nat->HP} (c:i<n):((List.range n).map f).Perm (f i::((List.range n).erase i).map f):=by
 have:(List.range n).Perm (i::(List.range n).erase i):=List.perm_cons_erase (List.mem_range.2 c);exact this.map f
theorem Hs.pW {n:Nat} {f:Nat->HP} (m:Hs G h (hJ n f::L)) (i:Nat) (j:i<n):Hs G h (f i::sp (((List.range n).erase i).map f)::L):=by
 have c:=m.unpack.perm ((Er j).append_right L);have g:Hs G h (((List.range n).erase i).map f++f i::L):=c.perm (by simpa using List.perm_middle.symm);exact(g.pack).perm (List.Perm.swap _ _ _)
theorem Hs.qx {n i:Nat} {f g:Nat->HP} (m:i<n) (s:∀j,j≠i->g j=f j) (r:Hs G h (g i::sp (((List.range n).erase i).map f)::L)):Hs G h (hJ n g::L):=by
 have c:=(r.perm (List.Perm.swap _ _ _)).unpack;have q:((List.range n).erase i).map f=((List.range n).erase i).map g:=List.map_congr_left fun j o=>by
  have:j≠i:=by
   intro e;subst e;exact List.Nodup.not_mem_erase List.nodup_range o
  grind
 rw[q] at c;refine(c.perm ?_).pack;exact(List.perm_middle.trans ((Er m).symm.append_right L))
theorem Bl {n:Nat} {f g:Nat->HP} (c:∀j,j<n->g j=f j) (m:Hs G h (hJ n f::L)):Hs G h (hJ n g::L):=by
 have:(List.range n).map f=(List.range n).map g:=List.map_congr_left fun j i=>(c j (List.mem_range.1 i)).symm;unfold hJ at m ⊢;grind
theorem Hs.j0 {f:Nat->HP} (c:Hs G h L):Hs G h (hJ 0 f::L):=Hs.pack (A:=[]) c
theorem Hs.qm {n:Nat} {f:Nat->HP} (g:Hs G h (f n::hJ n f::L)):Hs G h (hJ (n+1) f::L):=by
 have c:=(g.perm (List.Perm.swap _ _ _)).unpack;refine Hs.pack (A:=(List.range (n+1)).map f) (c.perm ?_);rw[List.range_succ,List.map_append];simp
theorem C9.mono {f:Value} {args:List Value} {Q c:Value->AH->Prop} (k:C9 P K f args h Q) (i:∀v g,Q v g->c v g):C9 P K f args h c:=by
 unfold C9 at k ⊢;split at k;exact⟨k.1,Ok.mono k.2 fun _ _=>i _ _⟩;exact Ok.mono k fun _ _=>i _ _;cases k
theorem Wf {l:Nat} {args:List Value} {Q:Value->AH->Prop} (k:Ok P K (.round l args) h fun o c=>Q o.v c):C9 P K (.func (.yield l) #[] #[]) args h Q:=by
 simpa [C9] using k
def nw (P:Program) (K:FuncId->List Value->Option fC) (G:Bg) (f:FuncId) (first captured:List Value) (A:HP) (xs:List (List Value)):Prop:=
 ∀(I:List (List Value)->HP) (J:HP) (y:Value) (L:List HP) (h:AH) (Q:Value->AH->Prop),Hs G h (A::I xs::L)->
  (∀x rest h M,Hs G h (I (x::rest)::M)->C9 P K y x h fun v c=>(v= .bool true/\Hs G c (I rest::M))\/(v= .bool false/\Hs G c (J::M)))->
  (∀v c,Hs G c (A::I []::L)->Q v c)->(∀v c,Hs G c (A::J::L)->Q v c)->Cl P K f (first++[y]++captured) h Q
class cT (A:HP) (L:List HP) (L':outParam (List HP)):Prop where
 perm:L.Perm (A::L')
instance (priority:=low) cT.there {A B:HP} [k:cT A L L']:cT A (B::L) (B::L'):=⟨(k.perm.cons B).trans (List.Perm.swap _ _ _)⟩
instance (priority:=high) cT.here {A:HP}:cT A (A::L) L:=⟨List.Perm.refl _⟩
instance (priority:=high) cT.app {A B:HP} {c g:List HP} [k:cT A (B::(c++g)) L']:cT A ((B::c)++g) L':=k
instance (priority:=high) cT.vf {A:HP} {c:List HP} [k:cT A c L']:cT A ([]++c) L':=k
class Sub (L M:List HP):Prop where
 to:∀r,star L r->∃r1 r2,star M r1/\r1.qE r2/\r=r1.add r2
theorem od {r:bP}:r.add bP.emp=r:=by rw[bP.add_comm bP.cF.symm,bP.dV]
instance (priority:=low) Sub.skip {A:HP} [k:Sub L M]:Sub (A::L) M:=⟨fun r ⟨j,m,o,c,g,i⟩=>by
 obtain⟨s1,s2,g1,g2,g3⟩:=k.to m c;subst g3;obtain⟨d1,d2⟩:=bP.fG.1 g;exact⟨s1,j.add s2,g1,bP.fG.2 ⟨d1.symm,g2⟩,by rw[i,<-bP.add_assoc,<-bP.add_assoc,bP.add_comm d1]⟩⟩
instance Sub.take {A:HP} [k:cT A L L'] [q:Sub L' M]:Sub L (A::M):=⟨fun r o=>by
 obtain⟨c,s,g,i,j,m⟩:=A7 k.perm r o;obtain⟨s1,s2,g1,g2,g3⟩:=q.to s i;subst g3;obtain⟨d1,d2⟩:=bP.fG.1 j;exact⟨c.add s1,s2,⟨c,s1,g,g1,d1,rfl⟩,(bP.fG.2 ⟨d2.symm,g2.symm⟩).symm,by rw[m,bP.add_assoc]⟩⟩
instance (priority:=high) Sub.refl:Sub L L:=⟨fun r c=>⟨r,bP.emp,c,bP.cF.symm,od.symm⟩⟩
instance (priority:=high) Sub.app {A:HP} {c g:List HP} [k:Sub L (A::(c++g))]:Sub L ((A::c)++g):=k
instance (priority:=high) Sub.vf {c:List HP} [k:Sub L c]:Sub L ([]++c):=k
instance (priority:=high) Sub.aCi {A:HP} {c g:List HP} [k:Sub (A::(c++g)) M]:Sub ((A::c)++g) M:=k
instance (priority:=high) Sub.sp {A:List HP} [k:Sub L (A++M)]:Sub L (sp A::M):=⟨fun r m=>by
 obtain⟨s1,s2,g1,g2,g3⟩:=k.to r m;obtain⟨o,q,c,g,i,j⟩:=fD.1 g1;exact⟨s1,s2,⟨o,q,c,g,i,j⟩,g2,g3⟩⟩
theorem Hs.to (c:Hs G h L) [k:Sub L M]:Hs G h M:=⟨c.base,c.old,c.wf,c.fr,by
 obtain⟨r,g,i⟩:=c.res;obtain⟨j,m,g1,g2,g3⟩:=k.to r g;subst g3;exact⟨j,g1,((bP.eP g2).1 i).1⟩⟩
theorem Hs.rL {A B:HP} (c:Hs G h (B::A::L)):Hs G h (A::B::L):=c.perm (List.Perm.swap _ _ _)
theorem I4 {p:Prop} {A:List HP} (c:p) (g:Hs G h (sp A::L)):Hs G h (sp (Ck p::A)::L):=Hs.pack (A:=Ck p::A) (Hs.vx c g.unpack)
theorem sA {p:Prop} {A:List HP} (c:Hs G h (sp (Ck p::A)::L)):p/\Hs G h (sp A::L):=let⟨a,b⟩:=Hs.bc c.unpack;⟨a,b.pack⟩
theorem oM {a b:Prop} {c:List (Nat×Prop)} (g:a):qR none a b c:=g
theorem uj {a b:Prop} {c:List (Nat×Prop)} (g:b):qR (some .ret) a b c:=g
theorem vb {a b q:Prop} {c:List (Nat×Prop)} {id:Nat} (i:c.lookup id=some q) (g:q):qR (some (.exit id)) a b c:=by simp only[qR,i];exact g
end Go.Ab
end
section
namespace Go.Ab
variable {P:Program} {K:FuncId->List Value->Option fC} {G:Bg} {h:AH} {L L' M:List HP}
class Cv (v:Value) (cs:outParam (List Value)):Prop where
 eq:fI v=some cs
instance {a:Int}:Cv (I a) [I a]:=⟨rfl⟩
instance {a:Bool}:Cv (.bool a) [.bool a]:=⟨rfl⟩
instance {b o j:Nat}:Cv (pt b o j) [pt b o j]:=⟨rfl⟩
instance {a:Option Addr} {n c:Nat}:Cv (.slice a n c) [.slice a n c]:=⟨rfl⟩
instance {l:List Value}:Cv (.agg ⟨l⟩) l:=⟨rfl⟩
instance {f:Fn} {a b:Array Value}:Cv (.func f a b) [.func f a b]:=⟨rfl⟩
theorem fZ {cs:List Value} {e:TypeId} {v:Value} {k:Nat->AH->Prop} (i:Hs G h L) [j:Cv v cs] (g:∀p c,Hs G c (aR p 0 cs::L)->k p c):bB (iZ e v) fun b=>Cd h b k:=y8 i j.eq g
theorem Qr {r i n:Nat} {D:List Nat} {cs:List Value} {v:Value} {e:TypeId} {k:Nat->AH->Prop} (o:Hs G h L) [m:Has (Zv r) L (n,D) L'] [q:Cv v cs] (g:Nat.blt i n=true) (hD:D.contains i=false)
  (j:∀p c,Hs G c (aR p 0 cs::Zv r (n,i::D)::L')->k p c):bB (iZ e v) fun b=>kT h (r+i) b k:=j8 o q.eq g hD j
theorem hZ {b o j n:Nat} {c vs:List Value} {v:Value} {k:AH->Prop} (t:Hs G h L) [m:Has (aR b o) L c L'] [u:Cv v vs] (s:vs.length=n) (r:Nat.ble (j+n) c.length=true) (hb:vs.all dR=true) (i:Nat.ble 1 c.length=true)
  (q:∀g,Hs G g (aR b o (gZ c j vs)::L')->k g):bB (I7 h n (pt b o j) v) k:=zo t u.eq s r hb i q
theorem ax {b o j n:Nat} {c vs:List Value} {v:Value} {k:AH->Prop} (t:Hs G h L) [m:Has (aR b o) L c L'] [u:Cv v vs] (q:∀g,Hs G g (aR b o (gZ c j vs)::L')->k g) (s:vs.length=n:=by exact rfl) (r:Nat.ble (j+n) c.length=true:=by exact rfl) (hb:vs.all dR=true:=by exact rfl) (i:Nat.ble 1 c.length=true:=by exact rfl):bB (I7 h n (pt b o j) v) k:=hZ t s r hb i q
theorem No:∀(c vs:List Value),c.length=vs.length->gZ c 0 vs=vs
 |[],[],_=>rfl
 |_::c,v::vs,h=>by simp only[gZ];rw[No c vs (by simpa using h)]
theorem dX {b o n:Nat} {c vs:List Value} {v:Value} {k:AH->Prop} (s:Hs G h L) [m:Has (aR b o) L c L'] [t:Cv v vs] (g:Nat.beq c.length n=true) (j:Nat.ble 1 n=true) (r:vs.length=n) (hb:vs.all dR=true)
  (q:∀i,Hs G i (aR b o vs::L')->k i):bB (I7 h n (pt b o 0) v) k:=by
 have g:=Nat.eq_of_beq_eq_true g
 refine zo s t.eq r (by rw[g];simp) hb (by rw[g];exact j) ?_
 rw[No c vs (by omega)];exact q
theorem ap {b o n:Nat} {c vs:List Value} {v:Value} {k:AH->Prop} (s:Hs G h L) [m:Has (aR b o) L c L'] [t:Cv v vs] (q:∀i,Hs G i (aR b o vs::L')->k i) (g:Nat.beq c.length n=true:=by exact rfl) (j:Nat.ble 1 n=true:=by exact rfl) (r:vs.length=n:=by exact rfl) (hb:vs.all dR=true:=by exact rfl):bB (I7 h n (pt b o 0) v) k:=dX s g j r hb q
structure LpX where
 P:Program
 f:FuncId
 p:List Nat
 n:Nat
 e:Nat->Value
 d:Nat
 st:LoopState
 pd:Option Code
class kG (l:Nat) (L:List HP) (x:outParam LpX) (L':outParam (List HP)):Prop where
 perm:L.Perm (mD x.P x.f x.p x.n x.e x.d l (x.st,x.pd)::L')
instance (priority:=low) kG.there {l:Nat} {A:HP} {x:LpX} [k:kG l L x L']:kG l (A::L) x (A::L'):=⟨(k.perm.cons A).trans (List.Perm.swap _ _ _)⟩
instance (priority:=high) kG.here {l:Nat} {f:FuncId} {p:List Nat} {n:Nat} {e:Nat->Value} {d:Nat} {st:LoopState} {pd:Option Code}:kG l (mD P f p n e d l (st,pd)::L) ⟨P,f,p,n,e,d,st,pd⟩ L:=⟨List.Perm.refl _⟩
instance (priority:=high) kG.app {l:Nat} {A:HP} {c g:List HP} {x:LpX} [k:kG l (A::(c++g)) x L']:kG l ((A::c)++g) x L':=k
instance (priority:=high) kG.vf {l:Nat} {c:List HP} {x:LpX} [k:kG l c x L']:kG l ([]++c) x L':=k
theorem kG.of {l:Nat} {x:LpX} [k:kG l L x L'] (c:Hs G h L):Hs G h (mD x.P x.f x.p x.n x.e x.d l (x.st,x.pd)::L'):=c.perm k.perm
section
variable {f:FuncId} {p:List Nat} {n:Nat} {e:Nat->Value} {d l:Nat} {st st':LoopState} {pd pd':Option Code}
theorem tC {k:AH->Prop} (i:Hs G h L) [m:kG l L ⟨P,f,p,n,e,d,st,pd⟩ L'] (g:∀c,Hs G c (mD P f p n e d l (st',pd')::L')->k c):bB (bS h l st' (some pd')) k:=zt (show Hs G h (mD P f p n e d l (st,pd)::L') from m.of i) g
theorem nO {k:AH->Prop} (i:Hs G h L) [m:kG l L ⟨P,f,p,n,e,d,.ready,pd⟩ L'] (g:∀c,Hs G c (mD P f p n e d l (.busy,pd)::L')->k c):bB (iO h l) k:=ma (show Hs G h (mD P f p n e d l (.ready,pd)::L') from m.of i) g
theorem oJ {k:Option Code×AH->Prop} (i:Hs G h L) [m:kG l L ⟨P,f,p,n,e,d,.ready,pd⟩ L'] (g:∀c,Hs G c L'->k (pd,c)):bB (qH h l) k:=
 qt (P:=P) (f:=f) (p:=p) (n:=n) (e:=e) (d:=d) (st:= .ready) (pd:=pd) (k:=fun a b=>k (a,b)) (show Hs G h (mD P f p n e d l (.ready,pd)::L') from m.of i) (by decide) g
theorem Iq {k:Nat->Prop} (g:Hs G h L) [m:kG l L ⟨P,f,p,n,e,d,st,pd⟩ L'] (c:k d):bB (eI h l) k:=bf (P:=P) (f:=f) (p:=p) (n:=n) (e:=e) (d:=d) (st:=st) (pd:=pd) (show Hs G h (mD P f p n e d l (st,pd)::L') from m.of g) c
theorem F4 (c:Hs G h L) [m:kG l L ⟨P,f,p,n,e,d,st,pd⟩ L']:h.get l=some (lp P f p n e d st pd):=aBa (show Hs G h (mD P f p n e d l (st,pd)::L') from m.of c)
end
theorem Te {W:Nat} {e:TypeId} {a:Option Addr} {c n:Nat} {cs:List Value} (s:Hs G h (fT W e a c (n,cs)::L)):eR h W n (.slice a n c)=some cs:=by
 have F:=s.Ke;simp only at F;by_cases v:n=0;subst v;have:cs=[]:=List.eq_nil_of_length_eq_zero (by omega);subst this;cases a<;>simp[eR];obtain⟨b,o,rfl,H,t,_⟩:=s.An (by omega);simp only[eR,aCw v,Nat.le_refl,if_true];by_cases B:n*W=0;have:cs=[]:=List.eq_nil_of_length_eq_zero (by omega);subst this;obtain⟨r,S,m,I,R,E,i⟩:=s.fst;obtain⟨_,_,m⟩:=m;rcases m with⟨u,_⟩|⟨u,_⟩|⟨z,N,J,A,ex,C,hle,q⟩;simp at u;omega;simp at u;omega;cases C;subst q;obtain⟨D,g⟩:=Mh E i;simp only[bM,Option.isSome_none,Bool.false_eq_true,if_false,g,B];grind;obtain⟨D,O,Q,T,g,hle,w⟩:=t.cells (by omega);simp only[bM,Option.isSome_none,Bool.false_eq_true,if_false,g];rw[aac];congr 1;refine List.ext_getElem? fun j=>?_;grind
theorem R2 {W bytes:Nat} {e:TypeId} {a a2:Option Addr} {c c2 n m:Nat} {cs ns:List Value} {k:Value×AH->Prop} (r:Hs G h L) [t:Has (fT W e a c) L (n,cs) L'] [u:Has (fT W e a2 c2) L' (m,ns) M] (i:(n+m)*(bytes+1)<=2^46)
  (s:∀j o q,Hs G q (fT W e j o (n+m,cs++ns)::L')->k (.slice j (n+m) o,q)):bB (iB W bytes e h (.slice a n c) (.slice a2 m c2)) k:=by
 have g:=u.of (t.of r).tail
 exact ry (k:=fun x y=>k (x,y)) r kD (Te g) g.Oo g.Ke i s
theorem Hs.front (A:HP) (c:Hs G h L) [k:cT A L L']:Hs G h (A::L'):=c.perm k.perm
theorem Hs.cY (A B:HP) (c:Hs G h L) [k:cT A L L'] [g:cT B L' M]:Hs G h (A::B::M):=c.perm (k.perm.trans (g.perm.cons A))
end Go.Ab
end
section
namespace Go.Ab
variable {P:Program} {K:FuncId->List Value->Option fC} {G:Bg} {h:AH} {L L' M:List HP}
structure iv (G:Bg) (W:Nat) (e:TypeId) (a:Option Addr) (cap n b o:Nat) where
 p:HP
 back:∀(h':AH) (cs':List Value) (M:List HP),cs'.length=n*W->cs'.all dR=true->Hs G h' (aR b o cs'::p::M)->Hs G h' (fT W e a cap (n,cs')::M)
def hole (G:Bg) (W:Nat) (e:TypeId) (a:Option Addr) (cap n b o:Nat):HP:=Bb fun H:iv G W e a cap n b o=>H.p
theorem Hs.iY {W:Nat} {e:TypeId} {a:Option Addr} {cap n:Nat} {cs:List Value} (j:Hs G h (fT W e a cap (n,cs)::L)) (q:0<n):
  ∃b o,a=some ⟨b,o,none⟩/\Hs G h (aR b o cs::hole G W e a cap n b o::L):=by
 have i:=j.Ke
 simp only at i
 obtain⟨b,o,u,H,g,v⟩:=j.An q
 exact⟨b,o,u,Hs.rL (Hs.vK (A:=fun H:iv G W e a cap n b o=>H.p) ⟨H,fun m c M r s t=>v m c M (r.trans i.symm) s t⟩ g.rL)⟩
theorem Hs.A8 {W:Nat} {e:TypeId} {a:Option Addr} {cap n b o:Nat} {cs:List Value} (c:Hs G h (aR b o cs::hole G W e a cap n b o::L)) (i:cs.length=n*W) (g:cs.all dR=true):Hs G h (fT W e a cap (n,cs)::L):=by
 obtain⟨⟨H,hH⟩,c⟩:=Hs.yS (A:=fun H:iv G W e a cap n b o=>H.p) c.rL;exact hH _ _ _ i g c.rL
theorem o6 {b o W:Nat} {c:Nat->List Value} (s:∀i,(c i).length=W):∀(n:Nat) (L:List HP),Hs G h (aR b o ((List.range n).flatMap c)::L)->Hs G h (hJ n (fun i=>aR b (o+i*W) (c i))::L):=by
 intro n;induction n with
 |zero=>intro L g;exact Hs.j0 g.tail
 |succ n r=>
  intro L g;rw[List.range_succ,List.flatMap_append] at g;have q:∀m,((List.range m).flatMap c).length=m*W:=fun m=>by
   induction m with
   |zero=>simp
   |succ m j=>rw[List.range_succ,List.flatMap_append,List.length_append,j];grind
  have g:=g.split;simp only[List.flatMap_cons,List.flatMap_nil,List.append_nil,q] at g;exact Hs.qm (Hs.rL (r _ g))
theorem Hs.Rw {f g:Nat->HP}:∀(n:Nat) (L:List HP),(∀i,i<n->∀h L,Hs G h (f i::L)->Hs G h (g i::L))->Hs G h (hJ n f::L)->Hs G h (hJ n g::L):=by
 intro n;induction n with
 |zero=>intro L _ c;exact Hs.j0 c.tail
 |succ n m=>
  intro L j c;have c:=c.unpack;rw[List.range_succ,List.map_append,List.append_assoc] at c;have c:Hs G h (hJ n f::f n::L):=Hs.pack c;exact Hs.qm (j n (Nat.lt_succ_self n) _ _ (m _ (fun i o=>j i (by omega)) c).rL)
theorem rz {n i:Nat} {l:List Value} {v:Value} {k:Value->Prop} (c:i<n) (j:l[i]?=some v) (g:k v):bB (Rp n 1 (.agg ⟨l⟩) (I i)) k:=⟨v,by simp[Rp,c,j],g⟩
theorem vJ {b o j n c i:Nat} {k:Value->Prop} (g:i<n) (m:k (pt b o (j+i*c))):bB (tQ n c (pt b o j) (I i)) k:=⟨_,by simp[tQ,g,dL,pt,Nat.add_assoc],m⟩
theorem rb {bytes n:Nat} {k:Nat×Nat->Prop} (g:n<=2^40) (hb:bytes*n<=2^47) (c:k (n,n)):bB (Ed bytes (I n) (I n)) k:=⟨_,by simp only[Ed];grind,c⟩
theorem sH {b o j n:Nat} {c l:List Value} {k:Value->Prop} (s:Hs G h L) [m:Has (aR b o) L c L'] (r:0<n) (g:(c.drop j).take n=l) (q:l.length=n) (i:k (.agg ⟨l⟩)):bB (A5 h n (pt b o j)) k:=cA s r g q i
theorem ua {b n:Nat} {c:List Value} {k:Value->Prop} (q:Hs G h L) (m:Ob G b c) (g:c.length=n) (i:k (.agg ⟨c⟩)):bB (A5 h n (.pointer (some ⟨b,0,none⟩))) k:=
 Ym (o:=0) (j:=0) q m (by rw[<-g];simp) g (by simp) i
def aI {α:Type} (f:Nat->α) (i:Nat) (v:α):Nat->α:=fun j=>if j=i then v else f j
theorem dJ {α:Type} {f:Nat->α} {i:Nat} {v:α}:aI f i v i=v:=by simp[aI]
theorem bQ {α:Type} {f:Nat->α} {i j:Nat} {v:α} (h:j≠i):aI f i v j=f j:=by simp[aI,h]
theorem qQ {W:Nat} {c:Nat->List Value} (j:∀i,(c i).length=W) (m:Nat):((List.range m).flatMap c).length=m*W:=by
 induction m with
 |zero=>simp
 |succ m g=>rw[List.range_succ,List.flatMap_append,List.length_append,g];grind
theorem ng {W:Nat} {c:Nat->List Value} (t:∀i,(c i).length=W) {i:Nat}:∀(n:Nat),i<n->∃m g,(List.range n).flatMap c=m++(c i++g)/\m.length=i*W/\∀x,(List.range n).flatMap (aI c i x)=m++(x++g):=by
 intro n;induction n with
 |zero=>intro h;omega
 |succ n u=>
  intro h;by_cases o:i=n;subst o;refine⟨(List.range i).flatMap c,[],?_,qQ t i,fun x=>?_⟩;rw[List.range_succ,List.flatMap_append];simp;rw[List.range_succ,List.flatMap_append];congr 1;rw[List.flatMap_def,List.flatMap_def];congr 1;exact List.map_congr_left fun j v=>bQ (by grind);simp[dJ];obtain⟨m,g,q,r,s⟩:=u (by omega);refine⟨m,g++c n,?_,r,fun x=>?_⟩;rw[List.range_succ,List.flatMap_append,q];simp;rw[List.range_succ,List.flatMap_append,s];simp[bQ (Ne.symm o)]
theorem Hs.so {W:Nat} {e:TypeId} {a:Option Addr} {cap n i:Nat} {c:Nat->List Value} (u:∀i,(c i).length=W) (B:i<n) (g:Hs G h (fT W e a cap (n,(List.range n).flatMap c)::L)):
  ∃b o,a=some ⟨b,o,none⟩/\∃H:HP,Hs G h (aR b (o+i*W) (c i)::H::L)/\∀s x M,x.length=W->x.all dR=true->Hs G s (aR b (o+i*W) x::H::M)->Hs G s (fT W e a cap (n,(List.range n).flatMap (aI c i x))::M):=by
 have m:=g.Oo
 simp only at m
 obtain⟨b,o,z,g⟩:=g.iY (by omega)
 obtain⟨r,q,v,t,w⟩:=ng u n B
 rw[v] at g m
 have g:=g.split.rL.split
 rw[t] at g
 refine⟨b,o,z,sp [aR b o r,aR b (o+i*W+(c i).length) q,hole G W e a cap n b o],?_,?_⟩
 .exact(Hs.pack (A:=[aR b o r,aR b (o+i*W+(c i).length) q,hole G W e a cap n b o]) g.to).rL
 .intro s x M C D g;have g:Hs G s (aR b (o+i*W) x::aR b (o+i*W+(c i).length) q::aR b o r::hole G W e a cap n b o::M):=(g.rL.unpack).to;have g:=Hs.Tg g (by rw[C,u]);have g:=Hs.Tg g.rL (by rw[t]);refine Hs.A8 (by rw[w];exact g) (qQ (fun j=>by unfold aI;grind) n) ?_;grind
theorem Hs.sg {b o:Nat} {c c':List Value} (i:Hs G h L) [m:Has (aR b o) L c' L'] (g:c'=c):Hs G h (aR b o c::L'):=by subst g;exact m.of i
theorem Hs.Bz {n i:Nat} (f g:Nat->HP) (o:i<n) (s:∀j,j<n->j≠i->g j=f j) (c:Hs G h L) [k:cT (g i) L L'] [t:cT (sp (((List.range n).erase i).map f)) L' M]:Hs G h (hJ n g::M):=by
 have c:=c.cY (g i) (sp (((List.range n).erase i).map f));have m:=(c.perm (List.Perm.swap _ _ _)).unpack;have r:((List.range n).erase i).map f=((List.range n).erase i).map g:=List.map_congr_left fun j q=>by
  have:j≠i:=by
   intro e;subst e;exact List.Nodup.not_mem_erase List.nodup_range q
  grind
 rw[r] at m;refine(m.perm ?_).pack;exact(List.perm_middle.trans ((Er o).symm.append_right M))
theorem J2 {bytes:Nat} {a:Int} {k:Nat×Nat->Prop} (g:0<=a) (i:a<=2^40) (hb:bytes*a<=2^47) (c:k (a.toNat,a.toNat)):bB (Ed bytes (I a) (I a)) k:=⟨_,by simp only[Ed];grind,c⟩
theorem fH (z:List Value) (n:Nat):dS z n=(List.range n).flatMap fun _=>z:=by
 induction n with
 |zero=>rfl
 |succ n c=>rw[List.range_succ,List.flatMap_append,<-c];simp[dS,List.replicate_succ']
theorem sJ {c:Nat->List Value} (g:∀i,(c i).all dR=true) (n:Nat):((List.range n).flatMap c).all dR=true:=by
 grind
theorem Hs.J5 {W:Nat} {e:TypeId} {z:List Value} {a:Option Addr} {cap n:Nat} (m:z.length=W) (g:0<n) (c:Hs G h (fT W e a cap (n,dS z n)::L)):∃b o,a=some ⟨b,o,none⟩/\Hs G h (hJ n (fun i=>aR b (o+i*W) z)::hole G W e a cap n b o::L):=by
 obtain⟨b,o,j,c⟩:=c.iY g;rw[fH] at c;exact⟨b,o,j,o6 (fun _=>m) n _ c⟩
theorem Hs.eW {c g i:List HP} (A B C:HP) (j:Hs G h L) [k:cT A L c] [m:cT B c g] [o:cT C g i]:Hs G h (A::B::C::i):=j.perm (k.perm.trans ((m.perm.trans (o.perm.cons B)).cons A))
theorem yg {b o i j:Nat} {c:List Value} {v:Value} {k:Value->Prop} (r:Hs G h L) [m:Has (aR b o) L c L'] (g:c[i+j]?=some v) (q:k v):bB (ld1 h (pt b (o+i) j)) k:=by
 have:pt b (o+i) j=pt b o (i+j):=by simp only[pt];rw[Nat.add_assoc]
 rw[this];exact aS r g q
theorem Es {α:Type} {f:Nat->α} {i:Nat} {v w:α}:aI (aI f i v) i w=aI f i w:=by funext j;unfold aI;split<;>rfl
theorem Tn:∀(l:List Value),(∀v∈l,oO v v=true)->El l l=true
 |[],_=>by simp[El]
 |a::l,h=>by simp only[El,h a List.mem_cons_self,Bool.true_and];exact Tn l fun v c=>h v (List.mem_cons_of_mem _ c)
theorem Ku {l:List Value} (h:∀v∈l,oO v v=true):oO (.agg ⟨l⟩) (.agg ⟨l⟩)=true:=by
 simp only[oO,Qa];exact Tn l h
end Go.Ab
end
section
namespace Go.Ab
variable {P:Program} {K:FuncId->List Value->Option fC} {G:Bg} {h:AH} {L L' M:List HP}
theorem vk {b o i j n:Nat} {c l:List Value} {k:Value->Prop} (t:Hs G h L) [m:Has (aR b o) L c L'] (s:0<n) (g:(c.drop (i+j)).take n=l) (r:l.length=n) (q:k (.agg ⟨l⟩)):bB (A5 h n (pt b (o+i) j)) k:=by
 have:pt b (o+i) j=pt b o (i+j):=by simp only[pt];rw[Nat.add_assoc]
 rw[this];exact cA t s g r q
end Go.Ab
end
section
namespace Go.Ab
variable {P:Program} {K:FuncId->List Value->Option fC} {h:AH}
end Go.Ab
end
section
namespace Go.Ab
variable {P:Program} {K:FuncId->List Value->Option fC} {G:Bg} {h:AH} {L L' M:List HP}
end Go.Ab
end
