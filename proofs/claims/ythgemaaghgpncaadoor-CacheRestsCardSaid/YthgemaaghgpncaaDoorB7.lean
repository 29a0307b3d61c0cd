/- A part of the proof. -/
import Derived.Test.YthgemaaghgpncaaDoorB4
import Derived.IntWalk
import Derived.KernelRfl
section
namespace Go.Ab
open Go.RowKit
inductive Tok where
 |free
 |mt (e:TypeId) (x:Bool) (n:Nat)
 |xN (b:jN)
structure bA where
 cell:Nat→Nat→Option Value
 tok:Nat→Option Tok
def H2:jN→Bool
 |.cells ..=>false
 |_=>true
structure bA.In (r:bA) (h:AH):Prop where
 cell:∀b o v,r.cell b o=some v→h.base≤b∧∃c e x,h.get b=some (.cells c e (0,0) x)∧c[o]?=some v
 free:∀b,r.tok b=some .free→h.base≤b∧b<h.next∧h.get b=none
 mt:∀b e x n,r.tok b=some (.mt e x n)→h.base≤b∧∃c,h.get b=some (.cells c e (0,0) x)∧c.length=n
 xN:∀b o,r.tok b=some (.xN o)→h.base≤b∧h.get b=some o∧H2 o=true
structure bA.oF (r s:bA):Prop where
 cell:∀b o,r.cell b o=none∨s.cell b o=none
 tok:∀b,r.tok b=none∨s.tok b=none
def bA.add (r s:bA):bA:=⟨fun b o=>(r.cell b o).or (s.cell b o),fun b=>(r.tok b).or (s.tok b)⟩
def bA.emp:bA:=⟨fun _ _=>none,fun _=>none⟩
theorem bA.ext' {r s:bA} (h1:∀b o,r.cell b o=s.cell b o) (h2:∀b,r.tok b=s.tok b):r=s:=by
 cases r;cases s
 simp only[bA.mk.injEq]
 grind
theorem B1 {α:Type} {a b:Option α} (h:a=none∨b=none):a.or b=b.or a:=by
 rcases h with h|h<;>subst h<;>simp
theorem or_none {α:Type} {a b:Option α} (h:a.or b=none):a=none∧b=none:=by cases a<;>simp_all
theorem bA.oF.symm {r s:bA} (d:r.oF s):s.oF r:=⟨fun b o=>(d.cell b o).symm,fun b=>(d.tok b).symm⟩
theorem bA.add_comm {r s:bA} (d:r.oF s):r.add s=s.add r:=bA.ext' (fun b o=>B1 (d.cell b o)) (fun b=>B1 (d.tok b))
theorem bA.add_assoc {r s t:bA}:(r.add s).add t=r.add (s.add t):=bA.ext' (fun b o=>by simp[bA.add,Option.or_assoc]) (fun b=>by simp[bA.add,Option.or_assoc])
theorem bA.fI {r s t:bA}:r.oF (s.add t)↔r.oF s∧r.oF t:=by
 constructor
 ·intro d
  refine⟨⟨fun b o=>?_,fun b=>?_⟩,⟨fun b o=>?_,fun b=>?_⟩⟩
  ·rcases d.cell b o with h|h;exact .inl h;exact .inr (or_none h).1
  ·rcases d.tok b with h|h;exact .inl h;exact .inr (or_none h).1
  ·rcases d.cell b o with h|h;exact .inl h;exact .inr (or_none h).2
  ·rcases d.tok b with h|h;exact .inl h;exact .inr (or_none h).2
 ·intro⟨d1,d2⟩
  refine⟨fun b o=>?_,fun b=>?_⟩
  ·rcases d1.cell b o with h|h
   ·exact .inl h
   ·rcases d2.cell b o with h'|h'
    ·exact .inl h'
    ·exact .inr (by simp[bA.add,h,h'])
  ·rcases d1.tok b with h|h
   ·exact .inl h
   ·rcases d2.tok b with h'|h'
    ·exact .inl h'
    ·exact .inr (by simp[bA.add,h,h'])
theorem bA.eA {r:bA}:bA.emp.add r=r:=bA.ext' (fun _ _=>by simp[bA.add,bA.emp]) (fun _=>by simp[bA.add,bA.emp])
theorem bA.bV {r:bA}:bA.emp.oF r:=⟨fun _ _=> .inl rfl,fun _=> .inl rfl⟩
theorem bA.eG {r s:bA} {h:AH} (d:r.oF s):(r.add s).In h↔r.In h∧s.In h:=by
 have c1:∀b o v,r.cell b o=some v→(r.add s).cell b o=some v:=fun b o v hv=>by simp[bA.add,hv]
 have c2:∀b o v,s.cell b o=some v→(r.add s).cell b o=some v:=fun b o v hv=>by
  rcases d.cell b o with h|h
  ·simp[bA.add,h,hv]
  grind
 have t1:∀b v,r.tok b=some v→(r.add s).tok b=some v:=fun b v hv=>by simp[bA.add,hv]
 have t2:∀b v,s.tok b=some v→(r.add s).tok b=some v:=fun b v hv=>by
  rcases d.tok b with h|h
  ·simp[bA.add,h,hv]
  grind
 have c3:∀b o v,(r.add s).cell b o=some v→r.cell b o=some v∨s.cell b o=some v:=fun b o v hv=>by
  simp only[bA.add] at hv
  cases hr:r.cell b o with
  |none=>grind
  |some u=>grind
 have t3:∀b v,(r.add s).tok b=some v→r.tok b=some v∨s.tok b=some v:=fun b v hv=>by
  simp only[bA.add] at hv
  cases hr:r.tok b with
  |none=>grind
  |some u=>grind
 constructor
 ·intro i
  exact⟨⟨fun b o v hv=>i.cell b o v (c1 _ _ _ hv),fun b hv=>i.free b (t1 _ _ hv),fun b e x n hv=>i.mt b e x n (t1 _ _ hv),fun b o hv=>i.xN b o (t1 _ _ hv)⟩,
      ⟨fun b o v hv=>i.cell b o v (c2 _ _ _ hv),fun b hv=>i.free b (t2 _ _ hv),fun b e x n hv=>i.mt b e x n (t2 _ _ hv),fun b o hv=>i.xN b o (t2 _ _ hv)⟩⟩
 ·intro⟨i,j⟩
  refine⟨fun b o v hv=>?_,fun b hv=>?_,fun b e x n hv=>?_,fun b o hv=>?_⟩
  ·rcases c3 _ _ _ hv with h|h;exact i.cell b o v h;exact j.cell b o v h
  ·rcases t3 _ _ hv with h|h;exact i.free b h;exact j.free b h
  ·rcases t3 _ _ hv with h|h;exact i.mt b e x n h;exact j.mt b e x n h
  ·rcases t3 _ _ hv with h|h;exact i.xN b o h;exact j.xN b o h
abbrev HP:=bA→Prop
def star:List HP→bA→Prop
 |[],r=>r=bA.emp
 |A::L,r=>∃r1 r2,A r1∧star L r2∧r1.oF r2∧r=r1.add r2
theorem wV {L L':List HP} (p:L.Perm L'):∀r,star L r→star L' r:=by
 induction p with
 |nil=>exact fun _ h=>h
 |cons A _ ih=>exact fun r ⟨r1,r2,h1,h2,h3,h4⟩=>⟨r1,r2,h1,ih _ h2,h3,h4⟩
 |swap A B L=>
  intro r ⟨r1,r2,h1,⟨r3,r4,h5,h6,h7,h8⟩,h3,h4⟩
  subst h8;subst h4
  obtain⟨d1,d2⟩:=bA.fI.1 h3
  refine⟨r3,r1.add r4,h5,⟨r1,r4,h1,h6,d2,rfl⟩,bA.fI.2 ⟨d1.symm,h7⟩,?_⟩
  rw[←bA.add_assoc,←bA.add_assoc,bA.add_comm d1]
 |trans _ _ ih1 ih2=>grind
theorem fG {L M:List HP}:∀{r},star (L++M) r↔∃r1 r2,star L r1∧star M r2∧r1.oF r2∧r=r1.add r2:=by
 induction L with
 |nil=>intro r;exact⟨fun h=>⟨bA.emp,r,rfl,h,bA.bV,bA.eA.symm⟩,fun⟨r1,r2,h1,h2,h3,h4⟩=>by cases h1;rw[bA.eA] at h4;subst h4;exact h2⟩
 |cons A L ih=>
  intro r
  constructor
  ·intro⟨r1,r2,h1,h2,h3,h4⟩
   obtain⟨r3,r4,h5,h6,h7,h8⟩:=ih.1 h2
   subst h8
   obtain⟨d1,d2⟩:=bA.fI.1 h3
   exact⟨r1.add r3,r4,⟨r1,r3,h1,h5,d1,rfl⟩,h6,(bA.fI.2 ⟨d2.symm,h7.symm⟩).symm,by rw[h4,bA.add_assoc]⟩
  ·intro⟨r1,r2,⟨r3,r4,h1,h2,h3,h4⟩,h5,h6,h7⟩
   subst h4
   obtain⟨d1,d2⟩:=bA.fI.1 h6.symm
   exact⟨r3,r4.add r2,h1,ih.2 ⟨r4,r2,h2,h5,d2.symm,rfl⟩,bA.fI.2 ⟨h3,d1.symm⟩,by rw[h7,bA.add_assoc]⟩
structure Bg where
 base:Nat
 old:Nat→Option jN
structure Hs (G:Bg) (h:AH) (L:List HP):Prop where
 base:h.base=G.base
 old:h.old=G.old
 wf:h.base≤h.next
 fr:∀i,h.next≤i→h.get i=none
 res:∃r,star L r∧r.In h
variable {P:Program} {K:FuncId→List Value→Option fM} {G:Bg} {h:AH} {L L' M:List HP}
theorem Hs.perm (hs:Hs G h L) (p:L.Perm L'):Hs G h L':=⟨hs.base,hs.old,hs.wf,hs.fr,let⟨r,h1,h2⟩:=hs.res;⟨r,wV p r h1,h2⟩⟩
theorem Hs.tail {A:HP} (hs:Hs G h (A::L)):Hs G h L:=⟨hs.base,hs.old,hs.wf,hs.fr,let⟨_,⟨_,r2,_,h2,h3,h4⟩,h5⟩:=hs.res;⟨r2,h2,((bA.eG h3).1 (h4▸h5)).2⟩⟩
theorem Hs.imp {A:HP} {B:List HP} (hs:Hs G h (A::L)) (k:∀r,A r→star B r):Hs G h (B++L):=⟨hs.base,hs.old,hs.wf,hs.fr,let⟨r,⟨r1,r2,h1,h2,h3,h4⟩,h5⟩:=hs.res;⟨r,fG.2 ⟨r1,r2,k r1 h1,h2,h3,h4⟩,h5⟩⟩
theorem Hs.join {A:List HP} {B:HP} (hs:Hs G h (A++L)) (k:∀r,star A r→B r):Hs G h (B::L):=⟨hs.base,hs.old,hs.wf,hs.fr,let⟨r,h1,h5⟩:=hs.res;let⟨r1,r2,h1,h2,h3,h4⟩:=fG.1 h1;⟨r,⟨r1,r2,k r1 h1,h2,h3,h4⟩,h5⟩⟩
class Has {α:Type} (R:α→HP) (L:List HP) (a:outParam α) (L':outParam (List HP)):Prop where
 perm:L.Perm (R a::L')
instance (priority:=low) Has.there {α:Type} {R:α→HP} {A:HP} {a:α} [k:Has R L a L']:Has R (A::L) a (A::L'):=⟨(k.perm.cons A).trans (List.Perm.swap _ _ _)⟩
instance (priority:=high) Has.here {α:Type} {R:α→HP} {a:α}:Has R (R a::L) a L:=⟨List.Perm.refl _⟩
instance (priority:=high) Has.app {α:Type} {R:α→HP} {A:HP} {L1 L2:List HP} {a:α} [k:Has R (A::(L1++L2)) a L']:Has R ((A::L1)++L2) a L':=k
instance (priority:=high) Has.Yi {α:Type} {R:α→HP} {L2:List HP} {a:α} [k:Has R L2 a L']:Has R ([]++L2) a L':=k
theorem Hs.get {α:Type} {R:α→HP} {a:α} (hs:Hs G h L) [k:Has R L a L']:Hs G h (R a::L'):=hs.perm k.perm
def vL (b o:Nat) (c:List Value):bA:=⟨fun b' o'=>if b'=b∧o≤o' then c[o' - o]? else none,fun _=>none⟩
def aO (b o:Nat) (c:List Value):HP:=fun r=>r=vL b o c
def mt (b:Nat) (m:TypeId×Bool×Nat):HP:=fun r=>r=⟨fun _ _=>none,fun b'=>if b'=b then some (.mt m.1 m.2.1 m.2.2) else none⟩
def ot (b:Nat) (o:jN):HP:=fun r=>r=⟨fun _ _=>none,fun b'=>if b'=b then some (.xN o) else none⟩
def Zc (r0 n:Nat) (D:List Nat):HP:=fun r=>r=⟨fun _ _=>none,fun b=>if r0≤b∧b<r0+n∧(b - r0)∉D then some .free else none⟩
theorem lQ {b o:Nat} {c:List Value} {b' o':Nat}:(vL b o c).cell b' o'=if b'=b∧o≤o' then c[o' - o]? else none:=rfl
theorem xS {b o:Nat} {c d:List Value}:vL b o (c++d)=(vL b o c).add (vL b (o+c.length) d):=by
 refine bA.ext' (fun b' o'=>?_) (fun _=>rfl)
 simp only[bA.add,lQ]
 grind
theorem N4 {b o:Nat} {c d:List Value}:(vL b o c).oF (vL b (o+c.length) d):=by
 refine⟨fun b' o'=>?_,fun _=> .inl rfl⟩
 simp only[lQ]
 grind
theorem sD {b o:Nat} {c d:List Value} (r:bA):aO b o (c++d) r↔star [aO b o c,aO b (o+c.length) d] r:=by
 constructor
 ·intro hr
  cases hr
  exact⟨_,_,rfl,⟨_,bA.emp,rfl,rfl,bA.bV.symm,rfl⟩,by rw[bA.add_comm bA.bV.symm,bA.eA];exact N4,by rw[bA.add_comm (s:=bA.emp) bA.bV.symm,bA.eA,xS]⟩
 ·intro⟨r1,r2,h1,⟨r3,r4,h5,h6,h7,h8⟩,h3,h4⟩
  cases h1;cases h5;cases h6
  subst h8
  rw[bA.add_comm (s:=bA.emp) bA.bV.symm,bA.eA] at h4
  rw[←xS] at h4
  exact h4
theorem Hs.split {b o:Nat} {c d:List Value} (hs:Hs G h (aO b o (c++d)::L)):Hs G h (aO b o c::aO b (o+c.length) d::L):=hs.imp (B:=[_,_]) fun r=>(sD r).1
theorem Hs.Fu {b o o':Nat} {c d:List Value} (hs:Hs G h (aO b o c::aO b o' d::L)) (ho:o'=o+c.length):Hs G h (aO b o (c++d)::L):=by
 subst ho;exact Hs.join (A:=[_,_]) hs fun r=>(sD r).2
theorem Hs.cellAt {b o j:Nat} {c:List Value} {v:Value} (hs:Hs G h (aO b o c::L)) (hc:c[j]?=some v):
  G.base≤b∧∃c' e x,h.get b=some (.cells c' e (0,0) x)∧c'[o+j]?=some v:=by
 obtain⟨_,⟨r1,r2,h1,h2,h3,h4⟩,h5⟩:=hs.res
 cases h1
 subst h4
 have:=((bA.eG h3).1 h5).1.cell b (o+j) v (by rw[lQ,if_pos ⟨rfl,by omega⟩];grind)
 rw[hs.base] at this
 exact this
theorem Hs.cells {b o:Nat} {c:List Value} (hs:Hs G h (aO b o c::L)) (hne:0<c.length):
  G.base≤b∧∃c' e x,h.get b=some (.cells c' e (0,0) x)∧o+c.length≤c'.length∧∀j,j<c.length→c'[o+j]?=c[j]?:=by
 obtain⟨hb,c',e,x,hg,h0⟩:=hs.cellAt (j:=0) (List.getElem?_eq_getElem hne)
 have hall:∀j,j<c.length→c'[o+j]?=c[j]?:=fun j hj=>by
  obtain⟨_,c2,e2,x2,hg2,h2⟩:=hs.cellAt (j:=j) (List.getElem?_eq_getElem hj)
  grind
 refine⟨hb,c',e,x,hg,?_,hall⟩
 have h1:=hall (c.length - 1) (by omega)
 grind
theorem bA.In.of {r:bA} {h h':AH} (i:r.In h) (hb:h'.base=h.base) (hn:h.next≤h'.next) (hk:∀b,(r.tok b≠none∨∃o,r.cell b o≠none)→h'.get b=h.get b):r.In h' where
 cell:=fun b o v hv=>by
  obtain⟨h1,c,e,x,h2,h3⟩:=i.cell b o v hv
  grind
 free:=fun b hv=>by
  obtain⟨h1,h2,h3⟩:=i.free b hv
  grind
 mt:=fun b e x n hv=>by
  obtain⟨h1,c,h2,h3⟩:=i.mt b e x n hv
  grind
 xN:=fun b o hv=>by
  obtain⟨h1,h2,h3⟩:=i.xN b o hv
  grind
theorem AH.uU {h:AH} {i:Nat} {o:Option jN}:(h.set i o).old=h.old:=by rw[AH.vX];split<;>rfl
theorem Hs.write {b o j:Nat} {c vs:List Value} (hs:Hs G h (aO b o c::L)) (hl:j+vs.length≤c.length) (hv:vs.all eE=true) (hne:0<c.length):
  ∃h',cA h ⟨b,o+j,none⟩ vs=some h'∧Hs G h' (aO b o (aT c j vs)::L):=by
 obtain⟨hb,c',e,x,hg,hlen,hall⟩:=hs.cells hne
 have hbase:h.base≤b:=by rw[hs.base];exact hb
 refine⟨h.set b (some (.cells (aT c' (o+j) vs) e (0,0) x)),?_,?_⟩
 ·simp only[cA,Option.isSome_none,Bool.false_or,hv,Bool.not_true,Bool.or_false,hg]
  grind
 ·obtain⟨_,⟨r1,r2,h1,h2,h3,h4⟩,h5⟩:=hs.res
  cases h1
  subst h4
  obtain⟨i1,i2⟩:=(bA.eG h3).1 h5
  have hget:∀i,(h.set b (some (.cells (aT c' (o+j) vs) e (0,0) x))).get i=if i=b then some (.cells (aT c' (o+j) vs) e (0,0) x) else h.get i:=fun i=>AH.fJ hbase
  have hsl:∀k,(aT c' (o+j) vs)[k]?=if o+j≤k∧k<o+j+vs.length then vs[k - (o+j)]? else c'[k]?:=fun k=>by
   unfold aT
   by_cases h1:k<o+j
   ·grind
   ·by_cases h2:k<o+j+vs.length
    ·grind
    ·rw[if_neg (by omega),List.getElem?_append_right (by simp;omega)]
     simp only[List.length_append,List.length_take,List.getElem?_drop]
     congr 1;omega
  have hsc:∀k,(aT c j vs)[k]?=if j≤k∧k<j+vs.length then vs[k - j]? else c[k]?:=fun k=>by
   unfold aT
   by_cases h1:k<j
   ·grind
   ·by_cases h2:k<j+vs.length
    ·grind
    ·rw[if_neg (by omega),List.getElem?_append_right (by simp;omega)]
     simp only[List.length_append,List.length_take,List.getElem?_drop]
     congr 1;omega
  have hscl:(aT c j vs).length=c.length:=by simp[aT];omega
  have hd:(vL b o (aT c j vs)).oF r2:=by
   refine⟨fun b' o'=>?_,fun _=> .inl rfl⟩
   rcases h3.cell b' o' with h|h
   ·left
    rw[lQ] at h ⊢
    grind
   ·exact .inr h
  have hbn:b<h.next:=by
   rcases Nat.lt_or_ge b h.next with h1|h1
   ·exact h1
   ·rw[hs.fr b h1] at hg;cases hg
  refine⟨by simp;exact hs.base,by rw[AH.uU];exact hs.old,by simp;exact hs.wf,fun i hi=>by simp at hi;rw[hget,if_neg (by omega)];exact hs.fr i hi,_,⟨_,r2,rfl,h2,hd,rfl⟩,(bA.eG hd).2 ⟨?_,?_⟩⟩
  ·refine⟨fun b' o' v hv'=>?_,fun _ hh=>by simp[vL] at hh,fun _ _ _ _ hh=>by simp[vL] at hh,fun _ _ hh=>by simp[vL] at hh⟩
   rw[lQ] at hv'
   split at hv'
   ·rename_i hc
    obtain⟨rfl,ho⟩:=hc
    refine⟨by simp;exact hbase,_,e,x,by rw[hget,if_pos rfl],?_⟩
    rw[hsl]
    rw[hsc] at hv'
    split at hv'
    ·rename_i hk
     rw[if_pos (by omega),show o' - (o+j)=o' - o - j by omega];exact hv'
    ·rename_i hk
     rw[if_neg (by omega)]
     have hlt:o' - o<c.length:=(List.getElem?_eq_some_iff.1 hv').1
     have:=hall (o' - o) hlt
     rw[show o+(o' - o)=o' by omega] at this
     rw[this];exact hv'
   ·cases hv'
  ·
   have hr2:∀b' o' v,r2.cell b' o'=some v→b'=b→¬(o+j≤o'∧o'<o+j+vs.length):=by
    intro b' o' v hv' hbb hk
    subst hbb
    rcases h3.cell b' o' with h|h
    ·rw[lQ,if_pos ⟨rfl,by omega⟩,List.getElem?_eq_none_iff] at h
     omega
    ·grind
   refine⟨fun b' o' v hv'=>?_,fun b' hv'=>?_,fun b' e' x' n hv'=>?_,fun b' ob hv'=>?_⟩
   ·obtain⟨g1,c2,e2,x2,g2,g3⟩:=i2.cell b' o' v hv'
    refine⟨by simp;exact g1,?_⟩
    grind
   ·obtain⟨g1,g2,g3⟩:=i2.free b' hv'
    refine⟨by simp;exact g1,by simp;exact g2,?_⟩
    grind
   ·obtain⟨g1,c2,g2,g3⟩:=i2.mt b' e' x' n hv'
    refine⟨by simp;exact g1,?_⟩
    rw[hget]
    by_cases hbb:b'=b
    ·rw[if_pos hbb]
     rw[hbb,hg] at g2;cases g2
     exact⟨_,rfl,by simp[aT];omega⟩
    grind
   ·obtain⟨g1,g2,g3⟩:=i2.xN b' ob hv'
    refine⟨by simp;exact g1,?_,g3⟩
    rw[hget,if_neg (by intro hbb;subst hbb;rw[hg] at g2;cases g2;simp[H2] at g3)];exact g2
theorem L7 {r:bA} {h:AH} {i:Nat} (hr:r.In h) (hi:h.get i=none) (hf:r.tok i=none) {c:List Value} {t:Option Tok}:
  (⟨fun b o=>if b=i then c[o]? else none,fun b=>if b=i then t else none⟩:bA).oF r:=by
 refine⟨fun b o=>?_,fun b=>?_⟩
 ·by_cases hb:b=i
  ·right
   subst hb
   cases hc:r.cell b o with
   |none=>rfl
   |some v=>obtain⟨_,_,_,_,g,_⟩:=hr.cell b o v hc;rw[hi] at g;cases g
  ·left;simp[hb]
 grind
def hU (i:Nat) (c:List Value) (t:Option Tok):bA:=⟨fun b o=>if b=i then c[o]? else none,fun b=>if b=i then t else none⟩
theorem jY {i:Nat} {c:List Value} {e:TypeId} {x:Bool}:star [aO i 0 c,mt i (e,x,c.length)] (hU i c (some (.mt e x c.length))):=by
 refine⟨vL i 0 c,_,rfl,⟨_,bA.emp,rfl,rfl,bA.bV.symm,rfl⟩,?_,?_⟩
 ·rw[bA.add_comm (s:=bA.emp) bA.bV.symm,bA.eA]
  exact⟨fun _ _=> .inr rfl,fun _=> .inl rfl⟩
 ·rw[bA.add_comm (s:=bA.emp) bA.bV.symm,bA.eA]
  refine bA.ext' (fun b o=>?_) (fun b=>?_)
  ·simp[hU,bA.add,vL]
  ·simp[hU,bA.add,vL]
theorem Hs.new {c:List Value} {e:TypeId} {x:Bool} (hs:Hs G h L):Hs G (h.alloc (.cells c e (0,0) x)) (aO h.next 0 c::mt h.next (e,x,c.length)::L):=by
 obtain⟨r,h1,h2⟩:=hs.res
 have hlive:h.get h.next=none:=hs.fr _ (Nat.le_refl _)
 ·have hft:r.tok h.next=none:=by
   cases ht:r.tok h.next with
   |none=>rfl
   |some t=>
    cases t with
    |free=>have:=(h2.free _ ht).2.1;omega
    |mt e' x' n=>obtain⟨_,_,g,_⟩:=h2.mt _ _ _ _ ht;grind
    |xN o=>obtain⟨_,g,_⟩:=h2.xN _ _ ht;grind
  have hd:(hU h.next c (some (.mt e x c.length))).oF r:=L7 h2 hlive hft
  have hget:∀j,(h.alloc (.cells c e (0,0) x)).get j=if j=h.next then some (.cells c e (0,0) x) else h.get j:=fun j=>AH.rR hs.wf
  refine⟨hs.base,hs.old,Nat.le_succ_of_le hs.wf,fun i hi=>by simp at hi;rw[hget,if_neg (by omega)];exact hs.fr i (by omega),(hU h.next c (some (.mt e x c.length))).add r,(fG (L:=[aO h.next 0 c,mt h.next (e,x,c.length)])).2 ⟨_,r,jY,h1,hd,rfl⟩,(bA.eG hd).2 ⟨?_,?_⟩⟩
  ·refine⟨fun b o v hv=>?_,fun b hv=>?_,fun b e' x' n hv=>?_,fun b o hv=>?_⟩
   ·simp only[hU] at hv
    split at hv
    ·rename_i hb;subst hb
     exact⟨by simp;exact hs.wf,c,e,x,by rw[hget,if_pos rfl],hv⟩
    ·cases hv
   ·simp only[hU] at hv;grind
   ·simp only[hU] at hv
    split at hv
    ·rename_i hb;subst hb;cases hv
     exact⟨by simp;exact hs.wf,c,by rw[hget,if_pos rfl],rfl⟩
    ·cases hv
   ·simp only[hU] at hv;grind
  ·refine h2.of rfl (by simp) fun b hb=>?_
   rw[hget,if_neg]
   intro hbb
   subst hbb
   rcases hb with hb|⟨o,hb⟩
   ·exact hb hft
   ·apply hb
    cases hc:r.cell h.next o with
    |none=>rfl
    |some v=>obtain⟨_,_,_,_,g,_⟩:=h2.cell _ o v hc;grind
end Go.Ab
end
section
namespace Go.Ab
variable {P:Program} {K:FuncId→List Value→Option fM} {G:Bg} {h:AH} {L L' M:List HP}
theorem Has.of {α:Type} {R:α→HP} {a:α} (m:Has R L a L') (hs:Hs G h L):Hs G h (R a::L'):=hs.perm m.perm
def Hu (h:AH) (_W:Nat) (e:TypeId) (l:List Value) (n c:Nat) (k:Value→AH→Prop):Prop:=F5 h (.cells l e (0,0) true) fun p h'=>k (.slice (some ⟨p,0,none⟩) n c) h'
def rP (h:AH) (r:Nat) (_W:Nat) (e:TypeId) (l:List Value) (n c:Nat) (k:Value→AH→Prop):Prop:=qD h r (.cells l e (0,0) true) fun p h'=>k (.slice (some ⟨p,0,none⟩) n c) h'
def lp (P:Program) (f:FuncId) (p:List Nat) (n:Nat) (e:Nat→Value) (d:Nat) (st:LoopState) (pd:Option Code):jN:=
 .loop st pd f ((List.range n).map e) (dn (cd P f p)).2.1 (dn (cd P f p)).2.2.1 (dn (cd P f p)).2.2.2 d
theorem Hs.P5 (hs:Hs G h L) {b:Nat} (hb:b<G.base):h.get b=G.old b:=by
 rw[AH.get_eq,hs.base,if_pos hb,hs.old]
structure Ob (G:Bg) (b:Nat) (c:List Value):Prop where
 lt:b<G.base
 get:∃e fz x,G.old b=some (.cells c e fz x)
theorem aE {b o j:Nat} {c:List Value} {v:Value} {k:Value→Prop} (hs:Hs G h L) [m:Has (aO b o) L c L'] (hc:c[j]?=some v) (hk:k v):aN (wO h (pt b o j)) k:=by
 obtain⟨_,c',e,x,hg,h1⟩:=(m.of hs).cellAt hc
 exact⟨v,by simp[wO,pt,hg,h1],hk⟩
theorem yD {b o j:Nat} {c:List Value} {v:Value} {k:Value→Prop} (hs:Hs G h L) (ho:Ob G b c) (hc:c[o+j]?=some v) (hk:k v):aN (wO h (pt b o j)) k:=by
 obtain⟨e,fz,x,hg⟩:=ho.get
 exact⟨v,by simp[wO,pt,hs.P5 ho.lt,hg,hc],hk⟩
theorem aP {b o j n:Nat} {c l:List Value} {k:Value→Prop} (hs:Hs G h L) [m:Has (aO b o) L c L'] (hn:0<n) (hc:(c.drop j).take n=l) (hl:l.length=n) (hk:k (.agg ⟨l⟩)):aN (yS h n (pt b o j)) k:=by
 have hlen:j+n≤c.length:=by
  grind
 obtain⟨_,c',e,x,hg,h1,h2⟩:=(m.of hs).cells (by omega)
 refine⟨.agg ⟨l⟩,?_,hk⟩
 simp only[yS,pt,aW,Option.isSome_none,Bool.false_eq_true,if_false,hg]
 rw[if_pos (by omega)]
 simp only[Option.map_some,Option.some.injEq,Value.agg.injEq,Array.mk.injEq]
 rw[←hc]
 refine List.ext_getElem? fun i=>?_
 grind
theorem Sz {b o j n:Nat} {c l:List Value} {k:Value→Prop} (hs:Hs G h L) (ho:Ob G b c) (hc:(c.drop (o+j)).take n=l) (hl:l.length=n) (hb:o+j≤c.length) (hk:k (.agg ⟨l⟩)):aN (yS h n (pt b o j)) k:=by
 obtain⟨e,fz,x,hg⟩:=ho.get
 have:=congrArg List.length hc
 simp at this
 exact⟨.agg ⟨l⟩,by simp[yS,pt,aW,hs.P5 ho.lt,hg,hc];omega,hk⟩
def pJ:List Value→Nat→List Value→List Value
 |c,0,[]=>c
 |[],0,_::_=>[]
 |_::c,0,v::vs=>v::pJ c 0 vs
 |[],_+1,_=>[]
 |x::c,j+1,vs=>x::pJ c j vs
theorem rG:∀(c:List Value) (j:Nat) (vs:List Value),j+vs.length≤c.length→aT c j vs=pJ c j vs
 |c,0,[],_=>by cases c<;>simp[aT,pJ]
 |[],0,_::_,h=>by simp at h
 |x::c,0,v::vs,h=>by
  have:=rG c 0 vs (by simp at h ⊢;omega)
  simp only[pJ]
  rw[←this];simp[aT]
 |[],j+1,vs,h=>by simp at h
 |x::c,j+1,vs,h=>by
  have:=rG c j vs (by simp at h ⊢;omega)
  simp only[pJ]
  rw[←this]
  simp only[aT,List.take_succ_cons,List.cons_append]
  grind
theorem Z1 {b o j n:Nat} {c vs:List Value} {v:Value} {k:AH→Prop} (hs:Hs G h L) [m:Has (aO b o) L c L'] (hv:fF v=some vs) (hn:vs.length=n) (hl:Nat.ble (j+n) c.length=true) (hb:vs.all eE=true) (h0:Nat.ble 1 c.length=true)
  (hk:∀h',Hs G h' (aO b o (pJ c j vs)::L')→k h'):aN (Jx h n (pt b o j) v) k:=by
 have hl:=Nat.le_of_ble_eq_true hl
 obtain⟨h',h1,h2⟩:=(m.of hs).write (j:=j) (vs:=vs) (by omega) hb (Nat.le_of_ble_eq_true h0)
 rw[rG _ _ _ (by omega)] at h2
 exact⟨h',by simp[Jx,pt,hv,hn,h1],hk _ h2⟩
theorem gP {cs:List Value} {e:TypeId} {k:Nat→AH→Prop} (hs:Hs G h L) (hk:∀p h',Hs G h' (aO p 0 cs::L)→k p h'):F5 h (.cells cs e (0,0) true) k:=
 hk _ _ (let t:=hs.new (c:=cs) (e:=e) (x:=true);(t.perm (List.Perm.swap _ _ _)).tail)
theorem bm {cs:List Value} {e:TypeId} {v:Value} {k:Nat→AH→Prop} (hs:Hs G h L) (hv:fF v=some cs) (hk:∀p h',Hs G h' (aO p 0 cs::L)→k p h'):aN (oB e v) fun b=>F5 h b k:=
 ⟨.cells cs e (0,0) true,by simp[oB,hv],gP hs hk⟩
def O9 (r:Nat) (x:Nat×List Nat):HP:=Zc r x.1 x.2
theorem Us {n:Nat} {k:Nat→AH→Prop} (hs:Hs G h L) (hk:∀r h',Hs G h' (O9 r (n,[])::L)→k r h'):oC h n k:=by
 refine hk _ _ ?_
 obtain⟨r,h1,h2⟩:=hs.res
 have hg:∀i,({h with next:=h.next+n}:AH).get i=h.get i:=fun i=>rfl
 refine⟨hs.base,hs.old,Nat.le_trans hs.wf (Nat.le_add_right _ _),fun i hi=>by rw[hg];exact hs.fr i (Nat.le_trans (Nat.le_add_right _ _) hi),_,⟨_,r,rfl,h1,?_,rfl⟩,(bA.eG ?_).2 ⟨?_,?_⟩⟩
 rotate_right
 ·exact h2.of rfl (Nat.le_add_right _ _) fun _ _=>rfl
 ·have key:∀b,h.next≤b→r.tok b=none:=fun b hb=>by
   cases ht:r.tok b with
   |none=>rfl
   |some t=>
    cases t with
    |free=>have:=(h2.free _ ht).2.1;omega
    |mt e' x' n=>obtain⟨_,_,g,_⟩:=h2.mt _ _ _ _ ht;rw[hs.fr b hb] at g;cases g
    |xN o=>obtain⟨_,g,_⟩:=h2.xN _ _ ht;rw[hs.fr b hb] at g;cases g
  refine⟨fun _ _=> .inl rfl,fun b=>?_⟩
  grind
 ·have key:∀b,h.next≤b→r.tok b=none:=fun b hb=>by
   cases ht:r.tok b with
   |none=>rfl
   |some t=>
    cases t with
    |free=>have:=(h2.free _ ht).2.1;omega
    |mt e' x' n=>obtain⟨_,_,g,_⟩:=h2.mt _ _ _ _ ht;rw[hs.fr b hb] at g;cases g
    |xN o=>obtain⟨_,g,_⟩:=h2.xN _ _ ht;rw[hs.fr b hb] at g;cases g
  refine⟨fun _ _=> .inl rfl,fun b=>?_⟩
  grind
 ·refine⟨fun _ _ _ hv=>(by cases hv),fun b hv=>?_,fun b e x n hv=>?_,fun b o hv=>?_⟩
  ·simp only at hv
   split at hv
   ·rename_i hc
    have:=hs.wf
    exact⟨by grind,hc.2.1,by rw[hg];exact hs.fr b hc.1⟩
   ·cases hv
  ·grind
  grind
def Wa (c:Bool) (ks:List Nat) (op:BinOp) (a b:Value) (q:Value→Prop):Prop:=c=true∧aN (S8 ks op a b) q
def Ua (c:Bool) (h:AH) (n:Nat) (k:Nat→AH→Prop):Prop:=c=true∧oC h n k
theorem aZ {c:Bool} {n:Nat} {k:Nat→AH→Prop} (hs:Hs G h L) (hk:∀r h',Hs G h' (O9 r (n,[])::L)→k r h') (hc:c=true:=by kernel_rfl):Ua c h n k:=⟨hc,Us hs hk⟩
theorem S5 {r n i:Nat} {D:List Nat} (hi:i<n) (hD:i∉D):star [fun q=>q=(⟨fun _ _=>none,fun b=>if b=r+i then some .free else none⟩:bA),Zc r n (i::D)] ⟨fun _ _=>none,fun b=>if r≤b∧b<r+n∧(b - r)∉D then some .free else none⟩:=by
 refine⟨_,_,rfl,⟨_,bA.emp,rfl,rfl,bA.bV.symm,rfl⟩,?_,?_⟩
 ·rw[bA.add_comm (s:=bA.emp) bA.bV.symm,bA.eA]
  refine⟨fun _ _=> .inl rfl,fun b=>?_⟩
  grind
 ·rw[bA.add_comm (s:=bA.emp) bA.bV.symm,bA.eA]
  refine bA.ext' (fun _ _=>rfl) (fun b=>?_)
  simp only[bA.add]
  grind
theorem Hs.newAt {r n i:Nat} {D:List Nat} {c:List Value} {e:TypeId} {x:Bool} (hs:Hs G h (Zc r n D::L)) (hi:i<n) (hD:i∉D):
  Hs G (h.set (r+i) (some (.cells c e (0,0) x))) (aO (r+i) 0 c::mt (r+i) (e,x,c.length)::Zc r n (i::D)::L):=by
 obtain⟨q,⟨r1,r2,h1,h2,h3,h4⟩,h5⟩:=hs.res
 cases h1
 subst h4
 obtain⟨i1,i2⟩:=(bA.eG h3).1 h5
 obtain⟨q1,q2,hq1,⟨q3,q4,hq3,hq4,hq5,hq6⟩,hd,hqe⟩:=S5 (r:=r) hi hD
 cases hq1;cases hq4
 rw[bA.add_comm (s:=bA.emp) bA.bV.symm,bA.eA] at hq6
 subst hq6
 cases hq3
 rw[hqe] at i1 h3
 obtain⟨i3,i4⟩:=(bA.eG hd).1 i1
 obtain⟨fb,fn,fg⟩:=i3.free (r+i) (by simp)
 obtain⟨d1,d2⟩:=bA.fI.1 h3.symm
 have hget:∀j,(h.set (r+i) (some (.cells c e (0,0) x))).get j=if j=r+i then some (.cells c e (0,0) x) else h.get j:=fun j=>AH.fJ fb
 have hrest:=(bA.eG d2.symm).2 ⟨i4,i2⟩
 have hft:((⟨fun _ _=>none,fun b=>if r≤b∧b<r+n∧(b - r)∉(i::D) then some .free else none⟩:bA).add r2).tok (r+i)=none:=by
  simp only[bA.add]
  rw[if_neg (by grind)]
  rcases d1.tok (r+i) with h|h
  ·simpa using h
  ·simp at h
 have hnd:(hU (r+i) c (some (.mt e x c.length))).oF ((⟨fun _ _=>none,fun b=>if r≤b∧b<r+n∧(b - r)∉(i::D) then some .free else none⟩:bA).add r2):=L7 hrest fg hft
 refine⟨by simp;exact hs.base,by rw[AH.uU];exact hs.old,by simp;exact hs.wf,fun j hj=>by simp at hj;rw[hget,if_neg (by omega)];exact hs.fr j hj,
    _,(fG (L:=[aO (r+i) 0 c,mt (r+i) (e,x,c.length)])).2 ⟨_,_,jY,⟨_,r2,rfl,h2,d2.symm,rfl⟩,hnd,rfl⟩,(bA.eG hnd).2 ⟨?_,?_⟩⟩
 ·refine⟨fun b o v hv=>?_,fun b hv=>?_,fun b e' x' n hv=>?_,fun b o hv=>?_⟩
  ·simp only[hU] at hv
   simp_all
  ·simp only[hU] at hv;grind
  ·simp only[hU] at hv
   simp_all
  ·simp only[hU] at hv;grind
 ·refine hrest.of (by simp) (by simp) fun b hb=>?_
  rw[hget,if_neg]
  intro hbb
  subst hbb
  rcases hb with hb|⟨o,hb⟩
  ·exact hb hft
  ·apply hb
   cases hc:bA.cell _ (r+i) o with
   |none=>rfl
   |some v=>obtain⟨_,_,_,_,g,_⟩:=hrest.cell _ o v hc;rw[fg] at g;cases g
theorem a9 {A B:HP} (hs:Hs G h (A::B::L)):Hs G h (A::L):=(hs.perm (List.Perm.swap _ _ _)).tail
theorem uV {r i n:Nat} {D:List Nat} {cs:List Value} {e:TypeId} {k:Nat→AH→Prop} (hs:Hs G h L) [m:Has (O9 r) L (n,D) L'] (hi:Nat.blt i n=true) (hD:D.contains i=false)
  (hk:∀p h',Hs G h' (aO p 0 cs::O9 r (n,i::D)::L')→k p h'):qD h (r+i) (.cells cs e (0,0) true) k:=
 hk _ _ (a9 (Hs.newAt (show Hs G h (Zc r n D::L') from m.of hs) (by simp_all) (by simpa using hD)))
theorem T4 {r i n:Nat} {D:List Nat} {cs:List Value} {v:Value} {e:TypeId} {k:Nat→AH→Prop} (hs:Hs G h L) [m:Has (O9 r) L (n,D) L'] (hv:fF v=some cs) (hi:Nat.blt i n=true) (hD:D.contains i=false)
  (hk:∀p h',Hs G h' (aO p 0 cs::O9 r (n,i::D)::L')→k p h'):aN (oB e v) fun b=>qD h (r+i) b k:=
 ⟨.cells cs e (0,0) true,by simp[oB,hv],uV hs hi hD hk⟩
theorem Hs.dc {o:jN} (ho:H2 o=true) (hs:Hs G h L):Hs G (h.alloc o) (ot h.next o::L):=by
 obtain⟨r,h1,h2⟩:=hs.res
 have hlive:h.get h.next=none:=hs.fr _ (Nat.le_refl _)
 have hft:r.tok h.next=none:=by
  cases ht:r.tok h.next with
  |none=>rfl
  |some t=>
   cases t with
   |free=>have:=(h2.free _ ht).2.1;omega
   |mt e' x' n=>obtain⟨_,_,g,_⟩:=h2.mt _ _ _ _ ht;rw[hlive] at g;cases g
   |xN o=>obtain⟨_,g,_⟩:=h2.xN _ _ ht;rw[hlive] at g;cases g
 have hd:(⟨fun _ _=>none,fun b'=>if b'=h.next then some (.xN o) else none⟩:bA).oF r:=by
  refine⟨fun _ _=> .inl rfl,fun b=>?_⟩
  by_cases hb:b=h.next
  ·right;rw[hb];exact hft
  ·grind
 have hget:∀j,(h.alloc o).get j=if j=h.next then some o else h.get j:=fun j=>AH.rR hs.wf
 refine⟨hs.base,hs.old,Nat.le_succ_of_le hs.wf,fun i hi=>by simp at hi;rw[hget,if_neg (by omega)];exact hs.fr i (by omega),_,⟨_,r,rfl,h1,hd,rfl⟩,(bA.eG hd).2 ⟨?_,?_⟩⟩
 ·refine⟨fun _ _ _ hv=>(by cases hv),fun b hv=>?_,fun b e' x' n hv=>?_,fun b o' hv=>?_⟩
  ·grind
  ·grind
  ·simp only at hv
   split at hv
   ·rename_i hb;subst hb;cases hv
    exact⟨by simp;exact hs.wf,by rw[hget,if_pos rfl],ho⟩
   ·cases hv
 ·refine h2.of rfl (by simp) fun b hb=>?_
  rw[hget,if_neg]
  intro hbb
  subst hbb
  rcases hb with hb|⟨o,hb⟩
  ·exact hb hft
  ·apply hb
   cases hc:r.cell h.next o with
   |none=>rfl
   |some v=>obtain⟨_,_,_,_,g,_⟩:=h2.cell _ o v hc;rw[hlive] at g;cases g
theorem Hs.Ka {b:Nat} {o o':jN} (ho:H2 o'=true) (hs:Hs G h (ot b o::L)):h.get b=some o∧h.base≤b∧Hs G (h.set b (some o')) (ot b o'::L):=by
 obtain⟨q,⟨r1,r2,h1,h2,h3,h4⟩,h5⟩:=hs.res
 cases h1
 subst h4
 obtain⟨i1,i2⟩:=(bA.eG h3).1 h5
 obtain⟨gb,gg,goth⟩:=i1.xN b o (by simp)
 have hget:∀j,(h.set b (some o')).get j=if j=b then some o' else h.get j:=fun j=>AH.fJ gb
 have hbn:b<h.next:=by
  rcases Nat.lt_or_ge b h.next with h1|h1
  ·exact h1
  ·rw[hs.fr b h1] at gg;cases gg
 have ht2:r2.tok b=none:=by rcases h3.tok b with h|h;simp at h;exact h
 have hc2:∀o2,r2.cell b o2=none:=fun o2=>by
  cases hc:r2.cell b o2 with
  |none=>rfl
  |some v=>
   obtain⟨_,_,_,_,g,_⟩:=i2.cell _ o2 v hc
   rw[gg] at g;cases g
   simp[H2] at goth
 have hd:(⟨fun _ _=>none,fun b'=>if b'=b then some (.xN o') else none⟩:bA).oF r2:=by
  refine⟨fun _ _=> .inl rfl,fun b'=>?_⟩
  by_cases hb:b'=b
  ·right;rw[hb];exact ht2
  ·grind
 refine⟨gg,gb,by simp;exact hs.base,by rw[AH.uU];exact hs.old,by simp;exact hs.wf,fun j hj=>by simp at hj;rw[hget,if_neg (by omega)];exact hs.fr j hj,_,⟨_,r2,rfl,h2,hd,rfl⟩,(bA.eG hd).2 ⟨?_,?_⟩⟩
 ·refine⟨fun _ _ _ hv=>(by cases hv),fun b hv=>?_,fun b e' x' n hv=>?_,fun b' o2 hv=>?_⟩
  ·grind
  ·grind
  simp_all
 ·refine i2.of (by simp) (by simp) fun b' hb=>?_
  grind
def Gg (P:Program) (f:FuncId) (p:List Nat) (n:Nat) (e:Nat→Value) (d l:Nat) (x:LoopState×Option Code):HP:=ot l (lp P f p n e d x.1 x.2)
def mk (d:Nat) (_:Unit):HP:=ot d (.marks true)
theorem Um {k:Nat→AH→Prop} (hs:Hs G h L) (hk:∀d h',Hs G h' (mk d ()::L)→k d h'):F5 h (.marks true) k:=hk _ _ (hs.dc rfl)
theorem Xc {f:FuncId} {p:List Nat} {n:Nat} {e:Nat→Value} {d:Nat} {st:LoopState} {pd:Option Code} {k:Nat→AH→Prop} (hs:Hs G h L) (hk:∀l h',Hs G h' (Gg P f p n e d l (st,pd)::L)→k l h'):F5 h (lp P f p n e d st pd) k:=hk _ _ (hs.dc rfl)
theorem df {k:AH→Prop} (hk:k h):aN (bQ [] h) k:=⟨h,rfl,hk⟩
theorem Zx {d:Nat} {ds:List Nat} {k:AH→Prop} (hs:Hs G h L) [m:Has (mk d) L () L'] (hk:∀h',Hs G h' L'→aN (bQ ds h') k):aN (bQ (d::ds) h) k:=by
 obtain⟨h1,h2,h3⟩:=Hs.Ka (o':= .marks false) rfl (show Hs G h (ot d (.marks true)::L') from m.of hs)
 obtain⟨h',h4,h5⟩:=hk _ h3.tail
 exact⟨h',by simp only[bQ,h1,if_pos h2];exact h4,h5⟩
theorem bp {f:FuncId} {p:List Nat} {n:Nat} {e:Nat→Value} {d l:Nat} {st st':LoopState} {pd pd':Option Code} {k:AH→Prop} (hs:Hs G h L) [m:Has (Gg P f p n e d l) L (st,pd) L'] (hk:∀h',Hs G h' (Gg P f p n e d l (st',pd')::L')→k h'):
  aN (bP h l st' (some pd')) k:=by
 obtain⟨h1,h2,h3⟩:=Hs.Ka (o':=lp P f p n e d st' pd') rfl (show Hs G h (ot l (lp P f p n e d st pd)::L') from m.of hs)
 exact⟨_,by simp only[bP,h1,lp];rw[if_pos h2];rfl,hk _ h3⟩
theorem Ts {f:FuncId} {p:List Nat} {n:Nat} {e:Nat→Value} {d l:Nat} {pd:Option Code} {k:AH→Prop} (hs:Hs G h L) [m:Has (Gg P f p n e d l) L (.ready,pd) L'] (hk:∀h',Hs G h' (Gg P f p n e d l (.busy,pd)::L')→k h'):
  aN (nL h l) k:=by
 obtain⟨h1,h2,h3⟩:=Hs.Ka (o':=lp P f p n e d .busy pd) rfl (show Hs G h (ot l (lp P f p n e d .ready pd)::L') from m.of hs)
 exact⟨_,by simp only[nL,bP,h1,lp];rw[if_pos h2];rfl,hk _ h3⟩
theorem bc {f:FuncId} {p:List Nat} {n:Nat} {e:Nat→Value} {d l:Nat} {st:LoopState} {pd:Option Code} {k:Option Code→AH→Prop} (hs:Hs G h L) [m:Has (Gg P f p n e d l) L (st,pd) L'] (hst:st≠.busy) (hk:∀h',Hs G h' L'→k pd h'):
  aN (vZ h l) fun r=>k r.1 r.2:=by
 obtain⟨h1,h2,h3⟩:=Hs.Ka (o':=lp P f p n e d .exhausted pd) rfl (show Hs G h (ot l (lp P f p n e d st pd)::L') from m.of hs)
 refine⟨(pd,_),?_,hk _ h3.tail⟩
 simp only[vZ,h1,lp]
 rw[if_neg hst]
 simp only[bP,h1,lp]
 rw[if_pos h2];rfl
theorem gz {f:FuncId} {p:List Nat} {n:Nat} {e:Nat→Value} {d l:Nat} {st:LoopState} {pd:Option Code} (hs:Hs G h L) [m:Has (Gg P f p n e d l) L (st,pd) L']:h.get l=some (lp P f p n e d st pd):=
 (Hs.Ka (o':= .marks true) rfl (show Hs G h (ot l (lp P f p n e d st pd)::L') from m.of hs)).1
end Go.Ab
end
section
namespace Go.Ab
variable {P:Program} {K:FuncId→List Value→Option fM} {G:Bg} {h:AH} {L L' M:List HP}
def dP (W:Nat) (e:TypeId) (a:Option Addr) (cap:Nat) (x:Nat×List Value):HP:=fun r=>
 x.2.length=x.1*W∧x.2.all eE=true∧
 ((x.1=0∧r=bA.emp∧cap=0∧(a=none∨∃b o,a=some ⟨b,o,some 1⟩))∨
  (x.1=0∧cap=0∧∃b o cs,a=some ⟨b,o,some 2⟩∧o≤cs.length∧r=hU b cs (some (.mt e false cs.length)))∨
  (x.1≤cap∧∃b pre post ex,a=some ⟨b,pre.length,none⟩∧pre.length+cap*W≤(pre++x.2++post).length∧r=hU b (pre++x.2++post) (some (.mt e ex (pre++x.2++post).length))))
theorem gH {W:Nat} {e:TypeId} (hs:Hs G h L):Hs G h (dP W e none 0 (0,[])::L):=by
 refine Hs.join (A:=[]) hs fun r hr=>?_
 exact⟨by simp,rfl,.inl ⟨rfl,hr,rfl,.inl rfl⟩⟩
theorem nP {b:Nat} {c:List Value} {e:TypeId} {x:Bool} {r:bA} (h:star [aO b 0 c,mt b (e,x,c.length)] r):r=hU b c (some (.mt e x c.length)):=by
 obtain⟨r1,r2,h1,⟨r3,r4,h5,h6,h7,h8⟩,h3,h4⟩:=h
 obtain⟨q1,q2,g1,⟨q3,q4,g5,g6,g7,g8⟩,g3,g4⟩:=jY (i:=b) (c:=c) (e:=e) (x:=x)
 cases h1;cases h5;cases h6;cases g1;cases g5;cases g6
 grind
theorem fB {W:Nat} {e:TypeId} {l:List Value} {n c:Nat} {k:Value→AH→Prop} (hs:Hs G h L) (hl:l.length=c*W) (hn:n=c) (hb:l.all eE=true)
  (hk:∀a h',Hs G h' (dP W e (some a) c (n,l)::L)→k (.slice (some a) n c) h'):Hu h W e l n c k:=by
 subst hn
 refine hk _ _ ?_
 have:=hs.new (c:=l) (e:=e) (x:=true)
 refine Hs.join (A:=[_,_]) this fun r hr=>?_
 have:=nP hr
 exact⟨hl,hb,.inr (.inr ⟨Nat.le_refl _,h.next,[],[],true,rfl,by simp[hl],by simpa using this⟩)⟩
theorem oI {W r i N:Nat} {D:List Nat} {e:TypeId} {l:List Value} {n c:Nat} {k:Value→AH→Prop} (hs:Hs G h L) [m:Has (O9 r) L (N,D) L'] (hi:Nat.blt i N=true) (hD:D.contains i=false) (hl:l.length=c*W) (hn:n=c) (hb:l.all eE=true)
  (hk:∀a h',Hs G h' (dP W e (some a) c (n,l)::O9 r (N,i::D)::L')→k (.slice (some a) n c) h'):rP h (r+i) W e l n c k:=by
 subst hn
 refine hk _ _ ?_
 have:=Hs.newAt (i:=i) (c:=l) (e:=e) (x:=true) (show Hs G h (Zc r N D::L') from m.of hs) (by simp_all) (by simpa using hD)
 refine Hs.join (A:=[_,_]) this fun q hr=>?_
 have:=nP hr
 exact⟨hl,hb,.inr (.inr ⟨Nat.le_refl _,r+i,[],[],true,rfl,by simp[hl],by simpa using this⟩)⟩
theorem Hs.fst {A:HP} (hs:Hs G h (A::L)):∃r r2,A r∧star L r2∧r.oF r2∧r.In h∧r2.In h:=by
 obtain⟨q,⟨r1,r2,h1,h2,h3,h4⟩,h5⟩:=hs.res
 subst h4
 obtain⟨i1,i2⟩:=(bA.eG h3).1 h5
 grind
theorem Hs.Ag {W:Nat} {e:TypeId} {a:Option Addr} {cap:Nat} {x:Nat×List Value} (hs:Hs G h (dP W e a cap x::L)):x.2.length=x.1*W:=by
 obtain⟨r,_,hr,_⟩:=hs.fst;exact hr.1
theorem Hs.Al {W:Nat} {e:TypeId} {a:Option Addr} {cap:Nat} {x:Nat×List Value} (hs:Hs G h (dP W e a cap x::L)):x.2.all eE=true:=by
 obtain⟨r,_,hr,_⟩:=hs.fst;exact hr.2.1
theorem Hs.nC {W:Nat} {e:TypeId} {a:Option Addr} {cap n:Nat} {cs:List Value} (hs:Hs G h (dP W e a cap (n,cs)::L)) (h0:0<n):
  ∃b o,a=some ⟨b,o,none⟩∧∃H:HP,Hs G h (aO b o cs::H::L)∧∀h' cs' M,cs'.length=cs.length→cs'.all eE=true→Hs G h' (aO b o cs'::H::M)→Hs G h' (dP W e a cap (n,cs')::M):=by
 have key:∀b (pre post:List Value) ex,∀cs':List Value,cs'.length=cs.length→∀r,star [aO b pre.length cs',fun r=>star [aO b 0 pre,aO b (pre.length+cs.length) post,mt b (e,ex,(pre++cs++post).length)] r] r↔r=hU b (pre++cs'++post) (some (.mt e ex (pre++cs'++post).length)):=by
  intro b pre post ex cs' hl r
  have e1:(pre++cs++post).length=(pre++cs'++post).length:=by simp[hl]
  have e2:∀q,star [aO b 0 (pre++cs'++post),mt b (e,ex,(pre++cs'++post).length)] q→star [aO b pre.length cs',fun r=>star [aO b 0 pre,aO b (pre.length+cs.length) post,mt b (e,ex,(pre++cs++post).length)] r] q:=by
   intro q hq
   obtain⟨r1,r2,h1,h2,h3,h4⟩:=hq
   have h1':=(sD r1).1 h1
   obtain⟨s1,s2,g1,⟨s3,s4,g2,g3,g4,g5⟩,g6,g7⟩:=h1'
   have g1':=(sD s1).1 g1
   cases g3
   rw[bA.add_comm (s:=bA.emp) bA.bV.symm,bA.eA] at g5
   subst g5
   have hall:star ([aO b 0 pre,aO b (0+pre.length) cs']++([aO b (0+(pre++cs').length) post]++[mt b (e,ex,(pre++cs'++post).length)])) q:=by
    refine fG.2 ⟨s1,s2.add r2,g1',fG.2 ⟨s2,r2,⟨s2,bA.emp,g2,rfl,bA.bV.symm,by rw[bA.add_comm (s:=bA.emp) bA.bV.symm,bA.eA]⟩,h2,?_,rfl⟩,?_,?_⟩
    ·rw[g7] at h3;exact(bA.fI.1 h3.symm).2.symm
    ·rw[g7] at h3
     exact bA.fI.2 ⟨g6,(bA.fI.1 h3.symm).1.symm⟩
    ·rw[h4,g7,bA.add_assoc]
   have hp:star ([aO b (0+pre.length) cs']++[aO b 0 pre,aO b (0+(pre++cs').length) post,mt b (e,ex,(pre++cs'++post).length)]) q:=wV (List.Perm.swap _ _ _) q hall
   obtain⟨u1,u2,w1,w2,w3,w4⟩:=fG.1 hp
   rw[Nat.zero_add] at w1
   obtain⟨v1,v2,x1,x2,x3,x4⟩:=w1
   cases x2
   rw[bA.add_comm (s:=bA.emp) bA.bV.symm,bA.eA] at x4
   subst x4
   refine⟨u1,u2,x1,⟨u2,bA.emp,?_,rfl,bA.bV.symm,by rw[bA.add_comm (s:=bA.emp) bA.bV.symm,bA.eA]⟩,w3,w4⟩
   grind
  constructor
  ·intro hr
   have hb:=e2 _ (jY (i:=b) (c:=pre++cs'++post) (e:=e) (x:=ex))
   obtain⟨r1,r2,h1,⟨r3,r4,h5,h6,h7,h8⟩,h3,h4⟩:=hr
   obtain⟨q1,q2,g1,⟨q3,q4,g5,g6,g7,g8⟩,g3,g4⟩:=hb
   cases h1;cases g1;cases h6;cases g6
   rw[bA.add_comm (s:=bA.emp) bA.bV.symm,bA.eA] at h8 g8
   subst h8;subst g8
   have:r2=q2:=by
    obtain⟨a1,a2,b1,⟨a3,a4,b2,⟨a5,a6,b3,b4,b5,b6⟩,b7,b8⟩,b9,b10⟩:=h5
    obtain⟨c1,c2,d1,⟨c3,c4,d2,⟨c5,c6,d3,d4,d5,d6⟩,d7,d8⟩,d9,d10⟩:=g5
    cases b1;cases b2;cases b3;cases b4;cases d1;cases d2;cases d3;cases d4
    grind
   rw[h4,g4,this]
  ·intro hr;subst hr;exact e2 _ jY
 obtain⟨r,r2,hr,hr2,hd,hi,hi2⟩:=hs.fst
 obtain⟨hl,hc,hr⟩:=hr
 simp only at hl hc
 rcases hr with⟨hz,_⟩|⟨hz,_⟩|⟨hcap,b,pre,post,ex,rfl,hle,hrr⟩
 ·simp at hz;omega
 ·simp at hz;omega
 ·refine⟨b,pre.length,rfl,fun r=>star [aO b 0 pre,aO b (pre.length+cs.length) post,mt b (e,ex,(pre++cs++post).length)] r,?_,?_⟩
  ·have hs':Hs G h ((fun r=>r=hU b (pre++cs++post) (some (.mt e ex (pre++cs++post).length)))::L):=⟨hs.base,hs.old,hs.wf,hs.fr,_,⟨r,r2,hrr,hr2,hd,rfl⟩,(bA.eG hd).2 ⟨hi,hi2⟩⟩
   exact hs'.imp (B:=[_,_]) fun q hq=>(key b pre post ex cs rfl q).2 hq
  ·intro h' cs' M hlen hcells hs'
   refine Hs.join (A:=[_,_]) hs' fun q hq=>?_
   have:=(key b pre post ex cs' hlen q).1 hq
   refine⟨by rw[hlen];exact hl,hcells,.inr (.inr ⟨hcap,b,pre,post,ex,rfl,?_,this⟩)⟩
   grind
theorem wW {b:Nat} {c:List Value} {e:TypeId} {x:Bool} {r2:bA} (hi:(hU b c (some (.mt e x c.length))).In h) (_hi2:r2.In h):h.base≤b∧h.get b=some (.cells c e (0,0) x):=by
 obtain⟨h1,c',h2,h3⟩:=hi.mt b e x c.length (by simp[hU])
 refine⟨h1,?_⟩
 rw[h2]
 congr 2
 refine List.ext_getElem? fun j=>?_
 rcases Nat.lt_or_ge j c.length with hj|hj
 ·obtain⟨_,c2,e2,x2,g1,g2⟩:=hi.cell b j c[j] (by simp[hU,hj])
  grind
 grind
theorem Hs.kill {b:Nat} {c c2:List Value} {e e2:TypeId} {x x2:Bool} (hs:Hs G h ((fun r=>r=hU b c (some (.mt e x c.length)))::L)):Hs G ((h.set b none).alloc (.cells c2 e2 (0,0) x2)) ((fun r=>r=hU h.next c2 (some (.mt e2 x2 c2.length)))::L):=by
 obtain⟨r,r2,hr,hr2,hd,hi,hi2⟩:=hs.fst
 subst hr
 obtain⟨hb,hg⟩:=wW hi hi2
 have hget:∀j,(h.set b none).get j=if j=b then none else h.get j:=fun j=>AH.fJ hb
 have hn2:∀j,(r2.tok j≠none∨∃o,r2.cell j o≠none)→j≠b:=by
  intro j hj hjb
  subst hjb
  rcases hj with h1|⟨o,h1⟩
  ·rcases hd.tok j with h|h
   ·simp[hU] at h
   ·exact h1 h
  ·rcases hd.cell j o with h|h
   ·simp only[hU,if_true] at h
    cases hc:r2.cell j o with
    |none=>exact h1 hc
    |some v=>
     obtain⟨_,c',_,_,g1,g2⟩:=hi2.cell j o v hc
     grind
   ·exact h1 h
 have hs':Hs G (h.set b none) L:=by
  refine⟨by simp;exact hs.base,by rw[AH.uU];exact hs.old,by simp;exact hs.wf,fun i hi=>by simp at hi;rw[hget];split;rfl;exact hs.fr i hi,r2,hr2,?_⟩
  exact hi2.of (by simp) (by simp) fun j hj=>by grind
 have:=hs'.new (c:=c2) (e:=e2) (x:=x2)
 rw[AH.R4] at this
 exact Hs.join (A:=[_,_]) this fun r hr=>nP hr
theorem jL {a:Option Addr} {n c:Nat}:mB (.slice a n c)=some n:=rfl
theorem Sy {W bytes:Nat} {e:TypeId} {a:Option Addr} {c n m:Nat} {cs ns:List Value} {src:Value} {k:Value→AH→Prop} (hs:Hs G h L) [mm:Has (dP W e a c) L (n,cs) L']
  (hsrc:mB src=some m) (hns:eM h W m src=some ns) (hnb:ns.all eE=true) (hnl:ns.length=m*W) (hsz:(n+m)*(bytes+1)≤2^46)
  (hk:∀a' c' h',Hs G h' (dP W e a' c' (n+m,cs++ns)::L')→k (.slice a' (n+m) c') h'):aN (jK W bytes e h (.slice a n c) src) fun r=>k r.1 r.2:=by
 have hs0:=mm.of hs
 obtain⟨r,r2,hr,hr2,hd,hi,hi2⟩:=hs0.fst
 obtain⟨hl,hc,hr⟩:=hr
 simp only at hl hc hr
 have hcond:(!ns.all eE||ns.length !=m*W)=false:=by simp[hnb,hnl]
 have hall:(cs++ns).all eE=true:=by grind
 have hlen:(cs++ns).length=(n+m)*W:=by grind
 have newS:∀{h1:AH},Hs G h1 ((fun r=>r=hU h.next (cs++ns) (some (.mt e false (cs++ns).length)))::L')→Hs G h1 (dP W e (some ⟨h.next,0,none⟩) (n+m) (n+m,cs++ns)::L'):=by
  intro h1 hh
  refine Hs.join (A:=[_]) hh fun q hq=>?_
  obtain⟨q1,q2,e1,e2,e3,e4⟩:=hq
  cases e1;cases e2
  rw[bA.add_comm (s:=bA.emp) bA.bV.symm,bA.eA] at e4
  exact⟨hlen,hall,.inr (.inr ⟨Nat.le_refl _,h.next,[],[],false,rfl,by grind,by simpa using e4⟩)⟩
 by_cases hm:m=0
 ·subst hm
  have:ns=[]:=List.eq_nil_of_length_eq_zero (by omega)
  subst this
  have hk':=hk a c h (by simpa using hs0)
  rcases hr with⟨rfl,hre,rfl,ha⟩|⟨rfl,rfl,b,o,cs2,rfl,_⟩|⟨hcap,b,pre,post,ex,rfl,hle,hrr⟩
  ·rcases ha with rfl|⟨b,o,rfl⟩
   ·exact⟨(.slice none 0 0,h),by simp[jK,hsrc,hns],by simpa using hk'⟩
   ·exact⟨(.slice _ 0 0,h),by simp[jK,hsrc,hns];rfl,by simpa using hk'⟩
  ·exact⟨(.slice _ 0 0,h),by simp[jK,hsrc,hns];rfl,by simpa using hk'⟩
  ·exact⟨(.slice _ n c,h),by simp[jK,hsrc,hns,hcap];rfl,by simpa using hk'⟩
 ·have hres:Hs G h L':=hs0.tail
  rcases hr with⟨rfl,hre,rfl,ha⟩|⟨rfl,rfl,b,o,cs2,rfl,ho,hrr⟩|⟨hcap,b,pre,post,ex,rfl,hle,hrr⟩
  ·have hcs:cs=[]:=List.eq_nil_of_length_eq_zero (by simpa using hl)
   subst hcs
   have hnew:=hres.new (c:=ns) (e:=e) (x:=false)
   have hn2:=newS (Hs.join (A:=[_,_]) hnew fun q hq=>nP hq)
   have hfit:¬(0+m≤0):=by omega
   rcases ha with rfl|⟨b,o,rfl⟩
   ·refine⟨(.slice (some ⟨h.next,0,none⟩) m m,h.alloc (.cells ns e (0,0) false)),?_,by grind⟩
    simp only[jK,hsrc,hns,hcond,Bool.false_eq_true,if_false,hfit,hsz,if_true]
   ·refine⟨(.slice (some ⟨h.next,0,none⟩) m m,h.alloc (.cells ns e (0,0) false)),?_,by grind⟩
    simp only[jK,hsrc,hns,hcond,Bool.false_eq_true,if_false,hfit,hsz,if_true]
  ·have hcs:cs=[]:=List.eq_nil_of_length_eq_zero (by simpa using hl)
   subst hcs
   subst hrr
   obtain⟨hb,hg⟩:=wW hi hi2
   have hs1:Hs G h ((fun r=>r=hU b cs2 (some (.mt e false cs2.length)))::L'):=⟨hs.base,hs.old,hs.wf,hs.fr,_,⟨_,r2,rfl,hr2,hd,rfl⟩,(bA.eG hd).2 ⟨hi,hi2⟩⟩
   have hn2:=newS (hs1.kill (c2:=ns) (e2:=e) (x2:=false))
   have hfit:¬(0+m≤0):=by omega
   refine⟨(.slice (some ⟨h.next,0,none⟩) m m,(h.set b none).alloc (.cells ns e (0,0) false)),?_,by simpa using hk _ _ _ hn2⟩
   have h12:¬(some 2=some 1):=by simp
   simp only[jK,hsrc,hns,hcond,Bool.false_eq_true,if_false,hfit,hsz,if_true,h12,hg,hb,ho,and_self]
  ·subst hrr
   obtain⟨hb,hg⟩:=wW hi hi2
   by_cases hfit:n+m≤c
   ·
    have hW:(n+m)*W≤c*W:=Nat.mul_le_mul_right _ hfit
    rw[Nat.add_mul] at hW
    have hs1:Hs G h ((fun r=>r=hU b (pre++cs++post) (some (.mt e ex (pre++cs++post).length)))::L'):=⟨hs.base,hs.old,hs.wf,hs.fr,_,⟨_,r2,rfl,hr2,hd,rfl⟩,(bA.eG hd).2 ⟨hi,hi2⟩⟩
    have hs2:Hs G h (aO b 0 (pre++cs++post)::mt b (e,ex,(pre++cs++post).length)::L'):=hs1.imp (B:=[_,_]) fun q hq=>by subst hq;exact jY
    have hpl:pre.length+cs.length+ns.length≤(pre++cs++post).length:=by grind
    by_cases hW0:ns.length=0
    ·
     have hns0:ns=[]:=List.eq_nil_of_length_eq_zero hW0
     subst hns0
     refine⟨(.slice (some ⟨b,pre.length,none⟩) (n+m) c,h.set b (some (.cells (aT (pre++cs++post) (pre.length+n*W) []) e (0,0) ex))),?_,?_⟩
     ·simp only[jK,hsrc,hns,hcond,Bool.false_eq_true,if_false,hfit,if_true,hm,Option.isSome_none,bG]
      simp only[cA,Option.isSome_none,Bool.false_or,List.all_nil,Bool.not_true,Bool.or_false,hg]
      grind
     ·have hsp:aT (pre++cs++post) (pre.length+n*W) []=pre++cs++post:=by simp only[aT,List.append_nil,List.length_nil,Nat.add_zero,List.take_append_drop]
      rw[hsp]
      refine hk _ _ _ ?_
      have:Hs G (h.set b (some (.cells (pre++cs++post) e (0,0) ex))) ((fun r=>r=hU b (pre++cs++post) (some (.mt e ex (pre++cs++post).length)))::L'):=by
       have hget:∀j,(h.set b (some (.cells (pre++cs++post) e (0,0) ex))).get j=h.get j:=fun j=>by
        rw[AH.fJ hb];grind
       refine⟨by simp;exact hs.base,by rw[AH.uU];exact hs.old,by simp;exact hs.wf,fun i hi=>by simp at hi;rw[hget];exact hs.fr i hi,_,⟨_,r2,rfl,hr2,hd,rfl⟩,(bA.eG hd).2 ⟨?_,?_⟩⟩
       ·exact hi.of (by simp) (by simp) fun j _=>hget j
       ·exact hi2.of (by simp) (by simp) fun j _=>hget j
      refine Hs.join (A:=[_]) this fun q hq=>?_
      obtain⟨q1,q2,e1,e2,e3,e4⟩:=hq
      cases e1;cases e2
      rw[bA.add_comm (s:=bA.emp) bA.bV.symm,bA.eA] at e4
      refine⟨hlen,hall,.inr (.inr ⟨hfit,b,pre,post,ex,rfl,?_,by simpa using e4⟩)⟩
      grind
    ·obtain⟨h',hst,hs3⟩:=hs2.write (j:=pre.length+cs.length) (vs:=ns) hpl hnb (by omega)
     rw[Nat.zero_add] at hst
     refine⟨(.slice (some ⟨b,pre.length,none⟩) (n+m) c,h'),?_,?_⟩
     ·simp only[jK,hsrc,hns,hcond,Bool.false_eq_true,if_false,hfit,if_true,hm,Option.isSome_none,bG]
      rw[←hl,hst];rfl
     ·refine hk _ _ _ ?_
      have hsp:aT (pre++cs++post) (pre.length+cs.length) ns=pre++(cs++ns)++post.drop ns.length:=by
       unfold aT
       rw[List.take_append_of_le_length (by simp),List.take_of_length_le (by simp),List.drop_append]
       have:(pre++cs).drop (pre.length+cs.length+ns.length)=[]:=List.drop_eq_nil_of_le (by simp)
       rw[this]
       simp only[List.length_append,List.nil_append,List.append_assoc]
       rw[show pre.length+cs.length+ns.length - (pre.length+cs.length)=ns.length by omega]
      rw[hsp] at hs3
      have hll:(pre++cs++post).length=(pre++(cs++ns)++post.drop ns.length).length:=by grind
      rw[hll] at hs3
      refine Hs.join (A:=[_,_]) hs3 fun q hq=>?_
      exact⟨hlen,hall,.inr (.inr ⟨hfit,b,pre,post.drop ns.length,ex,rfl,by rw[←hll];exact hle,nP hq⟩)⟩
   ·
    have hs1:Hs G h ((fun r=>r=hU b (pre++cs++post) (some (.mt e ex (pre++cs++post).length)))::L'):=⟨hs.base,hs.old,hs.wf,hs.fr,_,⟨_,r2,rfl,hr2,hd,rfl⟩,(bA.eG hd).2 ⟨hi,hi2⟩⟩
    have hnW:n*W≤c*W:=Nat.mul_le_mul_right _ hcap
    have hold:aW h ⟨b,pre.length,none⟩ (n*W)=some cs:=by
     simp only[aW,Option.isSome_none,Bool.false_eq_true,if_false,hg]
     rw[if_pos (by omega)]
     simp only[Option.some.injEq]
     grind
    have h1:¬((none:Option Nat)=some 1):=by simp
    have h2:¬((none:Option Nat)=some 2):=by simp
    cases ex with
    |true=>
     have hn2:=newS (Hs.join (A:=[_,_]) (hres.new (c:=cs++ns) (e:=e) (x:=false)) fun q hq=>nP hq)
     refine⟨(.slice (some ⟨h.next,0,none⟩) (n+m) (n+m),h.alloc (.cells (cs++ns) e (0,0) false)),?_,hk _ _ _ hn2⟩
     simp only[jK,hsrc,hns,hcond,Bool.false_eq_true,if_false,hfit,hsz,if_true,h1,h2,hold,hg,hc,Bool.not_true]
    |false=>
     have hn2:=newS (hs1.kill (c2:=cs++ns) (e2:=e) (x2:=false))
     refine⟨(.slice (some ⟨h.next,0,none⟩) (n+m) (n+m),(h.set b none).alloc (.cells (cs++ns) e (0,0) false)),?_,hk _ _ _ hn2⟩
     simp only[jK,hsrc,hns,hcond,Bool.false_eq_true,if_false,hfit,hsz,if_true,h1,h2,hold,hg,hc,Bool.not_true,hb,hle,and_self]
end Go.Ab
end
section
namespace Go.Ab
variable {P:Program} {K:FuncId→List Value→Option fM} {G:Bg} {h:AH} {L L' M:List HP}
abbrev wr (x:Int):Int:=IntKind.i64.wrap x
theorem Ph {x:Int} (h: -9223372036854775808≤x∧x≤9223372036854775807):wr x=x:=IntWalk.i64_in _ (by omega)
section
variable {k:Value→Prop} {a b:Int} {x y:Value}
theorem J5 {α:Type} {o:Option α} {v:α} {k:α→Prop} (hv:o=some v) (hk:k v):aN o k:=⟨v,hv,hk⟩
theorem aA {b o j n:Nat} (hk:k (pt b o (j+n))):aN (qH n (pt b o j)) k:=⟨_,by simp[qH,pt,bG,Nat.add_assoc],hk⟩
theorem aC {b o j:Nat} (hk:k (pt b o j)):aN (sH (pt b o j)) k:=⟨_,rfl,hk⟩
theorem aL {i:Nat} {vs:List Value} {v:Value} (hv:vs[i]?=some v) (hk:k v):aN (tP i (.tuple ⟨vs⟩)) k:=⟨v,hv,hk⟩
theorem eV {a:Option Addr} {n c:Nat} (hk:k (I n)):aN (vU (.slice a n c)) k:=⟨_,rfl,hk⟩
theorem cL (h: -9223372036854775808≤a+b∧a+b≤9223372036854775807) (hk:k (I (a+b))):aN (xJ .add (I a) (I b)) k:=⟨_,by show some (Value.int .i64 (wr (a+b)))=_;rw[Ph h],hk⟩
theorem Ry (h: -9223372036854775808≤a*b∧a*b≤9223372036854775807) (hk:k (I (a*b))):aN (xJ .mul (I a) (I b)) k:=⟨_,by show some (Value.int .i64 (wr (a*b)))=_;rw[Ph h],hk⟩
theorem K3 (hk:k (I (wr (a+b)))):aN (xJ .add (I a) (I b)) k:=⟨_,rfl,hk⟩
theorem Zo (ha:0≤a) (hb:0<b) (h:a≤9223372036854775807) (hk:k (I (a/b))):aN (xJ .quo (I a) (I b)) k:=by
 refine⟨_,?_,hk⟩
 show yJ .quo .i64 a b=_
 simp only[yJ]
 rw[if_neg (by omega),Int.tdiv_eq_ediv_of_nonneg ha]
 have h1:0≤a/b:=Int.ediv_nonneg ha (by omega)
 have h2:a/b≤a:=Int.ediv_le_self b ha
 rw[show IntKind.i64.wrap (a/b)=a/b from Ph (by omega)]
theorem Pj (ha:0≤a) (hb:0<b) (hk:k (I (a % b))):aN (xJ .rem (I a) (I b)) k:=by
 refine⟨_,?_,hk⟩
 show yJ .rem .i64 a b=_
 simp only[yJ]
 grind
theorem pQ (hb:b≠0) (hk:k (I (a.tmod b))):aN (xJ .rem (I a) (I b)) k:=by
 refine⟨_,?_,hk⟩
 show yJ .rem .i64 a b=_
 simp only[yJ]
 rw[if_neg hb]
theorem bH (hk:k (.bool (decide (a=b)))):aN (xJ .eql (I a) (I b)) k:=⟨_,by show some (Value.bool (a==b))=_;rfl,hk⟩
theorem bL (hk:k (.bool (decide (a≠b)))):aN (xJ .neq (I a) (I b)) k:=⟨_,by show some (Value.bool (a !=b))=_;grind,hk⟩
theorem bC (hk:k (.bool (decide (a<b)))):aN (xJ .lss (I a) (I b)) k:=⟨_,rfl,hk⟩
theorem bz (hk:k (.bool (decide (a≤b)))):aN (xJ .leq (I a) (I b)) k:=⟨_,rfl,hk⟩
theorem qE (hk:k (.bool (decide (b<a)))):aN (xJ .gtr (I a) (I b)) k:=⟨_,rfl,hk⟩
theorem lI (hk:k (.bool (decide (b≤a)))):aN (xJ .geq (I a) (I b)) k:=⟨_,rfl,hk⟩
theorem Y4 {b o j:Nat} (hk:k (.bool true)):aN (Ta .neq (pt b o j) (.pointer none)) k:=⟨_,rfl,hk⟩
theorem iJ {b o j:Nat} (hk:k (.bool false)):aN (Ta .eql (pt b o j) (.pointer none)) k:=⟨_,rfl,hk⟩
theorem dY {b:Bool} (hk:k (.bool !b)):aN (Wo .not (.bool b)) k:=⟨_,rfl,hk⟩
theorem dW {b o n c sz i:Nat} (h1:i<n) (hk:k (pt b (o+i*sz) 0)):aN (vA sz (.slice (some ⟨b,o,none⟩) n c) (I i)) k:=⟨_,by simp[vA,h1,bG,pt],hk⟩
theorem fT {b o j n sz:Nat} (h0:0≤a) (h1:a<n) (hk:k (pt b o (j+a.toNat*sz))):aN (sI n sz (pt b o j) (I a)) k:=⟨_,by simp[sI,h0,h1,bG,pt,Nat.add_assoc],hk⟩
theorem cM {c:Prop} [Decidable c] {p q:Prop} (h:c) (hp:p):Br (.bool (decide c)) p q:=⟨_,rfl,fun _=>hp,fun hh=>absurd h (by simpa using hh)⟩
theorem aY {c:Prop} [Decidable c] {p q:Prop} (h:¬c) (hq:q):Br (.bool (decide c)) p q:=⟨_,rfl,fun hh=>absurd (by simpa using hh) h,fun _=>hq⟩
theorem bE {c:Prop} [Decidable c] {p q:Prop} (hp:c→p) (hq:¬c→q):Br (.bool (decide c)) p q:=⟨_,rfl,fun hh=>hp (by simpa using hh),fun hh=>hq (by simpa using hh)⟩
theorem mV {p q:Prop} (hp:p):Br (.bool true) p q:=Uu.2 hp
theorem eS {p q:Prop} (hq:q):Br (.bool false) p q:=Po.2 hq
theorem cS {b:Bool} {p q:Prop} (hp:b=true→p) (hq:b=false→q):Br (.bool b) p q:=⟨_,rfl,hp,hq⟩
theorem gU {b:Bool} {p q:Prop} (h:Br (.bool b) q p):Br (.bool !b) p q:=by obtain⟨c,hc,h1,h2⟩:=h;cases hc;cases b;exact⟨_,rfl,fun _=>h2 rfl,fun h=>(by cases h)⟩;simp_all
end
theorem aR {z c:List Value} {ps:List (Nat×Nat×Value)} {k:List Value→Prop} (hv:mR z ps=some c) (hk:k c):aN (mR z ps) k:=⟨c,hv,hk⟩
theorem hZ {p q:Prop} (hp:p) (hq:q):p∧q:=⟨hp,hq⟩
theorem uM {a:Int}:mL (I a) (I a)=true:=by simp[mL]
theorem iN {b o j:Nat}:mL (pt b o j) (pt b o j)=true:=by simp[mL,pt]
theorem Zg {a:Option Addr} {n c:Nat}:mL (.slice a n c) (.slice a n c)=true:=by simp[mL]
theorem br {g:FuncId} {first captured:Array Value} {l:Nat} {q:Value→AH→Prop} (hc:dS P g=true) (hk:Cl P K g (first.toList++[.func (.yield l) #[] #[]]++captured.toList) h q):V2 P K (.func (.func g) first captured) l h q:=⟨hc,hk⟩
theorem We {g:FuncId} {first captured:Array Value} {args:List Value} {q:Value→AH→Prop} (hc:dS P g=true) (hk:Cl P K g (first.toList++args++captured.toList) h q):Dm P K (.func (.func g) first captured) args h q:=⟨hc,hk⟩
end Go.Ab
end
section
namespace Go.Ab
variable {P:Program} {K:FuncId→List Value→Option fM} {G:Bg} {h:AH} {L L' M:List HP}
def sp (A:List HP):HP:=fun r=>star A r
theorem Hs.pack {A:List HP} (hs:Hs G h (A++L)):Hs G h (sp A::L):=hs.join fun _ h=>h
theorem Hs.unpack {A:List HP} (hs:Hs G h (sp A::L)):Hs G h (A++L):=hs.imp fun _ h=>h
def Nm {α:Type} (A:α→HP):HP:=fun r=>∃x,A x r
theorem Hs.Pb {α:Type} {A:α→HP} (x:α) (hs:Hs G h (A x::L)):Hs G h (Nm A::L):=Hs.join (A:=[A x]) hs fun r hr=>by
 obtain⟨r1,r2,h1,h2,_,h4⟩:=hr
 cases h2
 rw[bA.add_comm (s:=bA.emp) bA.bV.symm,bA.eA] at h4
 subst h4;exact⟨x,h1⟩
theorem Sl {A:HP} {r:bA}:star [A] r↔A r:=by
 constructor
 ·intro⟨r1,r2,h1,h2,_,h4⟩
  cases h2
  rw[bA.add_comm (s:=bA.emp) bA.bV.symm,bA.eA] at h4
  subst h4;exact h1
 ·intro hr
  exact⟨r,bA.emp,hr,rfl,bA.bV.symm,by rw[bA.add_comm (s:=bA.emp) bA.bV.symm,bA.eA]⟩
theorem Hs.Pm {α:Type} {A:α→HP} (hs:Hs G h (Nm A::L)):∃x,Hs G h (A x::L):=by
 obtain⟨r,r2,⟨x,hx⟩,h2,h3,h4,h5⟩:=hs.fst
 exact⟨x,hs.base,hs.old,hs.wf,hs.fr,_,⟨r,r2,hx,h2,h3,rfl⟩,(bA.eG h3).2 ⟨h4,h5⟩⟩
def Pd (p:Prop):HP:=fun r=>p∧r=bA.emp
theorem Hs.eg {p:Prop} (hp:p) (hs:Hs G h L):Hs G h (Pd p::L):=Hs.join (A:=[]) hs fun _ hr=>⟨hp,hr⟩
theorem Hs.ei {p:Prop} (hs:Hs G h (Pd p::L)):p∧Hs G h L:=by
 obtain⟨r,_,⟨hp,_⟩,_⟩:=hs.fst
 exact⟨hp,hs.tail⟩
def mU (n:Nat) (f:Nat→HP):HP:=sp ((List.range n).map f)
theorem Am {n i:Nat} {f:Nat→HP} (hi:i<n):((List.range n).map f).Perm (f i::((List.range n).erase i).map f):=by
 have:(List.range n).Perm (i::(List.range n).erase i):=List.perm_cons_erase (List.mem_range.2 hi)
 exact this.map f
theorem Hs.tX {n:Nat} {f:Nat→HP} (hs:Hs G h (mU n f::L)) (i:Nat) (hi:i<n):Hs G h (f i::sp (((List.range n).erase i).map f)::L):=by
 have h1:=hs.unpack.perm ((Am hi).append_right L)
 have h2:Hs G h (((List.range n).erase i).map f++f i::L):=h1.perm (by simpa using List.perm_middle.symm)
 exact(h2.pack).perm (List.Perm.swap _ _ _)
theorem Hs.bu {n i:Nat} {f g:Nat→HP} (hi:i<n) (he:∀j,j≠i→g j=f j) (hs:Hs G h (g i::sp (((List.range n).erase i).map f)::L)):Hs G h (mU n g::L):=by
 have h1:=(hs.perm (List.Perm.swap _ _ _)).unpack
 have hm:((List.range n).erase i).map f=((List.range n).erase i).map g:=List.map_congr_left fun j hj=>by
  have:j≠i:=by
   intro e
   subst e
   exact List.Nodup.not_mem_erase List.nodup_range hj
  grind
 rw[hm] at h1
 refine(h1.perm ?_).pack
 exact(List.perm_middle.trans ((Am hi).symm.append_right L))
theorem On {n:Nat} {f g:Nat→HP} (he:∀j,j<n→g j=f j) (hs:Hs G h (mU n f::L)):Hs G h (mU n g::L):=by
 have:(List.range n).map f=(List.range n).map g:=List.map_congr_left fun j hj=>(he j (List.mem_range.1 hj)).symm
 unfold mU at hs ⊢
 grind
theorem Hs.X0 {f:Nat→HP} (hs:Hs G h L):Hs G h (mU 0 f::L):=Hs.pack (A:=[]) hs
theorem Hs.Yq {n:Nat} {f:Nat→HP} (hs:Hs G h (f n::mU n f::L)):Hs G h (mU (n+1) f::L):=by
 have h1:=(hs.perm (List.Perm.swap _ _ _)).unpack
 refine Hs.pack (A:=(List.range (n+1)).map f) (h1.perm ?_)
 rw[List.range_succ,List.map_append]
 simp
theorem Dm.mono {f:Value} {args:List Value} {Q Q':Value→AH→Prop} (k:Dm P K f args h Q) (hq:∀v h',Q v h'→Q' v h'):Dm P K f args h Q':=by
 unfold Dm at k ⊢
 split at k
 ·exact⟨k.1,Ok.mono k.2 fun _ _=>hq _ _⟩
 ·exact Ok.mono k fun _ _=>hq _ _
 ·cases k
theorem O5 {l:Nat} {args:List Value} {Q:Value→AH→Prop} (k:Ok P K (.round l args) h fun o h'=>Q o.v h'):Dm P K (.func (.yield l) #[] #[]) args h Q:=by
 simpa [Dm] using k
def en (P:Program) (K:FuncId→List Value→Option fM) (G:Bg) (f:FuncId) (first captured:List Value) (A:HP) (xs:List (List Value)):Prop:=
 ∀(I:List (List Value)→HP) (J:HP) (y:Value) (L:List HP) (h:AH) (Q:Value→AH→Prop),Hs G h (A::I xs::L)→
  (∀x rest h M,Hs G h (I (x::rest)::M)→Dm P K y x h fun v h'=>(v= .bool true∧Hs G h' (I rest::M))∨(v= .bool false∧Hs G h' (J::M)))→
  (∀v h',Hs G h' (A::I []::L)→Q v h')→(∀v h',Hs G h' (A::J::L)→Q v h')→Cl P K f (first++[y]++captured) h Q
class fO (A:HP) (L:List HP) (L':outParam (List HP)):Prop where
 perm:L.Perm (A::L')
instance (priority:=low) fO.there {A B:HP} [k:fO A L L']:fO A (B::L) (B::L'):=⟨(k.perm.cons B).trans (List.Perm.swap _ _ _)⟩
instance (priority:=high) fO.here {A:HP}:fO A (A::L) L:=⟨List.Perm.refl _⟩
instance (priority:=high) fO.app {A B:HP} {L1 L2:List HP} [k:fO A (B::(L1++L2)) L']:fO A ((B::L1)++L2) L':=k
instance (priority:=high) fO.Yi {A:HP} {L2:List HP} [k:fO A L2 L']:fO A ([]++L2) L':=k
class Sub (L M:List HP):Prop where
 to:∀r,star L r→∃r1 r2,star M r1∧r1.oF r2∧r=r1.add r2
theorem Tg {r:bA}:r.add bA.emp=r:=by rw[bA.add_comm bA.bV.symm,bA.eA]
instance (priority:=low) Sub.skip {A:HP} [k:Sub L M]:Sub (A::L) M:=⟨fun r ⟨r1,r2,h1,h2,h3,h4⟩=>by
 obtain⟨s1,s2,g1,g2,g3⟩:=k.to r2 h2
 subst g3
 obtain⟨d1,d2⟩:=bA.fI.1 h3
 exact⟨s1,r1.add s2,g1,bA.fI.2 ⟨d1.symm,g2⟩,by rw[h4,←bA.add_assoc,←bA.add_assoc,bA.add_comm d1]⟩⟩
instance Sub.take {A:HP} [k:fO A L L'] [k2:Sub L' M]:Sub L (A::M):=⟨fun r hr=>by
 obtain⟨r1,r2,h1,h2,h3,h4⟩:=wV k.perm r hr
 obtain⟨s1,s2,g1,g2,g3⟩:=k2.to r2 h2
 subst g3
 obtain⟨d1,d2⟩:=bA.fI.1 h3
 exact⟨r1.add s1,s2,⟨r1,s1,h1,g1,d1,rfl⟩,(bA.fI.2 ⟨d2.symm,g2.symm⟩).symm,by rw[h4,bA.add_assoc]⟩⟩
instance (priority:=high) Sub.refl:Sub L L:=⟨fun r hr=>⟨r,bA.emp,hr,bA.bV.symm,Tg.symm⟩⟩
instance (priority:=high) Sub.app {A:HP} {L1 L2:List HP} [k:Sub L (A::(L1++L2))]:Sub L ((A::L1)++L2):=k
instance (priority:=high) Sub.Yi {L2:List HP} [k:Sub L L2]:Sub L ([]++L2):=k
instance (priority:=high) Sub.jh {A:HP} {L1 L2:List HP} [k:Sub (A::(L1++L2)) M]:Sub ((A::L1)++L2) M:=k
instance (priority:=high) Sub.sp {A:List HP} [k:Sub L (A++M)]:Sub L (sp A::M):=⟨fun r hr=>by
 obtain⟨s1,s2,g1,g2,g3⟩:=k.to r hr
 obtain⟨q1,q2,e1,e2,e3,e4⟩:=fG.1 g1
 exact⟨s1,s2,⟨q1,q2,e1,e2,e3,e4⟩,g2,g3⟩⟩
theorem Hs.to (hs:Hs G h L) [k:Sub L M]:Hs G h M:=⟨hs.base,hs.old,hs.wf,hs.fr,by
 obtain⟨r,h1,h2⟩:=hs.res
 obtain⟨r1,r2,g1,g2,g3⟩:=k.to r h1
 subst g3
 exact⟨r1,g1,((bA.eG g2).1 h2).1⟩⟩
theorem Hs.tE {A B:HP} (hs:Hs G h (B::A::L)):Hs G h (A::B::L):=hs.perm (List.Perm.swap _ _ _)
theorem Vu {p:Prop} {A:List HP} (hp:p) (hs:Hs G h (sp A::L)):Hs G h (sp (Pd p::A)::L):=Hs.pack (A:=Pd p::A) (Hs.eg hp hs.unpack)
theorem Q7 {p:Prop} {A:List HP} (hs:Hs G h (sp (Pd p::A)::L)):p∧Hs G h (sp A::L):=let⟨a,b⟩:=Hs.ei hs.unpack;⟨a,b.pack⟩
theorem X7 {a b:Prop} {c:List (Nat×Prop)} (hk:a):Ak none a b c:=hk
theorem bx {b o j m:Nat} (h:m≤j):pt b o j=pt b (o+m) (j - m):=by simp only[pt];grind
end Go.Ab
end
section
namespace Go.Ab
variable {P:Program} {K:FuncId→List Value→Option fM} {G:Bg} {h:AH} {L L' M:List HP}
class Cv (v:Value) (cs:outParam (List Value)):Prop where
 eq:fF v=some cs
instance {a:Int}:Cv (I a) [I a]:=⟨rfl⟩
instance {a:Bool}:Cv (.bool a) [.bool a]:=⟨rfl⟩
instance {b o j:Nat}:Cv (pt b o j) [pt b o j]:=⟨rfl⟩
instance {a:Option Addr} {n c:Nat}:Cv (.slice a n c) [.slice a n c]:=⟨rfl⟩
instance {l:List Value}:Cv (.agg ⟨l⟩) l:=⟨rfl⟩
theorem iA {cs:List Value} {e:TypeId} {v:Value} {k:Nat→AH→Prop} (hs:Hs G h L) [hv:Cv v cs] (hk:∀p h',Hs G h' (aO p 0 cs::L)→k p h'):aN (oB e v) fun b=>F5 h b k:=bm hs hv.eq hk
theorem Rh {r i n:Nat} {D:List Nat} {cs:List Value} {v:Value} {e:TypeId} {k:Nat→AH→Prop} (hs:Hs G h L) [m:Has (O9 r) L (n,D) L'] [hv:Cv v cs] (hi:Nat.blt i n=true) (hD:D.contains i=false)
  (hk:∀p h',Hs G h' (aO p 0 cs::O9 r (n,i::D)::L')→k p h'):aN (oB e v) fun b=>qD h (r+i) b k:=T4 hs hv.eq hi hD hk
theorem bM {b o j n:Nat} {c vs:List Value} {v:Value} {k:AH→Prop} (hs:Hs G h L) [m:Has (aO b o) L c L'] [hv:Cv v vs] (hn:vs.length=n) (hl:Nat.ble (j+n) c.length=true) (hb:vs.all eE=true) (h0:Nat.ble 1 c.length=true)
  (hk:∀h',Hs G h' (aO b o (pJ c j vs)::L')→k h'):aN (Jx h n (pt b o j) v) k:=Z1 hs hv.eq hn hl hb h0 hk
theorem Hc:∀(c vs:List Value),c.length=vs.length→pJ c 0 vs=vs
 |[],[],_=>rfl
 |_::c,v::vs,h=>by simp only[pJ];rw[Hc c vs (by simpa using h)]
theorem dR {b o n:Nat} {c vs:List Value} {v:Value} {k:AH→Prop} (hs:Hs G h L) [m:Has (aO b o) L c L'] [hv:Cv v vs] (hl:Nat.beq c.length n=true) (h0:Nat.ble 1 n=true) (hn:vs.length=n) (hb:vs.all eE=true)
  (hk:∀h',Hs G h' (aO b o vs::L')→k h'):aN (Jx h n (pt b o 0) v) k:=by
 have hl:=Nat.eq_of_beq_eq_true hl
 refine Z1 hs hv.eq hn (by rw[hl];simp) hb (by rw[hl];exact h0) ?_
 rw[Hc c vs (by omega)];exact hk
structure LpX where
 P:Program
 f:FuncId
 p:List Nat
 n:Nat
 e:Nat→Value
 d:Nat
 st:LoopState
 pd:Option Code
class kM (l:Nat) (L:List HP) (x:outParam LpX) (L':outParam (List HP)):Prop where
 perm:L.Perm (Gg x.P x.f x.p x.n x.e x.d l (x.st,x.pd)::L')
instance (priority:=low) kM.there {l:Nat} {A:HP} {x:LpX} [k:kM l L x L']:kM l (A::L) x (A::L'):=⟨(k.perm.cons A).trans (List.Perm.swap _ _ _)⟩
instance (priority:=high) kM.here {l:Nat} {f:FuncId} {p:List Nat} {n:Nat} {e:Nat→Value} {d:Nat} {st:LoopState} {pd:Option Code}:kM l (Gg P f p n e d l (st,pd)::L) ⟨P,f,p,n,e,d,st,pd⟩ L:=⟨List.Perm.refl _⟩
instance (priority:=high) kM.app {l:Nat} {A:HP} {L1 L2:List HP} {x:LpX} [k:kM l (A::(L1++L2)) x L']:kM l ((A::L1)++L2) x L':=k
instance (priority:=high) kM.Yi {l:Nat} {L2:List HP} {x:LpX} [k:kM l L2 x L']:kM l ([]++L2) x L':=k
theorem kM.of {l:Nat} {x:LpX} [k:kM l L x L'] (hs:Hs G h L):Hs G h (Gg x.P x.f x.p x.n x.e x.d l (x.st,x.pd)::L'):=hs.perm k.perm
section
variable {f:FuncId} {p:List Nat} {n:Nat} {e:Nat→Value} {d l:Nat} {st st':LoopState} {pd pd':Option Code}
theorem Xe {k:AH→Prop} (hs:Hs G h L) [m:kM l L ⟨P,f,p,n,e,d,st,pd⟩ L'] (hk:∀h',Hs G h' (Gg P f p n e d l (st',pd')::L')→k h'):aN (bP h l st' (some pd')) k:=bp (show Hs G h (Gg P f p n e d l (st,pd)::L') from m.of hs) hk
theorem Sb {k:AH→Prop} (hs:Hs G h L) [m:kM l L ⟨P,f,p,n,e,d,.ready,pd⟩ L'] (hk:∀h',Hs G h' (Gg P f p n e d l (.busy,pd)::L')→k h'):aN (nL h l) k:=Ts (show Hs G h (Gg P f p n e d l (.ready,pd)::L') from m.of hs) hk
theorem W6 {k:Option Code×AH→Prop} (hs:Hs G h L) [m:kM l L ⟨P,f,p,n,e,d,.ready,pd⟩ L'] (hk:∀h',Hs G h' L'→k (pd,h')):aN (vZ h l) k:=
 bc (P:=P) (f:=f) (p:=p) (n:=n) (e:=e) (d:=d) (st:= .ready) (pd:=pd) (k:=fun a b=>k (a,b)) (show Hs G h (Gg P f p n e d l (.ready,pd)::L') from m.of hs) (by decide) hk
theorem ck (hs:Hs G h L) [m:kM l L ⟨P,f,p,n,e,d,st,pd⟩ L']:h.get l=some (lp P f p n e d st pd):=gz (show Hs G h (Gg P f p n e d l (st,pd)::L') from m.of hs)
end
theorem T7 {W:Nat} {e:TypeId} {a:Option Addr} {c n:Nat} {cs:List Value} (hs:Hs G h (dP W e a c (n,cs)::L)):eM h W n (.slice a n c)=some cs:=by
 have hl:=hs.Ag
 simp only at hl
 by_cases h0:n=0
 ·subst h0
  have:cs=[]:=List.eq_nil_of_length_eq_zero (by omega)
  subst this
  cases a<;>simp[eM]
 ·obtain⟨b,o,rfl,H,hs2,_⟩:=hs.nC (by omega)
  simp only[eM,if_neg h0,Nat.le_refl,if_true]
  by_cases hW:n*W=0
  ·have:cs=[]:=List.eq_nil_of_length_eq_zero (by omega)
   subst this
   obtain⟨r,r2,hr,hr2,hd,hi,hi2⟩:=hs.fst
   obtain⟨_,_,hr⟩:=hr
   rcases hr with⟨hz,_⟩|⟨hz,_⟩|⟨hcap,b',pre,post,ex,ha,hle,hrr⟩
   ·simp at hz;omega
   ·simp at hz;omega
   ·cases ha
    subst hrr
    obtain⟨hb,hg⟩:=wW hi hi2
    simp only[aW,Option.isSome_none,Bool.false_eq_true,if_false,hg,hW]
    grind
  ·obtain⟨hb,c',e',x',hg,hle,hall⟩:=hs2.cells (by omega)
   simp only[aW,Option.isSome_none,Bool.false_eq_true,if_false,hg]
   rw[if_pos (by omega)]
   congr 1
   refine List.ext_getElem? fun j=>?_
   grind
theorem oW {W bytes:Nat} {e:TypeId} {a a2:Option Addr} {c c2 n m:Nat} {cs ns:List Value} {k:Value×AH→Prop} (hs:Hs G h L) [mm:Has (dP W e a c) L (n,cs) L'] [mn:Has (dP W e a2 c2) L' (m,ns) M] (hsz:(n+m)*(bytes+1)≤2^46)
  (hk:∀a' c' h',Hs G h' (dP W e a' c' (n+m,cs++ns)::L')→k (.slice a' (n+m) c',h')):aN (jK W bytes e h (.slice a n c) (.slice a2 m c2)) k:=by
 have hs2:=mn.of (mm.of hs).tail
 exact Sy (k:=fun x y=>k (x,y)) hs jL (T7 hs2) hs2.Al hs2.Ag hsz hk
theorem Hs.front (A:HP) (hs:Hs G h L) [k:fO A L L']:Hs G h (A::L'):=hs.perm k.perm
theorem Hs.wU (A B:HP) (hs:Hs G h L) [k:fO A L L'] [k2:fO B L' M]:Hs G h (A::B::M):=hs.perm (k.perm.trans (k2.perm.cons A))
end Go.Ab
end
section
namespace Go.Ab
variable {P:Program} {K:FuncId→List Value→Option fM} {G:Bg} {h:AH} {L L' M:List HP}
structure Sx (G:Bg) (W:Nat) (e:TypeId) (a:Option Addr) (cap n b o:Nat) where
 p:HP
 back:∀(h':AH) (cs':List Value) (M:List HP),cs'.length=n*W→cs'.all eE=true→Hs G h' (aO b o cs'::p::M)→Hs G h' (dP W e a cap (n,cs')::M)
def hole (G:Bg) (W:Nat) (e:TypeId) (a:Option Addr) (cap n b o:Nat):HP:=Nm fun H:Sx G W e a cap n b o=>H.p
theorem Hs.hM {W:Nat} {e:TypeId} {a:Option Addr} {cap n:Nat} {cs:List Value} (hs:Hs G h (dP W e a cap (n,cs)::L)) (h0:0<n):
  ∃b o,a=some ⟨b,o,none⟩∧Hs G h (aO b o cs::hole G W e a cap n b o::L):=by
 have hl:=hs.Ag
 simp only at hl
 obtain⟨b,o,ha,H,hs',hc⟩:=hs.nC h0
 exact⟨b,o,ha,Hs.tE (Hs.Pb (A:=fun H:Sx G W e a cap n b o=>H.p) ⟨H,fun h' cs' M h1 h2 h3=>hc h' cs' M (h1.trans hl.symm) h2 h3⟩ hs'.tE)⟩
theorem Hs.nY {W:Nat} {e:TypeId} {a:Option Addr} {cap n b o:Nat} {cs:List Value} (hs:Hs G h (aO b o cs::hole G W e a cap n b o::L)) (hl:cs.length=n*W) (hc:cs.all eE=true):Hs G h (dP W e a cap (n,cs)::L):=by
 obtain⟨⟨H,hH⟩,hs⟩:=Hs.Pm (A:=fun H:Sx G W e a cap n b o=>H.p) hs.tE
 exact hH _ _ _ hl hc hs.tE
theorem Vp {b o W:Nat} {c:Nat→List Value} (hc:∀i,(c i).length=W):∀(n:Nat) (L:List HP),Hs G h (aO b o ((List.range n).flatMap c)::L)→Hs G h (mU n (fun i=>aO b (o+i*W) (c i))::L):=by
 intro n
 induction n with
 |zero=>intro L hs;exact Hs.X0 hs.tail
 |succ n ih=>
  intro L hs
  rw[List.range_succ,List.flatMap_append] at hs
  have hl:∀m,((List.range m).flatMap c).length=m*W:=fun m=>by
   induction m with
   |zero=>simp
   |succ m ih2=>rw[List.range_succ,List.flatMap_append,List.length_append,ih2];grind
  have hs:=hs.split
  simp only[List.flatMap_cons,List.flatMap_nil,List.append_nil,hl] at hs
  exact Hs.Yq (Hs.tE (ih _ hs))
theorem Hs.Ko {f g:Nat→HP}:∀(n:Nat) (L:List HP),(∀i,i<n→∀h L,Hs G h (f i::L)→Hs G h (g i::L))→Hs G h (mU n f::L)→Hs G h (mU n g::L):=by
 intro n
 induction n with
 |zero=>intro L _ hs;exact Hs.X0 hs.tail
 |succ n ih=>
  intro L hk hs
  have hs:=hs.unpack
  rw[List.range_succ,List.map_append,List.append_assoc] at hs
  have hs:Hs G h (mU n f::f n::L):=Hs.pack hs
  exact Hs.Yq (hk n (Nat.lt_succ_self n) _ _ (ih _ (fun i hi=>hk i (by omega)) hs).tE)
theorem cf {n i:Nat} {l:List Value} {v:Value} {k:Value→Prop} (hi:i<n) (hl:l[i]?=some v) (hk:k v):aN (P6 n 1 (.agg ⟨l⟩) (I i)) k:=⟨v,by simp[P6,hi,hl],hk⟩
theorem nB {b o j n sz i:Nat} {k:Value→Prop} (hi:i<n) (hk:k (pt b o (j+i*sz))):aN (sI n sz (pt b o j) (I i)) k:=⟨_,by simp[sI,hi,bG,pt,Nat.add_assoc],hk⟩
theorem Zz {bytes n:Nat} {k:Nat×Nat→Prop} (hn:n≤2^40) (hb:bytes*n≤2^47) (hk:k (n,n)):aN (He bytes (I n) (I n)) k:=⟨_,by simp only[He];grind,hk⟩
theorem X9 {b n:Nat} {c:List Value} {k:Value→Prop} (hs:Hs G h L) (ho:Ob G b c) (hn:c.length=n) (hk:k (.agg ⟨c⟩)):aN (yS h n (.pointer (some ⟨b,0,none⟩))) k:=
 Sz (o:=0) (j:=0) hs ho (by rw[←hn];simp) hn (by simp) hk
def aJ {α:Type} (f:Nat→α) (i:Nat) (v:α):Nat→α:=fun j=>if j=i then v else f j
theorem cP {α:Type} {f:Nat→α} {i:Nat} {v:α}:aJ f i v i=v:=by simp[aJ]
theorem bK {α:Type} {f:Nat→α} {i j:Nat} {v:α} (h:j≠i):aJ f i v j=f j:=by simp[aJ,h]
theorem qW {W:Nat} {c:Nat→List Value} (hc:∀i,(c i).length=W) (m:Nat):((List.range m).flatMap c).length=m*W:=by
 induction m with
 |zero=>simp
 |succ m ih2=>rw[List.range_succ,List.flatMap_append,List.length_append,ih2];grind
theorem Tj {W:Nat} {c:Nat→List Value} (hc:∀i,(c i).length=W) {i:Nat}:∀(n:Nat),i<n→∃pre post,(List.range n).flatMap c=pre++(c i++post)∧pre.length=i*W∧∀x,(List.range n).flatMap (aJ c i x)=pre++(x++post):=by
 intro n
 induction n with
 |zero=>intro h;omega
 |succ n ih=>
  intro h
  by_cases hi:i=n
  ·subst hi
   refine⟨(List.range i).flatMap c,[],?_,qW hc i,fun x=>?_⟩
   ·rw[List.range_succ,List.flatMap_append];simp
   ·rw[List.range_succ,List.flatMap_append]
    congr 1
    ·rw[List.flatMap_def,List.flatMap_def]
     congr 1
     exact List.map_congr_left fun j hj=>bK (by grind)
    ·simp[cP]
  ·obtain⟨pre,post,h1,h2,h3⟩:=ih (by omega)
   refine⟨pre,post++c n,?_,h2,fun x=>?_⟩
   ·rw[List.range_succ,List.flatMap_append,h1];simp
   ·rw[List.range_succ,List.flatMap_append,h3]
    simp[bK (Ne.symm hi)]
theorem Hs.Wb {W:Nat} {e:TypeId} {a:Option Addr} {cap n i:Nat} {c:Nat→List Value} (hc:∀i,(c i).length=W) (hi:i<n) (hs:Hs G h (dP W e a cap (n,(List.range n).flatMap c)::L)):
  ∃b o,a=some ⟨b,o,none⟩∧∃H:HP,Hs G h (aO b (o+i*W) (c i)::H::L)∧∀h' x M,x.length=W→x.all eE=true→Hs G h' (aO b (o+i*W) x::H::M)→Hs G h' (dP W e a cap (n,(List.range n).flatMap (aJ c i x))::M):=by
 have hcell:=hs.Al
 simp only at hcell
 obtain⟨b,o,ha,hs⟩:=hs.hM (by omega)
 obtain⟨pre,post,h1,h2,h3⟩:=Tj hc n hi
 rw[h1] at hs hcell
 have hs:=hs.split.tE.split
 rw[h2] at hs
 refine⟨b,o,ha,sp [aO b o pre,aO b (o+i*W+(c i).length) post,hole G W e a cap n b o],?_,?_⟩
 ·exact(Hs.pack (A:=[aO b o pre,aO b (o+i*W+(c i).length) post,hole G W e a cap n b o]) hs.to).tE
 ·intro h' x M hx hxc hs
  have hs:Hs G h' (aO b (o+i*W) x::aO b (o+i*W+(c i).length) post::aO b o pre::hole G W e a cap n b o::M):=(hs.tE.unpack).to
  have hs:=Hs.Fu hs (by rw[hx,hc])
  have hs:=Hs.Fu hs.tE (by rw[h2])
  refine Hs.nY (by rw[h3];exact hs) (qW (fun j=>by unfold aJ;grind) n) ?_
  grind
theorem Hs.sg {b o:Nat} {c c':List Value} (hs:Hs G h L) [m:Has (aO b o) L c' L'] (hc:c'=c):Hs G h (aO b o c::L'):=by subst hc;exact m.of hs
theorem Hs.Cb {n i:Nat} (f g:Nat→HP) (hi:i<n) (he:∀j,j<n→j≠i→g j=f j) (hs:Hs G h L) [k:fO (g i) L L'] [k2:fO (sp (((List.range n).erase i).map f)) L' M]:Hs G h (mU n g::M):=by
 have hs:=hs.wU (g i) (sp (((List.range n).erase i).map f))
 have h1:=(hs.perm (List.Perm.swap _ _ _)).unpack
 have hm:((List.range n).erase i).map f=((List.range n).erase i).map g:=List.map_congr_left fun j hj=>by
  have:j≠i:=by
   intro e
   subst e
   exact List.Nodup.not_mem_erase List.nodup_range hj
  grind
 rw[hm] at h1
 refine(h1.perm ?_).pack
 exact(List.perm_middle.trans ((Am hi).symm.append_right M))
theorem P8 {bytes:Nat} {a:Int} {k:Nat×Nat→Prop} (h0:0≤a) (hn:a≤2^40) (hb:bytes*a≤2^47) (hk:k (a.toNat,a.toNat)):aN (He bytes (I a) (I a)) k:=⟨_,by simp only[He];grind,hk⟩
theorem gY (z:List Value) (n:Nat):dV z n=(List.range n).flatMap fun _=>z:=by
 induction n with
 |zero=>rfl
 |succ n ih=>rw[List.range_succ,List.flatMap_append,←ih];simp[dV,List.replicate_succ']
theorem tQ {c:Nat→List Value} (hc:∀i,(c i).all eE=true) (n:Nat):((List.range n).flatMap c).all eE=true:=by
 grind
theorem Hs.Kx {W:Nat} {e:TypeId} {z:List Value} {a:Option Addr} {cap n:Nat} (hz:z.length=W) (h0:0<n) (hs:Hs G h (dP W e a cap (n,dV z n)::L)):∃b o,a=some ⟨b,o,none⟩∧Hs G h (mU n (fun i=>aO b (o+i*W) z)::hole G W e a cap n b o::L):=by
 obtain⟨b,o,ha,hs⟩:=hs.hM h0
 rw[gY] at hs
 exact⟨b,o,ha,Vp (fun _=>hz) n _ hs⟩
theorem Sw {b o i j:Nat} {c:List Value} {v:Value} {k:Value→Prop} (hs:Hs G h L) [m:Has (aO b o) L c L'] (hc:c[i+j]?=some v) (hk:k v):aN (wO h (pt b (o+i) j)) k:=by
 have:pt b (o+i) j=pt b o (i+j):=by simp only[pt];rw[Nat.add_assoc]
 rw[this];exact aE hs hc hk
theorem P1 {a b c d:Bool} {k:Value→Prop} (hk:k (.bool (a||b||c||d))) {c0:Bool} (hc:c0=true:=by kernel_rfl):Wa c0 [1,1,1,1] .neq (.agg ⟨[.bool a,.bool b,.bool c,.bool d]⟩) (.agg ⟨[.bool false,.bool false,.bool false,.bool false]⟩) k:=
 ⟨hc,_,by cases a<;>cases b<;>cases c<;>cases d<;>rfl,hk⟩
theorem tJ {α:Type} {f:Nat→α} {i:Nat} {v w:α}:aJ (aJ f i v) i w=aJ f i w:=by funext j;unfold aJ;split<;>rfl
theorem Mg:∀(l:List Value),(∀v∈l,mL v v=true)→Gb l l=true
 |[],_=>by simp[Gb]
 |a::l,h=>by simp only[Gb,h a List.mem_cons_self,Bool.true_and];exact Mg l fun v hv=>h v (List.mem_cons_of_mem _ hv)
theorem rQ {l:List Value} (h:∀v∈l,mL v v=true):mL (.agg ⟨l⟩) (.agg ⟨l⟩)=true:=by
 simp only[mL,Lb];exact Mg l h
end Go.Ab
end
section
namespace Go.Ab
variable {P:Program} {K:FuncId→List Value→Option fM} {G:Bg} {h:AH} {L L' M:List HP}
theorem E2 {W:Nat} {e:TypeId} {a:Option Addr} {cap:Nat} {x:Nat×List Value} {r:bA} (hs:Hs G h ((fun q=>q=r)::L)) (hr:dP W e a cap x r):Hs G h (dP W e a cap x::L):=
 Hs.join (A:=[_]) hs fun q hq=>by
  rw[Sl] at hq;subst hq;exact hr
theorem Qn {W n c:Nat} {e:TypeId} {a:Option Addr} {cs:List Value} {k:Value→Prop} (hs:Hs G h L) [m:Has (dP W e a c) L (n+1,cs) L'] (hk:∀a' c',Hs G h (dP W e a' c' (n,cs.drop W)::L')→k (.slice a' n c')):aN (uA W h (.slice a (n+1) c) (some (I 1)) none none) k:=by
 have hs:=m.of hs
 obtain⟨r,r2,⟨hl,hc,hr⟩,hr2,hd,hi,hi2⟩:=hs.fst
 simp only at hl hc
 have hcd:(cs.drop W).all eE=true:=List.all_eq_true.2 fun v hv=>List.all_eq_true.1 hc v (List.mem_of_mem_drop hv)
 have hld:(cs.drop W).length=n*W:=by grind
 rcases hr with⟨hz,_⟩|⟨hz,_⟩|⟨hcap,b,pre,post,ex,rfl,hle,hrr⟩
 ·simp at hz
 ·simp at hz
 ·simp only at hcap hle hrr
  subst hrr
  obtain⟨hb,hg⟩:=wW hi hi2
  have h1:iX (some (I 1)) 0 (n+1)=some 1:=by simp only[iX];grind
  have h0:iX none c c=some c:=rfl
  have h2:iX none (n+1) c=some (n+1):=rfl
  by_cases hc1:c=1
  ·have hn:n=0:=by omega
   subst hc1;subst hn
   have hex:iS h b=some ex:=by simp only[iS,hg]
   have hd0:cs.drop W=[]:=List.eq_nil_of_length_eq_zero (by omega)
   cases ex with
   |true=>
    refine⟨lF,by simp only[uA,h0,h1,Option.isNone_none,Option.isSome_none,Bool.and_false,Bool.false_eq_true,if_false,hex];simp,hk _ _ ?_⟩
    rw[hd0]
    refine Hs.join (A:=[]) hs.tail fun q hq=>⟨by simp,rfl,.inl ⟨rfl,hq,rfl,.inr ⟨0,0,rfl⟩⟩⟩
   |false=>
    refine⟨nW ⟨b,pre.length+1*W,none⟩,by simp only[uA,h0,h1,Option.isNone_none,Option.isSome_none,Bool.and_false,Bool.false_eq_true,if_false,hex,bG];simp,hk _ _ ?_⟩
    rw[hd0]
    refine E2 (r:=hU b (pre++cs++post) (some (.mt e false (pre++cs++post).length))) ⟨hs.base,hs.old,hs.wf,hs.fr,_,⟨_,r2,rfl,hr2,hd,rfl⟩,(bA.eG hd).2 ⟨hi,hi2⟩⟩ ?_
    refine⟨by simp,rfl,.inr (.inl ⟨rfl,rfl,b,pre.length+1*W,pre++cs++post,rfl,?_,rfl⟩)⟩
    grind
  ·refine⟨.slice (some ⟨b,pre.length+1*W,none⟩) n (c - 1),?_,hk _ _ ?_⟩
   ·have hm:¬c=1:=hc1
    simp only[uA,h0,h1,h2,Option.isNone_none,Option.isSome_none,Bool.and_false,Bool.false_eq_true,if_false,hm,bG]
    rw[if_pos hcap];rfl
   ·have e1:pre++cs++post=(pre++cs.take W)++cs.drop W++post:=by simp
    have e2:(pre++cs.take W).length=pre.length+1*W:=by
     grind
    refine E2 (r:=hU b (pre++cs++post) (some (.mt e ex (pre++cs++post).length))) ⟨hs.base,hs.old,hs.wf,hs.fr,_,⟨_,r2,rfl,hr2,hd,rfl⟩,(bA.eG hd).2 ⟨hi,hi2⟩⟩ ?_
    refine⟨hld,hcd,.inr (.inr ⟨by simp only;omega,b,pre++cs.take W,post,ex,by rw[e2],?_,by rw[←e1]⟩)⟩
    simp only
    rw[←e1,e2]
    have:c*W=(c - 1)*W+W:=by rw[←Nat.succ_mul];congr 1;omega
    omega
theorem Bf {b o i j n:Nat} {c l:List Value} {k:Value→Prop} (hs:Hs G h L) [m:Has (aO b o) L c L'] (hn:0<n) (hc:(c.drop (i+j)).take n=l) (hl:l.length=n) (hk:k (.agg ⟨l⟩)):aN (yS h n (pt b (o+i) j)) k:=by
 have:pt b (o+i) j=pt b o (i+j):=by simp only[pt];rw[Nat.add_assoc]
 rw[this];exact aP hs hn hc hl hk
end Go.Ab
end
section
namespace Go.Hm
open Go Go.Ab
structure bJ where
 bT:Int
 eN:Int
 aD:Int
 ways:Int
 depth:Int
 entries:Int
 aK:Int
 deriving DecidableEq
def bJ.list (C:bJ):List Int:=[C.bT,C.eN,C.aD,C.ways,C.depth,C.entries,C.aK]
def bJ.enc (C:bJ):List Value:=[I C.bT,I C.eN,I C.aD,I C.ways,I C.depth,I C.entries,I C.aK]
def Wv:List Int:=[4,16,8,4,16,8,4]
def eJ:List Value:=[I 4,I 16,I 8,I 4,I 16,I 8,I 4]
def bJ.S9 (C:bJ):Nat→Nat→Int
 |0,_=>0
 |f+1,i=>if C.list.getD i 0<1∨Wv.getD i 0<C.list.getD i 0 then 10 else C.S9 f (i+1)
def bJ.Ok (C:bJ):Prop:=(1≤C.bT∧C.bT≤4)∧(1≤C.eN∧C.eN≤16)∧(1≤C.aD∧C.aD≤8)∧(1≤C.ways∧C.ways≤4)∧(1≤C.depth∧C.depth≤16)∧(1≤C.entries∧C.entries≤8)∧(1≤C.aK∧C.aK≤4)
instance (C:bJ):Decidable C.Ok:=by unfold bJ.Ok;infer_instance
theorem bJ.c8 (C:bJ):C.S9 7 0=if C.Ok then 0 else 10:=by
 simp only[bJ.S9,bJ.list,Wv,List.getD_cons_zero,List.getD_cons_succ]
 by_cases h:C.Ok
 ·rw[if_pos h]
  unfold bJ.Ok at h
  repeat rw[if_neg (by omega)]
 ·rw[if_neg h]
  unfold bJ.Ok at h
  repeat' split
  all_goals first|rfl|(exfalso;omega)
def bJ.lines (C:bJ):Nat:=(C.eN*2).toNat
theorem bJ.qU {C:bJ} (h:C.Ok):(C.lines:Int)=C.eN*2∧2≤C.lines∧C.lines≤32:=by
 unfold bJ.Ok at h;unfold bJ.lines;omega
end Go.Hm
end
section
namespace Go.Hm
open Go Go.Ab
abbrev Ln:=Int×Int
def Jj (l:Ln):List Value:=[I l.1,I l.2]
def iT (n B i:Nat):Nat:=(n+B - 1 - i)/B
theorem Nx {B i:Nat} (hi:i<B):iT 0 B i=0:=Nat.div_eq_of_lt (by omega)
theorem Dp {n B i:Nat} (hi:i<B):iT (n+1) B i=if i=n % B then iT n B i+1 else iT n B i:=by
 have hd:=Nat.div_add_mod n B
 have hm:=Nat.mod_lt n (show 0<B by omega)
 unfold iT
 generalize n/B=q at hd
 generalize n % B=r at hd hm ⊢
 subst hd
 split
 ·rename_i h;subst h
  rw[show B*q+i+1+B - 1 - i=B*q+B by omega,show B*q+i+B - 1 - i=B*q+(B - 1) by omega]
  rw[Nat.mul_add_div (by omega),Nat.mul_add_div (by omega),Nat.div_self (by omega),Nat.div_eq_of_lt (show B - 1<B by omega)]
 ·rename_i h
  rcases Nat.lt_or_ge i r with h1|h1
  ·rw[show B*q+r+1+B - 1 - i=B*q+(B+(r - i)) by omega,show B*q+r+B - 1 - i=B*q+(B+(r - i - 1)) by omega]
   rw[Nat.mul_add_div (by omega),Nat.mul_add_div (by omega),Nat.add_div_left _ (by omega),Nat.add_div_left _ (by omega),Nat.div_eq_of_lt (show r - i<B by omega),Nat.div_eq_of_lt (show r - i - 1<B by omega)]
  ·rw[show B*q+r+1+B - 1 - i=B*q+(B+r - i) by omega,show B*q+r+B - 1 - i=B*q+(B+r - i - 1) by omega]
   rw[Nat.mul_add_div (by omega),Nat.mul_add_div (by omega),Nat.div_eq_of_lt (show B+r - i<B by omega),Nat.div_eq_of_lt (show B+r - i - 1<B by omega)]
theorem M1 {n B l:Nat} (hB:0<B) (hl:l<n):l/B<iT n B (l % B):=by
 unfold iT
 have hd:=Nat.div_add_mod l B
 have hm:=Nat.mod_lt l hB
 rw[Nat.lt_div_iff_mul_lt hB]
 rw[Nat.mul_comm]
 generalize B*(l/B)=q at hd ⊢
 omega
theorem Fw {B l k i:Nat} (hi:i<B):k*B+i=l↔k=l/B∧i=l % B:=by
 constructor
 ·intro h;subst h
  rw[Nat.mul_comm,Nat.mul_add_div (by omega),Nat.mul_add_mod,Nat.div_eq_of_lt hi,Nat.mod_eq_of_lt hi];simp
 ·rintro ⟨rfl,rfl⟩
  have:=Nat.div_add_mod l B
  rw[Nat.mul_comm];exact this
theorem bJ.bk {C:bJ} (h:C.Ok):(C.aK.toNat:Int)=C.aK∧0<C.aK.toNat∧C.aK.toNat≤4:=by unfold bJ.Ok at h;omega
def H7 (B i:Nat) (mem:Nat→Ln):Nat→List Value:=fun k=>Jj (mem (k*B+i))
theorem Lv {B i:Nat} {mem:Nat→Ln} (k:Nat):(H7 B i mem k).length=2:=rfl
theorem gR {α:Type} {f:Nat→α} {i:Nat}:aJ f i (f i)=f:=by
 funext j;unfold aJ;split
 ·rename_i h;rw[h]
 ·rfl
theorem W0 {B l:Nat} {mem:Nat→Ln} (hB:0<B):H7 B (l % B) mem (l/B)=Jj (mem l):=by
 unfold H7;rw[(Fw (Nat.mod_lt l hB)).2 ⟨rfl,rfl⟩]
theorem Md {B l:Nat} {mem:Nat→Ln} {v:Ln} (hB:0<B):aJ (H7 B (l % B) mem) (l/B) (Jj v)=H7 B (l % B) (aJ mem l v):=by
 funext k
 unfold H7 aJ
 have:=(Fw (l:=l) (k:=k) (Nat.mod_lt l hB))
 by_cases h:k=l/B
 ·rw[if_pos h,if_pos (this.2 ⟨h,rfl⟩)]
 ·rw[if_neg h,if_neg (fun e=>h (this.1 e).1)]
theorem X1 {B l i:Nat} {mem:Nat→Ln} {v:Ln} (hi:i<B) (h:i≠l % B):H7 B i (aJ mem l v)=H7 B i mem:=by
 funext k
 unfold H7 aJ
 rw[if_neg (fun e=>h ((Fw hi).1 e).2)]
theorem Ue {n B i:Nat} (hB:0<B):iT n B i≤n:=by
 unfold iT
 refine Nat.le_of_lt_succ (Nat.div_lt_of_lt_mul ?_)
 rw[Nat.mul_succ]
 have:n≤B*n:=Nat.le_mul_of_pos_left _ hB
 omega
def sL:Nat→Ln:=fun _=>(0,0)
end Go.Hm
end
section
namespace Go.Hm
open Go Go.Ab
structure aF where
 kind:Int
 core:Int
 line:Int
 world:Int
 state:Int
 d0:Int
 d1:Int
 gC:Bool
 no:Int
 deriving DecidableEq
def aF.enc (n:aF):List Value:=[I n.kind,I n.core,I n.line,I n.world,I n.state,I n.d0,I n.d1,.bool n.gC,I n.no]
def aF.zero:aF:=⟨0,0,0,0,0,0,0,false,0⟩
def cT (l:List aF):List Value:=l.flatMap aF.enc
theorem pW (l m:List aF):cT (l++m)=cT l++cT m:=by simp[cT]
@[simp] theorem zO (n:aF) (l:List aF):cT (n::l)=n.enc++cT l:=rfl
@[simp] theorem D0:cT []=[]:=rfl
structure Row where
 owner:Int
 sh:Nat→Bool
 waits:List aF
 busy:Bool
 served:aF
 world:Int
 asked:Nat→Bool
 granted:Bool
 told:Bool
 d0:Int
 d1:Int
def Row.enc (r:Row) (a:Option Addr) (c:Nat):List Value:=
 [I r.owner,.bool (r.sh 0),.bool (r.sh 1),.bool (r.sh 2),.bool (r.sh 3),.slice a r.waits.length c,.bool r.busy,I r.served.kind,I r.served.core,I r.served.line,I r.served.world,I r.served.state,I r.served.d0,I r.served.d1,.bool r.served.gC,I r.served.no,
   I r.world,.bool (r.asked 0),.bool (r.asked 1),.bool (r.asked 2),.bool (r.asked 3),.bool r.granted,.bool r.told,I r.d0,I r.d1]
def Row.K8 (r:Row):List Value:=[I r.owner,.bool (r.sh 0),.bool (r.sh 1),.bool (r.sh 2),.bool (r.sh 3)]
def Row.Ay (r:Row) (a:Option Addr) (c:Nat):List Value:=
 [.slice a r.waits.length c,.bool r.busy,I r.served.kind,I r.served.core,I r.served.line,I r.served.world,I r.served.state,I r.served.d0,I r.served.d1,.bool r.served.gC,I r.served.no,
   I r.world,.bool (r.asked 0),.bool (r.asked 1),.bool (r.asked 2),.bool (r.asked 3),.bool r.granted,.bool r.told,I r.d0,I r.d1]
theorem Row.Oi (r:Row) (a:Option Addr) (c:Nat):r.enc a c=r.K8++r.Ay a c:=rfl
def eP (f:Nat→Bool) (i:Int) (v:Bool):Nat→Bool:=fun j=>if(j:Int)=i then v else f j
def Row.free (r:Row):Row:={r with busy:=false,granted:=false,told:=false,served:=aF.zero,world:=0,d0:=0,d1:=0}
def Row.leave (r:Row) (core:Int):Row:={r with sh:=eP r.sh core false,owner:=if r.owner=core then -1 else r.owner}
def Row.holds (r:Row) (but:Int) (i:Nat):Bool:=decide ((i:Int)≠but)&&(r.sh i||decide ((i:Int)=r.owner))
theorem J1 {r:Row} {x:Int} {i:Nat} (h:(i:Int)≠x) (h1:r.sh i=true):r.holds x i=true:=by simp[Row.holds,h,h1]
theorem J9 {r:Row} {x:Int} {i:Nat} (h:(i:Int)≠x) (h1:(i:Int)=r.owner):r.holds x i=true:=by
 unfold Row.holds;rw[decide_eq_true h,decide_eq_true h1];simp
theorem Mt {r:Row} {x:Int} {i:Nat} (h:(i:Int)=x):r.holds x i=false:=by
 unfold Row.holds;rw[decide_eq_false (by simpa using h)];rfl
theorem Lu {r:Row} {x:Int} {i:Nat} (h:r.sh i=false) (h1:(i:Int)≠r.owner):r.holds x i=false:=by
 unfold Row.holds;rw[h,decide_eq_false h1];simp
def Row.pK (r:Row) (but:Int):Nat→Nat→Int
 |0,_=> -1
 |f+1,i=>if r.holds but i then i else r.pK but f (i+1)
def Row.first (r:Row) (but:Int):Int:=r.pK but 4 0
def Row.eF (r:Row) (but:Int):Nat→Nat→List Nat
 |0,_=>[]
 |f+1,i=>if r.holds but i then i::r.eF but f (i+1) else r.eF but f (i+1)
def Row.dB (r:Row) (but:Int):List Nat:=r.eF but 4 0
def Row.dT (r:Row) (l:List Nat):Row:={r with asked:=fun j=>r.asked j||l.contains j}
def cQ (line state:Int) (l:List Nat):List aF:=l.map fun(i:Nat)=>{aF.zero with kind:=11,core:=(i:Int),line:=line,state:=state}
def Row.quiet (r:Row):Bool:= !(r.asked 0||r.asked 1||r.asked 2||r.asked 3)
abbrev eU:=Row×Ln
def Row.lR (r:Row) (m:Ln):Ln:=if r.told then(r.d0,r.d1) else m
def Row.gG (r:Row) (line st:Int) (d:Ln):aF:=⟨8,r.served.core,line,r.world,st,d.1,d.2,false,0⟩
def Row.cI (r:Row) (line:Int) (d:Ln):Row×List aF:=
 if r.served.kind=2 then({r with owner:=r.served.core,sh:=fun _=>false,granted:=true},[r.gG line 4 d])
 else if r.first r.served.core= -1 then({r with owner:=r.served.core,sh:=eP r.sh r.served.core false,granted:=true},[r.gG line 2 d])
 else({r with sh:=eP r.sh r.served.core true,granted:=true},[r.gG line 1 d])
def valid (s:Int):Bool:=decide (0≤s∧s<5)&&decide (s≠0)
def Row.cO (r:Row) (n:aF):Row:={r with asked:=eP r.asked n.core false}
def Row.tU (r:Row) (n:aF):Row:={r with owner:= -1,sh:=eP r.sh n.core (valid n.state)}
def Row.gT (r:Row) (n:aF):Row:={r with told:=true,d0:=n.d0,d1:=n.d1}
def Row.heard (r:Row) (n:aF):Row:=
 if r.served.kind≠1 then(r.cO n).leave n.core
 else if n.state≠3 then(if n.gC then((r.cO n).tU n).gT n else(r.cO n).tU n)
 else if n.gC then(r.cO n).gT n else r.cO n
def Row.nI (r:Row) (m:Ln) (n:aF):Ln:=if r.served.kind≠1∧n.gC=true then(n.d0,n.d1) else m
def Row.rest (r:Row) (line:Int) (m:Ln):Row×List aF:=
 if r.quiet then(if r.served.kind=0 then(r.free,[]) else r.cI line (r.lR m)) else(r,[])
def eU.fX (x:eU) (line:Int) (n:aF):eU×List aF:=
 let m:=x.1.nI x.2 n
 let g:=(x.1.heard n).rest line m
 ((g.1,m),g.2)
def Row.serve (r:Row) (n:aF) (world:Int):Row:={r with busy:=true,served:=n,world:=world}
def Row.getM (r:Row) (line:Int) (m:Ln):Row×List aF:=
 if r.first r.served.core≠ -1 then(r.dT (r.dB r.served.core),cQ line 0 (r.dB r.served.core)) else r.cI line (r.lR m)
def Row.Jb (r:Row) (line:Int) (m:Ln):Row×List aF:=
 if r.owner≠ -1 then(r.dT [r.owner.toNat],cQ line 1 [r.owner.toNat]) else r.cI line (r.lR m)
def Row.jX (r:Row):Row:=if r.owner=r.served.core then {r with owner:= -1} else r
def Row.get (r:Row) (line:Int) (m:Ln) (n:aF) (world:Int):Row×List aF:=
 let r:=r.serve n world
 if n.kind=2 then r.getM line m else r.jX.Jb line m
def Row.wait (r:Row) (n:aF):Row:={r with waits:=r.waits++[n]}
def Row.next (r:Row) (w:List aF):Row:={r with waits:=w}
def Row.F1 (r:Row) (n:aF):Row:={r with busy:=true,served:=n}
def eU.take (x:eU) (line:Int) (n:aF):eU×List aF×Int:=
 if n.kind=4 then(if x.1.granted=false∨x.1.served.core≠n.core then(x,[],16) else((x.1.free,x.2),[],0))
 else if n.kind=5 then(if x.1.asked n.core.toNat=false then(x,[],16) else let g:=eU.fX x line n;(g.1,g.2,0))
 else((x.1.wait n,x.2),[],0)
def iW (line:Int):aF:={aF.zero with line:=line}
def eU.vJ (x:eU) (line:Int):eU:=(x.1.wait (iW line),x.2)
def iL (kind core line:Int):aF:={aF.zero with kind:=kind,core:=core,line:=line}
def Row.begun (r:Row) (line:Int) (m:Ln) (n:aF) (j:Int→Int×Bool):eU×List aF:=
 if n.kind=3 then((r.leave n.core,if r.owner=n.core∧n.gC=true then(n.d0,n.d1) else m),[iL 10 n.core line])
 else if n.kind=1∨n.kind=2 then(if(j n.world).2=true then let g:=r.get line m n (j n.world).1;((g.1,m),g.2) else((r,m),[iL 9 n.core line]))
 else if r.first (-1)= -1 then((r,m),[])
 else(((r.F1 n).dT (r.dB (-1)),m),cQ line 0 (r.dB (-1)))
def eU.begin (x:eU) (line:Int) (j:Int→Int×Bool):eU×List aF×Int:=
 if x.1.busy=true then(x,[],16)
 else match x.1.waits with
  |[]=>(x,[],12)
  |n::w=>let g:=Row.begun (x.1.next w) line x.2 n j;(g.1,g.2,0)
abbrev iQ:=Nat→eU
def qK:Row:=⟨-1,fun _=>false,[],false,aF.zero,0,fun _=>false,false,false,0,0⟩
theorem xU {r:Row} {x:Int}:∀(f i:Nat),i+f=4→(∀c∈r.eF x f i,c<4)∧(r.eF x f i).length≤f:=by
 intro f
 induction f with
 |zero=>intro i hi;simp[Row.eF]
 |succ f ih=>
  intro i hi
  obtain⟨h1,h2⟩:=ih (i+1) (by omega)
  unfold Row.eF
  split
  ·refine⟨fun c hc=>?_,by simp;omega⟩
   rcases List.mem_cons.1 hc with rfl|hc
   ·omega
   ·exact h1 c hc
  ·exact⟨h1,by omega⟩
theorem Kq {r:Row} {x:Int}:∀c∈r.dB x,c<4:=(xU 4 0 rfl).1
theorem qT {r:Row} {x:Int}:(r.dB x).length≤4:=(xU 4 0 rfl).2
def bJ.has (C:bJ) (l:Int):Prop:=0≤l∧l<C.lines
instance (C:bJ) (l:Int):Decidable (C.has l):=by unfold bJ.has;infer_instance
def fK (k:Int):Prop:=k=1∨k=2∨k=3∨k=4∨k=5
instance (k:Int):Decidable (fK k):=by unfold fK;infer_instance
def iQ.at (H:iQ) (l:Int):eU:=H l.toNat
def bY (C:bJ) (H:iQ) (n:aF):iQ×List aF×Int:=
 if ¬fK n.kind then(H,[],15)
 else if(0≤n.core∧n.core<C.bT)∧C.has n.line then(aJ H n.line.toNat (eU.take (H n.line.toNat) n.line n).1,(eU.take (H n.line.toNat) n.line n).2)
 else(H,[],10)
def dI (C:bJ) (H:iQ) (l:Int):iQ×Int:=if C.has l then(aJ H l.toNat (eU.vJ (H l.toNat) l),0) else(H,10)
def dL (C:bJ) (H:iQ) (l:Int) (j:Int→Int×Bool):iQ×List aF×Int:=
 if C.has l then(aJ H l.toNat (eU.begin (H l.toNat) l j).1,(eU.begin (H l.toNat) l j).2) else(H,[],10)
structure Row.Inv (r:Row):Prop where
 core:0≤r.served.core∧r.served.core<4
 owner: -1≤r.owner∧r.owner<4
 waits:∀n∈r.waits,0≤n.core∧n.core<4
def Jy (C:bJ) (H:iQ) (N:Nat):Prop:=∀l,l<C.lines→(H l).1.Inv∧(H l).1.waits.length≤N
def zA (C:bJ) (H:iQ) (l:Int):Bool:=decide (C.has l)&&(H l.toNat).1.busy
def Cc (C:bJ) (H:iQ) (l:Int):Int:=if C.has l then((H l.toNat).1.waits.length:Int) else 0
def mM (n:Nat):iQ:=fun i=>if i<n then(qK,(0,0)) else({qK with owner:=0},(0,0))
theorem Od {n:Nat}:aJ (mM n) n (qK,(0,0))=mM (n+1):=by
 funext i
 unfold aJ mM
 by_cases h:i=n
 ·rw[if_pos h,if_pos (by omega)]
 ·rw[if_neg h]
  by_cases h2:i<n
  ·rw[if_pos h2,if_pos (by omega)]
  ·rw[if_neg h2,if_neg (by omega)]
end Go.Hm
end
section
namespace Go.Ct
open Go Go.Ab Go.Hm
def mT (s:Int):Bool:=decide (1≤s∧s≤4)
def iU (s:Int):Bool:=decide (s=2∨s=4)
def fQ (s:Int):Bool:=decide (s=3∨s=4)
def jG (s:Int):Bool:=decide (2≤s∧s≤4)
def Oj (s:Int):Bool:=decide (0≤s∧s<5)
def zG (s:Int):Int:=if s=2 then 1 else if s=4 then 3 else s
def iE (s:Int) (w:Bool):Bool:=if w then iU s else mT s
structure jW where
 st:Int
 w:Int
 d:Ln
 deriving DecidableEq
def jW.enc (x:jW):List Value:=[I x.st,I x.w,I x.d.1,I x.d.2]
def jW.zero:jW:=⟨0,0,(0,0)⟩
abbrev Th:=Int×jW
def Q0 (t:Th):List Value:=I t.1::t.2.enc
def cZ (l:List Th):List Value:=l.flatMap Q0
theorem rX (l:List Th):(cZ l).length=l.length*5:=by
 induction l with
 |nil=>rfl
 |cons a t ih=>simp only[cZ,List.flatMap_cons,List.length_append] at ih ⊢;rw[ih];simp[Q0,jW.enc];omega
theorem oT (l:List Th):(cZ l).all eE=true:=by
 induction l with
 |nil=>rfl
 |cons a t ih=>simp only[cZ,List.flatMap_cons,List.all_append,Bool.and_eq_true] at ih ⊢;exact⟨rfl,ih⟩
theorem No (l m:List Th):cZ (l++m)=cZ l++cZ m:=by simp[cZ]
theorem La (l:List Th) (i:Nat):(cZ l).take (i*5)=cZ (l.take i):=by
 induction l generalizing i with
 |nil=>simp[cZ]
 |cons a t ih=>
  cases i with
  |zero=>simp[cZ]
  |succ i=>
   have:(i+1)*5=5+i*5:=by omega
   simp only[cZ,List.flatMap_cons,List.take_succ_cons] at ih ⊢
   rw[this,List.take_append,List.take_of_length_le (by simp[Q0,jW.enc])]
   have e5:(Q0 a).length=5:=rfl
   rw[e5,show 5+i*5 - 5=i*5 by omega,ih]
theorem B5 (l:List Th) (i:Nat):(cZ l).drop (i*5)=cZ (l.drop i):=by
 induction l generalizing i with
 |nil=>simp[cZ]
 |cons a t ih=>
  cases i with
  |zero=>simp[cZ]
  |succ i=>
   have:(i+1)*5=5+i*5:=by omega
   simp only[cZ,List.flatMap_cons,List.drop_succ_cons] at ih ⊢
   have e5:(Q0 a).length=5:=rfl
   rw[this,List.drop_append,List.drop_of_length_le (by rw[e5];omega),e5,show 5+i*5 - 5=i*5 by omega,ih,List.nil_append]
theorem G0 {l:List Th} {i:Nat} {t:Th} (h:l[i]?=some t):((cZ l).drop (i*5)).take 5=Q0 t:=by
 rw[B5]
 have hi:=(List.getElem?_eq_some_iff.1 h)
 rw[List.drop_eq_getElem_cons hi.1,hi.2]
 simp only[cZ,List.flatMap_cons]
 exact List.take_left' rfl
def ix (no:Int):List Th→Option Nat
 |[]=>none
 |t::l=>if t.1=no then some 0 else(ix no l).map (·+1)
def Pf (no:Int) (l:List Th):Int:=match ix no l with|some i=>i|none=> -1
def get (no:Int) (l:List Th):Option jW:=(l.find? fun t=>decide (t.1=no)).map (·.2)
def rem (no:Int):List Th→List Th
 |[]=>[]
 |t::l=>if t.1=no then l else t::rem no l
theorem oZ {no:Int} {l:List Th} {i:Nat} (h:ix no l=some i):∃x,l[i]?=some (no,x)∧get no l=some x∧rem no l=l.take i++l.drop (i+1)∧i<l.length:=by
 induction l generalizing i with
 |nil=>cases h
 |cons t l ih=>
  simp only[ix] at h
  by_cases hc:t.1=no
  ·rw[if_pos hc] at h
   cases h
   exact⟨t.2,by simp[←hc],by simp[get,hc],by simp[rem,hc],by simp⟩
  ·rw[if_neg hc] at h
   cases hx:ix no l with
   |none=>rw[hx] at h;cases h
   |some j=>
    rw[hx] at h
    cases h
    obtain⟨x,h1,h2,h3,h4⟩:=ih hx
    refine⟨x,by simpa using h1,?_,?_,by simp;omega⟩
    ·simp only[get,List.find?_cons,decide_eq_false hc] at h2 ⊢;exact h2
    ·simp[rem,hc,h3]
theorem sE {no:Int} {l:List Th} (h:ix no l=none):get no l=none∧rem no l=l:=by
 induction l with
 |nil=>exact⟨rfl,rfl⟩
 |cons t l ih=>
  simp only[ix] at h
  by_cases hc:t.1=no
  ·rw[if_pos hc] at h;cases h
  ·rw[if_neg hc] at h
   obtain⟨h1,h2⟩:=ih (by simpa using h)
   refine⟨?_,by simp[rem,hc,h2]⟩
   simp only[get,List.find?_cons,decide_eq_false hc] at h1 ⊢;exact h1
theorem zF {no:Int} {l:List Th}:(rem no l).length=if(get no l).isSome then l.length - 1 else l.length:=by
 cases h:ix no l with
 |none=>obtain⟨h1,h2⟩:=sE h;rw[h1,h2];rfl
 |some i=>
  obtain⟨x,h1,h2,h3,h4⟩:=oZ h
  rw[h2,h3];simp;omega
structure eQ where
 S:Nat→List Th
 al:Int
 aw:Bool
 sB:Bool
 gl:Int
 gc:jW
 lA:Bool
def eQ.new:eQ:=⟨fun _=>[],0,false,false,0,jW.zero,false⟩
def eQ.tail (c:eQ):List Value:=[I c.al,.bool c.aw,.bool c.sB,I c.gl]++c.gc.enc++[.bool c.lA]
variable (n:Nat) (ways:Nat) (lines:Int) (core:Int)
def aI (l:Int):Nat:=(l % (n:Int)).toNat
def eQ.Yv (c:eQ) (l:Int):Option jW:=if l<0 then none else get l (c.S (aI n l))
def eQ.may (c:eQ) (l ow:Int) (w:Bool):Bool:=match c.Yv n l with
 |some x=>decide (x.w=ow)&&iE x.st w
 |none=>false
def eQ.set (c:eQ) (l:Int) (s:List Th):eQ:={c with S:=aJ c.S (aI n l) s}
def eQ.drop (c:eQ) (l:Int):eQ:=c.set n l (rem l (c.S (aI n l)))
def eQ.put (c:eQ) (l:Int) (x:jW):eQ:=c.set n l (if(rem l (c.S (aI n l))).length≥ways then rem l (c.S (aI n l)) else rem l (c.S (aI n l))++[(l,x)])
end Go.Ct
end
section
namespace Go.Ct
open Go Go.Ab Go.Hm
variable {n ways:Nat} {S:Nat→List Th} {s:eQ} {C:bJ} {core:Int}
def dN (x to:Int):Int:=if to=1 then zG x else 0
def aG (n:Nat) (S:Nat→List Th) (no:Int):jW×Int:=if no<0 then(jW.zero,10) else match get no (S (aI n no)) with|some x=>(x,0)|none=>(jW.zero,12)
def pY (n ways:Nat) (S:Nat→List Th) (no:Int):Option Th:=match get no (S (aI n no)) with
 |some _=>none
 |none=>if(S (aI n no)).length<ways then none else(S (aI n no))[0]?
def dM (n:Nat) (S:Nat→List Th) (no:Int):Nat→List Th:=if no<0 then S else aJ S (aI n no) (rem no (S (aI n no)))
def gA (n ways:Nat) (S:Nat→List Th) (no:Int) (x:jW):(Nat→List Th)×Int:=
 if(rem no (S (aI n no))).length≥ways then(aJ S (aI n no) (rem no (S (aI n no))),11) else(aJ S (aI n no) (rem no (S (aI n no))++[(no,x)]),0)
theorem fu {no:Int} {l:List Th} (h:l.length≤4):(rem no l).length≤4:=by rw[zF];split<;>omega
theorem S1 {n:Nat} {S:Nat→List Th} {no:Int} (hb:∀i,(S i).length≤4):∀i,(dM n S no i).length≤4:=by
 intro i
 unfold dM
 split
 ·exact hb i
 ·unfold aJ
  split
  ·exact fu (hb _)
  ·exact hb i
def oM (n ways:Nat) (S:Nat→List Th) (no:Int):Nat→List Th:=if(aG n S no).2=0 then(gA n ways (dM n S no) no (aG n S no).1).1 else dM n S no
def Qi (n ways:Nat) (S:Nat→List Th) (no:Int):Int:=if(aG n S no).2=0 then(gA n ways (dM n S no) no (aG n S no).1).2 else(aG n S no).2
def lZ (C:bJ) (l:Int):Bool:=decide (0≤l∧l<C.lines)
def yK (n:Nat) (S:Nat→List Th) (l ow:Int) (w:Bool):Bool:=decide ((aG n S l).2=0)&&decide ((aG n S l).1.w=ow)&&iE (aG n S l).1.st w
def eZ (C:bJ) (S:Nat→List Th) (l at' ow:Int) (w:Bool):Int:=
 if lZ C l=false then 10 else if at'<0 then 10 else if at'≥2 then 10 else if yK C.aD.toNat S l ow w=false then 16 else 0
def jO (C:bJ) (s:eQ) (l at' ow:Int):eQ:=if eZ C s.S l at' ow false=0 then {s with S:=oM C.aD.toNat C.ways.toNat s.S l} else s
def Hy (d:Ln) (at' v:Int):Ln:=if at'=0 then(v,d.2) else(d.1,v)
def jI (n:Nat) (S:Nat→List Th) (l at' v:Int):jW:=⟨4,(aG n S l).1.w,Hy (aG n S l).1.d at' v⟩
def gF (C:bJ) (s:eQ) (l at' ow v:Int):eQ:=if eZ C s.S l at' ow true=0 then {s with S:=(gA C.aD.toNat C.ways.toNat s.S l (jI C.aD.toNat s.S l at' v)).1} else s
def Bd (s:eQ):Prop:=∀i,(s.S i).length≤4
theorem gO (hC:C.Ok):0<C.aD.toNat∧C.aD.toNat≤8∧0<C.ways.toNat∧C.ways.toNat≤4:=by unfold bJ.Ok at hC;omega
theorem jT {S:Nat→List Th} {l at' ow:Int} {w:Bool} (h:eZ C S l at' ow w=0):(0≤l∧l<C.lines)∧(at'=0∨at'=1)∧(aG C.aD.toNat S l).2=0∧iE (aG C.aD.toNat S l).1.st w=true:=by
 unfold eZ at h
 split at h
 ·omega
 ·split at h
  ·omega
  ·split at h
   ·omega
   ·split at h
    ·omega
    ·rename_i h1 h2 h3 h4
     have h1:lZ C l=true:=by simpa using h1
     have h4:yK C.aD.toNat S l ow w=true:=by simpa using h4
     unfold lZ at h1
     unfold yK at h4
     grind
def iR (core:Int) (s:eQ) (l w:Int) (wr:Bool) (ns:List aF):eQ×List aF×Int:=
 ({s with al:=l,aw:=wr,sB:=true},ns++[⟨if wr then 2 else 1,core,l,w,0,0,0,false,0⟩],0)
def sV (C:bJ) (core:Int) (s:eQ) (l w:Int) (wr:Bool):eQ×List aF×Int:=
 match pY C.aD.toNat C.ways.toNat s.S l with
 |none=>iR core s l w wr []
 |some v=>
  if s.lA then(s,[],11) else
  if(aG C.aD.toNat s.S v.1).2≠0 then({s with S:=dM C.aD.toNat s.S v.1},[],(aG C.aD.toNat s.S v.1).2) else
  iR core {s with S:=dM C.aD.toNat s.S v.1,gl:=v.1,gc:=(aG C.aD.toNat s.S v.1).1,lA:=true} l w wr
   [⟨3,core,v.1,(aG C.aD.toNat s.S v.1).1.w,0,(aG C.aD.toNat s.S v.1).1.d.1,(aG C.aD.toNat s.S v.1).1.d.2,fQ (aG C.aD.toNat s.S v.1).1.st,0⟩]
def want (C:bJ) (core:Int) (s:eQ) (l w:Int) (wr:Bool):eQ×List aF×Int:=
 if lZ C l=false then(s,[],10) else if s.sB then(s,[],17) else if s.lA=true∧s.gl=l then(s,[],16) else
 if(aG C.aD.toNat s.S l).2=0∧iE (aG C.aD.toNat s.S l).1.st wr=true then(s,[],13) else sV C core s l w wr
abbrev Tk:=eQ×List aF×Int
def fC (C:bJ) (s:eQ) (n:aF):jW:=⟨n.state,n.world,if(aG C.aD.toNat s.S n.line).2=0 then(aG C.aD.toNat s.S n.line).1.d else(n.d0,n.d1)⟩
def lX (C:bJ) (core:Int) (s:eQ) (n:aF):Tk:=
 if s.sB=false then(s,[],16) else if s.al≠n.line then(s,[],16) else
 if(gA C.aD.toNat C.ways.toNat s.S n.line (fC C s n)).2≠0 then({s with S:=(gA C.aD.toNat C.ways.toNat s.S n.line (fC C s n)).1},[],(gA C.aD.toNat C.ways.toNat s.S n.line (fC C s n)).2) else
 ({s with S:=(gA C.aD.toNat C.ways.toNat s.S n.line (fC C s n)).1,al:=0,aw:=false,sB:=false},[⟨4,core,n.line,0,0,0,0,false,0⟩],0)
def sS (s:eQ) (n:aF):Tk:=if s.sB=false then(s,[],16) else if s.al≠n.line then(s,[],16) else({s with al:=0,aw:=false,sB:=false},[],0)
def kK (s:eQ) (n:aF):Tk:=if s.lA=false then(s,[],12) else if s.gl≠n.line then(s,[],12) else({s with gl:=0,gc:=jW.zero,lA:=false},[],0)
def dQ (core:Int) (n:aF) (x:jW):aF:=if jG x.st then⟨5,core,n.line,0,dN x.st n.state,x.d.1,x.d.2,fQ x.st,0⟩ else⟨5,core,n.line,0,dN x.st n.state,0,0,false,0⟩
def iH (C:bJ) (core:Int) (s:eQ) (n:aF):Tk:=
 if n.state≠1∧n.state≠0 then(s,[],10) else
 if(aG C.aD.toNat s.S n.line).2=0 then
  ({s with S:=if dN (aG C.aD.toNat s.S n.line).1.st n.state=0 then dM C.aD.toNat s.S n.line else(gA C.aD.toNat C.ways.toNat s.S n.line {(aG C.aD.toNat s.S n.line).1 with st:=dN (aG C.aD.toNat s.S n.line).1.st n.state}).1},[dQ core n (aG C.aD.toNat s.S n.line).1],0)
 else if s.lA=false then(s,[⟨5,core,n.line,0,0,0,0,false,0⟩],0) else if s.gl≠n.line then(s,[⟨5,core,n.line,0,0,0,0,false,0⟩],0) else
  ({s with gc:={s.gc with st:=dN s.gc.st n.state}},[dQ core n s.gc],0)
def dO (C:bJ) (core:Int) (s:eQ) (n:aF):Tk:=
 if n.kind=8 then(if lZ C n.line=false then(s,[],10) else lX C core s n)
 else if n.kind=9 then(if lZ C n.line=false then(s,[],10) else sS s n)
 else if n.kind=10 then(if lZ C n.line=false then(s,[],10) else kK s n)
 else if n.kind=11 then(if lZ C n.line=false then(s,[],10) else iH C core s n)
 else(s,[],15)
def Cr (core:Int) (n:aF):aF:=⟨5,core,n.line,0,0,0,0,false,0⟩
structure cr (n:Nat) (s:eQ):Prop where
 Yv:∀l,(aG n s.S l).2=0→0≤(aG n s.S l).1.st∧(aG n s.S l).1.st<5
 back:s.lA=true→0≤s.gc.st∧s.gc.st<5
theorem mS {no:Int} {l:List Th}:(rem no l).Sublist l:=by
 induction l with
 |nil=>exact List.Sublist.refl _
 |cons t l ih=>
  simp only[rem]
  grind
theorem yY {no:Int} {l:List Th} (h:(l.map (·.1)).Nodup):no∉(rem no l).map (·.1):=by
 induction l with
 |nil=>simp[rem]
 |cons t l ih=>
  simp only[List.map_cons,List.nodup_cons] at h
  simp only[rem]
  grind
theorem get_mem {no:Int} {l:List Th} {x:jW} (h:get no l=some x):(no,x)∈l:=by
 unfold Go.Ct.get at h
 cases hf:l.find? (fun t=>decide (t.1=no)) with
 |none=>rw[hf] at h;cases h
 |some t=>
  grind
theorem My {no:Int} {l:List Th} (h:no∉l.map (·.1)):get no l=none:=by
 unfold Go.Ct.get
 grind
theorem Rt {no:Int} {l:List Th} {x:jW} (h:no∉l.map (·.1)):get no (l++[(no,x)])=some x:=by
 have h1:=My h
 unfold Go.Ct.get at h1 ⊢
 grind
structure jC (ways:Nat) (l:List Th):Prop where
 len:l.length≤ways
 st:∀t∈l,1≤t.2.st∧t.2.st≤4
 nd:(l.map (·.1)).Nodup
theorem jC.rem {ways:Nat} {l:List Th} {no:Int} (h:jC ways l):jC ways (Go.Ct.rem no l):=
 ⟨Nat.le_trans mS.length_le h.len,fun t ht=>h.st t (mS.mem ht),(mS.map _).nodup h.nd⟩
theorem jC.app {ways:Nat} {l:List Th} {no:Int} {x:jW} (h:jC ways l) (hl:l.length<ways) (hx:1≤x.st∧x.st≤4) (hn:no∉l.map (·.1)):jC ways (l++[(no,x)]):=
 ⟨by simp;omega,fun t ht=>by
  rcases List.mem_append.1 ht with h1|h1
  ·exact h.st t h1
  grind,by
  rw[List.map_append,List.nodup_append]
  refine⟨h.nd,by simp,?_⟩
  grind⟩
def Pl (n:Nat) (S:Nat→List Th):Prop:=∀i t,t∈S i→0≤t.1∧aI n t.1=i
theorem yT {n:Nat} {S:Nat→List Th} {no:Int} (h:Pl n S):Pl n (dM n S no):=by
 intro i t ht
 unfold dM at ht
 split at ht
 ·exact h i t ht
 ·unfold aJ at ht
  split at ht
  ·rename_i e;subst e;exact h _ t (mS.mem ht)
  ·exact h i t ht
theorem Ce {n ways:Nat} {S:Nat→List Th} {no:Int} {x:jW} (h0:0≤no) (h:Pl n S):Pl n (gA n ways S no x).1:=by
 intro i t ht
 unfold gA at ht
 split at ht
 ·unfold aJ at ht
  dsimp only at ht
  split at ht
  ·rename_i e;subst e;exact h _ t (mS.mem ht)
  ·exact h i t ht
 ·unfold aJ at ht
  dsimp only at ht
  split at ht
  ·rename_i e;subst e
   rcases List.mem_append.1 ht with h1|h1
   ·exact h _ t (mS.mem h1)
   grind
  ·exact h i t ht
structure Good (n ways:Nat) (s:eQ):Prop where
 aD:∀i,jC ways (s.S i)
 back:s.lA=true→0≤s.gc.st∧s.gc.st≤4
 pl:Pl n s.S
theorem oO {no:Int} (h:∀i,jC ways (S i)):∀i,jC ways (dM n S no i):=by
 intro i
 unfold dM
 split
 ·exact h i
 ·unfold aJ
  split
  ·exact(h _).rem
  ·exact h i
theorem qN {no:Int} {x:jW} (hx:1≤x.st∧x.st≤4) (h:∀i,jC ways (S i)):∀i,jC ways ((gA n ways S no x).1 i):=by
 intro i
 unfold gA
 split
 ·unfold aJ
  dsimp only
  split
  ·exact(h _).rem
  ·exact h i
 ·rename_i hl
  unfold aJ
  dsimp only
  split
  ·exact((h (aI n no)).rem).app (by omega) hx (yY (h _).nd)
  ·exact h i
theorem lK {l:Int} (h:∀i,jC ways (S i)) (hp:(aG n S l).2=0):1≤(aG n S l).1.st∧(aG n S l).1.st≤4:=by
 unfold aG at hp ⊢
 split at hp
 ·cases hp
 ·rename_i h0
  rw[if_neg h0]
  cases hg:get l (S (aI n l)) with
  |none=>grind
  |some x=>exact(h _).st _ (get_mem hg)
theorem Sc {no:Int} (h:∀i,jC ways (S i)):∀i,jC ways (oM n ways S no i):=by
 intro i
 unfold oM
 split
 ·rename_i hp
  exact qN (lK h hp) (oO h) i
 ·exact oO h i
theorem P3 {no:Int} (hp:(aG n S no).2=0):0≤no:=by
 unfold aG at hp
 grind
theorem Ws {no:Int} (h:Pl n S):Pl n (oM n ways S no):=by
 unfold oM
 split
 ·rename_i hp
  exact Ce (P3 hp) (yT h)
 ·exact yT h
theorem Good.bd (h:Good n ways s) (hw:ways≤4):Bd s:=fun i=>Nat.le_trans (h.aD i).len hw
theorem Good.Jm (h:Good n ways s):cr n s:=⟨fun l hp=>by have:=lK (n:=n) h.aD hp;omega,fun hg=>by have:=h.back hg;omega⟩
theorem Q8:Good n ways eQ.new:=⟨fun _=>⟨Nat.zero_le _,(fun _ h=>by cases h),List.nodup_nil⟩,(fun h=>by cases h),fun _ _ h=>by cases h⟩
abbrev iF (C:bJ) (s:eQ):Prop:=Good C.aD.toNat C.ways.toNat s
theorem qX {x to:Int} (hx:0≤x∧x≤4):0≤dN x to∧dN x to≤4:=by
 unfold dN zG
 grind
theorem O3 {nt:aF} (hv:nt.kind=8→1≤nt.state∧nt.state≤4) (h:iF C s):iF C (dO C core s nt).1:=by
 unfold dO
 split
 ·rename_i h8
  split
  ·exact h
  ·rename_i hh
   have h0:0≤nt.line:=(of_decide_eq_true (by simpa using hh:lZ C nt.line=true)).1
   unfold lX
   split
   ·exact h
   ·split
    ·exact h
    ·split
     ·exact⟨qN (hv h8) h.aD,h.back,Ce h0 h.pl⟩
     ·exact⟨qN (hv h8) h.aD,h.back,Ce h0 h.pl⟩
 ·split
  ·split
   ·exact h
   ·unfold sS
    split
    ·exact h
    ·split
     ·exact h
     ·exact⟨h.aD,h.back,h.pl⟩
  ·split
   ·split
    ·exact h
    ·unfold kK
     split
     ·exact h
     ·split
      ·exact h
      ·exact⟨h.aD,(fun e=>by cases e),h.pl⟩
   ·split
    ·split
     ·exact h
     ·unfold iH
      split
      ·exact h
      ·split
       ·rename_i hp
        have h0:=P3 hp
        have hst:=lK (n:=C.aD.toNat) h.aD hp
        refine⟨?_,h.back,?_⟩
        rotate_left
        ·dsimp only
         split
         ·exact yT h.pl
         ·exact Ce h0 h.pl
        dsimp only
        split
        ·exact oO h.aD
        ·rename_i hne
         exact qN (by have:=qX (x:=(aG C.aD.toNat s.S nt.line).1.st) (to:=nt.state) (by omega);dsimp only;omega) h.aD
       ·split
        ·exact h
        ·split
         ·exact h
         ·rename_i hg _
          exact⟨h.aD,(fun _=>qX (h.back (by simpa using hg))),h.pl⟩
    ·exact h
theorem Nj {l a ow:Int} (h:iF C s):iF C (jO C s l a ow):=by
 unfold jO
 split
 ·exact⟨Sc h.aD,h.back,Ws h.pl⟩
 ·exact h
theorem Kz {l a ow v:Int} (h:iF C s):iF C (gF C s l a ow v):=by
 unfold gF
 split
 ·rename_i hr
  exact⟨qN (by simp[jI]) h.aD,h.back,Ce (jT hr).1.1 h.pl⟩
 ·exact h
theorem Rc {l w:Int} {wr:Bool}:(want C core s l w wr).2.1.length≤2:=by
 unfold want
 split
 ·simp
 ·split
  ·simp
  ·split
   ·simp
   ·split
    ·simp
    ·unfold sV
     split
     ·simp[iR]
     ·split
      ·simp
      ·split
       ·simp
       ·simp[iR]
theorem Rz {nt:aF}:(dO C core s nt).2.1.length≤1:=by
 unfold dO lX sS kK iH
 grind
end Go.Ct
end
section
namespace Go.Nt
open Go Go.Ab Go.Hm
def So:List (List UInt8×Int×List Int):=[
 ([],0,[0,0,0,0,0,0,0]),
  ([103,101,116,115],0,[1,2,3,0,0,0,0]),
  ([103,101,116,109],0,[1,2,3,0,0,0,0]),
  ([112,117,116],0,[1,2,4,8,9,10,0]),
  ([100,111,110,101],1,[1,2,0,0,0,0,0]),
  ([114,101,112,108,121],1,[1,2,5,8,9,10,11]),
  ([119,97,108,107],0,[1,12,0,0,0,0,0]),
  ([100,114,111,112,112,101,100],1,[1,13,0,0,0,0,0]),
  ([103,114,97,110,116],2,[1,2,4,6,8,9,0]),
  ([110,97,99,107],2,[1,2,11,0,0,0,0]),
  ([112,117,116,97,99,107],2,[1,2,0,0,0,0,0]),
  ([112,114,111,98,101],3,[1,2,7,0,0,0,0]),
  ([119,97,108,107,101,100],2,[1,8,9,12,0,0,0]),
  ([100,114,111,112],3,[1,13,0,0,0,0,0])]
def fp (k:Nat):List Int:=(So.getD k ([],0,[])).2.2
def dh (k:Nat):Int:=(So.getD k ([],0,[])).2.1
def ws (arr:List Int):Nat→Nat→List Int
 |0,_=>[]
 |f+1,i=>if arr.getD i 0=0 then [] else arr.getD i 0::ws arr f (i+1)
def Zf (k:Nat):List Int:=ws (fp k) 7 0
def e7 (k:Int):Prop:=1≤k∧k<14
instance (k:Int):Decidable (e7 k):=by unfold e7;infer_instance
def cu (n:aF) (f:Int):Int:=
 if f=1 then n.core else if f=2 then n.line else if f=3∨f=4 then n.world else if f=5∨f=6∨f=7 then n.state else if f=8 then n.d0 else if f=9 then n.d1
 else if f=10 then(if n.gC=true then 1 else 0) else n.no
def ga (n:aF) (f v:Int):aF:=
 if f=1 then {n with core:=v} else if f=2 then {n with line:=v} else if f=3∨f=4 then {n with world:=v} else if f=5∨f=6∨f=7 then {n with state:=v} else if f=8 then {n with d0:=v} else if f=9 then {n with d1:=v}
 else if f=10 then {n with gC:=decide (v≠0)} else {n with no:=v}
def W4 (C:bJ) (f v:Int):Prop:=
 if f=1 then 0≤v∧v<C.bT else if f=2 then 0≤v∧v<C.lines else if f=3 then 0≤v∧v≤3 else if f=4 then 0≤v∧v≤4 else if f=5 then 0≤v∧v≤4
 else if f=6 then v=1∨v=2∨v=4 else if f=7 then v=0∨v=1 else if f=10∨f=11 then v=0∨v=1 else if f=12 then 0≤v∧v<20 else if f=13 then 0≤v∧v<C.eN else True
instance (C:bJ) (f v:Int):Decidable (W4 C f v):=by unfold W4;infer_instance
def S4 (C:bJ) (n:aF):List Int→aF→Bool×aF
 |[],a=>(true,a)
 |f::fs,a=>if W4 C f (cu n f) then S4 C n fs (ga a f (cu n f)) else(false,a)
def V6 (k:Int):aF:={aF.zero with kind:=k}
def ir (C:bJ) (n:aF):Int:=
 if e7 n.kind then(if C.Ok then(if(S4 C n (Zf n.kind.toNat) (V6 n.kind)).1=true∧(S4 C n (Zf n.kind.toNat) (V6 n.kind)).2=n then 0 else 10) else 10) else 15
end Go.Nt
end
section
namespace Go.Ct
open Go Go.Ab
def Sr (s:Array UInt8) (a b c d:Bool) (x y z:Int):List Value:=[.string ⟨s⟩,.bool a,.bool b,.bool c,.bool d,I x,I y,I z]
def cK:List Value:=Sr #[73] false false false false 0 0 0++Sr #[83] true false false false 0 1 0++Sr #[69] true true false true 4 1 0++Sr #[79] true false true true 0 3 0++Sr #[77] true true true true 4 3 0
end Go.Ct
end
