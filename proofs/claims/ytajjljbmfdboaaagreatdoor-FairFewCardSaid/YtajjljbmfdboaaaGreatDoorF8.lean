/- A part of the proof. -/
import Derived.Test.YtajjljbmfdboaaaGreatDoorF4
import Derived.IntWalk
import Derived.KernelRfl
import Derived.Test.YtajjljbmfdboaaaGreatDoorF7
import Derived.ChangeSlices
import Derived.LaidLaws
import Derived.MakeChecks
import Derived.WalkKit
import Derived.ProofKit
import Derived.ChangeOld
import Derived.ChangeSame
import Derived.ChangeVars
import Derived.JoinedOf
import Derived.Carry
import Derived.LaidHandle
import Derived.Stop.Joined
section
namespace Go.Ab
open Go.RowKit
inductive Tok where
 |free
 |mt (e:TypeId) (x:Bool) (n:Nat)
 |J3 (b:lG)
structure cF where
 cell:Nat→Nat→Option Value
 tok:Nat→Option Tok
def Hf:lG→Bool
 |.cells ..=>false
 |_=>true
structure cF.In (r:cF) (h:AH):Prop where
 cell:∀b o v,r.cell b o=some v→h.base≤b∧∃c e x,h.get b=some (.cells c e (0,0) x)∧c[o]?=some v
 free:∀b,r.tok b=some .free→h.base≤b∧b<h.next∧h.get b=none
 mt:∀b e x n,r.tok b=some (.mt e x n)→h.base≤b∧∃c,h.get b=some (.cells c e (0,0) x)∧c.length=n
 J3:∀b o,r.tok b=some (.J3 o)→h.base≤b∧h.get b=some o∧Hf o=true
structure cF.sZ (r s:cF):Prop where
 cell:∀b o,r.cell b o=none∨s.cell b o=none
 tok:∀b,r.tok b=none∨s.tok b=none
def cF.add (r s:cF):cF:=⟨fun b o=>(r.cell b o).or (s.cell b o),fun b=>(r.tok b).or (s.tok b)⟩
def cF.emp:cF:=⟨fun _ _=>none,fun _=>none⟩
theorem cF.ext' {r s:cF} (h1:∀b o,r.cell b o=s.cell b o) (h2:∀b,r.tok b=s.tok b):r=s:=by
 cases r;cases s
 simp only[cF.mk.injEq]
 grind
theorem G3 {α:Type} {a b:Option α} (h:a=none∨b=none):a.or b=b.or a:=by
 rcases h with h|h<;>subst h<;>simp
theorem or_none {α:Type} {a b:Option α} (h:a.or b=none):a=none∧b=none:=by cases a<;>simp_all
theorem cF.sZ.symm {r s:cF} (d:r.sZ s):s.sZ r:=⟨fun b o=>(d.cell b o).symm,fun b=>(d.tok b).symm⟩
theorem cF.add_comm {r s:cF} (d:r.sZ s):r.add s=s.add r:=cF.ext' (fun b o=>G3 (d.cell b o)) (fun b=>G3 (d.tok b))
theorem cF.add_assoc {r s t:cF}:(r.add s).add t=r.add (s.add t):=cF.ext' (fun b o=>by simp[cF.add,Option.or_assoc]) (fun b=>by simp[cF.add,Option.or_assoc])
theorem cF.gW {r s t:cF}:r.sZ (s.add t)↔r.sZ s∧r.sZ t:=by
 constructor
 ·intro d
  refine⟨⟨fun b o=>?_,fun b=>?_⟩,⟨fun b o=>?_,fun b=>?_⟩⟩
  ·rcases d.cell b o with h|h;exact .inl h;exact .inr (or_none h).1
  ·rcases d.tok b with h|h;exact .inl h;exact .inr (or_none h).1
  ·rcases d.cell b o with h|h;exact .inl h;exact .inr (or_none h).2
  ·rcases d.tok b with h|h;exact .inl h;exact .inr (or_none h).2
 ·intro⟨d1,d2⟩
  refine⟨fun b o=>?_,fun b=>?_⟩
  ·rcases d1.cell b o with h|h
   ·exact .inl h
   ·rcases d2.cell b o with h'|h'
    ·exact .inl h'
    ·exact .inr (by simp[cF.add,h,h'])
  ·rcases d1.tok b with h|h
   ·exact .inl h
   ·rcases d2.tok b with h'|h'
    ·exact .inl h'
    ·exact .inr (by simp[cF.add,h,h'])
theorem cF.fK {r:cF}:cF.emp.add r=r:=cF.ext' (fun _ _=>by simp[cF.add,cF.emp]) (fun _=>by simp[cF.add,cF.emp])
theorem cF.dJ {r:cF}:cF.emp.sZ r:=⟨fun _ _=> .inl rfl,fun _=> .inl rfl⟩
theorem cF.fA {r s:cF} {h:AH} (d:r.sZ s):(r.add s).In h↔r.In h∧s.In h:=by
 have c1:∀b o v,r.cell b o=some v→(r.add s).cell b o=some v:=fun b o v hv=>by simp[cF.add,hv]
 have c2:∀b o v,s.cell b o=some v→(r.add s).cell b o=some v:=fun b o v hv=>by
  rcases d.cell b o with h|h
  ·simp[cF.add,h,hv]
  grind
 have t1:∀b v,r.tok b=some v→(r.add s).tok b=some v:=fun b v hv=>by simp[cF.add,hv]
 have t2:∀b v,s.tok b=some v→(r.add s).tok b=some v:=fun b v hv=>by
  rcases d.tok b with h|h
  ·simp[cF.add,h,hv]
  grind
 have c3:∀b o v,(r.add s).cell b o=some v→r.cell b o=some v∨s.cell b o=some v:=fun b o v hv=>by
  simp only[cF.add] at hv
  cases hr:r.cell b o with
  |none=>grind
  |some u=>grind
 have t3:∀b v,(r.add s).tok b=some v→r.tok b=some v∨s.tok b=some v:=fun b v hv=>by
  simp only[cF.add] at hv
  cases hr:r.tok b with
  |none=>grind
  |some u=>grind
 constructor
 ·intro i
  exact⟨⟨fun b o v hv=>i.cell b o v (c1 _ _ _ hv),fun b hv=>i.free b (t1 _ _ hv),fun b e x n hv=>i.mt b e x n (t1 _ _ hv),fun b o hv=>i.J3 b o (t1 _ _ hv)⟩,
      ⟨fun b o v hv=>i.cell b o v (c2 _ _ _ hv),fun b hv=>i.free b (t2 _ _ hv),fun b e x n hv=>i.mt b e x n (t2 _ _ hv),fun b o hv=>i.J3 b o (t2 _ _ hv)⟩⟩
 ·intro⟨i,j⟩
  refine⟨fun b o v hv=>?_,fun b hv=>?_,fun b e x n hv=>?_,fun b o hv=>?_⟩
  ·rcases c3 _ _ _ hv with h|h;exact i.cell b o v h;exact j.cell b o v h
  ·rcases t3 _ _ hv with h|h;exact i.free b h;exact j.free b h
  ·rcases t3 _ _ hv with h|h;exact i.mt b e x n h;exact j.mt b e x n h
  ·rcases t3 _ _ hv with h|h;exact i.J3 b o h;exact j.J3 b o h
abbrev HP:=cF→Prop
def star:List HP→cF→Prop
 |[],r=>r=cF.emp
 |A::L,r=>∃r1 r2,A r1∧star L r2∧r1.sZ r2∧r=r1.add r2
theorem D2 {L L':List HP} (p:L.Perm L'):∀r,star L r→star L' r:=by
 induction p with
 |nil=>exact fun _ h=>h
 |cons A _ ih=>exact fun r ⟨r1,r2,h1,h2,h3,h4⟩=>⟨r1,r2,h1,ih _ h2,h3,h4⟩
 |swap A B L=>
  intro r ⟨r1,r2,h1,⟨r3,r4,h5,h6,h7,h8⟩,h3,h4⟩
  subst h8;subst h4
  obtain⟨d1,d2⟩:=cF.gW.1 h3
  refine⟨r3,r1.add r4,h5,⟨r1,r4,h1,h6,d2,rfl⟩,cF.gW.2 ⟨d1.symm,h7⟩,?_⟩
  rw[←cF.add_assoc,←cF.add_assoc,cF.add_comm d1]
 |trans _ _ ih1 ih2=>grind
theorem hQ {L M:List HP}:∀{r},star (L++M) r↔∃r1 r2,star L r1∧star M r2∧r1.sZ r2∧r=r1.add r2:=by
 induction L with
 |nil=>intro r;exact⟨fun h=>⟨cF.emp,r,rfl,h,cF.dJ,cF.fK.symm⟩,fun⟨r1,r2,h1,h2,h3,h4⟩=>by cases h1;rw[cF.fK] at h4;subst h4;exact h2⟩
 |cons A L ih=>
  intro r
  constructor
  ·intro⟨r1,r2,h1,h2,h3,h4⟩
   obtain⟨r3,r4,h5,h6,h7,h8⟩:=ih.1 h2
   subst h8
   obtain⟨d1,d2⟩:=cF.gW.1 h3
   exact⟨r1.add r3,r4,⟨r1,r3,h1,h5,d1,rfl⟩,h6,(cF.gW.2 ⟨d2.symm,h7.symm⟩).symm,by rw[h4,cF.add_assoc]⟩
  ·intro⟨r1,r2,⟨r3,r4,h1,h2,h3,h4⟩,h5,h6,h7⟩
   subst h4
   obtain⟨d1,d2⟩:=cF.gW.1 h6.symm
   exact⟨r3,r4.add r2,h1,ih.2 ⟨r4,r2,h2,h5,d2.symm,rfl⟩,cF.gW.2 ⟨h3,d1.symm⟩,by rw[h7,cF.add_assoc]⟩
structure Bg where
 base:Nat
 old:Nat→Option lG
structure Hs (G:Bg) (h:AH) (L:List HP):Prop where
 base:h.base=G.base
 old:h.old=G.old
 wf:h.base≤h.next
 fr:∀i,h.next≤i→h.get i=none
 res:∃r,star L r∧r.In h
variable {P:Program} {K:FuncId→List Value→Option hJ} {G:Bg} {h:AH} {L L' M:List HP}
theorem Hs.perm (hs:Hs G h L) (p:L.Perm L'):Hs G h L':=⟨hs.base,hs.old,hs.wf,hs.fr,let⟨r,h1,h2⟩:=hs.res;⟨r,D2 p r h1,h2⟩⟩
theorem Hs.tail {A:HP} (hs:Hs G h (A::L)):Hs G h L:=⟨hs.base,hs.old,hs.wf,hs.fr,let⟨_,⟨_,r2,_,h2,h3,h4⟩,h5⟩:=hs.res;⟨r2,h2,((cF.fA h3).1 (h4▸h5)).2⟩⟩
theorem Hs.imp {A:HP} {B:List HP} (hs:Hs G h (A::L)) (k:∀r,A r→star B r):Hs G h (B++L):=⟨hs.base,hs.old,hs.wf,hs.fr,let⟨r,⟨r1,r2,h1,h2,h3,h4⟩,h5⟩:=hs.res;⟨r,hQ.2 ⟨r1,r2,k r1 h1,h2,h3,h4⟩,h5⟩⟩
theorem Hs.join {A:List HP} {B:HP} (hs:Hs G h (A++L)) (k:∀r,star A r→B r):Hs G h (B::L):=⟨hs.base,hs.old,hs.wf,hs.fr,let⟨r,h1,h5⟩:=hs.res;let⟨r1,r2,h1,h2,h3,h4⟩:=hQ.1 h1;⟨r,⟨r1,r2,k r1 h1,h2,h3,h4⟩,h5⟩⟩
class Has {α:Type} (R:α→HP) (L:List HP) (a:outParam α) (L':outParam (List HP)):Prop where
 perm:L.Perm (R a::L')
instance (priority:=low) Has.there {α:Type} {R:α→HP} {A:HP} {a:α} [k:Has R L a L']:Has R (A::L) a (A::L'):=⟨(k.perm.cons A).trans (List.Perm.swap _ _ _)⟩
instance (priority:=high) Has.here {α:Type} {R:α→HP} {a:α}:Has R (R a::L) a L:=⟨List.Perm.refl _⟩
instance (priority:=high) Has.app {α:Type} {R:α→HP} {A:HP} {L1 L2:List HP} {a:α} [k:Has R (A::(L1++L2)) a L']:Has R ((A::L1)++L2) a L':=k
instance (priority:=high) Has.aBr {α:Type} {R:α→HP} {L2:List HP} {a:α} [k:Has R L2 a L']:Has R ([]++L2) a L':=k
theorem Hs.get {α:Type} {R:α→HP} {a:α} (hs:Hs G h L) [k:Has R L a L']:Hs G h (R a::L'):=hs.perm k.perm
def Di (b o:Nat) (c:List Value):cF:=⟨fun b' o'=>if b'=b∧o≤o' then c[o' - o]? else none,fun _=>none⟩
def aE (b o:Nat) (c:List Value):HP:=fun r=>r=Di b o c
def mt (b:Nat) (m:TypeId×Bool×Nat):HP:=fun r=>r=⟨fun _ _=>none,fun b'=>if b'=b then some (.mt m.1 m.2.1 m.2.2) else none⟩
def ot (b:Nat) (o:lG):HP:=fun r=>r=⟨fun _ _=>none,fun b'=>if b'=b then some (.J3 o) else none⟩
def u5 (r0 n:Nat) (D:List Nat):HP:=fun r=>r=⟨fun _ _=>none,fun b=>if r0≤b∧b<r0+n∧(b - r0)∉D then some .free else none⟩
theorem oI {b o:Nat} {c:List Value} {b' o':Nat}:(Di b o c).cell b' o'=if b'=b∧o≤o' then c[o' - o]? else none:=rfl
theorem E4 {b o:Nat} {c d:List Value}:Di b o (c++d)=(Di b o c).add (Di b (o+c.length) d):=by
 refine cF.ext' (fun b' o'=>?_) (fun _=>rfl)
 simp only[cF.add,oI]
 grind
theorem Z5 {b o:Nat} {c d:List Value}:(Di b o c).sZ (Di b (o+c.length) d):=by
 refine⟨fun b' o'=>?_,fun _=> .inl rfl⟩
 simp only[oI]
 grind
theorem yX {b o:Nat} {c d:List Value} (r:cF):aE b o (c++d) r↔star [aE b o c,aE b (o+c.length) d] r:=by
 constructor
 ·intro hr
  cases hr
  exact⟨_,_,rfl,⟨_,cF.emp,rfl,rfl,cF.dJ.symm,rfl⟩,by rw[cF.add_comm cF.dJ.symm,cF.fK];exact Z5,by rw[cF.add_comm (s:=cF.emp) cF.dJ.symm,cF.fK,E4]⟩
 ·intro⟨r1,r2,h1,⟨r3,r4,h5,h6,h7,h8⟩,h3,h4⟩
  cases h1;cases h5;cases h6
  subst h8
  rw[cF.add_comm (s:=cF.emp) cF.dJ.symm,cF.fK] at h4
  rw[←E4] at h4
  exact h4
theorem Hs.split {b o:Nat} {c d:List Value} (hs:Hs G h (aE b o (c++d)::L)):Hs G h (aE b o c::aE b (o+c.length) d::L):=hs.imp (B:=[_,_]) fun r=>(yX r).1
theorem Hs.F4 {b o o':Nat} {c d:List Value} (hs:Hs G h (aE b o c::aE b o' d::L)) (ho:o'=o+c.length):Hs G h (aE b o (c++d)::L):=by
 subst ho;exact Hs.join (A:=[_,_]) hs fun r=>(yX r).2
theorem Hs.cellAt {b o j:Nat} {c:List Value} {v:Value} (hs:Hs G h (aE b o c::L)) (hc:c[j]?=some v):
  G.base≤b∧∃c' e x,h.get b=some (.cells c' e (0,0) x)∧c'[o+j]?=some v:=by
 obtain⟨_,⟨r1,r2,h1,h2,h3,h4⟩,h5⟩:=hs.res
 cases h1
 subst h4
 have:=((cF.fA h3).1 h5).1.cell b (o+j) v (by rw[oI,if_pos ⟨rfl,by omega⟩];grind)
 rw[hs.base] at this
 exact this
theorem Hs.cells {b o:Nat} {c:List Value} (hs:Hs G h (aE b o c::L)) (hne:0<c.length):
  G.base≤b∧∃c' e x,h.get b=some (.cells c' e (0,0) x)∧o+c.length≤c'.length∧∀j,j<c.length→c'[o+j]?=c[j]?:=by
 obtain⟨hb,c',e,x,hg,h0⟩:=hs.cellAt (j:=0) (List.getElem?_eq_getElem hne)
 have hall:∀j,j<c.length→c'[o+j]?=c[j]?:=fun j hj=>by
  obtain⟨_,c2,e2,x2,hg2,h2⟩:=hs.cellAt (j:=j) (List.getElem?_eq_getElem hj)
  grind
 refine⟨hb,c',e,x,hg,?_,hall⟩
 have h1:=hall (c.length - 1) (by omega)
 grind
theorem cF.In.of {r:cF} {h h':AH} (i:r.In h) (hb:h'.base=h.base) (hn:h.next≤h'.next) (hk:∀b,(r.tok b≠none∨∃o,r.cell b o≠none)→h'.get b=h.get b):r.In h' where
 cell:=fun b o v hv=>by
  obtain⟨h1,c,e,x,h2,h3⟩:=i.cell b o v hv
  grind
 free:=fun b hv=>by
  obtain⟨h1,h2,h3⟩:=i.free b hv
  grind
 mt:=fun b e x n hv=>by
  obtain⟨h1,c,h2,h3⟩:=i.mt b e x n hv
  grind
 J3:=fun b o hv=>by
  obtain⟨h1,h2,h3⟩:=i.J3 b o hv
  grind
theorem AH.zH {h:AH} {i:Nat} {o:Option lG}:(h.set i o).old=h.old:=by rw[AH.Es];split<;>rfl
theorem Hs.write {b o j:Nat} {c vs:List Value} (hs:Hs G h (aE b o c::L)) (hl:j+vs.length≤c.length) (hv:vs.all eF=true) (hne:0<c.length):
  ∃h',dV h ⟨b,o+j,none⟩ vs=some h'∧Hs G h' (aE b o (bY c j vs)::L):=by
 obtain⟨hb,c',e,x,hg,hlen,hall⟩:=hs.cells hne
 have hbase:h.base≤b:=by rw[hs.base];exact hb
 refine⟨h.set b (some (.cells (bY c' (o+j) vs) e (0,0) x)),?_,?_⟩
 ·simp only[dV,Option.isSome_none,Bool.false_or,hv,Bool.not_true,Bool.or_false,hg]
  grind
 ·obtain⟨_,⟨r1,r2,h1,h2,h3,h4⟩,h5⟩:=hs.res
  cases h1
  subst h4
  obtain⟨i1,i2⟩:=(cF.fA h3).1 h5
  have hget:∀i,(h.set b (some (.cells (bY c' (o+j) vs) e (0,0) x))).get i=if i=b then some (.cells (bY c' (o+j) vs) e (0,0) x) else h.get i:=fun i=>AH.gY hbase
  have hsl:∀k,(bY c' (o+j) vs)[k]?=if o+j≤k∧k<o+j+vs.length then vs[k - (o+j)]? else c'[k]?:=fun k=>by
   unfold bY
   by_cases h1:k<o+j
   ·grind
   ·by_cases h2:k<o+j+vs.length
    ·grind
    ·rw[if_neg (by omega),List.getElem?_append_right (by simp;omega)]
     simp only[List.length_append,List.length_take,List.getElem?_drop]
     congr 1;omega
  have hsc:∀k,(bY c j vs)[k]?=if j≤k∧k<j+vs.length then vs[k - j]? else c[k]?:=fun k=>by
   unfold bY
   by_cases h1:k<j
   ·grind
   ·by_cases h2:k<j+vs.length
    ·grind
    ·rw[if_neg (by omega),List.getElem?_append_right (by simp;omega)]
     simp only[List.length_append,List.length_take,List.getElem?_drop]
     congr 1;omega
  have hscl:(bY c j vs).length=c.length:=by simp[bY];omega
  have hd:(Di b o (bY c j vs)).sZ r2:=by
   refine⟨fun b' o'=>?_,fun _=> .inl rfl⟩
   rcases h3.cell b' o' with h|h
   ·left
    rw[oI] at h ⊢
    grind
   ·exact .inr h
  have hbn:b<h.next:=by
   rcases Nat.lt_or_ge b h.next with h1|h1
   ·exact h1
   ·rw[hs.fr b h1] at hg;cases hg
  refine⟨by simp;exact hs.base,by rw[AH.zH];exact hs.old,by simp;exact hs.wf,fun i hi=>by simp at hi;rw[hget,if_neg (by omega)];exact hs.fr i hi,_,⟨_,r2,rfl,h2,hd,rfl⟩,(cF.fA hd).2 ⟨?_,?_⟩⟩
  ·refine⟨fun b' o' v hv'=>?_,fun _ hh=>by simp[Di] at hh,fun _ _ _ _ hh=>by simp[Di] at hh,fun _ _ hh=>by simp[Di] at hh⟩
   rw[oI] at hv'
   split at hv'
   ·rename_i hc
    obtain⟨rfl,ho⟩:=hc
    refine⟨by simp;exact hbase,_,e,x,by rw[hget,if_pos rfl],?_⟩
    rw[hsl]
    rw[hsc] at hv'
    split at hv'
    ·rename_i hk
     rw[if_pos (by omega),show o' - (o+j)=o' - o - j by omega];exact hv'
    ·rename_i hk
     rw[if_neg (by omega)]
     have hlt:o' - o<c.length:=(List.getElem?_eq_some_iff.1 hv').1
     have:=hall (o' - o) hlt
     rw[show o+(o' - o)=o' by omega] at this
     rw[this];exact hv'
   ·cases hv'
  ·
   have hr2:∀b' o' v,r2.cell b' o'=some v→b'=b→¬(o+j≤o'∧o'<o+j+vs.length):=by
    intro b' o' v hv' hbb hk
    subst hbb
    rcases h3.cell b' o' with h|h
    ·rw[oI,if_pos ⟨rfl,by omega⟩,List.getElem?_eq_none_iff] at h
     omega
    ·grind
   refine⟨fun b' o' v hv'=>?_,fun b' hv'=>?_,fun b' e' x' n hv'=>?_,fun b' ob hv'=>?_⟩
   ·obtain⟨g1,c2,e2,x2,g2,g3⟩:=i2.cell b' o' v hv'
    refine⟨by simp;exact g1,?_⟩
    grind
   ·obtain⟨g1,g2,g3⟩:=i2.free b' hv'
    refine⟨by simp;exact g1,by simp;exact g2,?_⟩
    grind
   ·obtain⟨g1,c2,g2,g3⟩:=i2.mt b' e' x' n hv'
    refine⟨by simp;exact g1,?_⟩
    rw[hget]
    by_cases hbb:b'=b
    ·rw[if_pos hbb]
     rw[hbb,hg] at g2;cases g2
     exact⟨_,rfl,by simp[bY];omega⟩
    grind
   ·obtain⟨g1,g2,g3⟩:=i2.J3 b' ob hv'
    refine⟨by simp;exact g1,?_,g3⟩
    rw[hget,if_neg (by intro hbb;subst hbb;rw[hg] at g2;cases g2;simp[Hf] at g3)];exact g2
theorem X4 {r:cF} {h:AH} {i:Nat} (hr:r.In h) (hi:h.get i=none) (hf:r.tok i=none) {c:List Value} {t:Option Tok}:
  (⟨fun b o=>if b=i then c[o]? else none,fun b=>if b=i then t else none⟩:cF).sZ r:=by
 refine⟨fun b o=>?_,fun b=>?_⟩
 ·by_cases hb:b=i
  ·right
   subst hb
   cases hc:r.cell b o with
   |none=>rfl
   |some v=>obtain⟨_,_,_,_,g,_⟩:=hr.cell b o v hc;rw[hi] at g;cases g
  ·left;simp[hb]
 grind
def kO (i:Nat) (c:List Value) (t:Option Tok):cF:=⟨fun b o=>if b=i then c[o]? else none,fun b=>if b=i then t else none⟩
theorem nZ {i:Nat} {c:List Value} {e:TypeId} {x:Bool}:star [aE i 0 c,mt i (e,x,c.length)] (kO i c (some (.mt e x c.length))):=by
 refine⟨Di i 0 c,_,rfl,⟨_,cF.emp,rfl,rfl,cF.dJ.symm,rfl⟩,?_,?_⟩
 ·rw[cF.add_comm (s:=cF.emp) cF.dJ.symm,cF.fK]
  exact⟨fun _ _=> .inr rfl,fun _=> .inl rfl⟩
 ·rw[cF.add_comm (s:=cF.emp) cF.dJ.symm,cF.fK]
  refine cF.ext' (fun b o=>?_) (fun b=>?_)
  ·simp[kO,cF.add,Di]
  ·simp[kO,cF.add,Di]
theorem Hs.new {c:List Value} {e:TypeId} {x:Bool} (hs:Hs G h L):Hs G (h.alloc (.cells c e (0,0) x)) (aE h.next 0 c::mt h.next (e,x,c.length)::L):=by
 obtain⟨r,h1,h2⟩:=hs.res
 have hlive:h.get h.next=none:=hs.fr _ (Nat.le_refl _)
 ·have hft:r.tok h.next=none:=by
   cases ht:r.tok h.next with
   |none=>rfl
   |some t=>
    cases t with
    |free=>have:=(h2.free _ ht).2.1;omega
    |mt e' x' n=>obtain⟨_,_,g,_⟩:=h2.mt _ _ _ _ ht;grind
    |J3 o=>obtain⟨_,g,_⟩:=h2.J3 _ _ ht;grind
  have hd:(kO h.next c (some (.mt e x c.length))).sZ r:=X4 h2 hlive hft
  have hget:∀j,(h.alloc (.cells c e (0,0) x)).get j=if j=h.next then some (.cells c e (0,0) x) else h.get j:=fun j=>AH.tO hs.wf
  refine⟨hs.base,hs.old,Nat.le_succ_of_le hs.wf,fun i hi=>by simp at hi;rw[hget,if_neg (by omega)];exact hs.fr i (by omega),(kO h.next c (some (.mt e x c.length))).add r,(hQ (L:=[aE h.next 0 c,mt h.next (e,x,c.length)])).2 ⟨_,r,nZ,h1,hd,rfl⟩,(cF.fA hd).2 ⟨?_,?_⟩⟩
  ·refine⟨fun b o v hv=>?_,fun b hv=>?_,fun b e' x' n hv=>?_,fun b o hv=>?_⟩
   ·simp only[kO] at hv
    split at hv
    ·rename_i hb;subst hb
     exact⟨by simp;exact hs.wf,c,e,x,by rw[hget,if_pos rfl],hv⟩
    ·cases hv
   ·simp only[kO] at hv;grind
   ·simp only[kO] at hv
    split at hv
    ·rename_i hb;subst hb;cases hv
     exact⟨by simp;exact hs.wf,c,by rw[hget,if_pos rfl],rfl⟩
    ·cases hv
   ·simp only[kO] at hv;grind
  ·refine h2.of rfl (by simp) fun b hb=>?_
   rw[hget,if_neg]
   intro hbb
   subst hbb
   rcases hb with hb|⟨o,hb⟩
   ·exact hb hft
   ·apply hb
    cases hc:r.cell h.next o with
    |none=>rfl
    |some v=>obtain⟨_,_,_,_,g,_⟩:=h2.cell _ o v hc;grind
end Go.Ab
end
section
namespace Go.Ab
variable {P:Program} {K:FuncId→List Value→Option hJ} {G:Bg} {h:AH} {L L' M:List HP}
theorem Has.of {α:Type} {R:α→HP} {a:α} (m:Has R L a L') (hs:Hs G h L):Hs G h (R a::L'):=hs.perm m.perm
def xW (h:AH) (_W:Nat) (e:TypeId) (l:List Value) (n c:Nat) (k:Value→AH→Prop):Prop:=Dp h (.cells l e (0,0) true) fun p h'=>k (.slice (some ⟨p,0,none⟩) n c) h'
def nQ (h:AH) (r:Nat) (_W:Nat) (e:TypeId) (l:List Value) (n c:Nat) (k:Value→AH→Prop):Prop:=nH h r (.cells l e (0,0) true) fun p h'=>k (.slice (some ⟨p,0,none⟩) n c) h'
def lp (P:Program) (f:FuncId) (p:List Nat) (n:Nat) (e:Nat→Value) (d:Nat) (st:LoopState) (pd:Option Code):lG:=
 .loop st pd f ((List.range n).map e) (rgF (cd P f p)).2.1 (rgF (cd P f p)).2.2.1 (rgF (cd P f p)).2.2.2 d
theorem Hs.Uu (hs:Hs G h L) {b:Nat} (hb:b<G.base):h.get b=G.old b:=by
 rw[AH.get_eq,hs.base,if_pos hb,hs.old]
structure Ob (G:Bg) (b:Nat) (c:List Value):Prop where
 lt:b<G.base
 get:∃e fz x,G.old b=some (.cells c e fz x)
theorem aC {b o j:Nat} {c:List Value} {v:Value} {k:Value→Prop} (hs:Hs G h L) [m:Has (aE b o) L c L'] (hc:c[j]?=some v) (hk:k v):bA (pN h (pt b o j)) k:=by
 obtain⟨_,c',e,x,hg,h1⟩:=(m.of hs).cellAt hc
 exact⟨v,by simp[pN,pt,hg,h1],hk⟩
theorem xK {b o j:Nat} {c:List Value} {v:Value} {k:Value→Prop} (hs:Hs G h L) (ho:Ob G b c) (hc:c[o+j]?=some v) (hk:k v):bA (pN h (pt b o j)) k:=by
 obtain⟨e,fz,x,hg⟩:=ho.get
 exact⟨v,by simp[pN,pt,hs.Uu ho.lt,hg,hc],hk⟩
theorem aQ {b o j n:Nat} {c l:List Value} {k:Value→Prop} (hs:Hs G h L) [m:Has (aE b o) L c L'] (hn:0<n) (hc:(c.drop j).take n=l) (hl:l.length=n) (hk:k (.agg ⟨l⟩)):bA (uC h n (pt b o j)) k:=by
 have hlen:j+n≤c.length:=by
  grind
 obtain⟨_,c',e,x,hg,h1,h2⟩:=(m.of hs).cells (by omega)
 refine⟨.agg ⟨l⟩,?_,hk⟩
 simp only[uC,pt,cI,Option.isSome_none,Bool.false_eq_true,if_false,hg]
 rw[if_pos (by omega)]
 simp only[Option.map_some,Option.some.injEq,Value.agg.injEq,Array.mk.injEq]
 rw[←hc]
 refine List.ext_getElem? fun i=>?_
 grind
theorem T2 {b o j n:Nat} {c l:List Value} {k:Value→Prop} (hs:Hs G h L) (ho:Ob G b c) (hc:(c.drop (o+j)).take n=l) (hl:l.length=n) (hb:o+j≤c.length) (hk:k (.agg ⟨l⟩)):bA (uC h n (pt b o j)) k:=by
 obtain⟨e,fz,x,hg⟩:=ho.get
 have:=congrArg List.length hc
 simp at this
 exact⟨.agg ⟨l⟩,by simp[uC,pt,cI,hs.Uu ho.lt,hg,hc];omega,hk⟩
def dL:List Value→Nat→List Value→List Value
 |c,0,[]=>c
 |[],0,_::_=>[]
 |_::c,0,v::vs=>v::dL c 0 vs
 |[],_+1,_=>[]
 |x::c,j+1,vs=>x::dL c j vs
theorem pI:∀(c:List Value) (j:Nat) (vs:List Value),j+vs.length≤c.length→bY c j vs=dL c j vs
 |c,0,[],_=>by cases c<;>simp[bY,dL]
 |[],0,_::_,h=>by simp at h
 |x::c,0,v::vs,h=>by
  have:=pI c 0 vs (by simp at h ⊢;omega)
  simp only[dL]
  rw[←this];simp[bY]
 |[],j+1,vs,h=>by simp at h
 |x::c,j+1,vs,h=>by
  have:=pI c j vs (by simp at h ⊢;omega)
  simp only[dL]
  rw[←this]
  simp only[bY,List.take_succ_cons,List.cons_append]
  grind
theorem aCm {b o j n:Nat} {c vs:List Value} {v:Value} {k:AH→Prop} (hs:Hs G h L) [m:Has (aE b o) L c L'] (hv:iB v=some vs) (hn:vs.length=n) (hl:Nat.ble (j+n) c.length=true) (hb:vs.all eF=true) (h0:Nat.ble 1 c.length=true)
  (hk:∀h',Hs G h' (aE b o (dL c j vs)::L')→k h'):bA (uU h n (pt b o j) v) k:=by
 have hl:=Nat.le_of_ble_eq_true hl
 obtain⟨h',h1,h2⟩:=(m.of hs).write (j:=j) (vs:=vs) (by omega) hb (Nat.le_of_ble_eq_true h0)
 rw[pI _ _ _ (by omega)] at h2
 exact⟨h',by simp[uU,pt,hv,hn,h1],hk _ h2⟩
theorem bN {cs:List Value} {e:TypeId} {k:Nat→AH→Prop} (hs:Hs G h L) (hk:∀p h',Hs G h' (aE p 0 cs::L)→k p h'):Dp h (.cells cs e (0,0) true) k:=
 hk _ _ (let t:=hs.new (c:=cs) (e:=e) (x:=true);(t.perm (List.Perm.swap _ _ _)).tail)
theorem aCj {cs:List Value} {e:TypeId} {v:Value} {k:Nat→AH→Prop} (hs:Hs G h L) (hv:iB v=some cs) (hk:∀p h',Hs G h' (aE p 0 cs::L)→k p h'):bA (lI e v) fun b=>Dp h b k:=
 ⟨.cells cs e (0,0) true,by simp[lI,hv],bN hs hk⟩
def Yn (r:Nat) (x:Nat×List Nat):HP:=u5 r x.1 x.2
theorem w7 {n:Nat} {k:Nat→AH→Prop} (hs:Hs G h L) (hk:∀r h',Hs G h' (Yn r (n,[])::L)→k r h'):tF h n k:=by
 refine hk _ _ ?_
 obtain⟨r,h1,h2⟩:=hs.res
 have hg:∀i,({h with next:=h.next+n}:AH).get i=h.get i:=fun i=>rfl
 refine⟨hs.base,hs.old,Nat.le_trans hs.wf (Nat.le_add_right _ _),fun i hi=>by rw[hg];exact hs.fr i (Nat.le_trans (Nat.le_add_right _ _) hi),_,⟨_,r,rfl,h1,?_,rfl⟩,(cF.fA ?_).2 ⟨?_,?_⟩⟩
 rotate_right
 ·exact h2.of rfl (Nat.le_add_right _ _) fun _ _=>rfl
 ·have key:∀b,h.next≤b→r.tok b=none:=fun b hb=>by
   cases ht:r.tok b with
   |none=>rfl
   |some t=>
    cases t with
    |free=>have:=(h2.free _ ht).2.1;omega
    |mt e' x' n=>obtain⟨_,_,g,_⟩:=h2.mt _ _ _ _ ht;rw[hs.fr b hb] at g;cases g
    |J3 o=>obtain⟨_,g,_⟩:=h2.J3 _ _ ht;rw[hs.fr b hb] at g;cases g
  refine⟨fun _ _=> .inl rfl,fun b=>?_⟩
  grind
 ·have key:∀b,h.next≤b→r.tok b=none:=fun b hb=>by
   cases ht:r.tok b with
   |none=>rfl
   |some t=>
    cases t with
    |free=>have:=(h2.free _ ht).2.1;omega
    |mt e' x' n=>obtain⟨_,_,g,_⟩:=h2.mt _ _ _ _ ht;rw[hs.fr b hb] at g;cases g
    |J3 o=>obtain⟨_,g,_⟩:=h2.J3 _ _ ht;rw[hs.fr b hb] at g;cases g
  refine⟨fun _ _=> .inl rfl,fun b=>?_⟩
  grind
 ·refine⟨fun _ _ _ hv=>(by cases hv),fun b hv=>?_,fun b e x n hv=>?_,fun b o hv=>?_⟩
  ·simp only at hv
   split at hv
   ·rename_i hc
    have:=hs.wf
    exact⟨by grind,hc.2.1,by rw[hg];exact hs.fr b hc.1⟩
   ·cases hv
  ·grind
  grind
def U9 (c:Bool) (ks:List Nat) (op:BinOp) (a b:Value) (q:Value→Prop):Prop:=c=true∧bA (Ry ks op a b) q
def Tx (c:Bool) (h:AH) (n:Nat) (k:Nat→AH→Prop):Prop:=c=true∧tF h n k
theorem aU {c:Bool} {n:Nat} {k:Nat→AH→Prop} (hs:Hs G h L) (hk:∀r h',Hs G h' (Yn r (n,[])::L)→k r h') (hc:c=true:=by kernel_rfl):Tx c h n k:=⟨hc,w7 hs hk⟩
theorem R9 {r n i:Nat} {D:List Nat} (hi:i<n) (hD:i∉D):star [fun q=>q=(⟨fun _ _=>none,fun b=>if b=r+i then some .free else none⟩:cF),u5 r n (i::D)] ⟨fun _ _=>none,fun b=>if r≤b∧b<r+n∧(b - r)∉D then some .free else none⟩:=by
 refine⟨_,_,rfl,⟨_,cF.emp,rfl,rfl,cF.dJ.symm,rfl⟩,?_,?_⟩
 ·rw[cF.add_comm (s:=cF.emp) cF.dJ.symm,cF.fK]
  refine⟨fun _ _=> .inl rfl,fun b=>?_⟩
  grind
 ·rw[cF.add_comm (s:=cF.emp) cF.dJ.symm,cF.fK]
  refine cF.ext' (fun _ _=>rfl) (fun b=>?_)
  simp only[cF.add]
  grind
theorem Hs.newAt {r n i:Nat} {D:List Nat} {c:List Value} {e:TypeId} {x:Bool} (hs:Hs G h (u5 r n D::L)) (hi:i<n) (hD:i∉D):
  Hs G (h.set (r+i) (some (.cells c e (0,0) x))) (aE (r+i) 0 c::mt (r+i) (e,x,c.length)::u5 r n (i::D)::L):=by
 obtain⟨q,⟨r1,r2,h1,h2,h3,h4⟩,h5⟩:=hs.res
 cases h1
 subst h4
 obtain⟨i1,i2⟩:=(cF.fA h3).1 h5
 obtain⟨q1,q2,hq1,⟨q3,q4,hq3,hq4,hq5,hq6⟩,hd,hqe⟩:=R9 (r:=r) hi hD
 cases hq1;cases hq4
 rw[cF.add_comm (s:=cF.emp) cF.dJ.symm,cF.fK] at hq6
 subst hq6
 cases hq3
 rw[hqe] at i1 h3
 obtain⟨i3,i4⟩:=(cF.fA hd).1 i1
 obtain⟨fb,fn,fg⟩:=i3.free (r+i) (by simp)
 obtain⟨d1,d2⟩:=cF.gW.1 h3.symm
 have hget:∀j,(h.set (r+i) (some (.cells c e (0,0) x))).get j=if j=r+i then some (.cells c e (0,0) x) else h.get j:=fun j=>AH.gY fb
 have hrest:=(cF.fA d2.symm).2 ⟨i4,i2⟩
 have hft:((⟨fun _ _=>none,fun b=>if r≤b∧b<r+n∧(b - r)∉(i::D) then some .free else none⟩:cF).add r2).tok (r+i)=none:=by
  simp only[cF.add]
  rw[if_neg (by grind)]
  rcases d1.tok (r+i) with h|h
  ·simpa using h
  ·simp at h
 have hnd:(kO (r+i) c (some (.mt e x c.length))).sZ ((⟨fun _ _=>none,fun b=>if r≤b∧b<r+n∧(b - r)∉(i::D) then some .free else none⟩:cF).add r2):=X4 hrest fg hft
 refine⟨by simp;exact hs.base,by rw[AH.zH];exact hs.old,by simp;exact hs.wf,fun j hj=>by simp at hj;rw[hget,if_neg (by omega)];exact hs.fr j hj,
    _,(hQ (L:=[aE (r+i) 0 c,mt (r+i) (e,x,c.length)])).2 ⟨_,_,nZ,⟨_,r2,rfl,h2,d2.symm,rfl⟩,hnd,rfl⟩,(cF.fA hnd).2 ⟨?_,?_⟩⟩
 ·refine⟨fun b o v hv=>?_,fun b hv=>?_,fun b e' x' n hv=>?_,fun b o hv=>?_⟩
  ·simp only[kO] at hv
   simp_all
  ·simp only[kO] at hv;grind
  ·simp only[kO] at hv
   simp_all
  ·simp only[kO] at hv;grind
 ·refine hrest.of (by simp) (by simp) fun b hb=>?_
  rw[hget,if_neg]
  intro hbb
  subst hbb
  rcases hb with hb|⟨o,hb⟩
  ·exact hb hft
  ·apply hb
   cases hc:cF.cell _ (r+i) o with
   |none=>rfl
   |some v=>obtain⟨_,_,_,_,g,_⟩:=hrest.cell _ o v hc;rw[fg] at g;cases g
theorem aDp {A B:HP} (hs:Hs G h (A::B::L)):Hs G h (A::L):=(hs.perm (List.Perm.swap _ _ _)).tail
theorem kC {r i n:Nat} {D:List Nat} {cs:List Value} {e:TypeId} {k:Nat→AH→Prop} (hs:Hs G h L) [m:Has (Yn r) L (n,D) L'] (hi:Nat.blt i n=true) (hD:D.contains i=false)
  (hk:∀p h',Hs G h' (aE p 0 cs::Yn r (n,i::D)::L')→k p h'):nH h (r+i) (.cells cs e (0,0) true) k:=
 hk _ _ (aDp (Hs.newAt (show Hs G h (u5 r n D::L') from m.of hs) (by simp_all) (by simpa using hD)))
theorem s8 {r i n:Nat} {D:List Nat} {cs:List Value} {v:Value} {e:TypeId} {k:Nat→AH→Prop} (hs:Hs G h L) [m:Has (Yn r) L (n,D) L'] (hv:iB v=some cs) (hi:Nat.blt i n=true) (hD:D.contains i=false)
  (hk:∀p h',Hs G h' (aE p 0 cs::Yn r (n,i::D)::L')→k p h'):bA (lI e v) fun b=>nH h (r+i) b k:=
 ⟨.cells cs e (0,0) true,by simp[lI,hv],kC hs hi hD hk⟩
theorem Hs.zk {o:lG} (ho:Hf o=true) (hs:Hs G h L):Hs G (h.alloc o) (ot h.next o::L):=by
 obtain⟨r,h1,h2⟩:=hs.res
 have hlive:h.get h.next=none:=hs.fr _ (Nat.le_refl _)
 have hft:r.tok h.next=none:=by
  cases ht:r.tok h.next with
  |none=>rfl
  |some t=>
   cases t with
   |free=>have:=(h2.free _ ht).2.1;omega
   |mt e' x' n=>obtain⟨_,_,g,_⟩:=h2.mt _ _ _ _ ht;rw[hlive] at g;cases g
   |J3 o=>obtain⟨_,g,_⟩:=h2.J3 _ _ ht;rw[hlive] at g;cases g
 have hd:(⟨fun _ _=>none,fun b'=>if b'=h.next then some (.J3 o) else none⟩:cF).sZ r:=by
  refine⟨fun _ _=> .inl rfl,fun b=>?_⟩
  by_cases hb:b=h.next
  ·right;rw[hb];exact hft
  ·grind
 have hget:∀j,(h.alloc o).get j=if j=h.next then some o else h.get j:=fun j=>AH.tO hs.wf
 refine⟨hs.base,hs.old,Nat.le_succ_of_le hs.wf,fun i hi=>by simp at hi;rw[hget,if_neg (by omega)];exact hs.fr i (by omega),_,⟨_,r,rfl,h1,hd,rfl⟩,(cF.fA hd).2 ⟨?_,?_⟩⟩
 ·refine⟨fun _ _ _ hv=>(by cases hv),fun b hv=>?_,fun b e' x' n hv=>?_,fun b o' hv=>?_⟩
  ·grind
  ·grind
  ·simp only at hv
   split at hv
   ·rename_i hb;subst hb;cases hv
    exact⟨by simp;exact hs.wf,by rw[hget,if_pos rfl],ho⟩
   ·cases hv
 ·refine h2.of rfl (by simp) fun b hb=>?_
  rw[hget,if_neg]
  intro hbb
  subst hbb
  rcases hb with hb|⟨o,hb⟩
  ·exact hb hft
  ·apply hb
   cases hc:r.cell h.next o with
   |none=>rfl
   |some v=>obtain⟨_,_,_,_,g,_⟩:=h2.cell _ o v hc;rw[hlive] at g;cases g
theorem Hs.Ck {b:Nat} {o o':lG} (ho:Hf o'=true) (hs:Hs G h (ot b o::L)):h.get b=some o∧h.base≤b∧Hs G (h.set b (some o')) (ot b o'::L):=by
 obtain⟨q,⟨r1,r2,h1,h2,h3,h4⟩,h5⟩:=hs.res
 cases h1
 subst h4
 obtain⟨i1,i2⟩:=(cF.fA h3).1 h5
 obtain⟨gb,gg,goth⟩:=i1.J3 b o (by simp)
 have hget:∀j,(h.set b (some o')).get j=if j=b then some o' else h.get j:=fun j=>AH.gY gb
 have hbn:b<h.next:=by
  rcases Nat.lt_or_ge b h.next with h1|h1
  ·exact h1
  ·rw[hs.fr b h1] at gg;cases gg
 have ht2:r2.tok b=none:=by rcases h3.tok b with h|h;simp at h;exact h
 have hc2:∀o2,r2.cell b o2=none:=fun o2=>by
  cases hc:r2.cell b o2 with
  |none=>rfl
  |some v=>
   obtain⟨_,_,_,_,g,_⟩:=i2.cell _ o2 v hc
   rw[gg] at g;cases g
   simp[Hf] at goth
 have hd:(⟨fun _ _=>none,fun b'=>if b'=b then some (.J3 o') else none⟩:cF).sZ r2:=by
  refine⟨fun _ _=> .inl rfl,fun b'=>?_⟩
  by_cases hb:b'=b
  ·right;rw[hb];exact ht2
  ·grind
 refine⟨gg,gb,by simp;exact hs.base,by rw[AH.zH];exact hs.old,by simp;exact hs.wf,fun j hj=>by simp at hj;rw[hget,if_neg (by omega)];exact hs.fr j hj,_,⟨_,r2,rfl,h2,hd,rfl⟩,(cF.fA hd).2 ⟨?_,?_⟩⟩
 ·refine⟨fun _ _ _ hv=>(by cases hv),fun b hv=>?_,fun b e' x' n hv=>?_,fun b' o2 hv=>?_⟩
  ·grind
  ·grind
  simp_all
 ·refine i2.of (by simp) (by simp) fun b' hb=>?_
  grind
def jY (P:Program) (f:FuncId) (p:List Nat) (n:Nat) (e:Nat→Value) (d l:Nat) (x:LoopState×Option Code):HP:=ot l (lp P f p n e d x.1 x.2)
def mk (d:Nat) (_:Unit):HP:=ot d (.marks true)
theorem jX {k:Nat→AH→Prop} (hs:Hs G h L) (hk:∀d h',Hs G h' (mk d ()::L)→k d h'):Dp h (.marks true) k:=hk _ _ (hs.zk rfl)
theorem mG {f:FuncId} {p:List Nat} {n:Nat} {e:Nat→Value} {d:Nat} {st:LoopState} {pd:Option Code} {k:Nat→AH→Prop} (hs:Hs G h L) (hk:∀l h',Hs G h' (jY P f p n e d l (st,pd)::L)→k l h'):Dp h (lp P f p n e d st pd) k:=hk _ _ (hs.zk rfl)
theorem jI {k:AH→Prop} (hk:k h):bA (cC [] h) k:=⟨h,rfl,hk⟩
theorem lN {d:Nat} {ds:List Nat} {k:AH→Prop} (hs:Hs G h L) [m:Has (mk d) L () L'] (hk:∀h',Hs G h' L'→bA (cC ds h') k):bA (cC (d::ds) h) k:=by
 obtain⟨h1,h2,h3⟩:=Hs.Ck (o':= .marks false) rfl (show Hs G h (ot d (.marks true)::L') from m.of hs)
 obtain⟨h',h4,h5⟩:=hk _ h3.tail
 exact⟨h',by simp only[cC,h1,if_pos h2];exact h4,h5⟩
theorem aDi {f:FuncId} {p:List Nat} {n:Nat} {e:Nat→Value} {d l:Nat} {st st':LoopState} {pd pd':Option Code} {k:AH→Prop} (hs:Hs G h L) [m:Has (jY P f p n e d l) L (st,pd) L'] (hk:∀h',Hs G h' (jY P f p n e d l (st',pd')::L')→k h'):
  bA (cS h l st' (some pd')) k:=by
 obtain⟨h1,h2,h3⟩:=Hs.Ck (o':=lp P f p n e d st' pd') rfl (show Hs G h (ot l (lp P f p n e d st pd)::L') from m.of hs)
 exact⟨_,by simp only[cS,h1,lp];rw[if_pos h2];rfl,hk _ h3⟩
theorem x7 {f:FuncId} {p:List Nat} {n:Nat} {e:Nat→Value} {d l:Nat} {pd:Option Code} {k:AH→Prop} (hs:Hs G h L) [m:Has (jY P f p n e d l) L (.ready,pd) L'] (hk:∀h',Hs G h' (jY P f p n e d l (.busy,pd)::L')→k h'):
  bA (lC h l) k:=by
 obtain⟨h1,h2,h3⟩:=Hs.Ck (o':=lp P f p n e d .busy pd) rfl (show Hs G h (ot l (lp P f p n e d .ready pd)::L') from m.of hs)
 exact⟨_,by simp only[lC,cS,h1,lp];rw[if_pos h2];rfl,hk _ h3⟩
theorem po {f:FuncId} {p:List Nat} {n:Nat} {e:Nat→Value} {d l:Nat} {st:LoopState} {pd:Option Code} {k:Option Code→AH→Prop} (hs:Hs G h L) [m:Has (jY P f p n e d l) L (st,pd) L'] (hst:st≠.busy) (hk:∀h',Hs G h' L'→k pd h'):
  bA (sS h l) fun r=>k r.1 r.2:=by
 obtain⟨h1,h2,h3⟩:=Hs.Ck (o':=lp P f p n e d .exhausted pd) rfl (show Hs G h (ot l (lp P f p n e d st pd)::L') from m.of hs)
 refine⟨(pd,_),?_,hk _ h3.tail⟩
 simp only[sS,h1,lp]
 rw[if_neg hst]
 simp only[cS,h1,lp]
 rw[if_pos h2];rfl
theorem jr {f:FuncId} {p:List Nat} {n:Nat} {e:Nat→Value} {d l:Nat} {st:LoopState} {pd:Option Code} {k:Nat→Prop} (hs:Hs G h L) [m:Has (jY P f p n e d l) L (st,pd) L'] (hk:k d):bA (gK h l) k:=by
 obtain⟨h1,_,_⟩:=Hs.Ck (o':= .marks true) rfl (show Hs G h (ot l (lp P f p n e d st pd)::L') from m.of hs)
 exact⟨d,by simp only[gK,h1,lp],hk⟩
theorem aFm {f:FuncId} {p:List Nat} {n:Nat} {e:Nat→Value} {d l:Nat} {st:LoopState} {pd:Option Code} (hs:Hs G h L) [m:Has (jY P f p n e d l) L (st,pd) L']:h.get l=some (lp P f p n e d st pd):=
 (Hs.Ck (o':= .marks true) rfl (show Hs G h (ot l (lp P f p n e d st pd)::L') from m.of hs)).1
end Go.Ab
end
section
namespace Go.Ab
variable {P:Program} {K:FuncId→List Value→Option hJ} {G:Bg} {h:AH} {L L' M:List HP}
def dB (W:Nat) (e:TypeId) (a:Option Addr) (cap:Nat) (x:Nat×List Value):HP:=fun r=>
 x.2.length=x.1*W∧x.2.all eF=true∧
 ((x.1=0∧r=cF.emp∧cap=0∧(a=none∨∃b o,a=some ⟨b,o,some 1⟩))∨
  (x.1=0∧cap=0∧∃b o cs,a=some ⟨b,o,some 2⟩∧o≤cs.length∧r=kO b cs (some (.mt e false cs.length)))∨
  (x.1≤cap∧∃b pre post ex,a=some ⟨b,pre.length,none⟩∧pre.length+cap*W≤(pre++x.2++post).length∧r=kO b (pre++x.2++post) (some (.mt e ex (pre++x.2++post).length))))
theorem gD {W:Nat} {e:TypeId} (hs:Hs G h L):Hs G h (dB W e none 0 (0,[])::L):=by
 refine Hs.join (A:=[]) hs fun r hr=>?_
 exact⟨by simp,rfl,.inl ⟨rfl,hr,rfl,.inl rfl⟩⟩
theorem rQ {b:Nat} {c:List Value} {e:TypeId} {x:Bool} {r:cF} (h:star [aE b 0 c,mt b (e,x,c.length)] r):r=kO b c (some (.mt e x c.length)):=by
 obtain⟨r1,r2,h1,⟨r3,r4,h5,h6,h7,h8⟩,h3,h4⟩:=h
 obtain⟨q1,q2,g1,⟨q3,q4,g5,g6,g7,g8⟩,g3,g4⟩:=nZ (i:=b) (c:=c) (e:=e) (x:=x)
 cases h1;cases h5;cases h6;cases g1;cases g5;cases g6
 grind
theorem dE {W:Nat} {e:TypeId} {l:List Value} {n c:Nat} {k:Value→AH→Prop} (hs:Hs G h L) (hl:l.length=c*W) (hn:n=c) (hb:l.all eF=true)
  (hk:∀a h',Hs G h' (dB W e (some a) c (n,l)::L)→k (.slice (some a) n c) h'):xW h W e l n c k:=by
 subst hn
 refine hk _ _ ?_
 have:=hs.new (c:=l) (e:=e) (x:=true)
 refine Hs.join (A:=[_,_]) this fun r hr=>?_
 have:=rQ hr
 exact⟨hl,hb,.inr (.inr ⟨Nat.le_refl _,h.next,[],[],true,rfl,by simp[hl],by simpa using this⟩)⟩
theorem iW {W r i N:Nat} {D:List Nat} {e:TypeId} {l:List Value} {n c:Nat} {k:Value→AH→Prop} (hs:Hs G h L) [m:Has (Yn r) L (N,D) L'] (hi:Nat.blt i N=true) (hD:D.contains i=false) (hl:l.length=c*W) (hn:n=c) (hb:l.all eF=true)
  (hk:∀a h',Hs G h' (dB W e (some a) c (n,l)::Yn r (N,i::D)::L')→k (.slice (some a) n c) h'):nQ h (r+i) W e l n c k:=by
 subst hn
 refine hk _ _ ?_
 have:=Hs.newAt (i:=i) (c:=l) (e:=e) (x:=true) (show Hs G h (u5 r N D::L') from m.of hs) (by simp_all) (by simpa using hD)
 refine Hs.join (A:=[_,_]) this fun q hr=>?_
 have:=rQ hr
 exact⟨hl,hb,.inr (.inr ⟨Nat.le_refl _,r+i,[],[],true,rfl,by simp[hl],by simpa using this⟩)⟩
theorem Hs.fst {A:HP} (hs:Hs G h (A::L)):∃r r2,A r∧star L r2∧r.sZ r2∧r.In h∧r2.In h:=by
 obtain⟨q,⟨r1,r2,h1,h2,h3,h4⟩,h5⟩:=hs.res
 subst h4
 obtain⟨i1,i2⟩:=(cF.fA h3).1 h5
 grind
theorem Hs.A4 {W:Nat} {e:TypeId} {a:Option Addr} {cap:Nat} {x:Nat×List Value} (hs:Hs G h (dB W e a cap x::L)):x.2.length=x.1*W:=by
 obtain⟨r,_,hr,_⟩:=hs.fst;exact hr.1
theorem Hs.Ca {W:Nat} {e:TypeId} {a:Option Addr} {cap:Nat} {x:Nat×List Value} (hs:Hs G h (dB W e a cap x::L)):x.2.all eF=true:=by
 obtain⟨r,_,hr,_⟩:=hs.fst;exact hr.2.1
theorem Hs.mU {W:Nat} {e:TypeId} {a:Option Addr} {cap n:Nat} {cs:List Value} (hs:Hs G h (dB W e a cap (n,cs)::L)) (h0:0<n):
  ∃b o,a=some ⟨b,o,none⟩∧∃H:HP,Hs G h (aE b o cs::H::L)∧∀h' cs' M,cs'.length=cs.length→cs'.all eF=true→Hs G h' (aE b o cs'::H::M)→Hs G h' (dB W e a cap (n,cs')::M):=by
 have key:∀b (pre post:List Value) ex,∀cs':List Value,cs'.length=cs.length→∀r,star [aE b pre.length cs',fun r=>star [aE b 0 pre,aE b (pre.length+cs.length) post,mt b (e,ex,(pre++cs++post).length)] r] r↔r=kO b (pre++cs'++post) (some (.mt e ex (pre++cs'++post).length)):=by
  intro b pre post ex cs' hl r
  have e1:(pre++cs++post).length=(pre++cs'++post).length:=by simp[hl]
  have e2:∀q,star [aE b 0 (pre++cs'++post),mt b (e,ex,(pre++cs'++post).length)] q→star [aE b pre.length cs',fun r=>star [aE b 0 pre,aE b (pre.length+cs.length) post,mt b (e,ex,(pre++cs++post).length)] r] q:=by
   intro q hq
   obtain⟨r1,r2,h1,h2,h3,h4⟩:=hq
   have h1':=(yX r1).1 h1
   obtain⟨s1,s2,g1,⟨s3,s4,g2,g3,g4,g5⟩,g6,g7⟩:=h1'
   have g1':=(yX s1).1 g1
   cases g3
   rw[cF.add_comm (s:=cF.emp) cF.dJ.symm,cF.fK] at g5
   subst g5
   have hall:star ([aE b 0 pre,aE b (0+pre.length) cs']++([aE b (0+(pre++cs').length) post]++[mt b (e,ex,(pre++cs'++post).length)])) q:=by
    refine hQ.2 ⟨s1,s2.add r2,g1',hQ.2 ⟨s2,r2,⟨s2,cF.emp,g2,rfl,cF.dJ.symm,by rw[cF.add_comm (s:=cF.emp) cF.dJ.symm,cF.fK]⟩,h2,?_,rfl⟩,?_,?_⟩
    ·rw[g7] at h3;exact(cF.gW.1 h3.symm).2.symm
    ·rw[g7] at h3
     exact cF.gW.2 ⟨g6,(cF.gW.1 h3.symm).1.symm⟩
    ·rw[h4,g7,cF.add_assoc]
   have hp:star ([aE b (0+pre.length) cs']++[aE b 0 pre,aE b (0+(pre++cs').length) post,mt b (e,ex,(pre++cs'++post).length)]) q:=D2 (List.Perm.swap _ _ _) q hall
   obtain⟨u1,u2,w1,w2,w3,w4⟩:=hQ.1 hp
   rw[Nat.zero_add] at w1
   obtain⟨v1,v2,x1,x2,x3,x4⟩:=w1
   cases x2
   rw[cF.add_comm (s:=cF.emp) cF.dJ.symm,cF.fK] at x4
   subst x4
   refine⟨u1,u2,x1,⟨u2,cF.emp,?_,rfl,cF.dJ.symm,by rw[cF.add_comm (s:=cF.emp) cF.dJ.symm,cF.fK]⟩,w3,w4⟩
   grind
  constructor
  ·intro hr
   have hb:=e2 _ (nZ (i:=b) (c:=pre++cs'++post) (e:=e) (x:=ex))
   obtain⟨r1,r2,h1,⟨r3,r4,h5,h6,h7,h8⟩,h3,h4⟩:=hr
   obtain⟨q1,q2,g1,⟨q3,q4,g5,g6,g7,g8⟩,g3,g4⟩:=hb
   cases h1;cases g1;cases h6;cases g6
   rw[cF.add_comm (s:=cF.emp) cF.dJ.symm,cF.fK] at h8 g8
   subst h8;subst g8
   have:r2=q2:=by
    obtain⟨a1,a2,b1,⟨a3,a4,b2,⟨a5,a6,b3,b4,b5,b6⟩,b7,b8⟩,b9,b10⟩:=h5
    obtain⟨c1,c2,d1,⟨c3,c4,d2,⟨c5,c6,d3,d4,d5,d6⟩,d7,d8⟩,d9,d10⟩:=g5
    cases b1;cases b2;cases b3;cases b4;cases d1;cases d2;cases d3;cases d4
    grind
   rw[h4,g4,this]
  ·intro hr;subst hr;exact e2 _ nZ
 obtain⟨r,r2,hr,hr2,hd,hi,hi2⟩:=hs.fst
 obtain⟨hl,hc,hr⟩:=hr
 simp only at hl hc
 rcases hr with⟨hz,_⟩|⟨hz,_⟩|⟨hcap,b,pre,post,ex,rfl,hle,hrr⟩
 ·simp at hz;omega
 ·simp at hz;omega
 ·refine⟨b,pre.length,rfl,fun r=>star [aE b 0 pre,aE b (pre.length+cs.length) post,mt b (e,ex,(pre++cs++post).length)] r,?_,?_⟩
  ·have hs':Hs G h ((fun r=>r=kO b (pre++cs++post) (some (.mt e ex (pre++cs++post).length)))::L):=⟨hs.base,hs.old,hs.wf,hs.fr,_,⟨r,r2,hrr,hr2,hd,rfl⟩,(cF.fA hd).2 ⟨hi,hi2⟩⟩
   exact hs'.imp (B:=[_,_]) fun q hq=>(key b pre post ex cs rfl q).2 hq
  ·intro h' cs' M hlen hcells hs'
   refine Hs.join (A:=[_,_]) hs' fun q hq=>?_
   have:=(key b pre post ex cs' hlen q).1 hq
   refine⟨by rw[hlen];exact hl,hcells,.inr (.inr ⟨hcap,b,pre,post,ex,rfl,?_,this⟩)⟩
   grind
theorem Jg {b:Nat} {c:List Value} {e:TypeId} {x:Bool} {r2:cF} (hi:(kO b c (some (.mt e x c.length))).In h) (_hi2:r2.In h):h.base≤b∧h.get b=some (.cells c e (0,0) x):=by
 obtain⟨h1,c',h2,h3⟩:=hi.mt b e x c.length (by simp[kO])
 refine⟨h1,?_⟩
 rw[h2]
 congr 2
 refine List.ext_getElem? fun j=>?_
 rcases Nat.lt_or_ge j c.length with hj|hj
 ·obtain⟨_,c2,e2,x2,g1,g2⟩:=hi.cell b j c[j] (by simp[kO,hj])
  grind
 grind
theorem Hs.kill {b:Nat} {c c2:List Value} {e e2:TypeId} {x x2:Bool} (hs:Hs G h ((fun r=>r=kO b c (some (.mt e x c.length)))::L)):Hs G ((h.set b none).alloc (.cells c2 e2 (0,0) x2)) ((fun r=>r=kO h.next c2 (some (.mt e2 x2 c2.length)))::L):=by
 obtain⟨r,r2,hr,hr2,hd,hi,hi2⟩:=hs.fst
 subst hr
 obtain⟨hb,hg⟩:=Jg hi hi2
 have hget:∀j,(h.set b none).get j=if j=b then none else h.get j:=fun j=>AH.gY hb
 have hn2:∀j,(r2.tok j≠none∨∃o,r2.cell j o≠none)→j≠b:=by
  intro j hj hjb
  subst hjb
  rcases hj with h1|⟨o,h1⟩
  ·rcases hd.tok j with h|h
   ·simp[kO] at h
   ·exact h1 h
  ·rcases hd.cell j o with h|h
   ·simp only[kO,if_true] at h
    cases hc:r2.cell j o with
    |none=>exact h1 hc
    |some v=>
     obtain⟨_,c',_,_,g1,g2⟩:=hi2.cell j o v hc
     grind
   ·exact h1 h
 have hs':Hs G (h.set b none) L:=by
  refine⟨by simp;exact hs.base,by rw[AH.zH];exact hs.old,by simp;exact hs.wf,fun i hi=>by simp at hi;rw[hget];split;rfl;exact hs.fr i hi,r2,hr2,?_⟩
  exact hi2.of (by simp) (by simp) fun j hj=>by grind
 have:=hs'.new (c:=c2) (e:=e2) (x:=x2)
 rw[AH.jd] at this
 exact Hs.join (A:=[_,_]) this fun r hr=>rQ hr
theorem nJ {a:Option Addr} {n c:Nat}:tA (.slice a n c)=some n:=rfl
theorem yf {W bytes:Nat} {e:TypeId} {a:Option Addr} {c n m:Nat} {cs ns:List Value} {src:Value} {k:Value→AH→Prop} (hs:Hs G h L) [mm:Has (dB W e a c) L (n,cs) L']
  (hsrc:tA src=some m) (hns:fU h W m src=some ns) (hnb:ns.all eF=true) (hnl:ns.length=m*W) (hsz:(n+m)*(bytes+1)≤2^46)
  (hk:∀a' c' h',Hs G h' (dB W e a' c' (n+m,cs++ns)::L')→k (.slice a' (n+m) c') h'):bA (jB W bytes e h (.slice a n c) src) fun r=>k r.1 r.2:=by
 have hs0:=mm.of hs
 obtain⟨r,r2,hr,hr2,hd,hi,hi2⟩:=hs0.fst
 obtain⟨hl,hc,hr⟩:=hr
 simp only at hl hc hr
 have hcond:(!ns.all eF||ns.length !=m*W)=false:=by simp[hnb,hnl]
 have hall:(cs++ns).all eF=true:=by grind
 have hlen:(cs++ns).length=(n+m)*W:=by grind
 have newS:∀{h1:AH},Hs G h1 ((fun r=>r=kO h.next (cs++ns) (some (.mt e false (cs++ns).length)))::L')→Hs G h1 (dB W e (some ⟨h.next,0,none⟩) (n+m) (n+m,cs++ns)::L'):=by
  intro h1 hh
  refine Hs.join (A:=[_]) hh fun q hq=>?_
  obtain⟨q1,q2,e1,e2,e3,e4⟩:=hq
  cases e1;cases e2
  rw[cF.add_comm (s:=cF.emp) cF.dJ.symm,cF.fK] at e4
  exact⟨hlen,hall,.inr (.inr ⟨Nat.le_refl _,h.next,[],[],false,rfl,by grind,by simpa using e4⟩)⟩
 by_cases hm:m=0
 ·subst hm
  have:ns=[]:=List.eq_nil_of_length_eq_zero (by omega)
  subst this
  have hk':=hk a c h (by simpa using hs0)
  rcases hr with⟨rfl,hre,rfl,ha⟩|⟨rfl,rfl,b,o,cs2,rfl,_⟩|⟨hcap,b,pre,post,ex,rfl,hle,hrr⟩
  ·rcases ha with rfl|⟨b,o,rfl⟩
   ·exact⟨(.slice none 0 0,h),by simp[jB,hsrc,hns],by simpa using hk'⟩
   ·exact⟨(.slice _ 0 0,h),by simp[jB,hsrc,hns];rfl,by simpa using hk'⟩
  ·exact⟨(.slice _ 0 0,h),by simp[jB,hsrc,hns];rfl,by simpa using hk'⟩
  ·exact⟨(.slice _ n c,h),by simp[jB,hsrc,hns,hcap];rfl,by simpa using hk'⟩
 ·have hres:Hs G h L':=hs0.tail
  rcases hr with⟨rfl,hre,rfl,ha⟩|⟨rfl,rfl,b,o,cs2,rfl,ho,hrr⟩|⟨hcap,b,pre,post,ex,rfl,hle,hrr⟩
  ·have hcs:cs=[]:=List.eq_nil_of_length_eq_zero (by simpa using hl)
   subst hcs
   have hnew:=hres.new (c:=ns) (e:=e) (x:=false)
   have hn2:=newS (Hs.join (A:=[_,_]) hnew fun q hq=>rQ hq)
   have hfit:¬(0+m≤0):=by omega
   rcases ha with rfl|⟨b,o,rfl⟩
   ·refine⟨(.slice (some ⟨h.next,0,none⟩) m m,h.alloc (.cells ns e (0,0) false)),?_,by grind⟩
    simp only[jB,hsrc,hns,hcond,Bool.false_eq_true,if_false,hfit,hsz,if_true]
   ·refine⟨(.slice (some ⟨h.next,0,none⟩) m m,h.alloc (.cells ns e (0,0) false)),?_,by grind⟩
    simp only[jB,hsrc,hns,hcond,Bool.false_eq_true,if_false,hfit,hsz,if_true]
  ·have hcs:cs=[]:=List.eq_nil_of_length_eq_zero (by simpa using hl)
   subst hcs
   subst hrr
   obtain⟨hb,hg⟩:=Jg hi hi2
   have hs1:Hs G h ((fun r=>r=kO b cs2 (some (.mt e false cs2.length)))::L'):=⟨hs.base,hs.old,hs.wf,hs.fr,_,⟨_,r2,rfl,hr2,hd,rfl⟩,(cF.fA hd).2 ⟨hi,hi2⟩⟩
   have hn2:=newS (hs1.kill (c2:=ns) (e2:=e) (x2:=false))
   have hfit:¬(0+m≤0):=by omega
   refine⟨(.slice (some ⟨h.next,0,none⟩) m m,(h.set b none).alloc (.cells ns e (0,0) false)),?_,by simpa using hk _ _ _ hn2⟩
   have h12:¬(some 2=some 1):=by simp
   simp only[jB,hsrc,hns,hcond,Bool.false_eq_true,if_false,hfit,hsz,if_true,h12,hg,hb,ho,and_self]
  ·subst hrr
   obtain⟨hb,hg⟩:=Jg hi hi2
   by_cases hfit:n+m≤c
   ·
    have hW:(n+m)*W≤c*W:=Nat.mul_le_mul_right _ hfit
    rw[Nat.add_mul] at hW
    have hs1:Hs G h ((fun r=>r=kO b (pre++cs++post) (some (.mt e ex (pre++cs++post).length)))::L'):=⟨hs.base,hs.old,hs.wf,hs.fr,_,⟨_,r2,rfl,hr2,hd,rfl⟩,(cF.fA hd).2 ⟨hi,hi2⟩⟩
    have hs2:Hs G h (aE b 0 (pre++cs++post)::mt b (e,ex,(pre++cs++post).length)::L'):=hs1.imp (B:=[_,_]) fun q hq=>by subst hq;exact nZ
    have hpl:pre.length+cs.length+ns.length≤(pre++cs++post).length:=by grind
    by_cases hW0:ns.length=0
    ·
     have hns0:ns=[]:=List.eq_nil_of_length_eq_zero hW0
     subst hns0
     refine⟨(.slice (some ⟨b,pre.length,none⟩) (n+m) c,h.set b (some (.cells (bY (pre++cs++post) (pre.length+n*W) []) e (0,0) ex))),?_,?_⟩
     ·simp only[jB,hsrc,hns,hcond,Bool.false_eq_true,if_false,hfit,if_true,hm,Option.isSome_none,cX]
      simp only[dV,Option.isSome_none,Bool.false_or,List.all_nil,Bool.not_true,Bool.or_false,hg]
      grind
     ·have hsp:bY (pre++cs++post) (pre.length+n*W) []=pre++cs++post:=by simp only[bY,List.append_nil,List.length_nil,Nat.add_zero,List.take_append_drop]
      rw[hsp]
      refine hk _ _ _ ?_
      have:Hs G (h.set b (some (.cells (pre++cs++post) e (0,0) ex))) ((fun r=>r=kO b (pre++cs++post) (some (.mt e ex (pre++cs++post).length)))::L'):=by
       have hget:∀j,(h.set b (some (.cells (pre++cs++post) e (0,0) ex))).get j=h.get j:=fun j=>by
        rw[AH.gY hb];grind
       refine⟨by simp;exact hs.base,by rw[AH.zH];exact hs.old,by simp;exact hs.wf,fun i hi=>by simp at hi;rw[hget];exact hs.fr i hi,_,⟨_,r2,rfl,hr2,hd,rfl⟩,(cF.fA hd).2 ⟨?_,?_⟩⟩
       ·exact hi.of (by simp) (by simp) fun j _=>hget j
       ·exact hi2.of (by simp) (by simp) fun j _=>hget j
      refine Hs.join (A:=[_]) this fun q hq=>?_
      obtain⟨q1,q2,e1,e2,e3,e4⟩:=hq
      cases e1;cases e2
      rw[cF.add_comm (s:=cF.emp) cF.dJ.symm,cF.fK] at e4
      refine⟨hlen,hall,.inr (.inr ⟨hfit,b,pre,post,ex,rfl,?_,by simpa using e4⟩)⟩
      grind
    ·obtain⟨h',hst,hs3⟩:=hs2.write (j:=pre.length+cs.length) (vs:=ns) hpl hnb (by omega)
     rw[Nat.zero_add] at hst
     refine⟨(.slice (some ⟨b,pre.length,none⟩) (n+m) c,h'),?_,?_⟩
     ·simp only[jB,hsrc,hns,hcond,Bool.false_eq_true,if_false,hfit,if_true,hm,Option.isSome_none,cX]
      rw[←hl,hst];rfl
     ·refine hk _ _ _ ?_
      have hsp:bY (pre++cs++post) (pre.length+cs.length) ns=pre++(cs++ns)++post.drop ns.length:=by
       unfold bY
       rw[List.take_append_of_le_length (by simp),List.take_of_length_le (by simp),List.drop_append]
       have:(pre++cs).drop (pre.length+cs.length+ns.length)=[]:=List.drop_eq_nil_of_le (by simp)
       rw[this]
       simp only[List.length_append,List.nil_append,List.append_assoc]
       rw[show pre.length+cs.length+ns.length - (pre.length+cs.length)=ns.length by omega]
      rw[hsp] at hs3
      have hll:(pre++cs++post).length=(pre++(cs++ns)++post.drop ns.length).length:=by grind
      rw[hll] at hs3
      refine Hs.join (A:=[_,_]) hs3 fun q hq=>?_
      exact⟨hlen,hall,.inr (.inr ⟨hfit,b,pre,post.drop ns.length,ex,rfl,by rw[←hll];exact hle,rQ hq⟩)⟩
   ·
    have hs1:Hs G h ((fun r=>r=kO b (pre++cs++post) (some (.mt e ex (pre++cs++post).length)))::L'):=⟨hs.base,hs.old,hs.wf,hs.fr,_,⟨_,r2,rfl,hr2,hd,rfl⟩,(cF.fA hd).2 ⟨hi,hi2⟩⟩
    have hnW:n*W≤c*W:=Nat.mul_le_mul_right _ hcap
    have hold:cI h ⟨b,pre.length,none⟩ (n*W)=some cs:=by
     simp only[cI,Option.isSome_none,Bool.false_eq_true,if_false,hg]
     rw[if_pos (by omega)]
     simp only[Option.some.injEq]
     grind
    have h1:¬((none:Option Nat)=some 1):=by simp
    have h2:¬((none:Option Nat)=some 2):=by simp
    cases ex with
    |true=>
     have hn2:=newS (Hs.join (A:=[_,_]) (hres.new (c:=cs++ns) (e:=e) (x:=false)) fun q hq=>rQ hq)
     refine⟨(.slice (some ⟨h.next,0,none⟩) (n+m) (n+m),h.alloc (.cells (cs++ns) e (0,0) false)),?_,hk _ _ _ hn2⟩
     simp only[jB,hsrc,hns,hcond,Bool.false_eq_true,if_false,hfit,hsz,if_true,h1,h2,hold,hg,hc,Bool.not_true]
    |false=>
     have hn2:=newS (hs1.kill (c2:=cs++ns) (e2:=e) (x2:=false))
     refine⟨(.slice (some ⟨h.next,0,none⟩) (n+m) (n+m),(h.set b none).alloc (.cells (cs++ns) e (0,0) false)),?_,hk _ _ _ hn2⟩
     simp only[jB,hsrc,hns,hcond,Bool.false_eq_true,if_false,hfit,hsz,if_true,h1,h2,hold,hg,hc,Bool.not_true,hb,hle,and_self]
end Go.Ab
end
section
namespace Go.Ab
variable {P:Program} {K:FuncId→List Value→Option hJ} {G:Bg} {h:AH} {L L' M:List HP}
abbrev wr (x:Int):Int:=IntKind.i64.wrap x
theorem X3 {x:Int} (h: -9223372036854775808≤x∧x≤9223372036854775807):wr x=x:=IntWalk.i64_in _ (by omega)
section
variable {k:Value→Prop} {a b:Int} {x y:Value}
theorem Vi {α:Type} {o:Option α} {v:α} {k:α→Prop} (hv:o=some v) (hk:k v):bA o k:=⟨v,hv,hk⟩
theorem aA {b o j n:Nat} (hk:k (pt b o (j+n))):bA (gZ n (pt b o j)) k:=⟨_,by simp[gZ,pt,cX,Nat.add_assoc],hk⟩
theorem aB {b o j:Nat} (hk:k (pt b o j)):bA (mQ (pt b o j)) k:=⟨_,rfl,hk⟩
theorem aG {i:Nat} {vs:List Value} {v:Value} (hv:vs[i]?=some v) (hk:k v):bA (rE i (.tuple ⟨vs⟩)) k:=⟨v,hv,hk⟩
theorem Xn {j:Nat} {l:List Value} {v:Value} (hv:l[j]?=some v) (hk:k v):bA (sP j (.agg ⟨l⟩)) k:=⟨v,hv,hk⟩
theorem Gd {j n:Nat} {l m:List Value} (hn:Nat.ble (j+n) l.length=true) (hm:(l.drop j).take n=m) (hk:k (.agg ⟨m⟩)):bA (qX j n (.agg ⟨l⟩)) k:=
 ⟨_,by have:=Nat.le_of_ble_eq_true hn;simp[qX,this,hm],hk⟩
theorem bZ {a:Option Addr} {n c:Nat} (hk:k (I n)):bA (lA (.slice a n c)) k:=⟨_,rfl,hk⟩
theorem bE (h: -9223372036854775808≤a+b∧a+b≤9223372036854775807) (hk:k (I (a+b))):bA (uK .add (I a) (I b)) k:=⟨_,by show some (Value.int .i64 (wr (a+b)))=_;rw[X3 h],hk⟩
theorem Bh (h: -9223372036854775808≤a - b∧a - b≤9223372036854775807) (hk:k (I (a - b))):bA (uK .sub (I a) (I b)) k:=⟨_,by show some (Value.int .i64 (wr (a - b)))=_;rw[X3 h],hk⟩
theorem pO (h: -9223372036854775808≤a*b∧a*b≤9223372036854775807) (hk:k (I (a*b))):bA (uK .mul (I a) (I b)) k:=⟨_,by show some (Value.int .i64 (wr (a*b)))=_;rw[X3 h],hk⟩
theorem V1 (hk:k (I (wr (a+b)))):bA (uK .add (I a) (I b)) k:=⟨_,rfl,hk⟩
theorem Cs (ha:0≤a) (hb:0<b) (h:a≤9223372036854775807) (hk:k (I (a/b))):bA (uK .quo (I a) (I b)) k:=by
 refine⟨_,?_,hk⟩
 show Kh .quo .i64 a b=_
 simp only[Kh]
 rw[if_neg (by omega),Int.tdiv_eq_ediv_of_nonneg ha]
 have h1:0≤a/b:=Int.ediv_nonneg ha (by omega)
 have h2:a/b≤a:=Int.ediv_le_self b ha
 rw[show IntKind.i64.wrap (a/b)=a/b from X3 (by omega)]
theorem P2 (ha:0≤a) (hb:0<b) (hk:k (I (a % b))):bA (uK .rem (I a) (I b)) k:=by
 refine⟨_,?_,hk⟩
 show Kh .rem .i64 a b=_
 simp only[Kh]
 grind
theorem aB1 (hb:b≠0) (hk:k (I (a.tmod b))):bA (uK .rem (I a) (I b)) k:=by
 refine⟨_,?_,hk⟩
 show Kh .rem .i64 a b=_
 simp only[Kh]
 rw[if_neg hb]
theorem bH (hk:k (.bool (decide (a=b)))):bA (uK .eql (I a) (I b)) k:=⟨_,by show some (Value.bool (a==b))=_;rfl,hk⟩
theorem aY (hk:k (.bool (decide (a≠b)))):bA (uK .neq (I a) (I b)) k:=⟨_,by show some (Value.bool (a !=b))=_;grind,hk⟩
theorem aN (hk:k (.bool (decide (a<b)))):bA (uK .lss (I a) (I b)) k:=⟨_,rfl,hk⟩
theorem xJ (hk:k (.bool (decide (a≤b)))):bA (uK .leq (I a) (I b)) k:=⟨_,rfl,hk⟩
theorem iS (hk:k (.bool (decide (b<a)))):bA (uK .gtr (I a) (I b)) k:=⟨_,rfl,hk⟩
theorem dR (hk:k (.bool (decide (b≤a)))):bA (uK .geq (I a) (I b)) k:=⟨_,rfl,hk⟩
theorem Pc {b o j:Nat} (hk:k (.bool true)):bA (Tv .neq (pt b o j) (.pointer none)) k:=⟨_,rfl,hk⟩
theorem cN {b o j:Nat} (hk:k (.bool false)):bA (Tv .eql (pt b o j) (.pointer none)) k:=⟨_,rfl,hk⟩
theorem bS {b:Bool} (hk:k (.bool !b)):bA (Yi .not (.bool b)) k:=⟨_,rfl,hk⟩
theorem dK {b o n c sz i:Nat} (h1:i<n) (hk:k (pt b (o+i*sz) 0)):bA (lJ sz (.slice (some ⟨b,o,none⟩) n c) (I i)) k:=⟨_,by simp[lJ,h1,cX,pt],hk⟩
theorem eZ {b o j n sz:Nat} (h0:0≤a) (h1:a<n) (hk:k (pt b o (j+a.toNat*sz))):bA (pF n sz (pt b o j) (I a)) k:=⟨_,by simp[pF,h0,h1,cX,pt,Nat.add_assoc],hk⟩
theorem bP {c:Prop} [Decidable c] {p q:Prop} (h:c) (hp:p):Br (.bool (decide c)) p q:=⟨_,rfl,fun _=>hp,fun hh=>absurd h (by simpa using hh)⟩
theorem aK {c:Prop} [Decidable c] {p q:Prop} (h:¬c) (hq:q):Br (.bool (decide c)) p q:=⟨_,rfl,fun hh=>absurd (by simpa using hh) h,fun _=>hq⟩
theorem aR {c:Prop} [Decidable c] {p q:Prop} (hp:c→p) (hq:¬c→q):Br (.bool (decide c)) p q:=⟨_,rfl,fun hh=>hp (by simpa using hh),fun hh=>hq (by simpa using hh)⟩
theorem eQ {p q:Prop} (hp:p):Br (.bool true) p q:=tg.2 hp
theorem bV {p q:Prop} (hq:q):Br (.bool false) p q:=lr.2 hq
theorem cU {b:Bool} {p q:Prop} (hp:b=true→p) (hq:b=false→q):Br (.bool b) p q:=⟨_,rfl,hp,hq⟩
theorem dQ {b:Bool} {p q:Prop} (h:Br (.bool b) q p):Br (.bool !b) p q:=by obtain⟨c,hc,h1,h2⟩:=h;cases hc;cases b;exact⟨_,rfl,fun _=>h2 rfl,fun h=>(by cases h)⟩;simp_all
end
theorem aH {z c:List Value} {ps:List (Nat×Nat×Value)} {k:List Value→Prop} (hv:nI z ps=some c) (hk:k c):bA (nI z ps) k:=⟨c,hv,hk⟩
theorem cQ {p q:Prop} (hp:p) (hq:q):p∧q:=⟨hp,hq⟩
theorem gC {a:Int}:mS (I a) (I a)=true:=by simp[mS]
theorem aD0 {a:Bool}:mS (.bool a) (.bool a)=true:=by simp[mS]
theorem dA {b o j:Nat}:mS (pt b o j) (pt b o j)=true:=by simp[mS,pt]
theorem S0 {a:Option Addr} {n c:Nat}:mS (.slice a n c) (.slice a n c)=true:=by simp[mS]
theorem rT {g:FuncId} {first captured:Array Value} {l:Nat} {q:Value→AH→Prop} (hc:fN P g=true) (hk:Cl P K g (first.toList++[.func (.yield l) #[] #[]]++captured.toList) h q):Xm P K (.func (.func g) first captured) l h q:=⟨hc,hk⟩
theorem nA {g:FuncId} {first captured:Array Value} {args:List Value} {q:Value→AH→Prop} (hc:fN P g=true) (hk:Cl P K g (first.toList++args++captured.toList) h q):zV P K (.func (.func g) first captured) args h q:=⟨hc,hk⟩
end Go.Ab
end
section
namespace Go.Ab
variable {P:Program} {K:FuncId→List Value→Option hJ} {G:Bg} {h:AH} {L L' M:List HP}
def sp (A:List HP):HP:=fun r=>star A r
theorem Hs.pack {A:List HP} (hs:Hs G h (A++L)):Hs G h (sp A::L):=hs.join fun _ h=>h
theorem Hs.unpack {A:List HP} (hs:Hs G h (sp A::L)):Hs G h (A++L):=hs.imp fun _ h=>h
def rY {α:Type} (A:α→HP):HP:=fun r=>∃x,A x r
theorem Hs.uH {α:Type} {A:α→HP} (x:α) (hs:Hs G h (A x::L)):Hs G h (rY A::L):=Hs.join (A:=[A x]) hs fun r hr=>by
 obtain⟨r1,r2,h1,h2,_,h4⟩:=hr
 cases h2
 rw[cF.add_comm (s:=cF.emp) cF.dJ.symm,cF.fK] at h4
 subst h4;exact⟨x,h1⟩
theorem Qj {A:HP} {r:cF}:star [A] r↔A r:=by
 constructor
 ·intro⟨r1,r2,h1,h2,_,h4⟩
  cases h2
  rw[cF.add_comm (s:=cF.emp) cF.dJ.symm,cF.fK] at h4
  subst h4;exact h1
 ·intro hr
  exact⟨r,cF.emp,hr,rfl,cF.dJ.symm,by rw[cF.add_comm (s:=cF.emp) cF.dJ.symm,cF.fK]⟩
theorem Hs.zE {α:Type} {A:α→HP} (hs:Hs G h (rY A::L)):∃x,Hs G h (A x::L):=by
 obtain⟨r,r2,⟨x,hx⟩,h2,h3,h4,h5⟩:=hs.fst
 exact⟨x,hs.base,hs.old,hs.wf,hs.fr,_,⟨r,r2,hx,h2,h3,rfl⟩,(cF.fA h3).2 ⟨h4,h5⟩⟩
def uI (p:Prop):HP:=fun r=>p∧r=cF.emp
theorem Hs.N9 {p:Prop} (hp:p) (hs:Hs G h L):Hs G h (uI p::L):=Hs.join (A:=[]) hs fun _ hr=>⟨hp,hr⟩
theorem Hs.bq {p:Prop} (hs:Hs G h (uI p::L)):p∧Hs G h L:=by
 obtain⟨r,_,⟨hp,_⟩,_⟩:=hs.fst
 exact⟨hp,hs.tail⟩
def dD (n:Nat) (f:Nat→HP):HP:=sp ((List.range n).map f)
theorem Ix {n i:Nat} {f:Nat→HP} (hi:i<n):((List.range n).map f).Perm (f i::((List.range n).erase i).map f):=by
 have:(List.range n).Perm (i::(List.range n).erase i):=List.perm_cons_erase (List.mem_range.2 hi)
 exact this.map f
theorem Hs.kY {n:Nat} {f:Nat→HP} (hs:Hs G h (dD n f::L)) (i:Nat) (hi:i<n):Hs G h (f i::sp (((List.range n).erase i).map f)::L):=by
 have h1:=hs.unpack.perm ((Ix hi).append_right L)
 have h2:Hs G h (((List.range n).erase i).map f++f i::L):=h1.perm (by simpa using List.perm_middle.symm)
 exact(h2.pack).perm (List.Perm.swap _ _ _)
theorem Hs.jx {n i:Nat} {f g:Nat→HP} (hi:i<n) (he:∀j,j≠i→g j=f j) (hs:Hs G h (g i::sp (((List.range n).erase i).map f)::L)):Hs G h (dD n g::L):=by
 have h1:=(hs.perm (List.Perm.swap _ _ _)).unpack
 have hm:((List.range n).erase i).map f=((List.range n).erase i).map g:=List.map_congr_left fun j hj=>by
  have:j≠i:=by
   intro e
   subst e
   exact List.Nodup.not_mem_erase List.nodup_range hj
  grind
 rw[hm] at h1
 refine(h1.perm ?_).pack
 exact(List.perm_middle.trans ((Ix hi).symm.append_right L))
theorem qP {n:Nat} {f g:Nat→HP} (he:∀j,j<n→g j=f j) (hs:Hs G h (dD n f::L)):Hs G h (dD n g::L):=by
 have:(List.range n).map f=(List.range n).map g:=List.map_congr_left fun j hj=>(he j (List.mem_range.1 hj)).symm
 unfold dD at hs ⊢
 grind
theorem Hs.Tl {f:Nat→HP} (hs:Hs G h L):Hs G h (dD 0 f::L):=Hs.pack (A:=[]) hs
theorem Hs.Si {n:Nat} {f:Nat→HP} (hs:Hs G h (f n::dD n f::L)):Hs G h (dD (n+1) f::L):=by
 have h1:=(hs.perm (List.Perm.swap _ _ _)).unpack
 refine Hs.pack (A:=(List.range (n+1)).map f) (h1.perm ?_)
 rw[List.range_succ,List.map_append]
 simp
theorem zV.mono {f:Value} {args:List Value} {Q Q':Value→AH→Prop} (k:zV P K f args h Q) (hq:∀v h',Q v h'→Q' v h'):zV P K f args h Q':=by
 unfold zV at k ⊢
 split at k
 ·exact⟨k.1,Ok.mono k.2 fun _ _=>hq _ _⟩
 ·exact Ok.mono k fun _ _=>hq _ _
 ·cases k
theorem Z3 {l:Nat} {args:List Value} {Q:Value→AH→Prop} (k:Ok P K (.round l args) h fun o h'=>Q o.v h'):zV P K (.func (.yield l) #[] #[]) args h Q:=by
 simpa [zV] using k
def gu (P:Program) (K:FuncId→List Value→Option hJ) (G:Bg) (f:FuncId) (first captured:List Value) (A:HP) (xs:List (List Value)):Prop:=
 ∀(I:List (List Value)→HP) (J:HP) (y:Value) (L:List HP) (h:AH) (Q:Value→AH→Prop),Hs G h (A::I xs::L)→
  (∀x rest h M,Hs G h (I (x::rest)::M)→zV P K y x h fun v h'=>(v= .bool true∧Hs G h' (I rest::M))∨(v= .bool false∧Hs G h' (J::M)))→
  (∀v h',Hs G h' (A::I []::L)→Q v h')→(∀v h',Hs G h' (A::J::L)→Q v h')→Cl P K f (first++[y]++captured) h Q
class dP (A:HP) (L:List HP) (L':outParam (List HP)):Prop where
 perm:L.Perm (A::L')
instance (priority:=low) dP.there {A B:HP} [k:dP A L L']:dP A (B::L) (B::L'):=⟨(k.perm.cons B).trans (List.Perm.swap _ _ _)⟩
instance (priority:=high) dP.here {A:HP}:dP A (A::L) L:=⟨List.Perm.refl _⟩
instance (priority:=high) dP.app {A B:HP} {L1 L2:List HP} [k:dP A (B::(L1++L2)) L']:dP A ((B::L1)++L2) L':=k
instance (priority:=high) dP.aBr {A:HP} {L2:List HP} [k:dP A L2 L']:dP A ([]++L2) L':=k
class Sub (L M:List HP):Prop where
 to:∀r,star L r→∃r1 r2,star M r1∧r1.sZ r2∧r=r1.add r2
theorem va {r:cF}:r.add cF.emp=r:=by rw[cF.add_comm cF.dJ.symm,cF.fK]
instance (priority:=low) Sub.skip {A:HP} [k:Sub L M]:Sub (A::L) M:=⟨fun r ⟨r1,r2,h1,h2,h3,h4⟩=>by
 obtain⟨s1,s2,g1,g2,g3⟩:=k.to r2 h2
 subst g3
 obtain⟨d1,d2⟩:=cF.gW.1 h3
 exact⟨s1,r1.add s2,g1,cF.gW.2 ⟨d1.symm,g2⟩,by rw[h4,←cF.add_assoc,←cF.add_assoc,cF.add_comm d1]⟩⟩
instance Sub.take {A:HP} [k:dP A L L'] [k2:Sub L' M]:Sub L (A::M):=⟨fun r hr=>by
 obtain⟨r1,r2,h1,h2,h3,h4⟩:=D2 k.perm r hr
 obtain⟨s1,s2,g1,g2,g3⟩:=k2.to r2 h2
 subst g3
 obtain⟨d1,d2⟩:=cF.gW.1 h3
 exact⟨r1.add s1,s2,⟨r1,s1,h1,g1,d1,rfl⟩,(cF.gW.2 ⟨d2.symm,g2.symm⟩).symm,by rw[h4,cF.add_assoc]⟩⟩
instance (priority:=high) Sub.refl:Sub L L:=⟨fun r hr=>⟨r,cF.emp,hr,cF.dJ.symm,va.symm⟩⟩
instance (priority:=high) Sub.app {A:HP} {L1 L2:List HP} [k:Sub L (A::(L1++L2))]:Sub L ((A::L1)++L2):=k
instance (priority:=high) Sub.aBr {L2:List HP} [k:Sub L L2]:Sub L ([]++L2):=k
instance (priority:=high) Sub.aH0 {A:HP} {L1 L2:List HP} [k:Sub (A::(L1++L2)) M]:Sub ((A::L1)++L2) M:=k
instance (priority:=high) Sub.sp {A:List HP} [k:Sub L (A++M)]:Sub L (sp A::M):=⟨fun r hr=>by
 obtain⟨s1,s2,g1,g2,g3⟩:=k.to r hr
 obtain⟨q1,q2,e1,e2,e3,e4⟩:=hQ.1 g1
 exact⟨s1,s2,⟨q1,q2,e1,e2,e3,e4⟩,g2,g3⟩⟩
theorem Hs.to (hs:Hs G h L) [k:Sub L M]:Hs G h M:=⟨hs.base,hs.old,hs.wf,hs.fr,by
 obtain⟨r,h1,h2⟩:=hs.res
 obtain⟨r1,r2,g1,g2,g3⟩:=k.to r h1
 subst g3
 exact⟨r1,g1,((cF.fA g2).1 h2).1⟩⟩
theorem Hs.kA {A B:HP} (hs:Hs G h (B::A::L)):Hs G h (A::B::L):=hs.perm (List.Perm.swap _ _ _)
theorem wK {p:Prop} {A:List HP} (hp:p) (hs:Hs G h (sp A::L)):Hs G h (sp (uI p::A)::L):=Hs.pack (A:=uI p::A) (Hs.N9 hp hs.unpack)
theorem fP {p:Prop} {A:List HP} (hs:Hs G h (sp (uI p::A)::L)):p∧Hs G h (sp A::L):=let⟨a,b⟩:=Hs.bq hs.unpack;⟨a,b.pack⟩
theorem mC {a b:Prop} {c:List (Nat×Prop)} (hk:a):uE none a b c:=hk
theorem qs {a b:Prop} {c:List (Nat×Prop)} (hk:b):uE (some .ret) a b c:=hk
theorem Hj {a b q:Prop} {c:List (Nat×Prop)} {id:Nat} (hq:c.lookup id=some q) (hk:q):uE (some (.exit id)) a b c:=by simp only[uE,hq];exact hk
theorem aD8 {b o j m:Nat} (h:m≤j):pt b o j=pt b (o+m) (j - m):=by simp only[pt];grind
end Go.Ab
end
section
namespace Go.Ab
variable {P:Program} {K:FuncId→List Value→Option hJ} {G:Bg} {h:AH} {L L' M:List HP}
class Cv (v:Value) (cs:outParam (List Value)):Prop where
 eq:iB v=some cs
instance {a:Int}:Cv (I a) [I a]:=⟨rfl⟩
instance {a:Bool}:Cv (.bool a) [.bool a]:=⟨rfl⟩
instance {b o j:Nat}:Cv (pt b o j) [pt b o j]:=⟨rfl⟩
instance {a:Option Addr}:Cv (.pointer a) [.pointer a]:=⟨rfl⟩
instance {a:Option Addr} {n c:Nat}:Cv (.slice a n c) [.slice a n c]:=⟨rfl⟩
instance {l:List Value}:Cv (.agg ⟨l⟩) l:=⟨rfl⟩
instance {f:Fn} {a b:Array Value}:Cv (.func f a b) [.func f a b]:=⟨rfl⟩
theorem dI {cs:List Value} {e:TypeId} {v:Value} {k:Nat→AH→Prop} (hs:Hs G h L) [hv:Cv v cs] (hk:∀p h',Hs G h' (aE p 0 cs::L)→k p h'):bA (lI e v) fun b=>Dp h b k:=aCj hs hv.eq hk
theorem xQ {r i n:Nat} {D:List Nat} {cs:List Value} {v:Value} {e:TypeId} {k:Nat→AH→Prop} (hs:Hs G h L) [m:Has (Yn r) L (n,D) L'] [hv:Cv v cs] (hi:Nat.blt i n=true) (hD:D.contains i=false)
  (hk:∀p h',Hs G h' (aE p 0 cs::Yn r (n,i::D)::L')→k p h'):bA (lI e v) fun b=>nH h (r+i) b k:=s8 hs hv.eq hi hD hk
theorem bI {b o j n:Nat} {c vs:List Value} {v:Value} {k:AH→Prop} (hs:Hs G h L) [m:Has (aE b o) L c L'] [hv:Cv v vs] (hn:vs.length=n) (hl:Nat.ble (j+n) c.length=true) (hb:vs.all eF=true) (h0:Nat.ble 1 c.length=true)
  (hk:∀h',Hs G h' (aE b o (dL c j vs)::L')→k h'):bA (uU h n (pt b o j) v) k:=aCm hs hv.eq hn hl hb h0 hk
theorem P9:∀(c vs:List Value),c.length=vs.length→dL c 0 vs=vs
 |[],[],_=>rfl
 |_::c,v::vs,h=>by simp only[dL];rw[P9 c vs (by simpa using h)]
theorem aZ {b o n:Nat} {c vs:List Value} {v:Value} {k:AH→Prop} (hs:Hs G h L) [m:Has (aE b o) L c L'] [hv:Cv v vs] (hl:Nat.beq c.length n=true) (h0:Nat.ble 1 n=true) (hn:vs.length=n) (hb:vs.all eF=true)
  (hk:∀h',Hs G h' (aE b o vs::L')→k h'):bA (uU h n (pt b o 0) v) k:=by
 have hl:=Nat.eq_of_beq_eq_true hl
 refine aCm hs hv.eq hn (by rw[hl];simp) hb (by rw[hl];exact h0) ?_
 rw[P9 c vs (by omega)];exact hk
structure LpX where
 P:Program
 f:FuncId
 p:List Nat
 n:Nat
 e:Nat→Value
 d:Nat
 st:LoopState
 pd:Option Code
class mI (l:Nat) (L:List HP) (x:outParam LpX) (L':outParam (List HP)):Prop where
 perm:L.Perm (jY x.P x.f x.p x.n x.e x.d l (x.st,x.pd)::L')
instance (priority:=low) mI.there {l:Nat} {A:HP} {x:LpX} [k:mI l L x L']:mI l (A::L) x (A::L'):=⟨(k.perm.cons A).trans (List.Perm.swap _ _ _)⟩
instance (priority:=high) mI.here {l:Nat} {f:FuncId} {p:List Nat} {n:Nat} {e:Nat→Value} {d:Nat} {st:LoopState} {pd:Option Code}:mI l (jY P f p n e d l (st,pd)::L) ⟨P,f,p,n,e,d,st,pd⟩ L:=⟨List.Perm.refl _⟩
instance (priority:=high) mI.app {l:Nat} {A:HP} {L1 L2:List HP} {x:LpX} [k:mI l (A::(L1++L2)) x L']:mI l ((A::L1)++L2) x L':=k
instance (priority:=high) mI.aBr {l:Nat} {L2:List HP} {x:LpX} [k:mI l L2 x L']:mI l ([]++L2) x L':=k
theorem mI.of {l:Nat} {x:LpX} [k:mI l L x L'] (hs:Hs G h L):Hs G h (jY x.P x.f x.p x.n x.e x.d l (x.st,x.pd)::L'):=hs.perm k.perm
section
variable {f:FuncId} {p:List Nat} {n:Nat} {e:Nat→Value} {d l:Nat} {st st':LoopState} {pd pd':Option Code}
theorem iE {k:AH→Prop} (hs:Hs G h L) [m:mI l L ⟨P,f,p,n,e,d,st,pd⟩ L'] (hk:∀h',Hs G h' (jY P f p n e d l (st',pd')::L')→k h'):bA (cS h l st' (some pd')) k:=aDi (show Hs G h (jY P f p n e d l (st,pd)::L') from m.of hs) hk
theorem gU {k:AH→Prop} (hs:Hs G h L) [m:mI l L ⟨P,f,p,n,e,d,.ready,pd⟩ L'] (hk:∀h',Hs G h' (jY P f p n e d l (.busy,pd)::L')→k h'):bA (lC h l) k:=x7 (show Hs G h (jY P f p n e d l (.ready,pd)::L') from m.of hs) hk
theorem mE {k:Option Code×AH→Prop} (hs:Hs G h L) [m:mI l L ⟨P,f,p,n,e,d,.ready,pd⟩ L'] (hk:∀h',Hs G h' L'→k (pd,h')):bA (sS h l) k:=
 po (P:=P) (f:=f) (p:=p) (n:=n) (e:=e) (d:=d) (st:= .ready) (pd:=pd) (k:=fun a b=>k (a,b)) (show Hs G h (jY P f p n e d l (.ready,pd)::L') from m.of hs) (by decide) hk
theorem ee {k:Nat→Prop} (hs:Hs G h L) [m:mI l L ⟨P,f,p,n,e,d,st,pd⟩ L'] (hk:k d):bA (gK h l) k:=jr (P:=P) (f:=f) (p:=p) (n:=n) (e:=e) (d:=d) (st:=st) (pd:=pd) (show Hs G h (jY P f p n e d l (st,pd)::L') from m.of hs) hk
theorem rS (hs:Hs G h L) [m:mI l L ⟨P,f,p,n,e,d,st,pd⟩ L']:h.get l=some (lp P f p n e d st pd):=aFm (show Hs G h (jY P f p n e d l (st,pd)::L') from m.of hs)
end
theorem Ya {W:Nat} {e:TypeId} {a:Option Addr} {c n:Nat} {cs:List Value} (hs:Hs G h (dB W e a c (n,cs)::L)):fU h W n (.slice a n c)=some cs:=by
 have hl:=hs.A4
 simp only at hl
 by_cases h0:n=0
 ·subst h0
  have:cs=[]:=List.eq_nil_of_length_eq_zero (by omega)
  subst this
  cases a<;>simp[fU]
 ·obtain⟨b,o,rfl,H,hs2,_⟩:=hs.mU (by omega)
  simp only[fU,if_neg h0,Nat.le_refl,if_true]
  by_cases hW:n*W=0
  ·have:cs=[]:=List.eq_nil_of_length_eq_zero (by omega)
   subst this
   obtain⟨r,r2,hr,hr2,hd,hi,hi2⟩:=hs.fst
   obtain⟨_,_,hr⟩:=hr
   rcases hr with⟨hz,_⟩|⟨hz,_⟩|⟨hcap,b',pre,post,ex,ha,hle,hrr⟩
   ·simp at hz;omega
   ·simp at hz;omega
   ·cases ha
    subst hrr
    obtain⟨hb,hg⟩:=Jg hi hi2
    simp only[cI,Option.isSome_none,Bool.false_eq_true,if_false,hg,hW]
    grind
  ·obtain⟨hb,c',e',x',hg,hle,hall⟩:=hs2.cells (by omega)
   simp only[cI,Option.isSome_none,Bool.false_eq_true,if_false,hg]
   rw[if_pos (by omega)]
   congr 1
   refine List.ext_getElem? fun j=>?_
   grind
theorem pW {W bytes:Nat} {e:TypeId} {a a2:Option Addr} {c c2 n m:Nat} {cs ns:List Value} {k:Value×AH→Prop} (hs:Hs G h L) [mm:Has (dB W e a c) L (n,cs) L'] [mn:Has (dB W e a2 c2) L' (m,ns) M] (hsz:(n+m)*(bytes+1)≤2^46)
  (hk:∀a' c' h',Hs G h' (dB W e a' c' (n+m,cs++ns)::L')→k (.slice a' (n+m) c',h')):bA (jB W bytes e h (.slice a n c) (.slice a2 m c2)) k:=by
 have hs2:=mn.of (mm.of hs).tail
 exact yf (k:=fun x y=>k (x,y)) hs nJ (Ya hs2) hs2.Ca hs2.A4 hsz hk
theorem Hs.front (A:HP) (hs:Hs G h L) [k:dP A L L']:Hs G h (A::L'):=hs.perm k.perm
theorem Hs.cA (A B:HP) (hs:Hs G h L) [k:dP A L L'] [k2:dP B L' M]:Hs G h (A::B::M):=hs.perm (k.perm.trans (k2.perm.cons A))
end Go.Ab
end
section
namespace Go.Ab
variable {P:Program} {K:FuncId→List Value→Option hJ} {G:Bg} {h:AH} {L L' M:List HP}
structure qq (G:Bg) (W:Nat) (e:TypeId) (a:Option Addr) (cap n b o:Nat) where
 p:HP
 back:∀(h':AH) (cs':List Value) (M:List HP),cs'.length=n*W→cs'.all eF=true→Hs G h' (aE b o cs'::p::M)→Hs G h' (dB W e a cap (n,cs')::M)
def hole (G:Bg) (W:Nat) (e:TypeId) (a:Option Addr) (cap n b o:Nat):HP:=rY fun H:qq G W e a cap n b o=>H.p
theorem Hs.fM {W:Nat} {e:TypeId} {a:Option Addr} {cap n:Nat} {cs:List Value} (hs:Hs G h (dB W e a cap (n,cs)::L)) (h0:0<n):
  ∃b o,a=some ⟨b,o,none⟩∧Hs G h (aE b o cs::hole G W e a cap n b o::L):=by
 have hl:=hs.A4
 simp only at hl
 obtain⟨b,o,ha,H,hs',hc⟩:=hs.mU h0
 exact⟨b,o,ha,Hs.kA (Hs.uH (A:=fun H:qq G W e a cap n b o=>H.p) ⟨H,fun h' cs' M h1 h2 h3=>hc h' cs' M (h1.trans hl.symm) h2 h3⟩ hs'.kA)⟩
theorem Hs.mL {W:Nat} {e:TypeId} {a:Option Addr} {cap n b o:Nat} {cs:List Value} (hs:Hs G h (aE b o cs::hole G W e a cap n b o::L)) (hl:cs.length=n*W) (hc:cs.all eF=true):Hs G h (dB W e a cap (n,cs)::L):=by
 obtain⟨⟨H,hH⟩,hs⟩:=Hs.zE (A:=fun H:qq G W e a cap n b o=>H.p) hs.kA
 exact hH _ _ _ hl hc hs.kA
theorem Xy {b o W:Nat} {c:Nat→List Value} (hc:∀i,(c i).length=W):∀(n:Nat) (L:List HP),Hs G h (aE b o ((List.range n).flatMap c)::L)→Hs G h (dD n (fun i=>aE b (o+i*W) (c i))::L):=by
 intro n
 induction n with
 |zero=>intro L hs;exact Hs.Tl hs.tail
 |succ n ih=>
  intro L hs
  rw[List.range_succ,List.flatMap_append] at hs
  have hl:∀m,((List.range m).flatMap c).length=m*W:=fun m=>by
   induction m with
   |zero=>simp
   |succ m ih2=>rw[List.range_succ,List.flatMap_append,List.length_append,ih2];grind
  have hs:=hs.split
  simp only[List.flatMap_cons,List.flatMap_nil,List.append_nil,hl] at hs
  exact Hs.Si (Hs.kA (ih _ hs))
theorem xt {b o W:Nat} {c:Nat→List Value} (hc:∀i,(c i).length=W) (_:0<W):∀(n:Nat) (L:List HP),0<n→Hs G h (dD n (fun i=>aE b (o+i*W) (c i))::L)→Hs G h (aE b o ((List.range n).flatMap c)::L):=by
 intro n
 have hl:∀m,((List.range m).flatMap c).length=m*W:=fun m=>by
  induction m with
  |zero=>simp
  |succ m ih2=>rw[List.range_succ,List.flatMap_append,List.length_append,ih2];grind
 induction n with
 |zero=>intro L h0;omega
 |succ n ih=>
  intro L _ hs
  have hs:=hs.unpack
  rw[List.range_succ,List.map_append,List.append_assoc] at hs
  have hs:Hs G h (dD n (fun i=>aE b (o+i*W) (c i))::aE b (o+n*W) (c n)::L):=Hs.pack hs
  rw[List.range_succ,List.flatMap_append]
  simp only[List.flatMap_cons,List.flatMap_nil,List.append_nil]
  rcases Nat.eq_zero_or_pos n with h0|h0
  ·simp_all
  ·exact Hs.F4 (ih _ h0 hs) (by rw[hl])
theorem Hs.Hd {f g:Nat→HP}:∀(n:Nat) (L:List HP),(∀i,i<n→∀h L,Hs G h (f i::L)→Hs G h (g i::L))→Hs G h (dD n f::L)→Hs G h (dD n g::L):=by
 intro n
 induction n with
 |zero=>intro L _ hs;exact Hs.Tl hs.tail
 |succ n ih=>
  intro L hk hs
  have hs:=hs.unpack
  rw[List.range_succ,List.map_append,List.append_assoc] at hs
  have hs:Hs G h (dD n f::f n::L):=Hs.pack hs
  exact Hs.Si (hk n (Nat.lt_succ_self n) _ _ (ih _ (fun i hi=>hk i (by omega)) hs).kA)
theorem Hs.aBl {f g k:Nat→HP} (hk:∀i h L,Hs G h (f i::g i::L)→Hs G h (k i::L)):∀(n:Nat) (L:List HP),Hs G h (dD n f::dD n g::L)→Hs G h (dD n k::L):=by
 intro n
 induction n with
 |zero=>intro L hs;exact Hs.Tl hs.tail.tail
 |succ n ih=>
  intro L hs
  have hs:=hs.unpack
  rw[List.range_succ,List.map_append,List.append_assoc] at hs
  have hs:Hs G h (dD n f::f n::dD (n+1) g::L):=Hs.pack hs
  have hs:Hs G h (dD (n+1) g::f n::dD n f::L):=hs.to
  have hs:=hs.unpack
  rw[List.range_succ,List.map_append,List.append_assoc] at hs
  have hs:Hs G h (dD n g::g n::f n::dD n f::L):=Hs.pack hs
  have hs:Hs G h (dD n f::dD n g::f n::g n::L):=hs.to
  have hs:=ih _ hs
  exact Hs.Si (hk n _ _ (hs.to (M:=[f n,g n,dD n k]++L)))
theorem Yf {n i:Nat} {l:List Value} {v:Value} {k:Value→Prop} (hi:i<n) (hl:l[i]?=some v) (hk:k v):bA (P0 n 1 (.agg ⟨l⟩) (I i)) k:=⟨v,by simp[P0,hi,hl],hk⟩
theorem fQ {b o j n sz i:Nat} {k:Value→Prop} (hi:i<n) (hk:k (pt b o (j+i*sz))):bA (pF n sz (pt b o j) (I i)) k:=⟨_,by simp[pF,hi,cX,pt,Nat.add_assoc],hk⟩
theorem yx {bytes n:Nat} {k:Nat×Nat→Prop} (hn:n≤2^40) (hb:bytes*n≤2^47) (hk:k (n,n)):bA (Iw bytes (I n) (I n)) k:=⟨_,by simp only[Iw];grind,hk⟩
theorem iN {b o j n:Nat} {c l:List Value} {k:Value→Prop} (hs:Hs G h L) [m:Has (aE b o) L c L'] (hn:0<n) (hc:(c.drop j).take n=l) (hl:l.length=n) (hk:k (.agg ⟨l⟩)):bA (uC h n (pt b o j)) k:=aQ hs hn hc hl hk
theorem aAw {b n:Nat} {c:List Value} {k:Value→Prop} (hs:Hs G h L) (ho:Ob G b c) (hn:c.length=n) (hk:k (.agg ⟨c⟩)):bA (uC h n (.pointer (some ⟨b,0,none⟩))) k:=
 T2 (o:=0) (j:=0) hs ho (by rw[←hn];simp) hn (by simp) hk
def bT {α:Type} (f:Nat→α) (i:Nat) (v:α):Nat→α:=fun j=>if j=i then v else f j
theorem gP {α:Type} {f:Nat→α} {i:Nat} {v:α}:bT f i v i=v:=by simp[bT]
theorem yZ {α:Type} {f:Nat→α} {i j:Nat} {v:α} (h:j≠i):bT f i v j=f j:=by simp[bT,h]
theorem pJ {W:Nat} {c:Nat→List Value} (hc:∀i,(c i).length=W) (m:Nat):((List.range m).flatMap c).length=m*W:=by
 induction m with
 |zero=>simp
 |succ m ih2=>rw[List.range_succ,List.flatMap_append,List.length_append,ih2];grind
theorem u9 {W:Nat} {c:Nat→List Value} (hc:∀i,(c i).length=W) {i:Nat}:∀(n:Nat),i<n→∃pre post,(List.range n).flatMap c=pre++(c i++post)∧pre.length=i*W∧∀x,(List.range n).flatMap (bT c i x)=pre++(x++post):=by
 intro n
 induction n with
 |zero=>intro h;omega
 |succ n ih=>
  intro h
  by_cases hi:i=n
  ·subst hi
   refine⟨(List.range i).flatMap c,[],?_,pJ hc i,fun x=>?_⟩
   ·rw[List.range_succ,List.flatMap_append];simp
   ·rw[List.range_succ,List.flatMap_append]
    congr 1
    ·rw[List.flatMap_def,List.flatMap_def]
     congr 1
     exact List.map_congr_left fun j hj=>yZ (by grind)
    ·simp[gP]
  ·obtain⟨pre,post,h1,h2,h3⟩:=ih (by omega)
   refine⟨pre,post++c n,?_,h2,fun x=>?_⟩
   ·rw[List.range_succ,List.flatMap_append,h1];simp
   ·rw[List.range_succ,List.flatMap_append,h3]
    simp[yZ (Ne.symm hi)]
theorem Hs.jg {W:Nat} {e:TypeId} {a:Option Addr} {cap n i:Nat} {c:Nat→List Value} (hc:∀i,(c i).length=W) (hi:i<n) (hs:Hs G h (dB W e a cap (n,(List.range n).flatMap c)::L)):
  ∃b o,a=some ⟨b,o,none⟩∧∃H:HP,Hs G h (aE b (o+i*W) (c i)::H::L)∧∀h' x M,x.length=W→x.all eF=true→Hs G h' (aE b (o+i*W) x::H::M)→Hs G h' (dB W e a cap (n,(List.range n).flatMap (bT c i x))::M):=by
 have hcell:=hs.Ca
 simp only at hcell
 obtain⟨b,o,ha,hs⟩:=hs.fM (by omega)
 obtain⟨pre,post,h1,h2,h3⟩:=u9 hc n hi
 rw[h1] at hs hcell
 have hs:=hs.split.kA.split
 rw[h2] at hs
 refine⟨b,o,ha,sp [aE b o pre,aE b (o+i*W+(c i).length) post,hole G W e a cap n b o],?_,?_⟩
 ·exact(Hs.pack (A:=[aE b o pre,aE b (o+i*W+(c i).length) post,hole G W e a cap n b o]) hs.to).kA
 ·intro h' x M hx hxc hs
  have hs:Hs G h' (aE b (o+i*W) x::aE b (o+i*W+(c i).length) post::aE b o pre::hole G W e a cap n b o::M):=(hs.kA.unpack).to
  have hs:=Hs.F4 hs (by rw[hx,hc])
  have hs:=Hs.F4 hs.kA (by rw[h2])
  refine Hs.mL (by rw[h3];exact hs) (pJ (fun j=>by unfold bT;grind) n) ?_
  grind
theorem Hs.sg {b o:Nat} {c c':List Value} (hs:Hs G h L) [m:Has (aE b o) L c' L'] (hc:c'=c):Hs G h (aE b o c::L'):=by subst hc;exact m.of hs
theorem Hs.oR {n i:Nat} (f g:Nat→HP) (hi:i<n) (he:∀j,j<n→j≠i→g j=f j) (hs:Hs G h L) [k:dP (g i) L L'] [k2:dP (sp (((List.range n).erase i).map f)) L' M]:Hs G h (dD n g::M):=by
 have hs:=hs.cA (g i) (sp (((List.range n).erase i).map f))
 have h1:=(hs.perm (List.Perm.swap _ _ _)).unpack
 have hm:((List.range n).erase i).map f=((List.range n).erase i).map g:=List.map_congr_left fun j hj=>by
  have:j≠i:=by
   intro e
   subst e
   exact List.Nodup.not_mem_erase List.nodup_range hj
  grind
 rw[hm] at h1
 refine(h1.perm ?_).pack
 exact(List.perm_middle.trans ((Ix hi).symm.append_right M))
theorem Ns {bytes:Nat} {a:Int} {k:Nat×Nat→Prop} (h0:0≤a) (hn:a≤2^40) (hb:bytes*a≤2^47) (hk:k (a.toNat,a.toNat)):bA (Iw bytes (I a) (I a)) k:=⟨_,by simp only[Iw];grind,hk⟩
theorem fV (z:List Value) (n:Nat):eB z n=(List.range n).flatMap fun _=>z:=by
 induction n with
 |zero=>rfl
 |succ n ih=>rw[List.range_succ,List.flatMap_append,←ih];simp[eB,List.replicate_succ']
theorem oO {c:Nat→List Value} (hc:∀i,(c i).all eF=true) (n:Nat):((List.range n).flatMap c).all eF=true:=by
 grind
theorem Hs.Gy {W:Nat} {e:TypeId} {z:List Value} {a:Option Addr} {cap n:Nat} (hz:z.length=W) (h0:0<n) (hs:Hs G h (dB W e a cap (n,eB z n)::L)):∃b o,a=some ⟨b,o,none⟩∧Hs G h (dD n (fun i=>aE b (o+i*W) z)::hole G W e a cap n b o::L):=by
 obtain⟨b,o,ha,hs⟩:=hs.fM h0
 rw[fV] at hs
 exact⟨b,o,ha,Xy (fun _=>hz) n _ hs⟩
theorem Hs.cJ {L1 L2 L3:List HP} (A B C:HP) (hs:Hs G h L) [k:dP A L L1] [k2:dP B L1 L2] [k3:dP C L2 L3]:Hs G h (A::B::C::L3):=hs.perm (k.perm.trans ((k2.perm.trans (k3.perm.cons B)).cons A))
theorem yl {b o i j:Nat} {c:List Value} {v:Value} {k:Value→Prop} (hs:Hs G h L) [m:Has (aE b o) L c L'] (hc:c[i+j]?=some v) (hk:k v):bA (pN h (pt b (o+i) j)) k:=by
 have:pt b (o+i) j=pt b o (i+j):=by simp only[pt];rw[Nat.add_assoc]
 rw[this];exact aC hs hc hk
theorem kj {a b c d:Bool} {k:Value→Prop} (hk:k (.bool (a||b||c||d))) {c0:Bool} (hc:c0=true:=by kernel_rfl):U9 c0 [1,1,1,1] .neq (.agg ⟨[.bool a,.bool b,.bool c,.bool d]⟩) (.agg ⟨[.bool false,.bool false,.bool false,.bool false]⟩) k:=
 ⟨hc,_,by cases a<;>cases b<;>cases c<;>cases d<;>rfl,hk⟩
theorem Bb {α:Type} {f:Nat→α} {i:Nat} {v w:α}:bT (bT f i v) i w=bT f i w:=by funext j;unfold bT;split<;>rfl
theorem Yu:∀(l:List Value),(∀v∈l,mS v v=true)→Hr l l=true
 |[],_=>by simp[Hr]
 |a::l,h=>by simp only[Hr,h a List.mem_cons_self,Bool.true_and];exact Yu l fun v hv=>h v (List.mem_cons_of_mem _ hv)
theorem oU {l:List Value} (h:∀v∈l,mS v v=true):mS (.agg ⟨l⟩) (.agg ⟨l⟩)=true:=by
 simp only[mS,Wh];exact Yu l h
end Go.Ab
end
section
namespace Go.Ab
variable {P:Program} {K:FuncId→List Value→Option hJ} {G:Bg} {h:AH} {L L' M:List HP}
theorem Ni {W:Nat} {e:TypeId} {a:Option Addr} {cap:Nat} {x:Nat×List Value} {r:cF} (hs:Hs G h ((fun q=>q=r)::L)) (hr:dB W e a cap x r):Hs G h (dB W e a cap x::L):=
 Hs.join (A:=[_]) hs fun q hq=>by
  rw[Qj] at hq;subst hq;exact hr
theorem nh {W n c:Nat} {e:TypeId} {a:Option Addr} {cs:List Value} {k:Value→Prop} (hs:Hs G h L) [m:Has (dB W e a c) L (n+1,cs) L'] (hk:∀a' c',Hs G h (dB W e a' c' (n,cs.drop W)::L')→k (.slice a' n c')):bA (wY W h (.slice a (n+1) c) (some (I 1)) none none) k:=by
 have hs:=m.of hs
 obtain⟨r,r2,⟨hl,hc,hr⟩,hr2,hd,hi,hi2⟩:=hs.fst
 simp only at hl hc
 have hcd:(cs.drop W).all eF=true:=List.all_eq_true.2 fun v hv=>List.all_eq_true.1 hc v (List.mem_of_mem_drop hv)
 have hld:(cs.drop W).length=n*W:=by grind
 rcases hr with⟨hz,_⟩|⟨hz,_⟩|⟨hcap,b,pre,post,ex,rfl,hle,hrr⟩
 ·simp at hz
 ·simp at hz
 ·simp only at hcap hle hrr
  subst hrr
  obtain⟨hb,hg⟩:=Jg hi hi2
  have h1:jZ (some (I 1)) 0 (n+1)=some 1:=by simp only[jZ];grind
  have h0:jZ none c c=some c:=rfl
  have h2:jZ none (n+1) c=some (n+1):=rfl
  by_cases hc1:c=1
  ·have hn:n=0:=by omega
   subst hc1;subst hn
   have hex:oT h b=some ex:=by simp only[oT,hg]
   have hd0:cs.drop W=[]:=List.eq_nil_of_length_eq_zero (by omega)
   cases ex with
   |true=>
    refine⟨rD,by simp only[wY,h0,h1,Option.isNone_none,Option.isSome_none,Bool.and_false,Bool.false_eq_true,if_false,hex];simp,hk _ _ ?_⟩
    rw[hd0]
    refine Hs.join (A:=[]) hs.tail fun q hq=>⟨by simp,rfl,.inl ⟨rfl,hq,rfl,.inr ⟨0,0,rfl⟩⟩⟩
   |false=>
    refine⟨yC ⟨b,pre.length+1*W,none⟩,by simp only[wY,h0,h1,Option.isNone_none,Option.isSome_none,Bool.and_false,Bool.false_eq_true,if_false,hex,cX];simp,hk _ _ ?_⟩
    rw[hd0]
    refine Ni (r:=kO b (pre++cs++post) (some (.mt e false (pre++cs++post).length))) ⟨hs.base,hs.old,hs.wf,hs.fr,_,⟨_,r2,rfl,hr2,hd,rfl⟩,(cF.fA hd).2 ⟨hi,hi2⟩⟩ ?_
    refine⟨by simp,rfl,.inr (.inl ⟨rfl,rfl,b,pre.length+1*W,pre++cs++post,rfl,?_,rfl⟩)⟩
    grind
  ·refine⟨.slice (some ⟨b,pre.length+1*W,none⟩) n (c - 1),?_,hk _ _ ?_⟩
   ·have hm:¬c=1:=hc1
    simp only[wY,h0,h1,h2,Option.isNone_none,Option.isSome_none,Bool.and_false,Bool.false_eq_true,if_false,hm,cX]
    rw[if_pos hcap];rfl
   ·have e1:pre++cs++post=(pre++cs.take W)++cs.drop W++post:=by simp
    have e2:(pre++cs.take W).length=pre.length+1*W:=by
     grind
    refine Ni (r:=kO b (pre++cs++post) (some (.mt e ex (pre++cs++post).length))) ⟨hs.base,hs.old,hs.wf,hs.fr,_,⟨_,r2,rfl,hr2,hd,rfl⟩,(cF.fA hd).2 ⟨hi,hi2⟩⟩ ?_
    refine⟨hld,hcd,.inr (.inr ⟨by simp only;omega,b,pre++cs.take W,post,ex,by rw[e2],?_,by rw[←e1]⟩)⟩
    simp only
    rw[←e1,e2]
    have:c*W=(c - 1)*W+W:=by rw[←Nat.succ_mul];congr 1;omega
    omega
theorem Hh {b o i j n:Nat} {c l:List Value} {k:Value→Prop} (hs:Hs G h L) [m:Has (aE b o) L c L'] (hn:0<n) (hc:(c.drop (i+j)).take n=l) (hl:l.length=n) (hk:k (.agg ⟨l⟩)):bA (uC h n (pt b (o+i) j)) k:=by
 have:pt b (o+i) j=pt b o (i+j):=by simp only[pt];rw[Nat.add_assoc]
 rw[this];exact aQ hs hn hc hl hk
end Go.Ab
end
section
namespace Go.Ab
variable {P:Program} {K:FuncId→List Value→Option hJ} {h:AH}
theorem zd {f g:FuncId} {args bs:List Value} {Q:Value→AH→Prop} (hK:K f args=some (.fwd g bs)) (hw:Cl P K g bs h fun v h'=>Jn v=true∧Q v h'):Cl P K f args h Q:=by
 obtain⟨n,⟨o,h1⟩,hr,hf,hq⟩:=hw
 exact⟨n+1,(⟨.iI,[],[],o.v⟩,h1),by show iL _ _ _ _ _ _=_;simp only[iL,hK,hr,hf,if_true],hq⟩
end Go.Ab
end
section
namespace Go.Ab
open Go Go.RowKit
variable {P:Program}
def san:Value→Value
 |.int k n=> .int k n
 |.bool b=> .bool b
 |_=>top
theorem Xg {ρ:gQ}:∀l:List Value,aT ρ (l.map san) l
 |[]=>rfl
 |v::l=>by
  refine aT.cons ?_ (Xg l)
  cases v<;>simp[san,top,aD]
theorem G4:∀{ks:List (Option IntKind)} {l:List Value},Flat ks l→l.map san=l
 |[],[],_=>rfl
 |none::ks,v::l,h=>by
  obtain⟨⟨b,rfl⟩,h2⟩:=h
  simp[san,G4 h2]
 |some k::ks,v::l,h=>by
  obtain⟨⟨b,rfl,_⟩,h2⟩:=h
  simp[san,G4 h2]
def iK (ks:List (Option IntKind)) (w:World) (a:Option Addr) (len cap:Nat):Prop:=
 (a=none∧len=0∧cap=0)∨(∃x,a=some x∧len=0)∨
 ∃x cc e fz,a=some x∧0<len∧x.spot=none∧len≤cap∧w.heap[x.block]?=some (.cells cc e fz)∧x.off+len*ks.length≤cc.size∧
  ∀i,i<len→Flat ks ((cc.toList.drop (x.off+i*ks.length)).take ks.length)
theorem Wc {x:Addr} {i:Nat} (h:x.spot=none):x.add i=⟨x.block,x.off+i,none⟩:=by
 unfold Addr.add
 split
 ·rename_i hi;subst hi;cases x;simp at h;subst h;rfl
 ·rfl
variable {H:Type} {enc:TypeId×Value→H} {w:World} {base:Nat} {spare:Nat→Bool} {held:Bool}
theorem Dq {t e:TypeId} {n fuel:Nat} {ks:List (Option IntKind)} {cs:List Value} {x:DataW H×List MemPlace} (ht:P.underlying t=some (.slice e)) (he:qC P n e=some ks) (hc:P.cellsOf e=ks.length) (h0:0<ks.length)
  (h:DataW.trod enc P w base spare held fuel t cs=some x):∃a len cap,cs=[.slice a len cap]∧iK ks w a len cap:=by
 rcases DataW.trod_slice ht h with⟨rfl,_⟩|⟨a,len,cap,elems,rest,m,_,rfl,_,hb,hl,hm,hlen,hel,_,_⟩
 ·exact⟨none,0,0,rfl,.inl ⟨rfl,rfl,rfl⟩⟩
 refine⟨some a,len,cap,rfl,?_⟩
 rcases Nat.eq_zero_or_pos len with hz|hz
 ·exact .inr (.inl ⟨a,rfl,hz⟩)
 refine .inr (.inr ?_)
 have each:∀i,i<len→∃c:List Value,Flat ks c∧c.length=ks.length∧∀j,j<ks.length→w.cell? ((a.add (i*ks.length)).add j)=c[j]?:=by
  intro i hi
  have h1:=hel i hi
  rw[List.getElem?_eq_getElem (by omega),hc,Option.bind_eq_some_iff] at h1
  obtain⟨c,hcs,hy⟩:=h1
  refine⟨c,Mi n he hy,?_,fun j hj=>?_⟩
  ·unfold World.cells? at hcs
   split at hcs
   ·have:=mapM_some_length hcs;simpa using this
   ·cases hcs
  ·unfold World.cells? at hcs
   split at hcs
   ·exact mapM_some_get hcs j j (by simp[hj])
   ·cases hcs
 obtain⟨c0,hf0,hl0,hc0⟩:=each 0 hz
 have h00:=hc0 0 h0
 rw[List.getElem?_eq_getElem (by omega)] at h00
 obtain⟨cc,e',fz,hb,hs⟩:∃cc e fz,w.heap[a.block]?=some (.cells cc e fz)∧a.spot=none:=by
  have hx0:(a.add (0*ks.length)).add 0=a:=by rw[Nat.zero_mul];rfl
  rw[hx0] at h00
  unfold World.cell? at h00
  split at h00
  ·rename_i c e fz hb
   split at h00
   ·cases h00
   ·rename_i hs
    exact⟨c,e,fz,hb,by simpa using hs⟩
  ·cases h00
 have hcell:∀o,w.cell? ⟨a.block,o,none⟩=cc[o]?:=by
  intro o
  unfold World.cell?
  rw[hb]
  simp
 have hat:∀i,i<len→∃c:List Value,Flat ks c∧c.length=ks.length∧∀j,j<ks.length→cc[a.off+i*ks.length+j]?=c[j]?:=by
  intro i hi
  obtain⟨c,hf,hcl,hj⟩:=each i hi
  refine⟨c,hf,hcl,fun j hjl=>?_⟩
  rw[←hj j hjl,Wc hs,Wc rfl]
  exact(hcell _).symm
 refine⟨a,cc,e',fz,rfl,hz,hs,hl,hb,?_,?_⟩
 ·obtain⟨c,hf,hcl,hj⟩:=hat (len - 1) (by omega)
  have:=hj (ks.length - 1) (by omega)
  rw[List.getElem?_eq_getElem (by omega)] at this
  have h2:=(Array.getElem?_eq_some_iff.1 this).1
  have:len*ks.length=(len - 1)*ks.length+ks.length:=by
   conv=>lhs;rw[show len=(len - 1)+1 by omega,Nat.succ_mul]
  omega
 ·intro i hi
  obtain⟨c,hf,hcl,hj⟩:=hat i hi
  have:(cc.toList.drop (a.off+i*ks.length)).take ks.length=c:=by
   apply List.ext_getElem?
   intro j
   rw[List.getElem?_take]
   split
   ·rename_i hjl
    rw[List.getElem?_drop,Array.getElem?_toList,hj j hjl]
   ·rename_i hjl
    rw[List.getElem?_eq_none (by omega)]
  rw[this];exact hf
def sA (G:Bg) (W:Nat) (v:Value) (n:Nat) (at':Nat→List Value):Prop:=∃a c,v= .slice a n c∧∀i,i<n→∃b o cells,a=some ⟨b,o,none⟩∧Ob G b cells∧(cells.drop (o+i*W)).take W=at' i∧o+i*W≤cells.length
abbrev OB:=Option lG×Option (Nat×(Nat×Nat))
def Uq (P:Program) (w:World) (r:OB):Prop:=
 (∀o,r.1=some o→∀b s,r.2=some (b,s)→∃o',w.heap[b]?=some o'∧∀ρ,rZ P ρ s o o')∧(∀b s,r.2=some (b,s)→b<w.heap.size)
def vZ (g:Nat) (gl:Nat→Option lG) (rs:List OB):Nat→Option lG:=fun i=>if i<g then gl i else(rs[i - g]?).bind (·.1)
def qG (g:Nat) (rs:List OB):gQ:=fun i=>if i<g then some (i,(0,0)) else(rs[i - g]?).bind (·.2)
def xi (P:Program) (g:Nat) (gl:Nat→Option lG) (w:World):Prop:=∀i o,i<g→gl i=some o→∃o',w.heap[i]?=some o'∧∀ρ,rZ P ρ (0,0) o o'
theorem lg {g:Nat} {gl:Nat→Option lG} {rs:List OB} (hg:P.globals.size≤g) (hsz:g≤w.heap.size) (hgl:xi P g gl w) (hr:∀r∈rs,Uq P w r):Reads P (g+rs.length) (vZ g gl rs) (qG g rs) w where
 pM:=fun i o hi ho b s hb=>by
  unfold vZ at ho;unfold qG at hb
  split at ho
  ·rename_i h
   rw[if_pos h] at hb
   cases hb
   obtain⟨o',h1,h2⟩:=hgl i o h ho
   exact⟨o',h1,h2 _⟩
  ·rename_i h
   rw[if_neg h] at hb
   rw[List.getElem?_eq_getElem (by omega)] at ho hb
   obtain⟨o',h1,h2⟩:=(hr _ (List.getElem_mem (by omega))).1 o ho b s hb
   exact⟨o',h1,h2 _⟩
 low:=fun i b s hi hb=>by
  unfold qG at hb
  split at hb
  ·cases hb;omega
  ·rw[List.getElem?_eq_getElem (by omega)] at hb
   exact(hr _ (List.getElem_mem (by omega))).2 b s hb
 none:=fun i hi=>by unfold qG;rw[if_neg (by omega),List.getElem?_eq_none (by omega)];rfl
 oQ:=fun i hi=>by unfold qG;rw[if_pos (by omega)]
theorem o6 {g i:Nat} {gl:Nat→Option lG} {rs:List OB} {r:OB} (h:rs[i]?=some r):vZ g gl rs (g+i)=r.1:=by unfold vZ;rw[if_neg (by omega),show g+i - g=i by omega,h];rfl
theorem qW {g i:Nat} {rs:List OB} {r:OB} (h:rs[i]?=some r):qG g rs (g+i)=r.2:=by unfold qG;rw[if_neg (by omega),show g+i - g=i by omega,h];rfl
theorem lz {g i:Nat} {gl:Nat→Option lG} {rs:List OB} (h:i<g):vZ g gl rs i=gl i:=by unfold vZ;rw[if_pos h]
theorem qe {base:Nat} {old:Nat→Option lG}:Hs ⟨base,old⟩ (Go.Ab.start base old) [] where
 base:=rfl
 old:=rfl
 wf:=Nat.le_refl _
 fr:=fun i hi=>by rw[tW,if_neg (Nat.not_lt.2 (show base≤i from hi))]
 res:=⟨cF.emp,rfl,⟨fun b o v h=>by simp[cF.emp] at h,fun b h=>by simp[cF.emp] at h,fun b e x n h=>by simp[cF.emp] at h,fun b o h=>by simp[cF.emp] at h⟩⟩
end Go.Ab
end
section
namespace Go.Ab
open Go Go.RowKit
variable {P:Program} {H:Type}
def yL (f:DataW H→Option (List Value)) (w:Nat):List (DataW H)→Option (List Value)
 |[]=>some []
 |d::ds=>match f d with
  |some c=>if c.length=w then(yL f w ds).map (c++·) else none
  |none=>none
def vA (f:TypeId→DataW H→Option (List Value)) (w:TypeId→Nat):List Field→List (DataW H)→Nat→Option (List Value)
 |[],[],_=>some []
 |x::fs,d::ds,o=>match f x.type d with
  |some c=>if x.offset=o∧c.length=w x.type then(vA f w fs ds (o+c.length)).map (c++·) else none
  |none=>none
 |_,_,_=>none
def H9 (P:Program):Nat→TypeId→DataW H→Option (List Value)
 |0,_,_=>none
 |n+1,t,d=>match P.underlying t,d with
  |some (.int _),.lit (.int k m)=>some [.int k m]
  |some .bool,.lit (.bool b)=>some [.bool b]
  |some .string,.lit (.string s)=>some [.string ⟨s.toArray⟩]
  |some (.array _ e),.agg ds=>match yL (H9 P n e) (P.cellsOf e) ds with
   |some l=>if l.length=P.cellsOf t then some l else none
   |none=>none
  |some (.struct fs),.agg ds=>match vA (H9 P n) P.cellsOf fs.toList ds 0 with
   |some l=>if l.length=P.cellsOf t then some l else none
   |none=>none
  |_,_=>none
theorem Jz {f:DataW H→Option (List Value)} {w:Nat}:∀{ds:List (DataW H)} {l:List Value},yL f w ds=some l→l.length=ds.length*w
 |[],l,h=>by simp[yL] at h;subst h;simp
 |d::ds,l,h=>by
  unfold yL at h
  split at h
  ·rename_i c hc
   split at h
   ·rename_i hl
    simp only[Option.map_eq_some_iff] at h
    obtain⟨r,hr,rfl⟩:=h
    have:=Jz hr
    simp[this,hl,Nat.succ_mul];omega
   ·cases h
  ·cases h
theorem Md {f:DataW H→Option (List Value)} {w:Nat} {T:List Value→Option (DataW H×List MemPlace)} (ih:∀c x l,T c=some x→f x.1=some l→c=l):∀(xs:List (DataW H×List MemPlace)) (cs l:List Value),
    yL f w (xs.map (·.1))=some l→cs.length=xs.length*w→(∀i,i<xs.length→T ((cs.drop (i*w)).take w)=xs[i]?)→cs=l
 |[],cs,l,h,hl,_=>by simp[yL] at h;subst h;exact List.eq_nil_of_length_eq_zero (by simpa using hl)
 |x::xs,cs,l,h,hl,hx=>by
  simp only[List.map_cons,yL] at h
  split at h
  ·rename_i c hc
   split at h
   ·rename_i hcl
    simp only[Option.map_eq_some_iff] at h
    obtain⟨r,hr,rfl⟩:=h
    have h0:=hx 0 (by simp)
    simp only[Nat.zero_mul,List.drop_zero,List.getElem?_cons_zero] at h0
    have e0:=ih _ _ _ h0 hc
    have e1:=Md ih xs (cs.drop w) r hr (by rw[List.length_drop,hl,List.length_cons,Nat.succ_mul];omega) fun i hi=>by
     have:=hx (i+1) (by simp;omega)
     rw[List.getElem?_cons_succ] at this
     rw[List.drop_drop,←this,Nat.succ_mul,Nat.add_comm]
    rw[←List.take_append_drop w cs,e0,e1]
   ·cases h
  ·cases h
theorem Ic {f:TypeId→DataW H→Option (List Value)} {w:TypeId→Nat} {T:TypeId→List Value→Option (DataW H×List MemPlace)} (ih:∀t c x l,T t c=some x→f t x.1=some l→c=l) {cs:List Value}:∀(fs:List Field) (xs:List (DataW H×List MemPlace)) (o:Nat) (l:List Value),
    vA f w fs (xs.map (·.1)) o=some l→(∀(i:Nat) (x:Field),fs[i]?=some x→T x.type ((cs.drop x.offset).take (w x.type))=xs[i]?)→(cs.drop o).take l.length=l
 |[],[],o,l,h,_=>by simp[vA] at h;subst h;simp
 |[],_::_,_,_,h,_=>by simp[vA] at h
 |_::_,[],_,_,h,_=>by simp[vA] at h
 |y::fs,x::xs,o,l,h,hx=>by
  simp only[List.map_cons,vA] at h
  split at h
  ·rename_i c hc
   split at h
   ·rename_i hcl
    simp only[Option.map_eq_some_iff] at h
    obtain⟨r,hr,rfl⟩:=h
    have h0:=hx 0 y rfl
    have e0:=ih _ _ _ _ h0 hc
    have e1:=Ic ih fs xs (o+c.length) r hr fun i z hz=>hx (i+1) z hz
    rw[hcl.1,←hcl.2] at e0
    rw[List.length_append,List.take_add,List.drop_drop,e0,e1]
   ·cases h
  ·cases h
variable {enc:TypeId×Value→H} {w:World} {base:Nat} {spare:Nat→Bool} {held:Bool}
theorem We:∀(n:Nat) {t:TypeId} {cs l:List Value} {x:DataW H×List MemPlace} {fuel:Nat},DataW.trod enc P w base spare held fuel t cs=some x→H9 P n t x.1=some l→cs=l:=by
 intro n
 induction n with
 |zero=>intro t cs l x fuel _ h;cases h
 |succ n ih=>
  intro t cs l x fuel ht h
  unfold H9 at h
  split at h
  ·rename_i hu hd
   obtain⟨m,rfl,hx,_⟩:=DataW.trod_int hu ht
   rw[hx] at hd
   cases hd;cases h;rfl
  ·rename_i hu hd
   obtain⟨m,rfl,hx⟩:=DataW.trod_bool hu ht
   rw[hx] at hd
   cases hd;cases h;rfl
  ·rename_i hu hd
   obtain⟨m,rfl,hx,_⟩:=DataW.trod_string hu ht
   rw[hx] at hd
   cases hd;cases h;rfl
  ·rename_i hu hd
   obtain⟨xs,m,_,hx,hl,hxl,hxs⟩:=DataW.trod_array hu ht
   rw[hx] at hd
   cases hd
   split at h
   ·rename_i r hr
    split at h
    ·rename_i hrl
     cases h
     have:=Jz hr
     rw[List.length_map] at this
     exact Md (T:=DataW.trod enc P w base spare held m _) (fun c y l h1 h2=>ih h1 h2) xs cs l hr (by rw[hl,←hrl,this]) fun i hi=>hxs i (by omega)
    ·cases h
   ·cases h
  ·rename_i hu hd
   obtain⟨xs,m,_,hx,hl,hxl,hxs⟩:=DataW.trod_struct hu ht
   rw[hx] at hd
   cases hd
   split at h
   ·rename_i r hr
    split at h
    ·rename_i hrl
     cases h
     have:=Ic (w:=P.cellsOf) (T:=fun t c=>DataW.trod enc P w base spare held m t c) (fun t c y l h1 h2=>ih h1 h2) (cs:=cs) _ xs 0 l hr fun i y hy=>hxs i y (by rw[←hy,Array.getElem?_toList])
     rw[List.drop_zero,List.take_of_length_le (by omega)] at this
     exact this
    ·cases h
   ·cases h
  ·cases h
theorem Cb {n:String} {d:DataW Unit}:∀{laid:List (String×DataW Unit)} {ps:List MemPlace},DataW.LaidVars P w laid ps→(n,d)∈laid→
  ∃g t cs fuel p,P.globalNamed n=some g∧(P.globals[g]?).map (·.type)=some t∧w.var? P n=some cs∧DataW.trod (fun _=>()) P w 0 (fun _=>true) false fuel t cs.toList=some (d,p)
 |[],_,_,hm=>by cases hm
 |(n',d')::r,ps,h,hm=>by
  obtain⟨g,t,cs,fuel,p,q,h1,h2,h3,h4,h5,_⟩:=h
  rcases List.mem_cons.1 hm with e|e
  ·cases e;exact⟨g,t,cs,fuel,p,h1,h2,h3,h4⟩
  ·exact Cb h5 e
theorem uX {laid:List (String×DataW Unit)} {n:String} {d:DataW Unit} {g:Nat} {t:TypeId} {l:List Value} (fuel:Nat) (hp:(laid.all fun x=>x.2.handleName?.isNone)=true) (h:laidMetH P laid w) (hm:(n,d)∈laid)
  (hg:P.globalNamed n=some g) (ht:(P.globals[g]?).map (·.type)=some t) (hc:H9 P fuel t d=some l):∃e fz,w.heap[g]?=some (.cells ⟨l⟩ e fz):=by
 rw[Go.MakeChecks.laidMetH_plain _ _ _ hp] at h
 obtain⟨ps,hv,_⟩:=h
 obtain⟨g',t',cs,f,p,h1,h2,h3,h4⟩:=Cb hv hm
 obtain rfl:=Option.some.inj (hg.symm.trans h1)
 obtain rfl:=Option.some.inj (ht.symm.trans h2)
 have:=We fuel h4 hc
 simp only[World.var?,hg,Option.bind_some] at h3
 split at h3
 ·rename_i c e fz hb
  cases h3
  refine⟨e,fz,?_⟩
  rw[hb]
  cases cs;simp at this;subst this;rfl
 ·cases h3
end Go.Ab
end
section
namespace Go.Ab
open Go Go.RowKit Go.ChangeShapes Go.WideShapes Go.ChangeAt
variable {H:Type} {enc:TypeId×Value→H}
def U5 (P:Program) (ts:List TypeId):Bool:=ts.all fun t=>P.readableRec t&&decide (t<P.types.size)
theorem Mp {P:Program} (hl:laidOutB P=true) {W W':World} (hb:Below W.heap.size W W'):∀(ts:List TypeId) {vs:List Value} {ds:List (DataW H)} {ps:List MemPlace},U5 P ts=true→
  DataW.TrodAll enc P W 0 (fun _=>true) true ts vs ds ps→DataW.TrodAll enc P W' 0 (fun b=>decide (b<W.heap.size)) true ts vs ds ps
 |[],vs,ds,ps,_,h=>by
  obtain⟨rfl,rfl,rfl⟩:=trodAll_nil h
  exact trodAll_mk0
 |t::ts,vs,ds,ps,hr,h=>by
  obtain⟨v,vs',d,ds',p,q,rfl,rfl,rfl,h1,h2⟩:=trodAll_cons h
  simp only[U5,List.all_cons,Bool.and_eq_true,decide_eq_true_eq] at hr
  have lt0:∀x∈p,x.block<W.heap.size:=by obtain⟨m,hm⟩:=h1;exact DataW.trod_lt m _ _ _ hm
  exact trodAll_cons_mk (Below.trod hl hr.1.1 hr.1.2 h1 hb lt0) (Mp hl hb ts hr.2 h2)
theorem X0 {P:Program} {w:World} {base:Nat} {spare:Nat→Bool} {held:Bool}:∀(ts:List TypeId) {vs:List Value} {ds:List (DataW H)} {ps:List MemPlace},
    DataW.TrodAll enc P w base spare held ts vs ds ps→ds.length=ts.length
 |[],vs,ds,ps,h=>by obtain⟨rfl,rfl,rfl⟩:=trodAll_nil h;rfl
 |t::ts,vs,ds,ps,h=>by
  obtain⟨v,vs',d,ds',p,q,rfl,rfl,rfl,h1,h2⟩:=trodAll_cons h
  simp[X0 ts h2]
theorem Vt {C:Checked} {os:Os} (started:os.Started) {f:FuncId} {fn:Func} {s:ChangeSpec} {laid:List (String×DataW Unit)} {tb:TypeId} {fresh handsOn:Bool}
  (own:ownKnob C.prog.godebug=none) (noInit:C.prog.inits.idxOf? f=none) (hfn:C.prog.funcs[f]?=some fn) (hlo:laidOutB C.prog=true) (hps:U5 C.prog fn.params.toList=true)
  (hres:fn.resultTypes= #[tb]) (htb:C.prog.underlying tb=some .bool) (hvars:s.vars=[])
  (hspec:∀ds:List (DataW H),ds.length=fn.params.size→s.fn H ds={results:=[.lit (.bool true)],args:=ds})
  (witness:∃(w:World) (tape:Tape) (i:Input),w.os=os∧(w.forCall tape i).Shaped C.prog∧i.vars=[]∧Input.okWide C.prog (w.forCall tape i) .any w.heap.size f i∧
   ((s.pre enc C.prog fn [] false (w.forCall tape i).memory i.args∧laidMetH C.prog laid (w.forCall tape i).memory)∧sizedMet enc C.prog fn (OpenSpec.ofChange s) false (w.forCall tape i).memory i.args)∧({}:Assume).holds C.prog (lone (Frame.enter C.prog f i.args .normal) [] (w.forCall tape i)))
  (walk:∀(W:World) (base:Nat) (args:List Value) (ds:List (DataW H)) (ps:List MemPlace),DataW.TrodAll enc C.prog W 0 (fun _=>true) true fn.params.toList args ds ps→
   (∀(j:Nat) t v,fn.params[j]?=some t→args[j]?=some v→Value.okWide C.prog W .any base t v)→laidMetH C.prog laid W→Calls C.prog f ⟨args⟩ W fun e W'=>e= .returned (.bool true)∧Below W.heap.size W W'):
  ReturnsInHanded {} C os f .any (fun w args=>(s.pre enc C.prog fn [] false w args∧laidMetH C.prog laid w)∧sizedMet enc C.prog fn (OpenSpec.ofChange s) false w args) (s.post enc C.prog fn false fresh handsOn false):=by
 refine returnsInHanded_of_change_and (C:=C) (X:=fun w _=>laidMetH C.prog laid w) (fun _ _ _ hh h=>h.of_heap hh) own started noInit hfn witness ?_
 intro W base args ds gs before hval hW _ _ hL _
 have hW':=hW
 obtain⟨p,q,hA,hV,rfl,hfz,hnd⟩:=hW
 rw[hvars] at hV
 obtain⟨rfl,rfl⟩:=trodVars_none hV
 have hsp:=hspec ds (by rw[X0 _ hA];simp)
 obtain⟨args⟩:=args
 refine(walk W base args ds p hA (fun j t v h1 h2=>hval j t v h1 (by simpa using h2)) hL).mono fun e W' ⟨he,bel⟩=>?_
 subst he
 refine⟨_,rfl,ds,[],_,[],p,[],hW',?_,?_,?_,bel.frame _,fun h=>by cases h⟩
 ·rw[List.append_nil,hsp,hres]
  exact trodAll_mk1 (shut_bool htb _)
 ·rw[List.append_nil,hsp]
  exact Mp hlo bel _ hps hA
 ·rw[List.append_nil,hsp,hvars]
  rfl
theorem gJ {k:IntKind} {ks:List (Option IntKind)} {l:List Value} (h:Flat (some k::ks) l):∃(n:Int) (l':List Value),l= .int k n::l'∧Flat ks l':=by
 cases l with
 |nil=>exact h.elim
 |cons v l=>obtain⟨⟨n,rfl,_⟩,h⟩:=h;exact⟨n,l,rfl,h⟩
theorem B0 {l:List Value} (h:Flat [] l):l=[]:=by
 cases l with
 |nil=>rfl
 |cons v l=>exact h.elim
theorem di {P:Program} {W:World} {base:Nat} {t e:TypeId} {v:Value} {d:DataW H} {p:List MemPlace} {n:Nat} {ks:List (Option IntKind)} (ht:P.underlying t=some (.slice e)) (he:qC P n e=some ks) (hc:P.cellsOf e=ks.length) (h0:0<ks.length)
  (hok:Value.okWide P W .any base t v) (h:DataW.Trod enc P W 0 (fun _=>true) true t v d p):∃a len cap,v= .slice a len cap∧iK ks W a len cap:=by
 obtain⟨a,len,cap,rfl⟩:=okWide_slice ht hok
 obtain⟨fuel,hf⟩:=h
 obtain⟨a',len',cap',hcs,hr⟩:=Dq ht he hc h0 hf
 simp[Value.cells] at hcs
 obtain⟨rfl,rfl,rfl⟩:=hcs
 exact⟨_,_,_,rfl,hr⟩
end Go.Ab
end
