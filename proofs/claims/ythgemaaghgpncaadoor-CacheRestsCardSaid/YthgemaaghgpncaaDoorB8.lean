/- A part of the proof. -/
import Derived.Test.YthgemaaghgpncaaDoorB4
import Derived.ChangeArms
import Derived.OpenShut
import Derived.Test.YthgemaaghgpncaaDoorB7
import Derived.ChangeSlices
section
namespace Go.Ab
open Go
variable {P:Program}
def Rs (f:TypeId→Option (List (Option IntKind))):List Field→Nat→Option (List (Option IntKind))
 |[],_=>some []
 |x::l,o=>if x.offset=o then match f x.type with
  |some a=>(Rs f l (o+a.length)).map fun b=>a++b
  |none=>none
  else none
def nV (P:Program):Nat→TypeId→Option (List (Option IntKind))
 |0,_=>none
 |n+1,t=>match P.underlying t with
  |some (.int k)=>some [some k]
  |some .bool=>some [none]
  |some (.array m e)=>match nV P n e with
   |some l=>if P.cellsOf e=l.length∧P.cellsOf t=m*l.length then some (List.replicate m l).flatten else none
   |none=>none
  |some (.struct fs)=>if fs.toList.all (fun x=>(nV P n x.type).any fun l=>l.length==P.cellsOf x.type) then
    (Rs (nV P n) fs.toList 0).bind fun l=>if P.cellsOf t=l.length then some l else none else none
  |_=>none
def Zu:Option IntKind→Value→Prop
 |some k,v=>∃n,v= .int k n∧(Lit.int k n).wf=true
 |none,v=>∃b,v= .bool b
def Flat:List (Option IntKind)→List Value→Prop
 |[],[]=>True
 |k::ks,v::vs=>Zu k v∧Flat ks vs
 |_,_=>False
theorem Flat.len:∀{ks:List (Option IntKind)} {vs:List Value},Flat ks vs→vs.length=ks.length
 |[],[],_=>rfl
 |_::_,_::_,h=>by simp[Flat.len h.2]
theorem Flat.append:∀{ks js:List (Option IntKind)} {vs ws:List Value},Flat ks vs→Flat js ws→Flat (ks++js) (vs++ws)
 |[],_,[],_,_,h=>h
 |_::_,_,_::_,_,h,h'=>⟨h.1,Flat.append h.2 h'⟩
theorem P9 {l:List (Option IntKind)}:∀(m:Nat) (cs:List Value),cs.length=m*l.length→(∀i,i<m→Flat l ((cs.drop (i*l.length)).take l.length))→Flat (List.replicate m l).flatten cs:=by
 intro m
 induction m with
 |zero=>intro cs hl _;have:cs=[]:=List.eq_nil_of_length_eq_zero (by omega);subst this;trivial
 |succ m ih=>
  intro cs hl h
  rw[List.replicate_succ,List.flatten_cons,←List.take_append_drop l.length cs]
  refine Flat.append (by simpa using h 0 (by omega)) (ih _ (by rw[List.length_drop,hl,Nat.succ_mul];omega) fun i hi=>?_)
  have:=h (i+1) (by omega)
  rw[List.drop_drop]
  rwa [Nat.succ_mul,Nat.add_comm] at this
theorem Ss {f:TypeId→Option (List (Option IntKind))} {cs:List Value}:∀(l:List Field) (o:Nat) (ks:List (Option IntKind)),Rs f l o=some ks→(∀x∈l,∀a,f x.type=some a→Flat a ((cs.drop x.offset).take a.length))→Flat ks ((cs.drop o).take ks.length):=by
 intro l
 induction l with
 |nil=>intro o ks h _;simp[Rs] at h;subst h;simp[Flat]
 |cons x l ih=>
  intro o ks h hall
  unfold Rs at h
  split at h
  ·rename_i ho
   cases hf:f x.type with
   |none=>rw[hf] at h;cases h
   |some a=>
    rw[hf] at h
    simp only[Option.map_eq_some_iff] at h
    obtain⟨b,hb,rfl⟩:=h
    have h1:=hall x List.mem_cons_self a hf
    have h2:=ih _ b hb (fun y hy=>hall y (List.mem_cons_of_mem _ hy))
    rw[ho] at h1
    rw[List.length_append,List.take_add,List.drop_drop]
    exact Flat.append h1 h2
  ·cases h
variable {H:Type} {enc:TypeId×Value→H} {w:World} {base:Nat} {spare:Nat→Bool} {held:Bool}
theorem wN:∀(n:Nat) {t:TypeId} {ks:List (Option IntKind)} {cs:List Value} {x:DataW H×List MemPlace} {fuel:Nat},nV P n t=some ks→DataW.trod enc P w base spare held fuel t cs=some x→Flat ks cs:=by
 intro n
 induction n with
 |zero=>intro t ks cs x fuel h;cases h
 |succ n ih=>
  intro t ks cs x fuel h ht
  unfold nV at h
  split at h
  ·rename_i k hu
   cases h
   obtain⟨m,rfl,_,hw⟩:=DataW.trod_int hu ht
   exact⟨⟨m,rfl,hw⟩,trivial⟩
  ·rename_i hu
   cases h
   obtain⟨m,rfl,_⟩:=DataW.trod_bool hu ht
   exact⟨⟨m,rfl⟩,trivial⟩
  ·rename_i m e hu
   cases hf:nV P n e with
   |none=>rw[hf] at h;cases h
   |some l=>
    rw[hf] at h
    simp only at h
    split at h
    ·rename_i hc
     cases h
     obtain⟨xs,_,_,_,hl,hxl,hx⟩:=DataW.trod_array hu ht
     refine P9 m cs (by rw[hl];exact hc.2) fun i hi=>?_
     have h1:=hx i hi
     rw[List.getElem?_eq_getElem (by omega),hc.1] at h1
     exact ih hf h1
    ·cases h
  ·rename_i fs hu
   split at h
   ·rename_i hall
    simp only[Option.bind_eq_some_iff] at h
    obtain⟨l,hl,h⟩:=h
    split at h
    ·rename_i hc
     cases h
     obtain⟨xs,_,_,_,hcs,hxl,hx⟩:=DataW.trod_struct hu ht
     have:=Ss (cs:=cs) fs.toList 0 ks hl (fun y hy a ha=>by
      obtain⟨i,hi,rfl⟩:=List.getElem_of_mem hy
      have h1:=hx i fs.toList[i] (by simp at hi;simp[hi])
      have hal:=List.all_eq_true.1 hall _ hy
      rw[ha] at hal
      simp at hal
      simp at hi
      rw[List.getElem?_eq_getElem (by omega)] at h1
      have:=ih ha h1
      simp only[Array.getElem_toList] at this ⊢
      rw[←hal] at this
      exact this)
     rw[List.drop_zero,List.take_of_length_le (by rw[hcs,hc];exact Nat.le_refl _)] at this
     exact this
    ·cases h
   ·cases h
  ·cases h
end Go.Ab
end
section
namespace Go.Ab
variable {P:Program} {K:FuncId→List Value→Option fM} {h:AH}
theorem Xs {f g:FuncId} {args bs:List Value} {Q:Value→AH→Prop} (hK:K f args=some (.fwd g bs)) (hw:Cl P K g bs h fun v h'=>Bn v=true∧Q v h'):Cl P K f args h Q:=by
 obtain⟨n,⟨o,h1⟩,hr,hf,hq⟩:=hw
 exact⟨n+1,(⟨.fU,[],[],o.v⟩,h1),by show gV _ _ _ _ _ _=_;simp only[gV,hK,hr,hf,if_true],hq⟩
theorem av {a b:Int} {k:Value→Prop} (hb:0≤b) (hk:k (I (a.fdiv (2^(min b.toNat 64))))):aN (xJ .shr (I a) (I b)) k:=by
 refine⟨_,?_,hk⟩
 show yJ .shr .i64 a b=_
 simp only[yJ,xI]
 rw[if_neg (by omega)];rfl
end Go.Ab
end
section
namespace Go.Ab
open Go Go.RowKit
variable {P:Program}
def Y8:Value→Value
 |.int k n=> .int k n
 |.bool b=> .bool b
 |_=>top
theorem Ls {ρ:fN}:∀l:List Value,aH ρ (l.map Y8) l
 |[]=>rfl
 |v::l=>by
  refine aH.cons ?_ (Ls l)
  cases v<;>simp[Y8,top,aB]
theorem Ca:∀{ks:List (Option IntKind)} {l:List Value},Flat ks l→l.map Y8=l
 |[],[],_=>rfl
 |none::ks,v::l,h=>by
  obtain⟨⟨b,rfl⟩,h2⟩:=h
  simp[Y8,Ca h2]
 |some k::ks,v::l,h=>by
  obtain⟨⟨b,rfl,_⟩,h2⟩:=h
  simp[Y8,Ca h2]
def yR (ks:List (Option IntKind)) (w:World) (a:Option Addr) (len cap:Nat):Prop:=
 (a=none∧len=0∧cap=0)∨(∃x,a=some x∧len=0)∨
 ∃x cc e fz,a=some x∧0<len∧x.spot=none∧len≤cap∧w.heap[x.block]?=some (.cells cc e fz)∧x.off+len*ks.length≤cc.size∧
  ∀i,i<len→Flat ks ((cc.toList.drop (x.off+i*ks.length)).take ks.length)
theorem Rq {x:Addr} {i:Nat} (h:x.spot=none):x.add i=⟨x.block,x.off+i,none⟩:=by
 unfold Addr.add
 split
 ·rename_i hi;subst hi;cases x;simp at h;subst h;rfl
 ·rfl
variable {H:Type} {enc:TypeId×Value→H} {w:World} {base:Nat} {spare:Nat→Bool} {held:Bool}
theorem N8 {t e:TypeId} {n fuel:Nat} {ks:List (Option IntKind)} {cs:List Value} {x:DataW H×List MemPlace} (ht:P.underlying t=some (.slice e)) (he:nV P n e=some ks) (hc:P.cellsOf e=ks.length) (h0:0<ks.length)
  (h:DataW.trod enc P w base spare held fuel t cs=some x):∃a len cap,cs=[.slice a len cap]∧yR ks w a len cap:=by
 rcases DataW.trod_slice ht h with⟨rfl,_⟩|⟨a,len,cap,elems,rest,m,_,rfl,_,hb,hl,hm,hlen,hel,_,_⟩
 ·exact⟨none,0,0,rfl,.inl ⟨rfl,rfl,rfl⟩⟩
 refine⟨some a,len,cap,rfl,?_⟩
 rcases Nat.eq_zero_or_pos len with hz|hz
 ·exact .inr (.inl ⟨a,rfl,hz⟩)
 refine .inr (.inr ?_)
 have each:∀i,i<len→∃c:List Value,Flat ks c∧c.length=ks.length∧∀j,j<ks.length→w.cell? ((a.add (i*ks.length)).add j)=c[j]?:=by
  intro i hi
  have h1:=hel i hi
  rw[List.getElem?_eq_getElem (by omega),hc,Option.bind_eq_some_iff] at h1
  obtain⟨c,hcs,hy⟩:=h1
  refine⟨c,wN n he hy,?_,fun j hj=>?_⟩
  ·unfold World.cells? at hcs
   split at hcs
   ·have:=mapM_some_length hcs;simpa using this
   ·cases hcs
  ·unfold World.cells? at hcs
   split at hcs
   ·exact mapM_some_get hcs j j (by simp[hj])
   ·cases hcs
 obtain⟨c0,hf0,hl0,hc0⟩:=each 0 hz
 have h00:=hc0 0 h0
 rw[List.getElem?_eq_getElem (by omega)] at h00
 obtain⟨cc,e',fz,hb,hs⟩:∃cc e fz,w.heap[a.block]?=some (.cells cc e fz)∧a.spot=none:=by
  have hx0:(a.add (0*ks.length)).add 0=a:=by rw[Nat.zero_mul];rfl
  rw[hx0] at h00
  unfold World.cell? at h00
  split at h00
  ·rename_i c e fz hb
   split at h00
   ·cases h00
   ·rename_i hs
    exact⟨c,e,fz,hb,by simpa using hs⟩
  ·cases h00
 have hcell:∀o,w.cell? ⟨a.block,o,none⟩=cc[o]?:=by
  intro o
  unfold World.cell?
  rw[hb]
  simp
 have hat:∀i,i<len→∃c:List Value,Flat ks c∧c.length=ks.length∧∀j,j<ks.length→cc[a.off+i*ks.length+j]?=c[j]?:=by
  intro i hi
  obtain⟨c,hf,hcl,hj⟩:=each i hi
  refine⟨c,hf,hcl,fun j hjl=>?_⟩
  rw[←hj j hjl,Rq hs,Rq rfl]
  exact(hcell _).symm
 refine⟨a,cc,e',fz,rfl,hz,hs,hl,hb,?_,?_⟩
 ·obtain⟨c,hf,hcl,hj⟩:=hat (len - 1) (by omega)
  have:=hj (ks.length - 1) (by omega)
  rw[List.getElem?_eq_getElem (by omega)] at this
  have h2:=(Array.getElem?_eq_some_iff.1 this).1
  have:len*ks.length=(len - 1)*ks.length+ks.length:=by
   conv=>lhs;rw[show len=(len - 1)+1 by omega,Nat.succ_mul]
  omega
 ·intro i hi
  obtain⟨c,hf,hcl,hj⟩:=hat i hi
  have:(cc.toList.drop (a.off+i*ks.length)).take ks.length=c:=by
   apply List.ext_getElem?
   intro j
   rw[List.getElem?_take]
   split
   ·rename_i hjl
    rw[List.getElem?_drop,Array.getElem?_toList,hj j hjl]
   ·rename_i hjl
    rw[List.getElem?_eq_none (by omega)]
  rw[this];exact hf
def O2 (G:Bg) (W:Nat) (v:Value) (n:Nat) (at':Nat→List Value):Prop:=∃a c,v= .slice a n c∧∀i,i<n→∃b o cells,a=some ⟨b,o,none⟩∧Ob G b cells∧(cells.drop (o+i*W)).take W=at' i∧o+i*W≤cells.length
abbrev OB:=Option jN×Option (Nat×(Nat×Nat))
def cm (P:Program) (w:World) (r:OB):Prop:=
 (∀o,r.1=some o→∀b s,r.2=some (b,s)→∃o',w.heap[b]?=some o'∧∀ρ,pA P ρ s o o')∧(∀b s,r.2=some (b,s)→b<w.heap.size)
theorem Tt (P:Program) {ks:List (Option IntKind)} {a:Option Addr} {len cap:Nat} (h:yR ks w a len cap):∃(r:OB) (t:Nat→Value),cm P w r∧
  (∀ρ k,ρ k=r.2→aB ρ (t k) (.slice a len cap))∧∃at':Nat→List Value,(∀i,i<len→Flat ks (at' i))∧∀(G:Bg) k,k<G.base→G.old k=r.1→O2 G ks.length (t k) len at':=by
 rcases h with⟨rfl,rfl,rfl⟩|⟨x,rfl,rfl⟩|⟨x,cc,e,fz,rfl,h0,hs,hl,hb,hsz,hf⟩
 ·refine⟨(none,none),fun _=> .slice none 0 0,⟨fun o h=>by(cases h),fun b s h=>by cases h⟩,fun ρ k _=>by simp only[aB],fun _=>[],fun i hi=>by omega,fun G k _ _=>⟨none,0,rfl,fun i hi=>by omega⟩⟩
 ·refine⟨(none,none),fun _=> .slice (some ⟨0,0,some 0⟩) 0 0,⟨fun o h=>by(cases h),fun b s h=>by cases h⟩,fun ρ k _=>?_,fun _=>[],fun i hi=>by omega,fun G k _ _=>⟨some ⟨0,0,some 0⟩,0,rfl,fun i hi=>by omega⟩⟩
  simp only[aB]
  exact⟨trivial,trivial,x,cap,fun h=>by omega,fun h=>by omega,rfl⟩
 ·refine⟨(some (.cells (cc.toList.map Y8) e fz false),some (x.block,(0,0))),fun k=> .slice (some ⟨k,x.off,none⟩) len cap,⟨fun o h b s hr=>?_,fun b s hr=>?_⟩,fun ρ k hr=>?_,fun i=>(cc.toList.drop (x.off+i*ks.length)).take ks.length,hf,fun G k hk hg=>?_⟩
  ·cases h;cases hr
   refine⟨_,hb,fun ρ=>⟨cc,rfl,?_,by simp,fun h=>by cases h⟩⟩
   rw[List.length_map,List.drop_zero,List.take_of_length_le (by simp)]
   exact Ls _
  ·cases hr
   exact(Array.getElem?_eq_some_iff.1 hb).1
  ·simp only[aB]
   exact⟨x.block,(0,0),cap,hr,Nat.le_refl _,by simp,by cases x;simp at hs;subst hs;rfl⟩
  ·refine⟨_,_,rfl,fun i hi=>⟨k,x.off,_,rfl,⟨hk,e,fz,false,hg⟩,?_,?_⟩⟩
   ·rw[←List.map_drop,←List.map_take]
    exact Ca (hf i hi)
   ·rw[List.length_map]
    have:i*ks.length≤len*ks.length:=Nat.mul_le_mul_right _ (by omega)
    simp;omega
def qZ (g:Nat) (gl:Nat→Option jN) (rs:List OB):Nat→Option jN:=fun i=>if i<g then gl i else(rs[i - g]?).bind (·.1)
def xQ (g:Nat) (rs:List OB):fN:=fun i=>if i<g then some (i,(0,0)) else(rs[i - g]?).bind (·.2)
def aq (P:Program) (g:Nat) (gl:Nat→Option jN) (w:World):Prop:=∀i o,i<g→gl i=some o→∃o',w.heap[i]?=some o'∧∀ρ,pA P ρ (0,0) o o'
theorem Gh {g:Nat} {gl:Nat→Option jN} {rs:List OB} (hg:P.globals.size≤g) (hsz:g≤w.heap.size) (hgl:aq P g gl w) (hr:∀r∈rs,cm P w r):Reads P (g+rs.length) (qZ g gl rs) (xQ g rs) w where
 nJ:=fun i o hi ho b s hb=>by
  unfold qZ at ho;unfold xQ at hb
  split at ho
  ·rename_i h
   rw[if_pos h] at hb
   cases hb
   obtain⟨o',h1,h2⟩:=hgl i o h ho
   exact⟨o',h1,h2 _⟩
  ·rename_i h
   rw[if_neg h] at hb
   rw[List.getElem?_eq_getElem (by omega)] at ho hb
   obtain⟨o',h1,h2⟩:=(hr _ (List.getElem_mem (by omega))).1 o ho b s hb
   exact⟨o',h1,h2 _⟩
 low:=fun i b s hi hb=>by
  unfold xQ at hb
  split at hb
  ·cases hb;omega
  ·rw[List.getElem?_eq_getElem (by omega)] at hb
   exact(hr _ (List.getElem_mem (by omega))).2 b s hb
 none:=fun i hi=>by unfold xQ;rw[if_neg (by omega),List.getElem?_eq_none (by omega)];rfl
 lM:=fun i hi=>by unfold xQ;rw[if_pos (by omega)]
theorem Q3 {g i:Nat} {gl:Nat→Option jN} {rs:List OB} {r:OB} (h:rs[i]?=some r):qZ g gl rs (g+i)=r.1:=by unfold qZ;rw[if_neg (by omega),show g+i - g=i by omega,h];rfl
theorem Q2 {g i:Nat} {rs:List OB} {r:OB} (h:rs[i]?=some r):xQ g rs (g+i)=r.2:=by unfold xQ;rw[if_neg (by omega),show g+i - g=i by omega,h];rfl
theorem Jf {g i:Nat} {gl:Nat→Option jN} {rs:List OB} (h:i<g):qZ g gl rs i=gl i:=by unfold qZ;rw[if_pos h]
theorem Qg {base:Nat} {old:Nat→Option jN}:Hs ⟨base,old⟩ (Go.Ab.start base old) [] where
 base:=rfl
 old:=rfl
 wf:=Nat.le_refl _
 fr:=fun i hi=>by rw[nU,if_neg (Nat.not_lt.2 (show base≤i from hi))]
 res:=⟨bA.emp,rfl,⟨fun b o v h=>by simp[bA.emp] at h,fun b h=>by simp[bA.emp] at h,fun b e x n h=>by simp[bA.emp] at h,fun b o h=>by simp[bA.emp] at h⟩⟩
end Go.Ab
end
