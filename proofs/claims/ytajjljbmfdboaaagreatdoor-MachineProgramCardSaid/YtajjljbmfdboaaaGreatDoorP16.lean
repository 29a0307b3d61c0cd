/- A part of the proof. -/
import Derived.Test.YtajjljbmfdboaaaGreatDoorP10
section
namespace Go.Ab
open Go Go.RowKit Go.ChangeShapes Go.WideShapes Go.ChangeAt
variable {P:Program} {H:Type} {enc:TypeId×Value→H} {w:World} {base:Nat} {spare:Nat→Bool} {held:Bool}
theorem vp {ρ:gP} {v:Value}:aD ρ top v:=by simp[top,aD]
theorem Yh {ρ:gP}:∀{l l':List Value},l.length=l'.length→(∀(j:Nat) (u v:Value),l[j]?=some u→l'[j]?=some v→aD ρ u v)→aT ρ l l'
 |[],[],_,_=>aT.nil
 |u::l,v::l',h,k=>aT.cons (k 0 u v rfl rfl) (Yh (by simpa using h) fun j a b ha hb=>k (j+1) a b (by simpa using ha) (by simpa using hb))
 |[],_::_,h,_=>by simp at h
 |_::_,[],h,_=>by simp at h
def zp (P:Program) (w:World) (ρ:gP) (r:OB):Prop:=
 (∀o,r.1=some o→∀b s,r.2=some (b,s)→∃o',w.heap[b]?=some o'∧rN P ρ s o o')∧(∀b s,r.2=some (b,s)→b<w.heap.size)
theorem Ur.at' {r:OB} (h:Ur P w r) (ρ:gP):zp P w ρ r:=⟨fun o ho b s hb=>let⟨o',h1,h2⟩:=h.1 o ho b s hb;⟨o',h1,h2 ρ⟩,h.2⟩
theorem Zm {g:Nat} {gl:Nat→Option kY} {rs:List OB} (hg:P.globals.size≤g) (hsz:g≤w.heap.size) (hgl:sn P g gl w) (hr:∀r∈rs,zp P w (pU g rs) r):Reads P (g+rs.length) (vI g gl rs) (pU g rs) w where
 pC:=fun i o hi ho b s hb=>by
  have hb0:=hb
  unfold vI at ho;unfold pU at hb
  split at ho
  ·rename_i h
   rw[if_pos h] at hb
   cases hb
   obtain⟨o',h1,h2⟩:=hgl i o h ho
   exact⟨o',h1,h2 _⟩
  ·rename_i h
   rw[if_neg h] at hb
   rw[List.getElem?_eq_getElem (by omega)] at ho hb
   exact(hr _ (List.getElem_mem (by omega))).1 o ho b s hb
 low:=fun i b s hi hb=>by
  unfold pU at hb
  split at hb
  ·cases hb;omega
  ·rw[List.getElem?_eq_getElem (by omega)] at hb
   exact(hr _ (List.getElem_mem (by omega))).2 b s hb
 none:=fun i hi=>by unfold pU;rw[if_neg (by omega),List.getElem?_eq_none (by omega)];rfl
 nI:=fun i hi=>by unfold pU;rw[if_pos (by omega)]
def B9 (ks:List (Option IntKind)) (w:World) (a:Option Addr) (len cap:Nat):Prop:=
 (a=none∧len=0∧cap=0)∨(∃x,a=some x∧len=0)∨
 ∃x cc e fz,a=some x∧0<len∧x.spot=none∧len≤cap∧w.heap[x.block]?=some (.cells cc e fz)∧x.off+len≤cc.size∧
  ∀i,i<len→∃a' l' c',cc.toList[x.off+i]?=some (.slice a' l' c')∧iF ks w a' l' c'
theorem Zr {t e e2:TypeId} {n fuel:Nat} {ks:List (Option IntKind)} {cs:List Value} {x:DataW H×List MemPlace} (ht:P.underlying t=some (.slice e)) (he:P.underlying e=some (.slice e2)) (hf:pR P n e2=some ks) (hc2:P.cellsOf e2=ks.length) (hc:P.cellsOf e=1) (h0:0<ks.length)
  (h:DataW.trod enc P w base spare held fuel t cs=some x):∃a len cap,cs=[.slice a len cap]∧len≤maxLen∧B9 ks w a len cap:=by
 rcases DataW.trod_slice ht h with⟨rfl,_⟩|⟨a,len,cap,elems,rest,m,_,rfl,_,hb,hl,hm,hlen,hel,_,_⟩
 ·exact⟨none,0,0,rfl,Nat.zero_le _,.inl ⟨rfl,rfl,rfl⟩⟩
 refine⟨some a,len,cap,rfl,by omega,?_⟩
 rcases Nat.eq_zero_or_pos len with hz|hz
 ·exact .inr (.inl ⟨a,rfl,hz⟩)
 refine .inr (.inr ?_)
 have each:∀i,i<len→∃a' l' c',w.cell? (a.add i)=some (.slice a' l' c')∧iF ks w a' l' c':=by
  intro i hi
  have h1:=hel i hi
  rw[List.getElem?_eq_getElem (by omega),hc,Option.bind_eq_some_iff] at h1
  obtain⟨c,hcs,hy⟩:=h1
  obtain⟨a',l',c',hce,hr⟩:=Du he hf hc2 h0 hy
  subst hce
  refine⟨a',l',c',?_,hr⟩
  unfold World.cells? at hcs
  split at hcs
  ·have:=mapM_some_get hcs 0 0 (by simp)
   rw[Nat.mul_one] at this
   have e0:(a.add i).add 0=a.add i:=rfl
   rw[e0] at this
   simpa using this
  ·cases hcs
 obtain⟨a0,l0,c0,h00,hr0⟩:=each 0 hz
 obtain⟨cc,e',fz,hb,hs⟩:∃cc e fz,w.heap[a.block]?=some (.cells cc e fz)∧a.spot=none:=by
  have hx0:a.add 0=a:=rfl
  rw[hx0] at h00
  unfold World.cell? at h00
  split at h00
  ·rename_i c e fz hb
   split at h00
   ·cases h00
   ·rename_i hs
    exact⟨c,e,fz,hb,by simpa using hs⟩
  ·cases h00
 have hcell:∀o,w.cell? ⟨a.block,o,none⟩=cc[o]?:=by
  intro o
  unfold World.cell?
  rw[hb]
  simp
 have hat:∀i,i<len→∃a' l' c',cc.toList[a.off+i]?=some (.slice a' l' c')∧iF ks w a' l' c':=by
  intro i hi
  obtain⟨a',l',c',h1,h2⟩:=each i hi
  rw[Un hs,hcell] at h1
  exact⟨a',l',c',by rw[Array.getElem?_toList];exact h1,h2⟩
 refine⟨a,cc,e',fz,rfl,hz,hs,hl,hb,?_,hat⟩
 obtain⟨a',l',c',h1,_⟩:=hat (len - 1) (by omega)
 have:=(List.getElem?_eq_some_iff.1 h1).1
 simp at this
 omega
theorem G1 {W:World} {t:TypeId} {fs:Array Field} {i:Nat} {f:Field} {l:List Value} {d:DataW H} {p:List MemPlace} {n:Nat} {ks:List (Option IntKind)} (ht:P.underlying t=some (.struct fs)) (hf:fs[i]?=some f) (he:pR P n f.type=some ks)
  (h:DataW.Trod enc P W 0 (fun _=>true) true t (.agg ⟨l⟩) d p):Flat ks ((l.drop f.offset).take (P.cellsOf f.type)):=by
 obtain⟨fuel,hfu⟩:=h
 obtain⟨xs,m,_,_,hl,hx,hall⟩:=DataW.trod_struct ht hfu
 have hi:=hall i f hf
 have hi2:i<xs.length:=by rw[hx];exact(Array.getElem?_eq_some_iff.1 hf).1
 rw[List.getElem?_eq_getElem hi2] at hi
 have:=K5 n he hi
 simpa [Value.cells] using this
theorem Jd {W:World} {t e e2:TypeId} {fs:Array Field} {i:Nat} {f:Field} {l:List Value} {d:DataW H} {p:List MemPlace} {n:Nat} {ks:List (Option IntKind)} (ht:P.underlying t=some (.struct fs)) (hf:fs[i]?=some f)
  (hu:P.underlying f.type=some (.slice e)) (hu2:P.underlying e=some (.slice e2)) (h1:P.cellsOf f.type=1) (h2:P.cellsOf e=1) (he:pR P n e2=some ks) (hc:P.cellsOf e2=ks.length) (h0:0<ks.length)
  (h:DataW.Trod enc P W 0 (fun _=>true) true t (.agg ⟨l⟩) d p):∃a len cap,l[f.offset]?=some (.slice a len cap)∧len≤maxLen∧B9 ks W a len cap:=by
 obtain⟨fuel,hfu⟩:=h
 obtain⟨xs,m,_,_,hl,hx,hall⟩:=DataW.trod_struct ht hfu
 have hi:=hall i f hf
 have hi2:i<xs.length:=by rw[hx];exact(Array.getElem?_eq_some_iff.1 hf).1
 rw[List.getElem?_eq_getElem hi2] at hi
 obtain⟨a,len,cap,hcs,hm,hr⟩:=Zr hu hu2 he hc h2 h0 hi
 refine⟨a,len,cap,?_,hm,hr⟩
 rw[h1] at hcs
 have e1:(Value.cells (.agg ⟨l⟩)).toList=l:=by simp[Value.cells]
 have:=congrArg (fun z=>z[0]?) hcs
 simpa [Value.cells] using this
structure aBp (P:Program) (w:World) (ks:List (Option IntKind)) (k0:Nat) (a:Option Addr) (len cap:Nat) (r:OB) (rs:List OB) (t:Nat→Value) (vs:List Value) (ns:List Nat) (at':Nat→Nat→List Value):Prop where
 ok:∀x∈rs,Ur P w x
 out:∀ρ:gP,(∀i x,rs[i]?=some x→ρ (k0+i)=x.2)→zp P w ρ r
 rel:∀ρ k,ρ k=r.2→aD ρ (t k) (.slice a len cap)
 lvs:vs.length=len
 mI:ns.length=len
 flat:∀i n,ns[i]?=some n→∀j,j<n→Flat ks (at' i j)
 old:∀(G:Bg) k,k<G.base→G.old k=r.1→(∀i x,rs[i]?=some x→k0+i<G.base∧G.old (k0+i)=x.1)→
  rL G 1 (t k) len (fun i=>[vs.getD i undef])∧px G (t k) len∧∀i v n,vs[i]?=some v→ns[i]?=some n→rL G ks.length v n (at' i)∧px G v n
theorem gu (P:Program) {ks:List (Option IntKind)} {a:Option Addr} {len cap:Nat} (k0:Nat) (h:B9 ks w a len cap):∃r rs t vs ns at',aBp P w ks k0 a len cap r rs t vs ns at':=by
 rcases h with⟨rfl,rfl,rfl⟩|⟨x,rfl,rfl⟩|⟨x,cc,e,fz,rfl,h0,hs,hl,hb,hsz,hf⟩
 ·exact⟨(none,none),[],fun _=> .slice none 0 0,[],[],fun _ _=>[],⟨fun x hx=>(by cases hx),fun ρ _=>⟨fun o h=>(by cases h),fun b s h=>(by cases h)⟩,fun ρ k _=>(by simp only[aD]),rfl,rfl,fun i n hn=>(by simp at hn),fun G k _ _ _=>⟨⟨none,0,rfl,fun i hi=>(by omega)⟩,.inl ⟨rfl,rfl⟩,fun i v n hv=>(by simp at hv)⟩⟩⟩
 ·refine⟨(none,none),[],fun _=> .slice (some ⟨0,0,some 0⟩) 0 0,[],[],fun _ _=>[],⟨fun x hx=>(by cases hx),fun ρ _=>⟨fun o h=>(by cases h),fun b s h=>(by cases h)⟩,fun ρ k _=>?_,rfl,rfl,fun i n hn=>(by simp at hn),fun G k _ _ _=>⟨⟨some ⟨0,0,some 0⟩,0,rfl,fun i hi=>(by omega)⟩,.inr (.inl ⟨rfl,rfl⟩),fun i v n hv=>(by simp at hv)⟩⟩⟩
  simp only[aD]
  exact⟨trivial,trivial,x,cap,fun h=>by omega,fun h=>by omega,rfl⟩
 ·
  have hch:∀i,∃(y:OB×(Nat→Value)×(Nat→List Value)×Nat×Value),i<len→cc.toList[x.off+i]?=some y.2.2.2.2∧Ur P w y.1∧(∀ρ k,ρ k=y.1.2→aD ρ (y.2.1 k) y.2.2.2.2)∧(∀j,j<y.2.2.2.1→Flat ks (y.2.2.1 j))∧
    ∀(G:Bg) k,k<G.base→G.old k=y.1.1→rL G ks.length (y.2.1 k) y.2.2.2.1 y.2.2.1∧px G (y.2.1 k) y.2.2.2.1:=by
   intro i
   by_cases hi:i<len
   ·obtain⟨a',l',c',h1,h2⟩:=hf i hi
    obtain⟨r,t,h3,h4,at',h5,h6⟩:=tD P h2
    exact⟨(r,t,at',l',.slice a' l' c'),fun _=>⟨h1,h3,h4,h5,h6⟩⟩
   ·exact⟨((none,none),fun _=>undef,fun _=>[],0,undef),fun h=>absurd h hi⟩
  obtain⟨Y,hY⟩:∃Y:Nat→OB×(Nat→Value)×(Nat→List Value)×Nat×Value,∀i,i<len→cc.toList[x.off+i]?=some (Y i).2.2.2.2∧Ur P w (Y i).1∧(∀ρ k,ρ k=(Y i).1.2→aD ρ ((Y i).2.1 k) (Y i).2.2.2.2)∧(∀j,j<(Y i).2.2.2.1→Flat ks ((Y i).2.2.1 j))∧
    ∀(G:Bg) k,k<G.base→G.old k=(Y i).1.1→rL G ks.length ((Y i).2.1 k) (Y i).2.2.2.1 (Y i).2.2.1∧px G ((Y i).2.1 k) (Y i).2.2.2.1:=
   ⟨fun i=>(hch i).choose,fun i hi=>(hch i).choose_spec hi⟩
  have hrs:∀{α:Type} (g:Nat→α) (i:Nat) (z:α),((List.range len).map g)[i]?=some z→i<len∧z=g i:=by
   intro α g i z hz
   have hi:i<len:=by have:=(List.getElem?_eq_some_iff.1 hz).1;simpa using this
   rw[List.getElem?_map,List.getElem?_range hi] at hz
   simp only[Option.map_some,Option.some.injEq] at hz
   exact⟨hi,hz.symm⟩
  refine⟨(some (.cells ((List.range cc.size).map fun j=>if x.off≤j∧j<x.off+len then(Y (j - x.off)).2.1 (k0+(j - x.off)) else top) e fz false),some (x.block,(0,0))),(List.range len).map fun i=>(Y i).1,fun k=> .slice (some ⟨k,x.off,none⟩) len cap,
      (List.range len).map fun i=>(Y i).2.1 (k0+i),(List.range len).map fun i=>(Y i).2.2.2.1,fun i=>(Y i).2.2.1,⟨?_,?_,?_,by simp,by simp,?_,?_⟩⟩
  ·intro y hy
   obtain⟨i,hi,rfl⟩:=List.mem_map.1 hy
   exact(hY i (List.mem_range.1 hi)).2.1
  ·intro ρ hρ
   refine⟨fun o ho b s hr=>?_,fun b s hr=>?_⟩
   ·cases ho;cases hr
    refine⟨_,hb,cc,rfl,?_,by simp,fun h=>by cases h⟩
    rw[List.drop_zero,List.take_of_length_le (by simp)]
    refine Yh (by simp) fun j u v hu hv=>?_
    rw[List.getElem?_map] at hu
    have hj:j<cc.size:=by have:=(List.getElem?_eq_some_iff.1 hv).1;simpa using this
    rw[List.getElem?_range hj] at hu
    simp only[Option.map_some,Option.some.injEq] at hu
    subst hu
    split
    ·rename_i hc
     obtain⟨h1,_,h3,_,_⟩:=hY (j - x.off) (by omega)
     rw[show x.off+(j - x.off)=j by omega,hv] at h1
     simp only[Option.some.injEq] at h1
     rw[h1]
     refine h3 ρ _ (hρ (j - x.off) _ ?_)
     rw[List.getElem?_map,List.getElem?_range (by omega)];rfl
    ·exact vp
   ·cases hr
    exact(Array.getElem?_eq_some_iff.1 hb).1
  ·intro ρ k hr
   simp only[aD]
   exact⟨x.block,(0,0),cap,hr,Nat.le_refl _,by simp,by cases x;simp at hs;subst hs;rfl⟩
  ·intro i n hn j hj
   obtain⟨hi,rfl⟩:=hrs _ i n hn
   exact(hY i hi).2.2.2.1 j hj
  ·intro G k hk hg hall
   refine⟨⟨_,_,rfl,fun i hi=>⟨k,x.off,_,rfl,⟨hk,e,fz,false,hg⟩,?_,by simp;omega⟩⟩,.inr (.inr ⟨k,x.off,cap,_,e,fz,rfl,h0,hl,hk,hg⟩),fun i v n hv hn=>?_⟩
   ·have hsz':x.off+i*1<cc.size:=by omega
    have hli:x.off+i*1<((List.range cc.size).map fun j=>if x.off≤j∧j<x.off+len then(Y (j - x.off)).2.1 (k0+(j - x.off)) else top).length:=by simp;omega
    rw[List.drop_eq_getElem_cons hli,List.take_succ_cons,List.take_zero]
    have e1:((List.range len).map fun i=>(Y i).2.1 (k0+i)).getD i undef=(Y i).2.1 (k0+i):=by
     rw[List.getD_eq_getElem?_getD,List.getElem?_map,List.getElem?_range hi];rfl
    show[_]=[((List.range len).map fun i=>(Y i).2.1 (k0+i)).getD i undef]
    rw[e1]
    simp only[List.getElem_map,List.getElem_range]
    rw[if_pos (by omega),show x.off+i*1 - x.off=i by omega]
   ·obtain⟨hi,rfl⟩:=hrs _ i v hv
    obtain⟨_,rfl⟩:=hrs _ i n hn
    obtain⟨h1,h2⟩:=hall i (Y i).1 (by rw[List.getElem?_map,List.getElem?_range hi];rfl)
    exact(hY i hi).2.2.2.2 G (k0+i) h1 h2
end Go.Ab
end
