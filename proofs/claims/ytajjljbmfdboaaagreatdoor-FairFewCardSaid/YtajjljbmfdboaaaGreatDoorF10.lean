/- A part of the proof. -/
import Derived.Test.YtajjljbmfdboaaaGreatDoorF9
import Derived.Test.YtajjljbmfdboaaaGreatDoorF8
section
namespace Go.Ab
variable {P:Program} {K:FuncId→List Value→Option hJ} {G:Bg} {h:AH} {L L' M:List HP}
theorem aEb {W n i c:Nat} {e:TypeId} {a:Option Addr} {cs z:List Value} {k:Value→AH→Prop} (hW:0<W) (hz:∀m,(eB z m).length=m*W∧(eB z m).all eF=true) (hi:i<n) (hs:Hs G h L) [m:Has (dB W e a c) L (n,cs) L']
  (hk:∀h',Hs G h' (dB W e a c (i,cs.take (i*W))::L')→k (.slice a i c) h'):
  bA (wY W h (.slice a n c) (some (I i)) none none) fun v0=>bA (jC z h v0) fun r1=>(fun _ h3=>bA (wY W h3 (.slice a n c) none (some (I i)) none) fun v4=>k v4 h3) r1.1 r1.2:=by
 have hs:=m.of hs
 have hl:=hs.A4
 have hc:=hs.Ca
 simp only at hl hc
 have hcap:n≤c:=by
  obtain⟨r,r2,⟨_,_,hr⟩,_⟩:=hs.fst
  rcases hr with⟨hz,_⟩|⟨hz,_⟩|⟨hcap,_⟩
  ·simp only at hz;omega
  ·simp only at hz;omega
  ·exact hcap
 obtain⟨b,o,rfl,H,hs2,close⟩:=hs.mU (by omega)
 have hpos:0<n*W:=Nat.mul_pos (by omega) hW
 have hcl:0<cs.length:=by omega
 have b1:jZ none c c=some c:=rfl
 have b2:jZ (some (I i)) n c=some i:=by simp only[jZ];rw[if_pos (by omega)];simp
 have b3:jZ none 0 i=some 0:=rfl
 have b4:jZ none n c=some n:=rfl
 have b5:jZ (some (I i)) 0 n=some i:=by simp only[jZ];rw[if_pos (by omega)];simp
 have hci:¬c=i:=by omega
 have hc0:¬c=0:=by omega
 have hiW:i*W≤n*W:=Nat.mul_le_mul_right W (by omega)
 have hsub:(n - i)*W=n*W - i*W:=Nat.sub_mul _ _ _
 refine⟨.slice (some ⟨b,o+i*W,none⟩) (n - i) (c - i),?_,?_⟩
 ·simp only[wY,b1,b4,b5,Option.isNone_none,Option.isSome_none,Bool.and_false,Bool.false_eq_true,if_false,cX,hci]
  rw[if_pos hcap]
 obtain⟨h1,hst,hs3⟩:=hs2.write (j:=i*W) (vs:=eB z (n - i)) (by rw[(hz _).1];omega) (hz _).2 hcl
 refine⟨(.tuple #[],h1),?_,?_⟩
 ·simp only[jC,if_neg (show ¬n - i=0 by omega),hst,Option.map_some]
 refine⟨.slice (some ⟨b,o,none⟩) i c,?_,hk h1 ?_⟩
 ·simp only[wY,b1,b2,b3,Option.isNone_some,Bool.false_and,Option.isSome_none,Bool.false_eq_true,if_false,hc0,cX]
  rw[if_pos (by omega)]
  simp
 have hsp:bY cs (i*W) (eB z (n - i))=cs.take (i*W)++eB z (n - i):=by
  unfold bY
  rw[List.drop_eq_nil_of_le (by rw[(hz _).1];omega),List.append_nil]
 rw[hsp] at hs3
 have hlen:(cs.take (i*W)).length=i*W:=by rw[List.length_take];omega
 refine Gx (n:=n) (zs:=eB z (n - i)) (by omega) (by omega) hlen (close h1 _ _ ?_ ?_ hs3)
 ·rw[List.length_append,hlen,(hz _).1];omega
 ·rw[List.all_append,(hz _).2,Bool.and_true]
  exact List.all_eq_true.2 fun v hv=>List.all_eq_true.1 hc v (List.mem_of_mem_take hv)
instance {p:Nat}:Cv (fJ p) [fJ p]:=⟨rfl⟩
theorem aCs {cs:List Value} {e:TypeId} {v:Value} {k:Nat→AH→Prop} (hs:Hs G h L) [hv:Cv v cs] (hk:∀p h',Hs G h' (aE p 0 cs::mt p (e,true,cs.length)::L)→k p h'):bA (lI e v) fun b=>Dp h b k:=
 ⟨.cells cs e (0,0) true,by simp[lI,hv.eq],hk _ _ hs.new⟩
end Go.Ab
end
section
namespace Go.Ab
variable {P:Program} {K:FuncId→List Value→Option hJ} {G:Bg} {h:AH} {L L' M:List HP}
theorem Hs.aBq {r n i:Nat} {D:List Nat} {o:lG} (ho:Hf o=true) (hs:Hs G h (u5 r n D::L)) (hi:i<n) (hD:i∉D):
  Hs G (h.set (r+i) (some o)) (ot (r+i) o::u5 r n (i::D)::L):=by
 obtain⟨q,⟨r1,r2,h1,h2,h3,h4⟩,h5⟩:=hs.res
 cases h1
 subst h4
 obtain⟨i1,i2⟩:=(cF.fA h3).1 h5
 obtain⟨q1,q2,hq1,⟨q3,q4,hq3,hq4,hq5,hq6⟩,hd,hqe⟩:=R9 (r:=r) hi hD
 cases hq1;cases hq4
 rw[cF.add_comm (s:=cF.emp) cF.dJ.symm,cF.fK] at hq6
 subst hq6
 cases hq3
 rw[hqe] at i1 h3
 obtain⟨i3,i4⟩:=(cF.fA hd).1 i1
 obtain⟨fb,fn,fg⟩:=i3.free (r+i) (by simp)
 obtain⟨d1,d2⟩:=cF.gW.1 h3.symm
 have hget:∀j,(h.set (r+i) (some o)).get j=if j=r+i then some o else h.get j:=fun j=>AH.gY fb
 have hrest:=(cF.fA d2.symm).2 ⟨i4,i2⟩
 have hft:((⟨fun _ _=>none,fun b=>if r≤b∧b<r+n∧(b - r)∉(i::D) then some .free else none⟩:cF).add r2).tok (r+i)=none:=by
  simp only[cF.add]
  rw[if_neg (by rw[Nat.add_sub_cancel_left];simp)]
  rcases d1.tok (r+i) with h|h
  ·simpa using h
  ·simp at h
 have hnd:(⟨fun _ _=>none,fun b'=>if b'=r+i then some (.J3 o) else none⟩:cF).sZ ((⟨fun _ _=>none,fun b=>if r≤b∧b<r+n∧(b - r)∉(i::D) then some .free else none⟩:cF).add r2):=by
  refine⟨fun _ _=> .inl rfl,fun b=>?_⟩
  by_cases hb:b=r+i
  ·right;rw[hb];exact hft
  ·left;simp only;rw[if_neg hb]
 refine⟨by simp;exact hs.base,by rw[AH.zH];exact hs.old,by simp;exact hs.wf,fun j hj=>by simp at hj;rw[hget,if_neg (by omega)];exact hs.fr j hj,
    _,⟨_,_,rfl,⟨_,r2,rfl,h2,d2.symm,rfl⟩,hnd,rfl⟩,(cF.fA hnd).2 ⟨?_,?_⟩⟩
 ·refine⟨fun _ _ _ hv=>(by cases hv),fun b hv=>?_,fun b e' x' n hv=>?_,fun b o' hv=>?_⟩
  ·simp only at hv;split at hv<;>cases hv
  ·simp only at hv;split at hv<;>cases hv
  ·simp only at hv
   split at hv
   ·rename_i hb;subst hb;cases hv
    exact⟨by simp;exact fb,by rw[hget,if_pos rfl],ho⟩
   ·cases hv
 ·refine hrest.of (by simp) (by simp) fun b hb=>?_
  rw[hget,if_neg]
  intro hbb
  subst hbb
  rcases hb with hb|⟨o,hb⟩
  ·exact hb hft
  ·apply hb
   cases hc:cF.cell _ (r+i) o with
   |none=>rfl
   |some v=>obtain⟨_,_,_,_,g,_⟩:=hrest.cell _ o v hc;rw[fg] at g;cases g
theorem Vq {r i n:Nat} {D:List Nat} {k:Nat→AH→Prop} (hs:Hs G h L) [m:Has (Yn r) L (n,D) L'] (hi:Nat.blt i n=true) (hD:D.contains i=false)
  (hk:∀p h',Hs G h' (gX p (fun _=>none)::Yn r (n,i::D)::L')→k p h'):nH h (r+i) (.map [] 0) k:=
 hk _ _ (qO (es:=[]) (cl:=0) ⟨by simp,by simp,by simp,by simp⟩ (fun _=>rfl) (Hs.aBq (o:= .map [] 0) rfl (show Hs G h (u5 r n D::L') from m.of hs) (by have:=Nat.le_of_ble_eq_true hi;omega) (by simpa using hD)))
end Go.Ab
end
section
namespace Go.Ab
variable {P:Program} {K:FuncId→List Value→Option hJ} {G:Bg} {h:AH} {L L' M:List HP}
def pE (p:Nat):List Value:=[pt p 0 0]
instance:Fx pE 1 where
 len _:=rfl
 cel _:=rfl
theorem sq {e:TypeId} {a:Option Addr} {c i:Nat} {l:List Nat} {k:Value→Prop} (hs:Hs G h L) [m:Has (ls pE 1 e a c) L l L'] (hi:i<l.length) (hk:k (pt (l.getD i 0) 0 0)):bA (lJ 1 (.slice a l.length c) (I i)) fun p=>bA (pN h p) k:=by
 have hx:l[i]?=some (l.getD i 0):=by rw[List.getD_eq_getElem?_getD,List.getElem?_eq_getElem hi];rfl
 have hs:Hs G h (dB 1 e a c (l.length,eL pE l)::L'):=m.of hs
 obtain⟨b,o,rfl,hs'⟩:=hs.fM (by omega)
 refine dK hi ?_
 rw[show pt b (o+i*1) 0=pt b o (i*1) by simp[pt]]
 have e2:(eL pE l)[i*1]?=some (pt (l.getD i 0) 0 0):=Ps (enc:=pE) (W:=1) (j:=0) hx rfl
 exact aC (b:=b) (o:=o) (j:=i*1) hs' e2 hk
theorem jn {e:TypeId} {a:Option Addr} {c i q:Nat} {l:List Nat} {k:AH→Prop} (hs:Hs G h L) [m:Has (ls pE 1 e a c) L l L'] (hi:i<l.length) (hk:∀h',Hs G h' (ls pE 1 e a c (l.set i q)::L')→k h'):bA (lJ 1 (.slice a l.length c) (I i)) fun p=>bA (uU h 1 p (pt q 0 0)) k:=by
 have hs:Hs G h (dB 1 e a c (l.length,eL pE l)::L'):=m.of hs
 obtain⟨b,o,rfl,hs'⟩:=hs.fM (by omega)
 refine dK hi ?_
 rw[show pt b (o+i*1) 0=pt b o (i*1) by simp[pt]]
 have hlen:(eL pE l).length=l.length*1:=Ba
 refine bI hs' (vs:=[pt q 0 0]) rfl (Nat.ble_eq_true_of_le (by omega)) rfl (Nat.ble_eq_true_of_le (by omega)) fun h' hs''=>hk h' ?_
 have e1:dL (eL pE l) (i*1) [pt q 0 0]=eL pE (l.set i q):=mo (y:=q) hi
 rw[e1] at hs''
 unfold ls
 rw[List.length_set]
 exact Hs.mL hs'' (by rw[Ba,List.length_set]) Hc
def nV {α:Type} (R:Nat→Nat→α→HP) (l:List Nat) (s:Nat→α):HP:=dD l.length fun k=>R k (l.getD k 0) (s k)
def Da {α:Type} (R:Nat→Nat→α→HP) (l:List Nat) (s:Nat→α) (i:Nat):HP:=sp (((List.range l.length).erase i).map fun k=>R k (l.getD k 0) (s k))
variable {α:Type} {R:Nat→Nat→α→HP} {l:List Nat} {s:Nat→α} {i q:Nat} {x:α}
theorem gF (hi:i<l.length) (hs:Hs G h L) [m:Has (nV R l) L s L']:Hs G h (R i (l.getD i 0) (s i)::Da R l s i::L'):=(show Hs G h (dD l.length (fun k=>R k (l.getD k 0) (s k))::L') from m.of hs).kY i hi
theorem j4 (hi:i<l.length) (hs:Hs G h (R i q x::Da R l s i::L)):Hs G h (nV R (l.set i q) (fun j=>if j=i then x else s j)::L):=by
 unfold nV
 rw[List.length_set]
 refine Hs.jx (i:=i) (f:=fun k=>R k (l.getD k 0) (s k)) hi (fun j hj=>?_) ?_
 ·simp only[if_neg hj,List.getD_eq_getElem?_getD,List.getElem?_set]
  rw[if_neg (fun e=>hj e.symm)]
 ·simp only[if_true,List.getD_eq_getElem?_getD,List.getElem?_set,hi,Option.getD_some]
  exact hs
theorem xP (hi:i<l.length) (hs:Hs G h (R i (l.getD i 0) x::Da R l s i::L)):Hs G h (nV R l (fun j=>if j=i then x else s j)::L):=by
 have:=j4 hi hs
 rwa [show l.set i (l.getD i 0)=l by
  refine List.ext_getElem? fun j=>?_
  rw[List.getElem?_set]
  split
  ·rename_i e;subst e;rw[List.getD_eq_getElem?_getD,List.getElem?_eq_getElem hi];rfl
  ·rfl] at this
theorem Gp (hs:Hs G h L):Hs G h (nV R [] s::L):=Hs.Tl hs
theorem Gi (hs:Hs G h (R l.length q (s l.length)::nV R l s::L)):Hs G h (nV R (l++[q]) s::L):=by
 unfold nV
 rw[List.length_append,List.length_singleton]
 refine Hs.Si ?_
 have e:(l++[q]).getD l.length 0=q:=by simp[List.getD_eq_getElem?_getD]
 rw[e]
 have hs2:=hs.perm (List.Perm.swap _ _ _)
 refine(qP (f:=fun k=>R k (l.getD k 0) (s k)) (fun j hj=>?_) hs2).perm (List.Perm.swap _ _ _)
 simp only[List.getD_eq_getElem?_getD,List.getElem?_append_left hj]
end Go.Ab
end
section
namespace Go.Ab
open Go Go.RowKit Go.ChangeShapes Go.WideShapes Go.ChangeAt
variable {H:Type} {enc:TypeId×Value→H}
theorem ku {P:Program} {W:World} {base:Nat} {t:TypeId} {fs:Array Field} {v:Value} (ht:P.underlying t=some (.struct fs)) (hok:Value.okWide P W .any base t v):∃l,v= .agg ⟨l⟩∧l.length=P.cellsOf t:=by
 simp only[Value.okWide,ht] at hok
 obtain⟨⟨l⟩,rfl,h,_⟩:=hok
 exact⟨l,rfl,h⟩
theorem tC {P:Program} {W:World} {t e:TypeId} {fs:Array Field} {i:Nat} {f:Field} {l:List Value} {d:DataW H} {p:List MemPlace} {n:Nat} {ks:List (Option IntKind)} (ht:P.underlying t=some (.struct fs)) (hf:fs[i]?=some f)
  (hu:P.underlying f.type=some (.slice e)) (h1:P.cellsOf f.type=1) (he:qC P n e=some ks) (hc:P.cellsOf e=ks.length) (h0:0<ks.length)
  (h:DataW.Trod enc P W 0 (fun _=>true) true t (.agg ⟨l⟩) d p):∃a len cap,l[f.offset]?=some (.slice a len cap)∧iK ks W a len cap:=by
 obtain⟨fuel,hfu⟩:=h
 obtain⟨xs,m,_,_,hl,hx,hall⟩:=DataW.trod_struct ht hfu
 have hi:=hall i f hf
 have hi2:i<xs.length:=by rw[hx];exact(Array.getElem?_eq_some_iff.1 hf).1
 rw[List.getElem?_eq_getElem hi2] at hi
 obtain⟨a,len,cap,hcs,hr⟩:=Dq hu he hc h0 hi
 refine⟨a,len,cap,?_,hr⟩
 rw[h1] at hcs
 have e1:(Value.cells (.agg ⟨l⟩)).toList=l:=by simp[Value.cells]
 have:=congrArg (fun z=>z[0]?) hcs
 simpa [Value.cells] using this
end Go.Ab
end
section
namespace Go.Ab
open Go Go.RowKit Go.ChangeShapes Go.WideShapes Go.ChangeAt
theorem Au {α:Type} {f:α→List Value} {R:α→Prop} {W n:Nat} {at':Nat→List Value} (hex:∀i,i<n→∃x,at' i=f x∧R x):
  ∃l:List α,l.length=n∧(∀x∈l,R x)∧∀(G:Bg) (v:Value),sA G W v n at'→sA G W v (l.map f).length (fun i=>(l.map f).getD i []):=by
 let l:List α:=(List.finRange n).map fun i=>(hex i.1 i.2).choose
 have hl:l.length=n:=by simp[l]
 have hg:∀i,(hi:i<n)→l[i]?=some (hex i hi).choose:=fun i hi=>by
  simp[l,List.getElem?_map,List.getElem?_eq_getElem (show i<(List.finRange n).length by simp;exact hi)]
 refine⟨l,hl,fun x hx=>?_,fun G v ho=>?_⟩
 ·obtain⟨i,_,rfl⟩:=List.mem_map.1 hx
  exact(hex i.1 i.2).choose_spec.2
 ·obtain⟨a,c,rfl,hall⟩:=ho
  rw[List.length_map,hl]
  refine⟨a,c,rfl,fun i hi=>?_⟩
  obtain⟨b,o,cells,h1,h2,h3,h4⟩:=hall i hi
  refine⟨b,o,cells,h1,h2,?_,h4⟩
  rw[h3,(hex i hi).choose_spec.1]
  show f _=(l.map f).getD i []
  rw[List.getD_eq_getElem?_getD,List.getElem?_map,hg i hi]
  rfl
def qb (G:Bg) (v:Value) (n:Nat):Prop:=(v= .slice none 0 0∧n=0)∨(v= .slice (some ⟨0,0,some 0⟩) 0 0∧n=0)∨
 ∃k o c cells e fz,v= .slice (some ⟨k,o,none⟩) n c∧0<n∧n≤c∧k<G.base∧G.old k=some (.cells cells e fz false)
theorem tI {w:World} (P:Program) {ks:List (Option IntKind)} {a:Option Addr} {len cap:Nat} (h:iK ks w a len cap):∃(r:OB) (t:Nat→Value),Uq P w r∧
  (∀ρ k,ρ k=r.2→aD ρ (t k) (.slice a len cap))∧∃at':Nat→List Value,(∀i,i<len→Flat ks (at' i))∧∀(G:Bg) k,k<G.base→G.old k=r.1→sA G ks.length (t k) len at'∧qb G (t k) len:=by
 rcases h with⟨rfl,rfl,rfl⟩|⟨x,rfl,rfl⟩|⟨x,cc,e,fz,rfl,h0,hs,hl,hb,hsz,hf⟩
 ·refine⟨(none,none),fun _=> .slice none 0 0,⟨fun o h=>by(cases h),fun b s h=>by cases h⟩,fun ρ k _=>by simp only[aD],fun _=>[],fun i hi=>by omega,fun G k _ _=>⟨⟨none,0,rfl,fun i hi=>by omega⟩,.inl ⟨rfl,rfl⟩⟩⟩
 ·refine⟨(none,none),fun _=> .slice (some ⟨0,0,some 0⟩) 0 0,⟨fun o h=>by(cases h),fun b s h=>by cases h⟩,fun ρ k _=>?_,fun _=>[],fun i hi=>by omega,fun G k _ _=>⟨⟨some ⟨0,0,some 0⟩,0,rfl,fun i hi=>by omega⟩,.inr (.inl ⟨rfl,rfl⟩)⟩⟩
  simp only[aD]
  exact⟨trivial,trivial,x,cap,fun h=>by omega,fun h=>by omega,rfl⟩
 ·refine⟨(some (.cells (cc.toList.map san) e fz false),some (x.block,(0,0))),fun k=> .slice (some ⟨k,x.off,none⟩) len cap,⟨fun o h b s hr=>?_,fun b s hr=>?_⟩,fun ρ k hr=>?_,fun i=>(cc.toList.drop (x.off+i*ks.length)).take ks.length,hf,fun G k hk hg=>?_⟩
  ·cases h;cases hr
   refine⟨_,hb,fun ρ=>⟨cc,rfl,?_,by simp,fun h=>by cases h⟩⟩
   rw[List.length_map,List.drop_zero,List.take_of_length_le (by simp)]
   exact Xg _
  ·cases hr
   exact(Array.getElem?_eq_some_iff.1 hb).1
  ·simp only[aD]
   exact⟨x.block,(0,0),cap,hr,Nat.le_refl _,by simp,by cases x;simp at hs;subst hs;rfl⟩
  ·refine⟨⟨_,_,rfl,fun i hi=>⟨k,x.off,_,rfl,⟨hk,e,fz,false,hg⟩,?_,?_⟩⟩,.inr (.inr ⟨k,x.off,cap,_,e,fz,rfl,h0,hl,hk,hg⟩)⟩
   ·rw[←List.map_drop,←List.map_take]
    exact G4 (hf i hi)
   ·rw[List.length_map]
    have:i*ks.length≤len*ks.length:=Nat.mul_le_mul_right _ (by omega)
    simp;omega
variable {G:Bg} {h:AH} {L:List HP}
end Go.Ab
end
