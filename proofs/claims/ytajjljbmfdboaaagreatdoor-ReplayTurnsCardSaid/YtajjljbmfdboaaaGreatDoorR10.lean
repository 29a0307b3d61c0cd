/- A part of the proof. -/
import Derived.Test.YtajjljbmfdboaaaGreatDoorR9
import Derived.Test.YtajjljbmfdboaaaGreatDoorR8
section
namespace Go.Ab
variable {P:Program} {K:FuncId->List Value->Option jI} {G:Bg} {h:AH} {L L' M:List HP}
theorem Hs.aEm {r n i:Nat} {D:List Nat} {o:nI} (T:Ky o=true) (p:Hs G h (yr r n D::L)) (S:i<n) (hD:i∉D):
  Hs G (h.set (r+i) (some o)) (ot (r+i) o::yr r n (i::D)::L):=by
 obtain⟨q,⟨r1,B,I,J,t,N⟩,O⟩:=p.res
 cases I
 subst N
 obtain⟨i1,i2⟩:=(cS.fS t).1 O
 obtain⟨Y,Z,w,⟨q3,q4,y,z,U,m⟩,Q,A⟩:=Ty (r:=r) S hD
 cases w;cases z
 rw[cS.add_comm (s:=cS.emp) cS.dS.symm,cS.gJ] at m
 subst m
 cases y
 rw[A] at i1 t
 obtain⟨i3,i4⟩:=(cS.fS Q).1 i1
 obtain⟨fb,W,F⟩:=i3.free (r+i) (by simp)
 obtain⟨d1,d2⟩:=cS.iL.1 t.symm
 have c:∀j,(h.set (r+i) (some o)).get j=if j=r+i then some o else h.get j:=fun j=>AH.jO fb
 have d:=(cS.fS d2.symm).2 ⟨i4,i2⟩
 have f:((⟨fun _ _=>none,fun b=>if r<=b/\b<r+n/\(b - r)∉(i::D) then some .free else none⟩:cS).add B).tok (r+i)=none:=by
  simp only[cS.add];rw[aJ6 (by rw[Nat.add_sub_cancel_left];simp)];rcases d1.tok (r+i) with h|h;simpa using h;simp at h
 have k:(⟨fun _ _=>none,fun E=>if E=r+i then some (.M7 o) else none⟩:cS).vA ((⟨fun _ _=>none,fun b=>if r<=b/\b<r+n/\(b - r)∉(i::D) then some .free else none⟩:cS).add B):=by
  refine⟨fun _ _=> .inl rfl,fun b=>?_⟩;by_cases e:b=r+i;right;rw[e];exact f;left;simp only;rw[aJ6 e]
 refine⟨by simp;exact p.base,by rw[AH.A9];exact p.old,by simp;exact p.wf,fun j C=>by simp at C;rw[c,aaa];exact p.fr j C,
    _,⟨_,_,rfl,⟨_,B,rfl,J,d2.symm,rfl⟩,k,rfl⟩,(cS.fS k).2 ⟨?_,?_⟩⟩
 .refine⟨fun _ _ _ a=>(by cases a),fun b a=>?_,fun b V x' n a=>?_,fun b X a=>?_⟩
  .simp only at a;split at a<;>cases a
  .simp only at a;split at a<;>cases a
  .simp only at a;split at a
   .rename_i e;subst e;cases a;exact⟨by simp;exact fb,by rw[c,aJ7 rfl],T⟩
   .cases a
 .refine d.of (by simp) (by simp) fun b e=>?_;rw[c,aJ6];intro u;subst u;rcases e with e|⟨o,e⟩
  .exact e f
  .apply e;cases hc:cS.cell _ (r+i) o with
   |none=>rfl
   |some v=>obtain⟨_,_,_,_,g,_⟩:=d.cell _ o v hc;rw[F] at g;cases g
theorem W0 {r i n:Nat} {D:List Nat} {k:Nat->AH->Prop} (d:Hs G h L) [m:Has (af r) L (n,D) L'] (b:Nat.blt i n=true) (hD:D.contains i=false)
  (c:∀p a,Hs G a (iJ p (fun _=>none)::af r (n,i::D)::L')->k p a):mN h (r+i) (.map [] 0) k:=
 c _ _ (sR (es:=[]) (cl:=0) ⟨by simp,by simp,by simp,by simp⟩ (fun _=>rfl) (Hs.aEm (o:= .map [] 0) rfl (show Hs G h (yr r n D::L') from m.of d) (by have:=Nat.le_of_ble_eq_true b;omega) (by simpa using hD)))
end Go.Ab
end
section
namespace Go.Ab
variable {P:Program} {K:FuncId->List Value->Option jI} {G:Bg} {h:AH} {L L' M:List HP}
def pE (p:Nat):List Value:=[pt p 0 0]
instance:Fx pE 1 where
 len _:=rfl
 cel _:=rfl
theorem xp {e:TypeId} {a:Option Addr} {c i:Nat} {l:List Nat} {k:Value->Prop} (d:Hs G h L) [m:Has (ls pE 1 e a c) L l L'] (g:i<l.length) (r:k (pt (l.getD i 0) 0 0)):bG (lB 1 (.slice a l.length c) (I i)) fun p=>bG (pK h p) k:=by
 have t:l[i]?=some (l.getD i 0):=by rw[List.getD_eq_getElem?_getD,List.getElem?_eq_getElem g];rfl
 have d:Hs G h (cN 1 e a c (l.length,eL pE l)::L'):=m.of d;obtain⟨b,o,rfl,f⟩:=d.gD (by omega);refine dM g ?_;rw[show pt b (o+i*1) 0=pt b o (i*1) by simp[pt]];have n:(eL pE l)[i*1]?=some (pt (l.getD i 0) 0 0):=Zz (enc:=pE) (W:=1) (j:=0) t rfl;exact aD (b:=b) (o:=o) (j:=i*1) f n r
theorem vp {e:TypeId} {a:Option Addr} {c i q:Nat} {l:List Nat} {k:AH->Prop} (g:Hs G h L) [m:Has (ls pE 1 e a c) L l L'] (n:i<l.length) (u:∀f,Hs G f (ls pE 1 e a c (l.set i q)::L')->k f):bG (lB 1 (.slice a l.length c) (I i)) fun p=>bG (tZ h 1 p (pt q 0 0)) k:=by
 have g:Hs G h (cN 1 e a c (l.length,eL pE l)::L'):=m.of g;obtain⟨b,o,rfl,j⟩:=g.gD (by omega);refine dM n ?_;rw[show pt b (o+i*1) 0=pt b o (i*1) by simp[pt]];have r:(eL pE l).length=l.length*1:=sS;refine bJ j (vs:=[pt q 0 0]) rfl (Nat.ble_eq_true_of_le (by omega)) rfl (Nat.ble_eq_true_of_le (by omega)) fun f d=>u f ?_;have t:dN (eL pE l) (i*1) [pt q 0 0]=eL pE (l.set i q):=Wd (y:=q) n;rw[t] at d;unfold ls;rw[List.length_set];exact Hs.kZ d (by rw[sS,List.length_set]) F2
def rZ {α:Type} (R:Nat->Nat->α->HP) (l:List Nat) (s:Nat->α):HP:=dF l.length fun k=>R k (l.getD k 0) (s k)
def Km {α:Type} (R:Nat->Nat->α->HP) (l:List Nat) (s:Nat->α) (i:Nat):HP:=sp (((List.range l.length).erase i).map fun k=>R k (l.getD k 0) (s k))
variable {α:Type} {R:Nat->Nat->α->HP} {l:List Nat} {s:Nat->α} {i q:Nat} {x:α}
theorem jC (a:i<l.length) (b:Hs G h L) [m:Has (rZ R l) L s L']:Hs G h (R i (l.getD i 0) (s i)::Km R l s i::L'):=(show Hs G h (dF l.length (fun k=>R k (l.getD k 0) (s k))::L') from m.of b).jX i a
theorem nq (a:i<l.length) (c:Hs G h (R i q x::Km R l s i::L)):Hs G h (rZ R (l.set i q) (fun j=>if j=i then x else s j)::L):=by
 unfold rZ;rw[List.length_set];refine Hs.aB8 (i:=i) (f:=fun k=>R k (l.getD k 0) (s k)) a (fun j b=>?_) ?_;simp only[aJ6 b,List.getD_eq_getElem?_getD,List.getElem?_set];rw[aJ6 (fun e=>b e.symm)];simp only[if_true,List.getD_eq_getElem?_getD,List.getElem?_set,a,Option.getD_some];exact c
theorem Mu (a:i<l.length) (b:Hs G h (R i (l.getD i 0) x::Km R l s i::L)):Hs G h (rZ R l (fun j=>if j=i then x else s j)::L):=by
 have:=nq a b;rwa [show l.set i (l.getD i 0)=l by
  refine List.ext_getElem? fun j=>?_;rw[List.getElem?_set];split;rename_i e;subst e;rw[List.getD_eq_getElem?_getD,List.getElem?_eq_getElem a];rfl;rfl] at this
theorem Rj (a:Hs G h L):Hs G h (rZ R [] s::L):=Hs.Tw a
theorem Rq (c:Hs G h (R l.length q (s l.length)::rZ R l s::L)):Hs G h (rZ R (l++[q]) s::L):=by
 unfold rZ;rw[List.length_append,List.length_singleton];refine Hs.Tz ?_;have e:(l++[q]).getD l.length 0=q:=by simp[List.getD_eq_getElem?_getD]
 rw[e];have a:=c.perm (List.Perm.swap _ _ _);refine(qB (f:=fun k=>R k (l.getD k 0) (s k)) (fun j b=>?_) a).perm (List.Perm.swap _ _ _);simp only[List.getD_eq_getElem?_getD,List.getElem?_append_left b]
end Go.Ab
end
namespace Go.Ab
open Go Go.RowKit Go.ChangeShapes Go.WideShapes Go.ChangeAt
section
variable {H:Type} {enc:TypeId×Value->H}
theorem sf {P:Program} {W:World} {a:Nat} {t:TypeId} {fs:Array Field} {v:Value} (c:P.underlying t=some (.struct fs)) (b:Value.okWide P W .any a t v):∃l,v= .agg ⟨l⟩/\l.length=P.cellsOf t:=by
 simp only[Value.okWide,c] at b;obtain⟨⟨l⟩,rfl,h,_⟩:=b;exact⟨l,rfl,h⟩
theorem vL {P:Program} {W:World} {t e:TypeId} {fs:Array Field} {i:Nat} {f:Field} {l:List Value} {d:DataW H} {p:List MemPlace} {n:Nat} {j:List (Option IntKind)} (B:P.underlying t=some (.struct fs)) (r:fs[i]?=some f)
  (C:P.underlying f.type=some (.slice e)) (w:P.cellsOf f.type=1) (y:pL P n e=some j) (hc:P.cellsOf e=j.length) (v:0<j.length)
  (h:DataW.Trod enc P W 0 (fun _=>true) true t (.agg ⟨l⟩) d p):∃a len b,l[f.offset]?=some (.slice a len b)/\jN j W a len b:=by
 obtain⟨fuel,k⟩:=h
 obtain⟨E,m,_,_,I,D,c⟩:=DataW.trod_struct B k
 have u:=c i f r
 have o:i<E.length:=by rw[D];exact(Array.getElem?_eq_some_iff.1 r).1
 rw[List.getElem?_eq_getElem o] at u
 obtain⟨a,len,b,g,A⟩:=Hb C y hc v u
 refine⟨a,len,b,?_,A⟩
 rw[w] at g
 have F:(Value.cells (.agg ⟨l⟩)).toList=l:=by simp[Value.cells]
 have:=congrArg (fun z=>z[0]?) g
 simpa [Value.cells] using this
end
section
theorem Df {α:Type} {f:α->List Value} {R:α->Prop} {W n:Nat} {at':Nat->List Value} (hex:∀i,i<n->∃x,at' i=f x/\R x):
  ∃l:List α,l.length=n/\(∀x∈l,R x)/\∀(G:Bg) (v:Value),uA G W v n at'->uA G W v (l.map f).length (fun i=>(l.map f).getD i []):=by
 let l:List α:=(List.finRange n).map fun i=>(hex i.1 i.2).choose
 have g:l.length=n:=by simp[l]
 have r:∀i,(d:i<n)->l[i]?=some (hex i d).choose:=fun i d=>by
  simp[l,List.getElem?_map,List.getElem?_eq_getElem (show i<(List.finRange n).length by simp;exact d)]
 refine⟨l,g,fun x u=>?_,fun G v t=>?_⟩
 .obtain⟨i,_,rfl⟩:=List.mem_map.1 u;exact(hex i.1 i.2).choose_spec.2
 .obtain⟨a,c,rfl,e⟩:=t;rw[List.length_map,g];refine⟨a,c,rfl,fun i d=>?_⟩;obtain⟨b,o,cells,j,k,m,p⟩:=e i d;refine⟨b,o,cells,j,k,?_,p⟩;rw[m,(hex i d).choose_spec.1];show f _=(l.map f).getD i [];rw[List.getD_eq_getElem?_getD,List.getElem?_map,r i d];rfl
def um (G:Bg) (v:Value) (n:Nat):Prop:=(v= .slice none 0 0/\n=0)\/(v= .slice (some ⟨0,0,some 0⟩) 0 0/\n=0)\/
 ∃k o c cells e a,v= .slice (some ⟨k,o,none⟩) n c/\0<n/\n<=c/\k<G.base/\G.old k=some (.cells cells e a false)
theorem vY {w:World} (P:Program) {c:List (Option IntKind)} {a:Option Addr} {len cap:Nat} (h:jN c w a len cap):∃(r:OB) (t:Nat->Value),Yf P w r/\
  (∀ρ k,ρ k=r.2->aF ρ (t k) (.slice a len cap))/\∃at':Nat->List Value,(∀i,i<len->Flat c (at' i))/\∀(G:Bg) k,k<G.base->G.old k=r.1->uA G c.length (t k) len at'/\um G (t k) len:=by
 rcases h with⟨rfl,rfl,rfl⟩|⟨x,rfl,rfl⟩|⟨x,cc,e,g,rfl,v,u,y,j,z,m⟩
 .refine⟨(none,none),fun _=> .slice none 0 0,⟨fun o h=>by(cases h),fun b s h=>by cases h⟩,fun ρ k _=>by simp only[aF],fun _=>[],fun i d=>by omega,fun G k _ _=>⟨⟨none,0,rfl,fun i d=>by omega⟩,.inl ⟨rfl,rfl⟩⟩⟩
 .refine⟨(none,none),fun _=> .slice (some ⟨0,0,some 0⟩) 0 0,⟨fun o h=>by(cases h),fun b s h=>by cases h⟩,fun ρ k _=>?_,fun _=>[],fun i d=>by omega,fun G k _ _=>⟨⟨some ⟨0,0,some 0⟩,0,rfl,fun i d=>by omega⟩,.inr (.inl ⟨rfl,rfl⟩)⟩⟩;simp only[aF];exact⟨trivial,trivial,x,cap,fun h=>by omega,fun h=>by omega,rfl⟩
 .refine⟨(some (.cells (cc.toList.map san) e g false),some (x.block,(0,0))),fun k=> .slice (some ⟨k,x.off,none⟩) len cap,⟨fun o h b s f=>?_,fun b s f=>?_⟩,fun ρ k f=>?_,fun i=>(cc.toList.drop (x.off+i*c.length)).take c.length,m,fun G k p n=>?_⟩
  .cases h;cases f;refine⟨_,j,fun ρ=>⟨cc,rfl,?_,by simp,fun h=>by cases h⟩⟩;rw[List.length_map,List.drop_zero,List.take_of_length_le (by simp)];exact Zu _
  .cases f;exact(Array.getElem?_eq_some_iff.1 j).1
  .simp only[aF];exact⟨x.block,(0,0),cap,f,Nat.le_refl _,by simp,by cases x;simp at u;subst u;rfl⟩
  .refine⟨⟨_,_,rfl,fun i d=>⟨k,x.off,_,rfl,⟨p,e,g,false,n⟩,?_,?_⟩⟩,.inr (.inr ⟨k,x.off,cap,_,e,g,rfl,v,y,p,n⟩)⟩
   .rw[<-List.map_drop,<-List.map_take];exact Kk (m i d)
   .rw[List.length_map];have:i*c.length<=len*c.length:=Nat.mul_le_mul_right _ (by omega);simp;omega
variable {G:Bg} {h:AH} {L:List HP}
end
end Go.Ab
