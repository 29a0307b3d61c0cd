/- A part of the proof. -/
import Derived.Test.YtmhapehobfnoiaaGreatDoorQ13
import Derived.Test.YtmhapehobfnoiaaGreatDoorQ9
import Derived.Test.YtmhapehobfnoiaaGreatDoorQ14
import Derived.Test.YtmhapehobfnoiaaGreatDoorQ12
import Derived.Test.YtmhapehobfnoiaaGreatDoorQ7
import Derived.Test.YtmhapehobfnoiaaGreatDoorQ8
section
open Go Go.Ab
attribute [local irreducible] bA Br ld1 rT sH A2 lH tD kC Nk fZ lT oX oU nW kS xH sY Ts Pe No M5 Qt Ns Ei Gm Sb jV nR qR iK copyV gZ vD Tg Tm E6 jX Kb Pq Tl mL pD uW vP Cl xS Tb qW qT jA eX cS bZ
namespace Go.Proofs.YtmhapehobfnoiaaGreatDoor
open Go Go.Ab Go.Hm Go.At Go.Mc Go.Nt
section
def fE (q:Nat):List Value:=[.func (.func 248) #[] #[pt q 0 0]]
instance:Fx fE 1:=⟨fun _=>rfl,fun _=>rfl⟩
abbrev fns (a:Option Addr) (c:Nat) (l:List Nat):HP:=ls fE 1 164 a c l
def cU (F:fV):Nat->List aQ:=fun k=>F (k/4) (k % 4)
def wM (F:fV):Nat->Nat
 |0=>0
 |n+1=>wM F n+(cU F n).length
theorem R1 {F:fV} (a:∀c w,(F c w).length<=500):∀n,wM F n<=500*n
 |0=>Nat.le_refl _
 |n+1=>by
  have b:=R1 a n;have d:=a (n/4) (n % 4);show wM F n+(F (n/4) (n % 4)).length<=_;omega
theorem W6 {l done:List Nat} {y:Nat} (h:done++[y]<+:l):done.length<l.length/\l.getD done.length 0=y:=by
 obtain⟨t,rfl⟩:=h;refine⟨by simp,?_⟩;simp[List.getD_eq_getElem?_getD]
set_option maxRecDepth 100000
variable {G:Bg} {h:AH} {L L' M:List HP} {Q:Value->AH->Prop} {C:bQ}
abbrev Am:Nat->Nat->List aQ->HP:=fun _ q l=>jo q l
theorem aHq {a:Option Addr} {c i:Nat} {l:List Nat} {k:Value->Prop} (d:Hs G h L) [m:Has (fns a c) L l L'] (g:i<l.length) (q:k (.func (.func 248) #[] #[pt (l.getD i 0) 0 0])):bA (jV 1 (.slice a l.length c) (I i)) fun p=>bA (ld1 h p) k:=by
 have r:l[i]?=some (l.getD i 0):=by rw[List.getD_eq_getElem?_getD,List.getElem?_eq_getElem g];rfl
 have d:Hs G h (dI 1 164 a c (l.length,eL fE l)::L'):=m.of d;obtain⟨b,o,rfl,f⟩:=d.fN (by omega);refine dO g ?_;rw[show pt b (o+i*1) 0=pt b o (i*1) by simp[pt]];have n:(eL fE l)[i*1]?=some (.func (.func 248) #[] #[pt (l.getD i 0) 0 0]):=Ir (enc:=fE) (W:=1) (j:=0) r rfl;exact aC (b:=b) (o:=o) (j:=i*1) f n q
def Ha (z:Nat) (l:List Nat):HP:=qV fun x:Option Addr×Nat=>sp [aE z 0 [.slice x.1 l.length x.2],fns x.1 x.2 l]
theorem aC0 {f i:Nat} {F:fV} {t:Value} (hC:C.Ok) (u:∀c w,(F c w).length<=500) (v:(i:Int)<C.aD)
  (A:∀ql a c j,ql.length=4*i+4->Hs G j (fns a c ql::iY Am ql (cU F)::lI C f F::L)->Dd 111 6 [] Q [(pt f 0 0),(.slice a ql.length c),t,(I i)] j):
  ∀(g w:Nat) (ql:List Nat) (a:Option Addr) (c:Nat) (h:AH),w+g=4->ql.length=4*i+w->Hs G h (fns a c ql::iY Am ql (cU F)::lI C f F::L)->Dd 111 4 [] Q [(pt f 0 0),(.slice a ql.length c),(I i),t,(I i),(I w)] h:=by
 have E:=hC.1
 intro g
 induction g with
 |zero=>
  intro w ql a c h B k b
  exact bW (aI (aaa (A ql a c h (by omega) b)))
 |succ g D=>
  intro w ql a c h B k b
  refine bW (aI (aad (bW (x6 (C:=C) (F:=F) (x:=i) (y:=w) hC u v (by omega) b fun q h b=>?_))))
  have r:cU F ql.length=F i w:=by
   unfold cU;rw[k,show(4*i+w)/4=i by omega,show(4*i+w) % 4=w by omega]
  have b:Hs G h (Am ql.length q (cU F ql.length)::lI C f F::fns a c ql::iY Am ql (cU F)::L):=by rw[r];exact b.to
  refine aJ (c:=fE q) rfl (dC (W:=1) (n:=1) (c:=1) b rfl rfl rfl fun d h b=>?_)
  have b:=mR (enc:=fE) (W:=1) (e:=164) (x:=q) b
  refine kL (enc:=fE) (W:=1) (e:=164) (l:=ql) (l2:=[q]) (a:=a) (c:=c) (a2:=some d) (c2:=1) b (by simp;omega) fun o p h b=>?_
  have b:=xM (R:=Am) (l:=ql) (q:=q) (s:=cU F) (b.bL (Am ql.length q (cU F ql.length)) (iY Am ql (cU F)))
  exact aac (D (w+1) (ql++[q]) o p h (by omega) (by simp;omega) b.to)
theorem ez {f:Nat} {F:fV} (hC:C.Ok) (l:∀c w,(F c w).length<=500) (d:Hs G h L) [m:Has (lI C f) L F L']
  (p:∀z ql j,ql.length=4*C.aD.toNat->Hs G j (Ha z ql::iY Am ql (cU F)::lI C f F::L')->Q (.func (.func 201) #[] #[pt z 0 0]) j):Cl Pr K 111 [pt f 0 0] h Q:=by
 have r:=hC.1
 have loop:∀(g i:Nat) (ql:List Nat) (a:Option Addr) (c:Nat) (h:AH),i+g=C.aD.toNat->ql.length=4*i->Hs G h (fns a c ql::iY Am ql (cU F)::lI C f F::L')->Dd 111 2 [] Q [(pt f 0 0),(.slice a ql.length c),(I C.aD),(I i)] h:=by
  intro g;induction g with
  |zero=>
   intro i ql a c h n k d;refine bW (aI (aaa (cW (dL d fun z h d=>p z ql h (by omega) ?_))));exact Hs.oZ (A:=fun x:Option Addr×Nat=>sp [aE z 0 [.slice x.1 ql.length x.2],fns x.1 x.2 ql]) (a,c) d.yC
  |succ g q=>
   intro i ql a c h n k d;refine bW (aI (aad (bW ?_)));refine aC0 (f:=f) (i:=i) (t:=I C.aD) hC l (by omega) (fun ql a c h k d=>?_) 4 0 ql a c h rfl (by omega) d;exact bW (aac (q (i+1) ql a c h (by omega) (by omega) d))
 obtain⟨pl,d⟩:=zT (m.of d)
 refine cW (Kh (dN (bW (aB (aA (aA (am f d (v:=I C.aD) rfl ?_)))))))
 have d:=jB (enc:=fE) (W:=1) (e:=164) (xE (R:=Am) (s:=cU F) (mB d))
 exact loop C.aD.toNat 0 [] none 0 h (by omega) rfl d
theorem zo {z:Nat} {l:List Nat} (hb:l.length<=1000):cf Pr K G 201 [] [pt z 0 0] (Ha z l) (l.map fE):=by
 intro n J y L h Q d B q r;obtain⟨⟨a,c⟩,d⟩:=d.rS;have d:=d.Bn;have g:∀{h:AH} {M:List HP},Hs G h (aE z 0 [.slice a l.length c]::fns a c l::M)->Hs G h (Ha z l::M):=fun d=>Hs.oZ (A:=fun x:Option Addr×Nat=>sp [aE z 0 [.slice x.1 l.length x.2],fns x.1 x.2 l]) (a,c) d.yC;refine cW (am z d rfl (bH ?_));have loop:∀(f i:Nat) (h:AH),i+f=l.length->Hs G h (aE z 0 [.slice a l.length c]::fns a c l::n ((l.drop i).map fE)::L)->Dd 201 1 [] Q [y,(.slice a l.length c),(I l.length),(I i)] h:=by
  intro f;induction f with
  |zero=>
   intro i h u d;rw[List.drop_of_length_le (by omega)] at d;exact bW (aI (aaa (q _ _ (g d))))
  |succ f D=>
   intro i h u d;have j:i<l.length:=by omega
   have t:l.drop i=l.getD i 0::l.drop (i+1):=by rw[List.drop_eq_getElem_cons j,List.getD_eq_getElem?_getD,List.getElem?_eq_getElem j];rfl
   rw[t,List.map_cons] at d;refine bW (aI (aad (bW (aHq (l:=l) (a:=a) (c:=c) d j ?_))));refine(B _ _ h _ (d.front (n (fE (l.getD i 0)::((l.drop (i+1)).map fE))))).mono fun v p w=>?_;rcases w with⟨rfl,k⟩|⟨rfl,k⟩;exact bY (bP (bW (aac (D (i+1) p (by omega) k.to))));exact bY (dN (r _ _ (g k.to)))
 exact loop l.length 0 h (by omega) (by rw[List.drop_zero];exact d)
abbrev flX (p:Nat) (e:Nat->Value) (d l:Nat) (ql:List Nat) (F:fV) (done:List Nat):HP:=sp [fM Pr 59 (fQ 58) 13 e d l (.ready,none),aE p 0 [I (wM F done.length)],iY Am ql (cU F)]
abbrev flY (p n:Nat) (e e2:Nat->Value) (d l l2:Nat) (done:List aQ):HP:=sp [fM Pr 59 (fQ 938) 13 e2 d l2 (.ready,none),fM Pr 59 (fQ 58) 13 e d l (.busy,none),aE p 0 [I (n+done.length:Nat)]]
theorem j7 {f:Nat} {F:fV} (hC:C.Ok) (B:∀c w,(F c w).length<=500) (a:Hs G h L) [m:Has (lI C f) L F L']
  (hk:∀J,Hs G J (lI C f F::L')->Q (I (wM F (4*C.aD.toNat))) J):Cl Pr K 59 [pt f 0 0] h Q:=by
 have hc:=hC.1
 refine cW (bN (m.of a) fun p h a=>ax (b:=p) a fun h a=>ez (C:=C) (F:=F) hC B a fun z g h H a=>?_)
 refine iI a fun d h a=>?_
 intro e he
 refine jL a fun l h a=>oB rfl ?_
 have a:Hs G h (Ha z g::flX p e d l g F []::mk d ()::lI C f F::L'):=by
  have a:=(a.cE (fM Pr 59 (fQ 58) 13 e d l (.ready,none)) (aE p 0 [I 0]) (iY Am g (cU F))).M4;have a:Hs G h (flX p e d l g F []::_):=a;exact a.to
 refine(zo (z:=z) (l:=g) (by omega)).fold (X:=flX p e d l g F) (Z:=fun _ _=>rN False) a ?_ ?_ ?_
 .intro done y h N S a;have a:=a.yG;obtain⟨r,U⟩:=W6 S;have a:=eR (R:=Am) (l:=g) (s:=cU F) r a;rw[U] at a;refine rW (nX a) he (fG a fun h a=>Pm a ?_);intro n D;refine jL a fun u h a=>oB rfl ?_;have a:Hs G h (jo y (cU F done.length)::flY p (wM F done.length) e n d l u []::A3 Am g (cU F) done.length::N):=by
   have a:=(a.cE (fM Pr 59 (fQ 938) 13 n d u (.ready,none)) (fM Pr 59 (fQ 58) 13 e d l (.busy,none)) (aE p 0 [I (wM F done.length)])).M4;exact a.to
  have O:(cU F done.length).length<=500:=B _ _
  have T:=R1 B done.length
  refine(aId (q:=y) (l:=cU F done.length) (by omega)).fold (X:=flY p (wM F done.length) e n d l u) (Z:=fun _ _=>rN False) a ?_ ?_ ?_
  .intro k x h N t a;have a:=a.yG;have β:k.length<=500:=by have:=t.length_le;simp at this;omega
   refine rW (nX a) D (fG a fun h a=>am p a rfl (aac (ax (b:=p) a fun h a=>gK a fun h a=> .inl ⟨rfl,?_⟩)))
   have A:((wM F done.length+k.length:Nat):Int)+1=((wM F done.length+(k++[x]).length:Nat):Int):=by simp;omega
   rw[A] at a
   exact((a.cE (fM Pr 59 (fQ 938) 13 n d u (.ready,none)) (fM Pr 59 (fQ 58) 13 e d l (.busy,none)) (aE p 0 [I (wM F done.length+(k++[x]).length:Nat)])).M4).to
  .intro v h a;have a:=(a.front (flY p (wM F done.length) e n d l u (cU F done.length))).yG;refine jN a fun h a=>jR (gK a fun h a=> .inl ⟨rfl,?_⟩);have A:wM F done.length+(cU F done.length).length=wM F (done++[y]).length:=by rw[List.length_append];rfl
   rw[A] at a
   have Y:jo y (cU F done.length)=Am done.length (g.getD done.length 0) (cU F done.length):=by rw[U]
   rw[Y] at a
   have a:=uF (R:=Am) (l:=g) (s:=cU F) (i:=done.length) (x:=cU F done.length) r (a.bL (Am done.length (g.getD done.length 0) (cU F done.length)) (A3 Am g (cU F) done.length))
   have V:(fun j=>if j=done.length then cU F done.length else cU F j)=cU F:=by funext j;split<;>simp_all
   rw[V] at a
   exact((a.cE (fM Pr 59 (fQ 58) 13 e d l (.ready,none)) (aE p 0 [I (wM F (done++[y]).length)]) (iY Am g (cU F))).M4).to
  .intro k x v h t a;obtain⟨E,a⟩:=(a.front (rN False)).To;exact E.elim
 .intro v h a;have a:=(a.front (flX p e d l g F g)).yG;rw[H] at a;exact jN a fun h a=>jR (am p a rfl (jW a fun h a=>iT (hk _ a.to)))
 .intro done y v h S a;obtain⟨E,a⟩:=(a.front (rN False)).To;exact E.elim
end
end Go.Proofs.YtmhapehobfnoiaaGreatDoor
namespace Go.Proofs.YtmhapehobfnoiaaGreatDoor
open Go Go.Ab Go.Hm Go.At Go.Mc Go.Ct Go.Nt Go.Is
section
set_option maxRecDepth 100000
variable {G:Bg} {h:AH} {L L':List HP} {Q:Value->AH->Prop} {C:bQ}
abbrev yF (l:Nat):Value:= .func (.yield l) #[] #[]
abbrev rwF (z:Nat):Value:= .func (.func 201) #[] #[pt z 0 0]
theorem qf {f:Nat} {F:fV} (hC:C.Ok) (j:∀c w,(F c w).length<=500) (a:Hs G h L) [m:Has (lI C f) L F L']
  (k:∀z d p i,d.length=4*C.aD.toNat->Hs G i (aE p 0 [rwF z]::Ha z d::iY Am d (cU F)::lI C f F::L')->Q (.func (.func 112) #[] #[pt p 0 0]) i):Cl Pr K 57 [pt f 0 0] h Q:=
 cW (ez (C:=C) (F:=F) hC j (m.of a) fun z d h g a=>bN a fun p h a=>ax (b:=p) a fun h a=>k z d p h g a)
end
end Go.Proofs.YtmhapehobfnoiaaGreatDoor
end
namespace Go.Proofs.YtmhapehobfnoiaaGreatDoor.C
open Go Go.Ab Go.Hm Go.Ct
section
theorem aEa {h:AH} {W bytes:Nat} {e:TypeId} {a:Option Addr} {c:Nat} {k:Value×AH->Prop} (b:k (.slice none 0 0,h)):bA (iK W bytes e h (.slice none 0 0) (.slice a 0 c)) k:=
 ⟨_,by cases a<;>simp[iK,sW,gA],b⟩
theorem aIi {k:Value->Prop} (a:k (.int .u64 0)):bA (mL .u64 (I (0:Nat))) k:=⟨_,rfl,a⟩
set_option maxRecDepth 100000
attribute [local irreducible] bA Br ld1 rT sH A2 lH tD kC Nk fZ lT oX oU nW kS xH sY Ts Pe No M5 Qt Ns Ei Gm Sb jV nR qR iK copyV gZ vD Tg Tm E6 jX Kb Pq Tl mL pD uW vP Cl xS Tb qW qT jA eX cS bZ
variable {G:Bg} {h:AH} {L L' M:List HP} {Q:Value->AH->Prop}
theorem Ta {b o cap n i:Nat} {S:Nat->List Th} {k:Value->Prop} (f:i<n) (d:Hs G h L) [m:dX (dE n fun i=>dJ b (o+i*1) (S i)) L L'] (g:∀a c,k (.slice a (S i).length c)):bA (jV 1 (.slice (some ⟨b,o,none⟩) n cap) (I i)) fun p=>bA (ld1 h p) k:=by
 have d:=(d.perm m.perm).kH i f;obtain⟨a,c,d⟩:=oO d;exact dO f (aC d rfl (g a c))
theorem rb (a:Q (.slice none 0 0) h):Cl Pr K 156 [.slice none 0 0,I 0] h Q:=
 Au (F:=He 256 0) rfl (by unfold He;rw[aLy rfl]) a
theorem Zx {b o cap n:Nat} {S:Nat->List Th} (p:n<=1000) (j:∀i,i<n->S i=[]) (k:Hs G h L) [m:dX (dE n fun i=>dJ b (o+i*1) (S i)) L L'] (l:Q (.slice none 0 0) h):
  Cl Pr K 103 [.slice (some ⟨b,o,none⟩) n cap] h Q:=by
 have two:∀(f i:Nat),i+f=n->Dd 103 6 [] Q [.slice none 0 0,.slice (some ⟨b,o,none⟩) n cap,I n,I i] h:=by
  intro f;induction f with
  |zero=>intro i d;exact bW (aI (aaa l))
  |succ f g=>
   intro i d;refine bW (aI (aad (bW (Ta (S:=S) (by omega) k fun a c=>?_))));rw[j i (by omega)];exact aEa (aac (g (i+1) (by omega)))
 have one:∀(f i:Nat),i+f=n->Dd 103 1 [] Q [.slice (some ⟨b,o,none⟩) n cap,I 0,.slice (some ⟨b,o,none⟩) n cap,I n,I i] h:=by
  intro f;induction f with
  |zero=>intro i d;exact bW (aI (aaa (bW (rb (bH (two n 0 (by omega)))))))
  |succ f g=>
   intro i d;refine bW (aI (aad (bW (Ta (S:=S) (by omega) k fun a c=>?_))));rw[j i (by omega)];exact bH (aY (by decide) (aI (aH (by decide) (bW (aac (g (i+1) (by omega)))))))
 exact cW (bH (one n 0 (by omega)))
theorem vb (d:Q (I 0) h):Cl Pr K 200 [.int .u64 0] h Q:=by
 refine cW (xI (v:=Value.bool false) (by kernel_rfl) (bP (bW ?_)));refine xI (v:=Value.bool false) (by kernel_rfl) (bP (bW ?_));refine xI (v:=Value.bool false) (by kernel_rfl) (bP ?_);refine xI (v:=Value.int .u8 0) (by kernel_rfl) (xI (v:=Value.int .u8 0) (by kernel_rfl) (xI (v:=I 0) (by kernel_rfl) ?_));exact aY (a:=0) (b:=0) (by decide) d
theorem wh (a:Q (.tuple ⟨[]⟩) h):Cl Pr K 104 [.slice none 0 0,.func (.func 105) #[] #[]] h Q:=by
 refine cW (bH (aIi (cW (vb ?_))));refine cW (bW (yO (by decide) (xO (bJ (by decide) ?_))));exact cW (aY (by decide) (bW (aI (aH (by decide) a))))
theorem z6 {t ways n:Nat} {S:Nat->List Th} (k:n<=1000) (g:∀i,i<n->S i=[]) (a:Hs G h L) [m:Has (fU G t ways n) L S L']
  (j:∀p f,Hs G f (aE p 0 [.slice none 0 0]::fU G t ways n S::L')->Q (.func (.func 107) #[] #[pt p 0 0]) f):Cl Pr K 53 [pt t 0 0] h Q:=by
 obtain⟨b,o,d,a⟩:=Ea (show Hs G h (fU G t ways n S::L') from m.of a)
 refine cW (bN a fun p h a=>Kh (dN (bW (aB (aA (am t a rfl (Zx (S:=S) k g a ?_)))))))
 refine ax (b:=p) (o:=0) a fun h a=>am p a rfl (wh (j _ _ ?_))
 have a:=a.cE (aE t 0 (pM ways n b o d)) (hole G 1 253 (some ⟨b,o,none⟩) d n b o) (dE n fun i=>dJ b (o+i*1) (S i))
 exact(rX a).to
end
end Go.Proofs.YtmhapehobfnoiaaGreatDoor.C
section
open Go Go.Ab
attribute [local irreducible] bA Br ld1 rT sH A2 lH tD kC Nk fZ lT oX oU nW kS xH sY Ts Pe No M5 Qt Ns Ei Gm Sb jV nR qR iK copyV gZ vD Tg Tm E6 jX Kb Pq Tl mL pD uW vP Cl xS Tb qW qT jA eX cS bZ
namespace Go.Proofs.YtmhapehobfnoiaaGreatDoor
open Go Go.Ab Go.Hm Go.At Go.Mc Go.Ct Go.Nt Go.Is
section
set_option maxRecDepth 100000
variable {G:Bg} {h:AH} {L L':List HP} {Q:Value->AH->Prop} {Cf:bQ} {m:Nat} {M:cX}
def Xp (a:List Nat):HP:=sp (a.map fun d=>mk d ())
theorem yo:∀{b:List Nat} {h:AH} {k:AH->Prop},Hs G h (Xp b::L)->(∀g,Hs G g L->k g)->bA (bZ b h) k
 |[],h,k,a,f=>iT (f h a.unpack)
 |d::b,h,k,a,f=>by
  have a:Hs G h (mk d ()::(b.map (fun d=>mk d ())++L)):=a.unpack;exact jW a fun h a=>yo (Hs.pack (A:=b.map fun d=>mk d ()) a) f
theorem aAu {d1 d2:Nat} {a:List Nat} (b:Hs G h (mk d2 ()::mk d1 ()::Xp a::L)):Hs G h (Xp (d2::d1::a)::L):=by
 have b:Hs G h (Xp a::mk d2 ()::mk d1 ()::L):=b.to;have b:=b.unpack;refine Hs.pack (A:=mk d2 ()::mk d1 ()::a.map fun d=>mk d ()) ?_;refine b.perm ?_;have f:= @List.perm_middle _ (mk d2 ()) (a.map fun d=>mk d ()) (mk d1 ()::L);have g:= @List.perm_middle _ (mk d1 ()) (a.map fun d=>mk d ()) L;exact f.trans (g.cons _)
abbrev shZ:List Value:=[.slice none 0 0,.slice none 0 0,.slice none 0 0,.slice none 0 0,.slice none 0 0]
theorem xw {α:Type} {f:Nat->α} {i:Nat}:cB f i (f i)=f:=by
 funext j;unfold cB;split;rename_i e;rw[e];rfl
end
section
set_option maxRecDepth 100000
variable {G:Bg} {h:AH} {L L':List HP} {Q:Value->AH->Prop} {Cf:bQ} {m:Nat} {M:cX}
end
section
def B5 (l:List (Ln×Nat)):List Ln:=l.map Prod.fst
theorem vp {l:List (Ln×Nat)} {y:Ln×Nat}:B5 l++[y.1]=B5 (l++[y]):=by simp[B5]
theorem tq {l:List (Ln×Nat)}:(B5 l).length=l.length:=by simp[B5]
theorem x5 {l:List Ln}:B5 l.zipIdx=l:=by simp[B5]
set_option maxRecDepth 100000
variable {G:Bg} {h:AH} {L L':List HP} {Q:Value->AH->Prop} {Cf:bQ} {m:Nat} {M:cX}
theorem ye {mb:Nat} {mem:Nat->Ln} (hC:Cf.Ok) (g:Ob G 0 eY) (b:Hs G h L) [i:Has (eM G Cf.lines mb Cf) L mem L']
  (f:∀p d,Hs G d (aAq p ((List.range Cf.lines).map mem)::eM G Cf.lines mb Cf mem::L')->Q (.func (.func 161) #[] #[pt p 0 0]) d):Cl Pr K 58 [pt mb 0 0] h Q:=by
 refine cW (Ya hC g b fun a c h b=>cW (dL (cs:=[.slice a Cf.lines c]) b fun p h b=>f p h ?_))
 have e:((List.range Cf.lines).map mem).length=Cf.lines:=by simp
 have b:=Hs.oZ (A:=fun x:Option Addr×Nat=>sp [aE p 0 [.slice x.1 ((List.range Cf.lines).map mem).length x.2],ls mO 2 68 x.1 x.2 ((List.range Cf.lines).map mem)]) (a,c) (Hs.yC (by rw[e];exact b))
 exact b
end
end Go.Proofs.YtmhapehobfnoiaaGreatDoor
end
section
namespace Go.Ab
variable {P:Program} {K:FuncId->List Value->Option iL} {G:Bg} {h:AH} {L L' M:List HP}
theorem uj {W n c:Nat} {e:TypeId} {a:Option Addr} {cs:List Value} (u:Hs G h (dI W e a c (n,cs)::L)) (v:0<n):n<=c/\∃b o x,a=some ⟨b,o,none⟩/\nF h b=some x:=by
 obtain⟨r,D,⟨B,y,q⟩,t,A,p,g⟩:=u.fst;rcases q with⟨i,_⟩|⟨i,_⟩|⟨d,b,j,k,ex,rfl,hle,f⟩;simp at i;omega;simp at i;omega;simp only at f;subst f;obtain⟨w,l⟩:=Gi p g;exact⟨d,b,j.length,ex,rfl,by simp only[nF,l]⟩
variable {α:Type} {enc:α->List Value} {W:Nat} [F:Fx enc W] {e:TypeId}
end Go.Ab
end
namespace Go.Ab
open Go.Ct
section
variable {P:Program} {K:FuncId->List Value->Option iL} {G:Bg} {h:AH} {L L' M:List HP}
instance:Fx vJ 5:=⟨fun _=>rfl,fun _=>rfl⟩
theorem aAs {W:Nat} {f:FuncId} {e:TypeId} {n:Int} {Q:Value->AH->Prop} (d:K f [.slice none 0 0,I n]=some (.host (He e n))) (l:0<=n) (o:n<=1000) (i:Hs G h L)
  (g:∀a b,Hs G b (dI W e a 0 (0,[])::L)->Q (.slice a 0 0) b):Cl P K f [.slice none 0 0,I n] h Q:=by
 by_cases j:n=0
 .exact Au d (by unfold He;rw[aLy j]) (g none h (gG i))
 .refine Au d (by unfold He;rw[aLx j,aae]) (g _ _ ?_);have:=i.new (c:=[]) (e:=e) (x:=false);refine Hs.join (A:=[_,_]) this fun r k=>?_;refine⟨by simp,rfl,.inr (.inl ⟨rfl,rfl,h.next,0,[],rfl,Nat.le_refl _,?_⟩)⟩;simpa using qO k
theorem aAz {f:FuncId} {e:TypeId} {b o c n:Nat} {l:List Th} {args:List Value} {Q:Value->AH->Prop} (y:K f args=some (.host (Df b o n))) (p:l.length=n) (I:0<n) (hle:n<=1000) (B:Hb l=true)
  (t:Hs G h (ls vJ 5 e (some ⟨b,o,none⟩) c l::L)) (D:∀d,Hs G d (ls vJ 5 e (some ⟨b,o,none⟩) c (nA l)::L)->Q (.tuple ⟨[]⟩) d):Cl P K f args h Q:=by
 have a:(nA l).length=l.length:=(iE l).length_eq
 have t:Hs G h (dI 5 e (some ⟨b,o,none⟩) c (l.length,cY l)::L):=t
 obtain⟨H,O,A,g⟩:=t.fN (by omega)
 cases A
 have E:cJ h ⟨b,o,none⟩ (n*5)=some (cY l):=by
  obtain⟨v,w,rfl⟩:=aN (b:=b) (o:=o) (c:=cY l) (l:=cY l) (n:=n*5) (j:=0) (k:=fun v=>v= .agg ⟨cY l⟩) g (by omega) (by rw[List.drop_zero,List.take_of_length_le (by rw[jS,p];exact Nat.le_refl _)]) (by rw[jS,p]) rfl;simp only[rT,pt,Nat.add_zero,Option.map_eq_some_iff] at w;obtain⟨J,x,q⟩:=w;rw[x];injection q with q;injection q with q;rw[q]
 obtain⟨d,i,u⟩:=aZ (b:=b) (o:=o) (c:=cY l) (n:=n*5) (vs:=cY (nA l)) (v:= .agg ⟨cY (nA l)⟩) (k:=fun d=>Hs G d (aE b o (cY (nA l))::hole G 5 e (some ⟨b,o,none⟩) c l.length b o::L)) g
  (by rw[jS,p];exact Nat.beq_refl _) (Nat.ble_eq_true_of_le (by omega)) (by rw[jS,a,p]) (pR _) fun d g=>g
 have i:dK h ⟨b,o,none⟩ (cY (nA l))=some d:=by
  have r:(cY (nA l)).length=n*5:=by rw[jS,a,p]
  simpa [sH,pt,iH,uP,Value.cells,r] using i
 refine Au y (v:= .tuple ⟨[]⟩) (h':=d) ?_ (D d ?_)
 .unfold Df;rw[E];simp only;rw[<-p,Oi];simp only;rw[aLy (by rw[B,Nat.ble_eq_true_of_le (show l.length<=1000 by omega)];rfl),i];rfl
 .unfold ls;rw[a];exact Hs.mC u (by show(cY (nA l)).length=_;rw[jS,a]) (pR _)
end
end Go.Ab
namespace Go.Mc
open Go Go.Ab Go.Hm Go.At Go.Is Go.Ct Go.Nt
section
def rQ (n:Nat) (S:Nat->List Th):List Th:=nA ((List.range n).flatMap S)
theorem Tz:∀{l:List Th},(l.map (·.1)).Nodup->Hb l=true
 |[],_=>rfl
 |x::l,h=>by
  rw[List.map_cons,List.nodup_cons] at h;simp only[Hb,Bool.and_eq_true,List.all_eq_true,Bool.not_eq_true',beq_eq_false_iff_ne];exact⟨fun y a e=>h.1 (List.mem_map.2 ⟨y,a,e⟩),Tz h.2⟩
theorem Gy {n ways:Nat} {S:Nat->List Th} (g:∀i,mK ways (S i)) (d:Pl n S):∀k,(((List.range k).flatMap S).map (·.1)).Nodup
 |0=>by simp
 |k+1=>by
  rw[List.range_succ,List.flatMap_append,List.map_append,List.nodup_append];refine⟨Gy g d k,by simpa using(g k).nd,fun a p b q e=>?_⟩;obtain⟨x,f,rfl⟩:=List.mem_map.1 p;obtain⟨i,r,f⟩:=List.mem_flatMap.1 f;obtain⟨y,j,rfl⟩:=List.mem_map.1 q;simp only[List.flatMap_cons,List.flatMap_nil,List.append_nil] at j;have l:=(d i x f).2;have o:=(d k y j).2;rw[e,o] at l;have:=List.mem_range.1 r;omega
theorem wN {ways:Nat} {S:Nat->List Th} (a:∀i,mK ways (S i)):∀k,((List.range k).flatMap S).length<=k*ways
 |0=>by simp
 |k+1=>by
  rw[List.range_succ,List.flatMap_append,List.length_append,Nat.succ_mul];have:=wN a k;have:=(a k).len;simp only[List.flatMap_cons,List.flatMap_nil,List.append_nil];omega
theorem I8 {n:Nat} {S:Nat->List Th}:(rQ n S).length=((List.range n).flatMap S).length:=(iE _).length_eq
theorem yn {n:Nat} {S:Nat->List Th} {t:Th}:t∈rQ n S↔∃i,i<n/\t∈S i:=by
 unfold rQ;rw[(iE _).mem_iff,List.mem_flatMap];simp
theorem vj {n:Nat} {S:Nat->List Th} (h:((List.range n).flatMap S).length=0):rQ n S=[]/\∀i,i<n->S i=[]:=by
 have a:=List.eq_nil_of_length_eq_zero h;refine⟨by unfold rQ;rw[a];rfl,fun i b=>?_⟩;rw[List.flatMap_eq_nil_iff] at a;exact a i (List.mem_range.2 b)
def Tt (x:Nat×Th):List Value:=I x.1::vJ x.2
def Tp (x:Nat×(Int×Int)):List Value:=I x.1::dA x.2
instance:Fx Tt 6:=⟨fun _=>rfl,fun _=>rfl⟩
instance:Fx Tp 3:=⟨fun _=>rfl,fun _=>rfl⟩
def tag {α:Type} (i:Nat) (l:List α):List (Nat×α):=l.map fun t=>(i,t)
def jY (n:Nat) (X:Nat->jJ) (k:Nat):List (Nat×Th):=(List.range k).flatMap fun i=>tag i (rQ n (X i).S)
def kT (X:Nat->kY) (k:Nat):List (Nat×(Int×Int)):=(List.range k).flatMap fun i=>tag i (X i).known
theorem vU {n k:Nat} {X:Nat->jJ}:jY n X (k+1)=jY n X k++tag k (rQ n (X k).S):=by simp[jY,List.range_succ]
theorem wJ {k:Nat} {X:Nat->kY}:kT X (k+1)=kT X k++tag k (X k).known:=by simp[kT,List.range_succ]
theorem ee {α:Type} {i:Nat} {l:List α} {x:α}:tag i (l++[x])=tag i l++[(i,x)]:=by simp[tag]
theorem Il {α:Type} {i:Nat} {l:List α}:(tag i l).length=l.length:=by simp[tag]
theorem Fl {n b:Nat} {X:Nat->jJ}:∀{k},(∀i,i<k->(rQ n (X i).S).length<=b)->(jY n X k).length<=k*b
 |0,_=>by simp[jY]
 |k+1,h=>by
  rw[vU,List.length_append,Il,Nat.succ_mul];have:=Fl (k:=k) fun i a=>h i (by omega);have:=h k (by omega);omega
theorem Gs {X:Nat->kY} {b:Nat}:∀{k},(∀i,i<k->(X i).known.length<=b)->(kT X k).length<=k*b
 |0,_=>by simp[kT]
 |k+1,h=>by
  rw[wJ,List.length_append,Il,Nat.succ_mul];have:=Gs (k:=k) fun i a=>h i (by omega);have:=h k (by omega);omega
end
end Go.Mc
section
open Go Go.Ab
attribute [local irreducible] bA Br ld1 rT sH A2 lH tD kC Nk fZ lT oX oU nW kS xH sY Ts Pe No M5 Qt Ns Ei Gm Sb jV nR qR iK copyV gZ vD Tg Tm E6 jX Kb Pq Tl mL pD uW vP Cl xS Tb qW qT jA eX cS bZ
namespace Go.Proofs.YtmhapehobfnoiaaGreatDoor.C
open Go Go.Ab Go.Hm Go.Ct Go.Mc
section
set_option maxRecDepth 100000
variable {G:Bg} {h:AH} {L L' M:List HP} {Q:Value->AH->Prop}
abbrev Va (a:Option Addr) (c:Nat) (l:List Th):HP:=ls vJ 5 256 a c l
theorem We {S:Nat->List Th} {i:Nat}:(List.range i).flatMap S++S i=(List.range (i+1)).flatMap S:=by simp[List.range_succ]
theorem Iu {S:Nat->List Th} {i:Nat}:((List.range (i+1)).flatMap S).length=((List.range i).flatMap S).length+(S i).length:=by rw[<-We,List.length_append]
theorem y0 {S:Nat->List Th} {n:Nat}:∀{i:Nat},i<=n->((List.range i).flatMap S).length<=((List.range n).flatMap S).length:=by
 intro i b;induction n with
 |zero=>
  obtain rfl:i=0:=by omega
  exact Nat.le_refl _
 |succ n a=>
  by_cases e:i=n+1;subst e;exact Nat.le_refl _;have:=a (by omega);rw[Iu];omega
theorem oq {b o cap n:Nat} {S:Nat->List Th} (w:n<=1000) (v:((List.range n).flatMap S).length<=1000) (d:Hs G h (dE n (fun i=>dJ b (o+i*1) (S i))::L))
  (u:∀a c q,Hs G q (Va a c ((List.range n).flatMap S)::dE n (fun i=>dJ b (o+i*1) (S i))::L)->Q (.slice a ((List.range n).flatMap S).length c) q):
  Cl Pr K 103 [.slice (some ⟨b,o,none⟩) n cap] h Q:=by
 have two:∀(f i:Nat) (a:Option Addr) (c:Nat) (h:AH),i+f=n->Hs G h (Va a c ((List.range i).flatMap S)::dE n (fun i=>dJ b (o+i*1) (S i))::L)->
   Dd 103 6 [] Q [.slice a ((List.range i).flatMap S).length c,.slice (some ⟨b,o,none⟩) n cap,I n,I i] h:=by
  intro f
  induction f with
  |zero=>
   intro i a c h k d
   obtain rfl:i=n:=by omega
   exact bW (aI (aaa (u a c h d)))
  |succ f p=>
   intro i a c h k d
   have j:i<n:=by omega
   have hle:=y0 (S:=S) (show i+1<=n by omega)
   rw[Iu] at hle
   have d:=(d.front (dE n fun i=>dJ b (o+i*1) (S i))).kH i j
   have d:Hs G h (dJ b (o+i*1) (S i)::K6 b o n S i::_):=d
   obtain⟨g,c2,d⟩:=oO d
   refine bW (aI (aad (bW (dO j (aC d rfl ?_)))))
   have d:=d.bL (aE b (o+i*1) [.slice g (S i).length c2]) (dI 5 256 g c2 ((S i).length,cY (S i)))
   have d:Hs G h (aE b (o+i*1) [.slice g (S i).length c2]::Va g c2 (S i)::_):=d
   refine kL (enc:=vJ) (W:=5) (e:=256) (l:=(List.range i).flatMap S) (l2:=S i) (a:=a) (c:=c) (a2:=g) (c2:=c2) (d.bL (Va a c ((List.range i).flatMap S)) (Va g c2 (S i))) (by omega) fun r t h d=>?_
   rw[We] at d ⊢
   have d:=d.bL (aE b (o+i*1) [.slice g (S i).length c2]) (Va g c2 (S i))
   have d:Hs G h (aE b (o+i*1) [.slice g (S i).length c2]::dI 5 256 g c2 ((S i).length,cY (S i))::_):=d
   have d:=iO b (o+i*1) (S i) d rfl rfl
   have d:=d.bL (dJ b (o+i*1) (S i)) (K6 b o n S i)
   unfold K6 at d
   have d:=d.nQ (n:=n) (i:=i) (fun i=>dJ b (o+i*1) (S i)) (fun i=>dJ b (o+i*1) (S i)) j (fun _ _ _=>rfl)
   exact aac (p (i+1) r t h (by omega) d.to)
 have one:∀(f i:Nat),i+f=n->Dd 103 1 [] Q [.slice (some ⟨b,o,none⟩) n cap,I ((List.range i).flatMap S).length,.slice (some ⟨b,o,none⟩) n cap,I n,I i] h:=by
  intro f;induction f with
  |zero=>
   intro i k;obtain rfl:i=n:=by omega
   refine bW (aI (aaa (bW (aAs (W:=5) (e:=256) rfl (by omega) (by omega) d fun a h d=>bH ?_))));have d:Hs G h (Va a 0 []::dE i (fun i=>dJ b (o+i*1) (S i))::L):=d;exact two i 0 a 0 h (by omega) d
  |succ f p=>
   intro i k;have hle:=y0 (S:=S) (show i+1<=n by omega);rw[Iu] at hle;refine bW (aI (aad (bW (Ta (S:=S) (by omega) d fun a c=>bH (aac (aI (aaa (bW (aac ?_)))))))));have:=p (i+1) (by omega);rw[Iu] at this;rw[show(((List.range i).flatMap S).length:Int)+((S i).length:Int)=((((List.range i).flatMap S).length+(S i).length:Nat):Int) by omega];exact this
 exact cW (bH (one n 0 (by omega)))
def Yj (p:Nat) (l:List Th):HP:=qV fun x:Option Addr×Nat=>sp [aE p 0 [.slice x.1 l.length x.2],Va x.1 x.2 l]
theorem aDo {t ways n:Nat} {S:Nat->List Th} (y:n<=8) (E:ways<=4) (q:∀i,mK ways (S i)) (D:Pl n S) (d:Hs G h L) [m:Has (fU G t ways n) L S L']
  (r:∀p k,Hs G k (Yj p (rQ n S)::fU G t ways n S::L')->Q (.func (.func 107) #[] #[pt p 0 0]) k):Cl Pr K 53 [pt t 0 0] h Q:=by
 by_cases H:((List.range n).flatMap S).length=0
 .obtain⟨v,w⟩:=vj H;refine z6 (t:=t) (ways:=ways) (n:=n) (S:=S) (by omega) w d fun p h d=>r p h ?_;rw[v];have d:=(jB (enc:=vJ) (e:=256) d).bL (aE p 0 [.slice none 0 0]) (Va none 0 []);exact Hs.oZ (A:=fun x:Option Addr×Nat=>sp [aE p 0 [.slice x.1 ([]:List Th).length x.2],Va x.1 x.2 []]) (none,0) d.yC
 have u:=wN q n
 have B:n*ways<=8*4:=Nat.mul_le_mul y E
 obtain⟨b,o,g,d⟩:=Ea (show Hs G h (fU G t ways n S::L') from m.of d)
 refine cW (bN d fun p h d=>Kh (dN (bW (aB (aA (am t d rfl ?_))))))
 refine oq (by omega) (by omega) (d.front (dE n fun i=>dJ b (o+i*1) (S i))) fun a c h d=>?_
 refine ax (b:=p) (o:=0) d fun h d=>am p d rfl ?_
 have d:Hs G h (dI 5 256 a c (((List.range n).flatMap S).length,cY ((List.range n).flatMap S))::_):=d.front (Va a c ((List.range n).flatMap S))
 obtain⟨_,f,j,I,rfl,_⟩:=uj d (by omega)
 refine aAz (b:=f) (o:=j) (c:=c) (n:=((List.range n).flatMap S).length) (l:=(List.range n).flatMap S) (e:=256) rfl rfl (by omega) (by omega) (Tz (Gy q D n)) d fun h d=>r p h ?_
 have d:Hs G h (Va (some ⟨f,j,none⟩) c (rQ n S)::_):=d
 have d:=d.cE (aE t 0 (pM ways n b o g)) (hole G 1 253 (some ⟨b,o,none⟩) g n b o) (dE n fun i=>dJ b (o+i*1) (S i))
 have d:=rX d
 have d:=(d.bL (aE p 0 [.slice (some ⟨f,j,none⟩) ((List.range n).flatMap S).length c]) (Va (some ⟨f,j,none⟩) c (rQ n S))).yC
 rw[<-I8] at d
 have d:=Hs.oZ (A:=fun x:Option Addr×Nat=>sp [aE p 0 [.slice x.1 (rQ n S).length x.2],Va x.1 x.2 (rQ n S)]) (some ⟨f,j,none⟩,c) d
 have d:Hs G h (Yj p (rQ n S)::_):=d
 exact d.to
theorem aHc {q:Nat} {l:List Th} (hb:l.length<=1000):cf Pr K G 107 [] [pt q 0 0] (Yj q l) (l.map fun t=>[I t.1,.agg ⟨t.2.enc⟩]):=by
 intro n J y L h Q d H r u;obtain⟨⟨a,c⟩,d⟩:=d.rS;have d:=d.Bn;have g:∀{h:AH} {M:List HP},Hs G h (aE q 0 [.slice a l.length c]::Va a c l::M)->Hs G h (Yj q l::M):=fun d=>Hs.oZ (A:=fun x:Option Addr×Nat=>sp [aE q 0 [.slice x.1 l.length x.2],Va x.1 x.2 l]) (a,c) d.yC;refine cW (am q d rfl (bH ?_));have loop:∀(f i:Nat) (h:AH),i+f=l.length->Hs G h (aE q 0 [.slice a l.length c]::Va a c l::n ((l.drop i).map fun t=>[I t.1,.agg ⟨t.2.enc⟩])::L)->Dd 107 1 [] Q [y,(.slice a l.length c),(I l.length),(I i)] h:=by
  intro f;induction f with
  |zero=>
   intro i h B d;rw[List.drop_of_length_le (by omega)] at d;exact bW (aI (aaa (r _ _ (g d))))
  |succ f O=>
   intro i h B d;obtain⟨x,E,w⟩:=lK (l:=l) (i:=i) (by omega);rw[w,List.map_cons] at d;refine bW (aI (aad (bW (jM (l:=l) (a:=a) (c:=c) (enc:=vJ) (e:=256) d (by decide) (by omega) (by rw[Int.toNat_natCast];exact E) (bN d fun k h d=>ax (b:=k) d fun h d=>aA (am k d rfl (aA (an k d (l:=x.2.enc) rfl rfl ?_))))))));refine(H _ _ h _ (d.front (n ([I x.1,.agg ⟨x.2.enc⟩]::((l.drop (i+1)).map fun t=>[I t.1,.agg ⟨t.2.enc⟩]))))).mono fun v p D=>?_;rcases D with⟨rfl,j⟩|⟨rfl,j⟩;exact bY (bP (bW (aac (O (i+1) p (by omega) j.to))));exact bY (dN (u _ _ (g j.to)))
 exact loop l.length 0 h (by omega) (by rw[List.drop_zero];exact d)
end
end Go.Proofs.YtmhapehobfnoiaaGreatDoor.C
namespace Go.Proofs.YtmhapehobfnoiaaGreatDoor
open Go Go.Ab Go.Hm Go.At Go.Mc Go.Ct Go.Nt Go.Is
section
abbrev yE (a1:Option Addr) (b a:Nat) (a2:Option Addr) (d c2:Nat) (a3:Option Addr) (f c3:Nat) (a4:Option Addr) (n4 c4:Nat) (a5:Option Addr) (n5 c5:Nat):List Value:=[.slice a1 b a,.slice a2 d c2,.slice a3 f c3,.slice a4 n4 c4,.slice a5 n5 c5]
abbrev A9 (a:Option Addr) (c:Nat) (l:List (Nat×Th)):HP:=ls Tt 6 70 a c l
abbrev Bb (a:Option Addr) (c:Nat) (l:List (Nat×(Int×Int))):HP:=ls Tp 3 72 a c l
set_option maxRecDepth 100000
variable {G:Bg} {h:AH} {L L':List HP} {Q:Value->AH->Prop} {Cf:bQ} {m:Nat} {M:cX}
abbrev caX (b f i d l:Nat) (e:Nat->Value) (pre:List (Nat×Th)) (a2:Option Addr) (a c2:Nat) (done:List Th):HP:=qV fun z:Option Addr×Nat=>sp [fM Pr 16 (fQ 62666) 123 e d l (.ready,none),aE b 0 (yE z.1 (pre++tag i done).length z.2 a2 a c2 none 0 0 none 0 0 none 0 0),aE f 0 [I i],A9 z.1 z.2 (pre++tag i done)]
abbrev chX (f g i d l:Nat) (e:Nat->Value) (pre:List (Nat×(Int×Int))) (a1:Option Addr) (b a:Nat) (done:List (Int×Int)):HP:=qV fun z:Option Addr×Nat=>sp [fM Pr 16 (fQ 62670) 123 e d l (.ready,none),aE f 0 (yE a1 b a z.1 (pre++tag i done).length z.2 none 0 0 none 0 0 none 0 0),aE g 0 [I i],Bb z.1 z.2 (pre++tag i done)]
theorem wy {u g j i d l p k c2:Nat} {a1 a2:Option Addr} {e:Nat->Value} {T:List Th} {pre:List (Nat×Th)} {v5 v6:Value} {R:Value->AH->Prop} (S:T.length<=32) (E:pre.length<=200)
  (H:List.map e [3,4,36,37]=[pt g 0 0,pt j 0 0,v5,v6])
  (f:Hs G h (C.Yj u T::fM Pr 16 (fQ 62666) 123 e d l (.ready,none)::aE g 0 (yE a1 pre.length p a2 k c2 none 0 0 none 0 0 none 0 0)::aE j 0 [I i]::A9 a1 p pre::L))
  (O:∀v a c B,Hs G B (fM Pr 16 (fQ 62666) 123 e d l (.ready,none)::aE g 0 (yE a (pre++tag i T).length c a2 k c2 none 0 0 none 0 0 none 0 0)::aE j 0 [I i]::A9 a c (pre++tag i T)::L)->R v B):
  Cl Pr K 107 [.func (.yield l) #[] #[],pt u 0 0] h R:=by
 have f:Hs G h (C.Yj u T::caX g j i d l e pre a2 k c2 []::L):=by
  have f:=f.gN (fM Pr 16 (fQ 62666) 123 e d l (.ready,none)) (aE g 0 (yE a1 pre.length p a2 k c2 none 0 0 none 0 0 none 0 0)) (aE j 0 [I i]) (A9 a1 p pre);rw[show pre=pre++tag i ([]:List Th) by simp[tag]] at f;have f:=Hs.oZ (A:=fun z:Option Addr×Nat=>sp [fM Pr 16 (fQ 62666) 123 e d l (.ready,none),aE g 0 (yE z.1 (pre++tag i ([]:List Th)).length z.2 a2 k c2 none 0 0 none 0 0 none 0 0),aE j 0 [I i],A9 z.1 z.2 (pre++tag i ([]:List Th))]) (a1,p) f.E7;exact f.to
 refine(C.aHc (q:=u) (l:=T) (by omega)).fold (X:=caX g j i d l e pre a2 k c2) (Z:=fun _ _=>rN False) f ?_ ?_ ?_
 .intro done y h N D f;have w:=D.length_le;rw[List.length_append,List.length_singleton] at w;obtain⟨⟨a,c⟩,f⟩:=f.rS;have f:=f.Zp;refine rW (nX f) H (bN f fun q h f=>ax (b:=q) f fun h f=>fG f fun h f=>aA (am g f rfl (am j f rfl (aA (am q f rfl (aA (am q f rfl (aA (an q f (l:=mO y.2.d) rfl rfl ?_)))))))));refine aJ (c:=Tt (i,y)) rfl (aJ (c:=Tt (i,y)) rfl (dC (W:=6) (n:=1) (c:=1) f rfl rfl rfl fun a3 h f=>?_));have f:=mR (enc:=Tt) (x:=((i,y):Nat×Th)) f;refine kL (bytes:=48) (e:=70) (enc:=Tt) (l:=pre++tag i done) (l2:=[(i,y)]) (a:=a) (c:=c) (a2:=some a3) (c2:=1) (f.bL (A9 a c (pre++tag i done)) (A9 (some a3) 1 [(i,y)])) (by rw[List.length_append,Il,List.length_singleton];omega) fun r t h f=>?_;rw[List.append_assoc,<-ee] at f ⊢;refine aA (ay (b:=g) (o:=0) f fun h f=>?_);have f:Hs G h (aE g 0 (yE r (pre++tag i (done++[y])).length t a2 k c2 none 0 0 none 0 0 none 0 0)::_):=f;refine gK f fun h f=> .inl ⟨rfl,?_⟩;have f:=(f.gN (fM Pr 16 (fQ 62666) 123 e d l (.ready,none)) (aE g 0 (yE r (pre++tag i (done++[y])).length t a2 k c2 none 0 0 none 0 0 none 0 0)) (aE j 0 [I i]) (A9 r t (pre++tag i (done++[y])))).E7;exact(Hs.oZ (A:=fun z:Option Addr×Nat=>sp [fM Pr 16 (fQ 62666) 123 e d l (.ready,none),aE g 0 (yE z.1 (pre++tag i (done++[y])).length z.2 a2 k c2 none 0 0 none 0 0 none 0 0),aE j 0 [I i],A9 z.1 z.2 (pre++tag i (done++[y]))]) (r,t) f).to
 .intro v h f;obtain⟨⟨a,c⟩,f⟩:=(f.front (caX g j i d l e pre a2 k c2 T)).rS;exact O v a c h f.Zp.to
 .intro done y v h D f;obtain⟨J,f⟩:=(f.front (rN False)).To;exact J.elim
theorem uy {q g j i d l p k c2:Nat} {a1 a2:Option Addr} {e:Nat->Value} {T:List (Int×Int)} {pre:List (Nat×(Int×Int))} {v5 v6:Value} {R:Value->AH->Prop} (O:T.length<=100) (D:pre.length<=1000)
  (E:List.map e [3,4,60,61]=[pt g 0 0,pt j 0 0,v5,v6])
  (f:Hs G h (Bs q T::fM Pr 16 (fQ 62670) 123 e d l (.ready,none)::aE g 0 (yE a1 p k a2 pre.length c2 none 0 0 none 0 0 none 0 0)::aE j 0 [I i]::Bb a2 c2 pre::L))
  (J:∀v a c w,Hs G w (fM Pr 16 (fQ 62670) 123 e d l (.ready,none)::aE g 0 (yE a1 p k a (pre++tag i T).length c none 0 0 none 0 0 none 0 0)::aE j 0 [I i]::Bb a c (pre++tag i T)::L)->R v w):
  Cl Pr K 109 [.func (.yield l) #[] #[],pt q 0 0] h R:=by
 have f:Hs G h (Bs q T::chX g j i d l e pre a1 p k []::L):=by
  have f:=f.gN (fM Pr 16 (fQ 62670) 123 e d l (.ready,none)) (aE g 0 (yE a1 p k a2 pre.length c2 none 0 0 none 0 0 none 0 0)) (aE j 0 [I i]) (Bb a2 c2 pre);rw[show pre=pre++tag i ([]:List (Int×Int)) by simp[tag]] at f;have f:=Hs.oZ (A:=fun z:Option Addr×Nat=>sp [fM Pr 16 (fQ 62670) 123 e d l (.ready,none),aE g 0 (yE a1 p k z.1 (pre++tag i ([]:List (Int×Int))).length z.2 none 0 0 none 0 0 none 0 0),aE j 0 [I i],Bb z.1 z.2 (pre++tag i ([]:List (Int×Int)))]) (a2,c2) f.E7;exact f.to
 refine(eu (q:=q) (l:=T) (by omega)).fold (X:=chX g j i d l e pre a1 p k) (Z:=fun _ _=>rN False) f ?_ ?_ ?_
 .intro done y h N B f;have u:=B.length_le;rw[List.length_append,List.length_singleton] at u;obtain⟨⟨a,c⟩,f⟩:=f.rS;have f:=f.Zp;refine rW (nX f) E (fG f fun h f=>aA (am g f rfl (am j f rfl ?_)));refine aJ (c:=Tp (i,y)) rfl (aJ (c:=Tp (i,y)) rfl (dC (W:=3) (n:=1) (c:=1) f rfl rfl rfl fun a3 h f=>?_));have f:=mR (enc:=Tp) (x:=((i,y):Nat×(Int×Int))) f;refine kL (bytes:=24) (e:=72) (enc:=Tp) (l:=pre++tag i done) (l2:=[(i,y)]) (a:=a) (c:=c) (a2:=some a3) (c2:=1) (f.bL (Bb a c (pre++tag i done)) (Bb (some a3) 1 [(i,y)])) (by rw[List.length_append,Il,List.length_singleton];omega) fun r t h f=>?_;rw[List.append_assoc,<-ee] at f ⊢;refine aA (ay (b:=g) (o:=0) f fun h f=>?_);have f:Hs G h (aE g 0 (yE a1 p k r (pre++tag i (done++[y])).length t none 0 0 none 0 0 none 0 0)::_):=f;refine gK f fun h f=> .inl ⟨rfl,?_⟩;have f:=(f.gN (fM Pr 16 (fQ 62670) 123 e d l (.ready,none)) (aE g 0 (yE a1 p k r (pre++tag i (done++[y])).length t none 0 0 none 0 0 none 0 0)) (aE j 0 [I i]) (Bb r t (pre++tag i (done++[y])))).E7;exact(Hs.oZ (A:=fun z:Option Addr×Nat=>sp [fM Pr 16 (fQ 62670) 123 e d l (.ready,none),aE g 0 (yE a1 p k z.1 (pre++tag i (done++[y])).length z.2 none 0 0 none 0 0 none 0 0),aE j 0 [I i],Bb z.1 z.2 (pre++tag i (done++[y]))]) (r,t) f).to
 .intro v h f;obtain⟨⟨a,c⟩,f⟩:=(f.front (chX g j i d l e pre a1 p k T)).rS;exact J v a c h f.Zp.to
 .intro done y v h B f;obtain⟨H,f⟩:=(f.front (rN False)).To;exact H.elim
theorem cj {x:MN} {p1 D:Nat} {t36 t37 t60 t61 t115:Value} (hC:Cf.Ok) (g:∀i:Nat,(i:Int)<Cf.aD->mF Cf (M.cC i)) (r:∀i:Nat,(i:Int)<Cf.aD->(M.bT i).known.length<=100)
  (hk:∀a1 d a2 c2 w U,Hs G U (A9 a1 d (jY Cf.bC.toNat M.cC Cf.aD.toNat)::Bb a2 c2 (kT M.bT Cf.aD.toNat)::Xp w::gD G Cf m x M::aE p1 0 shZ::aE D 0 (yE a1 (jY Cf.bC.toNat M.cC Cf.aD.toNat).length d a2 (kT M.bT Cf.aD.toNat).length c2 none 0 0 none 0 0 none 0 0)::L)->Dd 16 4 w Q [pt m 0 0,pt p1 0 0,pt D 0 0,t115] U):
  ∀(f i:Nat) (a1:Option Addr) (d:Nat) (a2:Option Addr) (c2:Nat) (w:List Nat) (h:AH),i+f=Cf.aD.toNat->Hs G h (A9 a1 d (jY Cf.bC.toNat M.cC i)::Bb a2 c2 (kT M.bT i)::Xp w::gD G Cf m x M::aE p1 0 shZ::aE D 0 (yE a1 (jY Cf.bC.toNat M.cC i).length d a2 (kT M.bT i).length c2 none 0 0 none 0 0 none 0 0)::L)->
   Dd 16 2 w Q [pt m 0 0,pt p1 0 0,pt D 0 0,I Cf.aD.toNat,I i,t36,t37,t60,t61,t115] h:=by
 have hc:=hC.1
 have y:Cf.bC.toNat<=8/\Cf.ways.toNat<=4:=by have:=hC;unfold bQ.Ok at this;omega
 have V:∀i:Nat,(i:Int)<Cf.aD->(rQ Cf.bC.toNat (M.cC i).S).length<=32:=fun i J=>by
  rw[I8];have h1:=wN (g i J).bC Cf.bC.toNat;have h2:=Nat.mul_le_mul y.1 y.2;omega
 intro f
 induction f with
 |zero=>
  intro i a1 d a2 c2 w h J a
  obtain rfl:i=Cf.aD.toNat:=by omega
  exact bW (aI (aaa (hk a1 d a2 c2 w h a)))
 |succ f ih=>
  intro i a1 d a2 c2 w h J a
  have u:(i:Int)<Cf.aD:=by omega
  have Z:=Fl (n:=Cf.bC.toNat) (X:=M.cC) (b:=32) (k:=i) fun j hj=>V j (by omega)
  have β:=Gs (X:=M.bT) (b:=100) (k:=i) fun j hj=>r j (by omega)
  obtain⟨O,a⟩:=fL (a.front (gD G Cf m x M))
  have A:i<x.lk.length:=by have:=O.2.1;omega
  have B:i<x.lq.length:=by have:=O.2.2;omega
  refine bW (aI (aad (bW (bN a fun E h a=>ax (b:=E) a fun h a=>aS a fun rr h a=>?_))))
  refine aB (aA (am m a rfl (am E a rfl (zE a A ?_))))
  have a:=eR (R:=kK G Cf) (l:=x.lk) (s:=M.cC) A (a.front (iY (kK G Cf) x.lk M.cC))
  obtain⟨t,a⟩:=C.iU a
  refine aB (aA (aC (b:=x.lk.getD i 0) (o:=0) a rfl ?_))
  refine C.aDo (t:=t) (ways:=Cf.ways.toNat) (n:=Cf.bC.toNat) (S:=(M.cC i).S) y.1 y.2 (g i u).bC (g i u).pl a fun pa h a=>?_
  refine iI a fun d1 h a=>?_
  intro e he
  refine jL a fun l1 h a=>oB rfl ?_
  have a:=a.gN (fM Pr 16 (fQ 62666) 123 e d1 l1 (.ready,none)) (aE D 0 (yE a1 (jY Cf.bC.toNat M.cC i).length d a2 (kT M.bT i).length c2 none 0 0 none 0 0 none 0 0)) (aE E 0 [I i]) (A9 a1 d (jY Cf.bC.toNat M.cC i))
  have a:=a.front (C.Yj pa (rQ Cf.bC.toNat (M.cC i).S))
  refine wy (T:=rQ Cf.bC.toNat (M.cC i).S) (pre:=jY Cf.bC.toNat M.cC i) (V i u) (by omega) he a fun v a1 d h a=>?_
  rw[<-vU] at a
  refine jN a fun h a=>jR ?_
  have a:=C.cR (x.lk.getD i 0) t Cf i (M.cC i) a rfl rfl
  have a:=tO (G:=G) (Cf:=Cf) (l:=x.lk) (s:=M.cC) (i:=i) (t:=M.cC i) A a
  rw[xw] at a
  refine aS a fun r2 h a=>aB (aA (am m a rfl (am E a rfl (zN a B ?_))))
  have a:=eR (R:=kG Cf) (l:=x.lq) (s:=M.bT) B (a.front (iY (kG Cf) x.lq M.bT))
  refine Po (C:=Cf) (p:=x.lq.getD i 0) (s:=M.bT i) (r i u) a fun q h a=>iI a fun d2 h a=>?_
  intro Y H
  refine jL a fun l2 h a=>oB rfl ?_
  have a:=a.gN (fM Pr 16 (fQ 62670) 123 Y d2 l2 (.ready,none)) (aE D 0 (yE a1 (jY Cf.bC.toNat M.cC (i+1)).length d a2 (kT M.bT i).length c2 none 0 0 none 0 0 none 0 0)) (aE E 0 [I i]) (Bb a2 c2 (kT M.bT i))
  have a:=a.front (Bs q (M.bT i).known)
  refine uy (T:=(M.bT i).known) (pre:=kT M.bT i) (r i u) (by omega) H a fun v a2 c2 h a=>?_
  rw[<-wJ] at a
  refine jN a fun h a=>jR (aac ?_)
  have a:=qE (G:=G) (Cf:=Cf) (l:=x.lq) (s:=M.bT) (i:=i) (t:=M.bT i) B a
  rw[xw] at a
  have a:=gV (G:=G) (Cf:=Cf) (m:=m) (x:=x) M O a
  have a:=a.cE (mk d2 ()) (mk d1 ()) (Xp w)
  exact ih (i+1) a1 d a2 c2 (d2::d1::w) h (by omega) (aAu a).to
end
section
def Ck (F:fV) (n:Nat):List aQ:=(List.range n).flatMap (cU F)
theorem Kd {F:fV} {n:Nat}:Ck F (n+1)=Ck F n++cU F n:=by simp[Ck,List.range_succ]
theorem Iz {F:fV} (a:∀c w,(F c w).length<=500):∀n,(Ck F n).length<=500*n
 |0=>by simp[Ck]
 |n+1=>by
  rw[Kd,List.length_append];have:=Iz a n;have:(cU F n).length<=500:=a _ _;omega
abbrev Jp (a:Option Addr) (c:Nat) (l:List aQ):HP:=ls aQ.enc 9 162 a c l
set_option maxRecDepth 100000
variable {G:Bg} {h:AH} {L L':List HP} {Q:Value->AH->Prop} {C:bQ}
abbrev cgX (p2 q a d0 d l:Nat) (b e:Nat->Value) (ql:List Nat) (F:fV) (n:Nat):HP:=qV fun z:Option Addr×Nat=>sp [fM Pr 112 (fQ 54) 13 e d l (.ready,none),aE p2 0 [yF a],iY Am ql (cU F),fM Pr 110 (fQ 26) 13 b d0 a (.ready,none),aE q 0 [.slice z.1 (Ck F n).length z.2],Jp z.1 z.2 (Ck F n)]
abbrev cgY (p2 q b d0 d l l2:Nat) (f e e2:Nat->Value) (a:List aQ):HP:=qV fun z:Option Addr×Nat=>sp [fM Pr 112 (fQ 874) 13 e2 d l2 (.ready,none),fM Pr 112 (fQ 54) 13 e d l (.busy,none),aE p2 0 [yF b],fM Pr 110 (fQ 26) 13 f d0 b (.ready,none),aE q 0 [.slice z.1 (a).length z.2],Jp z.1 z.2 (a)]
theorem pn {p2 q g d0 d l l2 y _n:Nat} {j e e2:Nat->Value} {_F:fV} {T pre:List aQ} {J u8:Value} {R:Value->AH->Prop} (O:T.length<=500) (D:pre.length<=9000)
  (t:List.map j [2,7]=[pt q 0 0,J]) (u:List.map e2 [2,8]=[pt p2 0 0,u8])
  (f:Hs G h (jo y T::cgY p2 q g d0 d l l2 j e e2 pre::L)) (I:∀v w,Hs G w (jo y T::cgY p2 q g d0 d l l2 j e e2 (pre++T)::L)->R v w):
  Cl Pr K 248 [.func (.yield l2) #[] #[],pt y 0 0] h R:=by
 rw[show pre=pre++[] by simp] at f
 refine(aId (q:=y) (l:=T) (by omega)).fold (X:=fun i=>cgY p2 q g d0 d l l2 j e e2 (pre++i)) (Z:=fun _ _=>rN False) f ?_ ?_ ?_
 .intro i x h N B f;have r:=B.length_le;rw[List.length_append,List.length_singleton] at r;obtain⟨⟨a,c⟩,f⟩:=f.rS;have f:=f.un6;refine rW (nX f) u (bN f fun p1 h f=>ax (b:=p1) f fun h f=>fG f fun h f=>am p2 f rfl (an p1 f (l:=x.enc) rfl rfl ?_));refine rW (nX (l:=g) f) t (bN f fun E h f=>ax (b:=E) f fun h f=>fG f fun h f=>am q f rfl (an E f (l:=x.enc) rfl rfl (aJ (c:=x.enc) rfl (dC (W:=9) (n:=1) (c:=1) f rfl rfl rfl fun a3 h f=>?_))));have f:=mR (enc:=aQ.enc) (x:=x) f;refine kL (bytes:=72) (e:=162) (enc:=aQ.enc) (l:=pre++i) (l2:=[x]) (a:=a) (c:=c) (a2:=some a3) (c2:=1) (f.bL (Jp a c (pre++i)) (Jp (some a3) 1 [x])) (by rw[List.length_append,List.length_singleton];omega) fun k p h f=>?_;rw[List.append_assoc] at f ⊢;refine ax (b:=q) (o:=0) f fun h f=>gK (l:=g) f fun h f=>bY (bP (gK (l:=l2) f fun h f=> .inl ⟨rfl,?_⟩));have f:=f.gN (fM Pr 110 (fQ 26) 13 j d0 g (.ready,none)) (aE q 0 [.slice k (pre++(i++[x])).length p]) (Jp k p (pre++(i++[x]))) (aE p2 0 [yF g]);have f:=f.cE (fM Pr 112 (fQ 874) 13 e2 d l2 (.ready,none)) (fM Pr 112 (fQ 54) 13 e d l (.busy,none)) (aE p2 0 [yF g]);have f:=Hs.oZ (A:=fun z:Option Addr×Nat=>sp [fM Pr 112 (fQ 874) 13 e2 d l2 (.ready,none),fM Pr 112 (fQ 54) 13 e d l (.busy,none),aE p2 0 [yF g],fM Pr 110 (fQ 26) 13 j d0 g (.ready,none),aE q 0 [.slice z.1 (pre++(i++[x])).length z.2],Jp z.1 z.2 (pre++(i++[x]))]) (k,p) f.pk6;exact f.to
 .intro v h f;exact I v h f
 .intro done y v h B f;obtain⟨H,f⟩:=(f.front (rN False)).To;exact H.elim
theorem aBf {z p:Nat} {ql:List Nat} {F:fV} (γ:ql.length<=16) (B:∀c w,(F c w).length<=500) (f:Hs G h (aE p 0 [rwF z]::Ha z ql::iY Am ql (cU F)::L))
  (hk:∀a c H,Hs G H (Jp a c (Ck F ql.length)::L)->Q (.slice a (Ck F ql.length).length c) H):Cl Pr K 56 [.func (.func 112) #[] #[pt p 0 0]] h Q:=by
 have β:=Iz B ql.length
 refine cW (cW (dL (cs:=[.slice none 0 0]) f fun q h f=>iI f fun d0 h f=>?_))
 intro k D
 refine jL f fun g h f=>oB rfl ?_
 refine cW (dL (cs:=[yF g]) f fun p2 h f=>am p f rfl (iI f fun d h f=>?_))
 intro e V
 refine jL f fun l h f=>oB rfl ?_
 have f:=jB (enc:=aQ.enc) (e:=162) f
 have f:Hs G h (Ha z ql::cgX p2 q g d0 d l k e ql F 0::mk d ()::mk d0 ()::L):=by
  have f:=f.cE (fM Pr 110 (fQ 26) 13 k d0 g (.ready,none)) (aE q 0 [.slice none 0 0]) (Jp none 0 []);have f:=f.cE (fM Pr 112 (fQ 54) 13 e d l (.ready,none)) (aE p2 0 [yF g]) (iY Am ql (cU F));have f:=Hs.oZ (A:=fun z:Option Addr×Nat=>sp [fM Pr 112 (fQ 54) 13 e d l (.ready,none),aE p2 0 [yF g],iY Am ql (cU F),fM Pr 110 (fQ 26) 13 k d0 g (.ready,none),aE q 0 [.slice z.1 (Ck F 0).length z.2],Jp z.1 z.2 (Ck F 0)]) (none,0) f.pk6;exact f.to
 refine(zo (z:=z) (l:=ql) (by omega)).fold (X:=fun done=>cgX p2 q g d0 d l k e ql F done.length) (Z:=fun _ _=>rN False) f ?_ ?_ ?_
 .intro done y h N I f;obtain⟨⟨a,c⟩,f⟩:=f.rS;have f:=f.un6;obtain⟨r,O⟩:=W6 I;have J:=Iz B done.length;have f:=eR (R:=Am) (l:=ql) (s:=cU F) r (f.front (iY Am ql (cU F)));rw[O] at f;refine rW (nX (l:=l) f) V (fG (l:=l) f fun h f=>Pm (l:=l) f ?_);intro u E;refine jL f fun t h f=>oB rfl ?_;have f:Hs G h (jo y (cU F done.length)::cgY p2 q g d0 d l t k e u (Ck F done.length)::A3 Am ql (cU F) done.length::N):=by
   have f:=f.gN (fM Pr 110 (fQ 26) 13 k d0 g (.ready,none)) (aE q 0 [.slice a (Ck F done.length).length c]) (Jp a c (Ck F done.length)) (aE p2 0 [yF g]);have f:=f.cE (fM Pr 112 (fQ 874) 13 u d t (.ready,none)) (fM Pr 112 (fQ 54) 13 e d l (.busy,none)) (aE p2 0 [yF g]);have f:=Hs.oZ (A:=fun z:Option Addr×Nat=>sp [fM Pr 112 (fQ 874) 13 u d t (.ready,none),fM Pr 112 (fQ 54) 13 e d l (.busy,none),aE p2 0 [yF g],fM Pr 110 (fQ 26) 13 k d0 g (.ready,none),aE q 0 [.slice z.1 (Ck F done.length).length z.2],Jp z.1 z.2 (Ck F done.length)]) (a,c) f.pk6;exact f.to
  refine pn (_n:=0) (_F:=F) (T:=cU F done.length) (pre:=Ck F done.length) (B _ _) (by omega) D E f fun v h f=>?_
  rw[<-Kd] at f
  obtain⟨⟨a,c⟩,f⟩:=(f.front (cgY p2 q g d0 d l t k e u (Ck F (done.length+1)))).rS
  have f:=f.un6
  refine jN (l:=t) f fun h f=>jR (gK (l:=l) f fun h f=> .inl ⟨rfl,?_⟩)
  have U:jo y (cU F done.length)=Am done.length (ql.getD done.length 0) (cU F done.length):=by rw[O]
  rw[U] at f
  have f:=uF (R:=Am) (l:=ql) (s:=cU F) (i:=done.length) (x:=cU F done.length) r (f.bL (Am done.length (ql.getD done.length 0) (cU F done.length)) (A3 Am ql (cU F) done.length))
  have S:(fun j=>if j=done.length then cU F done.length else cU F j)=cU F:=by funext j;split<;>simp_all
  rw[S] at f
  have f:=f.cE (fM Pr 110 (fQ 26) 13 k d0 g (.ready,none)) (aE q 0 [.slice a (Ck F (done.length+1)).length c]) (Jp a c (Ck F (done.length+1)))
  have f:=f.cE (fM Pr 112 (fQ 54) 13 e d l (.ready,none)) (aE p2 0 [yF g]) (iY Am ql (cU F))
  have f:=Hs.oZ (A:=fun z:Option Addr×Nat=>sp [fM Pr 112 (fQ 54) 13 e d l (.ready,none),aE p2 0 [yF g],iY Am ql (cU F),fM Pr 110 (fQ 26) 13 k d0 g (.ready,none),aE q 0 [.slice z.1 (Ck F (done.length+1)).length z.2],Jp z.1 z.2 (Ck F (done.length+1))]) (a,c) f.pk6
  rw[List.length_append,List.length_singleton]
  exact f.to
 .intro v h f;obtain⟨⟨a,c⟩,f⟩:=(f.front (cgX p2 q g d0 d l k e ql F ql.length)).rS;have f:=f.un6;refine jN (l:=l) f fun h f=>jR (jW (f.front (mk d ())) fun h f=>iT ?_);exact jN (l:=g) f fun h f=>jR (am q f rfl (jW (f.front (mk d0 ())) fun h f=>iT (hk a c h f.to)))
 .intro done y v h I f;obtain⟨Y,f⟩:=(f.front (rN False)).To;exact Y.elim
end
section
structure Sh where
 vI:List (Nat×Th)
 xQ:List (Nat×(Int×Int))
 dD:List iB
 mZ:List aQ
 mem:List Ln
def pB (C:bQ) (M:cX):Sh:=⟨jY C.bC.toNat M.cC C.aD.toNat,kT M.bT C.aD.toNat,M.dG.dD,Ck M.iZ (4*C.aD.toNat),(List.range C.lines).map fun i=>(M.home i).2⟩
structure Sz where
 a1:Option Addr
 c1:Nat
 a2:Option Addr
 c2:Nat
 a3:Option Addr
 c3:Nat
 a4:Option Addr
 c4:Nat
 a5:Option Addr
 c5:Nat
abbrev Yz (z:Sz) (s:Sh):List Value:=yE z.a1 s.vI.length z.c1 z.a2 s.xQ.length z.c2 z.a3 s.dD.length z.c3 z.a4 s.mZ.length z.c4 z.a5 s.mem.length z.c5
set_option maxRecDepth 100000
abbrev enL (a:Option Addr) (c:Nat) (l:List iB):HP:=ls iB.enc 2 52 a c l
abbrev lnL (a:Option Addr) (c:Nat) (l:List Ln):HP:=ls mO 2 68 a c l
abbrev shB (z:Sz) (s:Sh):List HP:=[A9 z.a1 z.c1 s.vI,Bb z.a2 z.c2 s.xQ,enL z.a3 z.c3 s.dD,Jp z.a4 z.c4 s.mZ,lnL z.a5 z.c5 s.mem]
def shR (z:Sz) (s:Sh):HP:=sp (shB z s)
variable {G:Bg} {h:AH} {L L':List HP} {Q:Value->AH->Prop} {Cf:bQ} {m:Nat} {M:cX}
theorem a8 {x:MN} {p1 u J A O c2:Nat} {a1 a2:Option Addr} {w:List Nat} {t115:Value} (hC:Cf.Ok) (he:M.dG.dD.length=Cf.bM.toNat)
  (Y:∀a c B,Hs G B (ls iB.enc 2 52 a c M.dG.dD::Xp w::gD G Cf m x M::aE p1 0 shZ::aE u 0 (yE a1 J A a2 O c2 a M.dG.dD.length c none 0 0 none 0 0)::L)->Dd 16 9 w Q [pt m 0 0,pt p1 0 0,pt u 0 0,t115] B):
  ∀(f i:Nat) (a:Option Addr) (c:Nat) (h:AH),i+f=Cf.bM.toNat->Hs G h (ls iB.enc 2 52 a c (M.dG.dD.take i)::Xp w::gD G Cf m x M::aE p1 0 shZ::aE u 0 (yE a1 J A a2 O c2 a i c none 0 0 none 0 0)::L)->Dd 16 7 w Q [pt m 0 0,pt p1 0 0,pt u 0 0,I Cf.bM,I i,t115] h:=by
 have hg:=hC.2.1
 intro f
 induction f with
 |zero=>
  intro i a c h X d
  obtain rfl:i=M.dG.dD.length:=by omega
  rw[List.take_length] at d
  exact bW (aI (aaa (Y a c h d)))
 |succ f ih=>
  intro i a c h X d
  have E:i<M.dG.dD.length:=by omega
  obtain⟨y,U,_⟩:=gU (l:=M.dG.dD) (i:=i) E
  obtain⟨Z,d⟩:=fL (d.front (gD G Cf m x M))
  refine bW (aI (aad (bW (aB (aA (am m d rfl ?_))))))
  obtain⟨t,b,d⟩:=jP (d.front (fD Cf x.mb M.dG))
  refine aB (aA (aC (b:=x.mb) (o:=0) d rfl (Pf (t:=t) (es:=M.dG.dD) (g:=i) d fun h d=>?_)))
  rw[aae,Int.toNat_natCast,show M.dG.dD.getD i kX=y by rw[List.getD_eq_getElem?_getD,U];rfl]
  have d:=dR (C:=Cf) (p:=x.mb) (m:=M.dG) (t:=t) (b:=b) (d.cE (aE x.mb 0 [pt t 0 0,I Cf.aD,fS b]) (gL t M.dG.dD) (iA b (fK M.dG.runs)))
  have d:=gV (G:=G) (Cf:=Cf) (m:=m) (x:=x) M Z d
  have e:(M.dG.dD.take i).length=i:=by rw[List.length_take];omega
  refine aG rfl (aG rfl (bN d fun p h d=>ax (b:=p) d fun h d=>aA (am u d rfl (an p d (l:=y.enc) rfl rfl (aJ (c:=y.enc) rfl (dC (W:=2) (n:=1) (c:=1) d rfl rfl rfl fun a0 h d=>?_))))))
  have d:=mR (enc:=iB.enc) (x:=y) d
  have:=kL (bytes:=16) (e:=52) (enc:=iB.enc) (l:=M.dG.dD.take i) (l2:=[y]) (a:=a) (c:=c) (a2:=some a0) (c2:=1) (h:=h) (k:=fun r=>bA (fZ 2 (pt u 0 0)) fun q=>bA (sH r.2 1 q r.1) fun D=>bA (sY .add (I i) (I 1)) fun v=>Dd 16 7 w Q [pt m 0 0,pt p1 0 0,pt u 0 0,I Cf.bM,v,t115] D) (d.bL (ls iB.enc 2 52 a c (M.dG.dD.take i)) (ls iB.enc 2 52 (some a0) 1 [y])) (by rw[e];simp;omega) fun R S B H=>?_
  .rw[e] at this;exact this
  .rw[List.length_append,e];refine aA (ay (b:=u) (o:=0) H fun T j=>aac ?_);have j:Hs G T (aE u 0 (yE a1 J A a2 O c2 R (i+1) S none 0 0 none 0 0)::_):=j;have V:M.dG.dD.take i++[y]=M.dG.dD.take (i+1):=by rw[List.take_add_one,U];rfl
   rw[V] at j
   exact ih (i+1) R S T (by omega) j.to
abbrev shY (i:Nat) (e:Nat->Value) (d l:Nat) (a1:Option Addr) (b a:Nat) (a2:Option Addr) (f c2:Nat) (a3:Option Addr) (g c3:Nat) (a4:Option Addr) (n4 c4:Nat) (done:List Ln):HP:=qV fun x:Option Addr×Nat=>sp [fM Pr 16 (fQ 1018) 123 e d l (.ready,none),aE i 0 (yE a1 b a a2 f c2 a3 g c3 a4 n4 c4 x.1 done.length x.2),ls mO 2 68 x.1 x.2 done]
theorem iz {x:MN} {p1 g k j r c2 c3:Nat} {a1 a2 a3:Option Addr} {J:List Nat} {t115:Value} (hC:Cf.Ok) (u:Ob G 0 eY) (hF:∀c w,(M.iZ c w).length<=500)
  (f:Hs G h (ls iB.enc 2 52 a3 c3 M.dG.dD::Xp J::gD G Cf m x M::aE p1 0 shZ::aE g 0 (yE a1 k j a2 r c2 a3 M.dG.dD.length c3 none 0 0 none 0 0)::L))
  (hk:∀a4 c4 a5 c5 U,Hs G U (ls iB.enc 2 52 a3 c3 M.dG.dD::Jp a4 c4 (Ck M.iZ (4*Cf.aD.toNat))::ls mO 2 68 a5 c5 ((List.range Cf.lines).map fun i=>(M.home i).2)::gD G Cf m x M::L)->Q (.agg ⟨yE a1 k j a2 r c2 a3 M.dG.dD.length c3 a4 (Ck M.iZ (4*Cf.aD.toNat)).length c4 a5 Cf.lines c5⟩) U):
  Dd 16 9 J Q [pt m 0 0,pt p1 0 0,pt g 0 0,t115] h:=by
 have hc:=hC.1
 have δ:=bQ.eP hC
 have γ:=hC.2.1
 obtain⟨hl,f⟩:=fL (f.front (gD G Cf m x M))
 refine bW (aB (aA (am m f rfl ?_)))
 refine qf (C:=Cf) (F:=M.iZ) hC hF f fun z R p h S f=>?_
 refine aBf (z:=z) (p:=p) (ql:=R) (F:=M.iZ) (by omega) hF (f.cE (aE p 0 [rwF z]) (Ha z R) (iY Am R (cU M.iZ))) fun a4 c4 h f=>?_
 rw[S] at f ⊢
 obtain⟨n4,D⟩:∃n4,n4=(Ck M.iZ (4*Cf.aD.toNat)).length:=⟨_,rfl⟩
 rw[<-D]
 refine aA (ay (b:=g) (o:=0) f fun h f=>?_)
 have f:Hs G h (aE g 0 (yE a1 k j a2 r c2 a3 M.dG.dD.length c3 a4 n4 c4 none 0 0)::_):=f
 refine aB (aA (am m f rfl ?_))
 obtain⟨O,b,o,t,f⟩:=H.nE (f.front (H.fO G x.hb Cf M.home))
 refine aB (aA (aC (b:=x.hb) (o:=0) f rfl ?_))
 refine ye (mb:=O) (mem:=fun i=>(M.home i).2) hC u f fun Y h f=>?_
 have f:=f.bL (hole G 25 222 (some ⟨b,o,none⟩) t Cf.lines b o) (dE Cf.lines fun i=>H.eI b (o+i*25) (M.home i).1)
 have f:=f.bL (aE x.hb 0 (H.lN O Cf b o t)) (eM G Cf.lines O Cf fun i=>(M.home i).2)
 have f:=H.pU (H:=M.home) f
 have f:=gV (G:=G) (Cf:=Cf) (m:=m) (x:=x) M hl f
 refine iI f fun d h f=>?_
 intro e he
 refine jL f fun l h f=>oB rfl ?_
 have f:=jB (enc:=mO) (e:=68) f
 have f:Hs G h (aAq Y ((List.range Cf.lines).map fun i=>(M.home i).2)::shY g e d l a1 k j a2 r c2 a3 M.dG.dD.length c3 a4 n4 c4 []::mk d ()::ls iB.enc 2 52 a3 c3 M.dG.dD::Jp a4 c4 (Ck M.iZ (4*Cf.aD.toNat))::Xp J::gD G Cf m x M::aE p1 0 shZ::L):=by
  have f:=(f.cE (fM Pr 16 (fQ 1018) 123 e d l (.ready,none)) (aE g 0 (yE a1 k j a2 r c2 a3 M.dG.dD.length c3 a4 n4 c4 none 0 0)) (ls mO 2 68 none 0 [])).M4;have f:=Hs.oZ (A:=fun x:Option Addr×Nat=>sp [fM Pr 16 (fQ 1018) 123 e d l (.ready,none),aE g 0 (yE a1 k j a2 r c2 a3 M.dG.dD.length c3 a4 n4 c4 x.1 ([]:List Ln).length x.2),ls mO 2 68 x.1 x.2 []]) (none,0) f;exact f.to
 have B:((List.range Cf.lines).map fun i=>(M.home i).2).length=Cf.lines:=by simp
 refine(aKa (p:=Y) (l:=(List.range Cf.lines).map fun i=>(M.home i).2) (by rw[B];omega)).fold (X:=fun done:List (Ln×Nat)=>shY g e d l a1 k j a2 r c2 a3 M.dG.dD.length c3 a4 n4 c4 (B5 done)) (Z:=fun _ _=>rN False) f ?_ ?_ ?_
 .intro done y h T V f;have β:done.length<Cf.lines:=by have:=V.length_le;simp at this;omega
  obtain⟨⟨a,c⟩,f⟩:=f.rS
  have f:=f.yG
  refine rW (nX f) he (bN f fun q h f=>ax (b:=q) f fun h f=>fG f fun h f=>aA (am g f rfl (an q f (l:=mO y.1) rfl rfl (aJ (c:=mO y.1) rfl (dC (W:=2) (n:=1) (c:=1) f rfl rfl rfl fun a0 h f=>?_)))))
  have f:=mR (enc:=mO) (x:=y.1) f
  refine kL (bytes:=16) (e:=68) (enc:=mO) (l:=B5 done) (l2:=[y.1]) (a:=a) (c:=c) (a2:=some a0) (c2:=1) (f.bL (ls mO 2 68 a c (B5 done)) (ls mO 2 68 (some a0) 1 [y.1])) (by rw[tq];simp;omega) fun E I h f=>?_
  refine aA (ay (b:=g) (o:=0) f fun h f=>?_)
  have f:Hs G h (aE g 0 (yE a1 k j a2 r c2 a3 M.dG.dD.length c3 a4 n4 c4 E (B5 done++[y.1]).length I)::_):=f
  refine gK f fun h f=> .inl ⟨rfl,?_⟩
  have f:=(f.cE (fM Pr 16 (fQ 1018) 123 e d l (.ready,none)) (aE g 0 (yE a1 k j a2 r c2 a3 M.dG.dD.length c3 a4 n4 c4 E (B5 done++[y.1]).length I)) (ls mO 2 68 E I (B5 done++[y.1]))).M4
  rw[vp] at f
  exact(Hs.oZ (A:=fun x:Option Addr×Nat=>sp [fM Pr 16 (fQ 1018) 123 e d l (.ready,none),aE g 0 (yE a1 k j a2 r c2 a3 M.dG.dD.length c3 a4 n4 c4 x.1 (B5 (done++[y])).length x.2),ls mO 2 68 x.1 x.2 (B5 (done++[y]))]) (E,I) f).to
 .intro v h f;rw[x5] at f;obtain⟨⟨a,c⟩,f⟩:=(f.front (shY g e d l a1 k j a2 r c2 a3 M.dG.dD.length c3 a4 n4 c4 ((List.range Cf.lines).map fun i=>(M.home i).2))).rS;have f:=f.yG;refine jN f fun h f=>jR (an g f (l:=yE a1 k j a2 r c2 a3 M.dG.dD.length c3 a4 n4 c4 a ((List.range Cf.lines).map fun i=>(M.home i).2).length c) rfl rfl (ax (b:=p1) f fun h f=>jW f fun h f=>yo (f.front (Xp J)) fun h f=>an p1 f (l:=yE a1 k j a2 r c2 a3 M.dG.dD.length c3 a4 n4 c4 a ((List.range Cf.lines).map fun i=>(M.home i).2).length c) rfl rfl ?_));have:=hk a4 c4 a c h f.to;rw[<-B,<-D] at this;exact this
 .intro done y v h V f;obtain⟨hf,f⟩:=(f.front (rN False)).To;exact hf.elim
structure Zm (C:bQ) (M:cX):Prop where
 I2:∀i:Nat,(i:Int)<C.aD->mF C (M.cC i)
 uO:∀i:Nat,(i:Int)<C.aD->(M.bT i).known.length<=100
 iZ:∀c w,(M.iZ c w).length<=500
 wF:M.dG.dD.length=C.bM.toNat
theorem Zm.of {N:Nat} (hC:Cf.Ok) (h:eN Cf N M):Zm Cf M:=⟨h.I2,fun i a=>(h.uO i a).len hC,cv.Np hC h.iZ.len,h.dG.len⟩
theorem Sp (hC:Cf.Ok) (j:Ob G 0 eY) (k:Zm Cf M) (d:Hs G h L) [u:Has (bB G Cf m) L M L']
  (t:∀z p,Hs G p (shR z (pB Cf M)::bB G Cf m M::L')->Q (.agg ⟨Yz z (pB Cf M)⟩) p):Cl Pr K 16 [pt m 0 0] h Q:=by
 have w:=hC.2.1
 obtain⟨x,d⟩:=Hs.rS (show Hs G h (bB G Cf m M::L') from u.of d)
 have d:Hs G h (gD G Cf m x M::L'):=d
 refine cW (bN d fun p1 h d=>bN d fun q h d=>cK (bP (bW ?_)))
 obtain⟨l,d⟩:=fL (d.front (gD G Cf m x M))
 refine aB (aA (am m d rfl (bH ?_)))
 rw[l.1]
 have d:=gV (G:=G) (Cf:=Cf) (m:=m) (x:=x) M l d
 have d:Hs G h (Xp []::gD G Cf m x M::aE p1 0 shZ::aE q 0 shZ::L'):=Hs.pack (A:=[]) d.to
 have d:=jB (enc:=Tt) (e:=70) (jB (enc:=Tp) (e:=72) d)
 refine cj (x:=x) hC k.I2 k.uO (fun a1 g f c2 r h d=>?_) Cf.aD.toNat 0 none 0 none 0 [] h (by omega) d
 obtain⟨l,d⟩:=fL (d.front (gD G Cf m x M))
 refine bW (aB (aA (aA (am m d (v:=I Cf.bM) rfl ?_))))
 have d:=gV (G:=G) (Cf:=Cf) (m:=m) (x:=x) M l d
 have d:=jB (enc:=iB.enc) (e:=52) d
 have d:Hs G h (ls iB.enc 2 52 none 0 []::Xp r::gD G Cf m x M::aE p1 0 shZ::aE q 0 (yE a1 (jY Cf.bC.toNat M.cC Cf.aD.toNat).length g f (kT M.bT Cf.aD.toNat).length c2 none 0 0 none 0 0 none 0 0)::A9 a1 g (jY Cf.bC.toNat M.cC Cf.aD.toNat)::Bb f c2 (kT M.bT Cf.aD.toNat)::L'):=d.to
 refine a8 (x:=x) (L:=A9 a1 g (jY Cf.bC.toNat M.cC Cf.aD.toNat)::Bb f c2 (kT M.bT Cf.aD.toNat)::L') hC k.wF (fun a c h d=>?_) Cf.bM.toNat 0 none 0 h (by omega) (by rw[List.take_zero];exact d)
 refine iz (x:=x) hC j k.iZ d fun a4 c4 a5 c5 h d=>?_
 have n:((List.range Cf.lines).map fun i=>(M.home i).2).length=Cf.lines:=by simp
 have:=t ⟨a1,g,f,c2,a,c,a4,c4,a5,c5⟩ h
 unfold pB Yz at this
 simp only[n] at this
 refine this ?_
 have d:=d.front (gD G Cf m x M)
 have d:Hs G h (bB G Cf m M::_):=Hs.oZ (A:=fun x:MN=>sp (J0 G Cf m M x)) x d
 refine Hs.pack (A:=shB ⟨a1,g,f,c2,a,c,a4,c4,a5,c5⟩ ⟨jY Cf.bC.toNat M.cC Cf.aD.toNat,kT M.bT Cf.aD.toNat,M.dG.dD,Ck M.iZ (4*Cf.aD.toNat),(List.range Cf.lines).map fun i=>(M.home i).2⟩) ?_
 exact d.to
end
end Go.Proofs.YtmhapehobfnoiaaGreatDoor
namespace Go.Proofs.YtmhapehobfnoiaaGreatDoor
open Go Go.Ab Go.Hm Go.At Go.Mc Go.Ct Go.Nt
section
theorem Ph {F:fV}:∀n,((List.range n).flatMap fun c=>(List.range 4).flatMap fun w=>F c w).length=wM F (4*n)
 |0=>rfl
 |n+1=>by
  rw[List.range_succ (n:=n),List.flatMap_append,List.length_append,Ph n];have e:wM F (4*(n+1))=wM F (4*n)+(F n 0).length+(F n 1).length+(F n 2).length+(F n 3).length:=by
   show wM F (4*n)+(F ((4*n)/4) ((4*n) % 4)).length+(F ((4*n+1)/4) ((4*n+1) % 4)).length+(F ((4*n+2)/4) ((4*n+2) % 4)).length+(F ((4*n+3)/4) ((4*n+3) % 4)).length=_;rw[show(4*n)/4=n by omega,show(4*n) % 4=0 by omega,show(4*n+1)/4=n by omega,show(4*n+1) % 4=1 by omega,show(4*n+2)/4=n by omega,show(4*n+2) % 4=2 by omega,show(4*n+3)/4=n by omega,show(4*n+3) % 4=3 by omega]
  have a:(([n]:List Nat).flatMap fun c=>(List.range 4).flatMap fun w=>F c w).length=(F n 0).length+(F n 1).length+(F n 2).length+(F n 3).length:=by
   simp[List.range_succ];omega
  rw[e,a];omega
theorem we {n i:Nat} {p:Nat->Bool} (a:i<n) (h:p i=false):(List.range n).all p=false:=by
 rw[List.all_eq_false];exact⟨i,List.mem_range.2 a,by rw[h];decide⟩
theorem gz {n:Nat} {p:Nat->Bool} (h:∀i,i<n->p i=true):(List.range n).all p=true:=List.all_eq_true.2 fun i a=>h i (List.mem_range.1 a)
set_option maxRecDepth 100000
variable {G:Bg} {h:AH} {L L':List HP} {Q:Value->AH->Prop} {Cf:bQ} {m N:Nat} {M:cX}
theorem Wb (hC:Cf.Ok) (hG:Gb G) (hL:cv Cf M.iZ) (_:vF Cf M.home (2^30)) (d:Hs G h L) [mm:Has (bB G Cf m) L M L'] (n:∀U,Hs G U (bB G Cf m M::L')->Q (.bool (M.over Cf)) U):Cl Pr K 17 [pt m 0 0] h Q:=by
 have hc:=hC.1;have γ:=bQ.eP hC;have r:=hL.Np hC;have A:=Ph (F:=M.iZ) Cf.aD.toNat;have V:=R1 r (4*Cf.aD.toNat);obtain⟨x,k,d⟩:=cQ (mm.of d);refine cW (cK (bP (aB (aA (am m d rfl (j7 (C:=Cf) (F:=M.iZ) hC r d fun h d=>?_))))));have d:=bI (m:=m) (x:=x) M k d;unfold cX.over cX.notes at n;refine iM (aT (fun h1=>?_) (fun h1=>bW ?_));rw[decide_eq_false (fun e=>by rw[e] at A;simp at A;omega),Bool.false_and,Bool.false_and] at n;exact n _ d;rw[decide_eq_true (List.eq_nil_of_length_eq_zero (by omega)),Bool.true_and] at n;have lines:∀(f l:Nat) (h:AH),(List.range Cf.aD.toNat).all (fun i=>(M.aR i).over&& !(M.cC i).U1&& !(M.bT i).pC)=true->l+f=Cf.lines->(∀j,j<l->(M.home j).1.waits=[])->Hs G h (bB G Cf m M::L')->Dd 17 6 [] Q [(pt m 0 0),(I Cf.lines),(I l)] h:=by
  intro f;induction f with
  |zero=>
   intro l h B O u d;rw[B,Bool.true_and,gz (fun j q=>decide_eq_true (u j (by omega)))] at n;exact bW (aI (aaa (n _ d)))
  |succ f T=>
   intro l h B O u d;obtain⟨x,k,d⟩:=cQ d;refine bW (aI (aad (bW (aB (aA (am m d rfl (H.rh (C:=Cf) (H:=M.home) (x:=l) d fun d=>?_)))))));have d:=bI (m:=m) (x:=x) M k d;have e:D5 Cf M.home l=(M.home l).1.waits.length:=by unfold D5;rw[aLy (by unfold bQ.has;omega),Int.toNat_natCast]
   rw[e];refine iM (aT (fun E=>?_) (fun E=>bW (aac (T (l+1) h B (by omega) (fun j q=>?_) d))));rw[B,Bool.true_and,we (i:=l) (by omega) (decide_eq_false (fun e=>by rw[e] at E;simp at E))] at n;exact n _ d;by_cases e:j=l;subst e;exact List.eq_nil_of_length_eq_zero (by omega);exact u j (by omega)
 have aD:∀(f i:Nat) (x:MN) (h:AH),Nj Cf x->i+f=Cf.aD.toNat->(∀j,j<i->((M.aR j).over&& !(M.cC j).U1&& !(M.bT j).pC)=true)->Hs G h (gD G Cf m x M::L')->Dd 17 2 [] Q [(pt m 0 0),(.slice x.ac x.lc.length x.cc),(I x.lc.length),(I i)] h:=by
  intro f;induction f with
  |zero=>
   intro i x h k J u d;have β:=k.1;refine bW (aI (aaa (bW ?_)));obtain⟨k,d⟩:=fL d;refine aB (aA (iV (b:=m) (o:=0) d (by decide) (l:=Cf.enc) rfl rfl (mV (C:=Cf) hC hG.lim d fun h d=>?_)));have d:=bI (m:=m) (x:=x) M k d;exact lines Cf.lines 0 h (gz fun j q=>u j (by omega)) (by omega) (fun j q=>by omega) d
  |succ f T=>
   intro i x h k J u d;obtain⟨_,d⟩:=fL d;obtain⟨X,Y,Z⟩:=k;have y:i<x.lc.length:=by omega
   have v:i<x.lk.length:=by omega
   have w:i<x.lq.length:=by omega
   refine bW (aI (aad (bW (Bt d y (aB (aA (am m d rfl (zE d v ?_))))))));have d:=eR (R:=kK G Cf) (l:=x.lk) (s:=M.cC) v d;refine C.qx (C:=Cf) (core:=i) (c:=x.lk.getD i 0) (s:=M.cC i) d fun h d=>aG rfl (aG rfl (aG rfl ?_));have d:=uF (R:=kK G Cf) (l:=x.lk) (s:=M.cC) (i:=i) (x:=M.cC i) v (d.bL (C.gC G (x.lk.getD i 0) Cf i (M.cC i)) (A3 (kK G Cf) x.lk M.cC i));have e4:(fun j=>if j=i then M.cC i else M.cC j)=M.cC:=by funext j;split<;>simp_all
   rw[e4] at d;refine aB (aA (am m d rfl (zN d w ?_)));have d:=eR (R:=kG Cf) (l:=x.lq) (s:=M.bT) w d;refine Y0 (C:=Cf) (p:=x.lq.getD i 0) (s:=M.bT i) d fun g a h d=>aG rfl (aG rfl (aG rfl ?_));have d:=qE (Cf:=Cf) (l:=x.lq) (s:=M.bT) (i:=i) (t:=M.bT i) w d;rw[bS] at d;refine gf (l:=x.lc) (S:=M.aR) y d ?_;have d:=gV (m:=m) (x:=x) M ⟨X,Y,Z⟩ d;have no:((M.aR i).over&& !(M.cC i).U1&& !(M.bT i).pC)=false->Q (.bool false) h:=fun e=>by
    rw[we (i:=i) (by omega) e,Bool.false_and] at n;exact n _ (Zj d)
   refine bY (dY (dH (fun a1=>dH (fun D=>no (by rw[D];simp)) (fun D=>dH (fun a3=>no (by rw[a3];simp)) (fun a3=>bW (aac ?_)))) (fun a1=>no (by rw[a1];rfl))));refine T (i+1) x h ⟨X,Y,Z⟩ (by omega) (fun j q=>?_) d;by_cases e:j=i;subst e;rw[a1,D,a3];rfl;exact u j (by omega)
 obtain⟨x,d⟩:=aj d;obtain⟨k,d⟩:=fL d;refine aB (aA (am m d rfl (bH ?_)));have d:=gV (m:=m) (x:=x) M k d;exact aD Cf.aD.toNat 0 x h k (by omega) (fun j u=>by omega) d
end
end Go.Proofs.YtmhapehobfnoiaaGreatDoor
end
namespace Go.Proofs.YtmhapehobfnoiaaGreatDoor
open Go Go.Ab Go.Hm Go.At Go.Mc Go.Ct Go.Nt Go.Is
section
theorem Qj {x:Nat×Th} {k:Value->Prop} (b:k (.bool false)) {a:Bool} (hc:a=true:=by kernel_rfl):Gm a [0,0,0,0,0,0] .neq (.agg ⟨Tt x⟩) (.agg ⟨Tt x⟩) k:=⟨hc,_,by simp[Ei,mP,E1,Mm,Tt,vJ,qC.enc],b⟩
theorem Um {x:Nat×(Int×Int)} {k:Value->Prop} (b:k (.bool false)) {a:Bool} (hc:a=true:=by kernel_rfl):Gm a [0,0,0] .neq (.agg ⟨Tp x⟩) (.agg ⟨Tp x⟩) k:=⟨hc,_,by simp[Ei,mP,E1,Mm,Tp,dA],b⟩
theorem Nr {x:iB} {k:Value->Prop} (b:k (.bool false)) {a:Bool} (hc:a=true:=by kernel_rfl):Gm a [0,1] .neq (.agg ⟨iB.enc x⟩) (.agg ⟨iB.enc x⟩) k:=⟨hc,_,by simp[Ei,mP,E1,Mm,iB.enc],b⟩
theorem T2 {x:aQ} {k:Value->Prop} (b:k (.bool false)) {a:Bool} (hc:a=true:=by kernel_rfl):Gm a [0,0,0,0,0,0,0,1,0] .neq (.agg ⟨aQ.enc x⟩) (.agg ⟨aQ.enc x⟩) k:=⟨hc,_,by simp[Ei,mP,E1,Mm,aQ.enc],b⟩
theorem Tw {x:Ln} {k:Value->Prop} (b:k (.bool false)) {a:Bool} (hc:a=true:=by kernel_rfl):Gm a [0,0] .neq (.agg ⟨mO x⟩) (.agg ⟨mO x⟩) k:=⟨hc,_,by simp[Ei,mP,E1,Mm,mO],b⟩
theorem Qr {x:Ev} {k:Value->Prop} (b:k (.bool false)) {a:Bool} (hc:a=true:=by kernel_rfl):Gm a [0,0,0,0,0,0,0] .neq (.agg ⟨Ev.enc x⟩) (.agg ⟨Ev.enc x⟩) k:=⟨hc,_,by simp[Ei,mP,E1,Mm,Ev.enc],b⟩
set_option maxRecDepth 100000
attribute [local irreducible] bA Br ld1 rT sH A2 lH tD kC Nk fZ lT oX oU nW kS xH sY Ts Pe No M5 Qt Ns Ei Gm Sb jV nR qR iK copyV gZ vD Tg Tm E6 jX Kb Pq Tl mL pD uW vP Cl xS Tb qW qT jA eX cS bZ
variable {G:Bg} {h:AH} {L L':List HP} {Q:Value->AH->Prop} {Cf:bQ} {m m2:Nat} {M:cX}
theorem Z0 {a a2:Option Addr} {c c2:Nat} {l:List (Nat×Th)} (o:l.length<=100000) (b:Hs G h (ls Tt 6 70 a c l::ls Tt 6 70 a2 c2 l::L))
  (k:∀g,Hs G g L->Q (.bool true) g):Cl Pr K 65 [.slice a l.length c,.slice a2 l.length c2] h Q:=by
 have loop:∀(f i:Nat) (h:AH),i+f=l.length->Hs G h (ls Tt 6 70 a c l::ls Tt 6 70 a2 c2 l::L)->Dd 65 2 [] Q [.slice a l.length c,.slice a2 l.length c2,I i] h:=by
  intro f;induction f with
  |zero=>intro i h j b;exact bW (bH (aI (aaa (k _ b.to))))
  |succ f n=>
   intro i h j b;obtain⟨x,d,_⟩:=gU (l:=l) (i:=i) (by omega);have d:l[((i:Nat):Int).toNat]?=some x:=by rw[Int.toNat_natCast];exact d
   refine bW (bH (aI (aad (bW (aS b fun p h b=>jM (l:=l) (a:=a) (c:=c) (enc:=Tt) (e:=70) b (by decide) (by omega) d (jM (l:=l) (a:=a2) (c:=c2) (enc:=Tt) (e:=70) b (by decide) (by omega) d (Qj (bP (bW ?_)))))))));exact aac (n (i+1) h (by omega) b.to)
 exact cW (bH (bH (aX (aH (by simp) (bW (loop l.length 0 h (by omega) b))))))
theorem oa {a a2:Option Addr} {c c2:Nat} {l:List (Nat×(Int×Int))} (o:l.length<=100000) (b:Hs G h (ls Tp 3 72 a c l::ls Tp 3 72 a2 c2 l::L))
  (k:∀g,Hs G g L->Q (.bool true) g):Cl Pr K 66 [.slice a l.length c,.slice a2 l.length c2] h Q:=by
 have loop:∀(f i:Nat) (h:AH),i+f=l.length->Hs G h (ls Tp 3 72 a c l::ls Tp 3 72 a2 c2 l::L)->Dd 66 2 [] Q [.slice a l.length c,.slice a2 l.length c2,I i] h:=by
  intro f;induction f with
  |zero=>intro i h j b;exact bW (bH (aI (aaa (k _ b.to))))
  |succ f n=>
   intro i h j b;obtain⟨x,d,_⟩:=gU (l:=l) (i:=i) (by omega);have d:l[((i:Nat):Int).toNat]?=some x:=by rw[Int.toNat_natCast];exact d
   refine bW (bH (aI (aad (bW (aS b fun p h b=>jM (l:=l) (a:=a) (c:=c) (enc:=Tp) (e:=72) b (by decide) (by omega) d (jM (l:=l) (a:=a2) (c:=c2) (enc:=Tp) (e:=72) b (by decide) (by omega) d (Um (bP (bW ?_)))))))));exact aac (n (i+1) h (by omega) b.to)
 exact cW (bH (bH (aX (aH (by simp) (bW (loop l.length 0 h (by omega) b))))))
theorem Wv {a a2:Option Addr} {c c2:Nat} {l:List (iB)} (o:l.length<=100000) (b:Hs G h (ls iB.enc 2 52 a c l::ls iB.enc 2 52 a2 c2 l::L))
  (k:∀g,Hs G g L->Q (.bool true) g):Cl Pr K 67 [.slice a l.length c,.slice a2 l.length c2] h Q:=by
 have loop:∀(f i:Nat) (h:AH),i+f=l.length->Hs G h (ls iB.enc 2 52 a c l::ls iB.enc 2 52 a2 c2 l::L)->Dd 67 2 [] Q [.slice a l.length c,.slice a2 l.length c2,I i] h:=by
  intro f;induction f with
  |zero=>intro i h j b;exact bW (bH (aI (aaa (k _ b.to))))
  |succ f n=>
   intro i h j b;obtain⟨x,d,_⟩:=gU (l:=l) (i:=i) (by omega);have d:l[((i:Nat):Int).toNat]?=some x:=by rw[Int.toNat_natCast];exact d
   refine bW (bH (aI (aad (bW (aS b fun p h b=>jM (l:=l) (a:=a) (c:=c) (enc:=iB.enc) (e:=52) b (by decide) (by omega) d (jM (l:=l) (a:=a2) (c:=c2) (enc:=iB.enc) (e:=52) b (by decide) (by omega) d (Nr (bP (bW ?_)))))))));exact aac (n (i+1) h (by omega) b.to)
 exact cW (bH (bH (aX (aH (by simp) (bW (loop l.length 0 h (by omega) b))))))
theorem ni {a a2:Option Addr} {c c2:Nat} {l:List (aQ)} (o:l.length<=100000) (b:Hs G h (ls aQ.enc 9 162 a c l::ls aQ.enc 9 162 a2 c2 l::L))
  (k:∀g,Hs G g L->Q (.bool true) g):Cl Pr K 68 [.slice a l.length c,.slice a2 l.length c2] h Q:=by
 have loop:∀(f i:Nat) (h:AH),i+f=l.length->Hs G h (ls aQ.enc 9 162 a c l::ls aQ.enc 9 162 a2 c2 l::L)->Dd 68 2 [] Q [.slice a l.length c,.slice a2 l.length c2,I i] h:=by
  intro f;induction f with
  |zero=>intro i h j b;exact bW (bH (aI (aaa (k _ b.to))))
  |succ f n=>
   intro i h j b;obtain⟨x,d,_⟩:=gU (l:=l) (i:=i) (by omega);have d:l[((i:Nat):Int).toNat]?=some x:=by rw[Int.toNat_natCast];exact d
   refine bW (bH (aI (aad (bW (aS b fun p h b=>jM (l:=l) (a:=a) (c:=c) (enc:=aQ.enc) (e:=162) b (by decide) (by omega) d (jM (l:=l) (a:=a2) (c:=c2) (enc:=aQ.enc) (e:=162) b (by decide) (by omega) d (T2 (bP (bW ?_)))))))));exact aac (n (i+1) h (by omega) b.to)
 exact cW (bH (bH (aX (aH (by simp) (bW (loop l.length 0 h (by omega) b))))))
theorem nc {a a2:Option Addr} {c c2:Nat} {l:List (Ln)} (o:l.length<=100000) (b:Hs G h (ls mO 2 68 a c l::ls mO 2 68 a2 c2 l::L))
  (k:∀g,Hs G g L->Q (.bool true) g):Cl Pr K 69 [.slice a l.length c,.slice a2 l.length c2] h Q:=by
 have loop:∀(f i:Nat) (h:AH),i+f=l.length->Hs G h (ls mO 2 68 a c l::ls mO 2 68 a2 c2 l::L)->Dd 69 2 [] Q [.slice a l.length c,.slice a2 l.length c2,I i] h:=by
  intro f;induction f with
  |zero=>intro i h j b;exact bW (bH (aI (aaa (k _ b.to))))
  |succ f n=>
   intro i h j b;obtain⟨x,d,_⟩:=gU (l:=l) (i:=i) (by omega);have d:l[((i:Nat):Int).toNat]?=some x:=by rw[Int.toNat_natCast];exact d
   refine bW (bH (aI (aad (bW (aS b fun p h b=>jM (l:=l) (a:=a) (c:=c) (enc:=mO) (e:=68) b (by decide) (by omega) d (jM (l:=l) (a:=a2) (c:=c2) (enc:=mO) (e:=68) b (by decide) (by omega) d (Tw (bP (bW ?_)))))))));exact aac (n (i+1) h (by omega) b.to)
 exact cW (bH (bH (aX (aH (by simp) (bW (loop l.length 0 h (by omega) b))))))
theorem Yy {a a2:Option Addr} {c c2:Nat} {l:List (Ev)} (o:l.length<=100000) (b:Hs G h (ls Ev.enc 7 74 a c l::ls Ev.enc 7 74 a2 c2 l::L))
  (k:∀g,Hs G g L->Q (.bool true) g):Cl Pr K 71 [.slice a l.length c,.slice a2 l.length c2] h Q:=by
 have loop:∀(f i:Nat) (h:AH),i+f=l.length->Hs G h (ls Ev.enc 7 74 a c l::ls Ev.enc 7 74 a2 c2 l::L)->Dd 71 2 [] Q [.slice a l.length c,.slice a2 l.length c2,I i] h:=by
  intro f;induction f with
  |zero=>intro i h j b;exact bW (bH (aI (aaa (k _ b.to))))
  |succ f n=>
   intro i h j b;obtain⟨x,d,_⟩:=gU (l:=l) (i:=i) (by omega);have d:l[((i:Nat):Int).toNat]?=some x:=by rw[Int.toNat_natCast];exact d
   refine bW (bH (aI (aad (bW (aS b fun p h b=>jM (l:=l) (a:=a) (c:=c) (enc:=Ev.enc) (e:=74) b (by decide) (by omega) d (jM (l:=l) (a:=a2) (c:=c2) (enc:=Ev.enc) (e:=74) b (by decide) (by omega) d (Qr (bP (bW ?_)))))))));exact aac (n (i+1) h (by omega) b.to)
 exact cW (bH (bH (aX (aH (by simp) (bW (loop l.length 0 h (by omega) b))))))
def dj (s:Sh):Prop:=s.vI.length<=100000/\s.xQ.length<=100000/\s.dD.length<=100000/\s.mZ.length<=100000/\s.mem.length<=100000
theorem vy {z y:Sz} {s:Sh} (hb:dj s) (a:Hs G h (shR z s::shR y s::L)) (l:∀d,Hs G d L->Q (.bool true) d):
  Cl Pr K 20 [.agg ⟨Yz z s⟩,.agg ⟨Yz y s⟩] h Q:=by
 obtain⟨f,g,i,j,k⟩:=hb
 have a:=Hs.unpack (A:=shB z s) a
 have a:Hs G h (shR y s::A9 z.a1 z.c1 s.vI::Bb z.a2 z.c2 s.xQ::enL z.a3 z.c3 s.dD::Jp z.a4 z.c4 s.mZ::lnL z.a5 z.c5 s.mem::L):=(show Hs G h (A9 z.a1 z.c1 s.vI::Bb z.a2 z.c2 s.xQ::enL z.a3 z.c3 s.dD::Jp z.a4 z.c4 s.mZ::lnL z.a5 z.c5 s.mem::shR y s::L) from a).to
 have a:=Hs.unpack (A:=shB y s) a
 have a:Hs G h (A9 y.a1 y.c1 s.vI::Bb y.a2 y.c2 s.xQ::enL y.a3 y.c3 s.dD::Jp y.a4 y.c4 s.mZ::lnL y.a5 y.c5 s.mem::A9 z.a1 z.c1 s.vI::Bb z.a2 z.c2 s.xQ::enL z.a3 z.c3 s.dD::Jp z.a4 z.c4 s.mZ::lnL z.a5 z.c5 s.mem::L):=a
 refine cW (dL (cs:=Yz z s) a fun p h a=>dL (cs:=Yz y s) a fun q h a=>?_)
 refine aA (am p a rfl (aA (am q a rfl (Z0 f (a.bL (A9 z.a1 z.c1 s.vI) (A9 y.a1 y.c1 s.vI)) fun h a=>dN ?_))))
 refine aA (am p a rfl (aA (am q a rfl (oa g (a.bL (Bb z.a2 z.c2 s.xQ) (Bb y.a2 y.c2 s.xQ)) fun h a=>dN ?_))))
 refine aA (am p a rfl (aA (am q a rfl (Wv i (a.bL (enL z.a3 z.c3 s.dD) (enL y.a3 y.c3 s.dD)) fun h a=>dN ?_))))
 refine aA (am p a rfl (aA (am q a rfl (ni j (a.bL (Jp z.a4 z.c4 s.mZ) (Jp y.a4 y.c4 s.mZ)) fun h a=>dN ?_))))
 exact aA (am p a rfl (aA (am q a rfl (nc k (a.bL (lnL z.a5 z.c5 s.mem) (lnL y.a5 y.c5 s.mem)) fun h a=>l _ a.to))))
theorem U8 (hC:Cf.Ok) (d:Zm Cf M):dj (pB Cf M):=by
 have t:=hC.1;have u:=hC.2.1;have o:=bQ.eP hC;have a:Cf.bC.toNat<=8/\Cf.ways.toNat<=4:=by have:=hC;unfold bQ.Ok at this;omega
 have l:∀i:Nat,i<Cf.aD.toNat->(rQ Cf.bC.toNat (M.cC i).S).length<=32:=fun i v=>by
  rw[I8];have f:=wN (d.I2 i (by omega)).bC Cf.bC.toNat;have g:=Nat.mul_le_mul a.1 a.2;omega
 have f:=Fl (n:=Cf.bC.toNat) (X:=M.cC) (b:=32) l;have g:=Gs (X:=M.bT) (b:=100) (k:=Cf.aD.toNat) fun j w=>d.uO j (by omega);have p:=Iz d.iZ (4*Cf.aD.toNat);have q:=d.wF;have r:((List.range Cf.lines).map fun i=>(M.home i).2).length=Cf.lines:=by simp
 unfold dj pB;dsimp only;omega
end
section
theorem aE8 {a:Bool} {k:Value->Prop} (b:k (.bool true)):bA (Pe .eql (.bool a) (.bool a)) k:=⟨_,by cases a<;>rfl,b⟩
theorem aEw {a:Bool} {k:Value->Prop} (b:k (.bool false)):bA (Pe .neq (.bool a) (.bool a)) k:=⟨_,by cases a<;>rfl,b⟩
set_option maxRecDepth 100000
attribute [local irreducible] bA Br ld1 rT sH A2 lH tD kC Nk fZ lT oX oU nW kS xH sY Ts Pe No M5 Qt Ns Ei Gm Sb jV nR qR iK copyV gZ vD Tg Tm E6 jX Kb Pq Tl mL pD uW vP Cl xS Tb qW qT jA eX cS bZ
variable {G:Bg} {h:AH} {L L':List HP} {Q:Value->AH->Prop} {Cf:bQ} {m m2 N:Nat} {M:cX}
theorem Ws {k:Nat} (hC:Cf.Ok) (f:(k:Int)<Cf.aD) (a:Hs G h L) [g:Has (bB G Cf m) L M L'] (d:∀b,Hs G b (bB G Cf m M::L')->Q (.tuple ⟨[.agg ⟨(M.aR k).core⟩,I 0]⟩) b):Cl Pr K 13 [pt m 0 0,I k] h Q:=by
 refine w8 hC a fun h a=>?_;unfold cX.core;rw[aae,Int.toNat_natCast];exact d h a
theorem Mt (hC:Cf.Ok) (hG:Gb G) (g:eN Cf N M) (x:N<2000) (d:Hs G h (bB G Cf m M::bB G Cf m2 M::L)) (v:∀p,Hs G p (bB G Cf m M::bB G Cf m2 M::L)->Q (.bool true) p):
  Cl Pr K 23 [pt m 0 0,pt m2 0 0,I Cf.aD] h Q:=by
 have A:=hC.1
 have j:=Zm.of hC g
 have q:=g.log
 have loop:∀(f i:Nat) (h:AH),i+f=Cf.aD.toNat->Hs G h (bB G Cf m M::bB G Cf m2 M::L)->Dd 23 1 [] Q [pt m 0 0,pt m2 0 0,I Cf.aD,I i] h:=by
  intro f;induction f with
  |zero=>
   intro i h u d;refine bW (aI (aaa ?_));refine Wb (Cf:=Cf) (M:=M) (m:=m) hC hG g.iZ.len (g.home.h (by omega)) d fun h d=>?_;refine Wb (Cf:=Cf) (M:=M) (m:=m2) hC hG g.iZ.len (g.home.h (by omega)) d fun h d=>aE8 (dN ?_);refine Jj (Cf:=Cf) (M:=M) (m:=m) (by omega) d fun a c h d=>?_;refine Jj (Cf:=Cf) (M:=M) (m:=m2) (by omega) d fun t c2 h d=>?_;have d:=d.bL (Bo a c M.log) (Bo t c2 M.log);refine Yy (by omega) d fun h d=>dN ?_;refine Sp (M:=M) (m:=m) hC hG.lim j d fun z h d=>?_;refine Sp (M:=M) (m:=m2) hC hG.lim j d fun y h d=>?_;exact vy (U8 hC j) (d.bL (shR z (pB Cf M)) (shR y (pB Cf M))) fun h d=>v h d.to
  |succ f w=>
   intro i h u d;refine bW (aI (aad (bW ?_)));refine Ws (M:=M) (m:=m) (k:=i) hC (by omega) d fun h d=>aG rfl (aG rfl (bN d fun r h d=>ax (b:=r) d fun h d=>?_));refine Ws (M:=M) (m:=m2) (k:=i) hC (by omega) d fun h d=>aG rfl (aG rfl (bN d fun n h d=>ax (b:=n) d fun h d=>?_));refine an r d (l:=(M.aR i).core) rfl rfl (an n d (l:=(M.aR i).core) rfl rfl (y2 (bP (aX (aH (by simp) ?_)))));refine Me (M:=M) (m:=m) g.dG d fun h d=>?_;refine Me (M:=M) (m:=m2) g.dG d fun h d=>aEw (bP (bW (aac (w (i+1) h (by omega) d.to))))
 exact cW (loop Cf.aD.toNat 0 h (by omega) d)
end
end Go.Proofs.YtmhapehobfnoiaaGreatDoor
section
open Go Go.Ab
attribute [local irreducible] bA Br ld1 rT sH A2 lH tD kC Nk fZ lT oX oU nW kS xH sY Ts Pe No M5 Qt Ns Ei Gm Sb jV nR qR iK copyV gZ vD Tg Tm E6 jX Kb Pq Tl mL pD uW vP Cl xS Tb qW qT jA eX cS bZ
namespace Go.Proofs.YtmhapehobfnoiaaGreatDoor
open Go Go.Ab Go.Hm Go.At Go.Mc Go.Ct Go.Nt Go.Is
section
theorem ur {C:bQ} {M:cX} {d:Do} (e:(M.rL C d).2=0):(M.mG C [d] 0).2=(1,0):=by
 unfold cX.mG;rw[aab];rfl
theorem o7 {C:bQ} {M:cX} {d:Do} (e:(M.rL C d).2≠0):(M.mG C [d] 0).2=(0,(M.rL C d).2):=by
 unfold cX.mG;rw[aLy e]
set_option maxRecDepth 100000
variable {G:Bg} {h:AH} {L L':List HP} {Q:Value->AH->Prop} {Cf:bQ} {m m2 N:Nat} {M:cX}
theorem J4 {p2:Nat} {pv wv ov vv:Value} (hC:Cf.Ok) (hG:Gb G) (i:eN Cf N M) (j:N<2000) (a:Hs G h (bB G Cf m M::bB G Cf m2 M::aE p2 0 (uC Cf pv wv ov vv)::L)) (k:∀f,Q (.bool true) f):
  bA (fZ 0 (pt p2 0 0)) fun v4=>bA (fZ 0 v4) fun v5=>bA (ld1 h v5) fun v6=>Cl Pr K 23 [pt m 0 0,pt m2 0 0,v6] h fun l d=>Br l (Cl Pr K 10 [] d fun n g=>Q n g) (Q (.bool false) d):=
 aA (aA (am p2 a (v:=I Cf.aD) rfl (Mt hC hG i j a fun _ _=>dN (kE (k _)))))
theorem aC1 {p2:Nat} {pv wv ov vv lv:Value} {l:List Do} (hC:Cf.Ok) (hG:Gb G) (w:l.length<=100) (k:Eo G lv l) (q:∀r,Q (.bool true) r):
  ∀(f i:Nat) (M:cX) (h:AH),i+f=l.length->eN Cf (2*i) M->Hs G h (bB G Cf m (M.mG Cf (l.drop i) i).1::bB G Cf m2 M::aE p2 0 (uC Cf pv wv ov vv)::L)->
   Dd 4 3 [] Q [lv,pt p2 0 0,pt m 0 0,pt m2 0 0,I (M.mG Cf (l.drop i) i).2.1,I (M.mG Cf (l.drop i) i).2.2,I i,I 0,I i] h:=by
 intro f
 induction f with
 |zero=>
  intro i M h t j b
  rw[List.drop_of_length_le (by omega)] at b ⊢
  refine bW (F1 k (aI (aaa (bG (bJ rfl (bG (bJ rfl ?_)))))))
  exact J4 (M:=M) hC hG j (by omega) b q
 |succ f v=>
  intro i M h t j b
  obtain⟨d,u,p⟩:=gU (l:=l) (i:=i) (by omega)
  rw[p] at b ⊢
  have b:=Ar k b
  refine bW (F1 k (aI (aad (bG (bJ rfl (bW (au b (by decide) (Fm u) (aJ (c:=d.enc) rfl (dC (W:=4) (n:=1) (c:=1) b.tail rfl rfl rfl fun a h b=>?_)))))))))
  have b:=b.bL (dI 4 62 (some a) 1 (1,d.enc)) (bB G Cf m2 M)
  refine Jx (M:=M) (m:=m2) hC hG j (by omega) b fun h b=>?_
  have g:=Pz j hC (d:=d)
  by_cases e:(M.rL Cf d).2=0
  .have o:=ur e;rw[o];unfold cX.mG at b ⊢;rw[aab] at b ⊢;exact aG rfl (aG rfl (aac (aac (v (i+1) _ h (by omega) g b.to))))
  .have o:=o7 e;rw[o];unfold cX.mG at b ⊢;rw[aLy e] at b ⊢;dsimp only at b ⊢;have b:=b.bL (bB G Cf m (M.rL Cf d).1) (bB G Cf m2 (M.rL Cf d).1);refine aG rfl (aG rfl (aac (aac ?_)));refine bW (F1 k (aI (aT (fun c=>?_) (fun c=>?_))))
   .refine bG (aH (by simpa using e) (bG (bJ (by simp) (bG (bJ (by simp) ?_)))));exact J4 (M:=(M.rL Cf d).1) hC hG g (by omega) b q
   .refine bG (bJ (by simp) (bG (bJ (by simp) ?_)));exact J4 (M:=(M.rL Cf d).1) hC hG g (by omega) b q
theorem Mz {pv wv ov vv lv:Value} {ps:List (List Ins)} {ws os vs:List Int} {l:List Do} (p:ps.length<=9223372036854775807) (hG:Gb G) (k:Ob G 1 tW) (d:A.Y8 G pv wv ov vv ps ws os vs) (j:Eo G lv l) (a:Hs G h L)
  (i:∀n,Q (.bool true) n):Cl Pr K 4 [.agg ⟨uC Cf pv wv ov vv⟩,lv] h Q:=by
 refine cW (dL (cs:=uC Cf pv wv ov vv) a fun p2 h a=>an p2 a (l:=uC Cf pv wv ov vv) rfl rfl ?_)
 refine Z5 p d a (fun r h a=>bY (dY (dN ?_))) (fun h a=>bY (dY (bP (kE (i _)))))
 refine F1 j (iM (aT (fun _=>kE (i _)) (fun q=>bW (an p2 a (l:=uC Cf pv wv ov vv) rfl rfl ?_))))
 refine vT (Cf:=Cf) (by omega) hG k d a (fun g h a=>?_) fun g m h a=>?_
 .refine aG rfl (aG rfl (an p2 a (l:=uC Cf pv wv ov vv) rfl rfl ?_));refine vT (Cf:=Cf) (by omega) hG k d a (fun _ h a=>?_) fun f m h a=>(g f).elim;exact aG rfl (aG rfl (aX (bJ g (bG (bJ rfl (vN (dN (vN (dN (kE (i _)))))))))))
 refine aG rfl (aG rfl (an p2 a (l:=uC Cf pv wv ov vv) rfl rfl ?_))
 refine vT (Cf:=Cf) (by omega) hG k d a (fun f h a=>(f g).elim) fun _ m2 h a=>?_
 refine aG rfl (aG rfl (aX (aaa (aX (aaa (cK (bP (cK (bP (bW ?_))))))))))
 obtain⟨hC,_⟩:=Ff g
 have hA:=R8 g
 have a:Hs G h (bB G Cf m (MC.new ⟨Cf,ps,ws,os,vs⟩)::bB G Cf m2 (MC.new ⟨Cf,ps,ws,os,vs⟩)::aE p2 0 (uC Cf pv wv ov vv)::L):=a.to
 have a:=Ar j a
 refine tn (l:=l) (M:=MC.new ⟨Cf,ps,ws,os,vs⟩) (m:=m) hC hG hA.inv (by omega) a fun h a=>aG rfl (aG rfl ?_)
 have:=aC1 (Q:=Q) (p2:=p2) (m:=m) (m2:=m2) (pv:=pv) (wv:=wv) (ov:=ov) (vv:=vv) (L:=L) hC hG (by omega) j i l.length 0 (MC.new ⟨Cf,ps,ws,os,vs⟩) h (by omega) hA.inv
 rw[List.drop_zero] at this
 exact this a.tail.to
end
end Go.Proofs.YtmhapehobfnoiaaGreatDoor
end
namespace Go.Mc
open Go Go.Ab Go.Hm Go.At Go.Is Go.Ct Go.Nt
section
variable {C:bQ} {M:cX} {c:kY}
def qz (c:kY):Prop:=(c.known.map (·.1)).Nodup/\(c.pC=true->c.cN∉c.known.map (·.1))
theorem U4 {l:List (Int×Int)} {g:Int} (h:(lS l g).isSome=false):g∉l.map (·.1):=by
 unfold lS at h;simp only[Option.isSome_map] at h;intro a;obtain⟨x,b,e⟩:=List.mem_map.1 a;have:(l.find? fun x=>decide (x.1=g)).isSome=true:=by
  rw[List.find?_isSome];exact⟨x,b,by simpa using e⟩
 rw[this] at h;cases h
theorem np {g:Int} (h:qz c):qz (c.begin C g).1:=by
 unfold kY.begin;split;exact h;split;exact h;rename_i b;split;exact h;exact⟨h.1,fun _=>U4 (l:=c.known) (g:=g) (by cases a:(lS c.known g).isSome with|true=>exact absurd a b|false=>rfl)⟩
theorem w9 {l:List (Int×Int)} (h:(l.map (·.1)).Nodup):((l.drop 1).map (·.1)).Nodup:=((List.drop_sublist 1 l).map _).nodup h
theorem pb {o:Int} (h:qz c) (i:c.pC=true):qz (c.Hl C (c.cN,o)).done:=by
 refine⟨?_,fun e=>by cases e⟩;show((((if(c.known.length:Int)>=C.entries then c.known.drop 1 else c.known)++[(c.cN,o)]).map (·.1))).Nodup;rw[List.map_append,List.nodup_append];have g:=h.2 i;split;refine⟨w9 h.1,by simp,fun a f b d e=>g ?_⟩;simp only[List.map_cons,List.map_nil,List.mem_singleton] at d;subst d;subst e;exact((List.drop_sublist 1 c.known).map _).mem f;refine⟨h.1,by simp,fun a f b d e=>g ?_⟩;simp only[List.map_cons,List.map_nil,List.mem_singleton] at d;subst d;subst e;exact f
theorem Zk {a w:Int} (h:qz c):qz (c.walked C a w).1:=by
 unfold kY.walked;split;exact h;rename_i b;split;exact h;split;exact⟨h.1,h.2⟩;dsimp only;split;exact h;split;exact⟨h.1,h.2⟩;split;exact⟨h.1,h.2⟩;exact pb h (by simpa using b)
theorem wz {g:Int} (h:qz c):qz (c.drop C g).1:=by
 unfold kY.drop;split;exact h;have a:=(List.filter_sublist (p:=fun x:Int×Int=> !decide (g= -1\/x.1=g)) (l:=c.known)).map (·.1);exact⟨a.nodup h.1,fun e b=>h.2 e (a.mem b)⟩
def E8 (C:bQ) (M:cX):Prop:=∀i:Nat,(i:Int)<C.aD->qz (M.bT i)
theorem E8.of {M':cX} (h:E8 C M) (e:M'.bT=M.bT):E8 C M':=fun i a=>by rw[e];exact h i a
theorem E8.rR {M':cX} {i:Nat} {k:kY} (h:E8 C M) (e:M'.bT=cB M.bT i k) (d:(i:Int)<C.aD->qz k):E8 C M':=fun j b=>by
 rw[e];by_cases a:j=i;subst a;rw[gP];exact d b;rw[xA a];exact h j b
theorem zQ {i:Nat} {v c:Int}:(M.cH i v c).1.bT=M.bT:=by
 unfold cX.cH;dsimp only;split<;>rfl
theorem E8.cH {i:Nat} {v c:Int} (h:E8 C M):E8 C (M.cH i v c).1:=h.of zQ
theorem E8.access {i:Nat} {a:Acc} (h:E8 C M) (b:(i:Int)<C.aD):E8 C (M.access C i a).1:=by
 unfold cX.access;split;exact h.cH;dsimp only;split;exact h;split;unfold cX.walk;dsimp only;split;exact h;split;exact h;exact h.rR rfl fun _=>np (h i b);split;exact h.cH;split;unfold cX.want;dsimp only;split;exact h;split;exact h;exact h.of rfl;unfold cX.Ni;exact(h.of (M':=M.tA i _) rfl).cH
theorem E8.step {a:Int} (h:E8 C M):E8 C (M.step C a).1:=by
 unfold cX.step;split;exact h;rename_i b;dsimp only;split;exact h;split;exact h;split;exact h.of rfl;split;unfold cX.call;dsimp only;split;exact h.cH;split;exact h;exact h.of rfl;split;exact h.access (by omega);exact h
theorem E8.fT {n:aQ} (h:E8 C M):E8 C (M.fT C n).1:=by
 unfold cX.fT;split;exact h.of rfl;split;exact h.of rfl;split;exact h;split;exact h.rR rfl fun a=>Zk (h _ a);split;exact h.rR rfl fun a=>wz (h _ a);split;dsimp only;split;exact h.of rfl;exact h.of rfl;exact h
theorem E8.rL {d:Do} (h:E8 C M):E8 C (M.rL C d).1:=by
 unfold cX.rL;split;exact h.step;split;unfold cX.tL;dsimp only;split;exact h;split;exact h;split;exact h;exact(h.fT (n:=(M.iZ.take C d.a d.b d.c).2.1)).of rfl;split;unfold cX.begin;dsimp only;split;exact h;split;exact h;exact h.of rfl;split;unfold cX.finish;split;exact h;split;exact h;dsimp only;split;exact h;split;exact E8.of h (zQ.trans rfl);exact E8.of h (zQ.trans rfl);exact h
theorem E8.new {ps:List (List Ins)} {ws os vs:List Int}:E8 C (MC.new ⟨C,ps,ws,os,vs⟩):=fun _ _=>⟨List.nodup_nil,fun e=>by cases e⟩
def Wp (n:Int) (x y:Nat×Th):Bool:=decide (y.1=x.1/\y.2.1 % n=x.2.1 % n)
theorem Oc {α:Type} {p:Nat×α->Bool} {i:Nat} {l:List α}:(tag i l).countP p=l.countP fun t=>p (i,t):=by
 unfold tag;rw[List.countP_map];rfl
theorem count_set {n ways:Nat} {S:Nat->List Th} {l:Int} (f:∀i,mK ways (S i)) (g:Pl n S) (q:0<=l):∀k,((List.range k).flatMap S).countP (fun t=>decide (t.1 % n=l % n))<=if setOf n l<k then ways else 0
 |0=>by simp
 |k+1=>by
  rw[List.range_succ,List.flatMap_append,List.countP_append];have a:=count_set f g q k;simp only[List.flatMap_cons,List.flatMap_nil,List.append_nil];by_cases e:setOf n l=k;have u:((List.range k).flatMap S).countP (fun t=>decide (t.1 % n=l % n))<=0:=by rw[aab] at a;exact a
  have d:=(S k).countP_le_length (p:=fun t=>decide (t.1 % n=l % n));have v:=(f k).len;rw[aae];omega;have d:(S k).countP (fun t=>decide (t.1 % n=l % n))=0:=by
   rw[List.countP_eq_zero];intro t r o;have b:=(g k t r).2;have j:=of_decide_eq_true o;unfold setOf at b e;rw[j] at b;exact e b
  rw[d];split at a;rw[aae];exact a;omega
theorem Of {n ways:Nat} {X:Nat->jJ} {x:Nat×Th} (f:0<=x.2.1):∀{k},(∀i,i<k->Go.Ct.Good n ways (X i))->(jY n X k).countP (Wp n x)<=if x.1<k then ways else 0
 |0,_=>by simp[jY]
 |k+1,h=>by
  rw[vU,List.countP_append,Oc];have a:=Of f (k:=k) fun i l=>h i (by omega);by_cases e:x.1=k;have j:(jY n X k).countP (Wp n x)<=0:=by rw[aab] at a;exact a
  have b:=count_set (h k (by omega)).bC (h k (by omega)).pl f n;have g:(rQ n (X k).S).countP (fun t=>Wp n x (k,t))=((List.range n).flatMap (X k).S).countP (fun t=>decide (t.1 % n=x.2.1 % n)):=by
   unfold rQ;rw[(iE _).countP_eq];congr 1;funext t;unfold Wp;simp[e]
  rw[g,aae];split at b<;>omega;have b:(rQ n (X k).S).countP (fun t=>Wp n x (k,t))=0:=by
   rw[List.countP_eq_zero];intro t _ d;unfold Wp at d;have:=of_decide_eq_true d;exact e this.1.symm
  rw[b];split at a;rw[aae];exact a;omega
theorem I0 {n:Nat} {X:Nat->jJ} {k:Nat} {x:Nat×Th}:x∈jY n X k↔x.1<k/\∃i,i<n/\x.2∈(X x.1).S i:=by
 unfold jY tag;simp only[List.mem_flatMap,List.mem_range,List.mem_map,yn];constructor;rintro ⟨i,d,t,f,rfl⟩;exact⟨d,f⟩;rintro ⟨a,b⟩;exact⟨x.1,a,x.2,b,rfl⟩
theorem Pc {n ways:Nat} {X:Nat->jJ}:∀{k},(∀i,i<k->Go.Ct.Good n ways (X i))->((jY n X k).map fun y=>(y.1,y.2.1)).Nodup
 |0,_=>by simp[jY]
 |k+1,h=>by
  rw[vU,List.map_append,List.nodup_append];refine⟨Pc fun i r=>h i (by omega),?_,fun a l b o e=>?_⟩;unfold tag;rw[List.map_map];have f:=Gy (h k (by omega)).bC (h k (by omega)).pl n;have g:((rQ n (X k).S).map (·.1)).Nodup:=((iE _).map (·.1)).nodup_iff.2 f;have j:((rQ n (X k).S).map ((fun y:Nat×Th=>(y.1,y.2.1))∘fun t=>(k,t)))=((rQ n (X k).S).map (·.1)).map fun z=>(k,z):=by rw[List.map_map];rfl
  rw[j];exact List.pairwise_map.2 (g.imp fun d e=>d (Prod.mk.inj e).2);obtain⟨x,p,rfl⟩:=List.mem_map.1 l;obtain⟨y,q,rfl⟩:=List.mem_map.1 o;obtain⟨t,_,rfl⟩:=List.mem_map.1 q;have:=(I0.1 p).1;have:=(Prod.mk.inj e).1;omega
def dh (x y:Nat×(Int×Int)):Bool:=decide (y.1=x.1)
theorem dw {X:Nat->kY} {k:Nat} {x:Nat×(Int×Int)}:x∈kT X k↔x.1<k/\x.2∈(X x.1).known:=by
 unfold kT tag;simp only[List.mem_flatMap,List.mem_range,List.mem_map];constructor;rintro ⟨i,d,t,f,rfl⟩;exact⟨d,f⟩;rintro ⟨a,b⟩;exact⟨x.1,a,x.2,b,rfl⟩
theorem P2 {X:Nat->kY} {x:Nat×(Int×Int)}:∀{k},(kT X k).countP (dh x)=if x.1<k then(X x.1).known.length else 0
 |0=>by simp[kT]
 |k+1=>by
  rw[wJ,List.countP_append,Oc,P2];by_cases e:x.1=k;have a:(X k).known.countP (fun t=>dh x (k,t))=(X k).known.length:=by
   rw[List.countP_eq_length];intro t _;unfold dh;simp[e]
  rw[a,aab,aae,e];omega;have a:(X k).known.countP (fun t=>dh x (k,t))=0:=by
   rw[List.countP_eq_zero];intro t _ b;exact e (of_decide_eq_true b).symm
  rw[a];split;rw[aae];omega;rw[aab]
theorem Pn {X:Nat->kY}:∀{k},(∀i,i<k->qz (X i))->((kT X k).map fun y=>(y.1,y.2.1)).Nodup
 |0,_=>by simp[kT]
 |k+1,h=>by
  rw[wJ,List.map_append,List.nodup_append];refine⟨Pn fun i p=>h i (by omega),?_,fun a j b l e=>?_⟩;unfold tag;rw[List.map_map];have f:=(h k (by omega)).1;have g:((X k).known.map ((fun y:Nat×(Int×Int)=>(y.1,y.2.1))∘fun t=>(k,t)))=((X k).known.map (·.1)).map fun z=>(k,z):=by rw[List.map_map];rfl
  rw[g];exact List.pairwise_map.2 (f.imp fun d e=>d (Prod.mk.inj e).2);obtain⟨x,n,rfl⟩:=List.mem_map.1 j;obtain⟨y,o,rfl⟩:=List.mem_map.1 l;obtain⟨t,_,rfl⟩:=List.mem_map.1 o;have:=(dw.1 n).1;have:=(Prod.mk.inj e).1;omega
theorem zB {α β:Type} {f:α->β} {l:List α} {i j:Nat} {x y:α} (h:(l.map f).Nodup) (k:l[i]?=some x) (n:l[j]?=some y) (e:f x=f y):i=j:=by
 have h:=List.pairwise_iff_getElem.1 h;obtain⟨d,rfl⟩:=List.getElem?_eq_some_iff.1 k;obtain⟨g,rfl⟩:=List.getElem?_eq_some_iff.1 n;rcases Nat.lt_trichotomy i j with b|heq|a;exact absurd (by rw[List.getElem_map,List.getElem_map];exact e) (h i j (by simpa using d) (by simpa using g) b);exact heq;exact absurd (by rw[List.getElem_map,List.getElem_map];exact e.symm) (h j i (by simpa using g) (by simpa using d) a)
end
end Go.Mc
section
open Go Go.Ab
attribute [local irreducible] bA Br ld1 rT sH A2 lH tD kC Nk fZ lT oX oU nW kS xH sY Ts Pe No M5 Qt Ns Ei Gm Sb jV nR qR iK copyV gZ vD Tg Tm E6 jX Kb Pq Tl mL pD uW vP Cl xS Tb qW qT jA eX cS bZ
namespace Go.Proofs.YtmhapehobfnoiaaGreatDoor
open Go Go.Ab Go.Hm Go.At Go.Mc Go.Ct Go.Nt Go.Is
section
structure Wi (C:bQ) (s:Sh):Prop where
 ln:∀y∈s.vI,0<=y.2.1
 cnt:∀y∈s.vI,(s.vI.countP (Wp C.bC y):Int)<=C.ways
 nd:(s.vI.map fun y=>(y.1,y.2.1)).Nodup
 st:∀y∈s.vI,y.2.2.st≠0
 kc:∀y∈s.xQ,(s.xQ.countP (dh y):Int)<=C.entries
 kd:(s.xQ.map fun y=>(y.1,y.2.1)).Nodup
 mZ:(s.mZ.length:Int)<=4*C.aD*C.depth
 mem:(s.mem.length:Int)=2*C.bM
 wF:(s.dD.length:Int)=C.bM
 len:dj s
theorem I4 {α:Type} {p:α->Bool} {l:List α} {i:Nat} {x:α} (a:l[i]?=some x):(l.take (i+1)).countP p=(l.take i).countP p+if p x then 1 else 0:=by
 rw[List.take_add_one,a,List.countP_append];simp[List.countP_cons]
theorem Lf {α:Type} {p:α->Bool} {l:List α} {i:Nat}:(l.take i).countP p<=l.length:=
 Nat.le_trans List.countP_le_length (by rw[List.length_take];omega)
theorem q8 {C:bQ} {N:Nat} {M:cX} (hC:C.Ok) (a:eN C N M) (q:E8 C M):Wi C (pB C M) where
 ln:=fun y d=>by
  obtain⟨f,i,_,b⟩:=I0.1 d;exact((a.I2 y.1 (by omega)).pl i y.2 b).1
 cnt:=fun y d=>by
  obtain⟨f,i,_,b⟩:=I0.1 d;have o:=((a.I2 y.1 (by omega)).pl i y.2 b).1;have:=Of (n:=C.bC.toNat) (ways:=C.ways.toNat) (X:=M.cC) (x:=y) o (k:=C.aD.toNat) fun i g=>a.I2 i (by omega);rw[aLy f] at this;have r:((C.bC.toNat:Nat):Int)=C.bC:=by have:=hC;unfold bQ.Ok at this;omega
  rw[r] at this;have v:((C.ways.toNat:Nat):Int)=C.ways:=by have:=hC;unfold bQ.Ok at this;omega
  show((jY C.bC.toNat M.cC C.aD.toNat).countP (Wp C.bC y):Int)<=C.ways;omega
 nd:=Pc (ways:=C.ways.toNat) fun i g=>a.I2 i (by omega)
 st:=fun y d=>by
  obtain⟨f,i,_,b⟩:=I0.1 d;have:=((a.I2 y.1 (by omega)).bC i).st y.2 b;omega
 kc:=fun y d=>by
  have f:=(dw.1 d).1;have:=(a.uO y.1 (by omega)).1;have b:=P2 (X:=M.bT) (x:=y) (k:=C.aD.toNat);rw[aLy f] at b;show((kT M.bT C.aD.toNat).countP (dh y):Int)<=C.entries;omega
 kd:=Pn fun i g=>q i (by omega)
 mZ:=by
  have u:=hC.1;have j:∀n,(Ck M.iZ n).length<=n*C.depth.toNat:=by
   intro n;induction n with
   |zero=>simp[Ck]
   |succ n w=>
    rw[Kd,List.length_append,Nat.succ_mul];have:(cU M.iZ n).length<=C.depth:=a.iZ.len _ _;omega
  have f:=j (4*C.aD.toNat);have t:1<=C.depth:=by have:=hC;unfold bQ.Ok at this;omega
  have b:((4*C.aD.toNat*C.depth.toNat:Nat):Int)=4*C.aD*C.depth:=by
   rw[Int.natCast_mul,Int.natCast_mul,Int.toNat_of_nonneg (by omega),Int.toNat_of_nonneg (by omega)];rfl
  show((Ck M.iZ (4*C.aD.toNat)).length:Int)<=_;omega
 mem:=by
  have l:=hC.2.1;have p:=bQ.eP hC;show(((List.range C.lines).map fun i=>(M.home i).2).length:Int)=_;rw[List.length_map,List.length_range];omega
 wF:=by
  have l:=hC.2.1;have:=a.dG.len;show(M.dG.dD.length:Int)=_;omega
 len:=U8 hC (Zm.of hC a)
set_option maxRecDepth 100000
variable {G:Bg} {h:AH} {L L':List HP} {Q:Value->AH->Prop} {Cf:bQ} {m N:Nat} {M:cX} {s:Sh} {z:Sz}
theorem zI {i j:Nat} {x:Nat×Th} {u:Value} {k:Value->Prop} (d:Hs G h L) [n:Has (A9 z.a1 z.c1) L s.vI L'] (g:s.vI[i]?=some x) (f:(Tt x)[j]?=some u) (b:k u):bA (jV 6 (.slice z.a1 s.vI.length z.c1) (I i)) fun p=>bA (fZ j p) fun q=>bA (ld1 h q) k:=
 W5 (l:=s.vI) (a:=z.a1) (c:=z.c1) (enc:=Tt) (e:=70) (show Hs G h (A9 z.a1 z.c1 s.vI::L') from n.of d) (by omega) (by rw[Int.toNat_natCast];exact g) f b
theorem Nu {i j:Nat} {x:Nat×(Int×Int)} {u:Value} {k:Value->Prop} (d:Hs G h L) [n:Has (Bb z.a2 z.c2) L s.xQ L'] (g:s.xQ[i]?=some x) (f:(Tp x)[j]?=some u) (b:k u):bA (jV 3 (.slice z.a2 s.xQ.length z.c2) (I i)) fun p=>bA (fZ j p) fun q=>bA (ld1 h q) k:=
 W5 (l:=s.xQ) (a:=z.a2) (c:=z.c2) (enc:=Tp) (e:=72) (show Hs G h (Bb z.a2 z.c2 s.xQ::L') from n.of d) (by omega) (by rw[Int.toNat_natCast];exact g) f b
variable {p2 p8:Nat} {pv wv ov vv lv t5 t7:Value}
theorem aG1 {k:Nat} {y:Nat×Th} (hC:Cf.Ok) (q:Wi Cf s) (n:s.vI[k]?=some y) (E:∀A,Hs G A (A9 z.a1 z.c1 s.vI::Bb z.a2 z.c2 s.xQ::aE p8 0 (Yz z s)::aE p2 0 (uC Cf pv wv ov vv)::L)->Dd 6 11 [] Q [lv,pt p2 0 0,t5,t7,pt p8 0 0,I k,I (s.vI.countP (Wp Cf.bC y))] A):
  ∀(f x:Nat) (h:AH),x+f=s.vI.length->Hs G h (A9 z.a1 z.c1 s.vI::Bb z.a2 z.c2 s.xQ::aE p8 0 (Yz z s)::aE p2 0 (uC Cf pv wv ov vv)::L)->Dd 6 8 [] Q [lv,pt p2 0 0,t5,t7,pt p8 0 0,I k,I ((s.vI.take x).countP (Wp Cf.bC y)),I x] h:=by
 have J:1<=Cf.bC:=by have:=hC;unfold bQ.Ok at this;omega
 have B:=q.len.1
 have H:=(List.getElem?_eq_some_iff.1 n).1
 intro f
 induction f with
 |zero=>
  intro x h t a
  obtain rfl:x=s.vI.length:=by omega
  rw[List.take_length]
  exact bW (aA (am p8 a rfl (bH (aI (aaa (E h a))))))
 |succ f d=>
  intro x h t a
  obtain⟨w,g,_⟩:=gU (l:=s.vI) (i:=x) (by omega)
  have D:=Lf (p:=Wp Cf.bC y) (l:=s.vI) (i:=x)
  have r:=I4 (p:=Wp Cf.bC y) g
  have d:=fun h a=>d (x+1) h (by omega) a
  rw[r] at d
  have lw:=q.ln w (List.mem_of_getElem? g)
  have O:=q.ln y (List.mem_of_getElem? n)
  refine bW (aA (am p8 a rfl (bH (aI (aad (bW (aS a fun R h a=>aA (am p8 a rfl (zI a g (j:=0) rfl (aA (am p8 a rfl (zI a n (j:=0) rfl (bG (aT (fun u=>?_) (fun u=>?_)))))))))))))))
  .refine aA (am p8 a rfl (zI a g (j:=1) rfl (aA (aA (am p2 a (v:=I Cf.bC) rfl (Mk lw (by omega) ?_))))));refine aA (am p8 a rfl (zI a n (j:=1) rfl (aA (aA (am p2 a (v:=I Cf.bC) rfl (Mk O (by omega) (bG (aT (fun c2=>bW ?_) (fun c2=>bW ?_)))))))))
   .have e:Wp Cf.bC y w=true:=decide_eq_true ⟨by omega,c2⟩;rw[aLy e] at d;refine aac ?_;rw[show((List.countP (Wp Cf.bC y) (List.take x s.vI):Nat):Int)+1=((List.countP (Wp Cf.bC y) (List.take x s.vI)+1:Nat):Int) by omega];refine aS a fun rt h a=>aX (aT (fun c3=>?_) (fun c3=>?_))
    .refine aA (am p8 a rfl (zI a g (j:=0) rfl (aA (am p8 a rfl (zI a n (j:=0) rfl (bG (aT (fun c4=>?_) (fun c4=>?_))))))))
     .refine aA (am p8 a rfl (zI a g (j:=1) rfl (aA (am p8 a rfl (zI a n (j:=1) rfl (bG (aT (fun c5=>?_) (fun c5=>?_))))))))
      .exact absurd (zB q.nd g n (Prod.ext (show w.1=y.1 by omega) c5)) (by omega)
      .exact bW (aac (d h a.to))
     .exact aac (d h a.to)
    .exact aac (d h a.to)
   .have e:¬Wp Cf.bC y w=true:=fun e=>c2 (of_decide_eq_true e).2;rw[aLx e,Nat.add_zero] at d;refine aS a fun rt h a=>aX (aT (fun c3=>?_) (fun c3=>?_))
    .refine aA (am p8 a rfl (zI a g (j:=0) rfl (aA (am p8 a rfl (zI a n (j:=0) rfl (bG (aT (fun c4=>?_) (fun c4=>?_))))))))
     .refine aA (am p8 a rfl (zI a g (j:=1) rfl (aA (am p8 a rfl (zI a n (j:=1) rfl (bG (aT (fun c5=>?_) (fun c5=>?_))))))))
      .exact absurd (zB q.nd g n (Prod.ext (show w.1=y.1 by omega) c5)) (by omega)
      .exact bW (aac (d h a.to))
     .exact aac (d h a.to)
    .exact aac (d h a.to)
  .have e:¬Wp Cf.bC y w=true:=fun e=>u (by have:=(of_decide_eq_true e).1;omega);rw[aLx e,Nat.add_zero] at d;refine aS a fun rt h a=>aX (aT (fun c3=>?_) (fun c3=>?_))
   .refine aA (am p8 a rfl (zI a g (j:=0) rfl (aA (am p8 a rfl (zI a n (j:=0) rfl (bG (aT (fun c4=>?_) (fun c4=>?_))))))))
    .refine aA (am p8 a rfl (zI a g (j:=1) rfl (aA (am p8 a rfl (zI a n (j:=1) rfl (bG (aT (fun c5=>?_) (fun c5=>?_))))))))
     .exact absurd (zB q.nd g n (Prod.ext (show w.1=y.1 by omega) c5)) (by omega)
     .exact bW (aac (d h a.to))
    .exact aac (d h a.to)
   .exact aac (d h a.to)
theorem aG9 {k:Nat} {y:Nat×(Int×Int)} (q:Wi Cf s) (n:s.xQ[k]?=some y) (D:∀v,Hs G v (A9 z.a1 z.c1 s.vI::Bb z.a2 z.c2 s.xQ::aE p8 0 (Yz z s)::aE p2 0 (uC Cf pv wv ov vv)::L)->Dd 6 21 [] Q [lv,pt p2 0 0,t5,t7,pt p8 0 0,I k,I (s.xQ.countP (dh y))] v):
  ∀(f x:Nat) (h:AH),x+f=s.xQ.length->Hs G h (A9 z.a1 z.c1 s.vI::Bb z.a2 z.c2 s.xQ::aE p8 0 (Yz z s)::aE p2 0 (uC Cf pv wv ov vv)::L)->Dd 6 18 [] Q [lv,pt p2 0 0,t5,t7,pt p8 0 0,I k,I ((s.xQ.take x).countP (dh y)),I x] h:=by
 have A:=q.len.2.1
 have E:=(List.getElem?_eq_some_iff.1 n).1
 intro f
 induction f with
 |zero=>
  intro x h t a
  obtain rfl:x=s.xQ.length:=by omega
  rw[List.take_length]
  exact bW (aA (am p8 a rfl (bH (aI (aaa (D h a))))))
 |succ f d=>
  intro x h t a
  obtain⟨w,g,_⟩:=gU (l:=s.xQ) (i:=x) (by omega)
  have B:=Lf (p:=dh y) (l:=s.xQ) (i:=x)
  have r:=I4 (p:=dh y) g
  have d:=fun h a=>d (x+1) h (by omega) a
  rw[r] at d
  refine bW (aA (am p8 a rfl (bH (aI (aad (bW (aS a fun H h a=>aA (am p8 a rfl (Nu a g (j:=0) rfl (aA (am p8 a rfl (Nu a n (j:=0) rfl (bG (aT (fun u=>bW ?_) (fun u=>bW ?_)))))))))))))))
  .have e:dh y w=true:=decide_eq_true (by omega);rw[aLy e] at d;refine aac ?_;rw[show((List.countP (dh y) (List.take x s.xQ):Nat):Int)+1=((List.countP (dh y) (List.take x s.xQ)+1:Nat):Int) by omega];refine aS a fun rt h a=>aX (aT (fun c3=>?_) (fun c3=>?_))
   .refine aA (am p8 a rfl (Nu a g (j:=0) rfl (aA (am p8 a rfl (Nu a n (j:=0) rfl (bG (aT (fun c4=>?_) (fun c4=>?_))))))))
    .refine aA (am p8 a rfl (Nu a g (j:=1) rfl (aA (am p8 a rfl (Nu a n (j:=1) rfl (bG (aT (fun c5=>?_) (fun c5=>?_))))))))
     .exact absurd (zB q.kd g n (Prod.ext (show w.1=y.1 by omega) c5)) (by omega)
     .exact bW (aac (d h a.to))
    .exact aac (d h a.to)
   .exact aac (d h a.to)
  .have e:¬dh y w=true:=fun e=>u (by have:=of_decide_eq_true e;omega);rw[aLx e,Nat.add_zero] at d;refine aS a fun rt h a=>aX (aT (fun c3=>?_) (fun c3=>?_))
   .refine aA (am p8 a rfl (Nu a g (j:=0) rfl (aA (am p8 a rfl (Nu a n (j:=0) rfl (bG (aT (fun c4=>?_) (fun c4=>?_))))))))
    .refine aA (am p8 a rfl (Nu a g (j:=1) rfl (aA (am p8 a rfl (Nu a n (j:=1) rfl (bG (aT (fun c5=>?_) (fun c5=>?_))))))))
     .exact absurd (zB q.kd g n (Prod.ext (show w.1=y.1 by omega) c5)) (by omega)
     .exact bW (aac (d h a.to))
    .exact aac (d h a.to)
   .exact aac (d h a.to)
theorem zu (hC:Cf.Ok) (d:Wi Cf s) (u:∀q,Hs G q (A9 z.a1 z.c1 s.vI::Bb z.a2 z.c2 s.xQ::aE p8 0 (Yz z s)::aE p2 0 (uC Cf pv wv ov vv)::L)->Dd 6 7 [] Q [lv,pt p2 0 0,t5,t7,pt p8 0 0] q):
  ∀(f k:Nat) (h:AH),k+f=s.vI.length->Hs G h (A9 z.a1 z.c1 s.vI::Bb z.a2 z.c2 s.xQ::aE p8 0 (Yz z s)::aE p2 0 (uC Cf pv wv ov vv)::L)->Dd 6 5 [] Q [lv,pt p2 0 0,t5,t7,pt p8 0 0,I k] h:=by
 have r:=d.len.1
 intro f
 induction f with
 |zero=>
  intro k h n a
  exact bW (aA (am p8 a rfl (bH (aI (aaa (u h a))))))
 |succ f w=>
  intro k h n a
  obtain⟨y,g,_⟩:=gU (l:=s.vI) (i:=k) (by omega)
  have t:=d.cnt y (List.mem_of_getElem? g)
  have p:=d.st y (List.mem_of_getElem? g)
  refine bW (aA (am p8 a rfl (bH (aI (aad (bW ?_))))))
  refine aG1 hC d g (fun h a=>?_) s.vI.length 0 h (by omega) a
  refine bW (aA (aA (am p2 a (v:=I Cf.ways) rfl (iM (aaa ?_)))))
  refine aA (am p8 a rfl (zI a g (j:=2) rfl (bG (aH p (bW (aac (w (k+1) h (by omega) a)))))))
theorem aA4 (d:Wi Cf s) (r:∀j,Hs G j (A9 z.a1 z.c1 s.vI::Bb z.a2 z.c2 s.xQ::aE p8 0 (Yz z s)::aE p2 0 (uC Cf pv wv ov vv)::L)->Dd 6 13 [] Q [lv,pt p2 0 0,t5,t7,pt p8 0 0] j):
  ∀(f k:Nat) (h:AH),k+f=s.xQ.length->Hs G h (A9 z.a1 z.c1 s.vI::Bb z.a2 z.c2 s.xQ::aE p8 0 (Yz z s)::aE p2 0 (uC Cf pv wv ov vv)::L)->Dd 6 9 [] Q [lv,pt p2 0 0,t5,t7,pt p8 0 0,I k] h:=by
 have n:=d.len.2.1
 intro f
 induction f with
 |zero=>
  intro k h g a
  exact bW (aA (am p8 a rfl (bH (aI (aaa (r h a))))))
 |succ f t=>
  intro k h g a
  obtain⟨y,p,_⟩:=gU (l:=s.xQ) (i:=k) (by omega)
  have q:=d.kc y (List.mem_of_getElem? p)
  refine bW (aA (am p8 a rfl (bH (aI (aad (bW ?_))))))
  refine aG9 d p (fun h a=>?_) s.xQ.length 0 h (by omega) a
  exact bW (aA (aA (am p2 a (v:=I Cf.entries) rfl (iM (aaa (bW (aac (t (k+1) h (by omega) a))))))))
theorem aGh {l:List Do} (hC:Cf.Ok) (hG:Gb G) (T:l.length<=200) (r:Eo G lv l) (y:∀w,Q (.bool true) w):
  ∀(f i:Nat) (M:cX) (h:AH),i+f=l.length->eN Cf (2*i) M->E8 Cf M->Hs G h (bB G Cf m M::aE p2 0 (uC Cf pv wv ov vv)::L)->Dd 6 3 [] Q [lv,pt p2 0 0,pt m 0 0,I i] h:=by
 have R:=hC.1
 have S:=hC.2.1
 have t:1<=Cf.depth/\Cf.depth<=16:=by have:=hC;unfold bQ.Ok at this;omega
 intro f
 induction f with
 |zero=>
  intro i M h x q u g
  exact bW (F1 r (aI (aaa (wU (y _)))))
 |succ f E=>
  intro i M h x q u g
  obtain⟨d,D,_⟩:=gU (l:=l) (i:=i) (by omega)
  have g:=Ar r g
  refine bW (F1 r (aI (aad (bW (au g (by decide) (Fm D) (aJ (c:=d.enc) rfl (dC (W:=4) (n:=1) (c:=1) g.tail rfl rfl rfl fun a h g=>?_)))))))
  refine Jx (M:=M) (m:=m) hC hG q (by omega) g fun h g=>?_
  have j:=Pz q hC (d:=d)
  have p:=u.rL (d:=d)
  have k:=q8 hC j p
  refine Sp (M:=(M.rL Cf d).1) (m:=m) hC hG.lim (Zm.of hC j) g fun z h g=>bN g fun p8 h g=>ax (b:=p8) g fun h g=>?_
  have g:=Hs.unpack (A:=shB z (pB Cf (M.rL Cf d).1)) (g.front (shR z (pB Cf (M.rL Cf d).1)))
  have g:Hs G h (A9 z.a1 z.c1 (pB Cf (M.rL Cf d).1).vI::Bb z.a2 z.c2 (pB Cf (M.rL Cf d).1).xQ::enL z.a3 z.c3 (pB Cf (M.rL Cf d).1).dD::Jp z.a4 z.c4 (pB Cf (M.rL Cf d).1).mZ::lnL z.a5 z.c5 (pB Cf (M.rL Cf d).1).mem::aE p8 0 (Yz z (pB Cf (M.rL Cf d).1))::bB G Cf m (M.rL Cf d).1::aE p2 0 (uC Cf pv wv ov vv)::L):=g
  refine zu (s:=pB Cf (M.rL Cf d).1) (z:=z) (p2:=p2) (p8:=p8) (pv:=pv) (wv:=wv) (ov:=ov) (vv:=vv) (L:=bB G Cf m (M.rL Cf d).1::L) hC k (fun h g=>bW ?_) _ 0 h (Nat.zero_add _) g.to
  refine aA4 (s:=pB Cf (M.rL Cf d).1) (z:=z) (p2:=p2) (p8:=p8) (pv:=pv) (wv:=wv) (ov:=ov) (vv:=vv) (L:=bB G Cf m (M.rL Cf d).1::L) k (fun h g=>bW ?_) _ 0 h (Nat.zero_add _) g
  have U:=Int.mul_le_mul (show 4*Cf.aD<=16 by omega) t.2 (by omega) (by omega)
  have B:=Int.mul_nonneg (show 0<=4*Cf.aD by omega) (show 0<=Cf.depth by omega)
  have H:=k.mZ
  have J:=k.mem
  have O:=k.wF
  refine aA (am p8 g rfl (bH (aA (aA (am p2 g (v:=I Cf.aD) rfl (uB (by omega) (aA (aA (am p2 g (v:=I Cf.depth) rfl (uB (by omega) (iM (aaa ?_))))))))))))
  refine aA (am p8 g rfl (bH (aA (aA (am p2 g (v:=I Cf.bM) rfl (uB (by omega) (aX (aaa ?_))))))))
  refine aA (am p8 g rfl (bH (aA (aA (am p2 g (v:=I Cf.bM) rfl (aX (aaa ?_)))))))
  exact bW (aac (E (i+1) _ h (by omega) j p g.to))
theorem Sl {ps:List (List Ins)} {ws os vs:List Int} {l:List Do} (n:ps.length<=9223372036854775807) (hG:Gb G) (k:Ob G 1 tW) (f:A.Y8 G pv wv ov vv ps ws os vs) (i:Eo G lv l) (a:Hs G h L)
  (g:∀j,Q (.bool true) j):Cl Pr K 6 [.agg ⟨uC Cf pv wv ov vv⟩,lv] h Q:=by
 refine cW (dL (cs:=uC Cf pv wv ov vv) a fun p2 h a=>an p2 a (l:=uC Cf pv wv ov vv) rfl rfl ?_)
 refine Z5 n f a (fun q h a=>bY (dY (dN ?_))) (fun h a=>bY (dY (bP (wU (g _)))))
 refine F1 i (iM (aT (fun _=>wU (g _)) (fun p=>bW (an p2 a (l:=uC Cf pv wv ov vv) rfl rfl ?_))))
 refine vT (Cf:=Cf) (by omega) hG k f a (fun d h a=>?_) fun d m h a=>?_
 .exact aG rfl (aG rfl (aX (bJ d (aX (bJ d (vN (dN (wU (g _)))))))))
 refine aG rfl (aG rfl (aX (aaa (cK (bP (bW ?_))))))
 obtain⟨hC,_⟩:=Ff d
 have hA:=R8 d
 exact aGh (L:=L) hC hG (by omega) i g l.length 0 _ h (by omega) hA.inv E8.new a
end
section
theorem Sv {α:Type} {f:Nat->α} {i:Nat}:cB f i (f i)=f:=by
 funext j;unfold cB;split;rename_i e;rw[e];rfl
set_option maxRecDepth 100000
variable {G:Bg} {h:AH} {L L':List HP} {Q:Value->AH->Prop} {Cf:bQ} {m N:Nat} {M:cX}
theorem F8 {x:MN} {q p hb mb fb:Nat} {t2 t91:Value} (hC:Cf.Ok) (hl:Nj Cf x) (S:∀i:Nat,(i:Int)<Cf.aD->(M.aR i).Ok) (V:∀i:Nat,(i:Int)<Cf.aD->Bd (M.cC i)) (X:∀i:Nat,(i:Int)<Cf.aD->(M.bT i).known.length<=100)
  (hk:∀lc lk lq a1 a2 a3 k c2 c3 h',lc.length=Cf.aD.toNat->lk.length=Cf.aD.toNat->lq.length=Cf.aD.toNat->
   Hs G h' (aE q 0 [pt p 0 0]::aE p 0 (qo Cf a1 a2 a3 Cf.aD.toNat k c2 c3 (pt hb 0 0) (pt mb 0 0) (pt fb 0 0))::Ug a1 k lc::Ot a2 c2 lk::Oo a3 c3 lq::iY mQ lc M.aR::iY (kK G Cf) lk M.cC::iY (kG Cf) lq M.bT::gD G Cf m x M::L)->Dd 24 4 [] Q [pt m 0 0,t2,pt q 0 0,t91] h'):
  ∀(f i:Nat) (lc lk lq:List Nat) (a1 a2 a3:Option Addr) (k c2 c3:Nat) (h:AH),i+f=Cf.aD.toNat->lc.length=i->lk.length=i->lq.length=i->
   Hs G h (aE q 0 [pt p 0 0]::aE p 0 (qo Cf a1 a2 a3 i k c2 c3 (pt hb 0 0) (pt mb 0 0) (pt fb 0 0))::Ug a1 k lc::Ot a2 c2 lk::Oo a3 c3 lq::iY mQ lc M.aR::iY (kK G Cf) lk M.cC::iY (kG Cf) lq M.bT::gD G Cf m x M::L)->
   Dd 24 2 [] Q [pt m 0 0,t2,pt q 0 0,I Cf.aD.toNat,I i,t91] h:=by
 have hc:=hC.1
 intro f
 induction f with
 |zero=>
  intro i lc lk lq a1 a2 a3 k c2 c3 h β h1 B D d
  obtain rfl:i=Cf.aD.toNat:=by omega
  exact bW (aI (aaa (hk _ _ _ _ _ _ _ _ _ _ h1 B D d)))
 |succ f ih=>
  intro i lc lk lq a1 a2 a3 k c2 c3 h β h1 B D d
  have E:(i:Int)<Cf.aD:=by omega
  have J:i<x.lc.length:=by have:=hl.1;omega
  have H:i<x.lk.length:=by have:=hl.2.1;omega
  have O:i<x.lq.length:=by have:=hl.2.2;omega
  obtain⟨_,d⟩:=fL (d.front (gD G Cf m x M))
  refine bW (aI (aad (bW (aS d fun rr h d=>?_))))
  refine am q d rfl (am q d rfl (aB (aA (am p d rfl (aB (aA (am m d rfl (Bt d J ?_))))))))
  have d:=eR (R:=mQ) (l:=x.lc) (s:=M.aR) J (d.front (iY mQ x.lc M.aR))
  refine Yo (i:=i) (p:=x.lc.getD i 0) (s:=M.aR i) (by have:=(S i E).2.2.2.1;omega) d fun Y h d=>?_
  have d:=Ay (l:=x.lc) (s:=M.aR) (i:=i) (t:=M.aR i) J d
  rw[Sv] at d
  subst h1
  refine aJ (c:=[pt Y 0 0]) rfl (gM (i:=13) (W:=1) (n:=1) (c:=1) d rfl rfl rfl rfl rfl fun b1 T g=>?_)
  refine Ai (l:=lc) (a:=a1) (c:=k) (e:=95) (q:=Y) (a2:=some b1) (c2:=1) (by omega) g fun r w U j=>aB (aA (ay (b:=p) (o:=0) j fun h d=>?_))
  refine bV (am q g rfl bX) (bV (am q j rfl bX) (bV (am q g rfl bX) (bV (aB bX) (bV (aA bX) (bV (am p g rfl Hr) ?_)))))
  clear g j
  refine aS d fun γ h d=>am q d rfl (am q d rfl (aB (aA (am p d rfl (aB (aA (am m d rfl (zE d H ?_))))))))
  have d:=eR (R:=kK G Cf) (l:=x.lk) (s:=M.cC) H (d.front (iY (kK G Cf) x.lk M.cC))
  refine C.Qf (c:=x.lk.getD lc.length 0) (core:=(lc.length:Int)) (s:=M.cC lc.length) hC (V _ E) d fun Z h d=>?_
  have d:=tO (G:=G) (Cf:=Cf) (l:=x.lk) (s:=M.cC) (i:=lc.length) (t:=M.cC lc.length) H d
  rw[Sv] at d
  refine aJ (c:=[pt Z 0 0]) rfl (gM (i:=13) (W:=1) (n:=1) (c:=1) d rfl rfl rfl rfl rfl fun b2 T g=>?_)
  rw[<-B]
  refine Ai (l:=lk) (a:=a2) (c:=c2) (e:=98) (q:=Z) (a2:=some b2) (c2:=1) (by omega) g fun u y U j=>aB (aA (ay (b:=p) (o:=0) j fun h d=>?_))
  rw[B]
  refine bV (am q g rfl bX) (bV (am q j rfl bX) (bV (am q g rfl bX) (bV (aB bX) (bV (aA bX) (bV (am p g rfl Hr) ?_)))))
  clear g j
  refine aS d fun δ h d=>am q d rfl (am q d rfl (aB (aA (am p d rfl (aB (aA (am m d rfl (zN d O ?_))))))))
  have d:=eR (R:=kG Cf) (l:=x.lq) (s:=M.bT) O (d.front (iY (kG Cf) x.lq M.bT))
  refine wY (C:=Cf) (p:=x.lq.getD lc.length 0) (s:=M.bT lc.length) (X _ E) d fun q3 h d=>?_
  have d:=qE (G:=G) (Cf:=Cf) (l:=x.lq) (s:=M.bT) (i:=lc.length) (t:=M.bT lc.length) O d
  rw[Sv] at d
  refine aJ (c:=[pt q3 0 0]) rfl (gM (i:=13) (W:=1) (n:=1) (c:=1) d rfl rfl rfl rfl rfl fun b3 T g=>?_)
  rw[<-D]
  refine Ai (l:=lq) (a:=a3) (c:=c3) (e:=101) (q:=q3) (a2:=some b3) (c2:=1) (by omega) g fun v A U j=>aB (aA (ay (b:=p) (o:=0) j fun h d=>?_))
  rw[D]
  refine bV (am q g rfl bX) (bV (am q j rfl bX) (bV (am q g rfl bX) (bV (aB bX) (bV (aA bX) (bV (am p g rfl Hr) ?_)))))
  clear g j
  have e5:dT (dT (dT (qo Cf a1 a2 a3 lc.length k c2 c3 (pt hb 0 0) (pt mb 0 0) (pt fb 0 0)) (0+7) [.slice r (lc.length+1) w]) (0+8) [.slice u (lk.length+1) y]) (0+9) [.slice v (lq.length+1) A]=qo Cf r u v (lc.length+1) w y A (pt hb 0 0) (pt mb 0 0) (pt fb 0 0):=by rw[B,D];rfl
  rw[e5] at d
  have d:=gV (G:=G) (Cf:=Cf) (m:=m) (x:=x) M hl d
  have d:=xM (R:=mQ) (l:=lc) (q:=Y) (s:=M.aR) (d.bL (jZ lc.length Y (M.aR lc.length)) (iY mQ lc M.aR))
  rw[<-B] at d
  have d:=xM (R:=kK G Cf) (l:=lk) (q:=Z) (s:=M.cC) (d.bL (C.gC G Z Cf lk.length (M.cC lk.length)) (iY (kK G Cf) lk M.cC))
  rw[B,<-D] at d
  have d:=xM (R:=kG Cf) (l:=lq) (q:=q3) (s:=M.bT) (d.bL (jE q3 Cf (M.bT lq.length)) (iY (kG Cf) lq M.bT))
  rw[D] at d
  exact aac (ih (lc.length+1) (lc++[Y]) (lk++[Z]) (lq++[q3]) r u v w y A h (by omega) (by simp) (by simp;omega) (by simp;omega) d.to)
end
section
set_option maxRecDepth 100000
variable {G:Bg} {h:AH} {L L':List HP} {Q:Value->AH->Prop} {Cf:bQ} {m N:Nat} {M:cX}
abbrev cyE (Cf:bQ) (y:MN) (z:Option Addr×Nat) (n:Nat):List Value:=eW Cf {y with al:=z.1,cl:=z.2} n
abbrev cyX (q p:Nat) (Cf:bQ) (y:MN) (e:Nat->Value) (d l:Nat) (done:List Ev):HP:=qV fun z:Option Addr×Nat=>sp [fM Pr 24 (fQ 250) 103 e d l (.ready,none),aE q 0 [pt p 0 0],aE p 0 (cyE Cf y z done.length),Bo z.1 z.2 done]
theorem ze {x y:MN} {q p:Nat} {t2 t91:Value} (j:M.log.length<=100000) (I:Nj Cf x) (J:Nj Cf y)
  (f:Hs G h (aE q 0 [pt p 0 0]::aE p 0 (cyE Cf y (none,0) 0)::Ug y.ac y.cc y.lc::Ot y.ak y.ck y.lk::Oo y.aq y.cq y.lq::iY mQ y.lc M.aR::iY (kK G Cf) y.lk M.cC::iY (kG Cf) y.lq M.bT::H.fO G y.hb Cf M.home::fD Cf y.mb M.dG::lI Cf y.fb M.iZ::gD G Cf m x M::L))
  (E:∀t,Hs G t (bB G Cf p M::bB G Cf m M::L)->Q (pt p 0 0) t):Dd 24 4 [] Q [pt m 0 0,t2,pt q 0 0,t91] h:=by
 obtain⟨_,f⟩:=fL (f.front (gD G Cf m x M))
 refine bW ?_
 refine cW (cK (bP (aB (aA (am m f rfl ?_)))))
 refine cW (dL f fun z h f=>iI f fun d h f=>?_)
 intro e D
 refine jL f fun l h f=>oB rfl ?_
 have f:=jB (enc:=Ev.enc) (e:=74) f
 have f:=(f.bL (aE z 0 [.slice x.al M.log.length x.cl]) (Bo x.al x.cl M.log)).yC
 have f:Hs G h (veR z x.al x.cl M.log::_):=f
 have f:=(f.gN (fM Pr 24 (fQ 250) 103 e d l (.ready,none)) (aE q 0 [pt p 0 0]) (aE p 0 (cyE Cf y (none,0) 0)) (Bo none 0 [])).E7
 have f:=Hs.oZ (A:=fun z:Option Addr×Nat=>sp [fM Pr 24 (fQ 250) 103 e d l (.ready,none),aE q 0 [pt p 0 0],aE p 0 (cyE Cf y z ([]:List Ev).length),Bo z.1 z.2 []]) (none,0) f
 have f:Hs G h (cyX q p Cf y e d l []::_):=f
 have f:=f.front (veR z x.al x.cl M.log)
 refine(aHm (q:=z) (a:=x.al) (c:=x.cl) (l:=M.log) j).fold (X:=fun done=>cyX q p Cf y e d l done) (Z:=fun _ _=>rN False) f ?_ ?_ ?_
 .intro done v h T u f;have B:done.length<100000:=by have:=u.length_le;simp at this;omega
  obtain⟨⟨a,c⟩,f⟩:=f.rS
  have f:=f.Zp
  refine rW (nX f) D (bN f fun p1 h f=>ax (b:=p1) f fun h f=>fG f fun h f=>aS f fun R h f=>?_)
  refine am q f rfl (am q f rfl (aB (aA (am p f rfl (an p1 f (l:=v.enc) rfl rfl (aJ (c:=v.enc) rfl (gM (i:=6) (W:=7) (n:=1) (c:=1) f rfl rfl rfl rfl rfl fun O h f=>?_)))))))
  have f:=mR (enc:=Ev.enc) (x:=v) f
  refine Iy (l:=done) (v:=v) (a:=a) (c:=c) (by omega) f fun k r h g=>aB (aA (ay (b:=p) (o:=0) g fun h f=>bV (am q g rfl bX) (gK f fun h f=> .inl ⟨rfl,?_⟩)))
  have f:Hs G h (fM Pr 24 (fQ 250) 103 e d l (.ready,none)::aE p 0 (cyE Cf y (k,r) (done++[v]).length)::_):=f
  have f:=(f.gN (fM Pr 24 (fQ 250) 103 e d l (.ready,none)) (aE q 0 [pt p 0 0]) (aE p 0 (cyE Cf y (k,r) (done++[v]).length)) (Bo k r (done++[v]))).E7
  exact(Hs.oZ (A:=fun z:Option Addr×Nat=>sp [fM Pr 24 (fQ 250) 103 e d l (.ready,none),aE q 0 [pt p 0 0],aE p 0 (cyE Cf y z (done++[v]).length),Bo z.1 z.2 (done++[v])]) (k,r) f).to
 .intro v h f;obtain⟨⟨a,c⟩,f⟩:=(f.front (cyX q p Cf y e d l M.log)).rS;have f:=f.Zp;have f:=(f.front (veR z x.al x.cl M.log)).Bn;refine jN f fun h f=>jR (am q f rfl (jW (f.front (mk d ())) fun h f=>iT (E _ ?_)));have f:=bI (G:=G) (Cf:=Cf) (m:=m) (x:=x) M I f;exact(bI (G:=G) (Cf:=Cf) (m:=p) (x:={y with al:=a,cl:=c}) M J f).to
 .intro done x v h u f;obtain⟨w,_⟩:=(f.front (rN False)).To;exact w.elim
theorem s7 (hC:Cf.Ok) (B:eN Cf N M) (hN:N<=100000) (g:Hs G h L) [mm:Has (bB G Cf m) L M L'] (hk:∀p U,Hs G U (bB G Cf p M::bB G Cf m M::L')->Q (pt p 0 0) U):Cl Pr K 24 [pt m 0 0] h Q:=by
 have hc:=hC.1;have Z:=B.log;obtain⟨x,S,g⟩:=cQ (mm.of g);refine cW (cK (bP (bW (aS g fun rr h0 r=>?_))));refine aB (aA (an m r (l:=Cf.enc) rfl rfl (aB (aA (am m r rfl ?_)))));refine H.Cq (C:=Cf) (hb:=x.hb) hC (B.home.h (by omega)) r fun d h8 u=>aB (aA (am m u rfl ?_));refine Bp (C:=Cf) (p:=x.mb) hC B.dG u fun j β k=>aB (aA (am m k rfl ?_));refine J1 (C:=Cf) (f:=x.fb) hC (cv.Np hC B.iZ.len) k fun a γ v=>?_;refine aJ (c:=qo Cf none none none 0 0 0 0 (pt d 0 0) (pt j 0 0) (pt a 0 0)) rfl (xL (i:=20) (n:=23) (D:=[]) v rfl rfl fun p δ w=>?_);refine kI (i:=21) (n:=23) (D:=[20]) w rfl rfl fun q ε t=>ax (b:=q) t fun I A=>?_;have E:nP (.agg ⟨Cf.enc⟩) (.agg ⟨Cf.enc⟩)=true:=oN (by simp[bQ.enc,iN]);refine bV bX (bV bX (bV bX (bV (aB bX) (bV (aB bX) (bV (aB bX) (bV (aA bX) (bV (aA bX) (bV (aA bX) ?_))))))));refine bV (an m u (l:=Cf.enc) rfl rfl E) (bV (an m k (l:=Cf.enc) rfl rfl E) (bV (an m t (l:=Cf.enc) rfl rfl E) ?_));refine bV bX (bV (aB bX) (bV (aA bX) (bV (am m r rfl bX) ?_)));refine bV bX (bV bX (bV (aB bX) (bV (aB bX) (bV (aA bX) (bV (aA bX) (bV (am m r rfl bX) (bV (am m u rfl bX) ?_)))))));clear g r u k v w t;refine aB (aA (am m A rfl (bH ?_)));rw[S.1];have g:=gV (G:=G) (Cf:=Cf) (m:=m) (x:=x) M S A;have g:=jB (enc:=pE) (e:=95) (jB (enc:=pE) (e:=98) (jB (enc:=pE) (e:=101) g));have g:=xE (R:=mQ) (s:=M.aR) (xE (R:=kK G Cf) (s:=M.cC) (xE (R:=kG Cf) (s:=M.bT) g));have g:Hs G I (aE q 0 [pt p 0 0]::aE p 0 (qo Cf none none none 0 0 0 0 (pt d 0 0) (pt j 0 0) (pt a 0 0))::Ug none 0 []::Ot none 0 []::Oo none 0 []::iY mQ [] M.aR::iY (kK G Cf) [] M.cC::iY (kG Cf) [] M.bT::gD G Cf m x M::H.fO G d Cf M.home::fD Cf j M.dG::lI Cf a M.iZ::L'):=g.to;refine F8 (x:=x) (q:=q) (p:=p) (hb:=d) (mb:=j) (fb:=a) (M:=M) (m:=m) hC S B.D7 (fun i T=>(B.I2 i T).bd (lG hC).2.2.2) (fun i T=>(B.uO i T).len hC) (fun lc lk lq a1 J a3 O c2 c3 h V X Y g=>?_) Cf.aD.toNat 0 [] [] [] none none none 0 0 0 I (by omega) rfl rfl rfl g;have e:qo Cf a1 J a3 Cf.aD.toNat O c2 c3 (pt d 0 0) (pt j 0 0) (pt a 0 0)=cyE Cf ⟨lc,lk,lq,a1,J,a3,none,O,c2,c3,0,d,j,a⟩ (none,0) 0:=by
  show _=Cf.enc++[.slice a1 lc.length O,.slice J lk.length c2,.slice a3 lq.length c3,pt d 0 0,pt j 0 0,pt a 0 0,.slice none 0 0];rw[V,X,Y];rfl
 rw[e] at g;exact ze (x:=x) (y:=⟨lc,lk,lq,a1,J,a3,none,O,c2,c3,0,d,j,a⟩) (q:=q) (p:=p) (m:=m) (M:=M) (by omega) S ⟨V,X,Y⟩ g.to fun h g=>hk p h g
end
section
set_option maxRecDepth 100000
variable {G:Bg} {h:AH} {L L':List HP} {Q:Value->AH->Prop} {Cf:bQ} {m m2 m3 N:Nat} {M:cX}
theorem Wl {p2:Nat} {pv wv ov vv r:Value} {n:List Do} {j:cX} (hC:Cf.Ok) (hG:Gb G) (A:n.length<=200) (q:Eo G r n) (p:eN Cf 400 j) (w:∀t,Q (.bool true) t):
  ∀(f i:Nat) (M:cX) (h:AH),i+f=n.length->eN Cf (400+2*i) M->Hs G h (bB G Cf m M::bB G Cf m3 j::bB G Cf m2 j::aE p2 0 (uC Cf pv wv ov vv)::L)->
   Dd 5 7 [] Q [r,pt p2 0 0,pt m 0 0,pt m2 0 0,pt m3 0 0,I i] h:=by
 intro f
 induction f with
 |zero=>
  intro i M h u k g
  refine bW (F1 q (aI (aaa (aA (aA (am p2 g (v:=I Cf.aD) rfl ?_))))))
  exact Mt (M:=j) (m:=m3) (m2:=m2) hC hG p (by omega) (g.bL (bB G Cf m3 j) (bB G Cf m2 j)) fun h g=>dN (kE (w _))
 |succ f y=>
  intro i M h u k g
  obtain⟨d,x,_⟩:=gU (l:=n) (i:=i) (by omega)
  have g:=Ar q g
  refine bW (F1 q (aI (aad (bW (au g (by decide) (Fm x) (aJ (c:=d.enc) rfl (dC (W:=4) (n:=1) (c:=1) g.tail rfl rfl rfl fun a h g=>?_)))))))
  exact Jx (M:=M) (m:=m) hC hG k (by omega) g fun h g=>aac (y (i+1) _ h (by omega) (Pz k hC) g)
theorem kq {p2:Nat} {pv wv ov vv lv t:Value} {l n:List Do} (hC:Cf.Ok) (hG:Gb G) (B:l.length<=200) (p:Eo G lv l) (y:n.length<=200) (q:Eo G t n) (x:∀u,Q (.bool true) u):
  ∀(f i:Nat) (M:cX) (h:AH),i+f=l.length->eN Cf (2*i) M->Hs G h (bB G Cf m M::bB G Cf m2 M::aE p2 0 (uC Cf pv wv ov vv)::L)->
   Dd 5 3 [] Q [lv,t,pt p2 0 0,pt m 0 0,pt m2 0 0,I i] h:=by
 intro f
 induction f with
 |zero=>
  intro i M h w k g
  have j:eN Cf 400 M:=k.mono (by omega)
  refine bW (F1 p (aI (aaa (bW ?_))))
  refine s7 (M:=M) (m:=m) hC j (by omega) g fun m3 h g=>cK (bP (aA (aA (am p2 g (v:=I Cf.aD) rfl ?_))))
  have g:=g.bL (bB G Cf m3 M) (bB G Cf m2 M)
  refine Mt (M:=M) (m:=m3) (m2:=m2) hC hG j (by omega) g fun h g=>bY (bP (bW ?_))
  exact Wl hC hG y q j x n.length 0 M h (by omega) j (g.cE (bB G Cf m M) (bB G Cf m3 M) (bB G Cf m2 M))
 |succ f A=>
  intro i M h w k g
  obtain⟨d,r,_⟩:=gU (l:=l) (i:=i) (by omega)
  have g:=Ar p g
  refine bW (F1 p (aI (aad (bW (au g (by decide) (Fm r) (aJ (c:=d.enc) rfl (dC (W:=4) (n:=1) (c:=1) g.tail rfl rfl rfl fun a h g=>?_)))))))
  refine Jx (M:=M) (m:=m) hC hG k (by omega) g fun h g=>?_
  have g:=Ar p g
  refine au g (by decide) (Fm r) (aJ (c:=d.enc) rfl (dC (W:=4) (n:=1) (c:=1) g.tail rfl rfl rfl fun a h g=>?_))
  have g:=g.bL (dI 4 62 (some a) 1 (1,d.enc)) (bB G Cf m2 M)
  exact Jx (M:=M) (m:=m2) hC hG k (by omega) g fun h g=>aac (A (i+1) _ h (by omega) (Pz k hC) (g.bL (bB G Cf m (M.rL Cf d).1) (bB G Cf m2 (M.rL Cf d).1)))
theorem Fa {pv wv ov vv lv q:Value} {ps:List (List Ins)} {ws os vs:List Int} {l n:List Do} (t:ps.length<=9223372036854775807) (hG:Gb G) (k:Ob G 1 tW) (d:A.Y8 G pv wv ov vv ps ws os vs) (p:Eo G lv l) (i:Eo G q n) (a:Hs G h L)
  (j:∀r,Q (.bool true) r):Cl Pr K 5 [.agg ⟨uC Cf pv wv ov vv⟩,lv,q] h Q:=by
 refine cW (dL (cs:=uC Cf pv wv ov vv) a fun p2 h a=>an p2 a (l:=uC Cf pv wv ov vv) rfl rfl ?_)
 refine Z5 t d a (fun w h a=>bY (dY (dN ?_))) (fun h a=>bY (dY (bP (kE (j _)))))
 refine F1 p (iM (aT (fun _=>kE (j _)) (fun u=>?_)))
 refine F1 i (iM (aT (fun _=>kE (j _)) (fun v=>bW (an p2 a (l:=uC Cf pv wv ov vv) rfl rfl ?_))))
 refine vT (Cf:=Cf) (by omega) hG k d a (fun g h a=>?_) fun g m h a=>?_
 .refine aG rfl (aG rfl (an p2 a (l:=uC Cf pv wv ov vv) rfl rfl ?_));refine vT (Cf:=Cf) (by omega) hG k d a (fun _ h a=>?_) fun f m h a=>(g f).elim;exact aG rfl (aG rfl (aX (bJ g (bG (bJ rfl (vN (dN (vN (dN (kE (j _)))))))))))
 refine aG rfl (aG rfl (an p2 a (l:=uC Cf pv wv ov vv) rfl rfl ?_))
 refine vT (Cf:=Cf) (by omega) hG k d a (fun f h a=>(f g).elim) fun _ m2 h a=>?_
 refine aG rfl (aG rfl (aX (aaa (aX (aaa (cK (bP (cK (bP (bW ?_))))))))))
 obtain⟨hC,_⟩:=Ff g
 have hA:=R8 g
 exact kq (m:=m) (m2:=m2) (L:=L) hC hG (by omega) p (by omega) i j l.length 0 _ h (by omega) hA.inv (a.bL (bB G Cf m (MC.new ⟨Cf,ps,ws,os,vs⟩)) (bB G Cf m2 (MC.new ⟨Cf,ps,ws,os,vs⟩)))
end
end Go.Proofs.YtmhapehobfnoiaaGreatDoor
end
